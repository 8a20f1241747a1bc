/- What the laws on disks share. -/
import Derived.Test.YtnlemjjigiphcaaDv
namespace Go.Proofs.Ytnlemjjigiphcaa
open Go.RowKit Go.ChangeShapes
set_option linter.unusedVariables false
set_option maxRecDepth 100000

/-- a disk of the call's own -/
structure Own (w0 w : World) (F : Nat → Prop) (B : Nat) (d : Dk) : Prop where
  dk : DiskAt F w B d
  lo : ∀ g, F g → w0.heap.size ≤ g
  bl : Below w0.heap.size w0 w
theorem Own.below {w0 w w' : World} {F : Nat → Prop} {B : Nat} {d : Dk} (h : Own w0 w F B d) (hb : Below w.heap.size w w') : Own w0 w' F B d := ⟨h.dk.below hb, h.lo, below2 h.bl hb⟩
theorem Own.off {w0 w w' : World} {F ex : Nat → Prop} {B : Nat} {d : Dk} (h : Own w0 w F B d) (ho : Off ex w w') (hn : ∀ g, F g → ¬ ex g) (he : ∀ g, ex g → w0.heap.size ≤ g) : Own w0 w' F B d := ⟨h.dk.off ho hn, h.lo, Off.below h.bl ho h.bl.size he⟩
theorem Own.turn {w0 w w' : World} {F : Nat → Prop} {B : Nat} {d d' : Dk} (h : Own w0 w F B d) (ht : Turn F B d' w w') : ∃ F', Own w0 w' F' B d' ∧ (∀ g, F' g → F g ∨ w.heap.size ≤ g) ∧ Off F w w' := by
  obtain ⟨F', h1, h2, h3, h4⟩ := ht
  refine ⟨F', ⟨h1, fun g hg => ?_, Off.below h.bl h4 h.bl.size h.lo⟩, h2, h4⟩
  rcases h2 g hg with h5 | h5
  · exact h.lo g h5
  · exact Nat.le_trans h.bl.size h5
/-! ### filling a row -/
theorem torn_set {a b : Sec} {k : Nat} {x : UInt8} (ha : a.length = 128) (hb : b.length = 128) (hk : a[k]? = some x) : (bys (torn k a b)).set k (.int .u8 (x.toNat : Int)) = bys (torn (k + 1) a b) := by
  have hkl : k < 128 := by rw [← ha]; exact (List.getElem?_eq_some_iff.1 hk).1
  unfold bys
  rw [← List.map_set]
  congr 1
  unfold torn
  have h1 : (a.take k).length = k := by simp; omega
  have h2 : b.drop k = b[k]'(by omega) :: b.drop (k + 1) := List.drop_eq_getElem_cons (by omega)
  rw [List.set_append_right _ _ (by omega), h1, Nat.sub_self, h2, List.set_cons_zero, List.take_add_one, hk]
  simp
/-- a row whose first k bytes are a's, the rest b's -/
def FillR (w : World) (A g c k : Nat) (a b : Sec) : Prop := w.ownsRow A 5 1 (.slice (some ⟨g, 0, none⟩) 128 c) 128 (bys (torn k a b))
theorem FillR.step {w : World} {A g c k : Nat} {a b : Sec} {x : UInt8} (h : FillR w A g c k a b) (ha : a.length = 128) (hb : b.length = 128) (hk : a[k]? = some x) : FillR (w.setCell ⟨g, k, none⟩ (.int .u8 (x.toNat : Int))) A g c (k + 1) a b := by
  have h1 := row_store h k (.int .u8 (x.toNat : Int))
  rw [torn_set ha hb hk] at h1
  exact h1
theorem FillR.start {w : World} (a : Sec) : FillR (w.alloc (.cells (bys zeros).toArray 5)) w.heap.size w.heap.size 128 0 a zeros := row_zeros w w.heap.size (Nat.le_refl _)
theorem FillR.done {w : World} {A g c : Nat} {a b : Sec} (h : FillR w A g c 128 a b) (ha : a.length = 128) (hb : b.length = 128) : w.ownsRow A 5 1 (.slice (some ⟨g, 0, none⟩) 128 c) 128 (bys a) := by
  unfold FillR at h
  rw [torn_all (by omega) (by omega)] at h
  exact h
theorem FillR.free {w : World} {A g c k : Nat} {a b : Sec} (h : FillR w A g c k a b) (j : Nat) : w.frozen? ⟨g, j, none⟩ = false := by
  obtain ⟨_, _, _, cs, hc⟩ := row_blk h
  simp [World.frozen?, hc]
theorem FillR.cell {w : World} {A g c k : Nat} {a b : Sec} (h : FillR w A g c k a b) (hb : b.length = 128) (ha : a.length = 128) (hk : k < 128) : ∃ v, w.cell? ⟨g, k, none⟩ = some v := by
  have h1 := h.1
  obtain ⟨x, hx⟩ : ∃ x, (bys (torn k a b))[k]? = some x := ⟨_, List.getElem?_eq_getElem (by omega)⟩
  exact ⟨x, (row_cell h k hx).2⟩
def rep (x : UInt8) : Sec := List.replicate 128 x
theorem rep_len (x : UInt8) : (rep x).length = 128 := by simp [rep]
theorem rep_get (x : UInt8) {k : Nat} (h : k < 128) : (rep x)[k]? = some x := by unfold rep; rw [List.getElem?_replicate, if_pos h]
theorem pick_eq (p : Int) : (pick p : Int) = p % 129 := by
  obtain ⟨f1, f2, f3, f4⟩ := tmod_facts p 129 (by decide)
  unfold pick
  omega
theorem c_within (x n : Int) (h1 : 0 < n) (h2 : n ≤ 1073741824) (w : World) : Calls Try.prog 13 #[.int .i64 x, .int .i64 n] w fun e w' => e = .returned (.int .i64 (x % n)) ∧ w = w' := by
  have hz : (n == 0) = false := by simp; omega
  obtain ⟨f1, f2, f3, f4⟩ := tmod_facts x n h1
  obtain ⟨t, ht⟩ : ∃ t, x.tmod n = t := ⟨_, rfl⟩
  rw [ht] at f1 f2 f3 f4
  by_cases h : t < 0
  · have H := Lib.hid (f3 h)
    clear f3 f4
    go_enter Try.func13, Try.ntmps13
    go_wp2
    go_ret
    exact ⟨by rw [H.out]; rfl, rfl⟩
  · have H := Lib.hid (f4 (by omega))
    clear f3 f4
    go_enter Try.func13, Try.ntmps13
    go_wp2
    go_ret
    exact ⟨by rw [H.out]; rfl, rfl⟩
theorem off_below {w0 w : World} {g j : Nat} {v : Value} (h : Below w0.heap.size w0 w) (hg : w0.heap.size ≤ g) : Below w0.heap.size w0 (w.setCell ⟨g, j, none⟩ v) := Off.below h (off1 w g j v) h.size (fun k hk => by omega)
/-- a slice of truths, wherever it lies -/
def BoAt (w : World) (v : Value) : Prop := ∃ (ad : Option Addr) (n c : Nat), v = .slice ad n c ∧ n ≤ c ∧ c ≤ maxLen ∧ ∀ k, k < n → ∃ g o, ∃ x : Bool, ad = some ⟨g, o, none⟩ ∧ g < w.heap.size ∧ w.cell? ⟨g, o + k, none⟩ = some (.bool x)
theorem one_it (w : World) (x : Int) : ItAt (w.alloc (.cells #[.int .i64 x] 3)) (.slice (some ⟨w.heap.size, 0, none⟩) 1 1) [x] :=
  ⟨_, 1, rfl, fun j y hj => by
    match j, hj with
    | 0, hj => cases hj; exact ⟨_, 0, rfl, cell_of_row _ _ 0 _ _ _ (heap_alloc_new w (.cells #[.int .i64 x] 3))⟩
    | (k + 1), hj => simp at hj⟩
theorem Wd.to {F : Nat → Prop} {B : Nat} {d d' : Dk} {n k : Int} {b : Sec} {w w' : World} {e : Ending} (h : Wd F B d n b w e w') (hE : writeR d n b = (d', k)) : e = .returned (.int .i64 k) ∧ Turn F B d' w w' := by
  unfold Wd at h
  rw [hE] at h
  exact h
theorem Fd.to {F : Nat → Prop} {B : Nat} {d d' : Dk} {k : Int} {w w' : World} {e : Ending} (h : Fd F B d w e w') (hE : flushR d = (d', k)) : e = .returned (.int .i64 k) ∧ Turn F B d' w w' := by
  unfold Fd at h
  rw [hE] at h
  exact h
theorem Rd.ok {d : Dk} {n : Int} {w w' : World} {e : Ending} {b : Sec} (h : Rd d n w e w') (hE : readE d n = 0) (hb : d.at n = b) (hl : b.length = 128) : ∃ g c, e = .returned (.tuple #[.slice (some ⟨g, 0, none⟩) 128 c, .int .i64 0]) ∧ w'.ownsRow w.heap.size 5 1 (.slice (some ⟨g, 0, none⟩) 128 c) 128 (bys b) ∧ Below w.heap.size w w' := by
  obtain ⟨v, rfl, h1, _, h3⟩ := h
  have h4 := h1 hE
  unfold RowB at h4
  rw [hb, hl] at h4
  obtain ⟨g, c, rfl⟩ := row_some h4 (by decide)
  exact ⟨g, c, by rw [hE], h4, h3⟩
theorem Rd.err {d : Dk} {n k : Int} {w w' : World} {e : Ending} (h : Rd d n w e w') (hE : readE d n = k) (hk : k ≠ 0) : e = .returned (.tuple #[.slice none 0 0, .int .i64 k]) ∧ Below w.heap.size w w' := by
  obtain ⟨v, rfl, _, h2, h3⟩ := h
  rw [h2 (by rw [hE]; exact hk), hE]
  exact ⟨rfl, h3⟩
theorem row_bt {w : World} {A g c : Nat} {b : Sec} (h : w.ownsRow A 5 1 (.slice (some ⟨g, 0, none⟩) 128 c) 128 (bys b)) (hb : b.length = 128) : BtAt w (.slice (some ⟨g, 0, none⟩) 128 c) b := by
  have h1 : RowB w A (.slice (some ⟨g, 0, none⟩) 128 c) b := by unfold RowB; rw [hb]; exact h
  exact h1.bt
theorem row_u8 {w : World} {A g c j : Nat} {b : Sec} {x : UInt8} (h : w.ownsRow A 5 1 (.slice (some ⟨g, 0, none⟩) 128 c) 128 (bys b)) (hj : b[j]? = some x) : w.cell? ⟨g, j, none⟩ = some (.int .u8 (x.toNat : Int)) := (row_cell h j (bys_get hj)).2
set_option maxHeartbeats 1000000 in
theorem c_known (w : World) : Calls Try.prog 8 #[] w fun e w' => e = .returned (.bool true) ∧ Below w.heap.size w w' := by
  have hmk := A.mk128
  go_enter Try.func8, Try.ntmps8
  go_wp2_with (first | (go_at_call 9; refine (c_New 2 w (by decide) (by decide)).mono ?_; rintro e w1 ⟨B, F, rfl, hD, hF, hb⟩; have O1 : Hid (Own w w1 F B (Dk.new 2)) := Lib.hid ⟨hD, hF, hb⟩; clear hD hF hb))
  obtain ⟨W, hW, R0, OW, hz⟩ : ∃ W, w1.alloc (.cells (bys zeros).toArray 5) = W ∧ Hid (FillR W w1.heap.size w1.heap.size 128 0 (rep 7) zeros) ∧ Hid (Own w W F B (Dk.new 2)) ∧ Hid (W.heap.size = w1.heap.size + 1) := ⟨_, rfl, Lib.hid (FillR.start (rep 7)), Lib.hid (O1.out.below (below_al0 _ _)), Lib.hid (by simp)⟩
  rw [hW]
  clear hW
  have hg1 : Hid (w.heap.size ≤ w1.heap.size) := Lib.hid O1.out.bl.size
  have hFg : Hid (∀ g, F g → g < w1.heap.size) := Lib.hid O1.out.dk.lt
  go_loopw [4] (fun kv wr => ∃ k : Nat, kv = .int .i64 k ∧ k ≤ 128 ∧ Hid (FillR wr w1.heap.size w1.heap.size 128 k (rep 7) zeros) ∧ Hid (Own w wr F B (Dk.new 2))) (fun kv _ => 128 - (intOf kv).toNat)
  case atStart => exact ⟨0, rfl, by omega, R0, OW⟩
  case round =>
    clear R0 OW
    obtain ⟨k, rfl, hk, R, O⟩ := hrel
    by_cases hlt : k < 128
    · have hlt' : (k : Int) < 128 := by omega
      obtain ⟨u, hu⟩ := R.out.cell zeros_len (rep_len 7) hlt
      have hf := R.out.free k
      go_wp2
      have R2 := Lib.hid (R.out.step (rep_len 7) zeros_len (rep_get 7 hlt))
      have O2 := Lib.hid (O.out.off (off1 wr w1.heap.size k (.int .u8 7)) (fun g hg e => by have := hFg.out g hg; omega) (fun g e => by have := hg1.out; omega))
      clear hu hf
      go_roundw
      case rel => exact ⟨k + 1, by go_num, by omega, R2, O2⟩
      case measure => simp [intOf]; omega
    · have hlt' : ¬ (k : Int) < 128 := by omega
      obtain rfl : k = 128 := by omega
      have RW := Lib.hid (R.out.done (rep_len 7) zeros_len)
      have hE : Hid (writeR (Dk.new 2) 1 (rep 7) = (⟨2, [], [(1, rep 7)], 0, false, wr64 1⟩, 0)) := Lib.hid rfl
      have hC : Hid ((⟨2, [], [(1, rep 7)], 0, false, wr64 1⟩ : Dk).crash [3] = ⟨2, [(1, torn 3 (rep 7) zeros)], [], 0, false, wr64 1⟩) := Lib.hid rfl
      go_wp2_with (first
        | (go_at_call 10; refine (c_Write wr B _ 1 _ (rep 7) O.out.dk ⟨by decide, by decide⟩ (row_bt RW.out (rep_len 7)) (by rw [rep_len]; decide)).mono ?_; rintro e w2 hwd; obtain ⟨rfl, ht⟩ := hwd.to hE.out; obtain ⟨F2, O2, hF2, ho2⟩ := O.out.turn ht; replace O2 := Lib.hid O2; clear hwd ht hF2 ho2)
        | (go_at_call 11; refine (c_Crash (w2.alloc (.cells #[.int .i64 3] 3)) B _ _ [3] (O2.out.below (below_al0 _ _)).dk (one_it w2 3) (by intro p hp; simp at hp; subst hp; exact ⟨by decide, by decide⟩) (by intro a n c h hF; cases h; exact Nat.lt_irrefl _ (O2.out.dk.lt _ hF)) (by decide)).mono ?_; rintro e w3 ⟨rfl, ht⟩; rw [hC.out] at ht; obtain ⟨F3, O3, hF3, ho3⟩ := (O2.out.below (below_al0 _ _)).turn ht; replace O3 := Lib.hid O3; clear ht hF3 ho3; rw [show (([((1 : Int), rep 7)] : AL).length : Int) = 1 from rfl])
        | (go_at_call 12; refine (c_Read w3 B _ 1 O3.out.dk ⟨by decide, by decide⟩).mono ?_; rintro e w4 hrd; obtain ⟨gx, cx, rfl, hx, hbx⟩ := hrd.ok rfl (b := torn 3 (rep 7) zeros) rfl (torn_len (rep_len 7) zeros_len (by decide)); replace hx := Lib.hid hx; replace hbx := Lib.hid hbx; clear hrd; have x2 : w4.cell? ⟨gx, 2, none⟩ = some (.int .u8 7) := row_u8 hx.out (x := 7) rfl; have x3 : w4.cell? ⟨gx, 3, none⟩ = some (.int .u8 0) := row_u8 hx.out (x := 0) rfl))
      go_ret
      exact ⟨rfl, (O3.out.below hbx.out).bl⟩
end Go.Proofs.Ytnlemjjigiphcaa
