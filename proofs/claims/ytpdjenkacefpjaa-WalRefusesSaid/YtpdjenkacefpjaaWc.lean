/- Contracts of package wal: place. -/
import Derived.Test.YtpdjenkacefpjaaWb
import Derived.IntWalk
namespace Go.Proofs.Ytpdjenkacefpjaa
open Go.RowKit Go.ChangeShapes
set_option linter.unusedVariables false
set_option maxRecDepth 100000

theorem andW_read {f g : WM} {d : Dk} : andW f g d = if (f d).2 = true then g (f d).1 else ((f d).1, false) := by
  unfold andW
  cases h : f d with
  | mk d' b => cases b <;> rfl
/-- a list of numbers, wherever it lies -/
theorem it_cell {w : World} {v : Value} {ps : List Int} (h : ItAt w v ps) {ad : Option Addr} {n c : Nat} (hv : v = .slice ad n c) : n = ps.length ∧ ∀ (k : Nat) (x : Int), ps[k]? = some x → ∃ g o, ad = some ⟨g, o, none⟩ ∧ g < w.heap.size ∧ w.cell? ⟨g, o + k, none⟩ = some (.int .i64 x) := by
  obtain ⟨ad', c', e, h1⟩ := h
  subst hv
  injection e with e1 e2 e3
  subst e1
  refine ⟨e2, fun k x hx => ?_⟩
  obtain ⟨g, o, e, hc⟩ := h1 k x hx
  refine ⟨g, o, e, ?_, hc⟩
  rcases Nat.lt_or_ge g w.heap.size with h | h
  · exact h
  · simp [World.cell?, Array.getElem?_eq_none h] at hc
/-- what a turn does to the blocks of a disk -/
structure Inn (F F' : Nat → Prop) (w w' : World) : Prop where
  out : ∀ g, F' g → F g ∨ w.heap.size ≤ g
  up : ∀ g, F g → F' g
  off : Off F w w'
theorem Inn.trans {F F1 F2 : Nat → Prop} {w w1 w2 : World} (h : Inn F F1 w w1) (k : Inn F1 F2 w1 w2) : Inn F F2 w w2 :=
  ⟨fun g hg => by
    rcases k.out g hg with e | e
    · exact h.out g e
    · exact .inr (Nat.le_trans h.off.size e), fun g hg => k.up g (h.up g hg), h.off.trans2 k.off (fun i hi hf => by
    rcases h.out i hf with e | e
    · exact e
    · omega)⟩
theorem Inn.refl (F : Nat → Prop) {w w' : World} (h : Below w.heap.size w w') : Inn F F w w' := ⟨fun g hg => .inl hg, fun g hg => hg, .of_below h⟩
theorem Inn.below {F F1 : Nat → Prop} {w w1 w2 : World} (h : Inn F F1 w w1) (k : Below w1.heap.size w1 w2) : Inn F F1 w w2 := h.trans (.refl F1 k)
theorem turn_inn {F : Nat → Prop} {B : Nat} {d : Dk} {w w' : World} (h : Turn F B d w w') : ∃ F', DiskAt F' w' B d ∧ Inn F F' w w' := by
  obtain ⟨F', h1, h2, h3, h4⟩ := h
  exact ⟨F', h1, h2, h3, h4⟩
theorem Inn.turn {F F' : Nat → Prop} {B : Nat} {d : Dk} {w w' : World} (h : Inn F F' w w') (hd : DiskAt F' w' B d) : Turn F B d w w' := ⟨F', hd, h.out, h.up, h.off⟩
theorem DiskAt.okd {F : Nat → Prop} {B : Nat} {d : Dk} {w : World} (h : DiskAt F w B d) : DOk d := h.choose_spec.choose_spec.choose_spec.choose_spec.ok
theorem wr_cases {d : Dk} (h : DOk d) (ha : d.dead = false) {s : Int} {b : Sec} (h0 : 0 ≤ s) (h1 : s < d.n) (hb : b.length = 128) : (∃ d', writeR d s b = (d', 0) ∧ d'.dead = false ∧ d'.n = d.n) ∨ ∃ d', writeR d s b = (d', 12) := by
  have ht : (d.there s && decide (b.length = 128)) = true := by unfold Dk.there; simp [h0, h1, hb]
  unfold writeR
  rw [if_neg (by rw [ha]; exact Bool.false_ne_true), if_pos ht]
  rcases spend_cases d h ha with ⟨_, e⟩ | ⟨_, l, o, _, e⟩
  · rw [e]
    exact .inr ⟨_, rfl⟩
  · rw [e]
    exact .inl ⟨_, rfl, ha, rfl⟩
theorem fl_cases {d : Dk} (h : DOk d) (ha : d.dead = false) : (∃ d', flushR d = (d', 0) ∧ d'.dead = false ∧ d'.n = d.n) ∨ ∃ d', flushR d = (d', 12) := by
  unfold flushR
  rw [if_neg (by rw [ha]; exact Bool.false_ne_true)]
  rcases spend_cases d h ha with ⟨_, e⟩ | ⟨_, l, o, _, e⟩
  · rw [e]
    exact .inr ⟨_, rfl⟩
  · rw [e]
    exact .inl ⟨_, rfl, ha, rfl⟩
theorem fl_ok {d d' : Dk} (h : flushR d = (d', 0)) : flW d = (d', true) := by unfold flW; rw [h]; rfl
theorem fl_no {d d' : Dk} (h : flushR d = (d', 12)) : flW d = (d', false) := by unfold flW; rw [h]; rfl
theorem wr_ok {d d' : Dk} {s : Int} {b : Sec} (h : writeR d s b = (d', 0)) : wrW s b d = (d', true) := by unfold wrW; rw [h]; rfl
theorem wr_no {d d' : Dk} {s : Int} {b : Sec} (h : writeR d s b = (d', 12)) : wrW s b d = (d', false) := by unfold wrW; rw [h]; rfl
theorem LgAt.off {ex : Nat → Prop} {w w' : World} {L B : Nat} {q : Int} {dd : Bool} (h : LgAt w L B q dd) (ho : Off ex w w') (hn : ¬ ex L) : LgAt w' L B q dd := ho.keeps h hn
/-- what place leaves -/
def Pl (F : Nat → Prop) (B : Nat) (d : Dk) (l : List Int) (w : World) (e : Ending) (w' : World) : Prop := ∃ d' ok, placeW l 0 d = (d', ok) ∧ (ok = true → e = .returned (.tuple #[]) ∧ d'.dead = false ∧ d'.n = d.n) ∧ (ok = false → e = .panicked died) ∧ Turn F B d' w w'
theorem placeW_cons (x : Int) (r : List Int) (k : Nat) (d : Dk) : placeW (x :: r) k d = andW (wrW x (d.at (2 + k))) (placeW r (k + 1)) d := rfl
theorem drop_at {l : List Int} {k : Nat} {x : Int} (h : l[k]? = some x) : l.drop k = x :: l.drop (k + 1) := by
  obtain ⟨hk, e⟩ := List.getElem?_eq_some_iff.1 h
  rw [List.drop_eq_getElem_cons hk, e]
set_option maxHeartbeats 2000000 in
theorem c_place {F : Nat → Prop} (w : World) (L B : Nat) (q sq : Int) (dd : Bool) (d : Dk) (vl : Value) (l : List Int) (hl : LgAt w L B q dd) (hL : ¬ F L) (h : DiskAt F w B d) (hal : d.dead = false) (hn : 42 ≤ d.n) (hv : ItAt w vl l) (hvF : ∀ a n c, vl = .slice (some a) n c → ¬ F a.block) (hll : l.length ≤ 40) (hin : ∀ x ∈ l, 0 ≤ x ∧ x < d.n) : Calls Try.prog 29 #[.pointer (some ⟨L, 0, none⟩), .agg #[.int .i64 sq, vl]] w (Pl F B d l w) := by
  obtain ⟨ad, n, c, hvq⟩ : ∃ ad n c, vl = .slice ad n c := by obtain ⟨ad, c, e, _⟩ := hv; exact ⟨ad, _, c, e⟩
  subst hvq
  obtain ⟨hnl, hcl⟩ := it_cell hv rfl
  subst hnl
  have D0 : Hid (DiskAt F w B d) := Lib.hid h
  have HL := Lib.hid hl
  have HN := Lib.hid (And.intro hal hn)
  have HI := Lib.hid hin
  have HC := Lib.hid hcl
  have HF := Lib.hid hvF
  have HLF := Lib.hid hL
  clear hl h hal hn hin hcl hvF hv hL
  go_enter Try.func29, Try.ntmps29
  go_wp2_with fail
  obtain ⟨W, hW, HW⟩ : ∃ W, w.alloc (.cells #[.int .i64 sq, .slice ad l.length c] 67) = W ∧ Hid (Below w.heap.size w W) := ⟨_, rfl, Lib.hid (below_al0 _ _)⟩
  rw [hW]
  clear hW
  have R0 : Hid (∃ F1 dk, DiskAt F1 W B dk ∧ Inn F F1 w W ∧ placeW l 0 d = placeW (l.drop 0) 0 dk ∧ dk.dead = false ∧ dk.n = d.n) := Lib.hid ⟨F, d, D0.out.below HW.out, .refl F HW.out, rfl, HN.out.1, rfl⟩
  go_loopw [9] (fun kv wr => ∃ k : Nat, kv = .int .i64 k ∧ k ≤ l.length ∧ Hid (∃ F1 dk, DiskAt F1 wr B dk ∧ Inn F F1 w wr ∧ placeW l 0 d = placeW (l.drop k) k dk ∧ dk.dead = false ∧ dk.n = d.n)) (fun kv _ => l.length - (intOf kv).toNat)
  case atStart => exact ⟨0, rfl, by omega, R0⟩
  case round =>
    clear R0
    obtain ⟨k, rfl, hk, HR⟩ := hrel
    obtain ⟨F1, dk, D1, I1, hP, ha, hdn⟩ := HR.out
    replace D1 := Lib.hid D1
    replace I1 := Lib.hid I1
    replace hP := Lib.hid hP
    replace ha := Lib.hid ha
    replace hdn := Lib.hid hdn
    clear HR
    by_cases hlt : k < l.length
    · have hlt' : (k : Int) < (l.length : Int) := by omega
      obtain ⟨x, hx⟩ : ∃ x, l[k]? = some x := ⟨_, List.getElem?_eq_getElem hlt⟩
      obtain ⟨g, o, rfl, hg, hc⟩ := HC.out k x hx
      have hxr := Lib.hid (HI.out x (List.mem_of_getElem? hx))
      have HG : Hid (LgAt wr L B q dd) := Lib.hid (HL.out.off I1.out.off HLF.out)
      have cx : wr.cell? ⟨g, o + k, none⟩ = some (.int .i64 x) := off_cell I1.out.off hc (show ¬ F g from HF.out ⟨g, o, none⟩ _ _ rfl)
      have hat : Hid ((dk.at (2 + (k : Int))).length = 128) := Lib.hid (D1.out.okd.atLen _)
      have hdn1 : Hid (d.n ≤ 4096) := Lib.hid (by rw [← hdn.out]; exact D1.out.okd.n1)
      have hrE : Hid (readE dk (2 + (k : Int)) = 0) := Lib.hid (by
        have := HN.out.2
        have := hdn.out
        unfold readE
        rw [if_neg (by rw [ha.out]; exact Bool.false_ne_true), if_pos (by unfold Dk.there; simp; omega)])
      have hz : IntKind.i64.wrap (2 + (k : Int)) = 2 + (k : Int) := IntWalk.i64_in _ (by omega)
      have hds := Lib.hid (drop_at hx)
      rcases wr_cases D1.out.okd ha.out hxr.out.1 (by rw [hdn.out]; exact hxr.out.2) hat.out with ⟨d', hE, hd1, hd2⟩ | ⟨d', hE⟩
      · have hR : Hid (placeW l 0 d = placeW (l.drop (k + 1)) (k + 1) d') := Lib.hid (by rw [hP.out, hds.out, placeW_cons, andW_ok (wr_ok hE)])
        have hA : Hid (d'.dead = false ∧ d'.n = d.n) := Lib.hid ⟨hd1, hd2.trans hdn.out⟩
        replace hE := Lib.hid hE
        replace hx := Lib.hid hx
        clear hd1 hd2 hg hc
        go_wp2_with fail
        refine wp_region_held_drew (S := fun w' => w'.cell? ⟨L, 0, none⟩ = some (.pointer (some ⟨B, 0, none⟩))) (by kernel_rfl) ?_ (fun hHeld => ?_)
        · exact HG.out.cell.1
        refine wpAnyH_take (i := 0) (oi := ⟨_, _, _, _, _, _⟩) (v := ?_) rfl (by kernel_rfl) (by kernel_rfl) (by kernel_rfl) (fun _ _ _ h => h) (Or.inl ⟨by rfl, ?_⟩) (by assumption) ?_
        rotate_left
        · intro w hSw; (try dsimp only at hSw); go_simp; (try with_reducible rfl)
        try simp only [Act.put, List.setIfInBounds_toArray, List.set_cons_zero, List.set_cons_succ]
        refine wpAnyH_take (i := 1) (oi := ⟨_, _, _, _, _, _⟩) (v := ?_) rfl (by kernel_rfl) (by kernel_rfl) (by kernel_rfl) (fun _ _ _ h => h) (Or.inl ⟨by rfl, ?_⟩) (by assumption) ?_
        rotate_left
        · intro w hSw; (try dsimp only at hSw); go_simp; (try with_reducible rfl)
        try simp only [Act.put, List.setIfInBounds_toArray, List.set_cons_zero, List.set_cons_succ]
        refine wpAnyH_take (i := 2) (oi := ⟨_, _, _, _, _, _⟩) (v := ?_) rfl (by kernel_rfl) (by kernel_rfl) (by kernel_rfl) (fun _ _ _ h => h) (Or.inl ⟨by rfl, ?_⟩) (by assumption) ?_
        rotate_left
        · intro w hSw; (try dsimp only at hSw); go_simp; (try with_reducible rfl)
        try simp only [Act.put, List.setIfInBounds_toArray, List.set_cons_zero, List.set_cons_succ]
        refine wpAnyH_take (i := 3) (oi := ⟨_, _, _, _, _, _⟩) (v := ?_) rfl (by kernel_rfl) (by kernel_rfl) (by kernel_rfl) (fun _ _ _ h => h) (Or.inl ⟨by rfl, ?_⟩) (by assumption) ?_
        rotate_left
        · intro w hSw; (try dsimp only at hSw); go_simp; (try with_reducible rfl)
        try simp only [Act.put, List.setIfInBounds_toArray, List.set_cons_zero, List.set_cons_succ]
        refine wpAnyH_take (i := 4) (oi := ⟨_, _, _, _, _, _⟩) (v := ?_) rfl (by kernel_rfl) (by kernel_rfl) (by kernel_rfl) (fun _ _ _ h => h) (Or.inl ⟨by rfl, ?_⟩) (by assumption) ?_
        rotate_left
        · intro w hSw; (try dsimp only at hSw); go_simp; (try with_reducible rfl)
        try simp only [Act.put, List.setIfInBounds_toArray, List.set_cons_zero, List.set_cons_succ]
        refine wpAnyH_take (i := 5) (oi := ⟨_, _, _, _, _, _⟩) (v := ?_) rfl (by kernel_rfl) (by kernel_rfl) (by kernel_rfl) (fun _ _ _ h => h) (Or.inl ⟨by rfl, ?_⟩) (by assumption) ?_
        rotate_left
        · intro w hSw; (try dsimp only at hSw); go_simp; (try with_reducible rfl)
        try simp only [Act.put, List.setIfInBounds_toArray, List.set_cons_zero, List.set_cons_succ]
        refine wpAnyH_take (i := 6) (oi := ⟨_, _, _, _, _, _⟩) (v := ?_) rfl (by kernel_rfl) (by kernel_rfl) (by kernel_rfl) (fun _ _ _ h => h) (Or.inl ⟨by rfl, ?_⟩) (by assumption) ?_
        rotate_left
        · intro w hSw; (try dsimp only at hSw); go_simp; (try with_reducible rfl)
        try simp only [Act.put, List.setIfInBounds_toArray, List.set_cons_zero, List.set_cons_succ]
        refine wpAnyH_take (i := 7) (oi := ⟨_, _, _, _, _, _⟩) (v := ?_) rfl (by kernel_rfl) (by kernel_rfl) (by kernel_rfl) (fun _ _ _ h => h) (Or.inl ⟨by rfl, ?_⟩) (by assumption) ?_
        rotate_left
        · intro w hSw; (try dsimp only at hSw); go_simp; (try with_reducible rfl)
        try simp only [Act.put, List.setIfInBounds_toArray, List.set_cons_zero, List.set_cons_succ]
        refine wpAnyH_ready (rs := [8]) (by kernel_rfl) (by simp) (AllReadyH.cons (o := ⟨_, _, _, _, _, _⟩) rfl (fun K hK => ?_) AllReadyH.nil)
        go_simp
        refine (c_take wr.drew L B q dd dk (2 + (k : Int)) HG.out (D1.out.below (below_drew (Below.refl _ _))) ⟨by omega, by omega⟩ hrE.out).mono ?_
        rintro e w5 ⟨g5, c5, rfl, hx5, hb5⟩
        replace hx5 := Lib.hid hx5
        have B5 : Hid (Below wr.heap.size wr w5) := Lib.hid (below2 (below_drew (Below.refl _ _)) hb5)
        clear hb5
        have G5 : Hid (LgAt w5 L B q dd) := Lib.hid (HG.out.off (.of_below (ex := fun _ => False) B5.out) (fun h => h))
        go_wp2_with fail
        refine hK.out _ _ ?_ (fun hHeld => ?_)
        · exact G5.out.cell.1
        clear hK K
        try simp only [Act.put, List.setIfInBounds_toArray, List.set_cons_zero, List.set_cons_succ]
        refine wpAnyH_ready (rs := [9]) (by kernel_rfl) (by simp) (AllReadyH.cons (o := ⟨_, _, _, _, _, _⟩) rfl (fun K hK => ?_) AllReadyH.nil)
        go_simp
        refine (c_Write w5 B dk x _ _ (D1.out.below B5.out) ⟨by have := hxr.out; omega, by have := hxr.out; have := hdn1.out; omega⟩ (row_bt hx5.out hat.out) (by rw [hat.out]; decide)).mono ?_
        rintro e w6 hwd
        obtain ⟨rfl, ht⟩ := hwd.to hE.out
        obtain ⟨F6, D6, I6⟩ := turn_inn ht
        replace D6 := Lib.hid D6
        replace I6 := Lib.hid ((I1.out.below B5.out).trans I6)
        have G6 : Hid (LgAt w6 L B q dd) := Lib.hid (HL.out.off I6.out.off HLF.out)
        clear hwd ht
        go_wp2_with fail
        refine hK.out _ _ ?_ (fun hHeld => ?_)
        · exact G6.out.cell.1
        clear hK K
        try simp only [Act.put, List.setIfInBounds_toArray, List.set_cons_zero, List.set_cons_succ]
        refine wpAnyH_ready (rs := [10]) (by kernel_rfl) (by simp) (AllReadyH.cons (o := ⟨_, _, _, _, _, _⟩) rfl (fun K hK => ?_) AllReadyH.nil)
        go_simp
        refine (c_must_ok w6).mono ?_
        rintro e w7 ⟨rfl, rfl⟩
        go_wp2_with fail
        refine hK.out _ _ ?_ (fun hHeld => ?_)
        · exact G6.out.cell.1
        clear hK K
        try simp only [Act.put, List.setIfInBounds_toArray, List.set_cons_zero, List.set_cons_succ]
        refine wpAnyH_done (by kernel_rfl) ?_ _
        go_wp2
        clear hz cx
        go_roundw
        case rel => exact ⟨k + 1, by go_num, by omega, Lib.hid ⟨F6, d', D6.out, I6.out, hR.out, hA.out⟩⟩
        case measure => simp [intOf]; omega
      · have hR : Hid (placeW l 0 d = (d', false)) := Lib.hid (by rw [hP.out, hds.out, placeW_cons, andW_no (wr_no hE)])
        replace hE := Lib.hid hE
        replace hx := Lib.hid hx
        clear hg hc
        go_wp2_with fail
        refine wp_region_held_drew (S := fun w' => w'.cell? ⟨L, 0, none⟩ = some (.pointer (some ⟨B, 0, none⟩))) (by kernel_rfl) ?_ (fun hHeld => ?_)
        · exact HG.out.cell.1
        refine wpAnyH_take (i := 0) (oi := ⟨_, _, _, _, _, _⟩) (v := ?_) rfl (by kernel_rfl) (by kernel_rfl) (by kernel_rfl) (fun _ _ _ h => h) (Or.inl ⟨by rfl, ?_⟩) (by assumption) ?_
        rotate_left
        · intro w hSw; (try dsimp only at hSw); go_simp; (try with_reducible rfl)
        try simp only [Act.put, List.setIfInBounds_toArray, List.set_cons_zero, List.set_cons_succ]
        refine wpAnyH_take (i := 1) (oi := ⟨_, _, _, _, _, _⟩) (v := ?_) rfl (by kernel_rfl) (by kernel_rfl) (by kernel_rfl) (fun _ _ _ h => h) (Or.inl ⟨by rfl, ?_⟩) (by assumption) ?_
        rotate_left
        · intro w hSw; (try dsimp only at hSw); go_simp; (try with_reducible rfl)
        try simp only [Act.put, List.setIfInBounds_toArray, List.set_cons_zero, List.set_cons_succ]
        refine wpAnyH_take (i := 2) (oi := ⟨_, _, _, _, _, _⟩) (v := ?_) rfl (by kernel_rfl) (by kernel_rfl) (by kernel_rfl) (fun _ _ _ h => h) (Or.inl ⟨by rfl, ?_⟩) (by assumption) ?_
        rotate_left
        · intro w hSw; (try dsimp only at hSw); go_simp; (try with_reducible rfl)
        try simp only [Act.put, List.setIfInBounds_toArray, List.set_cons_zero, List.set_cons_succ]
        refine wpAnyH_take (i := 3) (oi := ⟨_, _, _, _, _, _⟩) (v := ?_) rfl (by kernel_rfl) (by kernel_rfl) (by kernel_rfl) (fun _ _ _ h => h) (Or.inl ⟨by rfl, ?_⟩) (by assumption) ?_
        rotate_left
        · intro w hSw; (try dsimp only at hSw); go_simp; (try with_reducible rfl)
        try simp only [Act.put, List.setIfInBounds_toArray, List.set_cons_zero, List.set_cons_succ]
        refine wpAnyH_take (i := 4) (oi := ⟨_, _, _, _, _, _⟩) (v := ?_) rfl (by kernel_rfl) (by kernel_rfl) (by kernel_rfl) (fun _ _ _ h => h) (Or.inl ⟨by rfl, ?_⟩) (by assumption) ?_
        rotate_left
        · intro w hSw; (try dsimp only at hSw); go_simp; (try with_reducible rfl)
        try simp only [Act.put, List.setIfInBounds_toArray, List.set_cons_zero, List.set_cons_succ]
        refine wpAnyH_take (i := 5) (oi := ⟨_, _, _, _, _, _⟩) (v := ?_) rfl (by kernel_rfl) (by kernel_rfl) (by kernel_rfl) (fun _ _ _ h => h) (Or.inl ⟨by rfl, ?_⟩) (by assumption) ?_
        rotate_left
        · intro w hSw; (try dsimp only at hSw); go_simp; (try with_reducible rfl)
        try simp only [Act.put, List.setIfInBounds_toArray, List.set_cons_zero, List.set_cons_succ]
        refine wpAnyH_take (i := 6) (oi := ⟨_, _, _, _, _, _⟩) (v := ?_) rfl (by kernel_rfl) (by kernel_rfl) (by kernel_rfl) (fun _ _ _ h => h) (Or.inl ⟨by rfl, ?_⟩) (by assumption) ?_
        rotate_left
        · intro w hSw; (try dsimp only at hSw); go_simp; (try with_reducible rfl)
        try simp only [Act.put, List.setIfInBounds_toArray, List.set_cons_zero, List.set_cons_succ]
        refine wpAnyH_take (i := 7) (oi := ⟨_, _, _, _, _, _⟩) (v := ?_) rfl (by kernel_rfl) (by kernel_rfl) (by kernel_rfl) (fun _ _ _ h => h) (Or.inl ⟨by rfl, ?_⟩) (by assumption) ?_
        rotate_left
        · intro w hSw; (try dsimp only at hSw); go_simp; (try with_reducible rfl)
        try simp only [Act.put, List.setIfInBounds_toArray, List.set_cons_zero, List.set_cons_succ]
        refine wpAnyH_ready (rs := [8]) (by kernel_rfl) (by simp) (AllReadyH.cons (o := ⟨_, _, _, _, _, _⟩) rfl (fun K hK => ?_) AllReadyH.nil)
        go_simp
        refine (c_take wr.drew L B q dd dk (2 + (k : Int)) HG.out (D1.out.below (below_drew (Below.refl _ _))) ⟨by omega, by omega⟩ hrE.out).mono ?_
        rintro e w5 ⟨g5, c5, rfl, hx5, hb5⟩
        replace hx5 := Lib.hid hx5
        have B5 : Hid (Below wr.heap.size wr w5) := Lib.hid (below2 (below_drew (Below.refl _ _)) hb5)
        clear hb5
        have G5 : Hid (LgAt w5 L B q dd) := Lib.hid (HG.out.off (.of_below (ex := fun _ => False) B5.out) (fun h => h))
        go_wp2_with fail
        refine hK.out _ _ ?_ (fun hHeld => ?_)
        · exact G5.out.cell.1
        clear hK K
        try simp only [Act.put, List.setIfInBounds_toArray, List.set_cons_zero, List.set_cons_succ]
        refine wpAnyH_ready (rs := [9]) (by kernel_rfl) (by simp) (AllReadyH.cons (o := ⟨_, _, _, _, _, _⟩) rfl (fun K hK => ?_) AllReadyH.nil)
        go_simp
        refine (c_Write w5 B dk x _ _ (D1.out.below B5.out) ⟨by have := hxr.out; omega, by have := hxr.out; have := hdn1.out; omega⟩ (row_bt hx5.out hat.out) (by rw [hat.out]; decide)).mono ?_
        rintro e w6 hwd
        obtain ⟨rfl, ht⟩ := hwd.to hE.out
        obtain ⟨F6, D6, I6⟩ := turn_inn ht
        replace D6 := Lib.hid D6
        replace I6 := Lib.hid ((I1.out.below B5.out).trans I6)
        have G6 : Hid (LgAt w6 L B q dd) := Lib.hid (HL.out.off I6.out.off HLF.out)
        clear hwd ht
        go_wp2_with fail
        refine hK.out _ _ ?_ (fun hHeld => ?_)
        · exact G6.out.cell.1
        clear hK K
        try simp only [Act.put, List.setIfInBounds_toArray, List.set_cons_zero, List.set_cons_succ]
        refine wpAnyH_ready (rs := [10]) (by kernel_rfl) (by simp) (AllReadyH.cons (o := ⟨_, _, _, _, _, _⟩) rfl (fun K hK => ?_) AllReadyH.nil)
        go_simp
        refine (c_must_no w6).mono ?_
        rintro e w7 ⟨rfl, rfl⟩
        exact ⟨rfl, d', false, hR.out, fun h => (by cases h), fun _ => rfl, I6.out.turn D6.out⟩
    · have hlt' : ¬ (k : Int) < (l.length : Int) := by omega
      have c0 : wr.cell? ⟨L, 0, none⟩ = some (.pointer (some ⟨B, 0, none⟩)) := (HL.out.off I1.out.off HLF.out).cell.1
      have hds : Hid (l.drop k = []) := Lib.hid (List.drop_eq_nil_of_le (by omega))
      rcases fl_cases D1.out.okd ha.out with ⟨d', hE, hd1, hd2⟩ | ⟨d', hE⟩
      · have hR : Hid (placeW l 0 d = (d', true)) := Lib.hid (by rw [hP.out, hds.out]; exact fl_ok hE)
        have hA : Hid (d'.dead = false ∧ d'.n = d.n) := Lib.hid ⟨hd1, hd2.trans hdn.out⟩
        replace hE := Lib.hid hE
        clear hd1 hd2
        go_wp2_with (first
          | (go_at_call 35; refine (c_Flush wr B dk D1.out).mono ?_; rintro e w2 hfd; obtain ⟨rfl, ht⟩ := hfd.to hE.out; obtain ⟨F2, D2, I2⟩ := turn_inn ht; replace D2 := Lib.hid D2; replace I2 := Lib.hid (I1.out.trans I2); clear hfd ht)
          | (go_at_call 32; refine (c_must_ok w2).mono ?_; rintro e w3 ⟨rfl, rfl⟩))
        go_end0
        exact ⟨d', true, hR.out, fun _ => ⟨rfl, hA.out⟩, fun h => (by cases h), I2.out.turn D2.out⟩
      · have hR : Hid (placeW l 0 d = (d', false)) := Lib.hid (by rw [hP.out, hds.out]; exact fl_no hE)
        replace hE := Lib.hid hE
        go_wp2_with (first
          | (go_at_call 35; refine (c_Flush wr B dk D1.out).mono ?_; rintro e w2 hfd; obtain ⟨rfl, ht⟩ := hfd.to hE.out; obtain ⟨F2, D2, I2⟩ := turn_inn ht; replace D2 := Lib.hid D2; replace I2 := Lib.hid (I1.out.trans I2); clear hfd ht)
          | (go_at_call 32; refine (c_must_no w2).mono ?_; rintro e w3 ⟨rfl, rfl⟩))
        exact ⟨rfl, d', false, hR.out, fun h => (by cases h), fun _ => rfl, I2.out.turn D2.out⟩
end Go.Proofs.Ytpdjenkacefpjaa
