/- What the laws on logs share. -/
import Derived.Test.YtpdjenkacefpjaaWn
import Derived.Test.YtpdjenkacefpjaaWr
namespace Go.Proofs.Ytpdjenkacefpjaa
open Go.RowKit Go.ChangeShapes
set_option linter.unusedVariables false
set_option maxRecDepth 100000

/-- a log at rest, made by the call that began at w0 -/
structure Sys (N : Int) (q : Nat) (σ : Int → Sec) (w0 w : World) (F : Nat → Prop) (L B : Nat) (d : Dk) : Prop where
  lg : Lg N q σ d
  own : Own w0 w F B d
  at_ : LgAt w L B q false
  nL : ¬ F L
  loL : w0.heap.size ≤ L
theorem Sys.below {N : Int} {q : Nat} {σ : Int → Sec} {w0 w w' : World} {F : Nat → Prop} {L B : Nat} {d : Dk} (h : Sys N q σ w0 w F L B d) (hb : Below w.heap.size w w') : Sys N q σ w0 w' F L B d :=
  ⟨h.lg, h.own.below hb, h.at_.off (.of_below (ex := fun _ => False) hb) (fun h => h), h.nL, h.loL⟩
theorem Sys.off {N : Int} {q : Nat} {σ : Int → Sec} {w0 w w' : World} {F ex : Nat → Prop} {L B : Nat} {d : Dk} (h : Sys N q σ w0 w F L B d) (ho : Off ex w w') (h1 : ∀ g, F g → ¬ ex g) (h2 : ¬ ex L) (h3 : ∀ g, ex g → w0.heap.size ≤ g) : Sys N q σ w0 w' F L B d :=
  ⟨h.lg, h.own.off ho h1 h3, h.at_.off ho h2, h.nL, h.loL⟩
theorem Own.inn {w0 w w' : World} {F F' : Nat → Prop} {B : Nat} {d d' : Dk} (h : Own w0 w F B d) (hd : DiskAt F' w' B d') (hi : Inn F F' w w') : Own w0 w' F' B d' :=
  ⟨hd, fun g hg => (hi.out g hg).elim (h.lo g) (fun h1 => Nat.le_trans h.bl.size h1), Off.below h.bl hi.off h.bl.size h.lo⟩
theorem Own.inl {w0 w w' : World} {F F' : Nat → Prop} {L B : Nat} {d d' : Dk} (h : Own w0 w F B d) (hL : w0.heap.size ≤ L) (hd : DiskAt F' w' B d') (hi : InL L F F' w w') : Own w0 w' F' B d' :=
  ⟨hd, fun g hg => (hi.out g hg).elim (h.lo g) (fun h1 => Nat.le_trans h.bl.size h1), Off.below h.bl hi.off h.bl.size (fun g hg => hg.elim (h.lo g) (fun e => e ▸ hL))⟩
theorem s_new (n : Int) (w0 w : World) (hb : Below w0.heap.size w0 w) (h1 : 1 ≤ n) (h2 : n ≤ 4096) : Calls Try.prog 10 #[.int .i64 n] w fun e w' => ∃ B F, e = .returned (.tuple #[.pointer (some ⟨B, 0, none⟩), .int .i64 0]) ∧ Own w0 w' F B (Dk.new n) ∧ (∀ g, F g → w.heap.size ≤ g) ∧ Below w.heap.size w w' := by
  refine (c_New n w h1 h2).mono ?_
  rintro e w' ⟨B, F, rfl, hd, hF, hb2⟩
  exact ⟨B, F, rfl, ⟨hd, fun g hg => Nat.le_trans hb.size (hF g hg), below2 hb hb2⟩, hF, hb2⟩
theorem s_open {N : Int} {q : Nat} {σ : Int → Sec} {w0 w : World} {F : Nat → Prop} {B : Nat} {d : Dk} (ho : Own w0 w F B d) (hc : Cr N q σ d) (hl : d.left = 0) (h1 : 42 < N) (h2 : N ≤ 4096) (hq : q < 250) : Calls Try.prog 11 #[.pointer (some ⟨B, 0, none⟩)] w fun e w' => ∃ L F' d', e = .returned (.tuple #[.pointer (some ⟨L, 0, none⟩), .int .i64 0]) ∧ Sys N q σ w0 w' F' L B d' ∧ d'.left = 0 ∧ Inn F F' w w' ∧ w.heap.size ≤ L := by
  refine (c_Open w B d ho.dk hc.alive (by rw [hc.n]; exact h1) (hc.hd h2 hq)).mono ?_
  obtain ⟨d1, e1, hL, hl1⟩ := open_live (by omega) h2 hc hl hq
  rintro e w' ⟨d', F', hd, hi, ⟨n, L, h3, rfl, h4, h5, h6⟩ | ⟨h3, rfl⟩⟩
  · rw [e1] at h3
    cases h3
    exact ⟨L, F', d1, rfl, ⟨hL, ho.inn hd hi, h4, h5, Nat.le_trans ho.bl.size h6⟩, hl1, hi, h6⟩
  · rw [e1] at h3
    cases h3
theorem s_commit {N : Int} {q : Nat} {σ : Int → Sec} {w0 w : World} {F : Nat → Prop} {L B : Nat} {d : Dk} (S : Sys N q σ w0 w F L B d) (hl : d.left = 0) (h1 : 42 < N) (h2 : N ≤ 4096) (hq : q + 1 < 250) {v : Value} {ps : List (Int × Sec)} (hv : PutAt w F v ps) (hg : GoodC d ps) (hne : ps ≠ []) : Calls Try.prog 13 #[.pointer (some ⟨L, 0, none⟩), v] w fun e w' => ∃ F' d', e = .returned (.int .i64 0) ∧ Sys N (q + 1) (putF ps σ) w0 w' F' L B d' ∧ d'.left = 0 ∧ InL L F F' w w' := by
  refine (c_Commit w L B q d v ps S.at_ S.nL S.own.dk S.lg.alive (by rw [S.lg.n]; omega) hq hv hg hne).mono ?_
  obtain ⟨d1, e1, hL, hl1⟩ := commit_live (by omega) h2 S.lg hl (by have := hg.p S.lg.alive; rwa [S.lg.n] at this) hq
  rintro e w' ⟨d', F', hd, hi, ⟨h3, rfl, h4⟩ | ⟨h3, rfl⟩⟩
  · rw [e1] at h3
    cases h3
    refine ⟨F', d1, rfl, ⟨hL, S.own.inl S.loL hd hi, h4, fun hx => ?_, S.loL⟩, hl1, hi⟩
    rcases hi.out L hx with h | h
    · exact S.nL h
    · have := S.at_.lt; omega
  · rw [e1] at h3
    cases h3
theorem s_read {N : Int} {q : Nat} {σ : Int → Sec} {w0 w : World} {F : Nat → Prop} {L B : Nat} {d : Dk} (S : Sys N q σ w0 w F L B d) (n : Int) (h1 : 42 ≤ n) (h2 : n < N) (h3 : N ≤ 4096) : Calls Try.prog 18 #[.pointer (some ⟨L, 0, none⟩), .int .i64 n] w fun e w' => ∃ g c, e = .returned (.tuple #[.slice (some ⟨g, 0, none⟩) 128 c, .int .i64 0]) ∧ w'.ownsRow w.heap.size 5 1 (.slice (some ⟨g, 0, none⟩) 128 c) 128 (bys (σ n)) ∧ Below w.heap.size w w' := by
  refine (c_lread w L B q false d n S.at_ S.own.dk ⟨by omega, by omega⟩).mono ?_
  have hE : lreadE false d n = 0 := by
    unfold lreadE
    rw [if_neg Bool.false_ne_true, if_neg (by rw [S.lg.alive]; exact Bool.false_ne_true), if_neg (by omega)]
    unfold readE
    rw [if_neg (by rw [S.lg.alive]; exact Bool.false_ne_true), if_pos (by unfold Dk.there; rw [S.lg.n]; simp; omega)]
  rintro e w' ⟨v, rfl, hr, _, hb⟩
  have h4 := hr hE
  have hlen := S.lg.ok.atLen n
  unfold RowB at h4
  rw [S.lg.at_ h1] at h4 hlen
  rw [hlen] at h4
  obtain ⟨g, c, rfl⟩ := row_some h4 (by decide)
  exact ⟨g, c, by rw [hE], h4, hb⟩
theorem put_one {F : Nat → Prop} (w : World) (n : Int) (g c : Nat) (b : Sec) (hb : BtAt w (.slice (some ⟨g, 0, none⟩) b.length c) b) (hF : ∀ i, F i → i < w.heap.size) (hg : ¬ F g) (hgl : g < w.heap.size) (hn : I64 n) (hl : b.length ≤ 140737488351232) : PutAt (w.alloc (.cells #[.int .i64 n, .slice (some ⟨g, 0, none⟩) b.length c] 47)) F (.slice (some ⟨w.heap.size, 0, none⟩) 1 1) [(n, b)] := by
  have hB := heap_alloc_new w (.cells #[.int .i64 n, .slice (some ⟨g, 0, none⟩) b.length c] 47)
  have hs : (w.alloc (.cells #[.int .i64 n, .slice (some ⟨g, 0, none⟩) b.length c] 47)).heap.size = w.heap.size + 1 := by unfold World.alloc; simp
  refine ⟨_, 1, rfl, Nat.le_refl _, by decide, fun h => (by cases h), fun j p hj => ?_⟩
  match j, hj with
  | 0, hj =>
    cases hj
    exact ⟨_, _, _, rfl, ⟨by rw [hs]; omega, cell_of_row _ _ 0 _ _ _ hB, cell_of_row _ _ 1 _ _ _ hB, hb.below (below_al0 _ _), fun hx => by have := hF _ hx; omega, fun a n c e hx => by cases e; exact hg hx, fun a n c e => by cases e; rw [hs]; show g < _; omega, hn, hl⟩⟩
  | k + 1, hj => simp at hj
theorem goodc_one {d : Dk} {n : Int} {b : Sec} (ha : d.dead = false) (h1 : 42 ≤ n) (h2 : n < d.n) (hb : b.length = 128) : GoodC d [(n, b)] := by
  refine ⟨by simp, fun j x hj => ?_⟩
  match j, hj with
  | 0, hj =>
    cases hj
    rintro (h | h | h | ⟨p, hp, _⟩)
    · simp at h; omega
    · unfold readE at h
      rw [if_neg (by rw [ha]; exact Bool.false_ne_true), if_pos (by unfold Dk.there; simp; omega)] at h
      cases h
    · exact h hb
    · simp at hp
  | k + 1, hj => simp at hj
/-- a row of bytes that neither a disk nor a log touches -/
theorem row_keep {w w' : World} {A g c : Nat} {xs : List Value} {F F' : Nat → Prop} {L : Nat} (h : w.ownsRow A 5 1 (.slice (some ⟨g, 0, none⟩) 128 c) 128 xs) (hi : InL L F F' w w') (hg : ¬ F g) (hL : g ≠ L) : w'.ownsRow A 5 1 (.slice (some ⟨g, 0, none⟩) 128 c) 128 xs := hi.off.rowAt h (fun hx => hx.elim hg hL)
def b9 : Sec := zeros.set 5 9
theorem b9_len : b9.length = 128 := by unfold b9; rw [List.length_set]; exact zeros_len
theorem b9_bys : (bys zeros).set 5 (.int .u8 9) = bys b9 := by unfold b9 bys; rw [List.map_set]; rfl
set_option maxHeartbeats 2000000 in
theorem c_known (w : World) : Calls Try.prog 9 #[] w fun e w' => e = .returned (.bool true) ∧ Below w.heap.size w w' := by
  have hmk := A.mk128
  go_enter Try.func9, Try.ntmps9
  go_upto_region 8 with (first
    | (go_at_call 10; refine (s_new 60 w w (Below.refl _ _) (by decide) (by decide)).mono ?_; rintro e w1 ⟨B, F, rfl, O1, _, _⟩; replace O1 := Lib.hid O1)
    | (go_at_call 11; refine (s_open O1.out (new_cr (N := 60) (by decide) (by decide)) rfl (by decide) (by decide) (by decide)).mono ?_; rintro e w2 ⟨L, F2, d2, rfl, S2, hl2, _, _⟩; replace S2 := Lib.hid S2; replace hl2 := Lib.hid hl2))
  obtain ⟨W, hW, R0, hz⟩ : ∃ W, w2.alloc (.cells (bys zeros).toArray 5) = W ∧ Hid (FillR W w2.heap.size w2.heap.size 128 0 (rep 7) zeros) ∧ Hid (W.heap.size = w2.heap.size + 1) := ⟨_, rfl, Lib.hid (FillR.start (rep 7)), Lib.hid (by unfold World.alloc; simp)⟩
  have SW : Hid (Sys 60 0 (fun _ => zeros) w W F2 L B d2) := Lib.hid (by rw [← hW]; exact S2.out.below (below_al0 _ _))
  have hF2 : Hid (¬ F2 w2.heap.size ∧ w2.heap.size ≠ L) := Lib.hid ⟨fun h => by have := S2.out.own.dk.lt _ h; omega, fun e => by have := S2.out.at_.lt; omega⟩
  have hg0 := Lib.hid S2.out.own.bl.size
  rw [hW]
  clear hW S2 O1
  generalize w2.heap.size = g at *
  have RZ : Hid (W.ownsRow g 5 1 (.slice (some ⟨g, 0, none⟩) 128 128) 128 (bys zeros)) := Lib.hid R0.out
  have cz : W.cell? ⟨g, 5, none⟩ = some (.int .u8 0) := (row_cell RZ.out 5 (by rw [← bys_zeros]; rfl)).2
  have fz := R0.out.free 5
  go_upto_region 9 with fail
  have ho := off1 W g 5 (.int .u8 9)
  have R9 : Hid ((W.setCell ⟨g, 5, none⟩ (.int .u8 9)).ownsRow g 5 1 (.slice (some ⟨g, 0, none⟩) 128 128) 128 (bys b9)) := Lib.hid (by have := row_store RZ.out 5 (.int .u8 9); rwa [b9_bys] at this)
  have S9 : Hid (Sys 60 0 (fun _ => zeros) w (W.setCell ⟨g, 5, none⟩ (.int .u8 9)) F2 L B d2) := Lib.hid (SW.out.off ho (fun i hi e => hF2.out.1 (e ▸ hi)) (fun e => hF2.out.2 e.symm) (fun i e => by have h : i = g := e; have := hg0.out; omega))
  have hs9 : Hid (g < (W.setCell ⟨g, 5, none⟩ (.int .u8 9)).heap.size) := Lib.hid (by have := hz.out; simp; omega)
  clear ho cz fz RZ R0 SW hz
  generalize W.setCell ⟨g, 5, none⟩ (.int .u8 9) = w3 at *
  have hB9 : Hid (BtAt w3 (.slice (some ⟨g, 0, none⟩) b9.length 128) b9) := Lib.hid (by rw [b9_len]; exact row_bt R9.out b9_len)
  have PV := put_one w3 50 g 128 b9 hB9.out (fun i hi => S9.out.own.dk.lt i hi) hF2.out.1 hs9.out ⟨by decide, by decide⟩ (by rw [b9_len]; decide)
  rw [b9_len] at PV
  have S4 : Hid (Sys 60 0 (fun _ => zeros) w (w3.alloc (.cells #[.int .i64 50, .slice (some ⟨g, 0, none⟩) 128 128] 47)) F2 L B d2) := Lib.hid (S9.out.below (below_al0 _ _))
  have R4 := Lib.hid (Off.rowAt (.of_below (ex := fun _ => False) (below_al0 w3 (.cells #[.int .i64 50, .slice (some ⟨g, 0, none⟩) 128 128] 47))) R9.out (fun h => h))
  have GC : Hid (GoodC d2 [(50, b9)]) := Lib.hid (goodc_one S9.out.lg.alive (by decide) (by rw [S9.out.lg.n]; decide) b9_len)
  replace PV := Lib.hid PV
  clear S9 R9 hB9
  have h4s : Hid (g < (w3.alloc (.cells #[.int .i64 50, .slice (some ⟨g, 0, none⟩) 128 128] 47)).heap.size) := Lib.hid (Nat.lt_of_lt_of_le hs9.out (by unfold World.alloc; simp))
  go_upto_region 13 with (first
    | (go_at_call 11; refine (s_open S5.out.own S5.out.lg.cr hl5.out (by decide) (by decide) (by decide)).mono ?_; rintro e w6 ⟨L6, F6, d6, rfl, S6, hl6, hi6, _⟩; replace S6 := Lib.hid S6; have R6 := Lib.hid (row_keep R5.out hi6.log hF5.out hF2.out.2); clear hi6)
    | (go_at_call 13; refine (s_commit S4.out hl2.out (by decide) (by decide) (by decide) PV.out GC.out (by simp)).mono ?_; rintro e w5 ⟨F5, d5, rfl, S5, hl5, hi5⟩; have R5 := Lib.hid (row_keep R4.out hi5 hF2.out.1 hF2.out.2); have hF5 : Hid (¬ F5 g) := Lib.hid (fun h => (hi5.out _ h).elim hF2.out.1 (fun h => by have := h4s.out; omega)); replace S5 := Lib.hid S5; replace hl5 := Lib.hid hl5; clear hi5))
  have hσ : putF [((50 : Int), b9)] (fun _ => zeros) 50 = b9 := by simp [putF, upd]
  have hσ := Lib.hid hσ
  replace hl6 := Lib.hid hl6
  go_wp2_with (first
    | (go_at_call 15; refine (c_Seq w7 L6 B _ _ L7.out).mono ?_; rintro e w8 ⟨rfl, rfl⟩)
    | (go_at_call 18; refine (s_read S6.out 50 (by decide) (by decide) (by decide)).mono ?_; rintro e w7 ⟨g7, c7, rfl, hr7, hb7⟩; rw [hσ.out] at hr7; have hs1 := str_at (row_bt hr7 b9_len); have hs2 := str_at (row_bt (Off.rowAt (.of_below (ex := fun _ => False) hb7) R6.out (fun h => h)) b9_len); replace hr7 := Lib.hid hr7; have L7 := Lib.hid (S6.out.below hb7).at_; have B7 := Lib.hid (S6.out.below hb7).own.bl; clear hb7))
  go_ret
  exact ⟨rfl, B7.out⟩
end Go.Proofs.Ytpdjenkacefpjaa
