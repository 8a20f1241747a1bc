/- CpuModes: the law's walk, one operation. -/
import Derived.Test.YtiakonmamkfopaaCpuMo0
import Derived.Deep.RegionHeld3
import Derived.Deep.OwnRows
namespace Go.Proofs.Ytiakonmamkfopaa
open Go.RowKit Go.ChangeShapes
set_option linter.unusedVariables false
set_option maxRecDepth 100000

set_option maxHeartbeats 4000000 in
theorem lawM1 (y0 b1 b2 b3 b4 y2 y3 : Int) (hx : y3 % 3 = 1) (w : World) : Calls Try.prog 13 #[.int .i64 y0, .agg #[.int .i64 b1, .int .i64 b2, .int .i64 b3, .int .i64 b4], .int .i64 y2, .int .i64 y3] w fun e w' => e = .returned (.bool true) ∧ Below w.heap.size w w' := by
  obtain ⟨md, hmd⟩ : ∃ o, y0 % 8 = o := ⟨_, rfl⟩
  obtain ⟨r, hr⟩ : ∃ o, y2 % 8 = o := ⟨_, rfl⟩
  obtain ⟨b, hb⟩ : ∃ o, b1 % 8 = o := ⟨_, rfl⟩
  have r0 : 0 ≤ r := by omega
  have r1 : r < 8 := by omega
  have q0 : 0 ≤ b := by omega
  have q1 : b < 8 := by omega
  have OO := Lib.hid (And.intro r0 (And.intro r1 (And.intro q0 q1)))
  replace hmd := Lib.hid hmd
  replace hr := Lib.hid hr
  replace hb := Lib.hid hb
  replace hx := Lib.hid hx
  clear r0 r1 q0 q1
  go_enter Try.func13, Try.ntmps13
  go_wp2_with fail
  obtain ⟨W0, hW0, P0, B0⟩ : ∃ W, w.alloc (.cells #[.int .i64 b1, .int .i64 b2, .int .i64 b3, .int .i64 b4] 55) = W ∧ Hid (blk4 W w.heap.size 55 (.int .i64 b1) (.int .i64 b2) (.int .i64 b3) (.int .i64 b4)) ∧ Hid (Below w.heap.size w W) := ⟨_, rfl, heap_alloc_new _ _, below_al0 _ _⟩
  rw [hW0]
  clear hW0
  refine (c_known _).mono ?_
  rintro e w1 ⟨rfl, hb1⟩
  have P1 : Hid (blk4 w1 w.heap.size 55 (.int .i64 b1) (.int .i64 b2) (.int .i64 b3) (.int .i64 b4)) := Off.keeps (.of_below (ex := fun _ => False) hb1) P0.out id
  have B1 := Lib.hid (below2 B0.out hb1)
  clear hb1 P0 B0
  have c0 : w1.cell? ⟨w.heap.size, 0, none⟩ = some (.int .i64 b1) := P1.out.cell 0
  have c1 : w1.cell? ⟨w.heap.size, 1, none⟩ = some (.int .i64 b2) := P1.out.cell 1
  have c2 : w1.cell? ⟨w.heap.size, 2, none⟩ = some (.int .i64 b3) := P1.out.cell 2
  have c3 : w1.cell? ⟨w.heap.size, 3, none⟩ = some (.int .i64 b4) := P1.out.cell 3
  have cf : ∀ j, w1.frozen? ⟨w.heap.size, j, none⟩ = false := fun j => P1.out.free j
  have cR : w.heap.size < w1.heap.size := P1.out.lt
  go_wp2_with (first | (go_at_call 21; refine (within16 _ _ (by decide) (by decide) _).mono ?_; rintro e w2 ⟨rfl, hw2⟩; subst hw2; (first | rw [hmd.out] | rw [hr.out] | rw [hb.out] | rw [hx.out] | skip)))
  obtain ⟨W2, hW2, hI, P2, B2⟩ : ∃ W, (((((w1.setCell ⟨w.heap.size, 0, none⟩ (.int .i64 b)).setCell ⟨w.heap.size, 1, none⟩ (.int .i64 7)).setCell ⟨w.heap.size, 2, none⟩ (.int .i64 7)).setCell ⟨w.heap.size, 3, none⟩ (.int .i64 0)).alloc (.cells #[.int .i64 1, .int .i64 2, .int .i64 20] 3)).alloc (.cells #[.int .i64 2, .int .i64 1, .int .i64 0] 64) = W ∧ W.heap[w1.heap.size + 1]? = some (.cells #[.int .i64 2, .int .i64 1, .int .i64 0] 64 (0, 0)) ∧ Hid (blk4 W w.heap.size 55 (.int .i64 b) (.int .i64 7) (.int .i64 7) (.int .i64 0)) ∧ Hid (Below w.heap.size w W) := by
    refine ⟨_, rfl, ?_, ?_, below_al (below_al ?_ _) _⟩
    · have h := heap_alloc_new (((((w1.setCell ⟨w.heap.size, 0, none⟩ (.int .i64 b)).setCell ⟨w.heap.size, 1, none⟩ (.int .i64 7)).setCell ⟨w.heap.size, 2, none⟩ (.int .i64 7)).setCell ⟨w.heap.size, 3, none⟩ (.int .i64 0)).alloc (.cells #[.int .i64 1, .int .i64 2, .int .i64 20] 3)) (.cells #[.int .i64 2, .int .i64 1, .int .i64 0] 64)
      rw [World.size_alloc, World.size_setCell, World.size_setCell, World.size_setCell, World.size_setCell] at h
      exact h
    · exact Off.keeps (ex := fun _ => False) (((Off.refl _ _).alloc _).alloc _) (set4 P1.out _ _ _ _) id
    · exact Off.below B1.out ((((off1 _ _ _ _).trans (off1 _ _ _ _)).trans (off1 _ _ _ _)).trans (off1 _ _ _ _)) B1.out.size (fun k hk => by omega)
  rw [hW2]
  clear hW2 c0 c1 c2 c3 cf cR P1 B1
  refine (c_one1 W2 (w1.heap.size + 1) 2 1 0 (by decide) (by decide) (by decide) (by decide) (by decide) (by decide) hI).mono ?_
  rintro e w3 ⟨adu, cpu, rfl, hu, hb3⟩
  have U3 := Lib.hid (row_base hu (Nat.zero_le _))
  have P3 : Hid (blk4 w3 w.heap.size 55 (.int .i64 b) (.int .i64 7) (.int .i64 7) (.int .i64 0)) := Off.keeps (.of_below (ex := fun _ => False) hb3) P2.out id
  have B3 := Lib.hid (below2 B2.out hb3)
  clear hu hb3 hI P2 B2
  go_wp2_with fail
  obtain ⟨W4, hW4, G4, U4, P4, B4⟩ : ∃ W, w3.alloc (.cells #[.bool true, .slice adu 1 cpu, .int .i64 7, .int .i64 r, .int .i64 r, .int .i64 r, .int .i64 0] 57) = W ∧ Hid (blk7 W w3.heap.size 57 (.bool true) (.slice adu 1 cpu) (.int .i64 7) (.int .i64 r) (.int .i64 r) (.int .i64 r) (.int .i64 0)) ∧ Hid (W.ownsRow 0 2 1 (.slice adu 1 cpu) 1 (([encI 2 1 0] : List Int).map (Value.int .i64))) ∧ Hid (blk4 W w.heap.size 55 (.int .i64 b) (.int .i64 7) (.int .i64 7) (.int .i64 0)) ∧ Hid (Below w.heap.size w W) := ⟨_, rfl, heap_alloc_new _ _, Off.row (ex := fun _ => False) ((Off.refl _ _).alloc _) U3.out (fun _ h => h.elim), Off.keeps (ex := fun _ => False) ((Off.refl _ _).alloc _) P3.out id, below_al B3.out _⟩
  rw [hW4]
  clear hW4 U3 P3 B3
  have GD : Hid (blk7 W4.drew w3.heap.size 57 (.bool true) (.slice adu 1 cpu) (.int .i64 7) (.int .i64 r) (.int .i64 r) (.int .i64 r) (.int .i64 0)) := G4
  have UD : Hid (W4.drew.ownsRow 0 2 1 (.slice adu 1 cpu) 1 (([encI 2 1 0] : List Int).map (Value.int .i64))) := U4
  have PD : Hid (blk4 W4.drew w.heap.size 55 (.int .i64 b) (.int .i64 7) (.int .i64 7) (.int .i64 0)) := P4
  have BD := Lib.hid (below_drew B4.out)
  clear G4 U4 P4 B4
  refine wp_region_held_drew (S := fun w' => Below W4.drew.heap.size W4.drew w') (by kernel_rfl) (Below.refl _ _) (fun hHeld => ?_)
  generalize W4.drew = D at GD UD PD BD hHeld ⊢
  have BC := Lib.hid (Below.refl D.heap.size D)
  have k0 : ∀ w', Below D.heap.size D w' → w'.cell? ⟨w.heap.size, 0, none⟩ = some (.int .i64 b) := fun w' h => (show blk4 w' w.heap.size 55 (.int .i64 b) (.int .i64 7) (.int .i64 7) (.int .i64 0) from Off.keeps (.of_below (ex := fun _ => False) h) PD.out id).cell 0
  have k1 : ∀ w', Below D.heap.size D w' → w'.cell? ⟨w.heap.size, 1, none⟩ = some (.int .i64 7) := fun w' h => (show blk4 w' w.heap.size 55 (.int .i64 b) (.int .i64 7) (.int .i64 7) (.int .i64 0) from Off.keeps (.of_below (ex := fun _ => False) h) PD.out id).cell 1
  have k2 : ∀ w', Below D.heap.size D w' → w'.cell? ⟨w.heap.size, 2, none⟩ = some (.int .i64 7) := fun w' h => (show blk4 w' w.heap.size 55 (.int .i64 b) (.int .i64 7) (.int .i64 7) (.int .i64 0) from Off.keeps (.of_below (ex := fun _ => False) h) PD.out id).cell 2
  have k3 : ∀ w', Below D.heap.size D w' → w'.cell? ⟨w.heap.size, 3, none⟩ = some (.int .i64 0) := fun w' h => (show blk4 w' w.heap.size 55 (.int .i64 b) (.int .i64 7) (.int .i64 7) (.int .i64 0) from Off.keeps (.of_below (ex := fun _ => False) h) PD.out id).cell 3
  refine wpAnyH_take (i := 0) (oi := ⟨_, _, _, _, _, _⟩) (v := ?_) rfl (by kernel_rfl) (by kernel_rfl) (by kernel_rfl) (fun _ _ _ h => h) (Or.inl ⟨by rfl, ?_⟩) (by assumption) ?_
  rotate_left
  · intro w hSw; (try dsimp only at hSw); go_simp; (try with_reducible rfl)
  try simp only [Act.put, List.setIfInBounds_toArray, List.set_cons_zero, List.set_cons_succ]
  refine wpAnyH_take (i := 1) (oi := ⟨_, _, _, _, _, _⟩) (v := ?_) rfl (by kernel_rfl) (by kernel_rfl) (by kernel_rfl) (fun _ _ _ h => h) (Or.inl ⟨by rfl, ?_⟩) (by assumption) ?_
  rotate_left
  · intro w hSw; (try dsimp only at hSw); go_simp; (try with_reducible rfl)
  try simp only [Act.put, List.setIfInBounds_toArray, List.set_cons_zero, List.set_cons_succ]
  clear k0 k1 k2 k3
  refine wpAnyH_ready (rs := [2, 4]) (by kernel_rfl) (by simp) (AllReadyH.cons (o := ⟨_, _, _, _, _, _⟩) rfl (fun K hK => ?_) (AllReadyH.cons (o := ⟨_, _, _, _, _, _⟩) rfl (fun K hK => ?_) AllReadyH.nil))
  · have hmk := make3
    go_simp
    refine hK.out _ _ ?_ (fun hHeld => ?_)
    · exact below_al BC.out (.cells #[.int .i64 0, .int .i64 0, .int .i64 0] 2)
    clear hK K
    try simp only [Act.put, List.setIfInBounds_toArray, List.set_cons_zero, List.set_cons_succ]
    have V := Lib.hid (heap_alloc_new D (.cells #[.int .i64 0, .int .i64 0, .int .i64 0] 2))
    replace BC := Lib.hid (below_al BC.out (.cells #[.int .i64 0, .int .i64 0, .int .i64 0] 2))
    have hzX1 := Lib.hid (World.size_alloc D (.cells #[.int .i64 0, .int .i64 0, .int .i64 0] 2))
    generalize D.alloc (.cells #[.int .i64 0, .int .i64 0, .int .i64 0] 2) = X1 at hHeld V BC hzX1 ⊢
    refine wpAnyH_take (i := 3) (oi := ⟨_, _, _, _, _, _⟩) (v := ?_) rfl (by kernel_rfl) (by kernel_rfl) (by kernel_rfl) (fun _ _ _ h => h) (Or.inl ⟨by rfl, ?_⟩) (by assumption) ?_
    rotate_left
    · intro w hSw; (try dsimp only at hSw); go_simp; (try with_reducible rfl)
    try simp only [Act.put, List.setIfInBounds_toArray, List.set_cons_zero, List.set_cons_succ]
    refine wpAnyH_ready (rs := [4]) (by kernel_rfl) (by simp) (AllReadyH.cons (o := ⟨_, _, _, _, _, _⟩) rfl (fun K hK => ?_) AllReadyH.nil)
    go_simp
    refine hK.out _ _ ?_ (fun hHeld => ?_)
    · exact below_al BC.out (.cells #[.bool false, .slice none 0 0, .int .i64 0, .int .i64 0, .int .i64 0, .int .i64 0, .int .i64 0] 57)
    clear hK K
    try simp only [Act.put, List.setIfInBounds_toArray, List.set_cons_zero, List.set_cons_succ]
    replace V := Lib.hid (Off.keeps (ex := fun _ => False) ((Off.refl _ _).alloc (.cells #[.bool false, .slice none 0 0, .int .i64 0, .int .i64 0, .int .i64 0, .int .i64 0, .int .i64 0] 57)) V.out id)
    have T := Lib.hid (heap_alloc_new X1 (.cells #[.bool false, .slice none 0 0, .int .i64 0, .int .i64 0, .int .i64 0, .int .i64 0, .int .i64 0] 57))
    replace BC := Lib.hid (below_al BC.out (.cells #[.bool false, .slice none 0 0, .int .i64 0, .int .i64 0, .int .i64 0, .int .i64 0, .int .i64 0] 57))
    have hzX2 := Lib.hid (World.size_alloc X1 (.cells #[.bool false, .slice none 0 0, .int .i64 0, .int .i64 0, .int .i64 0, .int .i64 0, .int .i64 0] 57))
    generalize X1.alloc (.cells #[.bool false, .slice none 0 0, .int .i64 0, .int .i64 0, .int .i64 0, .int .i64 0, .int .i64 0] 57) = X2 at hHeld V T BC hzX2 ⊢
    have t0 : ∀ j, X2.frozen? ⟨X1.heap.size, j, none⟩ = false := fun j => (show blk7 X2 (X1.heap.size) 57 (.bool false) (.slice none 0 0) (.int .i64 0) (.int .i64 0) (.int .i64 0) (.int .i64 0) (.int .i64 0) from T.out).free j
    have tR : X1.heap.size < X2.heap.size := (show blk7 X2 (X1.heap.size) 57 (.bool false) (.slice none 0 0) (.int .i64 0) (.int .i64 0) (.int .i64 0) (.int .i64 0) (.int .i64 0) from T.out).lt
    have u0 : X2.cell? ⟨X1.heap.size, 0, none⟩ = some (.bool false) := (show blk7 X2 (X1.heap.size) 57 (.bool false) (.slice none 0 0) (.int .i64 0) (.int .i64 0) (.int .i64 0) (.int .i64 0) (.int .i64 0) from T.out).cell 0
    have u1 : X2.cell? ⟨X1.heap.size, 1, none⟩ = some (.slice none 0 0) := (show blk7 X2 (X1.heap.size) 57 (.bool false) (.slice none 0 0) (.int .i64 0) (.int .i64 0) (.int .i64 0) (.int .i64 0) (.int .i64 0) from T.out).cell 1
    have u2 : X2.cell? ⟨X1.heap.size, 2, none⟩ = some (.int .i64 0) := (show blk7 X2 (X1.heap.size) 57 (.bool false) (.slice none 0 0) (.int .i64 0) (.int .i64 0) (.int .i64 0) (.int .i64 0) (.int .i64 0) from T.out).cell 2
    have u3 : X2.cell? ⟨X1.heap.size, 3, none⟩ = some (.int .i64 0) := (show blk7 X2 (X1.heap.size) 57 (.bool false) (.slice none 0 0) (.int .i64 0) (.int .i64 0) (.int .i64 0) (.int .i64 0) (.int .i64 0) from T.out).cell 3
    have u4 : X2.cell? ⟨X1.heap.size, 4, none⟩ = some (.int .i64 0) := (show blk7 X2 (X1.heap.size) 57 (.bool false) (.slice none 0 0) (.int .i64 0) (.int .i64 0) (.int .i64 0) (.int .i64 0) (.int .i64 0) from T.out).cell 4
    have u5 : X2.cell? ⟨X1.heap.size, 5, none⟩ = some (.int .i64 0) := (show blk7 X2 (X1.heap.size) 57 (.bool false) (.slice none 0 0) (.int .i64 0) (.int .i64 0) (.int .i64 0) (.int .i64 0) (.int .i64 0) from T.out).cell 5
    have u6 : X2.cell? ⟨X1.heap.size, 6, none⟩ = some (.int .i64 0) := (show blk7 X2 (X1.heap.size) 57 (.bool false) (.slice none 0 0) (.int .i64 0) (.int .i64 0) (.int .i64 0) (.int .i64 0) (.int .i64 0) from T.out).cell 6
    refine wpAnyH_ready (rs := [5]) (by kernel_rfl) (by simp) (AllReadyH.cons (o := ⟨_, _, _, _, _, _⟩) rfl (fun K hK => ?_) AllReadyH.nil)
    go_simp
    have hTD : Hid (D.heap.size ≤ X1.heap.size) := by have h1 := hzX1.out; have h2 := hzX2.out; show _ ≤ _; omega
    have BZ : Hid (Below D.heap.size D (((((((X2.setCell ⟨X1.heap.size, 0, none⟩ (.bool true)).setCell ⟨X1.heap.size, 1, none⟩ (.slice (some ⟨D.heap.size, 0, none⟩) 3 3)).setCell ⟨X1.heap.size, 2, none⟩ (.int .i64 md)).setCell ⟨X1.heap.size, 3, none⟩ (.int .i64 b)).setCell ⟨X1.heap.size, 4, none⟩ (.int .i64 7)).setCell ⟨X1.heap.size, 5, none⟩ (.int .i64 7)).setCell ⟨X1.heap.size, 6, none⟩ (.int .i64 0))) := Off.below BC.out (off7 X2 (X1.heap.size) (.bool true) (.slice (some ⟨D.heap.size, 0, none⟩) 3 3) (.int .i64 md) (.int .i64 b) (.int .i64 7) (.int .i64 7) (.int .i64 0)) BC.out.size (fun k hk => by subst hk; exact hTD.out)
    refine hK.out _ _ ?_ (fun hHeld => ?_)
    · exact BZ.out
    clear hK K
    try simp only [Act.put, List.setIfInBounds_toArray, List.set_cons_zero, List.set_cons_succ]
    have hGD : Hid (w3.heap.size < D.heap.size) := GD.out.lt
    have hPD : Hid (w.heap.size < D.heap.size) := PD.out.lt
    have TZ := Lib.hid (set7 (show blk7 X2 (X1.heap.size) 57 (.bool false) (.slice none 0 0) (.int .i64 0) (.int .i64 0) (.int .i64 0) (.int .i64 0) (.int .i64 0) from T.out) (.bool true) (.slice (some ⟨D.heap.size, 0, none⟩) 3 3) (.int .i64 md) (.int .i64 b) (.int .i64 7) (.int .i64 7) (.int .i64 0))
    have OZ := Lib.hid (off7 X2 (X1.heap.size) (.bool true) (.slice (some ⟨D.heap.size, 0, none⟩) 3 3) (.int .i64 md) (.int .i64 b) (.int .i64 7) (.int .i64 7) (.int .i64 0))
    have hPV : Hid (¬ D.heap.size = X1.heap.size) := by have h1 := hzX1.out; show ¬ _; omega
    have VZ : Hid ((((((((X2.setCell ⟨X1.heap.size, 0, none⟩ (.bool true)).setCell ⟨X1.heap.size, 1, none⟩ (.slice (some ⟨D.heap.size, 0, none⟩) 3 3)).setCell ⟨X1.heap.size, 2, none⟩ (.int .i64 md)).setCell ⟨X1.heap.size, 3, none⟩ (.int .i64 b)).setCell ⟨X1.heap.size, 4, none⟩ (.int .i64 7)).setCell ⟨X1.heap.size, 5, none⟩ (.int .i64 7)).setCell ⟨X1.heap.size, 6, none⟩ (.int .i64 0)).ownsRow 0 2 1 (.slice (some ⟨D.heap.size, 0, none⟩) 3 3) 3 (([0, 0, 0] : List Int).map (Value.int .i64))) := ⟨rfl, .inr ⟨D.heap.size, 3, _, rfl, Nat.zero_le _, Off.keeps OZ.out V.out hPV.out, Nat.le_refl _, by decide, rfl, rfl⟩⟩
    generalize (((((((X2.setCell ⟨X1.heap.size, 0, none⟩ (.bool true)).setCell ⟨X1.heap.size, 1, none⟩ (.slice (some ⟨D.heap.size, 0, none⟩) 3 3)).setCell ⟨X1.heap.size, 2, none⟩ (.int .i64 md)).setCell ⟨X1.heap.size, 3, none⟩ (.int .i64 b)).setCell ⟨X1.heap.size, 4, none⟩ (.int .i64 7)).setCell ⟨X1.heap.size, 5, none⟩ (.int .i64 7)).setCell ⟨X1.heap.size, 6, none⟩ (.int .i64 0)) = Z at BZ TZ OZ VZ ⊢
    have GZ : Hid (blk7 Z w3.heap.size 57 (.bool true) (.slice adu 1 cpu) (.int .i64 7) (.int .i64 r) (.int .i64 r) (.int .i64 r) (.int .i64 0)) := Off.keeps (.of_below (ex := fun _ => False) BZ.out) GD.out id
    have UZ : Hid (Z.ownsRow 0 2 1 (.slice adu 1 cpu) 1 (([encI 2 1 0] : List Int).map (Value.int .i64))) := Off.row (ex := fun _ => False) (.of_below BZ.out) UD.out (fun _ h => h.elim)
    have PZ : Hid (blk4 Z w.heap.size 55 (.int .i64 b) (.int .i64 7) (.int .i64 7) (.int .i64 0)) := Off.keeps (.of_below (ex := fun _ => False) BZ.out) PD.out id
    have BX := Lib.hid (below2 BD.out BZ.out)
    have hTZ : Hid (X1.heap.size < Z.heap.size) := TZ.out.lt
    have hGT : Hid (¬ w3.heap.size = X1.heap.size) := by have h1 := hGD.out; have h2 := hTD.out; show ¬ _; omega
    clear GD UD PD BD BC T V OZ hHeld u0 u1 u2 u3 u4 u5 u6 t0 tR hPV BZ hmk
    refine wpAnyH_done (by kernel_rfl) ?_ _
    go_wp2_with (first | (go_at_call 17; refine (c_New _).mono ?_; rintro e w5 ⟨rfl, hb5⟩; have B5 := Lib.hid hb5; clear hb5; dsimp only) | ((with_reducible refine wpList_load_st (op := ⟨some 52, .load 33 (.tmp 12), _, _, _, _⟩) (N := w5.heap.size) (s := (modS r)) (stk := (.slice none 0 0)) ?_ (.tmp 12) ?_ ?_ ?_ ?_); exact rfl; exact rfl; exact rfl; exact st_range HL.out) | ((with_reducible refine wpList_store_st (op := ⟨none, .store 33 (.tmp 12) (.tmp 45), _, _, _, _⟩) (N := w5.heap.size) (s := St.zero) (stk := .slice none 0 0) (s' := St.new) (stk' := .slice none 0 0) ?_ (.tmp 12) (.tmp 45) ?_ ?_ ?_ ?_ ?_ ?_); exact rfl; exact rfl; exact rfl; exact rfl; exact (show stAt _ w5.heap.size St.zero (.slice none 0 0) from heap_alloc_new w5 (.cells (stC St.zero (.slice none 0 0)) 33)); exact rfl; intro w6 S6 F6; have B6 : Hid (Below Z.heap.size Z w6) := below2 B5.out (Off.below (below_al0 w5 (.cells (stC St.zero (.slice none 0 0)) 33)) F6 (by simp) (fun k hk => by omega)); have G6 : Hid (blk7 w6 w3.heap.size 57 (.bool true) (.slice adu 1 cpu) (.int .i64 7) (.int .i64 r) (.int .i64 r) (.int .i64 r) (.int .i64 0)) := Off.keeps (.of_below (ex := fun _ => False) B6.out) GZ.out id; have T6 : Hid (blk7 w6 (X1.heap.size) 57 (.bool true) (.slice (some ⟨D.heap.size, 0, none⟩) 3 3) (.int .i64 md) (.int .i64 b) (.int .i64 7) (.int .i64 7) (.int .i64 0)) := Off.keeps (.of_below (ex := fun _ => False) B6.out) TZ.out id; have g0 : w6.cell? ⟨w3.heap.size, 0, none⟩ = some (.bool true) := G6.out.cell 0; have g1 : w6.cell? ⟨w3.heap.size, 1, none⟩ = some (.slice adu 1 cpu) := G6.out.cell 1; have g2 : w6.cell? ⟨w3.heap.size, 2, none⟩ = some (.int .i64 7) := G6.out.cell 2; have g3 : w6.cell? ⟨w3.heap.size, 3, none⟩ = some (.int .i64 r) := G6.out.cell 3; have g4 : w6.cell? ⟨w3.heap.size, 4, none⟩ = some (.int .i64 r) := G6.out.cell 4; have g5 : w6.cell? ⟨w3.heap.size, 5, none⟩ = some (.int .i64 r) := G6.out.cell 5; have g6 : w6.cell? ⟨w3.heap.size, 6, none⟩ = some (.int .i64 0) := G6.out.cell 6; have d0 : w6.cell? ⟨X1.heap.size, 0, none⟩ = some (.bool true) := T6.out.cell 0; have d1 : w6.cell? ⟨X1.heap.size, 1, none⟩ = some (.slice (some ⟨D.heap.size, 0, none⟩) 3 3) := T6.out.cell 1; have d2 : w6.cell? ⟨X1.heap.size, 2, none⟩ = some (.int .i64 md) := T6.out.cell 2; have d3 : w6.cell? ⟨X1.heap.size, 3, none⟩ = some (.int .i64 b) := T6.out.cell 3; have d4 : w6.cell? ⟨X1.heap.size, 4, none⟩ = some (.int .i64 7) := T6.out.cell 4; have d5 : w6.cell? ⟨X1.heap.size, 5, none⟩ = some (.int .i64 7) := T6.out.cell 5; have d6 : w6.cell? ⟨X1.heap.size, 6, none⟩ = some (.int .i64 0) := T6.out.cell 6; have s2 : w6.cell? ⟨w5.heap.size, 2, none⟩ = some (.int .i64 4) := S6.cell 2; have s7 : w6.cell? ⟨w5.heap.size, 7, none⟩ = some (.int .i64 1) := S6.cell 7; have s8 : w6.cell? ⟨w5.heap.size, 8, none⟩ = some (.int .i64 0) := S6.cell 8; have s9 : w6.cell? ⟨w5.heap.size, 9, none⟩ = some (.int .i64 4) := S6.cell 9; have sf : ∀ j, w6.frozen? ⟨w5.heap.size, j, none⟩ = false := (fun j => S6.free j); have sR : w5.heap.size < w6.heap.size := S6.lt; have n1 : ¬ w5.heap.size = w3.heap.size := (by have h1 := GZ.out.lt; have h2 := B5.out.size; omega); have n2 : ¬ w3.heap.size = w5.heap.size := (fun h => n1 h.symm); have n3 : ¬ w5.heap.size = X1.heap.size := (by have h1 := hTZ.out; have h2 := B5.out.size; omega); have n4 : ¬ X1.heap.size = w5.heap.size := (fun h => n3 h.symm); have HL : Hid (stAt ((((w6.setCell ⟨w5.heap.size, 2, none⟩ (.int .i64 r)).setCell ⟨w5.heap.size, 7, none⟩ (.int .i64 1)).setCell ⟨w5.heap.size, 8, none⟩ (.int .i64 0)).setCell ⟨w5.heap.size, 9, none⟩ (.int .i64 0)) w5.heap.size (modS r) (.slice none 0 0)) := st_p1r S6 r 1 0 0; replace S6 := Lib.hid S6; clear F6))
    have n5 : Hid (¬ w5.heap.size = w6.heap.size + 1) := by show ¬ _; omega
    have n6 : Hid (w.heap.size ≤ w5.heap.size) := by have h1 := BX.out.size; have h2 := B5.out.size; show _ ≤ _; omega
    obtain ⟨W8, hW8, M8, Y8, S8, P8, B8⟩ : ∃ W, (((((w6.setCell ⟨w5.heap.size, 2, none⟩ (.int .i64 r)).setCell ⟨w5.heap.size, 7, none⟩ (.int .i64 1)).setCell ⟨w5.heap.size, 8, none⟩ (.int .i64 0)).setCell ⟨w5.heap.size, 9, none⟩ (.int .i64 0)).alloc (.cells #[.bool true, .slice adu 1 cpu, .int .i64 7, .int .i64 r, .int .i64 r, .int .i64 r, .int .i64 0, .bool true, .slice (some ⟨D.heap.size, 0, none⟩) 3 3, .int .i64 md, .int .i64 b, .int .i64 7, .int .i64 7, .int .i64 0] 57)).alloc (.cells #[.slice (some ⟨w6.heap.size, 0, none⟩) 2 2, .bool false, .int .i64 0, .int .i64 0, .int .i64 0, .int .i64 0] 47) = W ∧ Hid (MemOk W 0 (w6.heap.size + 1) (modM 2 r md b)) ∧ Hid (memAt W 0 (w6.heap.size + 1) (.slice (some ⟨w6.heap.size, 0, none⟩) 2 2) false 0 0 0 0) ∧ Hid (stAt W w5.heap.size (modS r) (.slice none 0 0)) ∧ Hid (blk4 W w.heap.size 55 (.int .i64 b) (.int .i64 7) (.int .i64 7) (.int .i64 0)) ∧ Hid (Below w.heap.size w W) := by
      have O7 : Off (· = w5.heap.size) w6 ((((w6.setCell ⟨w5.heap.size, 2, none⟩ (.int .i64 r)).setCell ⟨w5.heap.size, 7, none⟩ (.int .i64 1)).setCell ⟨w5.heap.size, 8, none⟩ (.int .i64 0)).setCell ⟨w5.heap.size, 9, none⟩ (.int .i64 0)) := (((off1 _ _ _ _).trans (off1 _ _ _ _)).trans (off1 _ _ _ _)).trans (off1 _ _ _ _)
      have O8 : Off (· = w5.heap.size) w6 ((((((w6.setCell ⟨w5.heap.size, 2, none⟩ (.int .i64 r)).setCell ⟨w5.heap.size, 7, none⟩ (.int .i64 1)).setCell ⟨w5.heap.size, 8, none⟩ (.int .i64 0)).setCell ⟨w5.heap.size, 9, none⟩ (.int .i64 0)).alloc (.cells #[.bool true, .slice adu 1 cpu, .int .i64 7, .int .i64 r, .int .i64 r, .int .i64 r, .int .i64 0, .bool true, .slice (some ⟨D.heap.size, 0, none⟩) 3 3, .int .i64 md, .int .i64 b, .int .i64 7, .int .i64 7, .int .i64 0] 57)).alloc (.cells #[.slice (some ⟨w6.heap.size, 0, none⟩) 2 2, .bool false, .int .i64 0, .int .i64 0, .int .i64 0, .int .i64 0] 47)) := (O7.alloc _).alloc _
      have hs := heap_alloc_new ((((w6.setCell ⟨w5.heap.size, 2, none⟩ (.int .i64 r)).setCell ⟨w5.heap.size, 7, none⟩ (.int .i64 1)).setCell ⟨w5.heap.size, 8, none⟩ (.int .i64 0)).setCell ⟨w5.heap.size, 9, none⟩ (.int .i64 0)) (.cells #[.bool true, .slice adu 1 cpu, .int .i64 7, .int .i64 r, .int .i64 r, .int .i64 r, .int .i64 0, .bool true, .slice (some ⟨D.heap.size, 0, none⟩) 3 3, .int .i64 md, .int .i64 b, .int .i64 7, .int .i64 7, .int .i64 0] 57)
      have hy := heap_alloc_new (((((w6.setCell ⟨w5.heap.size, 2, none⟩ (.int .i64 r)).setCell ⟨w5.heap.size, 7, none⟩ (.int .i64 1)).setCell ⟨w5.heap.size, 8, none⟩ (.int .i64 0)).setCell ⟨w5.heap.size, 9, none⟩ (.int .i64 0)).alloc (.cells #[.bool true, .slice adu 1 cpu, .int .i64 7, .int .i64 r, .int .i64 r, .int .i64 r, .int .i64 0, .bool true, .slice (some ⟨D.heap.size, 0, none⟩) 3 3, .int .i64 md, .int .i64 b, .int .i64 7, .int .i64 7, .int .i64 0] 57)) (.cells #[.slice (some ⟨w6.heap.size, 0, none⟩) 2 2, .bool false, .int .i64 0, .int .i64 0, .int .i64 0, .int .i64 0] 47)
      rw [World.size_setCell, World.size_setCell, World.size_setCell, World.size_setCell] at hs
      rw [World.size_alloc, World.size_setCell, World.size_setCell, World.size_setCell, World.size_setCell] at hy
      have hs' := Off.keeps (ex := fun _ => False) ((Off.refl _ (((((w6.setCell ⟨w5.heap.size, 2, none⟩ (.int .i64 r)).setCell ⟨w5.heap.size, 7, none⟩ (.int .i64 1)).setCell ⟨w5.heap.size, 8, none⟩ (.int .i64 0)).setCell ⟨w5.heap.size, 9, none⟩ (.int .i64 0)).alloc (.cells #[.bool true, .slice adu 1 cpu, .int .i64 7, .int .i64 r, .int .i64 r, .int .i64 r, .int .i64 0, .bool true, .slice (some ⟨D.heap.size, 0, none⟩) 3 3, .int .i64 md, .int .i64 b, .int .i64 7, .int .i64 7, .int .i64 0] 57))).alloc (.cells #[.slice (some ⟨w6.heap.size, 0, none⟩) 2 2, .bool false, .int .i64 0, .int .i64 0, .int .i64 0, .int .i64 0] 47)) hs id
      have hN := st_not S6.out 2 (by decide)
      have U8 := Off.row O8 (Off.row (ex := fun _ => False) (.of_below B6.out) UZ.out (fun _ h => h.elim)) hN
      have V8 := Off.row O8 (Off.row (ex := fun _ => False) (.of_below B6.out) VZ.out (fun _ h => h.elim)) hN
      refine ⟨_, rfl, ?_, hy, ?_, ?_, ?_⟩
      · exact mem_at2 _ w6.heap.size (w6.heap.size + 1) ⟨true, [encI 2 1 0], 7, r, r, r, 0⟩ ⟨true, [0, 0, 0], md, b, 7, 7, 0⟩ _ _ hs' hy U8 V8 (by show 1 < 1000000; decide) (by show 3 < 1000000; decide)
      · exact Off.keeps (ex := fun _ => False) (((Off.refl _ _).alloc _).alloc _) HL.out id
      · exact Off.keeps O8 (Off.keeps (.of_below (ex := fun _ => False) B6.out) PZ.out id) (by have h1 := PZ.out.lt; have h2 := B5.out.size; omega)
      · exact Off.below (below2 BX.out B6.out) O8 (below2 BX.out B6.out).size (fun k hk => by have := n6.out; omega)
    rw [hW8]
    clear hW8 HL G6 T6 g0 g1 g2 g3 g4 g5 g6 d0 d1 d2 d3 d4 d5 d6 s2 s7 s8 s9 sf n1 n2 n3 n4 S6 GZ UZ VZ TZ
    have hE := mod_write r md b OO.out.1 OO.out.2.1
    cases hbit : (bits .and .i64 md 2 != 0)
    · rw [hbit, if_neg (by rintro ⟨h, _⟩; cases h)] at hE
      refine (c_Step_any W8 (w6.heap.size + 1) (modS r) (.slice none 0 0) (modM 2 r md b) [] M8.out (stk_nil _) (by decide) (.slice (some ⟨w6.heap.size, 0, none⟩) 2 2) false 0 0 0 0 Y8.out).mono ?_
      rintro e w9 ⟨s1, ad1, n1, cp1, out1, told1, rfl, hm9, hma9, ho9⟩
      have P9 : Hid (blk4 w9 w.heap.size 55 (.int .i64 b) (.int .i64 7) (.int .i64 7) (.int .i64 0)) := Off.keeps ho9 P8.out (by have h1 := PZ.out.lt; have h2 := B5.out.size; omega)
      have B9 := Lib.hid (Off.below B8.out ho9 B8.out.size (fun k hk => by have := n6.out; omega))
      rw [hE]
      clear hm9 hma9 ho9 M8 Y8 S8 P8 B8
      dsimp only
      go_wp2_with (first | ((with_reducible refine wpList_store_st (op := ⟨none, .store 33 (.tmp 13) (.tmp 60), _, _, _, _⟩) (N := w9.heap.size) (s := St.zero) (stk := .slice none 0 0) (s' := s1) (stk' := .slice ad1 n1 cp1) ?_ (.tmp 13) (.tmp 60) ?_ ?_ ?_ ?_ ?_ ?_); exact rfl; exact rfl; exact rfl; exact rfl; exact (show stAt _ w9.heap.size St.zero (.slice none 0 0) from heap_alloc_new w9 (.cells (stC St.zero (.slice none 0 0)) 33)); exact rfl; intro w10 S10 F10; have B10 : Hid (Below w9.heap.size w9 w10) := Off.below (below_al0 w9 (.cells (stC St.zero (.slice none 0 0)) 33)) F10 (by simp) (fun k hk => by omega); have P10 : Hid (blk4 w10 w.heap.size 55 (.int .i64 b) (.int .i64 7) (.int .i64 7) (.int .i64 0)) := Off.keeps (.of_below (ex := fun _ => False) B10.out) P9.out id; have p0 : w10.cell? ⟨w.heap.size, 0, none⟩ = some (.int .i64 b) := P10.out.cell 0; clear S10 F10))
      go_ret
      exact ⟨rfl, below2 B9.out B10.out⟩
    · by_cases hrb : r ≤ b
      · rw [hbit, if_pos ⟨rfl, hrb⟩] at hE
        refine (c_Step_any W8 (w6.heap.size + 1) (modS r) (.slice none 0 0) (modM 2 r md b) [] M8.out (stk_nil _) (by decide) (.slice (some ⟨w6.heap.size, 0, none⟩) 2 2) false 0 0 0 0 Y8.out).mono ?_
        rintro e w9 ⟨s1, ad1, n1, cp1, out1, told1, rfl, hm9, hma9, ho9⟩
        have P9 : Hid (blk4 w9 w.heap.size 55 (.int .i64 b) (.int .i64 7) (.int .i64 7) (.int .i64 0)) := Off.keeps ho9 P8.out (by have h1 := PZ.out.lt; have h2 := B5.out.size; omega)
        have B9 := Lib.hid (Off.below B8.out ho9 B8.out.size (fun k hk => by have := n6.out; omega))
        rw [hE]
        clear hm9 hma9 ho9 M8 Y8 S8 P8 B8
        dsimp only
        go_wp2_with (first | ((with_reducible refine wpList_store_st (op := ⟨none, .store 33 (.tmp 13) (.tmp 60), _, _, _, _⟩) (N := w9.heap.size) (s := St.zero) (stk := .slice none 0 0) (s' := s1) (stk' := .slice ad1 n1 cp1) ?_ (.tmp 13) (.tmp 60) ?_ ?_ ?_ ?_ ?_ ?_); exact rfl; exact rfl; exact rfl; exact rfl; exact (show stAt _ w9.heap.size St.zero (.slice none 0 0) from heap_alloc_new w9 (.cells (stC St.zero (.slice none 0 0)) 33)); exact rfl; intro w10 S10 F10; have B10 : Hid (Below w9.heap.size w9 w10) := Off.below (below_al0 w9 (.cells (stC St.zero (.slice none 0 0)) 33)) F10 (by simp) (fun k hk => by omega); have P10 : Hid (blk4 w10 w.heap.size 55 (.int .i64 b) (.int .i64 7) (.int .i64 7) (.int .i64 0)) := Off.keeps (.of_below (ex := fun _ => False) B10.out) P9.out id; have p0 : w10.cell? ⟨w.heap.size, 0, none⟩ = some (.int .i64 b) := P10.out.cell 0; clear S10 F10))
        go_ret
        exact ⟨rfl, below2 B9.out B10.out⟩
      · rw [hbit, if_neg (by rintro ⟨_, h⟩; exact hrb h)] at hE
        refine (c_Step_any W8 (w6.heap.size + 1) (modS r) (.slice none 0 0) (modM 2 r md b) [] M8.out (stk_nil _) (by decide) (.slice (some ⟨w6.heap.size, 0, none⟩) 2 2) false 0 0 0 0 Y8.out).mono ?_
        rintro e w9 ⟨s1, ad1, n1, cp1, out1, told1, rfl, hm9, hma9, ho9⟩
        have P9 : Hid (blk4 w9 w.heap.size 55 (.int .i64 b) (.int .i64 7) (.int .i64 7) (.int .i64 0)) := Off.keeps ho9 P8.out (by have h1 := PZ.out.lt; have h2 := B5.out.size; omega)
        have B9 := Lib.hid (Off.below B8.out ho9 B8.out.size (fun k hk => by have := n6.out; omega))
        rw [hE]
        clear hm9 hma9 ho9 M8 Y8 S8 P8 B8
        dsimp only
        go_wp2_with (first | ((with_reducible refine wpList_store_st (op := ⟨none, .store 33 (.tmp 13) (.tmp 60), _, _, _, _⟩) (N := w9.heap.size) (s := St.zero) (stk := .slice none 0 0) (s' := s1) (stk' := .slice ad1 n1 cp1) ?_ (.tmp 13) (.tmp 60) ?_ ?_ ?_ ?_ ?_ ?_); exact rfl; exact rfl; exact rfl; exact rfl; exact (show stAt _ w9.heap.size St.zero (.slice none 0 0) from heap_alloc_new w9 (.cells (stC St.zero (.slice none 0 0)) 33)); exact rfl; intro w10 S10 F10; have B10 : Hid (Below w9.heap.size w9 w10) := Off.below (below_al0 w9 (.cells (stC St.zero (.slice none 0 0)) 33)) F10 (by simp) (fun k hk => by omega); have P10 : Hid (blk4 w10 w.heap.size 55 (.int .i64 b) (.int .i64 7) (.int .i64 7) (.int .i64 0)) := Off.keeps (.of_below (ex := fun _ => False) B10.out) P9.out id; have p0 : w10.cell? ⟨w.heap.size, 0, none⟩ = some (.int .i64 b) := P10.out.cell 0; clear S10 F10))
        go_ret
        exact ⟨rfl, below2 B9.out B10.out⟩
  · have hmk := make3
    go_simp
    refine hK.out _ _ ?_ (fun hHeld => ?_)
    · exact below_al BC.out (.cells #[.bool false, .slice none 0 0, .int .i64 0, .int .i64 0, .int .i64 0, .int .i64 0, .int .i64 0] 57)
    clear hK K
    try simp only [Act.put, List.setIfInBounds_toArray, List.set_cons_zero, List.set_cons_succ]
    have T := Lib.hid (heap_alloc_new D (.cells #[.bool false, .slice none 0 0, .int .i64 0, .int .i64 0, .int .i64 0, .int .i64 0, .int .i64 0] 57))
    replace BC := Lib.hid (below_al BC.out (.cells #[.bool false, .slice none 0 0, .int .i64 0, .int .i64 0, .int .i64 0, .int .i64 0, .int .i64 0] 57))
    have hzX1 := Lib.hid (World.size_alloc D (.cells #[.bool false, .slice none 0 0, .int .i64 0, .int .i64 0, .int .i64 0, .int .i64 0, .int .i64 0] 57))
    generalize D.alloc (.cells #[.bool false, .slice none 0 0, .int .i64 0, .int .i64 0, .int .i64 0, .int .i64 0, .int .i64 0] 57) = X1 at hHeld T BC hzX1 ⊢
    refine wpAnyH_ready (rs := [2]) (by kernel_rfl) (by simp) (AllReadyH.cons (o := ⟨_, _, _, _, _, _⟩) rfl (fun K hK => ?_) AllReadyH.nil)
    go_simp
    refine hK.out _ _ ?_ (fun hHeld => ?_)
    · exact below_al BC.out (.cells #[.int .i64 0, .int .i64 0, .int .i64 0] 2)
    clear hK K
    try simp only [Act.put, List.setIfInBounds_toArray, List.set_cons_zero, List.set_cons_succ]
    replace T := Lib.hid (Off.keeps (ex := fun _ => False) ((Off.refl _ _).alloc (.cells #[.int .i64 0, .int .i64 0, .int .i64 0] 2)) T.out id)
    have V := Lib.hid (heap_alloc_new X1 (.cells #[.int .i64 0, .int .i64 0, .int .i64 0] 2))
    replace BC := Lib.hid (below_al BC.out (.cells #[.int .i64 0, .int .i64 0, .int .i64 0] 2))
    have hzX2 := Lib.hid (World.size_alloc X1 (.cells #[.int .i64 0, .int .i64 0, .int .i64 0] 2))
    generalize X1.alloc (.cells #[.int .i64 0, .int .i64 0, .int .i64 0] 2) = X2 at hHeld T V BC hzX2 ⊢
    refine wpAnyH_take (i := 3) (oi := ⟨_, _, _, _, _, _⟩) (v := ?_) rfl (by kernel_rfl) (by kernel_rfl) (by kernel_rfl) (fun _ _ _ h => h) (Or.inl ⟨by rfl, ?_⟩) (by assumption) ?_
    rotate_left
    · intro w hSw; (try dsimp only at hSw); go_simp; (try with_reducible rfl)
    try simp only [Act.put, List.setIfInBounds_toArray, List.set_cons_zero, List.set_cons_succ]
    have t0 : ∀ j, X2.frozen? ⟨D.heap.size, j, none⟩ = false := fun j => (show blk7 X2 (D.heap.size) 57 (.bool false) (.slice none 0 0) (.int .i64 0) (.int .i64 0) (.int .i64 0) (.int .i64 0) (.int .i64 0) from T.out).free j
    have tR : D.heap.size < X2.heap.size := (show blk7 X2 (D.heap.size) 57 (.bool false) (.slice none 0 0) (.int .i64 0) (.int .i64 0) (.int .i64 0) (.int .i64 0) (.int .i64 0) from T.out).lt
    have u0 : X2.cell? ⟨D.heap.size, 0, none⟩ = some (.bool false) := (show blk7 X2 (D.heap.size) 57 (.bool false) (.slice none 0 0) (.int .i64 0) (.int .i64 0) (.int .i64 0) (.int .i64 0) (.int .i64 0) from T.out).cell 0
    have u1 : X2.cell? ⟨D.heap.size, 1, none⟩ = some (.slice none 0 0) := (show blk7 X2 (D.heap.size) 57 (.bool false) (.slice none 0 0) (.int .i64 0) (.int .i64 0) (.int .i64 0) (.int .i64 0) (.int .i64 0) from T.out).cell 1
    have u2 : X2.cell? ⟨D.heap.size, 2, none⟩ = some (.int .i64 0) := (show blk7 X2 (D.heap.size) 57 (.bool false) (.slice none 0 0) (.int .i64 0) (.int .i64 0) (.int .i64 0) (.int .i64 0) (.int .i64 0) from T.out).cell 2
    have u3 : X2.cell? ⟨D.heap.size, 3, none⟩ = some (.int .i64 0) := (show blk7 X2 (D.heap.size) 57 (.bool false) (.slice none 0 0) (.int .i64 0) (.int .i64 0) (.int .i64 0) (.int .i64 0) (.int .i64 0) from T.out).cell 3
    have u4 : X2.cell? ⟨D.heap.size, 4, none⟩ = some (.int .i64 0) := (show blk7 X2 (D.heap.size) 57 (.bool false) (.slice none 0 0) (.int .i64 0) (.int .i64 0) (.int .i64 0) (.int .i64 0) (.int .i64 0) from T.out).cell 4
    have u5 : X2.cell? ⟨D.heap.size, 5, none⟩ = some (.int .i64 0) := (show blk7 X2 (D.heap.size) 57 (.bool false) (.slice none 0 0) (.int .i64 0) (.int .i64 0) (.int .i64 0) (.int .i64 0) (.int .i64 0) from T.out).cell 5
    have u6 : X2.cell? ⟨D.heap.size, 6, none⟩ = some (.int .i64 0) := (show blk7 X2 (D.heap.size) 57 (.bool false) (.slice none 0 0) (.int .i64 0) (.int .i64 0) (.int .i64 0) (.int .i64 0) (.int .i64 0) from T.out).cell 6
    refine wpAnyH_ready (rs := [5]) (by kernel_rfl) (by simp) (AllReadyH.cons (o := ⟨_, _, _, _, _, _⟩) rfl (fun K hK => ?_) AllReadyH.nil)
    go_simp
    have hTD : Hid (D.heap.size ≤ D.heap.size) := by have h1 := hzX1.out; have h2 := hzX2.out; show _ ≤ _; omega
    have BZ : Hid (Below D.heap.size D (((((((X2.setCell ⟨D.heap.size, 0, none⟩ (.bool true)).setCell ⟨D.heap.size, 1, none⟩ (.slice (some ⟨X1.heap.size, 0, none⟩) 3 3)).setCell ⟨D.heap.size, 2, none⟩ (.int .i64 md)).setCell ⟨D.heap.size, 3, none⟩ (.int .i64 b)).setCell ⟨D.heap.size, 4, none⟩ (.int .i64 7)).setCell ⟨D.heap.size, 5, none⟩ (.int .i64 7)).setCell ⟨D.heap.size, 6, none⟩ (.int .i64 0))) := Off.below BC.out (off7 X2 (D.heap.size) (.bool true) (.slice (some ⟨X1.heap.size, 0, none⟩) 3 3) (.int .i64 md) (.int .i64 b) (.int .i64 7) (.int .i64 7) (.int .i64 0)) BC.out.size (fun k hk => by subst hk; exact hTD.out)
    refine hK.out _ _ ?_ (fun hHeld => ?_)
    · exact BZ.out
    clear hK K
    try simp only [Act.put, List.setIfInBounds_toArray, List.set_cons_zero, List.set_cons_succ]
    have hGD : Hid (w3.heap.size < D.heap.size) := GD.out.lt
    have hPD : Hid (w.heap.size < D.heap.size) := PD.out.lt
    have TZ := Lib.hid (set7 (show blk7 X2 (D.heap.size) 57 (.bool false) (.slice none 0 0) (.int .i64 0) (.int .i64 0) (.int .i64 0) (.int .i64 0) (.int .i64 0) from T.out) (.bool true) (.slice (some ⟨X1.heap.size, 0, none⟩) 3 3) (.int .i64 md) (.int .i64 b) (.int .i64 7) (.int .i64 7) (.int .i64 0))
    have OZ := Lib.hid (off7 X2 (D.heap.size) (.bool true) (.slice (some ⟨X1.heap.size, 0, none⟩) 3 3) (.int .i64 md) (.int .i64 b) (.int .i64 7) (.int .i64 7) (.int .i64 0))
    have hPV : Hid (¬ X1.heap.size = D.heap.size) := by have h1 := hzX1.out; show ¬ _; omega
    have VZ : Hid ((((((((X2.setCell ⟨D.heap.size, 0, none⟩ (.bool true)).setCell ⟨D.heap.size, 1, none⟩ (.slice (some ⟨X1.heap.size, 0, none⟩) 3 3)).setCell ⟨D.heap.size, 2, none⟩ (.int .i64 md)).setCell ⟨D.heap.size, 3, none⟩ (.int .i64 b)).setCell ⟨D.heap.size, 4, none⟩ (.int .i64 7)).setCell ⟨D.heap.size, 5, none⟩ (.int .i64 7)).setCell ⟨D.heap.size, 6, none⟩ (.int .i64 0)).ownsRow 0 2 1 (.slice (some ⟨X1.heap.size, 0, none⟩) 3 3) 3 (([0, 0, 0] : List Int).map (Value.int .i64))) := ⟨rfl, .inr ⟨X1.heap.size, 3, _, rfl, Nat.zero_le _, Off.keeps OZ.out V.out hPV.out, Nat.le_refl _, by decide, rfl, rfl⟩⟩
    generalize (((((((X2.setCell ⟨D.heap.size, 0, none⟩ (.bool true)).setCell ⟨D.heap.size, 1, none⟩ (.slice (some ⟨X1.heap.size, 0, none⟩) 3 3)).setCell ⟨D.heap.size, 2, none⟩ (.int .i64 md)).setCell ⟨D.heap.size, 3, none⟩ (.int .i64 b)).setCell ⟨D.heap.size, 4, none⟩ (.int .i64 7)).setCell ⟨D.heap.size, 5, none⟩ (.int .i64 7)).setCell ⟨D.heap.size, 6, none⟩ (.int .i64 0)) = Z at BZ TZ OZ VZ ⊢
    have GZ : Hid (blk7 Z w3.heap.size 57 (.bool true) (.slice adu 1 cpu) (.int .i64 7) (.int .i64 r) (.int .i64 r) (.int .i64 r) (.int .i64 0)) := Off.keeps (.of_below (ex := fun _ => False) BZ.out) GD.out id
    have UZ : Hid (Z.ownsRow 0 2 1 (.slice adu 1 cpu) 1 (([encI 2 1 0] : List Int).map (Value.int .i64))) := Off.row (ex := fun _ => False) (.of_below BZ.out) UD.out (fun _ h => h.elim)
    have PZ : Hid (blk4 Z w.heap.size 55 (.int .i64 b) (.int .i64 7) (.int .i64 7) (.int .i64 0)) := Off.keeps (.of_below (ex := fun _ => False) BZ.out) PD.out id
    have BX := Lib.hid (below2 BD.out BZ.out)
    have hTZ : Hid (D.heap.size < Z.heap.size) := TZ.out.lt
    have hGT : Hid (¬ w3.heap.size = D.heap.size) := by have h1 := hGD.out; have h2 := hTD.out; show ¬ _; omega
    clear GD UD PD BD BC T V OZ hHeld u0 u1 u2 u3 u4 u5 u6 t0 tR hPV BZ hmk
    refine wpAnyH_done (by kernel_rfl) ?_ _
    go_wp2_with (first | (go_at_call 17; refine (c_New _).mono ?_; rintro e w5 ⟨rfl, hb5⟩; have B5 := Lib.hid hb5; clear hb5; dsimp only) | ((with_reducible refine wpList_load_st (op := ⟨some 52, .load 33 (.tmp 12), _, _, _, _⟩) (N := w5.heap.size) (s := (modS r)) (stk := (.slice none 0 0)) ?_ (.tmp 12) ?_ ?_ ?_ ?_); exact rfl; exact rfl; exact rfl; exact st_range HL.out) | ((with_reducible refine wpList_store_st (op := ⟨none, .store 33 (.tmp 12) (.tmp 45), _, _, _, _⟩) (N := w5.heap.size) (s := St.zero) (stk := .slice none 0 0) (s' := St.new) (stk' := .slice none 0 0) ?_ (.tmp 12) (.tmp 45) ?_ ?_ ?_ ?_ ?_ ?_); exact rfl; exact rfl; exact rfl; exact rfl; exact (show stAt _ w5.heap.size St.zero (.slice none 0 0) from heap_alloc_new w5 (.cells (stC St.zero (.slice none 0 0)) 33)); exact rfl; intro w6 S6 F6; have B6 : Hid (Below Z.heap.size Z w6) := below2 B5.out (Off.below (below_al0 w5 (.cells (stC St.zero (.slice none 0 0)) 33)) F6 (by simp) (fun k hk => by omega)); have G6 : Hid (blk7 w6 w3.heap.size 57 (.bool true) (.slice adu 1 cpu) (.int .i64 7) (.int .i64 r) (.int .i64 r) (.int .i64 r) (.int .i64 0)) := Off.keeps (.of_below (ex := fun _ => False) B6.out) GZ.out id; have T6 : Hid (blk7 w6 (D.heap.size) 57 (.bool true) (.slice (some ⟨X1.heap.size, 0, none⟩) 3 3) (.int .i64 md) (.int .i64 b) (.int .i64 7) (.int .i64 7) (.int .i64 0)) := Off.keeps (.of_below (ex := fun _ => False) B6.out) TZ.out id; have g0 : w6.cell? ⟨w3.heap.size, 0, none⟩ = some (.bool true) := G6.out.cell 0; have g1 : w6.cell? ⟨w3.heap.size, 1, none⟩ = some (.slice adu 1 cpu) := G6.out.cell 1; have g2 : w6.cell? ⟨w3.heap.size, 2, none⟩ = some (.int .i64 7) := G6.out.cell 2; have g3 : w6.cell? ⟨w3.heap.size, 3, none⟩ = some (.int .i64 r) := G6.out.cell 3; have g4 : w6.cell? ⟨w3.heap.size, 4, none⟩ = some (.int .i64 r) := G6.out.cell 4; have g5 : w6.cell? ⟨w3.heap.size, 5, none⟩ = some (.int .i64 r) := G6.out.cell 5; have g6 : w6.cell? ⟨w3.heap.size, 6, none⟩ = some (.int .i64 0) := G6.out.cell 6; have d0 : w6.cell? ⟨D.heap.size, 0, none⟩ = some (.bool true) := T6.out.cell 0; have d1 : w6.cell? ⟨D.heap.size, 1, none⟩ = some (.slice (some ⟨X1.heap.size, 0, none⟩) 3 3) := T6.out.cell 1; have d2 : w6.cell? ⟨D.heap.size, 2, none⟩ = some (.int .i64 md) := T6.out.cell 2; have d3 : w6.cell? ⟨D.heap.size, 3, none⟩ = some (.int .i64 b) := T6.out.cell 3; have d4 : w6.cell? ⟨D.heap.size, 4, none⟩ = some (.int .i64 7) := T6.out.cell 4; have d5 : w6.cell? ⟨D.heap.size, 5, none⟩ = some (.int .i64 7) := T6.out.cell 5; have d6 : w6.cell? ⟨D.heap.size, 6, none⟩ = some (.int .i64 0) := T6.out.cell 6; have s2 : w6.cell? ⟨w5.heap.size, 2, none⟩ = some (.int .i64 4) := S6.cell 2; have s7 : w6.cell? ⟨w5.heap.size, 7, none⟩ = some (.int .i64 1) := S6.cell 7; have s8 : w6.cell? ⟨w5.heap.size, 8, none⟩ = some (.int .i64 0) := S6.cell 8; have s9 : w6.cell? ⟨w5.heap.size, 9, none⟩ = some (.int .i64 4) := S6.cell 9; have sf : ∀ j, w6.frozen? ⟨w5.heap.size, j, none⟩ = false := (fun j => S6.free j); have sR : w5.heap.size < w6.heap.size := S6.lt; have n1 : ¬ w5.heap.size = w3.heap.size := (by have h1 := GZ.out.lt; have h2 := B5.out.size; omega); have n2 : ¬ w3.heap.size = w5.heap.size := (fun h => n1 h.symm); have n3 : ¬ w5.heap.size = D.heap.size := (by have h1 := hTZ.out; have h2 := B5.out.size; omega); have n4 : ¬ D.heap.size = w5.heap.size := (fun h => n3 h.symm); have HL : Hid (stAt ((((w6.setCell ⟨w5.heap.size, 2, none⟩ (.int .i64 r)).setCell ⟨w5.heap.size, 7, none⟩ (.int .i64 1)).setCell ⟨w5.heap.size, 8, none⟩ (.int .i64 0)).setCell ⟨w5.heap.size, 9, none⟩ (.int .i64 0)) w5.heap.size (modS r) (.slice none 0 0)) := st_p1r S6 r 1 0 0; replace S6 := Lib.hid S6; clear F6))
    have n5 : Hid (¬ w5.heap.size = w6.heap.size + 1) := by show ¬ _; omega
    have n6 : Hid (w.heap.size ≤ w5.heap.size) := by have h1 := BX.out.size; have h2 := B5.out.size; show _ ≤ _; omega
    obtain ⟨W8, hW8, M8, Y8, S8, P8, B8⟩ : ∃ W, (((((w6.setCell ⟨w5.heap.size, 2, none⟩ (.int .i64 r)).setCell ⟨w5.heap.size, 7, none⟩ (.int .i64 1)).setCell ⟨w5.heap.size, 8, none⟩ (.int .i64 0)).setCell ⟨w5.heap.size, 9, none⟩ (.int .i64 0)).alloc (.cells #[.bool true, .slice adu 1 cpu, .int .i64 7, .int .i64 r, .int .i64 r, .int .i64 r, .int .i64 0, .bool true, .slice (some ⟨X1.heap.size, 0, none⟩) 3 3, .int .i64 md, .int .i64 b, .int .i64 7, .int .i64 7, .int .i64 0] 57)).alloc (.cells #[.slice (some ⟨w6.heap.size, 0, none⟩) 2 2, .bool false, .int .i64 0, .int .i64 0, .int .i64 0, .int .i64 0] 47) = W ∧ Hid (MemOk W 0 (w6.heap.size + 1) (modM 2 r md b)) ∧ Hid (memAt W 0 (w6.heap.size + 1) (.slice (some ⟨w6.heap.size, 0, none⟩) 2 2) false 0 0 0 0) ∧ Hid (stAt W w5.heap.size (modS r) (.slice none 0 0)) ∧ Hid (blk4 W w.heap.size 55 (.int .i64 b) (.int .i64 7) (.int .i64 7) (.int .i64 0)) ∧ Hid (Below w.heap.size w W) := by
      have O7 : Off (· = w5.heap.size) w6 ((((w6.setCell ⟨w5.heap.size, 2, none⟩ (.int .i64 r)).setCell ⟨w5.heap.size, 7, none⟩ (.int .i64 1)).setCell ⟨w5.heap.size, 8, none⟩ (.int .i64 0)).setCell ⟨w5.heap.size, 9, none⟩ (.int .i64 0)) := (((off1 _ _ _ _).trans (off1 _ _ _ _)).trans (off1 _ _ _ _)).trans (off1 _ _ _ _)
      have O8 : Off (· = w5.heap.size) w6 ((((((w6.setCell ⟨w5.heap.size, 2, none⟩ (.int .i64 r)).setCell ⟨w5.heap.size, 7, none⟩ (.int .i64 1)).setCell ⟨w5.heap.size, 8, none⟩ (.int .i64 0)).setCell ⟨w5.heap.size, 9, none⟩ (.int .i64 0)).alloc (.cells #[.bool true, .slice adu 1 cpu, .int .i64 7, .int .i64 r, .int .i64 r, .int .i64 r, .int .i64 0, .bool true, .slice (some ⟨X1.heap.size, 0, none⟩) 3 3, .int .i64 md, .int .i64 b, .int .i64 7, .int .i64 7, .int .i64 0] 57)).alloc (.cells #[.slice (some ⟨w6.heap.size, 0, none⟩) 2 2, .bool false, .int .i64 0, .int .i64 0, .int .i64 0, .int .i64 0] 47)) := (O7.alloc _).alloc _
      have hs := heap_alloc_new ((((w6.setCell ⟨w5.heap.size, 2, none⟩ (.int .i64 r)).setCell ⟨w5.heap.size, 7, none⟩ (.int .i64 1)).setCell ⟨w5.heap.size, 8, none⟩ (.int .i64 0)).setCell ⟨w5.heap.size, 9, none⟩ (.int .i64 0)) (.cells #[.bool true, .slice adu 1 cpu, .int .i64 7, .int .i64 r, .int .i64 r, .int .i64 r, .int .i64 0, .bool true, .slice (some ⟨X1.heap.size, 0, none⟩) 3 3, .int .i64 md, .int .i64 b, .int .i64 7, .int .i64 7, .int .i64 0] 57)
      have hy := heap_alloc_new (((((w6.setCell ⟨w5.heap.size, 2, none⟩ (.int .i64 r)).setCell ⟨w5.heap.size, 7, none⟩ (.int .i64 1)).setCell ⟨w5.heap.size, 8, none⟩ (.int .i64 0)).setCell ⟨w5.heap.size, 9, none⟩ (.int .i64 0)).alloc (.cells #[.bool true, .slice adu 1 cpu, .int .i64 7, .int .i64 r, .int .i64 r, .int .i64 r, .int .i64 0, .bool true, .slice (some ⟨X1.heap.size, 0, none⟩) 3 3, .int .i64 md, .int .i64 b, .int .i64 7, .int .i64 7, .int .i64 0] 57)) (.cells #[.slice (some ⟨w6.heap.size, 0, none⟩) 2 2, .bool false, .int .i64 0, .int .i64 0, .int .i64 0, .int .i64 0] 47)
      rw [World.size_setCell, World.size_setCell, World.size_setCell, World.size_setCell] at hs
      rw [World.size_alloc, World.size_setCell, World.size_setCell, World.size_setCell, World.size_setCell] at hy
      have hs' := Off.keeps (ex := fun _ => False) ((Off.refl _ (((((w6.setCell ⟨w5.heap.size, 2, none⟩ (.int .i64 r)).setCell ⟨w5.heap.size, 7, none⟩ (.int .i64 1)).setCell ⟨w5.heap.size, 8, none⟩ (.int .i64 0)).setCell ⟨w5.heap.size, 9, none⟩ (.int .i64 0)).alloc (.cells #[.bool true, .slice adu 1 cpu, .int .i64 7, .int .i64 r, .int .i64 r, .int .i64 r, .int .i64 0, .bool true, .slice (some ⟨X1.heap.size, 0, none⟩) 3 3, .int .i64 md, .int .i64 b, .int .i64 7, .int .i64 7, .int .i64 0] 57))).alloc (.cells #[.slice (some ⟨w6.heap.size, 0, none⟩) 2 2, .bool false, .int .i64 0, .int .i64 0, .int .i64 0, .int .i64 0] 47)) hs id
      have hN := st_not S6.out 2 (by decide)
      have U8 := Off.row O8 (Off.row (ex := fun _ => False) (.of_below B6.out) UZ.out (fun _ h => h.elim)) hN
      have V8 := Off.row O8 (Off.row (ex := fun _ => False) (.of_below B6.out) VZ.out (fun _ h => h.elim)) hN
      refine ⟨_, rfl, ?_, hy, ?_, ?_, ?_⟩
      · exact mem_at2 _ w6.heap.size (w6.heap.size + 1) ⟨true, [encI 2 1 0], 7, r, r, r, 0⟩ ⟨true, [0, 0, 0], md, b, 7, 7, 0⟩ _ _ hs' hy U8 V8 (by show 1 < 1000000; decide) (by show 3 < 1000000; decide)
      · exact Off.keeps (ex := fun _ => False) (((Off.refl _ _).alloc _).alloc _) HL.out id
      · exact Off.keeps O8 (Off.keeps (.of_below (ex := fun _ => False) B6.out) PZ.out id) (by have h1 := PZ.out.lt; have h2 := B5.out.size; omega)
      · exact Off.below (below2 BX.out B6.out) O8 (below2 BX.out B6.out).size (fun k hk => by have := n6.out; omega)
    rw [hW8]
    clear hW8 HL G6 T6 g0 g1 g2 g3 g4 g5 g6 d0 d1 d2 d3 d4 d5 d6 s2 s7 s8 s9 sf n1 n2 n3 n4 S6 GZ UZ VZ TZ
    have hE := mod_write r md b OO.out.1 OO.out.2.1
    cases hbit : (bits .and .i64 md 2 != 0)
    · rw [hbit, if_neg (by rintro ⟨h, _⟩; cases h)] at hE
      refine (c_Step_any W8 (w6.heap.size + 1) (modS r) (.slice none 0 0) (modM 2 r md b) [] M8.out (stk_nil _) (by decide) (.slice (some ⟨w6.heap.size, 0, none⟩) 2 2) false 0 0 0 0 Y8.out).mono ?_
      rintro e w9 ⟨s1, ad1, n1, cp1, out1, told1, rfl, hm9, hma9, ho9⟩
      have P9 : Hid (blk4 w9 w.heap.size 55 (.int .i64 b) (.int .i64 7) (.int .i64 7) (.int .i64 0)) := Off.keeps ho9 P8.out (by have h1 := PZ.out.lt; have h2 := B5.out.size; omega)
      have B9 := Lib.hid (Off.below B8.out ho9 B8.out.size (fun k hk => by have := n6.out; omega))
      rw [hE]
      clear hm9 hma9 ho9 M8 Y8 S8 P8 B8
      dsimp only
      go_wp2_with (first | ((with_reducible refine wpList_store_st (op := ⟨none, .store 33 (.tmp 13) (.tmp 60), _, _, _, _⟩) (N := w9.heap.size) (s := St.zero) (stk := .slice none 0 0) (s' := s1) (stk' := .slice ad1 n1 cp1) ?_ (.tmp 13) (.tmp 60) ?_ ?_ ?_ ?_ ?_ ?_); exact rfl; exact rfl; exact rfl; exact rfl; exact (show stAt _ w9.heap.size St.zero (.slice none 0 0) from heap_alloc_new w9 (.cells (stC St.zero (.slice none 0 0)) 33)); exact rfl; intro w10 S10 F10; have B10 : Hid (Below w9.heap.size w9 w10) := Off.below (below_al0 w9 (.cells (stC St.zero (.slice none 0 0)) 33)) F10 (by simp) (fun k hk => by omega); have P10 : Hid (blk4 w10 w.heap.size 55 (.int .i64 b) (.int .i64 7) (.int .i64 7) (.int .i64 0)) := Off.keeps (.of_below (ex := fun _ => False) B10.out) P9.out id; have p0 : w10.cell? ⟨w.heap.size, 0, none⟩ = some (.int .i64 b) := P10.out.cell 0; clear S10 F10))
      go_ret
      exact ⟨rfl, below2 B9.out B10.out⟩
    · by_cases hrb : r ≤ b
      · rw [hbit, if_pos ⟨rfl, hrb⟩] at hE
        refine (c_Step_any W8 (w6.heap.size + 1) (modS r) (.slice none 0 0) (modM 2 r md b) [] M8.out (stk_nil _) (by decide) (.slice (some ⟨w6.heap.size, 0, none⟩) 2 2) false 0 0 0 0 Y8.out).mono ?_
        rintro e w9 ⟨s1, ad1, n1, cp1, out1, told1, rfl, hm9, hma9, ho9⟩
        have P9 : Hid (blk4 w9 w.heap.size 55 (.int .i64 b) (.int .i64 7) (.int .i64 7) (.int .i64 0)) := Off.keeps ho9 P8.out (by have h1 := PZ.out.lt; have h2 := B5.out.size; omega)
        have B9 := Lib.hid (Off.below B8.out ho9 B8.out.size (fun k hk => by have := n6.out; omega))
        rw [hE]
        clear hm9 hma9 ho9 M8 Y8 S8 P8 B8
        dsimp only
        go_wp2_with (first | ((with_reducible refine wpList_store_st (op := ⟨none, .store 33 (.tmp 13) (.tmp 60), _, _, _, _⟩) (N := w9.heap.size) (s := St.zero) (stk := .slice none 0 0) (s' := s1) (stk' := .slice ad1 n1 cp1) ?_ (.tmp 13) (.tmp 60) ?_ ?_ ?_ ?_ ?_ ?_); exact rfl; exact rfl; exact rfl; exact rfl; exact (show stAt _ w9.heap.size St.zero (.slice none 0 0) from heap_alloc_new w9 (.cells (stC St.zero (.slice none 0 0)) 33)); exact rfl; intro w10 S10 F10; have B10 : Hid (Below w9.heap.size w9 w10) := Off.below (below_al0 w9 (.cells (stC St.zero (.slice none 0 0)) 33)) F10 (by simp) (fun k hk => by omega); have P10 : Hid (blk4 w10 w.heap.size 55 (.int .i64 b) (.int .i64 7) (.int .i64 7) (.int .i64 0)) := Off.keeps (.of_below (ex := fun _ => False) B10.out) P9.out id; have p0 : w10.cell? ⟨w.heap.size, 0, none⟩ = some (.int .i64 b) := P10.out.cell 0; clear S10 F10))
        go_ret
        exact ⟨rfl, below2 B9.out B10.out⟩
      · rw [hbit, if_neg (by rintro ⟨_, h⟩; exact hrb h)] at hE
        refine (c_Step_any W8 (w6.heap.size + 1) (modS r) (.slice none 0 0) (modM 2 r md b) [] M8.out (stk_nil _) (by decide) (.slice (some ⟨w6.heap.size, 0, none⟩) 2 2) false 0 0 0 0 Y8.out).mono ?_
        rintro e w9 ⟨s1, ad1, n1, cp1, out1, told1, rfl, hm9, hma9, ho9⟩
        have P9 : Hid (blk4 w9 w.heap.size 55 (.int .i64 b) (.int .i64 7) (.int .i64 7) (.int .i64 0)) := Off.keeps ho9 P8.out (by have h1 := PZ.out.lt; have h2 := B5.out.size; omega)
        have B9 := Lib.hid (Off.below B8.out ho9 B8.out.size (fun k hk => by have := n6.out; omega))
        rw [hE]
        clear hm9 hma9 ho9 M8 Y8 S8 P8 B8
        dsimp only
        go_wp2_with (first | ((with_reducible refine wpList_store_st (op := ⟨none, .store 33 (.tmp 13) (.tmp 60), _, _, _, _⟩) (N := w9.heap.size) (s := St.zero) (stk := .slice none 0 0) (s' := s1) (stk' := .slice ad1 n1 cp1) ?_ (.tmp 13) (.tmp 60) ?_ ?_ ?_ ?_ ?_ ?_); exact rfl; exact rfl; exact rfl; exact rfl; exact (show stAt _ w9.heap.size St.zero (.slice none 0 0) from heap_alloc_new w9 (.cells (stC St.zero (.slice none 0 0)) 33)); exact rfl; intro w10 S10 F10; have B10 : Hid (Below w9.heap.size w9 w10) := Off.below (below_al0 w9 (.cells (stC St.zero (.slice none 0 0)) 33)) F10 (by simp) (fun k hk => by omega); have P10 : Hid (blk4 w10 w.heap.size 55 (.int .i64 b) (.int .i64 7) (.int .i64 7) (.int .i64 0)) := Off.keeps (.of_below (ex := fun _ => False) B10.out) P9.out id; have p0 : w10.cell? ⟨w.heap.size, 0, none⟩ = some (.int .i64 b) := P10.out.cell 0; clear S10 F10))
        go_ret
        exact ⟨rfl, below2 B9.out B10.out⟩
end Go.Proofs.Ytiakonmamkfopaa
