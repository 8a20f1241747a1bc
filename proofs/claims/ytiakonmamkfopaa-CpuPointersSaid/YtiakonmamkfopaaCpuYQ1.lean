/- CpuPointers: the law's walk (under way). -/
import Derived.Test.YtiakonmamkfopaaCpuYQ0
import Derived.Deep.RegionHeld3
namespace Go.Proofs.Ytiakonmamkfopaa
open Go.RowKit Go.ChangeShapes
set_option linter.unusedVariables false
set_option maxRecDepth 100000

set_option maxHeartbeats 8000000 in
theorem lawP1 (a x y : Int) (hx : x % 4 = 1) (w : World) : Calls Try.prog 10 #[.int .i64 a, .int .i64 x, .int .i64 y] w fun e w' => e = .returned (.bool true) ∧ Below w.heap.size w w' := by
  obtain ⟨r, hr⟩ : ∃ r, y % 8 = r := ⟨_, rfl⟩
  have r0 : 0 ≤ r := by omega
  have r1 : r < 8 := by omega
  have hk1 := Lib.hid (point_st1 a 1 r r0 r1 (by decide) (by decide))
  have hk2 := Lib.hid (point_st2 a 1 r r0 r1 (by decide) (by decide))
  replace hp := Lib.hid hx
  replace hr := Lib.hid hr
  replace r0 := Lib.hid r0
  replace r1 := Lib.hid r1
  go_enter Try.func10, Try.ntmps10
  go_wp2_with (first | (go_at_call 14; refine (c_known _).mono ?_; rintro e w1 ⟨rfl, hb1'⟩; have HB1 := Lib.hid hb1'; clear hb1') | (go_at_call 21; refine (within16 _ _ (by decide) (by decide) _).mono ?_; rintro e w2 ⟨rfl, hw2⟩; subst hw2; (first | rw [hp.out] | rw [hr.out])))
  obtain ⟨W2, hW2, hI, HB2⟩ : ∃ W, w1.alloc (.cells #[.int .i64 17, .int .i64 1, .int .i64 0, .int .i64 19, .int .i64 1, .int .i64 0] 64) = W ∧ W.heap[w1.heap.size]? = some (.cells #[.int .i64 17, .int .i64 1, .int .i64 0, .int .i64 19, .int .i64 1, .int .i64 0] 64 (0, 0)) ∧ Hid (Below w.heap.size w W) := ⟨_, rfl, heap_alloc_new _ _, below_al HB1.out _⟩
  rw [hW2]
  clear hW2
  refine (c_one2 W2 w1.heap.size 17 1 0 (by decide) (by decide) (by decide) (by decide) (by decide) (by decide) 19 1 0 (by decide) (by decide) (by decide) (by decide) (by decide) (by decide) hI).mono ?_
  rintro e w3 ⟨ad, cp, rfl, hu, hb3⟩
  have HU := Lib.hid (row_base hu (Nat.zero_le _))
  have HB3 := Lib.hid (below2 HB2.out hb3)
  clear hu hb3 hI
  go_wp2_with fail
  obtain ⟨W4, hW4, G4, F4⟩ : ∃ W, w3.alloc (.cells #[.bool true, .slice ad 2 cp, .int .i64 7, .int .i64 r, .int .i64 r, .int .i64 r, .int .i64 0] 57) = W ∧ Hid (blk7 W w3.heap.size 57 (.bool true) (.slice ad 2 cp) (.int .i64 7) (.int .i64 r) (.int .i64 r) (.int .i64 r) (.int .i64 0)) ∧ Hid (Below w3.heap.size w3 W) := ⟨_, rfl, heap_alloc_new _ _, below_al0 _ _⟩
  rw [hW4]
  clear hW4
  refine (c_New W4).mono ?_
  rintro e w5 ⟨rfl, hb5⟩
  have F5 := Lib.hid (below2 F4.out hb5)
  have G5 : Hid (blk7 w5 w3.heap.size 57 (.bool true) (.slice ad 2 cp) (.int .i64 7) (.int .i64 r) (.int .i64 r) (.int .i64 r) (.int .i64 0)) := Off.keeps (.of_below (ex := fun _ => False) hb5) G4.out id
  have hz3 := Lib.hid (blk7.lt G5.out)
  clear hb5
  go_wp2_with (first | (refine wpList_store_st (s' := St.new) (stk' := .slice none 0 0) rfl (.tmp 8) (.tmp 36) rfl rfl rfl (show stAt _ w5.heap.size St.zero (.slice none 0 0) from heap_alloc_new w5 (.cells (stC St.zero (.slice none 0 0)) 33)) rfl ?_; intro w6 S6 F6; have HB6 : Hid (Below w5.heap.size w5 w6) := Off.below (below_al0 w5 (.cells (stC St.zero (.slice none 0 0)) 33)) F6 (by simp) (fun k hk => by omega); have c2 : w6.cell? ⟨w5.heap.size, 2, none⟩ = some (.int .i64 4) := S6.cell 2; have c3 : w6.cell? ⟨w5.heap.size, 3, none⟩ = some (.int .i64 0) := S6.cell 3; have cf : ∀ j, w6.frozen? ⟨w5.heap.size, j, none⟩ = false := (fun j => S6.free j); have cR : w5.heap.size < w6.heap.size := S6.lt; have cN : ¬ w3.heap.size = w5.heap.size := (by have := hz3.out; omega); have G6 : Hid (blk7 w6 w3.heap.size 57 (.bool true) (.slice ad 2 cp) (.int .i64 7) (.int .i64 r) (.int .i64 r) (.int .i64 r) (.int .i64 0)) := Off.keeps (.of_below (ex := fun _ => False) HB6.out) G5.out id; have g0 : w6.cell? ⟨w3.heap.size, 0, none⟩ = some (.bool true) := G6.out.cell 0; have g1 : w6.cell? ⟨w3.heap.size, 1, none⟩ = some (.slice ad 2 cp) := G6.out.cell 1; have g2 : w6.cell? ⟨w3.heap.size, 2, none⟩ = some (.int .i64 7) := G6.out.cell 2; have g3 : w6.cell? ⟨w3.heap.size, 3, none⟩ = some (.int .i64 r) := G6.out.cell 3; have g4 : w6.cell? ⟨w3.heap.size, 4, none⟩ = some (.int .i64 r) := G6.out.cell 4; have g5 : w6.cell? ⟨w3.heap.size, 5, none⟩ = some (.int .i64 r) := G6.out.cell 5; have g6 : w6.cell? ⟨w3.heap.size, 6, none⟩ = some (.int .i64 0) := G6.out.cell 6; have S6 := Lib.hid S6; have HL : Hid (stAt ((((w6.setCell ⟨w5.heap.size, 2, none⟩ (.int .i64 r)).setCell ⟨w5.heap.size, 3, none⟩ (.int .i64 a)).alloc (.cells #[.bool true, .slice ad 2 cp, .int .i64 7, .int .i64 r, .int .i64 r, .int .i64 r, .int .i64 0] 57)).alloc (.cells #[.slice (some ⟨w6.heap.size, 0, none⟩) 1 1, .bool false, .int .i64 0, .int .i64 0, .int .i64 0, .int .i64 0] 47)) w5.heap.size { St.new with ring := r, a := a } (.slice none 0 0)) := Off.keeps (ex := fun _ => False) (((Off.refl _ _).alloc _).alloc _) (st_set23 S6.out r a) id; clear F6) | (refine wpList_load_st rfl (.tmp 8) rfl rfl (st_range HL.out) ?_))
  obtain ⟨W7, hW7, Y7, G7, F7⟩ : ∃ W, (((w6.setCell ⟨w5.heap.size, 2, none⟩ (.int .i64 r)).setCell ⟨w5.heap.size, 3, none⟩ (.int .i64 a)).alloc (.cells #[.bool true, .slice ad 2 cp, .int .i64 7, .int .i64 r, .int .i64 r, .int .i64 r, .int .i64 0] 57)).alloc (.cells #[.slice (some ⟨w6.heap.size, 0, none⟩) 1 1, .bool false, .int .i64 0, .int .i64 0, .int .i64 0, .int .i64 0] 47) = W ∧ Hid (memAt W 0 (w6.heap.size + 1) (.slice (some ⟨w6.heap.size, 0, none⟩) 1 1) false 0 0 0 0) ∧ Hid (blk7 W w6.heap.size 57 (.bool true) (.slice ad 2 cp) (.int .i64 7) (.int .i64 r) (.int .i64 r) (.int .i64 r) (.int .i64 0)) ∧ Hid (Off (· = w5.heap.size) w6 W) := by
    refine ⟨_, rfl, ?_, ?_, (((off1 _ _ _ _).trans (off1 _ _ _ _)).alloc _).alloc _⟩
    · have h := heap_alloc_new (((w6.setCell ⟨w5.heap.size, 2, none⟩ (.int .i64 r)).setCell ⟨w5.heap.size, 3, none⟩ (.int .i64 a)).alloc (.cells #[.bool true, .slice ad 2 cp, .int .i64 7, .int .i64 r, .int .i64 r, .int .i64 r, .int .i64 0] 57)) (.cells #[.slice (some ⟨w6.heap.size, 0, none⟩) 1 1, .bool false, .int .i64 0, .int .i64 0, .int .i64 0, .int .i64 0] 47)
      rw [World.size_alloc, World.size_setCell, World.size_setCell] at h
      exact h
    · have h := heap_alloc_new ((w6.setCell ⟨w5.heap.size, 2, none⟩ (.int .i64 r)).setCell ⟨w5.heap.size, 3, none⟩ (.int .i64 a)) (.cells #[.bool true, .slice ad 2 cp, .int .i64 7, .int .i64 r, .int .i64 r, .int .i64 r, .int .i64 0] 57)
      rw [World.size_setCell, World.size_setCell] at h
      exact Off.keeps (ex := fun _ => False) ((Off.refl _ _).alloc _) h id
  rw [hW7]
  clear hW7 HL c2 c3 cf cR g0 g1 g2 g3 g4 g5 g6
  have O7 : Hid (Below w5.heap.size w5 W7) := Off.below HB6.out F7.out HB6.out.size (fun k hk => by omega)
  have U7 := Off.row (ex := fun _ => False) (.of_below (below2 F5.out O7.out)) HU.out (fun _ h => h.elim)
  have M7 := mem_at W7 w6.heap.size (w6.heap.size + 1) (Sg.point 1 r) _ G7.out Y7.out U7 (by show 2 < 1000000; decide)
  have B7 := Lib.hid (below2 (below2 HB3.out F5.out) O7.out)
  have hY7 : Hid (w.heap.size ≤ w6.heap.size) := by have h1 := HB3.out.size; have h2 := HB6.out.size; have h3 := F5.out.size; show _ ≤ _; omega
  clear U7
  refine (c_Step_ok W7 0 (w6.heap.size + 1) { St.new with ring := r, a := a } (.slice none 0 0) [Sg.point 1 r] [] M7 (stk_nil _) (by decide) (.slice (some ⟨w6.heap.size, 0, none⟩) 1 1) false 0 0 0 0 Y7.out _ hk1.out).mono ?_
  rintro e w8 ⟨stk1, rfl, hs1, hmt1, ho1⟩
  obtain ⟨ad1, cp1, hv1, _, _⟩ := row_shape hs1
  subst hv1
  have B8 := Lib.hid (Off.below B7.out ho1 B7.out.size (fun k hk => by have h1 := hY7.out; omega))
  have M8 := Lib.hid (M7.step Y7.out ho1 hmt1)
  have Y8 := Lib.hid hmt1
  have S8 := Lib.hid hs1
  clear hs1 hmt1 ho1 M7
  go_wp2_with (first | (refine wpList_store_st (s' := ({ St.new with ring := r, a := a, off := 1 } : St).setP (1 : Int).toNat ⟨pSeg a, pOff a, max r (pRing a)⟩) (stk' := .slice ad1 0 cp1) rfl (.tmp 10) (.tmp 50) rfl rfl rfl (show stAt _ w8.heap.size St.zero (.slice none 0 0) from heap_alloc_new w8 (.cells (stC St.zero (.slice none 0 0)) 33)) rfl ?_; intro w9 S9 F9; have B9 : Hid (Below w8.heap.size w8 w9) := Off.below (below_al0 w8 (.cells (stC St.zero (.slice none 0 0)) 33)) F9 (by simp) (fun k hk => by omega); have S9 := Lib.hid S9; clear F9) | (refine wpList_load_st rfl (.tmp 10) rfl rfl (st_range S9.out) ?_))
  have M9 := M8.out.below B9.out
  have Y9 : Hid (memAt w9 0 (w6.heap.size + 1) (.slice (some ⟨w6.heap.size, 0, none⟩) 1 1) false 0 0 0 0) := Off.keeps (.of_below (ex := fun _ => False) B9.out) Y8.out id
  have T9 := stkAt.off (ex := fun _ => False) S8.out (.of_below B9.out) (fun _ h => h.elim)
  have C9 := Lib.hid (below2 B8.out B9.out)
  refine (c_Step_ok w9 0 (w6.heap.size + 1) (({ St.new with ring := r, a := a, off := 1 } : St).setP (1 : Int).toNat ⟨pSeg a, pOff a, max r (pRing a)⟩) (.slice ad1 0 cp1) [Sg.point 1 r] [] M9 T9 (by decide) (.slice (some ⟨w6.heap.size, 0, none⟩) 1 1) false 0 0 0 0 Y9.out _ hk2.out).mono ?_
  rintro e w10 ⟨stk2, rfl, hs2, hmt2, ho2⟩
  obtain ⟨ad2, cp2, hv2, _, _⟩ := row_shape hs2
  subst hv2
  have hYs : Hid (¬ w8.heap.size = w6.heap.size + 1) := by
    show ¬ _
    intro h1
    have h2 := (show w9.heap[w8.heap.size]? = _ from S9.out)
    rw [h1] at h2
    have h3 := h2.symm.trans Y9.out
    simp at h3
  have S10 := Lib.hid (show stAt w10 w8.heap.size _ _ from Off.keeps ho2 S9.out hYs.out)
  have B10 := Lib.hid (Off.below C9.out ho2 C9.out.size (fun k hk => by have h1 := hY7.out; omega))
  clear hs2 hmt2 ho2 M9 T9
  have jm := six_max
  go_wp2_with (first | (refine wpList_store_st (s' := ({ St.new with ring := r, a := encP (pSeg a) (pOff a) (max r (pRing a)), off := 2 } : St).setP (1 : Int).toNat ⟨pSeg a, pOff a, max r (pRing a)⟩) (stk' := .slice ad2 0 cp2) rfl (.tmp 14) (.tmp 59) rfl rfl rfl (show stAt _ w10.heap.size St.zero (.slice none 0 0) from heap_alloc_new w10 (.cells (stC St.zero (.slice none 0 0)) 33)) rfl ?_; intro w11 S11 F11; have B11 : Hid (Below w10.heap.size w10 w11) := Off.below (below_al0 w10 (.cells (stC St.zero (.slice none 0 0)) 33)) F11 (by simp) (fun k hk => by omega); have S11 := Lib.hid S11; clear F11) | (go_at_call 34; refine (r_DecodePointer _ _).mono ?_; rintro e w12 ⟨rfl, hb12⟩; have B12 := Lib.hid hb12; clear hb12))
  obtain ⟨W, hW, QW, BW⟩ : ∃ W, w12.alloc (.cells #[.int .i64 (pSeg a), .int .i64 (pOff a), .int .i64 (max r (pRing a))] 24) = W ∧ Hid (blk3 W w12.heap.size 24 (.int .i64 (pSeg a)) (.int .i64 (pOff a)) (.int .i64 (max r (pRing a)))) ∧ Hid (Below w12.heap.size w12 W) := ⟨_, rfl, blk3.new _ _ _ _ _, below_al0 _ _⟩
  rw [hW]
  clear hW
  have B13 := below2 (below2 B11.out B12.out) BW.out
  have S10W := Lib.hid (show stAt W w8.heap.size _ _ from Off.keeps (.of_below (ex := fun _ => False) B13) S10.out id)
  have S11W := Lib.hid (show stAt W w10.heap.size _ _ from Off.keeps (.of_below (ex := fun _ => False) (below2 B12.out BW.out)) S11.out id)
  have BE := Lib.hid (below2 B10.out B13)
  clear B13
  have kS10W4 : ∀ w', Below W.heap.size W w' → w'.cell? ⟨w8.heap.size, 4, none⟩ = some (.int .i64 0) := fun w' h => (show stAt w' w8.heap.size _ _ from Off.keeps (.of_below (ex := fun _ => False) h) S10W.out id).cell 4
  have kS10W5 : ∀ w', Below W.heap.size W w' → w'.cell? ⟨w8.heap.size, 5, none⟩ = some (.int .i64 0) := fun w' h => (show stAt w' w8.heap.size _ _ from Off.keeps (.of_below (ex := fun _ => False) h) S10W.out id).cell 5
  have kS10W6 : ∀ w', Below W.heap.size W w' → w'.cell? ⟨w8.heap.size, 6, none⟩ = some (.int .i64 4) := fun w' h => (show stAt w' w8.heap.size _ _ from Off.keeps (.of_below (ex := fun _ => False) h) S10W.out id).cell 6
  have kS10W7 : ∀ w', Below W.heap.size W w' → w'.cell? ⟨w8.heap.size, 7, none⟩ = some (.int .i64 (pSeg a)) := fun w' h => (show stAt w' w8.heap.size _ _ from Off.keeps (.of_below (ex := fun _ => False) h) S10W.out id).cell 7
  have kS10W8 : ∀ w', Below W.heap.size W w' → w'.cell? ⟨w8.heap.size, 8, none⟩ = some (.int .i64 (pOff a)) := fun w' h => (show stAt w' w8.heap.size _ _ from Off.keeps (.of_below (ex := fun _ => False) h) S10W.out id).cell 8
  have kS10W9 : ∀ w', Below W.heap.size W w' → w'.cell? ⟨w8.heap.size, 9, none⟩ = some (.int .i64 (max r (pRing a))) := fun w' h => (show stAt w' w8.heap.size _ _ from Off.keeps (.of_below (ex := fun _ => False) h) S10W.out id).cell 9
  have kS10W10 : ∀ w', Below W.heap.size W w' → w'.cell? ⟨w8.heap.size, 10, none⟩ = some (.int .i64 2) := fun w' h => (show stAt w' w8.heap.size _ _ from Off.keeps (.of_below (ex := fun _ => False) h) S10W.out id).cell 10
  have kS10W11 : ∀ w', Below W.heap.size W w' → w'.cell? ⟨w8.heap.size, 11, none⟩ = some (.int .i64 0) := fun w' h => (show stAt w' w8.heap.size _ _ from Off.keeps (.of_below (ex := fun _ => False) h) S10W.out id).cell 11
  have kS10W12 : ∀ w', Below W.heap.size W w' → w'.cell? ⟨w8.heap.size, 12, none⟩ = some (.int .i64 4) := fun w' h => (show stAt w' w8.heap.size _ _ from Off.keeps (.of_below (ex := fun _ => False) h) S10W.out id).cell 12
  have kS10W13 : ∀ w', Below W.heap.size W w' → w'.cell? ⟨w8.heap.size, 13, none⟩ = some (.int .i64 3) := fun w' h => (show stAt w' w8.heap.size _ _ from Off.keeps (.of_below (ex := fun _ => False) h) S10W.out id).cell 13
  have kS10W14 : ∀ w', Below W.heap.size W w' → w'.cell? ⟨w8.heap.size, 14, none⟩ = some (.int .i64 0) := fun w' h => (show stAt w' w8.heap.size _ _ from Off.keeps (.of_below (ex := fun _ => False) h) S10W.out id).cell 14
  have kS10W15 : ∀ w', Below W.heap.size W w' → w'.cell? ⟨w8.heap.size, 15, none⟩ = some (.int .i64 4) := fun w' h => (show stAt w' w8.heap.size _ _ from Off.keeps (.of_below (ex := fun _ => False) h) S10W.out id).cell 15
  have kS11W3 : ∀ w', Below W.heap.size W w' → w'.cell? ⟨w10.heap.size, 3, none⟩ = some (.int .i64 (encP (pSeg a) (pOff a) (max r (pRing a)))) := fun w' h => (show stAt w' w10.heap.size _ _ from Off.keeps (.of_below (ex := fun _ => False) h) S11W.out id).cell 3
  have kS11W4 : ∀ w', Below W.heap.size W w' → w'.cell? ⟨w10.heap.size, 4, none⟩ = some (.int .i64 0) := fun w' h => (show stAt w' w10.heap.size _ _ from Off.keeps (.of_below (ex := fun _ => False) h) S11W.out id).cell 4
  have kS11W5 : ∀ w', Below W.heap.size W w' → w'.cell? ⟨w10.heap.size, 5, none⟩ = some (.int .i64 0) := fun w' h => (show stAt w' w10.heap.size _ _ from Off.keeps (.of_below (ex := fun _ => False) h) S11W.out id).cell 5
  have kS11W6 : ∀ w', Below W.heap.size W w' → w'.cell? ⟨w10.heap.size, 6, none⟩ = some (.int .i64 4) := fun w' h => (show stAt w' w10.heap.size _ _ from Off.keeps (.of_below (ex := fun _ => False) h) S11W.out id).cell 6
  have kS11W7 : ∀ w', Below W.heap.size W w' → w'.cell? ⟨w10.heap.size, 7, none⟩ = some (.int .i64 (pSeg a)) := fun w' h => (show stAt w' w10.heap.size _ _ from Off.keeps (.of_below (ex := fun _ => False) h) S11W.out id).cell 7
  have kS11W8 : ∀ w', Below W.heap.size W w' → w'.cell? ⟨w10.heap.size, 8, none⟩ = some (.int .i64 (pOff a)) := fun w' h => (show stAt w' w10.heap.size _ _ from Off.keeps (.of_below (ex := fun _ => False) h) S11W.out id).cell 8
  have kS11W9 : ∀ w', Below W.heap.size W w' → w'.cell? ⟨w10.heap.size, 9, none⟩ = some (.int .i64 (max r (pRing a))) := fun w' h => (show stAt w' w10.heap.size _ _ from Off.keeps (.of_below (ex := fun _ => False) h) S11W.out id).cell 9
  have kS11W10 : ∀ w', Below W.heap.size W w' → w'.cell? ⟨w10.heap.size, 10, none⟩ = some (.int .i64 2) := fun w' h => (show stAt w' w10.heap.size _ _ from Off.keeps (.of_below (ex := fun _ => False) h) S11W.out id).cell 10
  have kS11W11 : ∀ w', Below W.heap.size W w' → w'.cell? ⟨w10.heap.size, 11, none⟩ = some (.int .i64 0) := fun w' h => (show stAt w' w10.heap.size _ _ from Off.keeps (.of_below (ex := fun _ => False) h) S11W.out id).cell 11
  have kS11W12 : ∀ w', Below W.heap.size W w' → w'.cell? ⟨w10.heap.size, 12, none⟩ = some (.int .i64 4) := fun w' h => (show stAt w' w10.heap.size _ _ from Off.keeps (.of_below (ex := fun _ => False) h) S11W.out id).cell 12
  have kS11W13 : ∀ w', Below W.heap.size W w' → w'.cell? ⟨w10.heap.size, 13, none⟩ = some (.int .i64 3) := fun w' h => (show stAt w' w10.heap.size _ _ from Off.keeps (.of_below (ex := fun _ => False) h) S11W.out id).cell 13
  have kS11W14 : ∀ w', Below W.heap.size W w' → w'.cell? ⟨w10.heap.size, 14, none⟩ = some (.int .i64 0) := fun w' h => (show stAt w' w10.heap.size _ _ from Off.keeps (.of_below (ex := fun _ => False) h) S11W.out id).cell 14
  have kS11W15 : ∀ w', Below W.heap.size W w' → w'.cell? ⟨w10.heap.size, 15, none⟩ = some (.int .i64 4) := fun w' h => (show stAt w' w10.heap.size _ _ from Off.keeps (.of_below (ex := fun _ => False) h) S11W.out id).cell 15
  have q0 : ∀ w', Below W.heap.size W w' → w'.cell? ⟨w12.heap.size, 0, none⟩ = some (.int .i64 (pSeg a)) := fun w' h => (QW.out.below h).facts.1.1
  have q1 : ∀ w', Below W.heap.size W w' → w'.cell? ⟨w12.heap.size, 1, none⟩ = some (.int .i64 (pOff a)) := fun w' h => (QW.out.below h).facts.1.2.1
  have q2 : ∀ w', Below W.heap.size W w' → w'.cell? ⟨w12.heap.size, 2, none⟩ = some (.int .i64 (max r (pRing a))) := fun w' h => (QW.out.below h).facts.1.2.2
  have hArr := eq_arr 0 0 4 (pSeg a) (pOff a) (max r (pRing a)) 2 0 4 3 0 4
  go_region_held3 (fun w' => Below W.heap.size W w')
    ((repeat (with_reducible first | exact HB13.out | refine below_drew ?_ | exact Below.refl _ _)))
    ((first | (go_at_call 35; refine (r_EncodePointer _ _ _ W.drew).mono ?_; rintro e w13 ⟨rfl, hb13⟩; have HB13 : Hid (Below W.heap.size W w13) := ⟨hb13.os, hb13.tape, hb13.output, hb13.size, hb13.block⟩; clear hb13)))
  go_wp2
  go_ret
  exact ⟨rfl, below2 BE.out HB13.out⟩
end Go.Proofs.Ytiakonmamkfopaa
