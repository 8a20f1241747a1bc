/- CpuFloats: the law's walk, instruction 11. -/
import Derived.Test.YtiakonmamkfopaaCpuX
namespace Go.Proofs.Ytiakonmamkfopaa
open Go.RowKit Go.ChangeShapes
set_option linter.unusedVariables false
set_option maxRecDepth 100000

set_option maxHeartbeats 8000000 in
theorem lawF4 (a b op : Int) (hq : op % 5 = 4) (w : World) : Calls Try.prog 7 #[.int .i64 a, .int .i64 b, .int .i64 op] w fun e w' => e = .returned (.bool true) ∧ Below w.heap.size w w' := by
  have hk := Lib.hid (fl_st4 a b)
  have hq := Lib.hid hq
  go_enter Try.func7, Try.ntmps7
  go_wp2_with (first | (go_at_call 14; refine (c_known _).mono ?_; rintro e w1 ⟨rfl, hb1⟩; have HB1 := Lib.hid hb1; clear hb1) | (go_at_call 21; refine (within16 op 5 (by decide) (by decide) _).mono ?_; rintro e w2 ⟨rfl, hw2⟩; subst hw2; rw [hq.out]))
  obtain ⟨W2, hW2, hI, hJ, HB2, hz2⟩ : ∃ W, (w1.alloc (.cells #[.int .i64 11, .int .i64 0, .int .i64 1] 64)).alloc (.cells #[.int .i64 b] 2) = W ∧ W.heap[w1.heap.size]? = some (.cells #[.int .i64 11, .int .i64 0, .int .i64 1] 64 (0, 0)) ∧ W.heap[w1.heap.size + 1]? = some (.cells #[.int .i64 b] 2 (0, 0)) ∧ Hid (Below w.heap.size w W) ∧ W.heap.size = w1.heap.size + 2 := by
    refine ⟨_, rfl, Off.keeps (ex := fun _ => False) ((Off.refl _ _).alloc _) (heap_alloc_new w1 _) id, ?_, below_al (below_al HB1.out _) _, by simp⟩
    have h := heap_alloc_new (w1.alloc (.cells #[.int .i64 11, .int .i64 0, .int .i64 1] 64)) (.cells #[.int .i64 b] 2)
    rw [World.size_alloc] at h
    exact h
  rw [hW2]
  clear hW2
  refine (c_one1s W2 w1.heap.size 11 0 1 (by decide) (by decide) (by decide) (by decide) (by decide) (by decide) (w1.heap.size + 1) b hJ hI).mono ?_
  rintro e w3 ⟨ad, cp, rfl, hu, hb3⟩
  have HU := Lib.hid hu
  have HB3 := Lib.hid (below2 HB2.out hb3)
  clear hu hb3 hI hJ hz2
  go_wp2_with fail
  obtain ⟨W4, hW4, G4, F4⟩ : ∃ W, w3.alloc (.cells #[.bool true, .slice ad 2 cp, .int .i64 7, .int .i64 4, .int .i64 4, .int .i64 4, .int .i64 0] 57) = W ∧ Hid (blk7 W w3.heap.size 57 (.bool true) (.slice ad 2 cp) (.int .i64 7) (.int .i64 4) (.int .i64 4) (.int .i64 4) (.int .i64 0)) ∧ Hid (Below w3.heap.size w3 W) := ⟨_, rfl, heap_alloc_new _ _, below_al0 _ _⟩
  rw [hW4]
  clear hW4
  refine (c_New W4).mono ?_
  rintro e w5 ⟨rfl, hb5⟩
  have F5 := Lib.hid (below2 F4.out hb5)
  have G5 : Hid (blk7 w5 w3.heap.size 57 (.bool true) (.slice ad 2 cp) (.int .i64 7) (.int .i64 4) (.int .i64 4) (.int .i64 4) (.int .i64 0)) := Off.keeps (.of_below (ex := fun _ => False) hb5) G4.out id
  clear hb5
  go_wp2_with (first | (refine wpList_store_st (s' := St.new) (stk' := .slice none 0 0) rfl (.tmp 8) (.tmp 26) rfl rfl rfl (show stAt _ w5.heap.size St.zero (.slice none 0 0) from heap_alloc_new w5 (.cells (stC St.zero (.slice none 0 0)) 33)) rfl ?_; intro w6 S6 F6; have HB6 : Hid (Below w5.heap.size w5 w6) := Off.below (below_al0 w5 (.cells (stC St.zero (.slice none 0 0)) 33)) F6 (by simp) (fun k hk => by omega); have c3 : w6.cell? ⟨w5.heap.size, 3, none⟩ = some (.int .i64 0) := S6.cell 3; have cf : ∀ j, w6.frozen? ⟨w5.heap.size, j, none⟩ = false := (fun j => S6.free j); have cR : w5.heap.size < w6.heap.size := S6.lt; have S6 := Lib.hid S6; clear F6) | (refine wpList_load_st rfl (.tmp 8) rfl rfl (st_range (st_set3 S6.out a)) ?_))
  obtain ⟨W7, hW7, Y7, F7⟩ : ∃ W, (w6.setCell ⟨w5.heap.size, 3, none⟩ (.int .i64 a)).alloc (.cells #[.slice (some ⟨w3.heap.size, 0, none⟩) 1 1, .bool false, .int .i64 0, .int .i64 0, .int .i64 0, .int .i64 0] 47) = W ∧ Hid (memAt W 0 w6.heap.size (.slice (some ⟨w3.heap.size, 0, none⟩) 1 1) false 0 0 0 0) ∧ Hid (Off (· = w5.heap.size) w6 W) := by
    refine ⟨_, rfl, ?_, (off1 _ _ _ _).alloc _⟩
    have h := heap_alloc_new (w6.setCell ⟨w5.heap.size, 3, none⟩ (.int .i64 a)) (.cells #[.slice (some ⟨w3.heap.size, 0, none⟩) 1 1, .bool false, .int .i64 0, .int .i64 0, .int .i64 0, .int .i64 0] 47)
    rw [World.size_setCell] at h
    exact h
  rw [hW7]
  clear hW7 c3 cf cR
  have hz3 : w3.heap.size < w5.heap.size := blk7.lt G5.out
  have O7 : Hid (Below w5.heap.size w5 W7) := Off.below HB6.out F7.out HB6.out.size (fun k hk => by omega)
  have G7 : blk7 W7 w3.heap.size 57 (.bool true) (.slice ad 2 cp) (.int .i64 7) (.int .i64 4) (.int .i64 4) (.int .i64 4) (.int .i64 0) := Off.keeps (.of_below (ex := fun _ => False) O7.out) G5.out id
  have U7 := Off.row (ex := fun _ => False) (.of_below (below2 F5.out O7.out)) HU.out (fun _ h => h.elim)
  have M7 := mem_at W7 w3.heap.size w6.heap.size (Sg.plain [encI 11 0 1, b]) _ G7 Y7.out (row_base U7 (Nat.zero_le _)) (by show 2 < 1000000; decide)
  have B7 := Lib.hid (below2 (below2 HB3.out F5.out) O7.out)
  have hY7 : w.heap.size ≤ w6.heap.size := by have h1 := HB3.out.size; have h2 := HB6.out.size; omega
  clear G7 U7
  refine (c_Step_ok W7 0 w6.heap.size { St.new with a := a } (.slice none 0 0) [Sg.plain [encI 11 0 1, b]] [] M7 (stk_nil _) (by decide) _ _ _ _ _ _ Y7.out _ hk.out).mono ?_
  rintro e w8 ⟨stk1, rfl, hs1, hmt1, ho1⟩
  obtain ⟨ad1, cp1, hv1, _, _⟩ := row_shape hs1
  subst hv1
  have B8 := Lib.hid (Off.below B7.out ho1 B7.out.size (fun k hk => by omega))
  clear hs1 hmt1 ho1 M7
  go_wp2_with (first | (refine wpList_store_st (s' := { St.new with a := (fless a b), off := 1 }) (stk' := .slice ad1 0 cp1) rfl (.tmp 9) (.tmp 36) rfl rfl rfl (show stAt _ w8.heap.size St.zero (.slice none 0 0) from heap_alloc_new w8 (.cells (stC St.zero (.slice none 0 0)) 33)) rfl ?_; intro w9 S9 F9; have B9 : Hid (Below w8.heap.size w8 w9) := Off.below (below_al0 w8 (.cells (stC St.zero (.slice none 0 0)) 33)) F9 (by simp) (fun k hk => by omega); have B9 := Lib.hid (below2 B8.out B9.out); have S9 := Lib.hid S9; clear F9) | (go_at_call 27; refine (r_FAdd _ _ _).mono ?_; rintro e w10 ⟨rfl, nd, hw⟩; have S10 : Hid (stAt w10 w8.heap.size { St.new with a := (fless a b), off := 1 } (.slice ad1 0 cp1)) := (by subst hw; exact S9.out); have B10 : Hid (Below w.heap.size w w10) := (by subst hw; exact below_dN B9.out nd); clear hw) | (go_at_call 28; refine (r_FSub _ _ _).mono ?_; rintro e w11 ⟨rfl, nd, hw⟩; have S11 : Hid (stAt w11 w8.heap.size { St.new with a := (fless a b), off := 1 } (.slice ad1 0 cp1)) := (by subst hw; exact S10.out); have B11 : Hid (Below w.heap.size w w11) := (by subst hw; exact below_dN B10.out nd); clear hw) | (go_at_call 29; refine (r_FMul _ _ _).mono ?_; rintro e w12 ⟨rfl, nd, hw⟩; have S12 : Hid (stAt w12 w8.heap.size { St.new with a := (fless a b), off := 1 } (.slice ad1 0 cp1)) := (by subst hw; exact S11.out); have B12 : Hid (Below w.heap.size w w12) := (by subst hw; exact below_dN B11.out nd); clear hw) | (go_at_call 30; refine (r_FDiv _ _ _).mono ?_; rintro e w13 ⟨rfl, nd, hw⟩; have S13 : Hid (stAt w13 w8.heap.size { St.new with a := (fless a b), off := 1 } (.slice ad1 0 cp1)) := (by subst hw; exact S12.out); have B13 : Hid (Below w.heap.size w w13) := (by subst hw; exact below_dN B12.out nd); clear hw) | (go_at_call 31; refine (r_FLess _ _ _).mono ?_; rintro e w14 ⟨rfl, hw⟩; subst hw; have d3 : w13.cell? ⟨w8.heap.size, 3, none⟩ = some (.int .i64 (fless a b)) := S13.out.cell 3; have d1 : w13.cell? ⟨w8.heap.size, 1, none⟩ = some (.int .i64 1) := S13.out.cell 1; have dR : w8.heap.size < w13.heap.size := S13.out.lt))
  go_ret
  exact ⟨rfl, below_al B13.out _⟩
end Go.Proofs.Ytiakonmamkfopaa
