/- CpuConverts: the law's walk, one case. -/
import Derived.Test.YtiakonmamkfopaaCpuX
import Derived.Deep.RegionHeld3
namespace Go.Proofs.Ytiakonmamkfopaa
open Go.RowKit Go.ChangeShapes
set_option linter.unusedVariables false
set_option maxRecDepth 100000

theorem co_st1 (a : Int) (hc : toIntE a = 0) : stR [Sg.plain [encI 13 0 0]] { St.new with a := a } [] = .ok ⟨{ St.new with a := toInt a, off := 1 }, [], false, 0, none⟩ := by
  have h := fe_at [Sg.plain [encI 13 0 0]] { St.new with a := a } (Sg.plain [encI 13 0 0]) 0 0 13 0 0 rfl rfl (plain_has _ _ (by simp)) (by show mayExec 4 4 4 = true; decide) rfl rfl rfl (by decide) (by decide) (by decide) (by decide) (by decide) (by decide)
  unfold stR
  rw [if_neg (by show ¬ (false = true); decide), h]
  show doR _ { St.new with a := a, off := 1 } [] 13 0 0 = _
  unfold doR
  rw [if_neg (by decide), if_neg (by decide), if_neg (by decide), if_neg (by decide), if_neg (by decide), if_neg (by decide), if_pos (by decide)]
  rw [if_pos hc]
set_option maxHeartbeats 8000000 in
theorem lawC1 (a : Int) (wa : (Lit.int .i64 a).wf = true) (hc : toIntE a = 0) (w : World) : Calls Try.prog 8 #[.int .i64 a, .bool true] w fun e w' => e = .returned (.bool true) ∧ Below w.heap.size w w' := by
  have hk := Lib.hid (co_st1 a hc)
  have hc := Lib.hid hc
  go_enter Try.func8, Try.ntmps8
  go_wp2_with (first | (go_at_call 14; refine (c_known _).mono ?_; rintro e w1 ⟨rfl, hb1'⟩; have HB1 := Lib.hid hb1'; clear hb1'))
  obtain ⟨V, hV, IV, BV⟩ : ∃ V, w1.alloc (.cells #[.int .i64 13, .int .i64 0, .int .i64 0] 64) = V ∧ Hid (blk3 V w1.heap.size 64 (.int .i64 13) (.int .i64 0) (.int .i64 0)) ∧ Hid (Below w.heap.size w V) := ⟨_, rfl, blk3.new _ _ _ _ _, below_al HB1.out _⟩
  rw [hV]
  clear hV
  refine (c_New V).mono ?_
  rintro e w5 ⟨rfl, hb5⟩
  have HB5 := Lib.hid (below2 BV.out hb5)
  have I5 := Lib.hid (IV.out.below hb5)
  clear hb5
  go_wp2_with (first | (refine wpList_store_st (s' := St.new) (stk' := .slice none 0 0) rfl (.tmp 6) (.tmp 18) rfl rfl rfl (show stAt _ w5.heap.size St.zero (.slice none 0 0) from heap_alloc_new w5 (.cells (stC St.zero (.slice none 0 0)) 33)) rfl ?_; intro w6 S6 F6; have HB6 : Hid (Below w5.heap.size w5 w6) := Off.below (below_al0 w5 (.cells (stC St.zero (.slice none 0 0)) 33)) F6 (by simp) (fun k hk => by omega); have c3 : w6.cell? ⟨w5.heap.size, 3, none⟩ = some (.int .i64 0) := S6.cell 3; have cf : ∀ j, w6.frozen? ⟨w5.heap.size, j, none⟩ = false := (fun j => S6.free j); have cR : w5.heap.size < w6.heap.size := S6.lt; have S6 := Lib.hid S6; clear F6))
  have S7 := st_set3 S6.out a
  have O7 : Off (· = w5.heap.size) w6 (w6.setCell ⟨w5.heap.size, 3, none⟩ (.int .i64 a)) := off1 _ _ _ _
  have B7 := Lib.hid (Off.below (below2 HB5.out HB6.out) O7 (below2 HB5.out HB6.out).size (fun k hk => by have h1 := HB5.out.size; omega))
  have hI5 := I5.out.lt
  have I7 := (I5.out.below HB6.out).off O7 (by omega)
  clear c3 cf cR O7
  generalize w6.setCell ⟨w5.heap.size, 3, none⟩ (.int .i64 a) = W at S7 B7 I7 ⊢
  have SD := Lib.hid (show stAt W.drew w5.heap.size _ _ from S7)
  have ID := Lib.hid (show blk3 W.drew w1.heap.size _ _ _ _ from I7)
  have BD := Lib.hid (below_drew B7.out)
  refine wp_region_held_drew (S := fun w' => Below W.drew.heap.size W.drew w') (by kernel_rfl) (Below.refl _ _) (fun hHeld => ?_)
  generalize W.drew = D at SD ID BD hHeld ⊢
  have BC := Lib.hid (Below.refl D.heap.size D)
  have hBC0 : 0 ≤ D.heap.size := Nat.zero_le _
  have k0 : ∀ w', Below D.heap.size D w' → w'.cell? ⟨w1.heap.size, 0, none⟩ = some (.int .i64 13) := fun w' h => (ID.out.below h).facts.1.1
  have k1 : ∀ w', Below D.heap.size D w' → w'.cell? ⟨w1.heap.size, 1, none⟩ = some (.int .i64 0) := fun w' h => (ID.out.below h).facts.1.2.1
  have k2 : ∀ w', Below D.heap.size D w' → w'.cell? ⟨w1.heap.size, 2, none⟩ = some (.int .i64 0) := fun w' h => (ID.out.below h).facts.1.2.2
  clear S7 B7 S6 I7
  refine wpAnyH_take (i := 0) (oi := ⟨_, _, _, _, _, _⟩) (v := .agg #[.int .i64 (St.new).seg, .int .i64 (St.new).off, .int .i64 (St.new).ring, .int .i64 a, .int .i64 (St.new).p0.seg, .int .i64 (St.new).p0.off, .int .i64 (St.new).p0.ring, .int .i64 (St.new).p1.seg, .int .i64 (St.new).p1.off, .int .i64 (St.new).p1.ring, .int .i64 (St.new).p2.seg, .int .i64 (St.new).p2.off, .int .i64 (St.new).p2.ring, .int .i64 (St.new).p3.seg, .int .i64 (St.new).p3.off, .int .i64 (St.new).p3.ring, .slice none 0 0, .bool (St.new).hal]) rfl (by kernel_rfl) (by kernel_rfl) (by kernel_rfl) (fun _ _ _ h => h) (yieldsIf_load_mid (by rfl) 33 (.tmp 6) rfl w5.heap.size 0 rfl (stC { St.new with a := a } (.slice none 0 0)).toList _ (fun w hS => st_range (Off.keeps (.of_below (ex := fun _ => False) hS) SD.out id)) A.stateU A.stateR A.stateI) (by assumption) ?_
  try simp only [Act.put, List.setIfInBounds_toArray, List.set_cons_zero, List.set_cons_succ]
  refine wpAnyH_take (i := 1) (oi := ⟨_, _, _, _, _, _⟩) (v := ?_) rfl (by kernel_rfl) (by kernel_rfl) (by kernel_rfl) (fun _ _ _ h => h) (Or.inl ⟨by rfl, ?_⟩) (by assumption) ?_
  rotate_left
  · intro w hSw; (try dsimp only at hSw); go_simp; (try with_reducible rfl)
  try simp only [Act.put, List.setIfInBounds_toArray, List.set_cons_zero, List.set_cons_succ]
  clear k0 k1 k2
  refine wpAnyH_ready (rs := [2, 14]) (by kernel_rfl) (by simp) (AllReadyH.cons (o := ⟨_, _, _, _, _, _⟩) rfl (fun K hK => ?_) (AllReadyH.cons (o := ⟨_, _, _, _, _, _⟩) rfl (fun K hK => ?_) AllReadyH.nil))
  · go_simp
    refine hK.out _ _ ?_ (fun hHeld => ?_)
    · exact below_al BC.out (.cells #[.int .i64 13, .int .i64 0, .int .i64 0] 64)
    clear hK K
    try simp only [Act.put, List.setIfInBounds_toArray, List.set_cons_zero, List.set_cons_succ]
    have I := Lib.hid (heap_alloc_new D (.cells #[.int .i64 13, .int .i64 0, .int .i64 0] 64))
    replace BC := Lib.hid (below_al BC.out (.cells #[.int .i64 13, .int .i64 0, .int .i64 0] 64))
    have hz1 := Lib.hid (World.size_alloc D (.cells #[.int .i64 13, .int .i64 0, .int .i64 0] 64))
    generalize D.alloc (.cells #[.int .i64 13, .int .i64 0, .int .i64 0] 64) = X1 at hHeld I BC hz1 ⊢
    refine wpAnyH_ready (rs := [3, 14]) (by kernel_rfl) (by simp) (AllReadyH.cons (o := ⟨_, _, _, _, _, _⟩) rfl (fun K hK => ?_) (AllReadyH.cons (o := ⟨_, _, _, _, _, _⟩) rfl (fun K hK => ?_) AllReadyH.nil))
    · go_simp
      refine (c_one1 X1 (D.heap.size) 13 0 0 (by decide) (by decide) (by decide) (by decide) (by decide) (by decide) I.out).mono ?_
      rintro e X2 ⟨adu, cpu, rfl, hu, hb⟩
      dsimp only
      refine hK.out _ _ ?_ (fun hHeld => ?_)
      · exact below2 BC.out hb
      clear hK K
      try simp only [Act.put, List.setIfInBounds_toArray, List.set_cons_zero, List.set_cons_succ]
      have U := Lib.hid (row_base hu (Nat.zero_le _))
      replace BC := Lib.hid (below2 BC.out hb)
      have hz2 := Lib.hid hb.size
      clear hu hb I
      refine wpAnyH_ready (rs := [4, 14]) (by kernel_rfl) (by simp) (AllReadyH.cons (o := ⟨_, _, _, _, _, _⟩) rfl (fun K hK => ?_) (AllReadyH.cons (o := ⟨_, _, _, _, _, _⟩) rfl (fun K hK => ?_) AllReadyH.nil))
      · go_simp
        refine hK.out _ _ ?_ (fun hHeld => ?_)
        · exact below_al BC.out (.cells #[.bool true, .slice adu 1 cpu, .int .i64 7, .int .i64 4, .int .i64 4, .int .i64 4, .int .i64 0] 57)
        clear hK K
        try simp only [Act.put, List.setIfInBounds_toArray, List.set_cons_zero, List.set_cons_succ]
        replace U := Lib.hid (Off.row (ex := fun _ => False) ((Off.refl _ _).alloc (.cells #[.bool true, .slice adu 1 cpu, .int .i64 7, .int .i64 4, .int .i64 4, .int .i64 4, .int .i64 0] 57)) U.out (fun _ h => h.elim))
        have G := Lib.hid (heap_alloc_new X2 (.cells #[.bool true, .slice adu 1 cpu, .int .i64 7, .int .i64 4, .int .i64 4, .int .i64 4, .int .i64 0] 57))
        replace BC := Lib.hid (below_al BC.out (.cells #[.bool true, .slice adu 1 cpu, .int .i64 7, .int .i64 4, .int .i64 4, .int .i64 4, .int .i64 0] 57))
        have hz3 := Lib.hid (World.size_alloc X2 (.cells #[.bool true, .slice adu 1 cpu, .int .i64 7, .int .i64 4, .int .i64 4, .int .i64 4, .int .i64 0] 57))
        generalize X2.alloc (.cells #[.bool true, .slice adu 1 cpu, .int .i64 7, .int .i64 4, .int .i64 4, .int .i64 4, .int .i64 0] 57) = X3 at hHeld U G BC hz3 ⊢
        refine wpAnyH_take (i := 5) (oi := ⟨_, _, _, _, _, _⟩) (v := ?_) rfl (by kernel_rfl) (by kernel_rfl) (by kernel_rfl) (fun _ _ _ h => h) (Or.inl ⟨by rfl, ?_⟩) (by assumption) ?_
        rotate_left
        · intro w hSw; (try dsimp only at hSw); go_simp; (try with_reducible rfl)
        try simp only [Act.put, List.setIfInBounds_toArray, List.set_cons_zero, List.set_cons_succ]
        refine wpAnyH_ready (rs := [6, 14]) (by kernel_rfl) (by simp) (AllReadyH.cons (o := ⟨_, _, _, _, _, _⟩) rfl (fun K hK => ?_) (AllReadyH.cons (o := ⟨_, _, _, _, _, _⟩) rfl (fun K hK => ?_) AllReadyH.nil))
        · go_simp
          refine hK.out _ _ ?_ (fun hHeld => ?_)
          · exact below_al BC.out (.cells #[.slice (some ⟨X2.heap.size, 0, none⟩) 1 1, .bool false, .int .i64 0, .int .i64 0, .int .i64 0, .int .i64 0] 47)
          clear hK K
          try simp only [Act.put, List.setIfInBounds_toArray, List.set_cons_zero, List.set_cons_succ]
          replace U := Lib.hid (Off.row (ex := fun _ => False) ((Off.refl _ _).alloc (.cells #[.slice (some ⟨X2.heap.size, 0, none⟩) 1 1, .bool false, .int .i64 0, .int .i64 0, .int .i64 0, .int .i64 0] 47)) U.out (fun _ h => h.elim))
          replace G := Lib.hid (Off.keeps (ex := fun _ => False) ((Off.refl _ _).alloc (.cells #[.slice (some ⟨X2.heap.size, 0, none⟩) 1 1, .bool false, .int .i64 0, .int .i64 0, .int .i64 0, .int .i64 0] 47)) G.out id)
          have Yf := Lib.hid (heap_alloc_new X3 (.cells #[.slice (some ⟨X2.heap.size, 0, none⟩) 1 1, .bool false, .int .i64 0, .int .i64 0, .int .i64 0, .int .i64 0] 47))
          replace BC := Lib.hid (below_al BC.out (.cells #[.slice (some ⟨X2.heap.size, 0, none⟩) 1 1, .bool false, .int .i64 0, .int .i64 0, .int .i64 0, .int .i64 0] 47))
          have hz4 := Lib.hid (World.size_alloc X3 (.cells #[.slice (some ⟨X2.heap.size, 0, none⟩) 1 1, .bool false, .int .i64 0, .int .i64 0, .int .i64 0, .int .i64 0] 47))
          generalize X3.alloc (.cells #[.slice (some ⟨X2.heap.size, 0, none⟩) 1 1, .bool false, .int .i64 0, .int .i64 0, .int .i64 0, .int .i64 0] 47) = X4 at hHeld U G Yf BC hz4 ⊢
          refine wpAnyH_take (i := 7) (oi := ⟨_, _, _, _, _, _⟩) (v := ?_) rfl (by kernel_rfl) (by kernel_rfl) (by kernel_rfl) (fun _ _ _ h => h) (Or.inl ⟨by rfl, ?_⟩) (by assumption) ?_
          rotate_left
          · intro w hSw; (try dsimp only at hSw); go_simp; (try with_reducible rfl)
          try simp only [Act.put, List.setIfInBounds_toArray, List.set_cons_zero, List.set_cons_succ]
          refine wpAnyH_ready (rs := [8, 14]) (by kernel_rfl) (by simp) (AllReadyH.cons (o := ⟨_, _, _, _, _, _⟩) rfl (fun K hK => ?_) (AllReadyH.cons (o := ⟨_, _, _, _, _, _⟩) rfl (fun K hK => ?_) AllReadyH.nil))
          · go_simp
            have MM := mem_at X4 (X2.heap.size) (X3.heap.size) (Sg.plain [encI 13 0 0]) _ G.out (show memAt X4 0 (X3.heap.size) _ _ _ _ _ _ from Yf.out) U.out (by show 1 < 1000000; decide)
            refine (c_Step_ok X4 0 (X3.heap.size) { St.new with a := a } (.slice none 0 0) [Sg.plain [encI 13 0 0]] [] MM (stk_nil _) (by decide) (.slice (some ⟨X2.heap.size, 0, none⟩) 1 1) false 0 0 0 0 Yf.out _ hk.out).mono ?_
            rintro e X5 ⟨stk1, rfl, hs1, hmt1, ho1⟩
            obtain ⟨ad1, cp1, hv1, _, _⟩ := row_shape hs1
            subst hv1
            dsimp only
            have BS := Off.below BC.out ho1 BC.out.size (fun k hk => by have h1 := hz1.out; have h2 := hz2.out; have h3 := hz3.out; have h4 := hz4.out; omega)
            refine hK.out _ _ ?_ (fun hHeld => ?_)
            · exact BS
            clear hK K
            try simp only [Act.put, List.setIfInBounds_toArray, List.set_cons_zero, List.set_cons_succ]
            have hz5 := Lib.hid ho1.size
            replace BC := Lib.hid BS
            clear MM hs1 hmt1 ho1 BS U G Yf
            refine wpAnyH_take (i := 9) (oi := ⟨_, _, _, _, _, _⟩) (v := ?_) rfl (by kernel_rfl) (by kernel_rfl) (by kernel_rfl) (fun _ _ _ h => h) (Or.inl ⟨by rfl, ?_⟩) (by assumption) ?_
            rotate_left
            · intro w hSw; (try dsimp only at hSw); go_simp; (try with_reducible rfl)
            try simp only [Act.put, List.setIfInBounds_toArray, List.set_cons_zero, List.set_cons_succ]
            refine wpAnyH_take (i := 10) (oi := ⟨_, _, _, _, _, _⟩) (v := ?_) rfl (by kernel_rfl) (by kernel_rfl) (by kernel_rfl) (fun _ _ _ h => h) (Or.inl ⟨by rfl, ?_⟩) (by assumption) ?_
            rotate_left
            · intro w hSw; (try dsimp only at hSw); go_simp; (try with_reducible rfl)
            try simp only [Act.put, List.setIfInBounds_toArray, List.set_cons_zero, List.set_cons_succ]
            refine wpAnyH_take (i := 11) (oi := ⟨_, _, _, _, _, _⟩) (v := ?_) rfl (by kernel_rfl) (by kernel_rfl) (by kernel_rfl) (fun _ _ _ h => h) (Or.inl ⟨by rfl, ?_⟩) (by assumption) ?_
            rotate_left
            · intro w hSw; (try dsimp only at hSw); go_simp; (try with_reducible rfl)
            try simp only [Act.put, List.setIfInBounds_toArray, List.set_cons_zero, List.set_cons_succ]
            refine wpAnyH_take (i := 12) (oi := ⟨_, _, _, _, _, _⟩) (v := ?_) rfl (by kernel_rfl) (by kernel_rfl) (by kernel_rfl) (fun _ _ _ h => h) (Or.inl ⟨by rfl, ?_⟩) (by assumption) ?_
            rotate_left
            · intro w hSw; (try dsimp only at hSw); go_simp; (try with_reducible rfl)
            try simp only [Act.put, List.setIfInBounds_toArray, List.set_cons_zero, List.set_cons_succ]
            refine wpAnyH_take (i := 13) (oi := ⟨_, _, _, _, _, _⟩) (v := ?_) rfl (by kernel_rfl) (by kernel_rfl) (by kernel_rfl) (fun _ _ _ h => h) (Or.inl ⟨by rfl, ?_⟩) (by assumption) ?_
            rotate_left
            · intro w hSw; (try dsimp only at hSw); go_simp; (try with_reducible rfl)
            try simp only [Act.put, List.setIfInBounds_toArray, List.set_cons_zero, List.set_cons_succ]
            refine wpAnyH_ready (rs := [14]) (by kernel_rfl) (by simp) (AllReadyH.cons (o := ⟨_, _, _, _, _, _⟩) rfl (fun K hK => ?_) AllReadyH.nil)
            go_simp
            refine hK.out _ _ ?_ (fun hHeld => ?_)
            · exact below_al BC.out (.cells #[.int .i64 0, .int .i64 0, .int .i64 0, .int .i64 0, .int .i64 0, .int .i64 0, .int .i64 0, .int .i64 0, .int .i64 0, .int .i64 0, .int .i64 0, .int .i64 0, .int .i64 0, .int .i64 0, .int .i64 0, .int .i64 0, .slice none 0 0, .bool false] 33)
            clear hK K
            try simp only [Act.put, List.setIfInBounds_toArray, List.set_cons_zero, List.set_cons_succ]
            have T := Lib.hid (heap_alloc_new X5 (.cells #[.int .i64 0, .int .i64 0, .int .i64 0, .int .i64 0, .int .i64 0, .int .i64 0, .int .i64 0, .int .i64 0, .int .i64 0, .int .i64 0, .int .i64 0, .int .i64 0, .int .i64 0, .int .i64 0, .int .i64 0, .int .i64 0, .slice none 0 0, .bool false] 33))
            replace BC := Lib.hid (below_al BC.out (.cells #[.int .i64 0, .int .i64 0, .int .i64 0, .int .i64 0, .int .i64 0, .int .i64 0, .int .i64 0, .int .i64 0, .int .i64 0, .int .i64 0, .int .i64 0, .int .i64 0, .int .i64 0, .int .i64 0, .int .i64 0, .int .i64 0, .slice none 0 0, .bool false] 33))
            have hz6 := Lib.hid (World.size_alloc X5 (.cells #[.int .i64 0, .int .i64 0, .int .i64 0, .int .i64 0, .int .i64 0, .int .i64 0, .int .i64 0, .int .i64 0, .int .i64 0, .int .i64 0, .int .i64 0, .int .i64 0, .int .i64 0, .int .i64 0, .int .i64 0, .int .i64 0, .slice none 0 0, .bool false] 33))
            generalize X5.alloc (.cells #[.int .i64 0, .int .i64 0, .int .i64 0, .int .i64 0, .int .i64 0, .int .i64 0, .int .i64 0, .int .i64 0, .int .i64 0, .int .i64 0, .int .i64 0, .int .i64 0, .int .i64 0, .int .i64 0, .int .i64 0, .int .i64 0, .slice none 0 0, .bool false] 33) = X6 at hHeld T BC hz6 ⊢
            refine wpAnyH_ready (rs := [15]) (by kernel_rfl) (by simp) (AllReadyH.cons (o := ⟨_, _, _, _, _, _⟩) rfl (fun K hK => ?_) AllReadyH.nil)
            rw [if_pos (by rfl)]
            refine wp_store_st (s' := { St.new with a := toInt a, off := 1 }) (stk' := .slice ad1 0 cp1) (.tmp 7) (.tmp 31) rfl rfl rfl (show stAt _ (X5.heap.size) St.zero (.slice none 0 0) from T.out) rfl ?_
            intro Z SZ FZ
            have BZ : Hid (Below D.heap.size D Z) := Off.below BC.out FZ BC.out.size (fun k hk => by subst hk; have h1 := hz1.out; have h2 := hz2.out; have h3 := hz3.out; have h4 := hz4.out; have h5 := hz5.out; have h6 := hz6.out; omega)
            have SZ := Lib.hid SZ
            clear FZ
            refine hK.out _ _ ?_ (fun hHeld => ?_)
            · exact BZ.out
            clear hK K
            try simp only [Act.put]
            refine wpAnyH_take (i := 16) (oi := ⟨_, _, _, _, _, _⟩) (v := ?_) rfl (by kernel_rfl) (by kernel_rfl) (by kernel_rfl) (fun _ _ _ h => h) (Or.inl ⟨by rfl, ?_⟩) (by assumption) ?_
            rotate_left
            · intro w hSw; (try dsimp only at hSw); go_simp; (try with_reducible rfl)
            try simp only [Act.put, List.setIfInBounds_toArray, List.set_cons_zero, List.set_cons_succ]
            refine wpAnyH_take (i := 17) (oi := ⟨_, _, _, _, _, _⟩) (v := ?_) rfl (by kernel_rfl) (by kernel_rfl) (by kernel_rfl) (fun _ _ _ h => h) (Or.inl ⟨by rfl, ?_⟩) (by assumption) ?_
            rotate_left
            · intro w hSw; (try dsimp only at hSw); go_simp; (try with_reducible rfl)
            try simp only [Act.put, List.setIfInBounds_toArray, List.set_cons_zero, List.set_cons_succ]
            refine wpAnyH_take (i := 18) (oi := ⟨_, _, _, _, _, _⟩) (v := ?_) rfl (by kernel_rfl) (by kernel_rfl) (by kernel_rfl) (fun _ _ _ h => h) (Or.inl ⟨by rfl, ?_⟩) (by assumption) ?_
            rotate_left
            · intro w hSw; (try dsimp only at hSw); go_simp; (try with_reducible rfl)
            try simp only [Act.put, List.setIfInBounds_toArray, List.set_cons_zero, List.set_cons_succ]
            refine wpAnyH_done (by kernel_rfl) ?_ _
            have e1 : Z.cell? ⟨X5.heap.size, 3, none⟩ = some (.int .i64 (toInt a)) := SZ.out.cell 3
            go_wp2_with (first | (go_at_call 33; refine (r_ToInt a wa _).mono ?_; rintro e w9 ⟨rfl, hw9⟩; subst hw9; rw [hc.out]))
            go_ret
            exact ⟨rfl, below2 BD.out BZ⟩
          · go_simp
            refine hK.out _ _ ?_ (fun hHeld => ?_)
            · exact below_al BC.out (.cells #[.int .i64 0, .int .i64 0, .int .i64 0, .int .i64 0, .int .i64 0, .int .i64 0, .int .i64 0, .int .i64 0, .int .i64 0, .int .i64 0, .int .i64 0, .int .i64 0, .int .i64 0, .int .i64 0, .int .i64 0, .int .i64 0, .slice none 0 0, .bool false] 33)
            clear hK K
            try simp only [Act.put, List.setIfInBounds_toArray, List.set_cons_zero, List.set_cons_succ]
            replace U := Lib.hid (Off.row (ex := fun _ => False) ((Off.refl _ _).alloc (.cells #[.int .i64 0, .int .i64 0, .int .i64 0, .int .i64 0, .int .i64 0, .int .i64 0, .int .i64 0, .int .i64 0, .int .i64 0, .int .i64 0, .int .i64 0, .int .i64 0, .int .i64 0, .int .i64 0, .int .i64 0, .int .i64 0, .slice none 0 0, .bool false] 33)) U.out (fun _ h => h.elim))
            replace G := Lib.hid (Off.keeps (ex := fun _ => False) ((Off.refl _ _).alloc (.cells #[.int .i64 0, .int .i64 0, .int .i64 0, .int .i64 0, .int .i64 0, .int .i64 0, .int .i64 0, .int .i64 0, .int .i64 0, .int .i64 0, .int .i64 0, .int .i64 0, .int .i64 0, .int .i64 0, .int .i64 0, .int .i64 0, .slice none 0 0, .bool false] 33)) G.out id)
            replace Yf := Lib.hid (Off.keeps (ex := fun _ => False) ((Off.refl _ _).alloc (.cells #[.int .i64 0, .int .i64 0, .int .i64 0, .int .i64 0, .int .i64 0, .int .i64 0, .int .i64 0, .int .i64 0, .int .i64 0, .int .i64 0, .int .i64 0, .int .i64 0, .int .i64 0, .int .i64 0, .int .i64 0, .int .i64 0, .slice none 0 0, .bool false] 33)) Yf.out id)
            have T := Lib.hid (heap_alloc_new X4 (.cells #[.int .i64 0, .int .i64 0, .int .i64 0, .int .i64 0, .int .i64 0, .int .i64 0, .int .i64 0, .int .i64 0, .int .i64 0, .int .i64 0, .int .i64 0, .int .i64 0, .int .i64 0, .int .i64 0, .int .i64 0, .int .i64 0, .slice none 0 0, .bool false] 33))
            replace BC := Lib.hid (below_al BC.out (.cells #[.int .i64 0, .int .i64 0, .int .i64 0, .int .i64 0, .int .i64 0, .int .i64 0, .int .i64 0, .int .i64 0, .int .i64 0, .int .i64 0, .int .i64 0, .int .i64 0, .int .i64 0, .int .i64 0, .int .i64 0, .int .i64 0, .slice none 0 0, .bool false] 33))
            have hz5 := Lib.hid (World.size_alloc X4 (.cells #[.int .i64 0, .int .i64 0, .int .i64 0, .int .i64 0, .int .i64 0, .int .i64 0, .int .i64 0, .int .i64 0, .int .i64 0, .int .i64 0, .int .i64 0, .int .i64 0, .int .i64 0, .int .i64 0, .int .i64 0, .int .i64 0, .slice none 0 0, .bool false] 33))
            generalize X4.alloc (.cells #[.int .i64 0, .int .i64 0, .int .i64 0, .int .i64 0, .int .i64 0, .int .i64 0, .int .i64 0, .int .i64 0, .int .i64 0, .int .i64 0, .int .i64 0, .int .i64 0, .int .i64 0, .int .i64 0, .int .i64 0, .int .i64 0, .slice none 0 0, .bool false] 33) = X5 at hHeld U G Yf T BC hz5 ⊢
            refine wpAnyH_ready (rs := [8]) (by kernel_rfl) (by simp) (AllReadyH.cons (o := ⟨_, _, _, _, _, _⟩) rfl (fun K hK => ?_) AllReadyH.nil)
            go_simp
            have MM := mem_at X5 (X2.heap.size) (X3.heap.size) (Sg.plain [encI 13 0 0]) _ G.out (show memAt X5 0 (X3.heap.size) _ _ _ _ _ _ from Yf.out) U.out (by show 1 < 1000000; decide)
            refine (c_Step_ok X5 0 (X3.heap.size) { St.new with a := a } (.slice none 0 0) [Sg.plain [encI 13 0 0]] [] MM (stk_nil _) (by decide) (.slice (some ⟨X2.heap.size, 0, none⟩) 1 1) false 0 0 0 0 Yf.out _ hk.out).mono ?_
            rintro e X6 ⟨stk1, rfl, hs1, hmt1, ho1⟩
            obtain ⟨ad1, cp1, hv1, _, _⟩ := row_shape hs1
            subst hv1
            dsimp only
            have BS := Off.below BC.out ho1 BC.out.size (fun k hk => by have h1 := hz1.out; have h2 := hz2.out; have h3 := hz3.out; have h4 := hz4.out; have h5 := hz5.out; omega)
            refine hK.out _ _ ?_ (fun hHeld => ?_)
            · exact BS
            clear hK K
            try simp only [Act.put, List.setIfInBounds_toArray, List.set_cons_zero, List.set_cons_succ]
            replace T := Lib.hid (Off.keeps ho1 T.out (by intro h1; have h2 := T.out; rw [h1] at h2; have h3 := h2.symm.trans Yf.out; simp at h3))
            have hz6 := Lib.hid ho1.size
            replace BC := Lib.hid BS
            clear MM hs1 hmt1 ho1 BS U G Yf
            refine wpAnyH_take (i := 9) (oi := ⟨_, _, _, _, _, _⟩) (v := ?_) rfl (by kernel_rfl) (by kernel_rfl) (by kernel_rfl) (fun _ _ _ h => h) (Or.inl ⟨by rfl, ?_⟩) (by assumption) ?_
            rotate_left
            · intro w hSw; (try dsimp only at hSw); go_simp; (try with_reducible rfl)
            try simp only [Act.put, List.setIfInBounds_toArray, List.set_cons_zero, List.set_cons_succ]
            refine wpAnyH_take (i := 10) (oi := ⟨_, _, _, _, _, _⟩) (v := ?_) rfl (by kernel_rfl) (by kernel_rfl) (by kernel_rfl) (fun _ _ _ h => h) (Or.inl ⟨by rfl, ?_⟩) (by assumption) ?_
            rotate_left
            · intro w hSw; (try dsimp only at hSw); go_simp; (try with_reducible rfl)
            try simp only [Act.put, List.setIfInBounds_toArray, List.set_cons_zero, List.set_cons_succ]
            refine wpAnyH_take (i := 11) (oi := ⟨_, _, _, _, _, _⟩) (v := ?_) rfl (by kernel_rfl) (by kernel_rfl) (by kernel_rfl) (fun _ _ _ h => h) (Or.inl ⟨by rfl, ?_⟩) (by assumption) ?_
            rotate_left
            · intro w hSw; (try dsimp only at hSw); go_simp; (try with_reducible rfl)
            try simp only [Act.put, List.setIfInBounds_toArray, List.set_cons_zero, List.set_cons_succ]
            refine wpAnyH_take (i := 12) (oi := ⟨_, _, _, _, _, _⟩) (v := ?_) rfl (by kernel_rfl) (by kernel_rfl) (by kernel_rfl) (fun _ _ _ h => h) (Or.inl ⟨by rfl, ?_⟩) (by assumption) ?_
            rotate_left
            · intro w hSw; (try dsimp only at hSw); go_simp; (try with_reducible rfl)
            try simp only [Act.put, List.setIfInBounds_toArray, List.set_cons_zero, List.set_cons_succ]
            refine wpAnyH_take (i := 13) (oi := ⟨_, _, _, _, _, _⟩) (v := ?_) rfl (by kernel_rfl) (by kernel_rfl) (by kernel_rfl) (fun _ _ _ h => h) (Or.inl ⟨by rfl, ?_⟩) (by assumption) ?_
            rotate_left
            · intro w hSw; (try dsimp only at hSw); go_simp; (try with_reducible rfl)
            try simp only [Act.put, List.setIfInBounds_toArray, List.set_cons_zero, List.set_cons_succ]
            refine wpAnyH_ready (rs := [15]) (by kernel_rfl) (by simp) (AllReadyH.cons (o := ⟨_, _, _, _, _, _⟩) rfl (fun K hK => ?_) AllReadyH.nil)
            rw [if_pos (by rfl)]
            refine wp_store_st (s' := { St.new with a := toInt a, off := 1 }) (stk' := .slice ad1 0 cp1) (.tmp 7) (.tmp 31) rfl rfl rfl (show stAt _ (X4.heap.size) St.zero (.slice none 0 0) from T.out) rfl ?_
            intro Z SZ FZ
            have BZ : Hid (Below D.heap.size D Z) := Off.below BC.out FZ BC.out.size (fun k hk => by subst hk; have h1 := hz1.out; have h2 := hz2.out; have h3 := hz3.out; have h4 := hz4.out; have h5 := hz5.out; have h6 := hz6.out; omega)
            have SZ := Lib.hid SZ
            clear FZ
            refine hK.out _ _ ?_ (fun hHeld => ?_)
            · exact BZ.out
            clear hK K
            try simp only [Act.put]
            refine wpAnyH_take (i := 16) (oi := ⟨_, _, _, _, _, _⟩) (v := ?_) rfl (by kernel_rfl) (by kernel_rfl) (by kernel_rfl) (fun _ _ _ h => h) (Or.inl ⟨by rfl, ?_⟩) (by assumption) ?_
            rotate_left
            · intro w hSw; (try dsimp only at hSw); go_simp; (try with_reducible rfl)
            try simp only [Act.put, List.setIfInBounds_toArray, List.set_cons_zero, List.set_cons_succ]
            refine wpAnyH_take (i := 17) (oi := ⟨_, _, _, _, _, _⟩) (v := ?_) rfl (by kernel_rfl) (by kernel_rfl) (by kernel_rfl) (fun _ _ _ h => h) (Or.inl ⟨by rfl, ?_⟩) (by assumption) ?_
            rotate_left
            · intro w hSw; (try dsimp only at hSw); go_simp; (try with_reducible rfl)
            try simp only [Act.put, List.setIfInBounds_toArray, List.set_cons_zero, List.set_cons_succ]
            refine wpAnyH_take (i := 18) (oi := ⟨_, _, _, _, _, _⟩) (v := ?_) rfl (by kernel_rfl) (by kernel_rfl) (by kernel_rfl) (fun _ _ _ h => h) (Or.inl ⟨by rfl, ?_⟩) (by assumption) ?_
            rotate_left
            · intro w hSw; (try dsimp only at hSw); go_simp; (try with_reducible rfl)
            try simp only [Act.put, List.setIfInBounds_toArray, List.set_cons_zero, List.set_cons_succ]
            refine wpAnyH_done (by kernel_rfl) ?_ _
            have e1 : Z.cell? ⟨X4.heap.size, 3, none⟩ = some (.int .i64 (toInt a)) := SZ.out.cell 3
            go_wp2_with (first | (go_at_call 33; refine (r_ToInt a wa _).mono ?_; rintro e w9 ⟨rfl, hw9⟩; subst hw9; rw [hc.out]))
            go_ret
            exact ⟨rfl, below2 BD.out BZ⟩
        · go_simp
          refine hK.out _ _ ?_ (fun hHeld => ?_)
          · exact below_al BC.out (.cells #[.int .i64 0, .int .i64 0, .int .i64 0, .int .i64 0, .int .i64 0, .int .i64 0, .int .i64 0, .int .i64 0, .int .i64 0, .int .i64 0, .int .i64 0, .int .i64 0, .int .i64 0, .int .i64 0, .int .i64 0, .int .i64 0, .slice none 0 0, .bool false] 33)
          clear hK K
          try simp only [Act.put, List.setIfInBounds_toArray, List.set_cons_zero, List.set_cons_succ]
          replace U := Lib.hid (Off.row (ex := fun _ => False) ((Off.refl _ _).alloc (.cells #[.int .i64 0, .int .i64 0, .int .i64 0, .int .i64 0, .int .i64 0, .int .i64 0, .int .i64 0, .int .i64 0, .int .i64 0, .int .i64 0, .int .i64 0, .int .i64 0, .int .i64 0, .int .i64 0, .int .i64 0, .int .i64 0, .slice none 0 0, .bool false] 33)) U.out (fun _ h => h.elim))
          replace G := Lib.hid (Off.keeps (ex := fun _ => False) ((Off.refl _ _).alloc (.cells #[.int .i64 0, .int .i64 0, .int .i64 0, .int .i64 0, .int .i64 0, .int .i64 0, .int .i64 0, .int .i64 0, .int .i64 0, .int .i64 0, .int .i64 0, .int .i64 0, .int .i64 0, .int .i64 0, .int .i64 0, .int .i64 0, .slice none 0 0, .bool false] 33)) G.out id)
          have T := Lib.hid (heap_alloc_new X3 (.cells #[.int .i64 0, .int .i64 0, .int .i64 0, .int .i64 0, .int .i64 0, .int .i64 0, .int .i64 0, .int .i64 0, .int .i64 0, .int .i64 0, .int .i64 0, .int .i64 0, .int .i64 0, .int .i64 0, .int .i64 0, .int .i64 0, .slice none 0 0, .bool false] 33))
          replace BC := Lib.hid (below_al BC.out (.cells #[.int .i64 0, .int .i64 0, .int .i64 0, .int .i64 0, .int .i64 0, .int .i64 0, .int .i64 0, .int .i64 0, .int .i64 0, .int .i64 0, .int .i64 0, .int .i64 0, .int .i64 0, .int .i64 0, .int .i64 0, .int .i64 0, .slice none 0 0, .bool false] 33))
          have hz4 := Lib.hid (World.size_alloc X3 (.cells #[.int .i64 0, .int .i64 0, .int .i64 0, .int .i64 0, .int .i64 0, .int .i64 0, .int .i64 0, .int .i64 0, .int .i64 0, .int .i64 0, .int .i64 0, .int .i64 0, .int .i64 0, .int .i64 0, .int .i64 0, .int .i64 0, .slice none 0 0, .bool false] 33))
          generalize X3.alloc (.cells #[.int .i64 0, .int .i64 0, .int .i64 0, .int .i64 0, .int .i64 0, .int .i64 0, .int .i64 0, .int .i64 0, .int .i64 0, .int .i64 0, .int .i64 0, .int .i64 0, .int .i64 0, .int .i64 0, .int .i64 0, .int .i64 0, .slice none 0 0, .bool false] 33) = X4 at hHeld U G T BC hz4 ⊢
          refine wpAnyH_ready (rs := [6]) (by kernel_rfl) (by simp) (AllReadyH.cons (o := ⟨_, _, _, _, _, _⟩) rfl (fun K hK => ?_) AllReadyH.nil)
          go_simp
          refine hK.out _ _ ?_ (fun hHeld => ?_)
          · exact below_al BC.out (.cells #[.slice (some ⟨X2.heap.size, 0, none⟩) 1 1, .bool false, .int .i64 0, .int .i64 0, .int .i64 0, .int .i64 0] 47)
          clear hK K
          try simp only [Act.put, List.setIfInBounds_toArray, List.set_cons_zero, List.set_cons_succ]
          replace U := Lib.hid (Off.row (ex := fun _ => False) ((Off.refl _ _).alloc (.cells #[.slice (some ⟨X2.heap.size, 0, none⟩) 1 1, .bool false, .int .i64 0, .int .i64 0, .int .i64 0, .int .i64 0] 47)) U.out (fun _ h => h.elim))
          replace G := Lib.hid (Off.keeps (ex := fun _ => False) ((Off.refl _ _).alloc (.cells #[.slice (some ⟨X2.heap.size, 0, none⟩) 1 1, .bool false, .int .i64 0, .int .i64 0, .int .i64 0, .int .i64 0] 47)) G.out id)
          replace T := Lib.hid (Off.keeps (ex := fun _ => False) ((Off.refl _ _).alloc (.cells #[.slice (some ⟨X2.heap.size, 0, none⟩) 1 1, .bool false, .int .i64 0, .int .i64 0, .int .i64 0, .int .i64 0] 47)) T.out id)
          have Yf := Lib.hid (heap_alloc_new X4 (.cells #[.slice (some ⟨X2.heap.size, 0, none⟩) 1 1, .bool false, .int .i64 0, .int .i64 0, .int .i64 0, .int .i64 0] 47))
          replace BC := Lib.hid (below_al BC.out (.cells #[.slice (some ⟨X2.heap.size, 0, none⟩) 1 1, .bool false, .int .i64 0, .int .i64 0, .int .i64 0, .int .i64 0] 47))
          have hz5 := Lib.hid (World.size_alloc X4 (.cells #[.slice (some ⟨X2.heap.size, 0, none⟩) 1 1, .bool false, .int .i64 0, .int .i64 0, .int .i64 0, .int .i64 0] 47))
          generalize X4.alloc (.cells #[.slice (some ⟨X2.heap.size, 0, none⟩) 1 1, .bool false, .int .i64 0, .int .i64 0, .int .i64 0, .int .i64 0] 47) = X5 at hHeld U G T Yf BC hz5 ⊢
          refine wpAnyH_take (i := 7) (oi := ⟨_, _, _, _, _, _⟩) (v := ?_) rfl (by kernel_rfl) (by kernel_rfl) (by kernel_rfl) (fun _ _ _ h => h) (Or.inl ⟨by rfl, ?_⟩) (by assumption) ?_
          rotate_left
          · intro w hSw; (try dsimp only at hSw); go_simp; (try with_reducible rfl)
          try simp only [Act.put, List.setIfInBounds_toArray, List.set_cons_zero, List.set_cons_succ]
          refine wpAnyH_ready (rs := [8]) (by kernel_rfl) (by simp) (AllReadyH.cons (o := ⟨_, _, _, _, _, _⟩) rfl (fun K hK => ?_) AllReadyH.nil)
          go_simp
          have MM := mem_at X5 (X2.heap.size) (X4.heap.size) (Sg.plain [encI 13 0 0]) _ G.out (show memAt X5 0 (X4.heap.size) _ _ _ _ _ _ from Yf.out) U.out (by show 1 < 1000000; decide)
          refine (c_Step_ok X5 0 (X4.heap.size) { St.new with a := a } (.slice none 0 0) [Sg.plain [encI 13 0 0]] [] MM (stk_nil _) (by decide) (.slice (some ⟨X2.heap.size, 0, none⟩) 1 1) false 0 0 0 0 Yf.out _ hk.out).mono ?_
          rintro e X6 ⟨stk1, rfl, hs1, hmt1, ho1⟩
          obtain ⟨ad1, cp1, hv1, _, _⟩ := row_shape hs1
          subst hv1
          dsimp only
          have BS := Off.below BC.out ho1 BC.out.size (fun k hk => by have h1 := hz1.out; have h2 := hz2.out; have h3 := hz3.out; have h4 := hz4.out; have h5 := hz5.out; omega)
          refine hK.out _ _ ?_ (fun hHeld => ?_)
          · exact BS
          clear hK K
          try simp only [Act.put, List.setIfInBounds_toArray, List.set_cons_zero, List.set_cons_succ]
          replace T := Lib.hid (Off.keeps ho1 T.out (by intro h1; have h2 := T.out; rw [h1] at h2; have h3 := h2.symm.trans Yf.out; simp at h3))
          have hz6 := Lib.hid ho1.size
          replace BC := Lib.hid BS
          clear MM hs1 hmt1 ho1 BS U G Yf
          refine wpAnyH_take (i := 9) (oi := ⟨_, _, _, _, _, _⟩) (v := ?_) rfl (by kernel_rfl) (by kernel_rfl) (by kernel_rfl) (fun _ _ _ h => h) (Or.inl ⟨by rfl, ?_⟩) (by assumption) ?_
          rotate_left
          · intro w hSw; (try dsimp only at hSw); go_simp; (try with_reducible rfl)
          try simp only [Act.put, List.setIfInBounds_toArray, List.set_cons_zero, List.set_cons_succ]
          refine wpAnyH_take (i := 10) (oi := ⟨_, _, _, _, _, _⟩) (v := ?_) rfl (by kernel_rfl) (by kernel_rfl) (by kernel_rfl) (fun _ _ _ h => h) (Or.inl ⟨by rfl, ?_⟩) (by assumption) ?_
          rotate_left
          · intro w hSw; (try dsimp only at hSw); go_simp; (try with_reducible rfl)
          try simp only [Act.put, List.setIfInBounds_toArray, List.set_cons_zero, List.set_cons_succ]
          refine wpAnyH_take (i := 11) (oi := ⟨_, _, _, _, _, _⟩) (v := ?_) rfl (by kernel_rfl) (by kernel_rfl) (by kernel_rfl) (fun _ _ _ h => h) (Or.inl ⟨by rfl, ?_⟩) (by assumption) ?_
          rotate_left
          · intro w hSw; (try dsimp only at hSw); go_simp; (try with_reducible rfl)
          try simp only [Act.put, List.setIfInBounds_toArray, List.set_cons_zero, List.set_cons_succ]
          refine wpAnyH_take (i := 12) (oi := ⟨_, _, _, _, _, _⟩) (v := ?_) rfl (by kernel_rfl) (by kernel_rfl) (by kernel_rfl) (fun _ _ _ h => h) (Or.inl ⟨by rfl, ?_⟩) (by assumption) ?_
          rotate_left
          · intro w hSw; (try dsimp only at hSw); go_simp; (try with_reducible rfl)
          try simp only [Act.put, List.setIfInBounds_toArray, List.set_cons_zero, List.set_cons_succ]
          refine wpAnyH_take (i := 13) (oi := ⟨_, _, _, _, _, _⟩) (v := ?_) rfl (by kernel_rfl) (by kernel_rfl) (by kernel_rfl) (fun _ _ _ h => h) (Or.inl ⟨by rfl, ?_⟩) (by assumption) ?_
          rotate_left
          · intro w hSw; (try dsimp only at hSw); go_simp; (try with_reducible rfl)
          try simp only [Act.put, List.setIfInBounds_toArray, List.set_cons_zero, List.set_cons_succ]
          refine wpAnyH_ready (rs := [15]) (by kernel_rfl) (by simp) (AllReadyH.cons (o := ⟨_, _, _, _, _, _⟩) rfl (fun K hK => ?_) AllReadyH.nil)
          rw [if_pos (by rfl)]
          refine wp_store_st (s' := { St.new with a := toInt a, off := 1 }) (stk' := .slice ad1 0 cp1) (.tmp 7) (.tmp 31) rfl rfl rfl (show stAt _ (X3.heap.size) St.zero (.slice none 0 0) from T.out) rfl ?_
          intro Z SZ FZ
          have BZ : Hid (Below D.heap.size D Z) := Off.below BC.out FZ BC.out.size (fun k hk => by subst hk; have h1 := hz1.out; have h2 := hz2.out; have h3 := hz3.out; have h4 := hz4.out; have h5 := hz5.out; have h6 := hz6.out; omega)
          have SZ := Lib.hid SZ
          clear FZ
          refine hK.out _ _ ?_ (fun hHeld => ?_)
          · exact BZ.out
          clear hK K
          try simp only [Act.put]
          refine wpAnyH_take (i := 16) (oi := ⟨_, _, _, _, _, _⟩) (v := ?_) rfl (by kernel_rfl) (by kernel_rfl) (by kernel_rfl) (fun _ _ _ h => h) (Or.inl ⟨by rfl, ?_⟩) (by assumption) ?_
          rotate_left
          · intro w hSw; (try dsimp only at hSw); go_simp; (try with_reducible rfl)
          try simp only [Act.put, List.setIfInBounds_toArray, List.set_cons_zero, List.set_cons_succ]
          refine wpAnyH_take (i := 17) (oi := ⟨_, _, _, _, _, _⟩) (v := ?_) rfl (by kernel_rfl) (by kernel_rfl) (by kernel_rfl) (fun _ _ _ h => h) (Or.inl ⟨by rfl, ?_⟩) (by assumption) ?_
          rotate_left
          · intro w hSw; (try dsimp only at hSw); go_simp; (try with_reducible rfl)
          try simp only [Act.put, List.setIfInBounds_toArray, List.set_cons_zero, List.set_cons_succ]
          refine wpAnyH_take (i := 18) (oi := ⟨_, _, _, _, _, _⟩) (v := ?_) rfl (by kernel_rfl) (by kernel_rfl) (by kernel_rfl) (fun _ _ _ h => h) (Or.inl ⟨by rfl, ?_⟩) (by assumption) ?_
          rotate_left
          · intro w hSw; (try dsimp only at hSw); go_simp; (try with_reducible rfl)
          try simp only [Act.put, List.setIfInBounds_toArray, List.set_cons_zero, List.set_cons_succ]
          refine wpAnyH_done (by kernel_rfl) ?_ _
          have e1 : Z.cell? ⟨X3.heap.size, 3, none⟩ = some (.int .i64 (toInt a)) := SZ.out.cell 3
          go_wp2_with (first | (go_at_call 33; refine (r_ToInt a wa _).mono ?_; rintro e w9 ⟨rfl, hw9⟩; subst hw9; rw [hc.out]))
          go_ret
          exact ⟨rfl, below2 BD.out BZ⟩
      · go_simp
        refine hK.out _ _ ?_ (fun hHeld => ?_)
        · exact below_al BC.out (.cells #[.int .i64 0, .int .i64 0, .int .i64 0, .int .i64 0, .int .i64 0, .int .i64 0, .int .i64 0, .int .i64 0, .int .i64 0, .int .i64 0, .int .i64 0, .int .i64 0, .int .i64 0, .int .i64 0, .int .i64 0, .int .i64 0, .slice none 0 0, .bool false] 33)
        clear hK K
        try simp only [Act.put, List.setIfInBounds_toArray, List.set_cons_zero, List.set_cons_succ]
        replace U := Lib.hid (Off.row (ex := fun _ => False) ((Off.refl _ _).alloc (.cells #[.int .i64 0, .int .i64 0, .int .i64 0, .int .i64 0, .int .i64 0, .int .i64 0, .int .i64 0, .int .i64 0, .int .i64 0, .int .i64 0, .int .i64 0, .int .i64 0, .int .i64 0, .int .i64 0, .int .i64 0, .int .i64 0, .slice none 0 0, .bool false] 33)) U.out (fun _ h => h.elim))
        have T := Lib.hid (heap_alloc_new X2 (.cells #[.int .i64 0, .int .i64 0, .int .i64 0, .int .i64 0, .int .i64 0, .int .i64 0, .int .i64 0, .int .i64 0, .int .i64 0, .int .i64 0, .int .i64 0, .int .i64 0, .int .i64 0, .int .i64 0, .int .i64 0, .int .i64 0, .slice none 0 0, .bool false] 33))
        replace BC := Lib.hid (below_al BC.out (.cells #[.int .i64 0, .int .i64 0, .int .i64 0, .int .i64 0, .int .i64 0, .int .i64 0, .int .i64 0, .int .i64 0, .int .i64 0, .int .i64 0, .int .i64 0, .int .i64 0, .int .i64 0, .int .i64 0, .int .i64 0, .int .i64 0, .slice none 0 0, .bool false] 33))
        have hz3 := Lib.hid (World.size_alloc X2 (.cells #[.int .i64 0, .int .i64 0, .int .i64 0, .int .i64 0, .int .i64 0, .int .i64 0, .int .i64 0, .int .i64 0, .int .i64 0, .int .i64 0, .int .i64 0, .int .i64 0, .int .i64 0, .int .i64 0, .int .i64 0, .int .i64 0, .slice none 0 0, .bool false] 33))
        generalize X2.alloc (.cells #[.int .i64 0, .int .i64 0, .int .i64 0, .int .i64 0, .int .i64 0, .int .i64 0, .int .i64 0, .int .i64 0, .int .i64 0, .int .i64 0, .int .i64 0, .int .i64 0, .int .i64 0, .int .i64 0, .int .i64 0, .int .i64 0, .slice none 0 0, .bool false] 33) = X3 at hHeld U T BC hz3 ⊢
        refine wpAnyH_ready (rs := [4]) (by kernel_rfl) (by simp) (AllReadyH.cons (o := ⟨_, _, _, _, _, _⟩) rfl (fun K hK => ?_) AllReadyH.nil)
        go_simp
        refine hK.out _ _ ?_ (fun hHeld => ?_)
        · exact below_al BC.out (.cells #[.bool true, .slice adu 1 cpu, .int .i64 7, .int .i64 4, .int .i64 4, .int .i64 4, .int .i64 0] 57)
        clear hK K
        try simp only [Act.put, List.setIfInBounds_toArray, List.set_cons_zero, List.set_cons_succ]
        replace U := Lib.hid (Off.row (ex := fun _ => False) ((Off.refl _ _).alloc (.cells #[.bool true, .slice adu 1 cpu, .int .i64 7, .int .i64 4, .int .i64 4, .int .i64 4, .int .i64 0] 57)) U.out (fun _ h => h.elim))
        replace T := Lib.hid (Off.keeps (ex := fun _ => False) ((Off.refl _ _).alloc (.cells #[.bool true, .slice adu 1 cpu, .int .i64 7, .int .i64 4, .int .i64 4, .int .i64 4, .int .i64 0] 57)) T.out id)
        have G := Lib.hid (heap_alloc_new X3 (.cells #[.bool true, .slice adu 1 cpu, .int .i64 7, .int .i64 4, .int .i64 4, .int .i64 4, .int .i64 0] 57))
        replace BC := Lib.hid (below_al BC.out (.cells #[.bool true, .slice adu 1 cpu, .int .i64 7, .int .i64 4, .int .i64 4, .int .i64 4, .int .i64 0] 57))
        have hz4 := Lib.hid (World.size_alloc X3 (.cells #[.bool true, .slice adu 1 cpu, .int .i64 7, .int .i64 4, .int .i64 4, .int .i64 4, .int .i64 0] 57))
        generalize X3.alloc (.cells #[.bool true, .slice adu 1 cpu, .int .i64 7, .int .i64 4, .int .i64 4, .int .i64 4, .int .i64 0] 57) = X4 at hHeld U T G BC hz4 ⊢
        refine wpAnyH_take (i := 5) (oi := ⟨_, _, _, _, _, _⟩) (v := ?_) rfl (by kernel_rfl) (by kernel_rfl) (by kernel_rfl) (fun _ _ _ h => h) (Or.inl ⟨by rfl, ?_⟩) (by assumption) ?_
        rotate_left
        · intro w hSw; (try dsimp only at hSw); go_simp; (try with_reducible rfl)
        try simp only [Act.put, List.setIfInBounds_toArray, List.set_cons_zero, List.set_cons_succ]
        refine wpAnyH_ready (rs := [6]) (by kernel_rfl) (by simp) (AllReadyH.cons (o := ⟨_, _, _, _, _, _⟩) rfl (fun K hK => ?_) AllReadyH.nil)
        go_simp
        refine hK.out _ _ ?_ (fun hHeld => ?_)
        · exact below_al BC.out (.cells #[.slice (some ⟨X3.heap.size, 0, none⟩) 1 1, .bool false, .int .i64 0, .int .i64 0, .int .i64 0, .int .i64 0] 47)
        clear hK K
        try simp only [Act.put, List.setIfInBounds_toArray, List.set_cons_zero, List.set_cons_succ]
        replace U := Lib.hid (Off.row (ex := fun _ => False) ((Off.refl _ _).alloc (.cells #[.slice (some ⟨X3.heap.size, 0, none⟩) 1 1, .bool false, .int .i64 0, .int .i64 0, .int .i64 0, .int .i64 0] 47)) U.out (fun _ h => h.elim))
        replace T := Lib.hid (Off.keeps (ex := fun _ => False) ((Off.refl _ _).alloc (.cells #[.slice (some ⟨X3.heap.size, 0, none⟩) 1 1, .bool false, .int .i64 0, .int .i64 0, .int .i64 0, .int .i64 0] 47)) T.out id)
        replace G := Lib.hid (Off.keeps (ex := fun _ => False) ((Off.refl _ _).alloc (.cells #[.slice (some ⟨X3.heap.size, 0, none⟩) 1 1, .bool false, .int .i64 0, .int .i64 0, .int .i64 0, .int .i64 0] 47)) G.out id)
        have Yf := Lib.hid (heap_alloc_new X4 (.cells #[.slice (some ⟨X3.heap.size, 0, none⟩) 1 1, .bool false, .int .i64 0, .int .i64 0, .int .i64 0, .int .i64 0] 47))
        replace BC := Lib.hid (below_al BC.out (.cells #[.slice (some ⟨X3.heap.size, 0, none⟩) 1 1, .bool false, .int .i64 0, .int .i64 0, .int .i64 0, .int .i64 0] 47))
        have hz5 := Lib.hid (World.size_alloc X4 (.cells #[.slice (some ⟨X3.heap.size, 0, none⟩) 1 1, .bool false, .int .i64 0, .int .i64 0, .int .i64 0, .int .i64 0] 47))
        generalize X4.alloc (.cells #[.slice (some ⟨X3.heap.size, 0, none⟩) 1 1, .bool false, .int .i64 0, .int .i64 0, .int .i64 0, .int .i64 0] 47) = X5 at hHeld U T G Yf BC hz5 ⊢
        refine wpAnyH_take (i := 7) (oi := ⟨_, _, _, _, _, _⟩) (v := ?_) rfl (by kernel_rfl) (by kernel_rfl) (by kernel_rfl) (fun _ _ _ h => h) (Or.inl ⟨by rfl, ?_⟩) (by assumption) ?_
        rotate_left
        · intro w hSw; (try dsimp only at hSw); go_simp; (try with_reducible rfl)
        try simp only [Act.put, List.setIfInBounds_toArray, List.set_cons_zero, List.set_cons_succ]
        refine wpAnyH_ready (rs := [8]) (by kernel_rfl) (by simp) (AllReadyH.cons (o := ⟨_, _, _, _, _, _⟩) rfl (fun K hK => ?_) AllReadyH.nil)
        go_simp
        have MM := mem_at X5 (X3.heap.size) (X4.heap.size) (Sg.plain [encI 13 0 0]) _ G.out (show memAt X5 0 (X4.heap.size) _ _ _ _ _ _ from Yf.out) U.out (by show 1 < 1000000; decide)
        refine (c_Step_ok X5 0 (X4.heap.size) { St.new with a := a } (.slice none 0 0) [Sg.plain [encI 13 0 0]] [] MM (stk_nil _) (by decide) (.slice (some ⟨X3.heap.size, 0, none⟩) 1 1) false 0 0 0 0 Yf.out _ hk.out).mono ?_
        rintro e X6 ⟨stk1, rfl, hs1, hmt1, ho1⟩
        obtain ⟨ad1, cp1, hv1, _, _⟩ := row_shape hs1
        subst hv1
        dsimp only
        have BS := Off.below BC.out ho1 BC.out.size (fun k hk => by have h1 := hz1.out; have h2 := hz2.out; have h3 := hz3.out; have h4 := hz4.out; have h5 := hz5.out; omega)
        refine hK.out _ _ ?_ (fun hHeld => ?_)
        · exact BS
        clear hK K
        try simp only [Act.put, List.setIfInBounds_toArray, List.set_cons_zero, List.set_cons_succ]
        replace T := Lib.hid (Off.keeps ho1 T.out (by intro h1; have h2 := T.out; rw [h1] at h2; have h3 := h2.symm.trans Yf.out; simp at h3))
        have hz6 := Lib.hid ho1.size
        replace BC := Lib.hid BS
        clear MM hs1 hmt1 ho1 BS U G Yf
        refine wpAnyH_take (i := 9) (oi := ⟨_, _, _, _, _, _⟩) (v := ?_) rfl (by kernel_rfl) (by kernel_rfl) (by kernel_rfl) (fun _ _ _ h => h) (Or.inl ⟨by rfl, ?_⟩) (by assumption) ?_
        rotate_left
        · intro w hSw; (try dsimp only at hSw); go_simp; (try with_reducible rfl)
        try simp only [Act.put, List.setIfInBounds_toArray, List.set_cons_zero, List.set_cons_succ]
        refine wpAnyH_take (i := 10) (oi := ⟨_, _, _, _, _, _⟩) (v := ?_) rfl (by kernel_rfl) (by kernel_rfl) (by kernel_rfl) (fun _ _ _ h => h) (Or.inl ⟨by rfl, ?_⟩) (by assumption) ?_
        rotate_left
        · intro w hSw; (try dsimp only at hSw); go_simp; (try with_reducible rfl)
        try simp only [Act.put, List.setIfInBounds_toArray, List.set_cons_zero, List.set_cons_succ]
        refine wpAnyH_take (i := 11) (oi := ⟨_, _, _, _, _, _⟩) (v := ?_) rfl (by kernel_rfl) (by kernel_rfl) (by kernel_rfl) (fun _ _ _ h => h) (Or.inl ⟨by rfl, ?_⟩) (by assumption) ?_
        rotate_left
        · intro w hSw; (try dsimp only at hSw); go_simp; (try with_reducible rfl)
        try simp only [Act.put, List.setIfInBounds_toArray, List.set_cons_zero, List.set_cons_succ]
        refine wpAnyH_take (i := 12) (oi := ⟨_, _, _, _, _, _⟩) (v := ?_) rfl (by kernel_rfl) (by kernel_rfl) (by kernel_rfl) (fun _ _ _ h => h) (Or.inl ⟨by rfl, ?_⟩) (by assumption) ?_
        rotate_left
        · intro w hSw; (try dsimp only at hSw); go_simp; (try with_reducible rfl)
        try simp only [Act.put, List.setIfInBounds_toArray, List.set_cons_zero, List.set_cons_succ]
        refine wpAnyH_take (i := 13) (oi := ⟨_, _, _, _, _, _⟩) (v := ?_) rfl (by kernel_rfl) (by kernel_rfl) (by kernel_rfl) (fun _ _ _ h => h) (Or.inl ⟨by rfl, ?_⟩) (by assumption) ?_
        rotate_left
        · intro w hSw; (try dsimp only at hSw); go_simp; (try with_reducible rfl)
        try simp only [Act.put, List.setIfInBounds_toArray, List.set_cons_zero, List.set_cons_succ]
        refine wpAnyH_ready (rs := [15]) (by kernel_rfl) (by simp) (AllReadyH.cons (o := ⟨_, _, _, _, _, _⟩) rfl (fun K hK => ?_) AllReadyH.nil)
        rw [if_pos (by rfl)]
        refine wp_store_st (s' := { St.new with a := toInt a, off := 1 }) (stk' := .slice ad1 0 cp1) (.tmp 7) (.tmp 31) rfl rfl rfl (show stAt _ (X2.heap.size) St.zero (.slice none 0 0) from T.out) rfl ?_
        intro Z SZ FZ
        have BZ : Hid (Below D.heap.size D Z) := Off.below BC.out FZ BC.out.size (fun k hk => by subst hk; have h1 := hz1.out; have h2 := hz2.out; have h3 := hz3.out; have h4 := hz4.out; have h5 := hz5.out; have h6 := hz6.out; omega)
        have SZ := Lib.hid SZ
        clear FZ
        refine hK.out _ _ ?_ (fun hHeld => ?_)
        · exact BZ.out
        clear hK K
        try simp only [Act.put]
        refine wpAnyH_take (i := 16) (oi := ⟨_, _, _, _, _, _⟩) (v := ?_) rfl (by kernel_rfl) (by kernel_rfl) (by kernel_rfl) (fun _ _ _ h => h) (Or.inl ⟨by rfl, ?_⟩) (by assumption) ?_
        rotate_left
        · intro w hSw; (try dsimp only at hSw); go_simp; (try with_reducible rfl)
        try simp only [Act.put, List.setIfInBounds_toArray, List.set_cons_zero, List.set_cons_succ]
        refine wpAnyH_take (i := 17) (oi := ⟨_, _, _, _, _, _⟩) (v := ?_) rfl (by kernel_rfl) (by kernel_rfl) (by kernel_rfl) (fun _ _ _ h => h) (Or.inl ⟨by rfl, ?_⟩) (by assumption) ?_
        rotate_left
        · intro w hSw; (try dsimp only at hSw); go_simp; (try with_reducible rfl)
        try simp only [Act.put, List.setIfInBounds_toArray, List.set_cons_zero, List.set_cons_succ]
        refine wpAnyH_take (i := 18) (oi := ⟨_, _, _, _, _, _⟩) (v := ?_) rfl (by kernel_rfl) (by kernel_rfl) (by kernel_rfl) (fun _ _ _ h => h) (Or.inl ⟨by rfl, ?_⟩) (by assumption) ?_
        rotate_left
        · intro w hSw; (try dsimp only at hSw); go_simp; (try with_reducible rfl)
        try simp only [Act.put, List.setIfInBounds_toArray, List.set_cons_zero, List.set_cons_succ]
        refine wpAnyH_done (by kernel_rfl) ?_ _
        have e1 : Z.cell? ⟨X2.heap.size, 3, none⟩ = some (.int .i64 (toInt a)) := SZ.out.cell 3
        go_wp2_with (first | (go_at_call 33; refine (r_ToInt a wa _).mono ?_; rintro e w9 ⟨rfl, hw9⟩; subst hw9; rw [hc.out]))
        go_ret
        exact ⟨rfl, below2 BD.out BZ⟩
    · go_simp
      refine hK.out _ _ ?_ (fun hHeld => ?_)
      · exact below_al BC.out (.cells #[.int .i64 0, .int .i64 0, .int .i64 0, .int .i64 0, .int .i64 0, .int .i64 0, .int .i64 0, .int .i64 0, .int .i64 0, .int .i64 0, .int .i64 0, .int .i64 0, .int .i64 0, .int .i64 0, .int .i64 0, .int .i64 0, .slice none 0 0, .bool false] 33)
      clear hK K
      try simp only [Act.put, List.setIfInBounds_toArray, List.set_cons_zero, List.set_cons_succ]
      replace I := Lib.hid (Off.keeps (ex := fun _ => False) ((Off.refl _ _).alloc (.cells #[.int .i64 0, .int .i64 0, .int .i64 0, .int .i64 0, .int .i64 0, .int .i64 0, .int .i64 0, .int .i64 0, .int .i64 0, .int .i64 0, .int .i64 0, .int .i64 0, .int .i64 0, .int .i64 0, .int .i64 0, .int .i64 0, .slice none 0 0, .bool false] 33)) I.out id)
      have T := Lib.hid (heap_alloc_new X1 (.cells #[.int .i64 0, .int .i64 0, .int .i64 0, .int .i64 0, .int .i64 0, .int .i64 0, .int .i64 0, .int .i64 0, .int .i64 0, .int .i64 0, .int .i64 0, .int .i64 0, .int .i64 0, .int .i64 0, .int .i64 0, .int .i64 0, .slice none 0 0, .bool false] 33))
      replace BC := Lib.hid (below_al BC.out (.cells #[.int .i64 0, .int .i64 0, .int .i64 0, .int .i64 0, .int .i64 0, .int .i64 0, .int .i64 0, .int .i64 0, .int .i64 0, .int .i64 0, .int .i64 0, .int .i64 0, .int .i64 0, .int .i64 0, .int .i64 0, .int .i64 0, .slice none 0 0, .bool false] 33))
      have hz2 := Lib.hid (World.size_alloc X1 (.cells #[.int .i64 0, .int .i64 0, .int .i64 0, .int .i64 0, .int .i64 0, .int .i64 0, .int .i64 0, .int .i64 0, .int .i64 0, .int .i64 0, .int .i64 0, .int .i64 0, .int .i64 0, .int .i64 0, .int .i64 0, .int .i64 0, .slice none 0 0, .bool false] 33))
      generalize X1.alloc (.cells #[.int .i64 0, .int .i64 0, .int .i64 0, .int .i64 0, .int .i64 0, .int .i64 0, .int .i64 0, .int .i64 0, .int .i64 0, .int .i64 0, .int .i64 0, .int .i64 0, .int .i64 0, .int .i64 0, .int .i64 0, .int .i64 0, .slice none 0 0, .bool false] 33) = X2 at hHeld I T BC hz2 ⊢
      refine wpAnyH_ready (rs := [3]) (by kernel_rfl) (by simp) (AllReadyH.cons (o := ⟨_, _, _, _, _, _⟩) rfl (fun K hK => ?_) AllReadyH.nil)
      go_simp
      refine (c_one1 X2 (D.heap.size) 13 0 0 (by decide) (by decide) (by decide) (by decide) (by decide) (by decide) I.out).mono ?_
      rintro e X3 ⟨adu, cpu, rfl, hu, hb⟩
      dsimp only
      refine hK.out _ _ ?_ (fun hHeld => ?_)
      · exact below2 BC.out hb
      clear hK K
      try simp only [Act.put, List.setIfInBounds_toArray, List.set_cons_zero, List.set_cons_succ]
      replace T := Lib.hid (Off.keeps (ex := fun _ => False) (Off.of_below hb) T.out id)
      have U := Lib.hid (row_base hu (Nat.zero_le _))
      replace BC := Lib.hid (below2 BC.out hb)
      have hz3 := Lib.hid hb.size
      clear hu hb I
      refine wpAnyH_ready (rs := [4]) (by kernel_rfl) (by simp) (AllReadyH.cons (o := ⟨_, _, _, _, _, _⟩) rfl (fun K hK => ?_) AllReadyH.nil)
      go_simp
      refine hK.out _ _ ?_ (fun hHeld => ?_)
      · exact below_al BC.out (.cells #[.bool true, .slice adu 1 cpu, .int .i64 7, .int .i64 4, .int .i64 4, .int .i64 4, .int .i64 0] 57)
      clear hK K
      try simp only [Act.put, List.setIfInBounds_toArray, List.set_cons_zero, List.set_cons_succ]
      replace T := Lib.hid (Off.keeps (ex := fun _ => False) ((Off.refl _ _).alloc (.cells #[.bool true, .slice adu 1 cpu, .int .i64 7, .int .i64 4, .int .i64 4, .int .i64 4, .int .i64 0] 57)) T.out id)
      replace U := Lib.hid (Off.row (ex := fun _ => False) ((Off.refl _ _).alloc (.cells #[.bool true, .slice adu 1 cpu, .int .i64 7, .int .i64 4, .int .i64 4, .int .i64 4, .int .i64 0] 57)) U.out (fun _ h => h.elim))
      have G := Lib.hid (heap_alloc_new X3 (.cells #[.bool true, .slice adu 1 cpu, .int .i64 7, .int .i64 4, .int .i64 4, .int .i64 4, .int .i64 0] 57))
      replace BC := Lib.hid (below_al BC.out (.cells #[.bool true, .slice adu 1 cpu, .int .i64 7, .int .i64 4, .int .i64 4, .int .i64 4, .int .i64 0] 57))
      have hz4 := Lib.hid (World.size_alloc X3 (.cells #[.bool true, .slice adu 1 cpu, .int .i64 7, .int .i64 4, .int .i64 4, .int .i64 4, .int .i64 0] 57))
      generalize X3.alloc (.cells #[.bool true, .slice adu 1 cpu, .int .i64 7, .int .i64 4, .int .i64 4, .int .i64 4, .int .i64 0] 57) = X4 at hHeld T U G BC hz4 ⊢
      refine wpAnyH_take (i := 5) (oi := ⟨_, _, _, _, _, _⟩) (v := ?_) rfl (by kernel_rfl) (by kernel_rfl) (by kernel_rfl) (fun _ _ _ h => h) (Or.inl ⟨by rfl, ?_⟩) (by assumption) ?_
      rotate_left
      · intro w hSw; (try dsimp only at hSw); go_simp; (try with_reducible rfl)
      try simp only [Act.put, List.setIfInBounds_toArray, List.set_cons_zero, List.set_cons_succ]
      refine wpAnyH_ready (rs := [6]) (by kernel_rfl) (by simp) (AllReadyH.cons (o := ⟨_, _, _, _, _, _⟩) rfl (fun K hK => ?_) AllReadyH.nil)
      go_simp
      refine hK.out _ _ ?_ (fun hHeld => ?_)
      · exact below_al BC.out (.cells #[.slice (some ⟨X3.heap.size, 0, none⟩) 1 1, .bool false, .int .i64 0, .int .i64 0, .int .i64 0, .int .i64 0] 47)
      clear hK K
      try simp only [Act.put, List.setIfInBounds_toArray, List.set_cons_zero, List.set_cons_succ]
      replace T := Lib.hid (Off.keeps (ex := fun _ => False) ((Off.refl _ _).alloc (.cells #[.slice (some ⟨X3.heap.size, 0, none⟩) 1 1, .bool false, .int .i64 0, .int .i64 0, .int .i64 0, .int .i64 0] 47)) T.out id)
      replace U := Lib.hid (Off.row (ex := fun _ => False) ((Off.refl _ _).alloc (.cells #[.slice (some ⟨X3.heap.size, 0, none⟩) 1 1, .bool false, .int .i64 0, .int .i64 0, .int .i64 0, .int .i64 0] 47)) U.out (fun _ h => h.elim))
      replace G := Lib.hid (Off.keeps (ex := fun _ => False) ((Off.refl _ _).alloc (.cells #[.slice (some ⟨X3.heap.size, 0, none⟩) 1 1, .bool false, .int .i64 0, .int .i64 0, .int .i64 0, .int .i64 0] 47)) G.out id)
      have Yf := Lib.hid (heap_alloc_new X4 (.cells #[.slice (some ⟨X3.heap.size, 0, none⟩) 1 1, .bool false, .int .i64 0, .int .i64 0, .int .i64 0, .int .i64 0] 47))
      replace BC := Lib.hid (below_al BC.out (.cells #[.slice (some ⟨X3.heap.size, 0, none⟩) 1 1, .bool false, .int .i64 0, .int .i64 0, .int .i64 0, .int .i64 0] 47))
      have hz5 := Lib.hid (World.size_alloc X4 (.cells #[.slice (some ⟨X3.heap.size, 0, none⟩) 1 1, .bool false, .int .i64 0, .int .i64 0, .int .i64 0, .int .i64 0] 47))
      generalize X4.alloc (.cells #[.slice (some ⟨X3.heap.size, 0, none⟩) 1 1, .bool false, .int .i64 0, .int .i64 0, .int .i64 0, .int .i64 0] 47) = X5 at hHeld T U G Yf BC hz5 ⊢
      refine wpAnyH_take (i := 7) (oi := ⟨_, _, _, _, _, _⟩) (v := ?_) rfl (by kernel_rfl) (by kernel_rfl) (by kernel_rfl) (fun _ _ _ h => h) (Or.inl ⟨by rfl, ?_⟩) (by assumption) ?_
      rotate_left
      · intro w hSw; (try dsimp only at hSw); go_simp; (try with_reducible rfl)
      try simp only [Act.put, List.setIfInBounds_toArray, List.set_cons_zero, List.set_cons_succ]
      refine wpAnyH_ready (rs := [8]) (by kernel_rfl) (by simp) (AllReadyH.cons (o := ⟨_, _, _, _, _, _⟩) rfl (fun K hK => ?_) AllReadyH.nil)
      go_simp
      have MM := mem_at X5 (X3.heap.size) (X4.heap.size) (Sg.plain [encI 13 0 0]) _ G.out (show memAt X5 0 (X4.heap.size) _ _ _ _ _ _ from Yf.out) U.out (by show 1 < 1000000; decide)
      refine (c_Step_ok X5 0 (X4.heap.size) { St.new with a := a } (.slice none 0 0) [Sg.plain [encI 13 0 0]] [] MM (stk_nil _) (by decide) (.slice (some ⟨X3.heap.size, 0, none⟩) 1 1) false 0 0 0 0 Yf.out _ hk.out).mono ?_
      rintro e X6 ⟨stk1, rfl, hs1, hmt1, ho1⟩
      obtain ⟨ad1, cp1, hv1, _, _⟩ := row_shape hs1
      subst hv1
      dsimp only
      have BS := Off.below BC.out ho1 BC.out.size (fun k hk => by have h1 := hz1.out; have h2 := hz2.out; have h3 := hz3.out; have h4 := hz4.out; have h5 := hz5.out; omega)
      refine hK.out _ _ ?_ (fun hHeld => ?_)
      · exact BS
      clear hK K
      try simp only [Act.put, List.setIfInBounds_toArray, List.set_cons_zero, List.set_cons_succ]
      replace T := Lib.hid (Off.keeps ho1 T.out (by intro h1; have h2 := T.out; rw [h1] at h2; have h3 := h2.symm.trans Yf.out; simp at h3))
      have hz6 := Lib.hid ho1.size
      replace BC := Lib.hid BS
      clear MM hs1 hmt1 ho1 BS U G Yf
      refine wpAnyH_take (i := 9) (oi := ⟨_, _, _, _, _, _⟩) (v := ?_) rfl (by kernel_rfl) (by kernel_rfl) (by kernel_rfl) (fun _ _ _ h => h) (Or.inl ⟨by rfl, ?_⟩) (by assumption) ?_
      rotate_left
      · intro w hSw; (try dsimp only at hSw); go_simp; (try with_reducible rfl)
      try simp only [Act.put, List.setIfInBounds_toArray, List.set_cons_zero, List.set_cons_succ]
      refine wpAnyH_take (i := 10) (oi := ⟨_, _, _, _, _, _⟩) (v := ?_) rfl (by kernel_rfl) (by kernel_rfl) (by kernel_rfl) (fun _ _ _ h => h) (Or.inl ⟨by rfl, ?_⟩) (by assumption) ?_
      rotate_left
      · intro w hSw; (try dsimp only at hSw); go_simp; (try with_reducible rfl)
      try simp only [Act.put, List.setIfInBounds_toArray, List.set_cons_zero, List.set_cons_succ]
      refine wpAnyH_take (i := 11) (oi := ⟨_, _, _, _, _, _⟩) (v := ?_) rfl (by kernel_rfl) (by kernel_rfl) (by kernel_rfl) (fun _ _ _ h => h) (Or.inl ⟨by rfl, ?_⟩) (by assumption) ?_
      rotate_left
      · intro w hSw; (try dsimp only at hSw); go_simp; (try with_reducible rfl)
      try simp only [Act.put, List.setIfInBounds_toArray, List.set_cons_zero, List.set_cons_succ]
      refine wpAnyH_take (i := 12) (oi := ⟨_, _, _, _, _, _⟩) (v := ?_) rfl (by kernel_rfl) (by kernel_rfl) (by kernel_rfl) (fun _ _ _ h => h) (Or.inl ⟨by rfl, ?_⟩) (by assumption) ?_
      rotate_left
      · intro w hSw; (try dsimp only at hSw); go_simp; (try with_reducible rfl)
      try simp only [Act.put, List.setIfInBounds_toArray, List.set_cons_zero, List.set_cons_succ]
      refine wpAnyH_take (i := 13) (oi := ⟨_, _, _, _, _, _⟩) (v := ?_) rfl (by kernel_rfl) (by kernel_rfl) (by kernel_rfl) (fun _ _ _ h => h) (Or.inl ⟨by rfl, ?_⟩) (by assumption) ?_
      rotate_left
      · intro w hSw; (try dsimp only at hSw); go_simp; (try with_reducible rfl)
      try simp only [Act.put, List.setIfInBounds_toArray, List.set_cons_zero, List.set_cons_succ]
      refine wpAnyH_ready (rs := [15]) (by kernel_rfl) (by simp) (AllReadyH.cons (o := ⟨_, _, _, _, _, _⟩) rfl (fun K hK => ?_) AllReadyH.nil)
      rw [if_pos (by rfl)]
      refine wp_store_st (s' := { St.new with a := toInt a, off := 1 }) (stk' := .slice ad1 0 cp1) (.tmp 7) (.tmp 31) rfl rfl rfl (show stAt _ (X1.heap.size) St.zero (.slice none 0 0) from T.out) rfl ?_
      intro Z SZ FZ
      have BZ : Hid (Below D.heap.size D Z) := Off.below BC.out FZ BC.out.size (fun k hk => by subst hk; have h1 := hz1.out; have h2 := hz2.out; have h3 := hz3.out; have h4 := hz4.out; have h5 := hz5.out; have h6 := hz6.out; omega)
      have SZ := Lib.hid SZ
      clear FZ
      refine hK.out _ _ ?_ (fun hHeld => ?_)
      · exact BZ.out
      clear hK K
      try simp only [Act.put]
      refine wpAnyH_take (i := 16) (oi := ⟨_, _, _, _, _, _⟩) (v := ?_) rfl (by kernel_rfl) (by kernel_rfl) (by kernel_rfl) (fun _ _ _ h => h) (Or.inl ⟨by rfl, ?_⟩) (by assumption) ?_
      rotate_left
      · intro w hSw; (try dsimp only at hSw); go_simp; (try with_reducible rfl)
      try simp only [Act.put, List.setIfInBounds_toArray, List.set_cons_zero, List.set_cons_succ]
      refine wpAnyH_take (i := 17) (oi := ⟨_, _, _, _, _, _⟩) (v := ?_) rfl (by kernel_rfl) (by kernel_rfl) (by kernel_rfl) (fun _ _ _ h => h) (Or.inl ⟨by rfl, ?_⟩) (by assumption) ?_
      rotate_left
      · intro w hSw; (try dsimp only at hSw); go_simp; (try with_reducible rfl)
      try simp only [Act.put, List.setIfInBounds_toArray, List.set_cons_zero, List.set_cons_succ]
      refine wpAnyH_take (i := 18) (oi := ⟨_, _, _, _, _, _⟩) (v := ?_) rfl (by kernel_rfl) (by kernel_rfl) (by kernel_rfl) (fun _ _ _ h => h) (Or.inl ⟨by rfl, ?_⟩) (by assumption) ?_
      rotate_left
      · intro w hSw; (try dsimp only at hSw); go_simp; (try with_reducible rfl)
      try simp only [Act.put, List.setIfInBounds_toArray, List.set_cons_zero, List.set_cons_succ]
      refine wpAnyH_done (by kernel_rfl) ?_ _
      have e1 : Z.cell? ⟨X1.heap.size, 3, none⟩ = some (.int .i64 (toInt a)) := SZ.out.cell 3
      go_wp2_with (first | (go_at_call 33; refine (r_ToInt a wa _).mono ?_; rintro e w9 ⟨rfl, hw9⟩; subst hw9; rw [hc.out]))
      go_ret
      exact ⟨rfl, below2 BD.out BZ⟩
  · go_simp
    refine hK.out _ _ ?_ (fun hHeld => ?_)
    · exact below_al BC.out (.cells #[.int .i64 0, .int .i64 0, .int .i64 0, .int .i64 0, .int .i64 0, .int .i64 0, .int .i64 0, .int .i64 0, .int .i64 0, .int .i64 0, .int .i64 0, .int .i64 0, .int .i64 0, .int .i64 0, .int .i64 0, .int .i64 0, .slice none 0 0, .bool false] 33)
    clear hK K
    try simp only [Act.put, List.setIfInBounds_toArray, List.set_cons_zero, List.set_cons_succ]
    have T := Lib.hid (heap_alloc_new D (.cells #[.int .i64 0, .int .i64 0, .int .i64 0, .int .i64 0, .int .i64 0, .int .i64 0, .int .i64 0, .int .i64 0, .int .i64 0, .int .i64 0, .int .i64 0, .int .i64 0, .int .i64 0, .int .i64 0, .int .i64 0, .int .i64 0, .slice none 0 0, .bool false] 33))
    replace BC := Lib.hid (below_al BC.out (.cells #[.int .i64 0, .int .i64 0, .int .i64 0, .int .i64 0, .int .i64 0, .int .i64 0, .int .i64 0, .int .i64 0, .int .i64 0, .int .i64 0, .int .i64 0, .int .i64 0, .int .i64 0, .int .i64 0, .int .i64 0, .int .i64 0, .slice none 0 0, .bool false] 33))
    have hz1 := Lib.hid (World.size_alloc D (.cells #[.int .i64 0, .int .i64 0, .int .i64 0, .int .i64 0, .int .i64 0, .int .i64 0, .int .i64 0, .int .i64 0, .int .i64 0, .int .i64 0, .int .i64 0, .int .i64 0, .int .i64 0, .int .i64 0, .int .i64 0, .int .i64 0, .slice none 0 0, .bool false] 33))
    generalize D.alloc (.cells #[.int .i64 0, .int .i64 0, .int .i64 0, .int .i64 0, .int .i64 0, .int .i64 0, .int .i64 0, .int .i64 0, .int .i64 0, .int .i64 0, .int .i64 0, .int .i64 0, .int .i64 0, .int .i64 0, .int .i64 0, .int .i64 0, .slice none 0 0, .bool false] 33) = X1 at hHeld T BC hz1 ⊢
    refine wpAnyH_ready (rs := [2]) (by kernel_rfl) (by simp) (AllReadyH.cons (o := ⟨_, _, _, _, _, _⟩) rfl (fun K hK => ?_) AllReadyH.nil)
    go_simp
    refine hK.out _ _ ?_ (fun hHeld => ?_)
    · exact below_al BC.out (.cells #[.int .i64 13, .int .i64 0, .int .i64 0] 64)
    clear hK K
    try simp only [Act.put, List.setIfInBounds_toArray, List.set_cons_zero, List.set_cons_succ]
    replace T := Lib.hid (Off.keeps (ex := fun _ => False) ((Off.refl _ _).alloc (.cells #[.int .i64 13, .int .i64 0, .int .i64 0] 64)) T.out id)
    have I := Lib.hid (heap_alloc_new X1 (.cells #[.int .i64 13, .int .i64 0, .int .i64 0] 64))
    replace BC := Lib.hid (below_al BC.out (.cells #[.int .i64 13, .int .i64 0, .int .i64 0] 64))
    have hz2 := Lib.hid (World.size_alloc X1 (.cells #[.int .i64 13, .int .i64 0, .int .i64 0] 64))
    generalize X1.alloc (.cells #[.int .i64 13, .int .i64 0, .int .i64 0] 64) = X2 at hHeld T I BC hz2 ⊢
    refine wpAnyH_ready (rs := [3]) (by kernel_rfl) (by simp) (AllReadyH.cons (o := ⟨_, _, _, _, _, _⟩) rfl (fun K hK => ?_) AllReadyH.nil)
    go_simp
    refine (c_one1 X2 (X1.heap.size) 13 0 0 (by decide) (by decide) (by decide) (by decide) (by decide) (by decide) I.out).mono ?_
    rintro e X3 ⟨adu, cpu, rfl, hu, hb⟩
    dsimp only
    refine hK.out _ _ ?_ (fun hHeld => ?_)
    · exact below2 BC.out hb
    clear hK K
    try simp only [Act.put, List.setIfInBounds_toArray, List.set_cons_zero, List.set_cons_succ]
    replace T := Lib.hid (Off.keeps (ex := fun _ => False) (Off.of_below hb) T.out id)
    have U := Lib.hid (row_base hu (Nat.zero_le _))
    replace BC := Lib.hid (below2 BC.out hb)
    have hz3 := Lib.hid hb.size
    clear hu hb I
    refine wpAnyH_ready (rs := [4]) (by kernel_rfl) (by simp) (AllReadyH.cons (o := ⟨_, _, _, _, _, _⟩) rfl (fun K hK => ?_) AllReadyH.nil)
    go_simp
    refine hK.out _ _ ?_ (fun hHeld => ?_)
    · exact below_al BC.out (.cells #[.bool true, .slice adu 1 cpu, .int .i64 7, .int .i64 4, .int .i64 4, .int .i64 4, .int .i64 0] 57)
    clear hK K
    try simp only [Act.put, List.setIfInBounds_toArray, List.set_cons_zero, List.set_cons_succ]
    replace T := Lib.hid (Off.keeps (ex := fun _ => False) ((Off.refl _ _).alloc (.cells #[.bool true, .slice adu 1 cpu, .int .i64 7, .int .i64 4, .int .i64 4, .int .i64 4, .int .i64 0] 57)) T.out id)
    replace U := Lib.hid (Off.row (ex := fun _ => False) ((Off.refl _ _).alloc (.cells #[.bool true, .slice adu 1 cpu, .int .i64 7, .int .i64 4, .int .i64 4, .int .i64 4, .int .i64 0] 57)) U.out (fun _ h => h.elim))
    have G := Lib.hid (heap_alloc_new X3 (.cells #[.bool true, .slice adu 1 cpu, .int .i64 7, .int .i64 4, .int .i64 4, .int .i64 4, .int .i64 0] 57))
    replace BC := Lib.hid (below_al BC.out (.cells #[.bool true, .slice adu 1 cpu, .int .i64 7, .int .i64 4, .int .i64 4, .int .i64 4, .int .i64 0] 57))
    have hz4 := Lib.hid (World.size_alloc X3 (.cells #[.bool true, .slice adu 1 cpu, .int .i64 7, .int .i64 4, .int .i64 4, .int .i64 4, .int .i64 0] 57))
    generalize X3.alloc (.cells #[.bool true, .slice adu 1 cpu, .int .i64 7, .int .i64 4, .int .i64 4, .int .i64 4, .int .i64 0] 57) = X4 at hHeld T U G BC hz4 ⊢
    refine wpAnyH_take (i := 5) (oi := ⟨_, _, _, _, _, _⟩) (v := ?_) rfl (by kernel_rfl) (by kernel_rfl) (by kernel_rfl) (fun _ _ _ h => h) (Or.inl ⟨by rfl, ?_⟩) (by assumption) ?_
    rotate_left
    · intro w hSw; (try dsimp only at hSw); go_simp; (try with_reducible rfl)
    try simp only [Act.put, List.setIfInBounds_toArray, List.set_cons_zero, List.set_cons_succ]
    refine wpAnyH_ready (rs := [6]) (by kernel_rfl) (by simp) (AllReadyH.cons (o := ⟨_, _, _, _, _, _⟩) rfl (fun K hK => ?_) AllReadyH.nil)
    go_simp
    refine hK.out _ _ ?_ (fun hHeld => ?_)
    · exact below_al BC.out (.cells #[.slice (some ⟨X3.heap.size, 0, none⟩) 1 1, .bool false, .int .i64 0, .int .i64 0, .int .i64 0, .int .i64 0] 47)
    clear hK K
    try simp only [Act.put, List.setIfInBounds_toArray, List.set_cons_zero, List.set_cons_succ]
    replace T := Lib.hid (Off.keeps (ex := fun _ => False) ((Off.refl _ _).alloc (.cells #[.slice (some ⟨X3.heap.size, 0, none⟩) 1 1, .bool false, .int .i64 0, .int .i64 0, .int .i64 0, .int .i64 0] 47)) T.out id)
    replace U := Lib.hid (Off.row (ex := fun _ => False) ((Off.refl _ _).alloc (.cells #[.slice (some ⟨X3.heap.size, 0, none⟩) 1 1, .bool false, .int .i64 0, .int .i64 0, .int .i64 0, .int .i64 0] 47)) U.out (fun _ h => h.elim))
    replace G := Lib.hid (Off.keeps (ex := fun _ => False) ((Off.refl _ _).alloc (.cells #[.slice (some ⟨X3.heap.size, 0, none⟩) 1 1, .bool false, .int .i64 0, .int .i64 0, .int .i64 0, .int .i64 0] 47)) G.out id)
    have Yf := Lib.hid (heap_alloc_new X4 (.cells #[.slice (some ⟨X3.heap.size, 0, none⟩) 1 1, .bool false, .int .i64 0, .int .i64 0, .int .i64 0, .int .i64 0] 47))
    replace BC := Lib.hid (below_al BC.out (.cells #[.slice (some ⟨X3.heap.size, 0, none⟩) 1 1, .bool false, .int .i64 0, .int .i64 0, .int .i64 0, .int .i64 0] 47))
    have hz5 := Lib.hid (World.size_alloc X4 (.cells #[.slice (some ⟨X3.heap.size, 0, none⟩) 1 1, .bool false, .int .i64 0, .int .i64 0, .int .i64 0, .int .i64 0] 47))
    generalize X4.alloc (.cells #[.slice (some ⟨X3.heap.size, 0, none⟩) 1 1, .bool false, .int .i64 0, .int .i64 0, .int .i64 0, .int .i64 0] 47) = X5 at hHeld T U G Yf BC hz5 ⊢
    refine wpAnyH_take (i := 7) (oi := ⟨_, _, _, _, _, _⟩) (v := ?_) rfl (by kernel_rfl) (by kernel_rfl) (by kernel_rfl) (fun _ _ _ h => h) (Or.inl ⟨by rfl, ?_⟩) (by assumption) ?_
    rotate_left
    · intro w hSw; (try dsimp only at hSw); go_simp; (try with_reducible rfl)
    try simp only [Act.put, List.setIfInBounds_toArray, List.set_cons_zero, List.set_cons_succ]
    refine wpAnyH_ready (rs := [8]) (by kernel_rfl) (by simp) (AllReadyH.cons (o := ⟨_, _, _, _, _, _⟩) rfl (fun K hK => ?_) AllReadyH.nil)
    go_simp
    have MM := mem_at X5 (X3.heap.size) (X4.heap.size) (Sg.plain [encI 13 0 0]) _ G.out (show memAt X5 0 (X4.heap.size) _ _ _ _ _ _ from Yf.out) U.out (by show 1 < 1000000; decide)
    refine (c_Step_ok X5 0 (X4.heap.size) { St.new with a := a } (.slice none 0 0) [Sg.plain [encI 13 0 0]] [] MM (stk_nil _) (by decide) (.slice (some ⟨X3.heap.size, 0, none⟩) 1 1) false 0 0 0 0 Yf.out _ hk.out).mono ?_
    rintro e X6 ⟨stk1, rfl, hs1, hmt1, ho1⟩
    obtain ⟨ad1, cp1, hv1, _, _⟩ := row_shape hs1
    subst hv1
    dsimp only
    have BS := Off.below BC.out ho1 BC.out.size (fun k hk => by have h1 := hz1.out; have h2 := hz2.out; have h3 := hz3.out; have h4 := hz4.out; have h5 := hz5.out; omega)
    refine hK.out _ _ ?_ (fun hHeld => ?_)
    · exact BS
    clear hK K
    try simp only [Act.put, List.setIfInBounds_toArray, List.set_cons_zero, List.set_cons_succ]
    replace T := Lib.hid (Off.keeps ho1 T.out (by intro h1; have h2 := T.out; rw [h1] at h2; have h3 := h2.symm.trans Yf.out; simp at h3))
    have hz6 := Lib.hid ho1.size
    replace BC := Lib.hid BS
    clear MM hs1 hmt1 ho1 BS U G Yf
    refine wpAnyH_take (i := 9) (oi := ⟨_, _, _, _, _, _⟩) (v := ?_) rfl (by kernel_rfl) (by kernel_rfl) (by kernel_rfl) (fun _ _ _ h => h) (Or.inl ⟨by rfl, ?_⟩) (by assumption) ?_
    rotate_left
    · intro w hSw; (try dsimp only at hSw); go_simp; (try with_reducible rfl)
    try simp only [Act.put, List.setIfInBounds_toArray, List.set_cons_zero, List.set_cons_succ]
    refine wpAnyH_take (i := 10) (oi := ⟨_, _, _, _, _, _⟩) (v := ?_) rfl (by kernel_rfl) (by kernel_rfl) (by kernel_rfl) (fun _ _ _ h => h) (Or.inl ⟨by rfl, ?_⟩) (by assumption) ?_
    rotate_left
    · intro w hSw; (try dsimp only at hSw); go_simp; (try with_reducible rfl)
    try simp only [Act.put, List.setIfInBounds_toArray, List.set_cons_zero, List.set_cons_succ]
    refine wpAnyH_take (i := 11) (oi := ⟨_, _, _, _, _, _⟩) (v := ?_) rfl (by kernel_rfl) (by kernel_rfl) (by kernel_rfl) (fun _ _ _ h => h) (Or.inl ⟨by rfl, ?_⟩) (by assumption) ?_
    rotate_left
    · intro w hSw; (try dsimp only at hSw); go_simp; (try with_reducible rfl)
    try simp only [Act.put, List.setIfInBounds_toArray, List.set_cons_zero, List.set_cons_succ]
    refine wpAnyH_take (i := 12) (oi := ⟨_, _, _, _, _, _⟩) (v := ?_) rfl (by kernel_rfl) (by kernel_rfl) (by kernel_rfl) (fun _ _ _ h => h) (Or.inl ⟨by rfl, ?_⟩) (by assumption) ?_
    rotate_left
    · intro w hSw; (try dsimp only at hSw); go_simp; (try with_reducible rfl)
    try simp only [Act.put, List.setIfInBounds_toArray, List.set_cons_zero, List.set_cons_succ]
    refine wpAnyH_take (i := 13) (oi := ⟨_, _, _, _, _, _⟩) (v := ?_) rfl (by kernel_rfl) (by kernel_rfl) (by kernel_rfl) (fun _ _ _ h => h) (Or.inl ⟨by rfl, ?_⟩) (by assumption) ?_
    rotate_left
    · intro w hSw; (try dsimp only at hSw); go_simp; (try with_reducible rfl)
    try simp only [Act.put, List.setIfInBounds_toArray, List.set_cons_zero, List.set_cons_succ]
    refine wpAnyH_ready (rs := [15]) (by kernel_rfl) (by simp) (AllReadyH.cons (o := ⟨_, _, _, _, _, _⟩) rfl (fun K hK => ?_) AllReadyH.nil)
    rw [if_pos (by rfl)]
    refine wp_store_st (s' := { St.new with a := toInt a, off := 1 }) (stk' := .slice ad1 0 cp1) (.tmp 7) (.tmp 31) rfl rfl rfl (show stAt _ (D.heap.size) St.zero (.slice none 0 0) from T.out) rfl ?_
    intro Z SZ FZ
    have BZ : Hid (Below D.heap.size D Z) := Off.below BC.out FZ BC.out.size (fun k hk => by subst hk; have h1 := hz1.out; have h2 := hz2.out; have h3 := hz3.out; have h4 := hz4.out; have h5 := hz5.out; have h6 := hz6.out; omega)
    have SZ := Lib.hid SZ
    clear FZ
    refine hK.out _ _ ?_ (fun hHeld => ?_)
    · exact BZ.out
    clear hK K
    try simp only [Act.put]
    refine wpAnyH_take (i := 16) (oi := ⟨_, _, _, _, _, _⟩) (v := ?_) rfl (by kernel_rfl) (by kernel_rfl) (by kernel_rfl) (fun _ _ _ h => h) (Or.inl ⟨by rfl, ?_⟩) (by assumption) ?_
    rotate_left
    · intro w hSw; (try dsimp only at hSw); go_simp; (try with_reducible rfl)
    try simp only [Act.put, List.setIfInBounds_toArray, List.set_cons_zero, List.set_cons_succ]
    refine wpAnyH_take (i := 17) (oi := ⟨_, _, _, _, _, _⟩) (v := ?_) rfl (by kernel_rfl) (by kernel_rfl) (by kernel_rfl) (fun _ _ _ h => h) (Or.inl ⟨by rfl, ?_⟩) (by assumption) ?_
    rotate_left
    · intro w hSw; (try dsimp only at hSw); go_simp; (try with_reducible rfl)
    try simp only [Act.put, List.setIfInBounds_toArray, List.set_cons_zero, List.set_cons_succ]
    refine wpAnyH_take (i := 18) (oi := ⟨_, _, _, _, _, _⟩) (v := ?_) rfl (by kernel_rfl) (by kernel_rfl) (by kernel_rfl) (fun _ _ _ h => h) (Or.inl ⟨by rfl, ?_⟩) (by assumption) ?_
    rotate_left
    · intro w hSw; (try dsimp only at hSw); go_simp; (try with_reducible rfl)
    try simp only [Act.put, List.setIfInBounds_toArray, List.set_cons_zero, List.set_cons_succ]
    refine wpAnyH_done (by kernel_rfl) ?_ _
    have e1 : Z.cell? ⟨D.heap.size, 3, none⟩ = some (.int .i64 (toInt a)) := SZ.out.cell 3
    go_wp2_with (first | (go_at_call 33; refine (r_ToInt a wa _).mono ?_; rintro e w9 ⟨rfl, hw9⟩; subst hw9; rw [hc.out]))
    go_ret
    exact ⟨rfl, below2 BD.out BZ⟩
end Go.Proofs.Ytiakonmamkfopaa
