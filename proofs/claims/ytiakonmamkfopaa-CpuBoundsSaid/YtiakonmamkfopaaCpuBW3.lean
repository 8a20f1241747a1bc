/- CpuBounds: the law's walk, one operation. -/
import Derived.Test.YtiakonmamkfopaaCpuBW0
import Derived.Deep.RegionHeld3
namespace Go.Proofs.Ytiakonmamkfopaa
open Go.RowKit Go.ChangeShapes
set_option linter.unusedVariables false
set_option maxRecDepth 100000

set_option maxHeartbeats 8000000 in
theorem lawB3 (y0 y1 y2 y3 : Int) (hx : y2 % 4 = 3) (w : World) : Calls Try.prog 12 #[.int .i64 y0, .int .i64 y1, .int .i64 y2, .int .i64 y3] w fun e w' => e = .returned (.bool true) ∧ Below w.heap.size w w' := by
  obtain ⟨off, hoff⟩ : ∃ o, y0 % 24 - 4 = o := ⟨_, rfl⟩
  have o0 : -4 ≤ off := by omega
  have o1 : off < 20 := by omega
  obtain ⟨seg, hseg⟩ : ∃ o, y1 % 4 = o := ⟨_, rfl⟩
  have s0 : 0 ≤ seg := by omega
  have s1 : seg < 4 := by omega
  obtain ⟨sz, hsz⟩ : ∃ m : Nat, y3 % 8 = (m : Int) := ⟨(y3 % 8).toNat, by omega⟩
  have z1 : sz < 8 := by omega
  obtain ⟨fo, hfo⟩ : ∃ f, 1 + off % 9 = f := ⟨_, rfl⟩
  have f1 : 1 ≤ fo := by omega
  have hwr : IntKind.i64.wrap (y0 % 24 - 4) = off := by rw [hoff, IntKind.wrap_i64]; omega
  have hwf : IntKind.i64.wrap (1 + off % 9) = fo := by rw [hfo, IntKind.wrap_i64]; omega
  obtain ⟨E, hE⟩ : ∃ E, errOf (stR (bouM 20 sz) (bouS seg off) []) = E := ⟨_, rfl⟩
  have EE : (seg = 0 ∧ ((off < 0 ∨ 16 ≤ off) ∧ E = 34 ∨ 1 ≤ off ∧ off < 16 ∧ E = 35 ∨ off = 0 ∧ E = 0)) ∨ (seg = 1 ∧ ((off < 0 ∨ 16 ≤ off) ∧ E = 34 ∨ (sz : Int) ≤ off ∧ 0 ≤ off ∧ off < 16 ∧ E = 35 ∨ 0 ≤ off ∧ off < 16 ∧ off < (sz : Int) ∧ E = 0)) ∨ (2 ≤ seg ∧ E = 35) := by
    have e0 : seg = 0 → E = if (20 : Int) = 20 ∧ (off < 0 ∨ 16 ≤ off) then 34 else if off < 0 ∨ (1 : Int) ≤ off then 35 else 0 := by
      rintro rfl
      rw [← hE]
      exact bou_some 20 0 off sz [encI 20 1 0] (by decide) o0 o1 rfl
    have e1 : seg = 1 → E = if (20 : Int) = 20 ∧ (off < 0 ∨ 16 ≤ off) then 34 else if off < 0 ∨ (sz : Int) ≤ off then 35 else 0 := by
      rintro rfl
      have h := bou_some 20 1 off sz (List.replicate sz 0) (by decide) o0 o1 rfl
      rw [List.length_replicate] at h
      rw [← hE]
      exact h
    have e2 : 2 ≤ seg → E = 35 := by
      intro h
      rw [← hE]
      rcases (show seg = 2 ∨ seg = 3 by omega) with rfl | rfl
      · exact bou_none 20 2 off sz (by decide) rfl
      · exact bou_none 20 3 off sz (by decide) rfl
    rcases (show seg = 0 ∨ seg = 1 ∨ 2 ≤ seg by omega) with h | h | h
    · have e := e0 h
      clear e0 e1 e2
      split at e
      · omega
      · split at e <;> omega
    · have e := e1 h
      clear e0 e1 e2
      split at e
      · omega
      · split at e <;> omega
    · have e := e2 h
      omega
  replace EE := Lib.hid EE
  have OO := Lib.hid (And.intro o0 (And.intro o1 (And.intro s0 (And.intro s1 z1))))
  replace hE := Lib.hid hE
  replace hx := Lib.hid hx
  replace hseg := Lib.hid hseg
  replace hsz := Lib.hid hsz
  replace f1 := Lib.hid f1
  replace z1 := Lib.hid z1
  clear o0 o1 s0 s1 hoff hfo
  obtain ⟨i0, hin, hz0, hz1, hz2⟩ := info_parts A.infoI
  go_enter Try.func12, Try.ntmps12
  go_wp2_with (first | (go_at_call 14; refine (c_known _).mono ?_; rintro e w1 ⟨rfl, hb1'⟩; have HB1 := Lib.hid hb1'; clear hb1') | (go_at_call 21; refine (within16 _ _ (by decide) (by decide) _).mono ?_; rintro e w2 ⟨rfl, hw2⟩; subst hw2; (first | rw [hseg.out] | rw [hsz.out] | rw [hx.out] | skip)) | (refine wpList_make_full _ rfl (.tmp 38) (.tmp 38) 53 rfl 0 2 i0 (.int .i64 0) 1 A.underI hin hz0 hz1 .i64 .i64 (sz : Int) (sz : Int) sz rfl rfl rfl rfl (by have := z1.out; rw [hz2]; omega) (by have := z1.out; unfold maxLen; omega) (Nat.zero_le _) ?_; intro w4 hu4 hgr4; have HB4 := Lib.hid ((below_al HB1.out _).grown hgr4 (by have := HB1.out.size; simp; omega) (fun k hk => by cases hk)); rw [World.size_alloc, made_zeros] at hu4; replace hu4 := Lib.hid hu4; clear hgr4))
  generalize w1.heap.size + 1 = P at hu4 ⊢
  obtain ⟨W5, hW5, D5, V5, B5⟩ : ∃ W, w4.alloc (.cells #[.bool true, .slice (some ⟨P, 0, none⟩) sz sz, .int .i64 7, .int .i64 4, .int .i64 4, .int .i64 4, .int .i64 0] 57) = W ∧ Hid (blk7 W w4.heap.size 57 (.bool true) (.slice (some ⟨P, 0, none⟩) sz sz) (.int .i64 7) (.int .i64 4) (.int .i64 4) (.int .i64 4) (.int .i64 0)) ∧ Hid (W.ownsRow 0 2 1 (.slice (some ⟨P, 0, none⟩) sz sz) sz ((List.replicate sz (0 : Int)).map (Value.int .i64))) ∧ Hid (Below w.heap.size w W) := ⟨_, rfl, heap_alloc_new _ _, Off.row (ex := fun _ => False) ((Off.refl _ _).alloc _) hu4.out (fun _ h => h.elim), below_al HB4.out _⟩
  rw [hW5]
  clear hW5 HB4 hu4
  have DD : Hid (blk7 W5.drew w4.heap.size 57 (.bool true) (.slice (some ⟨P, 0, none⟩) sz sz) (.int .i64 7) (.int .i64 4) (.int .i64 4) (.int .i64 4) (.int .i64 0)) := D5
  have V : Hid (W5.drew.ownsRow 0 2 1 (.slice (some ⟨P, 0, none⟩) sz sz) sz ((List.replicate sz (0 : Int)).map (Value.int .i64))) := V5
  have BD := Lib.hid (below_drew B5.out)
  clear D5 V5 B5
  refine wp_region_held_drew (S := fun w' => Below W5.drew.heap.size W5.drew w') (by kernel_rfl) (Below.refl _ _) (fun hHeld => ?_)
  generalize W5.drew = D at DD V BD hHeld ⊢
  have BC := Lib.hid (Below.refl D.heap.size D)
  have k0 : ∀ w', Below D.heap.size D w' → w'.cell? ⟨w4.heap.size, 0, none⟩ = some (.bool true) := fun w' h => (show blk7 w' w4.heap.size 57 (.bool true) (.slice (some ⟨P, 0, none⟩) sz sz) (.int .i64 7) (.int .i64 4) (.int .i64 4) (.int .i64 4) (.int .i64 0) from Off.keeps (.of_below (ex := fun _ => False) h) DD.out id).cell 0
  have k1 : ∀ w', Below D.heap.size D w' → w'.cell? ⟨w4.heap.size, 1, none⟩ = some (.slice (some ⟨P, 0, none⟩) sz sz) := fun w' h => (show blk7 w' w4.heap.size 57 (.bool true) (.slice (some ⟨P, 0, none⟩) sz sz) (.int .i64 7) (.int .i64 4) (.int .i64 4) (.int .i64 4) (.int .i64 0) from Off.keeps (.of_below (ex := fun _ => False) h) DD.out id).cell 1
  have k2 : ∀ w', Below D.heap.size D w' → w'.cell? ⟨w4.heap.size, 2, none⟩ = some (.int .i64 7) := fun w' h => (show blk7 w' w4.heap.size 57 (.bool true) (.slice (some ⟨P, 0, none⟩) sz sz) (.int .i64 7) (.int .i64 4) (.int .i64 4) (.int .i64 4) (.int .i64 0) from Off.keeps (.of_below (ex := fun _ => False) h) DD.out id).cell 2
  have k3 : ∀ w', Below D.heap.size D w' → w'.cell? ⟨w4.heap.size, 3, none⟩ = some (.int .i64 4) := fun w' h => (show blk7 w' w4.heap.size 57 (.bool true) (.slice (some ⟨P, 0, none⟩) sz sz) (.int .i64 7) (.int .i64 4) (.int .i64 4) (.int .i64 4) (.int .i64 0) from Off.keeps (.of_below (ex := fun _ => False) h) DD.out id).cell 3
  have k4 : ∀ w', Below D.heap.size D w' → w'.cell? ⟨w4.heap.size, 4, none⟩ = some (.int .i64 4) := fun w' h => (show blk7 w' w4.heap.size 57 (.bool true) (.slice (some ⟨P, 0, none⟩) sz sz) (.int .i64 7) (.int .i64 4) (.int .i64 4) (.int .i64 4) (.int .i64 0) from Off.keeps (.of_below (ex := fun _ => False) h) DD.out id).cell 4
  have k5 : ∀ w', Below D.heap.size D w' → w'.cell? ⟨w4.heap.size, 5, none⟩ = some (.int .i64 4) := fun w' h => (show blk7 w' w4.heap.size 57 (.bool true) (.slice (some ⟨P, 0, none⟩) sz sz) (.int .i64 7) (.int .i64 4) (.int .i64 4) (.int .i64 4) (.int .i64 0) from Off.keeps (.of_below (ex := fun _ => False) h) DD.out id).cell 5
  have k6 : ∀ w', Below D.heap.size D w' → w'.cell? ⟨w4.heap.size, 6, none⟩ = some (.int .i64 0) := fun w' h => (show blk7 w' w4.heap.size 57 (.bool true) (.slice (some ⟨P, 0, none⟩) sz sz) (.int .i64 7) (.int .i64 4) (.int .i64 4) (.int .i64 4) (.int .i64 0) from Off.keeps (.of_below (ex := fun _ => False) h) DD.out id).cell 6
  refine wpAnyH_take (i := 0) (oi := ⟨_, _, _, _, _, _⟩) (v := ?_) rfl (by kernel_rfl) (by kernel_rfl) (by kernel_rfl) (fun _ _ _ h => h) (Or.inl ⟨by rfl, ?_⟩) (by assumption) ?_
  rotate_left
  · intro w hSw; (try dsimp only at hSw); go_simp; (try with_reducible rfl)
  try simp only [Act.put, List.setIfInBounds_toArray, List.set_cons_zero, List.set_cons_succ]
  refine wpAnyH_take (i := 1) (oi := ⟨_, _, _, _, _, _⟩) (v := ?_) rfl (by kernel_rfl) (by kernel_rfl) (by kernel_rfl) (fun _ _ _ h => h) (Or.inl ⟨by rfl, ?_⟩) (by assumption) ?_
  rotate_left
  · intro w hSw; (try dsimp only at hSw); go_simp; (try with_reducible rfl)
  try simp only [Act.put, List.setIfInBounds_toArray, List.set_cons_zero, List.set_cons_succ]
  refine wpAnyH_take (i := 4) (oi := ⟨_, _, _, _, _, _⟩) (v := ?_) rfl (by kernel_rfl) (by kernel_rfl) (by kernel_rfl) (fun _ _ _ h => h) (Or.inl ⟨by rfl, ?_⟩) (by assumption) ?_
  rotate_left
  · intro w hSw; (try dsimp only at hSw); go_simp; (try with_reducible rfl)
  try simp only [Act.put, List.setIfInBounds_toArray, List.set_cons_zero, List.set_cons_succ]
  clear k0 k1 k2 k3 k4 k5 k6
  refine wpAnyH_ready (rs := [2]) (by kernel_rfl) (by simp) (AllReadyH.cons (o := ⟨_, _, _, _, _, _⟩) rfl (fun K hK => ?_) AllReadyH.nil)
  go_simp
  refine hK.out _ _ ?_ (fun hHeld => ?_)
  · exact below_al BC.out (.cells #[.int .i64 20, .int .i64 1, .int .i64 0] 64)
  clear hK K
  try simp only [Act.put, List.setIfInBounds_toArray, List.set_cons_zero, List.set_cons_succ]
  replace V := Lib.hid (Off.row (ex := fun _ => False) ((Off.refl _ _).alloc (.cells #[.int .i64 20, .int .i64 1, .int .i64 0] 64)) V.out (fun _ h => h.elim))
  have I := Lib.hid (heap_alloc_new D (.cells #[.int .i64 20, .int .i64 1, .int .i64 0] 64))
  replace BC := Lib.hid (below_al BC.out (.cells #[.int .i64 20, .int .i64 1, .int .i64 0] 64))
  have hzX1 := Lib.hid (World.size_alloc D (.cells #[.int .i64 20, .int .i64 1, .int .i64 0] 64))
  generalize D.alloc (.cells #[.int .i64 20, .int .i64 1, .int .i64 0] 64) = X1 at hHeld V I BC hzX1 ⊢
  refine wpAnyH_ready (rs := [3]) (by kernel_rfl) (by simp) (AllReadyH.cons (o := ⟨_, _, _, _, _, _⟩) rfl (fun K hK => ?_) AllReadyH.nil)
  go_simp
  refine (c_one1 X1 D.heap.size 20 1 0 (by decide) (by decide) (by decide) (by decide) (by decide) (by decide) I.out).mono ?_
  rintro e X2 ⟨adu, cpu, rfl, hu, hb⟩
  dsimp only
  refine hK.out _ _ ?_ (fun hHeld => ?_)
  · exact below2 BC.out hb
  clear hK K
  try simp only [Act.put, List.setIfInBounds_toArray, List.set_cons_zero, List.set_cons_succ]
  replace V := Lib.hid (Off.row (ex := fun _ => False) (.of_below hb) V.out (fun _ h => h.elim))
  have U := Lib.hid (row_base hu (Nat.zero_le _))
  replace BC := Lib.hid (below2 BC.out hb)
  have hzX2 := Lib.hid hb.size
  clear hu hb I
  refine wpAnyH_ready (rs := [5]) (by kernel_rfl) (by simp) (AllReadyH.cons (o := ⟨_, _, _, _, _, _⟩) rfl (fun K hK => ?_) AllReadyH.nil)
  go_simp
  refine hK.out _ _ ?_ (fun hHeld => ?_)
  · exact below_al BC.out (.cells #[.bool true, .slice adu 1 cpu, .int .i64 7, .int .i64 4, .int .i64 4, .int .i64 4, .int .i64 0, .bool true, .slice (some ⟨P, 0, none⟩) sz sz, .int .i64 7, .int .i64 4, .int .i64 4, .int .i64 4, .int .i64 0] 57)
  clear hK K
  try simp only [Act.put, List.setIfInBounds_toArray, List.set_cons_zero, List.set_cons_succ]
  replace U := Lib.hid (Off.row (ex := fun _ => False) ((Off.refl _ _).alloc (.cells #[.bool true, .slice adu 1 cpu, .int .i64 7, .int .i64 4, .int .i64 4, .int .i64 4, .int .i64 0, .bool true, .slice (some ⟨P, 0, none⟩) sz sz, .int .i64 7, .int .i64 4, .int .i64 4, .int .i64 4, .int .i64 0] 57)) U.out (fun _ h => h.elim))
  replace V := Lib.hid (Off.row (ex := fun _ => False) ((Off.refl _ _).alloc (.cells #[.bool true, .slice adu 1 cpu, .int .i64 7, .int .i64 4, .int .i64 4, .int .i64 4, .int .i64 0, .bool true, .slice (some ⟨P, 0, none⟩) sz sz, .int .i64 7, .int .i64 4, .int .i64 4, .int .i64 4, .int .i64 0] 57)) V.out (fun _ h => h.elim))
  have G := Lib.hid (heap_alloc_new X2 (.cells #[.bool true, .slice adu 1 cpu, .int .i64 7, .int .i64 4, .int .i64 4, .int .i64 4, .int .i64 0, .bool true, .slice (some ⟨P, 0, none⟩) sz sz, .int .i64 7, .int .i64 4, .int .i64 4, .int .i64 4, .int .i64 0] 57))
  replace BC := Lib.hid (below_al BC.out (.cells #[.bool true, .slice adu 1 cpu, .int .i64 7, .int .i64 4, .int .i64 4, .int .i64 4, .int .i64 0, .bool true, .slice (some ⟨P, 0, none⟩) sz sz, .int .i64 7, .int .i64 4, .int .i64 4, .int .i64 4, .int .i64 0] 57))
  have hzX3 := Lib.hid (World.size_alloc X2 (.cells #[.bool true, .slice adu 1 cpu, .int .i64 7, .int .i64 4, .int .i64 4, .int .i64 4, .int .i64 0, .bool true, .slice (some ⟨P, 0, none⟩) sz sz, .int .i64 7, .int .i64 4, .int .i64 4, .int .i64 4, .int .i64 0] 57))
  generalize X2.alloc (.cells #[.bool true, .slice adu 1 cpu, .int .i64 7, .int .i64 4, .int .i64 4, .int .i64 4, .int .i64 0, .bool true, .slice (some ⟨P, 0, none⟩) sz sz, .int .i64 7, .int .i64 4, .int .i64 4, .int .i64 4, .int .i64 0] 57) = X3 at hHeld U V G BC hzX3 ⊢
  refine wpAnyH_take (i := 6) (oi := ⟨_, _, _, _, _, _⟩) (v := ?_) rfl (by kernel_rfl) (by kernel_rfl) (by kernel_rfl) (fun _ _ _ h => h) (Or.inl ⟨by rfl, ?_⟩) (by assumption) ?_
  rotate_left
  · intro w hSw; (try dsimp only at hSw); go_simp; (try with_reducible rfl)
  try simp only [Act.put, List.setIfInBounds_toArray, List.set_cons_zero, List.set_cons_succ]
  refine wpAnyH_ready (rs := [7]) (by kernel_rfl) (by simp) (AllReadyH.cons (o := ⟨_, _, _, _, _, _⟩) rfl (fun K hK => ?_) AllReadyH.nil)
  go_simp
  refine hK.out _ _ ?_ (fun hHeld => ?_)
  · exact below_al BC.out (.cells #[.slice (some ⟨X2.heap.size, 0, none⟩) 2 2, .bool false, .int .i64 0, .int .i64 0, .int .i64 0, .int .i64 0] 47)
  clear hK K
  try simp only [Act.put, List.setIfInBounds_toArray, List.set_cons_zero, List.set_cons_succ]
  replace U := Lib.hid (Off.row (ex := fun _ => False) ((Off.refl _ _).alloc (.cells #[.slice (some ⟨X2.heap.size, 0, none⟩) 2 2, .bool false, .int .i64 0, .int .i64 0, .int .i64 0, .int .i64 0] 47)) U.out (fun _ h => h.elim))
  replace V := Lib.hid (Off.row (ex := fun _ => False) ((Off.refl _ _).alloc (.cells #[.slice (some ⟨X2.heap.size, 0, none⟩) 2 2, .bool false, .int .i64 0, .int .i64 0, .int .i64 0, .int .i64 0] 47)) V.out (fun _ h => h.elim))
  replace G := Lib.hid (Off.keeps (ex := fun _ => False) ((Off.refl _ _).alloc (.cells #[.slice (some ⟨X2.heap.size, 0, none⟩) 2 2, .bool false, .int .i64 0, .int .i64 0, .int .i64 0, .int .i64 0] 47)) G.out id)
  have Yf := Lib.hid (heap_alloc_new X3 (.cells #[.slice (some ⟨X2.heap.size, 0, none⟩) 2 2, .bool false, .int .i64 0, .int .i64 0, .int .i64 0, .int .i64 0] 47))
  replace BC := Lib.hid (below_al BC.out (.cells #[.slice (some ⟨X2.heap.size, 0, none⟩) 2 2, .bool false, .int .i64 0, .int .i64 0, .int .i64 0, .int .i64 0] 47))
  have hzX4 := Lib.hid (World.size_alloc X3 (.cells #[.slice (some ⟨X2.heap.size, 0, none⟩) 2 2, .bool false, .int .i64 0, .int .i64 0, .int .i64 0, .int .i64 0] 47))
  generalize X3.alloc (.cells #[.slice (some ⟨X2.heap.size, 0, none⟩) 2 2, .bool false, .int .i64 0, .int .i64 0, .int .i64 0, .int .i64 0] 47) = X4 at hHeld U V G Yf BC hzX4 ⊢
  refine wpAnyH_take (i := 8) (oi := ⟨_, _, _, _, _, _⟩) (v := ?_) rfl (by kernel_rfl) (by kernel_rfl) (by kernel_rfl) (fun _ _ _ h => h) (Or.inl ⟨by rfl, ?_⟩) (by assumption) ?_
  rotate_left
  · intro w hSw; (try dsimp only at hSw); go_simp; (try with_reducible rfl)
  try simp only [Act.put, List.setIfInBounds_toArray, List.set_cons_zero, List.set_cons_succ]
  refine wpAnyH_done (by kernel_rfl) ?_ _
  have MM := Lib.hid (mem_at2 X4 X2.heap.size X3.heap.size (Sg.plain [encI 20 1 0]) (Sg.plain (List.replicate sz 0)) _ _ G.out (show memAt X4 0 X3.heap.size _ _ _ _ _ _ from Yf.out) U.out (by show X4.ownsRow 0 _ 1 _ (List.replicate sz (0 : Int)).length _; rw [List.length_replicate]; exact V.out) (by show 1 < 1000000; decide) (by show (List.replicate sz (0 : Int)).length < 1000000; rw [List.length_replicate]; have := z1.out; omega))
  have BX := Lib.hid (below2 BD.out BC.out)
  have hzX : Hid (X3.heap.size < X4.heap.size) := Yf.out |> fun h => (Array.getElem?_eq_some_iff.1 h).1
  have YY : Hid (memAt X4 0 X3.heap.size (.slice (some ⟨X2.heap.size, 0, none⟩) 2 2) false 0 0 0 0) := Yf
  have hYw : Hid (w.heap.size ≤ X3.heap.size) := by
    have h1 := BD.out.size
    have h2 := hzX1.out
    have h6 := hzX2.out
    have h3 := hzX3.out
    have h4 := hzX4.out
    have h5 := BX.out.size
    show _ ≤ _
    omega
  clear U V G Yf BC BD hHeld DD
  go_wp2_with (first | (go_at_call 17; refine (c_New _).mono ?_; rintro e w5 ⟨rfl, hb5⟩; have M5 := Lib.hid (MM.out.below hb5); have Y5 : Hid (memAt w5 0 X3.heap.size (.slice (some ⟨X2.heap.size, 0, none⟩) 2 2) false 0 0 0 0) := Off.keeps (.of_below (ex := fun _ => False) hb5) YY.out id; have B5 := Lib.hid (below2 BX.out hb5); have L5 : Hid (X3.heap.size < w5.heap.size) := Lib.hid (Nat.lt_of_lt_of_le hzX.out hb5.size); clear hb5) | (refine wpList_store_st (s' := St.new) (stk' := .slice none 0 0) rfl (.tmp 12) (.tmp 49) rfl rfl rfl (show stAt _ w5.heap.size St.zero (.slice none 0 0) from heap_alloc_new w5 (.cells (stC St.zero (.slice none 0 0)) 33)) rfl ?_; intro w6 S6 F6; have B6 : Hid (Below w5.heap.size w5 w6) := Off.below (below_al0 w5 (.cells (stC St.zero (.slice none 0 0)) 33)) F6 (by simp) (fun k hk => by omega); have c7 : w6.cell? ⟨w5.heap.size, 7, none⟩ = some (.int .i64 1) := S6.cell 7; have c8 : w6.cell? ⟨w5.heap.size, 8, none⟩ = some (.int .i64 0) := S6.cell 8; have c9 : w6.cell? ⟨w5.heap.size, 9, none⟩ = some (.int .i64 4) := S6.cell 9; have cf : ∀ j, w6.frozen? ⟨w5.heap.size, j, none⟩ = false := (fun j => S6.free j); have cR : w5.heap.size < w6.heap.size := S6.lt; have HL : Hid (stAt (((w6.setCell ⟨w5.heap.size, 7, none⟩ (.int .i64 seg)).setCell ⟨w5.heap.size, 8, none⟩ (.int .i64 off)).setCell ⟨w5.heap.size, 9, none⟩ (.int .i64 4)) w5.heap.size (bouS seg off) (.slice none 0 0)) := st_p1 S6 seg off 4; clear F6 S6) | (refine wpList_load_st rfl (.tmp 12) rfl rfl (st_range HL.out) ?_))
  obtain ⟨W7, hW7, S7, B7⟩ : ∃ W, (((w6.setCell ⟨w5.heap.size, 7, none⟩ (.int .i64 seg)).setCell ⟨w5.heap.size, 8, none⟩ (.int .i64 off)).setCell ⟨w5.heap.size, 9, none⟩ (.int .i64 4)) = W ∧ Hid (stAt W w5.heap.size (bouS seg off) (.slice none 0 0)) ∧ Hid (Below w5.heap.size w5 W) := ⟨_, rfl, HL, Off.below B6.out (((off1 _ _ _ _).trans (off1 _ _ _ _)).trans (off1 _ _ _ _)) B6.out.size (fun k hk => by omega)⟩
  rw [hW7]
  clear hW7 HL c7 c8 c9 cf cR B6
  have M7 := M5.out.below B7.out
  have Y7 : memAt W7 0 X3.heap.size (.slice (some ⟨X2.heap.size, 0, none⟩) 2 2) false 0 0 0 0 := Off.keeps (.of_below (ex := fun _ => False) B7.out) Y5.out id
  have BW := Lib.hid (below2 B5.out B7.out)
  have hNY : Hid (¬ w5.heap.size = X3.heap.size) := by have := L5.out; show ¬ _; omega
  have hNw : Hid (w.heap.size ≤ w5.heap.size) := B5.out.size
  refine (c_Step_any W7 X3.heap.size (bouS seg off) (.slice none 0 0) (bouM 20 sz) [] M7 (stk_nil _) (by decide) (.slice (some ⟨X2.heap.size, 0, none⟩) 2 2) false 0 0 0 0 Y7).mono ?_
  rintro e w8 ⟨s1, ad1, n1, cp1, out1, told1, rfl, hm8, ⟨is8, sg8, of8, x8, n8, hma8⟩, ho8⟩
  rw [hE.out]
  have S8 := Lib.hid (show stAt w8 w5.heap.size _ _ from Off.keeps ho8 S7.out hNY.out)
  have B8 := Lib.hid (Off.below BW.out ho8 BW.out.size (fun k hk => by have := hYw.out; omega))
  replace hm8 := Lib.hid hm8
  replace hma8 := Lib.hid hma8
  clear ho8 M7 Y7 S7 B7 MM YY M5 Y5 B5 BW
  rcases (show seg = 0 ∨ seg = 1 ∨ seg = 2 ∨ seg = 3 by have := OO.out; omega) with rfl | rfl | rfl | rfl
  all_goals
    go_wp2_with (first | (go_at_call 21; refine (within16 _ _ (by decide) (by decide) _).mono ?_; rintro e w2 ⟨rfl, hw2⟩; subst hw2) | (refine wpList_store_st (s' := s1) (stk' := .slice ad1 n1 cp1) rfl (.tmp 13) (.tmp 60) rfl rfl rfl (show stAt _ w8.heap.size St.zero (.slice none 0 0) from heap_alloc_new w8 (.cells (stC St.zero (.slice none 0 0)) 33)) rfl ?_; intro w9 S9 F9; have B9 : Hid (Below w8.heap.size w8 w9) := Off.below (below_al0 w8 (.cells (stC St.zero (.slice none 0 0)) 33)) F9 (by simp) (fun k hk => by omega); have SS : Hid (stAt w9 w5.heap.size _ _) := Off.keeps (.of_below (ex := fun _ => False) B9.out) S8.out id; have c1 : w9.cell? ⟨w5.heap.size, 1, none⟩ = some (.int .i64 0) := SS.out.cell 1; have cf : ∀ j, w9.frozen? ⟨w5.heap.size, j, none⟩ = false := (fun j => SS.out.free j); have cR : w5.heap.size < w9.heap.size := SS.out.lt; have HL := Lib.hid (st_off SS.out fo); clear F9 S9) | (refine wpList_load_st rfl (.tmp 12) rfl rfl (st_range HL.out) ?_))
  all_goals
    have O9 : Hid (Off (· = w5.heap.size) w9 (w9.setCell ⟨w5.heap.size, 1, none⟩ (.int .i64 fo))) := off1 _ _ _ _
    have M9 := Lib.hid (mem_st (hm8.out.below B9.out) SS.out O9.out hNY.out)
    have B10 := Lib.hid (Off.below (below2 B8.out B9.out) O9.out (below2 B8.out B9.out).size (fun k hk => by have := hNw.out; omega))
    generalize w9.setCell ⟨w5.heap.size, 1, none⟩ (.int .i64 fo) = W9 at O9 M9 B10 HL ⊢
    refine (c_Step_er W9 0 X3.heap.size _ (.slice none 0 0) (bouM 20 sz) [] M9.out (stk_nil _) (by decide) 35 (bou_off 20 _ off fo sz f1.out)).mono ?_
    rintro e w10 ⟨rfl, hb10⟩
    have B11 := Lib.hid (below2 B10.out hb10)
    have EQ := EE.out
    have OQ := OO.out
    rcases (show E = 35 ∨ E = 34 ∨ E = 0 by omega) with rfl | rfl | rfl
  all_goals first | (exfalso; have EQ := EE.out; have OQ := OO.out; omega) | skip
  all_goals
    clear EQ OQ hb10 c1 cf cR
    go_wp2_with (first | (refine wpList_store_st (s' := St.zero) (stk' := .slice none 0 0) rfl (.tmp 19) (.tmp 100) rfl rfl rfl (show stAt _ w10.heap.size St.zero (.slice none 0 0) from heap_alloc_new w10 (.cells (stC St.zero (.slice none 0 0)) 33)) rfl ?_; intro w11 S11 F11; have B12 : Hid (Below w10.heap.size w10 w11) := Off.below (below_al0 w10 (.cells (stC St.zero (.slice none 0 0)) 33)) F11 (by simp) (fun k hk => by omega); clear S11 F11))
    go_ret
    exact ⟨rfl, below2 B11.out B12.out⟩
end Go.Proofs.Ytiakonmamkfopaa
