/- CpuHalts: the law's walk. CpuFaults: the law's walk. -/
import Derived.Test.YtiakonmamkfopaaCpuMb
import Derived.Test.YtiakonmamkfopaaCpuMa
import Derived.Deep.RegionHeld3
import Derived.Deep.MidRow
namespace Go.Proofs.Ytiakonmamkfopaa
open Go.RowKit Go.ChangeShapes
set_option linter.unusedVariables false
set_option maxRecDepth 100000

theorem bg_range {W : World} {N : Nat} {x : St} {u : Value} (h : begAt W N x u) : W.rangeAt N 0 (begC x u).toList := fun j v hj => by
  rw [Nat.zero_add, h.cell j]
  simpa using hj
theorem A.begU : Try.prog.underlying 28 = some (((Try.prog.underlying 28).getD (.struct #[]))) := by kernel_rfl
theorem A.begR : TypeDesc.isRow ((Try.prog.underlying 28).getD (.struct #[])) = true := by kernel_rfl
theorem A.begI : (Try.prog.info? 28).map (·.size) = some 17 := by kernel_rfl
theorem wpList_load_bg {ops : Array Oper} {rest : List Oper} {op : Oper} {a : Act} {W : World} {Q : Exit → Act → World → Prop} (hgd : op.guard = none) (y : Operand) (ho : op.op = .load 28 y) {N : Nat} {x : St} {u : Value} (hx : a.eval y = .pointer (some ⟨N, 0, none⟩))
    (h : W.rangeAt N 0 (begC x u).toList) (hk : wpList Try.prog ops Q rest (a.put op.dst (.agg #[.int .i64 x.seg, .int .i64 x.off, .int .i64 x.ring, .int .i64 x.a, .int .i64 x.p0.seg, .int .i64 x.p0.off, .int .i64 x.p0.ring, .int .i64 x.p1.seg, .int .i64 x.p1.off, .int .i64 x.p1.ring, .int .i64 x.p2.seg, .int .i64 x.p2.off, .int .i64 x.p2.ring, .int .i64 x.p3.seg, .int .i64 x.p3.off, .int .i64 x.p3.ring, u])) W) : wpList Try.prog ops Q (op :: rest) a W :=
  wpList_load_mid hgd 28 y ho N 0 hx (begC x u).toList _ h A.begU A.begR A.begI hk
theorem WdAt.below {w w' : World} {v : Value} (h : WdAt w v) (hb : Below w.heap.size w w') : WdAt w' v := by
  obtain ⟨ad, n, cap, hv, h1, h2, hc⟩ := h
  refine ⟨ad, n, cap, hv, h1, h2, fun k hk => ?_⟩
  obtain ⟨b, o, he, hlt, a0, a1, a2, a3, a4, a5, a6, a7, e0, e1, e2, e3, e4, e5, e6, e7⟩ := hc k hk
  exact ⟨b, o, he, Nat.lt_of_lt_of_le hlt hb.size, a0, a1, a2, a3, a4, a5, a6, a7, (hb.cell hlt).trans e0, (hb.cell hlt).trans e1, (hb.cell hlt).trans e2, (hb.cell hlt).trans e3, (hb.cell hlt).trans e4, (hb.cell hlt).trans e5, (hb.cell hlt).trans e6, (hb.cell hlt).trans e7⟩
theorem PcAt.below {w w' : World} {v : Value} (h : PcAt w v) (hb : Below w.heap.size w w') : PcAt w' v := by
  obtain ⟨ad, n, cap, hv, h1, h2, hc⟩ := h
  refine ⟨ad, n, cap, hv, h1, h2, fun k hk => ?_⟩
  obtain ⟨b, o, he, hlt, no, md, r1, r2, r3, g, u, hu, e0, e1, e2, e3, e4, e5, e6⟩ := hc k hk
  exact ⟨b, o, he, Nat.lt_of_lt_of_le hlt hb.size, no, md, r1, r2, r3, g, u, hu.below hb, (hb.cell hlt).trans e0, (hb.cell hlt).trans e1, (hb.cell hlt).trans e2, (hb.cell hlt).trans e3, (hb.cell hlt).trans e4, (hb.cell hlt).trans e5, (hb.cell hlt).trans e6⟩
theorem FrIn.below {w w' : World} {v : Value} (h : FrIn w v) (hb : Below w.heap.size w w') : FrIn w' v := by
  obtain ⟨ad, n, cap, hv, h1, h2, hc⟩ := h
  refine ⟨ad, n, cap, hv, h1, h2, fun k hk => ?_⟩
  obtain ⟨b, o, he, hlt, a0, a1, a2, e0, e1, e2⟩ := hc k hk
  exact ⟨b, o, he, Nat.lt_of_lt_of_le hlt hb.size, a0, a1, a2, (hb.cell hlt).trans e0, (hb.cell hlt).trans e1, (hb.cell hlt).trans e2⟩
theorem Segs.base {w : World} {B : Nat} {v : Value} {vs : List Value} {M : List Sg} (h : Segs w B v vs M) : Segs w 0 v vs M :=
  ⟨h.len, row_base h.row (Nat.zero_le _), fun i s u h1 h2 => row_base (h.words i s u h1 h2) (Nat.zero_le _)⟩
theorem Segs.mem {w : World} {Y : Nat} {v : Value} {vs : List Value} {M : List Sg} (h : Segs w 0 v vs M) (hm : memAt w 0 Y v false 0 0 0 0) (h5 : M.length ≤ 5) (hg : ∀ g ∈ M, GoodSg g) : MemOk w 0 Y M :=
  ⟨⟨v, vs, false, 0, 0, 0, 0, hm, h⟩, by omega, fun s hs => by have := (hg s hs).ws; omega, Nat.zero_le _⟩
theorem st_hal {w : World} {N : Nat} {s : St} {stk : Value} (h : stAt w N s stk) (b : Bool) : stAt (w.setCell ⟨N, 17, none⟩ (.bool b)) N { s with hal := b } stk := by
  unfold stAt stC at h ⊢
  simp [World.setCell, Array.getElem?_modify, h]
theorem st_notq {w : World} {N : Nat} {s : St} {stk : Value} (h : stAt w N s stk) (ty : TypeId) (ht : ty ≠ 33) : ∀ k, k = N → ∀ cs, w.heap[k]? ≠ some (.cells cs ty (0, 0)) := by
  rintro k rfl cs hc
  have h2 := (show w.heap[k]? = _ from h).symm.trans hc
  simp only [Option.some.injEq, Obj.cells.injEq] at h2
  exact ht h2.2.1.symm
set_option maxHeartbeats 8000000 in
theorem law_CpuHalts (w : World) (v : Value) (hv : PcAt w v) (x : St) (u : Value) (hu : FrIn w u) : Calls Try.prog 5 #[v, .agg (begC x u)] w fun e w' => e = .returned (.bool true) ∧ Below w.heap.size w w' := by
  obtain ⟨W0, hW0, B0, HB⟩ : ∃ W, w.alloc (.cells (begC x u) 28) = W ∧ Hid (begAt W w.heap.size x u) ∧ Hid (Below w.heap.size w W) := ⟨_, rfl, heap_alloc_new _ _, below_al0 _ _⟩
  replace hv := Lib.hid hv
  replace hu := Lib.hid hu
  replace hW0 := Lib.hid hW0
  have hone : Hid (u.oneCell' = true) := by obtain ⟨ad, n, cap, hq, _⟩ := hu.out; subst hq; rfl
  go_enter Try.func5, Try.ntmps5
  go_wp2_with fail
  rw [show w.alloc (.cells (begC x u) 28) = W0 from hW0.out]
  refine (c_known _).mono ?_
  rintro e w1 ⟨rfl, hb1⟩
  have B1 : Hid (begAt w1 w.heap.size x u) := Off.keeps (.of_below (ex := fun _ => False) hb1) B0.out id
  have L1 := Lib.hid (below2 HB.out hb1)
  clear hW0 B0 HB hb1
  go_wp2_with (first | ((with_reducible refine wpList_load_bg (op := ⟨some 13, .load 28 (.tmp 3), _, _, _, _⟩) (N := w.heap.size) (x := x) (u := u) ?_ (.tmp 3) ?_ ?_ ?_ ?_); exact rfl; exact rfl; exact rfl; exact bg_range B1.out))
  refine (c_begin w1 x u (hu.out.below L1.out)).mono ?_
  rintro e w2 ⟨s, stk, l, rfl, hs, hl8, hg, hfr, hb2⟩
  dsimp only
  obtain ⟨ad, cp, hq, _, _⟩ := row_shape hs
  subst hq
  replace hs := Lib.hid hs
  have L2 := Lib.hid (below2 L1.out hb2)
  replace hl8 := Lib.hid hl8
  clear hb2 L1 B1 hg hfr
  go_wp2_with (first | ((with_reducible refine wpList_store_st (op := ⟨none, .store 33 (.tmp 5) (.tmp 14), _, _, _, _⟩) (N := w2.heap.size) (s := St.zero) (stk := (.slice none 0 0)) (s' := s) (stk' := (.slice ad l.length cp)) ?_ (.tmp 5) (.tmp 14) ?_ ?_ ?_ ?_ ?_ ?_); exact rfl; exact rfl; exact rfl; exact rfl; exact (show stAt _ w2.heap.size St.zero (.slice none 0 0) from heap_alloc_new w2 (.cells (stC St.zero (.slice none 0 0)) 33)); exact rfl; intro w3 S3 F3; have B3 : Hid (Below w2.heap.size w2 w3) := Off.below (below_al0 w2 (.cells (stC St.zero (.slice none 0 0)) 33)) F3 (by simp) (fun k hk => by omega); have c17 : w3.cell? ⟨w2.heap.size, 17, none⟩ = some (.bool s.hal) := S3.cell 17; have cf : ∀ j, w3.frozen? ⟨w2.heap.size, j, none⟩ = false := (fun j => S3.free j); have cR : w2.heap.size < w3.heap.size := S3.lt; replace S3 := Lib.hid S3; clear F3))
  obtain ⟨W4, hW4, S4, B4⟩ : ∃ W, w3.setCell ⟨w2.heap.size, 17, none⟩ (.bool true) = W ∧ Hid (stAt W w2.heap.size { s with hal := true } (.slice ad l.length cp)) ∧ Hid (Below w2.heap.size w2 W) := ⟨_, rfl, st_hal S3.out true, Off.below B3.out (off1 _ _ _ _) B3.out.size (fun k hk => by omega)⟩
  rw [hW4]
  clear hW4 c17 cf cR S3 B3
  have L4 := Lib.hid (below2 L2.out B4.out)
  refine (c_memory W4 v (hv.out.below L4.out)).mono ?_
  rintro e w5 ⟨v', vs, M, rfl, hsg, hM5, hMg, hb5⟩
  dsimp only
  obtain ⟨am, cm, hq, _, _⟩ := row_shape hsg.row
  subst hq
  have S5 : Hid (stAt w5 w2.heap.size { s with hal := true } (.slice ad l.length cp)) := Off.keeps (.of_below (ex := fun _ => False) hb5) S4.out id
  have K5 : Hid (stkAt w5 (.slice ad l.length cp) l) := stkAt.off (ex := fun _ => False) hs.out ((Off.of_below B4.out).trans (.of_below hb5)) (fun _ h => h.elim)
  have L5 := Lib.hid (below2 L4.out hb5)
  have h25 : Hid (w2.heap.size < w5.heap.size) := S5.out.lt
  replace hsg := Lib.hid hsg.base
  clear hb5 L4 S4 hs B4 L2
  have HL : Hid (stAt (w5.alloc (.cells #[(.slice am M.length cm), .bool false, .int .i64 0, .int .i64 0, .int .i64 0, .int .i64 0] 47)) w2.heap.size { s with hal := true } (.slice ad l.length cp)) := Off.keeps (ex := fun _ => False) ((Off.refl _ _).alloc _) S5.out id
  go_wp2_with (first | ((with_reducible refine wpList_load_st (op := ⟨some 21, .load 33 (.tmp 5), _, _, _, _⟩) (N := w2.heap.size) (s := { s with hal := true }) (stk := (.slice ad l.length cp)) ?_ (.tmp 5) ?_ ?_ ?_ ?_); exact rfl; exact rfl; exact rfl; exact st_range HL.out))
  obtain ⟨W6, hW6, Y6, S6, B6⟩ : ∃ W, w5.alloc (.cells #[(.slice am M.length cm), .bool false, .int .i64 0, .int .i64 0, .int .i64 0, .int .i64 0] 47) = W ∧ Hid (memAt W 0 w5.heap.size (.slice am M.length cm) false 0 0 0 0) ∧ Hid (stAt W w2.heap.size { s with hal := true } (.slice ad l.length cp)) ∧ Hid (Below w5.heap.size w5 W) := ⟨_, rfl, heap_alloc_new _ _, HL, below_al0 _ _⟩
  rw [hW6]
  clear hW6 HL
  have M6 : MemOk W6 0 w5.heap.size M := Segs.mem (hsg.out.off (ex := fun _ => False) (.of_below B6.out) (fun _ h => h.elim) (fun _ h => h.elim)) Y6.out hM5 hMg
  have K6 : stkAt W6 (.slice ad l.length cp) l := stkAt.off (ex := fun _ => False) K5.out (.of_below B6.out) (fun _ h => h.elim)
  have L6 := Lib.hid (below2 L5.out B6.out)
  have hwY : Hid (w.heap.size ≤ w5.heap.size) := L5.out.size
  refine (c_Step_ok W6 0 w5.heap.size { s with hal := true } (.slice ad l.length cp) M l M6 K6 (by have := hl8.out; omega) (.slice am M.length cm) false 0 0 0 0 Y6.out ⟨{ s with hal := true }, l, false, 0, none⟩ (by unfold stR; rw [if_pos rfl])).mono ?_
  rintro e w7 ⟨stk', rfl, hs7, hmt, ho⟩
  dsimp only
  obtain ⟨ad7, cp7, hq, _, _⟩ := row_shape hs7
  subst hq
  have S7 : Hid (stAt w7 w2.heap.size { s with hal := true } (.slice ad l.length cp)) := Off.keeps ho S6.out (by have := h25.out; omega)
  have K7 : Hid (stkAt w7 (.slice ad l.length cp) l) := stkAt.off K6 ho (mem_frame Y6.out)
  have Y7 : Hid (memAt w7 0 w5.heap.size (.slice am M.length cm) false 0 0 0 0) := hmt
  have T7 := Lib.hid hs7
  have L7 := Lib.hid (Off.below L6.out ho L6.out.size (fun k hk => by have := hwY.out; omega))
  clear hs7 hmt ho M6 K6 L6 S6 Y6 B6 K5 L5 S5 hsg hM5 hMg
  go_wp2_with (first | ((with_reducible refine wpList_store_st (op := ⟨none, .store 33 (.tmp 7) (.tmp 25), _, _, _, _⟩) (N := w7.heap.size) (s := St.zero) (stk := (.slice none 0 0)) (s' := { s with hal := true }) (stk' := (.slice ad7 l.length cp7)) ?_ (.tmp 7) (.tmp 25) ?_ ?_ ?_ ?_ ?_ ?_); exact rfl; exact rfl; exact rfl; exact rfl; exact (show stAt _ w7.heap.size St.zero (.slice none 0 0) from heap_alloc_new w7 (.cells (stC St.zero (.slice none 0 0)) 33)); exact rfl; intro w8 S8 F8; replace F8 := Lib.hid F8; replace S8 := Lib.hid S8))
  have B8 : Below w7.heap.size w7 w8 := Off.below (below_al0 w7 (.cells (stC St.zero (.slice none 0 0)) 33)) F8.out (by simp) (fun k hk => by omega)
  have A8 : Hid (stAt w8 w2.heap.size { s with hal := true } (.slice ad l.length cp)) := Off.keeps (.of_below (ex := fun _ => False) B8) S7.out id
  have K8 : Hid (stkAt w8 (.slice ad l.length cp) l) := stkAt.off (ex := fun _ => False) K7.out (.of_below B8) (fun _ h => h.elim)
  have T8 : Hid (stkAt w8 (.slice ad7 l.length cp7) l) := stkAt.off (ex := fun _ => False) T7.out (.of_below B8) (fun _ h => h.elim)
  have Y8 : Hid (memAt w8 0 w5.heap.size (.slice am M.length cm) false 0 0 0 0) := Off.keeps (.of_below (ex := fun _ => False) B8) Y7.out id
  have L8 := Lib.hid (below2 L7.out B8)
  clear F8 B8 S7 K7 T7 Y7 L7
  have SD : Hid (stAt w8.drew w7.heap.size { s with hal := true } (.slice ad7 l.length cp7)) := S8
  have AD : Hid (stAt w8.drew w2.heap.size { s with hal := true } (.slice ad l.length cp)) := A8
  have KD : Hid (stkAt w8.drew (.slice ad l.length cp) l) := K8
  have TD : Hid (stkAt w8.drew (.slice ad7 l.length cp7) l) := T8
  have YD : Hid (memAt w8.drew 0 w5.heap.size (.slice am M.length cm) false 0 0 0 0) := Y8
  have LD : Hid (Below w.heap.size w w8.drew) := below_drew L8.out
  refine wp_region_held_drew (S := fun w' => Below w8.drew.heap.size w8.drew w') (by kernel_rfl) (Below.refl _ _) (fun hHeld => ?_)
  generalize w8.drew = D at SD AD KD TD YD LD hHeld ⊢
  have BC := Lib.hid (Below.refl D.heap.size D)
  clear S8 A8 K8 T8 Y8 L8
  have y5 : ∀ w', Below D.heap.size D w' → w'.cell? ⟨w5.heap.size, 5, none⟩ = some (.int .i64 0) := fun w' h => (show memAt w' 0 w5.heap.size (.slice am M.length cm) false 0 0 0 0 from Off.keeps (.of_below (ex := fun _ => False) h) YD.out id).facts.2
  refine wpAnyH_take (i := 0) (oi := ⟨_, _, _, _, _, _⟩) (v := ?_) rfl (by kernel_rfl) (by kernel_rfl) (by kernel_rfl) (fun _ _ _ h => h) (Or.inl ⟨by rfl, ?_⟩) (by assumption) ?_
  rotate_left
  · intro w hSw; (try dsimp only at hSw); go_simp; (try with_reducible rfl)
  try simp only [Act.put, List.setIfInBounds_toArray, List.set_cons_zero, List.set_cons_succ]
  refine wpAnyH_take (i := 1) (oi := ⟨_, _, _, _, _, _⟩) (v := ?_) rfl (by kernel_rfl) (by kernel_rfl) (by kernel_rfl) (fun _ _ _ h => h) (Or.inl ⟨by rfl, ?_⟩) (by assumption) ?_
  rotate_left
  · intro w hSw; (try dsimp only at hSw); go_simp; (try with_reducible rfl)
  try simp only [Act.put, List.setIfInBounds_toArray, List.set_cons_zero, List.set_cons_succ]
  refine wpAnyH_take (i := 2) (oi := ⟨_, _, _, _, _, _⟩) (v := ?_) rfl (by kernel_rfl) (by kernel_rfl) (by kernel_rfl) (fun _ _ _ h => h) (Or.inl ⟨by rfl, ?_⟩) (by assumption) ?_
  rotate_left
  · intro w hSw; (try dsimp only at hSw); go_simp; (try with_reducible rfl)
  try simp only [Act.put, List.setIfInBounds_toArray, List.set_cons_zero, List.set_cons_succ]
  refine wpAnyH_take (i := 3) (oi := ⟨_, _, _, _, _, _⟩) (v := ?_) rfl (by kernel_rfl) (by kernel_rfl) (by kernel_rfl) (fun _ _ _ h => h) (Or.inl ⟨by rfl, ?_⟩) (by assumption) ?_
  rotate_left
  · intro w hSw; (try dsimp only at hSw); go_simp; (try with_reducible rfl)
  try simp only [Act.put, List.setIfInBounds_toArray, List.set_cons_zero, List.set_cons_succ]
  refine wpAnyH_take (i := 4) (oi := ⟨_, _, _, _, _, _⟩) (v := ?_) rfl (by kernel_rfl) (by kernel_rfl) (by kernel_rfl) (fun _ _ _ h => h) (Or.inl ⟨by rfl, ?_⟩) (by assumption) ?_
  rotate_left
  · intro w hSw; (try dsimp only at hSw); go_simp; (try with_reducible rfl)
  try simp only [Act.put, List.setIfInBounds_toArray, List.set_cons_zero, List.set_cons_succ]
  refine wpAnyH_take (i := 5) (oi := ⟨_, _, _, _, _, _⟩) (v := ?_) rfl (by kernel_rfl) (by kernel_rfl) (by kernel_rfl) (fun _ _ _ h => h) (Or.inl ⟨by rfl, ?_⟩) (by assumption) ?_
  rotate_left
  · intro w hSw; (try dsimp only at hSw); go_simp; (try with_reducible rfl)
  try simp only [Act.put, List.setIfInBounds_toArray, List.set_cons_zero, List.set_cons_succ]
  refine wpAnyH_take (i := 6) (oi := ⟨_, _, _, _, _, _⟩) (v := ?_) rfl (by kernel_rfl) (by kernel_rfl) (by kernel_rfl) (fun _ _ _ h => h) (Or.inl ⟨by rfl, ?_⟩) (by assumption) ?_
  rotate_left
  · intro w hSw; (try dsimp only at hSw); go_simp; (try with_reducible rfl)
  try simp only [Act.put, List.setIfInBounds_toArray, List.set_cons_zero, List.set_cons_succ]
  refine wpAnyH_take (i := 7) (oi := ⟨_, _, _, _, _, _⟩) (v := ?_) rfl (by kernel_rfl) (by kernel_rfl) (by kernel_rfl) (fun _ _ _ h => h) (Or.inl ⟨by rfl, ?_⟩) (by assumption) ?_
  rotate_left
  · intro w hSw; (try dsimp only at hSw); go_simp; (try with_reducible rfl)
  try simp only [Act.put, List.setIfInBounds_toArray, List.set_cons_zero, List.set_cons_succ]
  refine wpAnyH_take (i := 8) (oi := ⟨_, _, _, _, _, _⟩) (v := ?_) rfl (by kernel_rfl) (by kernel_rfl) (by kernel_rfl) (fun _ _ _ h => h) (Or.inl ⟨by rfl, ?_⟩) (by assumption) ?_
  rotate_left
  · intro w hSw; (try dsimp only at hSw); go_simp; (try with_reducible rfl)
  try simp only [Act.put, List.setIfInBounds_toArray, List.set_cons_zero, List.set_cons_succ]
  refine wpAnyH_take (i := 9) (oi := ⟨_, _, _, _, _, _⟩) (v := ?_) rfl (by kernel_rfl) (by kernel_rfl) (by kernel_rfl) (fun _ _ _ h => h) (Or.inl ⟨by rfl, ?_⟩) (by assumption) ?_
  rotate_left
  · intro w hSw; (try dsimp only at hSw); go_simp; (try with_reducible rfl)
  try simp only [Act.put, List.setIfInBounds_toArray, List.set_cons_zero, List.set_cons_succ]
  refine wpAnyH_take (i := 10) (oi := ⟨_, _, _, _, _, _⟩) (v := ?_) rfl (by kernel_rfl) (by kernel_rfl) (by kernel_rfl) (fun _ _ _ h => h) (Or.inl ⟨by rfl, ?_⟩) (by assumption) ?_
  rotate_left
  · intro w hSw; (try dsimp only at hSw); go_simp; (try with_reducible rfl)
  try simp only [Act.put, List.setIfInBounds_toArray, List.set_cons_zero, List.set_cons_succ]
  refine wpAnyH_take (i := 11) (oi := ⟨_, _, _, _, _, _⟩) (v := ?_) rfl (by kernel_rfl) (by kernel_rfl) (by kernel_rfl) (fun _ _ _ h => h) (Or.inl ⟨by rfl, ?_⟩) (by assumption) ?_
  rotate_left
  · intro w hSw; (try dsimp only at hSw); go_simp; (try with_reducible rfl)
  try simp only [Act.put, List.setIfInBounds_toArray, List.set_cons_zero, List.set_cons_succ]
  refine wpAnyH_take (i := 12) (oi := ⟨_, _, _, _, _, _⟩) (v := ?_) rfl (by kernel_rfl) (by kernel_rfl) (by kernel_rfl) (fun _ _ _ h => h) (Or.inl ⟨by rfl, ?_⟩) (by assumption) ?_
  rotate_left
  · intro w hSw; (try dsimp only at hSw); go_simp; (try with_reducible rfl)
  try simp only [Act.put, List.setIfInBounds_toArray, List.set_cons_zero, List.set_cons_succ]
  refine wpAnyH_take (i := 13) (oi := ⟨_, _, _, _, _, _⟩) (v := ?_) rfl (by kernel_rfl) (by kernel_rfl) (by kernel_rfl) (fun _ _ _ h => h) (Or.inl ⟨by rfl, ?_⟩) (by assumption) ?_
  rotate_left
  · intro w hSw; (try dsimp only at hSw); go_simp; (try with_reducible rfl)
  try simp only [Act.put, List.setIfInBounds_toArray, List.set_cons_zero, List.set_cons_succ]
  refine wpAnyH_take (i := 14) (oi := ⟨_, _, _, _, _, _⟩) (v := ?_) rfl (by kernel_rfl) (by kernel_rfl) (by kernel_rfl) (fun _ _ _ h => h) (Or.inl ⟨by rfl, ?_⟩) (by assumption) ?_
  rotate_left
  · intro w hSw; (try dsimp only at hSw); go_simp; (try with_reducible rfl)
  try simp only [Act.put, List.setIfInBounds_toArray, List.set_cons_zero, List.set_cons_succ]
  refine wpAnyH_take (i := 15) (oi := ⟨_, _, _, _, _, _⟩) (v := ?_) rfl (by kernel_rfl) (by kernel_rfl) (by kernel_rfl) (fun _ _ _ h => h) (Or.inl ⟨by rfl, ?_⟩) (by assumption) ?_
  rotate_left
  · intro w hSw; (try dsimp only at hSw); go_simp; (try with_reducible rfl)
  try simp only [Act.put, List.setIfInBounds_toArray, List.set_cons_zero, List.set_cons_succ]
  refine wpAnyH_take (i := 16) (oi := ⟨_, _, _, _, _, _⟩) (v := ?_) rfl (by kernel_rfl) (by kernel_rfl) (by kernel_rfl) (fun _ _ _ h => h) (Or.inl ⟨by rfl, ?_⟩) (by assumption) ?_
  rotate_left
  · intro w hSw; (try dsimp only at hSw); go_simp; (try with_reducible rfl)
  try simp only [Act.put, List.setIfInBounds_toArray, List.set_cons_zero, List.set_cons_succ]
  refine wpAnyH_take (i := 17) (oi := ⟨_, _, _, _, _, _⟩) (v := ?_) rfl (by kernel_rfl) (by kernel_rfl) (by kernel_rfl) (fun _ _ _ h => h) (Or.inl ⟨by rfl, ?_⟩) (by assumption) ?_
  rotate_left
  · intro w hSw; (try dsimp only at hSw); go_simp; (try with_reducible rfl)
  try simp only [Act.put, List.setIfInBounds_toArray, List.set_cons_zero, List.set_cons_succ]
  clear y5
  refine wpAnyH_take (i := 18) (oi := ⟨_, _, _, _, _, _⟩) (v := .agg #[.int .i64 s.seg, .int .i64 s.off, .int .i64 s.ring, .int .i64 s.a, .int .i64 s.p0.seg, .int .i64 s.p0.off, .int .i64 s.p0.ring, .int .i64 s.p1.seg, .int .i64 s.p1.off, .int .i64 s.p1.ring, .int .i64 s.p2.seg, .int .i64 s.p2.off, .int .i64 s.p2.ring, .int .i64 s.p3.seg, .int .i64 s.p3.off, .int .i64 s.p3.ring, .slice ad7 l.length cp7, .bool true]) rfl (by kernel_rfl) (by kernel_rfl) (by kernel_rfl) (fun _ _ _ h => h) (yieldsIf_load_mid (by rfl) 33 (.tmp 7) rfl (w7.heap.size) 0 rfl (stC { s with hal := true } (.slice ad7 l.length cp7)).toList _ (fun w hS => st_range (show stAt w w7.heap.size { s with hal := true } (.slice ad7 l.length cp7) from Off.keeps (.of_below (ex := fun _ => False) hS) SD.out id)) A.stateU A.stateR A.stateI) (by assumption) ?_
  try simp only [Act.put, List.setIfInBounds_toArray, List.set_cons_zero, List.set_cons_succ]
  refine wpAnyH_take (i := 20) (oi := ⟨_, _, _, _, _, _⟩) (v := .agg #[.int .i64 s.seg, .int .i64 s.off, .int .i64 s.ring, .int .i64 s.a, .int .i64 s.p0.seg, .int .i64 s.p0.off, .int .i64 s.p0.ring, .int .i64 s.p1.seg, .int .i64 s.p1.off, .int .i64 s.p1.ring, .int .i64 s.p2.seg, .int .i64 s.p2.off, .int .i64 s.p2.ring, .int .i64 s.p3.seg, .int .i64 s.p3.off, .int .i64 s.p3.ring, .slice ad l.length cp, .bool true]) rfl (by kernel_rfl) (by kernel_rfl) (by kernel_rfl) (fun _ _ _ h => h) (yieldsIf_load_mid (by rfl) 33 (.tmp 5) rfl (w2.heap.size) 0 rfl (stC { s with hal := true } (.slice ad l.length cp)).toList _ (fun w hS => st_range (show stAt w w2.heap.size { s with hal := true } (.slice ad l.length cp) from Off.keeps (.of_below (ex := fun _ => False) hS) AD.out id)) A.stateU A.stateR A.stateI) (by assumption) ?_
  try simp only [Act.put, List.setIfInBounds_toArray, List.set_cons_zero, List.set_cons_succ]
  refine wpAnyH_ready (rs := [19]) (by kernel_rfl) (by simp) (AllReadyH.cons (o := ⟨_, _, _, _, _, _⟩) rfl (fun K hK => ?_) AllReadyH.nil)
  go_simp
  refine (c_state D { s with hal := true } l (.slice ad7 l.length cp7) TD.out (by have := hl8.out; omega)).mono ?_
  rintro e X1 ⟨v1, rfl, hr1, hb1⟩
  dsimp only
  refine hK.out _ _ ?_ (fun hHeld => ?_)
  · exact below2 BC.out hb1
  clear hK K
  try simp only [Act.put, List.setIfInBounds_toArray, List.set_cons_zero, List.set_cons_succ]
  have V1 := Lib.hid hr1
  have K9 : Hid (stkAt X1 (.slice ad l.length cp) l) := stkAt.off (ex := fun _ => False) KD.out (.of_below hb1) (fun _ h => h.elim)
  replace BC := Lib.hid (below2 BC.out hb1)
  clear hr1 hb1
  refine wpAnyH_ready (rs := [21]) (by kernel_rfl) (by simp) (AllReadyH.cons (o := ⟨_, _, _, _, _, _⟩) rfl (fun K hK => ?_) AllReadyH.nil)
  go_simp
  refine (c_state X1 { s with hal := true } l (.slice ad l.length cp) K9.out (by have := hl8.out; omega)).mono ?_
  rintro e X2 ⟨v2, rfl, hr2, hb2⟩
  dsimp only
  refine hK.out _ _ ?_ (fun hHeld => ?_)
  · exact below2 BC.out hb2
  clear hK K
  try simp only [Act.put, List.setIfInBounds_toArray, List.set_cons_zero, List.set_cons_succ]
  have V2 := Lib.hid hr2
  have V3 : Hid (rstkAt X2 v1 l) := Off.row (ex := fun _ => False) (.of_below hb2) V1.out (fun _ h => h.elim)
  replace BC := Lib.hid (below2 BC.out hb2)
  clear hr2 hb2 V1
  refine wpAnyH_ready (rs := [22]) (by kernel_rfl) (by simp) (AllReadyH.cons (o := ⟨_, _, _, _, _, _⟩) rfl (fun K hK => ?_) AllReadyH.nil)
  go_simp
  refine (c_same X2 { s with hal := true } l v1 v2 V3.out V2.out (by have := hl8.out; omega)).mono ?_
  rintro e X3 ⟨rfl, hb3⟩
  dsimp only
  refine hK.out _ _ ?_ (fun hHeld => ?_)
  · exact below2 BC.out hb3
  clear hK K
  try simp only [Act.put, List.setIfInBounds_toArray, List.set_cons_zero, List.set_cons_succ]
  replace BC := Lib.hid (below2 BC.out hb3)
  clear hb3
  refine wpAnyH_take (i := 23) (oi := ⟨_, _, _, _, _, _⟩) (v := ?_) rfl (by kernel_rfl) (by kernel_rfl) (by kernel_rfl) (fun _ _ _ h => h) (Or.inl ⟨by rfl, ?_⟩) (by assumption) ?_
  rotate_left
  · intro w hSw; (try dsimp only at hSw); go_simp; (try with_reducible rfl)
  try simp only [Act.put, List.setIfInBounds_toArray, List.set_cons_zero, List.set_cons_succ]
  refine wpAnyH_take (i := 24) (oi := ⟨_, _, _, _, _, _⟩) (v := ?_) rfl (by kernel_rfl) (by kernel_rfl) (by kernel_rfl) (fun _ _ _ h => h) (Or.inl ⟨by rfl, ?_⟩) (by assumption) ?_
  rotate_left
  · intro w hSw; (try dsimp only at hSw); go_simp; (try with_reducible rfl)
  try simp only [Act.put, List.setIfInBounds_toArray, List.set_cons_zero, List.set_cons_succ]
  refine wpAnyH_done (by kernel_rfl) ?_ _
  go_wp2
  go_ret
  exact ⟨rfl, below2 LD.out BC.out⟩
end Go.Proofs.Ytiakonmamkfopaa
namespace Go.Proofs.Ytiakonmamkfopaa
open Go.RowKit Go.ChangeShapes
set_option linter.unusedVariables false
set_option maxRecDepth 100000

theorem rdR_err {M : List Sg} {s : St} {p n e : Int} (h : rdR M s p n = .error e) : 31 ≤ e ∧ e ≤ 37 := by
  unfold rdR at h
  split at h
  · cases h; decide
  · split at h
    · cases h; decide
    · split at h
      · cases h
      · cases h; decide
theorem wrR_err {M : List Sg} {s : St} {p n e : Int} (h : wrR M s p n = .error e) : 31 ≤ e ∧ e ≤ 37 := by
  unfold wrR at h
  split at h
  · cases h; decide
  · split at h
    · cases h; decide
    · split at h
      · cases h
      · cases h; decide
theorem caR_err {M : List Sg} {s : St} {l : List Fr} {p n e : Int} (h : caR M s l p n = .error e) : 31 ≤ e ∧ e ≤ 37 := by
  unfold caR at h
  split at h
  · cases h; decide
  · split at h
    · cases h; decide
    · split at h
      · cases h; decide
      · split at h
        · cases h; decide
        · split at h
          · cases h; decide
          · cases h
theorem caR_len {M : List Sg} {s s' : St} {l l' : List Fr} {p n : Int} (h : caR M s l p n = .ok (s', l')) : l'.length ≤ 8 := by
  unfold caR at h
  split at h
  · cases h
  · split at h
    · cases h
    · split at h
      · cases h
      · split at h
        · cases h
        · split at h
          · cases h
          · rename_i hlen
            cases h
            simp
            omega
theorem reR_err {s : St} {l : List Fr} {e : Int} (h : reR s l = .error e) : 31 ≤ e ∧ e ≤ 37 := by
  unfold reR at h
  split at h
  · cases h; decide
  · split at h
    · cases h; decide
    · cases h
theorem reR_len {s s' : St} {l l' : List Fr} (h : reR s l = .ok (s', l')) (hl : l.length ≤ 8) : l'.length ≤ 8 := by
  unfold reR at h
  split at h
  · cases h
  · split at h
    · cases h
    · cases h
      simp
      omega
theorem feR_err {M : List Sg} {s : St} {e : Int} (h : feR M s = .error e) : 31 ≤ e ∧ e ≤ 37 := by
  unfold feR at h
  split at h
  · cases h; decide
  · split at h
    · cases h; decide
    · split at h
      · cases h; decide
      · simp only at h
        split at h
        · cases h
        · cases h; decide
theorem doR_err {M : List Sg} {s : St} {l : List Fr} {op p n e : Int} (h : doR M s l op p n = .error e) : 31 ≤ e ∧ e ≤ 37 := by
  unfold doR at h
  by_cases c0 : op = 0
  · rw [if_pos c0] at h
    cases h
  rw [if_neg c0] at h
  by_cases c1 : op = 1
  · rw [if_pos c1] at h
    cases hq : rdR M s p n with
    | error e' =>
      rw [hq] at h
      cases h
      exact rdR_err hq
    | ok y =>
      obtain ⟨y1, y2⟩ := y
      rw [hq] at h
      cases h
  rw [if_neg c1] at h
  by_cases c2 : 4 ≤ op ∧ op ≤ 11
  · rw [if_pos c2] at h
    cases hq : rdR M s p n with
    | error e' =>
      rw [hq] at h
      cases h
      exact rdR_err hq
    | ok y =>
      obtain ⟨y1, y2⟩ := y
      rw [hq] at h
      cases h
  rw [if_neg c2] at h
  by_cases c3 : op = 2
  · rw [if_pos c3] at h
    cases hq : wrR M s p n with
    | error e' =>
      rw [hq] at h
      cases h
      exact wrR_err hq
    | ok y =>
      obtain ⟨y1, y2⟩ := y
      rw [hq] at h
      cases h
  rw [if_neg c3] at h
  by_cases c4 : op = 3
  · rw [if_pos c4] at h
    cases h
  rw [if_neg c4] at h
  by_cases c5 : op = 12
  · rw [if_pos c5] at h
    cases h
  rw [if_neg c5] at h
  by_cases c6 : op = 13
  · rw [if_pos c6] at h
    by_cases cf : toIntE s.a = 0
    · rw [if_pos cf] at h
      cases h
    · rw [if_neg cf] at h
      cases h
      decide
  rw [if_neg c6] at h
  by_cases c7 : jmpR op s.a
  · rw [if_pos c7] at h
    cases h
  rw [if_neg c7] at h
  by_cases c8 : op = 17
  · rw [if_pos c8] at h
    cases h
  rw [if_neg c8] at h
  by_cases c9 : op = 18
  · rw [if_pos c9] at h
    cases hq : rdR M s p n with
    | error e' =>
      rw [hq] at h
      cases h
      exact rdR_err hq
    | ok y =>
      obtain ⟨y1, y2⟩ := y
      rw [hq] at h
      cases h
  rw [if_neg c9] at h
  by_cases c10 : op = 19
  · rw [if_pos c10] at h
    cases h
  rw [if_neg c10] at h
  by_cases c11 : op = 20
  · rw [if_pos c11] at h
    cases hq : caR M s l p n with
    | error e' =>
      rw [hq] at h
      cases h
      exact caR_err hq
    | ok y =>
      obtain ⟨y1, y2⟩ := y
      rw [hq] at h
      cases h
  rw [if_neg c11] at h
  by_cases c12 : op = 21
  · rw [if_pos c12] at h
    cases hq : reR s l with
    | error e' =>
      rw [hq] at h
      cases h
      exact reR_err hq
    | ok y =>
      obtain ⟨y1, y2⟩ := y
      rw [hq] at h
      cases h
  rw [if_neg c12] at h
  by_cases c13 : op = 22
  · rw [if_pos c13] at h
    cases h
  rw [if_neg c13] at h
  cases h
theorem doR_len {M : List Sg} {s : St} {l : List Fr} {op p n : Int} {r : Res} (h : doR M s l op p n = .ok r) (hl : l.length ≤ 8) : r.l.length ≤ 8 := by
  unfold doR at h
  by_cases c0 : op = 0
  · rw [if_pos c0] at h
    cases h
    exact hl
  rw [if_neg c0] at h
  by_cases c1 : op = 1
  · rw [if_pos c1] at h
    cases hq : rdR M s p n with
    | error e' =>
      rw [hq] at h
      cases h
    | ok y =>
      obtain ⟨y1, y2⟩ := y
      rw [hq] at h
      cases h
      exact hl
  rw [if_neg c1] at h
  by_cases c2 : 4 ≤ op ∧ op ≤ 11
  · rw [if_pos c2] at h
    cases hq : rdR M s p n with
    | error e' =>
      rw [hq] at h
      cases h
    | ok y =>
      obtain ⟨y1, y2⟩ := y
      rw [hq] at h
      cases h
      exact hl
  rw [if_neg c2] at h
  by_cases c3 : op = 2
  · rw [if_pos c3] at h
    cases hq : wrR M s p n with
    | error e' =>
      rw [hq] at h
      cases h
    | ok y =>
      obtain ⟨y1, y2⟩ := y
      rw [hq] at h
      cases h
      exact hl
  rw [if_neg c3] at h
  by_cases c4 : op = 3
  · rw [if_pos c4] at h
    cases h
    exact hl
  rw [if_neg c4] at h
  by_cases c5 : op = 12
  · rw [if_pos c5] at h
    cases h
    exact hl
  rw [if_neg c5] at h
  by_cases c6 : op = 13
  · rw [if_pos c6] at h
    by_cases cf : toIntE s.a = 0
    · rw [if_pos cf] at h
      cases h
      exact hl
    · rw [if_neg cf] at h
      cases h
  rw [if_neg c6] at h
  by_cases c7 : jmpR op s.a
  · rw [if_pos c7] at h
    cases h
    exact hl
  rw [if_neg c7] at h
  by_cases c8 : op = 17
  · rw [if_pos c8] at h
    cases h
    exact hl
  rw [if_neg c8] at h
  by_cases c9 : op = 18
  · rw [if_pos c9] at h
    cases hq : rdR M s p n with
    | error e' =>
      rw [hq] at h
      cases h
    | ok y =>
      obtain ⟨y1, y2⟩ := y
      rw [hq] at h
      cases h
      exact hl
  rw [if_neg c9] at h
  by_cases c10 : op = 19
  · rw [if_pos c10] at h
    cases h
    exact hl
  rw [if_neg c10] at h
  by_cases c11 : op = 20
  · rw [if_pos c11] at h
    cases hq : caR M s l p n with
    | error e' =>
      rw [hq] at h
      cases h
    | ok y =>
      obtain ⟨y1, y2⟩ := y
      rw [hq] at h
      cases h
      exact caR_len hq
  rw [if_neg c11] at h
  by_cases c12 : op = 21
  · rw [if_pos c12] at h
    cases hq : reR s l with
    | error e' =>
      rw [hq] at h
      cases h
    | ok y =>
      obtain ⟨y1, y2⟩ := y
      rw [hq] at h
      cases h
      exact reR_len hq hl
  rw [if_neg c12] at h
  by_cases c13 : op = 22
  · rw [if_pos c13] at h
    cases h
    exact hl
  rw [if_neg c13] at h
  cases h
  exact hl
theorem stR_err {M : List Sg} {s : St} {l : List Fr} {e : Int} (h : stR M s l = .error e) : 31 ≤ e ∧ e ≤ 37 := by
  unfold stR at h
  split at h
  · cases h
  · split at h
    · cases h; exact feR_err (by assumption)
    · exact doR_err h
theorem stR_len {M : List Sg} {s : St} {l : List Fr} {r : Res} (h : stR M s l = .ok r) (hl : l.length ≤ 8) : r.l.length ≤ 8 := by
  unfold stR at h
  split at h
  · cases h; exact hl
  · split at h
    · cases h
    · exact doR_len h hl
/-- what a round finds -/
structure FRr (w wr : World) (N : Nat) (s : St) (stk : Value) (l : List Fr) (mv : Value) (vs : List Value) (M : List Sg) : Prop where
  st : stAt wr N s stk
  rw : stkAt wr stk l
  l8 : l.length ≤ 8
  sg : Segs wr 0 mv vs M
  bl : Below w.heap.size w wr
  lo : w.heap.size ≤ N
theorem mem_not {w : World} {Y : Nat} {v : Value} {is : Bool} {sg of_ x n : Int} (h : memAt w 0 Y v is sg of_ x n) (ty : TypeId) (ht : ty ≠ 47) : ∀ k, k = Y → ∀ cs, w.heap[k]? ≠ some (.cells cs ty (0, 0)) := by
  rintro k rfl cs hc
  have h2 := (show w.heap[k]? = _ from h).symm.trans hc
  simp only [Option.some.injEq, Obj.cells.injEq] at h2
  exact ht h2.2.1.symm
theorem FRr.next {w w7 w8 w9 : World} {N : Nat} {s s' : St} {stk stk' : Value} {l' : List Fr} {mv : Value} {vs : List Value} {M : List Sg} (S9 : stAt w9 N s' stk') (F9 : Off (· = N) w8 w9) (A8 : stAt w8 N s stk) (T7 : stkAt w7 stk' l') (G7 : Segs w7 0 mv vs M) (B8 : Below w7.heap.size w7 w8) (h8 : l'.length ≤ 8) (L7 : Below w.heap.size w w7) (hlo : w.heap.size ≤ N) : FRr w w9 N s' stk' l' mv vs M :=
  ⟨S9, stkAt.off (stkAt.off (ex := fun _ => False) T7 (.of_below B8) (fun _ h => h.elim)) F9 (st_notq A8 _ (by decide)), h8, (G7.off (ex := fun _ => False) (.of_below B8) (fun _ h => h.elim) (fun _ h => h.elim)).off F9 (st_notq A8 _ (by decide)) (st_notq A8 _ (by decide)), Off.below (below2 L7 B8) F9 (below2 L7 B8).size (fun k hk => by omega), hlo⟩
set_option maxHeartbeats 8000000 in
theorem law_CpuFaults (w : World) (v : Value) (hv : PcAt w v) (x : St) (u : Value) (hu : FrIn w u) (n : Int) : Calls Try.prog 6 #[v, .agg (begC x u), .int .i64 n] w fun e w' => e = .returned (.bool true) ∧ Below w.heap.size w w' := by
  obtain ⟨W0, hW0, B0, HB⟩ : ∃ W, w.alloc (.cells (begC x u) 28) = W ∧ Hid (begAt W w.heap.size x u) ∧ Hid (Below w.heap.size w W) := ⟨_, rfl, heap_alloc_new _ _, below_al0 _ _⟩
  obtain ⟨nn, hnn⟩ : ∃ m : Nat, n % 30 = (m : Int) := ⟨(n % 30).toNat, by omega⟩
  have hn30 : nn < 30 := by omega
  have hw1 : IntKind.i64.wrap (1 + (nn : Int)) = 1 + (nn : Int) := by rw [IntKind.wrap_i64]; omega
  replace hnn := Lib.hid hnn
  replace hv := Lib.hid hv
  replace hu := Lib.hid hu
  replace hW0 := Lib.hid hW0
  have hone : Hid (u.oneCell' = true) := by obtain ⟨ad, n, cap, hq, _⟩ := hu.out; subst hq; rfl
  go_enter Try.func6, Try.ntmps6
  go_wp2_with fail
  rw [show w.alloc (.cells (begC x u) 28) = W0 from hW0.out]
  refine (c_known _).mono ?_
  rintro e w1 ⟨rfl, hb1⟩
  dsimp only
  have B1 : Hid (begAt w1 w.heap.size x u) := Off.keeps (.of_below (ex := fun _ => False) hb1) B0.out id
  have L1 := Lib.hid (below2 HB.out hb1)
  clear hW0 B0 HB hb1
  go_wp2_with fail
  refine (c_memory w1 v (hv.out.below L1.out)).mono ?_
  rintro e w5 ⟨v', vs, M, rfl, hsg, hM5, hMg, hb5⟩
  dsimp only
  obtain ⟨am, cm, hq, _, _⟩ := row_shape hsg.row
  subst hq
  have B5 : Hid (begAt w5 w.heap.size x u) := Off.keeps (.of_below (ex := fun _ => False) hb5) B1.out id
  have L5 := Lib.hid (below2 L1.out hb5)
  replace hsg := Lib.hid hsg.base
  replace hMg := Lib.hid hMg
  replace hM5 := Lib.hid hM5
  clear hb5 L1 B1
  go_wp2_with (first | ((with_reducible refine wpList_load_bg (op := ⟨some 19, .load 28 (.tmp 4), _, _, _, _⟩) (N := w.heap.size) (x := x) (u := u) ?_ (.tmp 4) ?_ ?_ ?_ ?_); exact rfl; exact rfl; exact rfl; exact bg_range B5.out))
  refine (c_begin w5 x u (hu.out.below L5.out)).mono ?_
  rintro e w2 ⟨s, stk, l, rfl, hs, hl8, hg, hfr, hb2⟩
  dsimp only
  obtain ⟨ad, cp, hq, _, _⟩ := row_shape hs
  subst hq
  replace hs := Lib.hid hs
  have L2 := Lib.hid (below2 L5.out hb2)
  have G2 : Hid (Segs w2 0 (.slice am M.length cm) vs M) := hsg.out.off (ex := fun _ => False) (.of_below hb2) (fun _ h => h.elim) (fun _ h => h.elim)
  replace hl8 := Lib.hid hl8
  clear hb2 L5 B5 hg hfr hsg
  go_wp2_with (first | ((with_reducible refine wpList_store_st (op := ⟨none, .store 33 (.tmp 8) (.tmp 20), _, _, _, _⟩) (N := w2.heap.size) (s := St.zero) (stk := (.slice none 0 0)) (s' := s) (stk' := (.slice ad l.length cp)) ?_ (.tmp 8) (.tmp 20) ?_ ?_ ?_ ?_ ?_ ?_); exact rfl; exact rfl; exact rfl; exact rfl; exact (show stAt _ w2.heap.size St.zero (.slice none 0 0) from heap_alloc_new w2 (.cells (stC St.zero (.slice none 0 0)) 33)); exact rfl; intro w3 S3 F3; replace F3 := Lib.hid F3; replace S3 := Lib.hid S3))
  have B3 : Below w2.heap.size w2 w3 := Off.below (below_al0 w2 (.cells (stC St.zero (.slice none 0 0)) 33)) F3.out (by simp) (fun k hk => by omega)
  have H0 : Hid (FRr w w3 w2.heap.size s (.slice ad l.length cp) l (.slice am M.length cm) vs M) := ⟨S3.out, stkAt.off (ex := fun _ => False) hs.out (.of_below B3) (fun _ h => h.elim), hl8.out, G2.out.off (ex := fun _ => False) (.of_below B3) (fun _ h => h.elim) (fun _ h => h.elim), below2 L2.out B3, L2.out.size⟩
  clear B3 F3 S3 hs G2 hl8 L2
  generalize w2.heap.size = N at H0 ⊢
  go_loopw [9] (fun kv wr => ∃ (k : Nat) (s : St) (stk : Value) (l : List Fr), kv = .int .i64 k ∧ k ≤ 1 + nn ∧ Hid (FRr w wr N s stk l (.slice am M.length cm) vs M)) (fun kv _ => 40 - (intOf kv).toNat)
  case atStart => exact ⟨0, s, _, l, rfl, by omega, H0⟩
  case round =>
    clear H0
    obtain ⟨k, s, stk, l, rfl, hkn, HR⟩ := hrel
    by_cases hk : k < 1 + nn
    · have hk' : (k : Int) < 1 + (nn : Int) := by omega
      have HL : Hid (stAt (wr.alloc (.cells #[.slice am M.length cm, .bool false, .int .i64 0, .int .i64 0, .int .i64 0, .int .i64 0] 47)) N s stk) := Off.keeps (ex := fun _ => False) ((Off.refl _ _).alloc _) HR.out.st id
      have hs8 : Hid (stk.oneCell' = true) := by obtain ⟨x1, x2, x3, _⟩ := row_shape HR.out.rw; subst x3; rfl
      go_wp2_with (first | (go_at_call 21; refine (within16 _ _ (by decide) (by decide) _).mono ?_; rintro e w2 ⟨rfl, hw2⟩; subst hw2; rw [hnn.out]) | ((with_reducible refine wpList_load_st (op := ⟨some 32, .load 33 (.tmp 8), _, _, _, _⟩) (N := N) (s := s) (stk := stk) ?_ (.tmp 8) ?_ ?_ ?_ ?_); exact rfl; exact rfl; exact rfl; exact st_range HL.out))
      obtain ⟨W6, hW6, Y6, S6, B6⟩ : ∃ W, wr.alloc (.cells #[.slice am M.length cm, .bool false, .int .i64 0, .int .i64 0, .int .i64 0, .int .i64 0] 47) = W ∧ Hid (memAt W 0 wr.heap.size (.slice am M.length cm) false 0 0 0 0) ∧ Hid (stAt W N s stk) ∧ Hid (Below wr.heap.size wr W) := ⟨_, rfl, heap_alloc_new _ _, HL, below_al0 _ _⟩
      rw [hW6]
      clear hW6 HL
      have M6 : MemOk W6 0 wr.heap.size M := Segs.mem (HR.out.sg.off (ex := fun _ => False) (.of_below B6.out) (fun _ h => h.elim) (fun _ h => h.elim)) Y6.out hM5.out hMg.out
      have K6 : stkAt W6 stk l := stkAt.off (ex := fun _ => False) HR.out.rw (.of_below B6.out) (fun _ h => h.elim)
      have L6 := Lib.hid (below2 HR.out.bl B6.out)
      have hwY : Hid (w.heap.size ≤ wr.heap.size) := HR.out.bl.size
      have hNY : Hid (N < wr.heap.size) := HR.out.st.lt
      have hlo : Hid (w.heap.size ≤ N) := HR.out.lo
      have hl8 : Hid (l.length ≤ 8) := HR.out.l8
      have G6 : Hid (Segs W6 0 (.slice am M.length cm) vs M) := HR.out.sg.off (ex := fun _ => False) (.of_below B6.out) (fun _ h => h.elim) (fun _ h => h.elim)
      cases hst : stR M s l with
      | error er =>
        obtain ⟨h31, h37⟩ := stR_err hst
        have hne : ¬ er = 0 := by omega
        have hne' : (er != 0) = true := by simpa using hne
        refine (c_Step_er W6 0 wr.heap.size s stk M l M6 K6 (by have := hl8.out; omega) er hst).mono ?_
        rintro e w7 ⟨rfl, hb7⟩
        dsimp only
        have Y7 : Hid (memAt w7 0 wr.heap.size (.slice am M.length cm) false 0 0 0 0) := Off.keeps (.of_below (ex := fun _ => False) hb7) Y6.out id
        have L7 := Lib.hid (below2 L6.out hb7)
        clear hb7 M6 K6 hst
        go_wp2_with (first | ((with_reducible refine wpList_load_st (op := ⟨some 56, .load 33 (.tmp 11), _, _, _, _⟩) (N := w7.heap.size) (s := St.zero) (stk := (.slice none 0 0)) ?_ (.tmp 11) ?_ ?_ ?_ ?_); exact rfl; exact rfl; exact rfl; exact st_range S8.out) | (go_at_call 19; refine (c_state w8 St.zero [] (.slice none 0 0) (stk_nil _) (by decide)).mono ?_; rintro e x1 ⟨v1, rfl, hr1, hb1⟩; have V1 := Lib.hid hr1; have X1 := Lib.hid hb1; clear hr1 hb1 z0 z1 z2 z3 z4 z5 z6 z7 z8 z9 z10 z11 z12 z13 z14 z15 z16 z17; dsimp only) | (go_at_call 18; refine (c_same x1 St.zero [] v1 (.slice none 0 0) V1.out ⟨rfl, .inl ⟨rfl, rfl⟩⟩ (by decide)).mono ?_; rintro e x2 ⟨rfl, hb2⟩; have X2 := Lib.hid hb2; clear hb2; dsimp only) | ((with_reducible refine wpList_store_st (op := ⟨none, .store 33 (.tmp 11) (.tmp 36), _, _, _, _⟩) (N := w7.heap.size) (s := St.zero) (stk := (.slice none 0 0)) (s' := St.zero) (stk' := (.slice none 0 0)) ?_ (.tmp 11) (.tmp 36) ?_ ?_ ?_ ?_ ?_ ?_); exact rfl; exact rfl; exact rfl; exact rfl; exact (show stAt _ w7.heap.size St.zero (.slice none 0 0) from heap_alloc_new w7 (.cells (stC St.zero (.slice none 0 0)) 33)); exact rfl; intro w8 S8 F8; have B8 : Hid (Below w7.heap.size w7 w8) := Off.below (below_al0 w7 (.cells (stC St.zero (.slice none 0 0)) 33)) F8 (by simp) (fun k hk => by omega); have y5 : w8.cell? ⟨wr.heap.size, 5, none⟩ = some (.int .i64 0) := (show memAt w8 0 wr.heap.size (.slice am M.length cm) false 0 0 0 0 from Off.keeps (.of_below (ex := fun _ => False) B8.out) Y7.out id).facts.2; have z0 : w8.cell? ⟨w7.heap.size, 0, none⟩ = some (.int .i64 0) := S8.cell 0; have z1 : w8.cell? ⟨w7.heap.size, 1, none⟩ = some (.int .i64 0) := S8.cell 1; have z2 : w8.cell? ⟨w7.heap.size, 2, none⟩ = some (.int .i64 0) := S8.cell 2; have z3 : w8.cell? ⟨w7.heap.size, 3, none⟩ = some (.int .i64 0) := S8.cell 3; have z4 : w8.cell? ⟨w7.heap.size, 4, none⟩ = some (.int .i64 0) := S8.cell 4; have z5 : w8.cell? ⟨w7.heap.size, 5, none⟩ = some (.int .i64 0) := S8.cell 5; have z6 : w8.cell? ⟨w7.heap.size, 6, none⟩ = some (.int .i64 0) := S8.cell 6; have z7 : w8.cell? ⟨w7.heap.size, 7, none⟩ = some (.int .i64 0) := S8.cell 7; have z8 : w8.cell? ⟨w7.heap.size, 8, none⟩ = some (.int .i64 0) := S8.cell 8; have z9 : w8.cell? ⟨w7.heap.size, 9, none⟩ = some (.int .i64 0) := S8.cell 9; have z10 : w8.cell? ⟨w7.heap.size, 10, none⟩ = some (.int .i64 0) := S8.cell 10; have z11 : w8.cell? ⟨w7.heap.size, 11, none⟩ = some (.int .i64 0) := S8.cell 11; have z12 : w8.cell? ⟨w7.heap.size, 12, none⟩ = some (.int .i64 0) := S8.cell 12; have z13 : w8.cell? ⟨w7.heap.size, 13, none⟩ = some (.int .i64 0) := S8.cell 13; have z14 : w8.cell? ⟨w7.heap.size, 14, none⟩ = some (.int .i64 0) := S8.cell 14; have z15 : w8.cell? ⟨w7.heap.size, 15, none⟩ = some (.int .i64 0) := S8.cell 15; have z16 : w8.cell? ⟨w7.heap.size, 16, none⟩ = some (.slice none 0 0) := S8.cell 16; have z17 : w8.cell? ⟨w7.heap.size, 17, none⟩ = some (.bool false) := S8.cell 17; replace S8 := Lib.hid S8; clear F8))
        go_ret
        exact ⟨rfl, below2 (below2 (below2 L7.out B8.out) X1.out) X2.out⟩
      | ok r =>
        have hr8 := Lib.hid (stR_len hst hl8.out)
        refine (c_Step_ok W6 0 wr.heap.size s stk M l M6 K6 (by have := hl8.out; omega) (.slice am M.length cm) false 0 0 0 0 Y6.out r hst).mono ?_
        rintro e w7 ⟨stk', rfl, hs7, hmt, ho⟩
        dsimp only
        obtain ⟨ad7, cp7, hq, _, _⟩ := row_shape hs7
        subst hq
        have S7 : Hid (stAt w7 N s stk) := Off.keeps ho S6.out (by have := hNY.out; omega)
        have T7 := Lib.hid hs7
        have G7 : Hid (Segs w7 0 (.slice am M.length cm) vs M) := G6.out.off ho (mem_not Y6.out _ (by decide)) (mem_not Y6.out _ (by decide))
        have L7 := Lib.hid (Off.below L6.out ho L6.out.size (fun k hk => by have := hwY.out; omega))
        clear hs7 ho M6 K6 hst
        cases hrs : r.st with
        | some y =>
          obtain ⟨y1, y2, y3⟩ := y
          rw [hrs] at hmt
          have hmt' : memAt w7 0 wr.heap.size (.slice am M.length cm) true y1 y2 y3 (wrap64 (0 + 1)) := hmt
          rw [show wrap64 (0 + 1) = 1 from by decide +kernel] at hmt'
          have Y7 := Lib.hid hmt'
          clear hmt hmt'
          go_wp2_with (first | ((with_reducible refine wpList_store_st (op := ⟨none, .store 33 (.tmp 11) (.tmp 36), _, _, _, _⟩) (N := w7.heap.size) (s := St.zero) (stk := (.slice none 0 0)) (s' := r.s) (stk' := (.slice ad7 r.l.length cp7)) ?_ (.tmp 11) (.tmp 36) ?_ ?_ ?_ ?_ ?_ ?_); exact rfl; exact rfl; exact rfl; exact rfl; exact (show stAt _ w7.heap.size St.zero (.slice none 0 0) from heap_alloc_new w7 (.cells (stC St.zero (.slice none 0 0)) 33)); exact rfl; intro w8 S8 F8; have B8 : Hid (Below w7.heap.size w7 w8) := Off.below (below_al0 w7 (.cells (stC St.zero (.slice none 0 0)) 33)) F8 (by simp) (fun k hk => by omega); have y5 : w8.cell? ⟨wr.heap.size, 5, none⟩ = some (.int .i64 1) := (show memAt w8 0 wr.heap.size (.slice am M.length cm) true y1 y2 y3 1 from Off.keeps (.of_below (ex := fun _ => False) B8.out) Y7.out id).facts.2; replace S8 := Lib.hid S8; clear F8))
          go_ret
          exact ⟨rfl, below2 L7.out B8.out⟩
        | none =>
          rw [hrs] at hmt
          have Y7 : Hid (memAt w7 0 wr.heap.size (.slice am M.length cm) false 0 0 0 0) := hmt
          clear hmt
          go_wp2_with (first | ((with_reducible refine wpList_load_st (op := ⟨some 74, .load 33 (.tmp 11), _, _, _, _⟩) (N := w7.heap.size) (s := r.s) (stk := (.slice ad7 r.l.length cp7)) ?_ (.tmp 11) ?_ ?_ ?_ ?_); exact rfl; exact rfl; exact rfl; exact st_range S8.out) | ((with_reducible refine wpList_store_st (op := ⟨none, .store 33 (.tmp 11) (.tmp 36), _, _, _, _⟩) (N := w7.heap.size) (s := St.zero) (stk := (.slice none 0 0)) (s' := r.s) (stk' := (.slice ad7 r.l.length cp7)) ?_ (.tmp 11) (.tmp 36) ?_ ?_ ?_ ?_ ?_ ?_); exact rfl; exact rfl; exact rfl; exact rfl; exact (show stAt _ w7.heap.size St.zero (.slice none 0 0) from heap_alloc_new w7 (.cells (stC St.zero (.slice none 0 0)) 33)); exact rfl; intro w8 S8 F8; have B8 : Hid (Below w7.heap.size w7 w8) := Off.below (below_al0 w7 (.cells (stC St.zero (.slice none 0 0)) 33)) F8 (by simp) (fun k hk => by omega); have y5 : w8.cell? ⟨wr.heap.size, 5, none⟩ = some (.int .i64 0) := (show memAt w8 0 wr.heap.size (.slice am M.length cm) false 0 0 0 0 from Off.keeps (.of_below (ex := fun _ => False) B8.out) Y7.out id).facts.2; replace S8 := Lib.hid S8; have A8 : Hid (stAt w8 N s stk) := Off.keeps (.of_below (ex := fun _ => False) B8.out) S7.out id; clear F8) | ((with_reducible refine wpList_store_st (op := ⟨none, .store 33 (.tmp 8) (.tmp 74), _, _, _, _⟩) (N := N) (s := s) (stk := stk) (s' := r.s) (stk' := (.slice ad7 r.l.length cp7)) ?_ (.tmp 8) (.tmp 74) ?_ ?_ ?_ ?_ ?_ ?_); exact rfl; exact rfl; exact rfl; exact rfl; exact A8.out; exact rfl; intro w9 S9 F9; have HN : Hid (FRr w w9 N r.s (.slice ad7 r.l.length cp7) r.l (.slice am M.length cm) vs M) := FRr.next S9 F9 A8.out T7.out G7.out B8.out hr8.out L7.out hlo.out; clear S9 F9))
          go_roundw
          case rel => exact ⟨k + 1, r.s, _, r.l, by go_num, by omega, HN⟩
          case measure => simp [intOf]; omega
    · have hk' : ¬ (k : Int) < 1 + (nn : Int) := by omega
      go_wp2_with (first | (go_at_call 21; refine (within16 _ _ (by decide) (by decide) _).mono ?_; rintro e w2 ⟨rfl, hw2⟩; subst hw2; rw [hnn.out]))
      go_ret
      exact ⟨rfl, HR.out.bl⟩
end Go.Proofs.Ytiakonmamkfopaa
