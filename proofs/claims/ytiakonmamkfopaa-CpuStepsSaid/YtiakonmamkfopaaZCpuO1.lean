/- The processor's run: a pointer is set. -/
import Derived.Test.YtiakonmamkfopaaZCpuN
namespace Go.Proofs.Ytiakonmamkfopaa
open Go.RowKit Go.ChangeShapes
set_option linter.unusedVariables false
set_option maxRecDepth 100000
set_option maxHeartbeats 2000000 in
theorem c_do17_0 (w : World) (B R Y : Nat) (s : St) (stk : Value) (told : Bool) (out : Int) (M : List Sg) (p n : Int) (hr : runAt w R s stk (memV Y) told out) (hm : MemOk w B Y M)  :
    Calls Try.prog 41 #[.pointer (some ⟨R, 0, none⟩), .agg #[.int .i64 17, .int .i64 0, .int .i64 n]] w fun e w' => e = .returned (.tuple #[]) ∧ runAt w' R (s.setP 0 ⟨pSeg s.a, pOff s.a, max s.ring (pRing s.a)⟩) stk (memV Y) told out ∧ Off (· = R) w w' := by
  have hal := below_al0 w (.cells #[.int .i64 17, .int .i64 0, .int .i64 n] 64)
  have hr1 := Lib.hid (hr.below hal)
  have hm1 := Lib.hid (hm.below hal)
  have B0 := Lib.hid (blk3.new w 64 (.int .i64 17) (.int .i64 0) (.int .i64 n))
  have HB := Lib.hid hal
  have hRw := hr.lt
  have hNR : ¬ w.heap.size = R := by omega
  have r3 : w.cell? ⟨R, 3, none⟩ = some (.int .i64 s.a) := hr.cell 3
  clear hal hr hm
  go_enter Try.func41, Try.ntmps41
  go_wp2_with (first | (go_at_call 61; refine (c_DecodePointer _ _).mono ?_; rintro e w2 ⟨rfl, hb2⟩; have hr2 := Lib.hid (hr1.out.below hb2); have B2 := Lib.hid (B0.out.below hb2); have hb2 := Lib.hid hb2))
  have HR := Lib.hid (hr2.out.below (below_al0 w2 (.cells #[.int .i64 (pSeg s.a), .int .i64 (pOff s.a), .int .i64 (pRing s.a)] 24)))
  have B2 := Lib.hid (B2.out.below (below_al0 w2 (.cells #[.int .i64 (pSeg s.a), .int .i64 (pOff s.a), .int .i64 (pRing s.a)] 24)))
  have HB := Lib.hid (below_al (below2 HB.out hb2.out) (.cells #[.int .i64 (pSeg s.a), .int .i64 (pOff s.a), .int .i64 (pRing s.a)] 24))
  have Q2 := Lib.hid (blk3.new w2 24 (.int .i64 (pSeg s.a)) (.int .i64 (pOff s.a)) (.int .i64 (pRing s.a)))
  have hR2 := hr2.out.lt
  have hN2 := B2.out.lt
  have hw2 := (below2 HB.out (Below.refl _ _)).size
  have hQR : ¬ w2.heap.size = R := by omega
  have hQN : ¬ w2.heap.size = w.heap.size := by have := hb2.out.size; simp at this; omega
  have hWQ : w.heap.size ≤ w2.heap.size := by have := hb2.out.size; simp at this; omega
  clear hr1 hr2 hb2 hm1 B0 r3 hw2 hN2 hR2
  generalize w2.alloc (.cells #[.int .i64 (pSeg s.a), .int .i64 (pOff s.a), .int .i64 (pRing s.a)] 24) = W at HR B2 HB Q2 ⊢
  generalize w2.heap.size = Q at Q2 hQR hQN hWQ ⊢
  have r2 : W.drew.cell? ⟨R, 2, none⟩ = some (.int .i64 s.ring) := HR.out.cell 2
  obtain ⟨⟨q0, q1, q2⟩, qf⟩ := blk3.facts (w := W.drew) Q2.out
  have hQ : Q < W.drew.heap.size := Q2.out.lt
  have jm := six_max
  refine still_tail 9 (by kernel_rfl) (by kernel_rfl) ?_
  simp only [List.take_succ_cons, List.take_zero, List.drop_succ_cons, List.drop_zero]
  repeat still_step
  refine wpStill_nil ?_
  go_wp2_with fail
  obtain ⟨W3, hW3, Q3, HO3⟩ : ∃ V, (W.setCell ⟨Q, 2, none⟩ (.int .i64 (max s.ring (pRing s.a)))).drew = V ∧ Hid (blk3 V Q 24 (.int .i64 (pSeg s.a)) (.int .i64 (pOff s.a)) (.int .i64 (max s.ring (pRing s.a)))) ∧ Hid (Off (· = Q) W V) := by
    refine ⟨_, rfl, ?_, (off1 _ _ _ _).drew⟩
    have h := Q2.out
    show (W.setCell ⟨Q, 2, none⟩ _).heap[Q]? = _
    unfold blk3 at h
    simp [World.setCell, Array.getElem?_modify, h]
  rw [hW3]
  have HR3 := Lib.hid (HR.out.off HO3.out (fun h => hQR h.symm))
  have B3 := Lib.hid (B2.out.off HO3.out (fun h => hQN h.symm))
  clear hW3 r2 q0 q1 q2 qf hQ jm
  obtain ⟨⟨q0, q1, q2⟩, qf⟩ := blk3.facts (w := W3.drew) Q3.out
  obtain ⟨⟨n0, n1, n2⟩, nf⟩ := blk3.facts (w := W3.drew) B3.out
  have rf : ∀ j, W3.drew.frozen? ⟨R, j, none⟩ = false := fun j => HR3.out.free j
  have hR : R < W3.drew.heap.size := HR3.out.lt
  have r4 : W3.drew.cell? ⟨R, 4, none⟩ = some (.int .i64 s.p0.seg) := HR3.out.cell 4
  have r5 : W3.drew.cell? ⟨R, 5, none⟩ = some (.int .i64 s.p0.off) := HR3.out.cell 5
  have r6 : W3.drew.cell? ⟨R, 6, none⟩ = some (.int .i64 s.p0.ring) := HR3.out.cell 6
  have tf : ∀ j, W3.frozen? ⟨R, j, none⟩ = false := fun j => HR3.out.free j
  have tR : R < W3.heap.size := HR3.out.lt
  have t4 : W3.cell? ⟨R, 4, none⟩ = some (.int .i64 s.p0.seg) := HR3.out.cell 4
  have t5 : W3.cell? ⟨R, 5, none⟩ = some (.int .i64 s.p0.off) := HR3.out.cell 5
  have t6 : W3.cell? ⟨R, 6, none⟩ = some (.int .i64 s.p0.ring) := HR3.out.cell 6
  refine still_tail 8 (by kernel_rfl) (by kernel_rfl) ?_
  simp only [List.take_succ_cons, List.take_zero, List.drop_succ_cons, List.drop_zero]
  repeat still_step
  refine wpStill_nil ?_
  go_wp2_with fail
  go_end0
  refine ⟨rfl, set3w HR3.out 4 (by decide) _ _ _, ?_⟩
  have h1 := (Off.of_below (ex := (· = R)) HB.out).trans2 HO3.out (fun i hi h => by omega)
  exact h1.trans (off3P _ _ _ _ _ _ _ _).drew
set_option maxHeartbeats 2000000 in
theorem c_do17_1 (w : World) (B R Y : Nat) (s : St) (stk : Value) (told : Bool) (out : Int) (M : List Sg) (p n : Int) (hr : runAt w R s stk (memV Y) told out) (hm : MemOk w B Y M)  :
    Calls Try.prog 41 #[.pointer (some ⟨R, 0, none⟩), .agg #[.int .i64 17, .int .i64 1, .int .i64 n]] w fun e w' => e = .returned (.tuple #[]) ∧ runAt w' R (s.setP 1 ⟨pSeg s.a, pOff s.a, max s.ring (pRing s.a)⟩) stk (memV Y) told out ∧ Off (· = R) w w' := by
  have hal := below_al0 w (.cells #[.int .i64 17, .int .i64 1, .int .i64 n] 64)
  have hr1 := Lib.hid (hr.below hal)
  have hm1 := Lib.hid (hm.below hal)
  have B0 := Lib.hid (blk3.new w 64 (.int .i64 17) (.int .i64 1) (.int .i64 n))
  have HB := Lib.hid hal
  have hRw := hr.lt
  have hNR : ¬ w.heap.size = R := by omega
  have r3 : w.cell? ⟨R, 3, none⟩ = some (.int .i64 s.a) := hr.cell 3
  clear hal hr hm
  go_enter Try.func41, Try.ntmps41
  go_wp2_with (first | (go_at_call 61; refine (c_DecodePointer _ _).mono ?_; rintro e w2 ⟨rfl, hb2⟩; have hr2 := Lib.hid (hr1.out.below hb2); have B2 := Lib.hid (B0.out.below hb2); have hb2 := Lib.hid hb2))
  have HR := Lib.hid (hr2.out.below (below_al0 w2 (.cells #[.int .i64 (pSeg s.a), .int .i64 (pOff s.a), .int .i64 (pRing s.a)] 24)))
  have B2 := Lib.hid (B2.out.below (below_al0 w2 (.cells #[.int .i64 (pSeg s.a), .int .i64 (pOff s.a), .int .i64 (pRing s.a)] 24)))
  have HB := Lib.hid (below_al (below2 HB.out hb2.out) (.cells #[.int .i64 (pSeg s.a), .int .i64 (pOff s.a), .int .i64 (pRing s.a)] 24))
  have Q2 := Lib.hid (blk3.new w2 24 (.int .i64 (pSeg s.a)) (.int .i64 (pOff s.a)) (.int .i64 (pRing s.a)))
  have hR2 := hr2.out.lt
  have hN2 := B2.out.lt
  have hw2 := (below2 HB.out (Below.refl _ _)).size
  have hQR : ¬ w2.heap.size = R := by omega
  have hQN : ¬ w2.heap.size = w.heap.size := by have := hb2.out.size; simp at this; omega
  have hWQ : w.heap.size ≤ w2.heap.size := by have := hb2.out.size; simp at this; omega
  clear hr1 hr2 hb2 hm1 B0 r3 hw2 hN2 hR2
  generalize w2.alloc (.cells #[.int .i64 (pSeg s.a), .int .i64 (pOff s.a), .int .i64 (pRing s.a)] 24) = W at HR B2 HB Q2 ⊢
  generalize w2.heap.size = Q at Q2 hQR hQN hWQ ⊢
  have r2 : W.drew.cell? ⟨R, 2, none⟩ = some (.int .i64 s.ring) := HR.out.cell 2
  obtain ⟨⟨q0, q1, q2⟩, qf⟩ := blk3.facts (w := W.drew) Q2.out
  have hQ : Q < W.drew.heap.size := Q2.out.lt
  have jm := six_max
  refine still_tail 9 (by kernel_rfl) (by kernel_rfl) ?_
  simp only [List.take_succ_cons, List.take_zero, List.drop_succ_cons, List.drop_zero]
  repeat still_step
  refine wpStill_nil ?_
  go_wp2_with fail
  obtain ⟨W3, hW3, Q3, HO3⟩ : ∃ V, (W.setCell ⟨Q, 2, none⟩ (.int .i64 (max s.ring (pRing s.a)))).drew = V ∧ Hid (blk3 V Q 24 (.int .i64 (pSeg s.a)) (.int .i64 (pOff s.a)) (.int .i64 (max s.ring (pRing s.a)))) ∧ Hid (Off (· = Q) W V) := by
    refine ⟨_, rfl, ?_, (off1 _ _ _ _).drew⟩
    have h := Q2.out
    show (W.setCell ⟨Q, 2, none⟩ _).heap[Q]? = _
    unfold blk3 at h
    simp [World.setCell, Array.getElem?_modify, h]
  rw [hW3]
  have HR3 := Lib.hid (HR.out.off HO3.out (fun h => hQR h.symm))
  have B3 := Lib.hid (B2.out.off HO3.out (fun h => hQN h.symm))
  clear hW3 r2 q0 q1 q2 qf hQ jm
  obtain ⟨⟨q0, q1, q2⟩, qf⟩ := blk3.facts (w := W3.drew) Q3.out
  obtain ⟨⟨n0, n1, n2⟩, nf⟩ := blk3.facts (w := W3.drew) B3.out
  have rf : ∀ j, W3.drew.frozen? ⟨R, j, none⟩ = false := fun j => HR3.out.free j
  have hR : R < W3.drew.heap.size := HR3.out.lt
  have r4 : W3.drew.cell? ⟨R, 7, none⟩ = some (.int .i64 s.p1.seg) := HR3.out.cell 7
  have r5 : W3.drew.cell? ⟨R, 8, none⟩ = some (.int .i64 s.p1.off) := HR3.out.cell 8
  have r6 : W3.drew.cell? ⟨R, 9, none⟩ = some (.int .i64 s.p1.ring) := HR3.out.cell 9
  have tf : ∀ j, W3.frozen? ⟨R, j, none⟩ = false := fun j => HR3.out.free j
  have tR : R < W3.heap.size := HR3.out.lt
  have t4 : W3.cell? ⟨R, 7, none⟩ = some (.int .i64 s.p1.seg) := HR3.out.cell 7
  have t5 : W3.cell? ⟨R, 8, none⟩ = some (.int .i64 s.p1.off) := HR3.out.cell 8
  have t6 : W3.cell? ⟨R, 9, none⟩ = some (.int .i64 s.p1.ring) := HR3.out.cell 9
  refine still_tail 8 (by kernel_rfl) (by kernel_rfl) ?_
  simp only [List.take_succ_cons, List.take_zero, List.drop_succ_cons, List.drop_zero]
  repeat still_step
  refine wpStill_nil ?_
  go_wp2_with fail
  go_end0
  refine ⟨rfl, set3w HR3.out 7 (by decide) _ _ _, ?_⟩
  have h1 := (Off.of_below (ex := (· = R)) HB.out).trans2 HO3.out (fun i hi h => by omega)
  exact h1.trans (off3P _ _ _ _ _ _ _ _).drew
set_option maxHeartbeats 2000000 in
theorem c_do17_2 (w : World) (B R Y : Nat) (s : St) (stk : Value) (told : Bool) (out : Int) (M : List Sg) (p n : Int) (hr : runAt w R s stk (memV Y) told out) (hm : MemOk w B Y M)  :
    Calls Try.prog 41 #[.pointer (some ⟨R, 0, none⟩), .agg #[.int .i64 17, .int .i64 2, .int .i64 n]] w fun e w' => e = .returned (.tuple #[]) ∧ runAt w' R (s.setP 2 ⟨pSeg s.a, pOff s.a, max s.ring (pRing s.a)⟩) stk (memV Y) told out ∧ Off (· = R) w w' := by
  have hal := below_al0 w (.cells #[.int .i64 17, .int .i64 2, .int .i64 n] 64)
  have hr1 := Lib.hid (hr.below hal)
  have hm1 := Lib.hid (hm.below hal)
  have B0 := Lib.hid (blk3.new w 64 (.int .i64 17) (.int .i64 2) (.int .i64 n))
  have HB := Lib.hid hal
  have hRw := hr.lt
  have hNR : ¬ w.heap.size = R := by omega
  have r3 : w.cell? ⟨R, 3, none⟩ = some (.int .i64 s.a) := hr.cell 3
  clear hal hr hm
  go_enter Try.func41, Try.ntmps41
  go_wp2_with (first | (go_at_call 61; refine (c_DecodePointer _ _).mono ?_; rintro e w2 ⟨rfl, hb2⟩; have hr2 := Lib.hid (hr1.out.below hb2); have B2 := Lib.hid (B0.out.below hb2); have hb2 := Lib.hid hb2))
  have HR := Lib.hid (hr2.out.below (below_al0 w2 (.cells #[.int .i64 (pSeg s.a), .int .i64 (pOff s.a), .int .i64 (pRing s.a)] 24)))
  have B2 := Lib.hid (B2.out.below (below_al0 w2 (.cells #[.int .i64 (pSeg s.a), .int .i64 (pOff s.a), .int .i64 (pRing s.a)] 24)))
  have HB := Lib.hid (below_al (below2 HB.out hb2.out) (.cells #[.int .i64 (pSeg s.a), .int .i64 (pOff s.a), .int .i64 (pRing s.a)] 24))
  have Q2 := Lib.hid (blk3.new w2 24 (.int .i64 (pSeg s.a)) (.int .i64 (pOff s.a)) (.int .i64 (pRing s.a)))
  have hR2 := hr2.out.lt
  have hN2 := B2.out.lt
  have hw2 := (below2 HB.out (Below.refl _ _)).size
  have hQR : ¬ w2.heap.size = R := by omega
  have hQN : ¬ w2.heap.size = w.heap.size := by have := hb2.out.size; simp at this; omega
  have hWQ : w.heap.size ≤ w2.heap.size := by have := hb2.out.size; simp at this; omega
  clear hr1 hr2 hb2 hm1 B0 r3 hw2 hN2 hR2
  generalize w2.alloc (.cells #[.int .i64 (pSeg s.a), .int .i64 (pOff s.a), .int .i64 (pRing s.a)] 24) = W at HR B2 HB Q2 ⊢
  generalize w2.heap.size = Q at Q2 hQR hQN hWQ ⊢
  have r2 : W.drew.cell? ⟨R, 2, none⟩ = some (.int .i64 s.ring) := HR.out.cell 2
  obtain ⟨⟨q0, q1, q2⟩, qf⟩ := blk3.facts (w := W.drew) Q2.out
  have hQ : Q < W.drew.heap.size := Q2.out.lt
  have jm := six_max
  refine still_tail 9 (by kernel_rfl) (by kernel_rfl) ?_
  simp only [List.take_succ_cons, List.take_zero, List.drop_succ_cons, List.drop_zero]
  repeat still_step
  refine wpStill_nil ?_
  go_wp2_with fail
  obtain ⟨W3, hW3, Q3, HO3⟩ : ∃ V, (W.setCell ⟨Q, 2, none⟩ (.int .i64 (max s.ring (pRing s.a)))).drew = V ∧ Hid (blk3 V Q 24 (.int .i64 (pSeg s.a)) (.int .i64 (pOff s.a)) (.int .i64 (max s.ring (pRing s.a)))) ∧ Hid (Off (· = Q) W V) := by
    refine ⟨_, rfl, ?_, (off1 _ _ _ _).drew⟩
    have h := Q2.out
    show (W.setCell ⟨Q, 2, none⟩ _).heap[Q]? = _
    unfold blk3 at h
    simp [World.setCell, Array.getElem?_modify, h]
  rw [hW3]
  have HR3 := Lib.hid (HR.out.off HO3.out (fun h => hQR h.symm))
  have B3 := Lib.hid (B2.out.off HO3.out (fun h => hQN h.symm))
  clear hW3 r2 q0 q1 q2 qf hQ jm
  obtain ⟨⟨q0, q1, q2⟩, qf⟩ := blk3.facts (w := W3.drew) Q3.out
  obtain ⟨⟨n0, n1, n2⟩, nf⟩ := blk3.facts (w := W3.drew) B3.out
  have rf : ∀ j, W3.drew.frozen? ⟨R, j, none⟩ = false := fun j => HR3.out.free j
  have hR : R < W3.drew.heap.size := HR3.out.lt
  have r4 : W3.drew.cell? ⟨R, 10, none⟩ = some (.int .i64 s.p2.seg) := HR3.out.cell 10
  have r5 : W3.drew.cell? ⟨R, 11, none⟩ = some (.int .i64 s.p2.off) := HR3.out.cell 11
  have r6 : W3.drew.cell? ⟨R, 12, none⟩ = some (.int .i64 s.p2.ring) := HR3.out.cell 12
  have tf : ∀ j, W3.frozen? ⟨R, j, none⟩ = false := fun j => HR3.out.free j
  have tR : R < W3.heap.size := HR3.out.lt
  have t4 : W3.cell? ⟨R, 10, none⟩ = some (.int .i64 s.p2.seg) := HR3.out.cell 10
  have t5 : W3.cell? ⟨R, 11, none⟩ = some (.int .i64 s.p2.off) := HR3.out.cell 11
  have t6 : W3.cell? ⟨R, 12, none⟩ = some (.int .i64 s.p2.ring) := HR3.out.cell 12
  refine still_tail 8 (by kernel_rfl) (by kernel_rfl) ?_
  simp only [List.take_succ_cons, List.take_zero, List.drop_succ_cons, List.drop_zero]
  repeat still_step
  refine wpStill_nil ?_
  go_wp2_with fail
  go_end0
  refine ⟨rfl, set3w HR3.out 10 (by decide) _ _ _, ?_⟩
  have h1 := (Off.of_below (ex := (· = R)) HB.out).trans2 HO3.out (fun i hi h => by omega)
  exact h1.trans (off3P _ _ _ _ _ _ _ _).drew
set_option maxHeartbeats 2000000 in
theorem c_do17_3 (w : World) (B R Y : Nat) (s : St) (stk : Value) (told : Bool) (out : Int) (M : List Sg) (p n : Int) (hr : runAt w R s stk (memV Y) told out) (hm : MemOk w B Y M)  :
    Calls Try.prog 41 #[.pointer (some ⟨R, 0, none⟩), .agg #[.int .i64 17, .int .i64 3, .int .i64 n]] w fun e w' => e = .returned (.tuple #[]) ∧ runAt w' R (s.setP 3 ⟨pSeg s.a, pOff s.a, max s.ring (pRing s.a)⟩) stk (memV Y) told out ∧ Off (· = R) w w' := by
  have hal := below_al0 w (.cells #[.int .i64 17, .int .i64 3, .int .i64 n] 64)
  have hr1 := Lib.hid (hr.below hal)
  have hm1 := Lib.hid (hm.below hal)
  have B0 := Lib.hid (blk3.new w 64 (.int .i64 17) (.int .i64 3) (.int .i64 n))
  have HB := Lib.hid hal
  have hRw := hr.lt
  have hNR : ¬ w.heap.size = R := by omega
  have r3 : w.cell? ⟨R, 3, none⟩ = some (.int .i64 s.a) := hr.cell 3
  clear hal hr hm
  go_enter Try.func41, Try.ntmps41
  go_wp2_with (first | (go_at_call 61; refine (c_DecodePointer _ _).mono ?_; rintro e w2 ⟨rfl, hb2⟩; have hr2 := Lib.hid (hr1.out.below hb2); have B2 := Lib.hid (B0.out.below hb2); have hb2 := Lib.hid hb2))
  have HR := Lib.hid (hr2.out.below (below_al0 w2 (.cells #[.int .i64 (pSeg s.a), .int .i64 (pOff s.a), .int .i64 (pRing s.a)] 24)))
  have B2 := Lib.hid (B2.out.below (below_al0 w2 (.cells #[.int .i64 (pSeg s.a), .int .i64 (pOff s.a), .int .i64 (pRing s.a)] 24)))
  have HB := Lib.hid (below_al (below2 HB.out hb2.out) (.cells #[.int .i64 (pSeg s.a), .int .i64 (pOff s.a), .int .i64 (pRing s.a)] 24))
  have Q2 := Lib.hid (blk3.new w2 24 (.int .i64 (pSeg s.a)) (.int .i64 (pOff s.a)) (.int .i64 (pRing s.a)))
  have hR2 := hr2.out.lt
  have hN2 := B2.out.lt
  have hw2 := (below2 HB.out (Below.refl _ _)).size
  have hQR : ¬ w2.heap.size = R := by omega
  have hQN : ¬ w2.heap.size = w.heap.size := by have := hb2.out.size; simp at this; omega
  have hWQ : w.heap.size ≤ w2.heap.size := by have := hb2.out.size; simp at this; omega
  clear hr1 hr2 hb2 hm1 B0 r3 hw2 hN2 hR2
  generalize w2.alloc (.cells #[.int .i64 (pSeg s.a), .int .i64 (pOff s.a), .int .i64 (pRing s.a)] 24) = W at HR B2 HB Q2 ⊢
  generalize w2.heap.size = Q at Q2 hQR hQN hWQ ⊢
  have r2 : W.drew.cell? ⟨R, 2, none⟩ = some (.int .i64 s.ring) := HR.out.cell 2
  obtain ⟨⟨q0, q1, q2⟩, qf⟩ := blk3.facts (w := W.drew) Q2.out
  have hQ : Q < W.drew.heap.size := Q2.out.lt
  have jm := six_max
  refine still_tail 9 (by kernel_rfl) (by kernel_rfl) ?_
  simp only [List.take_succ_cons, List.take_zero, List.drop_succ_cons, List.drop_zero]
  repeat still_step
  refine wpStill_nil ?_
  go_wp2_with fail
  obtain ⟨W3, hW3, Q3, HO3⟩ : ∃ V, (W.setCell ⟨Q, 2, none⟩ (.int .i64 (max s.ring (pRing s.a)))).drew = V ∧ Hid (blk3 V Q 24 (.int .i64 (pSeg s.a)) (.int .i64 (pOff s.a)) (.int .i64 (max s.ring (pRing s.a)))) ∧ Hid (Off (· = Q) W V) := by
    refine ⟨_, rfl, ?_, (off1 _ _ _ _).drew⟩
    have h := Q2.out
    show (W.setCell ⟨Q, 2, none⟩ _).heap[Q]? = _
    unfold blk3 at h
    simp [World.setCell, Array.getElem?_modify, h]
  rw [hW3]
  have HR3 := Lib.hid (HR.out.off HO3.out (fun h => hQR h.symm))
  have B3 := Lib.hid (B2.out.off HO3.out (fun h => hQN h.symm))
  clear hW3 r2 q0 q1 q2 qf hQ jm
  obtain ⟨⟨q0, q1, q2⟩, qf⟩ := blk3.facts (w := W3.drew) Q3.out
  obtain ⟨⟨n0, n1, n2⟩, nf⟩ := blk3.facts (w := W3.drew) B3.out
  have rf : ∀ j, W3.drew.frozen? ⟨R, j, none⟩ = false := fun j => HR3.out.free j
  have hR : R < W3.drew.heap.size := HR3.out.lt
  have r4 : W3.drew.cell? ⟨R, 13, none⟩ = some (.int .i64 s.p3.seg) := HR3.out.cell 13
  have r5 : W3.drew.cell? ⟨R, 14, none⟩ = some (.int .i64 s.p3.off) := HR3.out.cell 14
  have r6 : W3.drew.cell? ⟨R, 15, none⟩ = some (.int .i64 s.p3.ring) := HR3.out.cell 15
  have tf : ∀ j, W3.frozen? ⟨R, j, none⟩ = false := fun j => HR3.out.free j
  have tR : R < W3.heap.size := HR3.out.lt
  have t4 : W3.cell? ⟨R, 13, none⟩ = some (.int .i64 s.p3.seg) := HR3.out.cell 13
  have t5 : W3.cell? ⟨R, 14, none⟩ = some (.int .i64 s.p3.off) := HR3.out.cell 14
  have t6 : W3.cell? ⟨R, 15, none⟩ = some (.int .i64 s.p3.ring) := HR3.out.cell 15
  refine still_tail 8 (by kernel_rfl) (by kernel_rfl) ?_
  simp only [List.take_succ_cons, List.take_zero, List.drop_succ_cons, List.drop_zero]
  repeat still_step
  refine wpStill_nil ?_
  go_wp2_with fail
  go_end0
  refine ⟨rfl, set3w HR3.out 13 (by decide) _ _ _, ?_⟩
  have h1 := (Off.of_below (ex := (· = R)) HB.out).trans2 HO3.out (fun i hi h => by omega)
  exact h1.trans (off3P _ _ _ _ _ _ _ _).drew
end Go.Proofs.Ytiakonmamkfopaa
