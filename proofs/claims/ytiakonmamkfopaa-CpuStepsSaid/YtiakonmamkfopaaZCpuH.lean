/- The processor's run: the instruction is fetched. -/
import Derived.Test.YtiakonmamkfopaaZCpuG
namespace Go.Proofs.Ytiakonmamkfopaa
open Go.RowKit Go.ChangeShapes
set_option linter.unusedVariables false
set_option maxRecDepth 100000
theorem runAt.set {w : World} {R : Nat} {s : St} {stk mv : Value} {told : Bool} {out : Int} (h : runAt w R s stk mv told out) (j : Nat) (v : Value) : (w.setCell ⟨R, j, none⟩ v).heap[R]? = some (.cells ((runC s stk mv told out).setIfInBounds j v) 99 (0, 0)) := by
  simp [World.setCell, Array.getElem?_modify, show w.heap[R]? = _ from h]
theorem runAt.off {w w' : World} {R : Nat} {s : St} {stk mv : Value} {told : Bool} {out : Int} {ex : Nat → Prop} (h : runAt w R s stk mv told out) (ho : Off ex w w') (hn : ¬ ex R) : runAt w' R s stk mv told out := ho.keeps h hn
theorem seg_ws {w : World} {B Y : Nat} {M : List Sg} {k : Int} {g : Sg} (hm : MemOk w B Y M) (hk : seg? M k = some g) : g.ws.length < 1000000 := by
  obtain ⟨K, rfl, hK, _⟩ := seg?_some hk
  exact hm.ws g (List.mem_of_getElem? hK)
theorem blk3.below {w w' : World} {N : Nat} {ty : TypeId} {a0 a1 a2 : Value} (h : blk3 w N ty a0 a1 a2) (hb : Below w.heap.size w w') : blk3 w' N ty a0 a1 a2 := (hb.block N h.lt).trans h
theorem Off.to_below {w w' : World} (h : Off (fun _ => False) w w') : Below w.heap.size w w' := Off.below (Below.refl _ _) h (Nat.le_refl _) (fun _ h => h.elim)
theorem set3 {w1 : World} {N : Nat} {ty : TypeId} {a0 a1 a2 : Value} (h : blk3 w1 N ty a0 a1 a2) (b0 b1 b2 : Value) : blk3 (((w1.setCell ⟨N, 0, none⟩ b0).setCell ⟨N, 1, none⟩ b1).setCell ⟨N, 2, none⟩ b2) N ty b0 b1 b2 := by
  unfold blk3 at h ⊢
  simp [World.setCell, Array.getElem?_modify, h]
theorem off3 {w1 : World} {N : Nat} (b0 b1 b2 : Value) : Off (· = N) w1 (((w1.setCell ⟨N, 0, none⟩ b0).setCell ⟨N, 1, none⟩ b1).setCell ⟨N, 2, none⟩ b2) := by
  refine Off.setCell (ex := (· = N)) (Off.setCell (ex := (· = N)) (Off.setCell (ex := (· = N)) (Off.refl (· = N) w1) ?_ _) ?_ _) ?_ _
  all_goals exact Or.inl rfl
theorem Off.trans2 {ex ex' : Nat → Prop} {a b c : World} (h : Off ex a b) (k : Off ex' b c) (he : ∀ i, i < a.heap.size → ex' i → ex i) : Off ex a c :=
  ⟨k.os.trans h.os, k.tape.trans h.tape, k.output.trans h.output, Nat.le_trans h.size k.size, fun i hi hn => (k.block i (Nat.lt_of_lt_of_le hi h.size) fun hx => hn (he i hi hx)).trans (h.block i hi hn)⟩
theorem off1 (w : World) (N j : Nat) (v : Value) : Off (· = N) w (w.setCell ⟨N, j, none⟩ v) := (Off.refl (· = N) w).setCell (Or.inl rfl) v
theorem i64_up (k : Int) (h0 : 0 ≤ k) (h1 : k < 1000000) : IntKind.i64.wrap (k + 1) = k + 1 := by rw [IntKind.wrap_i64]; omega
set_option maxHeartbeats 2000000 in
theorem c_fetch_none (w : World) (B R Y : Nat) (s : St) (stk : Value) (told : Bool) (out : Int) (M : List Sg) (hr : runAt w R s stk (memV Y) told out) (hm : MemOk w B Y M) (hk : seg? M s.seg = none) :
    Calls Try.prog 42 #[.pointer (some ⟨R, 0, none⟩)] w fun e w' => e = .panicked (flt 35) ∧ Below w.heap.size w w' := by
  go_enter Try.func42, Try.ntmps42
  have hal := below_al0 w (.cells #[.int .i64 0, .int .i64 0, .int .i64 0] 64)
  have hR := hr.lt
  have HR := Lib.hid (hr.below hal)
  have HM := Lib.hid (hm.below hal)
  have B0 := Lib.hid (blk3.new w 64 (.int .i64 0) (.int .i64 0) (.int .i64 0))
  have HK := Lib.hid hk
  have HB := Lib.hid hal
  have r0 : (w.alloc (.cells #[.int .i64 0, .int .i64 0, .int .i64 0] 64)).cell? ⟨R, 0, none⟩ = some (.int .i64 s.seg) := (hr.below hal).cell 0
  clear hr hm hk hal
  go_wp2_with (first | (go_at_call 67; refine (c_segment_none _ B R Y s stk told out M _ HR.out HM.out HK.out).mono ?_; rintro e w1 ⟨rfl, hb⟩))
  exact ⟨rfl, rfl, below2 HB.out hb⟩
set_option maxHeartbeats 2000000 in
theorem c_fetch_exec (w : World) (B R Y : Nat) (s : St) (stk : Value) (told : Bool) (out : Int) (M : List Sg) (hr : runAt w R s stk (memV Y) told out) (hm : MemOk w B Y M) (g : Sg) (hk : seg? M s.seg = some g) (hq : (g.has 4 && mayExec g.r1 g.r2 s.ring) = false) :
    Calls Try.prog 42 #[.pointer (some ⟨R, 0, none⟩)] w fun e w' => e = .panicked (flt 33) ∧ Below w.heap.size w w' := by
  go_enter Try.func42, Try.ntmps42
  have hal := below_al0 w (.cells #[.int .i64 0, .int .i64 0, .int .i64 0] 64)
  have hR := hr.lt
  have HR := Lib.hid (hr.below hal)
  have HM := Lib.hid (hm.below hal)
  have B0 := Lib.hid (blk3.new w 64 (.int .i64 0) (.int .i64 0) (.int .i64 0))
  have HK := Lib.hid hk
  have HB := Lib.hid hal
  have r0 : (w.alloc (.cells #[.int .i64 0, .int .i64 0, .int .i64 0] 64)).cell? ⟨R, 0, none⟩ = some (.int .i64 s.seg) := (hr.below hal).cell 0
  clear hr hm hk hal
  go_wp2_with (first | (go_at_call 67; refine (c_segment_some _ B R Y s stk told out M _ g HR.out HM.out HK.out).mono ?_; rintro e w1 ⟨u', rfl, ho, hb⟩; obtain ⟨ad, cap, hv, had, hda⟩ := row_shape ho; subst hv; have HO := Lib.hid ho; have HR := Lib.hid (HR.out.below hb); have B0 := Lib.hid (B0.out.below hb); have HB := Lib.hid (below2 HB.out hb); clear ho hb; unfold sgV))
  have x0 := blk6.new w1 60 (.slice ad g.ws.length cap) (.int .i64 g.md) (.int .i64 g.r1) (.int .i64 g.r2) (.int .i64 g.r3) (.int .i64 g.g)
  have hb := below_al0 w1 (.cells #[.slice ad g.ws.length cap, .int .i64 g.md, .int .i64 g.r1, .int .i64 g.r2, .int .i64 g.r3, .int .i64 g.g] 60)
  have HR := Lib.hid (HR.out.below hb)
  have B0 := Lib.hid (B0.out.below hb)
  have HB := Lib.hid (below2 HB.out hb)
  have HO := Lib.hid (Off.row (ex := fun _ => False) (.of_below hb) HO.out (fun _ h => h.elim))
  clear r0 hb
  generalize hX : w1.heap.size = X at x0 ⊢
  generalize w1.alloc (.cells #[.slice ad g.ws.length cap, .int .i64 g.md, .int .i64 g.r1, .int .i64 g.r2, .int .i64 g.r3, .int .i64 g.g] 60) = W at x0 HR B0 HB HO ⊢
  have r2 : W.drew.cell? ⟨R, 2, none⟩ = some (.int .i64 s.ring) := HR.out.cell 2
  obtain ⟨⟨q0, q1, q2, q3, q4, q5⟩, _⟩ := blk6.facts (w := W.drew) x0
  have X0 := Lib.hid x0
  clear x0
  refine still_tail 12 (by kernel_rfl) (by kernel_rfl) ?_
  simp only [List.take_succ_cons, List.take_zero, List.drop_succ_cons, List.drop_zero]
  cases hq1 : g.has 4
  · unfold Sg.has at hq1
    clear hq
    repeat still_step
    refine wpStill_nil ?_
    go_wp2_with (first | (go_at_call 59; refine (c_must_no _ _).mono ?_; rintro e w2 ⟨rfl, rfl⟩))
    exact ⟨rfl, rfl, below_drew HB.out⟩
  · rw [hq1, Bool.true_and] at hq
    unfold Sg.has at hq1
    repeat still_step
    refine wpStill_nil ?_
    go_wp2_with (first | (go_at_call 68; refine (c_MayExec _ _ _ _ _ _).mono ?_; rintro e w2 ⟨rfl, hb2⟩; rw [hq]) | (go_at_call 59; refine (c_must_no _ _).mono ?_; rintro e w2 ⟨rfl, rfl⟩))
    exact ⟨rfl, rfl, below2 (below_drew HB.out) hb2⟩
set_option maxHeartbeats 2000000 in
theorem c_fetch_off (w : World) (B R Y : Nat) (s : St) (stk : Value) (told : Bool) (out : Int) (M : List Sg) (hr : runAt w R s stk (memV Y) told out) (hm : MemOk w B Y M) (g : Sg) (hk : seg? M s.seg = some g) (hq0 : g.has 4 = true) (hq : mayExec g.r1 g.r2 s.ring = true) (hi : ¬ (0 ≤ s.off ∧ s.off < g.ws.length)) :
    Calls Try.prog 42 #[.pointer (some ⟨R, 0, none⟩)] w fun e w' => e = .panicked (flt 35) ∧ Below w.heap.size w w' := by
  have hi : decide (0 ≤ s.off ∧ s.off < (g.ws.length : Int)) = false := decide_eq_false hi
  go_enter Try.func42, Try.ntmps42
  have hal := below_al0 w (.cells #[.int .i64 0, .int .i64 0, .int .i64 0] 64)
  have hR := hr.lt
  have HR := Lib.hid (hr.below hal)
  have HM := Lib.hid (hm.below hal)
  have B0 := Lib.hid (blk3.new w 64 (.int .i64 0) (.int .i64 0) (.int .i64 0))
  have HK := Lib.hid hk
  have HB := Lib.hid hal
  have r0 : (w.alloc (.cells #[.int .i64 0, .int .i64 0, .int .i64 0] 64)).cell? ⟨R, 0, none⟩ = some (.int .i64 s.seg) := (hr.below hal).cell 0
  clear hr hm hk hal
  go_wp2_with (first | (go_at_call 67; refine (c_segment_some _ B R Y s stk told out M _ g HR.out HM.out HK.out).mono ?_; rintro e w1 ⟨u', rfl, ho, hb⟩; obtain ⟨ad, cap, hv, had, hda⟩ := row_shape ho; subst hv; have HO := Lib.hid ho; have HR := Lib.hid (HR.out.below hb); have B0 := Lib.hid (B0.out.below hb); have HB := Lib.hid (below2 HB.out hb); clear ho hb; unfold sgV))
  have x0 := blk6.new w1 60 (.slice ad g.ws.length cap) (.int .i64 g.md) (.int .i64 g.r1) (.int .i64 g.r2) (.int .i64 g.r3) (.int .i64 g.g)
  have hb := below_al0 w1 (.cells #[.slice ad g.ws.length cap, .int .i64 g.md, .int .i64 g.r1, .int .i64 g.r2, .int .i64 g.r3, .int .i64 g.g] 60)
  have HR := Lib.hid (HR.out.below hb)
  have B0 := Lib.hid (B0.out.below hb)
  have HB := Lib.hid (below2 HB.out hb)
  have HO := Lib.hid (Off.row (ex := fun _ => False) (.of_below hb) HO.out (fun _ h => h.elim))
  clear r0 hb
  generalize hX : w1.heap.size = X at x0 ⊢
  generalize w1.alloc (.cells #[.slice ad g.ws.length cap, .int .i64 g.md, .int .i64 g.r1, .int .i64 g.r2, .int .i64 g.r3, .int .i64 g.g] 60) = W at x0 HR B0 HB HO ⊢
  have r2 : W.drew.cell? ⟨R, 2, none⟩ = some (.int .i64 s.ring) := HR.out.cell 2
  obtain ⟨⟨q0, q1, q2, q3, q4, q5⟩, _⟩ := blk6.facts (w := W.drew) x0
  have X0 := Lib.hid x0
  clear x0
  refine still_tail 12 (by kernel_rfl) (by kernel_rfl) ?_
  simp only [List.take_succ_cons, List.take_zero, List.drop_succ_cons, List.drop_zero]
  unfold Sg.has at hq0
  repeat still_step
  refine wpStill_nil ?_
  go_wp2_with (first | (go_at_call 68; refine (c_MayExec _ _ _ _ _ _).mono ?_; rintro e w2 ⟨rfl, hb2⟩; rw [hq]) | (go_at_call 59; refine (c_must_ok _ _).mono ?_; rintro e w3 ⟨rfl, rfl⟩))
  have X0 := Lib.hid (blk6.below (w := W.drew) X0.out hb2)
  have HR := Lib.hid (runAt.below (w := W.drew) HR.out hb2)
  have B0 := Lib.hid (blk3.below (w := W.drew) B0.out hb2)
  have HB := Lib.hid (below2 (below_drew HB.out) hb2)
  have HO := Lib.hid (Off.row (ex := fun _ => False) ((Off.refl _ _).drew.trans (.of_below hb2)) HO.out (fun _ h => h.elim))
  clear hb2 r2 q0 q1 q2 q3 q4 q5 hq hq0
  have r1 : w3.drew.cell? ⟨R, 1, none⟩ = some (.int .i64 s.off) := HR.out.cell 1
  obtain ⟨⟨q0, q1, q2, q3, q4, q5⟩, _⟩ := blk6.facts (w := w3.drew) X0.out
  refine still_tail 6 (by kernel_rfl) (by kernel_rfl) ?_
  simp only [List.take_succ_cons, List.take_zero, List.drop_succ_cons, List.drop_zero]
  repeat still_step
  refine wpStill_nil ?_
  go_wp2_with (first | (go_at_call 69; refine (c_in _ _ _ _ _ _ _ _ _ _).mono ?_; rintro e w4 ⟨rfl, hb4⟩; rw [hi]) | (go_at_call 59; refine (c_must_no _ _).mono ?_; rintro e w5 ⟨rfl, rfl⟩))
  exact ⟨rfl, rfl, below2 (below_drew HB.out) hb4⟩
set_option maxHeartbeats 2000000 in
theorem c_fetch_op (w : World) (B R Y : Nat) (s : St) (stk : Value) (told : Bool) (out : Int) (M : List Sg) (hr : runAt w R s stk (memV Y) told out) (hm : MemOk w B Y M) (g : Sg) (hk : seg? M s.seg = some g) (hq0 : g.has 4 = true) (hq : mayExec g.r1 g.r2 s.ring = true) (K : Nat) (x : Int) (hKs : s.off = K) (hx : g.ws[K]? = some x) (hd : decE x ≠ 0) :
    Calls Try.prog 42 #[.pointer (some ⟨R, 0, none⟩)] w fun e w' => e = .panicked (flt 36) ∧ Below w.heap.size w w' := by
  have hlen : 0 < g.ws.length := by have := (List.getElem?_eq_some_iff.1 hx).1; omega
  have hKl : K < g.ws.length := (List.getElem?_eq_some_iff.1 hx).1
  have hw := seg_ws hm hk
  have hi : decide (0 ≤ s.off ∧ s.off < (g.ws.length : Int)) = true := decide_eq_true (by omega)
  have HX := Lib.hid hx
  have hKO := Lib.hid hKs
  clear hx hKs
  have hd2 : (decE x == 0) = false := by simpa using hd
  have HD := Lib.hid hd
  clear hd
  go_enter Try.func42, Try.ntmps42
  have hal := below_al0 w (.cells #[.int .i64 0, .int .i64 0, .int .i64 0] 64)
  have hR := hr.lt
  have HR := Lib.hid (hr.below hal)
  have HM := Lib.hid (hm.below hal)
  have B0 := Lib.hid (blk3.new w 64 (.int .i64 0) (.int .i64 0) (.int .i64 0))
  have HK := Lib.hid hk
  have HB := Lib.hid hal
  have r0 : (w.alloc (.cells #[.int .i64 0, .int .i64 0, .int .i64 0] 64)).cell? ⟨R, 0, none⟩ = some (.int .i64 s.seg) := (hr.below hal).cell 0
  clear hr hm hk hal
  go_wp2_with (first | (go_at_call 67; refine (c_segment_some _ B R Y s stk told out M _ g HR.out HM.out HK.out).mono ?_; rintro e w1 ⟨u', rfl, ho, hb⟩; obtain ⟨gu, cap, hv⟩ := row_some ho hlen; subst hv; have HO := Lib.hid ho; have HR := Lib.hid (HR.out.below hb); have B0 := Lib.hid (B0.out.below hb); have HB := Lib.hid (below2 HB.out hb); clear ho hb; unfold sgV))
  have x0 := blk6.new w1 60 (.slice (some ⟨gu, 0, none⟩) g.ws.length cap) (.int .i64 g.md) (.int .i64 g.r1) (.int .i64 g.r2) (.int .i64 g.r3) (.int .i64 g.g)
  have hb := below_al0 w1 (.cells #[.slice (some ⟨gu, 0, none⟩) g.ws.length cap, .int .i64 g.md, .int .i64 g.r1, .int .i64 g.r2, .int .i64 g.r3, .int .i64 g.g] 60)
  have HR := Lib.hid (HR.out.below hb)
  have B0 := Lib.hid (B0.out.below hb)
  have HB := Lib.hid (below2 HB.out hb)
  have HO := Lib.hid (Off.row (ex := fun _ => False) (.of_below hb) HO.out (fun _ h => h.elim))
  clear r0 hb
  generalize hX : w1.heap.size = X at x0 ⊢
  generalize w1.alloc (.cells #[.slice (some ⟨gu, 0, none⟩) g.ws.length cap, .int .i64 g.md, .int .i64 g.r1, .int .i64 g.r2, .int .i64 g.r3, .int .i64 g.g] 60) = W at x0 HR B0 HB HO ⊢
  have r2 : W.drew.cell? ⟨R, 2, none⟩ = some (.int .i64 s.ring) := HR.out.cell 2
  obtain ⟨⟨q0, q1, q2, q3, q4, q5⟩, _⟩ := blk6.facts (w := W.drew) x0
  have X0 := Lib.hid x0
  clear x0
  refine still_tail 12 (by kernel_rfl) (by kernel_rfl) ?_
  simp only [List.take_succ_cons, List.take_zero, List.drop_succ_cons, List.drop_zero]
  unfold Sg.has at hq0
  repeat still_step
  refine wpStill_nil ?_
  go_wp2_with (first | (go_at_call 68; refine (c_MayExec _ _ _ _ _ _).mono ?_; rintro e w2 ⟨rfl, hb2⟩; rw [hq]) | (go_at_call 59; refine (c_must_ok _ _).mono ?_; rintro e w3 ⟨rfl, rfl⟩))
  have X0 := Lib.hid (blk6.below (w := W.drew) X0.out hb2)
  have HR := Lib.hid (runAt.below (w := W.drew) HR.out hb2)
  have B0 := Lib.hid (blk3.below (w := W.drew) B0.out hb2)
  have HB := Lib.hid (below2 (below_drew HB.out) hb2)
  have HO := Lib.hid (Off.row (ex := fun _ => False) ((Off.refl _ _).drew.trans (.of_below hb2)) HO.out (fun _ h => h.elim))
  clear hb2 r2 q0 q1 q2 q3 q4 q5 hq hq0
  have r1 : w3.drew.cell? ⟨R, 1, none⟩ = some (.int .i64 s.off) := HR.out.cell 1
  obtain ⟨⟨q0, q1, q2, q3, q4, q5⟩, _⟩ := blk6.facts (w := w3.drew) X0.out
  refine still_tail 6 (by kernel_rfl) (by kernel_rfl) ?_
  simp only [List.take_succ_cons, List.take_zero, List.drop_succ_cons, List.drop_zero]
  repeat still_step
  refine wpStill_nil ?_
  go_wp2_with (first | (go_at_call 69; refine (c_in _ _ _ _ _ _ _ _ _ _).mono ?_; rintro e w4 ⟨rfl, hb4⟩; rw [hi]) | (go_at_call 59; refine (c_must_ok _ _).mono ?_; rintro e w5 ⟨rfl, rfl⟩))
  have X0 := Lib.hid (blk6.below (w := w3.drew) X0.out hb4)
  have HR := Lib.hid (runAt.below (w := w3.drew) HR.out hb4)
  have B0 := Lib.hid (blk3.below (w := w3.drew) B0.out hb4)
  have HB := Lib.hid (below2 (below_drew HB.out) hb4)
  have ho := Off.row (ex := fun _ => False) ((Off.refl _ _).drew.trans (.of_below hb4)) HO.out (fun _ h => h.elim)
  obtain ⟨_, hcell⟩ := row_cell ho K (x := .int .i64 x) (by rw [List.getElem?_map, HX.out]; rfl)
  clear hb4 r1 q0 q1 q2 q3 q4 q5 hi HO ho
  have hKs := hKO.out
  have k0 : ∀ w', Off (fun _ => False) w5 w' → w'.cell? ⟨X, 0, none⟩ = some (.slice (some ⟨gu, 0, none⟩) g.ws.length cap) := fun w' h => (X0.out.off h id).facts.1.1
  have k1 : ∀ w', Off (fun _ => False) w5 w' → w'.cell? ⟨R, 1, none⟩ = some (.int .i64 K) := fun w' h => (show runAt w' R s stk (memV Y) told out from HR.out.off h id).cell 1 |>.trans (by rw [← hKs]; rfl)
  have k2 : ∀ w', Off (fun _ => False) w5 w' → w'.cell? ⟨gu, K, none⟩ = some (.int .i64 x) := fun w' h => off_cell h hcell id
  clear hcell hKs
  go_region_held3 (fun w' => Off (fun _ => False) w5 w')
    ((repeat (with_reducible first | exact HO.out | refine Off.setCell ?_ (Or.inr (by simp)) _ | refine Off.alloc ?_ _ | refine Off.drew ?_ | exact Off.refl _ _)))
    ((first
      | (go_at_call 70; refine (c_Decode _ (w5.alloc (.cells #[.int .i64 0, .int .i64 0, .int .i64 0] 64)).drew).mono ?_; rintro e w6 ⟨rfl, hb6⟩; have HO : Hid (Off (fun _ => False) w5 w6) := (((Off.refl _ w5).alloc _).drew).trans (.of_below hb6); have N6 := Lib.hid (blk3.below (w := (w5.alloc (.cells #[.int .i64 0, .int .i64 0, .int .i64 0] 64)).drew) (blk3.new w5 64 (.int .i64 0) (.int .i64 0) (.int .i64 0)) hb6); have hb6 := Lib.hid (below2 (below_drew (below_al0 w5 _)) hb6); obtain ⟨⟨n0, n1, n2⟩, nf⟩ := N6.out.facts; have hN := N6.out.lt; rw [if_neg HD.out])
      | (go_at_call 70; refine (c_Decode _ w5.drew).mono ?_; rintro e w6 ⟨rfl, hb6⟩; have HO : Hid (Off (fun _ => False) w5 w6) := (Off.refl _ w5).drew.trans (.of_below hb6); have hb6 : Hid (Below w5.heap.size w5 w6) := below2 (below_drew (Below.refl _ _)) hb6; rw [if_neg HD.out])))
  all_goals
    go_wp2_with (first | (go_at_call 59; refine (c_must_no _ _).mono ?_; rintro e w9 ⟨rfl, rfl⟩))
    exact ⟨rfl, rfl, below2 HB.out (Off.to_below (by assumption))⟩
set_option maxHeartbeats 2000000 in
theorem c_fetch_ok (w : World) (B R Y : Nat) (s : St) (stk : Value) (told : Bool) (out : Int) (M : List Sg) (hr : runAt w R s stk (memV Y) told out) (hm : MemOk w B Y M) (g : Sg) (hk : seg? M s.seg = some g) (hq0 : g.has 4 = true) (hq : mayExec g.r1 g.r2 s.ring = true) (K : Nat) (x : Int) (hKs : s.off = K) (hx : g.ws[K]? = some x) (hd : decE x = 0) :
    Calls Try.prog 42 #[.pointer (some ⟨R, 0, none⟩)] w fun e w' => e = .returned (.agg #[.int .i64 (dOp x), .int .i64 (dP x), .int .i64 (dN x)]) ∧ runAt w' R { s with off := s.off + 1 } stk (memV Y) told out ∧ Off (· = R) w w' := by
  have hlen : 0 < g.ws.length := by have := (List.getElem?_eq_some_iff.1 hx).1; omega
  have hKl : K < g.ws.length := (List.getElem?_eq_some_iff.1 hx).1
  have hw := seg_ws hm hk
  have hi : decide (0 ≤ s.off ∧ s.off < (g.ws.length : Int)) = true := decide_eq_true (by omega)
  have HX := Lib.hid hx
  have hKO := Lib.hid hKs
  clear hx hKs
  have HD := Lib.hid hd
  clear hd
  have hup := i64_up K (by omega) (by omega)
  go_enter Try.func42, Try.ntmps42
  have hal := below_al0 w (.cells #[.int .i64 0, .int .i64 0, .int .i64 0] 64)
  have hR := hr.lt
  have HR := Lib.hid (hr.below hal)
  have HM := Lib.hid (hm.below hal)
  have B0 := Lib.hid (blk3.new w 64 (.int .i64 0) (.int .i64 0) (.int .i64 0))
  have HK := Lib.hid hk
  have HB := Lib.hid hal
  have r0 : (w.alloc (.cells #[.int .i64 0, .int .i64 0, .int .i64 0] 64)).cell? ⟨R, 0, none⟩ = some (.int .i64 s.seg) := (hr.below hal).cell 0
  clear hr hm hk hal
  go_wp2_with (first | (go_at_call 67; refine (c_segment_some _ B R Y s stk told out M _ g HR.out HM.out HK.out).mono ?_; rintro e w1 ⟨u', rfl, ho, hb⟩; obtain ⟨gu, cap, hv⟩ := row_some ho hlen; subst hv; have HO := Lib.hid ho; have HR := Lib.hid (HR.out.below hb); have B0 := Lib.hid (B0.out.below hb); have HB := Lib.hid (below2 HB.out hb); clear ho hb; unfold sgV))
  have x0 := blk6.new w1 60 (.slice (some ⟨gu, 0, none⟩) g.ws.length cap) (.int .i64 g.md) (.int .i64 g.r1) (.int .i64 g.r2) (.int .i64 g.r3) (.int .i64 g.g)
  have hb := below_al0 w1 (.cells #[.slice (some ⟨gu, 0, none⟩) g.ws.length cap, .int .i64 g.md, .int .i64 g.r1, .int .i64 g.r2, .int .i64 g.r3, .int .i64 g.g] 60)
  have HR := Lib.hid (HR.out.below hb)
  have B0 := Lib.hid (B0.out.below hb)
  have HB := Lib.hid (below2 HB.out hb)
  have HO := Lib.hid (Off.row (ex := fun _ => False) (.of_below hb) HO.out (fun _ h => h.elim))
  clear r0 hb
  generalize hX : w1.heap.size = X at x0 ⊢
  generalize w1.alloc (.cells #[.slice (some ⟨gu, 0, none⟩) g.ws.length cap, .int .i64 g.md, .int .i64 g.r1, .int .i64 g.r2, .int .i64 g.r3, .int .i64 g.g] 60) = W at x0 HR B0 HB HO ⊢
  have r2 : W.drew.cell? ⟨R, 2, none⟩ = some (.int .i64 s.ring) := HR.out.cell 2
  obtain ⟨⟨q0, q1, q2, q3, q4, q5⟩, _⟩ := blk6.facts (w := W.drew) x0
  have X0 := Lib.hid x0
  clear x0
  refine still_tail 12 (by kernel_rfl) (by kernel_rfl) ?_
  simp only [List.take_succ_cons, List.take_zero, List.drop_succ_cons, List.drop_zero]
  unfold Sg.has at hq0
  repeat still_step
  refine wpStill_nil ?_
  go_wp2_with (first | (go_at_call 68; refine (c_MayExec _ _ _ _ _ _).mono ?_; rintro e w2 ⟨rfl, hb2⟩; rw [hq]) | (go_at_call 59; refine (c_must_ok _ _).mono ?_; rintro e w3 ⟨rfl, rfl⟩))
  have X0 := Lib.hid (blk6.below (w := W.drew) X0.out hb2)
  have HR := Lib.hid (runAt.below (w := W.drew) HR.out hb2)
  have B0 := Lib.hid (blk3.below (w := W.drew) B0.out hb2)
  have HB := Lib.hid (below2 (below_drew HB.out) hb2)
  have HO := Lib.hid (Off.row (ex := fun _ => False) ((Off.refl _ _).drew.trans (.of_below hb2)) HO.out (fun _ h => h.elim))
  clear hb2 r2 q0 q1 q2 q3 q4 q5 hq hq0
  have r1 : w3.drew.cell? ⟨R, 1, none⟩ = some (.int .i64 s.off) := HR.out.cell 1
  obtain ⟨⟨q0, q1, q2, q3, q4, q5⟩, _⟩ := blk6.facts (w := w3.drew) X0.out
  refine still_tail 6 (by kernel_rfl) (by kernel_rfl) ?_
  simp only [List.take_succ_cons, List.take_zero, List.drop_succ_cons, List.drop_zero]
  repeat still_step
  refine wpStill_nil ?_
  go_wp2_with (first | (go_at_call 69; refine (c_in _ _ _ _ _ _ _ _ _ _).mono ?_; rintro e w4 ⟨rfl, hb4⟩; rw [hi]) | (go_at_call 59; refine (c_must_ok _ _).mono ?_; rintro e w5 ⟨rfl, rfl⟩))
  have X0 := Lib.hid (blk6.below (w := w3.drew) X0.out hb4)
  have HR := Lib.hid (runAt.below (w := w3.drew) HR.out hb4)
  have B0 := Lib.hid (blk3.below (w := w3.drew) B0.out hb4)
  have HB := Lib.hid (below2 (below_drew HB.out) hb4)
  have ho := Off.row (ex := fun _ => False) ((Off.refl _ _).drew.trans (.of_below hb4)) HO.out (fun _ h => h.elim)
  obtain ⟨_, hcell⟩ := row_cell ho K (x := .int .i64 x) (by rw [List.getElem?_map, HX.out]; rfl)
  clear hb4 r1 q0 q1 q2 q3 q4 q5 hi HO ho
  have hKs := hKO.out
  have k0 : ∀ w', Off (fun _ => False) w5 w' → w'.cell? ⟨X, 0, none⟩ = some (.slice (some ⟨gu, 0, none⟩) g.ws.length cap) := fun w' h => (X0.out.off h id).facts.1.1
  have k1 : ∀ w', Off (fun _ => False) w5 w' → w'.cell? ⟨R, 1, none⟩ = some (.int .i64 K) := fun w' h => (show runAt w' R s stk (memV Y) told out from HR.out.off h id).cell 1 |>.trans (by rw [← hKs]; rfl)
  have k2 : ∀ w', Off (fun _ => False) w5 w' → w'.cell? ⟨gu, K, none⟩ = some (.int .i64 x) := fun w' h => off_cell h hcell id
  clear hcell hKs
  go_region_held3 (fun w' => Off (fun _ => False) w5 w')
    ((repeat (with_reducible first | exact HO.out | refine Off.setCell ?_ (Or.inr (by simp)) _ | refine Off.alloc ?_ _ | refine Off.drew ?_ | exact Off.refl _ _)))
    ((first
      | (go_at_call 70; refine (c_Decode _ (w5.alloc (.cells #[.int .i64 0, .int .i64 0, .int .i64 0] 64)).drew).mono ?_; rintro e w6 ⟨rfl, hb6⟩; have HO : Hid (Off (fun _ => False) w5 w6) := (((Off.refl _ w5).alloc _).drew).trans (.of_below hb6); have N6 := Lib.hid (blk3.below (w := (w5.alloc (.cells #[.int .i64 0, .int .i64 0, .int .i64 0] 64)).drew) (blk3.new w5 64 (.int .i64 0) (.int .i64 0) (.int .i64 0)) hb6); have hb6 := Lib.hid (below2 (below_drew (below_al0 w5 _)) hb6); obtain ⟨⟨n0, n1, n2⟩, nf⟩ := N6.out.facts; have hN := N6.out.lt; rw [if_pos HD.out, HD.out])
      | (go_at_call 70; refine (c_Decode _ w5.drew).mono ?_; rintro e w6 ⟨rfl, hb6⟩; have HO : Hid (Off (fun _ => False) w5 w6) := (Off.refl _ w5).drew.trans (.of_below hb6); have hb6 : Hid (Below w5.heap.size w5 w6) := below2 (below_drew (Below.refl _ _)) hb6; rw [if_pos HD.out, HD.out])))
  · have hf6 := blk3.new w6 64 (.int .i64 (dOp x)) (.int .i64 (dP x)) (.int .i64 (dN x))
    have hO6 : Off (fun _ => False) w5 (w6.alloc (.cells #[.int .i64 (dOp x), .int .i64 (dP x), .int .i64 (dN x)] 64)) := by assumption
    clear HO k0 k1 k2
    generalize w6.alloc (.cells #[.int .i64 (dOp x), .int .i64 (dP x), .int .i64 (dN x)] 64) = W6 at hf6 hO6 ⊢
    generalize w6.heap.size = F at hf6 ⊢
    have hr6 := HR.out.off hO6 id
    have b06 := B0.out.off hO6 id
    have hB6 := below2 HB.out hO6.to_below
    have j1 : W6.cell? ⟨R, 1, none⟩ = some (.int .i64 K) := (hr6.cell 1).trans (by rw [← hKO.out]; rfl)
    have jf := hr6.free
    obtain ⟨⟨f0, f1, f2⟩, _⟩ := hf6.facts
    have HF6 := Lib.hid hf6
    have hR6 := hr6.lt
    have HR6 := Lib.hid hr6
    have HB6 := Lib.hid hB6
    have B6 := Lib.hid b06
    have hNR : R ≠ w.heap.size := by omega
    have hFR : F ≠ R := fun h => by
      have h1 := show W6.heap[R]? = _ from hr6
      rw [← h, show W6.heap[F]? = _ from hf6] at h1
      simp [runC] at h1
    obtain ⟨⟨g0, g1, g2⟩, gf⟩ := b06.facts
    clear hr6 hB6 hO6 hf6 b06
    go_wp2_with (first | (go_at_call 59; refine (c_must_ok _ _).mono ?_; rintro e w9 ⟨rfl, rfl⟩))
    have hrs : runAt (w9.setCell ⟨R, 1, none⟩ (.int .i64 (K + 1))) R { s with off := s.off + 1 } stk (memV Y) told out := by
      have h := HR6.out.set 1 (.int .i64 ((K : Int) + 1))
      rw [← hKO.out] at h ⊢
      exact h
    have o1 : Off (· = R) w9 (w9.setCell ⟨R, 1, none⟩ (.int .i64 (K + 1))) := off1 _ _ _ _
    have b1 := B6.out.off o1 (fun h => hNR h.symm)
    have b2 := set3 b1 (.int .i64 (dOp x)) (.int .i64 (dP x)) (.int .i64 (dN x))
    have o2 := off3 (w1 := w9.setCell ⟨R, 1, none⟩ (.int .i64 (K + 1))) (N := w.heap.size) (.int .i64 (dOp x)) (.int .i64 (dP x)) (.int .i64 (dN x))
    have hrs := hrs.off o2 hNR
    have o3 := Off.trans2 (Off.trans2 (Off.of_below (ex := (· = R)) HB6.out) o1 (fun _ _ h => h)) o2 (fun _ h1 h2 => by omega)
    clear o1 o2 b1 f0 f1 f2 g0 g1 g2 gf jf j1 B6 HR6 HF6
    generalize ((((w9.setCell ⟨R, 1, none⟩ (.int .i64 (K + 1))).setCell ⟨w.heap.size, 0, none⟩ (.int .i64 (dOp x))).setCell ⟨w.heap.size, 1, none⟩ (.int .i64 (dP x))).setCell ⟨w.heap.size, 2, none⟩ (.int .i64 (dN x))) = W7 at hrs o3 b2 ⊢
    obtain ⟨⟨g0, g1, g2⟩, _⟩ := b2.facts
    exact bodyPost_ret (v := .agg #[.int .i64 (dOp x), .int .i64 (dP x), .int .i64 (dN x)]) (by simp [results, Try.results42, go_sem, g0, g1, g2]) rfl ⟨rfl, hrs, o3⟩
  · have hf6 := set3 N6.out (.int .i64 (dOp x)) (.int .i64 (dP x)) (.int .i64 (dN x))
    have hO6 : Off (fun _ => False) w5 (((w6.setCell ⟨w5.heap.size, 0, none⟩ (.int .i64 (dOp x))).setCell ⟨w5.heap.size, 1, none⟩ (.int .i64 (dP x))).setCell ⟨w5.heap.size, 2, none⟩ (.int .i64 (dN x))) := by assumption
    clear HO n0 n1 n2 nf N6 k0 k1 k2 hN
    generalize (((w6.setCell ⟨w5.heap.size, 0, none⟩ (.int .i64 (dOp x))).setCell ⟨w5.heap.size, 1, none⟩ (.int .i64 (dP x))).setCell ⟨w5.heap.size, 2, none⟩ (.int .i64 (dN x))) = W6 at hf6 hO6 ⊢
    generalize w5.heap.size = F at hf6 ⊢
    have hr6 := HR.out.off hO6 id
    have b06 := B0.out.off hO6 id
    have hB6 := below2 HB.out hO6.to_below
    have j1 : W6.cell? ⟨R, 1, none⟩ = some (.int .i64 K) := (hr6.cell 1).trans (by rw [← hKO.out]; rfl)
    have jf := hr6.free
    obtain ⟨⟨f0, f1, f2⟩, _⟩ := hf6.facts
    have HF6 := Lib.hid hf6
    have hR6 := hr6.lt
    have HR6 := Lib.hid hr6
    have HB6 := Lib.hid hB6
    have B6 := Lib.hid b06
    have hNR : R ≠ w.heap.size := by omega
    have hFR : F ≠ R := fun h => by
      have h1 := show W6.heap[R]? = _ from hr6
      rw [← h, show W6.heap[F]? = _ from hf6] at h1
      simp [runC] at h1
    obtain ⟨⟨g0, g1, g2⟩, gf⟩ := b06.facts
    clear hr6 hB6 hO6 hf6 b06
    go_wp2_with (first | (go_at_call 59; refine (c_must_ok _ _).mono ?_; rintro e w9 ⟨rfl, rfl⟩))
    have hrs : runAt (w9.setCell ⟨R, 1, none⟩ (.int .i64 (K + 1))) R { s with off := s.off + 1 } stk (memV Y) told out := by
      have h := HR6.out.set 1 (.int .i64 ((K : Int) + 1))
      rw [← hKO.out] at h ⊢
      exact h
    have o1 : Off (· = R) w9 (w9.setCell ⟨R, 1, none⟩ (.int .i64 (K + 1))) := off1 _ _ _ _
    have b1 := B6.out.off o1 (fun h => hNR h.symm)
    have b2 := set3 b1 (.int .i64 (dOp x)) (.int .i64 (dP x)) (.int .i64 (dN x))
    have o2 := off3 (w1 := w9.setCell ⟨R, 1, none⟩ (.int .i64 (K + 1))) (N := w.heap.size) (.int .i64 (dOp x)) (.int .i64 (dP x)) (.int .i64 (dN x))
    have hrs := hrs.off o2 hNR
    have o3 := Off.trans2 (Off.trans2 (Off.of_below (ex := (· = R)) HB6.out) o1 (fun _ _ h => h)) o2 (fun _ h1 h2 => by omega)
    clear o1 o2 b1 f0 f1 f2 g0 g1 g2 gf jf j1 B6 HR6 HF6
    generalize ((((w9.setCell ⟨R, 1, none⟩ (.int .i64 (K + 1))).setCell ⟨w.heap.size, 0, none⟩ (.int .i64 (dOp x))).setCell ⟨w.heap.size, 1, none⟩ (.int .i64 (dP x))).setCell ⟨w.heap.size, 2, none⟩ (.int .i64 (dN x))) = W7 at hrs o3 b2 ⊢
    obtain ⟨⟨g0, g1, g2⟩, _⟩ := b2.facts
    exact bodyPost_ret (v := .agg #[.int .i64 (dOp x), .int .i64 (dP x), .int .i64 (dN x)]) (by simp [results, Try.results42, go_sem, g0, g1, g2]) rfl ⟨rfl, hrs, o3⟩
end Go.Proofs.Ytiakonmamkfopaa
