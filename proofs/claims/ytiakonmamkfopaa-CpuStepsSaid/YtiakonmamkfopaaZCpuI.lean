/- The processor's run: pointers are raised, calls and returns. -/
import Derived.Test.YtiakonmamkfopaaZCpuH
import Derived.LoopN
namespace Go.Proofs.Ytiakonmamkfopaa
open Go.RowKit Go.ChangeShapes
set_option linter.unusedVariables false
set_option maxRecDepth 100000
def Pt.raise (p : Pt) (b : Int) : Pt := { p with ring := max b p.ring }
def St.raise (s : St) (b : Int) : St := { s with p0 := s.p0.raise b, p1 := s.p1.raise b, p2 := s.p2.raise b, p3 := s.p3.raise b }
set_option maxHeartbeats 1000000 in
theorem c_raise (w : World) (R : Nat) (s : St) (stk mv : Value) (told : Bool) (out b : Int) (hr : runAt w R s stk mv told out) :
    Calls Try.prog 86 #[.pointer (some ⟨R, 0, none⟩), .int .i64 b] w fun e w' => e = .returned (.tuple #[]) ∧ runAt w' R (s.raise b) stk mv told out ∧ Off (· = R) w w' := by
  have HR := Lib.hid hr
  have hR := hr.lt
  have HO := Lib.hid (Off.refl (· = R) w)
  clear hr
  go_enter Try.func86, Try.ntmps86
  go_wp2
  refine wp_loop_rounds 5 ?_
  rw [rounds_succ]
  go_wp2
  have r : w.drew.cell? ⟨R, 6, none⟩ = some (.int .i64 s.p0.ring) := HR.out.cell 6
  have rf : ∀ j, w.drew.frozen? ⟨R, j, none⟩ = false := fun j => HR.out.free j
  have hR : R < w.drew.heap.size := HR.out.lt
  have jm := six_max
  refine still_tail 17 (by kernel_rfl) (by kernel_rfl) ?_
  simp only [List.take_succ_cons, List.take_zero, List.drop_succ_cons, List.drop_zero]
  repeat still_step
  refine wpStill_nil ?_
  go_wp2
  obtain ⟨W1, hW, HR, HO⟩ : ∃ W, (w.setCell ⟨R, 6, none⟩ (.int .i64 (max b s.p0.ring))).drew = W ∧ Hid (runAt W R { s with p0 := s.p0.raise b } stk mv told out) ∧ Hid (Off (· = R) w W) :=
    ⟨_, rfl, runAt.set HR.out 6 _, (HO.out.trans (off1 _ _ _ _)).drew⟩
  rw [hW]
  clear hW r rf jm
  rw [rounds_succ]
  go_wp2
  have r : W1.drew.cell? ⟨R, 9, none⟩ = some (.int .i64 s.p1.ring) := HR.out.cell 9
  have rf : ∀ j, W1.drew.frozen? ⟨R, j, none⟩ = false := fun j => HR.out.free j
  have hR : R < W1.drew.heap.size := HR.out.lt
  have jm := six_max
  refine still_tail 17 (by kernel_rfl) (by kernel_rfl) ?_
  simp only [List.take_succ_cons, List.take_zero, List.drop_succ_cons, List.drop_zero]
  repeat still_step
  refine wpStill_nil ?_
  go_wp2
  obtain ⟨W2, hW, HR, HO⟩ : ∃ W, (W1.setCell ⟨R, 9, none⟩ (.int .i64 (max b s.p1.ring))).drew = W ∧ Hid (runAt W R { s with p0 := s.p0.raise b, p1 := s.p1.raise b } stk mv told out) ∧ Hid (Off (· = R) w W) :=
    ⟨_, rfl, runAt.set HR.out 9 _, (HO.out.trans (off1 _ _ _ _)).drew⟩
  rw [hW]
  clear hW r rf jm
  rw [rounds_succ]
  go_wp2
  have r : W2.drew.cell? ⟨R, 12, none⟩ = some (.int .i64 s.p2.ring) := HR.out.cell 12
  have rf : ∀ j, W2.drew.frozen? ⟨R, j, none⟩ = false := fun j => HR.out.free j
  have hR : R < W2.drew.heap.size := HR.out.lt
  have jm := six_max
  refine still_tail 17 (by kernel_rfl) (by kernel_rfl) ?_
  simp only [List.take_succ_cons, List.take_zero, List.drop_succ_cons, List.drop_zero]
  repeat still_step
  refine wpStill_nil ?_
  go_wp2
  obtain ⟨W3, hW, HR, HO⟩ : ∃ W, (W2.setCell ⟨R, 12, none⟩ (.int .i64 (max b s.p2.ring))).drew = W ∧ Hid (runAt W R { s with p0 := s.p0.raise b, p1 := s.p1.raise b, p2 := s.p2.raise b } stk mv told out) ∧ Hid (Off (· = R) w W) :=
    ⟨_, rfl, runAt.set HR.out 12 _, (HO.out.trans (off1 _ _ _ _)).drew⟩
  rw [hW]
  clear hW r rf jm
  rw [rounds_succ]
  go_wp2
  have r : W3.drew.cell? ⟨R, 15, none⟩ = some (.int .i64 s.p3.ring) := HR.out.cell 15
  have rf : ∀ j, W3.drew.frozen? ⟨R, j, none⟩ = false := fun j => HR.out.free j
  have hR : R < W3.drew.heap.size := HR.out.lt
  have jm := six_max
  refine still_tail 17 (by kernel_rfl) (by kernel_rfl) ?_
  simp only [List.take_succ_cons, List.take_zero, List.drop_succ_cons, List.drop_zero]
  repeat still_step
  refine wpStill_nil ?_
  go_wp2
  obtain ⟨W4, hW, HR, HO⟩ : ∃ W, (W3.setCell ⟨R, 15, none⟩ (.int .i64 (max b s.p3.ring))).drew = W ∧ Hid (runAt W R { s with p0 := s.p0.raise b, p1 := s.p1.raise b, p2 := s.p2.raise b, p3 := s.p3.raise b } stk mv told out) ∧ Hid (Off (· = R) w W) :=
    ⟨_, rfl, runAt.set HR.out 15 _, (HO.out.trans (off1 _ _ _ _)).drew⟩
  rw [hW]
  clear hW r rf jm
  rw [rounds_succ]
  go_wp2
  go_end0
  exact ⟨rfl, HR.out, HO.out⟩
-- RET
/-- a caller -/
structure Fr where
  seg : Int
  off : Int
  ring : Int
def frC : List Fr → List Value
  | [] => []
  | f :: l => .int .i64 f.seg :: .int .i64 f.off :: .int .i64 f.ring :: frC l
theorem frC_length : ∀ l : List Fr, (frC l).length = l.length * 3
  | [] => rfl
  | f :: l => by simp only [frC, List.length_cons, frC_length l]; omega
theorem frC_append : ∀ l m : List Fr, frC (l ++ m) = frC l ++ frC m
  | [], m => rfl
  | f :: l, m => by simp only [List.cons_append, frC, frC_append l m]
/-- a slice of callers -/
def stkAt (w : World) (v : Value) (l : List Fr) : Prop := w.ownsRow 0 79 3 v l.length (frC l)
theorem stkAt.off {w w' : World} {ex : Nat → Prop} {v : Value} {l : List Fr} (h : stkAt w v l) (ho : Off ex w w') (hn : ∀ k, ex k → ∀ cs, w.heap[k]? ≠ some (.cells cs 79 (0, 0))) : stkAt w' v l := Off.row ho h hn
theorem run_frame {w : World} {R : Nat} {s : St} {stk mv : Value} {told : Bool} {out : Int} (h : runAt w R s stk mv told out) : ∀ k, k = R → ∀ cs, w.heap[k]? ≠ some (.cells cs 79 (0, 0)) := by
  rintro k rfl cs h1
  have h2 := (show w.heap[k]? = _ from h).symm.trans h1
  simp at h2
theorem row_short {w : World} {B : Nat} {e : TypeId} {size n m g cap : Nat} {xs : List Value} (h : w.ownsRow B e size (.slice (some ⟨g, 0, none⟩) n cap) n xs) (hm : m ≤ n) : w.ownsRow B e size (.slice (some ⟨g, 0, none⟩) m cap) m (xs.take (m * size)) := by
  have hk : m * size ≤ n * size := Nat.mul_le_mul_right _ hm
  refine ⟨by rw [List.length_take, h.1]; omega, ?_⟩
  rcases h.2 with ⟨hv, _⟩ | ⟨g', cap', cur, hv, hb, hg, hn, hc, hs, hx⟩
  · cases hv
  · cases hv
    exact .inr ⟨g, cap, cur, rfl, hb, hg, by omega, hc, hs, by rw [← hx, List.take_take]; congr 1; omega⟩
theorem row_cap {w : World} {B : Nat} {e : TypeId} {size n g cap : Nat} {xs : List Value} (h : w.ownsRow B e size (.slice (some ⟨g, 0, none⟩) n cap) n xs) : n ≤ cap := by
  rcases h.2 with ⟨hv, _⟩ | ⟨g', cap', cur, hv, hb, hg, hn, hc, hs, hx⟩
  · cases hv
  · cases hv; exact hn
theorem run3 {w : World} {R : Nat} {s : St} {stk mv : Value} {told : Bool} {out : Int} (h : runAt w R s stk mv told out) (a b c : Int) : runAt (((w.setCell ⟨R, 0, none⟩ (.int .i64 a)).setCell ⟨R, 1, none⟩ (.int .i64 b)).setCell ⟨R, 2, none⟩ (.int .i64 c)) R { s with seg := a, off := b, ring := c } stk mv told out := by
  unfold runAt at h ⊢
  simp [World.setCell, Array.getElem?_modify, h, runC]
set_option maxHeartbeats 2000000 in
theorem c_ret_none (w : World) (R : Nat) (s : St) (stk mv : Value) (told : Bool) (out : Int) (hr : runAt w R s stk mv told out) (hs : stkAt w stk []) :
    Calls Try.prog 65 #[.pointer (some ⟨R, 0, none⟩)] w fun e w' => e = .panicked (flt 37) ∧ Below w.heap.size w w' := by
  obtain ⟨ad, cap, hv, _, _⟩ := row_shape hs
  subst hv
  have r16 : w.cell? ⟨R, 16, none⟩ = some (.slice ad 0 cap) := hr.cell 16
  clear hs hr
  go_enter Try.func65, Try.ntmps65
  go_wp2_with (first | (go_at_call 59; refine (c_must_no _ _).mono ?_; rintro e w2 ⟨rfl, rfl⟩))
  exact ⟨rfl, rfl, Below.refl _ _⟩
set_option maxHeartbeats 2000000 in
theorem c_ret_gate (w : World) (R : Nat) (s : St) (stk mv : Value) (told : Bool) (out : Int) (hr : runAt w R s stk mv told out) (l : List Fr) (f : Fr) (hs : stkAt w stk (l ++ [f])) (hbig : ((l ++ [f]).length : Int) < 140737488355328) (hq : f.ring < s.ring) :
    Calls Try.prog 65 #[.pointer (some ⟨R, 0, none⟩)] w fun e w' => e = .panicked (flt 34) ∧ Below w.heap.size w w' := by
  obtain ⟨n, hn⟩ : ∃ n, (l ++ [f]).length = n := ⟨_, rfl⟩
  obtain ⟨m, hm⟩ : ∃ m, l.length = m := ⟨_, rfl⟩
  have hnm : n = m + 1 := by rw [← hn, ← hm]; simp
  have hs' := hs
  unfold stkAt at hs'
  rw [hn] at hs'
  obtain ⟨gu, cap, hv⟩ := row_some hs' (by omega)
  subst hv
  have hcap := row_cap hs'
  have r16 : w.cell? ⟨R, 16, none⟩ = some (.slice (some ⟨gu, 0, none⟩) n cap) := hr.cell 16
  have fc : ∀ j, j < 3 → (frC (l ++ [f]))[m * 3 + j]? = ([Value.int .i64 f.seg, .int .i64 f.off, .int .i64 f.ring] : List Value)[j]? := fun j hj => by
    rw [frC_append, List.getElem?_append_right (by rw [frC_length, hm]; omega), frC_length, hm]
    congr 1
    omega
  obtain ⟨_, c0⟩ := row_cell hs' (m * 3 + 0) (fc 0 (by omega))
  obtain ⟨_, c1⟩ := row_cell hs' (m * 3 + 1) (fc 1 (by omega))
  obtain ⟨_, c2⟩ := row_cell hs' (m * 3 + 2) (fc 2 (by omega))
  simp only [Nat.add_zero] at c0
  have hlt : 0 < n := by omega
  have hn0 : (n : Int) < 140737488355328 := by rw [← hn]; exact hbig
  have q1 : IntKind.i64.wrap ((n : Int) - 1) = (m : Int) := by rw [IntKind.wrap_i64]; omega
  have q2 : (m : Int) < n := by omega
  have q3 : (m : Int) ≤ cap := by omega
  have q4 : m < n := by omega
  have q5 : m ≤ cap := by omega
  have HR := Lib.hid hr
  have HS := Lib.hid hs'
  have HN := Lib.hid hnm
  have HL := Lib.hid hn
  have HM := Lib.hid hm
  have k0 : ∀ w', Off (fun _ => False) w w' → w'.cell? ⟨gu, m * 3, none⟩ = some (.int .i64 f.seg) := fun w' h => off_cell h c0 id
  have k1 : ∀ w', Off (fun _ => False) w w' → w'.cell? ⟨gu, m * 3 + 1, none⟩ = some (.int .i64 f.off) := fun w' h => off_cell h c1 id
  have k2 : ∀ w', Off (fun _ => False) w w' → w'.cell? ⟨gu, m * 3 + 2, none⟩ = some (.int .i64 f.ring) := fun w' h => off_cell h c2 id
  have k3 : ∀ w', Off (fun _ => False) w w' → w'.cell? ⟨R, 16, none⟩ = some (.slice (some ⟨gu, 0, none⟩) n cap) := fun w' h => (HR.out.off h id).cell 16
  clear c0 c1 c2 hs' hs hr fc hbig hcap hnm hn hm
  go_enter Try.func65, Try.ntmps65
  go_wp2_with (first | (go_at_call 59; refine (c_must_ok _ _).mono ?_; rintro e w2 ⟨rfl, rfl⟩))
  go_region_held3 (fun w' => Off (fun _ => False) w2 w')
    ((repeat (with_reducible first | refine Off.setCell ?_ (Or.inr (by simp)) _ | refine Off.alloc ?_ _ | refine Off.drew ?_ | exact Off.refl _ _)))
    ((first | fail))
  go_wp2
  obtain ⟨W, hW, HF, HO⟩ : ∃ W, (w2.alloc (.cells #[.int .i64 f.seg, .int .i64 f.off, .int .i64 f.ring] 79)).drew = W ∧ Hid (blk3 W w2.heap.size 79 (.int .i64 f.seg) (.int .i64 f.off) (.int .i64 f.ring)) ∧ Hid (Off (fun _ => False) w2 W) := ⟨_, rfl, blk3.new w2 79 (.int .i64 f.seg) (.int .i64 f.off) (.int .i64 f.ring), ((Off.refl _ _).alloc _).drew⟩
  rw [hW]
  clear hW r16 k0 k1 k2 k3
  have HR1 := Lib.hid (HR.out.off HO.out id)
  have HS1 := Lib.hid (Off.row HO.out HS.out (fun _ h => h.elim))
  have r2 : W.drew.cell? ⟨R, 2, none⟩ = some (.int .i64 s.ring) := HR1.out.cell 2
  obtain ⟨⟨g0, g1, g2⟩, _⟩ := blk3.facts (w := W.drew) HF.out
  refine still_tail 8 (by kernel_rfl) (by kernel_rfl) ?_
  simp only [List.take_succ_cons, List.take_zero, List.drop_succ_cons, List.drop_zero]
  repeat still_step
  refine wpStill_nil ?_
  have hq1 : ¬ s.ring ≤ f.ring := by omega
  go_wp2_with (first | (go_at_call 59; refine (c_must _ _ _).mono ?_; rintro e w3 ⟨rfl, rfl⟩; simp only [decide_eq_false hq1, Bool.false_eq_true, if_false]))
  exact ⟨rfl, rfl, below_drew (Off.to_below HO.out)⟩
set_option maxHeartbeats 2000000 in
theorem c_ret_ok (w : World) (R : Nat) (s : St) (stk mv : Value) (told : Bool) (out : Int) (hr : runAt w R s stk mv told out) (l : List Fr) (f : Fr) (hs : stkAt w stk (l ++ [f])) (hbig : ((l ++ [f]).length : Int) < 140737488355328) (hq : s.ring ≤ f.ring) :
    Calls Try.prog 65 #[.pointer (some ⟨R, 0, none⟩)] w fun e w' => ∃ stk', e = .returned (.tuple #[]) ∧ runAt w' R ({ s with seg := f.seg, off := f.off, ring := f.ring }.raise f.ring) stk' mv told out ∧ stkAt w' stk' l ∧ Off (· = R) w w' := by
  obtain ⟨n, hn⟩ : ∃ n, (l ++ [f]).length = n := ⟨_, rfl⟩
  obtain ⟨m, hm⟩ : ∃ m, l.length = m := ⟨_, rfl⟩
  have hnm : n = m + 1 := by rw [← hn, ← hm]; simp
  have hs' := hs
  unfold stkAt at hs'
  rw [hn] at hs'
  obtain ⟨gu, cap, hv⟩ := row_some hs' (by omega)
  subst hv
  have hcap := row_cap hs'
  have r16 : w.cell? ⟨R, 16, none⟩ = some (.slice (some ⟨gu, 0, none⟩) n cap) := hr.cell 16
  have fc : ∀ j, j < 3 → (frC (l ++ [f]))[m * 3 + j]? = ([Value.int .i64 f.seg, .int .i64 f.off, .int .i64 f.ring] : List Value)[j]? := fun j hj => by
    rw [frC_append, List.getElem?_append_right (by rw [frC_length, hm]; omega), frC_length, hm]
    congr 1
    omega
  obtain ⟨_, c0⟩ := row_cell hs' (m * 3 + 0) (fc 0 (by omega))
  obtain ⟨_, c1⟩ := row_cell hs' (m * 3 + 1) (fc 1 (by omega))
  obtain ⟨_, c2⟩ := row_cell hs' (m * 3 + 2) (fc 2 (by omega))
  simp only [Nat.add_zero] at c0
  have hlt : 0 < n := by omega
  have hn0 : (n : Int) < 140737488355328 := by rw [← hn]; exact hbig
  have q1 : IntKind.i64.wrap ((n : Int) - 1) = (m : Int) := by rw [IntKind.wrap_i64]; omega
  have q2 : (m : Int) < n := by omega
  have q3 : (m : Int) ≤ cap := by omega
  have q4 : m < n := by omega
  have q5 : m ≤ cap := by omega
  have HR := Lib.hid hr
  have HS := Lib.hid hs'
  have HN := Lib.hid hnm
  have HL := Lib.hid hn
  have HM := Lib.hid hm
  have k0 : ∀ w', Off (fun _ => False) w w' → w'.cell? ⟨gu, m * 3, none⟩ = some (.int .i64 f.seg) := fun w' h => off_cell h c0 id
  have k1 : ∀ w', Off (fun _ => False) w w' → w'.cell? ⟨gu, m * 3 + 1, none⟩ = some (.int .i64 f.off) := fun w' h => off_cell h c1 id
  have k2 : ∀ w', Off (fun _ => False) w w' → w'.cell? ⟨gu, m * 3 + 2, none⟩ = some (.int .i64 f.ring) := fun w' h => off_cell h c2 id
  have k3 : ∀ w', Off (fun _ => False) w w' → w'.cell? ⟨R, 16, none⟩ = some (.slice (some ⟨gu, 0, none⟩) n cap) := fun w' h => (HR.out.off h id).cell 16
  clear c0 c1 c2 hs' hs hr fc hbig hcap hnm hn hm
  go_enter Try.func65, Try.ntmps65
  go_wp2_with (first | (go_at_call 59; refine (c_must_ok _ _).mono ?_; rintro e w2 ⟨rfl, rfl⟩))
  go_region_held3 (fun w' => Off (fun _ => False) w2 w')
    ((repeat (with_reducible first | refine Off.setCell ?_ (Or.inr (by simp)) _ | refine Off.alloc ?_ _ | refine Off.drew ?_ | exact Off.refl _ _)))
    ((first | fail))
  go_wp2
  obtain ⟨W, hW, HF, HO⟩ : ∃ W, (w2.alloc (.cells #[.int .i64 f.seg, .int .i64 f.off, .int .i64 f.ring] 79)).drew = W ∧ Hid (blk3 W w2.heap.size 79 (.int .i64 f.seg) (.int .i64 f.off) (.int .i64 f.ring)) ∧ Hid (Off (fun _ => False) w2 W) := ⟨_, rfl, blk3.new w2 79 (.int .i64 f.seg) (.int .i64 f.off) (.int .i64 f.ring), ((Off.refl _ _).alloc _).drew⟩
  rw [hW]
  clear hW r16 k0 k1 k2 k3
  have HR1 := Lib.hid (HR.out.off HO.out id)
  have HS1 := Lib.hid (Off.row HO.out HS.out (fun _ h => h.elim))
  have r2 : W.drew.cell? ⟨R, 2, none⟩ = some (.int .i64 s.ring) := HR1.out.cell 2
  obtain ⟨⟨g0, g1, g2⟩, _⟩ := blk3.facts (w := W.drew) HF.out
  refine still_tail 8 (by kernel_rfl) (by kernel_rfl) ?_
  simp only [List.take_succ_cons, List.take_zero, List.drop_succ_cons, List.drop_zero]
  repeat still_step
  refine wpStill_nil ?_
  go_wp2_with (first | (go_at_call 59; refine (c_must _ _ _).mono ?_; rintro e w3 ⟨rfl, hw3⟩; simp only [if_true]))
  subst hw3
  clear r2 g0 g1 g2
  have HR1 : Hid (runAt W.drew R s (.slice (some ⟨gu, 0, none⟩) n cap) mv told out) := HR1
  have HS1 : Hid (W.drew.ownsRow 0 79 3 (.slice (some ⟨gu, 0, none⟩) n cap) n (frC (l ++ [f]))) := HS1
  have HF : Hid (blk3 W.drew w2.heap.size 79 (.int .i64 f.seg) (.int .i64 f.off) (.int .i64 f.ring)) := HF
  have HO : Hid (Off (fun _ => False) w2 W.drew) := HO.out.drew
  generalize W.drew = W0 at HR1 HS1 HF HO ⊢
  have r16 : W0.drew.cell? ⟨R, 16, none⟩ = some (.slice (some ⟨gu, 0, none⟩) n cap) := HR1.out.cell 16
  have rf : ∀ j, W0.drew.frozen? ⟨R, j, none⟩ = false := fun j => HR1.out.free j
  have hR : R < W0.drew.heap.size := HR1.out.lt
  refine still_tail 17 (by kernel_rfl) (by kernel_rfl) ?_
  simp only [List.take_succ_cons, List.take_zero, List.drop_succ_cons, List.drop_zero]
  repeat still_step
  refine wpStill_nil ?_
  go_wp2
  have hNR : ¬ w2.heap.size = R := by have := HR.out.lt; omega
  obtain ⟨W4, hW4, HR4, HO4⟩ : ∃ W, (W0.setCell ⟨R, 16, none⟩ (.slice (some ⟨gu, 0, none⟩) m cap)).drew = W ∧ Hid (runAt W R s (.slice (some ⟨gu, 0, none⟩) m cap) mv told out) ∧ Hid (Off (· = R) W0 W) := ⟨_, rfl, runAt.set HR1.out 16 _, (off1 _ _ _ _).drew⟩
  rw [hW4]
  have HF4 := Lib.hid (HF.out.off HO4.out hNR)
  have HS4 := Lib.hid (row_short (Off.row HO4.out HS1.out (run_frame HR1.out)) (show m ≤ n by omega))
  have HO4 := Lib.hid ((Off.mono (ex' := (· = R)) HO.out (fun _ _ h => h.elim)).trans HO4.out)
  clear hW4 r16 rf hR HO HF HS1
  have k0 : ∀ w', Off (· = R) W4 w' → w'.cell? ⟨w2.heap.size, 0, none⟩ = some (.int .i64 f.seg) := fun w' h => (HF4.out.off h hNR).facts.1.1
  have k1 : ∀ w', Off (· = R) W4 w' → w'.cell? ⟨w2.heap.size, 1, none⟩ = some (.int .i64 f.off) := fun w' h => (HF4.out.off h hNR).facts.1.2.1
  have k2 : ∀ w', Off (· = R) W4 w' → w'.cell? ⟨w2.heap.size, 2, none⟩ = some (.int .i64 f.ring) := fun w' h => (HF4.out.off h hNR).facts.1.2.2
  have r0 : W4.drew.cell? ⟨R, 0, none⟩ = some (.int .i64 s.seg) := HR4.out.cell 0
  have r1 : W4.drew.cell? ⟨R, 1, none⟩ = some (.int .i64 s.off) := HR4.out.cell 1
  have r2 : W4.drew.cell? ⟨R, 2, none⟩ = some (.int .i64 s.ring) := HR4.out.cell 2
  have t0 : W4.cell? ⟨R, 0, none⟩ = some (.int .i64 s.seg) := HR4.out.cell 0
  have t1 : W4.cell? ⟨R, 1, none⟩ = some (.int .i64 s.off) := HR4.out.cell 1
  have t2 : W4.cell? ⟨R, 2, none⟩ = some (.int .i64 s.ring) := HR4.out.cell 2
  have tf : ∀ j, W4.frozen? ⟨R, j, none⟩ = false := fun j => HR4.out.free j
  have tR : R < W4.heap.size := HR4.out.lt
  have rf : ∀ j, W4.drew.frozen? ⟨R, j, none⟩ = false := fun j => HR4.out.free j
  have hR : R < W4.drew.heap.size := HR4.out.lt
  go_region_held3 (fun w' => Off (· = R) W4 w')
    ((repeat (with_reducible first | refine Off.setCell ?_ (by simp) _ | refine Off.drew ?_ | exact Off.refl _ _)))
    ((first | fail))
  all_goals
    go_wp2_with fail
    obtain ⟨W5, hW5, HR5, HO5⟩ : ∃ W, (((W4.setCell ⟨R, 0, none⟩ (.int .i64 f.seg)).setCell ⟨R, 1, none⟩ (.int .i64 f.off)).setCell ⟨R, 2, none⟩ (.int .i64 f.ring)).drew = W ∧ Hid (runAt W R { s with seg := f.seg, off := f.off, ring := f.ring } (.slice (some ⟨gu, 0, none⟩) m cap) mv told out) ∧ Hid (Off (· = R) W4 W) := ⟨_, rfl, run3 HR4.out _ _ _, (((off1 _ _ _ _).trans (off1 _ _ _ _)).trans (off1 _ _ _ _)).drew⟩
    rw [hW5]
    have g2 : W5.cell? ⟨w2.heap.size, 2, none⟩ = some (.int .i64 f.ring) := k2 _ HO5.out
    clear k0 k1 k2 r0 r1 r2 rf hR t0 t1 t2 tf tR
    go_wp2_with (first | (go_at_call 86; refine (c_raise _ _ _ _ _ _ _ _ HR5.out).mono ?_; rintro e w6 ⟨rfl, hr6, ho6⟩))
    have hs6 := Off.row (HO5.out.trans ho6) HS4.out (run_frame HR4.out)
    rw [frC_append, List.take_append_of_le_length (by rw [frC_length, HM.out]; omega), List.take_of_length_le (by rw [frC_length, HM.out]; omega)] at hs6
    go_wp2
    go_end0
    refine ⟨_, rfl, hr6, ?_, HO4.out.trans (HO5.out.trans ho6)⟩
    unfold stkAt
    rw [HM.out]
    exact hs6
end Go.Proofs.Ytiakonmamkfopaa
