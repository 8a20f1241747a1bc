/- The statement CpuStepsSaid, out of the law's walk: for every input the call returns true. No condition. -/
import Derived.Test.YtiakonmamkfopaaRows
import Derived.WalkKit
import Derived.ProofKit
import Derived.OpenShut
import Derived.Lib.SmallJoins
import Derived.WideKeyArgs
import Derived.Test.YtiakonmamkfopaaZCpuTf
import Derived.Test.YtiakonmamkfopaaZCpuMi
import Derived.Test.YtiakonmamkfopaaBelow
namespace Go.Proofs.Ytiakonmamkfopaa.cpuSteps
open Go.ChangeShapes Go.WideShapes Go.ChangeAt Go.RowKit Go.Joins
set_option linter.unusedVariables false

theorem own : ownKnob Try.prog.godebug = none := by kernel_rfl
theorem laid : laidOutB Try.prog = true := by kernel_rfl
theorem readS : Try.prog.readableRec 22 = true := by kernel_rfl
theorem inS : 22 < Try.prog.types.size := of_decide_eq_true (by kernel_rfl)
theorem readB : Try.prog.readableRec 28 = true := by kernel_rfl
theorem inB : 28 < Try.prog.types.size := of_decide_eq_true (by kernel_rfl)

set_option maxRecDepth 100000 in
theorem lifted (os : Os) (started : os.Started) (H : Type) (enc : TypeId × Value → H) :
    ReturnsInHanded {} Try.checked os 3 .any (Rows.cpuStepsSpec.pre6 enc Try.prog Try.f3 Rows.cpuStepsRow.domain false) (Rows.cpuStepsSpec.post enc Try.prog Try.f3 false true false false) := by
  refine returnsInHanded_of_change (C := Try.checked) own started (by kernel_rfl) Try.func3
    (ChangeSpec.witness6 (enc := enc) (C := Try.checked) false ⟨#[], #[.slice none 0 0, .agg #[.int .i64 0, .int .i64 0, .int .i64 0, .int .i64 0, .int .i64 0, .int .i64 0, .int .i64 0, .int .i64 0, .int .i64 0, .int .i64 0, .int .i64 0, .int .i64 0, .int .i64 0, .int .i64 0, .int .i64 0, .int .i64 0, .slice none 0 0], .int .i64 0], []⟩ 8 (by kernel_rfl) (by kernel_rfl) (by kernel_rfl) (by kernel_rfl)) ?_
  intro W base args ds gs before hval0 hW hcnd _
  have hval : ∀ (j : Nat) t v, Try.f3.params[j]? = some t → args[j]? = some v → Value.okWide Try.prog W .any base t v := hval0
  have hW' := hW
  obtain ⟨p, q, hA0, hV, rfl, hfz, hnd⟩ := hW
  have hA : DataW.TrodAll enc Try.prog W 0 (fun _ => true) true Try.f3.params.toList args.toList ds p := hA0
  rw [Try.params3] at hA hval
  obtain ⟨v0, vs0, d0, ds0, p0, q0, hargs, rfl, rfl, h0, r0⟩ := trodAll_cons hA
  obtain ⟨v1, vs1, d1, ds1, p1, q1, rfl, rfl, rfl, h1, r1⟩ := trodAll_cons r0
  obtain ⟨v2, vs2, d2, ds2, p2, q2, rfl, rfl, rfl, h2, r2⟩ := trodAll_cons r1
  obtain ⟨rfl, rfl, rfl⟩ := trodAll_nil r2
  obtain rfl : args = #[v0, v1, v2] := by cases args; simp_all
  obtain ⟨rfl, rfl⟩ := trodVars_none hV
  obtain ⟨b0, m0, c0, hq0⟩ := okWide_slice A.u_pcs (hval 0 22 v0 rfl rfl)
  have P0 : PcAt W v0 := by
    obtain ⟨f, hf⟩ := h0
    subst hq0
    exact pcs_at (fun _ => rfl) hf
  have lt0 : ∀ y ∈ p0, y.block < W.heap.size := fun y hy => hW'.lt y (by simp [hy])
  obtain ⟨g1, hq1, hz1⟩ := okWide_struct A.u_st (hval 1 28 v1 rfl rfl)
  subst hq1
  obtain ⟨s1, u1, hc1, F1, A1⟩ : ∃ s u, g1.toList = (begC s u).toList ∧ FrIn W u ∧ WfI s.a := by
    obtain ⟨f, hf⟩ := h1
    exact beg_at2 (fun _ => rfl) hf
  obtain rfl : g1 = begC s1 u1 := Array.toList_inj.1 hc1
  have lt1 : ∀ y ∈ p1, y.block < W.heap.size := fun y hy => hW'.lt y (by simp [hy])
  obtain ⟨a2, rfl, rfl, rfl, w2⟩ := open_int Try.underlying3 (hval 2 3 v2 rfl rfl) h2
  clear hA0 hval0
  refine (law_CpuSteps W v0 P0 s1 u1 F1 A1 a2).mono fun e W' ⟨he, hb⟩ => ?_
  subst he
  exact ⟨_, rfl, post_of_below (pa := (p0 ++ (p1 ++ ([] ++ [])))) (pv := []) hW' (fun _ _ _ => (trodAll_cons_mk (shut_bool Try.underlying4 _) trodAll_mk0)) (fun sp hsp => (trodAll_cons_mk (WideElems.Trod_stays laid readS inS h0 (fun y hy => hb.same (lt0 y hy)) (fun y hy => hsp y (by simp [hy]))) (trodAll_cons_mk (WideElems.Trod_stays laid readB inB h1 (fun y hy => hb.same (lt1 y hy)) (fun y hy => hsp y (by simp [hy]))) (trodAll_cons_mk (shut_int Try.underlying3 w2) trodAll_mk0)))) (fun _ _ => rfl) rfl hb (ok_one (by kernel_rfl) rfl (okWide_bool_mk Try.underlying4 _))⟩

theorem over : Rows.cpuStepsRow.holds Try.pinned (OpenSpec.ofChange Rows.cpuStepsSpec) :=
  OpenClaim.holds_of_wide 3 Try.f3 rfl rfl rfl rfl rfl rfl rfl ⟨rfl, rfl, rfl, rfl, rfl⟩ rfl rfl rfl rfl rfl (by kernel_rfl) Try.func3 (by kernel_rfl)
    (of_decide_eq_true (by kernel_rfl)) (by unfold Func.isWrapper; first | (rw [if_pos (by decide +kernel)]; kernel_rfl) | (rw [if_neg (by decide +kernel)]; exact ⟨rfl, rfl⟩))
    (fun os started H enc _ => lifted os started H enc)

theorem proved : Rows.CpuStepsSaid :=
  over
#print axioms proved
end Go.Proofs.Ytiakonmamkfopaa.cpuSteps
