/- The statement DiskStaysSaid, out of the law's walk: for every input the call returns true. No condition. -/
import Derived.Test.YtnlemjjigiphcaaRows
import Derived.WalkKit
import Derived.ProofKit
import Derived.OpenShut
import Derived.Lib.SmallJoins
import Derived.WideKeyArgs
import Derived.SizedLaws
import Derived.Test.YtnlemjjigiphcaaDt
import Derived.Test.YtnlemjjigiphcaaDg
import Derived.Test.YtnlemjjigiphcaaBelow
namespace Go.Proofs.Ytnlemjjigiphcaa.diskStays
open Go.ChangeShapes Go.WideShapes Go.ChangeAt Go.RowKit Go.Joins
set_option linter.unusedVariables false

theorem own : ownKnob Try.prog.godebug = none := by kernel_rfl
theorem laid : laidOutB Try.prog = true := by kernel_rfl
theorem readY : Try.prog.readableRec 22 = true := by kernel_rfl
theorem inY : 22 < Try.prog.types.size := of_decide_eq_true (by kernel_rfl)
theorem readC : Try.prog.readableRec 37 = true := by kernel_rfl
theorem inC : 37 < Try.prog.types.size := of_decide_eq_true (by kernel_rfl)

set_option maxRecDepth 100000 in
theorem lifted (os : Os) (started : os.Started) (H : Type) (enc : TypeId × Value → H) :
    ReturnsInHanded {} Try.checked os 5 .any (Rows.diskStaysSpec.pre6 enc Try.prog Try.f5 Rows.diskStaysRow.domain false) (Rows.diskStaysSpec.post enc Try.prog Try.f5 false true false false) := by
  refine returnsInHanded_of_change_sized (C := Try.checked) own started (by kernel_rfl) Try.func5
    (ChangeSpec.witness6 (enc := enc) (C := Try.checked) false ⟨#[], #[.slice none 0 0, .slice none 0 0, .slice none 0 0, .int .i64 0], []⟩ 8 (by kernel_rfl) (by kernel_rfl) (by kernel_rfl) (by kernel_rfl)) ?_
  intro W base args ds gs before hval0 hW hcnd hsz0 _
  have hval : ∀ (j : Nat) t v, Try.f5.params[j]? = some t → args[j]? = some v → Value.okWide Try.prog W .any base t v := hval0
  have hW' := hW
  obtain ⟨p, q, hA0, hV, rfl, hfz, hnd⟩ := hW
  have hA : DataW.TrodAll enc Try.prog W 0 (fun _ => true) true Try.f5.params.toList args.toList ds p := hA0
  have hsz : (DataW.weightsEach Try.prog (Try.f5.params.toList ++ Rows.diskStaysSpec.plain.varTypes Try.prog) (ds ++ gs)).all (· ≤ reachBytes) = true := hsz0
  rw [Try.params5] at hA hval hsz
  obtain ⟨v0, vs0, d0, ds0, p0, q0, hargs, rfl, rfl, h0, r0⟩ := trodAll_cons hA
  obtain ⟨v1, vs1, d1, ds1, p1, q1, rfl, rfl, rfl, h1, r1⟩ := trodAll_cons r0
  obtain ⟨v2, vs2, d2, ds2, p2, q2, rfl, rfl, rfl, h2, r2⟩ := trodAll_cons r1
  obtain ⟨v3, vs3, d3, ds3, p3, q3, rfl, rfl, rfl, h3, r3⟩ := trodAll_cons r2
  obtain ⟨rfl, rfl, rfl⟩ := trodAll_nil r3
  obtain rfl : args = #[v0, v1, v2, v3] := by cases args; simp_all
  obtain ⟨rfl, rfl⟩ := trodVars_none hV
  obtain ⟨k0, m0, c0, hq0⟩ := okWide_slice Try.underlying22 (hval 0 22 v0 rfl rfl)
  subst hq0
  have s0 : Sm 22 d0 := fun n hn => by
    have := List.all_eq_true.1 hsz n (DataW.weights_mem_each (j := 0) (t := 22) rfl rfl n hn)
    simpa using this
  obtain ⟨f0, hf0⟩ := h0
  have h0 : DataW.Trod enc Try.prog W 0 (fun _ => true) true 22 (.slice k0 m0 c0) d0 p0 := ⟨f0, hf0⟩
  obtain ⟨b0, B0, L0, Q0⟩ := bytes_at hf0
  replace L0 := L0 s0
  have lt0 : ∀ y ∈ p0, y.block < W.heap.size := fun y hy => hW'.lt y (by simp [hy])
  obtain ⟨k1, m1, c1, hq1⟩ := okWide_slice Try.underlying22 (hval 1 22 v1 rfl rfl)
  subst hq1
  have s1 : Sm 22 d1 := fun n hn => by
    have := List.all_eq_true.1 hsz n (DataW.weights_mem_each (j := 1) (t := 22) rfl rfl n hn)
    simpa using this
  obtain ⟨f1, hf1⟩ := h1
  have h1 : DataW.Trod enc Try.prog W 0 (fun _ => true) true 22 (.slice k1 m1 c1) d1 p1 := ⟨f1, hf1⟩
  obtain ⟨b1, B1, L1, Q1⟩ := bytes_at hf1
  replace L1 := L1 s1
  have lt1 : ∀ y ∈ p1, y.block < W.heap.size := fun y hy => hW'.lt y (by simp [hy])
  obtain ⟨k2, m2, c2, hq2⟩ := okWide_slice Try.underlying37 (hval 2 37 v2 rfl rfl)
  subst hq2
  have s2 : Sm 37 d2 := fun n hn => by
    have := List.all_eq_true.1 hsz n (DataW.weights_mem_each (j := 2) (t := 37) rfl rfl n hn)
    simpa using this
  obtain ⟨f2, hf2⟩ := h2
  have h2 : DataW.Trod enc Try.prog W 0 (fun _ => true) true 37 (.slice k2 m2 c2) d2 p2 := ⟨f2, hf2⟩
  obtain ⟨b2, B2, L2, Q2⟩ := calls_at hf2
  replace L2 := L2 s2
  have lt2 : ∀ y ∈ p2, y.block < W.heap.size := fun y hy => hW'.lt y (by simp [hy])
  obtain ⟨a3, rfl, rfl, rfl, w3⟩ := open_int Try.underlying3 (hval 3 3 v3 rfl rfl) h3
  clear hA0 hval0 hsz0
  refine (law_DiskStays W _ b0 B0 L0 _ b1 B1 L1 _ L2 a3 (i64_wf w3)).mono fun e W' ⟨he, hb⟩ => ?_
  subst he
  exact ⟨_, rfl, post_of_below (pa := (p0 ++ (p1 ++ (p2 ++ ([] ++ []))))) (pv := []) hW' (fun _ _ _ => (trodAll_cons_mk (shut_bool Try.underlying4 _) trodAll_mk0)) (fun sp hsp => (trodAll_cons_mk (WideElems.Trod_stays laid readY inY h0 (fun y hy => hb.same (lt0 y hy)) (fun y hy => hsp y (by simp [hy]))) (trodAll_cons_mk (WideElems.Trod_stays laid readY inY h1 (fun y hy => hb.same (lt1 y hy)) (fun y hy => hsp y (by simp [hy]))) (trodAll_cons_mk (WideElems.Trod_stays laid readC inC h2 (fun y hy => hb.same (lt2 y hy)) (fun y hy => hsp y (by simp [hy]))) (trodAll_cons_mk (shut_int Try.underlying3 w3) trodAll_mk0))))) (fun _ _ => rfl) rfl hb (ok_one (by kernel_rfl) rfl (okWide_bool_mk Try.underlying4 _))⟩

theorem over : Rows.diskStaysRow.holds Try.pinned (OpenSpec.ofChange Rows.diskStaysSpec) :=
  OpenClaim.holds_of_wide 5 Try.f5 rfl rfl rfl rfl rfl rfl rfl ⟨rfl, rfl, rfl, rfl, rfl⟩ rfl rfl rfl rfl rfl (by kernel_rfl) Try.func5 (by kernel_rfl)
    (of_decide_eq_true (by kernel_rfl)) (by unfold Func.isWrapper; first | (rw [if_pos (by decide +kernel)]; kernel_rfl) | (rw [if_neg (by decide +kernel)]; exact ⟨rfl, rfl⟩))
    (fun os started H enc _ => lifted os started H enc)

theorem proved : Rows.DiskStaysSaid :=
  over
#print axioms proved
end Go.Proofs.Ytnlemjjigiphcaa.diskStays
