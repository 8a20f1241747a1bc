/- Contracts of package wal: a head as bytes. -/
import Derived.Test.YtpdjenkacefpjaaWc
import Derived.Lib.AppendStr
namespace Go.Proofs.Ytpdjenkacefpjaa
open Go.RowKit Go.ChangeShapes
set_option linter.unusedVariables false
set_option maxRecDepth 100000

def zs (n : Nat) : ByteArray := ⟨(List.replicate n 0).toArray⟩
theorem zs_size (n : Nat) : (zs n).size = n := by show (List.replicate n (0 : UInt8)).toArray.size = n; simp
theorem zs_cells (n : Nat) : Lib.strCells (zs n) = bys (List.replicate n 0) := by
  unfold Lib.strCells zs bys
  simp
theorem zc (n : Nat) : Builtin.zeroCells (Value.int .u8 0).cells n = (Lib.strCells (zs n)).toArray := by
  rw [zs_cells]
  apply Array.ext
  · simp [size_zeroCells, bys, Value.cells]
  · intro i h1 h2
    simp [Builtin.zeroCells, bys, Value.cells, Nat.mod_one]
theorem run_append_make (w : World) (ty : TypeId) (base : Option Addr) (sLen sCap n : Nat) (h : sLen + n ≤ 1000) : (Builtin.append_ #[36, 3] ty #[.slice base sLen sCap, .int .i64 n]).run Try.prog w = (Builtin.append_ #[36, 9] ty #[.slice base sLen sCap, .string (zs n)]).run Try.prog w := by
  obtain ⟨i, hin, hz0, hz1, hz2⟩ := info_parts A.infoB
  have hw : IntKind.i64.wrap (n : Int) = n := IntWalk.i64_in _ (by omega)
  have h0 : ¬ ((n : Int) < 0) := by omega
  have h1 : ¬ (281474976710656 < (n : Int)) := by omega
  have hf : ∀ w' : World, (Builtin.firstCells 1 n (.string (zs n))).run Try.prog w' = .ok (Lib.strCells (zs n)).toArray w' := fun w' => by
    have := Lib.run_firstCells_string (P := Try.prog) w' 1 (zs n)
    rwa [zs_size] at this
  have hl : (Builtin.lenOf (.string (zs n))) = pure n := by show pure (zs n).size = pure n; rw [zs_size]
  have e0 : Lib.strCells (zs 0) = [] := rfl
  by_cases hr : sLen + n ≤ sCap
  · simp [Builtin.append_, run_underlying A.underB, run_underlying A.underInt, run_underlying A.underS, sizeOf, typeInfo, zeroValue, hin, hz0, hz1, hz2, hl, hf, asInt, asIntOf, hw, h0, h1, hr, zc]
    intro hn
    subst hn
    rfl
  · have h2 : ¬ (9223372036854775807 < (sLen : Int) + (n : Int)) := by omega
    have h3 : ¬ (281474976710656 < Builtin.nextslicecap (sLen + n) sCap) := by
      have := growslice_fits (need := sLen + n) (old := sCap) (bytes := 1) (by omega) (by omega)
      omega
    by_cases hn : n = 0
    · subst hn
      have w0 : IntKind.i64.wrap (0 : Int) = 0 := rfl
      have r0 : ¬ (sLen ≤ sCap) := by omega
      have g0 : ¬ (9223372036854775807 < (sLen : Int)) := by omega
      have n0 : ¬ (281474976710656 < Builtin.nextslicecap sLen sCap) := h3
      have f0 : ∀ w' : World, (Builtin.firstCells 1 0 (.string (zs 0))).run Try.prog w' = .ok #[] w' := hf
      simp [Builtin.append_, run_underlying A.underB, run_underlying A.underInt, run_underlying A.underS, sizeOf, typeInfo, zeroValue, hin, hz0, hz1, hz2, hl, f0, asInt, asIntOf, w0, r0, zc, g0, n0, e0]
    · simp [Builtin.append_, run_underlying A.underB, run_underlying A.underInt, run_underlying A.underS, sizeOf, typeInfo, zeroValue, hin, hz0, hz1, hz2, hl, hf, asInt, asIntOf, hw, h0, h1, hr, zc, h2, h3, hn]
theorem wpList_append_made {w : World} {ops : Array Oper} {rest : List Oper} {o : Oper} {a : Act} {Q : Exit → Act → World → Prop} (hgd : o.guard = none) (sl x : Operand)
    (ho : o.op = .call { callee := .builtin .append, args := #[sl, x], argTypes := #[36, 3] }) (base : Nat) (v : Value) (xs : Sec) (hs : a.eval sl = v) (hown : w.ownsRow base 5 1 v xs.length (bys xs)) (n : Nat) (hx : a.eval x = .int .i64 n)
    (h63 : xs.length + n ≤ 1000) (hbase : base ≤ w.heap.size)
    (h : ∀ v' w', RowB w' base v' (xs ++ List.replicate n 0) → Off (fun k => v.ownBlock = some k) w w' → wpList Try.prog ops Q rest (a.put o.dst v') w') : wpList Try.prog ops Q (o :: rest) a w := by
  obtain ⟨i, hin, hz0, hz1, hz2⟩ := info_parts A.infoB
  have hm : xs.length + (zs n).size ≤ maxLen := by rw [zs_size]; unfold maxLen; omega
  refine wpList_plain hgd fun K hK => ?_
  obtain ⟨v', w', hr, h2, h3, h4⟩ := Lib.run_append_own_string (P := Try.prog) w base 36 9 o.type 5 i A.underB A.underS hin hz0 hz1 hz2 v xs.length (bys xs) hown (zs n) hm (by rw [zs_size]; omega) hbase
  obtain ⟨ad, c, rfl, _, _⟩ := row_shape hown
  have hr2 := (run_append_make w o.type ad xs.length c n h63).trans hr
  unfold Oper.wp execOp
  simp only [ho, resolve, invoke, builtin, Sem.run_bind, Sem.run_pure, Result.andThen_ok, List.map_toArray, List.map_cons, List.map_nil, hs, hx, hr2]
  refine hK _ _ (h v' w' ?_ ((Off.refl _ _).grown h3 (fun k hk => .inl hk)))
  unfold RowB
  rw [zs_size, zs_cells] at h2
  rw [List.length_append, List.length_replicate]
  unfold bys at h2 ⊢
  rw [List.map_append]
  exact h2
end Go.Proofs.Ytpdjenkacefpjaa
