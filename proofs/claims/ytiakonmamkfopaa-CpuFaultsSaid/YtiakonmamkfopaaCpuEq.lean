/- Two arrays of four pointers that are the same. -/
import Derived.Test.YtiakonmamkfopaaCpuX
namespace Go.Proofs.Ytiakonmamkfopaa
open Go.RowKit Go.ChangeShapes
set_option linter.unusedVariables false
set_option maxRecDepth 100000

theorem A.arrU : Try.prog.underlying 25 = some (.array 4 24) := by kernel_rfl
theorem eq_pt (a b c : Int) (w : World) : (Op.equalIn 9999 24 (.agg #[.int .i64 a, .int .i64 b, .int .i64 c]) (.agg #[.int .i64 a, .int .i64 b, .int .i64 c])).run Try.prog w = .ok true w := by
  go_simp
theorem eq_arr (a b c d e f g h i j k l : Int) (w : World) : (Op.equalIn 10000 25 (.agg #[.int .i64 a, .int .i64 b, .int .i64 c, .int .i64 d, .int .i64 e, .int .i64 f, .int .i64 g, .int .i64 h, .int .i64 i, .int .i64 j, .int .i64 k, .int .i64 l]) (.agg #[.int .i64 a, .int .i64 b, .int .i64 c, .int .i64 d, .int .i64 e, .int .i64 f, .int .i64 g, .int .i64 h, .int .i64 i, .int .i64 j, .int .i64 k, .int .i64 l])).run Try.prog w = .ok true w := by
  have p1 := eq_pt a b c
  have p2 := eq_pt d e f
  have p3 := eq_pt g h i
  have p4 := eq_pt j k l
  rw [show (10000 : Nat) = 9999 + 1 from rfl, Op.equalIn]
  simp only [Sem.run_bind, run_underlying A.arrU, Result.andThen_ok]
  simp only [Std.Legacy.Range.forIn_eq_forIn_range', Std.Legacy.Range.size, Nat.sub_zero, Nat.add_sub_cancel, Nat.div_one, List.range'_succ, List.range'_zero, List.forIn_cons, List.forIn_nil]
  go_simp
end Go.Proofs.Ytiakonmamkfopaa
