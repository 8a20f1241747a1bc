/- CpuFloats: the law's walk. -/
import Derived.Test.YtiakonmamkfopaaCpuXF0
import Derived.Test.YtiakonmamkfopaaCpuXF1
import Derived.Test.YtiakonmamkfopaaCpuXF2
import Derived.Test.YtiakonmamkfopaaCpuXF3
import Derived.Test.YtiakonmamkfopaaCpuXF4
namespace Go.Proofs.Ytiakonmamkfopaa
open Go.RowKit Go.ChangeShapes
set_option linter.unusedVariables false

theorem law_CpuFloats (a b op : Int) (w : World) : Calls Try.prog 7 #[.int .i64 a, .int .i64 b, .int .i64 op] w fun e w' => e = .returned (.bool true) ∧ Below w.heap.size w w' := by
  have h1 := Int.emod_nonneg op (show (5 : Int) ≠ 0 by decide)
  have h2 := Int.emod_lt_of_pos op (show (0 : Int) < 5 by decide)
  rcases (show op % 5 = 0 ∨ op % 5 = 1 ∨ op % 5 = 2 ∨ op % 5 = 3 ∨ op % 5 = 4 by omega) with h | h | h | h | h
  · exact lawF0 a b op h w
  · exact lawF1 a b op h w
  · exact lawF2 a b op h w
  · exact lawF3 a b op h w
  · exact lawF4 a b op h w
end Go.Proofs.Ytiakonmamkfopaa
