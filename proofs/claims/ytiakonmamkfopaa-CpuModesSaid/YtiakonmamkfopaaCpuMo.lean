/- CpuModes: the law's walk, its cases together. -/
import Derived.Test.YtiakonmamkfopaaCpuMo0
import Derived.Test.YtiakonmamkfopaaCpuMo1
import Derived.Test.YtiakonmamkfopaaCpuMo2
namespace Go.Proofs.Ytiakonmamkfopaa
open Go.RowKit Go.ChangeShapes

theorem law_CpuModes (a b1 b2 b3 b4 c d : Int) (w : World) : Calls Try.prog 13 #[.int .i64 a, .agg #[.int .i64 b1, .int .i64 b2, .int .i64 b3, .int .i64 b4], .int .i64 c, .int .i64 d] w fun e w' => e = .returned (.bool true) ∧ Below w.heap.size w w' := by
  rcases (show d % 3 = 0 ∨ d % 3 = 1 ∨ d % 3 = 2 by omega) with h | h | h
  · exact lawM0 a b1 b2 b3 b4 c d h w
  · exact lawM1 a b1 b2 b3 b4 c d h w
  · exact lawM2 a b1 b2 b3 b4 c d h w
end Go.Proofs.Ytiakonmamkfopaa
