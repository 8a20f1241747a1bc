/- CpuBounds: the law's walk, its cases together. -/
import Derived.Test.YtiakonmamkfopaaCpuBW0
import Derived.Test.YtiakonmamkfopaaCpuBW1
import Derived.Test.YtiakonmamkfopaaCpuBW2
import Derived.Test.YtiakonmamkfopaaCpuBW3
namespace Go.Proofs.Ytiakonmamkfopaa
open Go.RowKit Go.ChangeShapes

theorem law_CpuBounds (a b c d : Int) (w : World) : Calls Try.prog 12 #[.int .i64 a, .int .i64 b, .int .i64 c, .int .i64 d] w fun e w' => e = .returned (.bool true) ∧ Below w.heap.size w w' := by
  rcases (show c % 4 = 0 ∨ c % 4 = 1 ∨ c % 4 = 2 ∨ c % 4 = 3 by omega) with h | h | h | h
  · exact lawB0 a b c d h w
  · exact lawB1 a b c d h w
  · exact lawB2 a b c d h w
  · exact lawB3 a b c d h w
end Go.Proofs.Ytiakonmamkfopaa
