/- CpuJumps: the law's walk. -/
import Derived.Test.YtiakonmamkfopaaCpuYJ0
import Derived.Test.YtiakonmamkfopaaCpuYJ1
import Derived.Test.YtiakonmamkfopaaCpuYJ2
import Derived.Test.YtiakonmamkfopaaCpuYJ3
import Derived.Test.YtiakonmamkfopaaCpuYJ4
namespace Go.Proofs.Ytiakonmamkfopaa
open Go.RowKit Go.ChangeShapes
set_option linter.unusedVariables false

theorem law_CpuJumps (a x y : Int) (w : World) : Calls Try.prog 9 #[.int .i64 a, .int .i64 x, .int .i64 y] w fun e w' => e = .returned (.bool true) ∧ Below w.heap.size w w' := by
  rcases (show x % 3 = 0 ∨ x % 3 = 1 ∨ x % 3 = 2 by omega) with h | h | h
  · exact lawJ0 a x y trivial h w
  · by_cases hc : a = 0
    · exact lawJ1 a x y hc h w
    · exact lawJ2 a x y hc h w
  · by_cases hc : a < 0
    · exact lawJ3 a x y hc h w
    · exact lawJ4 a x y hc h w
end Go.Proofs.Ytiakonmamkfopaa
