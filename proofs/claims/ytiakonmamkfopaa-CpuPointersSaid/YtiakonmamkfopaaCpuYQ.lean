/- CpuPointers: the law's walk, its cases together. -/
import Derived.Test.YtiakonmamkfopaaCpuYQ0
import Derived.Test.YtiakonmamkfopaaCpuYQ1
import Derived.Test.YtiakonmamkfopaaCpuYQ2
import Derived.Test.YtiakonmamkfopaaCpuYQ3
namespace Go.Proofs.Ytiakonmamkfopaa
open Go.RowKit Go.ChangeShapes

theorem law_CpuPointers (a x y : Int) (w : World) : Calls Try.prog 10 #[.int .i64 a, .int .i64 x, .int .i64 y] w fun e w' => e = .returned (.bool true) ∧ Below w.heap.size w w' := by
  rcases (show x % 4 = 0 ∨ x % 4 = 1 ∨ x % 4 = 2 ∨ x % 4 = 3 by omega) with h | h | h | h
  · exact lawP0 a x y h w
  · exact lawP1 a x y h w
  · exact lawP2 a x y h w
  · exact lawP3 a x y h w
end Go.Proofs.Ytiakonmamkfopaa
