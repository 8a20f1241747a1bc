/- CpuConverts: the law's walk. -/
import Derived.Test.YtiakonmamkfopaaCpuYC0
import Derived.Test.YtiakonmamkfopaaCpuYC1
import Derived.Test.YtiakonmamkfopaaCpuYC2
namespace Go.Proofs.Ytiakonmamkfopaa
open Go.RowKit Go.ChangeShapes
set_option linter.unusedVariables false

theorem law_CpuConverts (a : Int) (wa : (Lit.int .i64 a).wf = true) (fix : Bool) (w : World) : Calls Try.prog 8 #[.int .i64 a, .bool fix] w fun e w' => e = .returned (.bool true) ∧ Below w.heap.size w w' := by
  cases fix
  · exact lawC0 a wa trivial w
  · by_cases hc : toIntE a = 0
    · exact lawC1 a wa hc w
    · exact lawC2 a wa hc w
end Go.Proofs.Ytiakonmamkfopaa
