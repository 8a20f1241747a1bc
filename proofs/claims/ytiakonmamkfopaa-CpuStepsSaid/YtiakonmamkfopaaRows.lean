/-
  No cell of these rows narrows 'for every input' (looked for: loops, veiled, ifaces, maps, wideKeys, modest, calm, conditions, laid).
  DERIVED. THE GIVEN ROWS OF THIS SEAT. 11 by the template 'for every input the law returns true; each argument reads behind the call as it read before'; 0 by the template 'total and deterministic' (their statements: YtiakonmamkfopaaTotals.lean).
  GIVEN WITH THE SEED: the statements are not yours to turn. If you find one false, say at which input.
  Laid BY PROGRAM, IN A SANDBOX (cutbox-rows.mjs): the forced cells as the released guide's own fill.sh prints them over the translation 4dacda4bfc41bf94… (all of the seat's roots in one cut). By AI agents, Wed Nov 11 2026. No macro, syntax, notation, axiom, sorry.
-/
import Derived.Test.YtiakonmamkfopaaChecked
import GoSem.Claim
import GoSem.ClaimJoined
import GoSem.ClaimMapViews
import Derived.JoinedTies
import Derived.KernelRfl
namespace Go.Proofs.Ytiakonmamkfopaa
/- THE CELL 'sum', in the pinned program and in every row, IS THE sha256 OF THE DUMP (.gsa) THAT YtiakonmamkfopaaProg.lean LOADS. Nothing in Lean hashes anything: it is a label: what it is worth is what the hold of that sum in a sandbox is worth. -/
noncomputable def Try.pinned : Pinned := { name := "ytiakonmamkfopaa", sum := "4dacda4bfc41bf940cf419375cb8f347fc8eff6163d1f6769a873826f7946318", checked := Try.checked }
namespace Rows
def none {H : Type} : Left H := { results := [], args := [] }

/-- 'donjonlaw16.CpuSteps': WHATEVER THE INPUT: true; the input reads as it did. -/
def cpuStepsSpec : ChangeSpec := { name := "cpuSteps", fn := fun _ => fun
  | [d1, d2, d3] => { results := [.lit (.bool true)], args := [d1, d2, d3] }
  | _ => none }
def cpuStepsRow : OpenClaim := { program := "ytiakonmamkfopaa", sum := "4dacda4bfc41bf940cf419375cb8f347fc8eff6163d1f6769a873826f7946318", func := "donjon/donjonlaw16.CpuSteps", spec := "cpuSteps", inPlace := ["math.Float64bits", "math.Float64frombits"], unfollowed := true, recurses := true, apart := false }
def CpuStepsSaid : Prop := cpuStepsRow.holds Try.pinned (OpenSpec.ofChange cpuStepsSpec)

/-- ITS FALSE NEIGHBOUR: 'it returns false'. Refute it at one input. -/
def cpuStepsWrong : ChangeSpec := { name := "cpuSteps", fn := fun _ => fun
  | [d1, d2, d3] => { results := [.lit (.bool false)], args := [d1, d2, d3] }
  | _ => none }
def CpuStepsWrongFalsely : Prop := cpuStepsRow.holds Try.pinned (OpenSpec.ofChange cpuStepsWrong)

/-- 'donjonlaw16.CpuRings': WHATEVER THE INPUT: true; the input reads as it did. -/
def cpuRingsSpec : ChangeSpec := { name := "cpuRings", fn := fun _ => fun
  | [d1, d2, d3] => { results := [.lit (.bool true)], args := [d1, d2, d3] }
  | _ => none }
def cpuRingsRow : OpenClaim := { program := "ytiakonmamkfopaa", sum := "4dacda4bfc41bf940cf419375cb8f347fc8eff6163d1f6769a873826f7946318", func := "donjon/donjonlaw16.CpuRings", spec := "cpuRings", inPlace := ["math.Float64bits", "math.Float64frombits"], unfollowed := true, recurses := true, apart := false }
def CpuRingsSaid : Prop := cpuRingsRow.holds Try.pinned (OpenSpec.ofChange cpuRingsSpec)

/-- ITS FALSE NEIGHBOUR: 'it returns false'. Refute it at one input. -/
def cpuRingsWrong : ChangeSpec := { name := "cpuRings", fn := fun _ => fun
  | [d1, d2, d3] => { results := [.lit (.bool false)], args := [d1, d2, d3] }
  | _ => none }
def CpuRingsWrongFalsely : Prop := cpuRingsRow.holds Try.pinned (OpenSpec.ofChange cpuRingsWrong)

/-- 'donjonlaw16.CpuHalts': WHATEVER THE INPUT: true; the input reads as it did. -/
def cpuHaltsSpec : ChangeSpec := { name := "cpuHalts", fn := fun _ => fun
  | [d1, d2] => { results := [.lit (.bool true)], args := [d1, d2] }
  | _ => none }
def cpuHaltsRow : OpenClaim := { program := "ytiakonmamkfopaa", sum := "4dacda4bfc41bf940cf419375cb8f347fc8eff6163d1f6769a873826f7946318", func := "donjon/donjonlaw16.CpuHalts", spec := "cpuHalts", inPlace := ["math.Float64bits", "math.Float64frombits"], unfollowed := true, recurses := true, apart := false }
def CpuHaltsSaid : Prop := cpuHaltsRow.holds Try.pinned (OpenSpec.ofChange cpuHaltsSpec)

/-- ITS FALSE NEIGHBOUR: 'it returns false'. Refute it at one input. -/
def cpuHaltsWrong : ChangeSpec := { name := "cpuHalts", fn := fun _ => fun
  | [d1, d2] => { results := [.lit (.bool false)], args := [d1, d2] }
  | _ => none }
def CpuHaltsWrongFalsely : Prop := cpuHaltsRow.holds Try.pinned (OpenSpec.ofChange cpuHaltsWrong)

/-- 'donjonlaw16.CpuFaults': WHATEVER THE INPUT: true; the input reads as it did. -/
def cpuFaultsSpec : ChangeSpec := { name := "cpuFaults", fn := fun _ => fun
  | [d1, d2, d3] => { results := [.lit (.bool true)], args := [d1, d2, d3] }
  | _ => none }
def cpuFaultsRow : OpenClaim := { program := "ytiakonmamkfopaa", sum := "4dacda4bfc41bf940cf419375cb8f347fc8eff6163d1f6769a873826f7946318", func := "donjon/donjonlaw16.CpuFaults", spec := "cpuFaults", inPlace := ["math.Float64bits", "math.Float64frombits"], unfollowed := true, recurses := true, apart := false }
def CpuFaultsSaid : Prop := cpuFaultsRow.holds Try.pinned (OpenSpec.ofChange cpuFaultsSpec)

/-- ITS FALSE NEIGHBOUR: 'it returns false'. Refute it at one input. -/
def cpuFaultsWrong : ChangeSpec := { name := "cpuFaults", fn := fun _ => fun
  | [d1, d2, d3] => { results := [.lit (.bool false)], args := [d1, d2, d3] }
  | _ => none }
def CpuFaultsWrongFalsely : Prop := cpuFaultsRow.holds Try.pinned (OpenSpec.ofChange cpuFaultsWrong)

/-- 'donjonlaw16.CpuFloats': WHATEVER THE INPUT: true; the input reads as it did. -/
def cpuFloatsSpec : ChangeSpec := { name := "cpuFloats", fn := fun _ => fun
  | [d1, d2, d3] => { results := [.lit (.bool true)], args := [d1, d2, d3] }
  | _ => none }
def cpuFloatsRow : OpenClaim := { program := "ytiakonmamkfopaa", sum := "4dacda4bfc41bf940cf419375cb8f347fc8eff6163d1f6769a873826f7946318", func := "donjon/donjonlaw16.CpuFloats", spec := "cpuFloats", inPlace := ["math.Float64bits", "math.Float64frombits"], unfollowed := true, recurses := true, apart := false }
def CpuFloatsSaid : Prop := cpuFloatsRow.holds Try.pinned (OpenSpec.ofChange cpuFloatsSpec)

/-- ITS FALSE NEIGHBOUR: 'it returns false'. Refute it at one input. -/
def cpuFloatsWrong : ChangeSpec := { name := "cpuFloats", fn := fun _ => fun
  | [d1, d2, d3] => { results := [.lit (.bool false)], args := [d1, d2, d3] }
  | _ => none }
def CpuFloatsWrongFalsely : Prop := cpuFloatsRow.holds Try.pinned (OpenSpec.ofChange cpuFloatsWrong)

/-- 'donjonlaw16.CpuConverts': WHATEVER THE INPUT: true; the input reads as it did. -/
def cpuConvertsSpec : ChangeSpec := { name := "cpuConverts", fn := fun _ => fun
  | [d1, d2] => { results := [.lit (.bool true)], args := [d1, d2] }
  | _ => none }
def cpuConvertsRow : OpenClaim := { program := "ytiakonmamkfopaa", sum := "4dacda4bfc41bf940cf419375cb8f347fc8eff6163d1f6769a873826f7946318", func := "donjon/donjonlaw16.CpuConverts", spec := "cpuConverts", inPlace := ["math.Float64bits", "math.Float64frombits"], unfollowed := true, recurses := true, apart := false }
def CpuConvertsSaid : Prop := cpuConvertsRow.holds Try.pinned (OpenSpec.ofChange cpuConvertsSpec)

/-- ITS FALSE NEIGHBOUR: 'it returns false'. Refute it at one input. -/
def cpuConvertsWrong : ChangeSpec := { name := "cpuConverts", fn := fun _ => fun
  | [d1, d2] => { results := [.lit (.bool false)], args := [d1, d2] }
  | _ => none }
def CpuConvertsWrongFalsely : Prop := cpuConvertsRow.holds Try.pinned (OpenSpec.ofChange cpuConvertsWrong)

/-- 'donjonlaw16.CpuJumps': WHATEVER THE INPUT: true; the input reads as it did. -/
def cpuJumpsSpec : ChangeSpec := { name := "cpuJumps", fn := fun _ => fun
  | [d1, d2, d3] => { results := [.lit (.bool true)], args := [d1, d2, d3] }
  | _ => none }
def cpuJumpsRow : OpenClaim := { program := "ytiakonmamkfopaa", sum := "4dacda4bfc41bf940cf419375cb8f347fc8eff6163d1f6769a873826f7946318", func := "donjon/donjonlaw16.CpuJumps", spec := "cpuJumps", inPlace := ["math.Float64bits", "math.Float64frombits"], unfollowed := true, recurses := true, apart := false }
def CpuJumpsSaid : Prop := cpuJumpsRow.holds Try.pinned (OpenSpec.ofChange cpuJumpsSpec)

/-- ITS FALSE NEIGHBOUR: 'it returns false'. Refute it at one input. -/
def cpuJumpsWrong : ChangeSpec := { name := "cpuJumps", fn := fun _ => fun
  | [d1, d2, d3] => { results := [.lit (.bool false)], args := [d1, d2, d3] }
  | _ => none }
def CpuJumpsWrongFalsely : Prop := cpuJumpsRow.holds Try.pinned (OpenSpec.ofChange cpuJumpsWrong)

/-- 'donjonlaw16.CpuPointers': WHATEVER THE INPUT: true; the input reads as it did. -/
def cpuPointersSpec : ChangeSpec := { name := "cpuPointers", fn := fun _ => fun
  | [d1, d2, d3] => { results := [.lit (.bool true)], args := [d1, d2, d3] }
  | _ => none }
def cpuPointersRow : OpenClaim := { program := "ytiakonmamkfopaa", sum := "4dacda4bfc41bf940cf419375cb8f347fc8eff6163d1f6769a873826f7946318", func := "donjon/donjonlaw16.CpuPointers", spec := "cpuPointers", inPlace := ["math.Float64bits", "math.Float64frombits"], unfollowed := true, recurses := true, apart := false }
def CpuPointersSaid : Prop := cpuPointersRow.holds Try.pinned (OpenSpec.ofChange cpuPointersSpec)

/-- ITS FALSE NEIGHBOUR: 'it returns false'. Refute it at one input. -/
def cpuPointersWrong : ChangeSpec := { name := "cpuPointers", fn := fun _ => fun
  | [d1, d2, d3] => { results := [.lit (.bool false)], args := [d1, d2, d3] }
  | _ => none }
def CpuPointersWrongFalsely : Prop := cpuPointersRow.holds Try.pinned (OpenSpec.ofChange cpuPointersWrong)

/-- 'donjonlaw16.CpuStack': WHATEVER THE INPUT: true; the input reads as it did. -/
def cpuStackSpec : ChangeSpec := { name := "cpuStack", fn := fun _ => fun
  | [d] => { results := [.lit (.bool true)], args := [d] }
  | _ => none }
def cpuStackRow : OpenClaim := { program := "ytiakonmamkfopaa", sum := "4dacda4bfc41bf940cf419375cb8f347fc8eff6163d1f6769a873826f7946318", func := "donjon/donjonlaw16.CpuStack", spec := "cpuStack", inPlace := ["math.Float64bits", "math.Float64frombits"], unfollowed := true, recurses := true, apart := false }
def CpuStackSaid : Prop := cpuStackRow.holds Try.pinned (OpenSpec.ofChange cpuStackSpec)

/-- ITS FALSE NEIGHBOUR: 'it returns false'. Refute it at one input. -/
def cpuStackWrong : ChangeSpec := { name := "cpuStack", fn := fun _ => fun
  | [d] => { results := [.lit (.bool false)], args := [d] }
  | _ => none }
def CpuStackWrongFalsely : Prop := cpuStackRow.holds Try.pinned (OpenSpec.ofChange cpuStackWrong)

/-- 'donjonlaw16.CpuBounds': WHATEVER THE INPUT: true; the input reads as it did. -/
def cpuBoundsSpec : ChangeSpec := { name := "cpuBounds", fn := fun _ => fun
  | [d1, d2, d3, d4] => { results := [.lit (.bool true)], args := [d1, d2, d3, d4] }
  | _ => none }
def cpuBoundsRow : OpenClaim := { program := "ytiakonmamkfopaa", sum := "4dacda4bfc41bf940cf419375cb8f347fc8eff6163d1f6769a873826f7946318", func := "donjon/donjonlaw16.CpuBounds", spec := "cpuBounds", inPlace := ["math.Float64bits", "math.Float64frombits"], unfollowed := true, recurses := true, apart := false }
def CpuBoundsSaid : Prop := cpuBoundsRow.holds Try.pinned (OpenSpec.ofChange cpuBoundsSpec)

/-- ITS FALSE NEIGHBOUR: 'it returns false'. Refute it at one input. -/
def cpuBoundsWrong : ChangeSpec := { name := "cpuBounds", fn := fun _ => fun
  | [d1, d2, d3, d4] => { results := [.lit (.bool false)], args := [d1, d2, d3, d4] }
  | _ => none }
def CpuBoundsWrongFalsely : Prop := cpuBoundsRow.holds Try.pinned (OpenSpec.ofChange cpuBoundsWrong)

/-- 'donjonlaw16.CpuModes': WHATEVER THE INPUT: true; the input reads as it did. -/
def cpuModesSpec : ChangeSpec := { name := "cpuModes", fn := fun _ => fun
  | [d1, d2, d3, d4] => { results := [.lit (.bool true)], args := [d1, d2, d3, d4] }
  | _ => none }
def cpuModesRow : OpenClaim := { program := "ytiakonmamkfopaa", sum := "4dacda4bfc41bf940cf419375cb8f347fc8eff6163d1f6769a873826f7946318", func := "donjon/donjonlaw16.CpuModes", spec := "cpuModes", inPlace := ["math.Float64bits", "math.Float64frombits"], unfollowed := true, recurses := true, apart := false }
def CpuModesSaid : Prop := cpuModesRow.holds Try.pinned (OpenSpec.ofChange cpuModesSpec)

/-- ITS FALSE NEIGHBOUR: 'it returns false'. Refute it at one input. -/
def cpuModesWrong : ChangeSpec := { name := "cpuModes", fn := fun _ => fun
  | [d1, d2, d3, d4] => { results := [.lit (.bool false)], args := [d1, d2, d3, d4] }
  | _ => none }
def CpuModesWrongFalsely : Prop := cpuModesRow.holds Try.pinned (OpenSpec.ofChange cpuModesWrong)

/- THE SECOND FORM. 'bulk': how many values and letters a reading holds, each counted each time it is reached (what is shared counts as often as it is met; a slice's spare places count too). A statement '..UptoSaid' is the law's where the arguments, and the package variables that the reading takes, are together of bulk at most 1048576: NARROWER than '..Said'. Prove '..Said' where nothing that the law and all that it calls make is longer than what came in: it says more and counts as full. Else prove '..UptoSaid'. A law counts once. -/
mutual
def uptoBulk {H : Type} : DataW H → Nat
  | .lit (.string bytes) => bytes.length + 1
  | .lit _ => 1
  | .nil => 1
  | .ptr d => uptoBulk d + 1
  | .slice elems spare => uptoBulkAll elems + uptoBulkAll spare + 1
  | .agg parts => uptoBulkAll parts + 1
  | .iface _ d => uptoBulk d + 1
  | .map entries => uptoBulkEntries entries + 1
  | .held _ => 1
def uptoBulkAll {H : Type} : List (DataW H) → Nat
  | [] => 0
  | d :: r => uptoBulk d + uptoBulkAll r
def uptoBulkEntries {H : Type} : List (Lit × DataW H) → Nat
  | [] => 0
  | x :: r => uptoBulkEntry x + uptoBulkEntries r
def uptoBulkEntry {H : Type} : Lit × DataW H → Nat
  | (.string bytes, d) => bytes.length + uptoBulk d + 1
  | (_, d) => uptoBulk d + 1
 end
def uptoSmall : (H : Type) → List (DataW H) → Bool := fun _ ds => decide (uptoBulkAll ds ≤ 1048576)
def OpenSpec.upto (s : _root_.Go.ChangeSpec) : _root_.Go.OpenSpec := { _root_.Go.OpenSpec.ofChange s with cond := some uptoSmall }

/-- 'donjonlaw16.CpuSteps', WHERE WHAT IT READS IS OF BULK AT MOST 1048576: true; the input reads as it did. -/
def cpuStepsUptoRow : OpenClaim := { program := "ytiakonmamkfopaa", sum := "4dacda4bfc41bf940cf419375cb8f347fc8eff6163d1f6769a873826f7946318", func := "donjon/donjonlaw16.CpuSteps", spec := "cpuSteps", inPlace := ["math.Float64bits", "math.Float64frombits"], unfollowed := true, recurses := true, apart := false, narrowed := true }
def CpuStepsUptoSaid : Prop := cpuStepsUptoRow.holds Try.pinned (OpenSpec.upto cpuStepsSpec)

/-- 'donjonlaw16.CpuRings', WHERE WHAT IT READS IS OF BULK AT MOST 1048576: true; the input reads as it did. -/
def cpuRingsUptoRow : OpenClaim := { program := "ytiakonmamkfopaa", sum := "4dacda4bfc41bf940cf419375cb8f347fc8eff6163d1f6769a873826f7946318", func := "donjon/donjonlaw16.CpuRings", spec := "cpuRings", inPlace := ["math.Float64bits", "math.Float64frombits"], unfollowed := true, recurses := true, apart := false, narrowed := true }
def CpuRingsUptoSaid : Prop := cpuRingsUptoRow.holds Try.pinned (OpenSpec.upto cpuRingsSpec)

/-- 'donjonlaw16.CpuHalts', WHERE WHAT IT READS IS OF BULK AT MOST 1048576: true; the input reads as it did. -/
def cpuHaltsUptoRow : OpenClaim := { program := "ytiakonmamkfopaa", sum := "4dacda4bfc41bf940cf419375cb8f347fc8eff6163d1f6769a873826f7946318", func := "donjon/donjonlaw16.CpuHalts", spec := "cpuHalts", inPlace := ["math.Float64bits", "math.Float64frombits"], unfollowed := true, recurses := true, apart := false, narrowed := true }
def CpuHaltsUptoSaid : Prop := cpuHaltsUptoRow.holds Try.pinned (OpenSpec.upto cpuHaltsSpec)

/-- 'donjonlaw16.CpuFaults', WHERE WHAT IT READS IS OF BULK AT MOST 1048576: true; the input reads as it did. -/
def cpuFaultsUptoRow : OpenClaim := { program := "ytiakonmamkfopaa", sum := "4dacda4bfc41bf940cf419375cb8f347fc8eff6163d1f6769a873826f7946318", func := "donjon/donjonlaw16.CpuFaults", spec := "cpuFaults", inPlace := ["math.Float64bits", "math.Float64frombits"], unfollowed := true, recurses := true, apart := false, narrowed := true }
def CpuFaultsUptoSaid : Prop := cpuFaultsUptoRow.holds Try.pinned (OpenSpec.upto cpuFaultsSpec)

/-- 'donjonlaw16.CpuFloats', WHERE WHAT IT READS IS OF BULK AT MOST 1048576: true; the input reads as it did. -/
def cpuFloatsUptoRow : OpenClaim := { program := "ytiakonmamkfopaa", sum := "4dacda4bfc41bf940cf419375cb8f347fc8eff6163d1f6769a873826f7946318", func := "donjon/donjonlaw16.CpuFloats", spec := "cpuFloats", inPlace := ["math.Float64bits", "math.Float64frombits"], unfollowed := true, recurses := true, apart := false, narrowed := true }
def CpuFloatsUptoSaid : Prop := cpuFloatsUptoRow.holds Try.pinned (OpenSpec.upto cpuFloatsSpec)

/-- 'donjonlaw16.CpuConverts', WHERE WHAT IT READS IS OF BULK AT MOST 1048576: true; the input reads as it did. -/
def cpuConvertsUptoRow : OpenClaim := { program := "ytiakonmamkfopaa", sum := "4dacda4bfc41bf940cf419375cb8f347fc8eff6163d1f6769a873826f7946318", func := "donjon/donjonlaw16.CpuConverts", spec := "cpuConverts", inPlace := ["math.Float64bits", "math.Float64frombits"], unfollowed := true, recurses := true, apart := false, narrowed := true }
def CpuConvertsUptoSaid : Prop := cpuConvertsUptoRow.holds Try.pinned (OpenSpec.upto cpuConvertsSpec)

/-- 'donjonlaw16.CpuJumps', WHERE WHAT IT READS IS OF BULK AT MOST 1048576: true; the input reads as it did. -/
def cpuJumpsUptoRow : OpenClaim := { program := "ytiakonmamkfopaa", sum := "4dacda4bfc41bf940cf419375cb8f347fc8eff6163d1f6769a873826f7946318", func := "donjon/donjonlaw16.CpuJumps", spec := "cpuJumps", inPlace := ["math.Float64bits", "math.Float64frombits"], unfollowed := true, recurses := true, apart := false, narrowed := true }
def CpuJumpsUptoSaid : Prop := cpuJumpsUptoRow.holds Try.pinned (OpenSpec.upto cpuJumpsSpec)

/-- 'donjonlaw16.CpuPointers', WHERE WHAT IT READS IS OF BULK AT MOST 1048576: true; the input reads as it did. -/
def cpuPointersUptoRow : OpenClaim := { program := "ytiakonmamkfopaa", sum := "4dacda4bfc41bf940cf419375cb8f347fc8eff6163d1f6769a873826f7946318", func := "donjon/donjonlaw16.CpuPointers", spec := "cpuPointers", inPlace := ["math.Float64bits", "math.Float64frombits"], unfollowed := true, recurses := true, apart := false, narrowed := true }
def CpuPointersUptoSaid : Prop := cpuPointersUptoRow.holds Try.pinned (OpenSpec.upto cpuPointersSpec)

/-- 'donjonlaw16.CpuStack', WHERE WHAT IT READS IS OF BULK AT MOST 1048576: true; the input reads as it did. -/
def cpuStackUptoRow : OpenClaim := { program := "ytiakonmamkfopaa", sum := "4dacda4bfc41bf940cf419375cb8f347fc8eff6163d1f6769a873826f7946318", func := "donjon/donjonlaw16.CpuStack", spec := "cpuStack", inPlace := ["math.Float64bits", "math.Float64frombits"], unfollowed := true, recurses := true, apart := false, narrowed := true }
def CpuStackUptoSaid : Prop := cpuStackUptoRow.holds Try.pinned (OpenSpec.upto cpuStackSpec)

/-- 'donjonlaw16.CpuBounds', WHERE WHAT IT READS IS OF BULK AT MOST 1048576: true; the input reads as it did. -/
def cpuBoundsUptoRow : OpenClaim := { program := "ytiakonmamkfopaa", sum := "4dacda4bfc41bf940cf419375cb8f347fc8eff6163d1f6769a873826f7946318", func := "donjon/donjonlaw16.CpuBounds", spec := "cpuBounds", inPlace := ["math.Float64bits", "math.Float64frombits"], unfollowed := true, recurses := true, apart := false, narrowed := true }
def CpuBoundsUptoSaid : Prop := cpuBoundsUptoRow.holds Try.pinned (OpenSpec.upto cpuBoundsSpec)

/-- 'donjonlaw16.CpuModes', WHERE WHAT IT READS IS OF BULK AT MOST 1048576: true; the input reads as it did. -/
def cpuModesUptoRow : OpenClaim := { program := "ytiakonmamkfopaa", sum := "4dacda4bfc41bf940cf419375cb8f347fc8eff6163d1f6769a873826f7946318", func := "donjon/donjonlaw16.CpuModes", spec := "cpuModes", inPlace := ["math.Float64bits", "math.Float64frombits"], unfollowed := true, recurses := true, apart := false, narrowed := true }
def CpuModesUptoSaid : Prop := cpuModesUptoRow.holds Try.pinned (OpenSpec.upto cpuModesSpec)

end Rows
end Go.Proofs.Ytiakonmamkfopaa
