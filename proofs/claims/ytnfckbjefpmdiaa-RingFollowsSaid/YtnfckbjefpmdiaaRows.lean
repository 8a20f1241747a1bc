/-
  No cell of these rows narrows 'for every input' (looked for: loops, veiled, ifaces, maps, wideKeys, modest, calm, conditions, laid).
  DERIVED. THE GIVEN ROWS OF THIS SEAT. 5 by the template 'for every input the law returns true; each argument reads behind the call as it read before'; 0 by the template 'total and deterministic' (their statements: YtnfckbjefpmdiaaTotals.lean).
  GIVEN WITH THE SEED: the statements are not yours to turn. If you find one false, say at which input.
  Laid BY PROGRAM, IN A SANDBOX (cutbox-rows.mjs): the forced cells as the released guide's own fill.sh prints them over the translation 365312188b984ca5… (all of the seat's roots in one cut). By AI agents, Wed Nov 11 2026. No macro, syntax, notation, axiom, sorry.
-/
import Derived.Test.YtnfckbjefpmdiaaChecked
import GoSem.Claim
import GoSem.ClaimJoined
import GoSem.ClaimMapViews
import Derived.JoinedTies
import Derived.KernelRfl
namespace Go.Proofs.Ytnfckbjefpmdiaa
/- THE CELL 'sum', in the pinned program and in every row, IS THE sha256 OF THE DUMP (.gsa) THAT YtnfckbjefpmdiaaProg.lean LOADS. Nothing in Lean hashes anything: it is a label: what it is worth is what the hold of that sum in a sandbox is worth. -/
noncomputable def Try.pinned : Pinned := { name := "ytnfckbjefpmdiaa", sum := "365312188b984ca5bcd8c42fc854b1229ebb0cb44c75943a45e0d3cfaa1c6df4", checked := Try.checked }
namespace Rows
def none {H : Type} : Left H := { results := [], args := [] }

/-- 'donjonlaw6.RingGates': WHATEVER THE INPUT: true; the input reads as it did. -/
def ringGatesSpec : ChangeSpec := { name := "ringGates", fn := fun _ => fun
  | [d1, d2, d3] => { results := [.lit (.bool true)], args := [d1, d2, d3] }
  | _ => none }
def ringGatesRow : OpenClaim := { program := "ytnfckbjefpmdiaa", sum := "365312188b984ca5bcd8c42fc854b1229ebb0cb44c75943a45e0d3cfaa1c6df4", func := "donjon/donjonlaw6.RingGates", spec := "ringGates", apart := false }
def RingGatesSaid : Prop := ringGatesRow.holds Try.pinned (OpenSpec.ofChange ringGatesSpec)

/-- ITS FALSE NEIGHBOUR: 'it returns false'. Refute it at one input. -/
def ringGatesWrong : ChangeSpec := { name := "ringGates", fn := fun _ => fun
  | [d1, d2, d3] => { results := [.lit (.bool false)], args := [d1, d2, d3] }
  | _ => none }
def RingGatesWrongFalsely : Prop := ringGatesRow.holds Try.pinned (OpenSpec.ofChange ringGatesWrong)

/-- 'donjonlaw6.RingModes': WHATEVER THE INPUT: true; the input reads as it did. -/
def ringModesSpec : ChangeSpec := { name := "ringModes", fn := fun _ => fun
  | [d1, d2] => { results := [.lit (.bool true)], args := [d1, d2] }
  | _ => none }
def ringModesRow : OpenClaim := { program := "ytnfckbjefpmdiaa", sum := "365312188b984ca5bcd8c42fc854b1229ebb0cb44c75943a45e0d3cfaa1c6df4", func := "donjon/donjonlaw6.RingModes", spec := "ringModes", apart := false }
def RingModesSaid : Prop := ringModesRow.holds Try.pinned (OpenSpec.ofChange ringModesSpec)

/-- ITS FALSE NEIGHBOUR: 'it returns false'. Refute it at one input. -/
def ringModesWrong : ChangeSpec := { name := "ringModes", fn := fun _ => fun
  | [d1, d2] => { results := [.lit (.bool false)], args := [d1, d2] }
  | _ => none }
def RingModesWrongFalsely : Prop := ringModesRow.holds Try.pinned (OpenSpec.ofChange ringModesWrong)

/-- 'donjonlaw6.RingFollows': WHATEVER THE INPUT: true; the input reads as it did. -/
def ringFollowsSpec : ChangeSpec := { name := "ringFollows", fn := fun _ => fun
  | [d1, d2, d3] => { results := [.lit (.bool true)], args := [d1, d2, d3] }
  | _ => none }
def ringFollowsRow : OpenClaim := { program := "ytnfckbjefpmdiaa", sum := "365312188b984ca5bcd8c42fc854b1229ebb0cb44c75943a45e0d3cfaa1c6df4", func := "donjon/donjonlaw6.RingFollows", spec := "ringFollows", apart := false }
def RingFollowsSaid : Prop := ringFollowsRow.holds Try.pinned (OpenSpec.ofChange ringFollowsSpec)

/-- ITS FALSE NEIGHBOUR: 'it returns false'. Refute it at one input. -/
def ringFollowsWrong : ChangeSpec := { name := "ringFollows", fn := fun _ => fun
  | [d1, d2, d3] => { results := [.lit (.bool false)], args := [d1, d2, d3] }
  | _ => none }
def RingFollowsWrongFalsely : Prop := ringFollowsRow.holds Try.pinned (OpenSpec.ofChange ringFollowsWrong)

/-- 'donjonlaw6.RingBounds': WHATEVER THE INPUT: true; the input reads as it did. -/
def ringBoundsSpec : ChangeSpec := { name := "ringBounds", fn := fun _ => fun
  | [d1, d2, d3] => { results := [.lit (.bool true)], args := [d1, d2, d3] }
  | _ => none }
def ringBoundsRow : OpenClaim := { program := "ytnfckbjefpmdiaa", sum := "365312188b984ca5bcd8c42fc854b1229ebb0cb44c75943a45e0d3cfaa1c6df4", func := "donjon/donjonlaw6.RingBounds", spec := "ringBounds", apart := false }
def RingBoundsSaid : Prop := ringBoundsRow.holds Try.pinned (OpenSpec.ofChange ringBoundsSpec)

/-- ITS FALSE NEIGHBOUR: 'it returns false'. Refute it at one input. -/
def ringBoundsWrong : ChangeSpec := { name := "ringBounds", fn := fun _ => fun
  | [d1, d2, d3] => { results := [.lit (.bool false)], args := [d1, d2, d3] }
  | _ => none }
def RingBoundsWrongFalsely : Prop := ringBoundsRow.holds Try.pinned (OpenSpec.ofChange ringBoundsWrong)

/-- 'donjonlaw6.RingAsks': WHATEVER THE INPUT: true; the input reads as it did. -/
def ringAsksSpec : ChangeSpec := { name := "ringAsks", fn := fun _ => fun
  | [d1, d2, d3, d4] => { results := [.lit (.bool true)], args := [d1, d2, d3, d4] }
  | _ => none }
def ringAsksRow : OpenClaim := { program := "ytnfckbjefpmdiaa", sum := "365312188b984ca5bcd8c42fc854b1229ebb0cb44c75943a45e0d3cfaa1c6df4", func := "donjon/donjonlaw6.RingAsks", spec := "ringAsks", apart := false }
def RingAsksSaid : Prop := ringAsksRow.holds Try.pinned (OpenSpec.ofChange ringAsksSpec)

/-- ITS FALSE NEIGHBOUR: 'it returns false'. Refute it at one input. -/
def ringAsksWrong : ChangeSpec := { name := "ringAsks", fn := fun _ => fun
  | [d1, d2, d3, d4] => { results := [.lit (.bool false)], args := [d1, d2, d3, d4] }
  | _ => none }
def RingAsksWrongFalsely : Prop := ringAsksRow.holds Try.pinned (OpenSpec.ofChange ringAsksWrong)

/- THE SECOND FORM. 'bulk': how many values and letters a reading holds, each counted each time it is reached (what is shared counts as often as it is met; a slice's spare places count too). A statement '..UptoSaid' is the law's where the arguments, and the package variables that the reading takes, are together of bulk at most 1048576: NARROWER than '..Said'. Prove '..Said' where nothing that the law and all that it calls make is longer than what came in: it says more and counts as full. Else prove '..UptoSaid'. A law counts once. -/
mutual
def uptoBulk {H : Type} : DataW H → Nat
  | .lit (.string bytes) => bytes.length + 1
  | .lit _ => 1
  | .nil => 1
  | .ptr d => uptoBulk d + 1
  | .slice elems spare => uptoBulkAll elems + uptoBulkAll spare + 1
  | .agg parts => uptoBulkAll parts + 1
  | .iface _ d => uptoBulk d + 1
  | .map entries => uptoBulkEntries entries + 1
  | .held _ => 1
def uptoBulkAll {H : Type} : List (DataW H) → Nat
  | [] => 0
  | d :: r => uptoBulk d + uptoBulkAll r
def uptoBulkEntries {H : Type} : List (Lit × DataW H) → Nat
  | [] => 0
  | x :: r => uptoBulkEntry x + uptoBulkEntries r
def uptoBulkEntry {H : Type} : Lit × DataW H → Nat
  | (.string bytes, d) => bytes.length + uptoBulk d + 1
  | (_, d) => uptoBulk d + 1
 end
def uptoSmall : (H : Type) → List (DataW H) → Bool := fun _ ds => decide (uptoBulkAll ds ≤ 1048576)
def OpenSpec.upto (s : _root_.Go.ChangeSpec) : _root_.Go.OpenSpec := { _root_.Go.OpenSpec.ofChange s with cond := some uptoSmall }

/-- 'donjonlaw6.RingGates', WHERE WHAT IT READS IS OF BULK AT MOST 1048576: true; the input reads as it did. -/
def ringGatesUptoRow : OpenClaim := { program := "ytnfckbjefpmdiaa", sum := "365312188b984ca5bcd8c42fc854b1229ebb0cb44c75943a45e0d3cfaa1c6df4", func := "donjon/donjonlaw6.RingGates", spec := "ringGates", apart := false, narrowed := true }
def RingGatesUptoSaid : Prop := ringGatesUptoRow.holds Try.pinned (OpenSpec.upto ringGatesSpec)

/-- 'donjonlaw6.RingModes', WHERE WHAT IT READS IS OF BULK AT MOST 1048576: true; the input reads as it did. -/
def ringModesUptoRow : OpenClaim := { program := "ytnfckbjefpmdiaa", sum := "365312188b984ca5bcd8c42fc854b1229ebb0cb44c75943a45e0d3cfaa1c6df4", func := "donjon/donjonlaw6.RingModes", spec := "ringModes", apart := false, narrowed := true }
def RingModesUptoSaid : Prop := ringModesUptoRow.holds Try.pinned (OpenSpec.upto ringModesSpec)

/-- 'donjonlaw6.RingFollows', WHERE WHAT IT READS IS OF BULK AT MOST 1048576: true; the input reads as it did. -/
def ringFollowsUptoRow : OpenClaim := { program := "ytnfckbjefpmdiaa", sum := "365312188b984ca5bcd8c42fc854b1229ebb0cb44c75943a45e0d3cfaa1c6df4", func := "donjon/donjonlaw6.RingFollows", spec := "ringFollows", apart := false, narrowed := true }
def RingFollowsUptoSaid : Prop := ringFollowsUptoRow.holds Try.pinned (OpenSpec.upto ringFollowsSpec)

/-- 'donjonlaw6.RingBounds', WHERE WHAT IT READS IS OF BULK AT MOST 1048576: true; the input reads as it did. -/
def ringBoundsUptoRow : OpenClaim := { program := "ytnfckbjefpmdiaa", sum := "365312188b984ca5bcd8c42fc854b1229ebb0cb44c75943a45e0d3cfaa1c6df4", func := "donjon/donjonlaw6.RingBounds", spec := "ringBounds", apart := false, narrowed := true }
def RingBoundsUptoSaid : Prop := ringBoundsUptoRow.holds Try.pinned (OpenSpec.upto ringBoundsSpec)

/-- 'donjonlaw6.RingAsks', WHERE WHAT IT READS IS OF BULK AT MOST 1048576: true; the input reads as it did. -/
def ringAsksUptoRow : OpenClaim := { program := "ytnfckbjefpmdiaa", sum := "365312188b984ca5bcd8c42fc854b1229ebb0cb44c75943a45e0d3cfaa1c6df4", func := "donjon/donjonlaw6.RingAsks", spec := "ringAsks", apart := false, narrowed := true }
def RingAsksUptoSaid : Prop := ringAsksUptoRow.holds Try.pinned (OpenSpec.upto ringAsksSpec)

end Rows
end Go.Proofs.Ytnfckbjefpmdiaa
