/-
  No cell of these rows narrows 'for every input' (looked for: loops, veiled, ifaces, maps, wideKeys, modest, calm, conditions, laid).
  DERIVED. THE GIVEN ROWS OF THIS SEAT. 6 by the template 'for every input the law returns true; each argument reads behind the call as it read before'; 0 by the template 'total and deterministic' (their statements: YtpdjenkacefpjaaTotals.lean).
  GIVEN WITH THE SEED: the statements are not yours to turn. If you find one false, say at which input.
  Laid BY PROGRAM, IN A SANDBOX (cutbox-rows.mjs): the forced cells as the released guide's own fill.sh prints them over the translation 18264c7d0eff5c70… (all of the seat's roots in one cut). By AI agents, Wed Nov 11 2026. No macro, syntax, notation, axiom, sorry.
-/
import Derived.Test.YtpdjenkacefpjaaChecked
import GoSem.Claim
import GoSem.ClaimJoined
import GoSem.ClaimMapViews
import Derived.JoinedTies
import Derived.KernelRfl
namespace Go.Proofs.Ytpdjenkacefpjaa
/- THE CELL 'sum', in the pinned program and in every row, IS THE sha256 OF THE DUMP (.gsa) THAT YtpdjenkacefpjaaProg.lean LOADS. Nothing in Lean hashes anything: it is a label: what it is worth is what the hold of that sum in a sandbox is worth. -/
noncomputable def Try.pinned : Pinned := { name := "ytpdjenkacefpjaa", sum := "18264c7d0eff5c70f69b6e5fccc490bde4746a51310d20ae3829d028162718b7", checked := Try.checked }
namespace Rows
def none {H : Type} : Left H := { results := [], args := [] }

/-- 'donjonlaw3.WalPlays': WHATEVER THE INPUT: true; the input reads as it did. -/
def walPlaysSpec : ChangeSpec := { name := "walPlays", fn := fun _ => fun
  | [d1, d2] => { results := [.lit (.bool true)], args := [d1, d2] }
  | _ => none }
def walPlaysRow : OpenClaim := { program := "ytpdjenkacefpjaa", sum := "18264c7d0eff5c70f69b6e5fccc490bde4746a51310d20ae3829d028162718b7", func := "donjon/donjonlaw3.WalPlays", spec := "walPlays", unfollowed := true, recurses := true, apart := false }
def WalPlaysSaid : Prop := walPlaysRow.holds Try.pinned (OpenSpec.ofChange walPlaysSpec)

/-- ITS FALSE NEIGHBOUR: 'it returns false'. Refute it at one input. -/
def walPlaysWrong : ChangeSpec := { name := "walPlays", fn := fun _ => fun
  | [d1, d2] => { results := [.lit (.bool false)], args := [d1, d2] }
  | _ => none }
def WalPlaysWrongFalsely : Prop := walPlaysRow.holds Try.pinned (OpenSpec.ofChange walPlaysWrong)

/-- 'donjonlaw3.WalRefuses': WHATEVER THE INPUT: true; the input reads as it did. -/
def walRefusesSpec : ChangeSpec := { name := "walRefuses", fn := fun _ => fun
  | [d1, d2] => { results := [.lit (.bool true)], args := [d1, d2] }
  | _ => none }
def walRefusesRow : OpenClaim := { program := "ytpdjenkacefpjaa", sum := "18264c7d0eff5c70f69b6e5fccc490bde4746a51310d20ae3829d028162718b7", func := "donjon/donjonlaw3.WalRefuses", spec := "walRefuses", unfollowed := true, recurses := true, apart := false }
def WalRefusesSaid : Prop := walRefusesRow.holds Try.pinned (OpenSpec.ofChange walRefusesSpec)

/-- ITS FALSE NEIGHBOUR: 'it returns false'. Refute it at one input. -/
def walRefusesWrong : ChangeSpec := { name := "walRefuses", fn := fun _ => fun
  | [d1, d2] => { results := [.lit (.bool false)], args := [d1, d2] }
  | _ => none }
def WalRefusesWrongFalsely : Prop := walRefusesRow.holds Try.pinned (OpenSpec.ofChange walRefusesWrong)

/-- 'donjonlaw3.WalOwn': WHATEVER THE INPUT: true; the input reads as it did. -/
def walOwnSpec : ChangeSpec := { name := "walOwn", fn := fun _ => fun
  | [d1, d2] => { results := [.lit (.bool true)], args := [d1, d2] }
  | _ => none }
def walOwnRow : OpenClaim := { program := "ytpdjenkacefpjaa", sum := "18264c7d0eff5c70f69b6e5fccc490bde4746a51310d20ae3829d028162718b7", func := "donjon/donjonlaw3.WalOwn", spec := "walOwn", unfollowed := true, recurses := true, apart := false }
def WalOwnSaid : Prop := walOwnRow.holds Try.pinned (OpenSpec.ofChange walOwnSpec)

/-- ITS FALSE NEIGHBOUR: 'it returns false'. Refute it at one input. -/
def walOwnWrong : ChangeSpec := { name := "walOwn", fn := fun _ => fun
  | [d1, d2] => { results := [.lit (.bool false)], args := [d1, d2] }
  | _ => none }
def WalOwnWrongFalsely : Prop := walOwnRow.holds Try.pinned (OpenSpec.ofChange walOwnWrong)

/-- 'donjonlaw3.WalCrashes': WHATEVER THE INPUT: true; the input reads as it did. -/
def walCrashesSpec : ChangeSpec := { name := "walCrashes", fn := fun _ => fun
  | [d1, d2, d3, d4] => { results := [.lit (.bool true)], args := [d1, d2, d3, d4] }
  | _ => none }
def walCrashesRow : OpenClaim := { program := "ytpdjenkacefpjaa", sum := "18264c7d0eff5c70f69b6e5fccc490bde4746a51310d20ae3829d028162718b7", func := "donjon/donjonlaw3.WalCrashes", spec := "walCrashes", unfollowed := true, recurses := true, apart := false }
def WalCrashesSaid : Prop := walCrashesRow.holds Try.pinned (OpenSpec.ofChange walCrashesSpec)

/-- ITS FALSE NEIGHBOUR: 'it returns false'. Refute it at one input. -/
def walCrashesWrong : ChangeSpec := { name := "walCrashes", fn := fun _ => fun
  | [d1, d2, d3, d4] => { results := [.lit (.bool false)], args := [d1, d2, d3, d4] }
  | _ => none }
def WalCrashesWrongFalsely : Prop := walCrashesRow.holds Try.pinned (OpenSpec.ofChange walCrashesWrong)

/-- 'donjonlaw3.WalGreat': WHATEVER THE INPUT: true; the input reads as it did. -/
def walGreatSpec : ChangeSpec := { name := "walGreat", fn := fun _ => fun
  | [d1, d2, d3] => { results := [.lit (.bool true)], args := [d1, d2, d3] }
  | _ => none }
def walGreatRow : OpenClaim := { program := "ytpdjenkacefpjaa", sum := "18264c7d0eff5c70f69b6e5fccc490bde4746a51310d20ae3829d028162718b7", func := "donjon/donjonlaw3.WalGreat", spec := "walGreat", unfollowed := true, recurses := true, apart := false }
def WalGreatSaid : Prop := walGreatRow.holds Try.pinned (OpenSpec.ofChange walGreatSpec)

/-- ITS FALSE NEIGHBOUR: 'it returns false'. Refute it at one input. -/
def walGreatWrong : ChangeSpec := { name := "walGreat", fn := fun _ => fun
  | [d1, d2, d3] => { results := [.lit (.bool false)], args := [d1, d2, d3] }
  | _ => none }
def WalGreatWrongFalsely : Prop := walGreatRow.holds Try.pinned (OpenSpec.ofChange walGreatWrong)

/-- 'donjonlaw3.WalEcho': WHATEVER THE INPUT: true; the input reads as it did. -/
def walEchoSpec : ChangeSpec := { name := "walEcho", fn := fun _ => fun
  | [d1, d2, d3] => { results := [.lit (.bool true)], args := [d1, d2, d3] }
  | _ => none }
def walEchoRow : OpenClaim := { program := "ytpdjenkacefpjaa", sum := "18264c7d0eff5c70f69b6e5fccc490bde4746a51310d20ae3829d028162718b7", func := "donjon/donjonlaw3.WalEcho", spec := "walEcho", unfollowed := true, recurses := true, apart := false }
def WalEchoSaid : Prop := walEchoRow.holds Try.pinned (OpenSpec.ofChange walEchoSpec)

/-- ITS FALSE NEIGHBOUR: 'it returns false'. Refute it at one input. -/
def walEchoWrong : ChangeSpec := { name := "walEcho", fn := fun _ => fun
  | [d1, d2, d3] => { results := [.lit (.bool false)], args := [d1, d2, d3] }
  | _ => none }
def WalEchoWrongFalsely : Prop := walEchoRow.holds Try.pinned (OpenSpec.ofChange walEchoWrong)

/- THE SECOND FORM. 'bulk': how many values and letters a reading holds, each counted each time it is reached (what is shared counts as often as it is met; a slice's spare places count too). A statement '..UptoSaid' is the law's where the arguments, and the package variables that the reading takes, are together of bulk at most 1048576: NARROWER than '..Said'. Prove '..Said' where nothing that the law and all that it calls make is longer than what came in: it says more and counts as full. Else prove '..UptoSaid'. A law counts once. -/
mutual
def uptoBulk {H : Type} : DataW H → Nat
  | .lit (.string bytes) => bytes.length + 1
  | .lit _ => 1
  | .nil => 1
  | .ptr d => uptoBulk d + 1
  | .slice elems spare => uptoBulkAll elems + uptoBulkAll spare + 1
  | .agg parts => uptoBulkAll parts + 1
  | .iface _ d => uptoBulk d + 1
  | .map entries => uptoBulkEntries entries + 1
  | .held _ => 1
def uptoBulkAll {H : Type} : List (DataW H) → Nat
  | [] => 0
  | d :: r => uptoBulk d + uptoBulkAll r
def uptoBulkEntries {H : Type} : List (Lit × DataW H) → Nat
  | [] => 0
  | x :: r => uptoBulkEntry x + uptoBulkEntries r
def uptoBulkEntry {H : Type} : Lit × DataW H → Nat
  | (.string bytes, d) => bytes.length + uptoBulk d + 1
  | (_, d) => uptoBulk d + 1
 end
def uptoSmall : (H : Type) → List (DataW H) → Bool := fun _ ds => decide (uptoBulkAll ds ≤ 1048576)
def OpenSpec.upto (s : _root_.Go.ChangeSpec) : _root_.Go.OpenSpec := { _root_.Go.OpenSpec.ofChange s with cond := some uptoSmall }

/-- 'donjonlaw3.WalPlays', WHERE WHAT IT READS IS OF BULK AT MOST 1048576: true; the input reads as it did. -/
def walPlaysUptoRow : OpenClaim := { program := "ytpdjenkacefpjaa", sum := "18264c7d0eff5c70f69b6e5fccc490bde4746a51310d20ae3829d028162718b7", func := "donjon/donjonlaw3.WalPlays", spec := "walPlays", unfollowed := true, recurses := true, apart := false, narrowed := true }
def WalPlaysUptoSaid : Prop := walPlaysUptoRow.holds Try.pinned (OpenSpec.upto walPlaysSpec)

/-- 'donjonlaw3.WalRefuses', WHERE WHAT IT READS IS OF BULK AT MOST 1048576: true; the input reads as it did. -/
def walRefusesUptoRow : OpenClaim := { program := "ytpdjenkacefpjaa", sum := "18264c7d0eff5c70f69b6e5fccc490bde4746a51310d20ae3829d028162718b7", func := "donjon/donjonlaw3.WalRefuses", spec := "walRefuses", unfollowed := true, recurses := true, apart := false, narrowed := true }
def WalRefusesUptoSaid : Prop := walRefusesUptoRow.holds Try.pinned (OpenSpec.upto walRefusesSpec)

/-- 'donjonlaw3.WalOwn', WHERE WHAT IT READS IS OF BULK AT MOST 1048576: true; the input reads as it did. -/
def walOwnUptoRow : OpenClaim := { program := "ytpdjenkacefpjaa", sum := "18264c7d0eff5c70f69b6e5fccc490bde4746a51310d20ae3829d028162718b7", func := "donjon/donjonlaw3.WalOwn", spec := "walOwn", unfollowed := true, recurses := true, apart := false, narrowed := true }
def WalOwnUptoSaid : Prop := walOwnUptoRow.holds Try.pinned (OpenSpec.upto walOwnSpec)

/-- 'donjonlaw3.WalCrashes', WHERE WHAT IT READS IS OF BULK AT MOST 1048576: true; the input reads as it did. -/
def walCrashesUptoRow : OpenClaim := { program := "ytpdjenkacefpjaa", sum := "18264c7d0eff5c70f69b6e5fccc490bde4746a51310d20ae3829d028162718b7", func := "donjon/donjonlaw3.WalCrashes", spec := "walCrashes", unfollowed := true, recurses := true, apart := false, narrowed := true }
def WalCrashesUptoSaid : Prop := walCrashesUptoRow.holds Try.pinned (OpenSpec.upto walCrashesSpec)

/-- 'donjonlaw3.WalGreat', WHERE WHAT IT READS IS OF BULK AT MOST 1048576: true; the input reads as it did. -/
def walGreatUptoRow : OpenClaim := { program := "ytpdjenkacefpjaa", sum := "18264c7d0eff5c70f69b6e5fccc490bde4746a51310d20ae3829d028162718b7", func := "donjon/donjonlaw3.WalGreat", spec := "walGreat", unfollowed := true, recurses := true, apart := false, narrowed := true }
def WalGreatUptoSaid : Prop := walGreatUptoRow.holds Try.pinned (OpenSpec.upto walGreatSpec)

/-- 'donjonlaw3.WalEcho', WHERE WHAT IT READS IS OF BULK AT MOST 1048576: true; the input reads as it did. -/
def walEchoUptoRow : OpenClaim := { program := "ytpdjenkacefpjaa", sum := "18264c7d0eff5c70f69b6e5fccc490bde4746a51310d20ae3829d028162718b7", func := "donjon/donjonlaw3.WalEcho", spec := "walEcho", unfollowed := true, recurses := true, apart := false, narrowed := true }
def WalEchoUptoSaid : Prop := walEchoUptoRow.holds Try.pinned (OpenSpec.upto walEchoSpec)

end Rows
end Go.Proofs.Ytpdjenkacefpjaa
