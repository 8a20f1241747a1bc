/-
  No cell of these rows narrows 'for every input' (looked for: loops, veiled, ifaces, maps, wideKeys, modest, calm, conditions, laid).
  DERIVED. THE GIVEN ROWS OF THIS SEAT. 13 by the template 'for every input the law returns true; each argument reads behind the call as it read before'; 0 by the template 'total and deterministic' (their statements: YtifpmhaddajcnaaTotals.lean).
  GIVEN WITH THE SEED: the statements are not yours to turn. If you find one false, say at which input.
  Laid BY PROGRAM, IN A SANDBOX (cutbox-rows.mjs): the forced cells as the released guide's own fill.sh prints them over the translation 4efb55f85d42af7e… (all of the seat's roots in one cut). By AI agents, Wed Nov 11 2026. No macro, syntax, notation, axiom, sorry.
-/
import Derived.Test.YtifpmhaddajcnaaChecked
import GoSem.Claim
import GoSem.ClaimJoined
import GoSem.ClaimMapViews
import Derived.JoinedTies
import Derived.KernelRfl
namespace Go.Proofs.Ytifpmhaddajcnaa
/- THE CELL 'sum', in the pinned program and in every row, IS THE sha256 OF THE DUMP (.gsa) THAT YtifpmhaddajcnaaProg.lean LOADS. Nothing in Lean hashes anything: it is a label: what it is worth is what the hold of that sum in a sandbox is worth. -/
noncomputable def Try.pinned : Pinned := { name := "ytifpmhaddajcnaa", sum := "4efb55f85d42af7eb87abb8707cb701d123c61e79e59a93d0b4d89193831c2bd", checked := Try.checked }
namespace Rows
def none {H : Type} : Left H := { results := [], args := [] }

/-- 'donjonlaw1.WordInts': WHATEVER THE INPUT: true; the input reads as it did. -/
def wordIntsSpec : ChangeSpec := { name := "wordInts", fn := fun _ => fun
  | [d1, d2] => { results := [.lit (.bool true)], args := [d1, d2] }
  | _ => none }
def wordIntsRow : OpenClaim := { program := "ytifpmhaddajcnaa", sum := "4efb55f85d42af7eb87abb8707cb701d123c61e79e59a93d0b4d89193831c2bd", func := "donjon/donjonlaw1.WordInts", spec := "wordInts", inPlace := ["math.Float64frombits", "math.Float64bits"], apart := false }
def WordIntsSaid : Prop := wordIntsRow.holds Try.pinned (OpenSpec.ofChange wordIntsSpec)

/-- ITS FALSE NEIGHBOUR: 'it returns false'. Refute it at one input. -/
def wordIntsWrong : ChangeSpec := { name := "wordInts", fn := fun _ => fun
  | [d1, d2] => { results := [.lit (.bool false)], args := [d1, d2] }
  | _ => none }
def WordIntsWrongFalsely : Prop := wordIntsRow.holds Try.pinned (OpenSpec.ofChange wordIntsWrong)

/-- 'donjonlaw1.WordConverts': WHATEVER THE INPUT: true; the input reads as it did. -/
def wordConvertsSpec : ChangeSpec := { name := "wordConverts", fn := fun _ => fun
  | [d] => { results := [.lit (.bool true)], args := [d] }
  | _ => none }
def wordConvertsRow : OpenClaim := { program := "ytifpmhaddajcnaa", sum := "4efb55f85d42af7eb87abb8707cb701d123c61e79e59a93d0b4d89193831c2bd", func := "donjon/donjonlaw1.WordConverts", spec := "wordConverts", inPlace := ["math.Float64frombits", "math.Float64bits"], apart := false }
def WordConvertsSaid : Prop := wordConvertsRow.holds Try.pinned (OpenSpec.ofChange wordConvertsSpec)

/-- ITS FALSE NEIGHBOUR: 'it returns false'. Refute it at one input. -/
def wordConvertsWrong : ChangeSpec := { name := "wordConverts", fn := fun _ => fun
  | [d] => { results := [.lit (.bool false)], args := [d] }
  | _ => none }
def WordConvertsWrongFalsely : Prop := wordConvertsRow.holds Try.pinned (OpenSpec.ofChange wordConvertsWrong)

/-- 'donjonlaw1.WordCuts': WHATEVER THE INPUT: true; the input reads as it did. -/
def wordCutsSpec : ChangeSpec := { name := "wordCuts", fn := fun _ => fun
  | [d1, d2] => { results := [.lit (.bool true)], args := [d1, d2] }
  | _ => none }
def wordCutsRow : OpenClaim := { program := "ytifpmhaddajcnaa", sum := "4efb55f85d42af7eb87abb8707cb701d123c61e79e59a93d0b4d89193831c2bd", func := "donjon/donjonlaw1.WordCuts", spec := "wordCuts", inPlace := ["math.Float64frombits", "math.Float64bits"], apart := false }
def WordCutsSaid : Prop := wordCutsRow.holds Try.pinned (OpenSpec.ofChange wordCutsSpec)

/-- ITS FALSE NEIGHBOUR: 'it returns false'. Refute it at one input. -/
def wordCutsWrong : ChangeSpec := { name := "wordCuts", fn := fun _ => fun
  | [d1, d2] => { results := [.lit (.bool false)], args := [d1, d2] }
  | _ => none }
def WordCutsWrongFalsely : Prop := wordCutsRow.holds Try.pinned (OpenSpec.ofChange wordCutsWrong)

/-- 'donjonlaw1.WordBounds': WHATEVER THE INPUT: true; the input reads as it did. -/
def wordBoundsSpec : ChangeSpec := { name := "wordBounds", fn := fun _ => fun
  | [d1, d2] => { results := [.lit (.bool true)], args := [d1, d2] }
  | _ => none }
def wordBoundsRow : OpenClaim := { program := "ytifpmhaddajcnaa", sum := "4efb55f85d42af7eb87abb8707cb701d123c61e79e59a93d0b4d89193831c2bd", func := "donjon/donjonlaw1.WordBounds", spec := "wordBounds", inPlace := ["math.Float64frombits", "math.Float64bits"], apart := false }
def WordBoundsSaid : Prop := wordBoundsRow.holds Try.pinned (OpenSpec.ofChange wordBoundsSpec)

/-- ITS FALSE NEIGHBOUR: 'it returns false'. Refute it at one input. -/
def wordBoundsWrong : ChangeSpec := { name := "wordBounds", fn := fun _ => fun
  | [d1, d2] => { results := [.lit (.bool false)], args := [d1, d2] }
  | _ => none }
def WordBoundsWrongFalsely : Prop := wordBoundsRow.holds Try.pinned (OpenSpec.ofChange wordBoundsWrong)

/-- 'donjonlaw1.WordSmall': WHATEVER THE INPUT: true; the input reads as it did. -/
def wordSmallSpec : ChangeSpec := { name := "wordSmall", fn := fun _ => fun
  | [d1, d2] => { results := [.lit (.bool true)], args := [d1, d2] }
  | _ => none }
def wordSmallRow : OpenClaim := { program := "ytifpmhaddajcnaa", sum := "4efb55f85d42af7eb87abb8707cb701d123c61e79e59a93d0b4d89193831c2bd", func := "donjon/donjonlaw1.WordSmall", spec := "wordSmall", inPlace := ["math.Float64frombits", "math.Float64bits"], apart := false }
def WordSmallSaid : Prop := wordSmallRow.holds Try.pinned (OpenSpec.ofChange wordSmallSpec)

/-- ITS FALSE NEIGHBOUR: 'it returns false'. Refute it at one input. -/
def wordSmallWrong : ChangeSpec := { name := "wordSmall", fn := fun _ => fun
  | [d1, d2] => { results := [.lit (.bool false)], args := [d1, d2] }
  | _ => none }
def WordSmallWrongFalsely : Prop := wordSmallRow.holds Try.pinned (OpenSpec.ofChange wordSmallWrong)

/-- 'donjonlaw1.WordFloats': WHATEVER THE INPUT: true; the input reads as it did. -/
def wordFloatsSpec : ChangeSpec := { name := "wordFloats", fn := fun _ => fun
  | [d1, d2] => { results := [.lit (.bool true)], args := [d1, d2] }
  | _ => none }
def wordFloatsRow : OpenClaim := { program := "ytifpmhaddajcnaa", sum := "4efb55f85d42af7eb87abb8707cb701d123c61e79e59a93d0b4d89193831c2bd", func := "donjon/donjonlaw1.WordFloats", spec := "wordFloats", inPlace := ["math.Float64frombits", "math.Float64bits"], apart := false }
def WordFloatsSaid : Prop := wordFloatsRow.holds Try.pinned (OpenSpec.ofChange wordFloatsSpec)

/-- ITS FALSE NEIGHBOUR: 'it returns false'. Refute it at one input. -/
def wordFloatsWrong : ChangeSpec := { name := "wordFloats", fn := fun _ => fun
  | [d1, d2] => { results := [.lit (.bool false)], args := [d1, d2] }
  | _ => none }
def WordFloatsWrongFalsely : Prop := wordFloatsRow.holds Try.pinned (OpenSpec.ofChange wordFloatsWrong)

/-- 'donjonlaw1.WordClasses': WHATEVER THE INPUT: true; the input reads as it did. -/
def wordClassesSpec : ChangeSpec := { name := "wordClasses", fn := fun _ => fun
  | [d] => { results := [.lit (.bool true)], args := [d] }
  | _ => none }
def wordClassesRow : OpenClaim := { program := "ytifpmhaddajcnaa", sum := "4efb55f85d42af7eb87abb8707cb701d123c61e79e59a93d0b4d89193831c2bd", func := "donjon/donjonlaw1.WordClasses", spec := "wordClasses", inPlace := ["math.Float64frombits", "math.Float64bits"], apart := false }
def WordClassesSaid : Prop := wordClassesRow.holds Try.pinned (OpenSpec.ofChange wordClassesSpec)

/-- ITS FALSE NEIGHBOUR: 'it returns false'. Refute it at one input. -/
def wordClassesWrong : ChangeSpec := { name := "wordClasses", fn := fun _ => fun
  | [d] => { results := [.lit (.bool false)], args := [d] }
  | _ => none }
def WordClassesWrongFalsely : Prop := wordClassesRow.holds Try.pinned (OpenSpec.ofChange wordClassesWrong)

/-- 'donjonlaw1.WordLess': WHATEVER THE INPUT: true; the input reads as it did. -/
def wordLessSpec : ChangeSpec := { name := "wordLess", fn := fun _ => fun
  | [d1, d2] => { results := [.lit (.bool true)], args := [d1, d2] }
  | _ => none }
def wordLessRow : OpenClaim := { program := "ytifpmhaddajcnaa", sum := "4efb55f85d42af7eb87abb8707cb701d123c61e79e59a93d0b4d89193831c2bd", func := "donjon/donjonlaw1.WordLess", spec := "wordLess", inPlace := ["math.Float64frombits", "math.Float64bits"], apart := false }
def WordLessSaid : Prop := wordLessRow.holds Try.pinned (OpenSpec.ofChange wordLessSpec)

/-- ITS FALSE NEIGHBOUR: 'it returns false'. Refute it at one input. -/
def wordLessWrong : ChangeSpec := { name := "wordLess", fn := fun _ => fun
  | [d1, d2] => { results := [.lit (.bool false)], args := [d1, d2] }
  | _ => none }
def WordLessWrongFalsely : Prop := wordLessRow.holds Try.pinned (OpenSpec.ofChange wordLessWrong)

/-- 'donjonlaw1.WordSigns': WHATEVER THE INPUT: true; the input reads as it did. -/
def wordSignsSpec : ChangeSpec := { name := "wordSigns", fn := fun _ => fun
  | [d1, d2] => { results := [.lit (.bool true)], args := [d1, d2] }
  | _ => none }
def wordSignsRow : OpenClaim := { program := "ytifpmhaddajcnaa", sum := "4efb55f85d42af7eb87abb8707cb701d123c61e79e59a93d0b4d89193831c2bd", func := "donjon/donjonlaw1.WordSigns", spec := "wordSigns", inPlace := ["math.Float64frombits", "math.Float64bits"], apart := false }
def WordSignsSaid : Prop := wordSignsRow.holds Try.pinned (OpenSpec.ofChange wordSignsSpec)

/-- ITS FALSE NEIGHBOUR: 'it returns false'. Refute it at one input. -/
def wordSignsWrong : ChangeSpec := { name := "wordSigns", fn := fun _ => fun
  | [d1, d2] => { results := [.lit (.bool false)], args := [d1, d2] }
  | _ => none }
def WordSignsWrongFalsely : Prop := wordSignsRow.holds Try.pinned (OpenSpec.ofChange wordSignsWrong)

/-- 'donjonlaw1.WordSorts': WHATEVER THE INPUT: true; the input reads as it did. -/
def wordSortsSpec : ChangeSpec := { name := "wordSorts", fn := fun _ => fun
  | [d1, d2, d3] => { results := [.lit (.bool true)], args := [d1, d2, d3] }
  | _ => none }
def wordSortsRow : OpenClaim := { program := "ytifpmhaddajcnaa", sum := "4efb55f85d42af7eb87abb8707cb701d123c61e79e59a93d0b4d89193831c2bd", func := "donjon/donjonlaw1.WordSorts", spec := "wordSorts", inPlace := ["math.Float64frombits", "math.Float64bits"], apart := false }
def WordSortsSaid : Prop := wordSortsRow.holds Try.pinned (OpenSpec.ofChange wordSortsSpec)

/-- ITS FALSE NEIGHBOUR: 'it returns false'. Refute it at one input. -/
def wordSortsWrong : ChangeSpec := { name := "wordSorts", fn := fun _ => fun
  | [d1, d2, d3] => { results := [.lit (.bool false)], args := [d1, d2, d3] }
  | _ => none }
def WordSortsWrongFalsely : Prop := wordSortsRow.holds Try.pinned (OpenSpec.ofChange wordSortsWrong)

/-- 'donjonlaw1.WordNoughts': WHATEVER THE INPUT: true; the input reads as it did. -/
def wordNoughtsSpec : ChangeSpec := { name := "wordNoughts", fn := fun _ => fun
  | [d] => { results := [.lit (.bool true)], args := [d] }
  | _ => none }
def wordNoughtsRow : OpenClaim := { program := "ytifpmhaddajcnaa", sum := "4efb55f85d42af7eb87abb8707cb701d123c61e79e59a93d0b4d89193831c2bd", func := "donjon/donjonlaw1.WordNoughts", spec := "wordNoughts", inPlace := ["math.Float64frombits", "math.Float64bits"], apart := false }
def WordNoughtsSaid : Prop := wordNoughtsRow.holds Try.pinned (OpenSpec.ofChange wordNoughtsSpec)

/-- ITS FALSE NEIGHBOUR: 'it returns false'. Refute it at one input. -/
def wordNoughtsWrong : ChangeSpec := { name := "wordNoughts", fn := fun _ => fun
  | [d] => { results := [.lit (.bool false)], args := [d] }
  | _ => none }
def WordNoughtsWrongFalsely : Prop := wordNoughtsRow.holds Try.pinned (OpenSpec.ofChange wordNoughtsWrong)

/-- 'donjonlaw1.WordNans': WHATEVER THE INPUT: true; the input reads as it did. -/
def wordNansSpec : ChangeSpec := { name := "wordNans", fn := fun _ => fun
  | [d1, d2, d3] => { results := [.lit (.bool true)], args := [d1, d2, d3] }
  | _ => none }
def wordNansRow : OpenClaim := { program := "ytifpmhaddajcnaa", sum := "4efb55f85d42af7eb87abb8707cb701d123c61e79e59a93d0b4d89193831c2bd", func := "donjon/donjonlaw1.WordNans", spec := "wordNans", inPlace := ["math.Float64frombits", "math.Float64bits"], apart := false }
def WordNansSaid : Prop := wordNansRow.holds Try.pinned (OpenSpec.ofChange wordNansSpec)

/-- ITS FALSE NEIGHBOUR: 'it returns false'. Refute it at one input. -/
def wordNansWrong : ChangeSpec := { name := "wordNans", fn := fun _ => fun
  | [d1, d2, d3] => { results := [.lit (.bool false)], args := [d1, d2, d3] }
  | _ => none }
def WordNansWrongFalsely : Prop := wordNansRow.holds Try.pinned (OpenSpec.ofChange wordNansWrong)

/-- 'donjonlaw1.WordInfs': WHATEVER THE INPUT: true; the input reads as it did. -/
def wordInfsSpec : ChangeSpec := { name := "wordInfs", fn := fun _ => fun
  | [d] => { results := [.lit (.bool true)], args := [d] }
  | _ => none }
def wordInfsRow : OpenClaim := { program := "ytifpmhaddajcnaa", sum := "4efb55f85d42af7eb87abb8707cb701d123c61e79e59a93d0b4d89193831c2bd", func := "donjon/donjonlaw1.WordInfs", spec := "wordInfs", inPlace := ["math.Float64frombits", "math.Float64bits"], apart := false }
def WordInfsSaid : Prop := wordInfsRow.holds Try.pinned (OpenSpec.ofChange wordInfsSpec)

/-- ITS FALSE NEIGHBOUR: 'it returns false'. Refute it at one input. -/
def wordInfsWrong : ChangeSpec := { name := "wordInfs", fn := fun _ => fun
  | [d] => { results := [.lit (.bool false)], args := [d] }
  | _ => none }
def WordInfsWrongFalsely : Prop := wordInfsRow.holds Try.pinned (OpenSpec.ofChange wordInfsWrong)

/- THE SECOND FORM. 'bulk': how many values and letters a reading holds, each counted each time it is reached (what is shared counts as often as it is met; a slice's spare places count too). A statement '..UptoSaid' is the law's where the arguments, and the package variables that the reading takes, are together of bulk at most 1048576: NARROWER than '..Said'. Prove '..Said' where nothing that the law and all that it calls make is longer than what came in: it says more and counts as full. Else prove '..UptoSaid'. A law counts once. -/
mutual
def uptoBulk {H : Type} : DataW H → Nat
  | .lit (.string bytes) => bytes.length + 1
  | .lit _ => 1
  | .nil => 1
  | .ptr d => uptoBulk d + 1
  | .slice elems spare => uptoBulkAll elems + uptoBulkAll spare + 1
  | .agg parts => uptoBulkAll parts + 1
  | .iface _ d => uptoBulk d + 1
  | .map entries => uptoBulkEntries entries + 1
  | .held _ => 1
def uptoBulkAll {H : Type} : List (DataW H) → Nat
  | [] => 0
  | d :: r => uptoBulk d + uptoBulkAll r
def uptoBulkEntries {H : Type} : List (Lit × DataW H) → Nat
  | [] => 0
  | x :: r => uptoBulkEntry x + uptoBulkEntries r
def uptoBulkEntry {H : Type} : Lit × DataW H → Nat
  | (.string bytes, d) => bytes.length + uptoBulk d + 1
  | (_, d) => uptoBulk d + 1
 end
def uptoSmall : (H : Type) → List (DataW H) → Bool := fun _ ds => decide (uptoBulkAll ds ≤ 1048576)
def OpenSpec.upto (s : _root_.Go.ChangeSpec) : _root_.Go.OpenSpec := { _root_.Go.OpenSpec.ofChange s with cond := some uptoSmall }

/-- 'donjonlaw1.WordInts', WHERE WHAT IT READS IS OF BULK AT MOST 1048576: true; the input reads as it did. -/
def wordIntsUptoRow : OpenClaim := { program := "ytifpmhaddajcnaa", sum := "4efb55f85d42af7eb87abb8707cb701d123c61e79e59a93d0b4d89193831c2bd", func := "donjon/donjonlaw1.WordInts", spec := "wordInts", inPlace := ["math.Float64frombits", "math.Float64bits"], apart := false, narrowed := true }
def WordIntsUptoSaid : Prop := wordIntsUptoRow.holds Try.pinned (OpenSpec.upto wordIntsSpec)

/-- 'donjonlaw1.WordConverts', WHERE WHAT IT READS IS OF BULK AT MOST 1048576: true; the input reads as it did. -/
def wordConvertsUptoRow : OpenClaim := { program := "ytifpmhaddajcnaa", sum := "4efb55f85d42af7eb87abb8707cb701d123c61e79e59a93d0b4d89193831c2bd", func := "donjon/donjonlaw1.WordConverts", spec := "wordConverts", inPlace := ["math.Float64frombits", "math.Float64bits"], apart := false, narrowed := true }
def WordConvertsUptoSaid : Prop := wordConvertsUptoRow.holds Try.pinned (OpenSpec.upto wordConvertsSpec)

/-- 'donjonlaw1.WordCuts', WHERE WHAT IT READS IS OF BULK AT MOST 1048576: true; the input reads as it did. -/
def wordCutsUptoRow : OpenClaim := { program := "ytifpmhaddajcnaa", sum := "4efb55f85d42af7eb87abb8707cb701d123c61e79e59a93d0b4d89193831c2bd", func := "donjon/donjonlaw1.WordCuts", spec := "wordCuts", inPlace := ["math.Float64frombits", "math.Float64bits"], apart := false, narrowed := true }
def WordCutsUptoSaid : Prop := wordCutsUptoRow.holds Try.pinned (OpenSpec.upto wordCutsSpec)

/-- 'donjonlaw1.WordBounds', WHERE WHAT IT READS IS OF BULK AT MOST 1048576: true; the input reads as it did. -/
def wordBoundsUptoRow : OpenClaim := { program := "ytifpmhaddajcnaa", sum := "4efb55f85d42af7eb87abb8707cb701d123c61e79e59a93d0b4d89193831c2bd", func := "donjon/donjonlaw1.WordBounds", spec := "wordBounds", inPlace := ["math.Float64frombits", "math.Float64bits"], apart := false, narrowed := true }
def WordBoundsUptoSaid : Prop := wordBoundsUptoRow.holds Try.pinned (OpenSpec.upto wordBoundsSpec)

/-- 'donjonlaw1.WordSmall', WHERE WHAT IT READS IS OF BULK AT MOST 1048576: true; the input reads as it did. -/
def wordSmallUptoRow : OpenClaim := { program := "ytifpmhaddajcnaa", sum := "4efb55f85d42af7eb87abb8707cb701d123c61e79e59a93d0b4d89193831c2bd", func := "donjon/donjonlaw1.WordSmall", spec := "wordSmall", inPlace := ["math.Float64frombits", "math.Float64bits"], apart := false, narrowed := true }
def WordSmallUptoSaid : Prop := wordSmallUptoRow.holds Try.pinned (OpenSpec.upto wordSmallSpec)

/-- 'donjonlaw1.WordFloats', WHERE WHAT IT READS IS OF BULK AT MOST 1048576: true; the input reads as it did. -/
def wordFloatsUptoRow : OpenClaim := { program := "ytifpmhaddajcnaa", sum := "4efb55f85d42af7eb87abb8707cb701d123c61e79e59a93d0b4d89193831c2bd", func := "donjon/donjonlaw1.WordFloats", spec := "wordFloats", inPlace := ["math.Float64frombits", "math.Float64bits"], apart := false, narrowed := true }
def WordFloatsUptoSaid : Prop := wordFloatsUptoRow.holds Try.pinned (OpenSpec.upto wordFloatsSpec)

/-- 'donjonlaw1.WordClasses', WHERE WHAT IT READS IS OF BULK AT MOST 1048576: true; the input reads as it did. -/
def wordClassesUptoRow : OpenClaim := { program := "ytifpmhaddajcnaa", sum := "4efb55f85d42af7eb87abb8707cb701d123c61e79e59a93d0b4d89193831c2bd", func := "donjon/donjonlaw1.WordClasses", spec := "wordClasses", inPlace := ["math.Float64frombits", "math.Float64bits"], apart := false, narrowed := true }
def WordClassesUptoSaid : Prop := wordClassesUptoRow.holds Try.pinned (OpenSpec.upto wordClassesSpec)

/-- 'donjonlaw1.WordLess', WHERE WHAT IT READS IS OF BULK AT MOST 1048576: true; the input reads as it did. -/
def wordLessUptoRow : OpenClaim := { program := "ytifpmhaddajcnaa", sum := "4efb55f85d42af7eb87abb8707cb701d123c61e79e59a93d0b4d89193831c2bd", func := "donjon/donjonlaw1.WordLess", spec := "wordLess", inPlace := ["math.Float64frombits", "math.Float64bits"], apart := false, narrowed := true }
def WordLessUptoSaid : Prop := wordLessUptoRow.holds Try.pinned (OpenSpec.upto wordLessSpec)

/-- 'donjonlaw1.WordSigns', WHERE WHAT IT READS IS OF BULK AT MOST 1048576: true; the input reads as it did. -/
def wordSignsUptoRow : OpenClaim := { program := "ytifpmhaddajcnaa", sum := "4efb55f85d42af7eb87abb8707cb701d123c61e79e59a93d0b4d89193831c2bd", func := "donjon/donjonlaw1.WordSigns", spec := "wordSigns", inPlace := ["math.Float64frombits", "math.Float64bits"], apart := false, narrowed := true }
def WordSignsUptoSaid : Prop := wordSignsUptoRow.holds Try.pinned (OpenSpec.upto wordSignsSpec)

/-- 'donjonlaw1.WordSorts', WHERE WHAT IT READS IS OF BULK AT MOST 1048576: true; the input reads as it did. -/
def wordSortsUptoRow : OpenClaim := { program := "ytifpmhaddajcnaa", sum := "4efb55f85d42af7eb87abb8707cb701d123c61e79e59a93d0b4d89193831c2bd", func := "donjon/donjonlaw1.WordSorts", spec := "wordSorts", inPlace := ["math.Float64frombits", "math.Float64bits"], apart := false, narrowed := true }
def WordSortsUptoSaid : Prop := wordSortsUptoRow.holds Try.pinned (OpenSpec.upto wordSortsSpec)

/-- 'donjonlaw1.WordNoughts', WHERE WHAT IT READS IS OF BULK AT MOST 1048576: true; the input reads as it did. -/
def wordNoughtsUptoRow : OpenClaim := { program := "ytifpmhaddajcnaa", sum := "4efb55f85d42af7eb87abb8707cb701d123c61e79e59a93d0b4d89193831c2bd", func := "donjon/donjonlaw1.WordNoughts", spec := "wordNoughts", inPlace := ["math.Float64frombits", "math.Float64bits"], apart := false, narrowed := true }
def WordNoughtsUptoSaid : Prop := wordNoughtsUptoRow.holds Try.pinned (OpenSpec.upto wordNoughtsSpec)

/-- 'donjonlaw1.WordNans', WHERE WHAT IT READS IS OF BULK AT MOST 1048576: true; the input reads as it did. -/
def wordNansUptoRow : OpenClaim := { program := "ytifpmhaddajcnaa", sum := "4efb55f85d42af7eb87abb8707cb701d123c61e79e59a93d0b4d89193831c2bd", func := "donjon/donjonlaw1.WordNans", spec := "wordNans", inPlace := ["math.Float64frombits", "math.Float64bits"], apart := false, narrowed := true }
def WordNansUptoSaid : Prop := wordNansUptoRow.holds Try.pinned (OpenSpec.upto wordNansSpec)

/-- 'donjonlaw1.WordInfs', WHERE WHAT IT READS IS OF BULK AT MOST 1048576: true; the input reads as it did. -/
def wordInfsUptoRow : OpenClaim := { program := "ytifpmhaddajcnaa", sum := "4efb55f85d42af7eb87abb8707cb701d123c61e79e59a93d0b4d89193831c2bd", func := "donjon/donjonlaw1.WordInfs", spec := "wordInfs", inPlace := ["math.Float64frombits", "math.Float64bits"], apart := false, narrowed := true }
def WordInfsUptoSaid : Prop := wordInfsUptoRow.holds Try.pinned (OpenSpec.upto wordInfsSpec)

end Rows
end Go.Proofs.Ytifpmhaddajcnaa
