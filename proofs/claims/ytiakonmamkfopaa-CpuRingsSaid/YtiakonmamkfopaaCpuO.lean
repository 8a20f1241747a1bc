/- The processor's run: the instructions of pointers. -/
import Derived.Test.YtiakonmamkfopaaCpuN
namespace Go.Proofs.Ytiakonmamkfopaa
open Go.RowKit Go.ChangeShapes
set_option linter.unusedVariables false
set_option maxRecDepth 100000

/-- a state with a pointer laid anew -/
def St.setP (s : St) (k : Nat) (q : Pt) : St := match k with
  | 0 => { s with p0 := q }
  | 1 => { s with p1 := q }
  | 2 => { s with p2 := q }
  | _ => { s with p3 := q }
theorem set3w {w : World} {R : Nat} {s : St} {stk mv : Value} {told : Bool} {out : Int} (h : runAt w R s stk mv told out) (o : Nat) (ho : o + 2 < 21) (a b c : Value) : (((w.setCell ⟨R, o, none⟩ a).setCell ⟨R, o + 1, none⟩ b).setCell ⟨R, o + 2, none⟩ c).heap[R]? = some (.cells ((((runC s stk mv told out).setIfInBounds o a).setIfInBounds (o + 1) b).setIfInBounds (o + 2) c) 99 (0, 0)) := by
  simp [World.setCell, Array.getElem?_modify, show w.heap[R]? = _ from h]
theorem off3P (w : World) (R a b c : Nat) (x y z : Value) : Off (· = R) w (((w.setCell ⟨R, a, none⟩ x).setCell ⟨R, b, none⟩ y).setCell ⟨R, c, none⟩ z) := ((off1 _ _ _ _).trans (off1 _ _ _ _)).trans (off1 _ _ _ _)
end Go.Proofs.Ytiakonmamkfopaa
