/- Steps of a drawn region, in fewer words. -/
import Derived.Deep.RegionHeld3
import Derived.Deep.MidRow
import Derived.RowKit
import Derived.WalkKit
namespace Go.Proofs.Ytiakonmamkfopaa
open Go.RowKit

theorem sA {α : Type} (i : Nat) (a : α) (l : List α) : l.toArray.setIfInBounds i a = (l.set i a).toArray := List.setIfInBounds_toArray ..
theorem sB {α : Type} (a b : α) (l : List α) : (a :: l).set 0 b = b :: l := List.set_cons_zero ..
theorem sC {α : Type} (a b : α) (l : List α) (n : Nat) : (a :: l).set (n + 1) b = a :: l.set n b := List.set_cons_succ ..
/-- an operation that only reads is taken first -/
theorem tkA {P : Program} {ops : Array Oper} {Q : Exit → Act → World → Prop} {md : Region.Mode} {S : World → Prop} (i : Nat) {d : Option Tmp} {o : Op} {ty : TypeId} {pos : String} {af : Array Edge} {gd : Option (Nat × Bool)} {v : Value} {fuel : Nat} {listed : Array Bool} {a : Act} {w : World} (h : wpAnyH P md ops Q S fuel (listed.setIfInBounds i true) (a.put d v) w)
    (hi : ops[i]? = some ⟨d, o, ty, pos, af, gd⟩ := by rfl) (hs : Region.noSelect ops = true := by kernel_rfl) (hf : Region.free md ops listed i = true := by kernel_rfl) (hr : (Region.ready md ops listed).contains i = true := by kernel_rfl) (hQ : ∀ c a w, Q (.panic c) (a.put d v) w → Q (.panic c) a w := by exact fun _ _ _ h => h)
    (hw : Region.wanted ⟨d, o, ty, pos, af, gd⟩ (yielded ops a.tmps) = true := by rfl) (hv : ∀ w, S w → (execOp a.eval ⟨d, o, ty, pos, af, gd⟩).run P w = .ok (.value v) w := by (intro w hSw; (try dsimp only at hSw); go_simp; (try with_reducible rfl))) (hS : S w := by assumption) : wpAnyH P md ops Q S (fuel + 1) listed a w :=
  wpAnyH_take hi hs hf hr hQ (Or.inl ⟨hw, hv⟩) hS h
/-- one operation is ready -/
theorem rdA {P : Program} {ops : Array Oper} {Q : Exit → Act → World → Prop} {md : Region.Mode} {S : World → Prop} (i : Nat) {d : Option Tmp} {o : Op} {ty : TypeId} {pos : String} {af : Array Edge} {gd : Option (Nat × Bool)} {fuel : Nat} {listed : Array Bool} {a : Act} {w : World}
    (h : ∀ K' : Act → World → Prop, Shut (∀ a w, S w → (S w → wpAnyH P md ops Q S fuel (listed.setIfInBounds i true) a w) → K' a w) → if Region.wanted ⟨d, o, ty, pos, af, gd⟩ (yielded ops a.tmps) = true then Oper.wp P ⟨d, o, ty, pos, af, gd⟩ a w K' Q else K' (a.put d undef) w)
    (hr : Region.ready md ops listed = [i] := by kernel_rfl) (hi : ops[i]? = some ⟨d, o, ty, pos, af, gd⟩ := by rfl) : wpAnyH P md ops Q S (fuel + 1) listed a w :=
  wpAnyH_ready hr (by simp) (.cons hi h .nil)
/-- two are -/
theorem rdB {P : Program} {ops : Array Oper} {Q : Exit → Act → World → Prop} {md : Region.Mode} {S : World → Prop} (i j : Nat) {d d2 : Option Tmp} {o o2 : Op} {ty ty2 : TypeId} {pos pos2 : String} {af af2 : Array Edge} {gd gd2 : Option (Nat × Bool)} {fuel : Nat} {listed : Array Bool} {a : Act} {w : World}
    (h : ∀ K' : Act → World → Prop, Shut (∀ a w, S w → (S w → wpAnyH P md ops Q S fuel (listed.setIfInBounds i true) a w) → K' a w) → if Region.wanted ⟨d, o, ty, pos, af, gd⟩ (yielded ops a.tmps) = true then Oper.wp P ⟨d, o, ty, pos, af, gd⟩ a w K' Q else K' (a.put d undef) w)
    (h2 : ∀ K' : Act → World → Prop, Shut (∀ a w, S w → (S w → wpAnyH P md ops Q S fuel (listed.setIfInBounds j true) a w) → K' a w) → if Region.wanted ⟨d2, o2, ty2, pos2, af2, gd2⟩ (yielded ops a.tmps) = true then Oper.wp P ⟨d2, o2, ty2, pos2, af2, gd2⟩ a w K' Q else K' (a.put d2 undef) w)
    (hr : Region.ready md ops listed = [i, j] := by kernel_rfl) (hi : ops[i]? = some ⟨d, o, ty, pos, af, gd⟩ := by rfl) (hj : ops[j]? = some ⟨d2, o2, ty2, pos2, af2, gd2⟩ := by rfl) : wpAnyH P md ops Q S (fuel + 1) listed a w :=
  wpAnyH_ready hr (by simp) (.cons hi h (.cons hj h2 .nil))
end Go.Proofs.Ytiakonmamkfopaa
