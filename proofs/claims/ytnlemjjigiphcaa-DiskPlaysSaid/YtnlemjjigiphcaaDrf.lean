/- The document's disk: a row that grows. -/
import Derived.Test.YtnlemjjigiphcaaDrd
namespace Go.Proofs.Ytnlemjjigiphcaa
open Go.RowKit Go.ChangeShapes
set_option linter.unusedVariables false
set_option maxRecDepth 100000

theorem own_ne {w : World} {B n : Nat} {v : Value} {xs : List Value} (h : w.ownsRow B 66 4 v n xs) : ∀ k, v.ownBlock = some k → ∀ cs, w.heap[k]? ≠ some (.cells cs 5 (0, 0)) := by
  intro k hk cs hc
  rcases h.2 with ⟨e, _⟩ | ⟨g, cap, cur, e, _, hg, _⟩
  · rw [e] at hk; cases hk
  · rw [e] at hk; cases hk
    rw [hg] at hc
    simp at hc
theorem own_ge {w : World} {B n : Nat} {v : Value} {xs : List Value} (h : w.ownsRow B 66 4 v n xs) : ∀ k, v.ownBlock = some k → B ≤ k := by
  intro k hk
  rcases h.2 with ⟨e, _⟩ | ⟨g, cap, cur, e, hb, hg, _⟩
  · rw [e] at hk; cases hk
  · rw [e] at hk; cases hk
    exact hb
/-- the new row, as far as it is -/
structure InsW (w1 w : World) (v : Value) (fs : List Se) : Prop where
  b : Below w1.heap.size w1 w
  r : w.ownsRow w1.heap.size 66 4 v fs.length (cells4 fs)
theorem InsW.below {w1 w w' : World} {v : Value} {fs : List Se} (h : InsW w1 w v fs) (hb : Below w.heap.size w w') : InsW w1 w' v fs :=
  ⟨below2 h.b hb, Off.row (.of_below (ex := fun _ => False) hb) h.r (fun _ h => h.elim)⟩
theorem InsW.start {w1 w : World} {v : Value} {fs : List Se} (hr : w.ownsRow w1.heap.size 66 4 v ([] ++ fs).length (cells4 ([] ++ fs))) (ho : Off (fun k => (Value.slice none 0 0).ownBlock = some k) w1 w) : InsW w1 w v fs :=
  ⟨Off.below (Below.refl _ _) ho (Nat.le_refl _) (fun k hk => by cases hk), hr⟩
theorem InsW.grow {w1 w w' : World} {v v' : Value} {fs gs : List Se} (h : InsW w1 w v fs) (hr : w'.ownsRow w1.heap.size 66 4 v' (fs ++ gs).length (cells4 (fs ++ gs))) (ho : Off (fun k => v.ownBlock = some k) w w') : InsW w1 w' v' (fs ++ gs) :=
  ⟨Off.below h.b ho h.b.size (own_ge h.r), hr⟩
def ZAt (w1 w : World) (z : Nat) : Prop := w.ownsRow w1.heap.size 5 1 (.slice (some ⟨z, 0, none⟩) 128 128) 128 (bys zeros)
theorem ZAt.grow {w1 w w' : World} {v : Value} {fs : List Se} {z : Nat} (hz : ZAt w1 w z) (h : InsW w1 w v fs) (ho : Off (fun k => v.ownBlock = some k) w w') : ZAt w1 w' z := Off.row ho hz (own_ne h.r)
/-- the world with the bytes and the sector laid ahead of the append -/
def lay2 (w : World) (n : Int) : World := (w.alloc (.cells (bys zeros).toArray 5)).alloc (.cells #[.int .i64 n, .slice (some ⟨w.heap.size, 0, none⟩) 128 128, .slice none 0 0, .bool false] 66)
theorem lay2_below (w : World) (n : Int) : Below w.heap.size w (lay2 w n) := below2 (below_al0 w _) (below_al0 _ _)
theorem ZAt.new {w1 w : World} {v : Value} {fs : List Se} (h : InsW w1 w v fs) (n : Int) : ZAt w1 (lay2 w n) w.heap.size :=
  Off.row (.of_below (ex := fun _ => False) (below_al0 _ _)) (row_zeros w w1.heap.size h.b.size) (fun _ h => h.elim)
theorem src_new (w : World) (n : Int) : SrcAt (lay2 w n) (.slice (some ⟨w.heap.size + 1, 0, none⟩) 1 1) [newS n w.heap.size] := by
  have h := src_one (w.alloc (.cells (bys zeros).toArray 5)) (newS n w.heap.size)
  have e : (w.alloc (.cells (bys zeros).toArray 5)).heap.size = w.heap.size + 1 := by simp
  rw [e] at h
  exact h
theorem one_new (n : Int) (z : Nat) : OneS [newS n z] := fun e he => by
  rw [List.mem_singleton] at he
  subst he
  exact ⟨rfl, rfl⟩
theorem OneS.take {es : List Se} (h : OneS es) (k : Nat) : OneS (es.take k) := fun e he => h e (List.mem_of_mem_take he)
theorem OneS.drop {es : List Se} (h : OneS es) (k : Nat) : OneS (es.drop k) := fun e he => h e (List.mem_of_mem_drop he)
theorem RTurn.comp {GG G : Nat → Prop} {X : Nat} {d : Dk} {w D Z : World} (h : RTurn GG X d D Z) (m1 : ∀ x, GG x → G x ∨ w.heap.size ≤ x) (m2 : ∀ x, G x → GG x) (m3 : Off G w D) : RTurn G X d w Z := by
  obtain ⟨G', hR, h1, h2, h3⟩ := h
  exact ⟨G', hR, fun g hg => (h1 g hg).elim (fun x => m1 g x) (fun x => .inr (Nat.le_trans m3.size x)), fun g hg => h2 g (m2 g hg), m3.trans2 h3 (fun i hi hg => (m1 i hg).resolve_right (by omega))⟩
end Go.Proofs.Ytnlemjjigiphcaa
