/- Worlds that are alike but for some blocks; a memory of segments. -/
import Derived.Test.YtiakonmamkfopaaZCpuA
namespace Go.Proofs.Ytiakonmamkfopaa
open Go.RowKit Go.ChangeShapes
set_option linter.unusedVariables false
set_option maxRecDepth 100000
/-- every block that was there is as it was, but for those of which ex speaks -/
structure Off (ex : Nat → Prop) (w w' : World) : Prop where
  os : w'.os = w.os
  tape : w'.tape = w.tape
  output : w'.output = w.output
  size : w.heap.size ≤ w'.heap.size
  block : ∀ k, k < w.heap.size → ¬ ex k → w'.heap[k]? = w.heap[k]?
theorem Off.refl (ex : Nat → Prop) (w : World) : Off ex w w := ⟨rfl, rfl, rfl, Nat.le_refl _, fun _ _ _ => rfl⟩
theorem Off.trans {ex : Nat → Prop} {a b c : World} (h : Off ex a b) (k : Off ex b c) : Off ex a c :=
  ⟨k.os.trans h.os, k.tape.trans h.tape, k.output.trans h.output, Nat.le_trans h.size k.size, fun i hi he => (k.block i (Nat.lt_of_lt_of_le hi h.size) he).trans (h.block i hi he)⟩
theorem Off.mono {ex ex' : Nat → Prop} {w w' : World} (h : Off ex w w') (he : ∀ k, k < w.heap.size → ex k → ex' k) : Off ex' w w' := ⟨h.os, h.tape, h.output, h.size, fun k hk hn => h.block k hk fun hx => hn (he k hk hx)⟩
theorem Off.of_below {ex : Nat → Prop} {w w' : World} (h : Below w.heap.size w w') : Off ex w w' := ⟨h.os, h.tape, h.output, h.size, fun k hk _ => h.block k hk⟩
theorem Off.below {ex : Nat → Prop} {w W w' : World} {B : Nat} (h : Below B w W) (ho : Off ex W w') (hB : B ≤ W.heap.size) (he : ∀ k, ex k → B ≤ k) : Below B w w' :=
  ⟨ho.os.trans h.os, ho.tape.trans h.tape, ho.output.trans h.output, Nat.le_trans h.size ho.size, fun k hk => (ho.block k (Nat.lt_of_lt_of_le hk hB) fun hx => absurd (he k hx) (by omega)).trans (h.block k hk)⟩
theorem Off.drew {ex : Nat → Prop} {a w : World} (h : Off ex a w) : Off ex a w.drew := ⟨h.os, h.tape, h.output, h.size, h.block⟩
theorem Off.drewN {ex : Nat → Prop} {a w : World} (h : Off ex a w) (n : Nat) : Off ex a (w.drewN n) := ⟨h.os, h.tape, h.output, h.size, h.block⟩
theorem Off.alloc {ex : Nat → Prop} {a w : World} (h : Off ex a w) (o : Obj) : Off ex a (w.alloc o) := h.trans (.of_below ((Below.refl _ _).alloc (Nat.le_refl _) o))
theorem Off.setCell {ex : Nat → Prop} {a w : World} (h : Off ex a w) {p : Addr} (hp : ex p.block ∨ a.heap.size ≤ p.block) (u : Value) : Off ex a (w.setCell p u) :=
  ⟨h.os, h.tape, h.output, by simpa using h.size, fun k hk hn => (Below.heap_setCell w p u k (by rintro rfl; rcases hp with hp | hp; exact hn hp; omega)).trans (h.block k hk hn)⟩
theorem Off.grown {ex : Nat → Prop} {a w w' : World} {row : Option Nat} (h : Off ex a w) (hg : w.grownBy w' row) (hr : ∀ k, row = some k → ex k ∨ a.heap.size ≤ k) : Off ex a w' :=
  ⟨hg.os.trans h.os, hg.tape.trans h.tape, hg.output.trans h.output, Nat.le_trans h.size hg.size, fun k hk hn => (hg.block k (Nat.lt_of_lt_of_le hk h.size) fun e => by rcases hr k e.symm with hx | hx; exact hn hx; omega).trans (h.block k hk hn)⟩
theorem Off.keeps {ex : Nat → Prop} {w w' : World} (h : Off ex w w') {k : Nat} {o : Obj} (hk : w.heap[k]? = some o) (hn : ¬ ex k) : w'.heap[k]? = some o := by
  rcases Nat.lt_or_ge k w.heap.size with hlt | hge
  · exact (h.block k hlt hn).trans hk
  · rw [Array.getElem?_eq_none hge] at hk; cases hk
/-- what a slice owns it owns still, where its block is none of those that may turn -/
theorem Off.row {ex : Nat → Prop} {w w' : World} (h : Off ex w w') {B : Nat} {e : TypeId} {size n : Nat} {v : Value} {xs : List Value} (ho : w.ownsRow B e size v n xs) (hn : ∀ k, ex k → ∀ cs, w.heap[k]? ≠ some (.cells cs e (0, 0))) : w'.ownsRow B e size v n xs := by
  refine ⟨ho.1, ?_⟩
  rcases ho.2 with h0 | ⟨g, cap, cur, hv, hb, hg, rest⟩
  · exact .inl h0
  · exact .inr ⟨g, cap, cur, hv, hb, h.keeps hg fun hx => hn g hx cur hg, rest⟩
/-- a segment: is it; its words, modes, brackets, gates -/
structure Sg where
  is : Bool
  ws : List Int
  md : Int
  r1 : Int
  r2 : Int
  r3 : Int
  g : Int
def Sg.row (s : Sg) (v : Value) : List Value := [.bool s.is, v, .int .i64 s.md, .int .i64 s.r1, .int .i64 s.r2, .int .i64 s.r3, .int .i64 s.g]
def rows : List Sg → List Value → List Value
  | s :: M, v :: vs => s.row v ++ rows M vs
  | _, _ => []
theorem rows_length : ∀ (M : List Sg) (vs : List Value), vs.length = M.length → (rows M vs).length = M.length * 7
  | [], [], _ => rfl
  | s :: M, v :: vs, h => by simp only [rows, List.length_append, Sg.row, List.length_cons, List.length_nil]; rw [rows_length M vs (by simpa using h)]; omega
theorem rows_get : ∀ (M : List Sg) (vs : List Value) (k j : Nat) (s : Sg) (v : Value), M[k]? = some s → vs[k]? = some v → j < 7 → (rows M vs)[k * 7 + j]? = (s.row v)[j]?
  | s' :: M, v' :: vs, 0, j, s, v, hs, hv, hj => by
    simp only [List.getElem?_cons_zero, Option.some.injEq] at hs hv
    subst hs; subst hv
    rw [rows, List.getElem?_append_left (by simp [Sg.row]; omega)]
    simp
  | s' :: M, v' :: vs, k + 1, j, s, v, hs, hv, hj => by
    rw [rows, List.getElem?_append_right (by simp [Sg.row]; omega)]
    have e : (k + 1) * 7 + j - (s'.row v').length = k * 7 + j := by simp [Sg.row]; omega
    rw [e]
    exact rows_get M vs k j s v (by simpa using hs) (by simpa using hv) hj
  | [], _, k, j, s, v, hs, _, _ => by simp at hs
  | _ :: _, [], k, j, s, v, _, hv, _ => by simp at hv
/-- slice v holds the segments M, of whose words the slices are vs -/
structure Segs (w : World) (B : Nat) (v : Value) (vs : List Value) (M : List Sg) : Prop where
  len : vs.length = M.length
  row : w.ownsRow B 57 7 v M.length (rows M vs)
  words : ∀ (i : Nat) (s : Sg) (u : Value), M[i]? = some s → vs[i]? = some u → w.ownsRow B 2 1 u s.ws.length (s.ws.map (Value.int .i64))
theorem Segs.off {ex : Nat → Prop} {w w' : World} {B : Nat} {v : Value} {vs : List Value} {M : List Sg} (h : Segs w B v vs M) (ho : Off ex w w')
    (h1 : ∀ k, ex k → ∀ cs, w.heap[k]? ≠ some (.cells cs 57 (0, 0))) (h2 : ∀ k, ex k → ∀ cs, w.heap[k]? ≠ some (.cells cs 2 (0, 0))) : Segs w' B v vs M :=
  ⟨h.len, ho.row h.row h1, fun i s u hs hu => ho.row (h.words i s u hs hu) h2⟩
theorem row_cell {w : World} {B : Nat} {e : TypeId} {size n : Nat} {xs : List Value} {g cap o : Nat} {x : Value} (h : w.ownsRow B e size (.slice (some ⟨g, o, none⟩) n cap) n xs) (j : Nat) (hj : xs[j]? = some x) : o = 0 ∧ w.cell? ⟨g, j, none⟩ = some x := by
  rcases h.2 with ⟨hv, _⟩ | ⟨g', cap', cur, hv, hb, hg, hn, hc, hs, hx⟩
  · cases hv
  · cases hv
    refine ⟨rfl, ?_⟩
    subst hx
    rw [cell_of_row w g j _ _ _ hg]
    rw [List.getElem?_take] at hj
    split at hj
    · simpa using hj
    · cases hj
theorem row_shape {w : World} {B : Nat} {e : TypeId} {size n : Nat} {v : Value} {xs : List Value} (h : w.ownsRow B e size v n xs) : ∃ ad cap, v = .slice ad n cap ∧ (ad = none → n = 0 ∧ cap = 0) ∧ ∀ a, ad = some a → ∃ g, a = ⟨g, 0, none⟩ := by
  rcases h.2 with ⟨hv, h0⟩ | ⟨g, cap, cur, hv, _⟩
  · subst h0; exact ⟨none, 0, hv, (fun _ => ⟨rfl, rfl⟩), (fun _ hx => by cases hx)⟩
  · exact ⟨_, cap, hv, (fun hx => by cases hx), (fun a ha => ⟨g, by cases ha; rfl⟩)⟩
theorem row_some {w : World} {B : Nat} {e : TypeId} {size n : Nat} {v : Value} {xs : List Value} (h : w.ownsRow B e size v n xs) (hn : 0 < n) : ∃ g cap, v = .slice (some ⟨g, 0, none⟩) n cap := by
  rcases h.2 with ⟨hv, h0⟩ | ⟨g, cap, cur, hv, _⟩
  · omega
  · exact ⟨g, cap, hv⟩
end Go.Proofs.Ytiakonmamkfopaa
