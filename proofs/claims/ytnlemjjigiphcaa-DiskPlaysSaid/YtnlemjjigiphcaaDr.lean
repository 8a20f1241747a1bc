/- Contracts of the document's disk: New, Stop, goes, at, Read. -/
import Derived.Test.YtnlemjjigiphcaaDv
import Derived.Test.YtnlemjjigiphcaaDq
import Derived.IntWalk
namespace Go.Proofs.Ytnlemjjigiphcaa
open Go.RowKit Go.ChangeShapes
set_option linter.unusedVariables false
set_option maxRecDepth 100000

/-- a sector, as it lies: its own, and where its bytes are -/
structure Se where
  x : Sx
  vo : Value
  vl : Value
def cells4 (es : List Se) : List Value := es.flatMap fun e => [.int .i64 e.x.n, e.vo, e.vl, .bool e.x.dirty]
theorem cells4_len (es : List Se) : (cells4 es).length = es.length * 4 := by
  unfold cells4
  induction es with
  | nil => rfl
  | cons e r ih => rw [List.flatMap_cons, List.length_append, ih]; simp; omega
theorem cells4_get : ∀ (es : List Se) (j : Nat) (e : Se), es[j]? = some e → (cells4 es)[j * 4]? = some (.int .i64 e.x.n) ∧ (cells4 es)[j * 4 + 1]? = some e.vo ∧ (cells4 es)[j * 4 + 2]? = some e.vl ∧ (cells4 es)[j * 4 + 3]? = some (.bool e.x.dirty)
  | [], j, e, h => by simp at h
  | x :: r, 0, e, h => by
    cases h
    exact ⟨rfl, rfl, rfl, rfl⟩
  | x :: r, j + 1, e, h => by
    have ih := cells4_get r j e h
    have e1 : cells4 (x :: r) = .int .i64 x.x.n :: x.vo :: x.vl :: .bool x.x.dirty :: cells4 r := rfl
    rw [e1]
    have e2 : (j + 1) * 4 = j * 4 + 1 + 1 + 1 + 1 := by omega
    rw [e2]
    exact ih
theorem cells4_app (es fs : List Se) : cells4 (es ++ fs) = cells4 es ++ cells4 fs := by unfold cells4; rw [List.flatMap_append]
/-- the document's disk in block X -/
def rdC (d : Dk) (v : Value) : Array Value := #[.int .i64 d.n, v, .int .i64 d.ops, .int .i64 d.left, .bool d.dead]
structure RefIn (G : Nat → Prop) (w : World) (X : Nat) (d : Dk) (s : List Sx) (v : Value) (es : List Se) : Prop where
  blk : w.heap[X]? = some (.cells (rdC d v) 53 (0, 0))
  gX : G X
  row : w.ownsRow 0 66 4 v es.length (cells4 es)
  gR : ∀ g, v.ownBlock = some g → G g
  dat : ∀ e ∈ es, secAt G w e.vo e.x.on ∧ secAt G w e.vl e.x.last
  xs : es.map (·.x) = s
  sim : SimL d.n d.bu d.on s
  ok : DOk d
  ops : I64 d.ops
  left : d.left ≤ 9223372036854775807
  lt : ∀ g, G g → g < w.heap.size
def RefAt (G : Nat → Prop) (w : World) (X : Nat) (d : Dk) : Prop := ∃ s v es, RefIn G w X d s v es
def RTurn (G : Nat → Prop) (X : Nat) (d : Dk) (w w' : World) : Prop := ∃ G', RefAt G' w' X d ∧ (∀ g, G' g → G g ∨ w.heap.size ≤ g) ∧ (∀ g, G g → G' g) ∧ Off G w w'
theorem RefIn.len {G : Nat → Prop} {w : World} {X : Nat} {d : Dk} {s : List Sx} {v : Value} {es : List Se} (h : RefIn G w X d s v es) : s.length = es.length := by rw [← h.xs, List.length_map]
theorem RefIn.cell {G : Nat → Prop} {w : World} {X : Nat} {d : Dk} {s : List Sx} {v : Value} {es : List Se} (h : RefIn G w X d s v es) (j : Nat) : w.cell? ⟨X, j, none⟩ = (rdC d v)[j]? := cell_of_row w X j _ _ _ h.blk
theorem RefIn.free {G : Nat → Prop} {w : World} {X : Nat} {d : Dk} {s : List Sx} {v : Value} {es : List Se} (h : RefIn G w X d s v es) (j : Nat) : w.frozen? ⟨X, j, none⟩ = false := by
  simp [World.frozen?, show w.heap[X]? = _ from h.blk]
theorem row_eq {w w' : World} {e : TypeId} {size n : Nat} {v : Value} {xs : List Value} (h : w.ownsRow 0 e size v n xs) (he : ∀ g, v.ownBlock = some g → w'.heap[g]? = w.heap[g]?) : w'.ownsRow 0 e size v n xs := by
  refine ⟨h.1, ?_⟩
  rcases h.2 with h | ⟨g, cap, cur, e1, hb, hx, h3⟩
  · exact .inl h
  · exact .inr ⟨g, cap, cur, e1, hb, (he g (by rw [e1]; rfl)).trans hx, h3⟩
theorem RefIn.eq {G : Nat → Prop} {w w' : World} {X : Nat} {d : Dk} {s : List Sx} {v : Value} {es : List Se} (h : RefIn G w X d s v es) (he : ∀ g, G g → g < w.heap.size → w'.heap[g]? = w.heap[g]?) (hs : w.heap.size ≤ w'.heap.size) : RefIn G w' X d s v es :=
  ⟨(he X h.gX (h.lt X h.gX)).trans h.blk, h.gX, row_eq h.row (fun g hg => he g (h.gR g hg) (h.lt g (h.gR g hg))), h.gR, fun e hm => ⟨(h.dat e hm).1.eq he, (h.dat e hm).2.eq he⟩, h.xs, h.sim, h.ok, h.ops, h.left, fun g hg => Nat.lt_of_lt_of_le (h.lt g hg) hs⟩
theorem RefIn.off {ex G : Nat → Prop} {w w' : World} {X : Nat} {d : Dk} {s : List Sx} {v : Value} {es : List Se} (h : RefIn G w X d s v es) (ho : Off ex w w') (hn : ∀ g, G g → ¬ ex g) : RefIn G w' X d s v es := h.eq (fun g hg hl => ho.block g hl (hn g hg)) ho.size
theorem RefAt.off {ex G : Nat → Prop} {w w' : World} {X : Nat} {d : Dk} (h : RefAt G w X d) (ho : Off ex w w') (hn : ∀ g, G g → ¬ ex g) : RefAt G w' X d := by
  obtain ⟨s, v, es, h⟩ := h
  exact ⟨s, v, es, h.off ho hn⟩
theorem RefAt.below {G : Nat → Prop} {w w' : World} {X : Nat} {d : Dk} (h : RefAt G w X d) (hb : Below w.heap.size w w') : RefAt G w' X d := h.off (.of_below (ex := fun _ => False) hb) (fun _ _ h => h)
theorem RefAt.lt {G : Nat → Prop} {w : World} {X : Nat} {d : Dk} (h : RefAt G w X d) : ∀ g, G g → g < w.heap.size := by
  obtain ⟨s, v, es, h⟩ := h
  exact h.lt
/-- the head block turns -/
theorem RefIn.set {G : Nat → Prop} {w w' : World} {X : Nat} {d : Dk} {s : List Sx} {v : Value} {es : List Se} (h : RefIn G w X d s v es) (ho : Off (· = X) w w') (l o : Int) (dd : Bool) (hl : 0 ≤ l) (hl2 : l ≤ 9223372036854775807) (h2 : I64 o)
    (hb : w'.heap[X]? = some (.cells (rdC { d with left := l, dead := dd, ops := o } v) 53 (0, 0))) : RefIn G w' X { d with left := l, dead := dd, ops := o } s v es :=
  ⟨hb, h.gX, row_eq h.row (fun g hg => ho.block g (h.lt g (h.gR g hg)) (by
      rintro rfl
      rcases h.row.2 with ⟨e, _⟩ | ⟨g', cap, cur, e, _, hx, _⟩
      · rw [e] at hg; cases hg
      · rw [e] at hg; cases hg
        rw [h.blk] at hx; simp at hx)), h.gR, fun e hm => ⟨(h.dat e hm).1.off ho (by rintro g rfl cs hc; rw [h.blk] at hc; simp at hc), (h.dat e hm).2.off ho (by rintro g rfl cs hc; rw [h.blk] at hc; simp at hc)⟩, h.xs, h.sim,
    ⟨h.ok.n0, h.ok.n1, h.ok.on, h.ok.bu, h.ok.onR, h.ok.buR, hl⟩, h2, hl2, fun g hg => Nat.lt_of_lt_of_le (h.lt g hg) ho.size⟩
/-- what New answers, kept whole -/
def RNewP (w : World) (n : Int) (e : Ending) (w' : World) : Prop := ∃ X G, e = .returned (.tuple #[.pointer (some ⟨X, 0, none⟩), .int .i64 0]) ∧ RefAt G w' X (Dk.new n) ∧ (∀ g, G g → w.heap.size ≤ g) ∧ Below w.heap.size w w'
theorem c_rNew (n : Int) (w : World) (h1 : 1 ≤ n) (h2 : n ≤ 4096) : Calls Try.prog 17 #[.int .i64 n] w (RNewP w n) := by
  have hl1 : ¬ n < 1 := by omega
  have hl2 : ¬ 4096 < n := by omega
  have H := Lib.hid (And.intro h1 h2)
  clear h1 h2
  go_enter Try.func17, Try.ntmps17
  go_wp2_with fail
  go_ret2
  exact ⟨w.heap.size, fun g => g = w.heap.size, rfl, ⟨[], .slice none 0 0, [], ⟨heap_alloc_new w _, rfl, World.ownsRow_nil _ _ _ _, fun g hg => (by cases hg), fun e he => (by simp at he), rfl, SimL.new n, DOk.new H.out.1 H.out.2, ⟨show (-9223372036854775808 : Int) ≤ 0 from by decide, show (0 : Int) ≤ 9223372036854775807 from by decide⟩, show (0 : Int) ≤ 9223372036854775807 from by decide, fun g hg => (by subst hg; simp)⟩⟩, fun g hg => (by omega), below_al0 _ _⟩
theorem c_rNew_no (n : Int) (w : World) (h1 : n < 1 ∨ 4096 < n) : Calls Try.prog 17 #[.int .i64 n] w fun e w' => e = .returned (.tuple #[.pointer none, .int .i64 1]) ∧ w = w' := by
  by_cases hl1 : n < 1
  · go_enter Try.func17, Try.ntmps17
    go_wp2_with fail
    go_ret2
    exact ⟨rfl, rfl⟩
  · have hl2 : 4096 < n := by omega
    go_enter Try.func17, Try.ntmps17
    go_wp2_with fail
    go_ret2
    exact ⟨rfl, rfl⟩
theorem c_rStop {G : Nat → Prop} (w : World) (X : Nat) (d : Dk) (n : Int) (h : RefAt G w X d) (hn : I64 n) : Calls Try.prog 22 #[.pointer (some ⟨X, 0, none⟩), .int .i64 n] w fun e w' => e = .returned (.tuple #[]) ∧ RTurn G X (d.stop n) w w' := by
  obtain ⟨s, v, es, h⟩ := h
  have c3 : w.cell? ⟨X, 3, none⟩ = some (.int .i64 d.left) := h.cell 3
  have cf := fun j => h.free j
  have H := Lib.hid h
  clear h
  have key : ∀ m, m = max n 0 → RTurn G X (d.stop n) w (w.setCell ⟨X, 3, none⟩ (.int .i64 m)) := by
    rintro m rfl
    have ho := off1 w X 3 (.int .i64 (max n 0))
    have hn2 := hn.2
    exact ⟨G, ⟨s, v, es, H.out.set ho (max n 0) d.ops d.dead (by omega) (by omega) H.out.ops (by simp [World.setCell, Array.getElem?_modify, H.out.blk, rdC])⟩, fun g hg => .inl hg, fun g hg => hg, ho.mono (fun k _ hk => hk ▸ H.out.gX)⟩
  replace key := Lib.hid key
  go_enter Try.func22, Try.ntmps22
  go_wp2
  all_goals
    go_end0
    exact ⟨rfl, key.out _ (by omega)⟩
theorem c_goes {G : Nat → Prop} (w : World) (X : Nat) (d : Dk) (s : List Sx) (v : Value) (es : List Se) (h : RefIn G w X d s v es) (hd : d.dead = false) : Calls Try.prog 30 #[.pointer (some ⟨X, 0, none⟩)] w fun e w' => e = .returned (.bool d.spend.2) ∧ RefIn G w' X d.spend.1 s v es ∧ Off (· = X) w w' := by
  have c3 : w.cell? ⟨X, 3, none⟩ = some (.int .i64 d.left) := h.cell 3
  have c4 : w.cell? ⟨X, 4, none⟩ = some (.bool false) := by rw [← hd]; exact h.cell 4
  have c5 : w.cell? ⟨X, 2, none⟩ = some (.int .i64 d.ops) := h.cell 2
  have cf := fun j => h.free j
  have hl0 := h.ok.left
  have hl1 := h.left
  have H := Lib.hid h
  have HD := Lib.hid hd
  unfold Dk.spend
  clear h hd
  by_cases e1 : d.left = 1
  · rw [if_pos e1]
    rw [e1] at c3
    go_enter Try.func30, Try.ntmps30
    go_wp2
    go_ret
    have ho := (off1 w X 3 (.int .i64 0)).trans (off1 _ X 4 (.bool true))
    exact ⟨rfl, H.out.set ho 0 d.ops true (Int.le_refl _) (by omega) H.out.ops (by simp [World.setCell, Array.getElem?_modify, H.out.blk, rdC]), ho⟩
  · rw [if_neg e1]
    by_cases e0 : 0 < d.left
    · rw [if_pos e0]
      have e2 : (d.left - 1 == 0) = false := by rw [beq_eq_false_iff_ne]; omega
      go_enter Try.func30, Try.ntmps30
      go_wp2
      go_ret
      have ho := (off1 w X 3 (.int .i64 (d.left - 1))).trans (off1 _ X 2 (.int .i64 (wrap64 (d.ops + 1))))
      exact ⟨rfl, H.out.set ho _ _ _ (by omega) (by omega) (wr64_in _) (by simp [World.setCell, Array.getElem?_modify, H.out.blk, rdC, HD.out, wr64, wrap64]), ho⟩
    · rw [if_neg e0]
      go_enter Try.func30, Try.ntmps30
      go_wp2
      go_ret
      have ho := off1 w X 2 (.int .i64 (wrap64 (d.ops + 1)))
      exact ⟨rfl, H.out.set ho _ _ _ hl0 hl1 (wr64_in _) (by simp [World.setCell, Array.getElem?_modify, H.out.blk, rdC, wr64, wrap64]), ho⟩
end Go.Proofs.Ytnlemjjigiphcaa
