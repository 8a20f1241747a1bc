/- The document's disk: a crash, its sectors one by one. -/
import Derived.Test.YtnlemjjigiphcaaDrg
import Derived.Test.YtnlemjjigiphcaaDt
namespace Go.Proofs.Ytnlemjjigiphcaa
open Go.RowKit Go.ChangeShapes
set_option linter.unusedVariables false
set_option maxRecDepth 100000

theorem buX_t {x : Sx} (r : List Sx) (h : x.dirty = true) : buX (x :: r) = (x.n, x.last) :: buX r := by rw [buX, if_pos h]
theorem buX_f {x : Sx} (r : List Sx) (h : ¬ x.dirty = true) : buX (x :: r) = buX r := by rw [buX, if_neg h]
theorem crashX_t {x : Sx} (r : List Sx) (ps : List Int) (h : x.dirty = true) : crashX (x :: r) ps = ⟨x.n, torn (pickOf ps) x.last x.on, torn (pickOf ps) x.last x.on, false⟩ :: crashX r ps.tail := by rw [crashX, if_pos h]
theorem crashX_f {x : Sx} (r : List Sx) (ps : List Int) (h : ¬ x.dirty = true) : crashX (x :: r) ps = x :: crashX r ps := by rw [crashX, if_neg h]
theorem buX_app : ∀ (a b : List Sx), buX (a ++ b) = buX a ++ buX b
  | [], b => rfl
  | x :: r, b => by
    rw [List.cons_append]
    by_cases h : x.dirty = true
    · rw [buX_t _ h, buX_t _ h, buX_app r b]
      rfl
    · rw [buX_f _ h, buX_f _ h, buX_app r b]
theorem drop_tail' (ps : List Int) (n : Nat) : ps.tail.drop n = ps.drop (n + 1) := by
  cases ps <;> simp
theorem crashX_app : ∀ (a b : List Sx) (ps : List Int), crashX (a ++ b) ps = crashX a ps ++ crashX b (ps.drop (buX a).length)
  | [], b, ps => rfl
  | x :: r, b, ps => by
    rw [List.cons_append]
    by_cases hx : x.dirty = true
    · rw [crashX_t _ _ hx, crashX_t _ _ hx, crashX_app r b ps.tail, buX_t _ hx, List.length_cons, drop_tail']
      rfl
    · rw [crashX_f _ _ hx, crashX_f _ _ hx, crashX_app r b ps, buX_f _ hx]
      rfl
theorem cells4_all : ∀ (es : List Se) (k : Nat) (e : Se) (vo vl : Value) (a b : Sec) (c : Bool), es[k]? = some e → cells4 (es.set k ⟨⟨e.x.n, a, b, c⟩, vo, vl⟩) = (((cells4 es).set (k * 4 + 1) vo).set (k * 4 + 2) vl).set (k * 4 + 3) (.bool c)
  | [], k, e, vo, vl, a, b, c, h => by simp at h
  | x :: r, 0, e, vo, vl, a, b, c, h => by
    cases h
    rfl
  | x :: r, k + 1, e, vo, vl, a, b, c, h => by
    have ih := cells4_all r k e vo vl a b c h
    have e1 : ∀ y (t : List Se), cells4 (y :: t) = .int .i64 y.x.n :: y.vo :: y.vl :: .bool y.x.dirty :: cells4 t := fun _ _ => rfl
    have e2 : (k + 1) * 4 + 1 = k * 4 + 1 + 1 + 1 + 1 + 1 := by omega
    have e3 : (k + 1) * 4 + 2 = k * 4 + 2 + 1 + 1 + 1 + 1 := by omega
    have e4 : (k + 1) * 4 + 3 = k * 4 + 3 + 1 + 1 + 1 + 1 := by omega
    rw [List.set_cons_succ, e1, e1, ih, e2, e3, e4]
    rfl
theorem RowW.len {G : Nat → Prop} {w : World} {X n g c : Nat} {d : Dk} {es : List Se} (h : RowW G w X d (.slice (some ⟨g, 0, none⟩) n c) es) : n = es.length := by
  rcases h.row.2 with ⟨e, _⟩ | ⟨g', cap, cur, e, _⟩
  · cases e
  · injection e with _ e _
/-- between the stores: the row's first store is done -/
theorem RowW.mid {G : Nat → Prop} {w w7 D : World} {X n g c k : Nat} {d : Dk} {es : List Se} {e : Se} {v : Value} (h : RowW G w X d (.slice (some ⟨g, 0, none⟩) n c) es) (he : es[k]? = some e) (hb7 : Below w.heap.size w w7) (hD : Below (w7.setCell ⟨g, k * 4 + 1, none⟩ v).heap.size (w7.setCell ⟨g, k * 4 + 1, none⟩ v) D) :
    D.ownsRow 0 66 4 (.slice (some ⟨g, 0, none⟩) n c) n ((cells4 es).set (k * 4 + 1) v) ∧ D.cell? ⟨X, 1, none⟩ = some (.slice (some ⟨g, 0, none⟩) n c) ∧ D.cell? ⟨g, k * 4 + 1, none⟩ = some v ∧ D.cell? ⟨g, k * 4 + 2, none⟩ = some e.vl ∧ D.cell? ⟨g, k * 4 + 3, none⟩ = some (.bool e.x.dirty) ∧ (∀ j, D.frozen? ⟨g, j, none⟩ = false) ∧ Off (· = g) w D := by
  obtain rfl := h.len
  have ho : Off (· = g) w D := ((Off.of_below hb7).trans (off1 w7 g (k * 4 + 1) v)).trans (.of_below hD)
  have h7 := (Off.of_below (ex := fun _ => False) hb7).rowAt h.row (fun h => h)
  have hr := (Off.of_below (ex := fun _ => False) hD).rowAt (row_store h7 (k * 4 + 1) v) (fun h => h)
  obtain ⟨q0, q1, q2, q3⟩ := cells4_get es k e he
  have hlt := (List.getElem?_eq_some_iff.1 q1).1
  refine ⟨hr, off_cell ho (h.cell 1) h.ne, (row_cell hr _ ?_).2, (row_cell hr _ ?_).2, (row_cell hr _ ?_).2, fun j => row_free hr j, ho⟩
  · rw [List.getElem?_set, if_pos rfl, if_pos hlt]
  · rw [List.getElem?_set_ne (by omega)]; exact q2
  · rw [List.getElem?_set_ne (by omega)]; exact q3
theorem RowW.crash {G : Nat → Prop} {w w7 D : World} {X n g c k gb cb : Nat} {d : Dk} {es : List Se} {e : Se} {t : Sec} (h : RowW G w X d (.slice (some ⟨g, 0, none⟩) n c) es) (he : es[k]? = some e) (hb7 : Below w.heap.size w w7) (hr : w7.ownsRow w.heap.size 5 1 (.slice (some ⟨gb, 0, none⟩) 128 cb) 128 (bys t)) (ht : t.length = 128)
    (hD : Below (w7.setCell ⟨g, k * 4 + 1, none⟩ (.slice (some ⟨gb, 0, none⟩) 128 cb)).heap.size (w7.setCell ⟨g, k * 4 + 1, none⟩ (.slice (some ⟨gb, 0, none⟩) 128 cb)) D) :
    ∃ G', RowW G' ((D.setCell ⟨g, k * 4 + 2, none⟩ (.slice (some ⟨gb, 0, none⟩) 128 cb)).setCell ⟨g, k * 4 + 3, none⟩ (.bool false)) X d (.slice (some ⟨g, 0, none⟩) n c) (es.set k ⟨⟨e.x.n, t, t, false⟩, .slice (some ⟨gb, 0, none⟩) 128 cb, .slice (some ⟨gb, 0, none⟩) 128 cb⟩) ∧ (∀ x, G' x → G x ∨ w.heap.size ≤ x) ∧ (∀ x, G x → G' x) ∧ Off (· = g) w ((D.setCell ⟨g, k * 4 + 2, none⟩ (.slice (some ⟨gb, 0, none⟩) 128 cb)).setCell ⟨g, k * 4 + 3, none⟩ (.bool false)) := by
  obtain ⟨hr1, _, _, _, _, _, ho1⟩ := h.mid he hb7 hD
  obtain rfl := h.len
  have hg : g < w.heap.size := h.lt g (h.gR g rfl)
  have hgb : w.heap.size ≤ gb := (row_blk hr).1
  have hgb7 : gb < w7.heap.size := by obtain ⟨_, _, _, cs, hc⟩ := row_blk hr; exact (Array.getElem?_eq_some_iff.1 hc).1
  have o2 := (off1 D g (k * 4 + 2) (.slice (some ⟨gb, 0, none⟩) 128 cb)).trans (off1 _ g (k * 4 + 3) (.bool false))
  have row := row_store (row_store hr1 (k * 4 + 2) (.slice (some ⟨gb, 0, none⟩) 128 cb)) (k * 4 + 3) (.bool false)
  rw [← cells4_all es k e _ _ t t false he] at row
  have o7 : Off (· = g) w7 ((D.setCell ⟨g, k * 4 + 2, none⟩ (.slice (some ⟨gb, 0, none⟩) 128 cb)).setCell ⟨g, k * 4 + 3, none⟩ (.bool false)) := ((off1 w7 g (k * 4 + 1) _).trans (.of_below hD)).trans o2
  have ho := ho1.trans o2
  generalize (D.setCell ⟨g, k * 4 + 2, none⟩ (.slice (some ⟨gb, 0, none⟩) 128 cb)).setCell ⟨g, k * 4 + 3, none⟩ (.bool false) = Z at row ho o7 ⊢
  have hd : secAt (fun x => G x ∨ (w.heap.size ≤ x ∧ x < Z.heap.size)) Z (.slice (some ⟨gb, 0, none⟩) 128 cb) t := ⟨gb, cb, rfl, .inr ⟨hgb, Nat.lt_of_lt_of_le hgb7 o7.size⟩, ht, o7.rowAt (row_base hr (Nat.zero_le _)) (by omega)⟩
  refine ⟨fun x => G x ∨ (w.heap.size ≤ x ∧ x < Z.heap.size), h.put ho row (fun x hx => .inl hx) (fun x hx => ?_) ⟨hd, hd⟩, fun x hx => hx.imp id (fun h => h.1), fun x hx => .inl hx, ho⟩
  rcases hx with hx | hx
  · exact Nat.lt_of_lt_of_le (h.lt x hx) ho.size
  · exact hx.2
/-- a crash on its way: so many sectors are done -/
structure CrW (G : Nat → Prop) (w wr : World) (X : Nat) (d : Dk) (v : Value) (es : List Se) (ps : List Int) (i nn : Nat) (GG : Nat → Prop) (fs : List Se) : Prop where
  r : RowW GG wr X d v (fs ++ es.drop i)
  l : fs.length = i
  x : fs.map (·.x) = crashX ((es.take i).map (·.x)) ps
  n : nn = (buX ((es.take i).map (·.x))).length
  new : ∀ x, GG x → G x ∨ w.heap.size ≤ x
  old : ∀ x, G x → GG x
  o : Off G w wr
theorem CrW.start {G : Nat → Prop} {w : World} {X : Nat} {d : Dk} {v : Value} {es : List Se} (h : RowW G w X d v es) (ps : List Int) : CrW G w w X d v es ps 0 0 G [] :=
  ⟨h, rfl, rfl, rfl, fun x hx => .inl hx, fun x hx => hx, Off.refl _ _⟩
theorem CrW.get {G GG : Nat → Prop} {w wr : World} {X i nn : Nat} {d : Dk} {v : Value} {es fs : List Se} {ps : List Int} (h : CrW G w wr X d v es ps i nn GG fs) : (fs ++ es.drop i)[i]? = es[i]? := by
  rw [List.getElem?_append_right (by rw [h.l]; exact Nat.le_refl _), h.l, Nat.sub_self, List.getElem?_drop, Nat.add_zero]
theorem take_one {es : List Se} {i : Nat} {e : Se} (he : es[i]? = some e) : (es.take (i + 1)).map (·.x) = (es.take i).map (·.x) ++ [e.x] := by
  rw [List.take_add_one, he, List.map_append]
  rfl
theorem drop_one {es : List Se} {i : Nat} {e : Se} (he : es[i]? = some e) : es.drop i = e :: es.drop (i + 1) := by
  obtain ⟨h1, h2⟩ := List.getElem?_eq_some_iff.1 he
  rw [List.drop_eq_getElem_cons h1, h2]
theorem CrW.clean {G GG : Nat → Prop} {w wr : World} {X i nn : Nat} {d : Dk} {v : Value} {es fs : List Se} {ps : List Int} {e : Se} (h : CrW G w wr X d v es ps i nn GG fs) (he : es[i]? = some e) (hd : e.x.dirty = false) : CrW G w wr X d v es ps (i + 1) nn GG (fs ++ [e]) := by
  have e1 : buX [e.x] = [] := by rw [buX, if_neg (by rw [hd]; decide)]; rfl
  refine ⟨?_, by rw [List.length_append, h.l]; rfl, ?_, ?_, h.new, h.old, h.o⟩
  · have := h.r
    rw [drop_one he] at this
    rw [List.append_assoc]
    exact this
  · rw [List.map_append, h.x, take_one he, crashX_app]
    congr 1
    show [e.x] = crashX [e.x] _
    rw [crashX, if_neg (by rw [hd]; decide)]
    rfl
  · rw [take_one he, buX_app, e1, List.append_nil]
    exact h.n
theorem CrW.dirty {G GG G' : Nat → Prop} {w wr w' : World} {X i nn g : Nat} {d : Dk} {v v' : Value} {es fs : List Se} {ps : List Int} {e : Se} (h : CrW G w wr X d v es ps i nn GG fs) (he : es[i]? = some e) (hd : e.x.dirty = true) (hg : GG g)
    (hr : RowW G' w' X d v ((fs ++ es.drop i).set i ⟨⟨e.x.n, torn (pickOf (ps.drop nn)) e.x.last e.x.on, torn (pickOf (ps.drop nn)) e.x.last e.x.on, false⟩, v', v'⟩)) (h1 : ∀ x, G' x → GG x ∨ wr.heap.size ≤ x) (h2 : ∀ x, GG x → G' x) (ho : Off (· = g) wr w') : CrW G w w' X d v es ps (i + 1) (nn + 1) G' (fs ++ [⟨⟨e.x.n, torn (pickOf (ps.drop nn)) e.x.last e.x.on, torn (pickOf (ps.drop nn)) e.x.last e.x.on, false⟩, v', v'⟩]) := by
  refine ⟨?_, by rw [List.length_append, h.l]; rfl, ?_, ?_, fun x hx => (h1 x hx).elim (h.new x) (fun y => .inr (Nat.le_trans h.o.size y)), fun x hx => h2 x (h.old x hx), h.o.trans2 ho (fun x hl hx => by rw [hx] at hl ⊢; exact (h.new g hg).resolve_right (by omega))⟩
  · have := hr
    rw [drop_one he, List.set_append_right _ _ (by rw [h.l]; exact Nat.le_refl _), h.l, Nat.sub_self] at this
    rw [List.append_assoc]
    exact this
  · rw [List.map_append, h.x, take_one he, crashX_app, ← h.n]
    congr 1
    show [_] = crashX [e.x] _
    rw [crashX, if_pos hd]
    rfl
  · rw [take_one he, buX_app, List.length_append, ← h.n]
    rw [buX, if_pos hd]
    rfl
end Go.Proofs.Ytnlemjjigiphcaa
