/- The document's disk: a sector on the way to being written. -/
import Derived.Test.YtnlemjjigiphcaaDrc
namespace Go.Proofs.Ytnlemjjigiphcaa
open Go.RowKit Go.ChangeShapes
set_option linter.unusedVariables false
set_option maxRecDepth 100000

/-- all is there, but for the last bytes of the k-th -/
structure MidW (G : Nat → Prop) (w : World) (X : Nat) (d : Dk) (g c : Nat) (es : List Se) (k : Nat) (e : Se) : Prop where
  blk : w.heap[X]? = some (.cells (rdC d (.slice (some ⟨g, 0, none⟩) es.length c)) 53 (0, 0))
  gX : G X
  row : w.ownsRow 0 66 4 (.slice (some ⟨g, 0, none⟩) es.length c) es.length (cells4 es)
  gR : G g
  gk : es[k]? = some e
  dat : ∀ j e', j ≠ k → es[j]? = some e' → secAt G w e'.vo e'.x.on ∧ secAt G w e'.vl e'.x.last
  on : secAt G w e.vo e.x.on
  lt : ∀ g, G g → g < w.heap.size
theorem MidW.ne {G : Nat → Prop} {w : World} {X : Nat} {d : Dk} {g c k : Nat} {es : List Se} {e : Se} (h : MidW G w X d g c es k e) : X ≠ g := by
  rintro rfl
  obtain ⟨_, _, _, cs, hc⟩ := row_blk h.row
  rw [h.blk] at hc
  simp at hc
theorem MidW.cellT {G : Nat → Prop} {w : World} {X : Nat} {d : Dk} {g c k : Nat} {es : List Se} {e : Se} (h : MidW G w X d g c es k e) : ∀ x, x = g → ∀ cs, w.heap[x]? ≠ some (.cells cs 5 (0, 0)) := by
  rintro x rfl cs hx
  obtain ⟨_, _, _, cs', hc⟩ := row_blk h.row
  rw [hx] at hc
  simp at hc
theorem MidW.below {G : Nat → Prop} {w w' : World} {X : Nat} {d : Dk} {g c k : Nat} {es : List Se} {e : Se} (h : MidW G w X d g c es k e) (hb : Below w.heap.size w w') : MidW G w' X d g c es k e := by
  have ho : Off (fun _ => False) w w' := .of_below hb
  have hs : ∀ v b, secAt G w v b → secAt G w' v b := fun v b x => x.off ho (fun _ h => h.elim)
  exact ⟨ho.keeps h.blk (fun h => h), h.gX, ho.rowAt h.row (fun h => h), h.gR, h.gk, fun j e' hj he => ⟨hs _ _ (h.dat j e' hj he).1, hs _ _ (h.dat j e' hj he).2⟩, hs _ _ h.on, fun g hg => Nat.lt_of_lt_of_le (h.lt g hg) hb.size⟩
theorem MidW.cell {G : Nat → Prop} {w : World} {X : Nat} {d : Dk} {g c k : Nat} {es : List Se} {e : Se} (h : MidW G w X d g c es k e) : w.cell? ⟨X, 1, none⟩ = some (.slice (some ⟨g, 0, none⟩) es.length c) := cell_of_row w X 1 _ _ _ h.blk
theorem MidW.free {G : Nat → Prop} {w : World} {X : Nat} {d : Dk} {g c k : Nat} {es : List Se} {e : Se} (h : MidW G w X d g c es k e) (j : Nat) : w.frozen? ⟨g, j, none⟩ = false := by
  obtain ⟨_, _, _, cs, hc⟩ := row_blk h.row
  simp [World.frozen?, hc]
theorem RefIn.mid {G : Nat → Prop} {w : World} {X : Nat} {d : Dk} {s : List Sx} {g c k : Nat} {es : List Se} {e : Se} (h : RefIn G w X d s (.slice (some ⟨g, 0, none⟩) es.length c) es) (hk : es[k]? = some e) : MidW G w X d g c es k e :=
  ⟨h.blk, h.gX, h.row, h.gR g rfl, hk, fun j e' _ he => h.dat e' (List.mem_of_getElem? he), (h.dat e (List.mem_of_getElem? hk)).1, h.lt⟩
theorem MidW.fin {G : Nat → Prop} {w w6 : World} {X : Nat} {d : Dk} {g c k gb cb : Nat} {es : List Se} {e : Se} {b : Sec} (h : MidW G w X d g c es k e) (hb6 : Below w.heap.size w w6) (hr : w6.ownsRow w.heap.size 5 1 (.slice (some ⟨gb, 0, none⟩) 128 cb) 128 (bys b)) (hl : b.length = 128)
    (s' : List Sx) (bu : AL) (hs : (es.set k ⟨⟨e.x.n, e.x.on, b, true⟩, e.vo, .slice (some ⟨gb, 0, none⟩) 128 cb⟩).map (·.x) = s') (sim : SimL d.n bu d.on s') (ok : DOk { d with bu := bu }) (ops : I64 d.ops) (left : d.left ≤ 9223372036854775807) :
    RTurn G X { d with bu := bu } w ((w6.setCell ⟨g, k * 4 + 2, none⟩ (.slice (some ⟨gb, 0, none⟩) 128 cb)).setCell ⟨g, k * 4 + 3, none⟩ (.bool true)) := by
  have hgl := h.lt g h.gR
  have hgb : w.heap.size ≤ gb := (row_blk hr).1
  have hgb6 : gb < w6.heap.size := by obtain ⟨_, _, _, cs, hc⟩ := row_blk hr; exact (Array.getElem?_eq_some_iff.1 hc).1
  have o6 : Off (fun _ => False) w w6 := .of_below hb6
  have o8 := (off1 w6 g (k * 4 + 2) (.slice (some ⟨gb, 0, none⟩) 128 cb)).trans (off1 _ g (k * 4 + 3) (.bool true))
  have row8 := row_store (row_store (o6.rowAt h.row (fun h => h)) (k * 4 + 2) (.slice (some ⟨gb, 0, none⟩) 128 cb)) (k * 4 + 3) (.bool true)
  rw [← cells4_set es k e e.x.n e.vo _ e.x.on b h.gk rfl rfl] at row8
  generalize (w6.setCell ⟨g, k * 4 + 2, none⟩ (.slice (some ⟨gb, 0, none⟩) 128 cb)).setCell ⟨g, k * 4 + 3, none⟩ (.bool true) = w8 at o8 row8 ⊢
  have o : Off (· = g) w w8 := (Off.of_below (ex := (· = g)) hb6).trans o8
  have hG : ∀ x, G x → G x ∨ (w.heap.size ≤ x ∧ x < w8.heap.size) := fun x hx => .inl hx
  have mv : ∀ v b, secAt G w v b → secAt (fun x => G x ∨ (w.heap.size ≤ x ∧ x < w8.heap.size)) w8 v b := fun v b x => (x.off o h.cellT).mono hG
  refine ⟨fun x => G x ∨ (w.heap.size ≤ x ∧ x < w8.heap.size), ⟨s', .slice (some ⟨g, 0, none⟩) es.length c, es.set k ⟨⟨e.x.n, e.x.on, b, true⟩, e.vo, .slice (some ⟨gb, 0, none⟩) 128 cb⟩, ?_⟩, fun x hx => ?_, hG, o.mono (fun x _ hx => hx ▸ h.gR)⟩
  · refine ⟨o.keeps h.blk h.ne, .inl h.gX, by rw [List.length_set]; exact row8, fun x hx => ?_, fun y hy => ?_, hs, sim, ok, ops, left, fun x hx => ?_⟩
    · cases hx
      exact .inl h.gR
    · obtain ⟨j, hj⟩ := List.getElem?_of_mem hy
      rw [List.getElem?_set] at hj
      by_cases hk : k = j
      · subst hk
        rw [if_pos rfl, if_pos (List.getElem?_eq_some_iff.1 h.gk).1] at hj
        cases hj
        refine ⟨mv _ _ h.on, gb, cb, rfl, .inr ⟨hgb, Nat.lt_of_lt_of_le hgb6 o8.size⟩, hl, ?_⟩
        exact o8.rowAt (row_base hr (Nat.zero_le _)) (by omega)
      · rw [if_neg hk] at hj
        obtain ⟨h1, h2⟩ := h.dat j y (fun e => hk e.symm) hj
        exact ⟨mv _ _ h1, mv _ _ h2⟩
    · rcases hx with hx | hx
      · exact Nat.lt_of_lt_of_le (h.lt x hx) o.size
      · exact hx.2
  · rcases hx with hx | hx
    · exact .inl hx
    · exact .inr hx.1
/-- a new sector, ahead of its bytes -/
def newS (n : Int) (z : Nat) : Se := ⟨⟨n, zeros, [], false⟩, .slice (some ⟨z, 0, none⟩) 128 128, .slice none 0 0⟩
theorem RefIn.ins {G : Nat → Prop} {w w4 : World} {X : Nat} {d : Dk} {s : List Sx} {v v' : Value} {es : List Se} {z k : Nat} {n : Int} (h : RefIn G w X d s v es) (hk : k ≤ es.length) (hb : Below w.heap.size w w4) (hz : w4.ownsRow w.heap.size 5 1 (.slice (some ⟨z, 0, none⟩) 128 128) 128 (bys zeros))
    (hr : w4.ownsRow w.heap.size 66 4 v' (es.take k ++ [newS n z] ++ es.drop k).length (cells4 (es.take k ++ [newS n z] ++ es.drop k))) : ∃ g c G', v' = .slice (some ⟨g, 0, none⟩) (es.take k ++ [newS n z] ++ es.drop k).length c ∧ MidW G' (w4.setCell ⟨X, 1, none⟩ v') X d g c (es.take k ++ [newS n z] ++ es.drop k) k (newS n z) ∧ (∀ x, G' x → G x ∨ w.heap.size ≤ x) ∧ (∀ x, G x → G' x) ∧ Off G w (w4.setCell ⟨X, 1, none⟩ v') := by
  obtain ⟨g, c, rfl⟩ := row_some hr (by simp; omega)
  have hX := h.lt X h.gX
  have hg : w.heap.size ≤ g := (row_blk hr).1
  have hz0 : w.heap.size ≤ z := (row_blk hz).1
  have hg4 : g < w4.heap.size := by obtain ⟨_, _, _, cs, hc⟩ := row_blk hr; exact (Array.getElem?_eq_some_iff.1 hc).1
  have hz4 : z < w4.heap.size := by obtain ⟨_, _, _, cs, hc⟩ := row_blk hz; exact (Array.getElem?_eq_some_iff.1 hc).1
  have o4 : Off (fun _ => False) w w4 := .of_below hb
  have blk4 := o4.keeps h.blk (fun h => h)
  have o5 := off1 w4 X 1 (.slice (some ⟨g, 0, none⟩) (es.take k ++ [newS n z] ++ es.drop k).length c)
  have blk5 : (w4.setCell ⟨X, 1, none⟩ (.slice (some ⟨g, 0, none⟩) (es.take k ++ [newS n z] ++ es.drop k).length c)).heap[X]? = some (.cells (rdC d (.slice (some ⟨g, 0, none⟩) (es.take k ++ [newS n z] ++ es.drop k).length c)) 53 (0, 0)) := by simp [World.setCell, Array.getElem?_modify, blk4, rdC]
  generalize hes : es.take k ++ [newS n z] ++ es.drop k = es' at *
  generalize w4.setCell ⟨X, 1, none⟩ (.slice (some ⟨g, 0, none⟩) es'.length c) = w5 at o5 blk5 ⊢
  have o : Off (· = X) w w5 := (Off.of_below (ex := (· = X)) hb).trans o5
  have hG : ∀ x, G x → G x ∨ (w.heap.size ≤ x ∧ x < w5.heap.size) := fun x hx => .inl hx
  have cX : ∀ x, x = X → ∀ cs, w.heap[x]? ≠ some (.cells cs 5 (0, 0)) := by rintro x rfl cs hx; rw [h.blk] at hx; simp at hx
  have mv : ∀ v b, secAt G w v b → secAt (fun x => G x ∨ (w.heap.size ≤ x ∧ x < w5.heap.size)) w5 v b := fun v b x => (x.off o cX).mono hG
  have hlen : (es.take k).length = k := by rw [List.length_take, Nat.min_eq_left hk]
  refine ⟨g, c, fun x => G x ∨ (w.heap.size ≤ x ∧ x < w5.heap.size), rfl, ?_, fun x hx => ?_, hG, o.mono (fun x _ hx => hx ▸ h.gX)⟩
  · refine ⟨blk5, .inl h.gX, o5.rowAt (row_base hr (Nat.zero_le _)) (by omega), .inr ⟨hg, Nat.lt_of_lt_of_le hg4 o5.size⟩, ?_, fun j y hj hy => ?_, ?_, fun x hx => ?_⟩
    · rw [← hes, List.append_assoc, List.getElem?_append_right (by omega), hlen, Nat.sub_self]
      rfl
    · have hmem : y ∈ es := by
        rw [← hes, List.append_assoc] at hy
        rcases Nat.lt_or_ge j k with hlt | hge
        · rw [List.getElem?_append_left (by omega)] at hy
          exact List.mem_of_mem_take (List.mem_of_getElem? hy)
        · rw [List.getElem?_append_right (by omega), hlen] at hy
          obtain ⟨i, hi⟩ : ∃ i, j - k = i + 1 := ⟨j - k - 1, by omega⟩
          rw [hi] at hy
          exact List.mem_of_mem_drop (List.mem_of_getElem? (show (es.drop k)[i]? = some y from hy))
      exact ⟨mv _ _ (h.dat y hmem).1, mv _ _ (h.dat y hmem).2⟩
    · exact ⟨z, 128, rfl, .inr ⟨hz0, Nat.lt_of_lt_of_le hz4 o5.size⟩, zeros_len, o5.rowAt (row_base hz (Nat.zero_le _)) (by omega)⟩
    · rcases hx with hx | hx
      · exact Nat.lt_of_lt_of_le (h.lt x hx) o.size
      · exact hx.2
  · rcases hx with hx | hx
    · exact .inl hx
    · exact .inr hx.1
/-- what the rows come to: the plain disk's -/
theorem RefIn.wr_some {G : Nat → Prop} {w : World} {X : Nat} {d : Dk} {s : List Sx} {v vl : Value} {es : List Se} {e : Se} {n : Int} {b : Sec} (h : RefIn G w X d s v es) (hf : findX s n = some e.x) (he : es[atX s n]? = some e) : (es.set (atX s n) ⟨⟨e.x.n, e.x.on, b, true⟩, e.vo, vl⟩).map (·.x) = writeX s n b := by
  unfold writeX
  rw [hf, List.map_set, h.xs]
  show s.set (atX s n) ⟨e.x.n, e.x.on, b, true⟩ = s.set (atX s n) ⟨n, e.x.on, b, true⟩
  rw [(findX_some hf).2]
theorem RefIn.wr_none {G : Nat → Prop} {w : World} {X : Nat} {d : Dk} {s : List Sx} {v vl : Value} {es : List Se} {z : Nat} {n : Int} {b : Sec} (h : RefIn G w X d s v es) (hf : findX s n = none) : ((es.take (atX s n) ++ [newS n z] ++ es.drop (atX s n)).set (atX s n) ⟨⟨(newS n z).x.n, (newS n z).x.on, b, true⟩, (newS n z).vo, vl⟩).map (·.x) = writeX s n b := by
  unfold writeX
  rw [hf]
  have hk := atX_le s n
  rw [h.len] at hk
  have hlen : (es.take (atX s n)).length = atX s n := by rw [List.length_take, Nat.min_eq_left hk]
  rw [List.append_assoc, List.set_append_right _ _ (by omega), hlen, Nat.sub_self, List.map_append, List.map_take, h.xs]
  show s.take (atX s n) ++ ⟨n, zeros, b, true⟩ :: (es.drop (atX s n)).map (·.x) = _
  rw [List.map_drop, h.xs]
end Go.Proofs.Ytnlemjjigiphcaa
