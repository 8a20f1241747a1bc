/- The document's disk: its row of sectors, appended, cut, written. -/
import Derived.Test.YtnlemjjigiphcaaDrb
import Derived.Test.YtnlemjjigiphcaaDx
namespace Go.Proofs.Ytnlemjjigiphcaa
open Go.RowKit Go.ChangeShapes
set_option linter.unusedVariables false
set_option maxRecDepth 100000

theorem sx_len : ∀ (s : List Sx) (lo N : Int), AscX s → (∀ x ∈ s, lo ≤ x.n ∧ x.n < N) → lo ≤ N → (s.length : Int) ≤ N - lo
  | [], lo, N, _, _, h => by simp; omega
  | x :: r, lo, N, h, hr, hl => by
    have hx := hr x (by simp)
    have ih := sx_len r (x.n + 1) N h.tail (fun y hy => ⟨by have := h.head y hy; omega, (hr y (by simp [hy])).2⟩) (by omega)
    simp only [List.length_cons]
    omega
theorem RefIn.small {G : Nat → Prop} {w : World} {X : Nat} {d : Dk} {s : List Sx} {v : Value} {es : List Se} (h : RefIn G w X d s v es) : es.length ≤ 4096 := by
  have h1 := sx_len s 0 d.n h.sim.asc (fun x hx => ⟨(h.sim.rng x hx).1, (h.sim.rng x hx).2.1⟩) (by have := h.ok.n0; omega)
  have h2 := h.ok.n1
  rw [h.len] at h1
  omega
theorem A.underSS : Try.prog.underlying 51 = some (.slice 66) := by kernel_rfl
theorem A.infoSE : (Try.prog.info? 66).map (fun i => (i.zero, i.size, i.bytes)) = some (some (.agg #[.int .i64 0, .slice none 0 0, .slice none 0 0, .bool false]), 4, 64) := by kernel_rfl
/-- sectors that may be read at a slice -/
def SrcAt (w : World) (v : Value) (fs : List Se) : Prop := ∃ ad c, v = .slice ad fs.length c ∧ (ad = none → fs = [] ∧ c = 0) ∧ ∀ a, ad = some a → ∀ j u, (cells4 fs)[j]? = some u → w.cell? (a.add j) = some u
def OneS (fs : List Se) : Prop := ∀ e ∈ fs, e.vo.oneCell' = true ∧ e.vl.oneCell' = true
theorem OneS.cells {fs : List Se} (h : OneS fs) : ∀ u ∈ cells4 fs, u.oneCell' = true := by
  intro u hu
  unfold cells4 at hu
  rw [List.mem_flatMap] at hu
  obtain ⟨e, he, hu⟩ := hu
  obtain ⟨h1, h2⟩ := h e he
  simp only [List.mem_cons, List.not_mem_nil, or_false] at hu
  rcases hu with rfl | rfl | rfl | rfl
  · rfl
  · exact h1
  · exact h2
  · rfl
theorem OneS.app {es fs : List Se} (h1 : OneS es) (h2 : OneS fs) : OneS (es ++ fs) := fun e he => by
  rcases List.mem_append.1 he with h | h
  · exact h1 e h
  · exact h2 e h
theorem secAt.one {F : Nat → Prop} {w : World} {v : Value} {b : Sec} (h : secAt F w v b) : v.oneCell' = true := by
  obtain ⟨g, c, rfl, _⟩ := h
  rfl
theorem RefIn.one {G : Nat → Prop} {w : World} {X : Nat} {d : Dk} {s : List Sx} {v : Value} {es : List Se} (h : RefIn G w X d s v es) : OneS es := fun e he => ⟨(h.dat e he).1.one, (h.dat e he).2.one⟩
theorem SrcAt.nil (w : World) : SrcAt w (.slice none 0 0) [] := ⟨none, 0, rfl, fun _ => ⟨rfl, rfl⟩, fun a h => by cases h⟩
theorem SrcAt.off {ex : Nat → Prop} {w w' : World} {v : Value} {fs : List Se} (h : SrcAt w v fs) (ho : Off ex w w') (hn : ∀ k, blkOf v = some k → ¬ ex k) : SrcAt w' v fs := by
  obtain ⟨ad, c, rfl, h1, h2⟩ := h
  refine ⟨ad, c, rfl, h1, fun a ha j u hu => off_cell ho (h2 a ha j u hu) ?_⟩
  subst ha
  have hb : (a.add j).block = a.block := by unfold Addr.add; split <;> rfl
  rw [hb]
  exact hn _ rfl
set_option maxHeartbeats 1000000 in
theorem wpList_append_secs {w : World} {ops : Array Oper} {rest : List Oper} {o : Oper} {a : Act} {Q : Exit → Act → World → Prop} (hgd : o.guard = none) (s x : Operand) (ho : o.op = .call { callee := .builtin .append, args := #[s, x], argTypes := #[51, 51] })
    (base : Nat) (v0 : Value) (es fs : List Se) (hs : a.eval s = v0) (hown : w.ownsRow base 66 4 v0 es.length (cells4 es)) (v : Value) (hx : a.eval x = v) (hv : SrcAt w v fs) (h1 : OneS fs) (hb : es.length + fs.length ≤ 8192) (hbase : base ≤ w.heap.size)
    (h : ∀ v' w', w'.ownsRow base 66 4 v' (es ++ fs).length (cells4 (es ++ fs)) → Off (fun k => v0.ownBlock = some k) w w' → wpList Try.prog ops Q rest (a.put o.dst v') w') : wpList Try.prog ops Q (o :: rest) a w := by
  obtain ⟨i0, hin, hz0, hz1, hz2⟩ := info_parts A.infoSE
  obtain ⟨ad, c, rfl, h2, h3⟩ := hv
  cases ad with
  | none =>
    obtain ⟨rfl, rfl⟩ := h2 rfl
    refine wpList_append_own_none hgd s x 51 ho base 66 i0 4 A.underSS hin v0 es.length (cells4 es) hs hown hx ?_
    refine h v0 w ?_ (Off.refl _ _)
    rw [List.append_nil]
    exact hown
  | some ad =>
    refine wpList_append_own _ hgd s x 51 ho base 66 i0 _ 4 64 A.underSS hin hz0 hz1 hz2 rfl (by decide) v0 es.length (cells4 es) hs hown ad fs.length c (cells4 fs) hx (cells4_len fs) (h3 ad rfl) h1.cells (by unfold maxLen; omega) (by omega) hbase (fun v' w' r1 r2 _ => ?_)
    refine h v' w' ?_ ((Off.refl _ _).grown r2 (fun k hk => .inl hk))
    rw [List.length_append, cells4_app]
    exact r1
theorem src_take {w : World} {B g c : Nat} {es : List Se} (h : w.ownsRow B 66 4 (.slice (some ⟨g, 0, none⟩) es.length c) es.length (cells4 es)) (k : Nat) (hk : k ≤ es.length) : SrcAt w (.slice (some ⟨g, 0, none⟩) k c) (es.take k) := by
  refine ⟨_, c, by rw [List.length_take, Nat.min_eq_left hk], fun h => (by cases h), fun a ha j u hu => ?_⟩
  cases ha
  rw [Addr.add_lit, Nat.zero_add]
  have e : cells4 es = cells4 (es.take k) ++ cells4 (es.drop k) := by rw [← cells4_app, List.take_append_drop]
  have hj := (List.getElem?_eq_some_iff.1 hu).1
  exact (row_cell h j (by rw [e, List.getElem?_append_left hj]; exact hu)).2
theorem src_drop {w : World} {B g c : Nat} {es : List Se} (h : w.ownsRow B 66 4 (.slice (some ⟨g, 0, none⟩) es.length c) es.length (cells4 es)) (k : Nat) (hk : k ≤ es.length) : SrcAt w (.slice (if c = k then some ⟨g, 0, none⟩ else some ⟨g, k * 4, none⟩) (es.length - k) (c - k)) (es.drop k) := by
  refine ⟨_, c - k, by rw [List.length_drop], fun h => ?_, fun a ha j u hu => ?_⟩
  · split at h
    · cases h
    · cases h
  · have e : cells4 es = cells4 (es.take k) ++ cells4 (es.drop k) := by rw [← cells4_app, List.take_append_drop]
    have hj := (List.getElem?_eq_some_iff.1 hu).1
    rw [cells4_len, List.length_drop] at hj
    have hc : es.length ≤ c := (row_blk h).2.1
    rw [if_neg (by omega)] at ha
    cases ha
    rw [Addr.add_lit]
    refine (row_cell h (k * 4 + j) ?_).2
    rw [e, List.getElem?_append_right (by rw [cells4_len, List.length_take, Nat.min_eq_left hk]; omega), cells4_len, List.length_take, Nat.min_eq_left hk, Nat.add_sub_cancel_left]
    exact hu
/-- one more, as the code lays it ahead of the append -/
theorem src_one (w : World) (e : Se) : SrcAt (w.alloc (.cells #[.int .i64 e.x.n, e.vo, e.vl, .bool e.x.dirty] 66)) (.slice (some ⟨w.heap.size, 0, none⟩) 1 1) [e] := by
  refine ⟨_, 1, rfl, fun h => (by cases h), fun a ha j u hu => ?_⟩
  cases ha
  rw [Addr.add_lit, Nat.zero_add, cell_of_row _ w.heap.size j _ _ _ (heap_alloc_new w _)]
  show (cells4 [e]).toArray[j]? = _
  rw [List.getElem?_toArray]
  exact hu
theorem cells4_set : ∀ (es : List Se) (k : Nat) (e : Se) (n : Int) (vo vl : Value) (on last : Sec), es[k]? = some e → e.x.n = n → e.vo = vo → cells4 (es.set k ⟨⟨n, on, last, true⟩, vo, vl⟩) = ((cells4 es).set (k * 4 + 2) vl).set (k * 4 + 3) (.bool true)
  | [], k, e, n, vo, vl, on, last, h, _, _ => by simp at h
  | x :: r, 0, e, n, vo, vl, on, last, h, hn, hv => by
    cases h
    subst hn hv
    rfl
  | x :: r, k + 1, e, n, vo, vl, on, last, h, hn, hv => by
    have ih := cells4_set r k e n vo vl on last h hn hv
    have e1 : ∀ y (t : List Se), cells4 (y :: t) = .int .i64 y.x.n :: y.vo :: y.vl :: .bool y.x.dirty :: cells4 t := fun _ _ => rfl
    have e2 : (k + 1) * 4 + 2 = k * 4 + 2 + 1 + 1 + 1 + 1 := by omega
    have e3 : (k + 1) * 4 + 3 = k * 4 + 3 + 1 + 1 + 1 + 1 := by omega
    rw [List.set_cons_succ, e1, e1, ih, e2, e3]
    rfl
end Go.Proofs.Ytnlemjjigiphcaa
