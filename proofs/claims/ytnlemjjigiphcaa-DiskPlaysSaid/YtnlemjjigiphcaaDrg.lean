/- The document's disk: Flush. -/
import Derived.Test.YtnlemjjigiphcaaDrf
namespace Go.Proofs.Ytnlemjjigiphcaa
open Go.RowKit Go.ChangeShapes
set_option linter.unusedVariables false
set_option maxRecDepth 100000

/-- the disk's blocks, whatever its sectors are to hold -/
structure RowW (G : Nat → Prop) (w : World) (X : Nat) (d : Dk) (v : Value) (es : List Se) : Prop where
  blk : w.heap[X]? = some (.cells (rdC d v) 53 (0, 0))
  gX : G X
  row : w.ownsRow 0 66 4 v es.length (cells4 es)
  gR : ∀ g, v.ownBlock = some g → G g
  dat : ∀ e ∈ es, secAt G w e.vo e.x.on ∧ secAt G w e.vl e.x.last
  lt : ∀ g, G g → g < w.heap.size
theorem RefIn.rows {G : Nat → Prop} {w : World} {X : Nat} {d : Dk} {s : List Sx} {v : Value} {es : List Se} (h : RefIn G w X d s v es) : RowW G w X d v es := ⟨h.blk, h.gX, h.row, h.gR, h.dat, h.lt⟩
theorem RowW.ref {G : Nat → Prop} {w : World} {X : Nat} {d d' : Dk} {s : List Sx} {v : Value} {es : List Se} (h : RowW G w X d v es) (he : rdC d v = rdC d' v) (xs : es.map (·.x) = s) (sim : SimL d'.n d'.bu d'.on s) (ok : DOk d') (ops : I64 d'.ops) (left : d'.left ≤ 9223372036854775807) : RefIn G w X d' s v es :=
  ⟨by rw [← he]; exact h.blk, h.gX, h.row, h.gR, h.dat, xs, sim, ok, ops, left, h.lt⟩
theorem RowW.cell {G : Nat → Prop} {w : World} {X : Nat} {d : Dk} {v : Value} {es : List Se} (h : RowW G w X d v es) (j : Nat) : w.cell? ⟨X, j, none⟩ = (rdC d v)[j]? := cell_of_row w X j _ _ _ h.blk
theorem RowW.free {G : Nat → Prop} {w : World} {X : Nat} {d : Dk} {v : Value} {es : List Se} (h : RowW G w X d v es) (j : Nat) : w.frozen? ⟨X, j, none⟩ = false := by
  simp [World.frozen?, show w.heap[X]? = _ from h.blk]
theorem RowW.ne {G : Nat → Prop} {w : World} {X n g c : Nat} {d : Dk} {es : List Se} (h : RowW G w X d (.slice (some ⟨g, 0, none⟩) n c) es) : X ≠ g := by
  rintro rfl
  rcases h.row.2 with ⟨e, _⟩ | ⟨g', cap, cur, e, _, hg, _⟩
  · cases e
  · cases e
    rw [h.blk] at hg
    simp at hg
theorem RowW.cellT {G : Nat → Prop} {w : World} {X n g c : Nat} {d : Dk} {es : List Se} (h : RowW G w X d (.slice (some ⟨g, 0, none⟩) n c) es) : ∀ x, x = g → ∀ cs, w.heap[x]? ≠ some (.cells cs 5 (0, 0)) := by
  rintro x rfl cs hx
  exact own_ne h.row x rfl cs hx
theorem RowW.below {G : Nat → Prop} {w w' : World} {X : Nat} {d : Dk} {v : Value} {es : List Se} (h : RowW G w X d v es) (hb : Below w.heap.size w w') : RowW G w' X d v es := by
  have ho : Off (fun _ => False) w w' := .of_below hb
  have hs : ∀ v b, secAt G w v b → secAt G w' v b := fun v b x => x.off ho (fun _ h => h.elim)
  exact ⟨ho.keeps h.blk (fun h => h), h.gX, ho.row h.row (fun _ h => h.elim), h.gR, fun e he => ⟨hs _ _ (h.dat e he).1, hs _ _ (h.dat e he).2⟩, fun g hg => Nat.lt_of_lt_of_le (h.lt g hg) hb.size⟩
/-- a sector turns -/
theorem RowW.put {G G' : Nat → Prop} {w w' : World} {X n g c i : Nat} {d : Dk} {es : List Se} {e' : Se} (h : RowW G w X d (.slice (some ⟨g, 0, none⟩) n c) es) (ho : Off (· = g) w w') (hr : w'.ownsRow 0 66 4 (.slice (some ⟨g, 0, none⟩) n c) es.length (cells4 (es.set i e'))) (hG : ∀ x, G x → G' x) (hlt : ∀ x, G' x → x < w'.heap.size) (hd : secAt G' w' e'.vo e'.x.on ∧ secAt G' w' e'.vl e'.x.last) : RowW G' w' X d (.slice (some ⟨g, 0, none⟩) n c) (es.set i e') := by
  have mv : ∀ v b, secAt G w v b → secAt G' w' v b := fun v b x => (x.off ho h.cellT).mono hG
  refine ⟨ho.keeps h.blk h.ne, hG _ h.gX, by rw [List.length_set]; exact hr, fun x hx => hG _ (h.gR x hx), fun y hy => ?_, hlt⟩
  rcases List.mem_or_eq_of_mem_set hy with hy | rfl
  · exact ⟨mv _ _ (h.dat y hy).1, mv _ _ (h.dat y hy).2⟩
  · exact hd
theorem RowW.form {G : Nat → Prop} {w : World} {X : Nat} {d : Dk} {v : Value} {es : List Se} (h : RowW G w X d v es) : ∃ ao cap, v = .slice ao es.length cap ∧ es.length ≤ maxLen ∧ (0 < es.length → ∃ g, ao = some ⟨g, 0, none⟩) := by
  rcases h.row.2 with ⟨e, e0⟩ | ⟨g, cap, cur, e, _, _, hc, hm, _⟩
  · exact ⟨none, 0, by rw [e0]; exact e, by rw [e0]; exact Nat.zero_le _, fun h => by omega⟩
  · exact ⟨_, cap, e, Nat.le_trans hc hm, fun _ => ⟨g, rfl⟩⟩
theorem RowW.rowc {G : Nat → Prop} {w : World} {X n g c : Nat} {d : Dk} {es : List Se} (h : RowW G w X d (.slice (some ⟨g, 0, none⟩) n c) es) {j : Nat} {e : Se} (he : es[j]? = some e) : w.cell? ⟨g, j * 4, none⟩ = some (.int .i64 e.x.n) ∧ w.cell? ⟨g, j * 4 + 1, none⟩ = some e.vo ∧ w.cell? ⟨g, j * 4 + 2, none⟩ = some e.vl ∧ w.cell? ⟨g, j * 4 + 3, none⟩ = some (.bool e.x.dirty) := by
  obtain ⟨h0, h1, h2, h3⟩ := cells4_get es j e he
  have hn : n = es.length := by
    rcases h.row.2 with ⟨e, _⟩ | ⟨g', cap, cur, e, _⟩
    · cases e
    · injection e with _ e _
  subst hn
  exact ⟨(row_cell h.row _ h0).2, (row_cell h.row _ h1).2, (row_cell h.row _ h2).2, (row_cell h.row _ h3).2⟩
theorem row_free {w : World} {B n n' g c : Nat} {xs : List Value} (h : w.ownsRow B 66 4 (.slice (some ⟨g, 0, none⟩) n' c) n xs) (j : Nat) : w.frozen? ⟨g, j, none⟩ = false := by
  rcases h.2 with ⟨e, _⟩ | ⟨g', cap, cur, e, _, hg, _⟩
  · cases e
  · cases e
    simp [World.frozen?, hg]
theorem cells4_on : ∀ (es : List Se) (k : Nat) (e : Se) (vo : Value) (on : Sec) (b : Bool), es[k]? = some e → cells4 (es.set k ⟨⟨e.x.n, on, e.x.last, b⟩, vo, e.vl⟩) = ((cells4 es).set (k * 4 + 1) vo).set (k * 4 + 3) (.bool b)
  | [], k, e, vo, on, b, h => by simp at h
  | x :: r, 0, e, vo, on, b, h => by
    cases h
    rfl
  | x :: r, k + 1, e, vo, on, b, h => by
    have ih := cells4_on r k e vo on b h
    have e1 : ∀ y (t : List Se), cells4 (y :: t) = .int .i64 y.x.n :: y.vo :: y.vl :: .bool y.x.dirty :: cells4 t := fun _ _ => rfl
    have e2 : (k + 1) * 4 + 1 = k * 4 + 1 + 1 + 1 + 1 + 1 := by omega
    have e3 : (k + 1) * 4 + 3 = k * 4 + 3 + 1 + 1 + 1 + 1 := by omega
    rw [List.set_cons_succ, e1, e1, ih, e2, e3]
    rfl
/-- a sector, flushed -/
def flE (e : Se) : Se := ⟨⟨e.x.n, e.x.last, e.x.last, false⟩, e.vl, e.vl⟩
def flI (es : List Se) (i : Nat) : List Se := (es.take i).map flE ++ es.drop i
theorem flI_len (es : List Se) (i : Nat) : (flI es i).length = es.length := by unfold flI; rw [List.length_append, List.length_map, List.length_take, List.length_drop]; omega
theorem flI_get (es : List Se) (i : Nat) (hi : i < es.length) : (flI es i)[i]? = es[i]? := by
  unfold flI
  rw [List.getElem?_append_right (by rw [List.length_map, List.length_take]; omega), List.length_map, List.length_take, Nat.min_eq_left (Nat.le_of_lt hi), Nat.sub_self, List.getElem?_drop, Nat.add_zero]
theorem flI_set : ∀ (es : List Se) (i : Nat) (e : Se), es[i]? = some e → (flI es i).set i (flE e) = flI es (i + 1)
  | [], i, e, h => by simp at h
  | x :: r, 0, e, h => by
    cases h
    rfl
  | x :: r, i + 1, e, h => by
    have ih := flI_set r i e h
    show flE x :: (flI r i).set i (flE e) = flE x :: flI r (i + 1)
    rw [ih]
theorem flI_end (es : List Se) : flI es es.length = es.map flE := by unfold flI; simp
theorem flE_x (es : List Se) : (es.map flE).map (·.x) = flushX (es.map (·.x)) := by
  unfold flushX
  rw [List.map_map, List.map_map]
  rfl
theorem RowW.flush {G : Nat → Prop} {w : World} {X n g c i : Nat} {d : Dk} {es : List Se} {e : Se} (h : RowW G w X d (.slice (some ⟨g, 0, none⟩) n c) es) (he : es[i]? = some e) : RowW G ((w.setCell ⟨g, i * 4 + 1, none⟩ e.vl).setCell ⟨g, i * 4 + 3, none⟩ (.bool false)) X d (.slice (some ⟨g, 0, none⟩) n c) (es.set i (flE e)) ∧ Off (· = g) w ((w.setCell ⟨g, i * 4 + 1, none⟩ e.vl).setCell ⟨g, i * 4 + 3, none⟩ (.bool false)) := by
  have hn : n = es.length := by
    rcases h.row.2 with ⟨e, _⟩ | ⟨g', cap, cur, e, _⟩
    · cases e
    · injection e with _ e _
  subst hn
  have ho := (off1 w g (i * 4 + 1) e.vl).trans (off1 _ g (i * 4 + 3) (.bool false))
  have hr := row_store (row_store h.row (i * 4 + 1) e.vl) (i * 4 + 3) (.bool false)
  rw [← cells4_on es i e e.vl e.x.last false he] at hr
  have hd := (h.dat e (List.mem_of_getElem? he)).2.off ho h.cellT
  exact ⟨h.put ho hr (fun _ h => h) (fun x hx => Nat.lt_of_lt_of_le (h.lt x hx) ho.size) ⟨hd, hd⟩, ho⟩
set_option maxHeartbeats 4000000 in
theorem c_rFlush {G : Nat → Prop} (w : World) (X : Nat) (d : Dk) (h : RefAt G w X d) : Calls Try.prog 20 #[.pointer (some ⟨X, 0, none⟩)] w fun e w' => e = .returned (.int .i64 (flushR d).2) ∧ RTurn G X (flushR d).1 w w' := by
  obtain ⟨s, v, es, h⟩ := h
  have c4 : w.cell? ⟨X, 4, none⟩ = some (.bool d.dead) := h.cell 4
  have H := Lib.hid h
  clear h
  cases hd : d.dead with
  | true =>
    have hE : Hid (flushR d = (d, 12)) := Lib.hid (by unfold flushR; rw [hd]; rfl)
    rw [hd] at c4
    clear hd
    go_enter Try.func20, Try.ntmps20
    go_wp2_with fail
    go_ret
    rw [hE.out]
    exact ⟨rfl, G, ⟨s, _, es, H.out⟩, fun g hg => .inl hg, fun g hg => hg, Off.refl _ _⟩
  | false =>
    rw [hd] at c4
    replace hd := Lib.hid hd
    obtain ⟨d1, ok, hsp⟩ : ∃ d1 ok, d.spend = (d1, ok) := ⟨_, _, rfl⟩
    cases ok with
    | false =>
      have hE : Hid (flushR d = (d1, 12)) := Lib.hid (by unfold flushR; rw [hd.out, hsp]; rfl)
      replace hsp := Lib.hid hsp
      go_enter Try.func20, Try.ntmps20
      go_wp2_with (first | (go_at_call 30; refine (c_goes w X d s v es H.out hd.out).mono ?_; rintro e w1 ⟨rfl, hR1, ho1⟩; rw [hsp.out] at hR1 ⊢; replace hR1 := Lib.hid hR1; replace ho1 := Lib.hid ho1))
      go_ret
      rw [hE.out]
      exact ⟨rfl, G, ⟨s, _, es, hR1.out⟩, fun g hg => .inl hg, fun g hg => hg, ho1.out.mono (fun k _ e => e ▸ H.out.gX)⟩
    | true =>
      have hE : Hid (flushR d = ({ d1 with on := mergeL d1.bu d1.on, bu := [] }, 0)) := Lib.hid (by unfold flushR; rw [hd.out, hsp]; rfl)
      replace hsp := Lib.hid hsp
      go_enter Try.func20, Try.ntmps20
      go_wp2_with (first | (go_at_call 30; refine (c_goes w X d s v es H.out hd.out).mono ?_; rintro e w1 ⟨rfl, hR1, ho1⟩; rw [hsp.out] at hR1 ⊢; replace hR1 := Lib.hid hR1; replace ho1 := Lib.hid ho1))
      have R0 : Hid (RowW G w1 X d1 v (flI es 0)) := Lib.hid (by have := hR1.out.rows; unfold flI; simpa using this)
      have O0 : Hid (Off G w w1) := Lib.hid (ho1.out.mono (fun k _ e => e ▸ H.out.gX))
      clear ho1
      go_loopw [3] (fun kv wr => ∃ k : Nat, kv = .int .i64 k ∧ k ≤ es.length ∧ Hid (RowW G wr X d1 v (flI es k)) ∧ Hid (Off G w wr)) (fun kv _ => es.length - (intOf kv).toNat)
      case atStart => exact ⟨0, rfl, by omega, R0, O0⟩
      case round =>
        clear R0 O0
        obtain ⟨k, rfl, hk, R, O⟩ := hrel
        obtain ⟨ao, cap, hvv, hm, hp⟩ := R.out.form
        rw [flI_len] at hvv hm hp
        subst hvv
        have cX : wr.cell? ⟨X, 1, none⟩ = some (.slice ao es.length cap) := R.out.cell 1
        have HM : Hid (es.length ≤ maxLen) := Lib.hid hm
        by_cases hlt : k < es.length
        · have hlt' : (k : Int) < (es.length : Int) := by omega
          obtain ⟨g, rfl⟩ := hp (by omega)
          obtain ⟨e, he⟩ : ∃ e, es[k]? = some e := ⟨_, List.getElem?_eq_getElem hlt⟩
          have he2 : (flI es k)[k]? = some e := (flI_get es k hlt).trans he
          obtain ⟨_, _, cl, _⟩ := R.out.rowc he2
          have hgG := Lib.hid (R.out.gR g rfl)
          have hwr : Hid (wrap64 ((k : Int) + 1) = ((k + 1 : Nat) : Int)) := Lib.hid (by
            have := HM.out
            unfold maxLen at this
            unfold wrap64
            omega)
          have hvl : ∃ a n c, e.vl = .slice a n c := by
            obtain ⟨x, y, hxy, _⟩ := (R.out.dat e (List.mem_of_getElem? he2)).2
            exact ⟨_, _, _, hxy⟩
          obtain ⟨la, ln, lc, hvl⟩ := hvl
          rw [hvl] at cl
          have hne := R.out.ne
          have hm := Lib.hid hm
          have HE := Lib.hid he
          have HE2 := Lib.hid he2
          have HVL := Lib.hid hvl
          clear hp he he2 hvl hm
          go_upto_region 6 with fail
          have RD := Lib.hid (R.out.below (below_drew (Below.refl _ _)))
          have OD := Lib.hid O.out.drew
          refine wp_region_held_drew (S := fun w' => w'.cell? ⟨X, 1, none⟩ = some (.slice (some ⟨g, 0, none⟩) es.length cap) ∧ w'.cell? ⟨g, k * 4 + 2, none⟩ = some (.slice la ln lc)) (by kernel_rfl) ⟨cX, cl⟩ (fun hHeld => ?_)
          clear cX cl R O
          generalize wr.drew = D at RD OD hHeld ⊢
          obtain ⟨_, co, cl, cd⟩ := RD.out.rowc HE2.out
          rw [HVL.out] at cl
          have cX : D.cell? ⟨X, 1, none⟩ = some (.slice (some ⟨g, 0, none⟩) es.length cap) := RD.out.cell 1
          have fr := fun j => row_free RD.out.row j
          have hRO := RD.out.flush HE2.out
          rw [flI_set es k e HE.out, HVL.out] at hRO
          have RF := Lib.hid hRO.1
          have OF : Hid (Off G w ((D.setCell ⟨g, k * 4 + 1, none⟩ (.slice la ln lc)).setCell ⟨g, k * 4 + 3, none⟩ (.bool false))) := Lib.hid (OD.out.trans (hRO.2.mono (fun x _ hx => by have hx' : x = g := hx; rw [hx']; exact hgG.out)))
          clear hRO
          refine wpAnyH_take (i := 0) (oi := ⟨_, _, _, _, _, _⟩) (v := ?_) rfl (by kernel_rfl) (by kernel_rfl) (by kernel_rfl) (fun _ _ _ h => h) (Or.inl ⟨by rfl, ?_⟩) (by assumption) ?_
          rotate_left
          · intro w hSw; (try dsimp only at hSw); go_split_ands; go_simp; (try with_reducible rfl)
          try simp only [Act.put, List.setIfInBounds_toArray, List.set_cons_zero, List.set_cons_succ]
          refine wpAnyH_take (i := 1) (oi := ⟨_, _, _, _, _, _⟩) (v := ?_) rfl (by kernel_rfl) (by kernel_rfl) (by kernel_rfl) (fun _ _ _ h => h) (Or.inl ⟨by rfl, ?_⟩) (by assumption) ?_
          rotate_left
          · intro w hSw; (try dsimp only at hSw); go_split_ands; go_simp; (try with_reducible rfl)
          try simp only [Act.put, List.setIfInBounds_toArray, List.set_cons_zero, List.set_cons_succ]
          refine wpAnyH_take (i := 2) (oi := ⟨_, _, _, _, _, _⟩) (v := ?_) rfl (by kernel_rfl) (by kernel_rfl) (by kernel_rfl) (fun _ _ _ h => h) (Or.inl ⟨by rfl, ?_⟩) (by assumption) ?_
          rotate_left
          · intro w hSw; (try dsimp only at hSw); go_split_ands; go_simp; (try with_reducible rfl)
          try simp only [Act.put, List.setIfInBounds_toArray, List.set_cons_zero, List.set_cons_succ]
          refine wpAnyH_take (i := 3) (oi := ⟨_, _, _, _, _, _⟩) (v := ?_) rfl (by kernel_rfl) (by kernel_rfl) (by kernel_rfl) (fun _ _ _ h => h) (Or.inl ⟨by rfl, ?_⟩) (by assumption) ?_
          rotate_left
          · intro w hSw; (try dsimp only at hSw); go_split_ands; go_simp; (try with_reducible rfl)
          try simp only [Act.put, List.setIfInBounds_toArray, List.set_cons_zero, List.set_cons_succ]
          refine wpAnyH_take (i := 4) (oi := ⟨_, _, _, _, _, _⟩) (v := ?_) rfl (by kernel_rfl) (by kernel_rfl) (by kernel_rfl) (fun _ _ _ h => h) (Or.inl ⟨by rfl, ?_⟩) (by assumption) ?_
          rotate_left
          · intro w hSw; (try dsimp only at hSw); go_split_ands; go_simp; (try with_reducible rfl)
          try simp only [Act.put, List.setIfInBounds_toArray, List.set_cons_zero, List.set_cons_succ]
          refine wpAnyH_take (i := 5) (oi := ⟨_, _, _, _, _, _⟩) (v := ?_) rfl (by kernel_rfl) (by kernel_rfl) (by kernel_rfl) (fun _ _ _ h => h) (Or.inl ⟨by rfl, ?_⟩) (by assumption) ?_
          rotate_left
          · intro w hSw; (try dsimp only at hSw); go_split_ands; go_simp; (try with_reducible rfl)
          try simp only [Act.put, List.setIfInBounds_toArray, List.set_cons_zero, List.set_cons_succ]
          refine wpAnyH_take (i := 6) (oi := ⟨_, _, _, _, _, _⟩) (v := ?_) rfl (by kernel_rfl) (by kernel_rfl) (by kernel_rfl) (fun _ _ _ h => h) (Or.inl ⟨by rfl, ?_⟩) (by assumption) ?_
          rotate_left
          · intro w hSw; (try dsimp only at hSw); go_split_ands; go_simp; (try with_reducible rfl)
          try simp only [Act.put, List.setIfInBounds_toArray, List.set_cons_zero, List.set_cons_succ]
          refine wpAnyH_take (i := 7) (oi := ⟨_, _, _, _, _, _⟩) (v := ?_) rfl (by kernel_rfl) (by kernel_rfl) (by kernel_rfl) (fun _ _ _ h => h) (Or.inl ⟨by rfl, ?_⟩) (by assumption) ?_
          rotate_left
          · intro w hSw; (try dsimp only at hSw); go_split_ands; go_simp; (try with_reducible rfl)
          try simp only [Act.put, List.setIfInBounds_toArray, List.set_cons_zero, List.set_cons_succ]
          refine wpAnyH_take (i := 8) (oi := ⟨_, _, _, _, _, _⟩) (v := ?_) rfl (by kernel_rfl) (by kernel_rfl) (by kernel_rfl) (fun _ _ _ h => h) (Or.inl ⟨by rfl, ?_⟩) (by assumption) ?_
          rotate_left
          · intro w hSw; (try dsimp only at hSw); go_split_ands; go_simp; (try with_reducible rfl)
          try simp only [Act.put, List.setIfInBounds_toArray, List.set_cons_zero, List.set_cons_succ]
          refine wpAnyH_take (i := 9) (oi := ⟨_, _, _, _, _, _⟩) (v := ?_) rfl (by kernel_rfl) (by kernel_rfl) (by kernel_rfl) (fun _ _ _ h => h) (Or.inl ⟨by rfl, ?_⟩) (by assumption) ?_
          rotate_left
          · intro w hSw; (try dsimp only at hSw); go_split_ands; go_simp; (try with_reducible rfl)
          try simp only [Act.put, List.setIfInBounds_toArray, List.set_cons_zero, List.set_cons_succ]
          refine wpAnyH_take (i := 10) (oi := ⟨_, _, _, _, _, _⟩) (v := ?_) rfl (by kernel_rfl) (by kernel_rfl) (by kernel_rfl) (fun _ _ _ h => h) (Or.inl ⟨by rfl, ?_⟩) (by assumption) ?_
          rotate_left
          · intro w hSw; (try dsimp only at hSw); go_split_ands; go_simp; (try with_reducible rfl)
          try simp only [Act.put, List.setIfInBounds_toArray, List.set_cons_zero, List.set_cons_succ]
          refine wpAnyH_take (i := 11) (oi := ⟨_, _, _, _, _, _⟩) (v := ?_) rfl (by kernel_rfl) (by kernel_rfl) (by kernel_rfl) (fun _ _ _ h => h) (Or.inl ⟨by rfl, ?_⟩) (by assumption) ?_
          rotate_left
          · intro w hSw; (try dsimp only at hSw); go_split_ands; go_simp; (try with_reducible rfl)
          try simp only [Act.put, List.setIfInBounds_toArray, List.set_cons_zero, List.set_cons_succ]
          refine wpAnyH_take (i := 12) (oi := ⟨_, _, _, _, _, _⟩) (v := ?_) rfl (by kernel_rfl) (by kernel_rfl) (by kernel_rfl) (fun _ _ _ h => h) (Or.inl ⟨by rfl, ?_⟩) (by assumption) ?_
          rotate_left
          · intro w hSw; (try dsimp only at hSw); go_split_ands; go_simp; (try with_reducible rfl)
          try simp only [Act.put, List.setIfInBounds_toArray, List.set_cons_zero, List.set_cons_succ]
          refine wpAnyH_take (i := 13) (oi := ⟨_, _, _, _, _, _⟩) (v := ?_) rfl (by kernel_rfl) (by kernel_rfl) (by kernel_rfl) (fun _ _ _ h => h) (Or.inl ⟨by rfl, ?_⟩) (by assumption) ?_
          rotate_left
          · intro w hSw; (try dsimp only at hSw); go_split_ands; go_simp; (try with_reducible rfl)
          try simp only [Act.put, List.setIfInBounds_toArray, List.set_cons_zero, List.set_cons_succ]
          refine wpAnyH_take (i := 14) (oi := ⟨_, _, _, _, _, _⟩) (v := ?_) rfl (by kernel_rfl) (by kernel_rfl) (by kernel_rfl) (fun _ _ _ h => h) (Or.inl ⟨by rfl, ?_⟩) (by assumption) ?_
          rotate_left
          · intro w hSw; (try dsimp only at hSw); go_split_ands; go_simp; (try with_reducible rfl)
          try simp only [Act.put, List.setIfInBounds_toArray, List.set_cons_zero, List.set_cons_succ]
          refine wpAnyH_ready (rs := [15]) (by kernel_rfl) (by simp) (AllReadyH.cons (o := ⟨_, _, _, _, _, _⟩) rfl (fun K hK => ?_) AllReadyH.nil)
          go_simp
          have hr0 := RD.out.row
          rw [flI_len] at hr0
          have hr1 := row_store hr0 (k * 4 + 1) (.slice la ln lc)
          have k1 := off_cell (off1 D g (k * 4 + 1) (.slice la ln lc)) cX hne
          have q2 := (cells4_get (flI es k) k e HE2.out).2.2.1
          have q3 := (cells4_get (flI es k) k e HE2.out).2.2.2
          have fr1 := fun j => row_free hr1 j
          have k2 : (D.setCell ⟨g, k * 4 + 1, none⟩ (.slice la ln lc)).cell? ⟨g, k * 4 + 2, none⟩ = some (.slice la ln lc) := by rw [← HVL.out]; rw [← HVL.out] at hr1; exact (row_cell hr1 _ (by rw [List.getElem?_set_ne (by omega)]; exact q2)).2
          have k3 : (D.setCell ⟨g, k * 4 + 1, none⟩ (.slice la ln lc)).cell? ⟨g, k * 4 + 3, none⟩ = some (.bool e.x.dirty) := by exact (row_cell hr1 _ (by rw [List.getElem?_set_ne (by omega)]; exact q3)).2
          clear hr0 hr1 q2 q3
          refine hK.out _ _ ?_ (fun hHeld => ?_)
          · exact ⟨k1, k2⟩
          clear hK K
          try simp only [Act.put, List.setIfInBounds_toArray, List.set_cons_zero, List.set_cons_succ]
          clear cX cl co cd fr k2
          generalize D.setCell ⟨g, k * 4 + 1, none⟩ (.slice la ln lc) = Z at k1 k3 fr1 RF OF ⊢
          refine wpAnyH_done (by kernel_rfl) ?_ _
          go_wp2_with fail
          go_roundw
          case rel => exact ⟨k + 1, by rw [hwr.out], by omega, RF, OF⟩
          case measure => rw [hwr.out]; simp [intOf]; omega
        · have hlt' : ¬ (k : Int) < (es.length : Int) := by omega
          clear hp
          have hm := Lib.hid hm
          go_wp2_with fail
          go_ret
          rw [hE.out]
          have hke : k = es.length := by omega
          subst hke
          have RE := R.out
          rw [flI_end] at RE
          refine ⟨rfl, G, ⟨flushX s, _, _, RE.ref rfl (by rw [flE_x, hR1.out.xs]) (hR1.out.sim.flush hR1.out.ok.on) (hR1.out.ok.flushed hR1.out.ok.left) hR1.out.ops hR1.out.left⟩, fun g hg => .inl hg, fun g hg => hg, O.out⟩
end Go.Proofs.Ytnlemjjigiphcaa
