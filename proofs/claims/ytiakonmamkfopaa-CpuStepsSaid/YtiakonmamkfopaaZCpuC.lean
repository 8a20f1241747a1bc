/- The memory of the laws: what it tells of a segment, and what it notes. -/
import Derived.Test.YtiakonmamkfopaaZCpuB
import Derived.Deep.RegionHeld3
namespace Go.Proofs.Ytiakonmamkfopaa
open Go.RowKit Go.ChangeShapes
set_option linter.unusedVariables false
set_option maxRecDepth 100000
/-- block Y is a memory of the segments M -/
def memAt (w : World) (B Y : Nat) (v : Value) (is : Bool) (sg off x n : Int) : Prop :=
  w.heap[Y]? = some (.cells #[v, .bool is, .int .i64 sg, .int .i64 off, .int .i64 x, .int .i64 n] 47 (0, 0))
theorem memAt.facts {w : World} {B Y : Nat} {v : Value} {is : Bool} {sg off x n : Int} (h : memAt w B Y v is sg off x n) : w.cell? ⟨Y, 0, none⟩ = some v ∧ w.cell? ⟨Y, 5, none⟩ = some (.int .i64 n) := by
  unfold memAt at h
  exact ⟨by rw [cell_of_row w Y 0 _ _ _ h]; rfl, by rw [cell_of_row w Y 5 _ _ _ h]; rfl⟩
/-- what a segment reads as -/
def sgV (u : Value) (s : Sg) : Value := .agg #[u, .int .i64 s.md, .int .i64 s.r1, .int .i64 s.r2, .int .i64 s.r3, .int .i64 s.g]
def noV : Value := .agg #[.slice none 0 0, .int .i64 0, .int .i64 0, .int .i64 0, .int .i64 0, .int .i64 0]
theorem A.infoI : (Try.prog.info? 2).map (fun i => (i.zero, i.size, i.bytes)) = some (some (.int .i64 0), 1, 8) := by kernel_rfl
theorem A.underI : Try.prog.underlying 53 = some (.slice 2) := by kernel_rfl
theorem c_MemSegment_none (w : World) (B Y : Nat) (v : Value) (vs : List Value) (M : List Sg) (is : Bool) (sg off x n : Int) (k : Int) (hm : memAt w B Y v is sg off x n) (hs : Segs w B v vs M) (hlen : M.length < 1000000)
    (hk : k < 0 ∨ M.length ≤ k ∨ ∃ s, M[k.toNat]? = some s ∧ s.is = false) :
    Calls Try.prog 24 #[.pointer (some ⟨Y, 0, none⟩), .int .i64 k] w fun e w' => e = .returned (.tuple #[noV, .bool false]) ∧ Below w.heap.size w w' := by
  obtain ⟨hy0, _⟩ := hm.facts
  have hys : Y < w.heap.size := World.block_lt_of_cell? w _ hy0
  by_cases h0 : k < 0
  · go_enter Try.func24, Try.ntmps24
    go_wp2
    exact bodyPost_ret (v := .tuple #[noV, .bool false]) (by simp [noV, results, Try.results24, go_sem]) rfl ⟨rfl, by repeat (first | exact Below.refl _ _ | refine Below.alloc ?_ (by simp <;> omega) _)⟩
  obtain ⟨K, rfl⟩ := Int.eq_ofNat_of_zero_le (show 0 ≤ k by omega)
  have hl := hs.len
  by_cases h1 : M.length ≤ K
  · obtain ⟨ad, cap, hv, ha0, ha1⟩ := row_shape hs.row
    subst hv
    clear hk hs hm
    go_enter Try.func24, Try.ntmps24
    go_wp2
    exact bodyPost_ret (v := .tuple #[noV, .bool false]) (by simp [noV, results, Try.results24, go_sem]) rfl ⟨rfl, by repeat (first | exact Below.refl _ _ | refine Below.alloc ?_ (by simp <;> omega) _)⟩
  · obtain ⟨g, cap, hv⟩ := row_some hs.row (by omega)
    subst hv
    obtain ⟨s, hK, hf⟩ : ∃ s, M[K]? = some s ∧ s.is = false := by
      rcases hk with hk | hk | hk
      · omega
      · omega
      · exact hk
    obtain ⟨u, hu⟩ : ∃ u, vs[K]? = some u := ⟨_, List.getElem?_eq_getElem (by omega)⟩
    obtain ⟨_, c0⟩ := row_cell hs.row (K * 7 + 0) (by rw [rows_get M vs K 0 s u hK hu (by omega)]; rfl)
    rw [hf] at c0
    simp only [Nat.add_zero] at c0
    have hgs : g < w.heap.size := World.block_lt_of_cell? w _ c0
    have hKl : K < M.length := by omega
    clear hk hs hm hK hu
    go_enter Try.func24, Try.ntmps24
    go_wp2
    exact bodyPost_ret (v := .tuple #[noV, .bool false]) (by simp [noV, results, Try.results24, go_sem]) rfl ⟨rfl, by repeat (first | exact Below.refl _ _ | refine Below.alloc ?_ (by simp <;> omega) _)⟩
theorem wp_append_none {P : Program} {w : World} {o : Oper} {a : Act} {K : Act → World → Prop} {Q : Exit → Act → World → Prop} (s x : Operand) (t : TypeId)
    (ho : o.op = .call { callee := .builtin .append, args := #[s, x], argTypes := #[t, t] })
    (base : Nat) (e : TypeId) (i : TypeInfo) (size : Nat) (ht : P.underlying t = some (.slice e)) (hi : P.info? e = some i)
    (v : Value) (n : Nat) (xs : List Value) (hs : a.eval s = v) (hown : w.ownsRow base e size v n xs) (hx : a.eval x = .slice none 0 0)
    (h : K (a.put o.dst v) w) : o.wp P a w K Q := by
  have hrun := run_append_owned_none (P := P) (w := w) base t o.type e i size ht hi v n xs hown
  unfold Oper.wp
  simp [execOp, ho, resolve, invoke, builtin, hs, hx, hrun, Result.andThen]
  exact h
theorem set6 {w1 : World} {N : Nat} {ty : TypeId} {a0 a1 a2 a3 a4 a5 : Value} (h : w1.heap[N]? = some (.cells #[a0, a1, a2, a3, a4, a5] ty (0, 0))) (b0 b1 b2 b3 b4 b5 : Value) :
    ((((((w1.setCell ⟨N, 0, none⟩ b0).setCell ⟨N, 1, none⟩ b1).setCell ⟨N, 2, none⟩ b2).setCell ⟨N, 3, none⟩ b3).setCell ⟨N, 4, none⟩ b4).setCell ⟨N, 5, none⟩ b5).heap[N]? = some (.cells #[b0, b1, b2, b3, b4, b5] ty (0, 0)) := by
  simp [World.setCell, Array.getElem?_modify, h]
theorem off6 {w1 : World} {N : Nat} (b0 b1 b2 b3 b4 b5 : Value) : Off (· = N) w1 ((((((w1.setCell ⟨N, 0, none⟩ b0).setCell ⟨N, 1, none⟩ b1).setCell ⟨N, 2, none⟩ b2).setCell ⟨N, 3, none⟩ b3).setCell ⟨N, 4, none⟩ b4).setCell ⟨N, 5, none⟩ b5) := by
  refine Off.setCell (ex := (· = N)) (Off.setCell (ex := (· = N)) (Off.setCell (ex := (· = N)) (Off.setCell (ex := (· = N)) (Off.setCell (ex := (· = N)) (Off.setCell (ex := (· = N)) (Off.refl (· = N) w1) ?_ _) ?_ _) ?_ _) ?_ _) ?_ _) ?_ _
  all_goals exact Or.inl rfl
theorem seg_append {w w1 : World} {A A' : Obj} {row : Option Nat} (hg : (((w.alloc A).drew).alloc A').grownBy w1 row) (hr : row = some (w.heap.size + 1)) : Below w.heap.size w w1 ∧ w1.heap[w.heap.size]? = some A := by
  subst hr
  have hb : Below w.heap.size w (((w.alloc A).drew).alloc A') := (below_drew ((Below.refl _ _).alloc (Nat.le_refl _) _)).alloc (by simp) _
  refine ⟨hb.grown hg (by simp; omega) (fun k hk => by have := Option.some.inj hk; omega), ?_⟩
  rw [hg.block w.heap.size (by simp; omega) (fun hk => by have := Option.some.inj hk; omega)]
  have h1 : ((w.alloc A).drew.alloc A').heap[w.heap.size]? = (w.alloc A).drew.heap[w.heap.size]? := Below.heap_alloc _ _ _ (by simp)
  rw [h1]
  exact heap_alloc_new w A
set_option maxHeartbeats 1000000 in
theorem c_MemSegment_some (w : World) (B Y : Nat) (v : Value) (vs : List Value) (M : List Sg) (is : Bool) (sg off x n : Int) (K : Nat) (s : Sg) (hm : memAt w B Y v is sg off x n) (hs : Segs w B v vs M) (hlen : M.length < 1000000)
    (hK : M[K]? = some s) (ht : s.is = true) (hw : s.ws.length < 1000000) (hB : B ≤ w.heap.size) :
    Calls Try.prog 24 #[.pointer (some ⟨Y, 0, none⟩), .int .i64 K] w fun e w' => ∃ u', e = .returned (.tuple #[sgV u' s, .bool true]) ∧ w'.ownsRow B 2 1 u' s.ws.length (s.ws.map (Value.int .i64)) ∧ Below w.heap.size w w' := by
  obtain ⟨hy0, _⟩ := hm.facts
  have hl := hs.len
  have hKl : K < M.length := (List.getElem?_eq_some_iff.1 hK).1
  obtain ⟨g, cap, hv⟩ := row_some hs.row (by omega)
  subst hv
  obtain ⟨u, hu⟩ : ∃ u, vs[K]? = some u := ⟨_, List.getElem?_eq_getElem (by omega)⟩
  have hrow := hs.words K s u hK hu
  obtain ⟨_, c0⟩ := row_cell hs.row (K * 7 + 0) (by rw [rows_get M vs K 0 s u hK hu (by omega)]; rfl)
  obtain ⟨_, c1⟩ := row_cell hs.row (K * 7 + 1) (by rw [rows_get M vs K 1 s u hK hu (by omega)]; rfl)
  obtain ⟨_, c2⟩ := row_cell hs.row (K * 7 + 2) (by rw [rows_get M vs K 2 s u hK hu (by omega)]; rfl)
  obtain ⟨_, c3⟩ := row_cell hs.row (K * 7 + 3) (by rw [rows_get M vs K 3 s u hK hu (by omega)]; rfl)
  obtain ⟨_, c4⟩ := row_cell hs.row (K * 7 + 4) (by rw [rows_get M vs K 4 s u hK hu (by omega)]; rfl)
  obtain ⟨_, c5⟩ := row_cell hs.row (K * 7 + 5) (by rw [rows_get M vs K 5 s u hK hu (by omega)]; rfl)
  obtain ⟨_, c6⟩ := row_cell hs.row (K * 7 + 6) (by rw [rows_get M vs K 6 s u hK hu (by omega)]; rfl)
  rw [ht] at c0
  simp only [Nat.add_zero] at c0
  obtain ⟨i0, hi, hz0, hz1, hz2⟩ := info_parts A.infoI
  have hgs : g < w.heap.size := World.block_lt_of_cell? w _ c0
  have hys : Y < w.heap.size := World.block_lt_of_cell? w _ hy0
  have own0 : Hid (∀ A, ((w.alloc A).drew.alloc (.cells #[] 2)).ownsRow B 2 1 (.slice (some ⟨w.heap.size + 1, 0, none⟩) 0 0) 0 []) := fun A => by
    have h := World.ownsRow_made (base := B) (size := 1) (e := 2) (w.alloc A).drew #[] 0 (by simp; omega) (by decide) (by simp)
    simpa using h
  have hbel : Hid (∀ A A', Below w.heap.size w (((w.alloc A).drew).alloc A')) := fun A A' => ((below_drew ((Below.refl _ _).alloc (Nat.le_refl _) _)).alloc (by simp) _)
  have k0 : ∀ w', Below w.heap.size w w' → w'.cell? ⟨Y, 0, none⟩ = some (.slice (some ⟨g, 0, none⟩) M.length cap) := fun w' hb => (hb.cell hys).trans hy0
  have k1 : ∀ w', Below w.heap.size w w' → w'.cell? ⟨g, K * 7 + 1, none⟩ = some u := fun w' hb => (hb.cell hgs).trans c1
  have k2 : ∀ w', Below w.heap.size w w' → w'.cell? ⟨g, K * 7 + 2, none⟩ = some (.int .i64 s.md) := fun w' hb => (hb.cell hgs).trans c2
  have k3 : ∀ w', Below w.heap.size w w' → w'.cell? ⟨g, K * 7 + 3, none⟩ = some (.int .i64 s.r1) := fun w' hb => (hb.cell hgs).trans c3
  have k4 : ∀ w', Below w.heap.size w w' → w'.cell? ⟨g, K * 7 + 4, none⟩ = some (.int .i64 s.r2) := fun w' hb => (hb.cell hgs).trans c4
  have k5 : ∀ w', Below w.heap.size w w' → w'.cell? ⟨g, K * 7 + 5, none⟩ = some (.int .i64 s.r3) := fun w' hb => (hb.cell hgs).trans c5
  have k6 : ∀ w', Below w.heap.size w w' → w'.cell? ⟨g, K * 7 + 6, none⟩ = some (.int .i64 s.g) := fun w' hb => (hb.cell hgs).trans c6
  clear c1 c2 c3 c4 c5 c6
  have hrow' := Lib.hid hrow
  clear hs hm hu hrow
  rcases hrow'.out.2 with ⟨hv, hn⟩ | ⟨gu, capu, cur, hv, hbu, hg, hnc, hc, hsz, hx⟩
  · have hws : s.ws = [] := List.length_eq_zero_iff.1 hn
    subst hv
    have HB2 : Hid True := trivial
    rw [hws]
    have hws := Lib.hid hws
    clear hn
    go_enter Try.func24, Try.ntmps24
    go_wp2
    clear c0 hy0 hK hlen
    go_region_held3 (fun w' => Below w.heap.size w w')
      ((repeat (with_reducible first | refine Below.setCell ?_ (by simp) _ | refine Below.alloc ?_ (by simp) _ | refine below_drew ?_ | exact HB2.out | exact Below.refl _ _)))
      ((first
        | (rw [if_pos (by rfl)]; refine wp_append_none (.tmp 29) (.tmp 37) 53 rfl B 2 i0 1 A.underI hi _ 0 [] rfl (own0.out _) rfl ?_)))
    go_wp2
    refine bodyPost_ret (v := .tuple #[sgV (.slice (some ⟨w.heap.size + 1, 0, none⟩) 0 0) s, .bool true]) (by simp [sgV, results, Try.results24, go_sem]) rfl ⟨_, rfl, ?_, ?_⟩
    · exact own0.out _
    · repeat (with_reducible first | refine Below.setCell ?_ (by simp) _ | refine Below.alloc ?_ (by simp) _ | refine below_drew ?_ | exact HB2.out | exact Below.refl _ _)
  · subst hv
    clear hbu hg hnc hc hsz hx
    go_enter Try.func24, Try.ntmps24
    go_wp2
    clear c0 hy0 hK hlen
    go_region_held3 (fun w' => Below w.heap.size w w')
      ((repeat (with_reducible first | refine Below.setCell ?_ (by simp) _ | refine Below.alloc ?_ (by simp) _ | refine below_drew ?_ | exact HB2.out | exact Below.refl _ _)))
      ((first
        | (rw [if_pos (by rfl)]; refine wp_append_own _ (.tmp 29) (.tmp 37) 53 rfl B 2 i0 (.int .i64 0) 1 8 A.underI hi hz0 hz1 hz2 rfl (by decide) _ 0 [] rfl (own0.out _) ⟨gu, 0, none⟩ s.ws.length capu (s.ws.map (Value.int .i64)) rfl (by simp) ((Off.row (ex := fun _ => False) (Off.of_below (hbel.out _ _)) hrow'.out (fun _ h => h.elim)).cells rfl) (by intro x hx; obtain ⟨y, _, rfl⟩ := List.mem_map.1 hx; rfl) (by unfold maxLen; omega) (by omega) (by simp; omega) ?_; intro v' w1 hown hgrow _; rw [Nat.zero_add, List.nil_append] at hown; obtain ⟨ad', cap', hv', _, _⟩ := row_shape hown; subst hv'; have hres := Lib.hid (seg_append hgrow rfl).2; have hown := Lib.hid hown; have HB2 := Lib.hid (seg_append hgrow rfl).1; have rf : ∀ j, w1.frozen? ⟨w.heap.size, j, none⟩ = false := fun j => (by simp [World.frozen?, hres.out]); have r0 : w1.cell? ⟨w.heap.size, 0, none⟩ = some (.slice none 0 0) := cell_of_row w1 w.heap.size 0 _ _ _ hres.out; have r1 : w1.cell? ⟨w.heap.size, 1, none⟩ = some (.int .i64 0) := cell_of_row w1 w.heap.size 1 _ _ _ hres.out; have r2 : w1.cell? ⟨w.heap.size, 2, none⟩ = some (.int .i64 0) := cell_of_row w1 w.heap.size 2 _ _ _ hres.out; have r3 : w1.cell? ⟨w.heap.size, 3, none⟩ = some (.int .i64 0) := cell_of_row w1 w.heap.size 3 _ _ _ hres.out; have r4 : w1.cell? ⟨w.heap.size, 4, none⟩ = some (.int .i64 0) := cell_of_row w1 w.heap.size 4 _ _ _ hres.out; have r5 : w1.cell? ⟨w.heap.size, 5, none⟩ = some (.int .i64 0) := cell_of_row w1 w.heap.size 5 _ _ _ hres.out; clear hgrow)))
    go_wp2
    have hfin := set6 hres.out (.slice ad' s.ws.length cap') (.int .i64 s.md) (.int .i64 s.r1) (.int .i64 s.r2) (.int .i64 s.r3) (.int .i64 s.g)
    have hof := off6 (w1 := w1) (N := w.heap.size) (.slice ad' s.ws.length cap') (.int .i64 s.md) (.int .i64 s.r1) (.int .i64 s.r2) (.int .i64 s.r3) (.int .i64 s.g)
    have hbl := hof.below HB2.out HB2.out.size (fun k hk => by omega)
    have hof := hof.row hown.out (by rintro k rfl cs h; have h := hres.out.symm.trans h; simp at h)
    clear hown rf r0 r1 r2 r3 r4 r5 k0 k1 k2 k3 k4 k5 k6
    generalize ((((((w1.setCell ⟨w.heap.size, 0, none⟩ (.slice ad' s.ws.length cap')).setCell ⟨w.heap.size, 1, none⟩ (.int .i64 s.md)).setCell ⟨w.heap.size, 2, none⟩ (.int .i64 s.r1)).setCell ⟨w.heap.size, 3, none⟩ (.int .i64 s.r2)).setCell ⟨w.heap.size, 4, none⟩ (.int .i64 s.r3)).setCell ⟨w.heap.size, 5, none⟩ (.int .i64 s.g)) = W2 at hfin hof hbl ⊢
    have q0 := cell_of_row W2 w.heap.size 0 _ _ _ hfin
    have q1 := cell_of_row W2 w.heap.size 1 _ _ _ hfin
    have q2 := cell_of_row W2 w.heap.size 2 _ _ _ hfin
    have q3 := cell_of_row W2 w.heap.size 3 _ _ _ hfin
    have q4 := cell_of_row W2 w.heap.size 4 _ _ _ hfin
    have q5 := cell_of_row W2 w.heap.size 5 _ _ _ hfin
    exact bodyPost_ret (v := .tuple #[sgV (.slice ad' s.ws.length cap') s, .bool true]) (by simp [sgV, results, Try.results24, go_sem, q0, q1, q2, q3, q4, q5]) rfl ⟨_, rfl, hof, hbl⟩
end Go.Proofs.Ytiakonmamkfopaa
