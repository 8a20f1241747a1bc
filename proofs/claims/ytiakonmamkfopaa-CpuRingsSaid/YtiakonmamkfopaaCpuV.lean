/- A segment of instructions; a memory of segments. -/
import Derived.Test.YtiakonmamkfopaaCpuU
namespace Go.Proofs.Ytiakonmamkfopaa
open Go.RowKit Go.ChangeShapes
set_option linter.unusedVariables false
set_option maxRecDepth 100000

/-- block N holds seven cells -/
def blk7 (w : World) (N : Nat) (ty : TypeId) (a0 a1 a2 a3 a4 a5 a6 : Value) : Prop := w.heap[N]? = some (.cells #[a0, a1, a2, a3, a4, a5, a6] ty (0, 0))
theorem blk7.cell {w : World} {N : Nat} {ty : TypeId} {a0 a1 a2 a3 a4 a5 a6 : Value} (h : blk7 w N ty a0 a1 a2 a3 a4 a5 a6) (j : Nat) : w.cell? ⟨N, j, none⟩ = (#[a0, a1, a2, a3, a4, a5, a6] : Array Value)[j]? := cell_of_row w N j _ _ _ h
theorem blk7.free {w : World} {N : Nat} {ty : TypeId} {a0 a1 a2 a3 a4 a5 a6 : Value} (h : blk7 w N ty a0 a1 a2 a3 a4 a5 a6) (j : Nat) : w.frozen? ⟨N, j, none⟩ = false := by
  simp [World.frozen?, show w.heap[N]? = _ from h]
theorem blk7.lt {w : World} {N : Nat} {ty : TypeId} {a0 a1 a2 a3 a4 a5 a6 : Value} (h : blk7 w N ty a0 a1 a2 a3 a4 a5 a6) : N < w.heap.size := by
  rcases Nat.lt_or_ge N w.heap.size with hlt | hge
  · exact hlt
  · unfold blk7 at h; rw [Array.getElem?_eq_none hge] at h; cases h
theorem blk7.set1 {w : World} {N : Nat} {ty : TypeId} {a0 a1 a2 a3 a4 a5 a6 : Value} (h : blk7 w N ty a0 a1 a2 a3 a4 a5 a6) (b : Value) : blk7 (w.setCell ⟨N, 1, none⟩ b) N ty a0 b a2 a3 a4 a5 a6 := by
  unfold blk7 at h ⊢
  simp [World.setCell, Array.getElem?_modify, h]
theorem set7 {w1 : World} {N : Nat} {ty : TypeId} {a0 a1 a2 a3 a4 a5 a6 : Value} (h : blk7 w1 N ty a0 a1 a2 a3 a4 a5 a6) (b0 b1 b2 b3 b4 b5 b6 : Value) :
    blk7 (((((((w1.setCell ⟨N, 0, none⟩ b0).setCell ⟨N, 1, none⟩ b1).setCell ⟨N, 2, none⟩ b2).setCell ⟨N, 3, none⟩ b3).setCell ⟨N, 4, none⟩ b4).setCell ⟨N, 5, none⟩ b5).setCell ⟨N, 6, none⟩ b6) N ty b0 b1 b2 b3 b4 b5 b6 := by
  unfold blk7 at h ⊢
  simp [World.setCell, Array.getElem?_modify, h]
theorem off7 (w1 : World) (N : Nat) (b0 b1 b2 b3 b4 b5 b6 : Value) : Off (· = N) w1 (((((((w1.setCell ⟨N, 0, none⟩ b0).setCell ⟨N, 1, none⟩ b1).setCell ⟨N, 2, none⟩ b2).setCell ⟨N, 3, none⟩ b3).setCell ⟨N, 4, none⟩ b4).setCell ⟨N, 5, none⟩ b5).setCell ⟨N, 6, none⟩ b6) :=
  (((((( off1 w1 N 0 b0).trans (off1 _ N 1 b1)).trans (off1 _ N 2 b2)).trans (off1 _ N 3 b3)).trans (off1 _ N 4 b4)).trans (off1 _ N 5 b5)).trans (off1 _ N 6 b6)
theorem wpList_append_none {P : Program} {w : World} {ops : Array Oper} {rest : List Oper} {o : Oper} {a : Act} {Q : Exit → Act → World → Prop} (hgd : o.guard = none) (s x : Operand) (t : TypeId)
    (ho : o.op = .call { callee := .builtin .append, args := #[s, x], argTypes := #[t, t] })
    (base : Nat) (e : TypeId) (i : TypeInfo) (size : Nat) (ht : P.underlying t = some (.slice e)) (hi : P.info? e = some i)
    (v : Value) (n : Nat) (xs : List Value) (hs : a.eval s = v) (hown : w.ownsRow base e size v n xs) (hx : a.eval x = .slice none 0 0)
    (h : wpList P ops Q rest (a.put o.dst v) w) : wpList P ops Q (o :: rest) a w :=
  wpList_plain hgd fun _ hK => wp_append_none s x t ho base e i size ht hi v n xs hs hown hx (hK _ _ h)
theorem one_start (w : World) : ∃ W, (w.alloc (.cells #[.bool false, .slice none 0 0, .int .i64 0, .int .i64 0, .int .i64 0, .int .i64 0, .int .i64 0] 57)).alloc (.cells #[.bool true, .slice none 0 0, .int .i64 7, .int .i64 4, .int .i64 4, .int .i64 4, .int .i64 0] 57) = W ∧ blk7 W w.heap.size 57 (.bool false) (.slice none 0 0) (.int .i64 0) (.int .i64 0) (.int .i64 0) (.int .i64 0) (.int .i64 0) ∧ blk7 W (w.heap.size + 1) 57 (.bool true) (.slice none 0 0) (.int .i64 7) (.int .i64 4) (.int .i64 4) (.int .i64 4) (.int .i64 0) ∧ Below w.heap.size w W ∧ W.heap.size = w.heap.size + 2 := by
  refine ⟨_, rfl, ?_, ?_, below_al (below_al0 _ _) _, by simp⟩
  · exact Off.keeps (ex := fun _ => False) ((Off.refl _ _).alloc _) (heap_alloc_new w _) id
  · have h0 := heap_alloc_new (w.alloc (.cells #[.bool false, .slice none 0 0, .int .i64 0, .int .i64 0, .int .i64 0, .int .i64 0, .int .i64 0] 57)) (.cells #[.bool true, .slice none 0 0, .int .i64 7, .int .i64 4, .int .i64 4, .int .i64 4, .int .i64 0] 57)
    rw [World.size_alloc] at h0
    exact h0
theorem ints_one (l : List Int) : ∀ u ∈ l.map (Value.int .i64), u.oneCell' = true := by
  intro u hu
  obtain ⟨y, _, rfl⟩ := List.mem_map.1 hu
  rfl
theorem new1_cells (w : World) (ty : TypeId) (a : Value) : ∀ j u, ([a] : List Value)[j]? = some u → (w.alloc (.cells #[a] ty)).cell? ((⟨w.heap.size, 0, none⟩ : Addr).add j) = some u := fun j u hj => by
  match j, hj with
  | 0, hj => cases hj; exact cell_of_row _ _ 0 _ _ _ (heap_alloc_new w (.cells #[a] ty))
  | (k + 1), hj => simp at hj
theorem row_blk {w : World} {B : Nat} {e : TypeId} {size n g cap : Nat} {xs : List Value} (h : w.ownsRow B e size (.slice (some ⟨g, 0, none⟩) n cap) n xs) : ∃ cs, w.heap[g]? = some (.cells cs e (0, 0)) := by
  rcases h.2 with ⟨hv, _⟩ | ⟨g', cap', cur, hv, hb, hg, _⟩
  · cases hv
  · cases hv; exact ⟨cur, hg⟩
theorem row_ge {w : World} {B : Nat} {e : TypeId} {size n g cap : Nat} {xs : List Value} (h : w.ownsRow B e size (.slice (some ⟨g, 0, none⟩) n cap) n xs) : B ≤ g := by
  rcases h.2 with ⟨hv, _⟩ | ⟨g', cap', cur, hv, hb, hg, _⟩
  · cases hv
  · cases hv; exact hb
set_option maxHeartbeats 2000000 in
theorem c_one1 (w : World) (I : Nat) (o0 p0 n0 : Int) (h00 : 0 ≤ o0) (h01 : o0 < 23) (h02 : 0 ≤ p0) (h03 : p0 < 4) (h04 : -2147483648 ≤ n0) (h05 : n0 ≤ 2147483647) (hI : w.heap[I]? = some (.cells #[.int .i64 o0, .int .i64 p0, .int .i64 n0] 64 (0, 0))) :
    Calls Try.prog 26 #[.slice (some ⟨I, 0, none⟩) 1 1, (.slice none 0 0)] w fun e w' => ∃ ad c, e = .returned (.agg #[.bool true, .slice ad 1 c, .int .i64 7, .int .i64 4, .int .i64 4, .int .i64 4, .int .i64 0]) ∧ w'.ownsRow w.heap.size 2 1 (.slice ad 1 c) 1 (([encI o0 p0 n0] : List Int).map (Value.int .i64)) ∧ Below w.heap.size w w' := by
  obtain ⟨W1, hW1, R1, S1, HB, hz1⟩ := one_start w
  have hIw : I < w.heap.size := by
    rcases Nat.lt_or_ge I w.heap.size with hlt | hge
    · exact hlt
    · rw [Array.getElem?_eq_none hge] at hI; cases hI
  have HI := Lib.hid hI
  replace hW1 := Lib.hid hW1
  replace R1 := Lib.hid R1
  replace S1 := Lib.hid S1
  replace HB := Lib.hid HB
  obtain ⟨i0, hi, hz0, hzz1, hz2⟩ := info_parts A.infoI
  clear hI
  go_enter Try.func26, Try.ntmps26
  go_wp2_with fail
  rw [hW1.out]
  clear hW1
  refine wp_loop_rounds 2 ?_
  have ci00 : W1.cell? ⟨I, 0, none⟩ = some (.int .i64 o0) := cell_of_row W1 I 0 _ _ _ ((HB.out.block I hIw).trans HI.out)
  have ci01 : W1.cell? ⟨I, 1, none⟩ = some (.int .i64 p0) := cell_of_row W1 I 1 _ _ _ ((HB.out.block I hIw).trans HI.out)
  have ci02 : W1.cell? ⟨I, 2, none⟩ = some (.int .i64 n0) := cell_of_row W1 I 2 _ _ _ ((HB.out.block I hIw).trans HI.out)
  rw [rounds_succ]
  go_wp2_with (first | (go_at_call 36; refine (r_Encode o0 p0 n0 h00 h01 h02 h03 h04 h05 _).mono ?_; rintro e w0a ⟨rfl, hb0⟩; have S0a : Hid (blk7 w0a (w.heap.size + 1) 57 (.bool true) (.slice none 0 0) (.int .i64 7) (.int .i64 4) (.int .i64 4) (.int .i64 4) (.int .i64 0)) := Off.keeps (.of_below (ex := fun _ => False) hb0) S1.out id; have s0 : w0a.cell? ⟨w.heap.size + 1, 1, none⟩ = some (.slice none 0 0) := S0a.out.cell 1; have sR0 := S0a.out.lt; have hb0 := Lib.hid hb0) | (at_builtin; refine wpList_append_own _ rfl (.tmp 26) (.tmp 28) 53 rfl w.heap.size 2 i0 (.int .i64 0) 1 8 A.underI hi hz0 hzz1 hz2 rfl (by decide) (.slice none 0 0) 0 [] rfl (World.ownsRow_nil _ _ _ _) ⟨w0a.heap.size, 0, none⟩ 1 1 [.int .i64 (encI o0 p0 n0)] rfl rfl (new1_cells w0a 2 _) (by simp [Value.oneCell']) (by unfold maxLen; omega) (by omega) (by have h1 := HB.out.size; have h2 := hb0.out.size; simp at h2 ⊢; omega) ?_; intro v0 w0b hown0 hg0 _; obtain ⟨ad0, cp0, hv0⟩ := row_some hown0 (by omega); subst hv0; have OB0 : Hid (Off (fun _ => False) w0a w0b) := Off.grown ((Off.refl _ _).alloc _) hg0 (by simp [Value.ownBlock]); have S0b : Hid (blk7 w0b (w.heap.size + 1) 57 (.bool true) (.slice none 0 0) (.int .i64 7) (.int .i64 4) (.int .i64 4) (.int .i64 4) (.int .i64 0)) := OB0.out.keeps S0a.out id; have t0 : w0b.cell? ⟨w.heap.size + 1, 1, none⟩ = some (.slice none 0 0) := S0b.out.cell 1; have tf0 : ∀ j, w0b.frozen? ⟨w.heap.size + 1, j, none⟩ = false := (fun j => S0b.out.free j); have tR0 : w.heap.size + 1 < w0b.heap.size := S0b.out.lt; have hown0 := Lib.hid hown0; clear hg0 s0 sR0 ci00 ci01 ci02))
  obtain ⟨W2, hW2, S2, F2⟩ : ∃ W, w0b.setCell ⟨w.heap.size + 1, 1, none⟩ (.slice (some ⟨ad0, 0, none⟩) 1 cp0) = W ∧ Hid (blk7 W (w.heap.size + 1) 57 (.bool true) (.slice (some ⟨ad0, 0, none⟩) 1 cp0) (.int .i64 7) (.int .i64 4) (.int .i64 4) (.int .i64 4) (.int .i64 0)) ∧ Hid (Off (· = w.heap.size + 1) w0b W) := ⟨_, rfl, S0b.out.set1 _, off1 _ _ _ _⟩
  rw [hW2]
  clear hW2 t0 tf0 tR0
  have ROW2 := Lib.hid (Off.row F2.out hown0.out (by rintro k rfl cs h; have h1 := (show w0b.heap[w.heap.size + 1]? = _ from S0b.out).symm.trans h; simp at h1))
  have HB2 := Lib.hid (Off.below (below2 HB.out hb0.out) ((OB0.out.mono (ex' := (· = w.heap.size + 1)) (fun _ _ h => h.elim)).trans F2.out) (below2 HB.out hb0.out).size (fun k hk => by omega))
  have R2 : Hid (blk7 W2 w.heap.size 57 (.bool false) (.slice none 0 0) (.int .i64 0) (.int .i64 0) (.int .i64 0) (.int .i64 0) (.int .i64 0)) := F2.out.keeps (OB0.out.keeps (Off.keeps (.of_below (ex := fun _ => False) hb0.out) R1.out id) id) (by omega)
  have t1 : W2.cell? ⟨w.heap.size + 1, 1, none⟩ = some (.slice (some ⟨ad0, 0, none⟩) 1 cp0) := S2.out.cell 1
  have t0 : W2.cell? ⟨w.heap.size + 1, 0, none⟩ = some (.bool true) := S2.out.cell 0
  have t2 : W2.cell? ⟨w.heap.size + 1, 2, none⟩ = some (.int .i64 7) := S2.out.cell 2
  have t3 : W2.cell? ⟨w.heap.size + 1, 3, none⟩ = some (.int .i64 4) := S2.out.cell 3
  have t4 : W2.cell? ⟨w.heap.size + 1, 4, none⟩ = some (.int .i64 4) := S2.out.cell 4
  have t5 : W2.cell? ⟨w.heap.size + 1, 5, none⟩ = some (.int .i64 4) := S2.out.cell 5
  have t6 : W2.cell? ⟨w.heap.size + 1, 6, none⟩ = some (.int .i64 0) := S2.out.cell 6
  have tf : ∀ j, W2.frozen? ⟨w.heap.size + 1, j, none⟩ = false := (fun j => S2.out.free j)
  have tR : w.heap.size + 1 < W2.heap.size := S2.out.lt
  have u0 : W2.cell? ⟨w.heap.size, 0, none⟩ = some (.bool false) := R2.out.cell 0
  have u1 : W2.cell? ⟨w.heap.size, 1, none⟩ = some (.slice none 0 0) := R2.out.cell 1
  have u2 : W2.cell? ⟨w.heap.size, 2, none⟩ = some (.int .i64 0) := R2.out.cell 2
  have u3 : W2.cell? ⟨w.heap.size, 3, none⟩ = some (.int .i64 0) := R2.out.cell 3
  have u4 : W2.cell? ⟨w.heap.size, 4, none⟩ = some (.int .i64 0) := R2.out.cell 4
  have u5 : W2.cell? ⟨w.heap.size, 5, none⟩ = some (.int .i64 0) := R2.out.cell 5
  have u6 : W2.cell? ⟨w.heap.size, 6, none⟩ = some (.int .i64 0) := R2.out.cell 6
  have uf : ∀ j, W2.frozen? ⟨w.heap.size, j, none⟩ = false := (fun j => R2.out.free j)
  rw [rounds_succ]
  go_wp2_with (first | (at_builtin; refine wpList_append_none rfl (.tmp 32) (.tmp 33) 53 rfl w.heap.size 2 i0 1 A.underI hi (.slice (some ⟨ad0, 0, none⟩) 1 cp0) 1 ([.int .i64 (encI o0 p0 n0)] : List Value) rfl ROW2.out rfl ?_))
  have P1 := S2.out.set1 (.slice (some ⟨ad0, 0, none⟩) 1 cp0)
  have F1 := off1 W2 (w.heap.size + 1) 1 (.slice (some ⟨ad0, 0, none⟩) 1 cp0)
  have P0 := F1.keeps R2.out (by omega)
  have F2 := off7 (W2.setCell ⟨w.heap.size + 1, 1, none⟩ (.slice (some ⟨ad0, 0, none⟩) 1 cp0)) w.heap.size (.bool true) (.slice (some ⟨ad0, 0, none⟩) 1 cp0) (.int .i64 7) (.int .i64 4) (.int .i64 4) (.int .i64 4) (.int .i64 0)
  have P2 := set7 (w1 := W2.setCell ⟨w.heap.size + 1, 1, none⟩ (.slice (some ⟨ad0, 0, none⟩) 1 cp0)) P0 (.bool true) (.slice (some ⟨ad0, 0, none⟩) 1 cp0) (.int .i64 7) (.int .i64 4) (.int .i64 4) (.int .i64 4) (.int .i64 0)
  have HR := Off.row F2 (Off.row F1 ROW2.out (by rintro k rfl cs h; have h1 := (show W2.heap[w.heap.size + 1]? = _ from S2.out).symm.trans h; simp at h1)) (by rintro k rfl cs h; have h1 := P0.symm.trans h; simp at h1)
  have HE := Off.below HB2.out ((F1.mono (ex' := fun k => w.heap.size ≤ k) (fun k _ h => by omega)).trans (F2.mono (fun k _ h => by omega))) HB2.out.size (fun k hk => hk)
  clear t0 t1 t2 t3 t4 t5 t6 tf tR u0 u1 u2 u3 u4 u5 u6 uf P1 F1 P0 F2
  generalize ((((((((W2.setCell ⟨w.heap.size + 1, 1, none⟩ (.slice (some ⟨ad0, 0, none⟩) 1 cp0)).setCell ⟨w.heap.size, 0, none⟩ (.bool true)).setCell ⟨w.heap.size, 1, none⟩ (.slice (some ⟨ad0, 0, none⟩) 1 cp0)).setCell ⟨w.heap.size, 2, none⟩ (.int .i64 7)).setCell ⟨w.heap.size, 3, none⟩ (.int .i64 4)).setCell ⟨w.heap.size, 4, none⟩ (.int .i64 4)).setCell ⟨w.heap.size, 5, none⟩ (.int .i64 4)).setCell ⟨w.heap.size, 6, none⟩ (.int .i64 0)) = WZ at P2 HR HE ⊢
  have q0 : WZ.cell? ⟨w.heap.size, 0, none⟩ = some (.bool true) := blk7.cell P2 0
  have q1 : WZ.cell? ⟨w.heap.size, 1, none⟩ = some (.slice (some ⟨ad0, 0, none⟩) 1 cp0) := blk7.cell P2 1
  have q2 : WZ.cell? ⟨w.heap.size, 2, none⟩ = some (.int .i64 7) := blk7.cell P2 2
  have q3 : WZ.cell? ⟨w.heap.size, 3, none⟩ = some (.int .i64 4) := blk7.cell P2 3
  have q4 : WZ.cell? ⟨w.heap.size, 4, none⟩ = some (.int .i64 4) := blk7.cell P2 4
  have q5 : WZ.cell? ⟨w.heap.size, 5, none⟩ = some (.int .i64 4) := blk7.cell P2 5
  have q6 : WZ.cell? ⟨w.heap.size, 6, none⟩ = some (.int .i64 0) := blk7.cell P2 6
  exact bodyPost_ret (v := .agg #[.bool true, .slice (some ⟨ad0, 0, none⟩) 1 cp0, .int .i64 7, .int .i64 4, .int .i64 4, .int .i64 4, .int .i64 0]) (by simp [results, Try.results26, go_sem, q0, q1, q2, q3, q4, q5, q6]) rfl ⟨_, _, rfl, HR, HE⟩
set_option maxHeartbeats 2000000 in
theorem c_one1s (w : World) (I : Nat) (o0 p0 n0 : Int) (h00 : 0 ≤ o0) (h01 : o0 < 23) (h02 : 0 ≤ p0) (h03 : p0 < 4) (h04 : -2147483648 ≤ n0) (h05 : n0 ≤ 2147483647) (J : Nat) (b : Int) (hJ : w.heap[J]? = some (.cells #[.int .i64 b] 2 (0, 0))) (hI : w.heap[I]? = some (.cells #[.int .i64 o0, .int .i64 p0, .int .i64 n0] 64 (0, 0))) :
    Calls Try.prog 26 #[.slice (some ⟨I, 0, none⟩) 1 1, (.slice (some ⟨J, 0, none⟩) 1 1)] w fun e w' => ∃ ad c, e = .returned (.agg #[.bool true, .slice ad 2 c, .int .i64 7, .int .i64 4, .int .i64 4, .int .i64 4, .int .i64 0]) ∧ w'.ownsRow w.heap.size 2 1 (.slice ad 2 c) 2 (([encI o0 p0 n0, b] : List Int).map (Value.int .i64)) ∧ Below w.heap.size w w' := by
  obtain ⟨W1, hW1, R1, S1, HB, hz1⟩ := one_start w
  have hIw : I < w.heap.size := by
    rcases Nat.lt_or_ge I w.heap.size with hlt | hge
    · exact hlt
    · rw [Array.getElem?_eq_none hge] at hI; cases hI
  have hJw : J < w.heap.size := by
    rcases Nat.lt_or_ge J w.heap.size with hlt | hge
    · exact hlt
    · rw [Array.getElem?_eq_none hge] at hJ; cases hJ
  have HJ := Lib.hid hJ
  clear hJ
  have HI := Lib.hid hI
  replace hW1 := Lib.hid hW1
  replace R1 := Lib.hid R1
  replace S1 := Lib.hid S1
  replace HB := Lib.hid HB
  obtain ⟨i0, hi, hz0, hzz1, hz2⟩ := info_parts A.infoI
  clear hI
  go_enter Try.func26, Try.ntmps26
  go_wp2_with fail
  rw [hW1.out]
  clear hW1
  refine wp_loop_rounds 2 ?_
  have ci00 : W1.cell? ⟨I, 0, none⟩ = some (.int .i64 o0) := cell_of_row W1 I 0 _ _ _ ((HB.out.block I hIw).trans HI.out)
  have ci01 : W1.cell? ⟨I, 1, none⟩ = some (.int .i64 p0) := cell_of_row W1 I 1 _ _ _ ((HB.out.block I hIw).trans HI.out)
  have ci02 : W1.cell? ⟨I, 2, none⟩ = some (.int .i64 n0) := cell_of_row W1 I 2 _ _ _ ((HB.out.block I hIw).trans HI.out)
  rw [rounds_succ]
  go_wp2_with (first | (go_at_call 36; refine (r_Encode o0 p0 n0 h00 h01 h02 h03 h04 h05 _).mono ?_; rintro e w0a ⟨rfl, hb0⟩; have S0a : Hid (blk7 w0a (w.heap.size + 1) 57 (.bool true) (.slice none 0 0) (.int .i64 7) (.int .i64 4) (.int .i64 4) (.int .i64 4) (.int .i64 0)) := Off.keeps (.of_below (ex := fun _ => False) hb0) S1.out id; have s0 : w0a.cell? ⟨w.heap.size + 1, 1, none⟩ = some (.slice none 0 0) := S0a.out.cell 1; have sR0 := S0a.out.lt; have hb0 := Lib.hid hb0) | (at_builtin; refine wpList_append_own _ rfl (.tmp 26) (.tmp 28) 53 rfl w.heap.size 2 i0 (.int .i64 0) 1 8 A.underI hi hz0 hzz1 hz2 rfl (by decide) (.slice none 0 0) 0 [] rfl (World.ownsRow_nil _ _ _ _) ⟨w0a.heap.size, 0, none⟩ 1 1 [.int .i64 (encI o0 p0 n0)] rfl rfl (new1_cells w0a 2 _) (by simp [Value.oneCell']) (by unfold maxLen; omega) (by omega) (by have h1 := HB.out.size; have h2 := hb0.out.size; simp at h2 ⊢; omega) ?_; intro v0 w0b hown0 hg0 _; obtain ⟨ad0, cp0, hv0⟩ := row_some hown0 (by omega); subst hv0; have OB0 : Hid (Off (fun _ => False) w0a w0b) := Off.grown ((Off.refl _ _).alloc _) hg0 (by simp [Value.ownBlock]); have S0b : Hid (blk7 w0b (w.heap.size + 1) 57 (.bool true) (.slice none 0 0) (.int .i64 7) (.int .i64 4) (.int .i64 4) (.int .i64 4) (.int .i64 0)) := OB0.out.keeps S0a.out id; have t0 : w0b.cell? ⟨w.heap.size + 1, 1, none⟩ = some (.slice none 0 0) := S0b.out.cell 1; have tf0 : ∀ j, w0b.frozen? ⟨w.heap.size + 1, j, none⟩ = false := (fun j => S0b.out.free j); have tR0 : w.heap.size + 1 < w0b.heap.size := S0b.out.lt; have hown0 := Lib.hid hown0; clear hg0 s0 sR0 ci00 ci01 ci02))
  obtain ⟨W2, hW2, S2, F2⟩ : ∃ W, w0b.setCell ⟨w.heap.size + 1, 1, none⟩ (.slice (some ⟨ad0, 0, none⟩) 1 cp0) = W ∧ Hid (blk7 W (w.heap.size + 1) 57 (.bool true) (.slice (some ⟨ad0, 0, none⟩) 1 cp0) (.int .i64 7) (.int .i64 4) (.int .i64 4) (.int .i64 4) (.int .i64 0)) ∧ Hid (Off (· = w.heap.size + 1) w0b W) := ⟨_, rfl, S0b.out.set1 _, off1 _ _ _ _⟩
  rw [hW2]
  clear hW2 t0 tf0 tR0
  have ROW2 := Lib.hid (Off.row F2.out hown0.out (by rintro k rfl cs h; have h1 := (show w0b.heap[w.heap.size + 1]? = _ from S0b.out).symm.trans h; simp at h1))
  have HB2 := Lib.hid (Off.below (below2 HB.out hb0.out) ((OB0.out.mono (ex' := (· = w.heap.size + 1)) (fun _ _ h => h.elim)).trans F2.out) (below2 HB.out hb0.out).size (fun k hk => by omega))
  have R2 : Hid (blk7 W2 w.heap.size 57 (.bool false) (.slice none 0 0) (.int .i64 0) (.int .i64 0) (.int .i64 0) (.int .i64 0) (.int .i64 0)) := F2.out.keeps (OB0.out.keeps (Off.keeps (.of_below (ex := fun _ => False) hb0.out) R1.out id) id) (by omega)
  have s1 : W2.cell? ⟨w.heap.size + 1, 1, none⟩ = some (.slice (some ⟨ad0, 0, none⟩) 1 cp0) := S2.out.cell 1
  rw [rounds_succ]
  go_wp2_with (first | (at_builtin; refine wpList_append_own _ rfl (.tmp 32) (.tmp 33) 53 rfl w.heap.size 2 i0 (.int .i64 0) 1 8 A.underI hi hz0 hzz1 hz2 rfl (by decide) (.slice (some ⟨ad0, 0, none⟩) 1 cp0) 1 ([.int .i64 (encI o0 p0 n0)] : List Value) rfl ROW2.out ⟨J, 0, none⟩ 1 1 [.int .i64 b] rfl rfl (fun j u hj => (by match j, hj with | 0, hj => (cases hj; exact cell_of_row _ _ 0 _ _ _ ((HB2.out.block J hJw).trans HJ.out)) | (q + 1), hj => simp at hj)) (by simp [Value.oneCell']) (by unfold maxLen; omega) (by omega) (by exact HB2.out.size) ?_; intro vm wm hownm hgm _; obtain ⟨adm, cpm, hvm⟩ := row_some hownm (by omega); subst hvm; have hge := row_ge ROW2.out; have OBm : Hid (Off (· = ad0) W2 wm) := Off.grown (Off.refl _ _) hgm (fun k hk => .inl (Option.some.inj hk).symm); have Sm : Hid (blk7 wm (w.heap.size + 1) 57 (.bool true) (.slice (some ⟨ad0, 0, none⟩) 1 cp0) (.int .i64 7) (.int .i64 4) (.int .i64 4) (.int .i64 4) (.int .i64 0)) := OBm.out.keeps S2.out (by rintro rfl; obtain ⟨cs, h1⟩ := row_blk ROW2.out; have h2 := (show W2.heap[w.heap.size + 1]? = _ from S2.out).symm.trans h1; simp at h2); have Rm : Hid (blk7 wm w.heap.size 57 (.bool false) (.slice none 0 0) (.int .i64 0) (.int .i64 0) (.int .i64 0) (.int .i64 0) (.int .i64 0)) := OBm.out.keeps R2.out (by rintro rfl; obtain ⟨cs, h1⟩ := row_blk ROW2.out; have h2 := (show W2.heap[w.heap.size]? = _ from R2.out).symm.trans h1; simp at h2); have hownm := Lib.hid hownm; have HBm := Lib.hid (Off.below HB2.out (OBm.out.mono (ex' := fun k => w.heap.size ≤ k) (fun k _ h => by omega)) HB2.out.size (fun k hk => hk)); clear hgm s1; have t1 : wm.cell? ⟨w.heap.size + 1, 1, none⟩ = some (.slice (some ⟨ad0, 0, none⟩) 1 cp0) := Sm.out.cell 1; have t0 : wm.cell? ⟨w.heap.size + 1, 0, none⟩ = some (.bool true) := Sm.out.cell 0; have t2 : wm.cell? ⟨w.heap.size + 1, 2, none⟩ = some (.int .i64 7) := Sm.out.cell 2; have t3 : wm.cell? ⟨w.heap.size + 1, 3, none⟩ = some (.int .i64 4) := Sm.out.cell 3; have t4 : wm.cell? ⟨w.heap.size + 1, 4, none⟩ = some (.int .i64 4) := Sm.out.cell 4; have t5 : wm.cell? ⟨w.heap.size + 1, 5, none⟩ = some (.int .i64 4) := Sm.out.cell 5; have t6 : wm.cell? ⟨w.heap.size + 1, 6, none⟩ = some (.int .i64 0) := Sm.out.cell 6; have tf : ∀ j, wm.frozen? ⟨w.heap.size + 1, j, none⟩ = false := (fun j => Sm.out.free j); have tR : w.heap.size + 1 < wm.heap.size := Sm.out.lt; have u0 : wm.cell? ⟨w.heap.size, 0, none⟩ = some (.bool false) := Rm.out.cell 0; have u1 : wm.cell? ⟨w.heap.size, 1, none⟩ = some (.slice none 0 0) := Rm.out.cell 1; have u2 : wm.cell? ⟨w.heap.size, 2, none⟩ = some (.int .i64 0) := Rm.out.cell 2; have u3 : wm.cell? ⟨w.heap.size, 3, none⟩ = some (.int .i64 0) := Rm.out.cell 3; have u4 : wm.cell? ⟨w.heap.size, 4, none⟩ = some (.int .i64 0) := Rm.out.cell 4; have u5 : wm.cell? ⟨w.heap.size, 5, none⟩ = some (.int .i64 0) := Rm.out.cell 5; have u6 : wm.cell? ⟨w.heap.size, 6, none⟩ = some (.int .i64 0) := Rm.out.cell 6; have uf : ∀ j, wm.frozen? ⟨w.heap.size, j, none⟩ = false := (fun j => Rm.out.free j)))
  have P1 := Sm.out.set1 (.slice (some ⟨adm, 0, none⟩) 2 cpm)
  have F1 := off1 wm (w.heap.size + 1) 1 (.slice (some ⟨adm, 0, none⟩) 2 cpm)
  have P0 := F1.keeps Rm.out (by omega)
  have F2 := off7 (wm.setCell ⟨w.heap.size + 1, 1, none⟩ (.slice (some ⟨adm, 0, none⟩) 2 cpm)) w.heap.size (.bool true) (.slice (some ⟨adm, 0, none⟩) 2 cpm) (.int .i64 7) (.int .i64 4) (.int .i64 4) (.int .i64 4) (.int .i64 0)
  have P2 := set7 (w1 := wm.setCell ⟨w.heap.size + 1, 1, none⟩ (.slice (some ⟨adm, 0, none⟩) 2 cpm)) P0 (.bool true) (.slice (some ⟨adm, 0, none⟩) 2 cpm) (.int .i64 7) (.int .i64 4) (.int .i64 4) (.int .i64 4) (.int .i64 0)
  have HR := Off.row F2 (Off.row F1 hownm.out (by rintro k rfl cs h; have h1 := (show wm.heap[w.heap.size + 1]? = _ from Sm.out).symm.trans h; simp at h1)) (by rintro k rfl cs h; have h1 := P0.symm.trans h; simp at h1)
  have HE := Off.below HBm.out ((F1.mono (ex' := fun k => w.heap.size ≤ k) (fun k _ h => by omega)).trans (F2.mono (fun k _ h => by omega))) HBm.out.size (fun k hk => hk)
  clear t0 t1 t2 t3 t4 t5 t6 tf tR u0 u1 u2 u3 u4 u5 u6 uf P1 F1 P0 F2
  generalize ((((((((wm.setCell ⟨w.heap.size + 1, 1, none⟩ (.slice (some ⟨adm, 0, none⟩) 2 cpm)).setCell ⟨w.heap.size, 0, none⟩ (.bool true)).setCell ⟨w.heap.size, 1, none⟩ (.slice (some ⟨adm, 0, none⟩) 2 cpm)).setCell ⟨w.heap.size, 2, none⟩ (.int .i64 7)).setCell ⟨w.heap.size, 3, none⟩ (.int .i64 4)).setCell ⟨w.heap.size, 4, none⟩ (.int .i64 4)).setCell ⟨w.heap.size, 5, none⟩ (.int .i64 4)).setCell ⟨w.heap.size, 6, none⟩ (.int .i64 0)) = WZ at P2 HR HE ⊢
  have q0 : WZ.cell? ⟨w.heap.size, 0, none⟩ = some (.bool true) := blk7.cell P2 0
  have q1 : WZ.cell? ⟨w.heap.size, 1, none⟩ = some (.slice (some ⟨adm, 0, none⟩) 2 cpm) := blk7.cell P2 1
  have q2 : WZ.cell? ⟨w.heap.size, 2, none⟩ = some (.int .i64 7) := blk7.cell P2 2
  have q3 : WZ.cell? ⟨w.heap.size, 3, none⟩ = some (.int .i64 4) := blk7.cell P2 3
  have q4 : WZ.cell? ⟨w.heap.size, 4, none⟩ = some (.int .i64 4) := blk7.cell P2 4
  have q5 : WZ.cell? ⟨w.heap.size, 5, none⟩ = some (.int .i64 4) := blk7.cell P2 5
  have q6 : WZ.cell? ⟨w.heap.size, 6, none⟩ = some (.int .i64 0) := blk7.cell P2 6
  exact bodyPost_ret (v := .agg #[.bool true, .slice (some ⟨adm, 0, none⟩) 2 cpm, .int .i64 7, .int .i64 4, .int .i64 4, .int .i64 4, .int .i64 0]) (by simp [results, Try.results26, go_sem, q0, q1, q2, q3, q4, q5, q6]) rfl ⟨_, _, rfl, HR, HE⟩
set_option maxHeartbeats 2000000 in
theorem c_one2 (w : World) (I : Nat) (o0 p0 n0 : Int) (h00 : 0 ≤ o0) (h01 : o0 < 23) (h02 : 0 ≤ p0) (h03 : p0 < 4) (h04 : -2147483648 ≤ n0) (h05 : n0 ≤ 2147483647) (o1 p1 n1 : Int) (h10 : 0 ≤ o1) (h11 : o1 < 23) (h12 : 0 ≤ p1) (h13 : p1 < 4) (h14 : -2147483648 ≤ n1) (h15 : n1 ≤ 2147483647) (hI : w.heap[I]? = some (.cells #[.int .i64 o0, .int .i64 p0, .int .i64 n0, .int .i64 o1, .int .i64 p1, .int .i64 n1] 64 (0, 0))) :
    Calls Try.prog 26 #[.slice (some ⟨I, 0, none⟩) 2 2, (.slice none 0 0)] w fun e w' => ∃ ad c, e = .returned (.agg #[.bool true, .slice ad 2 c, .int .i64 7, .int .i64 4, .int .i64 4, .int .i64 4, .int .i64 0]) ∧ w'.ownsRow w.heap.size 2 1 (.slice ad 2 c) 2 (([encI o0 p0 n0, encI o1 p1 n1] : List Int).map (Value.int .i64)) ∧ Below w.heap.size w w' := by
  obtain ⟨W1, hW1, R1, S1, HB, hz1⟩ := one_start w
  have hIw : I < w.heap.size := by
    rcases Nat.lt_or_ge I w.heap.size with hlt | hge
    · exact hlt
    · rw [Array.getElem?_eq_none hge] at hI; cases hI
  have HI := Lib.hid hI
  replace hW1 := Lib.hid hW1
  replace R1 := Lib.hid R1
  replace S1 := Lib.hid S1
  replace HB := Lib.hid HB
  obtain ⟨i0, hi, hz0, hzz1, hz2⟩ := info_parts A.infoI
  clear hI
  go_enter Try.func26, Try.ntmps26
  go_wp2_with fail
  rw [hW1.out]
  clear hW1
  refine wp_loop_rounds 3 ?_
  have ci00 : W1.cell? ⟨I, 0, none⟩ = some (.int .i64 o0) := cell_of_row W1 I 0 _ _ _ ((HB.out.block I hIw).trans HI.out)
  have ci01 : W1.cell? ⟨I, 1, none⟩ = some (.int .i64 p0) := cell_of_row W1 I 1 _ _ _ ((HB.out.block I hIw).trans HI.out)
  have ci02 : W1.cell? ⟨I, 2, none⟩ = some (.int .i64 n0) := cell_of_row W1 I 2 _ _ _ ((HB.out.block I hIw).trans HI.out)
  rw [rounds_succ]
  go_wp2_with (first | (go_at_call 36; refine (r_Encode o0 p0 n0 h00 h01 h02 h03 h04 h05 _).mono ?_; rintro e w0a ⟨rfl, hb0⟩; have S0a : Hid (blk7 w0a (w.heap.size + 1) 57 (.bool true) (.slice none 0 0) (.int .i64 7) (.int .i64 4) (.int .i64 4) (.int .i64 4) (.int .i64 0)) := Off.keeps (.of_below (ex := fun _ => False) hb0) S1.out id; have s0 : w0a.cell? ⟨w.heap.size + 1, 1, none⟩ = some (.slice none 0 0) := S0a.out.cell 1; have sR0 := S0a.out.lt; have hb0 := Lib.hid hb0) | (at_builtin; refine wpList_append_own _ rfl (.tmp 26) (.tmp 28) 53 rfl w.heap.size 2 i0 (.int .i64 0) 1 8 A.underI hi hz0 hzz1 hz2 rfl (by decide) (.slice none 0 0) 0 [] rfl (World.ownsRow_nil _ _ _ _) ⟨w0a.heap.size, 0, none⟩ 1 1 [.int .i64 (encI o0 p0 n0)] rfl rfl (new1_cells w0a 2 _) (by simp [Value.oneCell']) (by unfold maxLen; omega) (by omega) (by have h1 := HB.out.size; have h2 := hb0.out.size; simp at h2 ⊢; omega) ?_; intro v0 w0b hown0 hg0 _; obtain ⟨ad0, cp0, hv0⟩ := row_some hown0 (by omega); subst hv0; have OB0 : Hid (Off (fun _ => False) w0a w0b) := Off.grown ((Off.refl _ _).alloc _) hg0 (by simp [Value.ownBlock]); have S0b : Hid (blk7 w0b (w.heap.size + 1) 57 (.bool true) (.slice none 0 0) (.int .i64 7) (.int .i64 4) (.int .i64 4) (.int .i64 4) (.int .i64 0)) := OB0.out.keeps S0a.out id; have t0 : w0b.cell? ⟨w.heap.size + 1, 1, none⟩ = some (.slice none 0 0) := S0b.out.cell 1; have tf0 : ∀ j, w0b.frozen? ⟨w.heap.size + 1, j, none⟩ = false := (fun j => S0b.out.free j); have tR0 : w.heap.size + 1 < w0b.heap.size := S0b.out.lt; have hown0 := Lib.hid hown0; clear hg0 s0 sR0 ci00 ci01 ci02))
  obtain ⟨W2, hW2, S2, F2⟩ : ∃ W, w0b.setCell ⟨w.heap.size + 1, 1, none⟩ (.slice (some ⟨ad0, 0, none⟩) 1 cp0) = W ∧ Hid (blk7 W (w.heap.size + 1) 57 (.bool true) (.slice (some ⟨ad0, 0, none⟩) 1 cp0) (.int .i64 7) (.int .i64 4) (.int .i64 4) (.int .i64 4) (.int .i64 0)) ∧ Hid (Off (· = w.heap.size + 1) w0b W) := ⟨_, rfl, S0b.out.set1 _, off1 _ _ _ _⟩
  rw [hW2]
  clear hW2 t0 tf0 tR0
  have ROW2 := Lib.hid (Off.row F2.out hown0.out (by rintro k rfl cs h; have h1 := (show w0b.heap[w.heap.size + 1]? = _ from S0b.out).symm.trans h; simp at h1))
  have HB2 := Lib.hid (Off.below (below2 HB.out hb0.out) ((OB0.out.mono (ex' := (· = w.heap.size + 1)) (fun _ _ h => h.elim)).trans F2.out) (below2 HB.out hb0.out).size (fun k hk => by omega))
  have R2 : Hid (blk7 W2 w.heap.size 57 (.bool false) (.slice none 0 0) (.int .i64 0) (.int .i64 0) (.int .i64 0) (.int .i64 0) (.int .i64 0)) := F2.out.keeps (OB0.out.keeps (Off.keeps (.of_below (ex := fun _ => False) hb0.out) R1.out id) id) (by omega)
  have ci10 : W2.cell? ⟨I, 3, none⟩ = some (.int .i64 o1) := cell_of_row W2 I 3 _ _ _ ((HB2.out.block I hIw).trans HI.out)
  have ci11 : W2.cell? ⟨I, 4, none⟩ = some (.int .i64 p1) := cell_of_row W2 I 4 _ _ _ ((HB2.out.block I hIw).trans HI.out)
  have ci12 : W2.cell? ⟨I, 5, none⟩ = some (.int .i64 n1) := cell_of_row W2 I 5 _ _ _ ((HB2.out.block I hIw).trans HI.out)
  rw [rounds_succ]
  go_wp2_with (first | (go_at_call 36; refine (r_Encode o1 p1 n1 h10 h11 h12 h13 h14 h15 _).mono ?_; rintro e w1a ⟨rfl, hb1⟩; have S1a : Hid (blk7 w1a (w.heap.size + 1) 57 (.bool true) (.slice (some ⟨ad0, 0, none⟩) 1 cp0) (.int .i64 7) (.int .i64 4) (.int .i64 4) (.int .i64 4) (.int .i64 0)) := Off.keeps (.of_below (ex := fun _ => False) hb1) S2.out id; have s1 : w1a.cell? ⟨w.heap.size + 1, 1, none⟩ = some (.slice (some ⟨ad0, 0, none⟩) 1 cp0) := S1a.out.cell 1; have sR1 := S1a.out.lt; have ROW1a := Lib.hid (Off.row (ex := fun _ => False) (.of_below hb1) ROW2.out (fun _ h => h.elim)); have hb1 := Lib.hid hb1) | (at_builtin; refine wpList_append_own _ rfl (.tmp 26) (.tmp 28) 53 rfl w.heap.size 2 i0 (.int .i64 0) 1 8 A.underI hi hz0 hzz1 hz2 rfl (by decide) (.slice (some ⟨ad0, 0, none⟩) 1 cp0) 1 ([.int .i64 (encI o0 p0 n0)] : List Value) rfl (Off.row (ex := fun _ => False) ((Off.refl _ w1a).alloc _) ROW1a.out (fun _ h => h.elim)) ⟨w1a.heap.size, 0, none⟩ 1 1 [.int .i64 (encI o1 p1 n1)] rfl rfl (new1_cells w1a 2 _) (by simp [Value.oneCell']) (by unfold maxLen; omega) (by omega) (by have h1 := HB2.out.size; have h2 := hb1.out.size; simp at h2 ⊢; omega) ?_; intro v1 w1b hown1 hg1 _; obtain ⟨ad1, cp1, hv1⟩ := row_some hown1 (by omega); subst hv1; have OB1 : Hid (Off (· = ad0) w1a w1b) := Off.grown ((Off.refl _ _).alloc _) hg1 (fun k hk => .inl (Option.some.inj hk).symm); have S1b : Hid (blk7 w1b (w.heap.size + 1) 57 (.bool true) (.slice (some ⟨ad0, 0, none⟩) 1 cp0) (.int .i64 7) (.int .i64 4) (.int .i64 4) (.int .i64 4) (.int .i64 0)) := OB1.out.keeps S1a.out (by rintro rfl; have h1 := row_blk ROW1a.out; obtain ⟨cs, h1⟩ := h1; have h2 := (show w1a.heap[w.heap.size + 1]? = _ from S1a.out).symm.trans h1; simp at h2); have t1 : w1b.cell? ⟨w.heap.size + 1, 1, none⟩ = some (.slice (some ⟨ad0, 0, none⟩) 1 cp0) := S1b.out.cell 1; have tf1 : ∀ j, w1b.frozen? ⟨w.heap.size + 1, j, none⟩ = false := (fun j => S1b.out.free j); have tR1 : w.heap.size + 1 < w1b.heap.size := S1b.out.lt; have hown1 := Lib.hid hown1; clear hg1 s1 sR1 ci10 ci11 ci12))
  obtain ⟨W3, hW3, S3, F3⟩ : ∃ W, w1b.setCell ⟨w.heap.size + 1, 1, none⟩ (.slice (some ⟨ad1, 0, none⟩) 2 cp1) = W ∧ Hid (blk7 W (w.heap.size + 1) 57 (.bool true) (.slice (some ⟨ad1, 0, none⟩) 2 cp1) (.int .i64 7) (.int .i64 4) (.int .i64 4) (.int .i64 4) (.int .i64 0)) ∧ Hid (Off (· = w.heap.size + 1) w1b W) := ⟨_, rfl, S1b.out.set1 _, off1 _ _ _ _⟩
  rw [hW3]
  clear hW3 t1 tf1 tR1
  have ROW3 := Lib.hid (Off.row F3.out hown1.out (by rintro k rfl cs h; have h1 := (show w1b.heap[w.heap.size + 1]? = _ from S1b.out).symm.trans h; simp at h1))
  have hgx := row_ge ROW1a.out
  have HB3 := Lib.hid (Off.below (below2 HB2.out hb1.out) ((OB1.out.mono (ex' := fun k => w.heap.size ≤ k) (fun k _ h => by omega)).trans (F3.out.mono (fun k _ h => by omega))) (below2 HB2.out hb1.out).size (fun k hk => hk))
  have R3 : Hid (blk7 W3 w.heap.size 57 (.bool false) (.slice none 0 0) (.int .i64 0) (.int .i64 0) (.int .i64 0) (.int .i64 0) (.int .i64 0)) := F3.out.keeps (OB1.out.keeps (Off.keeps (.of_below (ex := fun _ => False) hb1.out) R2.out id) (by rintro rfl; obtain ⟨cs, h1⟩ := row_blk ROW1a.out; have h2 := (show w1a.heap[w.heap.size]? = _ from Off.keeps (.of_below (ex := fun _ => False) hb1.out) R2.out id).symm.trans h1; simp at h2)) (by omega)
  have t1 : W3.cell? ⟨w.heap.size + 1, 1, none⟩ = some (.slice (some ⟨ad1, 0, none⟩) 2 cp1) := S3.out.cell 1
  have t0 : W3.cell? ⟨w.heap.size + 1, 0, none⟩ = some (.bool true) := S3.out.cell 0
  have t2 : W3.cell? ⟨w.heap.size + 1, 2, none⟩ = some (.int .i64 7) := S3.out.cell 2
  have t3 : W3.cell? ⟨w.heap.size + 1, 3, none⟩ = some (.int .i64 4) := S3.out.cell 3
  have t4 : W3.cell? ⟨w.heap.size + 1, 4, none⟩ = some (.int .i64 4) := S3.out.cell 4
  have t5 : W3.cell? ⟨w.heap.size + 1, 5, none⟩ = some (.int .i64 4) := S3.out.cell 5
  have t6 : W3.cell? ⟨w.heap.size + 1, 6, none⟩ = some (.int .i64 0) := S3.out.cell 6
  have tf : ∀ j, W3.frozen? ⟨w.heap.size + 1, j, none⟩ = false := (fun j => S3.out.free j)
  have tR : w.heap.size + 1 < W3.heap.size := S3.out.lt
  have u0 : W3.cell? ⟨w.heap.size, 0, none⟩ = some (.bool false) := R3.out.cell 0
  have u1 : W3.cell? ⟨w.heap.size, 1, none⟩ = some (.slice none 0 0) := R3.out.cell 1
  have u2 : W3.cell? ⟨w.heap.size, 2, none⟩ = some (.int .i64 0) := R3.out.cell 2
  have u3 : W3.cell? ⟨w.heap.size, 3, none⟩ = some (.int .i64 0) := R3.out.cell 3
  have u4 : W3.cell? ⟨w.heap.size, 4, none⟩ = some (.int .i64 0) := R3.out.cell 4
  have u5 : W3.cell? ⟨w.heap.size, 5, none⟩ = some (.int .i64 0) := R3.out.cell 5
  have u6 : W3.cell? ⟨w.heap.size, 6, none⟩ = some (.int .i64 0) := R3.out.cell 6
  have uf : ∀ j, W3.frozen? ⟨w.heap.size, j, none⟩ = false := (fun j => R3.out.free j)
  rw [rounds_succ]
  go_wp2_with (first | (at_builtin; refine wpList_append_none rfl (.tmp 32) (.tmp 33) 53 rfl w.heap.size 2 i0 1 A.underI hi (.slice (some ⟨ad1, 0, none⟩) 2 cp1) 2 ([.int .i64 (encI o0 p0 n0), .int .i64 (encI o1 p1 n1)] : List Value) rfl ROW3.out rfl ?_))
  have P1 := S3.out.set1 (.slice (some ⟨ad1, 0, none⟩) 2 cp1)
  have F1 := off1 W3 (w.heap.size + 1) 1 (.slice (some ⟨ad1, 0, none⟩) 2 cp1)
  have P0 := F1.keeps R3.out (by omega)
  have F2 := off7 (W3.setCell ⟨w.heap.size + 1, 1, none⟩ (.slice (some ⟨ad1, 0, none⟩) 2 cp1)) w.heap.size (.bool true) (.slice (some ⟨ad1, 0, none⟩) 2 cp1) (.int .i64 7) (.int .i64 4) (.int .i64 4) (.int .i64 4) (.int .i64 0)
  have P2 := set7 (w1 := W3.setCell ⟨w.heap.size + 1, 1, none⟩ (.slice (some ⟨ad1, 0, none⟩) 2 cp1)) P0 (.bool true) (.slice (some ⟨ad1, 0, none⟩) 2 cp1) (.int .i64 7) (.int .i64 4) (.int .i64 4) (.int .i64 4) (.int .i64 0)
  have HR := Off.row F2 (Off.row F1 ROW3.out (by rintro k rfl cs h; have h1 := (show W3.heap[w.heap.size + 1]? = _ from S3.out).symm.trans h; simp at h1)) (by rintro k rfl cs h; have h1 := P0.symm.trans h; simp at h1)
  have HE := Off.below HB3.out ((F1.mono (ex' := fun k => w.heap.size ≤ k) (fun k _ h => by omega)).trans (F2.mono (fun k _ h => by omega))) HB3.out.size (fun k hk => hk)
  clear t0 t1 t2 t3 t4 t5 t6 tf tR u0 u1 u2 u3 u4 u5 u6 uf P1 F1 P0 F2
  generalize ((((((((W3.setCell ⟨w.heap.size + 1, 1, none⟩ (.slice (some ⟨ad1, 0, none⟩) 2 cp1)).setCell ⟨w.heap.size, 0, none⟩ (.bool true)).setCell ⟨w.heap.size, 1, none⟩ (.slice (some ⟨ad1, 0, none⟩) 2 cp1)).setCell ⟨w.heap.size, 2, none⟩ (.int .i64 7)).setCell ⟨w.heap.size, 3, none⟩ (.int .i64 4)).setCell ⟨w.heap.size, 4, none⟩ (.int .i64 4)).setCell ⟨w.heap.size, 5, none⟩ (.int .i64 4)).setCell ⟨w.heap.size, 6, none⟩ (.int .i64 0)) = WZ at P2 HR HE ⊢
  have q0 : WZ.cell? ⟨w.heap.size, 0, none⟩ = some (.bool true) := blk7.cell P2 0
  have q1 : WZ.cell? ⟨w.heap.size, 1, none⟩ = some (.slice (some ⟨ad1, 0, none⟩) 2 cp1) := blk7.cell P2 1
  have q2 : WZ.cell? ⟨w.heap.size, 2, none⟩ = some (.int .i64 7) := blk7.cell P2 2
  have q3 : WZ.cell? ⟨w.heap.size, 3, none⟩ = some (.int .i64 4) := blk7.cell P2 3
  have q4 : WZ.cell? ⟨w.heap.size, 4, none⟩ = some (.int .i64 4) := blk7.cell P2 4
  have q5 : WZ.cell? ⟨w.heap.size, 5, none⟩ = some (.int .i64 4) := blk7.cell P2 5
  have q6 : WZ.cell? ⟨w.heap.size, 6, none⟩ = some (.int .i64 0) := blk7.cell P2 6
  exact bodyPost_ret (v := .agg #[.bool true, .slice (some ⟨ad1, 0, none⟩) 2 cp1, .int .i64 7, .int .i64 4, .int .i64 4, .int .i64 4, .int .i64 0]) (by simp [results, Try.results26, go_sem, q0, q1, q2, q3, q4, q5, q6]) rfl ⟨_, _, rfl, HR, HE⟩
end Go.Proofs.Ytiakonmamkfopaa
