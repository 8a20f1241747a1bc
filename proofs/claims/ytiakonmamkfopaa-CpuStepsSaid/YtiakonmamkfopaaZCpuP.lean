/- The processor's step: the closure that is deferred. -/
import Derived.Test.YtiakonmamkfopaaZCpuL
import Derived.Defers
import Derived.Recover
namespace Go.Proofs.Ytiakonmamkfopaa
open Go.RowKit Go.ChangeShapes
set_option linter.unusedVariables false
set_option maxRecDepth 100000
/-- a state's cells -/
def stC (s : St) (stk : Value) : Array Value :=
  #[.int .i64 s.seg, .int .i64 s.off, .int .i64 s.ring, .int .i64 s.a, .int .i64 s.p0.seg, .int .i64 s.p0.off, .int .i64 s.p0.ring, .int .i64 s.p1.seg, .int .i64 s.p1.off, .int .i64 s.p1.ring,
    .int .i64 s.p2.seg, .int .i64 s.p2.off, .int .i64 s.p2.ring, .int .i64 s.p3.seg, .int .i64 s.p3.off, .int .i64 s.p3.ring, stk, .bool s.hal]
def stV (s : St) (stk : Value) : Value := .agg (stC s stk)
def St.zero : St := ⟨0, 0, 0, 0, ⟨0, 0, 0⟩, ⟨0, 0, 0⟩, ⟨0, 0, 0⟩, ⟨0, 0, 0⟩, false⟩
/-- block N is a state -/
def stAt (w : World) (N : Nat) (s : St) (stk : Value) : Prop := w.heap[N]? = some (.cells (stC s stk) 33 (0, 0))
theorem stAt.cell {w : World} {N : Nat} {s : St} {stk : Value} (h : stAt w N s stk) (j : Nat) : w.cell? ⟨N, j, none⟩ = (stC s stk)[j]? := cell_of_row w N j _ _ _ h
theorem stAt.free {w : World} {N : Nat} {s : St} {stk : Value} (h : stAt w N s stk) (j : Nat) : w.frozen? ⟨N, j, none⟩ = false := by
  simp [World.frozen?, show w.heap[N]? = _ from h]
theorem stAt.lt {w : World} {N : Nat} {s : St} {stk : Value} (h : stAt w N s stk) : N < w.heap.size := by
  rcases Nat.lt_or_ge N w.heap.size with hlt | hge
  · exact hlt
  · unfold stAt at h; rw [Array.getElem?_eq_none hge] at h; cases h
/-- block N holds one cell -/
def blk1 (w : World) (N : Nat) (ty : TypeId) (a : Value) : Prop := w.heap[N]? = some (.cells #[a] ty (0, 0))
theorem blk1.facts {w : World} {N : Nat} {ty : TypeId} {a : Value} (h : blk1 w N ty a) : w.cell? ⟨N, 0, none⟩ = some a ∧ ∀ j, w.frozen? ⟨N, j, none⟩ = false :=
  ⟨cell_of_row w N 0 _ _ _ h, fun j => by simp [World.frozen?, show w.heap[N]? = _ from h]⟩
theorem blk1.lt {w : World} {N : Nat} {ty : TypeId} {a : Value} (h : blk1 w N ty a) : N < w.heap.size := by
  rcases Nat.lt_or_ge N w.heap.size with hlt | hge
  · exact hlt
  · unfold blk1 at h; rw [Array.getElem?_eq_none hge] at h; cases h
/-- the variables of the results: a state, a word, told or not, a fault -/
structure Outs (w : World) (N : Nat) (s : St) (stk : Value) (v : Int) (t : Bool) (e : Int) : Prop where
  st : stAt w N s stk
  w1 : blk1 w (N + 1) 2 (.int .i64 v)
  w2 : blk1 w (N + 2) 4 (.bool t)
  w3 : blk1 w (N + 3) 48 (.int .i64 e)
theorem set18 {w : World} {N : Nat} {s : St} {stk : Value} (h : stAt w N s stk) (b0 b1 b2 b3 b4 b5 b6 b7 b8 b9 b10 b11 b12 b13 b14 b15 b16 b17 : Value) : ((((((((((((((((((w.setCell ⟨N, 0, none⟩ b0).setCell ⟨N, 1, none⟩ b1).setCell ⟨N, 2, none⟩ b2).setCell ⟨N, 3, none⟩ b3).setCell ⟨N, 4, none⟩ b4).setCell ⟨N, 5, none⟩ b5).setCell ⟨N, 6, none⟩ b6).setCell ⟨N, 7, none⟩ b7).setCell ⟨N, 8, none⟩ b8).setCell ⟨N, 9, none⟩ b9).setCell ⟨N, 10, none⟩ b10).setCell ⟨N, 11, none⟩ b11).setCell ⟨N, 12, none⟩ b12).setCell ⟨N, 13, none⟩ b13).setCell ⟨N, 14, none⟩ b14).setCell ⟨N, 15, none⟩ b15).setCell ⟨N, 16, none⟩ b16).setCell ⟨N, 17, none⟩ b17).heap[N]? = some (.cells #[b0, b1, b2, b3, b4, b5, b6, b7, b8, b9, b10, b11, b12, b13, b14, b15, b16, b17] 33 (0, 0)) := by
  unfold stAt stC at h
  simp [World.setCell, Array.getElem?_modify, h]
theorem off18 (w : World) (N : Nat) (b0 b1 b2 b3 b4 b5 b6 b7 b8 b9 b10 b11 b12 b13 b14 b15 b16 b17 : Value) : Off (· = N) w ((((((((((((((((((w.setCell ⟨N, 0, none⟩ b0).setCell ⟨N, 1, none⟩ b1).setCell ⟨N, 2, none⟩ b2).setCell ⟨N, 3, none⟩ b3).setCell ⟨N, 4, none⟩ b4).setCell ⟨N, 5, none⟩ b5).setCell ⟨N, 6, none⟩ b6).setCell ⟨N, 7, none⟩ b7).setCell ⟨N, 8, none⟩ b8).setCell ⟨N, 9, none⟩ b9).setCell ⟨N, 10, none⟩ b10).setCell ⟨N, 11, none⟩ b11).setCell ⟨N, 12, none⟩ b12).setCell ⟨N, 13, none⟩ b13).setCell ⟨N, 14, none⟩ b14).setCell ⟨N, 15, none⟩ b15).setCell ⟨N, 16, none⟩ b16).setCell ⟨N, 17, none⟩ b17) :=
  (((((((((((((((((off1 w N 0 b0).trans (off1 _ N 1 b1)).trans (off1 _ N 2 b2)).trans (off1 _ N 3 b3)).trans (off1 _ N 4 b4)).trans (off1 _ N 5 b5)).trans (off1 _ N 6 b6)).trans (off1 _ N 7 b7)).trans (off1 _ N 8 b8)).trans (off1 _ N 9 b9)).trans (off1 _ N 10 b10)).trans (off1 _ N 11 b11)).trans (off1 _ N 12 b12)).trans (off1 _ N 13 b13)).trans (off1 _ N 14 b14)).trans (off1 _ N 15 b15)).trans (off1 _ N 16 b16)).trans (off1 _ N 17 b17)
theorem Outs.off {w w' : World} {ex : Nat → Prop} {N : Nat} {s : St} {stk : Value} {v : Int} {t : Bool} {e : Int} (h : Outs w N s stk v t e) (ho : Off ex w w') (hn : ∀ k, N ≤ k → k < N + 4 → ¬ ex k) : Outs w' N s stk v t e :=
  ⟨ho.keeps h.st (hn _ (by omega) (by omega)), ho.keeps h.w1 (hn _ (by omega) (by omega)), ho.keeps h.w2 (hn _ (by omega) (by omega)), ho.keeps h.w3 (hn _ (by omega) (by omega))⟩
theorem blk1.set {w : World} {N : Nat} {ty : TypeId} {a : Value} (h : blk1 w N ty a) (b : Value) : blk1 (w.setCell ⟨N, 0, none⟩ b) N ty b := by
  unfold blk1 at h ⊢
  simp [World.setCell, Array.getElem?_modify, h]
/-- all the results laid anew -/
theorem outs_set {w : World} {N : Nat} {s s' : St} {stk stk' : Value} {v v' : Int} {t t' : Bool} {e e' : Int} (h : Outs w N s stk v t e) (W : World) (hW : (((((((((((((((((((((w.setCell ⟨N, 0, none⟩ ((stC s' stk').getD 0 .nilFunc)).setCell ⟨N, 1, none⟩ ((stC s' stk').getD 1 .nilFunc)).setCell ⟨N, 2, none⟩ ((stC s' stk').getD 2 .nilFunc)).setCell ⟨N, 3, none⟩ ((stC s' stk').getD 3 .nilFunc)).setCell ⟨N, 4, none⟩ ((stC s' stk').getD 4 .nilFunc)).setCell ⟨N, 5, none⟩ ((stC s' stk').getD 5 .nilFunc)).setCell ⟨N, 6, none⟩ ((stC s' stk').getD 6 .nilFunc)).setCell ⟨N, 7, none⟩ ((stC s' stk').getD 7 .nilFunc)).setCell ⟨N, 8, none⟩ ((stC s' stk').getD 8 .nilFunc)).setCell ⟨N, 9, none⟩ ((stC s' stk').getD 9 .nilFunc)).setCell ⟨N, 10, none⟩ ((stC s' stk').getD 10 .nilFunc)).setCell ⟨N, 11, none⟩ ((stC s' stk').getD 11 .nilFunc)).setCell ⟨N, 12, none⟩ ((stC s' stk').getD 12 .nilFunc)).setCell ⟨N, 13, none⟩ ((stC s' stk').getD 13 .nilFunc)).setCell ⟨N, 14, none⟩ ((stC s' stk').getD 14 .nilFunc)).setCell ⟨N, 15, none⟩ ((stC s' stk').getD 15 .nilFunc)).setCell ⟨N, 16, none⟩ ((stC s' stk').getD 16 .nilFunc)).setCell ⟨N, 17, none⟩ ((stC s' stk').getD 17 .nilFunc)).setCell ⟨N + 1, 0, none⟩ (.int .i64 v')).setCell ⟨N + 2, 0, none⟩ (.bool t')).setCell ⟨N + 3, 0, none⟩ (.int .i64 e')) = W) : Outs W N s' stk' v' t' e' ∧ Off (fun k => N ≤ k ∧ k < N + 4) w W := by
  have h1 := set18 h.st ((stC s' stk').getD 0 .nilFunc) ((stC s' stk').getD 1 .nilFunc) ((stC s' stk').getD 2 .nilFunc) ((stC s' stk').getD 3 .nilFunc) ((stC s' stk').getD 4 .nilFunc) ((stC s' stk').getD 5 .nilFunc) ((stC s' stk').getD 6 .nilFunc) ((stC s' stk').getD 7 .nilFunc) ((stC s' stk').getD 8 .nilFunc) ((stC s' stk').getD 9 .nilFunc) ((stC s' stk').getD 10 .nilFunc) ((stC s' stk').getD 11 .nilFunc) ((stC s' stk').getD 12 .nilFunc) ((stC s' stk').getD 13 .nilFunc) ((stC s' stk').getD 14 .nilFunc) ((stC s' stk').getD 15 .nilFunc) ((stC s' stk').getD 16 .nilFunc) ((stC s' stk').getD 17 .nilFunc)
  have o1 := off18 w N ((stC s' stk').getD 0 .nilFunc) ((stC s' stk').getD 1 .nilFunc) ((stC s' stk').getD 2 .nilFunc) ((stC s' stk').getD 3 .nilFunc) ((stC s' stk').getD 4 .nilFunc) ((stC s' stk').getD 5 .nilFunc) ((stC s' stk').getD 6 .nilFunc) ((stC s' stk').getD 7 .nilFunc) ((stC s' stk').getD 8 .nilFunc) ((stC s' stk').getD 9 .nilFunc) ((stC s' stk').getD 10 .nilFunc) ((stC s' stk').getD 11 .nilFunc) ((stC s' stk').getD 12 .nilFunc) ((stC s' stk').getD 13 .nilFunc) ((stC s' stk').getD 14 .nilFunc) ((stC s' stk').getD 15 .nilFunc) ((stC s' stk').getD 16 .nilFunc) ((stC s' stk').getD 17 .nilFunc)
  have w1 := o1.keeps h.w1 (by omega)
  have w2 := o1.keeps h.w2 (by omega)
  have w3 := o1.keeps h.w3 (by omega)
  generalize ((((((((((((((((((w.setCell ⟨N, 0, none⟩ ((stC s' stk').getD 0 .nilFunc)).setCell ⟨N, 1, none⟩ ((stC s' stk').getD 1 .nilFunc)).setCell ⟨N, 2, none⟩ ((stC s' stk').getD 2 .nilFunc)).setCell ⟨N, 3, none⟩ ((stC s' stk').getD 3 .nilFunc)).setCell ⟨N, 4, none⟩ ((stC s' stk').getD 4 .nilFunc)).setCell ⟨N, 5, none⟩ ((stC s' stk').getD 5 .nilFunc)).setCell ⟨N, 6, none⟩ ((stC s' stk').getD 6 .nilFunc)).setCell ⟨N, 7, none⟩ ((stC s' stk').getD 7 .nilFunc)).setCell ⟨N, 8, none⟩ ((stC s' stk').getD 8 .nilFunc)).setCell ⟨N, 9, none⟩ ((stC s' stk').getD 9 .nilFunc)).setCell ⟨N, 10, none⟩ ((stC s' stk').getD 10 .nilFunc)).setCell ⟨N, 11, none⟩ ((stC s' stk').getD 11 .nilFunc)).setCell ⟨N, 12, none⟩ ((stC s' stk').getD 12 .nilFunc)).setCell ⟨N, 13, none⟩ ((stC s' stk').getD 13 .nilFunc)).setCell ⟨N, 14, none⟩ ((stC s' stk').getD 14 .nilFunc)).setCell ⟨N, 15, none⟩ ((stC s' stk').getD 15 .nilFunc)).setCell ⟨N, 16, none⟩ ((stC s' stk').getD 16 .nilFunc)).setCell ⟨N, 17, none⟩ ((stC s' stk').getD 17 .nilFunc)) = W1 at h1 o1 w1 w2 w3 hW
  subst hW
  have p1 := off1 W1 (N + 1) 0 (.int .i64 v')
  have p2 := off1 (W1.setCell ⟨N + 1, 0, none⟩ (.int .i64 v')) (N + 2) 0 (.bool t')
  have p3 := off1 ((W1.setCell ⟨N + 1, 0, none⟩ (.int .i64 v')).setCell ⟨N + 2, 0, none⟩ (.bool t')) (N + 3) 0 (.int .i64 e')
  refine ⟨⟨?_, ?_, ?_, ?_⟩, ?_⟩
  · exact p3.keeps (p2.keeps (p1.keeps h1 (by omega)) (by omega)) (by omega)
  · exact p3.keeps (p2.keeps (blk1.set w1 _) (by omega)) (by omega)
  · exact p3.keeps (blk1.set (p1.keeps w2 (by omega)) _) (by omega)
  · exact blk1.set (p2.keeps (p1.keeps w3 (by omega)) (by omega)) _
  · exact ((o1.mono (fun k _ hk => by omega)).trans (p1.mono (fun k _ hk => by omega))).trans ((p2.mono (fun k _ hk => by omega)).trans (p3.mono (fun k _ hk => by omega)))
theorem A.ta0 (w : World) : (Instr.typeAssert .nilIface 20 48 true).run Try.prog w = .ok (.tuple #[.int .i64 0, .bool false]) w := by kernel_rfl
theorem A.ta1 (e : Int) (w : World) : (Instr.typeAssert (.iface 48 (.int .i64 e)) 20 48 true).run Try.prog w = .ok (.tuple #[.int .i64 e, .bool true]) w := by kernel_rfl
theorem catch_idle (p q r t : Addr) (w : World) :
    CallsD Try.prog 40 #[.pointer (some p), .pointer (some q), .pointer (some r), .pointer (some t)] .returning w fun e u' w' => e = .returned (.tuple #[]) ∧ u' = .returning ∧ w' = w := by
  have h0 := A.ta0
  refine callsD_of_wpS Try.func40 rfl fun c₀ cs hu => ?_
  apply wpS_seq
  apply wpS_region
  simp [wpOpsS, go_sem, recoverD, hu, Try.ntmps40, Exit.thenS, h0]
  apply wpS_seq
  apply wpS_region
  simp [wpOpsS, go_sem, Exit.thenS]
  refine wpS_cond (t := false) (by simp [Act.eval, Array.replicate]) ?_
  simp only [Bool.false_eq_true, if_false]
  refine wpS_of_wp (wp_skip ?_)
  cases c₀
  simp_all [bodyPostS, results, Try.results40]
theorem catch_panicking (N : Nat) (s : St) (stk : Value) (v : Int) (tl : Bool) (e0 er : Int) (older : List PanicEntry) (w : World) (ho : Outs w N s stk v tl e0) :
    CallsD Try.prog 40 #[.pointer (some ⟨N, 0, none⟩), .pointer (some ⟨N + 1, 0, none⟩), .pointer (some ⟨N + 2, 0, none⟩), .pointer (some ⟨N + 3, 0, none⟩)] (.panicking ({ v := .iface 48 (.int .i64 er), recovered := false } :: older)) w fun e u' w' =>
      e = .returned (.tuple #[]) ∧ u' = .panicking ({ v := .iface 48 (.int .i64 er), recovered := true } :: older) ∧ Outs w' N St.zero (.slice none 0 0) 0 false er ∧ Off (fun k => N ≤ k ∧ k < N + 4) w w' := by
  have h1 := A.ta1 er
  have c0 : w.cell? ⟨N, 0, none⟩ = some (.int .i64 s.seg) := ho.st.cell 0
  have c1 : w.cell? ⟨N, 1, none⟩ = some (.int .i64 s.off) := ho.st.cell 1
  have c2 : w.cell? ⟨N, 2, none⟩ = some (.int .i64 s.ring) := ho.st.cell 2
  have c3 : w.cell? ⟨N, 3, none⟩ = some (.int .i64 s.a) := ho.st.cell 3
  have c4 : w.cell? ⟨N, 4, none⟩ = some (.int .i64 s.p0.seg) := ho.st.cell 4
  have c5 : w.cell? ⟨N, 5, none⟩ = some (.int .i64 s.p0.off) := ho.st.cell 5
  have c6 : w.cell? ⟨N, 6, none⟩ = some (.int .i64 s.p0.ring) := ho.st.cell 6
  have c7 : w.cell? ⟨N, 7, none⟩ = some (.int .i64 s.p1.seg) := ho.st.cell 7
  have c8 : w.cell? ⟨N, 8, none⟩ = some (.int .i64 s.p1.off) := ho.st.cell 8
  have c9 : w.cell? ⟨N, 9, none⟩ = some (.int .i64 s.p1.ring) := ho.st.cell 9
  have c10 : w.cell? ⟨N, 10, none⟩ = some (.int .i64 s.p2.seg) := ho.st.cell 10
  have c11 : w.cell? ⟨N, 11, none⟩ = some (.int .i64 s.p2.off) := ho.st.cell 11
  have c12 : w.cell? ⟨N, 12, none⟩ = some (.int .i64 s.p2.ring) := ho.st.cell 12
  have c13 : w.cell? ⟨N, 13, none⟩ = some (.int .i64 s.p3.seg) := ho.st.cell 13
  have c14 : w.cell? ⟨N, 14, none⟩ = some (.int .i64 s.p3.off) := ho.st.cell 14
  have c15 : w.cell? ⟨N, 15, none⟩ = some (.int .i64 s.p3.ring) := ho.st.cell 15
  have c16 : w.cell? ⟨N, 16, none⟩ = some stk := ho.st.cell 16
  have c17 : w.cell? ⟨N, 17, none⟩ = some (.bool s.hal) := ho.st.cell 17
  obtain ⟨d1, f1⟩ := ho.w1.facts
  obtain ⟨d2, f2⟩ := ho.w2.facts
  obtain ⟨d3, f3⟩ := ho.w3.facts
  have f0 := ho.st.free
  have HO := Lib.hid ho
  clear ho
  refine callsD_of_wpS Try.func40 rfl fun c₀ cs hu => ?_
  apply wpS_seq
  apply wpS_region
  simp [wpOpsS, go_sem, recoverD, hu, Try.ntmps40, Exit.thenS, h1]
  apply wpS_seq
  apply wpS_region
  simp [wpOpsS, go_sem, Exit.thenS]
  refine wpS_cond (t := true) (by simp [Act.eval, Array.replicate]) ?_
  simp only [if_true]
  apply wpS_region
  simp [wpOpsS, go_sem, f0, f1, f2, f3, d1, d2, d3, c0, c1, c2, c3, c4, c5, c6, c7, c8, c9, c10, c11, c12, c13, c14, c15, c16, c17]
  have hk := outs_set (s' := St.zero) (stk' := .slice none 0 0) (v' := 0) (t' := false) (e' := er) HO.out (((((((((((((((((((((w.setCell ⟨N, 0, none⟩ (.int .i64 0)).setCell ⟨N, 1, none⟩ (.int .i64 0)).setCell ⟨N, 2, none⟩ (.int .i64 0)).setCell ⟨N, 3, none⟩ (.int .i64 0)).setCell ⟨N, 4, none⟩ (.int .i64 0)).setCell ⟨N, 5, none⟩ (.int .i64 0)).setCell ⟨N, 6, none⟩ (.int .i64 0)).setCell ⟨N, 7, none⟩ (.int .i64 0)).setCell ⟨N, 8, none⟩ (.int .i64 0)).setCell ⟨N, 9, none⟩ (.int .i64 0)).setCell ⟨N, 10, none⟩ (.int .i64 0)).setCell ⟨N, 11, none⟩ (.int .i64 0)).setCell ⟨N, 12, none⟩ (.int .i64 0)).setCell ⟨N, 13, none⟩ (.int .i64 0)).setCell ⟨N, 14, none⟩ (.int .i64 0)).setCell ⟨N, 15, none⟩ (.int .i64 0)).setCell ⟨N, 16, none⟩ (.slice none 0 0)).setCell ⟨N, 17, none⟩ (.bool false)).setCell ⟨N + 1, 0, none⟩ (.int .i64 0)).setCell ⟨N + 2, 0, none⟩ (.bool false)).setCell ⟨N + 3, 0, none⟩ (.int .i64 er)) rfl
  generalize (((((((((((((((((((((w.setCell ⟨N, 0, none⟩ (.int .i64 0)).setCell ⟨N, 1, none⟩ (.int .i64 0)).setCell ⟨N, 2, none⟩ (.int .i64 0)).setCell ⟨N, 3, none⟩ (.int .i64 0)).setCell ⟨N, 4, none⟩ (.int .i64 0)).setCell ⟨N, 5, none⟩ (.int .i64 0)).setCell ⟨N, 6, none⟩ (.int .i64 0)).setCell ⟨N, 7, none⟩ (.int .i64 0)).setCell ⟨N, 8, none⟩ (.int .i64 0)).setCell ⟨N, 9, none⟩ (.int .i64 0)).setCell ⟨N, 10, none⟩ (.int .i64 0)).setCell ⟨N, 11, none⟩ (.int .i64 0)).setCell ⟨N, 12, none⟩ (.int .i64 0)).setCell ⟨N, 13, none⟩ (.int .i64 0)).setCell ⟨N, 14, none⟩ (.int .i64 0)).setCell ⟨N, 15, none⟩ (.int .i64 0)).setCell ⟨N, 16, none⟩ (.slice none 0 0)).setCell ⟨N, 17, none⟩ (.bool false)).setCell ⟨N + 1, 0, none⟩ (.int .i64 0)).setCell ⟨N + 2, 0, none⟩ (.bool false)).setCell ⟨N + 3, 0, none⟩ (.int .i64 er)) = W' at hk ⊢
  obtain ⟨k1, k2⟩ := hk
  clear c0 c1 c2 c3 c4 c5 c6 c7 c8 c9 c10 c11 c12 c13 c14 c15 c16 c17 d1 d2 d3 f0 f1 f2 f3 h1 HO
  cases c₀
  simp_all [bodyPostS, results, Try.results40]
end Go.Proofs.Ytiakonmamkfopaa
