/- CpuHalts: the law's walk. CpuFaults: the law's walk. -/
import Derived.Test.YtiakonmamkfopaaZCpuMb
import Derived.Test.YtiakonmamkfopaaZCpuMa
import Derived.Deep.RegionHeld3
import Derived.Deep.MidRow
namespace Go.Proofs.Ytiakonmamkfopaa
open Go.RowKit Go.ChangeShapes
set_option linter.unusedVariables false
set_option maxRecDepth 100000
theorem bg_range {W : World} {N : Nat} {x : St} {u : Value} (h : begAt W N x u) : W.rangeAt N 0 (begC x u).toList := fun j v hj => by
  rw [Nat.zero_add, h.cell j]
  simpa using hj
theorem A.begU : Try.prog.underlying 28 = some (((Try.prog.underlying 28).getD (.struct #[]))) := by kernel_rfl
theorem A.begR : TypeDesc.isRow ((Try.prog.underlying 28).getD (.struct #[])) = true := by kernel_rfl
theorem A.begI : (Try.prog.info? 28).map (·.size) = some 17 := by kernel_rfl
theorem wpList_load_bg {ops : Array Oper} {rest : List Oper} {op : Oper} {a : Act} {W : World} {Q : Exit → Act → World → Prop} (hgd : op.guard = none) (y : Operand) (ho : op.op = .load 28 y) {N : Nat} {x : St} {u : Value} (hx : a.eval y = .pointer (some ⟨N, 0, none⟩))
    (h : W.rangeAt N 0 (begC x u).toList) (hk : wpList Try.prog ops Q rest (a.put op.dst (.agg #[.int .i64 x.seg, .int .i64 x.off, .int .i64 x.ring, .int .i64 x.a, .int .i64 x.p0.seg, .int .i64 x.p0.off, .int .i64 x.p0.ring, .int .i64 x.p1.seg, .int .i64 x.p1.off, .int .i64 x.p1.ring, .int .i64 x.p2.seg, .int .i64 x.p2.off, .int .i64 x.p2.ring, .int .i64 x.p3.seg, .int .i64 x.p3.off, .int .i64 x.p3.ring, u])) W) : wpList Try.prog ops Q (op :: rest) a W :=
  wpList_load_mid hgd 28 y ho N 0 hx (begC x u).toList _ h A.begU A.begR A.begI hk
theorem WdAt.below {w w' : World} {v : Value} (h : WdAt w v) (hb : Below w.heap.size w w') : WdAt w' v := by
  obtain ⟨ad, n, cap, hv, h1, h2, hc⟩ := h
  refine ⟨ad, n, cap, hv, h1, h2, fun k hk => ?_⟩
  obtain ⟨b, o, he, hlt, a0, a1, a2, a3, a4, a5, a6, a7, e0, e1, e2, e3, e4, e5, e6, e7, hw⟩ := hc k hk
  exact ⟨b, o, he, Nat.lt_of_lt_of_le hlt hb.size, a0, a1, a2, a3, a4, a5, a6, a7, (hb.cell hlt).trans e0, (hb.cell hlt).trans e1, (hb.cell hlt).trans e2, (hb.cell hlt).trans e3, (hb.cell hlt).trans e4, (hb.cell hlt).trans e5, (hb.cell hlt).trans e6, (hb.cell hlt).trans e7, hw⟩
theorem PcAt.below {w w' : World} {v : Value} (h : PcAt w v) (hb : Below w.heap.size w w') : PcAt w' v := by
  obtain ⟨ad, n, cap, hv, h1, h2, hc⟩ := h
  refine ⟨ad, n, cap, hv, h1, h2, fun k hk => ?_⟩
  obtain ⟨b, o, he, hlt, no, md, r1, r2, r3, g, u, hu, e0, e1, e2, e3, e4, e5, e6⟩ := hc k hk
  exact ⟨b, o, he, Nat.lt_of_lt_of_le hlt hb.size, no, md, r1, r2, r3, g, u, hu.below hb, (hb.cell hlt).trans e0, (hb.cell hlt).trans e1, (hb.cell hlt).trans e2, (hb.cell hlt).trans e3, (hb.cell hlt).trans e4, (hb.cell hlt).trans e5, (hb.cell hlt).trans e6⟩
theorem FrIn.below {w w' : World} {v : Value} (h : FrIn w v) (hb : Below w.heap.size w w') : FrIn w' v := by
  obtain ⟨ad, n, cap, hv, h1, h2, hc⟩ := h
  refine ⟨ad, n, cap, hv, h1, h2, fun k hk => ?_⟩
  obtain ⟨b, o, he, hlt, a0, a1, a2, e0, e1, e2⟩ := hc k hk
  exact ⟨b, o, he, Nat.lt_of_lt_of_le hlt hb.size, a0, a1, a2, (hb.cell hlt).trans e0, (hb.cell hlt).trans e1, (hb.cell hlt).trans e2⟩
theorem Segs.base {w : World} {B : Nat} {v : Value} {vs : List Value} {M : List Sg} (h : Segs w B v vs M) : Segs w 0 v vs M :=
  ⟨h.len, row_base h.row (Nat.zero_le _), fun i s u h1 h2 => row_base (h.words i s u h1 h2) (Nat.zero_le _)⟩
theorem Segs.mem {w : World} {Y : Nat} {v : Value} {vs : List Value} {M : List Sg} (h : Segs w 0 v vs M) (hm : memAt w 0 Y v false 0 0 0 0) (h5 : M.length ≤ 5) (hg : ∀ g ∈ M, GoodSg g) : MemOk w 0 Y M :=
  ⟨⟨v, vs, false, 0, 0, 0, 0, hm, h⟩, by omega, fun s hs => by have := (hg s hs).ws; omega, Nat.zero_le _⟩
theorem st_notq {w : World} {N : Nat} {s : St} {stk : Value} (h : stAt w N s stk) (ty : TypeId) (ht : ty ≠ 33) : ∀ k, k = N → ∀ cs, w.heap[k]? ≠ some (.cells cs ty (0, 0)) := by
  rintro k rfl cs hc
  have h2 := (show w.heap[k]? = _ from h).symm.trans hc
  simp only [Option.some.injEq, Obj.cells.injEq] at h2
  exact ht h2.2.1.symm
end Go.Proofs.Ytiakonmamkfopaa
namespace Go.Proofs.Ytiakonmamkfopaa
open Go.RowKit Go.ChangeShapes
set_option linter.unusedVariables false
set_option maxRecDepth 100000
theorem rdR_err {M : List Sg} {s : St} {p n e : Int} (h : rdR M s p n = .error e) : 31 ≤ e ∧ e ≤ 37 := by
  unfold rdR at h
  split at h
  · cases h; decide
  · split at h
    · cases h; decide
    · split at h
      · cases h
      · cases h; decide
theorem wrR_err {M : List Sg} {s : St} {p n e : Int} (h : wrR M s p n = .error e) : 31 ≤ e ∧ e ≤ 37 := by
  unfold wrR at h
  split at h
  · cases h; decide
  · split at h
    · cases h; decide
    · split at h
      · cases h
      · cases h; decide
theorem caR_err {M : List Sg} {s : St} {l : List Fr} {p n e : Int} (h : caR M s l p n = .error e) : 31 ≤ e ∧ e ≤ 37 := by
  unfold caR at h
  split at h
  · cases h; decide
  · split at h
    · cases h; decide
    · split at h
      · cases h; decide
      · split at h
        · cases h; decide
        · split at h
          · cases h; decide
          · cases h
theorem caR_len {M : List Sg} {s s' : St} {l l' : List Fr} {p n : Int} (h : caR M s l p n = .ok (s', l')) : l'.length ≤ 8 := by
  unfold caR at h
  split at h
  · cases h
  · split at h
    · cases h
    · split at h
      · cases h
      · split at h
        · cases h
        · split at h
          · cases h
          · rename_i hlen
            cases h
            simp
            omega
theorem reR_err {s : St} {l : List Fr} {e : Int} (h : reR s l = .error e) : 31 ≤ e ∧ e ≤ 37 := by
  unfold reR at h
  split at h
  · cases h; decide
  · split at h
    · cases h; decide
    · cases h
theorem reR_len {s s' : St} {l l' : List Fr} (h : reR s l = .ok (s', l')) (hl : l.length ≤ 8) : l'.length ≤ 8 := by
  unfold reR at h
  split at h
  · cases h
  · split at h
    · cases h
    · cases h
      simp
      omega
theorem feR_err {M : List Sg} {s : St} {e : Int} (h : feR M s = .error e) : 31 ≤ e ∧ e ≤ 37 := by
  unfold feR at h
  split at h
  · cases h; decide
  · split at h
    · cases h; decide
    · split at h
      · cases h; decide
      · simp only at h
        split at h
        · cases h
        · cases h; decide
theorem doR_err {M : List Sg} {s : St} {l : List Fr} {op p n e : Int} (h : doR M s l op p n = .error e) : 31 ≤ e ∧ e ≤ 37 := by
  unfold doR at h
  by_cases c0 : op = 0
  · rw [if_pos c0] at h
    cases h
  rw [if_neg c0] at h
  by_cases c1 : op = 1
  · rw [if_pos c1] at h
    cases hq : rdR M s p n with
    | error e' =>
      rw [hq] at h
      cases h
      exact rdR_err hq
    | ok y =>
      obtain ⟨y1, y2⟩ := y
      rw [hq] at h
      cases h
  rw [if_neg c1] at h
  by_cases c2 : 4 ≤ op ∧ op ≤ 11
  · rw [if_pos c2] at h
    cases hq : rdR M s p n with
    | error e' =>
      rw [hq] at h
      cases h
      exact rdR_err hq
    | ok y =>
      obtain ⟨y1, y2⟩ := y
      rw [hq] at h
      cases h
  rw [if_neg c2] at h
  by_cases c3 : op = 2
  · rw [if_pos c3] at h
    cases hq : wrR M s p n with
    | error e' =>
      rw [hq] at h
      cases h
      exact wrR_err hq
    | ok y =>
      obtain ⟨y1, y2⟩ := y
      rw [hq] at h
      cases h
  rw [if_neg c3] at h
  by_cases c4 : op = 3
  · rw [if_pos c4] at h
    cases h
  rw [if_neg c4] at h
  by_cases c5 : op = 12
  · rw [if_pos c5] at h
    cases h
  rw [if_neg c5] at h
  by_cases c6 : op = 13
  · rw [if_pos c6] at h
    by_cases cf : toIntE s.a = 0
    · rw [if_pos cf] at h
      cases h
    · rw [if_neg cf] at h
      cases h
      decide
  rw [if_neg c6] at h
  by_cases c7 : jmpR op s.a
  · rw [if_pos c7] at h
    cases h
  rw [if_neg c7] at h
  by_cases c8 : op = 17
  · rw [if_pos c8] at h
    cases h
  rw [if_neg c8] at h
  by_cases c9 : op = 18
  · rw [if_pos c9] at h
    cases hq : rdR M s p n with
    | error e' =>
      rw [hq] at h
      cases h
      exact rdR_err hq
    | ok y =>
      obtain ⟨y1, y2⟩ := y
      rw [hq] at h
      cases h
  rw [if_neg c9] at h
  by_cases c10 : op = 19
  · rw [if_pos c10] at h
    cases h
  rw [if_neg c10] at h
  by_cases c11 : op = 20
  · rw [if_pos c11] at h
    cases hq : caR M s l p n with
    | error e' =>
      rw [hq] at h
      cases h
      exact caR_err hq
    | ok y =>
      obtain ⟨y1, y2⟩ := y
      rw [hq] at h
      cases h
  rw [if_neg c11] at h
  by_cases c12 : op = 21
  · rw [if_pos c12] at h
    cases hq : reR s l with
    | error e' =>
      rw [hq] at h
      cases h
      exact reR_err hq
    | ok y =>
      obtain ⟨y1, y2⟩ := y
      rw [hq] at h
      cases h
  rw [if_neg c12] at h
  by_cases c13 : op = 22
  · rw [if_pos c13] at h
    cases h
  rw [if_neg c13] at h
  cases h
theorem doR_len {M : List Sg} {s : St} {l : List Fr} {op p n : Int} {r : Res} (h : doR M s l op p n = .ok r) (hl : l.length ≤ 8) : r.l.length ≤ 8 := by
  unfold doR at h
  by_cases c0 : op = 0
  · rw [if_pos c0] at h
    cases h
    exact hl
  rw [if_neg c0] at h
  by_cases c1 : op = 1
  · rw [if_pos c1] at h
    cases hq : rdR M s p n with
    | error e' =>
      rw [hq] at h
      cases h
    | ok y =>
      obtain ⟨y1, y2⟩ := y
      rw [hq] at h
      cases h
      exact hl
  rw [if_neg c1] at h
  by_cases c2 : 4 ≤ op ∧ op ≤ 11
  · rw [if_pos c2] at h
    cases hq : rdR M s p n with
    | error e' =>
      rw [hq] at h
      cases h
    | ok y =>
      obtain ⟨y1, y2⟩ := y
      rw [hq] at h
      cases h
      exact hl
  rw [if_neg c2] at h
  by_cases c3 : op = 2
  · rw [if_pos c3] at h
    cases hq : wrR M s p n with
    | error e' =>
      rw [hq] at h
      cases h
    | ok y =>
      obtain ⟨y1, y2⟩ := y
      rw [hq] at h
      cases h
      exact hl
  rw [if_neg c3] at h
  by_cases c4 : op = 3
  · rw [if_pos c4] at h
    cases h
    exact hl
  rw [if_neg c4] at h
  by_cases c5 : op = 12
  · rw [if_pos c5] at h
    cases h
    exact hl
  rw [if_neg c5] at h
  by_cases c6 : op = 13
  · rw [if_pos c6] at h
    by_cases cf : toIntE s.a = 0
    · rw [if_pos cf] at h
      cases h
      exact hl
    · rw [if_neg cf] at h
      cases h
  rw [if_neg c6] at h
  by_cases c7 : jmpR op s.a
  · rw [if_pos c7] at h
    cases h
    exact hl
  rw [if_neg c7] at h
  by_cases c8 : op = 17
  · rw [if_pos c8] at h
    cases h
    exact hl
  rw [if_neg c8] at h
  by_cases c9 : op = 18
  · rw [if_pos c9] at h
    cases hq : rdR M s p n with
    | error e' =>
      rw [hq] at h
      cases h
    | ok y =>
      obtain ⟨y1, y2⟩ := y
      rw [hq] at h
      cases h
      exact hl
  rw [if_neg c9] at h
  by_cases c10 : op = 19
  · rw [if_pos c10] at h
    cases h
    exact hl
  rw [if_neg c10] at h
  by_cases c11 : op = 20
  · rw [if_pos c11] at h
    cases hq : caR M s l p n with
    | error e' =>
      rw [hq] at h
      cases h
    | ok y =>
      obtain ⟨y1, y2⟩ := y
      rw [hq] at h
      cases h
      exact caR_len hq
  rw [if_neg c11] at h
  by_cases c12 : op = 21
  · rw [if_pos c12] at h
    cases hq : reR s l with
    | error e' =>
      rw [hq] at h
      cases h
    | ok y =>
      obtain ⟨y1, y2⟩ := y
      rw [hq] at h
      cases h
      exact reR_len hq hl
  rw [if_neg c12] at h
  by_cases c13 : op = 22
  · rw [if_pos c13] at h
    cases h
    exact hl
  rw [if_neg c13] at h
  cases h
  exact hl
theorem stR_err {M : List Sg} {s : St} {l : List Fr} {e : Int} (h : stR M s l = .error e) : 31 ≤ e ∧ e ≤ 37 := by
  unfold stR at h
  split at h
  · cases h
  · split at h
    · cases h; exact feR_err (by assumption)
    · exact doR_err h
theorem stR_len {M : List Sg} {s : St} {l : List Fr} {r : Res} (h : stR M s l = .ok r) (hl : l.length ≤ 8) : r.l.length ≤ 8 := by
  unfold stR at h
  split at h
  · cases h; exact hl
  · split at h
    · cases h
    · exact doR_len h hl
/-- what a round finds -/
structure FRr (w wr : World) (N : Nat) (s : St) (stk : Value) (l : List Fr) (mv : Value) (vs : List Value) (M : List Sg) : Prop where
  st : stAt wr N s stk
  rw : stkAt wr stk l
  l8 : l.length ≤ 8
  sg : Segs wr 0 mv vs M
  bl : Below w.heap.size w wr
  lo : w.heap.size ≤ N
theorem mem_not {w : World} {Y : Nat} {v : Value} {is : Bool} {sg of_ x n : Int} (h : memAt w 0 Y v is sg of_ x n) (ty : TypeId) (ht : ty ≠ 47) : ∀ k, k = Y → ∀ cs, w.heap[k]? ≠ some (.cells cs ty (0, 0)) := by
  rintro k rfl cs hc
  have h2 := (show w.heap[k]? = _ from h).symm.trans hc
  simp only [Option.some.injEq, Obj.cells.injEq] at h2
  exact ht h2.2.1.symm
theorem FRr.next {w w7 w8 w9 : World} {N : Nat} {s s' : St} {stk stk' : Value} {l' : List Fr} {mv : Value} {vs : List Value} {M : List Sg} (S9 : stAt w9 N s' stk') (F9 : Off (· = N) w8 w9) (A8 : stAt w8 N s stk) (T7 : stkAt w7 stk' l') (G7 : Segs w7 0 mv vs M) (B8 : Below w7.heap.size w7 w8) (h8 : l'.length ≤ 8) (L7 : Below w.heap.size w w7) (hlo : w.heap.size ≤ N) : FRr w w9 N s' stk' l' mv vs M :=
  ⟨S9, stkAt.off (stkAt.off (ex := fun _ => False) T7 (.of_below B8) (fun _ h => h.elim)) F9 (st_notq A8 _ (by decide)), h8, (G7.off (ex := fun _ => False) (.of_below B8) (fun _ h => h.elim) (fun _ h => h.elim)).off F9 (st_notq A8 _ (by decide)) (st_notq A8 _ (by decide)), Off.below (below2 L7 B8) F9 (below2 L7 B8).size (fun k hk => by omega), hlo⟩
end Go.Proofs.Ytiakonmamkfopaa
