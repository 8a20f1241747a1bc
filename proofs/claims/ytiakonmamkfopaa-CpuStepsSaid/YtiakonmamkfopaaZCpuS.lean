/- The processor's step. -/
import Derived.Test.YtiakonmamkfopaaZCpuR
import Derived.Deep.MidRow
namespace Go.Proofs.Ytiakonmamkfopaa
open Go.RowKit Go.ChangeShapes
set_option linter.unusedVariables false
set_option maxRecDepth 100000
theorem step_start (w : World) (s : St) (stk : Value) : ∃ W, (((((w.alloc (.cells (stC s stk) 33)).alloc (.cells (stC St.zero (.slice none 0 0)) 33)).alloc (.cells #[.int .i64 0] 2)).alloc (.cells #[.bool false] 4)).alloc (.cells #[.int .i64 0] 48)) = W ∧ stAt W w.heap.size s stk ∧ Outs W (w.heap.size + 1) St.zero (.slice none 0 0) 0 false 0 ∧ Below w.heap.size w W ∧ W.heap.size = w.heap.size + 5 := by
  refine ⟨_, rfl, ?_, ⟨?_, ?_, ?_, ?_⟩, ?_, ?_⟩
  · have h0 := heap_alloc_new w (.cells (stC s stk) 33)
    exact Off.keeps (ex := fun _ => False) ((((Off.refl _ _).alloc _).alloc _).alloc _ |>.alloc _) h0 id
  · have h0 := heap_alloc_new (w.alloc (.cells (stC s stk) 33)) (.cells (stC St.zero (.slice none 0 0)) 33)
    rw [World.size_alloc] at h0
    exact Off.keeps (ex := fun _ => False) (((Off.refl _ _).alloc _).alloc _ |>.alloc _) h0 id
  · have h0 := heap_alloc_new ((w.alloc (.cells (stC s stk) 33)).alloc (.cells (stC St.zero (.slice none 0 0)) 33)) (.cells #[.int .i64 0] 2)
    rw [World.size_alloc, World.size_alloc] at h0
    exact Off.keeps (ex := fun _ => False) ((Off.refl _ _).alloc _ |>.alloc _) h0 id
  · have h0 := heap_alloc_new (((w.alloc (.cells (stC s stk) 33)).alloc (.cells (stC St.zero (.slice none 0 0)) 33)).alloc (.cells #[.int .i64 0] 2)) (.cells #[.bool false] 4)
    rw [World.size_alloc, World.size_alloc, World.size_alloc] at h0
    exact Off.keeps (ex := fun _ => False) ((Off.refl _ _).alloc _) h0 id
  · have h0 := heap_alloc_new ((((w.alloc (.cells (stC s stk) 33)).alloc (.cells (stC St.zero (.slice none 0 0)) 33)).alloc (.cells #[.int .i64 0] 2)).alloc (.cells #[.bool false] 4)) (.cells #[.int .i64 0] 48)
    rw [World.size_alloc, World.size_alloc, World.size_alloc, World.size_alloc] at h0
    exact h0
  · exact below_al (below_al (below_al (below_al (below_al0 _ _) _) _) _) _
  · simp
theorem A.stateU : Try.prog.underlying 33 = some (((Try.prog.underlying 33).getD (.struct #[]))) := by kernel_rfl
theorem A.stateR : TypeDesc.isRow ((Try.prog.underlying 33).getD (.struct #[])) = true := by kernel_rfl
theorem A.stateI : (Try.prog.info? 33).map (·.size) = some 18 := by kernel_rfl
theorem st_range {W : World} {N : Nat} {s : St} {stk : Value} (h : stAt W N s stk) : W.rangeAt N 0 (stC s stk).toList := fun j v hj => by
  rw [Nat.zero_add, h.cell j]
  simpa using hj
theorem run_range {W : World} {R : Nat} {s : St} {stk mv : Value} {told : Bool} {out : Int} (h : runAt W R s stk mv told out) : W.rangeAt R 0 (stC s stk).toList := fun j v hj => by
  have hl : j < 18 := by
    have := (List.getElem?_eq_some_iff.1 hj).1
    simpa [stC] using this
  rw [Nat.zero_add, h.cell j, ← hj]
  rcases (show j = 0 ∨ j = 1 ∨ j = 2 ∨ j = 3 ∨ j = 4 ∨ j = 5 ∨ j = 6 ∨ j = 7 ∨ j = 8 ∨ j = 9 ∨ j = 10 ∨ j = 11 ∨ j = 12 ∨ j = 13 ∨ j = 14 ∨ j = 15 ∨ j = 16 ∨ j = 17 by omega) with rfl | rfl | rfl | rfl | rfl | rfl | rfl | rfl | rfl | rfl | rfl | rfl | rfl | rfl | rfl | rfl | rfl | rfl
  all_goals rfl
theorem range_loadVar {W : World} {N : Nat} {s : St} {stk : Value} (h : W.rangeAt N 0 (stC s stk).toList) : (loadVar 33 ⟨N, 0, none⟩).run Try.prog W = .ok (stV s stk) W :=
  run_loadVar_mid W N 0 33 (stC s stk).toList _ h A.stateU A.stateR A.stateI
theorem wpList_load_st {ops : Array Oper} {rest : List Oper} {op : Oper} {a : Act} {W : World} {Q : Exit → Act → World → Prop} (hgd : op.guard = none) (x : Operand) (ho : op.op = .load 33 x) {N : Nat} {s : St} {stk : Value} (hx : a.eval x = .pointer (some ⟨N, 0, none⟩))
    (h : W.rangeAt N 0 (stC s stk).toList) (hk : wpList Try.prog ops Q rest (a.put op.dst (.agg #[.int .i64 s.seg, .int .i64 s.off, .int .i64 s.ring, .int .i64 s.a, .int .i64 s.p0.seg, .int .i64 s.p0.off, .int .i64 s.p0.ring, .int .i64 s.p1.seg, .int .i64 s.p1.off, .int .i64 s.p1.ring, .int .i64 s.p2.seg, .int .i64 s.p2.off, .int .i64 s.p2.ring, .int .i64 s.p3.seg, .int .i64 s.p3.off, .int .i64 s.p3.ring, stk, .bool s.hal])) W) : wpList Try.prog ops Q (op :: rest) a W :=
  wpList_load_mid hgd 33 x ho N 0 hx (stC s stk).toList _ h A.stateU A.stateR A.stateI hk
theorem wpList_store_st {ops : Array Oper} {rest : List Oper} {op : Oper} {a : Act} {W : World} {Q : Exit → Act → World → Prop} (hgd : op.guard = none) (x y : Operand) (ho : op.op = .store 33 x y) {N : Nat} {s s' : St} {stk stk' : Value} (hx : a.eval x = .pointer (some ⟨N, 0, none⟩)) (hy : a.eval y = .agg #[.int .i64 s'.seg, .int .i64 s'.off, .int .i64 s'.ring, .int .i64 s'.a, .int .i64 s'.p0.seg, .int .i64 s'.p0.off, .int .i64 s'.p0.ring, .int .i64 s'.p1.seg, .int .i64 s'.p1.off, .int .i64 s'.p1.ring, .int .i64 s'.p2.seg, .int .i64 s'.p2.off, .int .i64 s'.p2.ring, .int .i64 s'.p3.seg, .int .i64 s'.p3.off, .int .i64 s'.p3.ring, stk', .bool s'.hal])
    (h : stAt W N s stk) (h1 : stk'.oneCell' = true) (hk : ∀ W', stAt W' N s' stk' → Off (· = N) W W' → wpList Try.prog ops Q rest (a.put op.dst undef) W') : wpList Try.prog ops Q (op :: rest) a W := by
  refine wpList_store_mid hgd 33 x y ho N 0 (stC s' stk') hx hy (fun j hj => ⟨by rw [Nat.zero_add, h.cell j]; have : j < (stC s stk).size := hj; simp [this], h.free _⟩) A.stateI (by simp only [stC, List.all_toArray, List.all_cons, h1]; rfl) (hk _ ?_ ?_)
  · exact set18 h (.int .i64 s'.seg) (.int .i64 s'.off) (.int .i64 s'.ring) (.int .i64 s'.a) (.int .i64 s'.p0.seg) (.int .i64 s'.p0.off) (.int .i64 s'.p0.ring) (.int .i64 s'.p1.seg) (.int .i64 s'.p1.off) (.int .i64 s'.p1.ring) (.int .i64 s'.p2.seg) (.int .i64 s'.p2.off) (.int .i64 s'.p2.ring) (.int .i64 s'.p3.seg) (.int .i64 s'.p3.off) (.int .i64 s'.p3.ring) stk' (.bool s'.hal)
  · exact off18 W N (.int .i64 s'.seg) (.int .i64 s'.off) (.int .i64 s'.ring) (.int .i64 s'.a) (.int .i64 s'.p0.seg) (.int .i64 s'.p0.off) (.int .i64 s'.p0.ring) (.int .i64 s'.p1.seg) (.int .i64 s'.p1.off) (.int .i64 s'.p1.ring) (.int .i64 s'.p2.seg) (.int .i64 s'.p2.off) (.int .i64 s'.p2.ring) (.int .i64 s'.p3.seg) (.int .i64 s'.p3.off) (.int .i64 s'.p3.ring) stk' (.bool s'.hal)
theorem outs_results {W : World} {N : Nat} {s : St} {stk : Value} {v : Int} {t : Bool} {e : Int} (h : Outs W N s stk v t e) (tmps : Array Value) (h4 : tmps[4]? = some (.pointer (some ⟨N, 0, none⟩))) (h5 : tmps[5]? = some (.pointer (some ⟨N + 1, 0, none⟩))) (h6 : tmps[6]? = some (.pointer (some ⟨N + 2, 0, none⟩))) (h7 : tmps[7]? = some (.pointer (some ⟨N + 3, 0, none⟩))) :
    (results Try.f22 tmps).run Try.prog W = .ok (.tuple #[stV s stk, .int .i64 v, .bool t, .int .i64 e]) W := by
  have l0 := range_loadVar (st_range h.st)
  have p1 := h.w1.facts.1
  have p2 := h.w2.facts.1
  have p3 := h.w3.facts.1
  have r1 : (loadVar 2 ⟨N + 1, 0, none⟩).run Try.prog W = .ok (.int .i64 v) W := by simp [go_sem, p1]
  have r2 : (loadVar 4 ⟨N + 2, 0, none⟩).run Try.prog W = .ok (.bool t) W := by simp [go_sem, p2]
  have r3 : (loadVar 48 ⟨N + 3, 0, none⟩).run Try.prog W = .ok (.int .i64 e) W := by simp [go_sem, p3]
  clear p1 p2 p3
  simp [results, Try.results22, h4, h5, h6, h7, l0, r1, r2, r3, asAddr]
theorem wp_store_st {op : Oper} {a : Act} {W : World} {K : Act → World → Prop} {Q : Exit → Act → World → Prop} (x y : Operand) (ho : op.op = .store 33 x y) {N : Nat} {s s' : St} {stk stk' : Value} (hx : a.eval x = .pointer (some ⟨N, 0, none⟩)) (hy : a.eval y = .agg #[.int .i64 s'.seg, .int .i64 s'.off, .int .i64 s'.ring, .int .i64 s'.a, .int .i64 s'.p0.seg, .int .i64 s'.p0.off, .int .i64 s'.p0.ring, .int .i64 s'.p1.seg, .int .i64 s'.p1.off, .int .i64 s'.p1.ring, .int .i64 s'.p2.seg, .int .i64 s'.p2.off, .int .i64 s'.p2.ring, .int .i64 s'.p3.seg, .int .i64 s'.p3.off, .int .i64 s'.p3.ring, stk', .bool s'.hal])
    (h : stAt W N s stk) (h1 : stk'.oneCell' = true) (hk : ∀ W', stAt W' N s' stk' → Off (· = N) W W' → K (a.put op.dst undef) W') : op.wp Try.prog a W K Q := by
  refine wp_store_mid 33 x y ho N 0 (stC s' stk') hx hy (fun j hj => ⟨by rw [Nat.zero_add, h.cell j]; have : j < (stC s stk).size := hj; simp [this], h.free _⟩) A.stateI (by simp only [stC, List.all_toArray, List.all_cons, h1]; rfl) (hk _ ?_ ?_)
  · exact set18 h (.int .i64 s'.seg) (.int .i64 s'.off) (.int .i64 s'.ring) (.int .i64 s'.a) (.int .i64 s'.p0.seg) (.int .i64 s'.p0.off) (.int .i64 s'.p0.ring) (.int .i64 s'.p1.seg) (.int .i64 s'.p1.off) (.int .i64 s'.p1.ring) (.int .i64 s'.p2.seg) (.int .i64 s'.p2.off) (.int .i64 s'.p2.ring) (.int .i64 s'.p3.seg) (.int .i64 s'.p3.off) (.int .i64 s'.p3.ring) stk' (.bool s'.hal)
  · exact off18 W N (.int .i64 s'.seg) (.int .i64 s'.off) (.int .i64 s'.ring) (.int .i64 s'.a) (.int .i64 s'.p0.seg) (.int .i64 s'.p0.off) (.int .i64 s'.p0.ring) (.int .i64 s'.p1.seg) (.int .i64 s'.p1.off) (.int .i64 s'.p1.ring) (.int .i64 s'.p2.seg) (.int .i64 s'.p2.off) (.int .i64 s'.p2.ring) (.int .i64 s'.p3.seg) (.int .i64 s'.p3.off) (.int .i64 s'.p3.ring) stk' (.bool s'.hal)
theorem outs3 {W : World} {N : Nat} {s : St} {stk : Value} {v v' : Int} {t t' : Bool} {e e' : Int} (h0 : stAt W N s stk) (w1 : blk1 W (N + 1) 2 (.int .i64 v)) (w2 : blk1 W (N + 2) 4 (.bool t)) (w3 : blk1 W (N + 3) 48 (.int .i64 e)) :
    Outs (((W.setCell ⟨N + 1, 0, none⟩ (.int .i64 v')).setCell ⟨N + 2, 0, none⟩ (.bool t')).setCell ⟨N + 3, 0, none⟩ (.int .i64 e')) N s stk v' t' e' ∧ Off (fun k => N ≤ k ∧ k < N + 4) W (((W.setCell ⟨N + 1, 0, none⟩ (.int .i64 v')).setCell ⟨N + 2, 0, none⟩ (.bool t')).setCell ⟨N + 3, 0, none⟩ (.int .i64 e')) := by
  have p1 := off1 W (N + 1) 0 (.int .i64 v')
  have p2 := off1 (W.setCell ⟨N + 1, 0, none⟩ (.int .i64 v')) (N + 2) 0 (.bool t')
  have p3 := off1 ((W.setCell ⟨N + 1, 0, none⟩ (.int .i64 v')).setCell ⟨N + 2, 0, none⟩ (.bool t')) (N + 3) 0 (.int .i64 e')
  refine ⟨⟨?_, ?_, ?_, ?_⟩, ?_⟩
  · exact p3.keeps (p2.keeps (p1.keeps h0 (by omega)) (by omega)) (by omega)
  · exact p3.keeps (p2.keeps (blk1.set w1 _) (by omega)) (by omega)
  · exact p3.keeps (blk1.set (p1.keeps w2 (by omega)) _) (by omega)
  · exact blk1.set (p2.keeps (p1.keeps w3 (by omega)) (by omega)) _
  · exact (p1.mono (fun k _ hk => by omega)).trans ((p2.mono (fun k _ hk => by omega)).trans (p3.mono (fun k _ hk => by omega)))
theorem outs_frame {w : World} {N : Nat} {s s' : St} {stk stk' : Value} {v : Int} {t : Bool} {e : Int} (h0 : stAt w N s stk) (h : Outs w (N + 1) s' stk' v t e) : ∀ k, (N ≤ k ∧ k < N + 5) → ∀ cs, w.heap[k]? ≠ some (.cells cs 79 (0, 0)) := by
  rintro k ⟨h1, h2⟩ cs hc
  rcases (show k = N ∨ k = N + 1 ∨ k = N + 1 + 1 ∨ k = N + 1 + 2 ∨ k = N + 1 + 3 by omega) with rfl | rfl | rfl | rfl | rfl
  · have h := (show w.heap[k]? = _ from h0).symm.trans hc; simp at h
  · have h := (show w.heap[N + 1]? = _ from h.st).symm.trans hc; simp at h
  · have h := (show w.heap[N + 1 + 1]? = _ from h.w1).symm.trans hc; simp at h
  · have h := (show w.heap[N + 1 + 2]? = _ from h.w2).symm.trans hc; simp at h
  · have h := (show w.heap[N + 1 + 3]? = _ from h.w3).symm.trans hc; simp at h
set_option maxHeartbeats 4000000 in
theorem c_Step_hal (w : World) (B Y : Nat) (s : St) (stk : Value) (M : List Sg) (l : List Fr) (hm : MemOk w B Y M) (hs : stkAt w stk l) (hbig : l.length < 1000000) (hh : s.hal = true) :
    Calls Try.prog 22 #[stV s stk, memV Y] w fun e w' => ∃ stk', e = .returned (.tuple #[stV s stk', .int .i64 0, .bool false, .int .i64 0]) ∧ stkAt w' stk' l ∧ Below w.heap.size w w' := by
  have hmf : ∀ (fn : Fn) (first cap : Array Value) (w : World), (Instr.makeFunc fn first cap).run Try.prog w = .ok (.func fn first cap) w := fun _ _ _ _ => rfl
  obtain ⟨W1, hW1, S1, O1, HB1, hz1⟩ := step_start w s stk
  have hW1 : Hid _ := Lib.hid hW1
  have HS1 := Lib.hid (stkAt.off (ex := fun _ => False) hs (.of_below HB1) (fun _ h => h.elim))
  have HM1 := Lib.hid (hm.below HB1)
  have S1 := Lib.hid S1
  have O1 := Lib.hid O1
  have HB1 := Lib.hid HB1
  have hbig := Lib.hid hbig
  have hh' := Lib.hid hh
  clear hh hs hm
  have hh := hh'
  unfold stV stC memV
  unfold stC St.zero at hW1
  go_enter_defers Try.func22, Try.ntmps22
  go_wp2_with fail
  rw [hW1.out]
  refine (c_Clone _ _ l HS1.out hbig.out).mono ?_
  rintro e w6 ⟨v', rfl, hs6, hb6, ad6, cp6, rfl⟩
  have S6 : Hid (stAt w6 w.heap.size s stk) := Off.keeps (.of_below (ex := fun _ => False) hb6) S1.out id
  have O6 : Hid (Outs w6 (w.heap.size + 1) St.zero (.slice none 0 0) 0 false 0) := O1.out.off (.of_below (ex := fun _ => False) hb6) (fun _ _ _ h => h)
  have HB6 := Lib.hid (below2 HB1.out hb6)
  have HS6 := Lib.hid hs6
  have hz6 : w.heap.size + 5 ≤ w6.heap.size := by rw [← hz1]; exact hb6.size
  have HM6 := Lib.hid (HM1.out.below hb6)
  clear hb6 hs6 hz1
  have c16 : w6.cell? ⟨w.heap.size, 16, none⟩ = some stk := S6.out.cell 16
  have c17 : w6.cell? ⟨w.heap.size, 17, none⟩ = some (.bool true) := by rw [← hh.out]; exact S6.out.cell 17
  have cf : ∀ j, w6.frozen? ⟨w.heap.size, j, none⟩ = false := fun j => S6.out.free j
  have hN6 : w.heap.size < w6.heap.size := S6.out.lt
  have S7 : Hid (stAt (w6.setCell ⟨w.heap.size, 16, none⟩ (.slice ad6 l.length cp6)) w.heap.size s (.slice ad6 l.length cp6)) := by
    have h := S6.out
    unfold stAt stC at h
    show _ = _
    simp [World.setCell, Array.getElem?_modify, h, stC]
  have O7 := O6.out.off (off1 w6 w.heap.size 16 (.slice ad6 l.length cp6)) (fun k h1 h2 h3 => by omega)
  have O7 := Lib.hid O7
  go_wp2_with (first | (refine wpList_load_st rfl (.tmp 2) rfl rfl (st_range S7.out) ?_) | (refine wpList_store_st rfl (.tmp 4) (.tmp 15) rfl rfl rfl O7.out.st rfl ?_; intro W8 S8 F8; have P1 := F8.keeps O7.out.w1 (by omega); have P2 := F8.keeps O7.out.w2 (by omega); have P3 := F8.keeps O7.out.w3 (by omega); have p1 : W8.cell? ⟨w.heap.size + 1 + 1, 0, none⟩ = some (.int .i64 0) := (blk1.facts P1).1; have p2 : W8.cell? ⟨w.heap.size + 1 + 1 + 1, 0, none⟩ = some (.bool false) := (blk1.facts P2).1; have p3 : W8.cell? ⟨w.heap.size + 1 + 1 + 1 + 1, 0, none⟩ = some (.int .i64 0) := (blk1.facts P3).1; have pf1 : ∀ j, W8.frozen? ⟨w.heap.size + 1 + 1, j, none⟩ = false := (blk1.facts P1).2; have pf2 : ∀ j, W8.frozen? ⟨w.heap.size + 1 + 1 + 1, j, none⟩ = false := (blk1.facts P2).2; have pf3 : ∀ j, W8.frozen? ⟨w.heap.size + 1 + 1 + 1 + 1, j, none⟩ = false := (blk1.facts P3).2; have S8 := Lib.hid S8; have F8 := Lib.hid F8; have P1 := Lib.hid P1; have P2 := Lib.hid P2; have P3 := Lib.hid P3))
  have h3 := outs3 (v' := 0) (t' := false) (e' := 0) S8.out P1.out P2.out P3.out
  have hO : Off (fun k => w.heap.size ≤ k ∧ k < w.heap.size + 5) w6 _ := ((off1 w6 w.heap.size 16 (.slice ad6 l.length cp6)).mono (fun k _ hk => by omega)).trans ((F8.out.mono (fun k _ hk => by omega)).trans (h3.2.mono (fun k _ hk => by omega)))
  refine ⟨_, outs_results h3.1 _ rfl rfl rfl rfl, _, rfl, ?_, ?_⟩
  · exact Off.row hO HS6.out (outs_frame S6.out O6.out)
  · exact Off.below HB6.out hO HB6.out.size (fun k hk => hk.1)
end Go.Proofs.Ytiakonmamkfopaa
