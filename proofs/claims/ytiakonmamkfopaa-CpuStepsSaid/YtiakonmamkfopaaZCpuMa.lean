/- Two arrays of four pointers that are the same. Two states are the same. A processor's state, as the document has it. -/
import Derived.Test.YtiakonmamkfopaaZTk
import Derived.Test.YtiakonmamkfopaaZCpuW
import Derived.Deep.RegionHeld3
import Derived.Deep.CutRange
import Derived.Deep.MidRow
namespace Go.Proofs.Ytiakonmamkfopaa
open Go.RowKit Go.ChangeShapes
set_option linter.unusedVariables false
set_option maxRecDepth 100000
theorem A.arrU : Try.prog.underlying 25 = some (.array 4 24) := by kernel_rfl
theorem eq_pt (a b c : Int) (w : World) : (Op.equalIn 9999 24 (.agg #[.int .i64 a, .int .i64 b, .int .i64 c]) (.agg #[.int .i64 a, .int .i64 b, .int .i64 c])).run Try.prog w = .ok true w := by
  go_simp
theorem eq_arr (a b c d e f g h i j k l : Int) (w : World) : (Op.equalIn 10000 25 (.agg #[.int .i64 a, .int .i64 b, .int .i64 c, .int .i64 d, .int .i64 e, .int .i64 f, .int .i64 g, .int .i64 h, .int .i64 i, .int .i64 j, .int .i64 k, .int .i64 l]) (.agg #[.int .i64 a, .int .i64 b, .int .i64 c, .int .i64 d, .int .i64 e, .int .i64 f, .int .i64 g, .int .i64 h, .int .i64 i, .int .i64 j, .int .i64 k, .int .i64 l])).run Try.prog w = .ok true w := by
  have p1 := eq_pt a b c
  have p2 := eq_pt d e f
  have p3 := eq_pt g h i
  have p4 := eq_pt j k l
  rw [show (10000 : Nat) = 9999 + 1 from rfl, Op.equalIn]
  simp only [Sem.run_bind, run_underlying A.arrU, Result.andThen_ok]
  simp only [Std.Legacy.Range.forIn_eq_forIn_range', Std.Legacy.Range.size, Nat.sub_zero, Nat.add_sub_cancel, Nat.div_one, List.range'_succ, List.range'_zero, List.forIn_cons, List.forIn_nil]
  go_simp
end Go.Proofs.Ytiakonmamkfopaa
namespace Go.Proofs.Ytiakonmamkfopaa
open Go.RowKit Go.ChangeShapes
set_option linter.unusedVariables false
set_option maxRecDepth 100000
/-- block N is a state, as the document has it -/
def rsAt (w : World) (N : Nat) (s : St) (stk : Value) : Prop := w.heap[N]? = some (.cells (stC s stk) 39 (0, 0))
theorem rsAt.cell {w : World} {N : Nat} {s : St} {stk : Value} (h : rsAt w N s stk) (j : Nat) : w.cell? ⟨N, j, none⟩ = (stC s stk)[j]? := cell_of_row w N j _ _ _ h
theorem rsAt.free {w : World} {N : Nat} {s : St} {stk : Value} (h : rsAt w N s stk) (j : Nat) : w.frozen? ⟨N, j, none⟩ = false := by
  simp [World.frozen?, show w.heap[N]? = _ from h]
theorem rsAt.lt {w : World} {N : Nat} {s : St} {stk : Value} (h : rsAt w N s stk) : N < w.heap.size := (Array.getElem?_eq_some_iff.1 h).1
/-- callers, as the document has them -/
def rstkAt (w : World) (v : Value) (l : List Fr) : Prop := w.ownsRow 0 92 3 v l.length (frC l)
theorem eq_fr (a b c : Int) (w : World) : (Op.equalIn 10000 92 (.agg #[.int .i64 a, .int .i64 b, .int .i64 c]) (.agg #[.int .i64 a, .int .i64 b, .int .i64 c])).run Try.prog w = .ok true w := by
  go_simp
theorem frC_get : ∀ (l : List Fr) (k : Nat) (f : Fr), l[k]? = some f → ∀ j, j < 3 → (frC l)[k * 3 + j]? = ([.int .i64 f.seg, .int .i64 f.off, .int .i64 f.ring] : List Value)[j]?
  | g :: l, 0, f, h, j, hj => by
    simp only [List.getElem?_cons_zero, Option.some.injEq] at h
    subst h
    rcases (show j = 0 ∨ j = 1 ∨ j = 2 by omega) with rfl | rfl | rfl <;> rfl
  | g :: l, k + 1, f, h, j, hj => by
    have ih := frC_get l k f (by simpa using h) j hj
    have e : (k + 1) * 3 + j = (k * 3 + j) + 3 := by omega
    rw [e]
    simpa [frC] using ih
  | [], k, f, h, _, _ => by simp at h
theorem Addr.add_mk1 (B j : Nat) : (⟨B, 0, none⟩ : Addr).add j = ⟨B, j, none⟩ := by
  unfold Addr.add
  by_cases h : j = 0
  · subst h; rfl
  · simp [h]
/-- the two states, on the way -/
structure SameR (w wr : World) (s : St) (l : List Fr) (u v : Value) : Prop where
  a : rsAt wr w.heap.size s u
  b : rsAt wr (w.heap.size + 1) s v
  u : rstkAt wr u l
  v : rstkAt wr v l
  bl : Below w.heap.size w wr
set_option maxHeartbeats 8000000 in
theorem c_same (w : World) (s : St) (l : List Fr) (u v : Value) (hu : rstkAt w u l) (hv : rstkAt w v l) (hbig : l.length < 1000000) : Calls Try.prog 18 #[.agg (stC s u), .agg (stC s v)] w fun e w' => e = .returned (.bool true) ∧ Below w.heap.size w w' := by
  obtain ⟨ua, uc, rfl, hu0, hu1⟩ := row_shape hu
  obtain ⟨va, vc, rfl, hv0, hv1⟩ := row_shape hv
  obtain ⟨W0, hW0, A0, B0, HB⟩ : ∃ W, (w.alloc (.cells (stC s (.slice ua l.length uc)) 39)).alloc (.cells (stC s (.slice va l.length vc)) 39) = W ∧ Hid (rsAt W w.heap.size s (.slice ua l.length uc)) ∧ Hid (rsAt W (w.heap.size + 1) s (.slice va l.length vc)) ∧ Hid (Below w.heap.size w W) := by
    refine ⟨_, rfl, ?_, ?_, below_al (below_al0 _ _) _⟩
    · exact Off.keeps (ex := fun _ => False) ((Off.refl _ _).alloc _) (heap_alloc_new w (.cells (stC s (.slice ua l.length uc)) 39)) id
    · have h0 := heap_alloc_new (w.alloc (.cells (stC s (.slice ua l.length uc)) 39)) (.cells (stC s (.slice va l.length vc)) 39)
      rw [World.size_alloc] at h0
      exact h0
  replace hW0 := Lib.hid hW0
  replace hu := Lib.hid hu
  replace hv := Lib.hid hv
  replace hbig := Lib.hid hbig
  have hArr := eq_arr s.p0.seg s.p0.off s.p0.ring s.p1.seg s.p1.off s.p1.ring s.p2.seg s.p2.off s.p2.ring s.p3.seg s.p3.off s.p3.ring
  go_enter Try.func18, Try.ntmps18
  go_upto_region 1 with fail
  rw [show (w.alloc (.cells (stC s (.slice ua l.length uc)) 39)).alloc (.cells (stC s (.slice va l.length vc)) 39) = W0 from hW0.out]
  clear hW0
  have xA0 : W0.cell? ⟨w.heap.size, 0, none⟩ = some (.int .i64 s.seg) := A0.out.cell 0
  have xA1 : W0.cell? ⟨w.heap.size, 1, none⟩ = some (.int .i64 s.off) := A0.out.cell 1
  have xA2 : W0.cell? ⟨w.heap.size, 2, none⟩ = some (.int .i64 s.ring) := A0.out.cell 2
  have xA3 : W0.cell? ⟨w.heap.size, 3, none⟩ = some (.int .i64 s.a) := A0.out.cell 3
  have xA4 : W0.cell? ⟨w.heap.size, 4, none⟩ = some (.int .i64 s.p0.seg) := A0.out.cell 4
  have xA5 : W0.cell? ⟨w.heap.size, 5, none⟩ = some (.int .i64 s.p0.off) := A0.out.cell 5
  have xA6 : W0.cell? ⟨w.heap.size, 6, none⟩ = some (.int .i64 s.p0.ring) := A0.out.cell 6
  have xA7 : W0.cell? ⟨w.heap.size, 7, none⟩ = some (.int .i64 s.p1.seg) := A0.out.cell 7
  have xA8 : W0.cell? ⟨w.heap.size, 8, none⟩ = some (.int .i64 s.p1.off) := A0.out.cell 8
  have xA9 : W0.cell? ⟨w.heap.size, 9, none⟩ = some (.int .i64 s.p1.ring) := A0.out.cell 9
  have xA10 : W0.cell? ⟨w.heap.size, 10, none⟩ = some (.int .i64 s.p2.seg) := A0.out.cell 10
  have xA11 : W0.cell? ⟨w.heap.size, 11, none⟩ = some (.int .i64 s.p2.off) := A0.out.cell 11
  have xA12 : W0.cell? ⟨w.heap.size, 12, none⟩ = some (.int .i64 s.p2.ring) := A0.out.cell 12
  have xA13 : W0.cell? ⟨w.heap.size, 13, none⟩ = some (.int .i64 s.p3.seg) := A0.out.cell 13
  have xA14 : W0.cell? ⟨w.heap.size, 14, none⟩ = some (.int .i64 s.p3.off) := A0.out.cell 14
  have xA15 : W0.cell? ⟨w.heap.size, 15, none⟩ = some (.int .i64 s.p3.ring) := A0.out.cell 15
  have xA16 : W0.cell? ⟨w.heap.size, 16, none⟩ = some (.slice ua l.length uc) := A0.out.cell 16
  have xA17 : W0.cell? ⟨w.heap.size, 17, none⟩ = some (.bool s.hal) := A0.out.cell 17
  have xB0 : W0.cell? ⟨(w.heap.size + 1), 0, none⟩ = some (.int .i64 s.seg) := B0.out.cell 0
  have xB1 : W0.cell? ⟨(w.heap.size + 1), 1, none⟩ = some (.int .i64 s.off) := B0.out.cell 1
  have xB2 : W0.cell? ⟨(w.heap.size + 1), 2, none⟩ = some (.int .i64 s.ring) := B0.out.cell 2
  have xB3 : W0.cell? ⟨(w.heap.size + 1), 3, none⟩ = some (.int .i64 s.a) := B0.out.cell 3
  have xB4 : W0.cell? ⟨(w.heap.size + 1), 4, none⟩ = some (.int .i64 s.p0.seg) := B0.out.cell 4
  have xB5 : W0.cell? ⟨(w.heap.size + 1), 5, none⟩ = some (.int .i64 s.p0.off) := B0.out.cell 5
  have xB6 : W0.cell? ⟨(w.heap.size + 1), 6, none⟩ = some (.int .i64 s.p0.ring) := B0.out.cell 6
  have xB7 : W0.cell? ⟨(w.heap.size + 1), 7, none⟩ = some (.int .i64 s.p1.seg) := B0.out.cell 7
  have xB8 : W0.cell? ⟨(w.heap.size + 1), 8, none⟩ = some (.int .i64 s.p1.off) := B0.out.cell 8
  have xB9 : W0.cell? ⟨(w.heap.size + 1), 9, none⟩ = some (.int .i64 s.p1.ring) := B0.out.cell 9
  have xB10 : W0.cell? ⟨(w.heap.size + 1), 10, none⟩ = some (.int .i64 s.p2.seg) := B0.out.cell 10
  have xB11 : W0.cell? ⟨(w.heap.size + 1), 11, none⟩ = some (.int .i64 s.p2.off) := B0.out.cell 11
  have xB12 : W0.cell? ⟨(w.heap.size + 1), 12, none⟩ = some (.int .i64 s.p2.ring) := B0.out.cell 12
  have xB13 : W0.cell? ⟨(w.heap.size + 1), 13, none⟩ = some (.int .i64 s.p3.seg) := B0.out.cell 13
  have xB14 : W0.cell? ⟨(w.heap.size + 1), 14, none⟩ = some (.int .i64 s.p3.off) := B0.out.cell 14
  have xB15 : W0.cell? ⟨(w.heap.size + 1), 15, none⟩ = some (.int .i64 s.p3.ring) := B0.out.cell 15
  have xB16 : W0.cell? ⟨(w.heap.size + 1), 16, none⟩ = some (.slice va l.length vc) := B0.out.cell 16
  have xB17 : W0.cell? ⟨(w.heap.size + 1), 17, none⟩ = some (.bool s.hal) := B0.out.cell 17
  go_wp2_with fail
  have H0 : Hid (SameR w W0 s l (.slice ua l.length uc) (.slice va l.length vc)) := ⟨A0.out, B0.out, Off.row (ex := fun _ => False) (.of_below HB.out) hu.out (fun _ h => h.elim), Off.row (ex := fun _ => False) (.of_below HB.out) hv.out (fun _ h => h.elim), HB.out⟩
  clear xA0 xA1 xA2 xA3 xA4 xA5 xA6 xA7 xA8 xA9 xA10 xA11 xA12 xA13 xA14 xA15 xA16 xA17 xB0 xB1 xB2 xB3 xB4 xB5 xB6 xB7 xB8 xB9 xB10 xB11 xB12 xB13 xB14 xB15 xB16 xB17 A0 B0 hArr HB
  go_loopw [5] (fun kv wr => ∃ (k : Nat), kv = .int .i64 k ∧ k ≤ l.length ∧ Hid (SameR w wr s l (.slice ua l.length uc) (.slice va l.length vc))) (fun kv _ => l.length - (intOf kv).toNat)
  case atStart => exact ⟨0, rfl, by omega, H0⟩
  case round =>
    clear H0
    obtain ⟨k, rfl, hkl, HR⟩ := hrel
    have a6 : wr.cell? ⟨w.heap.size, 16, none⟩ = some (.slice ua l.length uc) := HR.out.a.cell 16
    by_cases hk : k < l.length
    · obtain ⟨gu, cu, hcu⟩ := row_some hu.out (by omega)
      cases hcu
      obtain ⟨gv, cv, hcv⟩ := row_some hv.out (by omega)
      cases hcv
      obtain ⟨f, hf⟩ : ∃ f, l[k]? = some f := ⟨_, List.getElem?_eq_getElem hk⟩
      have hkm : (k : Int) + 1 ≤ 9223372036854775807 := by have := hbig.out; omega
      go_wp2_with fail
      have HD : Hid (SameR w wr.drew s l (.slice (some ⟨gu, 0, none⟩) l.length uc) (.slice (some ⟨gv, 0, none⟩) l.length vc)) := Lib.hid ⟨HR.out.a, HR.out.b, HR.out.u, HR.out.v, below_drew HR.out.bl⟩
      clear a6
      have d6 : wr.drew.cell? ⟨w.heap.size, 16, none⟩ = some (.slice (some ⟨gu, 0, none⟩) l.length uc) := HD.out.a.cell 16
      have d7 : wr.drew.cell? ⟨w.heap.size + 1, 16, none⟩ = some (.slice (some ⟨gv, 0, none⟩) l.length vc) := HD.out.b.cell 16
      have f0 : wr.drew.cell? ⟨gu, k * 3, none⟩ = some (.int .i64 f.seg) := by simpa [Addr.add_mk1] using row_cells HD.out.u _ rfl (k * 3 + 0) _ (frC_get l k f hf 0 (by omega))
      have f1 : wr.drew.cell? ⟨gu, k * 3 + 1, none⟩ = some (.int .i64 f.off) := by simpa [Addr.add_mk1] using row_cells HD.out.u _ rfl (k * 3 + 1) _ (frC_get l k f hf 1 (by omega))
      have f2 : wr.drew.cell? ⟨gu, k * 3 + 2, none⟩ = some (.int .i64 f.ring) := by simpa [Addr.add_mk1] using row_cells HD.out.u _ rfl (k * 3 + 2) _ (frC_get l k f hf 2 (by omega))
      have g0 : wr.drew.cell? ⟨gv, k * 3, none⟩ = some (.int .i64 f.seg) := by simpa [Addr.add_mk1] using row_cells HD.out.v _ rfl (k * 3 + 0) _ (frC_get l k f hf 0 (by omega))
      have g1 : wr.drew.cell? ⟨gv, k * 3 + 1, none⟩ = some (.int .i64 f.off) := by simpa [Addr.add_mk1] using row_cells HD.out.v _ rfl (k * 3 + 1) _ (frC_get l k f hf 1 (by omega))
      have g2 : wr.drew.cell? ⟨gv, k * 3 + 2, none⟩ = some (.int .i64 f.ring) := by simpa [Addr.add_mk1] using row_cells HD.out.v _ rfl (k * 3 + 2) _ (frC_get l k f hf 2 (by omega))
      have hFr := eq_fr f.seg f.off f.ring
      go_region_held3 (fun w' => w' = wr.drew)
        ((first | rfl | assumption))
        ((first | fail))
      go_wp2
      go_roundw
      case rel => exact ⟨k + 1, by go_num, by omega, HD⟩
      case measure => simp [intOf]; omega
    · have hk' : k = l.length := by omega
      subst hk'
      go_wp2
      go_ret
      exact ⟨rfl, HR.out.bl⟩
end Go.Proofs.Ytiakonmamkfopaa
namespace Go.Proofs.Ytiakonmamkfopaa
open Go.RowKit Go.ChangeShapes
set_option linter.unusedVariables false
set_option maxRecDepth 100000
theorem rset18 {w : World} {N : Nat} {s : St} {stk : Value} (h : rsAt w N s stk) (b0 b1 b2 b3 b4 b5 b6 b7 b8 b9 b10 b11 b12 b13 b14 b15 b16 b17 : Value) : ((((((((((((((((((w.setCell ⟨N, 0, none⟩ b0).setCell ⟨N, 1, none⟩ b1).setCell ⟨N, 2, none⟩ b2).setCell ⟨N, 3, none⟩ b3).setCell ⟨N, 4, none⟩ b4).setCell ⟨N, 5, none⟩ b5).setCell ⟨N, 6, none⟩ b6).setCell ⟨N, 7, none⟩ b7).setCell ⟨N, 8, none⟩ b8).setCell ⟨N, 9, none⟩ b9).setCell ⟨N, 10, none⟩ b10).setCell ⟨N, 11, none⟩ b11).setCell ⟨N, 12, none⟩ b12).setCell ⟨N, 13, none⟩ b13).setCell ⟨N, 14, none⟩ b14).setCell ⟨N, 15, none⟩ b15).setCell ⟨N, 16, none⟩ b16).setCell ⟨N, 17, none⟩ b17).heap[N]? = some (.cells #[b0, b1, b2, b3, b4, b5, b6, b7, b8, b9, b10, b11, b12, b13, b14, b15, b16, b17] 39 (0, 0)) := by
  unfold rsAt stC at h
  simp [World.setCell, Array.getElem?_modify, h]
theorem A.rstateU : Try.prog.underlying 39 = some (((Try.prog.underlying 39).getD (.struct #[]))) := by kernel_rfl
theorem A.rstateR : TypeDesc.isRow ((Try.prog.underlying 39).getD (.struct #[])) = true := by kernel_rfl
theorem A.rstateI : (Try.prog.info? 39).map (·.size) = some 18 := by kernel_rfl
theorem rs_range {W : World} {N : Nat} {s : St} {stk : Value} (h : rsAt W N s stk) : W.rangeAt N 0 (stC s stk).toList := fun j v hj => by
  rw [Nat.zero_add, h.cell j]
  simpa using hj
theorem rrange_loadVar {W : World} {N : Nat} {s : St} {stk : Value} (h : W.rangeAt N 0 (stC s stk).toList) : (loadVar 39 ⟨N, 0, none⟩).run Try.prog W = .ok ((.agg (stC s stk))) W :=
  run_loadVar_mid W N 0 39 (stC s stk).toList _ h A.rstateU A.rstateR A.rstateI
theorem wpList_load_rs {ops : Array Oper} {rest : List Oper} {op : Oper} {a : Act} {W : World} {Q : Exit → Act → World → Prop} (hgd : op.guard = none) (x : Operand) (ho : op.op = .load 39 x) {N : Nat} {s : St} {stk : Value} (hx : a.eval x = .pointer (some ⟨N, 0, none⟩))
    (h : W.rangeAt N 0 (stC s stk).toList) (hk : wpList Try.prog ops Q rest (a.put op.dst (.agg #[.int .i64 s.seg, .int .i64 s.off, .int .i64 s.ring, .int .i64 s.a, .int .i64 s.p0.seg, .int .i64 s.p0.off, .int .i64 s.p0.ring, .int .i64 s.p1.seg, .int .i64 s.p1.off, .int .i64 s.p1.ring, .int .i64 s.p2.seg, .int .i64 s.p2.off, .int .i64 s.p2.ring, .int .i64 s.p3.seg, .int .i64 s.p3.off, .int .i64 s.p3.ring, stk, .bool s.hal])) W) : wpList Try.prog ops Q (op :: rest) a W :=
  wpList_load_mid hgd 39 x ho N 0 hx (stC s stk).toList _ h A.rstateU A.rstateR A.rstateI hk
theorem wpList_store_rs {ops : Array Oper} {rest : List Oper} {op : Oper} {a : Act} {W : World} {Q : Exit → Act → World → Prop} (hgd : op.guard = none) (x y : Operand) (ho : op.op = .store 39 x y) {N : Nat} {s s' : St} {stk stk' : Value} (hx : a.eval x = .pointer (some ⟨N, 0, none⟩)) (hy : a.eval y = .agg #[.int .i64 s'.seg, .int .i64 s'.off, .int .i64 s'.ring, .int .i64 s'.a, .int .i64 s'.p0.seg, .int .i64 s'.p0.off, .int .i64 s'.p0.ring, .int .i64 s'.p1.seg, .int .i64 s'.p1.off, .int .i64 s'.p1.ring, .int .i64 s'.p2.seg, .int .i64 s'.p2.off, .int .i64 s'.p2.ring, .int .i64 s'.p3.seg, .int .i64 s'.p3.off, .int .i64 s'.p3.ring, stk', .bool s'.hal])
    (h : rsAt W N s stk) (h1 : stk'.oneCell' = true) (hk : ∀ W', rsAt W' N s' stk' → Off (· = N) W W' → wpList Try.prog ops Q rest (a.put op.dst undef) W') : wpList Try.prog ops Q (op :: rest) a W := by
  refine wpList_store_mid hgd 39 x y ho N 0 (stC s' stk') hx hy (fun j hj => ⟨by rw [Nat.zero_add, h.cell j]; have : j < (stC s stk).size := hj; simp [this], h.free _⟩) A.rstateI (by simp only [stC, List.all_toArray, List.all_cons, h1]; rfl) (hk _ ?_ ?_)
  · exact rset18 h (.int .i64 s'.seg) (.int .i64 s'.off) (.int .i64 s'.ring) (.int .i64 s'.a) (.int .i64 s'.p0.seg) (.int .i64 s'.p0.off) (.int .i64 s'.p0.ring) (.int .i64 s'.p1.seg) (.int .i64 s'.p1.off) (.int .i64 s'.p1.ring) (.int .i64 s'.p2.seg) (.int .i64 s'.p2.off) (.int .i64 s'.p2.ring) (.int .i64 s'.p3.seg) (.int .i64 s'.p3.off) (.int .i64 s'.p3.ring) stk' (.bool s'.hal)
  · exact off18 W N (.int .i64 s'.seg) (.int .i64 s'.off) (.int .i64 s'.ring) (.int .i64 s'.a) (.int .i64 s'.p0.seg) (.int .i64 s'.p0.off) (.int .i64 s'.p0.ring) (.int .i64 s'.p1.seg) (.int .i64 s'.p1.off) (.int .i64 s'.p1.ring) (.int .i64 s'.p2.seg) (.int .i64 s'.p2.off) (.int .i64 s'.p2.ring) (.int .i64 s'.p3.seg) (.int .i64 s'.p3.off) (.int .i64 s'.p3.ring) stk' (.bool s'.hal)
theorem A.infoRF : (Try.prog.info? 92).map (fun i => (i.zero, i.size, i.bytes)) = some (some (.agg #[.int .i64 0, .int .i64 0, .int .i64 0]), 3, 24) := by kernel_rfl
theorem A.underRF : Try.prog.underlying 37 = some (.slice 92) := by kernel_rfl
theorem state_results {W : World} {N : Nat} {s : St} {stk : Value} (h : rsAt W N s stk) (tmps : Array Value) (h4 : tmps[2]? = some (.pointer (some ⟨N, 0, none⟩))) :
    (results Try.f19 tmps).run Try.prog W = .ok (.agg (stC s stk)) W := by
  have l0 := rrange_loadVar (rs_range h)
  simp [results, Try.results19, h4, l0, asAddr]
theorem rs_not {w : World} {N : Nat} {s : St} {stk : Value} (h : rsAt w N s stk) (ty : TypeId) (ht : ty ≠ 39) : ∀ k, k = N → ∀ cs, w.heap[k]? ≠ some (.cells cs ty (0, 0)) := by
  rintro k rfl cs hc
  have h2 := (show w.heap[k]? = _ from h).symm.trans hc
  simp only [Option.some.injEq, Obj.cells.injEq] at h2
  exact ht h2.2.1.symm
theorem row_new2 {w : World} {v : Value} {k : Nat} {B : Nat} {e ty : TypeId} {size n : Nat} {xs : List Value} {T : Nat} {cs : Array Value} (h : w.ownsRow B e size v n xs) (ht : w.heap[T]? = some (.cells cs ty (0, 0))) (hne : e ≠ ty) (hk : v.ownBlock = some k) : ¬ T = k := by
  rintro rfl
  rcases h.2 with ⟨hv, _⟩ | ⟨g, cap, cur, hv, _, hg, _⟩
  · subst hv; simp [Value.ownBlock] at hk
  · subst hv
    simp [Value.ownBlock] at hk
    subst hk
    rw [ht] at hg
    simp only [Option.some.injEq, Obj.cells.injEq] at hg
    exact hne hg.2.1.symm
/-- on the way -/
structure StR (w wr : World) (s : St) (u : Value) (l : List Fr) (T k : Nat) (v : Value) : Prop where
  a : stAt wr w.heap.size s u
  r : rsAt wr (w.heap.size + 1) St.zero (.slice none 0 0)
  t : rsAt wr T s v
  row : wr.ownsRow (w.heap.size + 2) 92 3 v k (frC (l.take k))
  us : stkAt wr u l
  bl : Below w.heap.size w wr
  lt : w.heap.size + 1 < T
theorem StR.keepT {w D w5 : World} {s : St} {u v : Value} {l : List Fr} {T k : Nat} {o : Obj} (h : StR w D s u l T k v) (hrow : (D.alloc o).ownsRow (w.heap.size + 2) 92 3 v k (frC (l.take k))) (hg : (D.alloc o).grownBy w5 v.ownBlock) : rsAt w5 T s v := by
  have h1 : rsAt (D.alloc o) T s v := Off.keeps (ex := fun _ => False) ((Off.refl _ _).alloc o) h.t id
  exact (hg.block T (Array.getElem?_eq_some_iff.1 h1).1 (fun e => row_new2 hrow h1 (by decide) e.symm rfl)).trans h1
theorem StR.snoc {w D w5 : World} {s : St} {u v v' : Value} {l : List Fr} {T k : Nat} {o : Obj} {f : Fr} (h : StR w D s u l T k v) (hrow : (D.alloc o).ownsRow (w.heap.size + 2) 92 3 v k (frC (l.take k))) (hown : w5.ownsRow (w.heap.size + 2) 92 3 v' (k + 1) (frC (l.take k) ++ [.int .i64 f.seg, .int .i64 f.off, .int .i64 f.ring])) (hg : (D.alloc o).grownBy w5 v.ownBlock) (hf : l[k]? = some f) :
    StR w (w5.setCell ⟨T, 16, none⟩ v') s u l T (k + 1) v' := by
  have hT := h.keepT hrow hg
  have h2 : ∀ (j : Nat) (ob : Obj), j < w.heap.size + 2 → D.heap[j]? = some ob → w5.heap[j]? = some ob := fun j ob hj hob => by
    have h1 := Off.keeps (ex := fun _ => False) ((Off.refl _ _).alloc o) hob id
    exact (hg.block j (Array.getElem?_eq_some_iff.1 h1).1 (fun e => by have := (hrow.lt j e.symm).1; omega)).trans h1
  have hlt := h.lt
  have oT := off1 w5 T 16 v'
  have og : Off (fun j => v.ownBlock = some j) D w5 := ((Off.refl _ _).alloc o).trans (Off.grown (Off.refl _ _) hg (fun j hj => .inl hj))
  have hrD : D.ownsRow (w.heap.size + 2) 92 3 v k (frC (l.take k)) := h.row
  refine ⟨Off.keeps oT (h2 _ _ (by omega) h.a) (by omega), Off.keeps oT (h2 _ _ (by omega) h.r) (by omega), ?_, ?_, ?_, ?_, h.lt⟩
  · have hc := hT
    unfold rsAt stC at hc ⊢
    simp [World.setCell, Array.getElem?_modify, hc]
  · rw [List.take_add_one, hf, Option.toList_some, frC_append]
    exact Off.row oT hown (rs_not hT _ (by decide))
  · exact Off.row oT (Off.row og h.us (fun j hj cs hc => row_new2 hrD hc (by decide) hj rfl)) (rs_not hT _ (by decide))
  · have b1 : Below w.heap.size w w5 := (h.bl.alloc h.bl.size o).grown hg (by have := h.bl.size; simp; omega) (fun j hj => by have := (hrow.lt j hj).1; omega)
    exact Off.below b1 oT b1.size (fun j hj => by omega)
set_option maxHeartbeats 8000000 in
theorem c_state (w : World) (s : St) (l : List Fr) (u : Value) (hu : stkAt w u l) (hbig : l.length < 1000000) : Calls Try.prog 19 #[.agg (stC s u)] w fun e w' => ∃ v, e = .returned (.agg (stC s v)) ∧ rstkAt w' v l ∧ Below w.heap.size w w' := by
  obtain ⟨ua, uc, rfl, hu0, hu1⟩ := row_shape hu
  obtain ⟨W0, hW0, A0, R0, HB⟩ : ∃ W, (w.alloc (.cells (stC s (.slice ua l.length uc)) 33)).alloc (.cells (stC St.zero (.slice none 0 0)) 39) = W ∧ Hid (stAt W w.heap.size s (.slice ua l.length uc)) ∧ Hid (rsAt W (w.heap.size + 1) St.zero (.slice none 0 0)) ∧ Hid (Below w.heap.size w W) := by
    refine ⟨_, rfl, ?_, ?_, below_al (below_al0 _ _) _⟩
    · exact Off.keeps (ex := fun _ => False) ((Off.refl _ _).alloc _) (heap_alloc_new w (.cells (stC s (.slice ua l.length uc)) 33)) id
    · have h0 := heap_alloc_new (w.alloc (.cells (stC s (.slice ua l.length uc)) 33)) (.cells (stC St.zero (.slice none 0 0)) 39)
      rw [World.size_alloc] at h0
      exact h0
  replace hW0 := Lib.hid hW0
  replace hu := Lib.hid hu
  replace hbig := Lib.hid hbig
  go_enter Try.func19, Try.ntmps19
  go_upto_region 1 with fail
  rw [show (w.alloc (.cells (stC s (.slice ua l.length uc)) 33)).alloc (.cells #[.int .i64 0, .int .i64 0, .int .i64 0, .int .i64 0, .int .i64 0, .int .i64 0, .int .i64 0, .int .i64 0, .int .i64 0, .int .i64 0, .int .i64 0, .int .i64 0, .int .i64 0, .int .i64 0, .int .i64 0, .int .i64 0, .slice none 0 0, .bool false] 39) = W0 from hW0.out]
  clear hW0
  have x0 : W0.cell? ⟨w.heap.size, 0, none⟩ = some (.int .i64 s.seg) := A0.out.cell 0
  have x1 : W0.cell? ⟨w.heap.size, 1, none⟩ = some (.int .i64 s.off) := A0.out.cell 1
  have x2 : W0.cell? ⟨w.heap.size, 2, none⟩ = some (.int .i64 s.ring) := A0.out.cell 2
  have x3 : W0.cell? ⟨w.heap.size, 3, none⟩ = some (.int .i64 s.a) := A0.out.cell 3
  have x4 : W0.cell? ⟨w.heap.size, 4, none⟩ = some (.int .i64 s.p0.seg) := A0.out.cell 4
  have x5 : W0.cell? ⟨w.heap.size, 5, none⟩ = some (.int .i64 s.p0.off) := A0.out.cell 5
  have x6 : W0.cell? ⟨w.heap.size, 6, none⟩ = some (.int .i64 s.p0.ring) := A0.out.cell 6
  have x7 : W0.cell? ⟨w.heap.size, 7, none⟩ = some (.int .i64 s.p1.seg) := A0.out.cell 7
  have x8 : W0.cell? ⟨w.heap.size, 8, none⟩ = some (.int .i64 s.p1.off) := A0.out.cell 8
  have x9 : W0.cell? ⟨w.heap.size, 9, none⟩ = some (.int .i64 s.p1.ring) := A0.out.cell 9
  have x10 : W0.cell? ⟨w.heap.size, 10, none⟩ = some (.int .i64 s.p2.seg) := A0.out.cell 10
  have x11 : W0.cell? ⟨w.heap.size, 11, none⟩ = some (.int .i64 s.p2.off) := A0.out.cell 11
  have x12 : W0.cell? ⟨w.heap.size, 12, none⟩ = some (.int .i64 s.p2.ring) := A0.out.cell 12
  have x13 : W0.cell? ⟨w.heap.size, 13, none⟩ = some (.int .i64 s.p3.seg) := A0.out.cell 13
  have x14 : W0.cell? ⟨w.heap.size, 14, none⟩ = some (.int .i64 s.p3.off) := A0.out.cell 14
  have x15 : W0.cell? ⟨w.heap.size, 15, none⟩ = some (.int .i64 s.p3.ring) := A0.out.cell 15
  have x17 : W0.cell? ⟨w.heap.size, 17, none⟩ = some (.bool s.hal) := A0.out.cell 17
  go_wp2_with (first | ((with_reducible refine wpList_store_rs (op := ⟨none, .store 39 (.tmp 3) (.tmp 17), _, _, _, _⟩) (N := W0.heap.size) (s := St.zero) (stk := (.slice none 0 0)) (s' := s) (stk' := (.slice none 0 0)) ?_ (.tmp 3) (.tmp 17) ?_ ?_ ?_ ?_ ?_ ?_); exact rfl; exact rfl; exact rfl; exact rfl; exact (show rsAt _ W0.heap.size St.zero (.slice none 0 0) from heap_alloc_new W0 (.cells (stC St.zero (.slice none 0 0)) 39)); exact rfl; intro w1 S1 F1; have F1 := Lib.hid F1; have S1 := Lib.hid S1; clear x0 x1 x2 x3 x4 x5 x6 x7 x8 x9 x10 x11 x12 x13 x14 x15 x17))
  have B1 : Below W0.heap.size W0 w1 := Off.below (below_al0 W0 (.cells (stC St.zero (.slice none 0 0)) 39)) F1.out (by simp) (fun k hk => by omega)
  have H0 : Hid (StR w w1 s (.slice ua l.length uc) l W0.heap.size 0 (.slice none 0 0)) := ⟨Off.keeps (.of_below (ex := fun _ => False) B1) A0.out id, Off.keeps (.of_below (ex := fun _ => False) B1) R0.out id, S1.out, ⟨rfl, .inl ⟨rfl, rfl⟩⟩, Off.row (ex := fun _ => False) (.of_below (below2 HB.out B1)) hu.out (fun _ h => h.elim), below2 HB.out B1, R0.out.lt⟩
  clear B1 F1 S1
  go_loopw [4] (fun kv wr => ∃ (k : Nat) (v : Value), kv = .int .i64 k ∧ k ≤ l.length ∧ Hid (StR w wr s (.slice ua l.length uc) l W0.heap.size k v)) (fun kv _ => l.length - (intOf kv).toNat)
  case atStart => exact ⟨0, _, rfl, by omega, H0⟩
  case round =>
    clear H0
    obtain ⟨k, v, rfl, hkl, HR⟩ := hrel
    have hone : Hid (v.oneCell' = true) := by obtain ⟨x1, x2, x3, _⟩ := row_shape HR.out.row; subst x3; rfl
    have a6 : wr.cell? ⟨w.heap.size, 16, none⟩ = some (.slice ua l.length uc) := HR.out.a.cell 16
    by_cases hk : k < l.length
    · obtain ⟨gu, cu, hcu⟩ := row_some hu.out (by omega)
      cases hcu
      obtain ⟨f, hf⟩ : ∃ f, Hid (l[k]? = some f) := ⟨_, List.getElem?_eq_getElem hk⟩
      have hkm : (l.length : Int) ≤ 9223372036854775807 := by have := hbig.out; omega
      go_upto_region 5 with fail
      have HD : Hid (StR w wr.drew s (.slice (some ⟨gu, 0, none⟩) l.length uc) l W0.heap.size k v) := Lib.hid ⟨HR.out.a, HR.out.r, HR.out.t, HR.out.row, HR.out.us, below_drew HR.out.bl, HR.out.lt⟩
      have TT : Hid (rsAt wr.drew W0.heap.size s v) := HD.out.t
      obtain ⟨iF, hiF, hz0, hz1, hz2⟩ := info_parts A.infoRF
      refine wp_region_held_drew (S := fun w' => Off (fun b => w.heap.size + 1 < b) wr.drew w') (by kernel_rfl) (Off.refl _ _) (fun hHeld => ?_)
      generalize wr.drew = D at HD TT hHeld ⊢
      have OC : Hid (Off (fun b => w.heap.size + 1 < b) D D) := Off.refl _ _
      clear a6
      have k6 : ∀ w', Off (fun b => w.heap.size + 1 < b) D w' → w'.cell? ⟨w.heap.size, 16, none⟩ = some (.slice (some ⟨gu, 0, none⟩) l.length uc) := fun w' h => (show stAt w' w.heap.size s _ from Off.keeps h HD.out.a (by omega)).cell 16
      have hgu : Hid (gu < w.heap.size) := by obtain ⟨cs, hc⟩ := row_blk hu.out; exact (Array.getElem?_eq_some_iff.1 hc).1
      have l0 : ∀ w', Off (fun b => w.heap.size + 1 < b) D w' → w'.cell? ⟨gu, k * 3, none⟩ = some (.int .i64 f.seg) := fun w' h => off_cell h (by simpa [Addr.add_mk1] using row_cells HD.out.us _ rfl (k * 3 + 0) _ (frC_get l k f hf.out 0 (by omega))) (by show ¬ w.heap.size + 1 < gu; have := hgu.out; omega)
      have l1 : ∀ w', Off (fun b => w.heap.size + 1 < b) D w' → w'.cell? ⟨gu, k * 3 + 1, none⟩ = some (.int .i64 f.off) := fun w' h => off_cell h (by simpa [Addr.add_mk1] using row_cells HD.out.us _ rfl (k * 3 + 1) _ (frC_get l k f hf.out 1 (by omega))) (by show ¬ w.heap.size + 1 < gu; have := hgu.out; omega)
      have l2 : ∀ w', Off (fun b => w.heap.size + 1 < b) D w' → w'.cell? ⟨gu, k * 3 + 2, none⟩ = some (.int .i64 f.ring) := fun w' h => off_cell h (by simpa [Addr.add_mk1] using row_cells HD.out.us _ rfl (k * 3 + 2) _ (frC_get l k f hf.out 2 (by omega))) (by show ¬ w.heap.size + 1 < gu; have := hgu.out; omega)
      refine tkA 0 ?_
      try simp only [Act.put, sA, sB, sC]
      refine tkA 2 ?_
      try simp only [Act.put, sA, sB, sC]
      refine tkA 3 ?_
      try simp only [Act.put, sA, sB, sC]
      refine tkA 4 ?_
      try simp only [Act.put, sA, sB, sC]
      refine tkA 5 ?_
      try simp only [Act.put, sA, sB, sC]
      refine tkA 6 ?_
      try simp only [Act.put, sA, sB, sC]
      refine tkA 7 ?_
      try simp only [Act.put, sA, sB, sC]
      refine tkA 8 ?_
      try simp only [Act.put, sA, sB, sC]
      refine tkA 9 ?_
      try simp only [Act.put, sA, sB, sC]
      refine tkA 10 ?_
      try simp only [Act.put, sA, sB, sC]
      refine tkA 11 ?_
      try simp only [Act.put, sA, sB, sC]
      refine tkA 12 ?_
      try simp only [Act.put, sA, sB, sC]
      refine tkA 13 ?_
      try simp only [Act.put, sA, sB, sC]
      refine tkA 14 ?_
      try simp only [Act.put, sA, sB, sC]
      refine tkA 15 ?_
      try simp only [Act.put, sA, sB, sC]
      refine tkA 16 ?_
      try simp only [Act.put, sA, sB, sC]
      refine tkA 17 ?_
      try simp only [Act.put, sA, sB, sC]
      refine tkA 18 ?_
      try simp only [Act.put, sA, sB, sC]
      refine tkA 19 ?_
      try simp only [Act.put, sA, sB, sC]
      refine tkA 20 ?_
      try simp only [Act.put, sA, sB, sC]
      clear k6 l0 l1 l2
      refine rdB 1 21 (fun K hK => ?_) (fun K hK => ?_)
      · have tc : D.cell? ⟨W0.heap.size, 16, none⟩ = some v := (show rsAt D W0.heap.size s v from TT.out).cell 16
        go_simp
        clear tc
        refine hK.out _ _ ?_ (fun hHeld => ?_)
        · exact OC.out
        clear hK K
        try simp only [Act.put, sA, sB, sC]
        refine rdA 21 (fun K hK => ?_)
        go_simp
        have OX : Hid (Off (fun b => w.heap.size + 1 < b) D (D.alloc (.cells #[.int .i64 f.seg, .int .i64 f.off, .int .i64 f.ring] 92))) := OC.out.alloc _
        refine hK.out _ _ ?_ (fun hHeld => ?_)
        · exact OX.out
        clear hK K
        try simp only [Act.put, sA, sB, sC]
        replace TT : Hid (rsAt (D.alloc (.cells #[.int .i64 f.seg, .int .i64 f.off, .int .i64 f.ring] 92)) W0.heap.size s v) := Off.keeps (ex := fun _ => False) ((Off.refl _ _).alloc (.cells #[.int .i64 f.seg, .int .i64 f.off, .int .i64 f.ring] 92)) HD.out.t id
        have hrow : Hid ((D.alloc (.cells #[.int .i64 f.seg, .int .i64 f.off, .int .i64 f.ring] 92)).ownsRow (w.heap.size + 2) 92 3 v k (frC (l.take k))) := Off.row (ex := fun _ => False) ((Off.refl _ _).alloc (.cells #[.int .i64 f.seg, .int .i64 f.off, .int .i64 f.ring] 92)) HD.out.row (fun _ h => h.elim)
        replace OC := OX
        clear OX
        refine rdA 22 (fun K hK => ?_)
        rw [if_pos (by rfl)]
        refine wp_append_own _ (.tmp 26) (.tmp 46) 37 rfl (w.heap.size + 2) 92 iF (.agg #[.int .i64 0, .int .i64 0, .int .i64 0]) 3 24 A.underRF hiF hz0 hz1 hz2 rfl (by decide) v k (frC (l.take k)) rfl hrow.out ⟨D.heap.size, 0, none⟩ 1 1 [.int .i64 f.seg, .int .i64 f.off, .int .i64 f.ring] rfl rfl (fun j u hj => (by rw [← hj]; simp [Addr.add_mk1])) (by intro u hu; simp only [List.mem_cons, List.not_mem_nil, or_false] at hu; rcases hu with rfl | rfl | rfl <;> rfl) (by have := hbig.out; unfold maxLen; omega) (by have := hbig.out; omega) (by have h1 := HD.out.r.lt; simp; omega) ?_
        intro v' w5 hown hgrow _
        obtain ⟨x1, x2, x3⟩ := row_some hown (by omega)
        subst x3
        have HN := Lib.hid (HD.out.snoc hrow.out hown hgrow hf.out)
        have T5 : Hid (rsAt w5 W0.heap.size s v) := Lib.hid (StR.keepT HD.out hrow.out hgrow)
        have OX : Hid (Off (fun b => w.heap.size + 1 < b) D w5) := OC.out.grown hgrow (fun j hj => .inl (by have h1 := (hrow.out.lt j hj).1; show w.heap.size + 1 < j; omega))
        refine hK.out _ _ ?_ (fun hHeld => ?_)
        · exact OX.out
        clear hK K hown hgrow TT OC hrow
        try simp only [Act.put, sA, sB, sC]
        refine tkA 23 ?_
        try simp only [Act.put, sA, sB, sC]
        have t5 : w5.cell? ⟨W0.heap.size, 16, none⟩ = some v := T5.out.cell 16
        have tf : ∀ j, w5.frozen? ⟨W0.heap.size, j, none⟩ = false := fun j => T5.out.free j
        have tR : W0.heap.size < w5.heap.size := T5.out.lt
        refine rdA 24 (fun K hK => ?_)
        go_simp
        have OZ : Hid (Off (fun b => w.heap.size + 1 < b) D (w5.setCell ⟨W0.heap.size, 16, none⟩ (.slice (some ⟨x1, 0, none⟩) (k + 1) x2))) := OX.out.setCell (.inl HD.out.lt) _
        refine hK.out _ _ ?_ (fun hHeld => ?_)
        · exact OZ.out
        clear hK K
        try simp only [Act.put, sA, sB, sC]
        clear t5 tf tR T5 OX OZ
        generalize w5.setCell ⟨W0.heap.size, 16, none⟩ (.slice (some ⟨x1, 0, none⟩) (k + 1) x2) = Z at HN ⊢
        refine wpAnyH_done (by kernel_rfl) ?_ _
        go_wp2_with fail
        go_roundw
        case rel => exact ⟨k + 1, _, by go_num, by omega, HN⟩
        case measure => simp [intOf]; omega
      · go_simp
        have OX : Hid (Off (fun b => w.heap.size + 1 < b) D (D.alloc (.cells #[.int .i64 f.seg, .int .i64 f.off, .int .i64 f.ring] 92))) := OC.out.alloc _
        refine hK.out _ _ ?_ (fun hHeld => ?_)
        · exact OX.out
        clear hK K
        try simp only [Act.put, sA, sB, sC]
        replace TT : Hid (rsAt (D.alloc (.cells #[.int .i64 f.seg, .int .i64 f.off, .int .i64 f.ring] 92)) W0.heap.size s v) := Off.keeps (ex := fun _ => False) ((Off.refl _ _).alloc (.cells #[.int .i64 f.seg, .int .i64 f.off, .int .i64 f.ring] 92)) HD.out.t id
        have hrow : Hid ((D.alloc (.cells #[.int .i64 f.seg, .int .i64 f.off, .int .i64 f.ring] 92)).ownsRow (w.heap.size + 2) 92 3 v k (frC (l.take k))) := Off.row (ex := fun _ => False) ((Off.refl _ _).alloc (.cells #[.int .i64 f.seg, .int .i64 f.off, .int .i64 f.ring] 92)) HD.out.row (fun _ h => h.elim)
        replace OC := OX
        clear OX
        refine rdA 1 (fun K hK => ?_)
        have tc : (D.alloc (.cells #[.int .i64 f.seg, .int .i64 f.off, .int .i64 f.ring] 92)).cell? ⟨W0.heap.size, 16, none⟩ = some v := (show rsAt (D.alloc (.cells #[.int .i64 f.seg, .int .i64 f.off, .int .i64 f.ring] 92)) W0.heap.size s v from TT.out).cell 16
        go_simp
        clear tc
        refine hK.out _ _ ?_ (fun hHeld => ?_)
        · exact OC.out
        clear hK K
        try simp only [Act.put, sA, sB, sC]
        refine rdA 22 (fun K hK => ?_)
        rw [if_pos (by rfl)]
        refine wp_append_own _ (.tmp 26) (.tmp 46) 37 rfl (w.heap.size + 2) 92 iF (.agg #[.int .i64 0, .int .i64 0, .int .i64 0]) 3 24 A.underRF hiF hz0 hz1 hz2 rfl (by decide) v k (frC (l.take k)) rfl hrow.out ⟨D.heap.size, 0, none⟩ 1 1 [.int .i64 f.seg, .int .i64 f.off, .int .i64 f.ring] rfl rfl (fun j u hj => (by rw [← hj]; simp [Addr.add_mk1])) (by intro u hu; simp only [List.mem_cons, List.not_mem_nil, or_false] at hu; rcases hu with rfl | rfl | rfl <;> rfl) (by have := hbig.out; unfold maxLen; omega) (by have := hbig.out; omega) (by have h1 := HD.out.r.lt; simp; omega) ?_
        intro v' w5 hown hgrow _
        obtain ⟨x1, x2, x3⟩ := row_some hown (by omega)
        subst x3
        have HN := Lib.hid (HD.out.snoc hrow.out hown hgrow hf.out)
        have T5 : Hid (rsAt w5 W0.heap.size s v) := Lib.hid (StR.keepT HD.out hrow.out hgrow)
        have OX : Hid (Off (fun b => w.heap.size + 1 < b) D w5) := OC.out.grown hgrow (fun j hj => .inl (by have h1 := (hrow.out.lt j hj).1; show w.heap.size + 1 < j; omega))
        refine hK.out _ _ ?_ (fun hHeld => ?_)
        · exact OX.out
        clear hK K hown hgrow TT OC hrow
        try simp only [Act.put, sA, sB, sC]
        refine tkA 23 ?_
        try simp only [Act.put, sA, sB, sC]
        have t5 : w5.cell? ⟨W0.heap.size, 16, none⟩ = some v := T5.out.cell 16
        have tf : ∀ j, w5.frozen? ⟨W0.heap.size, j, none⟩ = false := fun j => T5.out.free j
        have tR : W0.heap.size < w5.heap.size := T5.out.lt
        refine rdA 24 (fun K hK => ?_)
        go_simp
        have OZ : Hid (Off (fun b => w.heap.size + 1 < b) D (w5.setCell ⟨W0.heap.size, 16, none⟩ (.slice (some ⟨x1, 0, none⟩) (k + 1) x2))) := OX.out.setCell (.inl HD.out.lt) _
        refine hK.out _ _ ?_ (fun hHeld => ?_)
        · exact OZ.out
        clear hK K
        try simp only [Act.put, sA, sB, sC]
        clear t5 tf tR T5 OX OZ
        generalize w5.setCell ⟨W0.heap.size, 16, none⟩ (.slice (some ⟨x1, 0, none⟩) (k + 1) x2) = Z at HN ⊢
        refine wpAnyH_done (by kernel_rfl) ?_ _
        go_wp2_with fail
        go_roundw
        case rel => exact ⟨k + 1, _, by go_num, by omega, HN⟩
        case measure => simp [intOf]; omega
    · have hk' : k = l.length := by omega
      subst hk'
      go_wp2_with (first | ((with_reducible refine wpList_load_rs (op := ⟨some 49, .load 39 (.tmp 3), _, _, _, _⟩) (N := W0.heap.size) (s := s) (stk := v) ?_ (.tmp 3) ?_ ?_ ?_ ?_); exact rfl; exact rfl; exact rfl; exact rs_range HR.out.t) | ((with_reducible refine wpList_store_rs (op := ⟨none, .store 39 (.tmp 2) (.tmp 49), _, _, _, _⟩) (N := (w.heap.size + 1)) (s := St.zero) (stk := (.slice none 0 0)) (s' := s) (stk' := v) ?_ (.tmp 2) (.tmp 49) ?_ ?_ ?_ ?_ ?_ ?_); exact rfl; exact rfl; exact rfl; exact rfl; exact HR.out.r; exact hone.out; intro w7 S7 F7; have F7 := Lib.hid F7; have S7 := Lib.hid S7))
      have ho : Off (· = w.heap.size + 1) wr w7 := F7.out
      exact bodyPost_ret (state_results S7.out _ rfl) rfl ⟨v, rfl, row_base (Off.row ho (by have h := HR.out.row; rw [List.take_length] at h; exact h) (rs_not HR.out.r _ (by decide))) (Nat.zero_le _), Off.below HR.out.bl ho HR.out.bl.size (fun j hj => by omega)⟩
end Go.Proofs.Ytiakonmamkfopaa
