/- Two states are the same. -/
import Derived.Test.YtiakonmamkfopaaCpuEq
import Derived.Deep.RegionHeld3
import Derived.Deep.CutRange
namespace Go.Proofs.Ytiakonmamkfopaa
open Go.RowKit Go.ChangeShapes
set_option linter.unusedVariables false
set_option maxRecDepth 100000

/-- block N is a state, as the document has it -/
def rsAt (w : World) (N : Nat) (s : St) (stk : Value) : Prop := w.heap[N]? = some (.cells (stC s stk) 39 (0, 0))
theorem rsAt.cell {w : World} {N : Nat} {s : St} {stk : Value} (h : rsAt w N s stk) (j : Nat) : w.cell? ⟨N, j, none⟩ = (stC s stk)[j]? := cell_of_row w N j _ _ _ h
theorem rsAt.free {w : World} {N : Nat} {s : St} {stk : Value} (h : rsAt w N s stk) (j : Nat) : w.frozen? ⟨N, j, none⟩ = false := by
  simp [World.frozen?, show w.heap[N]? = _ from h]
theorem rsAt.lt {w : World} {N : Nat} {s : St} {stk : Value} (h : rsAt w N s stk) : N < w.heap.size := (Array.getElem?_eq_some_iff.1 h).1
/-- callers, as the document has them -/
def rstkAt (w : World) (v : Value) (l : List Fr) : Prop := w.ownsRow 0 92 3 v l.length (frC l)
theorem eq_fr (a b c : Int) (w : World) : (Op.equalIn 10000 92 (.agg #[.int .i64 a, .int .i64 b, .int .i64 c]) (.agg #[.int .i64 a, .int .i64 b, .int .i64 c])).run Try.prog w = .ok true w := by
  go_simp
theorem frC_get : ∀ (l : List Fr) (k : Nat) (f : Fr), l[k]? = some f → ∀ j, j < 3 → (frC l)[k * 3 + j]? = ([.int .i64 f.seg, .int .i64 f.off, .int .i64 f.ring] : List Value)[j]?
  | g :: l, 0, f, h, j, hj => by
    simp only [List.getElem?_cons_zero, Option.some.injEq] at h
    subst h
    rcases (show j = 0 ∨ j = 1 ∨ j = 2 by omega) with rfl | rfl | rfl <;> rfl
  | g :: l, k + 1, f, h, j, hj => by
    have ih := frC_get l k f (by simpa using h) j hj
    have e : (k + 1) * 3 + j = (k * 3 + j) + 3 := by omega
    rw [e]
    simpa [frC] using ih
  | [], k, f, h, _, _ => by simp at h
theorem Addr.add_mk1 (B j : Nat) : (⟨B, 0, none⟩ : Addr).add j = ⟨B, j, none⟩ := by
  unfold Addr.add
  by_cases h : j = 0
  · subst h; rfl
  · simp [h]
/-- the two states, on the way -/
structure SameR (w wr : World) (s : St) (l : List Fr) (u v : Value) : Prop where
  a : rsAt wr w.heap.size s u
  b : rsAt wr (w.heap.size + 1) s v
  u : rstkAt wr u l
  v : rstkAt wr v l
  bl : Below w.heap.size w wr
set_option maxHeartbeats 8000000 in
theorem c_same (w : World) (s : St) (l : List Fr) (u v : Value) (hu : rstkAt w u l) (hv : rstkAt w v l) (hbig : l.length < 1000000) : Calls Try.prog 18 #[.agg (stC s u), .agg (stC s v)] w fun e w' => e = .returned (.bool true) ∧ Below w.heap.size w w' := by
  obtain ⟨ua, uc, rfl, hu0, hu1⟩ := row_shape hu
  obtain ⟨va, vc, rfl, hv0, hv1⟩ := row_shape hv
  obtain ⟨W0, hW0, A0, B0, HB⟩ : ∃ W, (w.alloc (.cells (stC s (.slice ua l.length uc)) 39)).alloc (.cells (stC s (.slice va l.length vc)) 39) = W ∧ Hid (rsAt W w.heap.size s (.slice ua l.length uc)) ∧ Hid (rsAt W (w.heap.size + 1) s (.slice va l.length vc)) ∧ Hid (Below w.heap.size w W) := by
    refine ⟨_, rfl, ?_, ?_, below_al (below_al0 _ _) _⟩
    · exact Off.keeps (ex := fun _ => False) ((Off.refl _ _).alloc _) (heap_alloc_new w (.cells (stC s (.slice ua l.length uc)) 39)) id
    · have h0 := heap_alloc_new (w.alloc (.cells (stC s (.slice ua l.length uc)) 39)) (.cells (stC s (.slice va l.length vc)) 39)
      rw [World.size_alloc] at h0
      exact h0
  replace hW0 := Lib.hid hW0
  replace hu := Lib.hid hu
  replace hv := Lib.hid hv
  replace hbig := Lib.hid hbig
  have hArr := eq_arr s.p0.seg s.p0.off s.p0.ring s.p1.seg s.p1.off s.p1.ring s.p2.seg s.p2.off s.p2.ring s.p3.seg s.p3.off s.p3.ring
  go_enter Try.func18, Try.ntmps18
  go_upto_region 1 with fail
  rw [show (w.alloc (.cells (stC s (.slice ua l.length uc)) 39)).alloc (.cells (stC s (.slice va l.length vc)) 39) = W0 from hW0.out]
  clear hW0
  have xA0 : W0.cell? ⟨w.heap.size, 0, none⟩ = some (.int .i64 s.seg) := A0.out.cell 0
  have xA1 : W0.cell? ⟨w.heap.size, 1, none⟩ = some (.int .i64 s.off) := A0.out.cell 1
  have xA2 : W0.cell? ⟨w.heap.size, 2, none⟩ = some (.int .i64 s.ring) := A0.out.cell 2
  have xA3 : W0.cell? ⟨w.heap.size, 3, none⟩ = some (.int .i64 s.a) := A0.out.cell 3
  have xA4 : W0.cell? ⟨w.heap.size, 4, none⟩ = some (.int .i64 s.p0.seg) := A0.out.cell 4
  have xA5 : W0.cell? ⟨w.heap.size, 5, none⟩ = some (.int .i64 s.p0.off) := A0.out.cell 5
  have xA6 : W0.cell? ⟨w.heap.size, 6, none⟩ = some (.int .i64 s.p0.ring) := A0.out.cell 6
  have xA7 : W0.cell? ⟨w.heap.size, 7, none⟩ = some (.int .i64 s.p1.seg) := A0.out.cell 7
  have xA8 : W0.cell? ⟨w.heap.size, 8, none⟩ = some (.int .i64 s.p1.off) := A0.out.cell 8
  have xA9 : W0.cell? ⟨w.heap.size, 9, none⟩ = some (.int .i64 s.p1.ring) := A0.out.cell 9
  have xA10 : W0.cell? ⟨w.heap.size, 10, none⟩ = some (.int .i64 s.p2.seg) := A0.out.cell 10
  have xA11 : W0.cell? ⟨w.heap.size, 11, none⟩ = some (.int .i64 s.p2.off) := A0.out.cell 11
  have xA12 : W0.cell? ⟨w.heap.size, 12, none⟩ = some (.int .i64 s.p2.ring) := A0.out.cell 12
  have xA13 : W0.cell? ⟨w.heap.size, 13, none⟩ = some (.int .i64 s.p3.seg) := A0.out.cell 13
  have xA14 : W0.cell? ⟨w.heap.size, 14, none⟩ = some (.int .i64 s.p3.off) := A0.out.cell 14
  have xA15 : W0.cell? ⟨w.heap.size, 15, none⟩ = some (.int .i64 s.p3.ring) := A0.out.cell 15
  have xA16 : W0.cell? ⟨w.heap.size, 16, none⟩ = some (.slice ua l.length uc) := A0.out.cell 16
  have xA17 : W0.cell? ⟨w.heap.size, 17, none⟩ = some (.bool s.hal) := A0.out.cell 17
  have xB0 : W0.cell? ⟨(w.heap.size + 1), 0, none⟩ = some (.int .i64 s.seg) := B0.out.cell 0
  have xB1 : W0.cell? ⟨(w.heap.size + 1), 1, none⟩ = some (.int .i64 s.off) := B0.out.cell 1
  have xB2 : W0.cell? ⟨(w.heap.size + 1), 2, none⟩ = some (.int .i64 s.ring) := B0.out.cell 2
  have xB3 : W0.cell? ⟨(w.heap.size + 1), 3, none⟩ = some (.int .i64 s.a) := B0.out.cell 3
  have xB4 : W0.cell? ⟨(w.heap.size + 1), 4, none⟩ = some (.int .i64 s.p0.seg) := B0.out.cell 4
  have xB5 : W0.cell? ⟨(w.heap.size + 1), 5, none⟩ = some (.int .i64 s.p0.off) := B0.out.cell 5
  have xB6 : W0.cell? ⟨(w.heap.size + 1), 6, none⟩ = some (.int .i64 s.p0.ring) := B0.out.cell 6
  have xB7 : W0.cell? ⟨(w.heap.size + 1), 7, none⟩ = some (.int .i64 s.p1.seg) := B0.out.cell 7
  have xB8 : W0.cell? ⟨(w.heap.size + 1), 8, none⟩ = some (.int .i64 s.p1.off) := B0.out.cell 8
  have xB9 : W0.cell? ⟨(w.heap.size + 1), 9, none⟩ = some (.int .i64 s.p1.ring) := B0.out.cell 9
  have xB10 : W0.cell? ⟨(w.heap.size + 1), 10, none⟩ = some (.int .i64 s.p2.seg) := B0.out.cell 10
  have xB11 : W0.cell? ⟨(w.heap.size + 1), 11, none⟩ = some (.int .i64 s.p2.off) := B0.out.cell 11
  have xB12 : W0.cell? ⟨(w.heap.size + 1), 12, none⟩ = some (.int .i64 s.p2.ring) := B0.out.cell 12
  have xB13 : W0.cell? ⟨(w.heap.size + 1), 13, none⟩ = some (.int .i64 s.p3.seg) := B0.out.cell 13
  have xB14 : W0.cell? ⟨(w.heap.size + 1), 14, none⟩ = some (.int .i64 s.p3.off) := B0.out.cell 14
  have xB15 : W0.cell? ⟨(w.heap.size + 1), 15, none⟩ = some (.int .i64 s.p3.ring) := B0.out.cell 15
  have xB16 : W0.cell? ⟨(w.heap.size + 1), 16, none⟩ = some (.slice va l.length vc) := B0.out.cell 16
  have xB17 : W0.cell? ⟨(w.heap.size + 1), 17, none⟩ = some (.bool s.hal) := B0.out.cell 17
  go_wp2_with fail
  have H0 : Hid (SameR w W0 s l (.slice ua l.length uc) (.slice va l.length vc)) := ⟨A0.out, B0.out, Off.row (ex := fun _ => False) (.of_below HB.out) hu.out (fun _ h => h.elim), Off.row (ex := fun _ => False) (.of_below HB.out) hv.out (fun _ h => h.elim), HB.out⟩
  clear xA0 xA1 xA2 xA3 xA4 xA5 xA6 xA7 xA8 xA9 xA10 xA11 xA12 xA13 xA14 xA15 xA16 xA17 xB0 xB1 xB2 xB3 xB4 xB5 xB6 xB7 xB8 xB9 xB10 xB11 xB12 xB13 xB14 xB15 xB16 xB17 A0 B0 hArr HB
  go_loopw [5] (fun kv wr => ∃ (k : Nat), kv = .int .i64 k ∧ k ≤ l.length ∧ Hid (SameR w wr s l (.slice ua l.length uc) (.slice va l.length vc))) (fun kv _ => l.length - (intOf kv).toNat)
  case atStart => exact ⟨0, rfl, by omega, H0⟩
  case round =>
    clear H0
    obtain ⟨k, rfl, hkl, HR⟩ := hrel
    have a6 : wr.cell? ⟨w.heap.size, 16, none⟩ = some (.slice ua l.length uc) := HR.out.a.cell 16
    by_cases hk : k < l.length
    · obtain ⟨gu, cu, hcu⟩ := row_some hu.out (by omega)
      cases hcu
      obtain ⟨gv, cv, hcv⟩ := row_some hv.out (by omega)
      cases hcv
      obtain ⟨f, hf⟩ : ∃ f, l[k]? = some f := ⟨_, List.getElem?_eq_getElem hk⟩
      have hkm : (k : Int) + 1 ≤ 9223372036854775807 := by have := hbig.out; omega
      go_wp2_with fail
      have HD : Hid (SameR w wr.drew s l (.slice (some ⟨gu, 0, none⟩) l.length uc) (.slice (some ⟨gv, 0, none⟩) l.length vc)) := Lib.hid ⟨HR.out.a, HR.out.b, HR.out.u, HR.out.v, below_drew HR.out.bl⟩
      clear a6
      have d6 : wr.drew.cell? ⟨w.heap.size, 16, none⟩ = some (.slice (some ⟨gu, 0, none⟩) l.length uc) := HD.out.a.cell 16
      have d7 : wr.drew.cell? ⟨w.heap.size + 1, 16, none⟩ = some (.slice (some ⟨gv, 0, none⟩) l.length vc) := HD.out.b.cell 16
      have f0 : wr.drew.cell? ⟨gu, k * 3, none⟩ = some (.int .i64 f.seg) := by simpa [Addr.add_mk1] using row_cells HD.out.u _ rfl (k * 3 + 0) _ (frC_get l k f hf 0 (by omega))
      have f1 : wr.drew.cell? ⟨gu, k * 3 + 1, none⟩ = some (.int .i64 f.off) := by simpa [Addr.add_mk1] using row_cells HD.out.u _ rfl (k * 3 + 1) _ (frC_get l k f hf 1 (by omega))
      have f2 : wr.drew.cell? ⟨gu, k * 3 + 2, none⟩ = some (.int .i64 f.ring) := by simpa [Addr.add_mk1] using row_cells HD.out.u _ rfl (k * 3 + 2) _ (frC_get l k f hf 2 (by omega))
      have g0 : wr.drew.cell? ⟨gv, k * 3, none⟩ = some (.int .i64 f.seg) := by simpa [Addr.add_mk1] using row_cells HD.out.v _ rfl (k * 3 + 0) _ (frC_get l k f hf 0 (by omega))
      have g1 : wr.drew.cell? ⟨gv, k * 3 + 1, none⟩ = some (.int .i64 f.off) := by simpa [Addr.add_mk1] using row_cells HD.out.v _ rfl (k * 3 + 1) _ (frC_get l k f hf 1 (by omega))
      have g2 : wr.drew.cell? ⟨gv, k * 3 + 2, none⟩ = some (.int .i64 f.ring) := by simpa [Addr.add_mk1] using row_cells HD.out.v _ rfl (k * 3 + 2) _ (frC_get l k f hf 2 (by omega))
      have hFr := eq_fr f.seg f.off f.ring
      go_region_held3 (fun w' => w' = wr.drew)
        ((first | rfl | assumption))
        ((first | fail))
      go_wp2
      go_roundw
      case rel => exact ⟨k + 1, by go_num, by omega, HD⟩
      case measure => simp [intOf]; omega
    · have hk' : k = l.length := by omega
      subst hk'
      go_wp2
      go_ret
      exact ⟨rfl, HR.out.bl⟩
end Go.Proofs.Ytiakonmamkfopaa
