/- The document's processor: a segment of a memory. The document's processor: arith, fetch. The document's processor: raise. The document's processor: read. -/
import Derived.Test.YtiakonmamkfopaaZCpuD
import Derived.Test.YtiakonmamkfopaaZCpuMa
import Derived.Test.YtiakonmamkfopaaZCpuMd
import Derived.LoopN
namespace Go.Proofs.Ytiakonmamkfopaa
open Go.RowKit Go.ChangeShapes
set_option linter.unusedVariables false
set_option maxRecDepth 100000
/-- a segment, read whole -/
def sgA (u : Value) (g : Sg) : Value := .agg #[.bool g.is, u, .int .i64 g.md, .int .i64 g.r1, .int .i64 g.r2, .int .i64 g.r3, .int .i64 g.g]
def Sg0 : Sg := ⟨false, [], 0, 0, 0, 0, 0⟩
def KnP (M : List Sg) (k : Int) (w : World) (e : Ending) (w' : World) : Prop := ∃ (ad : Option Addr) (cap : Nat) (g : Sg), e = .returned (sgA (.slice ad g.ws.length cap) g) ∧ (seg? M k = if g.is then some g else none) ∧ w'.ownsRow 0 2 1 (.slice ad g.ws.length cap) g.ws.length (g.ws.map (Value.int .i64)) ∧ Below w.heap.size w w'
theorem nil_row (w : World) : w.ownsRow 0 2 1 (.slice none 0 0) 0 [] := ⟨by simp, .inl ⟨rfl, rfl⟩⟩
theorem c_rknown (w : World) (mv : Value) (vs : List Value) (M : List Sg) (k : Int) (hM : Segs w 0 mv vs M) (h5 : M.length ≤ 1000) : Calls Try.prog 44 #[mv, .int .i64 k] w (KnP M k w) := by
  by_cases h0 : k < 0
  · have hs : Hid (seg? M k = none) := Lib.hid (by unfold seg?; rw [if_pos h0])
    go_enter Try.func44, Try.ntmps44
    go_wp2
    refine bodyPost_ret (v := sgA (.slice none 0 0) Sg0) (by simp [sgA, Sg0, results, Try.results44, go_sem]) rfl ?_
    exact ⟨none, 0, Sg0, rfl, hs.out, nil_row _, below_al0 _ _⟩
  · obtain ⟨K, rfl⟩ := Int.eq_ofNat_of_zero_le (show 0 ≤ k by omega)
    by_cases h1 : M.length ≤ K
    · have hs : Hid (seg? M (K : Int) = none) := Lib.hid (by unfold seg?; rw [if_neg h0, Int.toNat_natCast, List.getElem?_eq_none h1])
      obtain ⟨ad, cap, hv, _, _⟩ := row_shape hM.row
      subst hv
      clear hM
      go_enter Try.func44, Try.ntmps44
      go_wp2
      refine bodyPost_ret (v := sgA (.slice none 0 0) Sg0) (by simp [sgA, Sg0, results, Try.results44, go_sem]) rfl ?_
      exact ⟨none, 0, Sg0, rfl, hs.out, nil_row _, below_al0 _ _⟩
    · have hl := hM.len
      obtain ⟨gm, cap, hv⟩ := row_some hM.row (by omega)
      subst hv
      obtain ⟨g, hK⟩ : ∃ g, M[K]? = some g := ⟨_, List.getElem?_eq_getElem (by omega)⟩
      obtain ⟨u, hu⟩ : ∃ u, vs[K]? = some u := ⟨_, List.getElem?_eq_getElem (by omega)⟩
      have hrow := hM.words K g u hK hu
      obtain ⟨au, cu, hq, _, _⟩ := row_shape hrow
      subst hq
      obtain ⟨_, c0⟩ := row_cell hM.row (K * 7 + 0) (by rw [rows_get M vs K 0 g _ hK hu (by omega)]; rfl)
      obtain ⟨_, c1⟩ := row_cell hM.row (K * 7 + 1) (by rw [rows_get M vs K 1 g _ hK hu (by omega)]; rfl)
      obtain ⟨_, c2⟩ := row_cell hM.row (K * 7 + 2) (by rw [rows_get M vs K 2 g _ hK hu (by omega)]; rfl)
      obtain ⟨_, c3⟩ := row_cell hM.row (K * 7 + 3) (by rw [rows_get M vs K 3 g _ hK hu (by omega)]; rfl)
      obtain ⟨_, c4⟩ := row_cell hM.row (K * 7 + 4) (by rw [rows_get M vs K 4 g _ hK hu (by omega)]; rfl)
      obtain ⟨_, c5⟩ := row_cell hM.row (K * 7 + 5) (by rw [rows_get M vs K 5 g _ hK hu (by omega)]; rfl)
      obtain ⟨_, c6⟩ := row_cell hM.row (K * 7 + 6) (by rw [rows_get M vs K 6 g _ hK hu (by omega)]; rfl)
      simp only [Nat.add_zero] at c0
      have hgs : gm < w.heap.size := World.block_lt_of_cell? w _ c0
      have hs : Hid (seg? M (K : Int) = if g.is then some g else none) := Lib.hid (by unfold seg?; rw [if_neg h0, Int.toNat_natCast, hK])
      have HR := Lib.hid hrow
      have hKl : K < M.length := by omega
      clear hM hK hu hrow hl
      go_enter Try.func44, Try.ntmps44
      go_wp2
      refine bodyPost_ret (v := sgA (.slice au g.ws.length cu) g) (by simp [sgA, results, Try.results44, go_sem]) rfl ?_
      exact ⟨au, cu, g, rfl, hs.out, Off.row (ex := fun _ => False) (.of_below (below_al0 _ _)) HR.out (fun _ h => h.elim), below_al0 _ _⟩
end Go.Proofs.Ytiakonmamkfopaa
namespace Go.Proofs.Ytiakonmamkfopaa
open Go.RowKit Go.ChangeShapes
set_option linter.unusedVariables false
set_option maxRecDepth 100000
theorem below_drewN0 {B : Nat} {a w : World} (h : Below B a w) (n : Nat) : Below B a (w.drewN n) := ⟨h.os, h.tape, h.output, h.size, h.block⟩
set_option maxHeartbeats 1000000 in
theorem c_rarith (op a b : Int) (h : op = 1 ∨ 4 ≤ op ∧ op ≤ 11) (w : World) : Calls Try.prog 46 #[.int .i64 op, .int .i64 a, .int .i64 b] w fun e w' => e = .returned (.int .i64 (if op = 1 then b else arR op a b)) ∧ Below w.heap.size w w' := by
  rcases (show op = 1 ∨ op = 4 ∨ op = 5 ∨ op = 6 ∨ op = 7 ∨ op = 8 ∨ op = 9 ∨ op = 10 ∨ op = 11 by omega) with rfl | rfl | rfl | rfl | rfl | rfl | rfl | rfl | rfl
  · go_enter Try.func46, Try.ntmps46
    go_wp2
    go_ret
    exact ⟨by simp, Below.refl _ _⟩
  · go_enter Try.func46, Try.ntmps46
    go_wp2
    go_ret
    exact ⟨by simp [arR], Below.refl _ _⟩
  · go_enter Try.func46, Try.ntmps46
    go_wp2
    go_ret
    exact ⟨by simp [arR], Below.refl _ _⟩
  · go_enter Try.func46, Try.ntmps46
    go_wp2
    go_ret
    exact ⟨by simp [arR], Below.refl _ _⟩
  · go_enter Try.func46, Try.ntmps46
    go_wp2_with (first | (go_at_call 27; refine (r_FAdd a b _).mono ?_; rintro e w' ⟨rfl, n, rfl⟩))
    go_ret
    exact ⟨by simp [arR], below_drewN0 (Below.refl _ _) n⟩
  · go_enter Try.func46, Try.ntmps46
    go_wp2_with (first | (go_at_call 28; refine (r_FSub a b _).mono ?_; rintro e w' ⟨rfl, n, rfl⟩))
    go_ret
    exact ⟨by simp [arR], below_drewN0 (Below.refl _ _) n⟩
  · go_enter Try.func46, Try.ntmps46
    go_wp2_with (first | (go_at_call 29; refine (r_FMul a b _).mono ?_; rintro e w' ⟨rfl, n, rfl⟩))
    go_ret
    exact ⟨by simp [arR], below_drewN0 (Below.refl _ _) n⟩
  · go_enter Try.func46, Try.ntmps46
    go_wp2_with (first | (go_at_call 30; refine (r_FDiv a b _).mono ?_; rintro e w' ⟨rfl, n, rfl⟩))
    go_ret
    exact ⟨by simp [arR], below_drewN0 (Below.refl _ _) n⟩
  · go_enter Try.func46, Try.ntmps46
    go_wp2_with (first | (go_at_call 31; refine (r_FLess a b _).mono ?_; rintro e w' ⟨rfl, rfl⟩))
    go_ret
    exact ⟨by simp [arR], Below.refl _ _⟩
def feV (x : Except Int (Int × Int × Int)) : Value := match x with
  | .ok (op, p, n) => .tuple #[.agg #[.int .i64 op, .int .i64 p, .int .i64 n], .int .i64 0]
  | .error er => .tuple #[.agg #[.int .i64 0, .int .i64 0, .int .i64 0], .int .i64 er]
theorem fe_results {W : World} {N : Nat} {a b c : Value} {er : Int} (h : blk3 W N 64 a b c) (tmps : Array Value) (h4 : tmps[4]? = some (.pointer (some ⟨N, 0, none⟩))) (h5 : tmps[5]? = some (.int .i64 er)) : (results Try.f43 tmps).run Try.prog W = .ok (.tuple #[.agg #[a, b, c], .int .i64 er]) W := by
  obtain ⟨⟨c0, c1, c2⟩, _⟩ := h.facts
  simp [results, Try.results43, h4, h5, go_sem, c0, c1, c2]
set_option maxHeartbeats 4000000 in
theorem c_rfetch (w : World) (s : St) (ad : Option Addr) (n c : Nat) (mv : Value) (vs : List Value) (M : List Sg) (hM : Segs w 0 mv vs M) (h5 : M.length ≤ 1000) : Calls Try.prog 43 #[.agg (stC s (.slice ad n c)), mv] w fun e w' => e = .returned (feV (feR M s)) ∧ Below w.heap.size w w' := by
  obtain ⟨W0, hW0, A0, R0, HB⟩ : ∃ W, (w.alloc (.cells (stC s (.slice ad n c)) 39)).alloc (.cells #[.int .i64 0, .int .i64 0, .int .i64 0] 64) = W ∧ Hid (rsAt W w.heap.size s (.slice ad n c)) ∧ Hid (blk3 W (w.heap.size + 1) 64 (.int .i64 0) (.int .i64 0) (.int .i64 0)) ∧ Hid (Below w.heap.size w W) := by
    refine ⟨_, rfl, ?_, ?_, below_al (below_al0 _ _) _⟩
    · exact Off.keeps (ex := fun _ => False) ((Off.refl _ _).alloc _) (heap_alloc_new w (.cells (stC s (.slice ad n c)) 39)) id
    · have h0 := heap_alloc_new (w.alloc (.cells (stC s (.slice ad n c)) 39)) (.cells #[.int .i64 0, .int .i64 0, .int .i64 0] 64)
      rw [World.size_alloc] at h0
      exact h0
  replace hW0 := Lib.hid hW0
  replace hM := Lib.hid hM
  have hM0 : Hid (Segs W0 0 mv vs M) := hM.out.off (ex := fun _ => False) (.of_below HB.out) (fun _ h => h.elim) (fun _ h => h.elim)
  go_enter Try.func43, Try.ntmps43
  go_upto_region 1 with fail
  rw [show (w.alloc (.cells (stC s (.slice ad n c)) 39)).alloc (.cells #[.int .i64 0, .int .i64 0, .int .i64 0] 64) = W0 from hW0.out]
  clear hW0
  have x0 : W0.cell? ⟨w.heap.size, 0, none⟩ = some (.int .i64 s.seg) := A0.out.cell 0
  go_wp2_with fail
  refine (c_rknown W0 mv vs M s.seg hM0.out h5).mono ?_
  rintro e w1 ⟨au, cu, g, rfl, hseg, hrow, hb1⟩
  unfold sgA
  dsimp only
  have L1 := Lib.hid (below2 HB.out hb1)
  have x1 : w1.cell? ⟨w.heap.size, 1, none⟩ = some (.int .i64 s.off) := (show rsAt w1 w.heap.size s _ from Off.keeps (.of_below (ex := fun _ => False) hb1) A0.out id).cell 1
  have x2 : w1.cell? ⟨w.heap.size, 2, none⟩ = some (.int .i64 s.ring) := (show rsAt w1 w.heap.size s _ from Off.keeps (.of_below (ex := fun _ => False) hb1) A0.out id).cell 2
  have R1 : Hid (blk3 w1 (w.heap.size + 1) 64 (.int .i64 0) (.int .i64 0) (.int .i64 0)) := Off.keeps (.of_below (ex := fun _ => False) hb1) R0.out id
  obtain ⟨⟨r0, r1, r2⟩, rf⟩ := R1.out.facts
  have zl : w.heap.size + 1 < w1.heap.size := R1.out.lt
  have zl0 : w.heap.size < w1.heap.size := by omega
  replace hrow := Lib.hid hrow
  have AX : Hid (rsAt w1 w.heap.size s (.slice ad n c)) := Off.keeps (.of_below (ex := fun _ => False) hb1) A0.out id
  clear hb1 x0 hM0 hM A0 R0 HB
  cases his : g.is with
  | false =>
    rw [his] at hseg
    have hfe : Hid (feR M s = .error 35) := Lib.hid (by unfold feR; rw [hseg]; rfl)
    clear hseg
    go_wp2_with fail
    refine bodyPost_ret (fe_results (N := w.heap.size + 1) (er := 35) ?_ _ rfl rfl) rfl ⟨by rw [hfe.out]; rfl, ?_⟩
    · exact Off.keeps (ex := fun _ => False) ((Off.refl _ _).alloc _) (set3 R1.out _ _ _) id
    · repeat (with_reducible first | exact L4.out | exact L3.out | exact L2.out | exact L1.out | refine Below.setCell ?_ (by simp) _ | refine Below.alloc ?_ (by simp <;> omega) _)
  | true =>
    rw [his, if_pos rfl] at hseg
    cases hq1 : g.has 4 with
    | false =>
      have hfe : Hid (feR M s = .error 33) := Lib.hid (by unfold feR; rw [hseg]; simp [hq1])
      have hm : (bits .and .i64 g.md 4 == 0) = true := by unfold Sg.has at hq1; simpa using hq1
      clear hseg hq1
      go_wp2_with fail
      refine bodyPost_ret (fe_results (N := w.heap.size + 1) (er := 33) ?_ _ rfl rfl) rfl ⟨by rw [hfe.out]; rfl, ?_⟩
      · exact Off.keeps (ex := fun _ => False) ((Off.refl _ _).alloc _) (set3 R1.out _ _ _) id
      · repeat (with_reducible first | exact L4.out | exact L3.out | exact L2.out | exact L1.out | refine Below.setCell ?_ (by simp) _ | refine Below.alloc ?_ (by simp <;> omega) _)
    | true =>
      have hm : (bits .and .i64 g.md 4 == 0) = false := by unfold Sg.has at hq1; simpa using hq1
      go_wp2_with fail
      obtain ⟨V1, hV1, A1, R2, G1, B1⟩ : ∃ W, w1.alloc (.cells #[.bool true, .slice au g.ws.length cu, .int .i64 g.md, .int .i64 g.r1, .int .i64 g.r2, .int .i64 g.r3, .int .i64 g.g] 57) = W ∧ Hid (rsAt W w.heap.size s (.slice ad n c)) ∧ Hid (blk3 W (w.heap.size + 1) 64 (.int .i64 0) (.int .i64 0) (.int .i64 0)) ∧ Hid (blk7 W w1.heap.size 57 (.bool true) (.slice au g.ws.length cu) (.int .i64 g.md) (.int .i64 g.r1) (.int .i64 g.r2) (.int .i64 g.r3) (.int .i64 g.g)) ∧ Hid (Below w1.heap.size w1 W) := ⟨_, rfl, Off.keeps (ex := fun _ => False) ((Off.refl _ _).alloc _) AX.out id, Off.keeps (ex := fun _ => False) ((Off.refl _ _).alloc _) R1.out id, heap_alloc_new _ _, below_al0 _ _⟩
      rw [hV1]
      clear hV1 x1 x2 r0 r1 r2 rf zl zl0
      refine (r_MayExec _ _ _ _ _ _).mono ?_
      rintro e w2 ⟨rfl, hb2⟩
      have L2 := Lib.hid (below2 (below2 L1.out B1.out) hb2)
      have R3 : Hid (blk3 w2 (w.heap.size + 1) 64 (.int .i64 0) (.int .i64 0) (.int .i64 0)) := Off.keeps (.of_below (ex := fun _ => False) hb2) R2.out id
      have A3 : Hid (rsAt w2 w.heap.size s (.slice ad n c)) := Off.keeps (.of_below (ex := fun _ => False) hb2) A1.out id
      have G3 : Hid (blk7 w2 w1.heap.size 57 (.bool true) (.slice au g.ws.length cu) (.int .i64 g.md) (.int .i64 g.r1) (.int .i64 g.r2) (.int .i64 g.r3) (.int .i64 g.g)) := Off.keeps (.of_below (ex := fun _ => False) hb2) G1.out id
      have W3 : Hid (w2.ownsRow 0 2 1 (.slice au g.ws.length cu) g.ws.length (g.ws.map (Value.int .i64))) := Off.row (ex := fun _ => False) (.of_below (below2 B1.out hb2)) hrow.out (fun _ h => h.elim)
      clear hb2 R2 A1 G1 B1 L1 R1 AX hrow
      obtain ⟨⟨r0, r1, r2⟩, rf⟩ := R3.out.facts
      have x1 : w2.cell? ⟨w.heap.size, 1, none⟩ = some (.int .i64 s.off) := A3.out.cell 1
      have g1 : w2.cell? ⟨w1.heap.size, 1, none⟩ = some (.slice au g.ws.length cu) := G3.out.cell 1
      cases hq2 : mayExec g.r1 g.r2 s.ring with
      | false =>
        have hfe : Hid (feR M s = .error 33) := Lib.hid (by unfold feR; rw [hseg]; simp [hq1, hq2])
        clear hseg hq1
        go_wp2_with fail
        refine bodyPost_ret (fe_results (N := w.heap.size + 1) (er := 33) ?_ _ rfl rfl) rfl ⟨by rw [hfe.out]; rfl, ?_⟩
        · exact set3 R3.out _ _ _
        · repeat (with_reducible first | exact L4.out | exact L3.out | exact L2.out | exact L1.out | refine Below.setCell ?_ (by simp) _ | refine Below.alloc ?_ (by simp <;> omega) _)
      | true =>
        by_cases hi : 0 ≤ s.off ∧ s.off < g.ws.length
        · obtain ⟨O, hO⟩ : ∃ O : Nat, s.off = (O : Int) := ⟨s.off.toNat, by omega⟩
          have hOl : O < g.ws.length := by omega
          obtain ⟨gu, cu', hq⟩ := row_some W3.out (by omega)
          cases hq
          obtain ⟨xw, hxw⟩ : ∃ x, g.ws[O]? = some x := ⟨_, List.getElem?_eq_getElem hOl⟩
          have xO : w2.cell? ⟨gu, O, none⟩ = some (.int .i64 xw) := (row_cell W3.out O (x := .int .i64 xw) (by rw [List.getElem?_map, hxw]; rfl)).2
          have hgd : g.ws.getD s.off.toNat 0 = xw := by rw [hO, Int.toNat_natCast, List.getD_eq_getElem?_getD, hxw]; rfl
          by_cases hde : decE xw = 0
          · have hfe : Hid (feR M s = .ok (dOp xw, dP xw, dN xw)) := Lib.hid (by unfold feR; rw [hseg]; simp only [hq1, hq2, Bool.and_self, Bool.true_eq_false, if_false]; rw [if_neg (fun h => h hi), hgd, if_pos hde])
            have o0 : ¬ (O : Int) < 0 := by omega
            have o1 : ¬ (g.ws.length : Int) ≤ (O : Int) := by omega
            rw [hO] at x1
            clear hseg hq1 hi hgd hxw hO
            go_wp2_with (first | (go_at_call 25; refine (r_Decode xw _).mono ?_; rintro e w3 ⟨rfl, hb3⟩; rw [if_pos hde, hde]; have L3 := Lib.hid (below2 L2.out hb3); have R4 : Hid (blk3 w3 (w.heap.size + 1) 64 (.int .i64 0) (.int .i64 0) (.int .i64 0)) := Off.keeps (.of_below (ex := fun _ => False) hb3) R3.out id; obtain ⟨⟨s0, s1, s2⟩, sf⟩ := R4.out.facts; have zl3 : w.heap.size + 1 < w3.heap.size := R4.out.lt; clear hb3; (try dsimp only)))
            refine bodyPost_ret (fe_results (N := w.heap.size + 1) (er := 0) ?_ _ rfl rfl) rfl ⟨by rw [hfe.out]; rfl, ?_⟩
            · exact Off.keeps (ex := fun _ => False) ((Off.refl _ _).alloc _) (set3 R4.out _ _ _) id
            · repeat (with_reducible first | exact L4.out | exact L3.out | exact L2.out | exact L1.out | refine Below.setCell ?_ (by simp) _ | refine Below.alloc ?_ (by simp <;> omega) _)
          · have hfe : Hid (feR M s = .error 36) := Lib.hid (by unfold feR; rw [hseg]; simp only [hq1, hq2, Bool.and_self, Bool.true_eq_false, if_false]; rw [if_neg (fun h => h hi), hgd, if_neg hde])
            have o0 : ¬ (O : Int) < 0 := by omega
            have o1 : ¬ (g.ws.length : Int) ≤ (O : Int) := by omega
            have hde2 : (decE xw != 0) = true := by simpa using hde
            rw [hO] at x1
            clear hseg hq1 hi hgd hxw hO
            go_wp2_with (first | (go_at_call 25; refine (r_Decode xw _).mono ?_; rintro e w3 ⟨rfl, hb3⟩; rw [if_neg hde]; have L3 := Lib.hid (below2 L2.out hb3); have R4 : Hid (blk3 w3 (w.heap.size + 1) 64 (.int .i64 0) (.int .i64 0) (.int .i64 0)) := Off.keeps (.of_below (ex := fun _ => False) hb3) R3.out id; obtain ⟨⟨s0, s1, s2⟩, sf⟩ := R4.out.facts; have zl3 : w.heap.size + 1 < w3.heap.size := R4.out.lt; clear hb3; (try dsimp only)))
            refine bodyPost_ret (fe_results (N := w.heap.size + 1) (er := 36) ?_ _ rfl rfl) rfl ⟨by rw [hfe.out]; rfl, ?_⟩
            · exact Off.keeps (ex := fun _ => False) ((Off.refl _ _).alloc _) (set3 R4.out _ _ _) id
            · repeat (with_reducible first | exact L4.out | exact L3.out | exact L2.out | exact L1.out | refine Below.setCell ?_ (by simp) _ | refine Below.alloc ?_ (by simp <;> omega) _)
        · have hfe : Hid (feR M s = .error 35) := Lib.hid (by unfold feR; rw [hseg]; simp only [hq1, hq2, Bool.and_self, Bool.true_eq_false, if_false]; rw [if_pos hi])
          have key : s.off < 0 ∨ (¬ s.off < 0 ∧ (g.ws.length : Int) ≤ s.off) := by omega
          clear hseg hq1 hi
          rcases key with h1 | ⟨h1, h2⟩
          all_goals go_wp2_with fail
          · refine bodyPost_ret (fe_results (N := w.heap.size + 1) (er := 35) ?_ _ rfl rfl) rfl ⟨by rw [hfe.out]; rfl, ?_⟩
            · exact set3 R3.out _ _ _
            · repeat (with_reducible first | exact L4.out | exact L3.out | exact L2.out | exact L1.out | refine Below.setCell ?_ (by simp) _ | refine Below.alloc ?_ (by simp <;> omega) _)
          · refine bodyPost_ret (fe_results (N := w.heap.size + 1) (er := 35) ?_ _ rfl rfl) rfl ⟨by rw [hfe.out]; rfl, ?_⟩
            · exact set3 R3.out _ _ _
            · repeat (with_reducible first | exact L4.out | exact L3.out | exact L2.out | exact L1.out | refine Below.setCell ?_ (by simp) _ | refine Below.alloc ?_ (by simp <;> omega) _)
end Go.Proofs.Ytiakonmamkfopaa
namespace Go.Proofs.Ytiakonmamkfopaa
open Go.RowKit Go.ChangeShapes
set_option linter.unusedVariables false
set_option maxRecDepth 100000
theorem ifmax (b x : Int) : (if x < b then b else x) = max b x := by split <;> omega
/-- a pointer's ring is raised -/
def St.up (s : St) (k : Nat) (b : Int) : St := match k with
  | 0 => { s with p0 := s.p0.raise b }
  | 1 => { s with p1 := s.p1.raise b }
  | 2 => { s with p2 := s.p2.raise b }
  | _ => { s with p3 := s.p3.raise b }
/-- the first k of them -/
def St.upTo (s : St) (b : Int) : Nat → St
  | 0 => s
  | k + 1 => (s.upTo b k).up k b
theorem up_pt (s : St) (b : Int) (k : Nat) (hk : k < 4) : ((s.upTo b k).pt k).ring = (s.pt k).ring := by
  rcases (show k = 0 ∨ k = 1 ∨ k = 2 ∨ k = 3 by omega) with rfl | rfl | rfl | rfl <;> rfl
theorem st_rg (s : St) (stk : Value) (j : Nat) (hj : j < 4) : (stC s stk)[4 + j * 3 + 2]? = some (.int .i64 (s.pt j).ring) := by
  rcases (show j = 0 ∨ j = 1 ∨ j = 2 ∨ j = 3 by omega) with rfl | rfl | rfl | rfl <;> rfl
theorem rs_ring {w : World} {N : Nat} {s : St} {stk : Value} (h : rsAt w N s stk) (k : Nat) (b : Int) (hk : k < 4) : rsAt (w.setCell ⟨N, 4 + k * 3 + 2, none⟩ (.int .i64 (max b (s.pt k).ring))) N (s.up k b) stk := by
  rcases (show k = 0 ∨ k = 1 ∨ k = 2 ∨ k = 3 by omega) with rfl | rfl | rfl | rfl <;>
  · unfold rsAt stC at h ⊢
    simp [World.setCell, Array.getElem?_modify, h, St.up, St.pt, Pt.raise]
/-- the pointers' rings are raised, one after the other -/
structure RaR (w wr : World) (s : St) (ad : Option Addr) (n c : Nat) (b : Int) (k : Nat) : Prop where
  a : rsAt wr w.heap.size (s.upTo b k) (.slice ad n c)
  z : rsAt wr (w.heap.size + 1) St.zero (.slice none 0 0)
  bl : Below w.heap.size w wr
theorem raise_results {W : World} {N : Nat} {s : St} {stk : Value} (h : rsAt W N s stk) (tmps : Array Value) (h4 : tmps[4]? = some (.pointer (some ⟨N, 0, none⟩))) :
    (results Try.f50 tmps).run Try.prog W = .ok (.agg (stC s stk)) W := by
  have l0 := rrange_loadVar (rs_range h)
  simp [results, Try.results50, h4, l0, asAddr]
set_option maxHeartbeats 4000000 in
theorem c_rraise (w : World) (s : St) (ad : Option Addr) (n c : Nat) (b : Int) : Calls Try.prog 50 #[.agg (stC s (.slice ad n c)), .int .i64 b] w fun e w' => e = .returned (.agg (stC (s.raise b) (.slice ad n c))) ∧ Below w.heap.size w w' := by
  obtain ⟨W0, hW0, A0, Z0, B0⟩ : ∃ W, (w.alloc (.cells (stC s (.slice ad n c)) 39)).alloc (.cells (stC St.zero (.slice none 0 0)) 39) = W ∧ Hid (rsAt W w.heap.size s (.slice ad n c)) ∧ Hid (rsAt W (w.heap.size + 1) St.zero (.slice none 0 0)) ∧ Hid (Below w.heap.size w W) := by
    refine ⟨_, rfl, ?_, ?_, below_al (below_al0 _ _) _⟩
    · exact Off.keeps (ex := fun _ => False) ((Off.refl _ _).alloc _) (heap_alloc_new w (.cells (stC s (.slice ad n c)) 39)) id
    · have h0 := heap_alloc_new (w.alloc (.cells (stC s (.slice ad n c)) 39)) (.cells (stC St.zero (.slice none 0 0)) 39)
      rw [World.size_alloc] at h0
      exact h0
  replace hW0 := Lib.hid hW0
  go_enter Try.func50, Try.ntmps50
  go_upto_region 1 with fail
  rw [show (w.alloc (.cells (stC s (.slice ad n c)) 39)).alloc (.cells #[.int .i64 0, .int .i64 0, .int .i64 0, .int .i64 0, .int .i64 0, .int .i64 0, .int .i64 0, .int .i64 0, .int .i64 0, .int .i64 0, .int .i64 0, .int .i64 0, .int .i64 0, .int .i64 0, .int .i64 0, .int .i64 0, .slice none 0 0, .bool false] 39) = W0 from hW0.out]
  clear hW0
  go_wp2_with fail
  have H0 : Hid (RaR w W0 s ad n c b 0) := ⟨A0.out, Z0.out, B0.out⟩
  clear A0 Z0 B0
  go_loopw [5] (fun kv wr => ∃ k : Nat, kv = .int .i64 k ∧ k ≤ 4 ∧ Hid (RaR w wr s ad n c b k)) (fun kv _ => 4 - (intOf kv).toNat)
  case atStart => exact ⟨0, rfl, by omega, H0⟩
  case round =>
    clear H0
    obtain ⟨k, rfl, hk, H⟩ := hrel
    by_cases h4 : k < 4
    · have h4' : (k : Int) < 4 := by omega
      have r : wr.cell? ⟨w.heap.size, 4 + k * 3 + 2, none⟩ = some (.int .i64 (s.pt k).ring) := (H.out.a.cell _).trans (by rw [st_rg _ _ _ h4, up_pt s b k h4])
      have rf : ∀ j, wr.frozen? ⟨w.heap.size, j, none⟩ = false := fun j => H.out.a.free j
      have hR : w.heap.size < wr.heap.size := H.out.a.lt
      have key : Hid (∀ x, x = max b (s.pt k).ring → RaR w (wr.setCell ⟨w.heap.size, 4 + k * 3 + 2, none⟩ (.int .i64 x)) s ad n c b (k + 1)) := Lib.hid (fun x hx => by
        subst hx
        have h1 := rs_ring H.out.a k b h4
        rw [up_pt s b k h4] at h1
        exact ⟨h1, Off.keeps (off1 _ _ _ _) H.out.z (by omega), H.out.bl.setCell (Nat.le_refl _) _⟩)
      by_cases hb : (s.pt k).ring < b
      · have K2 := Lib.hid (key.out b (by omega))
        clear key
        go_wp2_with fail
        clear r rf hR
        go_roundw
        case rel => exact ⟨k + 1, by go_num, by omega, K2⟩
        case measure => simp [intOf]; omega
      · have K2 := Lib.hid (key.out (s.pt k).ring (by omega))
        clear key
        go_wp2_with fail
        clear r rf hR
        go_roundw
        case rel => exact ⟨k + 1, by go_num, by omega, K2⟩
        case measure => simp [intOf]; omega
    · have hk4 : k = 4 := by omega
      subst hk4
      go_wp2_with (first | ((with_reducible refine wpList_load_rs (op := ⟨some 21, .load 39 (.tmp 2), _, _, _, _⟩) (N := w.heap.size) (s := (s.upTo b 4)) (stk := (.slice ad n c)) ?_ (.tmp 2) ?_ ?_ ?_ ?_); exact rfl; exact rfl; exact rfl; exact rs_range H.out.a) | ((with_reducible refine wpList_store_rs (op := ⟨none, .store 39 (.tmp 4) (.tmp 21), _, _, _, _⟩) (N := (w.heap.size + 1)) (s := St.zero) (stk := (.slice none 0 0)) (s' := (s.upTo b 4)) (stk' := (.slice ad n c)) ?_ (.tmp 4) (.tmp 21) ?_ ?_ ?_ ?_ ?_ ?_); exact rfl; exact rfl; exact rfl; exact rfl; exact H.out.z; exact rfl; intro w7 S7 F7; replace S7 := Lib.hid S7; replace F7 := Lib.hid F7))
      exact bodyPost_ret (raise_results (show rsAt w7 (w.heap.size + 1) (s.raise b) (.slice ad n c) from S7.out) _ rfl) rfl ⟨rfl, Off.below H.out.bl F7.out H.out.bl.size (fun j hj => by omega)⟩
end Go.Proofs.Ytiakonmamkfopaa
namespace Go.Proofs.Ytiakonmamkfopaa
open Go.RowKit Go.ChangeShapes
set_option linter.unusedVariables false
set_option maxRecDepth 100000
def rdV (x : Except Int (Int × Sg)) : Value := match x with
  | .ok (x, _) => .tuple #[.int .i64 x, .int .i64 0]
  | .error er => .tuple #[.int .i64 0, .int .i64 er]
theorem st_pt (s : St) (stk : Value) (j : Nat) (hj : j < 4) : (stC s stk)[4 + j * 3]? = some (.int .i64 (s.pt j).seg) ∧ (stC s stk)[4 + j * 3 + 1]? = some (.int .i64 (s.pt j).off) ∧ (stC s stk)[4 + j * 3 + 2]? = some (.int .i64 (s.pt j).ring) := by
  rcases (show j = 0 ∨ j = 1 ∨ j = 2 ∨ j = 3 by omega) with rfl | rfl | rfl | rfl <;> exact ⟨rfl, rfl, rfl⟩
theorem eo_wrap (s : St) (P : Nat) (n : Int) : s.eo (P : Int) n = wrap64 ((s.pt P).off + n) := by
  unfold St.eo wrap64
  rw [Int.toNat_natCast, IntKind.wrap_i64]
theorem eb_if (s : St) (P : Nat) : (if s.ring < (s.pt P).ring then (s.pt P).ring else s.ring) = s.eb (P : Int) := by
  unfold St.eb
  rw [Int.toNat_natCast, ifmax]
set_option maxHeartbeats 4000000 in
theorem c_rread (w : World) (s : St) (ad : Option Addr) (n' c : Nat) (mv : Value) (vs : List Value) (M : List Sg) (op n : Int) (P : Nat) (hP : P < 4) (hM : Segs w 0 mv vs M) (h5 : M.length ≤ 1000) (hws : ∀ g ∈ M, g.ws.length ≤ 16) : Calls Try.prog 45 #[.agg (stC s (.slice ad n' c)), mv, .agg #[.int .i64 op, .int .i64 (P : Int), .int .i64 n]] w fun e w' => e = .returned (rdV (rdR M s (P : Int) n)) ∧ Below w.heap.size w w' := by
  obtain ⟨W0, hW0, A0, I0, B0⟩ : ∃ W, (w.alloc (.cells (stC s (.slice ad n' c)) 39)).alloc (.cells #[.int .i64 op, .int .i64 (P : Int), .int .i64 n] 64) = W ∧ Hid (rsAt W w.heap.size s (.slice ad n' c)) ∧ Hid (blk3 W (w.heap.size + 1) 64 (.int .i64 op) (.int .i64 (P : Int)) (.int .i64 n)) ∧ Hid (Below w.heap.size w W) := by
    refine ⟨_, rfl, ?_, ?_, below_al (below_al0 _ _) _⟩
    · exact Off.keeps (ex := fun _ => False) ((Off.refl _ _).alloc _) (heap_alloc_new w (.cells (stC s (.slice ad n' c)) 39)) id
    · have h0 := heap_alloc_new (w.alloc (.cells (stC s (.slice ad n' c)) 39)) (.cells #[.int .i64 op, .int .i64 (P : Int), .int .i64 n] 64)
      rw [World.size_alloc] at h0
      exact h0
  replace hW0 := Lib.hid hW0
  replace hws := Lib.hid hws
  have hM0 : Hid (Segs W0 0 mv vs M) := hM.off (ex := fun _ => False) (.of_below B0.out) (fun _ h => h.elim) (fun _ h => h.elim)
  have hPi : (P : Int) < 4 := by omega
  go_enter Try.func45, Try.ntmps45
  go_upto_region 1 with fail
  rw [show (w.alloc (.cells (stC s (.slice ad n' c)) 39)).alloc (.cells #[.int .i64 op, .int .i64 (P : Int), .int .i64 n] 64) = W0 from hW0.out]
  clear hW0 hM
  have i1 : W0.cell? ⟨w.heap.size + 1, 1, none⟩ = some (.int .i64 (P : Int)) := I0.out.facts.1.2.1
  have p0 : W0.cell? ⟨w.heap.size, 4 + P * 3, none⟩ = some (.int .i64 (s.pt P).seg) := (A0.out.cell _).trans (st_pt s _ P hP).1
  have p1 : W0.cell? ⟨w.heap.size, 4 + P * 3 + 1, none⟩ = some (.int .i64 (s.pt P).off) := (A0.out.cell _).trans (st_pt s _ P hP).2.1
  have p2 : W0.cell? ⟨w.heap.size, 4 + P * 3 + 2, none⟩ = some (.int .i64 (s.pt P).ring) := (A0.out.cell _).trans (st_pt s _ P hP).2.2
  have zl : w.heap.size + 1 < W0.heap.size := I0.out.lt
  go_wp2_with fail
  clear i1 p0 p1 p2 zl
  obtain ⟨W1, hW1, P1, B1⟩ : ∃ W, W0.alloc (.cells #[.int .i64 (s.pt P).seg, .int .i64 (s.pt P).off, .int .i64 (s.pt P).ring] 24) = W ∧ Hid (blk3 W W0.heap.size 24 (.int .i64 (s.pt P).seg) (.int .i64 (s.pt P).off) (.int .i64 (s.pt P).ring)) ∧ Hid (Below W0.heap.size W0 W) := ⟨_, rfl, heap_alloc_new _ _, below_al0 _ _⟩
  rw [hW1]
  clear hW1
  refine (c_rknown W1 mv vs M (s.pt P).seg (hM0.out.off (ex := fun _ => False) (.of_below B1.out) (fun _ h => h.elim) (fun _ h => h.elim)) h5).mono ?_
  rintro e w1 ⟨au, cu, g, rfl, hseg, hrow, hb1⟩
  unfold sgA
  dsimp only
  have HB := Lib.hid (below2 B1.out hb1)
  have L1 := Lib.hid (below2 B0.out HB.out)
  have x2 : w1.cell? ⟨w.heap.size, 2, none⟩ = some (.int .i64 s.ring) := (show rsAt w1 w.heap.size s _ from Off.keeps (.of_below (ex := fun _ => False) HB.out) A0.out id).cell 2
  have i2 : w1.cell? ⟨w.heap.size + 1, 2, none⟩ = some (.int .i64 n) := (show blk3 w1 (w.heap.size + 1) _ _ _ _ from Off.keeps (.of_below (ex := fun _ => False) HB.out) I0.out id).facts.1.2.2
  obtain ⟨⟨q0, q1, q2⟩, _⟩ := (show blk3 w1 W0.heap.size 24 (.int .i64 (s.pt P).seg) (.int .i64 (s.pt P).off) (.int .i64 (s.pt P).ring) from Off.keeps (.of_below (ex := fun _ => False) hb1) P1.out id).facts
  have zl : w.heap.size + 1 < W0.heap.size := I0.out.lt
  have zl1 : W0.heap.size < w1.heap.size := Nat.lt_of_lt_of_le P1.out.lt hb1.size
  have zl2 : w.heap.size + 1 < w1.heap.size := by omega
  have zl3 : w.heap.size < w1.heap.size := by omega
  have hgm : g.is = true → g ∈ M := fun h => by
    rw [h, if_pos rfl] at hseg
    unfold seg? at hseg
    split at hseg
    · cases hseg
    · split at hseg
      · rename_i s' hs'
        split at hseg
        · cases hseg
          exact List.mem_of_getElem? hs'
        · cases hseg
      · cases hseg
  replace hrow := Lib.hid hrow
  replace hgm := Lib.hid hgm
  clear hb1 hM0 A0 I0 HB B0 P1 B1
  cases his : g.is with
  | false =>
    rw [his] at hseg
    have hfe : Hid (rdR M s (P : Int) n = .error 35) := Lib.hid (by unfold rdR; rw [Int.toNat_natCast, hseg]; rfl)
    clear hseg
    go_wp2_with fail
    go_ret2
    refine ⟨by rw [hfe.out]; rfl, ?_⟩
    repeat (with_reducible first | exact L2.out | exact L1.out | refine Below.setCell ?_ (by simp) _ | refine Below.alloc ?_ (by first | omega | (simp <;> omega)) _)
  | true =>
    rw [his, if_pos rfl] at hseg
    have hwl := hws.out g (hgm.out his)
    cases hq1 : g.has 1 with
    | false =>
      have hfe : Hid (rdR M s (P : Int) n = .error 31) := Lib.hid (by unfold rdR; rw [Int.toNat_natCast, hseg]; simp [hq1])
      have hm : (bits .and .i64 g.md 1 == 0) = true := by unfold Sg.has at hq1; simpa using hq1
      clear hseg hq1
      go_wp2_with fail
      go_ret2
      refine ⟨by rw [hfe.out]; rfl, ?_⟩
      repeat (with_reducible first | exact L2.out | exact L1.out | refine Below.setCell ?_ (by simp) _ | refine Below.alloc ?_ (by first | omega | (simp <;> omega)) _)
    | true =>
      have hm : (bits .and .i64 g.md 1 == 0) = false := by unfold Sg.has at hq1; simpa using hq1
      cases hq2 : mayRead g.r2 (s.eb (P : Int)) with
      | false =>
        have hfe : Hid (rdR M s (P : Int) n = .error 31) := Lib.hid (by unfold rdR; rw [Int.toNat_natCast, hseg]; simp [hq1, hq2])
        clear hseg hq1
        go_wp2_with (first | (go_at_call 72; refine (r_MayRead _ _ _ _ _ _).mono ?_; rintro e w2 ⟨rfl, hb2⟩; rw [eb_if, hq2]; have L2 := Lib.hid (below2 (below_al L1.out _) hb2)))
        go_ret2
        refine ⟨by rw [hfe.out]; rfl, ?_⟩
        repeat (with_reducible first | exact L2.out | exact L1.out | refine Below.setCell ?_ (by simp) _ | refine Below.alloc ?_ (by first | omega | (simp <;> omega)) _)
      | true =>
        have heo := eo_wrap s P n
        by_cases hi : 0 ≤ s.eo (P : Int) n ∧ s.eo (P : Int) n < g.ws.length
        · obtain ⟨O, hO⟩ : ∃ O : Nat, s.eo (P : Int) n = (O : Int) := ⟨(s.eo (P : Int) n).toNat, by omega⟩
          have hOl : O < g.ws.length := by omega
          obtain ⟨xw, hxw⟩ : ∃ x, g.ws[O]? = some x := ⟨_, List.getElem?_eq_getElem hOl⟩
          have hfe : Hid (rdR M s (P : Int) n = .ok (xw, g)) := Lib.hid (by
            have hgd : g.ws.getD (s.eo (P : Int) n).toNat 0 = xw := by rw [hO, Int.toNat_natCast, List.getD_eq_getElem?_getD, hxw]; rfl
            unfold rdR
            rw [Int.toNat_natCast, hseg]
            simp only [hq1, hq2, Bool.and_self, Bool.true_eq_false, if_false]
            rw [if_pos hi, hgd])
          obtain ⟨gu, cu', hq⟩ := row_some hrow.out (by omega)
          cases hq
          have hE : wrap64 ((s.pt P).off + n) = (O : Int) := heo.symm.trans hO
          have xO : w1.cell? ⟨gu, O, none⟩ = some (.int .i64 xw) := (row_cell hrow.out O (x := .int .i64 xw) (by rw [List.getElem?_map, hxw]; rfl)).2
          have hgl : gu < w1.heap.size := World.block_lt_of_cell? w1 _ xO
          have o0 : ¬ (O : Int) < 0 := by omega
          have o1 : ¬ (g.ws.length : Int) ≤ (O : Int) := by omega
          clear hseg hq1 hi hxw hO heo
          go_wp2_with (first | (go_at_call 72; refine (r_MayRead _ _ _ _ _ _).mono ?_; rintro e w2 ⟨rfl, hb2⟩; rw [eb_if, hq2]; have L2 := Lib.hid (below2 (below_al L1.out _) hb2); have g1 : w2.cell? ⟨w1.heap.size, 1, none⟩ = some (.slice (some ⟨gu, 0, none⟩) g.ws.length cu) := (show blk7 w2 w1.heap.size 57 (.bool true) (.slice (some ⟨gu, 0, none⟩) g.ws.length cu) (.int .i64 g.md) (.int .i64 g.r1) (.int .i64 g.r2) (.int .i64 g.r3) (.int .i64 g.g) from Off.keeps (.of_below (ex := fun _ => False) hb2) (heap_alloc_new _ _) id).cell 1; have y0 : w2.cell? ⟨gu, O, none⟩ = some (.int .i64 xw) := (hb2.cell (p := ⟨gu, O, none⟩) (by simp; omega)).trans (((below_al0 w1 _).cell (p := ⟨gu, O, none⟩) hgl).trans xO); clear hb2))
          go_ret2
          refine ⟨by rw [hfe.out]; rfl, ?_⟩
          repeat (with_reducible first | exact L2.out | exact L1.out | refine Below.setCell ?_ (by simp) _ | refine Below.alloc ?_ (by first | omega | (simp <;> omega)) _)
        · have hfe : Hid (rdR M s (P : Int) n = .error 35) := Lib.hid (by
            unfold rdR
            rw [Int.toNat_natCast, hseg]
            simp only [hq1, hq2, Bool.and_self, Bool.true_eq_false, if_false]
            rw [if_neg hi])
          have key : wrap64 ((s.pt P).off + n) < 0 ∨ (¬ wrap64 ((s.pt P).off + n) < 0 ∧ (g.ws.length : Int) ≤ wrap64 ((s.pt P).off + n)) := by rw [← heo]; omega
          clear hseg hq1 hi heo
          rcases key with h1 | ⟨h1, h2⟩
          all_goals go_wp2_with (first | (go_at_call 72; refine (r_MayRead _ _ _ _ _ _).mono ?_; rintro e w2 ⟨rfl, hb2⟩; rw [eb_if, hq2]; have L2 := Lib.hid (below2 (below_al L1.out _) hb2); have g1 : w2.cell? ⟨w1.heap.size, 1, none⟩ = some (.slice au g.ws.length cu) := (show blk7 w2 w1.heap.size 57 (.bool true) (.slice au g.ws.length cu) (.int .i64 g.md) (.int .i64 g.r1) (.int .i64 g.r2) (.int .i64 g.r3) (.int .i64 g.g) from Off.keeps (.of_below (ex := fun _ => False) hb2) (heap_alloc_new _ _) id).cell 1; clear hb2))
          · go_ret2
            refine ⟨by rw [hfe.out]; rfl, ?_⟩
            repeat (with_reducible first | exact L2.out | exact L1.out | refine Below.setCell ?_ (by simp) _ | refine Below.alloc ?_ (by first | omega | (simp <;> omega)) _)
          · go_ret2
            refine ⟨by rw [hfe.out]; rfl, ?_⟩
            repeat (with_reducible first | exact L2.out | exact L1.out | refine Below.setCell ?_ (by simp) _ | refine Below.alloc ?_ (by first | omega | (simp <;> omega)) _)
end Go.Proofs.Ytiakonmamkfopaa
