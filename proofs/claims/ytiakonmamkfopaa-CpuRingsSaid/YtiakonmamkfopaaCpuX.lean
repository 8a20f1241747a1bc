/- A memory that lies somewhere; reads of a plain segment. -/
import Derived.Test.YtiakonmamkfopaaCpuW
namespace Go.Proofs.Ytiakonmamkfopaa
open Go.RowKit Go.ChangeShapes
set_option linter.unusedVariables false
set_option maxRecDepth 100000

theorem mem_at (W : World) (SB Y : Nat) (g : Sg) (u : Value) (h7 : W.heap[SB]? = some (.cells #[.bool g.is, u, .int .i64 g.md, .int .i64 g.r1, .int .i64 g.r2, .int .i64 g.r3, .int .i64 g.g] 57 (0, 0))) (hY : memAt W 0 Y (.slice (some ⟨SB, 0, none⟩) 1 1) false 0 0 0 0)
    (hu : W.ownsRow 0 2 1 u g.ws.length (g.ws.map (Value.int .i64))) (hlen : g.ws.length < 1000000) : MemOk W 0 Y [g] := by
  refine ⟨⟨_, [u], false, 0, 0, 0, 0, hY, ⟨rfl, ?_, ?_⟩⟩, by simp, ?_, Nat.zero_le _⟩
  · exact ⟨rfl, .inr ⟨SB, 1, _, rfl, Nat.zero_le _, h7, Nat.le_refl _, by decide, rfl, rfl⟩⟩
  · intro i s v hs hv
    match i with
    | 0 =>
      simp only [List.getElem?_cons_zero, Option.some.injEq] at hs hv
      subst hs; subst hv
      exact hu
    | (k + 1) => simp at hs
  · intro s hs
    simp only [List.mem_singleton] at hs
    subst hs
    exact hlen
theorem st_set3 {w : World} {N : Nat} {s : St} {stk : Value} (h : stAt w N s stk) (a : Int) : stAt (w.setCell ⟨N, 3, none⟩ (.int .i64 a)) N { s with a := a } stk := by
  unfold stAt stC at h ⊢
  simp [World.setCell, Array.getElem?_modify, h]
theorem rd_plain (ws : List Int) (s : St) (p n : Int) (K : Nat) (x : Int) (h0 : (s.pt p.toNat).seg = 0) (hr : s.eb p = 4) (ho : s.eo p n = K) (hx : ws[K]? = some x) : rdR [Sg.plain ws] s p n = .ok (x, Sg.plain ws) := by
  have hk : K < ws.length := (List.getElem?_eq_some_iff.1 hx).1
  have hs : seg? [Sg.plain ws] (s.pt p.toNat).seg = some (Sg.plain ws) := by rw [h0]; rfl
  have hm : mayRead (Sg.plain ws).r2 4 = true := by show mayRead 4 4 = true; decide
  unfold rdR
  simp only [hs, hr, ho, plain_has ws 1 (by simp), hm, Bool.and_self, Bool.true_eq_false, if_false]
  rw [if_pos ⟨by omega, by show (K : Int) < (ws.length : Int); omega⟩]
  show Except.ok (ws.getD (K : Int).toNat 0, _) = _
  rw [Int.toNat_natCast, List.getD_eq_getElem?_getD, hx]
  rfl
theorem fl_st0 (a b : Int) : stR [Sg.plain [encI 7 0 1, b]] { St.new with a := a } [] = .ok ⟨{ St.new with a := (fbin .add a b), off := 1 }, [], false, 0, none⟩ := by
  have h := fe_at [Sg.plain [encI 7 0 1, b]] { St.new with a := a } (Sg.plain [encI 7 0 1, b]) 0 0 7 0 1 rfl rfl (plain_has _ _ (by simp)) (by show mayExec 4 4 4 = true; decide) rfl rfl rfl (by decide) (by decide) (by decide) (by decide) (by decide) (by decide)
  have hr := rd_plain [encI 7 0 1, b] { St.new with a := a, off := 1 } 0 1 1 b rfl (by show max (4 : Int) 4 = 4; decide) (by show IntKind.i64.wrap (0 + 1) = 1; decide +kernel) rfl
  unfold stR
  rw [if_neg (by show ¬ (false = true); decide), h]
  show doR _ { St.new with a := a, off := 1 } [] 7 0 1 = _
  unfold doR
  rw [if_neg (by decide), if_neg (by decide), if_pos (by decide), hr]
  rfl
theorem fl_st1 (a b : Int) : stR [Sg.plain [encI 8 0 1, b]] { St.new with a := a } [] = .ok ⟨{ St.new with a := (fbin .sub a b), off := 1 }, [], false, 0, none⟩ := by
  have h := fe_at [Sg.plain [encI 8 0 1, b]] { St.new with a := a } (Sg.plain [encI 8 0 1, b]) 0 0 8 0 1 rfl rfl (plain_has _ _ (by simp)) (by show mayExec 4 4 4 = true; decide) rfl rfl rfl (by decide) (by decide) (by decide) (by decide) (by decide) (by decide)
  have hr := rd_plain [encI 8 0 1, b] { St.new with a := a, off := 1 } 0 1 1 b rfl (by show max (4 : Int) 4 = 4; decide) (by show IntKind.i64.wrap (0 + 1) = 1; decide +kernel) rfl
  unfold stR
  rw [if_neg (by show ¬ (false = true); decide), h]
  show doR _ { St.new with a := a, off := 1 } [] 8 0 1 = _
  unfold doR
  rw [if_neg (by decide), if_neg (by decide), if_pos (by decide), hr]
  rfl
theorem fl_st2 (a b : Int) : stR [Sg.plain [encI 9 0 1, b]] { St.new with a := a } [] = .ok ⟨{ St.new with a := (fbin .mul a b), off := 1 }, [], false, 0, none⟩ := by
  have h := fe_at [Sg.plain [encI 9 0 1, b]] { St.new with a := a } (Sg.plain [encI 9 0 1, b]) 0 0 9 0 1 rfl rfl (plain_has _ _ (by simp)) (by show mayExec 4 4 4 = true; decide) rfl rfl rfl (by decide) (by decide) (by decide) (by decide) (by decide) (by decide)
  have hr := rd_plain [encI 9 0 1, b] { St.new with a := a, off := 1 } 0 1 1 b rfl (by show max (4 : Int) 4 = 4; decide) (by show IntKind.i64.wrap (0 + 1) = 1; decide +kernel) rfl
  unfold stR
  rw [if_neg (by show ¬ (false = true); decide), h]
  show doR _ { St.new with a := a, off := 1 } [] 9 0 1 = _
  unfold doR
  rw [if_neg (by decide), if_neg (by decide), if_pos (by decide), hr]
  rfl
theorem fl_st3 (a b : Int) : stR [Sg.plain [encI 10 0 1, b]] { St.new with a := a } [] = .ok ⟨{ St.new with a := (fbin .quo a b), off := 1 }, [], false, 0, none⟩ := by
  have h := fe_at [Sg.plain [encI 10 0 1, b]] { St.new with a := a } (Sg.plain [encI 10 0 1, b]) 0 0 10 0 1 rfl rfl (plain_has _ _ (by simp)) (by show mayExec 4 4 4 = true; decide) rfl rfl rfl (by decide) (by decide) (by decide) (by decide) (by decide) (by decide)
  have hr := rd_plain [encI 10 0 1, b] { St.new with a := a, off := 1 } 0 1 1 b rfl (by show max (4 : Int) 4 = 4; decide) (by show IntKind.i64.wrap (0 + 1) = 1; decide +kernel) rfl
  unfold stR
  rw [if_neg (by show ¬ (false = true); decide), h]
  show doR _ { St.new with a := a, off := 1 } [] 10 0 1 = _
  unfold doR
  rw [if_neg (by decide), if_neg (by decide), if_pos (by decide), hr]
  rfl
theorem fl_st4 (a b : Int) : stR [Sg.plain [encI 11 0 1, b]] { St.new with a := a } [] = .ok ⟨{ St.new with a := (fless a b), off := 1 }, [], false, 0, none⟩ := by
  have h := fe_at [Sg.plain [encI 11 0 1, b]] { St.new with a := a } (Sg.plain [encI 11 0 1, b]) 0 0 11 0 1 rfl rfl (plain_has _ _ (by simp)) (by show mayExec 4 4 4 = true; decide) rfl rfl rfl (by decide) (by decide) (by decide) (by decide) (by decide) (by decide)
  have hr := rd_plain [encI 11 0 1, b] { St.new with a := a, off := 1 } 0 1 1 b rfl (by show max (4 : Int) 4 = 4; decide) (by show IntKind.i64.wrap (0 + 1) = 1; decide +kernel) rfl
  unfold stR
  rw [if_neg (by show ¬ (false = true); decide), h]
  show doR _ { St.new with a := a, off := 1 } [] 11 0 1 = _
  unfold doR
  rw [if_neg (by decide), if_neg (by decide), if_pos (by decide), hr]
  rfl
theorem below_dN {B : Nat} {a w : World} (h : Below B a w) (n : Nat) : Below B a (w.drewN n) := ⟨h.os, h.tape, h.output, h.size, h.block⟩
end Go.Proofs.Ytiakonmamkfopaa
