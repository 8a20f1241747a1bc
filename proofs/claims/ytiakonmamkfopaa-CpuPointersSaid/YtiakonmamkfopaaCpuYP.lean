/- CpuPointers: what the two steps make. -/
import Derived.Test.YtiakonmamkfopaaCpuX
namespace Go.Proofs.Ytiakonmamkfopaa
open Go.RowKit Go.ChangeShapes
set_option linter.unusedVariables false
set_option maxRecDepth 100000

/-- the law's segment: a pointer is set, and got -/
def Sg.point (p r : Int) : Sg := ⟨true, [encI 17 p 0, encI 19 p 0], 7, r, r, r, 0⟩
theorem point_has (p r : Int) : (Sg.point p r).has 4 = true := plain_has [] 4 (by simp)
theorem point_exec (p r : Int) (h0 : 0 ≤ r) (h1 : r < 8) : mayExec (Sg.point p r).r1 (Sg.point p r).r2 r = true := by
  show decide _ = true
  refine decide_eq_true ⟨h0, by omega, Int.le_refl _, Int.le_refl _⟩
theorem point_st1 (w p r : Int) (h0 : 0 ≤ r) (h1 : r < 8) (p0 : 0 ≤ p) (p1 : p < 4) : stR [Sg.point p r] { St.new with ring := r, a := w } [] = .ok ⟨({ St.new with ring := r, a := w, off := 1 } : St).setP p.toNat ⟨pSeg w, pOff w, max r (pRing w)⟩, [], false, 0, none⟩ := by
  have h := fe_at [Sg.point p r] { St.new with ring := r, a := w } (Sg.point p r) 0 0 17 p 0 rfl rfl (point_has p r) (point_exec p r h0 h1) rfl rfl rfl (by decide) (by decide) p0 p1 (by decide) (by decide)
  unfold stR
  rw [if_neg (by show ¬ (false = true); decide), h]
  show doR _ { St.new with ring := r, a := w, off := 1 } [] 17 p 0 = _
  unfold doR
  rw [if_neg (by decide), if_neg (by decide), if_neg (by decide), if_neg (by decide), if_neg (by decide), if_neg (by decide), if_neg (by decide), if_neg (show ¬ jmpR 17 w by unfold jmpR; omega), if_pos (by decide)]
theorem point_st2 (w p r : Int) (h0 : 0 ≤ r) (h1 : r < 8) (p0 : 0 ≤ p) (p1 : p < 4) : stR [Sg.point p r] (({ St.new with ring := r, a := w, off := 1 } : St).setP p.toNat ⟨pSeg w, pOff w, max r (pRing w)⟩) [] = .ok ⟨({ St.new with ring := r, a := encP (pSeg w) (pOff w) (max r (pRing w)), off := 2 } : St).setP p.toNat ⟨pSeg w, pOff w, max r (pRing w)⟩, [], false, 0, none⟩ := by
  rcases (show p = 0 ∨ p = 1 ∨ p = 2 ∨ p = 3 by omega) with rfl | rfl | rfl | rfl
  · have h := fe_at [Sg.point 0 r] (({ St.new with ring := r, a := w, off := 1 } : St).setP 0 ⟨pSeg w, pOff w, max r (pRing w)⟩) (Sg.point 0 r) 0 1 19 0 0 rfl rfl (point_has 0 r) (point_exec 0 r h0 h1) rfl rfl rfl (by decide) (by decide) (by decide) (by decide) (by decide) (by decide)
    unfold stR
    rw [if_neg (by show ¬ (false = true); decide)]
    show (match feR [Sg.point 0 r] (({ St.new with ring := r, a := w, off := 1 } : St).setP 0 ⟨pSeg w, pOff w, max r (pRing w)⟩) with | .error e => Except.error e | .ok (op, p, n) => doR _ _ [] op p n) = _
    rw [h]
    show doR _ (({ St.new with ring := r, a := w, off := 2 } : St).setP 0 ⟨pSeg w, pOff w, max r (pRing w)⟩) [] 19 0 0 = _
    unfold doR
    rw [if_neg (by decide), if_neg (by decide), if_neg (by decide), if_neg (by decide), if_neg (by decide), if_neg (by decide), if_neg (by decide), if_neg (show ¬ jmpR 19 _ by unfold jmpR; omega), if_neg (by decide), if_neg (by decide), if_pos (by decide)]
    rfl
  · have h := fe_at [Sg.point 1 r] (({ St.new with ring := r, a := w, off := 1 } : St).setP 1 ⟨pSeg w, pOff w, max r (pRing w)⟩) (Sg.point 1 r) 0 1 19 1 0 rfl rfl (point_has 1 r) (point_exec 1 r h0 h1) rfl rfl rfl (by decide) (by decide) (by decide) (by decide) (by decide) (by decide)
    unfold stR
    rw [if_neg (by show ¬ (false = true); decide)]
    show (match feR [Sg.point 1 r] (({ St.new with ring := r, a := w, off := 1 } : St).setP 1 ⟨pSeg w, pOff w, max r (pRing w)⟩) with | .error e => Except.error e | .ok (op, p, n) => doR _ _ [] op p n) = _
    rw [h]
    show doR _ (({ St.new with ring := r, a := w, off := 2 } : St).setP 1 ⟨pSeg w, pOff w, max r (pRing w)⟩) [] 19 1 0 = _
    unfold doR
    rw [if_neg (by decide), if_neg (by decide), if_neg (by decide), if_neg (by decide), if_neg (by decide), if_neg (by decide), if_neg (by decide), if_neg (show ¬ jmpR 19 _ by unfold jmpR; omega), if_neg (by decide), if_neg (by decide), if_pos (by decide)]
    rfl
  · have h := fe_at [Sg.point 2 r] (({ St.new with ring := r, a := w, off := 1 } : St).setP 2 ⟨pSeg w, pOff w, max r (pRing w)⟩) (Sg.point 2 r) 0 1 19 2 0 rfl rfl (point_has 2 r) (point_exec 2 r h0 h1) rfl rfl rfl (by decide) (by decide) (by decide) (by decide) (by decide) (by decide)
    unfold stR
    rw [if_neg (by show ¬ (false = true); decide)]
    show (match feR [Sg.point 2 r] (({ St.new with ring := r, a := w, off := 1 } : St).setP 2 ⟨pSeg w, pOff w, max r (pRing w)⟩) with | .error e => Except.error e | .ok (op, p, n) => doR _ _ [] op p n) = _
    rw [h]
    show doR _ (({ St.new with ring := r, a := w, off := 2 } : St).setP 2 ⟨pSeg w, pOff w, max r (pRing w)⟩) [] 19 2 0 = _
    unfold doR
    rw [if_neg (by decide), if_neg (by decide), if_neg (by decide), if_neg (by decide), if_neg (by decide), if_neg (by decide), if_neg (by decide), if_neg (show ¬ jmpR 19 _ by unfold jmpR; omega), if_neg (by decide), if_neg (by decide), if_pos (by decide)]
    rfl
  · have h := fe_at [Sg.point 3 r] (({ St.new with ring := r, a := w, off := 1 } : St).setP 3 ⟨pSeg w, pOff w, max r (pRing w)⟩) (Sg.point 3 r) 0 1 19 3 0 rfl rfl (point_has 3 r) (point_exec 3 r h0 h1) rfl rfl rfl (by decide) (by decide) (by decide) (by decide) (by decide) (by decide)
    unfold stR
    rw [if_neg (by show ¬ (false = true); decide)]
    show (match feR [Sg.point 3 r] (({ St.new with ring := r, a := w, off := 1 } : St).setP 3 ⟨pSeg w, pOff w, max r (pRing w)⟩) with | .error e => Except.error e | .ok (op, p, n) => doR _ _ [] op p n) = _
    rw [h]
    show doR _ (({ St.new with ring := r, a := w, off := 2 } : St).setP 3 ⟨pSeg w, pOff w, max r (pRing w)⟩) [] 19 3 0 = _
    unfold doR
    rw [if_neg (by decide), if_neg (by decide), if_neg (by decide), if_neg (by decide), if_neg (by decide), if_neg (by decide), if_neg (by decide), if_neg (show ¬ jmpR 19 _ by unfold jmpR; omega), if_neg (by decide), if_neg (by decide), if_pos (by decide)]
    rfl
end Go.Proofs.Ytiakonmamkfopaa
