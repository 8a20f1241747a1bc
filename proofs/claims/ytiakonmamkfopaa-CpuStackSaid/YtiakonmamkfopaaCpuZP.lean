/- CpuStack: what calls and returns make. -/
import Derived.Test.YtiakonmamkfopaaCpuX
namespace Go.Proofs.Ytiakonmamkfopaa
open Go.RowKit Go.ChangeShapes
set_option linter.unusedVariables false
set_option maxRecDepth 100000

/-- the law's segment: a call of itself, and a return -/
def Sg.two : Sg := ⟨true, [encI 20 0 0, encI 21 0 0], 7, 4, 4, 4, 0⟩
theorem two_has : Sg.two.has 4 = true := plain_has [] 4 (by simp)
theorem two_exec : mayExec Sg.two.r1 Sg.two.r2 4 = true := by show decide _ = true; decide
theorem two_seg : seg? [Sg.two] 0 = some Sg.two := rfl
theorem two_ca (l : List Fr) (hl : l.length < 8) : caR [Sg.two] { St.new with off := 1 } l 0 0 = .ok (St.new, l ++ [⟨0, 1, 4⟩]) := by
  have e0 : ({ St.new with off := 1 } : St).eo 0 0 = 0 := by decide +kernel
  have e1 : ({ St.new with off := 1 } : St).eb 0 = 4 := by decide +kernel
  unfold caR
  have hs : seg? [Sg.two] (({ St.new with off := 1 } : St).pt (0 : Int).toNat).seg = some Sg.two := rfl
  simp only [hs, e0, e1]
  rw [if_neg (by rw [two_has]; decide), if_neg (by decide), if_neg (by decide), if_neg (by omega)]
  congr 1
theorem two_call (l : List Fr) (hl : l.length < 8) : stR [Sg.two] St.new l = .ok ⟨St.new, l ++ [⟨0, 1, 4⟩], false, 0, none⟩ := by
  have h := fe_at [Sg.two] St.new Sg.two 0 0 20 0 0 rfl rfl two_has two_exec rfl rfl rfl (by decide) (by decide) (by decide) (by decide) (by decide) (by decide)
  unfold stR
  rw [if_neg (by show ¬ (false = true); decide), h]
  show doR _ { St.new with off := 1 } l 20 0 0 = _
  unfold doR
  rw [if_neg (by decide), if_neg (by decide), if_neg (by decide), if_neg (by decide), if_neg (by decide), if_neg (by decide), if_neg (by decide), if_neg (show ¬ jmpR 20 _ by unfold jmpR; omega), if_neg (by decide), if_neg (by decide), if_neg (by decide), if_pos (by decide), two_ca l hl]
theorem two_full (l : List Fr) (hl : 8 ≤ l.length) : stR [Sg.two] St.new l = .error 37 := by
  have h := fe_at [Sg.two] St.new Sg.two 0 0 20 0 0 rfl rfl two_has two_exec rfl rfl rfl (by decide) (by decide) (by decide) (by decide) (by decide) (by decide)
  have e0 : ({ St.new with off := 1 } : St).eo 0 0 = 0 := by decide +kernel
  have e1 : ({ St.new with off := 1 } : St).eb 0 = 4 := by decide +kernel
  have hc : caR [Sg.two] { St.new with off := 1 } l 0 0 = .error 37 := by
    unfold caR
    have hs : seg? [Sg.two] (({ St.new with off := 1 } : St).pt (0 : Int).toNat).seg = some Sg.two := rfl
    simp only [hs, e0, e1]
    rw [if_neg (by rw [two_has]; decide), if_neg (by decide), if_neg (by decide), if_pos hl]
  unfold stR
  rw [if_neg (by show ¬ (false = true); decide), h]
  show doR _ { St.new with off := 1 } l 20 0 0 = _
  unfold doR
  rw [if_neg (by decide), if_neg (by decide), if_neg (by decide), if_neg (by decide), if_neg (by decide), if_neg (by decide), if_neg (by decide), if_neg (show ¬ jmpR 20 _ by unfold jmpR; omega), if_neg (by decide), if_neg (by decide), if_neg (by decide), if_pos (by decide), hc]
theorem two_ret (l : List Fr) : stR [Sg.two] { St.new with off := 1 } (l ++ [⟨0, 1, 4⟩]) = .ok ⟨{ St.new with off := 1 }, l, false, 0, none⟩ := by
  have h := fe_at [Sg.two] { St.new with off := 1 } Sg.two 0 1 21 0 0 rfl rfl two_has two_exec rfl rfl rfl (by decide) (by decide) (by decide) (by decide) (by decide) (by decide)
  have hc : reR { St.new with off := 2 } (l ++ [⟨0, 1, 4⟩]) = .ok ({ St.new with off := 1 }, l) := by
    unfold reR
    rw [List.getLast?_concat, List.dropLast_concat]
    rfl
  unfold stR
  rw [if_neg (by show ¬ (false = true); decide), h]
  show doR _ { St.new with off := 2 } (l ++ [⟨0, 1, 4⟩]) 21 0 0 = _
  unfold doR
  rw [if_neg (by decide), if_neg (by decide), if_neg (by decide), if_neg (by decide), if_neg (by decide), if_neg (by decide), if_neg (by decide), if_neg (show ¬ jmpR 21 _ by unfold jmpR; omega), if_neg (by decide), if_neg (by decide), if_neg (by decide), if_neg (by decide), if_pos (by decide), hc]
theorem two_void : stR [Sg.two] { St.new with off := 1 } [] = .error 37 := by
  have h := fe_at [Sg.two] { St.new with off := 1 } Sg.two 0 1 21 0 0 rfl rfl two_has two_exec rfl rfl rfl (by decide) (by decide) (by decide) (by decide) (by decide) (by decide)
  unfold stR
  rw [if_neg (by show ¬ (false = true); decide), h]
  show doR _ { St.new with off := 2 } [] 21 0 0 = _
  unfold doR
  rw [if_neg (by decide), if_neg (by decide), if_neg (by decide), if_neg (by decide), if_neg (by decide), if_neg (by decide), if_neg (by decide), if_neg (show ¬ jmpR 21 _ by unfold jmpR; omega), if_neg (by decide), if_neg (by decide), if_neg (by decide), if_neg (by decide), if_pos (by decide)]
  rfl
end Go.Proofs.Ytiakonmamkfopaa
