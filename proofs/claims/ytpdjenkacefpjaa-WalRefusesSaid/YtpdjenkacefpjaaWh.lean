/- Contracts of package wal: smaller; a log's reading. -/
import Derived.Test.YtpdjenkacefpjaaWg
namespace Go.Proofs.Ytpdjenkacefpjaa
open Go.RowKit Go.ChangeShapes
set_option linter.unusedVariables false
set_option maxRecDepth 100000

theorem c_smaller {F : Nat → Prop} (w : World) (B : Nat) (d : Dk) (h : DiskAt F w B d) : Calls Try.prog 24 #[.pointer (some ⟨B, 0, none⟩)] w fun e w' => e = .returned (.int .i64 (readE d 42)) ∧ Below w.heap.size w w' := by
  have h' := Lib.hid h
  clear h
  go_enter Try.func24, Try.ntmps24
  go_wp2_with (first
    | (go_at_call 23; refine (c_Read w B d 42 h'.out ⟨by decide, by decide⟩).mono ?_; rintro e w1 ⟨v1, rfl, _, _, hb⟩; replace hb := Lib.hid hb))
  go_ret
  exact ⟨rfl, hb.out⟩
/-- what a log's reading answers -/
def lreadE (dd : Bool) (d : Dk) (n : Int) : Int := if dd = true then 12 else if d.dead = true then 12 else if n < 42 then 1 else readE d n
def Lr (dd : Bool) (d : Dk) (n : Int) (w : World) (e : Ending) (w' : World) : Prop := ∃ v, e = .returned (.tuple #[v, .int .i64 (lreadE dd d n)]) ∧ (lreadE dd d n = 0 → RowB w' w.heap.size v (d.at n)) ∧ (lreadE dd d n ≠ 0 → v = .slice none 0 0) ∧ Below w.heap.size w w'
theorem c_lread {F : Nat → Prop} (w : World) (L B : Nat) (q : Int) (dd : Bool) (d : Dk) (n : Int) (hl : LgAt w L B q dd) (h : DiskAt F w B d) (hn : I64 n) : Calls Try.prog 18 #[.pointer (some ⟨L, 0, none⟩), .int .i64 n] w (Lr dd d n w) := by
  have h' := Lib.hid h
  have hn' := Lib.hid hn
  have c0 := hl.cell.1
  have c2 := hl.cell.2.2.1
  clear h hn hl
  cases dd with
  | true =>
    have hE : Hid (lreadE true d n = 12) := Lib.hid rfl
    go_enter Try.func18, Try.ntmps18
    go_wp2
    go_ret2
    exact ⟨_, (by rw [hE.out]; rfl), fun h => absurd (hE.out.symm.trans h) (by decide), fun _ => rfl, Below.refl _ _⟩
  | false =>
    cases hd : d.dead with
    | true =>
      have hE : Hid (lreadE false d n = 12) := Lib.hid (by unfold lreadE; rw [if_neg Bool.false_ne_true, if_pos hd])
      replace hd := Lib.hid hd
      go_enter Try.func18, Try.ntmps18
      go_wp2_with (first | (go_at_call 20; refine (c_Dead w B d h'.out).mono ?_; rintro e w1 ⟨rfl, rfl⟩; rw [hd.out]))
      go_ret2
      exact ⟨_, (by rw [hE.out]; rfl), fun h => absurd (hE.out.symm.trans h) (by decide), fun _ => rfl, Below.refl _ _⟩
    | false =>
      by_cases hlt : n < 42
      · have hE : Hid (lreadE false d n = 1) := Lib.hid (by unfold lreadE; rw [if_neg Bool.false_ne_true, if_neg (by rw [hd]; exact Bool.false_ne_true), if_pos hlt])
        replace hd := Lib.hid hd
        go_enter Try.func18, Try.ntmps18
        go_wp2_with (first | (go_at_call 20; refine (c_Dead w B d h'.out).mono ?_; rintro e w1 ⟨rfl, rfl⟩; rw [hd.out]))
        go_ret2
        exact ⟨_, (by rw [hE.out]; rfl), fun h => absurd (hE.out.symm.trans h) (by decide), fun _ => rfl, Below.refl _ _⟩
      · have hE : Hid (lreadE false d n = readE d n) := Lib.hid (by unfold lreadE; rw [if_neg Bool.false_ne_true, if_neg (by rw [hd]; exact Bool.false_ne_true), if_neg hlt])
        replace hd := Lib.hid hd
        go_enter Try.func18, Try.ntmps18
        go_wp2_with (first | (go_at_call 20; refine (c_Dead w B d h'.out).mono ?_; rintro e w1 ⟨rfl, rfl⟩; rw [hd.out]) | (go_at_call 23; refine (c_Read w B d n h'.out hn'.out).mono ?_; rintro e w1 ⟨v1, rfl, hr1, hr2, hb⟩; replace hb := Lib.hid hb; replace hr1 := Lib.hid hr1; replace hr2 := Lib.hid hr2))
        go_ret2
        exact ⟨_, (by rw [hE.out]; rfl), fun h => hr1.out (by rw [← hE.out]; exact h), fun h => hr2.out (by rw [← hE.out]; exact h), hb.out⟩
end Go.Proofs.Ytpdjenkacefpjaa
