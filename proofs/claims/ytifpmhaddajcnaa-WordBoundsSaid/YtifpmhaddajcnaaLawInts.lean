/- The walks of known, and of the law WordInts. -/
import Derived.Test.YtifpmhaddajcnaaWord3
namespace Go.Proofs.Ytifpmhaddajcnaa
open Go.RowKit Go.ChangeShapes Fm
set_option linter.unusedVariables false

theorem grown_drewN (w : World) (n : Nat) : Grown w (w.drewN n) := by
  induction n with
  | zero => exact Grown.refl _
  | succ n ih => rw [← World.drew_drewN]; exact ih.drew

theorem k_div : fbin .quo 4607182418800017408 (-9223372036854775808) = -4503599627370496 := by decide +kernel
theorem k_add : fbin .add 9218868437227405312 (-4503599627370496) = 9221120237041090561 := by decide +kernel

theorem known_ok (w : World) : Calls Try.prog 16 #[] w fun e w' => e = .returned (.bool true) ∧ ∃ n, w' = w.drewN n := by
  go_enter Try.func16, Try.ntmps16
  go_wp2_with (first | (go_at_call 25; refine (c_FDiv _ _ _).mono ?_; rw [k_div]; rintro e w' ⟨rfl, n, rfl⟩) | (go_at_call 26; refine (c_FAdd _ _ _).mono ?_; rw [k_add]; rintro e w' ⟨rfl, n, rfl⟩))
  go_ret
  exact ⟨rfl, _, rfl⟩

theorem law_WordInts (a b : Int) (wa : (Lit.int .i64 a).wf = true) (w : World) : Calls Try.prog 3 #[.int .i64 a, .int .i64 b] w fun e w' => e = .returned (.bool true) ∧ ∃ n, w' = w.drewN n := by
  have hb := bounds_i64 wa
  have h1 : (wrap64 (wrap64 (a + b) - b) == a) = true := by rw [beq_iff_eq]; unfold wrap64; omega
  clear hb
  go_enter Try.func3, Try.ntmps3
  go_wp2_with (first | (go_at_call 16; refine (known_ok _).mono ?_; rintro e w' ⟨rfl, n, rfl⟩) | go_in)
  go_ret
  exact ⟨rfl, _, rfl⟩
end Go.Proofs.Ytifpmhaddajcnaa
