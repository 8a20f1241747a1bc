/- The walks of the laws WordNoughts, WordInfs. -/
import Derived.Test.YtifpmhaddajcnaaLawInts
import Derived.Test.YtifpmhaddajcnaaFacts3
namespace Go.Proofs.Ytifpmhaddajcnaa
open Go.RowKit Go.ChangeShapes Fm
set_option linter.unusedVariables false

set_option maxHeartbeats 400000 in
theorem noughts_a (a : Int) (t : (fclass a == 0) = true) (w : World) : Calls Try.prog 13 #[.int .i64 a] w fun e w' => e = .returned (.bool true) ∧ ∃ n, w' = w.drewN n := by
  have k1 : fbin .add 0 (-9223372036854775808) = 0 := by decide +kernel
  have k2 : fbin .add (-9223372036854775808) (-9223372036854775808) = -9223372036854775808 := by decide +kernel
  have k3 : fbin .sub 0 0 = 0 := by decide +kernel
  have k4 : fbin .sub (-9223372036854775808) 0 = -9223372036854775808 := by decide +kernel
  have k5 : fmax 0 (-9223372036854775808) = 0 := by decide +kernel
  have k6 : fmax (-9223372036854775808) 0 = 0 := by decide +kernel
  have k7 : fless (-9223372036854775808) 0 = 0 := by decide +kernel
  have k8 : fless 0 (-9223372036854775808) = 0 := by decide +kernel
  have k9 : fbin .quo 0 0 = 9221120237041090561 := by decide +kernel
  have k10 : fbin .quo (-9223372036854775808) 0 = 9221120237041090561 := by decide +kernel
  have kx : bits .xor .i64 9218868437227405312 (-9223372036854775808) = -4503599627370496 := by decide +kernel
  have ka : bits .andNot .i64 (-9223372036854775808) (-9223372036854775808) = 0 := by decide +kernel
  have kb : bits .andNot .i64 0 (-9223372036854775808) = 0 := by decide +kernel
  go_enter Try.func13, Try.ntmps13
  go_wp2_with (first | (go_at_call 16; refine (known_ok _).mono ?_; rintro e w' ⟨rfl, n, rfl⟩) | (go_at_call 26; refine (c_FAdd _ _ _).mono ?_; rintro e w' ⟨rfl, n, rfl⟩) | (go_at_call 27; refine (c_FSub _ _ _).mono ?_; rintro e w' ⟨rfl, n, rfl⟩) | (go_at_call 33; refine (c_FMax _ _ (by first | assumption | decide) (by first | assumption | decide) _).mono ?_; rintro e w' ⟨rfl, rfl⟩) | (go_at_call 36; refine (c_FLess _ _ _).mono ?_; rintro e w' ⟨rfl, rfl⟩) | (go_at_call 25; refine (c_FDiv _ _ _).mono ?_; rintro e w' ⟨rfl, n, rfl⟩) | (go_at_call 28; refine (c_FMul _ _ _).mono ?_; rintro e w' ⟨rfl, n, rfl⟩) | (go_at_call 35; refine (c_Class _ _).mono ?_; rintro e w' ⟨rfl, rfl⟩))
  go_ret
  exact ⟨rfl, _, rfl⟩

set_option maxHeartbeats 400000 in
theorem noughts_b (a : Int) (t0 : (fclass a == 0) = false) (t : (fclass a == 4) = true) (w : World) : Calls Try.prog 13 #[.int .i64 a] w fun e w' => e = .returned (.bool true) ∧ ∃ n, w' = w.drewN n := by
  have k1 : fbin .add 0 (-9223372036854775808) = 0 := by decide +kernel
  have k2 : fbin .add (-9223372036854775808) (-9223372036854775808) = -9223372036854775808 := by decide +kernel
  have k3 : fbin .sub 0 0 = 0 := by decide +kernel
  have k4 : fbin .sub (-9223372036854775808) 0 = -9223372036854775808 := by decide +kernel
  have k5 : fmax 0 (-9223372036854775808) = 0 := by decide +kernel
  have k6 : fmax (-9223372036854775808) 0 = 0 := by decide +kernel
  have k7 : fless (-9223372036854775808) 0 = 0 := by decide +kernel
  have k8 : fless 0 (-9223372036854775808) = 0 := by decide +kernel
  have k9 : fbin .quo 0 0 = 9221120237041090561 := by decide +kernel
  have k10 : fbin .quo (-9223372036854775808) 0 = 9221120237041090561 := by decide +kernel
  have kx : bits .xor .i64 9218868437227405312 (-9223372036854775808) = -4503599627370496 := by decide +kernel
  have ka : bits .andNot .i64 (-9223372036854775808) (-9223372036854775808) = 0 := by decide +kernel
  have kb : bits .andNot .i64 0 (-9223372036854775808) = 0 := by decide +kernel
  go_enter Try.func13, Try.ntmps13
  go_wp2_with (first | (go_at_call 16; refine (known_ok _).mono ?_; rintro e w' ⟨rfl, n, rfl⟩) | (go_at_call 26; refine (c_FAdd _ _ _).mono ?_; rintro e w' ⟨rfl, n, rfl⟩) | (go_at_call 27; refine (c_FSub _ _ _).mono ?_; rintro e w' ⟨rfl, n, rfl⟩) | (go_at_call 33; refine (c_FMax _ _ (by first | assumption | decide) (by first | assumption | decide) _).mono ?_; rintro e w' ⟨rfl, rfl⟩) | (go_at_call 36; refine (c_FLess _ _ _).mono ?_; rintro e w' ⟨rfl, rfl⟩) | (go_at_call 25; refine (c_FDiv _ _ _).mono ?_; rintro e w' ⟨rfl, n, rfl⟩) | (go_at_call 28; refine (c_FMul _ _ _).mono ?_; rintro e w' ⟨rfl, n, rfl⟩) | (go_at_call 35; refine (c_Class _ _).mono ?_; rintro e w' ⟨rfl, rfl⟩))
  go_ret
  exact ⟨rfl, _, rfl⟩

set_option maxHeartbeats 400000 in
theorem noughts_c (a : Int) (t0 : (fclass a == 0) = false) (t1 : (fclass a == 4) = false) (t : (fclass a == 1) = true) (w : World) : Calls Try.prog 13 #[.int .i64 a] w fun e w' => e = .returned (.bool true) ∧ ∃ n, w' = w.drewN n := by
  have k1 : fbin .add 0 (-9223372036854775808) = 0 := by decide +kernel
  have k2 : fbin .add (-9223372036854775808) (-9223372036854775808) = -9223372036854775808 := by decide +kernel
  have k3 : fbin .sub 0 0 = 0 := by decide +kernel
  have k4 : fbin .sub (-9223372036854775808) 0 = -9223372036854775808 := by decide +kernel
  have k5 : fmax 0 (-9223372036854775808) = 0 := by decide +kernel
  have k6 : fmax (-9223372036854775808) 0 = 0 := by decide +kernel
  have k7 : fless (-9223372036854775808) 0 = 0 := by decide +kernel
  have k8 : fless 0 (-9223372036854775808) = 0 := by decide +kernel
  have k9 : fbin .quo 0 0 = 9221120237041090561 := by decide +kernel
  have k10 : fbin .quo (-9223372036854775808) 0 = 9221120237041090561 := by decide +kernel
  have kx : bits .xor .i64 9218868437227405312 (-9223372036854775808) = -4503599627370496 := by decide +kernel
  have ka : bits .andNot .i64 (-9223372036854775808) (-9223372036854775808) = 0 := by decide +kernel
  have kb : bits .andNot .i64 0 (-9223372036854775808) = 0 := by decide +kernel
  go_enter Try.func13, Try.ntmps13
  go_wp2_with (first | (go_at_call 16; refine (known_ok _).mono ?_; rintro e w' ⟨rfl, n, rfl⟩) | (go_at_call 26; refine (c_FAdd _ _ _).mono ?_; rintro e w' ⟨rfl, n, rfl⟩) | (go_at_call 27; refine (c_FSub _ _ _).mono ?_; rintro e w' ⟨rfl, n, rfl⟩) | (go_at_call 33; refine (c_FMax _ _ (by first | assumption | decide) (by first | assumption | decide) _).mono ?_; rintro e w' ⟨rfl, rfl⟩) | (go_at_call 36; refine (c_FLess _ _ _).mono ?_; rintro e w' ⟨rfl, rfl⟩) | (go_at_call 25; refine (c_FDiv _ _ _).mono ?_; rintro e w' ⟨rfl, n, rfl⟩) | (go_at_call 28; refine (c_FMul _ _ _).mono ?_; rintro e w' ⟨rfl, n, rfl⟩) | (go_at_call 35; refine (c_Class _ _).mono ?_; rintro e w' ⟨rfl, rfl⟩))
  go_ret
  exact ⟨rfl, _, rfl⟩

set_option maxHeartbeats 400000 in
theorem noughts_d (a : Int) (t0 : (fclass a == 0) = false) (t1 : (fclass a == 4) = false) (t2 : (fclass a == 1) = false) (ha : a < 0) (g1 : fbin .quo a 0 = -4503599627370496) (g2 : fbin .quo a (-9223372036854775808) = 9218868437227405312) (g3 : fbin .mul a 0 = -9223372036854775808) (g4 : fbin .add a 0 = a) (g5 : fbin .add a (-9223372036854775808) = a) (g6 : fbin .sub a a = 0) (w : World) : Calls Try.prog 13 #[.int .i64 a] w fun e w' => e = .returned (.bool true) ∧ ∃ n, w' = w.drewN n := by
  have k1 : fbin .add 0 (-9223372036854775808) = 0 := by decide +kernel
  have k2 : fbin .add (-9223372036854775808) (-9223372036854775808) = -9223372036854775808 := by decide +kernel
  have k3 : fbin .sub 0 0 = 0 := by decide +kernel
  have k4 : fbin .sub (-9223372036854775808) 0 = -9223372036854775808 := by decide +kernel
  have k5 : fmax 0 (-9223372036854775808) = 0 := by decide +kernel
  have k6 : fmax (-9223372036854775808) 0 = 0 := by decide +kernel
  have k7 : fless (-9223372036854775808) 0 = 0 := by decide +kernel
  have k8 : fless 0 (-9223372036854775808) = 0 := by decide +kernel
  have k9 : fbin .quo 0 0 = 9221120237041090561 := by decide +kernel
  have k10 : fbin .quo (-9223372036854775808) 0 = 9221120237041090561 := by decide +kernel
  have kx : bits .xor .i64 9218868437227405312 (-9223372036854775808) = -4503599627370496 := by decide +kernel
  have ka : bits .andNot .i64 (-9223372036854775808) (-9223372036854775808) = 0 := by decide +kernel
  have kb : bits .andNot .i64 0 (-9223372036854775808) = 0 := by decide +kernel
  go_enter Try.func13, Try.ntmps13
  go_wp2_with (first | (go_at_call 16; refine (known_ok _).mono ?_; rintro e w' ⟨rfl, n, rfl⟩) | (go_at_call 26; refine (c_FAdd _ _ _).mono ?_; rintro e w' ⟨rfl, n, rfl⟩) | (go_at_call 27; refine (c_FSub _ _ _).mono ?_; rintro e w' ⟨rfl, n, rfl⟩) | (go_at_call 33; refine (c_FMax _ _ (by first | assumption | decide) (by first | assumption | decide) _).mono ?_; rintro e w' ⟨rfl, rfl⟩) | (go_at_call 36; refine (c_FLess _ _ _).mono ?_; rintro e w' ⟨rfl, rfl⟩) | (go_at_call 25; refine (c_FDiv _ _ _).mono ?_; rintro e w' ⟨rfl, n, rfl⟩) | (go_at_call 28; refine (c_FMul _ _ _).mono ?_; rintro e w' ⟨rfl, n, rfl⟩) | (go_at_call 35; refine (c_Class _ _).mono ?_; rintro e w' ⟨rfl, rfl⟩))
  go_ret
  exact ⟨rfl, _, rfl⟩

set_option maxHeartbeats 400000 in
theorem noughts_e (a : Int) (t0 : (fclass a == 0) = false) (t1 : (fclass a == 4) = false) (t2 : (fclass a == 1) = false) (ha : ¬ a < 0) (g2 : fbin .quo a (-9223372036854775808) = -4503599627370496) (g1 : fbin .quo a 0 = 9218868437227405312) (g3 : fbin .mul a 0 = 0) (g4 : fbin .add a 0 = a) (g5 : fbin .add a (-9223372036854775808) = a) (g6 : fbin .sub a a = 0) (w : World) : Calls Try.prog 13 #[.int .i64 a] w fun e w' => e = .returned (.bool true) ∧ ∃ n, w' = w.drewN n := by
  have k1 : fbin .add 0 (-9223372036854775808) = 0 := by decide +kernel
  have k2 : fbin .add (-9223372036854775808) (-9223372036854775808) = -9223372036854775808 := by decide +kernel
  have k3 : fbin .sub 0 0 = 0 := by decide +kernel
  have k4 : fbin .sub (-9223372036854775808) 0 = -9223372036854775808 := by decide +kernel
  have k5 : fmax 0 (-9223372036854775808) = 0 := by decide +kernel
  have k6 : fmax (-9223372036854775808) 0 = 0 := by decide +kernel
  have k7 : fless (-9223372036854775808) 0 = 0 := by decide +kernel
  have k8 : fless 0 (-9223372036854775808) = 0 := by decide +kernel
  have k9 : fbin .quo 0 0 = 9221120237041090561 := by decide +kernel
  have k10 : fbin .quo (-9223372036854775808) 0 = 9221120237041090561 := by decide +kernel
  have kx : bits .xor .i64 9218868437227405312 (-9223372036854775808) = -4503599627370496 := by decide +kernel
  have ka : bits .andNot .i64 (-9223372036854775808) (-9223372036854775808) = 0 := by decide +kernel
  have kb : bits .andNot .i64 0 (-9223372036854775808) = 0 := by decide +kernel
  go_enter Try.func13, Try.ntmps13
  go_wp2_with (first | (go_at_call 16; refine (known_ok _).mono ?_; rintro e w' ⟨rfl, n, rfl⟩) | (go_at_call 26; refine (c_FAdd _ _ _).mono ?_; rintro e w' ⟨rfl, n, rfl⟩) | (go_at_call 27; refine (c_FSub _ _ _).mono ?_; rintro e w' ⟨rfl, n, rfl⟩) | (go_at_call 33; refine (c_FMax _ _ (by first | assumption | decide) (by first | assumption | decide) _).mono ?_; rintro e w' ⟨rfl, rfl⟩) | (go_at_call 36; refine (c_FLess _ _ _).mono ?_; rintro e w' ⟨rfl, rfl⟩) | (go_at_call 25; refine (c_FDiv _ _ _).mono ?_; rintro e w' ⟨rfl, n, rfl⟩) | (go_at_call 28; refine (c_FMul _ _ _).mono ?_; rintro e w' ⟨rfl, n, rfl⟩) | (go_at_call 35; refine (c_Class _ _).mono ?_; rintro e w' ⟨rfl, rfl⟩))
  go_ret
  exact ⟨rfl, _, rfl⟩

theorem law_WordNoughts (a : Int) (wa : (Lit.int .i64 a).wf = true) (w : World) : Calls Try.prog 13 #[.int .i64 a] w fun e w' => e = .returned (.bool true) ∧ ∃ n, w' = w.drewN n := by
  cases t0 : fclass a == 0
  · cases t1 : fclass a == 4
    · cases t2 : fclass a == 1
      · have r0 : 0 < rg (ub a) := by
          rcases Nat.eq_zero_or_pos (rg (ub a)) with h | h
          · rw [(fclass_zero a).2 h] at t1; exact absurd t1 (by decide)
          · exact h
        have r1 : rg (ub a) < 9218868437227405312 := by
          rcases Nat.lt_trichotomy (rg (ub a)) 9218868437227405312 with h | h | h
          · exact h
          · rw [(fclass_inf a).2 h] at t2; exact absurd t2 (by decide)
          · rw [(fclass_nan a).2 ((isN_iff a).2 h)] at t0; exact absurd t0 (by decide)
        have hs := neg_ub wa
        have g1 := div_0 r0 r1
        have g2 := div_S r0 r1
        have g3 := mul_0 r1
        rw [hs] at g1 g2 g3
        by_cases ha : a < 0
        · rw [decide_eq_true ha] at g1 g2 g3
          exact noughts_d a t0 t1 t2 ha g1 g2 g3 (add_0 wa r0 r1) (add_S wa r0 r1) (sub_self r1) w
        · rw [decide_eq_false ha] at g1 g2 g3
          exact noughts_e a t0 t1 t2 ha g2 g1 g3 (add_0 wa r0 r1) (add_S wa r0 r1) (sub_self r1) w
      · exact noughts_c a t0 t1 t2 w
    · exact noughts_b a t0 t1 w
  · exact noughts_a a t0 w

set_option maxHeartbeats 400000 in
theorem infs_a (a : Int) (wa : (Lit.int .i64 a).wf = true) (t : (fclass a == 0) = true) (w : World) : Calls Try.prog 15 #[.int .i64 a] w fun e w' => e = .returned (.bool true) ∧ ∃ n, w' = w.drewN n := by
  have k1 : fbin .add 9218868437227405312 (-4503599627370496) = 9221120237041090561 := by decide +kernel
  have k2 : fbin .sub 9218868437227405312 9218868437227405312 = 9221120237041090561 := by decide +kernel
  have k3 : fbin .quo 9218868437227405312 (-4503599627370496) = 9221120237041090561 := by decide +kernel
  have k4 : fbin .mul 9218868437227405312 0 = 9221120237041090561 := by decide +kernel
  have k5 : fbin .add 9218868437227405312 9218868437227405312 = 9218868437227405312 := by decide +kernel
  have k6 : fbin .mul (-4503599627370496) (-4503599627370496) = 9218868437227405312 := by decide +kernel
  have k7 : fless (-4503599627370496) 9218868437227405312 = 1 := by decide +kernel
  have k8 : fclass (-4503599627370496) = 1 := by decide +kernel
  have k9 : toIntE 9218868437227405312 = 1 := by decide +kernel
  have kx : bits .xor .i64 9218868437227405312 (-9223372036854775808) = -4503599627370496 := by decide +kernel
  go_enter Try.func15, Try.ntmps15
  go_wp2_with (first | (go_at_call 16; refine (known_ok _).mono ?_; rintro e w' ⟨rfl, n, rfl⟩) | (go_at_call 26; refine (c_FAdd _ _ _).mono ?_; rintro e w' ⟨rfl, n, rfl⟩) | (go_at_call 27; refine (c_FSub _ _ _).mono ?_; rintro e w' ⟨rfl, n, rfl⟩) | (go_at_call 33; refine (c_FMax _ _ (by first | assumption | decide) (by first | assumption | decide) _).mono ?_; rintro e w' ⟨rfl, rfl⟩) | (go_at_call 36; refine (c_FLess _ _ _).mono ?_; rintro e w' ⟨rfl, rfl⟩) | (go_at_call 25; refine (c_FDiv _ _ _).mono ?_; rintro e w' ⟨rfl, n, rfl⟩) | (go_at_call 28; refine (c_FMul _ _ _).mono ?_; rintro e w' ⟨rfl, n, rfl⟩) | (go_at_call 35; refine (c_Class _ _).mono ?_; rintro e w' ⟨rfl, rfl⟩) | (go_at_call 20; refine (c_ToInt _ _).mono ?_; rintro e w' ⟨rfl, rfl⟩))
  go_ret
  exact ⟨rfl, _, rfl⟩

set_option maxHeartbeats 400000 in
theorem infs_b (a : Int) (wa : (Lit.int .i64 a).wf = true) (t0 : (fclass a == 0) = false) (t : (fclass a == 1) = true) (w : World) : Calls Try.prog 15 #[.int .i64 a] w fun e w' => e = .returned (.bool true) ∧ ∃ n, w' = w.drewN n := by
  have k1 : fbin .add 9218868437227405312 (-4503599627370496) = 9221120237041090561 := by decide +kernel
  have k2 : fbin .sub 9218868437227405312 9218868437227405312 = 9221120237041090561 := by decide +kernel
  have k3 : fbin .quo 9218868437227405312 (-4503599627370496) = 9221120237041090561 := by decide +kernel
  have k4 : fbin .mul 9218868437227405312 0 = 9221120237041090561 := by decide +kernel
  have k5 : fbin .add 9218868437227405312 9218868437227405312 = 9218868437227405312 := by decide +kernel
  have k6 : fbin .mul (-4503599627370496) (-4503599627370496) = 9218868437227405312 := by decide +kernel
  have k7 : fless (-4503599627370496) 9218868437227405312 = 1 := by decide +kernel
  have k8 : fclass (-4503599627370496) = 1 := by decide +kernel
  have k9 : toIntE 9218868437227405312 = 1 := by decide +kernel
  have kx : bits .xor .i64 9218868437227405312 (-9223372036854775808) = -4503599627370496 := by decide +kernel
  go_enter Try.func15, Try.ntmps15
  go_wp2_with (first | (go_at_call 16; refine (known_ok _).mono ?_; rintro e w' ⟨rfl, n, rfl⟩) | (go_at_call 26; refine (c_FAdd _ _ _).mono ?_; rintro e w' ⟨rfl, n, rfl⟩) | (go_at_call 27; refine (c_FSub _ _ _).mono ?_; rintro e w' ⟨rfl, n, rfl⟩) | (go_at_call 33; refine (c_FMax _ _ (by first | assumption | decide) (by first | assumption | decide) _).mono ?_; rintro e w' ⟨rfl, rfl⟩) | (go_at_call 36; refine (c_FLess _ _ _).mono ?_; rintro e w' ⟨rfl, rfl⟩) | (go_at_call 25; refine (c_FDiv _ _ _).mono ?_; rintro e w' ⟨rfl, n, rfl⟩) | (go_at_call 28; refine (c_FMul _ _ _).mono ?_; rintro e w' ⟨rfl, n, rfl⟩) | (go_at_call 35; refine (c_Class _ _).mono ?_; rintro e w' ⟨rfl, rfl⟩) | (go_at_call 20; refine (c_ToInt _ _).mono ?_; rintro e w' ⟨rfl, rfl⟩))
  go_ret
  exact ⟨rfl, _, rfl⟩

set_option maxHeartbeats 400000 in
theorem infs_c (a : Int) (wa : (Lit.int .i64 a).wf = true) (t0 : (fclass a == 0) = false) (t1 : (fclass a == 1) = false) (g1 : fbin .add a 9218868437227405312 = 9218868437227405312) (g2 : fbin .sub a 9218868437227405312 = -4503599627370496) (g3 : fless a 9218868437227405312 = 1) (g4 : fless (-4503599627370496) a = 1) (g5 : fmax a 9218868437227405312 = 9218868437227405312) (g6 : fmax (-4503599627370496) a = a) (g7 : fclass (fbin .quo a (-4503599627370496)) = 4) (w : World) : Calls Try.prog 15 #[.int .i64 a] w fun e w' => e = .returned (.bool true) ∧ ∃ n, w' = w.drewN n := by
  have k1 : fbin .add 9218868437227405312 (-4503599627370496) = 9221120237041090561 := by decide +kernel
  have k2 : fbin .sub 9218868437227405312 9218868437227405312 = 9221120237041090561 := by decide +kernel
  have k3 : fbin .quo 9218868437227405312 (-4503599627370496) = 9221120237041090561 := by decide +kernel
  have k4 : fbin .mul 9218868437227405312 0 = 9221120237041090561 := by decide +kernel
  have k5 : fbin .add 9218868437227405312 9218868437227405312 = 9218868437227405312 := by decide +kernel
  have k6 : fbin .mul (-4503599627370496) (-4503599627370496) = 9218868437227405312 := by decide +kernel
  have k7 : fless (-4503599627370496) 9218868437227405312 = 1 := by decide +kernel
  have k8 : fclass (-4503599627370496) = 1 := by decide +kernel
  have k9 : toIntE 9218868437227405312 = 1 := by decide +kernel
  have kx : bits .xor .i64 9218868437227405312 (-9223372036854775808) = -4503599627370496 := by decide +kernel
  go_enter Try.func15, Try.ntmps15
  go_wp2_with (first | (go_at_call 16; refine (known_ok _).mono ?_; rintro e w' ⟨rfl, n, rfl⟩) | (go_at_call 26; refine (c_FAdd _ _ _).mono ?_; rintro e w' ⟨rfl, n, rfl⟩) | (go_at_call 27; refine (c_FSub _ _ _).mono ?_; rintro e w' ⟨rfl, n, rfl⟩) | (go_at_call 33; refine (c_FMax _ _ (by first | assumption | decide) (by first | assumption | decide) _).mono ?_; rintro e w' ⟨rfl, rfl⟩) | (go_at_call 36; refine (c_FLess _ _ _).mono ?_; rintro e w' ⟨rfl, rfl⟩) | (go_at_call 25; refine (c_FDiv _ _ _).mono ?_; rintro e w' ⟨rfl, n, rfl⟩) | (go_at_call 28; refine (c_FMul _ _ _).mono ?_; rintro e w' ⟨rfl, n, rfl⟩) | (go_at_call 35; refine (c_Class _ _).mono ?_; rintro e w' ⟨rfl, rfl⟩) | (go_at_call 20; refine (c_ToInt _ _).mono ?_; rintro e w' ⟨rfl, rfl⟩))
  go_ret
  exact ⟨rfl, _, rfl⟩

theorem law_WordInfs (a : Int) (wa : (Lit.int .i64 a).wf = true) (w : World) : Calls Try.prog 15 #[.int .i64 a] w fun e w' => e = .returned (.bool true) ∧ ∃ n, w' = w.drewN n := by
  cases t0 : fclass a == 0
  · cases t1 : fclass a == 1
    · have r1 : rg (ub a) < 9218868437227405312 := by
        rcases Nat.lt_trichotomy (rg (ub a)) 9218868437227405312 with h | h | h
        · exact h
        · rw [(fclass_inf a).2 h] at t1; exact absurd t1 (by decide)
        · rw [(fclass_nan a).2 ((isN_iff a).2 h)] at t0; exact absurd t0 (by decide)
      have n1 : isN (ub a) = false := by
        cases h : isN (ub a)
        · rfl
        · have := (isN_iff a).1 h; omega
      have n2 : isN (ub 9218868437227405312) = false := by decide +kernel
      have n3 : isN (ub (-4503599627370496)) = false := by decide +kernel
      have e2 : key (ub 9218868437227405312) = 9218868437227405312 := by decide +kernel
      have e3 : key (ub (-4503599627370496)) = -9218868437227405312 := by decide +kernel
      have e1 : -9218868437227405312 < key (ub a) ∧ key (ub a) < 9218868437227405312 := by
        unfold key; cases sg (ub a) <;> simp <;> omega
      refine infs_c a wa t0 t1 (add_I r1) (sub_I r1) ?_ ?_ ?_ ?_ (div_J r1) w
      · rw [fless_num n1 n2, e2, if_pos (by omega)]
      · rw [fless_num n3 n1, e3, if_pos (by omega)]
      · rw [fmax_num n1 n2, e2, if_pos (by omega)]
      · rw [fmax_num n3 n1, e3, if_pos (by omega)]
    · exact infs_b a wa t0 t1 w
  · exact infs_a a wa t0 w

end Go.Proofs.Ytifpmhaddajcnaa
