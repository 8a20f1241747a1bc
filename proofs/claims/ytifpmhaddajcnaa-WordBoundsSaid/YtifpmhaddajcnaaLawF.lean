/- The walk of the law WordBounds. -/
import Derived.Test.YtifpmhaddajcnaaLawC
import Derived.Test.YtifpmhaddajcnaaFacts4
namespace Go.Proofs.Ytifpmhaddajcnaa
open Go.RowKit Go.ChangeShapes Fm
set_option linter.unusedVariables false

theorem mg_two (k : Nat) : mg ((1023 + k) * 4503599627370496) = 2 ^ k * unit := by
  have q1 : ¬ (1023 + k) * 4503599627370496 < 4503599627370496 := by omega
  have q2 : 4503599627370496 + (1023 + k) * 4503599627370496 % 4503599627370496 = 2 ^ 52 := by omega
  have q3 : (1023 + k) * 4503599627370496 / 4503599627370496 - 1 = 1022 + k := by omega
  unfold mg
  rw [if_neg q1, q2, q3, unit_eq, ← Nat.pow_add, ← Nat.pow_add, show 52 + (1022 + k) = k + eU by unfold eU; omega]

theorem two_word (k : Nat) (hk : k < 1024) : wrap64 (Ieee.double.word false ((1023 + k) * 4503599627370496)) = (1023 + (k : Int)) * 4503599627370496 := by
  rw [wrap_word_pos (by omega)]; omega
theorem two_word_neg (k : Nat) (hk : k < 1024) : wrap64 (Ieee.double.word true ((1023 + k) * 4503599627370496)) = flip ((1023 + (k : Int)) * 4503599627370496) := by
  rw [wrap_word_neg (by omega)]; unfold flip; rw [if_neg (by omega)]; omega

theorem two_wf (k : Nat) (hk : k < 1024) : (Lit.int .i64 ((1023 + (k : Int)) * 4503599627370496)).wf = true := by
  rw [← two_word k hk]; exact wf_wrap64 _

theorem pow_in (p s : Nat) (h0 : 0 < p) (h1 : p < 9223372036854775808) (hm : mg s = p * unit) :
    (toInt (wrap64 (Ieee.double.word false s)) = (p : Int) ∧ toIntE (wrap64 (Ieee.double.word false s)) = 0 ∧ fromInt (p : Int) = wrap64 (Ieee.double.word false s)) ∧
    (toInt (wrap64 (Ieee.double.word true s)) = -(p : Int) ∧ toIntE (wrap64 (Ieee.double.word true s)) = 0 ∧ fromInt (-(p : Int)) = wrap64 (Ieee.double.word true s)) := by
  have hs := le_hi hm (by omega)
  have m1 : mg s = ((p : Int)).natAbs * unit := by rw [Int.natAbs_natCast]; exact hm
  have m2 : mg s = (-(p : Int)).natAbs * unit := by rw [Int.natAbs_neg, Int.natAbs_natCast]; exact hm
  have e1 := fromInt_rung m1 (by omega)
  have e2 := fromInt_rung m2 (by omega)
  have d1 : decide ((p : Int) < 0) = false := decide_eq_false (by omega)
  have d2 : decide (-(p : Int) < 0) = true := decide_eq_true (by omega)
  rw [d1] at e1; rw [d2] at e2
  obtain ⟨b1, b2⟩ := back (n := (p : Int)) (by omega) m1
  obtain ⟨b3, b4⟩ := back (n := -(p : Int)) (by omega) m2
  rw [e1] at b1 b2; rw [e2] at b3 b4
  exact ⟨⟨b1, b2, e1⟩, b3, b4, e2⟩

theorem wrap_in {x : Int} (h1 : 0 < x) (h2 : x < 9223372036854775808) : wrap64 x = x := by unfold wrap64; omega
theorem wrap_in_neg {x : Int} (h1 : 0 < x) (h2 : x < 9223372036854775808) : wrap64 (-x) = -x := by unfold wrap64; omega

/-- two to the k, below the bound -/
theorem bounds_in (k : Nat) (hk : k < 63) (P : Int) (hP : P = 2 ^ k) :
    toInt ((1023 + (k : Int)) * 4503599627370496) = P ∧ toIntE ((1023 + (k : Int)) * 4503599627370496) = 0 ∧ fromInt P = (1023 + (k : Int)) * 4503599627370496 ∧
    toInt (flip ((1023 + (k : Int)) * 4503599627370496)) = -P ∧ toIntE (flip ((1023 + (k : Int)) * 4503599627370496)) = 0 ∧ fromInt (-P) = flip ((1023 + (k : Int)) * 4503599627370496) ∧ 0 < P ∧ P < 9223372036854775808 := by
  have h0 : 0 < 2 ^ k := Nat.two_pow_pos k
  have h1 : 2 ^ k < 2 ^ 63 := Nat.pow_lt_pow_right (by omega) hk
  have hn : P = ((2 ^ k : Nat) : Int) := by rw [hP]; simp
  clear hP
  have hm := mg_two k
  have t1 := two_word k (by omega)
  have t2 := two_word_neg k (by omega)
  generalize (1023 + k) * 4503599627370496 = s at *
  generalize (1023 + (k : Int)) * 4503599627370496 = T at *
  generalize 2 ^ k = p at *
  obtain ⟨⟨g1, g2, g3⟩, g4, g5, g6⟩ := pow_in p s h0 h1 hm
  rw [t1] at g1 g2 g3; rw [t2] at g4 g5 g6
  subst hn
  exact ⟨g1, g2, g3, g4, g5, g6, by omega, by omega⟩

theorem bounds_out (k : Nat) (h1 : 63 ≤ k) (h2 : k < 1024) : toInt ((1023 + (k : Int)) * 4503599627370496) = 0 ∧ toIntE ((1023 + (k : Int)) * 4503599627370496) = 1 ∧
    (63 < k → toInt (flip ((1023 + (k : Int)) * 4503599627370496)) = 0 ∧ toIntE (flip ((1023 + (k : Int)) * 4503599627370496)) = 1) := by
  have w := two_wf k h2
  have r := rg_ub w
  rw [if_neg (by omega)] at r
  have s1 := neg_ub w
  rw [decide_eq_false (by omega)] at s1
  have b1 : badInt ((1023 + (k : Int)) * 4503599627370496) = true := by
    unfold badInt key
    rw [s1]
    have : decide ((4890909195324358656 : Int) ≤ (rg (ub ((1023 + (k : Int)) * 4503599627370496)) : Int)) = true := decide_eq_true (by omega)
    simp only [Bool.false_eq_true, if_false, this, Bool.or_true, Bool.true_or]
  have s2 := sg_flip w
  rw [s1] at s2
  refine ⟨?_, ?_, fun h3 => ?_⟩
  · unfold toInt; rw [if_pos b1]
  · unfold toIntE; rw [if_pos b1]
  · have b2 : badInt (flip ((1023 + (k : Int)) * 4503599627370496)) = true := by
      unfold badInt key
      rw [s2, rg_flip w]
      have : decide (-(rg (ub ((1023 + (k : Int)) * 4503599627370496)) : Int) < -4890909195324358656) = true := decide_eq_true (by omega)
      simp only [Bool.not_false, if_true, this, Bool.or_true]
    exact ⟨by unfold toInt; rw [if_pos b2], by unfold toIntE; rw [if_pos b2]⟩

theorem bounds_far (a k : Int) (hk : a % 1100 = k) (b1 : 0 ≤ k) (b2 : k < 1100) (c : 1024 ≤ k) (neg : Bool) (w : World) : Calls Try.prog 6 #[.int .i64 a, .bool neg] w fun e w' => e = .returned (.bool true) ∧ ∃ n, w' = w.drewN n := by
  go_enter Try.func6, Try.ntmps6
  go_wp2_with (first | (go_at_call 16; refine (known_ok _).mono ?_; rintro e w' ⟨rfl, n, rfl⟩) | (go_at_call 24; refine (within_ok _ _ (by decide) (by decide) _).mono ?_; rintro e w' ⟨rfl, rfl⟩) | (go_at_call 20; refine (c_ToInt _ _).mono ?_; rintro e w' ⟨rfl, rfl⟩) | (go_at_call 22; refine (c_FromInt _ _).mono ?_; rintro e w' ⟨rfl, rfl⟩))
  go_ret
  exact ⟨rfl, _, rfl⟩

theorem bounds_in_pos (a k : Int) (hk : a % 1100 = k) (b1 : 0 ≤ k) (c : k < 63) (P : Int) (hp : wrap64 (2 ^ k.toNat) = P) (h1 : toIntE ((1023 + k) * 4503599627370496) = 0) (h2 : toInt ((1023 + k) * 4503599627370496) = P) (h3 : fromInt P = ((1023 + k) * 4503599627370496)) (w : World) : Calls Try.prog 6 #[.int .i64 a, .bool false] w fun e w' => e = .returned (.bool true) ∧ ∃ n, w' = w.drewN n := by
  go_enter Try.func6, Try.ntmps6
  go_wp2_with (first | (go_at_call 16; refine (known_ok _).mono ?_; rintro e w' ⟨rfl, n, rfl⟩) | (go_at_call 24; refine (within_ok _ _ (by decide) (by decide) _).mono ?_; rintro e w' ⟨rfl, rfl⟩) | (go_at_call 20; refine (c_ToInt _ _).mono ?_; rintro e w' ⟨rfl, rfl⟩) | (go_at_call 22; refine (c_FromInt _ _).mono ?_; rintro e w' ⟨rfl, rfl⟩))
  go_ret
  exact ⟨rfl, _, rfl⟩

theorem bounds_in_neg (a k : Int) (hk : a % 1100 = k) (b1 : 0 ≤ k) (c : k < 63) (P Q : Int) (hp : wrap64 (2 ^ k.toNat) = P) (hn : wrap64 (-P) = -P) (hq : bits .xor .i64 ((1023 + k) * 4503599627370496) (-9223372036854775808) = Q) (h1 : toIntE Q = 0) (h2 : toInt Q = -P) (h3 : fromInt (-P) = Q) (w : World) : Calls Try.prog 6 #[.int .i64 a, .bool true] w fun e w' => e = .returned (.bool true) ∧ ∃ n, w' = w.drewN n := by
  go_enter Try.func6, Try.ntmps6
  go_wp2_with (first | (go_at_call 16; refine (known_ok _).mono ?_; rintro e w' ⟨rfl, n, rfl⟩) | (go_at_call 24; refine (within_ok _ _ (by decide) (by decide) _).mono ?_; rintro e w' ⟨rfl, rfl⟩) | (go_at_call 20; refine (c_ToInt _ _).mono ?_; rintro e w' ⟨rfl, rfl⟩) | (go_at_call 22; refine (c_FromInt _ _).mono ?_; rintro e w' ⟨rfl, rfl⟩))
  go_ret
  exact ⟨rfl, _, rfl⟩

theorem bounds_out_pos (a k : Int) (hk : a % 1100 = k) (b1 : 0 ≤ k) (c1 : 63 < k) (c2 : k < 1024) (h1 : toIntE ((1023 + k) * 4503599627370496) = 1) (h2 : toInt ((1023 + k) * 4503599627370496) = 0) (w : World) : Calls Try.prog 6 #[.int .i64 a, .bool false] w fun e w' => e = .returned (.bool true) ∧ ∃ n, w' = w.drewN n := by
  go_enter Try.func6, Try.ntmps6
  go_wp2_with (first | (go_at_call 16; refine (known_ok _).mono ?_; rintro e w' ⟨rfl, n, rfl⟩) | (go_at_call 24; refine (within_ok _ _ (by decide) (by decide) _).mono ?_; rintro e w' ⟨rfl, rfl⟩) | (go_at_call 20; refine (c_ToInt _ _).mono ?_; rintro e w' ⟨rfl, rfl⟩) | (go_at_call 22; refine (c_FromInt _ _).mono ?_; rintro e w' ⟨rfl, rfl⟩))
  go_ret
  exact ⟨rfl, _, rfl⟩

theorem bounds_out_neg (a k : Int) (hk : a % 1100 = k) (b1 : 0 ≤ k) (c1 : 63 < k) (c2 : k < 1024) (Q : Int) (hq : bits .xor .i64 ((1023 + k) * 4503599627370496) (-9223372036854775808) = Q) (h1 : toIntE Q = 1) (h2 : toInt Q = 0) (w : World) : Calls Try.prog 6 #[.int .i64 a, .bool true] w fun e w' => e = .returned (.bool true) ∧ ∃ n, w' = w.drewN n := by
  go_enter Try.func6, Try.ntmps6
  go_wp2_with (first | (go_at_call 16; refine (known_ok _).mono ?_; rintro e w' ⟨rfl, n, rfl⟩) | (go_at_call 24; refine (within_ok _ _ (by decide) (by decide) _).mono ?_; rintro e w' ⟨rfl, rfl⟩) | (go_at_call 20; refine (c_ToInt _ _).mono ?_; rintro e w' ⟨rfl, rfl⟩) | (go_at_call 22; refine (c_FromInt _ _).mono ?_; rintro e w' ⟨rfl, rfl⟩))
  go_ret
  exact ⟨rfl, _, rfl⟩

theorem bounds_63 (a : Int) (hk : a % 1100 = 63) (neg : Bool) (w : World) : Calls Try.prog 6 #[.int .i64 a, .bool neg] w fun e w' => e = .returned (.bool true) ∧ ∃ n, w' = w.drewN n := by
  have h0 : wrap64 4890909195324358656 = 4890909195324358656 := by decide +kernel
  have h1 : toIntE 4890909195324358656 = 1 := by decide +kernel
  have h2 : toInt 4890909195324358656 = 0 := by decide +kernel
  have h3 : bits .xor .i64 4890909195324358656 (-9223372036854775808) = -4332462841530417152 := by decide +kernel
  have h4 : toIntE (-4332462841530417152) = 0 := by decide +kernel
  have h5 : toInt (-4332462841530417152) = -9223372036854775808 := by decide +kernel
  cases neg
  · go_enter Try.func6, Try.ntmps6
    go_wp2_with (first | (go_at_call 16; refine (known_ok _).mono ?_; rintro e w' ⟨rfl, n, rfl⟩) | (go_at_call 24; refine (within_ok _ _ (by decide) (by decide) _).mono ?_; rintro e w' ⟨rfl, rfl⟩) | (go_at_call 20; refine (c_ToInt _ _).mono ?_; rintro e w' ⟨rfl, rfl⟩) | (go_at_call 22; refine (c_FromInt _ _).mono ?_; rintro e w' ⟨rfl, rfl⟩))
    go_ret
    exact ⟨rfl, _, rfl⟩
  · go_enter Try.func6, Try.ntmps6
    go_wp2_with (first | (go_at_call 16; refine (known_ok _).mono ?_; rintro e w' ⟨rfl, n, rfl⟩) | (go_at_call 24; refine (within_ok _ _ (by decide) (by decide) _).mono ?_; rintro e w' ⟨rfl, rfl⟩) | (go_at_call 20; refine (c_ToInt _ _).mono ?_; rintro e w' ⟨rfl, rfl⟩) | (go_at_call 22; refine (c_FromInt _ _).mono ?_; rintro e w' ⟨rfl, rfl⟩))
    go_ret
    exact ⟨rfl, _, rfl⟩

theorem law_WordBounds (a : Int) (neg : Bool) (wa : (Lit.int .i64 a).wf = true) (w : World) : Calls Try.prog 6 #[.int .i64 a, .bool neg] w fun e w' => e = .returned (.bool true) ∧ ∃ n, w' = w.drewN n := by
  have b1 := Int.emod_nonneg a (show (1100 : Int) ≠ 0 by decide)
  have b2 := Int.emod_lt_of_pos a (show (0 : Int) < 1100 by decide)
  obtain ⟨k, hk⟩ : ∃ k : Nat, a % 1100 = (k : Int) := ⟨(a % 1100).toNat, by omega⟩
  by_cases c1 : k < 63
  · obtain ⟨P, hP⟩ : ∃ P : Int, P = 2 ^ k := ⟨_, rfl⟩
    obtain ⟨f1, f2, f3, f4, f5, f6, f7, f8⟩ := bounds_in k c1 P hP
    have hp : wrap64 (2 ^ ((k : Int)).toNat) = P := by rw [Int.toNat_natCast, ← hP]; exact wrap_in f7 f8
    cases neg
    · exact bounds_in_pos a k hk (by omega) (by omega) P hp f2 f1 f3 w
    · exact bounds_in_neg a k hk (by omega) (by omega) P _ hp (wrap_in_neg f7 f8) (xor_flip (two_wf k (by omega))) f5 f4 f6 w
  · by_cases c2 : k = 63
    · exact bounds_63 a (by omega) neg w
    · by_cases c3 : k < 1024
      · obtain ⟨f1, f2, f3⟩ := bounds_out k (by omega) c3
        obtain ⟨f3, f4⟩ := f3 (by omega)
        cases neg
        · exact bounds_out_pos a k hk (by omega) (by omega) (by omega) f2 f1 w
        · exact bounds_out_neg a k hk (by omega) (by omega) (by omega) _ (xor_flip (two_wf k c3)) f4 f3 w
      · exact bounds_far a k hk (by omega) (by omega) (by omega) neg w
end Go.Proofs.Ytifpmhaddajcnaa
