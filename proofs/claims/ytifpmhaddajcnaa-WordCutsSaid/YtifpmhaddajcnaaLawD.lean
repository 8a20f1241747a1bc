/- The walks of the laws WordSmall, WordCuts. -/
import Derived.Test.YtifpmhaddajcnaaLawC
import Derived.Test.YtifpmhaddajcnaaFacts4
namespace Go.Proofs.Ytifpmhaddajcnaa
open Go.RowKit Go.ChangeShapes Fm
set_option linter.unusedVariables false

set_option maxHeartbeats 400000 in
theorem small_a (a b k l : Int) (hk : a % 33554432 = k) (hl : b % 33554432 = l) (b1 : 0 ≤ k) (b2 : k < 33554432) (b3 : 0 ≤ l) (b4 : l < 33554432)
    (h1 : toIntE (fromInt (k - 16777216)) = 0) (h2 : toInt (fromInt (k - 16777216)) = (k - 16777216)) (h3 : fbin .add (fromInt (k - 16777216)) (fromInt (l - 16777216)) = fromInt ((k - 16777216) + (l - 16777216))) (h4 : fbin .sub (fromInt (k - 16777216)) (fromInt (l - 16777216)) = fromInt ((k - 16777216) - (l - 16777216))) (t1 : ((k - 16777216) != 0) = false) (u1 : ((k - 16777216) == 0) = true) (t2 : ((l - 16777216) != 0) = false) (u2 : ((l - 16777216) == 0) = true) (w : World) :
    Calls Try.prog 7 #[.int .i64 a, .int .i64 b] w fun e w' => e = .returned (.bool true) ∧ ∃ n, w' = w.drewN n := by
  go_enter Try.func7, Try.ntmps7
  go_wp2_with (first | (go_at_call 16; refine (known_ok _).mono ?_; rintro e w' ⟨rfl, n, rfl⟩) | (go_at_call 24; refine (within_ok _ _ (by decide) (by decide) _).mono ?_; rintro e w' ⟨rfl, rfl⟩) | (go_at_call 20; refine (c_ToInt _ _).mono ?_; rintro e w' ⟨rfl, rfl⟩) | (go_at_call 22; refine (c_FromInt _ _).mono ?_; rintro e w' ⟨rfl, rfl⟩) | (go_at_call 26; refine (c_FAdd _ _ _).mono ?_; rintro e w' ⟨rfl, n, rfl⟩) | (go_at_call 27; refine (c_FSub _ _ _).mono ?_; rintro e w' ⟨rfl, n, rfl⟩) | (go_at_call 28; refine (c_FMul _ _ _).mono ?_; rintro e w' ⟨rfl, n, rfl⟩) | (go_at_call 25; refine (c_FDiv _ _ _).mono ?_; rintro e w' ⟨rfl, n, rfl⟩))
  go_ret
  exact ⟨rfl, _, rfl⟩

set_option maxHeartbeats 400000 in
theorem small_b (a b k l : Int) (hk : a % 33554432 = k) (hl : b % 33554432 = l) (b1 : 0 ≤ k) (b2 : k < 33554432) (b3 : 0 ≤ l) (b4 : l < 33554432)
    (h1 : toIntE (fromInt (k - 16777216)) = 0) (h2 : toInt (fromInt (k - 16777216)) = (k - 16777216)) (h3 : fbin .add (fromInt (k - 16777216)) (fromInt (l - 16777216)) = fromInt ((k - 16777216) + (l - 16777216))) (h4 : fbin .sub (fromInt (k - 16777216)) (fromInt (l - 16777216)) = fromInt ((k - 16777216) - (l - 16777216))) (t1 : ((k - 16777216) != 0) = false) (u1 : ((k - 16777216) == 0) = true) (t2 : ((l - 16777216) != 0) = true) (u2 : ((l - 16777216) == 0) = false) (w : World) :
    Calls Try.prog 7 #[.int .i64 a, .int .i64 b] w fun e w' => e = .returned (.bool true) ∧ ∃ n, w' = w.drewN n := by
  go_enter Try.func7, Try.ntmps7
  go_wp2_with (first | (go_at_call 16; refine (known_ok _).mono ?_; rintro e w' ⟨rfl, n, rfl⟩) | (go_at_call 24; refine (within_ok _ _ (by decide) (by decide) _).mono ?_; rintro e w' ⟨rfl, rfl⟩) | (go_at_call 20; refine (c_ToInt _ _).mono ?_; rintro e w' ⟨rfl, rfl⟩) | (go_at_call 22; refine (c_FromInt _ _).mono ?_; rintro e w' ⟨rfl, rfl⟩) | (go_at_call 26; refine (c_FAdd _ _ _).mono ?_; rintro e w' ⟨rfl, n, rfl⟩) | (go_at_call 27; refine (c_FSub _ _ _).mono ?_; rintro e w' ⟨rfl, n, rfl⟩) | (go_at_call 28; refine (c_FMul _ _ _).mono ?_; rintro e w' ⟨rfl, n, rfl⟩) | (go_at_call 25; refine (c_FDiv _ _ _).mono ?_; rintro e w' ⟨rfl, n, rfl⟩))
  go_ret
  exact ⟨rfl, _, rfl⟩

set_option maxHeartbeats 400000 in
theorem small_c (a b k l : Int) (hk : a % 33554432 = k) (hl : b % 33554432 = l) (b1 : 0 ≤ k) (b2 : k < 33554432) (b3 : 0 ≤ l) (b4 : l < 33554432)
    (h1 : toIntE (fromInt (k - 16777216)) = 0) (h2 : toInt (fromInt (k - 16777216)) = (k - 16777216)) (h3 : fbin .add (fromInt (k - 16777216)) (fromInt (l - 16777216)) = fromInt ((k - 16777216) + (l - 16777216))) (h4 : fbin .sub (fromInt (k - 16777216)) (fromInt (l - 16777216)) = fromInt ((k - 16777216) - (l - 16777216))) (t1 : ((k - 16777216) != 0) = true) (u1 : ((k - 16777216) == 0) = false) (t2 : ((l - 16777216) != 0) = false) (u2 : ((l - 16777216) == 0) = true) (w : World) :
    Calls Try.prog 7 #[.int .i64 a, .int .i64 b] w fun e w' => e = .returned (.bool true) ∧ ∃ n, w' = w.drewN n := by
  go_enter Try.func7, Try.ntmps7
  go_wp2_with (first | (go_at_call 16; refine (known_ok _).mono ?_; rintro e w' ⟨rfl, n, rfl⟩) | (go_at_call 24; refine (within_ok _ _ (by decide) (by decide) _).mono ?_; rintro e w' ⟨rfl, rfl⟩) | (go_at_call 20; refine (c_ToInt _ _).mono ?_; rintro e w' ⟨rfl, rfl⟩) | (go_at_call 22; refine (c_FromInt _ _).mono ?_; rintro e w' ⟨rfl, rfl⟩) | (go_at_call 26; refine (c_FAdd _ _ _).mono ?_; rintro e w' ⟨rfl, n, rfl⟩) | (go_at_call 27; refine (c_FSub _ _ _).mono ?_; rintro e w' ⟨rfl, n, rfl⟩) | (go_at_call 28; refine (c_FMul _ _ _).mono ?_; rintro e w' ⟨rfl, n, rfl⟩) | (go_at_call 25; refine (c_FDiv _ _ _).mono ?_; rintro e w' ⟨rfl, n, rfl⟩))
  go_ret
  exact ⟨rfl, _, rfl⟩

set_option maxHeartbeats 400000 in
theorem small_d (a b k l : Int) (hk : a % 33554432 = k) (hl : b % 33554432 = l) (b1 : 0 ≤ k) (b2 : k < 33554432) (b3 : 0 ≤ l) (b4 : l < 33554432)
    (h1 : toIntE (fromInt (k - 16777216)) = 0) (h2 : toInt (fromInt (k - 16777216)) = (k - 16777216)) (h3 : fbin .add (fromInt (k - 16777216)) (fromInt (l - 16777216)) = fromInt ((k - 16777216) + (l - 16777216))) (h4 : fbin .sub (fromInt (k - 16777216)) (fromInt (l - 16777216)) = fromInt ((k - 16777216) - (l - 16777216))) (t1 : ((k - 16777216) != 0) = true) (u1 : ((k - 16777216) == 0) = false) (t2 : ((l - 16777216) != 0) = true) (u2 : ((l - 16777216) == 0) = false) (hw : wrap64 ((k - 16777216) * (l - 16777216)) = (k - 16777216) * (l - 16777216)) (h5 : fbin .mul (fromInt (k - 16777216)) (fromInt (l - 16777216)) = fromInt ((k - 16777216) * (l - 16777216))) (h6 : fbin .quo (fromInt ((k - 16777216) * (l - 16777216))) (fromInt (l - 16777216)) = fromInt (k - 16777216)) (w : World) :
    Calls Try.prog 7 #[.int .i64 a, .int .i64 b] w fun e w' => e = .returned (.bool true) ∧ ∃ n, w' = w.drewN n := by
  go_enter Try.func7, Try.ntmps7
  go_wp2_with (first | (go_at_call 16; refine (known_ok _).mono ?_; rintro e w' ⟨rfl, n, rfl⟩) | (go_at_call 24; refine (within_ok _ _ (by decide) (by decide) _).mono ?_; rintro e w' ⟨rfl, rfl⟩) | (go_at_call 20; refine (c_ToInt _ _).mono ?_; rintro e w' ⟨rfl, rfl⟩) | (go_at_call 22; refine (c_FromInt _ _).mono ?_; rintro e w' ⟨rfl, rfl⟩) | (go_at_call 26; refine (c_FAdd _ _ _).mono ?_; rintro e w' ⟨rfl, n, rfl⟩) | (go_at_call 27; refine (c_FSub _ _ _).mono ?_; rintro e w' ⟨rfl, n, rfl⟩) | (go_at_call 28; refine (c_FMul _ _ _).mono ?_; rintro e w' ⟨rfl, n, rfl⟩) | (go_at_call 25; refine (c_FDiv _ _ _).mono ?_; rintro e w' ⟨rfl, n, rfl⟩))
  go_ret
  exact ⟨rfl, _, rfl⟩

theorem law_WordSmall (a b : Int) (wa : (Lit.int .i64 a).wf = true) (w : World) : Calls Try.prog 7 #[.int .i64 a, .int .i64 b] w fun e w' => e = .returned (.bool true) ∧ ∃ n, w' = w.drewN n := by
  have b1 := Int.emod_nonneg a (show (33554432 : Int) ≠ 0 by decide)
  have b2 := Int.emod_lt_of_pos a (show (0 : Int) < 33554432 by decide)
  have b3 := Int.emod_nonneg b (show (33554432 : Int) ≠ 0 by decide)
  have b4 := Int.emod_lt_of_pos b (show (0 : Int) < 33554432 by decide)
  obtain ⟨k, hk⟩ : ∃ k, a % 33554432 = k := ⟨_, rfl⟩
  obtain ⟨l, hl⟩ : ∃ l, b % 33554432 = l := ⟨_, rfl⟩
  rw [hk] at b1 b2
  rw [hl] at b3 b4
  have wA : Whole (fromInt (k - 16777216)) (k - 16777216) := whole_fromInt (by omega)
  have wB : Whole (fromInt (l - 16777216)) (l - 16777216) := whole_fromInt (by omega)
  obtain ⟨s, hs⟩ := small_rung (k - 16777216).natAbs (by omega)
  obtain ⟨h2, h1⟩ := back (n := (k - 16777216)) (by omega) hs
  have h3 := add_whole wA wB (by omega)
  have h4 := sub_whole wA wB (by omega)
  by_cases hA : (k - 16777216) = 0
  · by_cases hB : (l - 16777216) = 0
    · exact small_a a b k l hk hl b1 b2 b3 b4 h1 h2 h3 h4 (by simp [hA]) (by simp [hA]) (by simp [hB]) (by simp [hB]) w
    · exact small_b a b k l hk hl b1 b2 b3 b4 h1 h2 h3 h4 (by simp [hA]) (by simp [hA]) (by simp [hB]) (by simp [hB]) w
  · by_cases hB : (l - 16777216) = 0
    · exact small_c a b k l hk hl b1 b2 b3 b4 h1 h2 h3 h4 (by simp [hA]) (by simp [hA]) (by simp [hB]) (by simp [hB]) w
    · have hp : ((k - 16777216) * (l - 16777216)).natAbs ≤ 281474976710656 := by
        rw [Int.natAbs_mul]
        calc (k - 16777216).natAbs * (l - 16777216).natAbs ≤ 16777216 * 16777216 := Nat.mul_le_mul (by omega) (by omega)
          _ = _ := by decide
      have hw : wrap64 ((k - 16777216) * (l - 16777216)) = (k - 16777216) * (l - 16777216) := by
        generalize (k - 16777216) * (l - 16777216) = x at *
        unfold wrap64; omega
      have h5 := mul_whole wA wB hA hB (by omega)
      have wP : Whole (fromInt ((k - 16777216) * (l - 16777216))) ((k - 16777216) * (l - 16777216)) := whole_fromInt (by omega)
      have h6 := div_whole wP wB hB (fun h0 => by rcases Int.mul_eq_zero.1 h0 with h | h <;> contradiction) (by omega) rfl
      exact small_d a b k l hk hl b1 b2 b3 b4 h1 h2 h3 h4 (by simp [hA]) (by simp [hA]) (by simp [hB]) (by simp [hB]) hw h5 h6 w

set_option maxHeartbeats 400000 in
theorem cuts_walk (a b k l : Int) (hk : a % 67108864 = k) (hl : b % 1048576 = l) (b1 : 0 ≤ k) (b2 : k < 67108864) (b3 : 0 ≤ l) (b4 : l < 1048576)
    (h1 : toIntE (fbin .quo (fromInt (k - 33554432)) (fromInt (1 + l))) = 0) (h2 : toInt (fbin .quo (fromInt (k - 33554432)) (fromInt (1 + l))) = (k - 33554432).tdiv (1 + l))
    (h3 : toIntE (fbin .quo (fromInt (k - 33554432)) (fromInt (-(1 + l)))) = 0) (h4 : toInt (fbin .quo (fromInt (k - 33554432)) (fromInt (-(1 + l)))) = -(k - 33554432).tdiv (1 + l))
    (hw : wrap64 (-(k - 33554432).tdiv (1 + l)) = -(k - 33554432).tdiv (1 + l)) (w : World) :
    Calls Try.prog 5 #[.int .i64 a, .int .i64 b] w fun e w' => e = .returned (.bool true) ∧ ∃ n, w' = w.drewN n := by
  go_enter Try.func5, Try.ntmps5
  go_wp2_with (first | (go_at_call 16; refine (known_ok _).mono ?_; rintro e w' ⟨rfl, n, rfl⟩) | (go_at_call 24; refine (within_ok _ _ (by decide) (by decide) _).mono ?_; rintro e w' ⟨rfl, rfl⟩) | (go_at_call 20; refine (c_ToInt _ _).mono ?_; rintro e w' ⟨rfl, rfl⟩) | (go_at_call 22; refine (c_FromInt _ _).mono ?_; rintro e w' ⟨rfl, rfl⟩) | (go_at_call 26; refine (c_FAdd _ _ _).mono ?_; rintro e w' ⟨rfl, n, rfl⟩) | (go_at_call 27; refine (c_FSub _ _ _).mono ?_; rintro e w' ⟨rfl, n, rfl⟩) | (go_at_call 28; refine (c_FMul _ _ _).mono ?_; rintro e w' ⟨rfl, n, rfl⟩) | (go_at_call 25; refine (c_FDiv _ _ _).mono ?_; rintro e w' ⟨rfl, n, rfl⟩))
  go_ret
  exact ⟨rfl, _, rfl⟩

theorem law_WordCuts (a b : Int) (wa : (Lit.int .i64 a).wf = true) (w : World) : Calls Try.prog 5 #[.int .i64 a, .int .i64 b] w fun e w' => e = .returned (.bool true) ∧ ∃ n, w' = w.drewN n := by
  have b1 := Int.emod_nonneg a (show (67108864 : Int) ≠ 0 by decide)
  have b2 := Int.emod_lt_of_pos a (show (0 : Int) < 67108864 by decide)
  have b3 := Int.emod_nonneg b (show (1048576 : Int) ≠ 0 by decide)
  have b4 := Int.emod_lt_of_pos b (show (0 : Int) < 1048576 by decide)
  obtain ⟨k, hk⟩ : ∃ k, a % 67108864 = k := ⟨_, rfl⟩
  obtain ⟨l, hl⟩ : ∃ l, b % 1048576 = l := ⟨_, rfl⟩
  rw [hk] at b1 b2
  rw [hl] at b3 b4
  have wA : Whole (fromInt (k - 33554432)) (k - 33554432) := whole_fromInt (by omega)
  have wB : Whole (fromInt (1 + l)) (1 + l) := whole_fromInt (by omega)
  have wC : Whole (fromInt (-(1 + l))) (-(1 + l)) := whole_fromInt (by omega)
  obtain ⟨h2, h1⟩ := div_cut wA wB (by omega) (by omega) (by omega)
  obtain ⟨h4, h3⟩ := div_cut wA wC (by omega) (by omega) (by omega)
  rw [Int.tdiv_neg] at h4
  refine cuts_walk a b k l hk hl b1 b2 b3 b4 h1 h2 h3 h4 ?_ w
  have hb : ((k - 33554432).tdiv (1 + l)).natAbs ≤ 67108864 := by
    rw [Int.natAbs_tdiv]
    exact Nat.le_trans (Nat.div_le_self _ _) (by omega)
  generalize (k - 33554432).tdiv (1 + l) = x at *
  unfold wrap64; omega
end Go.Proofs.Ytifpmhaddajcnaa
