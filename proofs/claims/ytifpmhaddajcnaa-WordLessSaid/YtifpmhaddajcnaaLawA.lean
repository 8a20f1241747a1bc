/- The walks of the laws WordClasses, WordConverts, WordLess. -/
import Derived.Test.YtifpmhaddajcnaaLawInts
import Derived.Test.YtifpmhaddajcnaaFacts3
namespace Go.Proofs.Ytifpmhaddajcnaa
open Go.RowKit Go.ChangeShapes Fm
set_option linter.unusedVariables false

theorem law_WordClasses (a : Int) (wa : (Lit.int .i64 a).wf = true) (w : World) : Calls Try.prog 9 #[.int .i64 a] w fun e w' => e = .returned (.bool true) ∧ ∃ n, w' = w.drewN n := by
  obtain ⟨h1, h2⟩ := fclass_range a
  have hx : fclass (bits .xor .i64 a (-9223372036854775808)) = fclass a := by rw [xor_flip wa, fclass_flip wa]
  have hz := (fclass_zero a).trans (rg_zero wa)
  by_cases k1 : a = 0
  · have h4 := hz.2 (Or.inl k1)
    have t1 : (a == 0) = true := by simp [k1]
    rw [h4] at hx
    clear hz h1 h2 k1
    go_enter Try.func9, Try.ntmps9
    go_wp2_with (first | (go_at_call 16; refine (known_ok _).mono ?_; rintro e w' ⟨rfl, n, rfl⟩) | (go_at_call 35; refine (c_Class _ _).mono ?_; rintro e w' ⟨rfl, rfl⟩))
    go_ret
    exact ⟨rfl, _, rfl⟩
  · have t1 : (a == 0) = false := by simp [k1]
    by_cases k2 : a = -9223372036854775808
    · have h4 := hz.2 (Or.inr k2)
      have t2 : (a == -9223372036854775808) = true := by simp [k2]
      rw [h4] at hx
      clear hz h1 h2 k1 k2
      go_enter Try.func9, Try.ntmps9
      go_wp2_with (first | (go_at_call 16; refine (known_ok _).mono ?_; rintro e w' ⟨rfl, n, rfl⟩) | (go_at_call 35; refine (c_Class _ _).mono ?_; rintro e w' ⟨rfl, rfl⟩))
      go_ret
      exact ⟨rfl, _, rfl⟩
    · have t2 : (a == -9223372036854775808) = false := by simp [k2]
      have t3 : (fclass a == 4) = false := by
        cases h : fclass a == 4
        · rfl
        · exact absurd (hz.1 (by simpa using h)) (by omega)
      clear hz k1 k2
      go_enter Try.func9, Try.ntmps9
      go_wp2_with (first | (go_at_call 16; refine (known_ok _).mono ?_; rintro e w' ⟨rfl, n, rfl⟩) | (go_at_call 35; refine (c_Class _ _).mono ?_; rintro e w' ⟨rfl, rfl⟩))
      go_ret
      exact ⟨rfl, _, rfl⟩

theorem law_WordConverts (a : Int) (wa : (Lit.int .i64 a).wf = true) (w : World) : Calls Try.prog 4 #[.int .i64 a] w fun e w' => e = .returned (.bool true) ∧ ∃ n, w' = w.drewN n := by
  have hb := toInt_back a
  have he : toIntE a = 0 ∨ toIntE a = 1 := by unfold toIntE; split <;> simp
  have hn : toIntE a = 1 → toInt a = 0 := by
    unfold toIntE toInt; intro h; split at h
    · rename_i hh; rw [if_pos hh]
    · exact absurd h (by decide)
  rcases he with he | he
  · obtain ⟨h1, h2⟩ := hb he
    have t1 : (toIntE a != 0) = false := by rw [he]; rfl
    clear hb hn he
    go_enter Try.func4, Try.ntmps4
    go_wp2_with (first | (go_at_call 16; refine (known_ok _).mono ?_; rintro e w' ⟨rfl, n, rfl⟩) | (go_at_call 20; refine (c_ToInt _ _).mono ?_; rintro e w' ⟨rfl, rfl⟩) | (go_at_call 21; refine (r_ToInt _ (by assumption) _).mono ?_; rintro e w' ⟨rfl, rfl⟩) | (go_at_call 22; refine (c_FromInt _ _).mono ?_; rintro e w' ⟨rfl, rfl⟩) | (go_at_call 23; refine (r_FromInt _ _).mono ?_; rintro e w' ⟨rfl, rfl⟩))
    go_ret
    exact ⟨rfl, _, rfl⟩
  · have h1 := hn he
    have t1 : (toIntE a != 0) = true := by rw [he]; rfl
    clear hb hn he
    go_enter Try.func4, Try.ntmps4
    go_wp2_with (first | (go_at_call 16; refine (known_ok _).mono ?_; rintro e w' ⟨rfl, n, rfl⟩) | (go_at_call 20; refine (c_ToInt _ _).mono ?_; rintro e w' ⟨rfl, rfl⟩) | (go_at_call 21; refine (r_ToInt _ (by assumption) _).mono ?_; rintro e w' ⟨rfl, rfl⟩) | (go_at_call 22; refine (c_FromInt _ _).mono ?_; rintro e w' ⟨rfl, rfl⟩) | (go_at_call 23; refine (r_FromInt _ _).mono ?_; rintro e w' ⟨rfl, rfl⟩))
    go_ret
    exact ⟨rfl, _, rfl⟩

theorem less_a (a b : Int) (h1 : fless a b = 1) (h2 : fless b a = 0) (h3 : fless a a = 0) (t1 : (fclass a == 0) = false) (t2 : (fclass b == 0) = false) (w : World) : Calls Try.prog 10 #[.int .i64 a, .int .i64 b] w fun e w' => e = .returned (.bool true) ∧ ∃ n, w' = w.drewN n := by
  go_enter Try.func10, Try.ntmps10
  go_wp2_with (first | (go_at_call 16; refine (known_ok _).mono ?_; rintro e w' ⟨rfl, n, rfl⟩) | (go_at_call 36; refine (c_FLess _ _ _).mono ?_; rintro e w' ⟨rfl, rfl⟩) | (go_at_call 37; refine (r_FLess _ _ _).mono ?_; rintro e w' ⟨rfl, rfl⟩) | (go_at_call 35; refine (c_Class _ _).mono ?_; rintro e w' ⟨rfl, rfl⟩) | (go_at_call 38; refine (r_Class _ _).mono ?_; rintro e w' ⟨rfl, rfl⟩))
  go_ret
  exact ⟨rfl, _, rfl⟩
theorem less_b (a b : Int) (h1 : fless a b = 0) (h2 : fless b a = 1) (h3 : fless a a = 0) (t1 : (fclass a == 0) = false) (t2 : (fclass b == 0) = false) (w : World) : Calls Try.prog 10 #[.int .i64 a, .int .i64 b] w fun e w' => e = .returned (.bool true) ∧ ∃ n, w' = w.drewN n := by
  go_enter Try.func10, Try.ntmps10
  go_wp2_with (first | (go_at_call 16; refine (known_ok _).mono ?_; rintro e w' ⟨rfl, n, rfl⟩) | (go_at_call 36; refine (c_FLess _ _ _).mono ?_; rintro e w' ⟨rfl, rfl⟩) | (go_at_call 37; refine (r_FLess _ _ _).mono ?_; rintro e w' ⟨rfl, rfl⟩) | (go_at_call 35; refine (c_Class _ _).mono ?_; rintro e w' ⟨rfl, rfl⟩) | (go_at_call 38; refine (r_Class _ _).mono ?_; rintro e w' ⟨rfl, rfl⟩))
  go_ret
  exact ⟨rfl, _, rfl⟩
theorem less_c (a b : Int) (h1 : fless a b = 0) (h2 : fless b a = 0) (h3 : fless a a = 0) (t1 : (fclass a == 0) = false) (t2 : (fclass b == 0) = false) (w : World) : Calls Try.prog 10 #[.int .i64 a, .int .i64 b] w fun e w' => e = .returned (.bool true) ∧ ∃ n, w' = w.drewN n := by
  go_enter Try.func10, Try.ntmps10
  go_wp2_with (first | (go_at_call 16; refine (known_ok _).mono ?_; rintro e w' ⟨rfl, n, rfl⟩) | (go_at_call 36; refine (c_FLess _ _ _).mono ?_; rintro e w' ⟨rfl, rfl⟩) | (go_at_call 37; refine (r_FLess _ _ _).mono ?_; rintro e w' ⟨rfl, rfl⟩) | (go_at_call 35; refine (c_Class _ _).mono ?_; rintro e w' ⟨rfl, rfl⟩) | (go_at_call 38; refine (r_Class _ _).mono ?_; rintro e w' ⟨rfl, rfl⟩))
  go_ret
  exact ⟨rfl, _, rfl⟩
theorem less_d (a b : Int) (h1 : fless a b = 2) (h2 : fless b a = 2) (h3 : fless a a = 0) (t1 : (fclass a == 0) = false) (t2 : fclass b = 0) (w : World) : Calls Try.prog 10 #[.int .i64 a, .int .i64 b] w fun e w' => e = .returned (.bool true) ∧ ∃ n, w' = w.drewN n := by
  go_enter Try.func10, Try.ntmps10
  go_wp2_with (first | (go_at_call 16; refine (known_ok _).mono ?_; rintro e w' ⟨rfl, n, rfl⟩) | (go_at_call 36; refine (c_FLess _ _ _).mono ?_; rintro e w' ⟨rfl, rfl⟩) | (go_at_call 37; refine (r_FLess _ _ _).mono ?_; rintro e w' ⟨rfl, rfl⟩) | (go_at_call 35; refine (c_Class _ _).mono ?_; rintro e w' ⟨rfl, rfl⟩) | (go_at_call 38; refine (r_Class _ _).mono ?_; rintro e w' ⟨rfl, rfl⟩))
  go_ret
  exact ⟨rfl, _, rfl⟩
theorem less_e (a b : Int) (h1 : fless a b = 2) (h2 : fless b a = 2) (h3 : fless a a = 2) (t1 : fclass a = 0) (t2 : (fclass b == 0) = false) (w : World) : Calls Try.prog 10 #[.int .i64 a, .int .i64 b] w fun e w' => e = .returned (.bool true) ∧ ∃ n, w' = w.drewN n := by
  go_enter Try.func10, Try.ntmps10
  go_wp2_with (first | (go_at_call 16; refine (known_ok _).mono ?_; rintro e w' ⟨rfl, n, rfl⟩) | (go_at_call 36; refine (c_FLess _ _ _).mono ?_; rintro e w' ⟨rfl, rfl⟩) | (go_at_call 37; refine (r_FLess _ _ _).mono ?_; rintro e w' ⟨rfl, rfl⟩) | (go_at_call 35; refine (c_Class _ _).mono ?_; rintro e w' ⟨rfl, rfl⟩) | (go_at_call 38; refine (r_Class _ _).mono ?_; rintro e w' ⟨rfl, rfl⟩))
  go_ret
  exact ⟨rfl, _, rfl⟩
theorem less_f (a b : Int) (h1 : fless a b = 2) (h2 : fless b a = 2) (h3 : fless a a = 2) (t1 : fclass a = 0) (t2 : fclass b = 0) (w : World) : Calls Try.prog 10 #[.int .i64 a, .int .i64 b] w fun e w' => e = .returned (.bool true) ∧ ∃ n, w' = w.drewN n := by
  go_enter Try.func10, Try.ntmps10
  go_wp2_with (first | (go_at_call 16; refine (known_ok _).mono ?_; rintro e w' ⟨rfl, n, rfl⟩) | (go_at_call 36; refine (c_FLess _ _ _).mono ?_; rintro e w' ⟨rfl, rfl⟩) | (go_at_call 37; refine (r_FLess _ _ _).mono ?_; rintro e w' ⟨rfl, rfl⟩) | (go_at_call 35; refine (c_Class _ _).mono ?_; rintro e w' ⟨rfl, rfl⟩) | (go_at_call 38; refine (r_Class _ _).mono ?_; rintro e w' ⟨rfl, rfl⟩))
  go_ret
  exact ⟨rfl, _, rfl⟩
theorem law_WordLess (a b : Int) (wa : (Lit.int .i64 a).wf = true) (w : World) : Calls Try.prog 10 #[.int .i64 a, .int .i64 b] w fun e w' => e = .returned (.bool true) ∧ ∃ n, w' = w.drewN n := by
  have ca := fclass_nan a
  have cb := fclass_nan b
  cases n1 : isN (ub a) <;> cases n2 : isN (ub b)
  · rw [n1] at ca; rw [n2] at cb
    have t1 : (fclass a == 0) = false := by simpa using ca
    have t2 : (fclass b == 0) = false := by simpa using cb
    have hz : fless a a = 0 := by rw [fless_num n1 n1, if_neg (by omega)]
    by_cases k1 : key (ub a) < key (ub b)
    · exact less_a a b (by rw [fless_num n1 n2, if_pos k1]) (by rw [fless_num n2 n1, if_neg (by omega)]) hz t1 t2 w
    · by_cases k2 : key (ub b) < key (ub a)
      · exact less_b a b (by rw [fless_num n1 n2, if_neg k1]) (by rw [fless_num n2 n1, if_pos k2]) hz t1 t2 w
      · exact less_c a b (by rw [fless_num n1 n2, if_neg k1]) (by rw [fless_num n2 n1, if_neg k2]) hz t1 t2 w
  · rw [n1] at ca
    have t1 : (fclass a == 0) = false := by simpa using ca
    exact less_d a b (fless_nan (Or.inr n2)) (fless_nan (Or.inl n2)) (by rw [fless_num n1 n1, if_neg (by omega)]) t1 (cb.2 n2) w
  · rw [n2] at cb
    have t2 : (fclass b == 0) = false := by simpa using cb
    exact less_e a b (fless_nan (Or.inl n1)) (fless_nan (Or.inr n1)) (fless_nan (Or.inl n1)) (ca.2 n1) t2 w
  · exact less_f a b (fless_nan (Or.inl n1)) (fless_nan (Or.inr n1)) (fless_nan (Or.inl n1)) (ca.2 n1) (cb.2 n2) w

end Go.Proofs.Ytifpmhaddajcnaa
