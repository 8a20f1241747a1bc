/- The walks of the laws WordFloats, WordSigns, WordSorts, WordNans. -/
import Derived.Test.YtifpmhaddajcnaaLawInts
import Derived.Test.YtifpmhaddajcnaaFacts3
namespace Go.Proofs.Ytifpmhaddajcnaa
open Go.RowKit Go.ChangeShapes Fm
set_option linter.unusedVariables false

set_option maxHeartbeats 800000 in
theorem law_WordFloats (a b : Int) (wa : (Lit.int .i64 a).wf = true) (wb : (Lit.int .i64 b).wf = true) (w : World) : Calls Try.prog 8 #[.int .i64 a, .int .i64 b] w fun e w' => e = .returned (.bool true) ∧ ∃ n, w' = w.drewN n := by
  go_enter Try.func8, Try.ntmps8
  go_wp2_with (first | (go_at_call 16; refine (known_ok _).mono ?_; rintro e w' ⟨rfl, n, rfl⟩))
  go_loopw [0, 1, 5] (fun x y i wr => ∃ (k m : Nat) (p q : Int), k ≤ 2 ∧ x = .int .i64 p ∧ y = .int .i64 q ∧ i = .int .i64 k ∧ (Lit.int .i64 p).wf = true ∧ (Lit.int .i64 q).wf = true ∧ wr = w.drewN m) (fun _ _ i _ => 2 - (intOf i).toNat)
  case atStart => exact ⟨0, _, a, b, by omega, rfl, rfl, rfl, wa, wb, rfl⟩
  case round =>
    obtain ⟨k, m, p, q, hk, rfl, rfl, rfl, wp, wq, rfl⟩ := hrel
    by_cases hlt : k < 2
    · go_wp2_with (first | (go_at_call 26; refine (c_FAdd _ _ _).mono ?_; rintro e w' ⟨rfl, n, rfl⟩) | (go_at_call 29; refine (r_FAdd _ _ _).mono ?_; rintro e w' ⟨rfl, n, rfl⟩) | (go_at_call 27; refine (c_FSub _ _ _).mono ?_; rintro e w' ⟨rfl, n, rfl⟩) | (go_at_call 30; refine (r_FSub _ _ _).mono ?_; rintro e w' ⟨rfl, n, rfl⟩) | (go_at_call 28; refine (c_FMul _ _ _).mono ?_; rintro e w' ⟨rfl, n, rfl⟩) | (go_at_call 31; refine (r_FMul _ _ _).mono ?_; rintro e w' ⟨rfl, n, rfl⟩) | (go_at_call 25; refine (c_FDiv _ _ _).mono ?_; rintro e w' ⟨rfl, n, rfl⟩) | (go_at_call 32; refine (r_FDiv _ _ _).mono ?_; rintro e w' ⟨rfl, n, rfl⟩) | (go_at_call 33; refine (c_FMax _ _ (by first | assumption | decide) (by first | assumption | decide) _).mono ?_; rintro e w' ⟨rfl, rfl⟩) | (go_at_call 34; refine (r_FMax _ _ _).mono ?_; rintro e w' ⟨rfl, rfl⟩))
      go_roundw
      case rel => exact ⟨k + 1, _, q, p, by omega, rfl, rfl, by go_num, wq, wp, rfl⟩
      case measure => simp [intOf]; omega
    · go_wp2
      go_ret
      exact ⟨rfl, _, rfl⟩

theorem signs_nan (a b : Int) (wa : (Lit.int .i64 a).wf = true) (wb : (Lit.int .i64 b).wf = true) (t : (fclass a == 0) = true ∨ (fclass a == 0) = false ∧ (fclass b == 0) = true) (h1 : fbin .add a b = 9221120237041090561) (h2 : fbin .mul a b = 9221120237041090561) (h3 : fbin .quo a b = 9221120237041090561) (h4 : fmax a b = 9221120237041090561) (w : World) : Calls Try.prog 11 #[.int .i64 a, .int .i64 b] w fun e w' => e = .returned (.bool true) ∧ ∃ n, w' = w.drewN n := by
  rcases t with t | ⟨t, t'⟩
  · go_enter Try.func11, Try.ntmps11
    go_wp2_with (first | (go_at_call 16; refine (known_ok _).mono ?_; rintro e w' ⟨rfl, n, rfl⟩) | (go_at_call 26; refine (c_FAdd _ _ _).mono ?_; rintro e w' ⟨rfl, n, rfl⟩) | (go_at_call 28; refine (c_FMul _ _ _).mono ?_; rintro e w' ⟨rfl, n, rfl⟩) | (go_at_call 25; refine (c_FDiv _ _ _).mono ?_; rintro e w' ⟨rfl, n, rfl⟩) | (go_at_call 33; refine (c_FMax _ _ (by first | assumption | decide) (by first | assumption | decide) _).mono ?_; rintro e w' ⟨rfl, rfl⟩) | (go_at_call 35; refine (c_Class _ _).mono ?_; rintro e w' ⟨rfl, rfl⟩))
    go_ret
    exact ⟨rfl, _, rfl⟩
  · go_enter Try.func11, Try.ntmps11
    go_wp2_with (first | (go_at_call 16; refine (known_ok _).mono ?_; rintro e w' ⟨rfl, n, rfl⟩) | (go_at_call 26; refine (c_FAdd _ _ _).mono ?_; rintro e w' ⟨rfl, n, rfl⟩) | (go_at_call 28; refine (c_FMul _ _ _).mono ?_; rintro e w' ⟨rfl, n, rfl⟩) | (go_at_call 25; refine (c_FDiv _ _ _).mono ?_; rintro e w' ⟨rfl, n, rfl⟩) | (go_at_call 33; refine (c_FMax _ _ (by first | assumption | decide) (by first | assumption | decide) _).mono ?_; rintro e w' ⟨rfl, rfl⟩) | (go_at_call 35; refine (c_Class _ _).mono ?_; rintro e w' ⟨rfl, rfl⟩))
    go_ret
    exact ⟨rfl, _, rfl⟩

theorem signs_none (a b : Int) (t1 : (fclass a == 0) = false) (t2 : (fclass b == 0) = false) (h0 : fclass (fbin .mul a b) = 0) (t : fclass a = 4 ∧ fclass b = 1 ∨ fclass a = 1 ∧ fclass b = 4) (w : World) : Calls Try.prog 11 #[.int .i64 a, .int .i64 b] w fun e w' => e = .returned (.bool true) ∧ ∃ n, w' = w.drewN n := by
  rcases t with ⟨t, t'⟩ | ⟨t, t'⟩
  · clear t1 t2
    go_enter Try.func11, Try.ntmps11
    go_wp2_with (first | (go_at_call 16; refine (known_ok _).mono ?_; rintro e w' ⟨rfl, n, rfl⟩) | (go_at_call 26; refine (c_FAdd _ _ _).mono ?_; rintro e w' ⟨rfl, n, rfl⟩) | (go_at_call 28; refine (c_FMul _ _ _).mono ?_; rintro e w' ⟨rfl, n, rfl⟩) | (go_at_call 25; refine (c_FDiv _ _ _).mono ?_; rintro e w' ⟨rfl, n, rfl⟩) | (go_at_call 33; refine (c_FMax _ _ (by first | assumption | decide) (by first | assumption | decide) _).mono ?_; rintro e w' ⟨rfl, rfl⟩) | (go_at_call 35; refine (c_Class _ _).mono ?_; rintro e w' ⟨rfl, rfl⟩))
    go_ret
    exact ⟨rfl, _, rfl⟩
  · clear t1 t2
    go_enter Try.func11, Try.ntmps11
    go_wp2_with (first | (go_at_call 16; refine (known_ok _).mono ?_; rintro e w' ⟨rfl, n, rfl⟩) | (go_at_call 26; refine (c_FAdd _ _ _).mono ?_; rintro e w' ⟨rfl, n, rfl⟩) | (go_at_call 28; refine (c_FMul _ _ _).mono ?_; rintro e w' ⟨rfl, n, rfl⟩) | (go_at_call 25; refine (c_FDiv _ _ _).mono ?_; rintro e w' ⟨rfl, n, rfl⟩) | (go_at_call 33; refine (c_FMax _ _ (by first | assumption | decide) (by first | assumption | decide) _).mono ?_; rintro e w' ⟨rfl, rfl⟩) | (go_at_call 35; refine (c_Class _ _).mono ?_; rintro e w' ⟨rfl, rfl⟩))
    go_ret
    exact ⟨rfl, _, rfl⟩

theorem signs_some (a b : Int) (t1 : (fclass a == 0) = false) (t2 : (fclass b == 0) = false) (h0 : (fclass (fbin .mul a b) == 0) = false) (h1 : decide (fbin .mul a b < 0) = !(decide (a < 0) == decide (b < 0))) (h2 : fbin .mul b a = fbin .mul a b) (h3 : fbin .add b a = fbin .add a b) (h4 : bits .xor .i64 a (-9223372036854775808) = flip a) (h5 : bits .xor .i64 (fbin .mul a b) (-9223372036854775808) = flip (fbin .mul a b)) (h6 : fbin .mul (flip a) b = flip (fbin .mul a b)) (w : World) : Calls Try.prog 11 #[.int .i64 a, .int .i64 b] w fun e w' => e = .returned (.bool true) ∧ ∃ n, w' = w.drewN n := by
  go_enter Try.func11, Try.ntmps11
  go_wp2_with (first | (go_at_call 16; refine (known_ok _).mono ?_; rintro e w' ⟨rfl, n, rfl⟩) | (go_at_call 26; refine (c_FAdd _ _ _).mono ?_; rintro e w' ⟨rfl, n, rfl⟩) | (go_at_call 28; refine (c_FMul _ _ _).mono ?_; rintro e w' ⟨rfl, n, rfl⟩) | (go_at_call 25; refine (c_FDiv _ _ _).mono ?_; rintro e w' ⟨rfl, n, rfl⟩) | (go_at_call 33; refine (c_FMax _ _ (by first | assumption | decide) (by first | assumption | decide) _).mono ?_; rintro e w' ⟨rfl, rfl⟩) | (go_at_call 35; refine (c_Class _ _).mono ?_; rintro e w' ⟨rfl, rfl⟩))
  go_ret
  exact ⟨rfl, _, rfl⟩

theorem law_WordSigns (a b : Int) (wa : (Lit.int .i64 a).wf = true) (wb : (Lit.int .i64 b).wf = true) (w : World) : Calls Try.prog 11 #[.int .i64 a, .int .i64 b] w fun e w' => e = .returned (.bool true) ∧ ∃ n, w' = w.drewN n := by
  have ca := fclass_nan a
  have cb := fclass_nan b
  cases n1 : isN (ub a)
  · cases n2 : isN (ub b)
    · have t1 : (fclass a == 0) = false := by rw [n1] at ca; simpa using ca
      have t2 : (fclass b == 0) = false := by rw [n2] at cb; simpa using cb
      by_cases h0 : fclass (fbin .mul a b) = 0
      · exact signs_none a b t1 t2 h0 (fmul_none n1 n2 h0) w
      · exact signs_some a b t1 t2 (by simpa using h0) (by rw [fmul_sign wa wb h0]; rfl) (fmul_comm b a) (fadd_comm b a) (xor_flip wa) (xor_flip (fbin_wf _ _ _)) (fmul_flip wa h0) w
    · have t1 : (fclass a == 0) = false := by rw [n1] at ca; simpa using ca
      exact signs_nan a b wa wb (Or.inr ⟨t1, by rw [cb.2 n2]; rfl⟩) (fbin_nan_r _ (by decide) a n2) (fbin_nan_r _ (by decide) a n2) (fbin_nan_r _ (by decide) a n2) (fmax_nan (Or.inr n2)) w
  · exact signs_nan a b wa wb (Or.inl (by rw [ca.2 n1]; rfl)) (fbin_nan_l _ (by decide) b n1) (fbin_nan_l _ (by decide) b n1) (fbin_nan_l _ (by decide) b n1) (fmax_nan (Or.inl n1)) w

theorem sorts_nan (a b c : Int) (wa : (Lit.int .i64 a).wf = true) (wb : (Lit.int .i64 b).wf = true) (t : (fclass a == 0) = true ∨ (fclass a == 0) = false ∧ (fclass b == 0) = true) (h1 : fless a b = 2) (w : World) : Calls Try.prog 12 #[.int .i64 a, .int .i64 b, .int .i64 c] w fun e w' => e = .returned (.bool true) ∧ ∃ n, w' = w.drewN n := by
  rcases t with t | ⟨t, t'⟩
  · go_enter Try.func12, Try.ntmps12
    go_wp2_with (first | (go_at_call 16; refine (known_ok _).mono ?_; rintro e w' ⟨rfl, n, rfl⟩) | (go_at_call 36; refine (c_FLess _ _ _).mono ?_; rintro e w' ⟨rfl, rfl⟩) | (go_at_call 33; refine (c_FMax _ _ (by first | assumption | decide) (by first | assumption | decide) _).mono ?_; rintro e w' ⟨rfl, rfl⟩) | (go_at_call 35; refine (c_Class _ _).mono ?_; rintro e w' ⟨rfl, rfl⟩))
    go_ret
    exact ⟨rfl, _, rfl⟩
  · go_enter Try.func12, Try.ntmps12
    go_wp2_with (first | (go_at_call 16; refine (known_ok _).mono ?_; rintro e w' ⟨rfl, n, rfl⟩) | (go_at_call 36; refine (c_FLess _ _ _).mono ?_; rintro e w' ⟨rfl, rfl⟩) | (go_at_call 33; refine (c_FMax _ _ (by first | assumption | decide) (by first | assumption | decide) _).mono ?_; rintro e w' ⟨rfl, rfl⟩) | (go_at_call 35; refine (c_Class _ _).mono ?_; rintro e w' ⟨rfl, rfl⟩))
    go_ret
    exact ⟨rfl, _, rfl⟩

theorem sorts_num (a b c : Int) (wa : (Lit.int .i64 a).wf = true) (wb : (Lit.int .i64 b).wf = true) (t1 : (fclass a == 0) = false) (t2 : (fclass b == 0) = false) (t : (fless a b == 1) = false ∨ (fless a b == 1) = true ∧ (fless b c == 1) = false ∨ (fless a b == 1) = true ∧ (fless b c == 1) = true ∧ (fless a c != 1) = false) (m : Int) (hm : fmax a b = m) (h1 : fless m a = 0) (h2 : fless m b = 0) (h3 : (m == a) = true ∨ (m == a) = false ∧ (m == b) = true) (w : World) : Calls Try.prog 12 #[.int .i64 a, .int .i64 b, .int .i64 c] w fun e w' => e = .returned (.bool true) ∧ ∃ n, w' = w.drewN n := by
  rcases t with t | ⟨t, t'⟩ | ⟨t, t', t''⟩ <;> rcases h3 with h3 | ⟨h3, h3'⟩
  all_goals
    go_enter Try.func12, Try.ntmps12
    go_wp2_with (first | (go_at_call 16; refine (known_ok _).mono ?_; rintro e w' ⟨rfl, n, rfl⟩) | (go_at_call 36; refine (c_FLess _ _ _).mono ?_; rintro e w' ⟨rfl, rfl⟩) | (go_at_call 33; refine (c_FMax _ _ (by first | assumption | decide) (by first | assumption | decide) _).mono ?_; rintro e w' ⟨rfl, rfl⟩) | (go_at_call 35; refine (c_Class _ _).mono ?_; rintro e w' ⟨rfl, rfl⟩))
    go_ret
    exact ⟨rfl, _, rfl⟩

theorem law_WordSorts (a b c : Int) (wa : (Lit.int .i64 a).wf = true) (wb : (Lit.int .i64 b).wf = true) (w : World) : Calls Try.prog 12 #[.int .i64 a, .int .i64 b, .int .i64 c] w fun e w' => e = .returned (.bool true) ∧ ∃ n, w' = w.drewN n := by
  have ca := fclass_nan a
  have cb := fclass_nan b
  cases n1 : isN (ub a)
  · cases n2 : isN (ub b)
    · have t1 : (fclass a == 0) = false := by rw [n1] at ca; simpa using ca
      have t2 : (fclass b == 0) = false := by rw [n2] at cb; simpa using cb
      have hm : fmax a b = a ∧ ¬ key (ub a) < key (ub b) ∨ fmax a b = b ∧ ¬ key (ub b) < key (ub a) := by
        rw [fmax_num n1 n2]
        split
        · rename_i h; exact Or.inr ⟨rfl, by omega⟩
        · rename_i h; exact Or.inl ⟨rfl, by omega⟩
      have h3 : (fmax a b == a) = true ∨ (fmax a b == a) = false ∧ (fmax a b == b) = true := by
        rcases hm with ⟨h, _⟩ | ⟨h, _⟩
        · exact Or.inl (by rw [h]; simp)
        · cases e : fmax a b == a
          · exact Or.inr ⟨rfl, by rw [h]; simp⟩
          · exact Or.inl rfl
      have h1 : fless (fmax a b) a = 0 := by
        rcases hm with ⟨h, h'⟩ | ⟨h, h'⟩
        · rw [h, fless_num n1 n1, if_neg (by omega)]
        · rw [h, fless_num n2 n1, if_neg h']
      have h2 : fless (fmax a b) b = 0 := by
        rcases hm with ⟨h, h'⟩ | ⟨h, h'⟩
        · rw [h, fless_num n1 n2, if_neg h']
        · rw [h, fless_num n2 n2, if_neg (by omega)]
      refine sorts_num a b c wa wb t1 t2 ?_ _ rfl h1 h2 h3 w
      cases e1 : fless a b == 1
      · exact Or.inl rfl
      · cases e2 : fless b c == 1
        · exact Or.inr (Or.inl ⟨rfl, rfl⟩)
        · refine Or.inr (Or.inr ⟨rfl, rfl, ?_⟩)
          have e1' : fless a b = 1 := by simpa using e1
          have e2' : fless b c = 1 := by simpa using e2
          cases n3 : isN (ub c)
          · rw [fless_num n1 n2] at e1'; rw [fless_num n2 n3] at e2'
            have k1 : key (ub a) < key (ub b) := by
              rcases Int.lt_or_le (key (ub a)) (key (ub b)) with h | h
              · exact h
              · rw [if_neg (by omega)] at e1'; exact absurd e1' (by decide)
            have k2 : key (ub b) < key (ub c) := by
              rcases Int.lt_or_le (key (ub b)) (key (ub c)) with h | h
              · exact h
              · rw [if_neg (by omega)] at e2'; exact absurd e2' (by decide)
            rw [fless_num n1 n3, if_pos (by omega)]; rfl
          · rw [fless_nan (Or.inr n3)] at e2'; exact absurd e2' (by decide)
    · have t1 : (fclass a == 0) = false := by rw [n1] at ca; simpa using ca
      exact sorts_nan a b c wa wb (Or.inr ⟨t1, by rw [cb.2 n2]; rfl⟩) (fless_nan (Or.inr n2)) w
  · exact sorts_nan a b c wa wb (Or.inl (by rw [ca.2 n1]; rfl)) (fless_nan (Or.inl n1)) w

end Go.Proofs.Ytifpmhaddajcnaa
