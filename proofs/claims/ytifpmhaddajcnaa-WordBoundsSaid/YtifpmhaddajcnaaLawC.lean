/- The walks of within and of the law WordNans. -/
import Derived.Test.YtifpmhaddajcnaaLawInts
import Derived.Test.YtifpmhaddajcnaaFacts3
namespace Go.Proofs.Ytifpmhaddajcnaa
open Go.RowKit Go.ChangeShapes Fm
set_option linter.unusedVariables false

theorem tmod_facts (x n : Int) (h1 : 0 < n) : -n < x.tmod n ∧ x.tmod n < n ∧ (x.tmod n < 0 → x % n = x.tmod n + n) ∧ (0 ≤ x.tmod n → x % n = x.tmod n) := by
  have a1 := Int.emod_nonneg x (show n ≠ 0 by omega)
  have a2 := Int.emod_lt_of_pos x h1
  have a3 := Int.tmod_add_mul_tdiv x n
  have a4 := Int.emod_add_mul_ediv x n
  rcases Int.le_total 0 x with hx | hx
  · rw [Int.tmod_eq_emod_of_nonneg hx]; exact ⟨by omega, a2, fun h => by omega, fun _ => rfl⟩
  · have e : x.tmod n = -((-x) % n) := by
      have h := Int.neg_tmod (-x) n
      rw [Int.neg_neg] at h
      rw [h, Int.tmod_eq_emod_of_nonneg (by omega)]
    have b1 := Int.emod_nonneg (-x) (show n ≠ 0 by omega)
    have b2 := Int.emod_lt_of_pos (-x) h1
    have b4 := Int.emod_add_mul_ediv (-x) n
    rw [e]
    by_cases hz : (-x) % n = 0
    · have : x % n = 0 := by
        have := Int.dvd_of_emod_eq_zero hz
        exact Int.emod_eq_zero_of_dvd (Int.dvd_neg.1 this)
      exact ⟨by omega, by omega, fun h => by omega, fun h => by omega⟩
    · refine ⟨by omega, by omega, fun h => ?_, fun h => by omega⟩
      have : x = (-((-x) % n) + n) + n * (-((-x) / n) - 1) := by
        have : n * (-((-x) / n) - 1) = -(n * ((-x) / n)) - n := by rw [Int.mul_sub, Int.mul_neg, Int.mul_one]
        omega
      have h2 : x % n = (-((-x) % n) + n) % n := by
        conv => lhs; rw [this]
        rw [Int.add_mul_emod_self_left]
      rw [h2, Int.emod_eq_of_lt (by omega) (by omega)]

theorem b_and (a : Int) : bits .and .i64 a 4503599627370495 = ((ub a % 4503599627370496 : Nat) : Int) := by
  show IntKind.i64.wrap ((BitVec.ofInt 64 a &&& BitVec.ofInt 64 4503599627370495).toNat : Int) = _
  rw [BitVec.toNat_and, BitVec.toNat_ofInt, BitVec.toNat_ofInt]
  have e1 : ((4503599627370495 : Int) % ((2 ^ 64 : Nat) : Int)).toNat = 4503599627370495 := by decide
  have e2 : (a % ((2 ^ 64 : Nat) : Int)).toNat = ub a := by unfold ub; rw [IntKind.wrap_u64]; rfl
  rw [e1, e2]
  have e3 : ub a &&& 4503599627370495 = ub a % 2 ^ 52 := Nat.and_two_pow_sub_one_eq_mod _ 52
  rw [e3, IntKind.wrap_i64]
  omega
theorem b_ori (m : Nat) (h : m < 4503599627370496) : bits .or .i64 (m : Int) 9218868437227405312 = (m : Int) + 9218868437227405312 := by
  show IntKind.i64.wrap ((BitVec.ofInt 64 (m : Int) ||| BitVec.ofInt 64 9218868437227405312).toNat : Int) = _
  rw [BitVec.toNat_or, BitVec.toNat_ofInt, BitVec.toNat_ofInt]
  have e1 : ((9218868437227405312 : Int) % ((2 ^ 64 : Nat) : Int)).toNat = 9218868437227405312 := by decide
  have e2 : ((m : Int) % ((2 ^ 64 : Nat) : Int)).toNat = m := by omega
  rw [e1, e2]
  have e3 : 2 ^ 52 * 2047 ||| m = 2 ^ 52 * 2047 + m := (Nat.two_pow_add_eq_or_of_lt (i := 52) h 2047).symm
  have e4 : m ||| 9218868437227405312 = 9218868437227405312 + m := by rw [Nat.or_comm]; exact e3
  rw [e4, IntKind.wrap_i64]
  omega

theorem within_ok (x n : Int) (h1 : 0 < n) (h2 : n ≤ 1073741824) (w : World) : Calls Try.prog 24 #[.int .i64 x, .int .i64 n] w fun e w' => e = .returned (.int .i64 (x % n)) ∧ w = w' := by
  have hz : (n == 0) = false := by simp; omega
  obtain ⟨f1, f2, f3, f4⟩ := tmod_facts x n h1
  obtain ⟨t, ht⟩ : ∃ t, x.tmod n = t := ⟨_, rfl⟩
  rw [ht] at f1 f2 f3 f4
  by_cases h : t < 0
  · have H := Lib.hid (f3 h)
    clear f3 f4
    go_enter Try.func24, Try.ntmps24
    go_wp2
    go_ret
    exact ⟨by rw [H.out]; rfl, rfl⟩
  · have H := Lib.hid (f4 (by omega))
    clear f3 f4
    go_enter Try.func24, Try.ntmps24
    go_wp2
    go_ret
    exact ⟨by rw [H.out]; rfl, rfl⟩

set_option maxHeartbeats 400000 in
theorem nans_a (a b q p m : Int) (wb : (Lit.int .i64 b).wf = true) (wq : (Lit.int .i64 q).wf = true) (f1 : fclass q = 0) (f2 : fbin .add q b = 9221120237041090561) (f3 : fbin .add b q = 9221120237041090561) (f4 : fbin .sub b q = 9221120237041090561) (f5 : fbin .mul q b = 9221120237041090561) (f6 : fbin .quo q b = 9221120237041090561) (f7 : fbin .quo b q = 9221120237041090561) (f8 : fmax q b = 9221120237041090561) (f9 : fmax b q = 9221120237041090561) (f10 : fless q b = 2) (f11 : fless b q = 2) (f12 : toIntE q = 1) (h1 : bits .and .i64 a 4503599627370495 = m) (h2 : bits .or .i64 m 9218868437227405312 = p) (p1 : Int) (t : (m == 0) = true) (h3 : wrap64 (p + 1) = p1) (h4 : bits .xor .i64 p1 (-9223372036854775808) = q) (w : World) : Calls Try.prog 14 #[.int .i64 a, .int .i64 b, .bool true] w fun e w' => e = .returned (.bool true) ∧ ∃ n, w' = w.drewN n := by
  go_enter Try.func14, Try.ntmps14
  go_wp2_with (first | (go_at_call 16; refine (known_ok _).mono ?_; rintro e w' ⟨rfl, n, rfl⟩) | (go_at_call 26; refine (c_FAdd _ _ _).mono ?_; rintro e w' ⟨rfl, n, rfl⟩) | (go_at_call 27; refine (c_FSub _ _ _).mono ?_; rintro e w' ⟨rfl, n, rfl⟩) | (go_at_call 33; refine (c_FMax _ _ (by first | assumption | decide) (by first | assumption | decide) _).mono ?_; rintro e w' ⟨rfl, rfl⟩) | (go_at_call 36; refine (c_FLess _ _ _).mono ?_; rintro e w' ⟨rfl, rfl⟩) | (go_at_call 25; refine (c_FDiv _ _ _).mono ?_; rintro e w' ⟨rfl, n, rfl⟩) | (go_at_call 28; refine (c_FMul _ _ _).mono ?_; rintro e w' ⟨rfl, n, rfl⟩) | (go_at_call 35; refine (c_Class _ _).mono ?_; rintro e w' ⟨rfl, rfl⟩) | (go_at_call 20; refine (c_ToInt _ _).mono ?_; rintro e w' ⟨rfl, rfl⟩))
  go_ret
  exact ⟨rfl, _, rfl⟩

set_option maxHeartbeats 400000 in
theorem nans_b (a b q p m : Int) (wb : (Lit.int .i64 b).wf = true) (wq : (Lit.int .i64 q).wf = true) (f1 : fclass q = 0) (f2 : fbin .add q b = 9221120237041090561) (f3 : fbin .add b q = 9221120237041090561) (f4 : fbin .sub b q = 9221120237041090561) (f5 : fbin .mul q b = 9221120237041090561) (f6 : fbin .quo q b = 9221120237041090561) (f7 : fbin .quo b q = 9221120237041090561) (f8 : fmax q b = 9221120237041090561) (f9 : fmax b q = 9221120237041090561) (f10 : fless q b = 2) (f11 : fless b q = 2) (f12 : toIntE q = 1) (h1 : bits .and .i64 a 4503599627370495 = m) (h2 : bits .or .i64 m 9218868437227405312 = p) (t : (m == 0) = true) (h3 : wrap64 (p + 1) = q) (w : World) : Calls Try.prog 14 #[.int .i64 a, .int .i64 b, .bool false] w fun e w' => e = .returned (.bool true) ∧ ∃ n, w' = w.drewN n := by
  go_enter Try.func14, Try.ntmps14
  go_wp2_with (first | (go_at_call 16; refine (known_ok _).mono ?_; rintro e w' ⟨rfl, n, rfl⟩) | (go_at_call 26; refine (c_FAdd _ _ _).mono ?_; rintro e w' ⟨rfl, n, rfl⟩) | (go_at_call 27; refine (c_FSub _ _ _).mono ?_; rintro e w' ⟨rfl, n, rfl⟩) | (go_at_call 33; refine (c_FMax _ _ (by first | assumption | decide) (by first | assumption | decide) _).mono ?_; rintro e w' ⟨rfl, rfl⟩) | (go_at_call 36; refine (c_FLess _ _ _).mono ?_; rintro e w' ⟨rfl, rfl⟩) | (go_at_call 25; refine (c_FDiv _ _ _).mono ?_; rintro e w' ⟨rfl, n, rfl⟩) | (go_at_call 28; refine (c_FMul _ _ _).mono ?_; rintro e w' ⟨rfl, n, rfl⟩) | (go_at_call 35; refine (c_Class _ _).mono ?_; rintro e w' ⟨rfl, rfl⟩) | (go_at_call 20; refine (c_ToInt _ _).mono ?_; rintro e w' ⟨rfl, rfl⟩))
  go_ret
  exact ⟨rfl, _, rfl⟩

set_option maxHeartbeats 400000 in
theorem nans_c (a b q p m : Int) (wb : (Lit.int .i64 b).wf = true) (wq : (Lit.int .i64 q).wf = true) (f1 : fclass q = 0) (f2 : fbin .add q b = 9221120237041090561) (f3 : fbin .add b q = 9221120237041090561) (f4 : fbin .sub b q = 9221120237041090561) (f5 : fbin .mul q b = 9221120237041090561) (f6 : fbin .quo q b = 9221120237041090561) (f7 : fbin .quo b q = 9221120237041090561) (f8 : fmax q b = 9221120237041090561) (f9 : fmax b q = 9221120237041090561) (f10 : fless q b = 2) (f11 : fless b q = 2) (f12 : toIntE q = 1) (h1 : bits .and .i64 a 4503599627370495 = m) (h2 : bits .or .i64 m 9218868437227405312 = p) (t : (m == 0) = false) (h4 : bits .xor .i64 p (-9223372036854775808) = q) (w : World) : Calls Try.prog 14 #[.int .i64 a, .int .i64 b, .bool true] w fun e w' => e = .returned (.bool true) ∧ ∃ n, w' = w.drewN n := by
  go_enter Try.func14, Try.ntmps14
  go_wp2_with (first | (go_at_call 16; refine (known_ok _).mono ?_; rintro e w' ⟨rfl, n, rfl⟩) | (go_at_call 26; refine (c_FAdd _ _ _).mono ?_; rintro e w' ⟨rfl, n, rfl⟩) | (go_at_call 27; refine (c_FSub _ _ _).mono ?_; rintro e w' ⟨rfl, n, rfl⟩) | (go_at_call 33; refine (c_FMax _ _ (by first | assumption | decide) (by first | assumption | decide) _).mono ?_; rintro e w' ⟨rfl, rfl⟩) | (go_at_call 36; refine (c_FLess _ _ _).mono ?_; rintro e w' ⟨rfl, rfl⟩) | (go_at_call 25; refine (c_FDiv _ _ _).mono ?_; rintro e w' ⟨rfl, n, rfl⟩) | (go_at_call 28; refine (c_FMul _ _ _).mono ?_; rintro e w' ⟨rfl, n, rfl⟩) | (go_at_call 35; refine (c_Class _ _).mono ?_; rintro e w' ⟨rfl, rfl⟩) | (go_at_call 20; refine (c_ToInt _ _).mono ?_; rintro e w' ⟨rfl, rfl⟩))
  go_ret
  exact ⟨rfl, _, rfl⟩

set_option maxHeartbeats 400000 in
theorem nans_d (a b q p m : Int) (wb : (Lit.int .i64 b).wf = true) (wq : (Lit.int .i64 q).wf = true) (f1 : fclass q = 0) (f2 : fbin .add q b = 9221120237041090561) (f3 : fbin .add b q = 9221120237041090561) (f4 : fbin .sub b q = 9221120237041090561) (f5 : fbin .mul q b = 9221120237041090561) (f6 : fbin .quo q b = 9221120237041090561) (f7 : fbin .quo b q = 9221120237041090561) (f8 : fmax q b = 9221120237041090561) (f9 : fmax b q = 9221120237041090561) (f10 : fless q b = 2) (f11 : fless b q = 2) (f12 : toIntE q = 1) (h1 : bits .and .i64 a 4503599627370495 = m) (h2 : bits .or .i64 m 9218868437227405312 = q) (t : (m == 0) = false)  (w : World) : Calls Try.prog 14 #[.int .i64 a, .int .i64 b, .bool false] w fun e w' => e = .returned (.bool true) ∧ ∃ n, w' = w.drewN n := by
  go_enter Try.func14, Try.ntmps14
  go_wp2_with (first | (go_at_call 16; refine (known_ok _).mono ?_; rintro e w' ⟨rfl, n, rfl⟩) | (go_at_call 26; refine (c_FAdd _ _ _).mono ?_; rintro e w' ⟨rfl, n, rfl⟩) | (go_at_call 27; refine (c_FSub _ _ _).mono ?_; rintro e w' ⟨rfl, n, rfl⟩) | (go_at_call 33; refine (c_FMax _ _ (by first | assumption | decide) (by first | assumption | decide) _).mono ?_; rintro e w' ⟨rfl, rfl⟩) | (go_at_call 36; refine (c_FLess _ _ _).mono ?_; rintro e w' ⟨rfl, rfl⟩) | (go_at_call 25; refine (c_FDiv _ _ _).mono ?_; rintro e w' ⟨rfl, n, rfl⟩) | (go_at_call 28; refine (c_FMul _ _ _).mono ?_; rintro e w' ⟨rfl, n, rfl⟩) | (go_at_call 35; refine (c_Class _ _).mono ?_; rintro e w' ⟨rfl, rfl⟩) | (go_at_call 20; refine (c_ToInt _ _).mono ?_; rintro e w' ⟨rfl, rfl⟩))
  go_ret
  exact ⟨rfl, _, rfl⟩

theorem toIntE_nan {a : Int} (h : isN (ub a) = true) : toIntE a = 1 := by
  have hb : badInt a = true := by unfold badInt; rw [h]; rfl
  unfold toIntE; rw [if_pos hb]

theorem nan_top {p : Int} (h1 : 9218868437227405312 < p) (h2 : p ≤ 9223372036854775807) : (Lit.int .i64 p).wf = true ∧ isN (ub p) = true ∧ isN (ub (flip p)) = true := by
  have w : (Lit.int .i64 p).wf = true := by
    have e : p = wrap64 p := by unfold wrap64; omega
    rw [e]; exact wf_wrap64 _
  have h3 := rg_ub w
  rw [if_neg (by omega)] at h3
  refine ⟨w, (isN_iff p).2 (by omega), (isN_iff _).2 (by rw [rg_flip w]; omega)⟩

theorem law_WordNans (a b : Int) (neg : Bool) (wa : (Lit.int .i64 a).wf = true) (wb : (Lit.int .i64 b).wf = true) (w : World) : Calls Try.prog 14 #[.int .i64 a, .int .i64 b, .bool neg] w fun e w' => e = .returned (.bool true) ∧ ∃ n, w' = w.drewN n := by
  have h1 := b_and a
  have hm : ub a % 4503599627370496 < 4503599627370496 := Nat.mod_lt _ (by decide)
  have h2 := b_ori _ hm
  generalize ub a % 4503599627370496 = m at *
  by_cases hz : m = 0
  · have t : ((m : Int) == 0) = true := by simp [hz]
    have h3 : wrap64 ((m : Int) + 9218868437227405312 + 1) = (m : Int) + 9218868437227405312 + 1 := by unfold wrap64; omega
    obtain ⟨wp, hq, hqf⟩ := nan_top (p := (m : Int) + 9218868437227405312 + 1) (by omega) (by omega)
    cases neg
    · exact nans_b a b _ _ _ wb wp (fclass_nan _ |>.2 hq) (fbin_nan_l _ (by decide) b hq) (fbin_nan_r _ (by decide) b hq) (fbin_nan_r _ (by decide) b hq) (fbin_nan_l _ (by decide) b hq) (fbin_nan_l _ (by decide) b hq) (fbin_nan_r _ (by decide) b hq) (fmax_nan (Or.inl hq)) (fmax_nan (Or.inr hq)) (fless_nan (Or.inl hq)) (fless_nan (Or.inr hq)) (toIntE_nan hq) h1 h2 t h3 w
    · replace hq := hqf
      exact nans_a a b _ _ _ wb (flip_wf wp) (fclass_nan _ |>.2 hq) (fbin_nan_l _ (by decide) b hq) (fbin_nan_r _ (by decide) b hq) (fbin_nan_r _ (by decide) b hq) (fbin_nan_l _ (by decide) b hq) (fbin_nan_l _ (by decide) b hq) (fbin_nan_r _ (by decide) b hq) (fmax_nan (Or.inl hq)) (fmax_nan (Or.inr hq)) (fless_nan (Or.inl hq)) (fless_nan (Or.inr hq)) (toIntE_nan hq) h1 h2 _ t h3 (xor_flip wp) w
  · have t : ((m : Int) == 0) = false := by simp; omega
    obtain ⟨wp, hq, hqf⟩ := nan_top (p := (m : Int) + 9218868437227405312) (by omega) (by omega)
    cases neg
    · exact nans_d a b _ 0 _ wb wp (fclass_nan _ |>.2 hq) (fbin_nan_l _ (by decide) b hq) (fbin_nan_r _ (by decide) b hq) (fbin_nan_r _ (by decide) b hq) (fbin_nan_l _ (by decide) b hq) (fbin_nan_l _ (by decide) b hq) (fbin_nan_r _ (by decide) b hq) (fmax_nan (Or.inl hq)) (fmax_nan (Or.inr hq)) (fless_nan (Or.inl hq)) (fless_nan (Or.inr hq)) (toIntE_nan hq) h1 h2 t w
    · replace hq := hqf
      exact nans_c a b _ _ _ wb (flip_wf wp) (fclass_nan _ |>.2 hq) (fbin_nan_l _ (by decide) b hq) (fbin_nan_r _ (by decide) b hq) (fbin_nan_r _ (by decide) b hq) (fbin_nan_l _ (by decide) b hq) (fbin_nan_l _ (by decide) b hq) (fbin_nan_r _ (by decide) b hq) (fmax_nan (Or.inl hq)) (fmax_nan (Or.inr hq)) (fless_nan (Or.inl hq)) (fless_nan (Or.inr hq)) (toIntE_nan hq) h1 h2 t (xor_flip wp) w

end Go.Proofs.Ytifpmhaddajcnaa
