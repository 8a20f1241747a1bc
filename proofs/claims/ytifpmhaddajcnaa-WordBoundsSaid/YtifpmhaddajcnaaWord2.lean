/- Contracts of the functions of package word and of its reference, second part: FMax, Class, ToInt. -/
import Derived.Test.YtifpmhaddajcnaaWord
namespace Go.Proofs.Ytifpmhaddajcnaa
open Go.RowKit Go.ChangeShapes Fm
set_option linter.unusedVariables false
attribute [local go_sem] x_frombits x_bits

theorem andNot_rg (n : Nat) (h : n < 18446744073709551616) : (bits .andNot .u64 (n : Int) 9223372036854775808).toNat = rg n := by
  rw [u64_andNot _ _ (by omega) (by omega) (by omega) (by omega)]
  simp only [Int.toNat_natCast]
  show n &&& 9223372036854775807 = n % 2 ^ 63
  exact Nat.and_two_pow_sub_one_eq_mod n 63

/-- the exponent field and the fraction field -/
def ex (a : Int) : Nat := rg (ub a) / 4503599627370496
def fr (a : Int) : Nat := rg (ub a) % 4503599627370496
theorem ex_lt (a : Int) : ex a < 2048 := by unfold ex; have := rg_lt (ub a); omega
theorem fr_lt (a : Int) : fr a < 4503599627370496 := by unfold fr; omega
theorem rg_ex (a : Int) : rg (ub a) = ex a * 4503599627370496 + fr a := by unfold ex fr; omega
theorem ub_int (a : Int) : (ub a : Int) = IntKind.u64.wrap a := by unfold ub; rw [IntKind.wrap_u64]; omega
theorem b_ex (a : Int) : bits .and .u64 (IntKind.u64.wrap a / 4503599627370496) 2047 = (ex a : Int) := by
  have h := ub_lt a
  rw [← ub_int]
  rw [u64_and _ _ (by omega) (by omega) (by omega) (by omega)]
  have e : ((ub a : Int) / 4503599627370496).toNat = ub a / 4503599627370496 := by omega
  rw [e]
  show ((ub a / 4503599627370496 &&& 2047 : Nat) : Int) = _
  have e2 : ub a / 4503599627370496 &&& 2047 = ub a / 4503599627370496 % 2 ^ 11 := Nat.and_two_pow_sub_one_eq_mod _ 11
  rw [e2]; unfold ex rg; omega
theorem b_fr (a : Int) : bits .and .u64 (IntKind.u64.wrap a) 4503599627370495 = (fr a : Int) := by
  have h := ub_lt a
  rw [← ub_int]
  rw [u64_and _ _ (by omega) (by omega) (by omega) (by omega)]
  rw [Int.toNat_natCast]
  have e2 : ub a &&& 4503599627370495 = ub a % 2 ^ 52 := Nat.and_two_pow_sub_one_eq_mod _ 52
  show ((ub a &&& 4503599627370495 : Nat) : Int) = _
  rw [e2]; unfold fr rg; omega
theorem b_or (m : Nat) (h : m < 4503599627370496) : bits .or .u64 (m : Int) 4503599627370496 = (m : Int) + 4503599627370496 := by
  rw [u64_or _ _ (by omega) (by omega) (by omega) (by omega)]
  rw [Int.toNat_natCast]
  have e2 : 2 ^ 52 * 1 ||| m = 2 ^ 52 * 1 + m := (Nat.two_pow_add_eq_or_of_lt (i := 52) h 1).symm
  show ((m ||| 4503599627370496 : Nat) : Int) = _
  rw [Nat.or_comm]
  have e3 : (4503599627370496 ||| m : Nat) = 4503599627370496 + m := e2
  rw [e3]; omega

theorem c_Signbit (n : Nat) (w : World) : Calls Try.prog 43 #[.float .f64 n] w fun e w' => e = .returned (.bool (decide (wrap64 n < 0))) ∧ w = w' := by
  go_enter Try.func43, Try.ntmps43
  go_wp2
  go_ret
  exact ⟨rfl, rfl⟩

theorem c_Abs (n : Nat) (w : World) (hn : n < 18446744073709551616) : Calls Try.prog 44 #[.float .f64 n] w fun e w' => e = .returned (.float .f64 (rg n)) ∧ w = w' := by
  go_enter Try.func44, Try.ntmps44
  go_wp2
  go_ret
  exact ⟨by rw [← andNot_rg n hn]; rfl, rfl⟩

theorem ord_eq {x y : Nat} (h1 : isN x = false) (h2 : isN y = false) : (FloatKind.f64.format.order x y == some .eq) = decide (key x = key y) := by
  show (Ieee.double.order x y == some .eq) = _
  rw [order_ok h1 h2, compare_int]
  by_cases h : key x < key y
  · rw [if_pos h]; simp; omega
  · rw [if_neg h]
    by_cases h' : key x = key y
    · rw [if_pos h']; simp; omega
    · rw [if_neg h']; simp; omega

theorem ord_lt {x y : Nat} (h1 : isN x = false) (h2 : isN y = false) : (FloatKind.f64.format.order x y == some .lt) = decide (key x < key y) := by
  show (Ieee.double.order x y == some .lt) = _
  rw [order_ok h1 h2, compare_int]
  by_cases h : key x < key y
  · rw [if_pos h]; simp; omega
  · rw [if_neg h]
    by_cases h' : key x = key y
    · rw [if_pos h']; simp; omega
    · rw [if_neg h']; simp; omega

theorem ord_gt {x y : Nat} (h1 : isN x = false) (h2 : isN y = false) : (FloatKind.f64.format.order x y == some .gt) = decide (key x > key y) := by
  show (Ieee.double.order x y == some .gt) = _
  rw [order_ok h1 h2, compare_int]
  by_cases h : key x < key y
  · rw [if_pos h]; simp; omega
  · rw [if_neg h]
    by_cases h' : key x = key y
    · rw [if_pos h']; simp; omega
    · rw [if_neg h']; simp; omega

theorem c_FMax (a b : Int) (wa : (Lit.int .i64 a).wf = true) (wb : (Lit.int .i64 b).wf = true) (w : World) : Calls Try.prog 33 #[.int .i64 a, .int .i64 b] w fun e w' => e = .returned (.int .i64 (fmax a b)) ∧ w = w' := by
  have hx : (FloatKind.f64.format.order (ub a) (ub a) != some .eq) = isN (ub a) := order_self _
  have hy : (FloatKind.f64.format.order (ub b) (ub b) != some .eq) = isN (ub b) := order_self _
  cases h1 : isN (ub a) <;> cases h2 : isN (ub b)
  · have hz := ord_eq h1 h2
    have hl := ord_lt h1 h2
    have ha := bitsN_ub wa h1
    have hb := bitsN_ub wb h2
    have hs : decide (wrap64 (ub a) < 0) = decide (a < 0) := by rw [wrap_ub wa]
    have hf : fmax a b = if (key (ub a) = key (ub b) ∧ a < 0) ∨ key (ub a) < key (ub b) then b else a := by unfold fmax; rw [h1, h2]; rfl
    rw [h1] at hx; rw [h2] at hy
    clear h1 h2 wa wb
    by_cases k1 : key (ub a) = key (ub b)
    · by_cases k3 : a < 0
      · rw [if_pos (Or.inl ⟨k1, k3⟩)] at hf; replace hf := hf.trans hb.symm
        rw [decide_eq_true k1] at hz; rw [decide_eq_true k3] at hs
        have H := Lib.hid hf
        clear hf hl k1 k3 ha hb
        go_enter Try.func33, Try.ntmps33
        go_wp2_with (first | (go_at_call 39; refine (c_float _ _).mono ?_; rintro e w' ⟨rfl, rfl⟩) | (go_at_call 40; refine (c_bits _ _).mono ?_; rintro e w' ⟨rfl, rfl⟩) | (go_at_call 43; refine (c_Signbit _ _).mono ?_; rintro e w' ⟨rfl, rfl⟩))
        go_ret
        exact ⟨by rw [H.out]; rfl, rfl⟩
      · rw [if_neg (by omega)] at hf; replace hf := hf.trans ha.symm
        rw [decide_eq_true k1] at hz; rw [decide_eq_false k3] at hs; rw [decide_eq_false (by omega)] at hl
        have H := Lib.hid hf
        clear hf k1 k3 ha hb
        go_enter Try.func33, Try.ntmps33
        go_wp2_with (first | (go_at_call 39; refine (c_float _ _).mono ?_; rintro e w' ⟨rfl, rfl⟩) | (go_at_call 40; refine (c_bits _ _).mono ?_; rintro e w' ⟨rfl, rfl⟩) | (go_at_call 43; refine (c_Signbit _ _).mono ?_; rintro e w' ⟨rfl, rfl⟩))
        go_ret
        exact ⟨by rw [H.out]; rfl, rfl⟩
    · rw [decide_eq_false k1] at hz
      by_cases k2 : key (ub a) < key (ub b)
      · rw [if_pos (Or.inr k2)] at hf; replace hf := hf.trans hb.symm
        rw [decide_eq_true k2] at hl
        have H := Lib.hid hf
        clear hf k1 k2 ha hb hs
        go_enter Try.func33, Try.ntmps33
        go_wp2_with (first | (go_at_call 39; refine (c_float _ _).mono ?_; rintro e w' ⟨rfl, rfl⟩) | (go_at_call 40; refine (c_bits _ _).mono ?_; rintro e w' ⟨rfl, rfl⟩) | (go_at_call 43; refine (c_Signbit _ _).mono ?_; rintro e w' ⟨rfl, rfl⟩))
        go_ret
        exact ⟨by rw [H.out]; rfl, rfl⟩
      · rw [if_neg (by omega)] at hf; replace hf := hf.trans ha.symm
        rw [decide_eq_false k2] at hl
        have H := Lib.hid hf
        clear hf k1 k2 ha hb hs
        go_enter Try.func33, Try.ntmps33
        go_wp2_with (first | (go_at_call 39; refine (c_float _ _).mono ?_; rintro e w' ⟨rfl, rfl⟩) | (go_at_call 40; refine (c_bits _ _).mono ?_; rintro e w' ⟨rfl, rfl⟩) | (go_at_call 43; refine (c_Signbit _ _).mono ?_; rintro e w' ⟨rfl, rfl⟩))
        go_ret
        exact ⟨by rw [H.out]; rfl, rfl⟩
  all_goals
    have e : fmax a b = noneI := by unfold fmax; rw [h1, h2]; rfl
    rw [h1] at hx; rw [h2] at hy
    clear h1 h2
    have H := Lib.hid e; clear e wa wb
    go_enter Try.func33, Try.ntmps33
    go_wp2_with (first | (go_at_call 39; refine (c_float _ _).mono ?_; rintro e w' ⟨rfl, rfl⟩) | (go_at_call 40; refine (c_bits _ _).mono ?_; rintro e w' ⟨rfl, rfl⟩) | (go_at_call 43; refine (c_Signbit _ _).mono ?_; rintro e w' ⟨rfl, rfl⟩))
    go_ret
    exact ⟨by rw [H.out]; rfl, rfl⟩

theorem r_FMax (a b : Int) (w : World) : Calls Try.prog 34 #[.int .i64 a, .int .i64 b] w fun e w' => e = .returned (.int .i64 (fmax a b)) ∧ w = w' := by
  have hx : (FloatKind.f64.format.order (ub a) (ub a) != some .eq) = isN (ub a) := order_self _
  have hy : (FloatKind.f64.format.order (ub b) (ub b) != some .eq) = isN (ub b) := order_self _
  cases h1 : isN (ub a) <;> cases h2 : isN (ub b)
  · have hz := ord_gt h1 h2
    have hl := ord_lt h1 h2
    have hf : fmax a b = if (key (ub a) = key (ub b) ∧ a < 0) ∨ key (ub a) < key (ub b) then b else a := by unfold fmax; rw [h1, h2]; rfl
    rw [h1] at hx; rw [h2] at hy
    clear h1 h2
    by_cases k1 : key (ub a) > key (ub b)
    · rw [decide_eq_true k1] at hz
      rw [if_neg (by omega)] at hf
      have H := Lib.hid hf
      clear hf hl k1
      go_enter Try.func34, Try.ntmps34
      go_wp2_with (first | (go_at_call 42; refine (r_float _ _).mono ?_; rintro e w' ⟨rfl, rfl⟩))
      go_ret
      exact ⟨by rw [H.out]; rfl, rfl⟩
    · rw [decide_eq_false k1] at hz
      by_cases k2 : key (ub a) < key (ub b)
      · rw [if_pos (Or.inr k2)] at hf
        rw [decide_eq_true k2] at hl
        have H := Lib.hid hf
        clear hf k1 k2
        go_enter Try.func34, Try.ntmps34
        go_wp2_with (first | (go_at_call 42; refine (r_float _ _).mono ?_; rintro e w' ⟨rfl, rfl⟩))
        go_ret
        exact ⟨by rw [H.out]; rfl, rfl⟩
      · rw [decide_eq_false k2] at hl
        by_cases k3 : a < 0
        · rw [if_pos (Or.inl ⟨by omega, k3⟩)] at hf
          have H := Lib.hid hf
          clear hf k1 k2
          go_enter Try.func34, Try.ntmps34
          go_wp2_with (first | (go_at_call 42; refine (r_float _ _).mono ?_; rintro e w' ⟨rfl, rfl⟩))
          go_ret
          exact ⟨by rw [H.out]; rfl, rfl⟩
        · rw [if_neg (by omega)] at hf
          have H := Lib.hid hf
          clear hf k1 k2
          go_enter Try.func34, Try.ntmps34
          go_wp2_with (first | (go_at_call 42; refine (r_float _ _).mono ?_; rintro e w' ⟨rfl, rfl⟩))
          go_ret
          exact ⟨by rw [H.out]; rfl, rfl⟩
  all_goals
    have e : fmax a b = noneI := by unfold fmax; rw [h1, h2]; rfl
    rw [h1] at hx; rw [h2] at hy
    clear h1 h2
    have H := Lib.hid e; clear e
    go_enter Try.func34, Try.ntmps34
    go_wp2_with (first | (go_at_call 42; refine (r_float _ _).mono ?_; rintro e w' ⟨rfl, rfl⟩))
    go_ret
    exact ⟨by rw [H.out]; rfl, rfl⟩

theorem fclass_ex (a : Int) : fclass a = if ex a = 2047 then (if fr a = 0 then 1 else 0) else if ex a = 0 then (if fr a = 0 then 4 else 3) else 2 := by
  have h1 := ex_lt a
  have h2 := fr_lt a
  have h3 := rg_ex a
  unfold fclass isN
  rw [h3]
  generalize ex a = E at *
  generalize fr a = M at *
  by_cases e1 : E = 2047
  · subst e1
    by_cases e2 : M = 0
    · subst e2; simp
    · rw [if_pos (by simp; omega), if_pos rfl, if_neg e2]
  · rw [if_neg (by simp; omega), if_neg (by omega), if_neg e1]
    by_cases e2 : E = 0
    · subst e2
      rw [if_neg (by omega), if_pos rfl]
      by_cases e3 : M = 0
      · subst e3; simp
      · rw [if_pos (by omega), if_neg e3]
    · rw [if_pos (by omega), if_neg e2]

theorem r_Class (a : Int) (w : World) : Calls Try.prog 38 #[.int .i64 a] w fun e w' => e = .returned (.int .i64 (fclass a)) ∧ w = w' := by
  have hE := b_ex a
  have hM := b_fr a
  have hf := fclass_ex a
  generalize ex a = E at *
  generalize fr a = M at *
  by_cases e1 : E = 2047
  · have t1 : ((E : Int) == 2047) = true := by simp; omega
    by_cases e2 : M = 0
    · have t2 : ((M : Int) != 0) = false := by simp; omega
      rw [if_pos e1, if_pos e2] at hf
      have H := Lib.hid hf
      clear hf e1 e2
      go_enter Try.func38, Try.ntmps38
      go_wp2
      go_ret
      exact ⟨by rw [H.out]; rfl, rfl⟩
    · have t2 : ((M : Int) != 0) = true := by simp; omega
      rw [if_pos e1, if_neg e2] at hf
      have H := Lib.hid hf
      clear hf e1 e2
      go_enter Try.func38, Try.ntmps38
      go_wp2
      go_ret
      exact ⟨by rw [H.out]; rfl, rfl⟩
  · have t1 : ((E : Int) == 2047) = false := by simp; omega
    by_cases e3 : E = 0
    · have t3 : ((E : Int) != 0) = false := by simp; omega
      by_cases e2 : M = 0
      · have t2 : ((M : Int) != 0) = false := by simp; omega
        rw [if_neg e1, if_pos e3, if_pos e2] at hf
        have H := Lib.hid hf
        clear hf e1 e2 e3
        go_enter Try.func38, Try.ntmps38
        go_wp2
        go_ret
        exact ⟨by rw [H.out]; rfl, rfl⟩
      · have t2 : ((M : Int) != 0) = true := by simp; omega
        rw [if_neg e1, if_pos e3, if_neg e2] at hf
        have H := Lib.hid hf
        clear hf e1 e2 e3
        go_enter Try.func38, Try.ntmps38
        go_wp2
        go_ret
        exact ⟨by rw [H.out]; rfl, rfl⟩
    · have t3 : ((E : Int) != 0) = true := by simp; omega
      rw [if_neg e1, if_neg e3] at hf
      have H := Lib.hid hf
      clear hf e1 e3
      go_enter Try.func38, Try.ntmps38
      go_wp2
      go_ret
      exact ⟨by rw [H.out]; rfl, rfl⟩

theorem c_Class (a : Int) (w : World) : Calls Try.prog 35 #[.int .i64 a] w fun e w' => e = .returned (.int .i64 (fclass a)) ∧ w = w' := by
  have hu := ub_lt a
  have hr := rg_lt (ub a)
  have hf : fclass a = if 9218868437227405312 < rg (ub a) then 0 else if rg (ub a) = 9218868437227405312 then 1 else if 4503599627370496 ≤ rg (ub a) then 2 else if 0 < rg (ub a) then 3 else 4 := by
    unfold fclass isN; simp
  generalize hR : rg (ub a) = r at *
  have hk : key r = r := by
    unfold key sg rg; rw [Nat.mod_eq_of_lt hr, Nat.div_eq_of_lt hr]; rfl
  have hrr : rg r = r := Nat.mod_eq_of_lt hr
  have hx : (FloatKind.f64.format.order r r != some .eq) = isN r := order_self _
  by_cases k1 : 9218868437227405312 < r
  · have n1 : isN r = true := by unfold isN; rw [hrr]; exact decide_eq_true k1
    rw [n1] at hx
    rw [if_pos k1] at hf
    have H := Lib.hid hf
    have H2 := Lib.hid hR
    clear hf k1 n1 hk hrr hr hR
    go_enter Try.func35, Try.ntmps35
    go_wp2_with (first | (go_at_call 39; refine (c_float _ _).mono ?_; rintro e w' ⟨rfl, rfl⟩) | (go_at_call 44; refine (c_Abs _ _ hu).mono ?_; rw [H2.out]; rintro e w' ⟨rfl, rfl⟩))
    go_ret
    exact ⟨by rw [H.out]; rfl, rfl⟩
  · have n1 : isN r = false := by unfold isN; rw [hrr]; exact decide_eq_false k1
    have g1 : (FloatKind.f64.format.order r 9218868437227405311 == some .gt) = decide (key r > key 9218868437227405311) := ord_gt n1 (by decide)
    have g2 : (FloatKind.f64.format.order r 4503599627370496 == some .gt) = decide (key r > key 4503599627370496) := ord_gt n1 (by decide)
    have g3 : (FloatKind.f64.format.order r 4503599627370496 == some .eq) = decide (key r = key 4503599627370496) := ord_eq n1 (by decide)
    have g4 : (FloatKind.f64.format.order r 0 == some .gt) = decide (key r > key 0) := ord_gt n1 (by decide)
    have v1 : key 9218868437227405311 = 9218868437227405311 := by decide
    have v2 : key 4503599627370496 = 4503599627370496 := by decide
    have v3 : key 0 = 0 := by decide
    rw [hk, v1] at g1; rw [hk, v2] at g2 g3; rw [hk, v3] at g4
    rw [n1] at hx
    have H2 := Lib.hid hR
    clear hR hrr hk v1 v2 v3 n1
    rw [if_neg k1] at hf
    by_cases k2 : r = 9218868437227405312
    · rw [if_pos k2] at hf
      have H := Lib.hid hf
      rw [decide_eq_true (by omega)] at g1
      clear hf g2 g3 g4 k2 k1
      go_enter Try.func35, Try.ntmps35
      go_wp2_with (first | (go_at_call 39; refine (c_float _ _).mono ?_; rintro e w' ⟨rfl, rfl⟩) | (go_at_call 44; refine (c_Abs _ _ hu).mono ?_; rw [H2.out]; rintro e w' ⟨rfl, rfl⟩))
      go_ret
      exact ⟨by rw [H.out]; rfl, rfl⟩
    · rw [if_neg k2] at hf
      rw [decide_eq_false (by omega)] at g1
      by_cases k3 : 4503599627370496 < r
      · rw [if_pos (by omega)] at hf
        rw [decide_eq_true (by omega)] at g2; rw [decide_eq_false (by omega)] at g3
        have H := Lib.hid hf
        clear hf g4 k2 k1 k3
        go_enter Try.func35, Try.ntmps35
        go_wp2_with (first | (go_at_call 39; refine (c_float _ _).mono ?_; rintro e w' ⟨rfl, rfl⟩) | (go_at_call 44; refine (c_Abs _ _ hu).mono ?_; rw [H2.out]; rintro e w' ⟨rfl, rfl⟩))
        go_ret
        exact ⟨by rw [H.out]; rfl, rfl⟩
      · rw [decide_eq_false (by omega)] at g2
        by_cases k4 : r = 4503599627370496
        · rw [if_pos (by omega)] at hf
          rw [decide_eq_true (by omega)] at g3
          have H := Lib.hid hf
          clear hf g4 k2 k1 k3 k4
          go_enter Try.func35, Try.ntmps35
          go_wp2_with (first | (go_at_call 39; refine (c_float _ _).mono ?_; rintro e w' ⟨rfl, rfl⟩) | (go_at_call 44; refine (c_Abs _ _ hu).mono ?_; rw [H2.out]; rintro e w' ⟨rfl, rfl⟩))
          go_ret
          exact ⟨by rw [H.out]; rfl, rfl⟩
        · rw [if_neg (by omega)] at hf
          rw [decide_eq_false (by omega)] at g3
          by_cases k5 : 0 < r
          · rw [if_pos k5] at hf
            rw [decide_eq_true (by omega)] at g4
            have H := Lib.hid hf
            clear hf k2 k1 k3 k4 k5
            go_enter Try.func35, Try.ntmps35
            go_wp2_with (first | (go_at_call 39; refine (c_float _ _).mono ?_; rintro e w' ⟨rfl, rfl⟩) | (go_at_call 44; refine (c_Abs _ _ hu).mono ?_; rw [H2.out]; rintro e w' ⟨rfl, rfl⟩))
            go_ret
            exact ⟨by rw [H.out]; rfl, rfl⟩
          · rw [if_neg k5] at hf
            rw [decide_eq_false (by omega)] at g4
            have H := Lib.hid hf
            clear hf k2 k1 k3 k4 k5
            go_enter Try.func35, Try.ntmps35
            go_wp2_with (first | (go_at_call 39; refine (c_float _ _).mono ?_; rintro e w' ⟨rfl, rfl⟩) | (go_at_call 44; refine (c_Abs _ _ hu).mono ?_; rw [H2.out]; rintro e w' ⟨rfl, rfl⟩))
            go_ret
            exact ⟨by rw [H.out]; rfl, rfl⟩
end Go.Proofs.Ytifpmhaddajcnaa
