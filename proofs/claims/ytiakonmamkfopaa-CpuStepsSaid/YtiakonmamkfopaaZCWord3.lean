/- Contracts of the functions of package word and of its reference, third part: ToInt. -/
import Derived.Test.YtiakonmamkfopaaZCWord2
namespace Go.Proofs.Ytiakonmamkfopaa
open Go.RowKit Go.ChangeShapes Fm
set_option linter.unusedVariables false
attribute [local go_sem] x_frombits x_bits
theorem c_ToInt (a : Int) (w : World) : Calls Try.prog 58 #[.int .i64 a] w fun e w' => e = .returned (.tuple #[.int .i64 (toInt a), .int .i64 (toIntE a)]) ∧ w = w' := by
  have g0 : (FloatKind.f64.format.order (ub a) (ub a) != some .eq) = isN (ub a) := order_self _
  cases n1 : isN (ub a)
  · have g1 : (FloatKind.f64.format.order (ub a) 4890909195324358656 == some .gt) = decide (key (ub a) > key 4890909195324358656) := ord_gt n1 (by decide)
    have g2 : (FloatKind.f64.format.order (ub a) 4890909195324358656 == some .eq) = decide (key (ub a) = key 4890909195324358656) := ord_eq n1 (by decide)
    have g3 : (FloatKind.f64.format.order (ub a) 14114281232179134464 == some .lt) = decide (key (ub a) < key 14114281232179134464) := ord_lt n1 (by decide)
    have v1 : key 4890909195324358656 = 4890909195324358656 := by decide
    have v2 : key 14114281232179134464 = -4890909195324358656 := by decide
    rw [v1] at g1 g2; rw [v2] at g3
    rw [n1] at g0
    by_cases k1 : key (ub a) > 4890909195324358656
    · have hb : badInt a = true := by unfold badInt; rw [n1, decide_eq_true (show 4890909195324358656 ≤ key (ub a) by omega)]; rfl
      have hf : toInt a = 0 := by unfold toInt; rw [if_pos hb]
      have hg : toIntE a = 1 := by unfold toIntE; rw [if_pos hb]
      rw [decide_eq_true k1] at g1
      have H := Lib.hid hf
      have H2 := Lib.hid hg
      clear hf hg g2 g3 k1 hb v1 v2 n1
      go_enter Try.func58, Try.ntmps58
      go_wp2_with (go_at_call 82; refine (c_float _ _).mono ?_; rintro e w' ⟨rfl, rfl⟩)
      go_ret2
      exact ⟨by rw [H.out, H2.out]; rfl, rfl⟩
    · rw [decide_eq_false k1] at g1
      by_cases k2 : key (ub a) = 4890909195324358656
      · have hb : badInt a = true := by unfold badInt; rw [n1, decide_eq_true (show 4890909195324358656 ≤ key (ub a) by omega)]; rfl
        have hf : toInt a = 0 := by unfold toInt; rw [if_pos hb]
        have hg : toIntE a = 1 := by unfold toIntE; rw [if_pos hb]
        rw [decide_eq_true k2] at g2
        have H := Lib.hid hf
        have H2 := Lib.hid hg
        clear hf hg g3 k1 k2 hb v1 v2 n1
        go_enter Try.func58, Try.ntmps58
        go_wp2_with (go_at_call 82; refine (c_float _ _).mono ?_; rintro e w' ⟨rfl, rfl⟩)
        go_ret2
        exact ⟨by rw [H.out, H2.out]; rfl, rfl⟩
      · rw [decide_eq_false k2] at g2
        by_cases k3 : key (ub a) < -4890909195324358656
        · have hb : badInt a = true := by unfold badInt; rw [n1, decide_eq_true k3]; simp
          have hf : toInt a = 0 := by unfold toInt; rw [if_pos hb]
          have hg : toIntE a = 1 := by unfold toIntE; rw [if_pos hb]
          rw [decide_eq_true k3] at g3
          have H := Lib.hid hf
          have H2 := Lib.hid hg
          clear hf hg k1 k2 k3 hb v1 v2 n1
          go_enter Try.func58, Try.ntmps58
          go_wp2_with (go_at_call 82; refine (c_float _ _).mono ?_; rintro e w' ⟨rfl, rfl⟩)
          go_ret2
          exact ⟨by rw [H.out, H2.out]; rfl, rfl⟩
        · have hb : badInt a = false := by unfold badInt; rw [n1, decide_eq_false k3, decide_eq_false (show ¬ 4890909195324358656 ≤ key (ub a) by omega)]; rfl
          have hf : toInt a = tr (ub a) := by unfold toInt; rw [if_neg (by rw [hb]; decide)]
          have hg : toIntE a = 0 := by unfold toIntE; rw [if_neg (by rw [hb]; decide)]
          have hr := fun (W : World) => run_convert_float_int (P := Try.prog) W 115 2 .f64 .i64 (ub a) (tr (ub a)) (by rw [Try.underlying115]; rfl) Try.underlying2 (trunc_eq hb)
          rw [decide_eq_false k3] at g3
          have H := Lib.hid hf
          have H2 := Lib.hid hg
          clear hf hg k1 k2 k3 hb v1 v2 n1
          go_enter Try.func58, Try.ntmps58
          go_wp2_with (go_at_call 82; refine (c_float _ _).mono ?_; rintro e w' ⟨rfl, rfl⟩)
          go_ret2
          exact ⟨by rw [H.out, H2.out]; rfl, rfl⟩
  · have hb : badInt a = true := by unfold badInt; rw [n1]; rfl
    have hf : toInt a = 0 := by unfold toInt; rw [if_pos hb]
    have hg : toIntE a = 1 := by unfold toIntE; rw [if_pos hb]
    rw [n1] at g0
    have H := Lib.hid hf
    have H2 := Lib.hid hg
    clear hf hg hb n1
    go_enter Try.func58, Try.ntmps58
    go_wp2_with (go_at_call 82; refine (c_float _ _).mono ?_; rintro e w' ⟨rfl, rfl⟩)
    go_ret2
    exact ⟨by rw [H.out, H2.out]; rfl, rfl⟩
theorem mg_ex (a : Int) (h : 0 < ex a) : mg (rg (ub a)) = (fr a + 4503599627370496) * 2 ^ (ex a - 1) := by
  have h2 := fr_lt a
  have h3 := rg_ex a
  unfold mg
  rw [if_neg (by omega)]
  have e1 : rg (ub a) / 4503599627370496 = ex a := rfl
  have e2 : rg (ub a) % 4503599627370496 = fr a := rfl
  rw [e1, e2, Nat.add_comm]
theorem wh_small (a : Int) (h : ex a < 1023) : wh (rg (ub a)) = 0 := by
  have h2 := fr_lt a
  have h3 := rg_ex a
  have h4 : mg (1023 * 4503599627370496) = 1 * unit := by
    rw [unit_eq]
    refine mg_norm (E := eU - 52) (x := 0) (a := 4503599627370496) (y := 4503599627370496) (by decide) (by decide) ?_ (by decide) |>.trans ?_
    · decide
    · rw [show (4503599627370496 : Nat) = 2 ^ 52 by decide, ← Nat.pow_add, show 52 + (eU - 52) = eU by decide, Nat.one_mul]
  have h5 := @mg_lt (rg (ub a)) (1023 * 4503599627370496) (by omega)
  rw [h4, Nat.one_mul] at h5
  unfold wh; exact Nat.div_eq_of_lt h5
theorem wh_ex (a : Int) (h : 1023 ≤ ex a) : wh (rg (ub a)) = (fr a + 4503599627370496) * 2 ^ (ex a - 1075) / 2 ^ (1075 - ex a) := by
  unfold wh
  rw [mg_ex a (by omega), div_pow, show ex a - 1 - 1074 = ex a - 1075 by omega, show 1074 - (ex a - 1) = 1075 - ex a by omega]
theorem badInt_ex (a : Int) (wa : (Lit.int .i64 a).wf = true) : badInt a = decide (1086 < ex a ∨ ex a = 1086 ∧ (0 ≤ a ∨ fr a ≠ 0)) := by
  have h2 := fr_lt a
  have h3 := rg_ex a
  have h1 := neg_ub wa
  unfold badInt isN key
  rw [h1, h3]
  generalize ex a = E at *
  generalize fr a = M at *
  clear h1 h3
  rw [Bool.eq_iff_iff]
  by_cases ha : a < 0 <;> simp [ha] <;> omega
theorem tr_neg (a : Int) (wa : (Lit.int .i64 a).wf = true) : tr (ub a) = if a < 0 then -(wh (rg (ub a)) : Int) else wh (rg (ub a)) := by
  unfold tr; rw [neg_ub wa]; by_cases ha : a < 0 <;> simp [ha]
theorem toInt_ex (a : Int) (wa : (Lit.int .i64 a).wf = true) (h : ¬ (1086 < ex a ∨ ex a = 1086 ∧ (0 ≤ a ∨ fr a ≠ 0))) : toInt a = (if a < 0 then -(wh (rg (ub a)) : Int) else wh (rg (ub a))) ∧ toIntE a = 0 := by
  have hb : badInt a = false := by rw [badInt_ex a wa]; exact decide_eq_false h
  unfold toInt toIntE
  rw [hb, ← tr_neg a wa]
  exact ⟨rfl, rfl⟩
theorem toInt_ex_bad (a : Int) (wa : (Lit.int .i64 a).wf = true) (h : 1086 < ex a ∨ ex a = 1086 ∧ (0 ≤ a ∨ fr a ≠ 0)) : toInt a = 0 ∧ toIntE a = 1 := by
  have hb : badInt a = true := by rw [badInt_ex a wa]; exact decide_eq_true h
  unfold toInt toIntE
  rw [hb]
  exact ⟨rfl, rfl⟩
theorem wrap_neg (v : Nat) (h : v ≤ 9223372036854775808) : wrap64 (IntKind.u64.wrap (-(v : Int))) = -(v : Int) := by
  unfold wrap64; rw [IntKind.wrap_u64]; omega
set_option maxHeartbeats 800000 in
set_option maxRecDepth 100000 in
theorem r_ToInt_frac (a : Int) (wa : (Lit.int .i64 a).wf = true) (w : World) (k0 : 1023 ≤ ex a) (k1 : ex a < 1075) : Calls Try.prog 33 #[.int .i64 a] w fun e w' => e = .returned (.tuple #[.int .i64 (toInt a), .int .i64 (toIntE a)]) ∧ w = w' := by
  have hE := b_ex a
  have hM := b_fr a
  have hO := b_or (fr a) (fr_lt a)
  obtain ⟨j, hj, hj2⟩ : ∃ j, ex a + j = 1075 ∧ 0 < j := ⟨1075 - ex a, by omega, by omega⟩
  obtain ⟨hf, hg⟩ := toInt_ex a wa (by omega)
  have hl := fr_lt a
  obtain ⟨m, hm⟩ : ∃ m : Nat, m = fr a + 4503599627370496 := ⟨_, rfl⟩
  rw [show (fr a : Int) + 4503599627370496 = (m : Int) by omega] at hO
  rw [show (ex a : Int) = 1075 - (j : Int) by omega] at hE
  have b1 : 0 < (j : Int) := by omega
  have b2 : (j : Int) ≤ 52 := by omega
  rw [wh_ex a k0, show 1075 - ex a = j by omega, show ex a - 1075 = 0 by omega, Nat.pow_zero, Nat.mul_one, ← hm] at hf
  obtain ⟨V, hV⟩ : ∃ V : Nat, m / 2 ^ j = V := ⟨_, rfl⟩
  rw [hV] at hf
  have hVl : V < 9007199254740992 := by
    rw [← hV]
    exact Nat.lt_of_le_of_lt (Nat.div_le_self _ _) (by omega)
  have hW : (m : Int) / 2 ^ (-(1075 - (j : Int) - 1075)).toNat = (V : Int) := by
    rw [show (-(1075 - (j : Int) - 1075)).toNat = j by omega, ← hV]; simp
  generalize fr a = M at *
  clear hm k0 k1 hj hj2 hV wa hl
  by_cases ha : a < 0
  · rw [if_pos ha, ← wrap_neg V (by omega)] at hf
    have H := Lib.hid hf
    have H2 := Lib.hid hg
    clear hf hg hVl
    go_enter Try.func33, Try.ntmps33
    go_wp2
    go_ret2
    exact ⟨by rw [H.out, H2.out]; rfl, rfl⟩
  · rw [if_neg ha] at hf
    have H := Lib.hid hf
    have H2 := Lib.hid hg
    have hv' : (V : Int) ≤ 9223372036854775807 := by omega
    clear hf hg hVl
    go_enter Try.func33, Try.ntmps33
    go_wp2
    go_ret2
    exact ⟨by rw [H.out, H2.out]; rfl, rfl⟩
set_option maxHeartbeats 800000 in
set_option maxRecDepth 100000 in
theorem r_ToInt (a : Int) (wa : (Lit.int .i64 a).wf = true) (w : World) : Calls Try.prog 33 #[.int .i64 a] w fun e w' => e = .returned (.tuple #[.int .i64 (toInt a), .int .i64 (toIntE a)]) ∧ w = w' := by
  have hE := b_ex a
  have hM := b_fr a
  have hO := b_or (fr a) (fr_lt a)
  have hl := fr_lt a
  have hx := ex_lt a
  by_cases k0 : ex a < 1023
  · obtain ⟨hf, hg⟩ := toInt_ex a wa (by omega)
    rw [wh_small a k0] at hf
    generalize ex a = E at *
    generalize fr a = M at *
    replace hf : toInt a = 0 := by rw [hf]; simp
    have H := Lib.hid hf
    have H2 := Lib.hid hg
    clear hf hg wa hO hl
    go_enter Try.func33, Try.ntmps33
    go_wp2
    go_ret2
    exact ⟨by rw [H.out, H2.out]; rfl, rfl⟩
  by_cases k1 : 1086 < ex a
  · obtain ⟨hf, hg⟩ := toInt_ex_bad a wa (by omega)
    generalize ex a = E at *
    generalize fr a = M at *
    have H := Lib.hid hf
    have H2 := Lib.hid hg
    obtain ⟨m, hm⟩ : ∃ m : Nat, (m : Int) = (M : Int) + 4503599627370496 := ⟨M + 4503599627370496, by omega⟩
    rw [← hm] at hO
    clear hf hg wa hl hm
    go_enter Try.func33, Try.ntmps33
    go_wp2
    go_ret2
    exact ⟨by rw [H.out, H2.out]; rfl, rfl⟩
  have hw := wh_ex a (by omega)
  by_cases k2 : ex a = 1086
  · by_cases k3 : 0 ≤ a
    · obtain ⟨hf, hg⟩ := toInt_ex_bad a wa (by omega)
      have H := Lib.hid hf
      have H2 := Lib.hid hg
      obtain ⟨m, hm⟩ : ∃ m : Nat, (m : Int) = (fr a : Int) + 4503599627370496 := ⟨fr a + 4503599627370496, by omega⟩
      rw [← hm] at hO
      rw [k2] at hE
      generalize fr a = M at *
      clear hf hg wa hl hm hw hx k0 k1 k2
      go_enter Try.func33, Try.ntmps33
      go_wp2
      go_ret2
      exact ⟨by rw [H.out, H2.out]; rfl, rfl⟩
    · by_cases k4 : fr a = 0
      · obtain ⟨hf, hg⟩ := toInt_ex a wa (by omega)
        rw [if_pos (by omega), hw, k2, k4] at hf
        replace hf : toInt a = -9223372036854775808 := by rw [hf]; decide
        have H2 := Lib.hid hg
        obtain ⟨m, hm⟩ : ∃ m : Nat, (m : Int) = (fr a : Int) + 4503599627370496 := ⟨fr a + 4503599627370496, by omega⟩
        rw [← hm] at hO
        have t : ((m : Int) != 4503599627370496) = false := by rw [bne_eq_false_iff_eq]; omega
        obtain ⟨V, hV⟩ : ∃ V : Nat, V = 9223372036854775808 := ⟨_, rfl⟩
        have hW : IntKind.u64.wrap ((m : Int) * 2048) = (V : Int) := by rw [IntKind.wrap_u64]; omega
        replace hf : toInt a = wrap64 (IntKind.u64.wrap (-(V : Int))) := by rw [hf, wrap_neg V (by omega)]; omega
        have H := Lib.hid hf
        rw [k2] at hE
        generalize fr a = M at *
        clear hf hg wa hl hw hx k0 k1 k2 k4 hm hV
        go_enter Try.func33, Try.ntmps33
        go_wp2
        go_ret2
        exact ⟨by rw [H.out, H2.out]; rfl, rfl⟩
      · obtain ⟨hf, hg⟩ := toInt_ex_bad a wa (by omega)
        have H := Lib.hid hf
        have H2 := Lib.hid hg
        obtain ⟨m, hm⟩ : ∃ m : Nat, (m : Int) = (fr a : Int) + 4503599627370496 := ⟨fr a + 4503599627370496, by omega⟩
        rw [← hm] at hO
        have t : ((m : Int) != 4503599627370496) = true := by rw [bne_iff_ne]; omega
        rw [k2] at hE
        generalize fr a = M at *
        clear hf hg wa hl hm hw hx k0 k1 k2 k4
        go_enter Try.func33, Try.ntmps33
        go_wp2
        go_ret2
        exact ⟨by rw [H.out, H2.out]; rfl, rfl⟩
  by_cases k3 : 1075 ≤ ex a
  · obtain ⟨j, hj⟩ : ∃ j, ex a = j + 1075 := ⟨ex a - 1075, by omega⟩
    have hj2 : j < 11 := by omega
    obtain ⟨hf, hg⟩ := toInt_ex a wa (by omega)
    rw [hw, hj, show j + 1075 - 1075 = j by omega, show 1075 - (j + 1075) = 0 by omega, Nat.pow_zero, Nat.div_one] at hf
    have hv : (fr a + 4503599627370496) * 2 ^ j < 9223372036854775808 := by
      calc (fr a + 4503599627370496) * 2 ^ j ≤ (fr a + 4503599627370496) * 2 ^ 10 := Nat.mul_le_mul_left _ (Nat.pow_le_pow_right (by omega) (by omega))
        _ < _ := by omega
    obtain ⟨V, hV⟩ : ∃ V, (fr a + 4503599627370496) * 2 ^ j = V := ⟨_, rfl⟩
    rw [hV] at hf hv
    obtain ⟨m, hm⟩ : ∃ m : Nat, m = fr a + 4503599627370496 := ⟨_, rfl⟩
    have hW : IntKind.u64.wrap ((m : Int) * 2 ^ j) = (V : Int) := by
      rw [hm, ← hV, IntKind.wrap_u64]
      have : (((fr a + 4503599627370496 : Nat) : Int) * 2 ^ j) = (((fr a + 4503599627370496) * 2 ^ j : Nat) : Int) := by simp
      rw [this, hV]; omega
    rw [show (fr a : Int) + 4503599627370496 = (m : Int) by omega] at hO
    rw [hj] at hE
    generalize fr a = M at *
    by_cases ha : a < 0
    · rw [if_pos ha, ← wrap_neg V (by omega)] at hf
      have H := Lib.hid hf
      have H2 := Lib.hid hg
      clear hf hg wa hl hw hx k0 k1 k2 k3 hm hV hj hv
      go_enter Try.func33, Try.ntmps33
      go_wp2
      go_ret2
      exact ⟨by rw [H.out, H2.out]; rfl, rfl⟩
    · rw [if_neg ha] at hf
      have H := Lib.hid hf
      have H2 := Lib.hid hg
      have hv' : (V : Int) ≤ 9223372036854775807 := by omega
      clear hf hg wa hl hw hx k0 k1 k2 k3 hm hV hj hv
      go_enter Try.func33, Try.ntmps33
      go_wp2
      go_ret2
      exact ⟨by rw [H.out, H2.out]; rfl, rfl⟩
  · obtain ⟨j, hj, hj2⟩ : ∃ j, ex a + j = 1075 ∧ 0 < j := ⟨1075 - ex a, by omega, by omega⟩
    exact r_ToInt_frac a wa w (by omega) (by omega)
end Go.Proofs.Ytiakonmamkfopaa
