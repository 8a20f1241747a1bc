/- Plain facts of the words' floats: signs, classes, order, whole numbers. -/
import Derived.Test.YtifpmhaddajcnaaFl
namespace Go.Proofs.Ytifpmhaddajcnaa
open Fm Go.RowKit Go.ChangeShapes Ieee

/-! the sign turned -/
theorem xor_top (n : Nat) (h : n < 18446744073709551616) : n ^^^ 9223372036854775808 = if n < 9223372036854775808 then n + 9223372036854775808 else n - 9223372036854775808 := by
  have key : ∀ r : Nat, r < 9223372036854775808 → r ^^^ 9223372036854775808 = r + 9223372036854775808 := by
    intro r hr
    have e1 : 2 ^ 63 * 1 + r = 2 ^ 63 * 1 ||| r := Nat.two_pow_add_eq_or_of_lt (i := 63) hr 1
    have e2 : r + 9223372036854775808 = 2 ^ 63 ||| r := by rw [Nat.add_comm]; simpa using e1
    rw [e2]
    apply Nat.eq_of_testBit_eq
    intro i
    rw [Nat.testBit_xor, Nat.testBit_or]
    show (r.testBit i ^^ (2 ^ 63).testBit i) = _
    by_cases hi : i = 63
    · subst hi
      have : r.testBit 63 = false := Nat.testBit_lt_two_pow hr
      rw [this]; simp
    · have : (2 ^ 63).testBit i = false := by rw [Nat.testBit_two_pow]; simp; omega
      rw [this]; simp
  split
  · rename_i hn; exact key n hn
  · rename_i hn
    obtain ⟨r, rfl⟩ : ∃ r, n = r + 9223372036854775808 := ⟨n - 9223372036854775808, by omega⟩
    rw [← key r (by omega), Nat.xor_assoc, Nat.xor_self, Nat.xor_zero, key r (by omega)]; omega

def flip (a : Int) : Int := if a < 0 then a + 9223372036854775808 else a - 9223372036854775808

theorem xor_flip {a : Int} (h : (Lit.int .i64 a).wf = true) : bits .xor .i64 a (-9223372036854775808) = flip a := by
  have hb := bounds_i64 h
  show IntKind.i64.wrap ((BitVec.ofInt 64 a ^^^ BitVec.ofInt 64 (-9223372036854775808)).toNat : Int) = _
  rw [BitVec.toNat_xor, BitVec.toNat_ofInt, BitVec.toNat_ofInt]
  have e1 : ((-9223372036854775808 : Int) % ((2 ^ 64 : Nat) : Int)).toNat = 9223372036854775808 := by decide
  rw [e1, xor_top _ (by omega), IntKind.wrap_i64]
  unfold flip
  split <;> split <;> omega

theorem flip_wf {a : Int} (h : (Lit.int .i64 a).wf = true) : (Lit.int .i64 (flip a)).wf = true := by
  rw [← xor_flip h]; exact wf_bits _ _ _ _
theorem rg_flip {a : Int} (h : (Lit.int .i64 a).wf = true) : rg (ub (flip a)) = rg (ub a) := by
  have h1 := rg_ub h
  have h2 := rg_ub (flip_wf h)
  have hb := bounds_i64 h
  unfold flip at *
  by_cases ha : a < 0
  · rw [if_pos ha] at h1 h2 ⊢; rw [if_neg (by omega)] at h2; omega
  · rw [if_neg ha] at h1 h2 ⊢; rw [if_pos (by omega)] at h2; omega
theorem sg_flip {a : Int} (h : (Lit.int .i64 a).wf = true) : sg (ub (flip a)) = !sg (ub a) := by
  rw [neg_ub h, neg_ub (flip_wf h)]
  have hb := bounds_i64 h
  unfold flip
  by_cases ha : a < 0
  · rw [if_pos ha]; simp [ha]; omega
  · rw [if_neg ha]; simp [ha]; omega

theorem isN_iff (a : Int) : isN (ub a) = true ↔ 9218868437227405312 < rg (ub a) := by unfold isN; simp

/-! classes -/
theorem fclass_range (a : Int) : 0 ≤ fclass a ∧ fclass a ≤ 4 := by
  unfold fclass
  repeat' split
  all_goals omega
theorem fclass_flip {a : Int} (h : (Lit.int .i64 a).wf = true) : fclass (flip a) = fclass a := by
  unfold fclass isN; rw [rg_flip h]
theorem fclass_nan (a : Int) : fclass a = 0 ↔ isN (ub a) = true := by
  unfold fclass
  constructor
  · intro h
    split at h
    · assumption
    · repeat' split at h
      all_goals omega
  · intro h; rw [if_pos h]
theorem fclass_inf (a : Int) : fclass a = 1 ↔ rg (ub a) = 9218868437227405312 := by
  unfold fclass isN
  constructor
  · intro h
    repeat' split at h
    all_goals first | assumption | omega
  · intro h; rw [if_neg (by rw [h]; decide), if_pos h]
theorem fclass_zero (a : Int) : fclass a = 4 ↔ rg (ub a) = 0 := by
  unfold fclass isN
  constructor
  · intro h
    repeat' split at h
    all_goals omega
  · intro h; rw [h]; decide
theorem rg_zero {a : Int} (h : (Lit.int .i64 a).wf = true) : rg (ub a) = 0 ↔ a = 0 ∨ a = -9223372036854775808 := by
  have h1 := rg_ub h
  have hb := bounds_i64 h
  split at h1 <;> omega

/-! whole numbers -/
theorem wrap_word_pos {r : Nat} (h : r < 9223372036854775808) : wrap64 (double.word false r) = (r : Int) := by
  rw [word_d]; unfold wrap64; simp; omega
theorem wrap_word_neg {r : Nat} (h : r < 9223372036854775808) : wrap64 (double.word true r) = (r : Int) - 9223372036854775808 := by
  rw [word_d]; unfold wrap64; simp; omega
theorem word_lt (s : Bool) {r : Nat} (h : r < 9223372036854775808) : double.word s r < 18446744073709551616 := by
  rw [word_d]; cases s <;> simp <;> omega
theorem ub_wrap {n : Nat} (h : n < 18446744073709551616) : ub (wrap64 n) = n := by
  unfold ub wrap64; rw [IntKind.wrap_u64]; omega
theorem wf_wrap64 (n : Int) : (Lit.int .i64 (wrap64 n)).wf = true := by
  have : wrap64 n = IntKind.i64.wrap n := by rw [IntKind.wrap_i64]; unfold wrap64; rfl
  rw [this]; exact wf_wrap _ _

/-- the rung of a whole number that is one -/
theorem ofInt_rung {n : Int} {s : Nat} (h : mg s = n.natAbs * unit) (hs : s ≤ 9218868437227405312) : floatOfInt .f64 n = double.word (n < 0) s := by
  show double.nearest (n < 0) n.natAbs 0 = _
  have e := nearest_eq (n < 0) n.natAbs 1074
  have e0 : (-1074 + 1074 : Int) = 0 := by decide
  rw [e0] at e
  rw [e]
  have e2 : nr n.natAbs 1074 = s := by
    refine nr_exact ?_
    show n.natAbs * 2 ^ (1074 : Int).toNat = mg s * 2 ^ (-(1074 : Int)).toNat
    have e3 : (-(1074 : Int)).toNat = 0 := by decide
    have e4 : (1074 : Int).toNat = eU := by decide
    rw [e3, e4, h, unit_eq, Nat.pow_zero, Nat.mul_one]
  rw [e2, Nat.min_eq_left hs]

theorem fromInt_rung {n : Int} {s : Nat} (h : mg s = n.natAbs * unit) (hs : s ≤ 9218868437227405312) : fromInt n = wrap64 (double.word (n < 0) s) := by
  unfold fromInt bitsN
  rw [ofInt_rung h hs, isN_word hs, if_neg Bool.false_ne_true]

theorem wh_unit {s k : Nat} (h : mg s = k * unit) : wh s = k := by
  unfold wh; rw [h]; exact Nat.mul_div_cancel _ unit_pos

theorem le_hi {s k : Nat} (h : mg s = k * unit) (hk : k ≤ 9223372036854775808) : s ≤ 4890909195324358656 := by
  rcases Nat.lt_or_ge 4890909195324358656 s with h1 | h1
  · have h2 := mg_lt h1
    rw [mg_hi, h] at h2
    have := Nat.lt_of_mul_lt_mul_right h2
    omega
  · exact h1
theorem lt_hi {s k : Nat} (h : mg s = k * unit) (hk : k < 9223372036854775808) : s < 4890909195324358656 := by
  rcases Nat.lt_or_ge s 4890909195324358656 with h1 | h1
  · exact h1
  · have h2 := mg_le h1
    rw [mg_hi, h] at h2
    have := Nat.le_of_mul_le_mul_right h2 unit_pos
    omega

/-- a whole number that is a float comes back -/
theorem back {n : Int} {s : Nat} (hn : -9223372036854775808 ≤ n ∧ n < 9223372036854775808) (h : mg s = n.natAbs * unit) : toInt (fromInt n) = n ∧ toIntE (fromInt n) = 0 := by
  have hs := le_hi h (by omega)
  rw [fromInt_rung h (by omega)]
  have hb : badInt (wrap64 (double.word (n < 0) s)) = false := by
    unfold badInt key
    rw [ub_wrap (word_lt _ (by omega)), isN_word (by omega), sg_word (by omega), rg_word (by omega)]
    by_cases h0 : n < 0
    · simp [h0]; omega
    · have := lt_hi h (by omega)
      simp [h0]; omega
  unfold toInt toIntE
  rw [hb, ub_wrap (word_lt _ (by omega))]
  refine ⟨?_, rfl⟩
  show tr _ = n
  unfold tr
  rw [sg_word (by omega), rg_word (by omega), wh_unit h]
  by_cases h0 : n < 0
  · simp [h0]; omega
  · simp [h0]; omega

theorem small_rung (k : Nat) (hk : k < 9007199254740992) : ∃ s, mg s = k * unit := by
  by_cases h0 : k = 0
  · exact ⟨0, by rw [h0, mg_zero, Nat.zero_mul]⟩
  · have hl := log2_bounds h0
    have hl2 : k.log2 ≤ 52 := log2_le_of_lt h0 hk
    generalize hL : k.log2 = L at *
    have h1 : 4503599627370496 ≤ k * 2 ^ (52 - L) := by
      have : (4503599627370496 : Nat) = 2 ^ L * 2 ^ (52 - L) := by rw [← Nat.pow_add, show L + (52 - L) = 52 by omega]
      rw [this]; exact Nat.mul_le_mul_right _ hl.1
    have h2 : k * 2 ^ (52 - L) < 9007199254740992 := by
      have : (9007199254740992 : Nat) = 2 ^ (L + 1) * 2 ^ (52 - L) := by rw [← Nat.pow_add, show L + 1 + (52 - L) = 53 by omega]
      rw [this]; exact Nat.mul_lt_mul_of_pos_right hl.2 (Nat.two_pow_pos _)
    refine ⟨(1023 + L) * 4503599627370496 + (k * 2 ^ (52 - L) - 4503599627370496), ?_⟩
    generalize hx : k * 2 ^ (52 - L) = x at *
    have q1 : ¬ (1023 + L) * 4503599627370496 + (x - 4503599627370496) < 4503599627370496 := by omega
    have q2 : 4503599627370496 + ((1023 + L) * 4503599627370496 + (x - 4503599627370496)) % 4503599627370496 = x := by omega
    have q3 : ((1023 + L) * 4503599627370496 + (x - 4503599627370496)) / 4503599627370496 - 1 = 1022 + L := by omega
    unfold mg
    rw [if_neg q1, q2, q3, ← hx, unit_eq, Nat.mul_assoc, ← Nat.pow_add]
    have q4 : 52 - L + (1022 + L) = eU := by unfold eU; omega
    rw [q4]

/-- the whole part of a float is a float -/
theorem cut_rung (r : Nat) (hr : r < 9218868437227405312) : ∃ s, mg s = wh r * unit := by
  by_cases h0 : wh r < 9007199254740992
  · exact small_rung _ h0
  · by_cases h1 : r < 1075 * 4503599627370496
    · exfalso
      apply h0
      have h2 := mg_lt h1
      have h3 : mg (1075 * 4503599627370496) = 4503599627370496 * unit := by
        rw [unit_eq]
        exact mg_norm (E := eU) (x := 0) (a := 4503599627370496) (by decide) (by decide) (by decide) (by decide)
      rw [h3] at h2
      unfold wh
      have := (Nat.div_lt_iff_lt_mul unit_pos).2 h2
      omega
    · refine ⟨r, ?_⟩
      have e : mg r = ((4503599627370496 + r % 4503599627370496) * 2 ^ (r / 4503599627370496 - 1 - eU)) * unit := by
        unfold mg
        have q : r / 4503599627370496 - 1 = (r / 4503599627370496 - 1 - eU) + eU := by unfold eU; omega
        rw [if_neg (by omega), unit_eq, Nat.mul_assoc, ← Nat.pow_add, ← q]
      rw [wh_unit e, e]

theorem toInt_back (a : Int) (h : toIntE a = 0) : toInt (fromInt (toInt a)) = toInt a ∧ toIntE (fromInt (toInt a)) = 0 := by
  have hb : badInt a = false := by
    unfold toIntE at h
    cases hb : badInt a
    · rfl
    · rw [hb] at h; simp at h
  have ht : toInt a = tr (ub a) := by unfold toInt; rw [hb]; rfl
  have hb' := hb
  simp only [badInt, Bool.or_eq_false_iff, decide_eq_false_iff_not] at hb
  obtain ⟨⟨h1, h2⟩, h3⟩ := hb
  have hr : rg (ub a) < 9218868437227405312 := by
    unfold key at h2 h3
    cases hs : sg (ub a) <;> rw [hs] at h2 h3 <;> simp at h2 h3 <;> omega
  obtain ⟨s, hs⟩ := cut_rung _ hr
  rw [ht]
  refine back (s := s) ?_ ?_
  · unfold tr
    unfold key at h2 h3
    cases hs : sg (ub a) <;> rw [hs] at h2 h3 <;> simp at h2 h3 ⊢
    · have := wh_lt (r := rg (ub a)) (by omega)
      omega
    · have := wh_le (r := rg (ub a)) (by omega)
      omega
  · rw [hs]
    congr 1
    unfold tr
    split <;> omega
end Go.Proofs.Ytifpmhaddajcnaa
