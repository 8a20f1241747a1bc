/- The plain arithmetic of 64-bit floats: what the model's operations come to, in terms of rungs and magnitudes. -/
import Ieee.Arith
namespace Go.Proofs.Ytiakonmamkfopaa.Fm
open Ieee
/-- the magnitude of a rung, in units of the least float -/
def mg (r : Nat) : Nat := if r < 4503599627370496 then r else (4503599627370496 + r % 4503599627370496) * 2 ^ (r / 4503599627370496 - 1)
theorem mg_lt {r s : Nat} (h : r < s) : mg r < mg s := by
  unfold mg
  by_cases hs : s < 4503599627370496
  · rw [if_pos hs, if_pos (by omega)]; exact h
  · rw [if_neg hs]
    by_cases hr : r < 4503599627370496
    · rw [if_pos hr]
      have : 0 < 2 ^ (s / 4503599627370496 - 1) := Nat.two_pow_pos _
      calc r < 4503599627370496 := hr
        _ ≤ (4503599627370496 + s % 4503599627370496) * 1 := by omega
        _ ≤ _ := Nat.mul_le_mul_left _ this
    · rw [if_neg hr]
      by_cases e : r / 4503599627370496 = s / 4503599627370496
      · rw [e]
        exact Nat.mul_lt_mul_of_pos_right (by omega) (Nat.two_pow_pos _)
      · have e2 : s / 4503599627370496 - 1 = (r / 4503599627370496 - 1) + 1 + (s / 4503599627370496 - r / 4503599627370496 - 1) := by omega
        rw [e2, Nat.pow_add, Nat.pow_succ]
        have p1 : 0 < 2 ^ (r / 4503599627370496 - 1) := Nat.two_pow_pos _
        have p2 : 0 < 2 ^ (s / 4503599627370496 - r / 4503599627370496 - 1) := Nat.two_pow_pos _
        generalize 2 ^ (r / 4503599627370496 - 1) = x at *
        generalize 2 ^ (s / 4503599627370496 - r / 4503599627370496 - 1) = y at *
        have hr2 : r % 4503599627370496 < 4503599627370496 := Nat.mod_lt _ (by omega)
        calc (4503599627370496 + r % 4503599627370496) * x < (2 * 4503599627370496) * x := Nat.mul_lt_mul_of_pos_right (by omega) p1
          _ = 4503599627370496 * (x * 2 * 1) := by rw [Nat.mul_one, Nat.mul_comm x 2, ← Nat.mul_assoc, Nat.mul_comm 4503599627370496 2]
          _ ≤ 4503599627370496 * (x * 2 * y) := Nat.mul_le_mul_left _ (Nat.mul_le_mul_left _ p2)
          _ ≤ (4503599627370496 + s % 4503599627370496) * (x * 2 * y) := Nat.mul_le_mul_right _ (by omega)
theorem mg_le {r s : Nat} (h : r ≤ s) : mg r ≤ mg s := by
  rcases Nat.lt_or_ge r s with h1 | h1
  · exact Nat.le_of_lt (mg_lt h1)
  · rw [Nat.le_antisymm h h1]; exact Nat.le_refl _
theorem mg_lt_iff {r s : Nat} : mg r < mg s ↔ r < s :=
  ⟨fun h => by rcases Nat.lt_or_ge r s with h1 | h1; exact h1; exact absurd (mg_le h1) (by omega), mg_lt⟩
theorem mg_inj {r s : Nat} : mg r = mg s ↔ r = s :=
  ⟨fun h => by
    rcases Nat.lt_trichotomy r s with h1 | h1 | h1
    · have := mg_lt h1; omega
    · exact h1
    · have := mg_lt h1; omega, fun h => by rw [h]⟩
theorem mg_zero : mg 0 = 0 := rfl
theorem signWeight_d : double.signWeight = 9223372036854775808 := by decide
theorem binade_d : double.binade = 4503599627370496 := by decide
theorem infRung_d : double.infRung = 9218868437227405312 := by decide
theorem least_d : double.leastPlace = -1074 := by decide
def sg (n : Nat) : Bool := n / 9223372036854775808 % 2 == 1
def rg (n : Nat) : Nat := n % 9223372036854775808
/-- reading a word: NaN, infinity, or a number whose magnitude is that of its rung -/
theorem read_nan {n : Nat} (h : 9218868437227405312 < rg n) : double.read n = .nan (sg n) (rg n - 9218868437227405312) := by
  unfold rg at *
  unfold Format.read
  simp only [signWeight_d, binade_d, infRung_d]
  rw [if_neg (by omega), if_neg (by omega), if_neg (by omega)]
  rfl
theorem read_inf {n : Nat} (h : rg n = 9218868437227405312) : double.read n = .infinity (sg n) := by
  unfold rg at *
  unfold Format.read
  simp only [signWeight_d, binade_d, infRung_d]
  rw [if_neg (by omega), if_neg (by omega), if_pos (by omega)]
  rfl
theorem read_num {n : Nat} (h : rg n < 9218868437227405312) : ∃ (m k : Nat), double.read n = .number (sg n) m (-1074 + (k : Int)) ∧ m * 2 ^ k = mg (rg n) ∧ (m < 9007199254740992) ∧ (m = 0 ↔ rg n = 0) ∧ k < 2046 := by
  unfold rg at *
  unfold Format.read
  simp only [signWeight_d, binade_d, infRung_d, least_d]
  by_cases h1 : n % 9223372036854775808 < 4503599627370496
  · rw [if_pos h1]
    refine ⟨n % 9223372036854775808, 0, rfl, ?_, by omega, Iff.rfl, by omega⟩
    unfold mg; rw [if_pos h1]; simp
  · rw [if_neg h1, if_pos h]
    refine ⟨4503599627370496 + n % 9223372036854775808 % 4503599627370496, n % 9223372036854775808 / 4503599627370496 - 1, rfl, ?_, by omega, by omega, by omega⟩
    unfold mg; rw [if_neg h1]
def isN (n : Nat) : Bool := decide (9218868437227405312 < rg n)
/-- a word that is a number stands at this place in the order -/
def key (n : Nat) : Int := if sg n then -(rg n : Int) else rg n
theorem signed_eq (s : Bool) (m u : Nat) : signed s m u = if s then -((m * 2 ^ u : Nat) : Int) else ((m * 2 ^ u : Nat) : Int) := by
  unfold signed; rw [Nat.shiftLeft_eq]
theorem compare_int (a b : Int) : compare a b = if a < b then .lt else if a = b then .eq else .gt := rfl
theorem compare_scale (a b : Int) (c : Nat) (hc : 0 < c) : compare (a * c) (b * c) = compare a b := by
  have hc' : (0 : Int) < c := by omega
  have h1 : a * c < b * c ↔ a < b := Int.mul_lt_mul_right hc'
  have h2 : a * c = b * c ↔ a = b := Int.mul_eq_mul_right_iff (by omega)
  rw [compare_int, compare_int]; simp only [h1, h2]
/-- the signed magnitude -/
def vl (n : Nat) : Int := if sg n then -(mg (rg n) : Int) else mg (rg n)
theorem cmp_vl (x y : Nat) : compare (vl x) (vl y) = compare (key x) (key y) := by
  have h1 := @mg_lt_iff (rg x) (rg y)
  have h2 := @mg_lt_iff (rg y) (rg x)
  have h3 := @mg_inj (rg x) (rg y)
  have h4 := @mg_lt_iff 0 (rg x)
  have h5 := @mg_lt_iff 0 (rg y)
  rw [mg_zero] at h4 h5
  rw [compare_int, compare_int]
  unfold vl key
  cases sg x <;> cases sg y <;> simp only [Bool.false_eq_true, if_false, if_true] <;> (split <;> split <;> first | rfl | omega | skip) <;> (split <;> first | rfl | omega | skip) <;> (split <;> first | rfl | omega | skip)
theorem order_num {x y : Nat} (hx : rg x < 9218868437227405312) (hy : rg y < 9218868437227405312) : double.order x y = some (compare (key x) (key y)) := by
  obtain ⟨m, k, e1, e2, _, _, _⟩ := read_num hx
  obtain ⟨n, l, f1, f2, _, _, _⟩ := read_num hy
  unfold Format.order
  rw [e1, f1]
  simp only [Datum.order, signed_eq]
  rw [← cmp_vl]
  congr 1
  -- both sides scaled by what the lesser place has
  have hb : ∃ b : Nat, min (-1074 + (k : Int)) (-1074 + (l : Int)) = -1074 + (b : Int) ∧ b ≤ k ∧ b ≤ l := by
    rcases Nat.le_total k l with h | h
    · exact ⟨k, by omega, by omega, h⟩
    · exact ⟨l, by omega, h, by omega⟩
  obtain ⟨b, hb, hk, hl⟩ := hb
  rw [hb]
  have ek : (-1074 + (k : Int) - (-1074 + (b : Int))).toNat = k - b := by omega
  have el : (-1074 + (l : Int) - (-1074 + (b : Int))).toNat = l - b := by omega
  rw [ek, el]
  rw [← compare_scale _ _ (2 ^ b) (Nat.two_pow_pos _)]
  have g1 : m * 2 ^ (k - b) * 2 ^ b = mg (rg x) := by rw [Nat.mul_assoc, ← Nat.pow_add, Nat.sub_add_cancel hk, e2]
  have g2 : n * 2 ^ (l - b) * 2 ^ b = mg (rg y) := by rw [Nat.mul_assoc, ← Nat.pow_add, Nat.sub_add_cancel hl, f2]
  unfold vl
  rw [← g1, ← g2]
  congr 1
  · cases sg x <;> simp [Int.neg_mul]
  · cases sg y <;> simp [Int.neg_mul]
theorem rg_lt (n : Nat) : rg n < 9223372036854775808 := Nat.mod_lt _ (by decide)
theorem order_ok {x y : Nat} (hx : isN x = false) (hy : isN y = false) : double.order x y = some (compare (key x) (key y)) := by
  unfold isN at hx hy
  have hx' : ¬ 9218868437227405312 < rg x := by simpa using hx
  have hy' : ¬ 9218868437227405312 < rg y := by simpa using hy
  by_cases h1 : rg x = 9218868437227405312
  · by_cases h2 : rg y = 9218868437227405312
    · unfold Format.order; rw [read_inf h1, read_inf h2]
      unfold key; rw [h1, h2]
      cases sg x <;> cases sg y <;> rfl
    · obtain ⟨n, l, f1, f2, _, _, _⟩ := read_num (n := y) (by omega)
      unfold Format.order; rw [read_inf h1, f1]
      unfold key; rw [h1, compare_int]
      cases sg x <;> cases sg y <;> simp only [Datum.order, Bool.false_eq_true, if_false, if_true, Option.some.injEq] <;> (split <;> first | rfl | omega | skip) <;> (split <;> first | rfl | omega | skip)
  · by_cases h2 : rg y = 9218868437227405312
    · obtain ⟨n, l, f1, f2, _, _, _⟩ := read_num (n := x) (by omega)
      unfold Format.order; rw [read_inf h2, f1]
      unfold key; rw [h2, compare_int]
      cases sg x <;> cases sg y <;> simp only [Datum.order, Bool.false_eq_true, if_false, if_true, Option.some.injEq] <;> (split <;> first | rfl | omega | skip) <;> (split <;> first | rfl | omega | skip)
    · exact order_num (by omega) (by omega)
theorem order_nan_l {x : Nat} (y : Nat) (hx : isN x = true) : double.order x y = none := by
  unfold isN at hx
  unfold Format.order; rw [read_nan (by simpa using hx)]
  cases double.read y <;> rfl
/-- halves upward to the even: 'n / 2 ^ d' -/
def rnd (n d : Nat) : Nat :=
  n / 2 ^ d + (if 2 ^ d < 2 * (n % 2 ^ d) || (2 ^ d == 2 * (n % 2 ^ d) && n / 2 ^ d % 2 == 1) then 1 else 0)
theorem cut_even (s : Bool) (n d : Nat) : Toward.even.cut s n d = rnd n d := by
  unfold Toward.cut rnd
  rw [Nat.shiftLeft_eq, Nat.one_mul]
  by_cases h : d ≤ n.log2 + 2
  · rw [Nat.min_eq_left h]
    simp only [Bool.toNat]
    cases (decide (2 ^ d < 2 * (n % 2 ^ d)) || 2 ^ d == 2 * (n % 2 ^ d) && n / 2 ^ d % 2 == 1) <;> rfl
  · have h' : n.log2 + 2 ≤ d := by omega
    rw [Nat.min_eq_right h']
    have hn : n < 2 ^ (n.log2 + 1) := Nat.lt_log2_self
    have h2 : 2 ^ (n.log2 + 1) * 2 = 2 ^ (n.log2 + 2) := rfl
    have h3 : 2 ^ (n.log2 + 2) ≤ 2 ^ d := Nat.pow_le_pow_right (by omega) h'
    generalize 2 ^ (n.log2 + 1) = x at *
    generalize 2 ^ (n.log2 + 2) = y at *
    generalize 2 ^ d = z at *
    dsimp only
    rw [Nat.div_eq_of_lt (show n < y by omega), Nat.div_eq_of_lt (show n < z by omega), Nat.mod_eq_of_lt (show n < y by omega), Nat.mod_eq_of_lt (show n < z by omega)]
    have e1 : decide (y < 2 * n) = false := by simp; omega
    have e2 : decide (z < 2 * n) = false := by simp; omega
    simp [e1, e2]
theorem order_self (n : Nat) : (double.order n n != some .eq) = isN n := by
  cases h : isN n
  · rw [order_ok h h, compare_int]; simp
  · rw [order_nan_l n h]; rfl
/-- 'n / 2 ^ d', cut off -/
theorem cut_off (s : Bool) (n d : Nat) : Toward.zero.cut s n d = n / 2 ^ d := by
  unfold Toward.cut
  rw [Nat.shiftLeft_eq, Nat.one_mul]
  simp only [Bool.toNat_false, Nat.add_zero]
  by_cases h : d ≤ n.log2 + 2
  · rw [Nat.min_eq_left h]
  · have h' : n.log2 + 2 ≤ d := by omega
    rw [Nat.min_eq_right h']
    have hn : n < 2 ^ (n.log2 + 1) := Nat.lt_log2_self
    have h2 : 2 ^ (n.log2 + 1) ≤ 2 ^ (n.log2 + 2) := Nat.pow_le_pow_right (by omega) (by omega)
    have h3 : 2 ^ (n.log2 + 2) ≤ 2 ^ d := Nat.pow_le_pow_right (by omega) h'
    rw [Nat.div_eq_of_lt (by omega), Nat.div_eq_of_lt (by omega)]
/-- the whole part of a magnitude -/
def eU : Nat := 1074
def unit : Nat := 2 ^ eU
theorem unit_pos : 0 < unit := Nat.two_pow_pos eU
def wh (r : Nat) : Nat := mg r / unit
/-- the whole number of a float, cut off -/
def tr (n : Nat) : Int := if sg n then -(wh (rg n) : Int) else wh (rg n)
theorem div_pow_any (m k E : Nat) : m * 2 ^ k / 2 ^ E = (m * 2 ^ (k - E)) / 2 ^ (E - k) := by
  rcases Nat.le_total k E with h | h
  · have e1 : k - E = 0 := by omega
    have e2 : E = (E - k) + k := by omega
    rw [e1, Nat.pow_zero, Nat.mul_one]
    conv => lhs; rw [e2]
    rw [Nat.pow_add, Nat.mul_div_mul_right _ _ (Nat.two_pow_pos k)]
  · have e1 : E - k = 0 := by omega
    have e2 : k = (k - E) + E := by omega
    rw [e1, Nat.pow_zero, Nat.div_one]
    conv => lhs; rw [e2]
    rw [Nat.pow_add, ← Nat.mul_assoc, Nat.mul_div_cancel _ (Nat.two_pow_pos E)]
theorem div_pow {m k : Nat} : m * 2 ^ k / unit = (m * 2 ^ (k - 1074)) / 2 ^ (1074 - k) := div_pow_any m k eU
theorem toInt_num {n : Nat} (h : rg n < 9218868437227405312) : (double.read n).toInt .zero = some (tr n) := by
  obtain ⟨m, k, e1, e2, _, _, _⟩ := read_num h
  rw [e1]
  unfold Datum.toInt Datum.integral
  simp only [cut_off, signed_eq, Nat.shiftLeft_eq]
  have ea : ((-1074 : Int) + (k : Int)).toNat = k - 1074 := by omega
  have eb : (-((-1074 : Int) + (k : Int))).toNat = 1074 - k := by omega
  rw [ea, eb]
  unfold tr wh
  rw [← e2, div_pow]
  simp
theorem mg_norm {r a x E y : Nat} (h1 : ¬ r < 4503599627370496) (h2 : 4503599627370496 + r % 4503599627370496 = a) (h3 : r / 4503599627370496 - 1 = x + E) (h4 : a * 2 ^ x = y) : mg r = y * 2 ^ E := by
  unfold mg; rw [if_neg h1, h2, h3, Nat.pow_add, ← Nat.mul_assoc, h4]
theorem unit_eq : unit = 2 ^ eU := by unfold unit; rfl
theorem mg_hi : mg 4890909195324358656 = 9223372036854775808 * unit := by
  rw [unit_eq]
  refine mg_norm (E := eU) (x := 11) (a := 4503599627370496) (by decide) (by decide) ?_ (by decide)
  decide
theorem wh_le {r : Nat} (h : r ≤ 4890909195324358656) : wh r ≤ 9223372036854775808 := by
  unfold wh
  have := mg_le h
  rw [mg_hi, Nat.mul_comm] at this
  exact Nat.div_le_of_le_mul this
theorem wh_lt {r : Nat} (h : r < 4890909195324358656) : wh r < 9223372036854775808 := by
  unfold wh
  have := mg_lt h
  rw [mg_hi] at this
  exact (Nat.div_lt_iff_lt_mul unit_pos).2 this
end Go.Proofs.Ytiakonmamkfopaa.Fm
