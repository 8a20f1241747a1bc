/- The plain arithmetic of 64-bit floats: what the model's operations come to, in terms of rungs and magnitudes. -/
import Ieee.Arith
namespace Go.Proofs.Ytiakonmamkfopaa.Fm
open Ieee

/-- the magnitude of a rung, in units of the least float -/
def mg (r : Nat) : Nat := if r < 4503599627370496 then r else (4503599627370496 + r % 4503599627370496) * 2 ^ (r / 4503599627370496 - 1)

theorem mg_lt {r s : Nat} (h : r < s) : mg r < mg s := by
  unfold mg
  by_cases hs : s < 4503599627370496
  · rw [if_pos hs, if_pos (by omega)]; exact h
  · rw [if_neg hs]
    by_cases hr : r < 4503599627370496
    · rw [if_pos hr]
      have : 0 < 2 ^ (s / 4503599627370496 - 1) := Nat.two_pow_pos _
      calc r < 4503599627370496 := hr
        _ ≤ (4503599627370496 + s % 4503599627370496) * 1 := by omega
        _ ≤ _ := Nat.mul_le_mul_left _ this
    · rw [if_neg hr]
      by_cases e : r / 4503599627370496 = s / 4503599627370496
      · rw [e]
        exact Nat.mul_lt_mul_of_pos_right (by omega) (Nat.two_pow_pos _)
      · have e2 : s / 4503599627370496 - 1 = (r / 4503599627370496 - 1) + 1 + (s / 4503599627370496 - r / 4503599627370496 - 1) := by omega
        rw [e2, Nat.pow_add, Nat.pow_succ]
        have p1 : 0 < 2 ^ (r / 4503599627370496 - 1) := Nat.two_pow_pos _
        have p2 : 0 < 2 ^ (s / 4503599627370496 - r / 4503599627370496 - 1) := Nat.two_pow_pos _
        generalize 2 ^ (r / 4503599627370496 - 1) = x at *
        generalize 2 ^ (s / 4503599627370496 - r / 4503599627370496 - 1) = y at *
        have hr2 : r % 4503599627370496 < 4503599627370496 := Nat.mod_lt _ (by omega)
        calc (4503599627370496 + r % 4503599627370496) * x < (2 * 4503599627370496) * x := Nat.mul_lt_mul_of_pos_right (by omega) p1
          _ = 4503599627370496 * (x * 2 * 1) := by rw [Nat.mul_one, Nat.mul_comm x 2, ← Nat.mul_assoc, Nat.mul_comm 4503599627370496 2]
          _ ≤ 4503599627370496 * (x * 2 * y) := Nat.mul_le_mul_left _ (Nat.mul_le_mul_left _ p2)
          _ ≤ (4503599627370496 + s % 4503599627370496) * (x * 2 * y) := Nat.mul_le_mul_right _ (by omega)

theorem mg_le {r s : Nat} (h : r ≤ s) : mg r ≤ mg s := by
  rcases Nat.lt_or_ge r s with h1 | h1
  · exact Nat.le_of_lt (mg_lt h1)
  · rw [Nat.le_antisymm h h1]; exact Nat.le_refl _
theorem mg_lt_iff {r s : Nat} : mg r < mg s ↔ r < s :=
  ⟨fun h => by rcases Nat.lt_or_ge r s with h1 | h1; exact h1; exact absurd (mg_le h1) (by omega), mg_lt⟩
theorem mg_inj {r s : Nat} : mg r = mg s ↔ r = s :=
  ⟨fun h => by
    rcases Nat.lt_trichotomy r s with h1 | h1 | h1
    · have := mg_lt h1; omega
    · exact h1
    · have := mg_lt h1; omega, fun h => by rw [h]⟩
theorem mg_zero : mg 0 = 0 := rfl

theorem signWeight_d : double.signWeight = 9223372036854775808 := by decide
theorem binade_d : double.binade = 4503599627370496 := by decide
theorem infRung_d : double.infRung = 9218868437227405312 := by decide
theorem least_d : double.leastPlace = -1074 := by decide
theorem frac_d : double.fractionBits = 52 := rfl

def sg (n : Nat) : Bool := n / 9223372036854775808 % 2 == 1
def rg (n : Nat) : Nat := n % 9223372036854775808

/-- reading a word: NaN, infinity, or a number whose magnitude is that of its rung -/
theorem read_nan {n : Nat} (h : 9218868437227405312 < rg n) : double.read n = .nan (sg n) (rg n - 9218868437227405312) := by
  unfold rg at *
  unfold Format.read
  simp only [signWeight_d, binade_d, infRung_d]
  rw [if_neg (by omega), if_neg (by omega), if_neg (by omega)]
  rfl
theorem read_inf {n : Nat} (h : rg n = 9218868437227405312) : double.read n = .infinity (sg n) := by
  unfold rg at *
  unfold Format.read
  simp only [signWeight_d, binade_d, infRung_d]
  rw [if_neg (by omega), if_neg (by omega), if_pos (by omega)]
  rfl
theorem read_num {n : Nat} (h : rg n < 9218868437227405312) : ∃ (m k : Nat), double.read n = .number (sg n) m (-1074 + (k : Int)) ∧ m * 2 ^ k = mg (rg n) ∧ (m < 9007199254740992) ∧ (m = 0 ↔ rg n = 0) ∧ k < 2046 := by
  unfold rg at *
  unfold Format.read
  simp only [signWeight_d, binade_d, infRung_d, least_d]
  by_cases h1 : n % 9223372036854775808 < 4503599627370496
  · rw [if_pos h1]
    refine ⟨n % 9223372036854775808, 0, rfl, ?_, by omega, Iff.rfl, by omega⟩
    unfold mg; rw [if_pos h1]; simp
  · rw [if_neg h1, if_pos h]
    refine ⟨4503599627370496 + n % 9223372036854775808 % 4503599627370496, n % 9223372036854775808 / 4503599627370496 - 1, rfl, ?_, by omega, by omega, by omega⟩
    unfold mg; rw [if_neg h1]

def isN (n : Nat) : Bool := decide (9218868437227405312 < rg n)
/-- a word that is a number stands at this place in the order -/
def key (n : Nat) : Int := if sg n then -(rg n : Int) else rg n

theorem signed_eq (s : Bool) (m u : Nat) : signed s m u = if s then -((m * 2 ^ u : Nat) : Int) else ((m * 2 ^ u : Nat) : Int) := by
  unfold signed; rw [Nat.shiftLeft_eq]

theorem compare_int (a b : Int) : compare a b = if a < b then .lt else if a = b then .eq else .gt := rfl

theorem compare_scale (a b : Int) (c : Nat) (hc : 0 < c) : compare (a * c) (b * c) = compare a b := by
  have hc' : (0 : Int) < c := by omega
  have h1 : a * c < b * c ↔ a < b := Int.mul_lt_mul_right hc'
  have h2 : a * c = b * c ↔ a = b := Int.mul_eq_mul_right_iff (by omega)
  rw [compare_int, compare_int]; simp only [h1, h2]

/-- the signed magnitude -/
def vl (n : Nat) : Int := if sg n then -(mg (rg n) : Int) else mg (rg n)

theorem cmp_vl (x y : Nat) : compare (vl x) (vl y) = compare (key x) (key y) := by
  have h1 := @mg_lt_iff (rg x) (rg y)
  have h2 := @mg_lt_iff (rg y) (rg x)
  have h3 := @mg_inj (rg x) (rg y)
  have h4 := @mg_lt_iff 0 (rg x)
  have h5 := @mg_lt_iff 0 (rg y)
  rw [mg_zero] at h4 h5
  rw [compare_int, compare_int]
  unfold vl key
  cases sg x <;> cases sg y <;> simp only [Bool.false_eq_true, if_false, if_true] <;> (split <;> split <;> first | rfl | omega | skip) <;> (split <;> first | rfl | omega | skip) <;> (split <;> first | rfl | omega | skip)

theorem order_num {x y : Nat} (hx : rg x < 9218868437227405312) (hy : rg y < 9218868437227405312) : double.order x y = some (compare (key x) (key y)) := by
  obtain ⟨m, k, e1, e2, _, _, _⟩ := read_num hx
  obtain ⟨n, l, f1, f2, _, _, _⟩ := read_num hy
  unfold Format.order
  rw [e1, f1]
  simp only [Datum.order, signed_eq]
  rw [← cmp_vl]
  congr 1
  -- both sides scaled by what the lesser place has
  have hb : ∃ b : Nat, min (-1074 + (k : Int)) (-1074 + (l : Int)) = -1074 + (b : Int) ∧ b ≤ k ∧ b ≤ l := by
    rcases Nat.le_total k l with h | h
    · exact ⟨k, by omega, by omega, h⟩
    · exact ⟨l, by omega, h, by omega⟩
  obtain ⟨b, hb, hk, hl⟩ := hb
  rw [hb]
  have ek : (-1074 + (k : Int) - (-1074 + (b : Int))).toNat = k - b := by omega
  have el : (-1074 + (l : Int) - (-1074 + (b : Int))).toNat = l - b := by omega
  rw [ek, el]
  rw [← compare_scale _ _ (2 ^ b) (Nat.two_pow_pos _)]
  have g1 : m * 2 ^ (k - b) * 2 ^ b = mg (rg x) := by rw [Nat.mul_assoc, ← Nat.pow_add, Nat.sub_add_cancel hk, e2]
  have g2 : n * 2 ^ (l - b) * 2 ^ b = mg (rg y) := by rw [Nat.mul_assoc, ← Nat.pow_add, Nat.sub_add_cancel hl, f2]
  unfold vl
  rw [← g1, ← g2]
  congr 1
  · cases sg x <;> simp [Int.neg_mul]
  · cases sg y <;> simp [Int.neg_mul]

theorem rg_lt (n : Nat) : rg n < 9223372036854775808 := Nat.mod_lt _ (by decide)

theorem order_ok {x y : Nat} (hx : isN x = false) (hy : isN y = false) : double.order x y = some (compare (key x) (key y)) := by
  unfold isN at hx hy
  have hx' : ¬ 9218868437227405312 < rg x := by simpa using hx
  have hy' : ¬ 9218868437227405312 < rg y := by simpa using hy
  by_cases h1 : rg x = 9218868437227405312
  · by_cases h2 : rg y = 9218868437227405312
    · unfold Format.order; rw [read_inf h1, read_inf h2]
      unfold key; rw [h1, h2]
      cases sg x <;> cases sg y <;> rfl
    · obtain ⟨n, l, f1, f2, _, _, _⟩ := read_num (n := y) (by omega)
      unfold Format.order; rw [read_inf h1, f1]
      unfold key; rw [h1, compare_int]
      cases sg x <;> cases sg y <;> simp only [Datum.order, Bool.false_eq_true, if_false, if_true, Option.some.injEq] <;> (split <;> first | rfl | omega | skip) <;> (split <;> first | rfl | omega | skip)
  · by_cases h2 : rg y = 9218868437227405312
    · obtain ⟨n, l, f1, f2, _, _, _⟩ := read_num (n := x) (by omega)
      unfold Format.order; rw [read_inf h2, f1]
      unfold key; rw [h2, compare_int]
      cases sg x <;> cases sg y <;> simp only [Datum.order, Bool.false_eq_true, if_false, if_true, Option.some.injEq] <;> (split <;> first | rfl | omega | skip) <;> (split <;> first | rfl | omega | skip)
    · exact order_num (by omega) (by omega)

theorem order_nan_l {x : Nat} (y : Nat) (hx : isN x = true) : double.order x y = none := by
  unfold isN at hx
  unfold Format.order; rw [read_nan (by simpa using hx)]
  cases double.read y <;> rfl
theorem order_nan_r (x : Nat) {y : Nat} (hy : isN y = true) : double.order x y = none := by
  unfold isN at hy
  unfold Format.order; rw [read_nan (n := y) (by simpa using hy)]
  cases double.read x <;> rfl

/-! rounding -/

theorem cut_zero (w : Toward) (s : Bool) (n : Nat) : w.cut s n 0 = n := by
  unfold Toward.cut
  have e : 1 <<< min 0 (n.log2 + 2) = 1 := by simp
  simp only [e, Nat.mod_one, Nat.div_one]
  cases w <;> simp

theorem log2_bounds {n : Nat} (h : n ≠ 0) : 2 ^ n.log2 ≤ n ∧ n < 2 ^ (n.log2 + 1) := ⟨Nat.log2_self_le h, Nat.lt_log2_self⟩

/-- halves upward to the even: 'n / 2 ^ d' -/
def rnd (n d : Nat) : Nat :=
  n / 2 ^ d + (if 2 ^ d < 2 * (n % 2 ^ d) || (2 ^ d == 2 * (n % 2 ^ d) && n / 2 ^ d % 2 == 1) then 1 else 0)

theorem cut_even (s : Bool) (n d : Nat) : Toward.even.cut s n d = rnd n d := by
  unfold Toward.cut rnd
  rw [Nat.shiftLeft_eq, Nat.one_mul]
  by_cases h : d ≤ n.log2 + 2
  · rw [Nat.min_eq_left h]
    simp only [Bool.toNat]
    cases (decide (2 ^ d < 2 * (n % 2 ^ d)) || 2 ^ d == 2 * (n % 2 ^ d) && n / 2 ^ d % 2 == 1) <;> rfl
  · have h' : n.log2 + 2 ≤ d := by omega
    rw [Nat.min_eq_right h']
    have hn : n < 2 ^ (n.log2 + 1) := Nat.lt_log2_self
    have h2 : 2 ^ (n.log2 + 1) * 2 = 2 ^ (n.log2 + 2) := rfl
    have h3 : 2 ^ (n.log2 + 2) ≤ 2 ^ d := Nat.pow_le_pow_right (by omega) h'
    generalize 2 ^ (n.log2 + 1) = x at *
    generalize 2 ^ (n.log2 + 2) = y at *
    generalize 2 ^ d = z at *
    dsimp only
    rw [Nat.div_eq_of_lt (show n < y by omega), Nat.div_eq_of_lt (show n < z by omega), Nat.mod_eq_of_lt (show n < y by omega), Nat.mod_eq_of_lt (show n < z by omega)]
    have e1 : decide (y < 2 * n) = false := by simp; omega
    have e2 : decide (z < 2 * n) = false := by simp; omega
    simp [e1, e2]

theorem rnd_zero (n : Nat) : rnd n 0 = n := by unfold rnd; simp [Nat.mod_one]

theorem rnd_exact (k d : Nat) : rnd (k * 2 ^ d) d = k := by
  unfold rnd
  have hp : 0 < 2 ^ d := Nat.two_pow_pos _
  rw [Nat.mul_mod_left, Nat.mul_div_cancel _ hp]
  simp

theorem rnd_le {n d k : Nat} (h : n ≤ k * 2 ^ d) : rnd n d ≤ k := by
  unfold rnd
  have hp : 0 < 2 ^ d := Nat.two_pow_pos _
  generalize 2 ^ d = z at *
  have e := Nat.div_add_mod n z
  have hm := Nat.mod_lt n hp
  have hq : n / z ≤ k := Nat.div_le_of_le_mul (by rw [Nat.mul_comm]; exact h)
  by_cases hk : n / z = k
  · have : n % z = 0 := by rw [hk, Nat.mul_comm] at e; omega
    rw [this, hk]
    have e2 : (z == 2 * 0) = false := by simp; omega
    simp [e2]
  · split <;> omega

theorem rnd_ge {n d k : Nat} (h : k * 2 ^ d ≤ n) : k ≤ rnd n d := by
  unfold rnd
  have hp : 0 < 2 ^ d := Nat.two_pow_pos _
  have : k ≤ n / 2 ^ d := (Nat.le_div_iff_mul_le hp).2 h
  omega


/-- the rung nearest to 'm * 2 ^ p' (in units of the least float), no bound above -/
def nr (m : Nat) (p : Int) : Nat :=
  if m = 0 then 0 else
  let l := (p + m.log2 - 52).toNat
  l * 4503599627370496 + rnd (m * 2 ^ (p - l).toNat) (l - p).toNat

theorem nearest_eq (s : Bool) (m : Nat) (p : Int) : double.nearest s m (-1074 + p) = double.word s (min (nr m p) 9218868437227405312) := by
  unfold Format.nearest nr
  by_cases hm : m = 0
  · rw [if_pos hm, if_pos hm]; rfl
  · rw [if_neg hm, if_neg hm]
    simp only [frac_d, least_d, binade_d, infRung_d, cut_even, Nat.shiftLeft_eq]
    have e : max (-1074 + p + (m.log2 : Int) - ((52 : Nat) : Int)) (-1074) = -1074 + (((p + m.log2 - 52).toNat : Nat) : Int) := by omega
    rw [e]
    have e1 : (-1074 + (((p + m.log2 - 52).toNat : Nat) : Int) - -1074).toNat = (p + m.log2 - 52).toNat := by omega
    have e2 : (-1074 + p - (-1074 + (((p + m.log2 - 52).toNat : Nat) : Int))).toNat = (p - ((p + m.log2 - 52).toNat : Nat)).toNat := by omega
    have e3 : (-1074 + (((p + m.log2 - 52).toNat : Nat) : Int) - (-1074 + p)).toNat = (((p + m.log2 - 52).toNat : Nat) - p).toNat := by omega
    rw [e1, e2, e3]

/-- the value 'm * 2 ^ p' against whole units -/
def atMost (m : Nat) (p : Int) (u : Nat) : Prop := m * 2 ^ p.toNat ≤ u * 2 ^ (-p).toNat
def atLeast (m : Nat) (p : Int) (u : Nat) : Prop := u * 2 ^ (-p).toNat ≤ m * 2 ^ p.toNat

theorem pow_split {a b c : Nat} (h : c = a + b) : 2 ^ c = 2 ^ a * 2 ^ b := by rw [h, Nat.pow_add]

theorem log2_le_of_lt {n k : Nat} (hn : n ≠ 0) (h : n < 2 ^ (k + 1)) : n.log2 ≤ k := by
  have := Nat.log2_self_le hn
  have h2 := Nat.lt_of_le_of_lt this h
  have := (Nat.pow_lt_pow_iff_right (by omega : 1 < 2)).1 h2
  omega

/-- what is at most a rung's magnitude rounds to at most that rung -/
theorem nr_le {m : Nat} {p : Int} {r : Nat} (h : atMost m p (mg r)) : nr m p ≤ r := by
  unfold nr
  by_cases hm : m = 0
  · rw [if_pos hm]; omega
  · rw [if_neg hm]
    dsimp only
    unfold atMost at h
    have hl := log2_bounds hm
    by_cases hr : r < 4503599627370496
    · -- subnormal: the last place is the least one
      unfold mg at h; rw [if_pos hr] at h
      have hL : (p + m.log2 - 52).toNat = 0 := by
        -- m * 2^p < 2^52
        have : p + m.log2 < 52 := by
          rcases Int.le_total 0 p with hp | hp
          · have e0 : (-p).toNat = 0 := by omega
            rw [e0, Nat.pow_zero, Nat.mul_one] at h
            have h1 : 2 ^ (m.log2 + p.toNat) ≤ r := by
              rw [Nat.pow_add]; exact Nat.le_trans (Nat.mul_le_mul_right _ hl.1) h
            have h2 : 2 ^ (m.log2 + p.toNat) < 2 ^ 52 := Nat.lt_of_le_of_lt h1 hr
            have := (Nat.pow_lt_pow_iff_right (by omega : 1 < 2)).1 h2
            omega
          · have e0 : p.toNat = 0 := by omega
            rw [e0, Nat.pow_zero, Nat.mul_one] at h
            have h1 : 2 ^ m.log2 < 2 ^ (52 + (-p).toNat) := by
              rw [Nat.pow_add]
              exact Nat.lt_of_le_of_lt (Nat.le_trans hl.1 h) (Nat.mul_lt_mul_of_pos_right hr (Nat.two_pow_pos _))
            have := (Nat.pow_lt_pow_iff_right (by omega : 1 < 2)).1 h1
            omega
        omega
      rw [hL]
      simp only [Int.natCast_zero, Int.sub_zero, Int.zero_sub, Nat.zero_mul, Nat.zero_add]
      exact rnd_le h
    · unfold mg at h; rw [if_neg hr] at h
      -- r = (k + 1) * 2^52 + f
      obtain ⟨k, f, hk, hf, rfl⟩ : ∃ k f : Nat, r / 4503599627370496 - 1 = k ∧ f < 4503599627370496 ∧ r = (k + 1) * 4503599627370496 + f :=
        ⟨r / 4503599627370496 - 1, r % 4503599627370496, rfl, by omega, by omega⟩
      have ef : ((k + 1) * 4503599627370496 + f) % 4503599627370496 = f := by omega
      rw [hk, ef] at h
      generalize hL : (p + m.log2 - 52).toNat = L
      have hLk : L ≤ k := by
        have : p + m.log2 < 53 + k := by
          rcases Int.le_total 0 p with hp | hp
          · have e0 : (-p).toNat = 0 := by omega
            rw [e0, Nat.pow_zero, Nat.mul_one] at h
            have h1 : 2 ^ (m.log2 + p.toNat) < 2 ^ (53 + k) := by
              rw [Nat.pow_add, Nat.pow_add]
              exact Nat.lt_of_le_of_lt (Nat.le_trans (Nat.mul_le_mul_right _ hl.1) h) (Nat.mul_lt_mul_of_pos_right (by omega) (Nat.two_pow_pos _))
            have := (Nat.pow_lt_pow_iff_right (by omega : 1 < 2)).1 h1
            omega
          · have e0 : p.toNat = 0 := by omega
            rw [e0, Nat.pow_zero, Nat.mul_one] at h
            have h1 : 2 ^ m.log2 < 2 ^ (53 + k + (-p).toNat) := by
              rw [Nat.pow_add, Nat.pow_add]
              exact Nat.lt_of_le_of_lt (Nat.le_trans hl.1 h) (Nat.mul_lt_mul_of_pos_right (Nat.mul_lt_mul_of_pos_right (by omega) (Nat.two_pow_pos _)) (Nat.two_pow_pos _))
            have := (Nat.pow_lt_pow_iff_right (by omega : 1 < 2)).1 h1
            omega
        omega
      have cross : ∀ u : Nat, m * 2 ^ p.toNat ≤ u * 2 ^ L * 2 ^ (-p).toNat → m * 2 ^ (p - L).toNat ≤ u * 2 ^ ((L : Int) - p).toNat := by
        intro u hu
        rcases Int.le_total (L : Int) p with hp | hp
        · have e0 : (-p).toNat = 0 := by omega
          have e1 : p.toNat = (p - L).toNat + L := by omega
          have e2 : ((L : Int) - p).toNat = 0 := by omega
          rw [e0, Nat.pow_zero, Nat.mul_one, e1, Nat.pow_add, ← Nat.mul_assoc] at hu
          rw [e2, Nat.pow_zero, Nat.mul_one]
          exact Nat.le_of_mul_le_mul_right hu (Nat.two_pow_pos _)
        · have e1 : (p - L).toNat = 0 := by omega
          rw [e1, Nat.pow_zero, Nat.mul_one]
          have e2 : L + (-p).toNat = ((L : Int) - p).toNat + p.toNat := by omega
          rw [Nat.mul_assoc, ← Nat.pow_add, e2, Nat.pow_add, ← Nat.mul_assoc] at hu
          exact Nat.le_of_mul_le_mul_right hu (Nat.two_pow_pos _)
      by_cases hlt : L = k
      · subst hlt
        have := rnd_le (cross _ h)
        omega
      · -- a lesser binade: at most its end
        have h2 : m * 2 ^ (p - L).toNat ≤ 9007199254740992 * 2 ^ ((L : Int) - p).toNat := by
          by_cases hL0 : L = 0
          · subst hL0
            have : p + m.log2 ≤ 52 := by omega
            rcases Int.le_total 0 p with hp | hp
            · have e2 : (((0 : Nat) : Int) - p).toNat = 0 := by omega
              have e1 : (p - ((0 : Nat) : Int)).toNat = p.toNat := by omega
              rw [e2, e1, Nat.pow_zero, Nat.mul_one]
              have h1 : m * 2 ^ p.toNat ≤ 2 ^ (m.log2 + 1 + p.toNat) := by
                rw [Nat.pow_add]; exact Nat.mul_le_mul_right _ (Nat.le_of_lt hl.2)
              exact Nat.le_trans h1 (Nat.pow_le_pow_right (by omega) (by omega : m.log2 + 1 + p.toNat ≤ 53))
            · have e1 : (p - ((0 : Nat) : Int)).toNat = 0 := by omega
              rw [e1, Nat.pow_zero, Nat.mul_one]
              have h1 : 2 ^ (m.log2 + 1) ≤ 2 ^ (53 + (((0 : Nat) : Int) - p).toNat) := Nat.pow_le_pow_right (by omega) (by omega)
              rw [Nat.pow_add 2 53] at h1
              exact Nat.le_trans (Nat.le_of_lt hl.2) h1
          · have : p + m.log2 - 52 = L := by omega
            rcases Int.le_total (L : Int) p with hp | hp
            · have e2 : ((L : Int) - p).toNat = 0 := by omega
              rw [e2, Nat.pow_zero, Nat.mul_one]
              have h1 : m * 2 ^ (p - L).toNat ≤ 2 ^ (m.log2 + 1 + (p - L).toNat) := by
                rw [Nat.pow_add]; exact Nat.mul_le_mul_right _ (Nat.le_of_lt hl.2)
              exact Nat.le_trans h1 (Nat.pow_le_pow_right (by omega) (by omega : m.log2 + 1 + (p - L).toNat ≤ 53))
            · have e1 : (p - L).toNat = 0 := by omega
              rw [e1, Nat.pow_zero, Nat.mul_one]
              have h1 : 2 ^ (m.log2 + 1) ≤ 2 ^ (53 + ((L : Int) - p).toNat) := Nat.pow_le_pow_right (by omega) (by omega)
              rw [Nat.pow_add 2 53] at h1
              exact Nat.le_trans (Nat.le_of_lt hl.2) h1
        have := rnd_le h2
        omega


theorem nr_ge {m : Nat} {p : Int} {r : Nat} (h : atLeast m p (mg r)) : r ≤ nr m p := by
  unfold nr
  unfold atLeast at h
  by_cases hm : m = 0
  · rw [if_pos hm]
    subst hm
    rw [Nat.zero_mul] at h
    rcases Nat.eq_zero_or_pos r with h0 | h0
    · omega
    · have h1 := mg_lt h0
      rw [mg_zero] at h1
      have := Nat.mul_pos h1 (Nat.two_pow_pos (-p).toNat)
      omega
  · rw [if_neg hm]
    dsimp only
    have hl := log2_bounds hm
    generalize hL : (p + m.log2 - 52).toNat = L
    have cross : ∀ u : Nat, u * 2 ^ L * 2 ^ (-p).toNat ≤ m * 2 ^ p.toNat → u * 2 ^ ((L : Int) - p).toNat ≤ m * 2 ^ (p - L).toNat := by
      intro u hu
      rcases Int.le_total (L : Int) p with hp | hp
      · have e0 : (-p).toNat = 0 := by omega
        have e1 : p.toNat = (p - L).toNat + L := by omega
        have e2 : ((L : Int) - p).toNat = 0 := by omega
        rw [e0, Nat.pow_zero, Nat.mul_one, e1, Nat.pow_add, ← Nat.mul_assoc] at hu
        rw [e2, Nat.pow_zero, Nat.mul_one]
        exact Nat.le_of_mul_le_mul_right hu (Nat.two_pow_pos _)
      · have e1 : (p - L).toNat = 0 := by omega
        rw [e1, Nat.pow_zero, Nat.mul_one]
        have e2 : L + (-p).toNat = ((L : Int) - p).toNat + p.toNat := by omega
        rw [Nat.mul_assoc, ← Nat.pow_add, e2, Nat.pow_add, ← Nat.mul_assoc] at hu
        exact Nat.le_of_mul_le_mul_right hu (Nat.two_pow_pos _)
    by_cases hr : r < 4503599627370496
    · unfold mg at h; rw [if_pos hr] at h
      by_cases hL0 : L = 0
      · subst hL0
        have := rnd_ge (cross r (by simpa using h))
        omega
      · have : 1 * 4503599627370496 ≤ L * 4503599627370496 := Nat.mul_le_mul_right _ (by omega)
        omega
    · unfold mg at h; rw [if_neg hr] at h
      obtain ⟨k, f, hk, hf, rfl⟩ : ∃ k f : Nat, r / 4503599627370496 - 1 = k ∧ f < 4503599627370496 ∧ r = (k + 1) * 4503599627370496 + f :=
        ⟨r / 4503599627370496 - 1, r % 4503599627370496, rfl, by omega, by omega⟩
      have ef : ((k + 1) * 4503599627370496 + f) % 4503599627370496 = f := by omega
      rw [hk, ef] at h
      have hkL : (52 : Int) + k ≤ p + m.log2 := by
        have h0 : 2 ^ (52 + k) * 2 ^ (-p).toNat ≤ (4503599627370496 + f) * 2 ^ k * 2 ^ (-p).toNat := by
          rw [Nat.pow_add 2 52]
          exact Nat.mul_le_mul_right _ (Nat.mul_le_mul_right _ (by omega))
        rcases Int.le_total 0 p with hp | hp
        · have e0 : (-p).toNat = 0 := by omega
          have h1 : 2 ^ (52 + k) < 2 ^ (m.log2 + 1 + p.toNat) := by
            rw [e0, Nat.pow_zero, Nat.mul_one, Nat.mul_one] at h0
            rw [e0, Nat.pow_zero, Nat.mul_one] at h
            rw [Nat.pow_add 2 (m.log2 + 1)]
            exact Nat.lt_of_le_of_lt (Nat.le_trans h0 h) (Nat.mul_lt_mul_of_pos_right hl.2 (Nat.two_pow_pos _))
          have := (Nat.pow_lt_pow_iff_right (by omega : 1 < 2)).1 h1
          omega
        · have e0 : p.toNat = 0 := by omega
          have h1 : 2 ^ (52 + k + (-p).toNat) < 2 ^ (m.log2 + 1) := by
            rw [e0, Nat.pow_zero, Nat.mul_one] at h
            rw [Nat.pow_add 2 (52 + k)]
            exact Nat.lt_of_le_of_lt (Nat.le_trans h0 h) hl.2
          have := (Nat.pow_lt_pow_iff_right (by omega : 1 < 2)).1 h1
          omega
      by_cases hlt : L = k
      · subst hlt
        have := rnd_ge (cross _ h)
        omega
      · have h2 : 4503599627370496 * 2 ^ ((L : Int) - p).toNat ≤ m * 2 ^ (p - L).toNat := by
          have : p + m.log2 - 52 = L := by omega
          rcases Int.le_total (L : Int) p with hp | hp
          · have e2 : ((L : Int) - p).toNat = 0 := by omega
            rw [e2, Nat.pow_zero, Nat.mul_one]
            have h1 : 2 ^ (m.log2 + (p - L).toNat) ≤ m * 2 ^ (p - L).toNat := by
              rw [Nat.pow_add]; exact Nat.mul_le_mul_right _ hl.1
            have e3 : m.log2 + (p - L).toNat = 52 := by omega
            rw [e3] at h1
            exact h1
          · have e1 : (p - L).toNat = 0 := by omega
            rw [e1, Nat.pow_zero, Nat.mul_one]
            have e3 : m.log2 = 52 + ((L : Int) - p).toNat := by omega
            have h1 := hl.1
            rw [e3, Nat.pow_add 2 52] at h1
            exact h1
        have h3 := rnd_ge h2
        have h4 : k + 1 ≤ L := by omega
        generalize rnd (m * 2 ^ (p - L).toNat) ((L : Int) - p).toNat = x at *
        clear h2 h cross hkL hL hk ef hr hl
        omega

/-- what is a rung's magnitude rounds to that rung -/
theorem nr_exact {m : Nat} {p : Int} {r : Nat} (h : m * 2 ^ p.toNat = mg r * 2 ^ (-p).toNat) : nr m p = r :=
  Nat.le_antisymm (nr_le (Nat.le_of_eq h)) (nr_ge (Nat.le_of_eq h.symm))

theorem nr_zero (p : Int) : nr 0 p = 0 := rfl

theorem word_d (s : Bool) (r : Nat) : double.word s r = if s then 9223372036854775808 + r else r := by unfold Format.word; rw [signWeight_d]
theorem rg_word {s : Bool} {r : Nat} (h : r < 9223372036854775808) : rg (double.word s r) = r := by
  rw [word_d]; unfold rg; cases s <;> simp <;> omega
theorem sg_word {s : Bool} {r : Nat} (h : r < 9223372036854775808) : sg (double.word s r) = s := by
  rw [word_d]; unfold sg
  cases s
  · rw [if_neg (by simp), Nat.div_eq_of_lt h]; rfl
  · rw [if_pos rfl, Nat.add_div_left _ (by decide), Nat.div_eq_of_lt h]; rfl
theorem word_sg_rg {n : Nat} (h : n < 18446744073709551616) : double.word (sg n) (rg n) = n := by
  rw [word_d]; unfold sg rg
  have h2 : n / 9223372036854775808 = 0 ∨ n / 9223372036854775808 = 1 := by omega
  rcases h2 with e | e <;> rw [e] <;> simp <;> omega

theorem order_self (n : Nat) : (double.order n n != some .eq) = isN n := by
  cases h : isN n
  · rw [order_ok h h, compare_int]; simp
  · rw [order_nan_l n h]; rfl

theorem write_num (s : Bool) (m : Nat) (p : Int) : double.write (.number s m (-1074 + p)) = double.word s (min (nr m p) 9218868437227405312) := nearest_eq s m p

theorem isN_word {s : Bool} {r : Nat} (h : r ≤ 9218868437227405312) : isN (double.word s r) = false := by
  unfold isN; rw [rg_word (by omega)]; simp; omega

theorem isN_write {d : Datum} (h : d.isNaN = false) : isN (double.write d) = false := by
  cases d with
  | number s m p =>
    have e : p = -1074 + (p + 1074) := by omega
    rw [e, write_num]
    exact isN_word (Nat.min_le_right _ _)
  | infinity s => exact isN_word (by decide)
  | nan s f => simp [Datum.isNaN] at h

theorem sum_num {x y d : Datum} (h : x.sum y = some d) : d.isNaN = false := by
  cases x <;> cases y <;> simp [Datum.sum] at h
  all_goals first
    | (subst h; rfl)
    | (obtain ⟨_, rfl⟩ := h; rfl)
theorem product_num {x y d : Datum} (h : x.product y = some d) : d.isNaN = false := by
  cases x <;> cases y <;> simp [Datum.product] at h
  all_goals first
    | (subst h; rfl)
    | (obtain ⟨_, rfl⟩ := h; rfl)
theorem quotient_num {k : Nat} {x y d : Datum} (h : x.quotient k y = some d) : d.isNaN = false := by
  cases x <;> cases y <;> simp [Datum.quotient] at h
  all_goals first
    | (subst h; rfl)
    | (obtain ⟨_, rfl⟩ := h; rfl)
    | skip
  split at h
  · split at h
    · cases h
    · injection h with h; rw [← h]; rfl
  · injection h with h; rw [← h]; rfl

theorem map_num {o : Option Datum} (ho : ∀ d, o = some d → d.isNaN = false) {r : Nat} (h : o.map double.write = some r) : isN r = false := by
  cases o with
  | none => cases h
  | some d => cases h; exact isN_write (ho d rfl)
theorem add_num {x y r : Nat} (h : double.add x y = some r) : isN r = false := map_num (fun _ hd => sum_num hd) h
theorem sub_num {x y r : Nat} (h : double.sub x y = some r) : isN r = false := map_num (fun _ hd => sum_num hd) h
theorem mul_num {x y r : Nat} (h : double.mul x y = some r) : isN r = false := map_num (fun _ hd => product_num hd) h
theorem div_num {x y r : Nat} (h : double.div x y = some r) : isN r = false := map_num (fun _ hd => quotient_num hd) h

/-! the whole part -/

/-- 'n / 2 ^ d', cut off -/
theorem cut_off (s : Bool) (n d : Nat) : Toward.zero.cut s n d = n / 2 ^ d := by
  unfold Toward.cut
  rw [Nat.shiftLeft_eq, Nat.one_mul]
  simp only [Bool.toNat_false, Nat.add_zero]
  by_cases h : d ≤ n.log2 + 2
  · rw [Nat.min_eq_left h]
  · have h' : n.log2 + 2 ≤ d := by omega
    rw [Nat.min_eq_right h']
    have hn : n < 2 ^ (n.log2 + 1) := Nat.lt_log2_self
    have h2 : 2 ^ (n.log2 + 1) ≤ 2 ^ (n.log2 + 2) := Nat.pow_le_pow_right (by omega) (by omega)
    have h3 : 2 ^ (n.log2 + 2) ≤ 2 ^ d := Nat.pow_le_pow_right (by omega) h'
    rw [Nat.div_eq_of_lt (by omega), Nat.div_eq_of_lt (by omega)]

/-- the whole part of a magnitude -/
def eU : Nat := 1074
def unit : Nat := 2 ^ eU
theorem unit_pos : 0 < unit := Nat.two_pow_pos eU
def wh (r : Nat) : Nat := mg r / unit

/-- the whole number of a float, cut off -/
def tr (n : Nat) : Int := if sg n then -(wh (rg n) : Int) else wh (rg n)

theorem div_pow_any (m k E : Nat) : m * 2 ^ k / 2 ^ E = (m * 2 ^ (k - E)) / 2 ^ (E - k) := by
  rcases Nat.le_total k E with h | h
  · have e1 : k - E = 0 := by omega
    have e2 : E = (E - k) + k := by omega
    rw [e1, Nat.pow_zero, Nat.mul_one]
    conv => lhs; rw [e2]
    rw [Nat.pow_add, Nat.mul_div_mul_right _ _ (Nat.two_pow_pos k)]
  · have e1 : E - k = 0 := by omega
    have e2 : k = (k - E) + E := by omega
    rw [e1, Nat.pow_zero, Nat.div_one]
    conv => lhs; rw [e2]
    rw [Nat.pow_add, ← Nat.mul_assoc, Nat.mul_div_cancel _ (Nat.two_pow_pos E)]
theorem div_pow {m k : Nat} : m * 2 ^ k / unit = (m * 2 ^ (k - 1074)) / 2 ^ (1074 - k) := div_pow_any m k eU

theorem toInt_num {n : Nat} (h : rg n < 9218868437227405312) : (double.read n).toInt .zero = some (tr n) := by
  obtain ⟨m, k, e1, e2, _, _, _⟩ := read_num h
  rw [e1]
  unfold Datum.toInt Datum.integral
  simp only [cut_off, signed_eq, Nat.shiftLeft_eq]
  have ea : ((-1074 : Int) + (k : Int)).toNat = k - 1074 := by omega
  have eb : (-((-1074 : Int) + (k : Int))).toNat = 1074 - k := by omega
  rw [ea, eb]
  unfold tr wh
  rw [← e2, div_pow]
  simp

theorem mg_norm {r a x E y : Nat} (h1 : ¬ r < 4503599627370496) (h2 : 4503599627370496 + r % 4503599627370496 = a) (h3 : r / 4503599627370496 - 1 = x + E) (h4 : a * 2 ^ x = y) : mg r = y * 2 ^ E := by
  unfold mg; rw [if_neg h1, h2, h3, Nat.pow_add, ← Nat.mul_assoc, h4]
theorem unit_eq : unit = 2 ^ eU := by unfold unit; rfl
theorem mg_hi : mg 4890909195324358656 = 9223372036854775808 * unit := by
  rw [unit_eq]
  refine mg_norm (E := eU) (x := 11) (a := 4503599627370496) (by decide) (by decide) ?_ (by decide)
  decide

theorem wh_le {r : Nat} (h : r ≤ 4890909195324358656) : wh r ≤ 9223372036854775808 := by
  unfold wh
  have := mg_le h
  rw [mg_hi, Nat.mul_comm] at this
  exact Nat.div_le_of_le_mul this
theorem wh_lt {r : Nat} (h : r < 4890909195324358656) : wh r < 9223372036854775808 := by
  unfold wh
  have := mg_lt h
  rw [mg_hi] at this
  exact (Nat.div_lt_iff_lt_mul unit_pos).2 this

end Go.Proofs.Ytiakonmamkfopaa.Fm
