/- Plain facts of the words' floats: quotients of whole numbers. -/
import Derived.Test.YtifpmhaddajcnaaFacts3
namespace Go.Proofs.Ytifpmhaddajcnaa
open Fm Go.RowKit Go.ChangeShapes Ieee

/-- what a word of a rung below the bound is, as a whole number -/
theorem toInt_word {s : Bool} {r : Nat} (h : r < 4890909195324358656) : toInt (wrap64 (double.word s r)) = (if s then -(wh r : Int) else wh r) ∧ toIntE (wrap64 (double.word s r)) = 0 := by
  have hb : badInt (wrap64 (double.word s r)) = false := by
    unfold badInt key
    rw [ub_wrap (word_lt _ (by omega)), isN_word (by omega), sg_word (by omega), rg_word (by omega)]
    cases s <;> simp <;> omega
  unfold toInt toIntE
  rw [hb, ub_wrap (word_lt _ (by omega))]
  refine ⟨?_, rfl⟩
  show tr _ = _
  unfold tr
  rw [sg_word (by omega), rg_word (by omega)]

/-- the rung of 'k * 2 ^ t' units -/
theorem rung_any (k t : Nat) (hk : k < 9007199254740992) (h0 : k ≠ 0) (ht : 52 ≤ t) : ∃ s, mg s = k * 2 ^ t := by
  have hl := log2_bounds h0
  have hl2 : k.log2 ≤ 52 := log2_le_of_lt h0 hk
  generalize hL : k.log2 = L at *
  have h1 : 4503599627370496 ≤ k * 2 ^ (52 - L) := by
    have : (4503599627370496 : Nat) = 2 ^ L * 2 ^ (52 - L) := by rw [← Nat.pow_add, show L + (52 - L) = 52 by omega]
    rw [this]; exact Nat.mul_le_mul_right _ hl.1
  have h2 : k * 2 ^ (52 - L) < 9007199254740992 := by
    have : (9007199254740992 : Nat) = 2 ^ (L + 1) * 2 ^ (52 - L) := by rw [← Nat.pow_add, show L + 1 + (52 - L) = 53 by omega]
    rw [this]; exact Nat.mul_lt_mul_of_pos_right hl.2 (Nat.two_pow_pos _)
  refine ⟨(L + t - 51) * 4503599627370496 + (k * 2 ^ (52 - L) - 4503599627370496), ?_⟩
  generalize hx : k * 2 ^ (52 - L) = x at *
  have q1 : ¬ (L + t - 51) * 4503599627370496 + (x - 4503599627370496) < 4503599627370496 := by
    have : 1 * 4503599627370496 ≤ (L + t - 51) * 4503599627370496 := Nat.mul_le_mul_right _ (by omega)
    omega
  have q2 : 4503599627370496 + ((L + t - 51) * 4503599627370496 + (x - 4503599627370496)) % 4503599627370496 = x := by omega
  have q3 : ((L + t - 51) * 4503599627370496 + (x - 4503599627370496)) / 4503599627370496 - 1 = L + t - 52 := by omega
  unfold mg
  rw [if_neg q1, q2, q3, ← hx, Nat.mul_assoc, ← Nat.pow_add, show 52 - L + (L + t - 52) = t by omega]

/-- a quotient's digits against whole numbers: 'e' places are kept -/
theorem quot_low {D n e q x : Nat} (hn : 0 < n) (h : q * 2 ^ e * n ≤ D) (hx : x = 2 * (D / n) + (D % n != 0).toNat) : q * 2 ^ (e + 1) ≤ x := by
  have : q * 2 ^ e ≤ D / n := (Nat.le_div_iff_mul_le hn).2 h
  rw [Nat.pow_succ, ← Nat.mul_assoc]
  omega
theorem quot_up {D n Y x : Nat} (hn : 0 < n) (h : D ≤ Y * n) (hx : x = 2 * (D / n) + (D % n != 0).toNat) : x ≤ 2 * Y := by
  have h1 : D / n ≤ Y := Nat.div_le_of_le_mul (by rw [Nat.mul_comm]; exact h)
  have e := Nat.div_add_mod D n
  have hm := Nat.mod_lt D hn
  by_cases hY : D / n = Y
  · have : D % n = 0 := by
      rw [hY, Nat.mul_comm] at e; omega
    rw [hx, this, hY]; simp
  · rw [hx]
    have : (D % n != 0).toNat ≤ 1 := by cases (D % n != 0) <;> simp
    omega
theorem quot_exact {D n e q x : Nat} (hn : 0 < n) (h : D = q * 2 ^ e * n) (hx : x = 2 * (D / n) + (D % n != 0).toNat) : x = q * 2 ^ (e + 1) := by
  rw [hx, h, Nat.mul_div_cancel _ hn, Nat.mul_mod_left, Nat.pow_succ]
  simp
  rw [Nat.mul_comm (2 ^ e) 2, ← Nat.mul_assoc, ← Nat.mul_assoc, Nat.mul_comm q 2]

/-- the value 'x * 2 ^ p', p being U - 1 - e -/
theorem low_unit {x q e : Nat} {p : Int} {s : Nat} (hp : p = (eU : Int) - 1 - e) (h : q * 2 ^ (e + 1) ≤ x) (hs : mg s = q * unit) : atLeast x p (mg s) := by
  unfold atLeast
  rw [hs, unit_eq]
  generalize eU = U at *
  rcases Nat.le_total (e + 1) U with hc | hc
  · rw [show (-p).toNat = 0 by omega, show p.toNat = U - (e + 1) by omega, Nat.pow_zero, Nat.mul_one]
    have : q * 2 ^ U = q * 2 ^ (e + 1) * 2 ^ (U - (e + 1)) := by rw [Nat.mul_assoc, ← Nat.pow_add, show e + 1 + (U - (e + 1)) = U by omega]
    rw [this]; exact Nat.mul_le_mul_right _ h
  · rw [show p.toNat = 0 by omega, show (-p).toNat = e + 1 - U by omega, Nat.pow_zero, Nat.mul_one, Nat.mul_assoc, ← Nat.pow_add, show U + (e + 1 - U) = e + 1 by omega]
    exact h
theorem up_unit {x C e g : Nat} {p : Int} {s : Nat} (hp : p = (eU : Int) - 1 - e) (hg : g ≤ e) (hg2 : g ≤ eU) (h : x ≤ C * 2 ^ (e + 1 - g)) (hs : mg s = C * 2 ^ (eU - g)) : atMost x p (mg s) := by
  unfold atMost
  rw [hs]
  generalize eU = U at *
  rcases Nat.le_total (e + 1) U with hc | hc
  · rw [show (-p).toNat = 0 by omega, show p.toNat = U - (e + 1) by omega, Nat.pow_zero, Nat.mul_one]
    have : C * 2 ^ (U - g) = C * 2 ^ (e + 1 - g) * 2 ^ (U - (e + 1)) := by rw [Nat.mul_assoc, ← Nat.pow_add, show e + 1 - g + (U - (e + 1)) = U - g by omega]
    rw [this]; exact Nat.mul_le_mul_right _ h
  · rw [show p.toNat = 0 by omega, show (-p).toNat = e + 1 - U by omega, Nat.pow_zero, Nat.mul_one, Nat.mul_assoc, ← Nat.pow_add, show U - g + (e + 1 - U) = e + 1 - g by omega]
    exact h

theorem whole_rd0 {a n : Int} (h : Whole a n) : ∃ (m k : Nat), rd (sg (ub a)) (rg (ub a)) = .number (decide (n < 0)) m (-1074 + (k : Int)) ∧ m * 2 ^ k = n.natAbs * unit ∧ m < 9007199254740992 ∧ (m = 0 ↔ n = 0) ∧ (m = 0 → k = 0) := by
  by_cases hn : n = 0
  · subst hn
    have h2 := h.mag
    rw [Int.natAbs_zero, Nat.zero_mul, ← mg_zero, mg_inj] at h2
    refine ⟨0, 0, ?_, by simp, by omega, by simp, fun _ => rfl⟩
    rw [h2, h.sgn]; rfl
  · obtain ⟨m, k, e1, e2, e3, e4⟩ := whole_rd h
    exact ⟨m, k, e1, e2, e3, e4, fun h0 => absurd (e4.1 h0) hn⟩

/-- the quotient of two whole numbers' floats: its digits 'x', its place -/
theorem quot_shape {a b A B : Int} (ha : Whole a A) (hb : Whole b B) (hB : B ≠ 0) (hA1 : A.natAbs < 1125899906842624) :
    ∃ (x e D n : Nat) (p : Int), fbin .quo a b = wrap64 (double.word (decide (A < 0) ^^ decide (B < 0)) (min (nr x p) 9218868437227405312)) ∧
      x = 2 * (D / n) + (D % n != 0).toNat ∧ 0 < n ∧ p = (eU : Int) - 1 - e ∧ 2 ≤ e ∧ (A.natAbs < 67108864 → 20 ≤ e) ∧
      (∀ q : Nat, q * B.natAbs ≤ A.natAbs → q * 2 ^ e * n ≤ D) ∧ (∀ q : Nat, q * B.natAbs = A.natAbs → D = q * 2 ^ e * n) ∧
      (∀ C g : Nat, g ≤ e → A.natAbs * 2 ^ g ≤ C * B.natAbs → D ≤ C * 2 ^ (e - g) * n) := by
  obtain ⟨m, k, e1, e2, e3, e4, hk0⟩ := whole_rd0 ha
  obtain ⟨n, l, f1, f2, f3, f4⟩ := whole_rd hb
  have hn : n ≠ 0 := fun h => hB (f4.1 h)
  have hn0 : 0 < n := by omega
  have hlm : m.log2 ≤ 52 := by
    by_cases h0 : m = 0
    · rw [h0]; decide
    · exact log2_le_of_lt h0 e3
  have hkl : k + m.log2 < 1074 + 50 ∨ m = 0 := by
    by_cases h0 : m = 0
    · exact Or.inr h0
    · refine Or.inl ?_
      have h1 := (log2_bounds h0).1
      have h2 : 2 ^ (m.log2 + k) < 2 ^ (50 + eU) := by
        rw [Nat.pow_add, Nat.pow_add 2 50]
        refine Nat.lt_of_le_of_lt (Nat.mul_le_mul_right _ h1) ?_
        rw [e2, unit_eq]
        exact Nat.mul_lt_mul_of_pos_right hA1 (Nat.two_pow_pos _)
      have := (Nat.pow_lt_pow_iff_right (by omega : 1 < 2)).1 h2
      have : eU = 1074 := rfl
      omega
  have hkl2 : A.natAbs < 67108864 → k + m.log2 < 1074 + 26 ∨ m = 0 := by
    intro hA
    by_cases h0 : m = 0
    · exact Or.inr h0
    · refine Or.inl ?_
      have h1 := (log2_bounds h0).1
      have h2 : 2 ^ (m.log2 + k) < 2 ^ (26 + eU) := by
        rw [Nat.pow_add, Nat.pow_add 2 26]
        refine Nat.lt_of_le_of_lt (Nat.mul_le_mul_right _ h1) ?_
        rw [e2, unit_eq]
        exact Nat.mul_lt_mul_of_pos_right hA (Nat.two_pow_pos _)
      have := (Nat.pow_lt_pow_iff_right (by omega : 1 < 2)).1 h2
      have : eU = 1074 := rfl
      omega
  have hll : 1074 ≤ n.log2 + l := by
    have h1 := (log2_bounds hn).2
    have h2 : 2 ^ eU < 2 ^ (n.log2 + 1 + l) := by
      rw [Nat.pow_add 2 (n.log2 + 1)]
      refine Nat.lt_of_le_of_lt ?_ (Nat.mul_lt_mul_of_pos_right h1 (Nat.two_pow_pos _))
      rw [f2, unit_eq]
      exact Nat.le_mul_of_pos_left _ (by omega)
    have := (Nat.pow_lt_pow_iff_right (by omega : 1 < 2)).1 h2
    have : eU = 1074 := rfl
    omega
  obtain ⟨more, hmore⟩ : ∃ more, 54 + n.log2 - m.log2 = more := ⟨_, rfl⟩
  have hge : k + 2 ≤ l + more := by
    rcases hkl with h | h
    · omega
    · have := hk0 h; omega
  obtain ⟨e, he⟩ : ∃ e, l + more = k + e := ⟨l + more - k, by omega⟩
  refine ⟨2 * (m <<< more / n) + (m <<< more % n != 0).toNat, e, m <<< more, n, (eU : Int) - 1 - e, ?_, rfl, hn0, rfl, by omega, ?_, ?_, ?_, ?_⟩
  · rw [fdiv_out, e1, f1]
    simp only [Datum.quotient]
    rw [if_neg hn, hmore]
    show wrap64 (double.write _) = _
    rw [write_num_any]
    have : -1074 + (k : Int) - (-1074 + (l : Int)) - (more : Int) - 1 + 1074 = (eU : Int) - 1 - e := by show _ = ((1074 : Nat) : Int) - 1 - e; omega
    rw [this]
  · intro hA
    rcases hkl2 hA with h | h
    · omega
    · have := hk0 h; omega
  · intro q hq
    rw [Nat.shiftLeft_eq]
    have h1 : q * n * 2 ^ l ≤ m * 2 ^ k := by
      rw [Nat.mul_assoc, f2, e2, ← Nat.mul_assoc]; exact Nat.mul_le_mul_right _ hq
    have h2 : q * 2 ^ e * n * 2 ^ k ≤ m * 2 ^ more * 2 ^ k := by
      have a1 : q * 2 ^ e * n * 2 ^ k = q * n * 2 ^ l * 2 ^ more := by
        rw [Nat.mul_assoc (q * n), ← Nat.pow_add, he, Nat.pow_add, Nat.mul_assoc q, Nat.mul_comm (2 ^ e) n, ← Nat.mul_assoc q, Nat.mul_assoc (q * n), Nat.mul_comm (2 ^ e) (2 ^ k)]
      have a2 : m * 2 ^ more * 2 ^ k = m * 2 ^ k * 2 ^ more := by rw [Nat.mul_assoc, Nat.mul_comm (2 ^ more), ← Nat.mul_assoc]
      rw [a1, a2]; exact Nat.mul_le_mul_right _ h1
    exact Nat.le_of_mul_le_mul_right h2 (Nat.two_pow_pos k)
  · intro q hq
    rw [Nat.shiftLeft_eq]
    have h1 : q * n * 2 ^ l = m * 2 ^ k := by
      rw [Nat.mul_assoc, f2, e2, ← Nat.mul_assoc, hq]
    have h2 : m * 2 ^ more * 2 ^ k = q * 2 ^ e * n * 2 ^ k := by
      have a1 : q * 2 ^ e * n * 2 ^ k = q * n * 2 ^ l * 2 ^ more := by
        rw [Nat.mul_assoc (q * n), ← Nat.pow_add, he, Nat.pow_add, Nat.mul_assoc q, Nat.mul_comm (2 ^ e) n, ← Nat.mul_assoc q, Nat.mul_assoc (q * n), Nat.mul_comm (2 ^ e) (2 ^ k)]
      have a2 : m * 2 ^ more * 2 ^ k = m * 2 ^ k * 2 ^ more := by rw [Nat.mul_assoc, Nat.mul_comm (2 ^ more), ← Nat.mul_assoc]
      rw [a1, a2, h1]
    exact Nat.eq_of_mul_eq_mul_right (Nat.two_pow_pos k) h2
  · intro C g hg hC
    rw [Nat.shiftLeft_eq]
    have h1 : m * 2 ^ k * 2 ^ g ≤ C * (n * 2 ^ l) := by
      rw [e2, f2, Nat.mul_assoc, Nat.mul_comm unit, ← Nat.mul_assoc, ← Nat.mul_assoc]; exact Nat.mul_le_mul_right _ hC
    have h2 : m * 2 ^ more * (2 ^ k * 2 ^ g) ≤ C * 2 ^ (e - g) * n * (2 ^ k * 2 ^ g) := by
      have a1 : C * 2 ^ (e - g) * n * (2 ^ k * 2 ^ g) = C * (n * 2 ^ l) * 2 ^ more := by
        have b1 : 2 ^ (e - g) * (2 ^ k * 2 ^ g) = 2 ^ l * 2 ^ more := by
          rw [← Nat.pow_add, ← Nat.pow_add, ← Nat.pow_add]; congr 1; omega
        rw [Nat.mul_assoc (C * 2 ^ (e - g)), Nat.mul_comm n, ← Nat.mul_assoc (C * 2 ^ (e - g)), Nat.mul_assoc C, b1, ← Nat.mul_assoc C n, Nat.mul_assoc (C * n), Nat.mul_assoc C, Nat.mul_assoc C, Nat.mul_comm n]
      have a2 : m * 2 ^ more * (2 ^ k * 2 ^ g) = m * 2 ^ k * 2 ^ g * 2 ^ more := by
        rw [Nat.mul_assoc m (2 ^ k), Nat.mul_assoc m, Nat.mul_assoc m, Nat.mul_comm (2 ^ more)]
      rw [a1, a2]; exact Nat.mul_le_mul_right _ h1
    exact Nat.le_of_mul_le_mul_right h2 (Nat.mul_pos (Nat.two_pow_pos k) (Nat.two_pow_pos g))

/-- a quotient that comes out even -/
theorem div_whole {a b A B : Int} {q : Int} (ha : Whole a A) (hb : Whole b B) (hB : B ≠ 0) (hA : A ≠ 0) (hA1 : A.natAbs < 1125899906842624) (h : A = q * B) : fbin .quo a b = fromInt q := by
  obtain ⟨x, e, D, n, p, h1, h2, h3, h4, _, _, _, h5, _⟩ := quot_shape ha hb hB hA1
  have hq : q.natAbs * B.natAbs = A.natAbs := by rw [h, Int.natAbs_mul]
  have hx := quot_exact h3 (h5 _ hq) h2
  have hql : q.natAbs < 9007199254740992 := by
    have : q.natAbs * 1 ≤ q.natAbs * B.natAbs := Nat.mul_le_mul_left _ (by omega)
    omega
  obtain ⟨s, hs⟩ := small_rung _ hql
  have e1 : nr x p = s := by
    refine Nat.le_antisymm (nr_le ?_) (nr_ge (low_unit h4 (Nat.le_of_eq hx.symm) hs))
    exact up_unit (g := 0) (C := q.natAbs) h4 (by omega) (by omega) (by rw [hx]; exact Nat.le_refl _) (by rw [hs, unit_eq, Nat.sub_zero])
  have hf := rung_fin hs (by omega)
  rw [h1, e1, Nat.min_eq_left (by omega), fromInt_rung hs (by omega)]
  congr 3
  have hq0 : q ≠ 0 := fun h0 => hA (by rw [h, h0, Int.zero_mul])
  rw [h]
  have hlt : q * B < 0 ↔ (q < 0 ∧ 0 < B ∨ 0 < q ∧ B < 0) := by
    constructor
    · intro hlt
      rcases Int.lt_or_gt_of_ne hq0 with h1 | h1 <;> rcases Int.lt_or_gt_of_ne hB with h2 | h2
      · have := Int.mul_pos_of_neg_of_neg h1 h2; omega
      · omega
      · omega
      · have := Int.mul_pos h1 h2; omega
    · rintro (⟨h1, h2⟩ | ⟨h1, h2⟩)
      · exact Int.mul_neg_of_neg_of_pos h1 h2
      · exact Int.mul_neg_of_pos_of_neg h1 h2
  rw [Bool.eq_iff_iff]
  by_cases c1 : q < 0 <;> by_cases c2 : B < 0 <;> simp [hlt, c1, c2] <;> omega

theorem eU_val : eU = 1074 := rfl
attribute [local irreducible] eU

/-- a quotient, cut off -/
theorem div_cut {a b A B : Int} (ha : Whole a A) (hb : Whole b B) (hB : B ≠ 0) (hA : A.natAbs < 67108864) (hB2 : B.natAbs ≤ 1048576) :
    toInt (fbin .quo a b) = A.tdiv B ∧ toIntE (fbin .quo a b) = 0 := by
  obtain ⟨x, e, D, n, p, h1, h2, h3, h4, _, h6, h7, _, h8⟩ := quot_shape ha hb hB (by omega)
  have he := h6 hA
  obtain ⟨q, hq⟩ : ∃ q, A.natAbs / B.natAbs = q := ⟨_, rfl⟩
  have hdm := Nat.div_add_mod A.natAbs B.natAbs
  have hml := Nat.mod_lt A.natAbs (show 0 < B.natAbs by omega)
  rw [hq] at hdm
  have hq1 : q ≤ A.natAbs := by rw [← hq]; exact Nat.div_le_self _ _
  obtain ⟨s, hs⟩ := small_rung q (by omega)
  have hle : q * B.natAbs ≤ A.natAbs := by rw [Nat.mul_comm]; omega
  have low : s ≤ nr x p := nr_ge (low_unit h4 (quot_low h3 (h7 q hle) h2) hs)
  -- above: a float just below q + 1
  obtain ⟨C, hC⟩ : ∃ C, C + 1 = (q + 1) * 1048576 := ⟨(q + 1) * 1048576 - 1, by omega⟩
  have hC1 : q * 1048576 ≤ C := by omega
  have hC2 : C < (q + 1) * 1048576 := by omega
  have hC3 : C < 9007199254740992 := by omega
  have hC4 : C ≠ 0 := by omega
  have hCB : A.natAbs * 1048576 ≤ C * B.natAbs := by
    have a1 : (C + 1) * B.natAbs = (q + 1) * B.natAbs * 1048576 := by rw [hC, Nat.mul_assoc, Nat.mul_comm 1048576, ← Nat.mul_assoc]
    have a2 : A.natAbs + 1 ≤ (q + 1) * B.natAbs := by rw [Nat.add_mul, Nat.one_mul, Nat.mul_comm q]; omega
    have a3 : (A.natAbs + 1) * 1048576 ≤ (q + 1) * B.natAbs * 1048576 := Nat.mul_le_mul_right _ a2
    rw [Nat.add_mul, Nat.one_mul] at a1 a3
    rw [← a1] at a3
    exact Nat.le_of_add_le_add_right (Nat.le_trans a3 (Nat.add_le_add_left hB2 _))
  have e20 : (1048576 : Nat) = 2 ^ 20 := by decide
  obtain ⟨t, ht⟩ := rung_any C (eU - 20) hC3 hC4 (by rw [eU_val]; decide)
  have up : nr x p ≤ t := by
    refine nr_le (up_unit (g := 20) (C := C) h4 he (by rw [eU_val]; decide) ?_ ht)
    have := quot_up h3 (h8 C 20 he (by rw [← e20]; exact hCB)) h2
    rw [show e + 1 - 20 = e - 20 + 1 by omega, Nat.pow_succ]
    rw [Nat.mul_comm 2, Nat.mul_assoc] at this
    exact this
  have wt : wh t = q := by
    unfold wh
    have a1 : mg t * 1048576 = C * unit := by
      rw [ht, unit_eq, Nat.mul_assoc, e20, ← Nat.pow_add]
      rw [show eU - 20 + 20 = eU by rw [eU_val]]
    refine Nat.div_eq_of_lt_le ?_ ?_
    · have a2 : q * unit * 1048576 ≤ mg t * 1048576 := by
        rw [a1, Nat.mul_assoc, Nat.mul_comm unit, ← Nat.mul_assoc]; exact Nat.mul_le_mul_right _ hC1
      exact Nat.le_of_mul_le_mul_right a2 (by decide)
    · have a2 : mg t * 1048576 < (q + 1) * unit * 1048576 := by
        rw [a1, Nat.mul_assoc (q + 1), Nat.mul_comm unit, ← Nat.mul_assoc]; exact Nat.mul_lt_mul_of_pos_right hC2 unit_pos
      exact Nat.lt_of_mul_lt_mul_right a2
  have wn : wh (nr x p) = q := by
    have b1 : wh s ≤ wh (nr x p) := Nat.div_le_div_right (mg_le low)
    have b2 : wh (nr x p) ≤ wh t := Nat.div_le_div_right (mg_le up)
    rw [wh_unit hs] at b1; rw [wt] at b2; omega
  have hb1 : nr x p < 4890909195324358656 := by
    rcases Nat.lt_or_ge (nr x p) 4890909195324358656 with h | h
    · exact h
    · have : wh 4890909195324358656 ≤ wh (nr x p) := Nat.div_le_div_right (mg_le h)
      rw [wh_unit mg_hi] at this; omega
  rw [h1, Nat.min_eq_left (by omega)]
  obtain ⟨g1, g2⟩ := toInt_word (s := (decide (A < 0) ^^ decide (B < 0))) hb1
  refine ⟨?_, g2⟩
  rw [g1, wn]
  have hz : A.tdiv B = if (A < 0) ↔ (B < 0) then ((A.natAbs / B.natAbs : Nat) : Int) else -((A.natAbs / B.natAbs : Nat) : Int) := by
    rcases Int.lt_or_le A 0 with c1 | c1 <;> rcases Int.lt_or_le B 0 with c2 | c2
    · rw [if_pos (by omega)]
      have : A.tdiv B = (-A).tdiv (-B) := by rw [Int.neg_tdiv, Int.tdiv_neg, Int.neg_neg]
      rw [this, Int.tdiv_eq_ediv_of_nonneg (by omega), show -A = (A.natAbs : Int) by omega, show -B = (B.natAbs : Int) by omega]; simp
    · rw [if_neg (by omega)]
      have : A.tdiv B = -((-A).tdiv B) := by rw [Int.neg_tdiv, Int.neg_neg]
      rw [this, Int.tdiv_eq_ediv_of_nonneg (by omega), show -A = (A.natAbs : Int) by omega]
      conv => lhs; rw [show B = (B.natAbs : Int) by omega]
      simp
    · rw [if_neg (by omega)]
      have : A.tdiv B = -(A.tdiv (-B)) := by rw [Int.tdiv_neg, Int.neg_neg]
      rw [this, Int.tdiv_eq_ediv_of_nonneg (by omega), show -B = (B.natAbs : Int) by omega]
      conv => lhs; rw [show A = (A.natAbs : Int) by omega]
      simp
    · rw [if_pos (by omega), Int.tdiv_eq_ediv_of_nonneg (by omega)]
      conv => lhs; rw [show A = (A.natAbs : Int) by omega, show B = (B.natAbs : Int) by omega]
      simp
  rw [hz, hq]
  by_cases c1 : A < 0 <;> by_cases c2 : B < 0 <;> simp [c1, c2]
end Go.Proofs.Ytifpmhaddajcnaa
