/- Plain facts of the words' floats: noughts, infinities, whole numbers small enough. -/
import Derived.Test.YtifpmhaddajcnaaFacts2
namespace Go.Proofs.Ytifpmhaddajcnaa
open Fm Go.RowKit Go.ChangeShapes Ieee

theorem a_word {a : Int} (h : (Lit.int .i64 a).wf = true) : wrap64 (double.word (sg (ub a)) (rg (ub a))) = a := by
  rw [word_sg_rg (ub_lt a), wrap_ub h]

theorem sg0 : sg (ub 0) = false := by decide
theorem rg0 : rg (ub 0) = 0 := by decide
theorem sgS : sg (ub (-9223372036854775808)) = true := by decide
theorem rgS : rg (ub (-9223372036854775808)) = 0 := by decide
theorem rd0 (s : Bool) : rd s 0 = .number s 0 (-1074) := rfl
theorem sgI : sg (ub 9218868437227405312) = false := by decide
theorem rgI : rg (ub 9218868437227405312) = 9218868437227405312 := by decide
theorem sgJ : sg (ub (-4503599627370496)) = true := by decide
theorem rgJ : rg (ub (-4503599627370496)) = 9218868437227405312 := by decide

theorem write_num_any (s : Bool) (m : Nat) (p : Int) : double.write (.number s m p) = double.word s (min (nr m (p + 1074)) 9218868437227405312) := by
  obtain ⟨q, rfl⟩ : ∃ q : Int, p = -1074 + q := ⟨p + 1074, by omega⟩
  rw [show -1074 + q + 1074 = q by omega]; exact write_num s m q

theorem out_num {s : Bool} {m r : Nat} {p : Int} (h : m * 2 ^ (p + 1074).toNat = mg r * 2 ^ (-(p + 1074)).toNat) (hr : r ≤ 9218868437227405312) : out (some (.number s m p)) = wrap64 (double.word s r) := by
  show wrap64 (double.write _) = _
  rw [write_num_any, nr_exact h, Nat.min_eq_left hr]
theorem out_inf (s : Bool) : out (some (.infinity s)) = wrap64 (double.word s 9218868437227405312) := by
  rw [← infRung_d]; rfl

/-- a sum with a nought -/
theorem sum_nought {a : Int} (wa : (Lit.int .i64 a).wf = true) (h0 : 0 < rg (ub a)) (h1 : rg (ub a) < 9218868437227405312) (t : Bool) : out ((rd (sg (ub a)) (rg (ub a))).sum (.number t 0 (-1074))) = a := by
  obtain ⟨m, k, e1, e2, _, e4⟩ := rd_num (s := sg (ub a)) h1
  rw [e1]
  simp only [Datum.sum, signed_eq]
  rw [show min (-1074 + (k : Int)) (-1074) = -1074 by omega, show (-1074 + (k : Int) - -1074).toNat = k by omega, Nat.zero_mul, e2]
  have hm : 0 < mg (rg (ub a)) := by have := mg_lt h0; rwa [mg_zero] at this
  have e5 : (if t = true then -((0 : Nat) : Int) else ((0 : Nat) : Int)) = 0 := by cases t <;> rfl
  rw [e5, Int.add_zero]
  have key : ∀ (s : Bool) (M : Nat), 0 < M → (if s = true then -((M : Nat) : Int) else ((M : Nat) : Int)).natAbs = M ∧ (if (if s = true then -((M : Nat) : Int) else ((M : Nat) : Int)) = 0 then (s && t) else decide ((if s = true then -((M : Nat) : Int) else ((M : Nat) : Int)) < 0)) = s := by
    intro s M hM
    cases s
    · refine ⟨by simp, ?_⟩
      rw [if_neg Bool.false_ne_true, if_neg (by omega)]; exact decide_eq_false (by omega)
    · refine ⟨by simp, ?_⟩
      rw [if_pos rfl, if_neg (by omega)]; exact decide_eq_true (by omega)
  obtain ⟨e6, e7⟩ := key (sg (ub a)) (mg (rg (ub a))) hm
  rw [e6, e7]
  rw [out_num (r := rg (ub a)) (by simp) (by omega), a_word wa]

theorem add_0 {a : Int} (wa : (Lit.int .i64 a).wf = true) (h0 : 0 < rg (ub a)) (h1 : rg (ub a) < 9218868437227405312) : fbin .add a 0 = a := by
  rw [fadd_out, sg0, rg0, rd0]; exact sum_nought wa h0 h1 _
theorem add_S {a : Int} (wa : (Lit.int .i64 a).wf = true) (h0 : 0 < rg (ub a)) (h1 : rg (ub a) < 9218868437227405312) : fbin .add a (-9223372036854775808) = a := by
  rw [fadd_out, sgS, rgS, rd0]; exact sum_nought wa h0 h1 _
theorem sub_self {a : Int} (h1 : rg (ub a) < 9218868437227405312) : fbin .sub a a = 0 := by
  obtain ⟨m, k, e1, e2, _, e4⟩ := rd_num (s := sg (ub a)) h1
  rw [fsub_out, e1]
  simp only [Datum.sum, Datum.opposite, signed_eq]
  have e5 : ((if sg (ub a) = true then -((m * 2 ^ (-1074 + (k : Int) - min (-1074 + (k : Int)) (-1074 + (k : Int))).toNat : Nat) : Int) else ((m * 2 ^ (-1074 + (k : Int) - min (-1074 + (k : Int)) (-1074 + (k : Int))).toNat : Nat) : Int)) +
      (if (!sg (ub a)) = true then -((m * 2 ^ (-1074 + (k : Int) - min (-1074 + (k : Int)) (-1074 + (k : Int))).toNat : Nat) : Int) else ((m * 2 ^ (-1074 + (k : Int) - min (-1074 + (k : Int)) (-1074 + (k : Int))).toNat : Nat) : Int))) = 0 := by
    generalize m * 2 ^ (-1074 + (k : Int) - min (-1074 + (k : Int)) (-1074 + (k : Int))).toNat = x
    cases sg (ub a)
    · simp; omega
    · simp; omega
  rw [e5]
  have e6 : (sg (ub a) && !sg (ub a)) = false := by cases sg (ub a) <;> rfl
  simp only [e6, if_true, Int.natAbs_zero]
  rw [out_num (r := 0) (by rw [Nat.zero_mul, mg_zero, Nat.zero_mul]) (by omega)]
  decide +kernel
theorem mul_0 {a : Int} (h1 : rg (ub a) < 9218868437227405312) : fbin .mul a 0 = if sg (ub a) then -9223372036854775808 else 0 := by
  obtain ⟨m, k, e1, e2, _, e4⟩ := rd_num (s := sg (ub a)) h1
  rw [fmul_out, sg0, rg0, rd0, e1]
  simp only [Datum.product, Nat.mul_zero]
  rw [out_num (r := 0) (by rw [Nat.zero_mul, mg_zero, Nat.zero_mul]) (by omega)]
  cases sg (ub a) <;> decide +kernel
theorem div_0 {a : Int} (h0 : 0 < rg (ub a)) (h1 : rg (ub a) < 9218868437227405312) : fbin .quo a 0 = if sg (ub a) then -4503599627370496 else 9218868437227405312 := by
  obtain ⟨m, k, e1, e2, _, e4⟩ := rd_num (s := sg (ub a)) h1
  rw [fdiv_out, sg0, rg0, rd0, e1]
  simp only [Datum.quotient, if_true]
  rw [if_neg (by omega), out_inf]
  cases sg (ub a) <;> decide +kernel
theorem div_S {a : Int} (h0 : 0 < rg (ub a)) (h1 : rg (ub a) < 9218868437227405312) : fbin .quo a (-9223372036854775808) = if sg (ub a) then 9218868437227405312 else -4503599627370496 := by
  obtain ⟨m, k, e1, e2, _, e4⟩ := rd_num (s := sg (ub a)) h1
  rw [fdiv_out, sgS, rgS, rd0, e1]
  simp only [Datum.quotient, if_true]
  rw [if_neg (by omega), out_inf]
  cases sg (ub a) <;> decide +kernel
theorem add_I {a : Int} (h1 : rg (ub a) < 9218868437227405312) : fbin .add a 9218868437227405312 = 9218868437227405312 := by
  obtain ⟨m, k, e1, e2, _, e4⟩ := rd_num (s := sg (ub a)) h1
  rw [fadd_out, sgI, rgI, rd_inf, e1]
  simp only [Datum.sum]
  rw [out_inf]; decide +kernel
theorem sub_I {a : Int} (h1 : rg (ub a) < 9218868437227405312) : fbin .sub a 9218868437227405312 = -4503599627370496 := by
  obtain ⟨m, k, e1, e2, _, e4⟩ := rd_num (s := sg (ub a)) h1
  rw [fsub_out, sgI, rgI, rd_inf, e1]
  simp only [Datum.sum, Datum.opposite]
  rw [out_inf]; decide +kernel
theorem div_J {a : Int} (h1 : rg (ub a) < 9218868437227405312) : fclass (fbin .quo a (-4503599627370496)) = 4 := by
  obtain ⟨m, k, e1, e2, _, e4⟩ := rd_num (s := sg (ub a)) h1
  rw [fdiv_out, sgJ, rgJ, rd_inf, e1]
  simp only [Datum.quotient]
  rw [out_num (r := 0) (by rw [Nat.zero_mul, mg_zero, Nat.zero_mul]) (by omega)]
  cases sg (ub a) <;> decide +kernel

theorem nought_of {m k : Nat} (h : m * 2 ^ k = 0) : m = 0 := by
  rcases Nat.mul_eq_zero.1 h with h | h
  · exact h
  · have := Nat.two_pow_pos k; omega
theorem neg_of {x y : Int} (h : x * y < 0) (hy : 0 < y) : x < 0 := by
  rcases Int.lt_or_le x 0 with h1 | h1
  · exact h1
  · have := Int.mul_nonneg h1 (Int.le_of_lt hy); omega

/-! whole numbers small enough -/
/-- 'a' is the float of 'n', a whole number -/
structure Whole (a n : Int) : Prop where
  sgn : sg (ub a) = decide (n < 0)
  mag : mg (rg (ub a)) = n.natAbs * unit
  fin : rg (ub a) < 9218868437227405312

theorem rung_fin {s k : Nat} (h : mg s = k * unit) (hk : k ≤ 9223372036854775808) : s < 9218868437227405312 := by
  have := le_hi h hk; omega

theorem whole_fromInt {n : Int} (h : n.natAbs < 9007199254740992) : Whole (fromInt n) n := by
  obtain ⟨s, hs⟩ := small_rung _ h
  have hf := rung_fin hs (by omega)
  have e := fromInt_rung hs (by omega)
  have e2 : ub (fromInt n) = double.word (decide (n < 0)) s := by rw [e, ub_wrap (word_lt _ (by omega))]
  exact ⟨by rw [e2, sg_word (by omega)], by rw [e2, rg_word (by omega), hs], by rw [e2, rg_word (by omega)]; exact hf⟩

theorem whole_rd {a n : Int} (h : Whole a n) : ∃ (m k : Nat), rd (sg (ub a)) (rg (ub a)) = .number (decide (n < 0)) m (-1074 + (k : Int)) ∧ m * 2 ^ k = n.natAbs * unit ∧ m < 9007199254740992 ∧ (m = 0 ↔ n = 0) := by
  obtain ⟨m, k, e1, e2, e3, e4⟩ := rd_num (s := sg (ub a)) h.fin
  refine ⟨m, k, by rw [e1, h.sgn], by rw [e2, h.mag], e3, ?_⟩
  rw [h.mag] at e2
  constructor
  · intro hm
    rw [hm, Nat.zero_mul] at e2
    rcases Nat.mul_eq_zero.1 e2.symm with h0 | h0
    · omega
    · have := unit_pos; omega
  · intro hn
    subst hn
    rw [Int.natAbs_zero, Nat.zero_mul] at e2
    exact nought_of e2

theorem out_whole {s : Bool} {m : Nat} {p : Int} {n : Int} (hn : n.natAbs < 9007199254740992) (hs : s = decide (n < 0)) (h : m * 2 ^ (p + 1074).toNat = n.natAbs * unit * 2 ^ (-(p + 1074)).toNat) : out (some (.number s m p)) = fromInt n := by
  obtain ⟨r, hr⟩ := small_rung _ hn
  have hf := rung_fin hr (by omega)
  rw [out_num (r := r) (by rw [hr]; exact h) (by omega), fromInt_rung hr (by omega), hs]

theorem sum_whole {s t : Bool} {m k n l : Nat} {x y : Int} (hx : m * 2 ^ k = x.natAbs * unit) (hy : n * 2 ^ l = y.natAbs * unit) (hs : x ≠ 0 → s = decide (x < 0)) (ht : y ≠ 0 → t = decide (y < 0)) (hst : x = 0 → y = 0 → (s && t) = false)
    (hb : (x + y).natAbs < 9007199254740992) : out ((Datum.number s m (-1074 + (k : Int))).sum (.number t n (-1074 + (l : Int)))) = fromInt (x + y) := by
  simp only [Datum.sum, signed_eq]
  obtain ⟨b, hb1, hk, hl⟩ : ∃ b : Nat, min (-1074 + (k : Int)) (-1074 + (l : Int)) = -1074 + (b : Int) ∧ b ≤ k ∧ b ≤ l := by
    rcases Nat.le_total k l with h | h
    · exact ⟨k, by omega, by omega, h⟩
    · exact ⟨l, by omega, h, by omega⟩
  rw [hb1, show (-1074 + (k : Int) - (-1074 + (b : Int))).toNat = k - b by omega, show (-1074 + (l : Int) - (-1074 + (b : Int))).toNat = l - b by omega]
  have g1 : m * 2 ^ (k - b) * 2 ^ b = x.natAbs * unit := by rw [Nat.mul_assoc, ← Nat.pow_add, Nat.sub_add_cancel hk, hx]
  have g2 : n * 2 ^ (l - b) * 2 ^ b = y.natAbs * unit := by rw [Nat.mul_assoc, ← Nat.pow_add, Nat.sub_add_cancel hl, hy]
  generalize m * 2 ^ (k - b) = M at *
  generalize n * 2 ^ (l - b) = N at *
  have hu := unit_pos
  -- the signed sums
  have f1 : (if s = true then -(M : Int) else (M : Int)) * ((2 ^ b : Nat) : Int) = x * (unit : Int) := by
    have g1' : (M : Int) * ((2 ^ b : Nat) : Int) = (x.natAbs : Int) * (unit : Int) := by rw [← Int.natCast_mul, g1, Int.natCast_mul]
    by_cases hx0 : x = 0
    · subst hx0
      have : (M : Int) * ((2 ^ b : Nat) : Int) = 0 := by rw [g1']; simp
      split
      · rw [Int.neg_mul, this]; simp
      · rw [this]; simp
    · rw [hs hx0]
      by_cases hx1 : x < 0
      · simp only [hx1, decide_true, if_true]
        rw [Int.neg_mul, g1', show x = -(x.natAbs : Int) by omega, Int.neg_mul, Int.natAbs_neg, Int.natAbs_natCast]
      · simp only [hx1, decide_false, Bool.false_eq_true, if_false]
        rw [g1', show x = (x.natAbs : Int) by omega, Int.natAbs_natCast]
  have f2 : (if t = true then -(N : Int) else (N : Int)) * ((2 ^ b : Nat) : Int) = y * (unit : Int) := by
    have g2' : (N : Int) * ((2 ^ b : Nat) : Int) = (y.natAbs : Int) * (unit : Int) := by rw [← Int.natCast_mul, g2, Int.natCast_mul]
    by_cases hx0 : y = 0
    · subst hx0
      have : (N : Int) * ((2 ^ b : Nat) : Int) = 0 := by rw [g2']; simp
      split
      · rw [Int.neg_mul, this]; simp
      · rw [this]; simp
    · rw [ht hx0]
      by_cases hx1 : y < 0
      · simp only [hx1, decide_true, if_true]
        rw [Int.neg_mul, g2', show y = -(y.natAbs : Int) by omega, Int.neg_mul, Int.natAbs_neg, Int.natAbs_natCast]
      · simp only [hx1, decide_false, Bool.false_eq_true, if_false]
        rw [g2', show y = (y.natAbs : Int) by omega, Int.natAbs_natCast]
  have fz1 : M = 0 ↔ x = 0 := by
    constructor
    · intro h; rw [h, Nat.zero_mul] at g1
      rcases Nat.mul_eq_zero.1 g1.symm with h0 | h0 <;> omega
    · intro h; rw [h, Int.natAbs_zero, Nat.zero_mul] at g1
      exact nought_of g1
  have fz2 : N = 0 ↔ y = 0 := by
    constructor
    · intro h; rw [h, Nat.zero_mul] at g2
      rcases Nat.mul_eq_zero.1 g2.symm with h0 | h0 <;> omega
    · intro h; rw [h, Int.natAbs_zero, Nat.zero_mul] at g2
      exact nought_of g2
  generalize hT : (if s = true then -(M : Int) else (M : Int)) + (if t = true then -(N : Int) else (N : Int)) = T
  have f3 : T * ((2 ^ b : Nat) : Int) = (x + y) * (unit : Int) := by rw [← hT, Int.add_mul, f1, f2, Int.add_mul]
  have hp : (0 : Int) < ((2 ^ b : Nat) : Int) := by have := Nat.two_pow_pos b; omega
  have hu' : (0 : Int) < (unit : Int) := by omega
  have z1 : T = 0 ↔ x + y = 0 := by
    constructor
    · intro h; rw [h, Int.zero_mul] at f3
      rcases Int.mul_eq_zero.1 f3.symm with h0 | h0 <;> omega
    · intro h; rw [h, Int.zero_mul] at f3
      rcases Int.mul_eq_zero.1 f3 with h0 | h0 <;> omega
  have z2 : T < 0 ↔ x + y < 0 := by
    have a1 : T < 0 ↔ T * ((2 ^ b : Nat) : Int) < 0 := ⟨fun h => Int.mul_neg_of_neg_of_pos h hp, fun h => neg_of h hp⟩
    have a2 : x + y < 0 ↔ (x + y) * (unit : Int) < 0 := ⟨fun h => Int.mul_neg_of_neg_of_pos h hu', fun h => neg_of h hu'⟩
    rw [a1, a2, f3]
  refine out_whole hb ?_ ?_
  · by_cases h0 : T = 0
    · rw [if_pos h0]
      have h1 := z1.1 h0
      rw [decide_eq_false (by omega)]
      by_cases hx0 : x = 0
      · exact hst hx0 (by omega)
      · rw [hs hx0, ht (by omega)]
        by_cases hx1 : x < 0
        · rw [decide_eq_false (show ¬ y < 0 by omega)]; simp
        · rw [decide_eq_false hx1]; simp
    · rw [if_neg h0]; exact decide_eq_decide.2 z2
  · rw [show (-1074 + (b : Int) + 1074).toNat = b by omega, show (-(-1074 + (b : Int) + 1074)).toNat = 0 by omega, Nat.pow_zero, Nat.mul_one]
    have := congrArg Int.natAbs f3
    rw [Int.natAbs_mul, Int.natAbs_mul, Int.natAbs_natCast, Int.natAbs_natCast] at this
    exact this

theorem add_whole {a b x y : Int} (ha : Whole a x) (hb : Whole b y) (h : (x + y).natAbs < 9007199254740992) : fbin .add a b = fromInt (x + y) := by
  obtain ⟨m, k, e1, e2, _, _⟩ := whole_rd ha
  obtain ⟨n, l, f1, f2, _, _⟩ := whole_rd hb
  rw [fadd_out, e1, f1]
  refine sum_whole e2 f2 (fun _ => rfl) (fun _ => rfl) ?_ h
  intro h1 _; subst h1; rfl
theorem sub_whole {a b x y : Int} (ha : Whole a x) (hb : Whole b y) (h : (x - y).natAbs < 9007199254740992) : fbin .sub a b = fromInt (x - y) := by
  obtain ⟨m, k, e1, e2, _, _⟩ := whole_rd ha
  obtain ⟨n, l, f1, f2, _, _⟩ := whole_rd hb
  rw [fsub_out, e1, f1]
  simp only [Datum.opposite]
  have e : x - y = x + -y := by omega
  rw [e] at h ⊢
  refine sum_whole e2 (by rw [Int.natAbs_neg]; exact f2) (fun _ => rfl) ?_ ?_ h
  · intro hy
    by_cases h1 : y < 0
    · simp [h1]; omega
    · simp [h1]; omega
  · intro h1 _; subst h1; rfl
theorem mul_whole {a b x y : Int} (ha : Whole a x) (hb : Whole b y) (hx : x ≠ 0) (hy : y ≠ 0) (h : (x * y).natAbs < 9007199254740992) : fbin .mul a b = fromInt (x * y) := by
  obtain ⟨m, k, e1, e2, _, _⟩ := whole_rd ha
  obtain ⟨n, l, f1, f2, _, _⟩ := whole_rd hb
  rw [fmul_out, e1, f1]
  simp only [Datum.product]
  refine out_whole h ?_ ?_
  · have : x * y < 0 ↔ (x < 0 ∧ 0 < y ∨ 0 < x ∧ y < 0) := by
      constructor
      · intro hlt
        rcases Int.lt_or_gt_of_ne hx with h1 | h1 <;> rcases Int.lt_or_gt_of_ne hy with h2 | h2
        · have := Int.mul_pos_of_neg_of_neg h1 h2; omega
        · omega
        · omega
        · have := Int.mul_pos h1 h2; omega
      · rintro (⟨h1, h2⟩ | ⟨h1, h2⟩)
        · exact Int.mul_neg_of_neg_of_pos h1 h2
        · exact Int.mul_neg_of_pos_of_neg h1 h2
    rw [Bool.eq_iff_iff, decide_eq_true_iff, this]
    by_cases h1 : x < 0 <;> by_cases h2 : y < 0 <;> simp [h1, h2] <;> omega
  · have e3 : m * 2 ^ k * (n * 2 ^ l) = (x * y).natAbs * unit * unit := by
      rw [e2, f2, Int.natAbs_mul]
      rw [Nat.mul_assoc, Nat.mul_assoc (x.natAbs * y.natAbs), Nat.mul_assoc x.natAbs, ← Nat.mul_assoc unit, ← Nat.mul_assoc y.natAbs, Nat.mul_comm unit y.natAbs]
    have e4 : m * n * 2 ^ (k + l) = (x * y).natAbs * unit * unit := by
      rw [← e3, Nat.pow_add, Nat.mul_assoc m n, Nat.mul_assoc m (2 ^ k), ← Nat.mul_assoc n, Nat.mul_comm n (2 ^ k), Nat.mul_assoc (2 ^ k)]
    rw [unit_eq] at e4 ⊢
    generalize (x * y).natAbs = A at *
    have ep : -1074 + (k : Int) + (-1074 + (l : Int)) + 1074 = (k : Int) + l - eU := by show _ = (k : Int) + l - ((1074 : Nat) : Int); omega
    rw [ep]
    rcases Nat.le_total eU (k + l) with hc | hc
    · rw [show ((k : Int) + l - eU).toNat = k + l - eU by omega, show (-((k : Int) + l - eU)).toNat = 0 by omega, Nat.pow_zero, Nat.mul_one]
      rw [show k + l = k + l - eU + eU by omega, Nat.pow_add 2 (k + l - eU) eU, ← Nat.mul_assoc] at e4
      exact Nat.eq_of_mul_eq_mul_right (Nat.two_pow_pos eU) e4
    · rw [show ((k : Int) + l - eU).toNat = 0 by omega, show (-((k : Int) + l - eU)).toNat = eU - (k + l) by omega, Nat.pow_zero, Nat.mul_one]
      have e5 : m * n * 2 ^ (k + l) = A * 2 ^ eU * 2 ^ (eU - (k + l)) * 2 ^ (k + l) := by
        rw [e4, Nat.mul_assoc (A * 2 ^ eU), ← Nat.pow_add, show eU - (k + l) + (k + l) = eU by omega]
      exact Nat.eq_of_mul_eq_mul_right (Nat.two_pow_pos (k + l)) e5
end Go.Proofs.Ytifpmhaddajcnaa
