/- Plain facts of the words' floats: what the four operations give at signs, noughts, infinities, and at what is no number. -/
import Derived.Test.YtifpmhaddajcnaaFacts
namespace Go.Proofs.Ytifpmhaddajcnaa
open Fm Go.RowKit Go.ChangeShapes Ieee

/-- a word's datum, off its sign and its rung -/
def rd (s : Bool) (r : Nat) : Datum :=
  if r < 4503599627370496 then .number s r (-1074)
  else if r < 9218868437227405312 then .number s (4503599627370496 + r % 4503599627370496) (-1074 + (r / 4503599627370496 - 1 : Nat))
  else if r = 9218868437227405312 then .infinity s else .nan s (r - 9218868437227405312)
theorem read_rd (n : Nat) : double.read n = rd (sg n) (rg n) := by
  unfold Format.read rd
  simp only [signWeight_d, binade_d, infRung_d, least_d]
  rfl
theorem rd_opp (s : Bool) (r : Nat) : rd (!s) r = (rd s r).opposite := by
  unfold rd
  repeat' split
  all_goals rfl
theorem rd_nan {s : Bool} {r : Nat} (h : 9218868437227405312 < r) : ∃ f, rd s r = .nan s f := by
  unfold rd
  rw [if_neg (by omega), if_neg (by omega), if_neg (by omega)]
  exact ⟨_, rfl⟩
theorem rd_inf (s : Bool) : rd s 9218868437227405312 = .infinity s := by
  unfold rd
  rw [if_neg (by omega), if_neg (by omega), if_pos rfl]
theorem rd_num {s : Bool} {r : Nat} (h : r < 9218868437227405312) : ∃ (m k : Nat), rd s r = .number s m (-1074 + (k : Int)) ∧ m * 2 ^ k = mg r ∧ m < 9007199254740992 ∧ (m = 0 ↔ r = 0) := by
  unfold rd
  by_cases h1 : r < 4503599627370496
  · rw [if_pos h1]
    refine ⟨r, 0, rfl, ?_, by omega, Iff.rfl⟩
    unfold mg; rw [if_pos h1]; simp
  · rw [if_neg h1, if_pos h]
    refine ⟨4503599627370496 + r % 4503599627370496, r / 4503599627370496 - 1, rfl, ?_, by omega, by omega⟩
    unfold mg; rw [if_neg h1]

/-- the word of a datum, or the NaN's -/
def out (o : Option Datum) : Int := match o with
  | some d => wrap64 (double.write d)
  | none => noneI

theorem bits_out {o : Option Datum} (ho : ∀ d, o = some d → d.isNaN = false) : bitsO (o.map double.write) = out o := by
  cases o with
  | none => rfl
  | some d =>
    show bitsN (double.write d) = _
    unfold bitsN
    rw [isN_write (ho d rfl), if_neg Bool.false_ne_true]; rfl

theorem fadd_out (a b : Int) : fbin .add a b = out ((rd (sg (ub a)) (rg (ub a))).sum (rd (sg (ub b)) (rg (ub b)))) := by
  rw [← read_rd, ← read_rd]; exact bits_out (fun _ h => sum_num h)
theorem fsub_out (a b : Int) : fbin .sub a b = out ((rd (sg (ub a)) (rg (ub a))).sum (rd (sg (ub b)) (rg (ub b))).opposite) := by
  rw [← read_rd, ← read_rd]; exact bits_out (fun _ h => sum_num h)
theorem fmul_out (a b : Int) : fbin .mul a b = out ((rd (sg (ub a)) (rg (ub a))).product (rd (sg (ub b)) (rg (ub b)))) := by
  rw [← read_rd, ← read_rd]; exact bits_out (fun _ h => product_num h)
theorem fdiv_out (a b : Int) : fbin .quo a b = out ((rd (sg (ub a)) (rg (ub a))).quotient 54 (rd (sg (ub b)) (rg (ub b)))) := by
  rw [← read_rd, ← read_rd]; exact bits_out (fun _ h => quotient_num h)

theorem fbin_wf (op : BinOp) (a b : Int) : (Lit.int .i64 (fbin op a b)).wf = true := by
  unfold fbin bitsO
  split
  · unfold bitsN; split
    · decide
    · exact wf_wrap64 _
  · decide

/-! what is no number -/
theorem isN_rg {a : Int} (h : isN (ub a) = true) : 9218868437227405312 < rg (ub a) := (isN_iff a).1 h
theorem fbin_nan_l (op : BinOp) (hop : op = .add ∨ op = .sub ∨ op = .mul ∨ op = .quo) {a : Int} (b : Int) (h : isN (ub a) = true) : fbin op a b = noneI := by
  obtain ⟨f, e⟩ := rd_nan (s := sg (ub a)) (isN_rg h)
  rcases hop with rfl | rfl | rfl | rfl
  · rw [fadd_out, e]; cases rd (sg (ub b)) (rg (ub b)) <;> rfl
  · rw [fsub_out, e]; cases rd (sg (ub b)) (rg (ub b)) <;> rfl
  · rw [fmul_out, e]; cases rd (sg (ub b)) (rg (ub b)) <;> rfl
  · rw [fdiv_out, e]; cases rd (sg (ub b)) (rg (ub b)) <;> rfl
theorem fbin_nan_r (op : BinOp) (hop : op = .add ∨ op = .sub ∨ op = .mul ∨ op = .quo) (a : Int) {b : Int} (h : isN (ub b) = true) : fbin op a b = noneI := by
  obtain ⟨f, e⟩ := rd_nan (s := sg (ub b)) (isN_rg h)
  rcases hop with rfl | rfl | rfl | rfl
  · rw [fadd_out, e]; cases rd (sg (ub a)) (rg (ub a)) <;> rfl
  · rw [fsub_out, e]; cases rd (sg (ub a)) (rg (ub a)) <;> rfl
  · rw [fmul_out, e]; cases rd (sg (ub a)) (rg (ub a)) <;> rfl
  · rw [fdiv_out, e]; cases rd (sg (ub a)) (rg (ub a)) <;> rfl
theorem fmax_nan {a b : Int} (h : isN (ub a) = true ∨ isN (ub b) = true) : fmax a b = noneI := by
  unfold fmax; rw [if_pos (by rcases h with h | h <;> rw [h] <;> simp)]
theorem fless_nan {a b : Int} (h : isN (ub a) = true ∨ isN (ub b) = true) : fless a b = 2 := by
  unfold fless; rw [if_pos (by rcases h with h | h <;> rw [h] <;> simp)]
theorem fless_num {a b : Int} (h1 : isN (ub a) = false) (h2 : isN (ub b) = false) : fless a b = if key (ub a) < key (ub b) then 1 else 0 := by
  unfold fless; rw [h1, h2]; rfl
theorem fmax_num {a b : Int} (h1 : isN (ub a) = false) (h2 : isN (ub b) = false) : fmax a b = if (key (ub a) = key (ub b) ∧ a < 0) ∨ key (ub a) < key (ub b) then b else a := by
  unfold fmax; rw [h1, h2]; rfl
theorem class_none : fclass noneI = 0 := by decide

/-! signs -/
theorem sum_comm (x y : Datum) : x.sum y = y.sum x := by
  cases x <;> cases y <;> try rfl
  · simp only [Datum.sum]
    rename_i s m i t n j
    rw [Int.min_comm j i, Int.add_comm, Bool.and_comm]
  · simp only [Datum.sum]
    rename_i s t
    cases s <;> cases t <;> rfl
theorem product_comm (x y : Datum) : x.product y = y.product x := by
  cases x <;> cases y <;> try rfl
  · simp only [Datum.product]
    rename_i s m i t n j
    rw [Bool.xor_comm, Nat.mul_comm, Int.add_comm]
  · simp only [Datum.product]
    rename_i s t
    rw [Bool.xor_comm]
theorem fadd_comm (a b : Int) : fbin .add a b = fbin .add b a := by rw [fadd_out, fadd_out, sum_comm]
theorem fmul_comm (a b : Int) : fbin .mul a b = fbin .mul b a := by rw [fmul_out, fmul_out, product_comm]

theorem write_word (d : Datum) (h : d.isNaN = false) : ∃ r, r ≤ 9218868437227405312 ∧ double.write d = double.word d.neg r ∧ double.write d.opposite = double.word (!d.neg) r := by
  cases d with
  | number s m p =>
    obtain ⟨q, rfl⟩ : ∃ q : Int, p = -1074 + q := ⟨p + 1074, by omega⟩
    exact ⟨min (nr m q) 9218868437227405312, Nat.min_le_right _ _, write_num s m q, write_num (!s) m q⟩
  | infinity s => exact ⟨9218868437227405312, Nat.le_refl _, by rw [← infRung_d]; rfl, by rw [← infRung_d]; rfl⟩
  | nan s f => simp [Datum.isNaN] at h

theorem wrap_word (s : Bool) {r : Nat} (h : r < 9223372036854775808) : wrap64 (double.word s r) = if s then (r : Int) - 9223372036854775808 else r := by
  cases s
  · rw [wrap_word_pos h]; rfl
  · rw [wrap_word_neg h]; rfl

theorem out_neg {d : Datum} (h : d.isNaN = false) : out (some d) < 0 ↔ d.neg = true := by
  obtain ⟨r, hr, e, _⟩ := write_word d h
  show wrap64 (double.write d) < 0 ↔ _
  rw [e, wrap_word _ (by omega)]
  cases d.neg <;> simp <;> omega
theorem out_opp {d : Datum} (h : d.isNaN = false) : out (some d.opposite) = flip (out (some d)) := by
  obtain ⟨r, hr, e, e2⟩ := write_word d h
  show wrap64 (double.write d.opposite) = flip (wrap64 (double.write d))
  rw [e, e2, wrap_word _ (by omega), wrap_word _ (by omega)]
  unfold flip
  cases d.neg <;> simp <;> omega
theorem out_class {d : Datum} (h : d.isNaN = false) : fclass (out (some d)) ≠ 0 := by
  obtain ⟨r, hr, e, _⟩ := write_word d h
  show fclass (wrap64 (double.write d)) ≠ 0
  rw [e]
  intro hc
  rw [fclass_nan, ub_wrap (word_lt _ (by omega)), isN_word hr] at hc
  exact absurd hc (by decide)

theorem product_opp (x y : Datum) : x.opposite.product y = (x.product y).map Datum.opposite := by
  cases x with
  | nan => cases y <;> rfl
  | infinity s =>
    cases y with
    | nan => rfl
    | infinity t => cases s <;> cases t <;> rfl
    | number t n j => simp only [Datum.product, Datum.opposite]; split <;> cases s <;> cases t <;> rfl
  | number s m i =>
    cases y with
    | nan => rfl
    | infinity t => simp only [Datum.product, Datum.opposite]; split <;> cases s <;> cases t <;> rfl
    | number t n j => cases s <;> cases t <;> rfl

theorem product_neg {x y d : Datum} (h : x.product y = some d) : d.neg = (x.neg ^^ y.neg) := by
  cases x <;> cases y <;> simp [Datum.product] at h
  all_goals first
    | (subst h; rfl)
    | (obtain ⟨_, rfl⟩ := h; simp [Datum.neg, Bool.xor_comm])

theorem rd_neg (s : Bool) (r : Nat) : (rd s r).neg = s := by
  unfold rd
  repeat' split
  all_goals rfl

theorem fmul_some {a b : Int} (h : fclass (fbin .mul a b) ≠ 0) : ∃ d, (rd (sg (ub a)) (rg (ub a))).product (rd (sg (ub b)) (rg (ub b))) = some d ∧ fbin .mul a b = out (some d) ∧ d.isNaN = false := by
  cases e : (rd (sg (ub a)) (rg (ub a))).product (rd (sg (ub b)) (rg (ub b))) with
  | none => rw [fmul_out, e] at h; exact absurd class_none h
  | some d => exact ⟨d, rfl, by rw [fmul_out, e], product_num e⟩

theorem fmul_sign {a b : Int} (wa : (Lit.int .i64 a).wf = true) (wb : (Lit.int .i64 b).wf = true) (h : fclass (fbin .mul a b) ≠ 0) : decide (fbin .mul a b < 0) = (decide (a < 0) != decide (b < 0)) := by
  obtain ⟨d, e, e2, e3⟩ := fmul_some h
  have h1 := product_neg e
  rw [rd_neg, rd_neg, neg_ub wa, neg_ub wb] at h1
  have h2 := out_neg e3
  rw [← e2] at h2
  rw [Bool.eq_iff_iff, decide_eq_true_iff, h2, h1]

theorem fmul_flip {a b : Int} (wa : (Lit.int .i64 a).wf = true) (h : fclass (fbin .mul a b) ≠ 0) : fbin .mul (flip a) b = flip (fbin .mul a b) := by
  obtain ⟨d, e, e2, e3⟩ := fmul_some h
  rw [e2, fmul_out, sg_flip wa, rg_flip wa, rd_opp, product_opp, e, ← out_opp e3]
  rfl

theorem fmul_none {a b : Int} (h1 : isN (ub a) = false) (h2 : isN (ub b) = false) (h : fclass (fbin .mul a b) = 0) : (fclass a = 4 ∧ fclass b = 1) ∨ (fclass a = 1 ∧ fclass b = 4) := by
  rw [fclass_zero, fclass_zero, fclass_inf, fclass_inf]
  have g1 : ¬ 9218868437227405312 < rg (ub a) := fun hh => by rw [← isN_iff, h1] at hh; exact absurd hh (by decide)
  have g2 : ¬ 9218868437227405312 < rg (ub b) := fun hh => by rw [← isN_iff, h2] at hh; exact absurd hh (by decide)
  have some_no : ∀ d : Datum, d.isNaN = false → fbin .mul a b = out (some d) → False := fun d hd e => out_class hd (by rw [← e]; exact h)
  by_cases i1 : rg (ub a) = 9218868437227405312
  · by_cases i2 : rg (ub b) = 9218868437227405312
    · exfalso
      refine some_no (.infinity (sg (ub a) ^^ sg (ub b))) rfl ?_
      rw [fmul_out, i1, i2, rd_inf, rd_inf]; rfl
    · obtain ⟨n, l, f1, _, _, f4⟩ := rd_num (s := sg (ub b)) (r := rg (ub b)) (by omega)
      by_cases z : rg (ub b) = 0
      · exact Or.inr ⟨i1, z⟩
      · exfalso
        refine some_no (.infinity (sg (ub a) ^^ sg (ub b))) rfl ?_
        rw [fmul_out, i1, rd_inf, f1]
        simp only [Datum.product]
        rw [if_neg (by omega)]
  · obtain ⟨m, k, e1, _, _, e4⟩ := rd_num (s := sg (ub a)) (r := rg (ub a)) (by omega)
    by_cases i2 : rg (ub b) = 9218868437227405312
    · by_cases z : rg (ub a) = 0
      · exact Or.inl ⟨z, i2⟩
      · exfalso
        refine some_no (.infinity (sg (ub b) ^^ sg (ub a))) rfl ?_
        rw [fmul_out, i2, rd_inf, e1]
        simp only [Datum.product]
        rw [if_neg (by omega)]
    · obtain ⟨n, l, f1, _, _, f4⟩ := rd_num (s := sg (ub b)) (r := rg (ub b)) (by omega)
      exfalso
      refine some_no (.number (sg (ub a) ^^ sg (ub b)) (m * n) (-1074 + (k : Int) + (-1074 + (l : Int)))) rfl ?_
      rw [fmul_out, e1, f1]; rfl
end Go.Proofs.Ytifpmhaddajcnaa
