/- Contracts of the functions of chapter 6. -/
import Derived.Test.YtiakonmamkfopaaProg
import Derived.WalkKit
import Derived.WalkLawsBesides
import Derived.Lib.Hide
import Derived.Deep.Draws
import Derived.StillTailTactics
import Derived.Below
import Derived.OpenShut
namespace Go.Proofs.Ytiakonmamkfopaa
open Go.RowKit Go.ChangeShapes
set_option linter.unusedVariables false
set_option maxRecDepth 100000
theorem below_drew {B : Nat} {a w : World} (h : Below B a w) : Below B a w.drew := ⟨h.os, h.tape, h.output, h.size, h.block⟩
/-- a region that reads, calls quietly, and then does what stands behind its first n operations: 'wp_region_still_tail', the world spelled as the walk has it -/
theorem still_tail {P : Program} {id : Nat} {Q : Exit → Act → World → Prop} {a : Act} {w : World} {l : List Oper} (n : Nat) (hm : P.follows .mixedOrders = true) (hB : Region.lexTailB .any l.toArray n = true)
    (h : wpStill P l.toArray w.drew (fun a' => wpList P l.toArray Q (l.drop n) a' w.drew) (l.take n) a) : (Code.region id l.toArray true).wp P Q a w :=
  wp_region_still_tail n hm hB h
theorem tmod_facts (x n : Int) (h1 : 0 < n) : -n < x.tmod n ∧ x.tmod n < n ∧ (x.tmod n < 0 → x % n = x.tmod n + n) ∧ (0 ≤ x.tmod n → x % n = x.tmod n) := by
  have a1 := Int.emod_nonneg x (show n ≠ 0 by omega)
  have a2 := Int.emod_lt_of_pos x h1
  rcases Int.le_total 0 x with hx | hx
  · rw [Int.tmod_eq_emod_of_nonneg hx]; exact ⟨by omega, a2, fun h => by omega, fun _ => rfl⟩
  · have e : x.tmod n = -((-x) % n) := by
      have h := Int.neg_tmod (-x) n
      rw [Int.neg_neg] at h
      rw [h, Int.tmod_eq_emod_of_nonneg (by omega)]
    have b1 := Int.emod_nonneg (-x) (show n ≠ 0 by omega)
    have b2 := Int.emod_lt_of_pos (-x) h1
    have b4 := Int.emod_add_mul_ediv (-x) n
    rw [e]
    by_cases hz : (-x) % n = 0
    · have : x % n = 0 := by
        have := Int.dvd_of_emod_eq_zero hz
        exact Int.emod_eq_zero_of_dvd (Int.dvd_neg.1 this)
      exact ⟨by omega, by omega, fun h => by omega, fun h => by omega⟩
    · refine ⟨by omega, by omega, fun h => ?_, fun h => by omega⟩
      have : x = (-((-x) % n) + n) + n * (-((-x) / n) - 1) := by
        have : n * (-((-x) / n) - 1) = -(n * ((-x) / n)) - n := by rw [Int.mul_sub, Int.mul_neg, Int.mul_one]
        omega
      have h2 : x % n = (-((-x) % n) + n) % n := by
        conv => lhs; rw [this]
        rw [Int.add_mul_emod_self_left]
      rw [h2, Int.emod_eq_of_lt (by omega) (by omega)]
theorem within_ok (x n : Int) (h1 : 0 < n) (h2 : n ≤ 1073741824) (w : World) : Calls Try.prog 53 #[.int .i64 x, .int .i64 n] w fun e w' => e = .returned (.int .i64 (x % n)) ∧ w = w' := by
  have hz : (n == 0) = false := by simp; omega
  obtain ⟨f1, f2, f3, f4⟩ := tmod_facts x n h1
  obtain ⟨t, ht⟩ : ∃ t, x.tmod n = t := ⟨_, rfl⟩
  rw [ht] at f1 f2 f3 f4
  by_cases h : t < 0
  · have H := Lib.hid (f3 h)
    clear f3 f4
    go_enter Try.func53, Try.ntmps53
    go_wp2
    go_ret
    exact ⟨by rw [H.out]; rfl, rfl⟩
  · have H := Lib.hid (f4 (by omega))
    clear f3 f4
    go_enter Try.func53, Try.ntmps53
    go_wp2
    go_ret
    exact ⟨by rw [H.out]; rfl, rfl⟩
theorem within_still (x n y : Int) (h1 : 0 < n) (h2 : n ≤ 1073741824) (h : Hid (x % n = y)) (w : World) : Calls Try.prog 53 #[.int .i64 x, .int .i64 n] w fun e w' => e = .returned (.int .i64 y) ∧ w' = w :=
  (within_ok x n h1 h2 w).mono fun _ _ ⟨a, b⟩ => ⟨by rw [a, h.out], b.symm⟩
theorem Good_ok (r1 r2 r3 g : Int) (w : World) : Calls Try.prog 37 #[.agg #[.int .i64 r1, .int .i64 r2, .int .i64 r3, .int .i64 g]] w fun e w' =>
    e = .returned (.agg #[.int .i64 (r1 % 8), .int .i64 (r1 % 8 + r2 % (8 - r1 % 8)), .int .i64 (r1 % 8 + r2 % (8 - r1 % 8) + r3 % (8 - (r1 % 8 + r2 % (8 - r1 % 8)))), .int .i64 (g % 17)]) ∧ Below w.heap.size w w' := by
  obtain ⟨a, ha⟩ : ∃ a, r1 % 8 = a := ⟨_, rfl⟩
  have a1 := Int.emod_nonneg r1 (show (8 : Int) ≠ 0 by decide)
  have a2 := Int.emod_lt_of_pos r1 (show (0 : Int) < 8 by decide)
  rw [ha] at a1 a2 ⊢
  obtain ⟨b, hb⟩ : ∃ b, r2 % (8 - a) = b := ⟨_, rfl⟩
  have b1 := Int.emod_nonneg r2 (show (8 - a : Int) ≠ 0 by omega)
  have b2 := Int.emod_lt_of_pos r2 (show (0 : Int) < 8 - a by omega)
  rw [hb] at b1 b2 ⊢
  obtain ⟨c, hc⟩ : ∃ c, r3 % (8 - (a + b)) = c := ⟨_, rfl⟩
  have c1 := Int.emod_nonneg r3 (show (8 - (a + b) : Int) ≠ 0 by omega)
  have c2 := Int.emod_lt_of_pos r3 (show (0 : Int) < 8 - (a + b) by omega)
  rw [hc] at c1 c2 ⊢
  have H1 := Lib.hid ha
  have H2 := Lib.hid hb
  have H3 := Lib.hid hc
  clear ha hb hc
  go_enter Try.func37, Try.ntmps37
  go_wp2_with (go_at_call 53; refine (within_ok _ _ (by omega) (by omega) _).mono ?_; rintro e w' ⟨rfl, rfl⟩; rw [H1.out])
  refine still_tail 10 (by kernel_rfl) (by kernel_rfl) ?_
  simp only [List.take_succ_cons, List.take_zero, List.drop_succ_cons, List.drop_zero]
  have q1 := IntWalk.i64_in (8 - a) (by omega)
  have q2 := IntWalk.i64_in (a + b) (by omega)
  repeat still_step
  still_call (within_still r2 (8 - a) b (by omega) (by omega) H2 _)
  repeat still_step
  refine wpStill_nil ?_
  clear q1 q2
  go_wp2
  refine still_tail 10 (by kernel_rfl) (by kernel_rfl) ?_
  simp only [List.take_succ_cons, List.take_zero, List.drop_succ_cons, List.drop_zero]
  have q3 := IntWalk.i64_in (8 - (a + b)) (by omega)
  have q4 := IntWalk.i64_in (a + b + c) (by omega)
  repeat still_step
  still_call (within_still r3 (8 - (a + b)) c (by omega) (by omega) H3 _)
  repeat still_step
  refine wpStill_nil ?_
  clear q3 q4
  go_wp2_with (go_at_call 53; refine (within_ok _ _ (by omega) (by omega) _).mono ?_; rintro e w' ⟨rfl, rfl⟩)
  exact bodyPost_ret (v := .agg #[.int .i64 a, .int .i64 (a + b), .int .i64 (a + b + c), .int .i64 (g % 17)]) (by simp [results, Try.results37, go_sem]) rfl ⟨rfl, by repeat (first | exact Below.refl _ _ | refine below_drew ?_ | refine Below.alloc ?_ (by simp <;> omega) _)⟩
def mayRead (r2 r : Int) : Bool := decide (0 ≤ r ∧ r ≤ 7 ∧ r ≤ r2)
def mayExec (r1 r2 r : Int) : Bool := decide (0 ≤ r ∧ r ≤ 7 ∧ r1 ≤ r ∧ r ≤ r2)
def callTo (r1 r2 r3 g off r : Int) : Int := if off < 0 ∨ 15 < off ∨ r < 0 ∨ 7 < r ∨ r3 < r then 0 else if r < r1 then r1 else if r ≤ r2 then r else if g ≤ off then 0 else r2
def callE (r1 r2 r3 g off r : Int) : Int := if off < 0 ∨ 15 < off ∨ r < 0 ∨ 7 < r ∨ r3 < r then 34 else if r < r1 then 0 else if r ≤ r2 then 0 else if g ≤ off then 34 else 0
theorem c_MayRead (r1 r2 r3 g r : Int) (w : World) : Calls Try.prog 79 #[.agg #[.int .i64 r1, .int .i64 r2, .int .i64 r3, .int .i64 g], .int .i64 r] w fun e w' => e = .returned (.bool (mayRead r2 r)) ∧ Below w.heap.size w w' := by
  go_enter Try.func79, Try.ntmps79
  go_wp2
  all_goals
    try simp only [Bool.not_eq_true', decide_eq_false_iff_not, Bool.not_eq_false', decide_eq_true_eq] at *
    go_ret
    refine ⟨congrArg (fun x => Ending.returned (.bool x)) ?_, by repeat (first | exact Below.refl _ _ | refine below_drew ?_ | refine Below.alloc ?_ (by simp <;> omega) _)⟩
    unfold mayRead
    first
    | exact (decide_eq_true (by omega)).symm
    | exact (decide_eq_false (by omega)).symm
    | exact decide_eq_decide.2 (by omega)
theorem c_MayWrite (r1 r2 r3 g r : Int) (w : World) : Calls Try.prog 80 #[.agg #[.int .i64 r1, .int .i64 r2, .int .i64 r3, .int .i64 g], .int .i64 r] w fun e w' => e = .returned (.bool (mayRead r1 r)) ∧ Below w.heap.size w w' := by
  go_enter Try.func80, Try.ntmps80
  go_wp2
  all_goals
    try simp only [Bool.not_eq_true', decide_eq_false_iff_not, Bool.not_eq_false', decide_eq_true_eq] at *
    go_ret
    refine ⟨congrArg (fun x => Ending.returned (.bool x)) ?_, by repeat (first | exact Below.refl _ _ | refine below_drew ?_ | refine Below.alloc ?_ (by simp <;> omega) _)⟩
    unfold mayRead
    first
    | exact (decide_eq_true (by omega)).symm
    | exact (decide_eq_false (by omega)).symm
    | exact decide_eq_decide.2 (by omega)
theorem c_MayExec (r1 r2 r3 g r : Int) (w : World) : Calls Try.prog 68 #[.agg #[.int .i64 r1, .int .i64 r2, .int .i64 r3, .int .i64 g], .int .i64 r] w fun e w' => e = .returned (.bool (mayExec r1 r2 r)) ∧ Below w.heap.size w w' := by
  go_enter Try.func68, Try.ntmps68
  go_wp2
  all_goals
    try simp only [Bool.not_eq_true', decide_eq_false_iff_not, Bool.not_eq_false', decide_eq_true_eq] at *
    go_ret
    refine ⟨congrArg (fun x => Ending.returned (.bool x)) ?_, by repeat (first | exact Below.refl _ _ | refine below_drew ?_ | refine Below.alloc ?_ (by simp <;> omega) _)⟩
    unfold mayExec
    first
    | exact (decide_eq_true (by omega)).symm
    | exact (decide_eq_false (by omega)).symm
    | exact decide_eq_decide.2 (by omega)
theorem r_MayRead (r1 r2 r3 g r : Int) (w : World) : Calls Try.prog 72 #[.agg #[.int .i64 r1, .int .i64 r2, .int .i64 r3, .int .i64 g], .int .i64 r] w fun e w' => e = .returned (.bool (mayRead r2 r)) ∧ Below w.heap.size w w' := by
  go_enter Try.func72, Try.ntmps72
  go_wp2
  all_goals
    try simp only [Bool.not_eq_true', decide_eq_false_iff_not, Bool.not_eq_false', decide_eq_true_eq] at *
    go_ret
    refine ⟨congrArg (fun x => Ending.returned (.bool x)) ?_, by repeat (first | exact Below.refl _ _ | refine below_drew ?_ | refine Below.alloc ?_ (by simp <;> omega) _)⟩
    unfold mayRead
    first
    | exact (decide_eq_true (by omega)).symm
    | exact (decide_eq_false (by omega)).symm
    | exact decide_eq_decide.2 (by omega)
theorem r_MayWrite (r1 r2 r3 g r : Int) (w : World) : Calls Try.prog 47 #[.agg #[.int .i64 r1, .int .i64 r2, .int .i64 r3, .int .i64 g], .int .i64 r] w fun e w' => e = .returned (.bool (mayRead r1 r)) ∧ Below w.heap.size w w' := by
  go_enter Try.func47, Try.ntmps47
  go_wp2
  all_goals
    try simp only [Bool.not_eq_true', decide_eq_false_iff_not, Bool.not_eq_false', decide_eq_true_eq] at *
    go_ret
    refine ⟨congrArg (fun x => Ending.returned (.bool x)) ?_, by repeat (first | exact Below.refl _ _ | refine below_drew ?_ | refine Below.alloc ?_ (by simp <;> omega) _)⟩
    unfold mayRead
    first
    | exact (decide_eq_true (by omega)).symm
    | exact (decide_eq_false (by omega)).symm
    | exact decide_eq_decide.2 (by omega)
theorem r_MayExec (r1 r2 r3 g r : Int) (w : World) : Calls Try.prog 71 #[.agg #[.int .i64 r1, .int .i64 r2, .int .i64 r3, .int .i64 g], .int .i64 r] w fun e w' => e = .returned (.bool (mayExec r1 r2 r)) ∧ Below w.heap.size w w' := by
  go_enter Try.func71, Try.ntmps71
  go_wp2
  all_goals
    try simp only [Bool.not_eq_true', decide_eq_false_iff_not, Bool.not_eq_false', decide_eq_true_eq] at *
    go_ret
    refine ⟨congrArg (fun x => Ending.returned (.bool x)) ?_, by repeat (first | exact Below.refl _ _ | refine below_drew ?_ | refine Below.alloc ?_ (by simp <;> omega) _)⟩
    unfold mayExec
    first
    | exact (decide_eq_true (by omega)).symm
    | exact (decide_eq_false (by omega)).symm
    | exact decide_eq_decide.2 (by omega)
set_option maxHeartbeats 800000 in
theorem c_Call (r1 r2 r3 g off r : Int) (w : World) : Calls Try.prog 84 #[.agg #[.int .i64 r1, .int .i64 r2, .int .i64 r3, .int .i64 g], .int .i64 off, .int .i64 r] w fun e w' => e = .returned (.tuple #[.int .i64 (callTo r1 r2 r3 g off r), .int .i64 (callE r1 r2 r3 g off r)]) ∧ Below w.heap.size w w' := by
  go_enter Try.func84, Try.ntmps84
  go_wp2
  all_goals
    try simp only [Bool.not_eq_true', decide_eq_false_iff_not, Bool.not_eq_false', decide_eq_true_eq] at *
    go_ret2
    refine ⟨congrArg (fun x : Int × Int => Ending.returned (.tuple #[.int .i64 x.1, .int .i64 x.2])) (a₁ := (_, _)) (a₂ := (_, _)) (Prod.ext ?_ ?_), by repeat (first | exact Below.refl _ _ | refine below_drew ?_ | refine Below.alloc ?_ (by simp <;> omega) _)⟩
    · show _ = callTo r1 r2 r3 g off r
      unfold callTo
      repeat' split
      all_goals first | rfl | (exfalso; omega)
    · show _ = callE r1 r2 r3 g off r
      unfold callE
      repeat' split
      all_goals first | rfl | (exfalso; omega)
end Go.Proofs.Ytiakonmamkfopaa
