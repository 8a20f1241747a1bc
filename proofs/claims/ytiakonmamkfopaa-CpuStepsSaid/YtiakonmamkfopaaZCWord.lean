/- Contracts of the functions of package word and of its reference: what each call answers, as a plain function of the words. -/
import Derived.Test.YtiakonmamkfopaaProg
import Derived.Test.YtiakonmamkfopaaZFl
import Derived.WalkLawsBesides
import Derived.Lib.Hide
import Derived.Deep.Draws
namespace Go.Proofs.Ytiakonmamkfopaa
open Go.RowKit Go.ChangeShapes Fm
set_option linter.unusedVariables false
theorem x_frombits (n : Int) (w : World) : (callFunc 76 #[.int .u64 n]).run Try.prog w = .ok (.value (.float .f64 n.toNat)) w := by
  rw [run_callFunc_extern (fn := Try.f76) (e := Extern.MathFloatBits.float64frombits) (by kernel_rfl) (by kernel_rfl) (by kernel_rfl) (by kernel_rfl) (by kernel_rfl)]
  rfl
theorem x_bits (n : Nat) (w : World) : (callFunc 75 #[.float .f64 n]).run Try.prog w = .ok (.value (.int .u64 n)) w := by
  rw [run_callFunc_extern (fn := Try.f75) (e := Extern.MathFloatBits.float64bits) (by kernel_rfl) (by kernel_rfl) (by kernel_rfl) (by kernel_rfl) (by kernel_rfl)]
  rfl
attribute [local go_sem] x_frombits x_bits
/-- what the tape gives where an operation is invalid: the bits of a NaN -/
def nanOf (w : World) (x y : Nat) : Nat := (Question.nanBits .f64 x y).cut (w.tape w.drawn (.nanBits .f64 x y))
theorem run_arith_none {P : Program} (w : World) (op : BinOp) (t : TypeId) (x y : Nat) (hop : op = .add ∨ op = .sub ∨ op = .mul ∨ op = .quo) (h : floatBits op .f64 x y = none) :
    (binOp op t (.float .f64 x) (.float .f64 y)).run P w = .ok (.float .f64 (nanOf w x y)) w.drew := by
  rcases hop with rfl | rfl | rfl | rfl <;> simp only [floatBits] at h <;> simp [binOp, Op.floatArith, h, Question.forced, nanOf]
theorem nanOf_nan (w : World) (x y : Nat) : isN (nanOf w x y) = true := by
  unfold isN rg
  refine decide_eq_true ?_
  simp only [nanOf, Question.cut]
  generalize w.tape w.drawn (Question.nanBits FloatKind.f64 x y) = t
  have h1 : t / 2 % (2 ^ 52 - 1) < 4503599627370495 := Nat.mod_lt _ (by decide)
  generalize t / 2 % (2 ^ 52 - 1) = m at *
  rcases Nat.mod_two_eq_zero_or_one t with e | e <;> rw [e] <;> omega
theorem bitsN_nanOf (w : World) (x y : Nat) : bitsN (nanOf w x y) = noneI := by
  unfold bitsN; rw [if_pos (nanOf_nan w x y)]
theorem c_float (a : Int) (w : World) : Calls Try.prog 82 #[.int .i64 a] w fun e w' => e = .returned (.float .f64 (ub a)) ∧ w = w' := by
  go_enter Try.func82, Try.ntmps82
  go_wp2
  go_ret
  exact ⟨rfl, rfl⟩
theorem c_bits (n : Nat) (w : World) : Calls Try.prog 81 #[.float .f64 n] w fun e w' => e = .returned (.int .i64 (bitsN n)) ∧ w = w' := by
  have h' : (FloatKind.f64.format.order n n != some .eq) = isN n := order_self n
  cases h : isN n
  · have e : bitsN n = wrap64 n := by unfold bitsN; rw [if_neg (by rw [h]; decide)]
    rw [h] at h'; clear h
    have H := Lib.hid e; clear e
    go_enter Try.func81, Try.ntmps81
    go_wp2
    go_ret
    exact ⟨by rw [H.out]; rfl, rfl⟩
  · have e : bitsN n = noneI := by unfold bitsN; rw [if_pos h]
    rw [h] at h'; clear h
    have H := Lib.hid e; clear e
    go_enter Try.func81, Try.ntmps81
    go_wp2
    go_ret
    exact ⟨by rw [H.out]; rfl, rfl⟩
theorem c_FAdd (a b : Int) (w : World) : Calls Try.prog 90 #[.int .i64 a, .int .i64 b] w fun e w' => e = .returned (.int .i64 (fbin .add a b)) ∧ ∃ n, w' = w.drewN n := by
  cases h : floatBits .add .f64 (ub a) (ub b) with
  | some r =>
    have e : fbin .add a b = bitsN r := by unfold fbin; rw [h]; rfl
    have H := Lib.hid e; clear e
    have hr := fun (W : World) => run_float_arith (P := Try.prog) W .add 115 .f64 (ub a) (ub b) r h
    clear h
    go_enter Try.func90, Try.ntmps90
    go_wp2_with (first | (go_at_call 82; refine (c_float _ _).mono ?_; rintro e w' ⟨rfl, rfl⟩) | (go_at_call 81; refine (c_bits _ _).mono ?_; rintro e w' ⟨rfl, rfl⟩))
    go_ret
    exact ⟨by rw [H.out]; rfl, 0, rfl⟩
  | none =>
    have e : fbin .add a b = noneI := by unfold fbin; rw [h]; rfl
    have H := Lib.hid e; clear e
    have hr := fun (W : World) => run_arith_none (P := Try.prog) W .add 115 (ub a) (ub b) (by decide) h
    clear h
    go_enter Try.func90, Try.ntmps90
    go_wp2_with (first | (go_at_call 82; refine (c_float _ _).mono ?_; rintro e w' ⟨rfl, rfl⟩) | (go_at_call 81; refine (c_bits _ _).mono ?_; rintro e w' ⟨rfl, rfl⟩))
    go_ret
    exact ⟨by rw [H.out, ← bitsN_nanOf w (ub a) (ub b)]; rfl, 1, rfl⟩
theorem c_FSub (a b : Int) (w : World) : Calls Try.prog 91 #[.int .i64 a, .int .i64 b] w fun e w' => e = .returned (.int .i64 (fbin .sub a b)) ∧ ∃ n, w' = w.drewN n := by
  cases h : floatBits .sub .f64 (ub a) (ub b) with
  | some r =>
    have e : fbin .sub a b = bitsN r := by unfold fbin; rw [h]; rfl
    have H := Lib.hid e; clear e
    have hr := fun (W : World) => run_float_arith (P := Try.prog) W .sub 115 .f64 (ub a) (ub b) r h
    clear h
    go_enter Try.func91, Try.ntmps91
    go_wp2_with (first | (go_at_call 82; refine (c_float _ _).mono ?_; rintro e w' ⟨rfl, rfl⟩) | (go_at_call 81; refine (c_bits _ _).mono ?_; rintro e w' ⟨rfl, rfl⟩))
    go_ret
    exact ⟨by rw [H.out]; rfl, 0, rfl⟩
  | none =>
    have e : fbin .sub a b = noneI := by unfold fbin; rw [h]; rfl
    have H := Lib.hid e; clear e
    have hr := fun (W : World) => run_arith_none (P := Try.prog) W .sub 115 (ub a) (ub b) (by decide) h
    clear h
    go_enter Try.func91, Try.ntmps91
    go_wp2_with (first | (go_at_call 82; refine (c_float _ _).mono ?_; rintro e w' ⟨rfl, rfl⟩) | (go_at_call 81; refine (c_bits _ _).mono ?_; rintro e w' ⟨rfl, rfl⟩))
    go_ret
    exact ⟨by rw [H.out, ← bitsN_nanOf w (ub a) (ub b)]; rfl, 1, rfl⟩
theorem c_FMul (a b : Int) (w : World) : Calls Try.prog 92 #[.int .i64 a, .int .i64 b] w fun e w' => e = .returned (.int .i64 (fbin .mul a b)) ∧ ∃ n, w' = w.drewN n := by
  cases h : floatBits .mul .f64 (ub a) (ub b) with
  | some r =>
    have e : fbin .mul a b = bitsN r := by unfold fbin; rw [h]; rfl
    have H := Lib.hid e; clear e
    have hr := fun (W : World) => run_float_arith (P := Try.prog) W .mul 115 .f64 (ub a) (ub b) r h
    clear h
    go_enter Try.func92, Try.ntmps92
    go_wp2_with (first | (go_at_call 82; refine (c_float _ _).mono ?_; rintro e w' ⟨rfl, rfl⟩) | (go_at_call 81; refine (c_bits _ _).mono ?_; rintro e w' ⟨rfl, rfl⟩))
    go_ret
    exact ⟨by rw [H.out]; rfl, 0, rfl⟩
  | none =>
    have e : fbin .mul a b = noneI := by unfold fbin; rw [h]; rfl
    have H := Lib.hid e; clear e
    have hr := fun (W : World) => run_arith_none (P := Try.prog) W .mul 115 (ub a) (ub b) (by decide) h
    clear h
    go_enter Try.func92, Try.ntmps92
    go_wp2_with (first | (go_at_call 82; refine (c_float _ _).mono ?_; rintro e w' ⟨rfl, rfl⟩) | (go_at_call 81; refine (c_bits _ _).mono ?_; rintro e w' ⟨rfl, rfl⟩))
    go_ret
    exact ⟨by rw [H.out, ← bitsN_nanOf w (ub a) (ub b)]; rfl, 1, rfl⟩
theorem c_FDiv (a b : Int) (w : World) : Calls Try.prog 93 #[.int .i64 a, .int .i64 b] w fun e w' => e = .returned (.int .i64 (fbin .quo a b)) ∧ ∃ n, w' = w.drewN n := by
  cases h : floatBits .quo .f64 (ub a) (ub b) with
  | some r =>
    have e : fbin .quo a b = bitsN r := by unfold fbin; rw [h]; rfl
    have H := Lib.hid e; clear e
    have hr := fun (W : World) => run_float_arith (P := Try.prog) W .quo 115 .f64 (ub a) (ub b) r h
    clear h
    go_enter Try.func93, Try.ntmps93
    go_wp2_with (first | (go_at_call 82; refine (c_float _ _).mono ?_; rintro e w' ⟨rfl, rfl⟩) | (go_at_call 81; refine (c_bits _ _).mono ?_; rintro e w' ⟨rfl, rfl⟩))
    go_ret
    exact ⟨by rw [H.out]; rfl, 0, rfl⟩
  | none =>
    have e : fbin .quo a b = noneI := by unfold fbin; rw [h]; rfl
    have H := Lib.hid e; clear e
    have hr := fun (W : World) => run_arith_none (P := Try.prog) W .quo 115 (ub a) (ub b) (by decide) h
    clear h
    go_enter Try.func93, Try.ntmps93
    go_wp2_with (first | (go_at_call 82; refine (c_float _ _).mono ?_; rintro e w' ⟨rfl, rfl⟩) | (go_at_call 81; refine (c_bits _ _).mono ?_; rintro e w' ⟨rfl, rfl⟩))
    go_ret
    exact ⟨by rw [H.out, ← bitsN_nanOf w (ub a) (ub b)]; rfl, 1, rfl⟩
theorem c_FLess (a b : Int) (w : World) : Calls Try.prog 94 #[.int .i64 a, .int .i64 b] w fun e w' => e = .returned (.int .i64 (fless a b)) ∧ w = w' := by
  have hx : (FloatKind.f64.format.order (ub a) (ub a) != some .eq) = isN (ub a) := order_self _
  have hy : (FloatKind.f64.format.order (ub b) (ub b) != some .eq) = isN (ub b) := order_self _
  cases h1 : isN (ub a) <;> cases h2 : isN (ub b)
  · have hz : (FloatKind.f64.format.order (ub a) (ub b) == some .lt) = decide (key (ub a) < key (ub b)) := by
      show (Ieee.double.order (ub a) (ub b) == some .lt) = _
      rw [order_ok h1 h2, compare_int]
      by_cases h : key (ub a) < key (ub b)
      · simp [h]
      · rw [if_neg h, decide_eq_false h]; split <;> rfl
    by_cases h : key (ub a) < key (ub b)
    · have e : fless a b = 1 := by unfold fless; rw [h1, h2, if_pos h]; rfl
      rw [decide_eq_true h] at hz; rw [h1] at hx; rw [h2] at hy
      clear h h1 h2
      have H := Lib.hid e; clear e
      go_enter Try.func94, Try.ntmps94
      go_wp2_with (first | (go_at_call 82; refine (c_float _ _).mono ?_; rintro e w' ⟨rfl, rfl⟩))
      go_ret
      exact ⟨by rw [H.out]; rfl, rfl⟩
    · have e : fless a b = 0 := by unfold fless; rw [h1, h2, if_neg h]; rfl
      rw [decide_eq_false h] at hz; rw [h1] at hx; rw [h2] at hy
      clear h h1 h2
      have H := Lib.hid e; clear e
      go_enter Try.func94, Try.ntmps94
      go_wp2_with (first | (go_at_call 82; refine (c_float _ _).mono ?_; rintro e w' ⟨rfl, rfl⟩))
      go_ret
      exact ⟨by rw [H.out]; rfl, rfl⟩
  all_goals
    have e : fless a b = 2 := by unfold fless; rw [h1, h2]; rfl
    rw [h1] at hx; rw [h2] at hy
    clear h1 h2
    have H := Lib.hid e; clear e
    go_enter Try.func94, Try.ntmps94
    go_wp2_with (first | (go_at_call 82; refine (c_float _ _).mono ?_; rintro e w' ⟨rfl, rfl⟩))
    go_ret
    exact ⟨by rw [H.out]; rfl, rfl⟩
theorem c_FromInt (a : Int) (w : World) : Calls Try.prog 57 #[.int .i64 a] w fun e w' => e = .returned (.int .i64 (fromInt a)) ∧ w = w' := by
  go_enter Try.func57, Try.ntmps57
  go_wp2_with (first | (go_at_call 81; refine (c_bits _ _).mono ?_; rintro e w' ⟨rfl, rfl⟩))
  go_ret
  exact ⟨rfl, rfl⟩
theorem r_float (a : Int) (w : World) : Calls Try.prog 52 #[.int .i64 a] w fun e w' => e = .returned (.float .f64 (ub a)) ∧ w = w' := by
  go_enter Try.func52, Try.ntmps52
  go_wp2
  go_ret
  exact ⟨rfl, rfl⟩
theorem r_bits (n : Nat) (w : World) : Calls Try.prog 51 #[.float .f64 n] w fun e w' => e = .returned (.int .i64 (bitsN n)) ∧ w = w' := by
  have h' : (FloatKind.f64.format.order n n != some .eq) = isN n := order_self n
  cases h : isN n
  · have e : bitsN n = wrap64 n := by unfold bitsN; rw [if_neg (by rw [h]; decide)]
    rw [h] at h'; clear h
    have H := Lib.hid e; clear e
    go_enter Try.func51, Try.ntmps51
    go_wp2
    go_ret
    exact ⟨by rw [H.out]; rfl, rfl⟩
  · have e : bitsN n = noneI := by unfold bitsN; rw [if_pos h]
    rw [h] at h'; clear h
    have H := Lib.hid e; clear e
    go_enter Try.func51, Try.ntmps51
    go_wp2
    go_ret
    exact ⟨by rw [H.out]; rfl, rfl⟩
theorem r_FAdd (a b : Int) (w : World) : Calls Try.prog 27 #[.int .i64 a, .int .i64 b] w fun e w' => e = .returned (.int .i64 (fbin .add a b)) ∧ ∃ n, w' = w.drewN n := by
  cases h : floatBits .add .f64 (ub a) (ub b) with
  | some r =>
    have e : fbin .add a b = bitsN r := by unfold fbin; rw [h]; rfl
    have H := Lib.hid e; clear e
    have hr := fun (W : World) => run_float_arith (P := Try.prog) W .add 115 .f64 (ub a) (ub b) r h
    clear h
    go_enter Try.func27, Try.ntmps27
    go_wp2_with (first | (go_at_call 52; refine (r_float _ _).mono ?_; rintro e w' ⟨rfl, rfl⟩) | (go_at_call 51; refine (r_bits _ _).mono ?_; rintro e w' ⟨rfl, rfl⟩))
    go_ret
    exact ⟨by rw [H.out]; rfl, 0, rfl⟩
  | none =>
    have e : fbin .add a b = noneI := by unfold fbin; rw [h]; rfl
    have H := Lib.hid e; clear e
    have hr := fun (W : World) => run_arith_none (P := Try.prog) W .add 115 (ub a) (ub b) (by decide) h
    clear h
    go_enter Try.func27, Try.ntmps27
    go_wp2_with (first | (go_at_call 52; refine (r_float _ _).mono ?_; rintro e w' ⟨rfl, rfl⟩) | (go_at_call 51; refine (r_bits _ _).mono ?_; rintro e w' ⟨rfl, rfl⟩))
    go_ret
    exact ⟨by rw [H.out, ← bitsN_nanOf w (ub a) (ub b)]; rfl, 1, rfl⟩
theorem r_FSub (a b : Int) (w : World) : Calls Try.prog 28 #[.int .i64 a, .int .i64 b] w fun e w' => e = .returned (.int .i64 (fbin .sub a b)) ∧ ∃ n, w' = w.drewN n := by
  cases h : floatBits .sub .f64 (ub a) (ub b) with
  | some r =>
    have e : fbin .sub a b = bitsN r := by unfold fbin; rw [h]; rfl
    have H := Lib.hid e; clear e
    have hr := fun (W : World) => run_float_arith (P := Try.prog) W .sub 115 .f64 (ub a) (ub b) r h
    clear h
    go_enter Try.func28, Try.ntmps28
    go_wp2_with (first | (go_at_call 52; refine (r_float _ _).mono ?_; rintro e w' ⟨rfl, rfl⟩) | (go_at_call 51; refine (r_bits _ _).mono ?_; rintro e w' ⟨rfl, rfl⟩))
    go_ret
    exact ⟨by rw [H.out]; rfl, 0, rfl⟩
  | none =>
    have e : fbin .sub a b = noneI := by unfold fbin; rw [h]; rfl
    have H := Lib.hid e; clear e
    have hr := fun (W : World) => run_arith_none (P := Try.prog) W .sub 115 (ub a) (ub b) (by decide) h
    clear h
    go_enter Try.func28, Try.ntmps28
    go_wp2_with (first | (go_at_call 52; refine (r_float _ _).mono ?_; rintro e w' ⟨rfl, rfl⟩) | (go_at_call 51; refine (r_bits _ _).mono ?_; rintro e w' ⟨rfl, rfl⟩))
    go_ret
    exact ⟨by rw [H.out, ← bitsN_nanOf w (ub a) (ub b)]; rfl, 1, rfl⟩
theorem r_FMul (a b : Int) (w : World) : Calls Try.prog 29 #[.int .i64 a, .int .i64 b] w fun e w' => e = .returned (.int .i64 (fbin .mul a b)) ∧ ∃ n, w' = w.drewN n := by
  cases h : floatBits .mul .f64 (ub a) (ub b) with
  | some r =>
    have e : fbin .mul a b = bitsN r := by unfold fbin; rw [h]; rfl
    have H := Lib.hid e; clear e
    have hr := fun (W : World) => run_float_arith (P := Try.prog) W .mul 115 .f64 (ub a) (ub b) r h
    clear h
    go_enter Try.func29, Try.ntmps29
    go_wp2_with (first | (go_at_call 52; refine (r_float _ _).mono ?_; rintro e w' ⟨rfl, rfl⟩) | (go_at_call 51; refine (r_bits _ _).mono ?_; rintro e w' ⟨rfl, rfl⟩))
    go_ret
    exact ⟨by rw [H.out]; rfl, 0, rfl⟩
  | none =>
    have e : fbin .mul a b = noneI := by unfold fbin; rw [h]; rfl
    have H := Lib.hid e; clear e
    have hr := fun (W : World) => run_arith_none (P := Try.prog) W .mul 115 (ub a) (ub b) (by decide) h
    clear h
    go_enter Try.func29, Try.ntmps29
    go_wp2_with (first | (go_at_call 52; refine (r_float _ _).mono ?_; rintro e w' ⟨rfl, rfl⟩) | (go_at_call 51; refine (r_bits _ _).mono ?_; rintro e w' ⟨rfl, rfl⟩))
    go_ret
    exact ⟨by rw [H.out, ← bitsN_nanOf w (ub a) (ub b)]; rfl, 1, rfl⟩
theorem r_FDiv (a b : Int) (w : World) : Calls Try.prog 30 #[.int .i64 a, .int .i64 b] w fun e w' => e = .returned (.int .i64 (fbin .quo a b)) ∧ ∃ n, w' = w.drewN n := by
  cases h : floatBits .quo .f64 (ub a) (ub b) with
  | some r =>
    have e : fbin .quo a b = bitsN r := by unfold fbin; rw [h]; rfl
    have H := Lib.hid e; clear e
    have hr := fun (W : World) => run_float_arith (P := Try.prog) W .quo 115 .f64 (ub a) (ub b) r h
    clear h
    go_enter Try.func30, Try.ntmps30
    go_wp2_with (first | (go_at_call 52; refine (r_float _ _).mono ?_; rintro e w' ⟨rfl, rfl⟩) | (go_at_call 51; refine (r_bits _ _).mono ?_; rintro e w' ⟨rfl, rfl⟩))
    go_ret
    exact ⟨by rw [H.out]; rfl, 0, rfl⟩
  | none =>
    have e : fbin .quo a b = noneI := by unfold fbin; rw [h]; rfl
    have H := Lib.hid e; clear e
    have hr := fun (W : World) => run_arith_none (P := Try.prog) W .quo 115 (ub a) (ub b) (by decide) h
    clear h
    go_enter Try.func30, Try.ntmps30
    go_wp2_with (first | (go_at_call 52; refine (r_float _ _).mono ?_; rintro e w' ⟨rfl, rfl⟩) | (go_at_call 51; refine (r_bits _ _).mono ?_; rintro e w' ⟨rfl, rfl⟩))
    go_ret
    exact ⟨by rw [H.out, ← bitsN_nanOf w (ub a) (ub b)]; rfl, 1, rfl⟩
theorem r_FLess (a b : Int) (w : World) : Calls Try.prog 31 #[.int .i64 a, .int .i64 b] w fun e w' => e = .returned (.int .i64 (fless a b)) ∧ w = w' := by
  have hx : (FloatKind.f64.format.order (ub a) (ub a) != some .eq) = isN (ub a) := order_self _
  have hy : (FloatKind.f64.format.order (ub b) (ub b) != some .eq) = isN (ub b) := order_self _
  cases h1 : isN (ub a) <;> cases h2 : isN (ub b)
  · have hz : (FloatKind.f64.format.order (ub a) (ub b) == some .lt) = decide (key (ub a) < key (ub b)) := by
      show (Ieee.double.order (ub a) (ub b) == some .lt) = _
      rw [order_ok h1 h2, compare_int]
      by_cases h : key (ub a) < key (ub b)
      · simp [h]
      · rw [if_neg h, decide_eq_false h]; split <;> rfl
    by_cases h : key (ub a) < key (ub b)
    · have e : fless a b = 1 := by unfold fless; rw [h1, h2, if_pos h]; rfl
      rw [decide_eq_true h] at hz; rw [h1] at hx; rw [h2] at hy
      clear h h1 h2
      have H := Lib.hid e; clear e
      go_enter Try.func31, Try.ntmps31
      go_wp2_with (first | (go_at_call 52; refine (r_float _ _).mono ?_; rintro e w' ⟨rfl, rfl⟩))
      go_ret
      exact ⟨by rw [H.out]; rfl, rfl⟩
    · have e : fless a b = 0 := by unfold fless; rw [h1, h2, if_neg h]; rfl
      rw [decide_eq_false h] at hz; rw [h1] at hx; rw [h2] at hy
      clear h h1 h2
      have H := Lib.hid e; clear e
      go_enter Try.func31, Try.ntmps31
      go_wp2_with (first | (go_at_call 52; refine (r_float _ _).mono ?_; rintro e w' ⟨rfl, rfl⟩))
      go_ret
      exact ⟨by rw [H.out]; rfl, rfl⟩
  all_goals
    have e : fless a b = 2 := by unfold fless; rw [h1, h2]; rfl
    rw [h1] at hx; rw [h2] at hy
    clear h1 h2
    have H := Lib.hid e; clear e
    go_enter Try.func31, Try.ntmps31
    go_wp2_with (first | (go_at_call 52; refine (r_float _ _).mono ?_; rintro e w' ⟨rfl, rfl⟩))
    go_ret
    exact ⟨by rw [H.out]; rfl, rfl⟩
theorem r_FromInt (a : Int) (w : World) : Calls Try.prog 32 #[.int .i64 a] w fun e w' => e = .returned (.int .i64 (fromInt a)) ∧ w = w' := by
  go_enter Try.func32, Try.ntmps32
  go_wp2_with (first | (go_at_call 51; refine (r_bits _ _).mono ?_; rintro e w' ⟨rfl, rfl⟩))
  go_ret
  exact ⟨rfl, rfl⟩
end Go.Proofs.Ytiakonmamkfopaa
