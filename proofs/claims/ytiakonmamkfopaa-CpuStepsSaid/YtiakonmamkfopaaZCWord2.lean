/- Contracts of the functions of package word and of its reference, second part: FMax, Class, ToInt. -/
import Derived.Test.YtiakonmamkfopaaZCWord
namespace Go.Proofs.Ytiakonmamkfopaa
open Go.RowKit Go.ChangeShapes Fm
set_option linter.unusedVariables false
attribute [local go_sem] x_frombits x_bits
/-- the exponent field and the fraction field -/
def ex (a : Int) : Nat := rg (ub a) / 4503599627370496
def fr (a : Int) : Nat := rg (ub a) % 4503599627370496
theorem ex_lt (a : Int) : ex a < 2048 := by unfold ex; have := rg_lt (ub a); omega
theorem fr_lt (a : Int) : fr a < 4503599627370496 := by unfold fr; omega
theorem rg_ex (a : Int) : rg (ub a) = ex a * 4503599627370496 + fr a := by unfold ex fr; omega
theorem ub_int (a : Int) : (ub a : Int) = IntKind.u64.wrap a := by unfold ub; rw [IntKind.wrap_u64]; omega
theorem b_ex (a : Int) : bits .and .u64 (IntKind.u64.wrap a / 4503599627370496) 2047 = (ex a : Int) := by
  have h := ub_lt a
  rw [← ub_int]
  rw [u64_and _ _ (by omega) (by omega) (by omega) (by omega)]
  have e : ((ub a : Int) / 4503599627370496).toNat = ub a / 4503599627370496 := by omega
  rw [e]
  show ((ub a / 4503599627370496 &&& 2047 : Nat) : Int) = _
  have e2 : ub a / 4503599627370496 &&& 2047 = ub a / 4503599627370496 % 2 ^ 11 := Nat.and_two_pow_sub_one_eq_mod _ 11
  rw [e2]; unfold ex rg; omega
theorem b_fr (a : Int) : bits .and .u64 (IntKind.u64.wrap a) 4503599627370495 = (fr a : Int) := by
  have h := ub_lt a
  rw [← ub_int]
  rw [u64_and _ _ (by omega) (by omega) (by omega) (by omega)]
  rw [Int.toNat_natCast]
  have e2 : ub a &&& 4503599627370495 = ub a % 2 ^ 52 := Nat.and_two_pow_sub_one_eq_mod _ 52
  show ((ub a &&& 4503599627370495 : Nat) : Int) = _
  rw [e2]; unfold fr rg; omega
theorem b_or (m : Nat) (h : m < 4503599627370496) : bits .or .u64 (m : Int) 4503599627370496 = (m : Int) + 4503599627370496 := by
  rw [u64_or _ _ (by omega) (by omega) (by omega) (by omega)]
  rw [Int.toNat_natCast]
  have e2 : 2 ^ 52 * 1 ||| m = 2 ^ 52 * 1 + m := (Nat.two_pow_add_eq_or_of_lt (i := 52) h 1).symm
  show ((m ||| 4503599627370496 : Nat) : Int) = _
  rw [Nat.or_comm]
  have e3 : (4503599627370496 ||| m : Nat) = 4503599627370496 + m := e2
  rw [e3]; omega
theorem ord_eq {x y : Nat} (h1 : isN x = false) (h2 : isN y = false) : (FloatKind.f64.format.order x y == some .eq) = decide (key x = key y) := by
  show (Ieee.double.order x y == some .eq) = _
  rw [order_ok h1 h2, compare_int]
  by_cases h : key x < key y
  · rw [if_pos h]; simp; omega
  · rw [if_neg h]
    by_cases h' : key x = key y
    · rw [if_pos h']; simp; omega
    · rw [if_neg h']; simp; omega
theorem ord_lt {x y : Nat} (h1 : isN x = false) (h2 : isN y = false) : (FloatKind.f64.format.order x y == some .lt) = decide (key x < key y) := by
  show (Ieee.double.order x y == some .lt) = _
  rw [order_ok h1 h2, compare_int]
  by_cases h : key x < key y
  · rw [if_pos h]; simp; omega
  · rw [if_neg h]
    by_cases h' : key x = key y
    · rw [if_pos h']; simp; omega
    · rw [if_neg h']; simp; omega
theorem ord_gt {x y : Nat} (h1 : isN x = false) (h2 : isN y = false) : (FloatKind.f64.format.order x y == some .gt) = decide (key x > key y) := by
  show (Ieee.double.order x y == some .gt) = _
  rw [order_ok h1 h2, compare_int]
  by_cases h : key x < key y
  · rw [if_pos h]; simp; omega
  · rw [if_neg h]
    by_cases h' : key x = key y
    · rw [if_pos h']; simp; omega
    · rw [if_neg h']; simp; omega
end Go.Proofs.Ytiakonmamkfopaa
