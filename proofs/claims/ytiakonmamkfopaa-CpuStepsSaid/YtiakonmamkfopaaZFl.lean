/- What the functions of package word answer, as plain functions of the words. -/
import Derived.Test.YtiakonmamkfopaaZFm
import Derived.Laws.FloatArith
import Derived.WalkKit
import Derived.OpenShut
namespace Go.Proofs.Ytiakonmamkfopaa
open Fm Go.RowKit Go.ChangeShapes
/-- a word's bits as a natural number -/
def ub (a : Int) : Nat := (IntKind.u64.wrap a).toNat
def noneI : Int := 9221120237041090561
def bitsN (n : Nat) : Int := if isN n then noneI else wrap64 n
def bitsO : Option Nat → Int
  | some r => bitsN r
  | none => noneI
def fbin (op : BinOp) (a b : Int) : Int := bitsO (floatBits op .f64 (ub a) (ub b))
def fless (a b : Int) : Int :=
  if isN (ub a) || isN (ub b) then 2 else if key (ub a) < key (ub b) then 1 else 0
def fromInt (a : Int) : Int := bitsN (floatOfInt .f64 a)
def badInt (a : Int) : Bool := isN (ub a) || decide (4890909195324358656 ≤ key (ub a)) || decide (key (ub a) < -4890909195324358656)
def toInt (a : Int) : Int := if badInt a then 0 else tr (ub a)
def toIntE (a : Int) : Int := if badInt a then 1 else 0
theorem ub_lt (a : Int) : ub a < 18446744073709551616 := by
  unfold ub; rw [IntKind.wrap_u64]; omega
theorem neg_ub {a : Int} (h : (Lit.int .i64 a).wf = true) : sg (ub a) = decide (a < 0) := by
  have hb : -9223372036854775808 ≤ a ∧ a ≤ 9223372036854775807 := bounds_i64 h
  unfold sg ub; rw [IntKind.wrap_u64]
  by_cases ha : a < 0
  · have e : (a % 18446744073709551616).toNat / 9223372036854775808 = 1 := by omega
    rw [e]; simp [ha]
  · have e : (a % 18446744073709551616).toNat / 9223372036854775808 = 0 := by omega
    rw [e]; simp [ha]
theorem trunc_eq {a : Int} (h : badInt a = false) : floatToIntVal .f64 (ub a) .i64 = some (tr (ub a)) := by
  simp only [badInt, Bool.or_eq_false_iff, decide_eq_false_iff_not] at h
  obtain ⟨⟨h1, h2⟩, h3⟩ := h
  have hr : rg (ub a) < 9218868437227405312 := by
    unfold key at h2 h3
    cases hs : sg (ub a) <;> rw [hs] at h2 h3 <;> simp at h2 h3 <;> omega
  have e : (FloatKind.f64.decode (ub a)).toInt .zero = some (tr (ub a)) := toInt_num hr
  unfold floatToIntVal
  rw [e]
  refine if_pos ?_
  unfold tr
  unfold key at h2 h3
  simp only [IntKind.min, IntKind.max, IntKind.signed, IntKind.bits]
  cases hs : sg (ub a) <;> rw [hs] at h2 h3 <;> simp at h2 h3 ⊢
  · have := wh_lt (r := rg (ub a)) (by omega)
    omega
  · have := wh_le (r := rg (ub a)) (by omega)
    omega
end Go.Proofs.Ytiakonmamkfopaa
