/- Contracts of the functions of chapter 6, second part. -/
import Derived.Test.YtiakonmamkfopaaZCRing
namespace Go.Proofs.Ytiakonmamkfopaa
open Go.RowKit Go.ChangeShapes
set_option linter.unusedVariables false
set_option maxRecDepth 100000
set_option maxHeartbeats 800000 in
theorem r_Call (r1 r2 r3 g off r : Int) (h12 : r1 ≤ r2) (h23 : r2 ≤ r3) (w : World) : Calls Try.prog 74 #[.agg #[.int .i64 r1, .int .i64 r2, .int .i64 r3, .int .i64 g], .int .i64 off, .int .i64 r] w fun e w' => e = .returned (.tuple #[.int .i64 (callTo r1 r2 r3 g off r), .int .i64 (callE r1 r2 r3 g off r)]) ∧ Below w.heap.size w w' := by
  go_enter Try.func74, Try.ntmps74
  go_wp2
  all_goals
    try simp only [Bool.not_eq_true', decide_eq_false_iff_not, Bool.not_eq_false', decide_eq_true_eq] at *
    go_ret2
    refine ⟨congrArg (fun x : Int × Int => Ending.returned (.tuple #[.int .i64 x.1, .int .i64 x.2])) (a₁ := (_, _)) (a₂ := (_, _)) (Prod.ext ?_ ?_), by repeat (first | exact Below.refl _ _ | refine below_drew ?_ | refine Below.alloc ?_ (by simp <;> omega) _)⟩
    · show _ = callTo r1 r2 r3 g off r
      unfold callTo
      repeat' split
      all_goals first | rfl | (exfalso; omega)
    · show _ = callE r1 r2 r3 g off r
      unfold callE
      repeat' split
      all_goals first | rfl | (exfalso; omega)
theorem c_Follow (p1 p2 p3 r1 r2 r3 g r : Int) (w : World) : Calls Try.prog 62 #[.agg #[.int .i64 p1, .int .i64 p2, .int .i64 p3], .agg #[.int .i64 r1, .int .i64 r2, .int .i64 r3, .int .i64 g], .int .i64 r] w fun e w' => e = .returned (.agg #[.int .i64 p1, .int .i64 p2, .int .i64 (max (max p3 r1) r)]) ∧ Below w.heap.size w w' := by
  by_cases h1 : p3 < r1
  · have m1 : max p3 r1 = r1 := by omega
    rw [m1]; clear m1
    by_cases h2 : r1 < r
    · have m2 : max r1 r = r := by omega
      rw [m2]; clear m2
      go_enter Try.func62, Try.ntmps62
      go_wp2
      exact bodyPost_ret (v := .agg #[.int .i64 p1, .int .i64 p2, .int .i64 r]) (by simp [results, Try.results62, go_sem]) rfl ⟨rfl, by repeat (first | exact Below.refl _ _ | refine below_drew ?_ | refine Below.alloc ?_ (by simp <;> omega) _)⟩
    · have m2 : max r1 r = r1 := by omega
      rw [m2]; clear m2
      go_enter Try.func62, Try.ntmps62
      go_wp2
      exact bodyPost_ret (v := .agg #[.int .i64 p1, .int .i64 p2, .int .i64 r1]) (by simp [results, Try.results62, go_sem]) rfl ⟨rfl, by repeat (first | exact Below.refl _ _ | refine below_drew ?_ | refine Below.alloc ?_ (by simp <;> omega) _)⟩
  · have m1 : max p3 r1 = p3 := by omega
    rw [m1]; clear m1
    by_cases h2 : p3 < r
    · have m2 : max p3 r = r := by omega
      rw [m2]; clear m2
      go_enter Try.func62, Try.ntmps62
      go_wp2
      exact bodyPost_ret (v := .agg #[.int .i64 p1, .int .i64 p2, .int .i64 r]) (by simp [results, Try.results62, go_sem]) rfl ⟨rfl, by repeat (first | exact Below.refl _ _ | refine below_drew ?_ | refine Below.alloc ?_ (by simp <;> omega) _)⟩
    · have m2 : max p3 r = p3 := by omega
      rw [m2]; clear m2
      go_enter Try.func62, Try.ntmps62
      go_wp2
      exact bodyPost_ret (v := .agg #[.int .i64 p1, .int .i64 p2, .int .i64 p3]) (by simp [results, Try.results62, go_sem]) rfl ⟨rfl, by repeat (first | exact Below.refl _ _ | refine below_drew ?_ | refine Below.alloc ?_ (by simp <;> omega) _)⟩
theorem r_Follow (p1 p2 p3 r1 r2 r3 g r : Int) (w : World) : Calls Try.prog 48 #[.agg #[.int .i64 p1, .int .i64 p2, .int .i64 p3], .agg #[.int .i64 r1, .int .i64 r2, .int .i64 r3, .int .i64 g], .int .i64 r] w fun e w' => e = .returned (.agg #[.int .i64 p1, .int .i64 p2, .int .i64 (max (max p3 r1) r)]) ∧ Below w.heap.size w w' := by
  by_cases h1 : p3 < r1
  · have m1 : max p3 r1 = r1 := by omega
    rw [m1]; clear m1
    by_cases h2 : r1 < r
    · have m2 : max r1 r = r := by omega
      rw [m2]; clear m2
      go_enter Try.func48, Try.ntmps48
      go_wp2
      exact bodyPost_ret (v := .agg #[.int .i64 p1, .int .i64 p2, .int .i64 r]) (by simp [results, Try.results48, go_sem]) rfl ⟨rfl, by repeat (first | exact Below.refl _ _ | refine below_drew ?_ | refine Below.alloc ?_ (by simp <;> omega) _)⟩
    · have m2 : max r1 r = r1 := by omega
      rw [m2]; clear m2
      go_enter Try.func48, Try.ntmps48
      go_wp2
      exact bodyPost_ret (v := .agg #[.int .i64 p1, .int .i64 p2, .int .i64 r1]) (by simp [results, Try.results48, go_sem]) rfl ⟨rfl, by repeat (first | exact Below.refl _ _ | refine below_drew ?_ | refine Below.alloc ?_ (by simp <;> omega) _)⟩
  · have m1 : max p3 r1 = p3 := by omega
    rw [m1]; clear m1
    by_cases h2 : p3 < r
    · have m2 : max p3 r = r := by omega
      rw [m2]; clear m2
      go_enter Try.func48, Try.ntmps48
      go_wp2
      exact bodyPost_ret (v := .agg #[.int .i64 p1, .int .i64 p2, .int .i64 r]) (by simp [results, Try.results48, go_sem]) rfl ⟨rfl, by repeat (first | exact Below.refl _ _ | refine below_drew ?_ | refine Below.alloc ?_ (by simp <;> omega) _)⟩
    · have m2 : max p3 r = p3 := by omega
      rw [m2]; clear m2
      go_enter Try.func48, Try.ntmps48
      go_wp2
      exact bodyPost_ret (v := .agg #[.int .i64 p1, .int .i64 p2, .int .i64 p3]) (by simp [results, Try.results48, go_sem]) rfl ⟨rfl, by repeat (first | exact Below.refl _ _ | refine below_drew ?_ | refine Below.alloc ?_ (by simp <;> omega) _)⟩
end Go.Proofs.Ytiakonmamkfopaa
