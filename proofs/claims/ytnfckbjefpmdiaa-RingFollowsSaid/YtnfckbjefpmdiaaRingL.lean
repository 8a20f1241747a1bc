/- The walks of the laws of chapter 6. -/
import Derived.Test.YtnfckbjefpmdiaaRingB
namespace Go.Proofs.Ytnfckbjefpmdiaa
open Go.RowKit Go.ChangeShapes
set_option linter.unusedVariables false

/-- block N is a struct of four ints, none frozen -/
def own4 (w : World) (N : Nat) (a b c d : Int) : Prop := w.heap[N]? = some (.cells #[.int .i64 a, .int .i64 b, .int .i64 c, .int .i64 d] 23 (0, 0))
theorem own4.facts {w : World} {N : Nat} {a b c d : Int} (h : own4 w N a b c d) : (w.cell? ⟨N, 0, none⟩ = some (.int .i64 a) ∧ w.cell? ⟨N, 1, none⟩ = some (.int .i64 b) ∧ w.cell? ⟨N, 2, none⟩ = some (.int .i64 c) ∧ w.cell? ⟨N, 3, none⟩ = some (.int .i64 d)) ∧
    (w.frozen? ⟨N, 0, none⟩ = false ∧ w.frozen? ⟨N, 1, none⟩ = false ∧ w.frozen? ⟨N, 2, none⟩ = false ∧ w.frozen? ⟨N, 3, none⟩ = false) := by
  unfold own4 at h
  refine ⟨⟨?_, ?_, ?_, ?_⟩, ?_, ?_, ?_, ?_⟩
  · rw [cell_of_row w N 0 _ _ _ h]; rfl
  · rw [cell_of_row w N 1 _ _ _ h]; rfl
  · rw [cell_of_row w N 2 _ _ _ h]; rfl
  · rw [cell_of_row w N 3 _ _ _ h]; rfl
  all_goals simp [World.frozen?, h]
theorem own4.lt {w : World} {N : Nat} {a b c d : Int} (h : own4 w N a b c d) : N < w.heap.size := by
  rcases Nat.lt_or_ge N w.heap.size with hlt | hge
  · exact hlt
  · unfold own4 at h; rw [Array.getElem?_eq_none hge] at h; cases h
theorem own4.below {W w1 : World} {N : Nat} {a b c d : Int} (hb : Below W.heap.size W w1) (h : own4 W N a b c d) : own4 w1 N a b c d := (hb.block N h.lt).trans h
theorem own4.new (w : World) (a b c d : Int) : own4 (w.alloc (.cells #[.int .i64 a, .int .i64 b, .int .i64 c, .int .i64 d] 23)) w.heap.size a b c d := heap_alloc_new w _
theorem own4.set4 {w : World} {N : Nat} {a b c d : Int} (a' b' c' d' : Int) (h : own4 w N a b c d) : own4 ((((w.setCell ⟨N, 0, none⟩ (.int .i64 a')).setCell ⟨N, 1, none⟩ (.int .i64 b')).setCell ⟨N, 2, none⟩ (.int .i64 c')).setCell ⟨N, 3, none⟩ (.int .i64 d')) N a' b' c' d' := by
  unfold own4 at *
  simp [World.setCell, Array.getElem?_modify, h]
theorem below_new (w : World) (o : Obj) : Hid (Below w.heap.size w (w.alloc o)) := (Below.refl _ _).alloc (Nat.le_refl _) o
theorem below_next {w W w1 : World} (h2 : Below W.heap.size W w1) (h1 : Hid (Below w.heap.size w W)) : Hid (Below w.heap.size w w1) := h1.out.trans (h2.mono h1.out.size)
theorem below_set4 {w W : World} (a' b' c' d' : Value) (h : Hid (Below w.heap.size w W)) : Hid (Below w.heap.size w ((((W.setCell ⟨w.heap.size, 0, none⟩ a').setCell ⟨w.heap.size, 1, none⟩ b').setCell ⟨w.heap.size, 2, none⟩ c').setCell ⟨w.heap.size, 3, none⟩ d')) :=
  (((h.out.setCell (Nat.le_refl _) _).setCell (Nat.le_refl _) _).setCell (Nat.le_refl _) _).setCell (Nat.le_refl _) _

theorem within_some (x n : Int) (h1 : 0 < n) (h2 : n ≤ 1073741824) (w : World) : Calls Try.prog 10 #[.int .i64 x, .int .i64 n] w fun e w' => ∃ k, e = .returned (.int .i64 k) ∧ 0 ≤ k ∧ k < n ∧ w = w' :=
  (within_ok x n h1 h2 w).mono fun _ _ ⟨a, b⟩ => ⟨_, a, Int.emod_nonneg _ (by omega), Int.emod_lt_of_pos _ h1, b⟩
theorem Good_some (r1 r2 r3 g : Int) (w : World) : Calls Try.prog 9 #[.agg #[.int .i64 r1, .int .i64 r2, .int .i64 r3, .int .i64 g]] w fun e w' =>
    ∃ a b c d, e = .returned (.agg #[.int .i64 a, .int .i64 b, .int .i64 c, .int .i64 d]) ∧ 0 ≤ a ∧ a ≤ b ∧ b ≤ c ∧ c ≤ 7 ∧ 0 ≤ d ∧ d ≤ 16 ∧ Below w.heap.size w w' := by
  refine (Good_ok r1 r2 r3 g w).mono fun _ _ ⟨h, hb⟩ => ⟨_, _, _, _, h, ?_, ?_, ?_, ?_, ?_, ?_, hb⟩
  all_goals
    have a1 := Int.emod_nonneg r1 (show (8 : Int) ≠ 0 by decide)
    have a2 := Int.emod_lt_of_pos r1 (show (0 : Int) < 8 by decide)
    generalize r1 % 8 = a at *
    have b1 := Int.emod_nonneg r2 (show (8 - a : Int) ≠ 0 by omega)
    have b2 := Int.emod_lt_of_pos r2 (show (0 : Int) < 8 - a by omega)
    generalize r2 % (8 - a) = b at *
    have c1 := Int.emod_nonneg r3 (show (8 - (a + b) : Int) ≠ 0 by omega)
    have c2 := Int.emod_lt_of_pos r3 (show (0 : Int) < 8 - (a + b) by omega)
    omega

theorem known_ok (w : World) : Calls Try.prog 8 #[] w fun e w' => e = .returned (.bool true) ∧ Below w.heap.size w w' := by
  have h1 : callTo 1 3 5 2 1 5 = 3 := by decide
  have h2 : callE 1 3 5 2 1 5 = 0 := by decide
  have h3 : callE 1 3 5 2 2 5 = 34 := by decide
  have h4 : callTo 1 3 5 2 2 0 = 1 := by decide
  have h5 : callE 1 3 5 2 2 0 = 0 := by decide
  go_enter Try.func8, Try.ntmps8
  go_wp2_with fail
  have O := own4.new w 1 3 5 2
  have HB := below_new w (.cells #[.int .i64 1, .int .i64 3, .int .i64 5, .int .i64 2] 23)
  generalize w.alloc (.cells #[.int .i64 1, .int .i64 3, .int .i64 5, .int .i64 2] 23) = W at O HB ⊢
  obtain ⟨⟨hc0, hc1, hc2, hc3⟩, hf0, hf1, hf2, hf3⟩ := O.facts
  go_wp2_with (first | (go_at_call 11; refine (c_Call _ _ _ _ _ _ _).mono ?_; rintro e w1 ⟨rfl, hb⟩; replace O := own4.below hb O; replace HB := below_next hb HB; clear hb hc0 hc1 hc2 hc3 hf0 hf1 hf2 hf3; obtain ⟨⟨hc0, hc1, hc2, hc3⟩, hf0, hf1, hf2, hf3⟩ := O.facts))
  go_ret
  exact ⟨rfl, HB.out⟩

set_option maxHeartbeats 1600000 in
theorem law_RingModes (b1 b2 b3 b4 r : Int) (w : World) : Calls Try.prog 4 #[.agg #[.int .i64 b1, .int .i64 b2, .int .i64 b3, .int .i64 b4], .int .i64 r] w fun e w' => e = .returned (.bool true) ∧ Below w.heap.size w w' := by
  go_enter Try.func4, Try.ntmps4
  go_wp2_with fail
  have O := own4.new w b1 b2 b3 b4
  have HB := below_new w (.cells #[.int .i64 b1, .int .i64 b2, .int .i64 b3, .int .i64 b4] 23)
  generalize w.alloc (.cells #[.int .i64 b1, .int .i64 b2, .int .i64 b3, .int .i64 b4] 23) = W at O HB ⊢
  obtain ⟨⟨hc0, hc1, hc2, hc3⟩, hf0, hf1, hf2, hf3⟩ := O.facts
  refine (known_ok _).mono ?_
  rintro e w1 ⟨rfl, hb⟩; replace O := own4.below hb O; replace HB := below_next hb HB; clear hb hc0 hc1 hc2 hc3 hf0 hf1 hf2 hf3; obtain ⟨⟨hc0, hc1, hc2, hc3⟩, hf0, hf1, hf2, hf3⟩ := O.facts
  go_wp2_with fail
  refine (Good_some _ _ _ _ _).mono ?_
  rintro e w1 ⟨g1, g2, g3, g4, rfl, hg0, hg1, hg2, hg3, hg4, hg5, hb⟩; replace O := own4.below hb O; replace HB := below_next hb HB; clear hb hc0 hc1 hc2 hc3 hf0 hf1 hf2 hf3; obtain ⟨⟨hc0, hc1, hc2, hc3⟩, hf0, hf1, hf2, hf3⟩ := O.facts
  go_wp2_with fail
  refine (within_some _ _ (by omega) (by omega) _).mono ?_
  rintro e w2 ⟨k, rfl, k0, k1, rfl⟩
  go_wp2_with fail
  replace O := own4.set4 g1 g2 g3 g4 O
  replace HB := below_set4 (.int .i64 g1) (.int .i64 g2) (.int .i64 g3) (.int .i64 g4) HB
  clear hc0 hc1 hc2 hc3 hf0 hf1 hf2 hf3
  generalize (((w1.setCell ⟨w.heap.size, 0, none⟩ (.int .i64 g1)).setCell ⟨w.heap.size, 1, none⟩ (.int .i64 g2)).setCell ⟨w.heap.size, 2, none⟩ (.int .i64 g3)).setCell ⟨w.heap.size, 3, none⟩ (.int .i64 g4) = W2 at O HB ⊢
  obtain ⟨⟨hc0, hc1, hc2, hc3⟩, hf0, hf1, hf2, hf3⟩ := O.facts
  by_cases q1 : k ≤ g1
  · by_cases q2 : g1 ≤ k
    · have e1 : mayRead g1 k = true := by
        unfold mayRead
        exact decide_eq_true (by omega)
      have e2 : mayRead g2 k = true := by
        unfold mayRead
        exact decide_eq_true (by omega)
      have e3 : mayExec g1 g2 k = true := by
        unfold mayExec
        exact decide_eq_true (by omega)
      by_cases kz : k = 0
      · have kz' : (k == 0) = true := by simp [kz]
        clear kz
        go_wp2_with (first | (go_at_call 13; refine (c_MayRead _ _ _ _ _ _).mono ?_; rintro e w1 ⟨rfl, hb⟩; replace O := own4.below hb O; replace HB := below_next hb HB; clear hb hc0 hc1 hc2 hc3 hf0 hf1 hf2 hf3; obtain ⟨⟨hc0, hc1, hc2, hc3⟩, hf0, hf1, hf2, hf3⟩ := O.facts) | (go_at_call 12; refine (c_MayWrite _ _ _ _ _ _).mono ?_; rintro e w1 ⟨rfl, hb⟩; replace O := own4.below hb O; replace HB := below_next hb HB; clear hb hc0 hc1 hc2 hc3 hf0 hf1 hf2 hf3; obtain ⟨⟨hc0, hc1, hc2, hc3⟩, hf0, hf1, hf2, hf3⟩ := O.facts) | (go_at_call 14; refine (c_MayExec _ _ _ _ _ _).mono ?_; rintro e w1 ⟨rfl, hb⟩; replace O := own4.below hb O; replace HB := below_next hb HB; clear hb hc0 hc1 hc2 hc3 hf0 hf1 hf2 hf3; obtain ⟨⟨hc0, hc1, hc2, hc3⟩, hf0, hf1, hf2, hf3⟩ := O.facts))
        go_ret
        exact ⟨rfl, HB.out⟩
      · have kz' : (k == 0) = false := by simp [kz]
        have e4 : mayRead g2 (k - 1) = true := by
          unfold mayRead
          exact decide_eq_true (by omega)
        have e5 : mayRead g1 (k - 1) = true := by
          unfold mayRead
          exact decide_eq_true (by omega)
        go_wp2_with (first | (go_at_call 13; refine (c_MayRead _ _ _ _ _ _).mono ?_; rintro e w1 ⟨rfl, hb⟩; replace O := own4.below hb O; replace HB := below_next hb HB; clear hb hc0 hc1 hc2 hc3 hf0 hf1 hf2 hf3; obtain ⟨⟨hc0, hc1, hc2, hc3⟩, hf0, hf1, hf2, hf3⟩ := O.facts) | (go_at_call 12; refine (c_MayWrite _ _ _ _ _ _).mono ?_; rintro e w1 ⟨rfl, hb⟩; replace O := own4.below hb O; replace HB := below_next hb HB; clear hb hc0 hc1 hc2 hc3 hf0 hf1 hf2 hf3; obtain ⟨⟨hc0, hc1, hc2, hc3⟩, hf0, hf1, hf2, hf3⟩ := O.facts) | (go_at_call 14; refine (c_MayExec _ _ _ _ _ _).mono ?_; rintro e w1 ⟨rfl, hb⟩; replace O := own4.below hb O; replace HB := below_next hb HB; clear hb hc0 hc1 hc2 hc3 hf0 hf1 hf2 hf3; obtain ⟨⟨hc0, hc1, hc2, hc3⟩, hf0, hf1, hf2, hf3⟩ := O.facts))
        go_ret
        exact ⟨rfl, HB.out⟩
    · have e1 : mayRead g1 k = true := by
        unfold mayRead
        exact decide_eq_true (by omega)
      have e2 : mayRead g2 k = true := by
        unfold mayRead
        exact decide_eq_true (by omega)
      have e3 : mayExec g1 g2 k = false := by
        unfold mayExec
        exact decide_eq_false (by omega)
      by_cases kz : k = 0
      · have kz' : (k == 0) = true := by simp [kz]
        clear kz
        go_wp2_with (first | (go_at_call 13; refine (c_MayRead _ _ _ _ _ _).mono ?_; rintro e w1 ⟨rfl, hb⟩; replace O := own4.below hb O; replace HB := below_next hb HB; clear hb hc0 hc1 hc2 hc3 hf0 hf1 hf2 hf3; obtain ⟨⟨hc0, hc1, hc2, hc3⟩, hf0, hf1, hf2, hf3⟩ := O.facts) | (go_at_call 12; refine (c_MayWrite _ _ _ _ _ _).mono ?_; rintro e w1 ⟨rfl, hb⟩; replace O := own4.below hb O; replace HB := below_next hb HB; clear hb hc0 hc1 hc2 hc3 hf0 hf1 hf2 hf3; obtain ⟨⟨hc0, hc1, hc2, hc3⟩, hf0, hf1, hf2, hf3⟩ := O.facts) | (go_at_call 14; refine (c_MayExec _ _ _ _ _ _).mono ?_; rintro e w1 ⟨rfl, hb⟩; replace O := own4.below hb O; replace HB := below_next hb HB; clear hb hc0 hc1 hc2 hc3 hf0 hf1 hf2 hf3; obtain ⟨⟨hc0, hc1, hc2, hc3⟩, hf0, hf1, hf2, hf3⟩ := O.facts))
        go_ret
        exact ⟨rfl, HB.out⟩
      · have kz' : (k == 0) = false := by simp [kz]
        have e4 : mayRead g2 (k - 1) = true := by
          unfold mayRead
          exact decide_eq_true (by omega)
        have e5 : mayRead g1 (k - 1) = true := by
          unfold mayRead
          exact decide_eq_true (by omega)
        go_wp2_with (first | (go_at_call 13; refine (c_MayRead _ _ _ _ _ _).mono ?_; rintro e w1 ⟨rfl, hb⟩; replace O := own4.below hb O; replace HB := below_next hb HB; clear hb hc0 hc1 hc2 hc3 hf0 hf1 hf2 hf3; obtain ⟨⟨hc0, hc1, hc2, hc3⟩, hf0, hf1, hf2, hf3⟩ := O.facts) | (go_at_call 12; refine (c_MayWrite _ _ _ _ _ _).mono ?_; rintro e w1 ⟨rfl, hb⟩; replace O := own4.below hb O; replace HB := below_next hb HB; clear hb hc0 hc1 hc2 hc3 hf0 hf1 hf2 hf3; obtain ⟨⟨hc0, hc1, hc2, hc3⟩, hf0, hf1, hf2, hf3⟩ := O.facts) | (go_at_call 14; refine (c_MayExec _ _ _ _ _ _).mono ?_; rintro e w1 ⟨rfl, hb⟩; replace O := own4.below hb O; replace HB := below_next hb HB; clear hb hc0 hc1 hc2 hc3 hf0 hf1 hf2 hf3; obtain ⟨⟨hc0, hc1, hc2, hc3⟩, hf0, hf1, hf2, hf3⟩ := O.facts))
        go_ret
        exact ⟨rfl, HB.out⟩
  · have kz' : (k == 0) = false := by simp; omega
    by_cases q2 : k ≤ g2
    · have e1 : mayRead g1 k = false := by
        unfold mayRead
        exact decide_eq_false (by omega)
      have e2 : mayRead g2 k = true := by
        unfold mayRead
        exact decide_eq_true (by omega)
      have e3 : mayExec g1 g2 k = true := by
        unfold mayExec
        exact decide_eq_true (by omega)
      have e4 : mayRead g2 (k - 1) = true := by
        unfold mayRead
        exact decide_eq_true (by omega)
      go_wp2_with (first | (go_at_call 13; refine (c_MayRead _ _ _ _ _ _).mono ?_; rintro e w1 ⟨rfl, hb⟩; replace O := own4.below hb O; replace HB := below_next hb HB; clear hb hc0 hc1 hc2 hc3 hf0 hf1 hf2 hf3; obtain ⟨⟨hc0, hc1, hc2, hc3⟩, hf0, hf1, hf2, hf3⟩ := O.facts) | (go_at_call 12; refine (c_MayWrite _ _ _ _ _ _).mono ?_; rintro e w1 ⟨rfl, hb⟩; replace O := own4.below hb O; replace HB := below_next hb HB; clear hb hc0 hc1 hc2 hc3 hf0 hf1 hf2 hf3; obtain ⟨⟨hc0, hc1, hc2, hc3⟩, hf0, hf1, hf2, hf3⟩ := O.facts) | (go_at_call 14; refine (c_MayExec _ _ _ _ _ _).mono ?_; rintro e w1 ⟨rfl, hb⟩; replace O := own4.below hb O; replace HB := below_next hb HB; clear hb hc0 hc1 hc2 hc3 hf0 hf1 hf2 hf3; obtain ⟨⟨hc0, hc1, hc2, hc3⟩, hf0, hf1, hf2, hf3⟩ := O.facts))
      go_ret
      exact ⟨rfl, HB.out⟩
    · have e1 : mayRead g1 k = false := by
        unfold mayRead
        exact decide_eq_false (by omega)
      have e2 : mayRead g2 k = false := by
        unfold mayRead
        exact decide_eq_false (by omega)
      have e3 : mayExec g1 g2 k = false := by
        unfold mayExec
        exact decide_eq_false (by omega)
      go_wp2_with (first | (go_at_call 13; refine (c_MayRead _ _ _ _ _ _).mono ?_; rintro e w1 ⟨rfl, hb⟩; replace O := own4.below hb O; replace HB := below_next hb HB; clear hb hc0 hc1 hc2 hc3 hf0 hf1 hf2 hf3; obtain ⟨⟨hc0, hc1, hc2, hc3⟩, hf0, hf1, hf2, hf3⟩ := O.facts) | (go_at_call 12; refine (c_MayWrite _ _ _ _ _ _).mono ?_; rintro e w1 ⟨rfl, hb⟩; replace O := own4.below hb O; replace HB := below_next hb HB; clear hb hc0 hc1 hc2 hc3 hf0 hf1 hf2 hf3; obtain ⟨⟨hc0, hc1, hc2, hc3⟩, hf0, hf1, hf2, hf3⟩ := O.facts) | (go_at_call 14; refine (c_MayExec _ _ _ _ _ _).mono ?_; rintro e w1 ⟨rfl, hb⟩; replace O := own4.below hb O; replace HB := below_next hb HB; clear hb hc0 hc1 hc2 hc3 hf0 hf1 hf2 hf3; obtain ⟨⟨hc0, hc1, hc2, hc3⟩, hf0, hf1, hf2, hf3⟩ := O.facts))
      go_ret
      exact ⟨rfl, HB.out⟩

set_option maxHeartbeats 1600000 in
theorem law_RingGates (b1 b2 b3 b4 off r : Int) (w : World) : Calls Try.prog 3 #[.agg #[.int .i64 b1, .int .i64 b2, .int .i64 b3, .int .i64 b4], .int .i64 off, .int .i64 r] w fun e w' => e = .returned (.bool true) ∧ Below w.heap.size w w' := by
  go_enter Try.func3, Try.ntmps3
  go_wp2_with fail
  have O := own4.new w b1 b2 b3 b4
  have HB := below_new w (.cells #[.int .i64 b1, .int .i64 b2, .int .i64 b3, .int .i64 b4] 23)
  generalize w.alloc (.cells #[.int .i64 b1, .int .i64 b2, .int .i64 b3, .int .i64 b4] 23) = W at O HB ⊢
  obtain ⟨⟨hc0, hc1, hc2, hc3⟩, hf0, hf1, hf2, hf3⟩ := O.facts
  refine (known_ok _).mono ?_
  rintro e w1 ⟨rfl, hb⟩; replace O := own4.below hb O; replace HB := below_next hb HB; clear hb hc0 hc1 hc2 hc3 hf0 hf1 hf2 hf3; obtain ⟨⟨hc0, hc1, hc2, hc3⟩, hf0, hf1, hf2, hf3⟩ := O.facts
  go_wp2_with fail
  refine (Good_some _ _ _ _ _).mono ?_
  rintro e w1 ⟨g1, g2, g3, g4, rfl, hg0, hg1, hg2, hg3, hg4, hg5, hb⟩; replace O := own4.below hb O; replace HB := below_next hb HB; clear hb hc0 hc1 hc2 hc3 hf0 hf1 hf2 hf3; obtain ⟨⟨hc0, hc1, hc2, hc3⟩, hf0, hf1, hf2, hf3⟩ := O.facts
  go_wp2_with fail
  refine (within_some _ _ (by omega) (by omega) _).mono ?_
  rintro e w2 ⟨k, rfl, k0, k1, rfl⟩
  go_wp2_with fail
  refine (within_some _ _ (by omega) (by omega) _).mono ?_
  rintro e w2 ⟨o, rfl, o0, o1, rfl⟩
  go_wp2_with fail
  replace O := own4.set4 g1 g2 g3 g4 O
  replace HB := below_set4 (.int .i64 g1) (.int .i64 g2) (.int .i64 g3) (.int .i64 g4) HB
  clear hc0 hc1 hc2 hc3 hf0 hf1 hf2 hf3
  generalize (((w1.setCell ⟨w.heap.size, 0, none⟩ (.int .i64 g1)).setCell ⟨w.heap.size, 1, none⟩ (.int .i64 g2)).setCell ⟨w.heap.size, 2, none⟩ (.int .i64 g3)).setCell ⟨w.heap.size, 3, none⟩ (.int .i64 g4) = W2 at O HB ⊢
  obtain ⟨⟨hc0, hc1, hc2, hc3⟩, hf0, hf1, hf2, hf3⟩ := O.facts
  by_cases q1 : k < g1
  · have e1 : callTo g1 g2 g3 g4 o k = g1 := by
      unfold callTo
      repeat' split
      all_goals first | rfl | (exfalso; omega)
    have e2 : callE g1 g2 g3 g4 o k = 0 := by
      unfold callE
      repeat' split
      all_goals first | rfl | (exfalso; omega)
    go_wp2_with (first | (go_at_call 11; refine (c_Call _ _ _ _ _ _ _).mono ?_; rintro e w1 ⟨rfl, hb⟩; replace O := own4.below hb O; replace HB := below_next hb HB; clear hb hc0 hc1 hc2 hc3 hf0 hf1 hf2 hf3; obtain ⟨⟨hc0, hc1, hc2, hc3⟩, hf0, hf1, hf2, hf3⟩ := O.facts))
    go_ret
    exact ⟨rfl, HB.out⟩
  · by_cases q2 : k ≤ g2
    · have e1 : callTo g1 g2 g3 g4 o k = k := by
        unfold callTo
        repeat' split
        all_goals first | rfl | (exfalso; omega)
      have e2 : callE g1 g2 g3 g4 o k = 0 := by
        unfold callE
        repeat' split
        all_goals first | rfl | (exfalso; omega)
      go_wp2_with (first | (go_at_call 11; refine (c_Call _ _ _ _ _ _ _).mono ?_; rintro e w1 ⟨rfl, hb⟩; replace O := own4.below hb O; replace HB := below_next hb HB; clear hb hc0 hc1 hc2 hc3 hf0 hf1 hf2 hf3; obtain ⟨⟨hc0, hc1, hc2, hc3⟩, hf0, hf1, hf2, hf3⟩ := O.facts))
      go_ret
      exact ⟨rfl, HB.out⟩
    · by_cases q3 : k ≤ g3
      · by_cases q4 : o < g4
        · have e1 : callTo g1 g2 g3 g4 o k = g2 := by
            unfold callTo
            repeat' split
            all_goals first | rfl | (exfalso; omega)
          have e2 : callE g1 g2 g3 g4 o k = 0 := by
            unfold callE
            repeat' split
            all_goals first | rfl | (exfalso; omega)
          go_wp2_with (first | (go_at_call 11; refine (c_Call _ _ _ _ _ _ _).mono ?_; rintro e w1 ⟨rfl, hb⟩; replace O := own4.below hb O; replace HB := below_next hb HB; clear hb hc0 hc1 hc2 hc3 hf0 hf1 hf2 hf3; obtain ⟨⟨hc0, hc1, hc2, hc3⟩, hf0, hf1, hf2, hf3⟩ := O.facts))
          go_ret
          exact ⟨rfl, HB.out⟩
        · have e1 : callTo g1 g2 g3 g4 o k = 0 := by
            unfold callTo
            repeat' split
            all_goals first | rfl | (exfalso; omega)
          have e2 : callE g1 g2 g3 g4 o k = 34 := by
            unfold callE
            repeat' split
            all_goals first | rfl | (exfalso; omega)
          go_wp2_with (first | (go_at_call 11; refine (c_Call _ _ _ _ _ _ _).mono ?_; rintro e w1 ⟨rfl, hb⟩; replace O := own4.below hb O; replace HB := below_next hb HB; clear hb hc0 hc1 hc2 hc3 hf0 hf1 hf2 hf3; obtain ⟨⟨hc0, hc1, hc2, hc3⟩, hf0, hf1, hf2, hf3⟩ := O.facts))
          go_ret
          exact ⟨rfl, HB.out⟩
      · have e1 : callTo g1 g2 g3 g4 o k = 0 := by
          unfold callTo
          repeat' split
          all_goals first | rfl | (exfalso; omega)
        have e2 : callE g1 g2 g3 g4 o k = 34 := by
          unfold callE
          repeat' split
          all_goals first | rfl | (exfalso; omega)
        go_wp2_with (first | (go_at_call 11; refine (c_Call _ _ _ _ _ _ _).mono ?_; rintro e w1 ⟨rfl, hb⟩; replace O := own4.below hb O; replace HB := below_next hb HB; clear hb hc0 hc1 hc2 hc3 hf0 hf1 hf2 hf3; obtain ⟨⟨hc0, hc1, hc2, hc3⟩, hf0, hf1, hf2, hf3⟩ := O.facts))
        go_ret
        exact ⟨rfl, HB.out⟩

end Go.Proofs.Ytnfckbjefpmdiaa
