/- The walk of the law RingBounds. -/
import Derived.Test.YtnfckbjefpmdiaaRingL
namespace Go.Proofs.Ytnfckbjefpmdiaa
open Go.RowKit Go.ChangeShapes
set_option linter.unusedVariables false

theorem own4.alloc {w : World} {N : Nat} {a b c d : Int} (h : own4 w N a b c d) (o : Obj) : own4 (w.alloc o) N a b c d := (Below.heap_alloc w o N h.lt).trans h
theorem below_more {w W : World} (h : Hid (Below w.heap.size w W)) (o : Obj) : Hid (Below w.heap.size w (W.alloc o)) := h.out.alloc h.out.size o

set_option maxHeartbeats 4000000 in
theorem law_RingBounds (b1 b2 b3 b4 how by_ : Int) (w : World) : Calls Try.prog 6 #[.agg #[.int .i64 b1, .int .i64 b2, .int .i64 b3, .int .i64 b4], .int .i64 how, .int .i64 by_] w fun e w' => e = .returned (.bool true) ∧ Below w.heap.size w w' := by
  go_enter Try.func6, Try.ntmps6
  go_wp2_with fail
  have O := own4.new w b1 b2 b3 b4
  have HB := below_new w (.cells #[.int .i64 b1, .int .i64 b2, .int .i64 b3, .int .i64 b4] 23)
  generalize w.alloc (.cells #[.int .i64 b1, .int .i64 b2, .int .i64 b3, .int .i64 b4] 23) = W at O HB ⊢
  obtain ⟨⟨hc0, hc1, hc2, hc3⟩, hf0, hf1, hf2, hf3⟩ := O.facts
  refine (known_ok _).mono ?_
  rintro e w1 ⟨rfl, hb⟩; replace O := own4.below hb O; replace HB := below_next hb HB; clear hb hc0 hc1 hc2 hc3 hf0 hf1 hf2 hf3; obtain ⟨⟨hc0, hc1, hc2, hc3⟩, hf0, hf1, hf2, hf3⟩ := O.facts
  go_wp2_with fail
  refine (Good_some _ _ _ _ _).mono ?_
  rintro e w1 ⟨g1, g2, g3, g4, rfl, hg0, hg1, hg2, hg3, hg4, hg5, hb⟩; replace O := own4.below hb O; replace HB := below_next hb HB; clear hb hc0 hc1 hc2 hc3 hf0 hf1 hf2 hf3; obtain ⟨⟨hc0, hc1, hc2, hc3⟩, hf0, hf1, hf2, hf3⟩ := O.facts
  go_wp2_with fail
  replace O := own4.set4 g1 g2 g3 g4 O
  replace HB := below_set4 (.int .i64 g1) (.int .i64 g2) (.int .i64 g3) (.int .i64 g4) HB
  clear hc0 hc1 hc2 hc3 hf0 hf1 hf2 hf3
  generalize (((w1.setCell ⟨w.heap.size, 0, none⟩ (.int .i64 g1)).setCell ⟨w.heap.size, 1, none⟩ (.int .i64 g2)).setCell ⟨w.heap.size, 2, none⟩ (.int .i64 g3)).setCell ⟨w.heap.size, 3, none⟩ (.int .i64 g4) = W2 at O HB ⊢
  obtain ⟨⟨hc0, hc1, hc2, hc3⟩, hf0, hf1, hf2, hf3⟩ := O.facts
  go_wp2_with fail
  refine (within_some _ _ (by omega) (by omega) _).mono ?_
  rintro e w2 ⟨y0, rfl, y1, y2, rfl⟩
  obtain ⟨y, hy⟩ : ∃ y, 1 + y0 = y := ⟨_, rfl⟩
  have hy1 : 1 ≤ y := by omega
  have hy2 : y ≤ 100 := by omega
  have e1 : callE g1 g2 g3 g4 0 (7 + y) = 34 := by unfold callE; rw [if_pos (by omega)]
  have e2 : callE g1 g2 g3 g4 0 (-y) = 34 := by unfold callE; rw [if_pos (by omega)]
  have e3 : checkE g1 g2 g3 g4 = 0 := by unfold checkE; rw [if_neg (by omega)]
  have e4 : mayRead g2 (-y) = false := by unfold mayRead; exact decide_eq_false (by omega)
  have e5 : mayRead g1 (-y) = false := by unfold mayRead; exact decide_eq_false (by omega)
  have e6 : mayExec g1 g2 (7 + y) = false := by unfold mayExec; exact decide_eq_false (by omega)
  have e7 : mayRead g2 (7 + y) = false := by unfold mayRead; exact decide_eq_false (by omega)
  have hlt := O.lt
  go_wp2_with fail
  refine (within_some _ _ (by omega) (by omega) _).mono ?_
  rintro e w2 ⟨h, rfl, k0, k1, rfl⟩
  have hh : h = 0 ∨ h = 1 ∨ h = 2 ∨ h = 3 ∨ h = 4 ∨ h = 5 := by omega
  clear k0 k1
  rcases hh with rfl | rfl | rfl | rfl | rfl | rfl
  · have e8 : checkE (-y) g2 g3 g4 = 1 := by unfold checkE; rw [if_pos (by omega)]
    go_wp2_with fail
    have C := own4.new W2 (-y) g2 g3 g4
    replace O := O.alloc (.cells #[.int .i64 (-y), .int .i64 g2, .int .i64 g3, .int .i64 g4] 23)
    replace HB := below_more HB (.cells #[.int .i64 (-y), .int .i64 g2, .int .i64 g3, .int .i64 g4] 23)
    clear hc0 hc1 hc2 hc3 hf0 hf1 hf2 hf3
    generalize W2.alloc (.cells #[.int .i64 (-y), .int .i64 g2, .int .i64 g3, .int .i64 g4] 23) = W3 at O C HB ⊢
    obtain ⟨⟨hc0, hc1, hc2, hc3⟩, _⟩ := O.facts
    obtain ⟨⟨hd0, hd1, hd2, hd3⟩, _⟩ := C.facts
    go_wp2_with (first | (go_at_call 11; refine (c_Call _ _ _ _ _ _ _).mono ?_; rintro e w1 ⟨rfl, hb⟩; replace O := own4.below hb O; replace C := own4.below hb C; replace HB := below_next hb HB; clear hb hc0 hc1 hc2 hc3 hd0 hd1 hd2 hd3; obtain ⟨⟨hc0, hc1, hc2, hc3⟩, _⟩ := O.facts; obtain ⟨⟨hd0, hd1, hd2, hd3⟩, _⟩ := C.facts) | (go_at_call 16; refine (c_Check _ _ _ _ _).mono ?_; rintro e w1 ⟨rfl, hb⟩; replace O := own4.below hb O; replace C := own4.below hb C; replace HB := below_next hb HB; clear hb hc0 hc1 hc2 hc3 hd0 hd1 hd2 hd3; obtain ⟨⟨hc0, hc1, hc2, hc3⟩, _⟩ := O.facts; obtain ⟨⟨hd0, hd1, hd2, hd3⟩, _⟩ := C.facts) | (go_at_call 13; refine (c_MayRead _ _ _ _ _ _).mono ?_; rintro e w1 ⟨rfl, hb⟩; replace O := own4.below hb O; replace C := own4.below hb C; replace HB := below_next hb HB; clear hb hc0 hc1 hc2 hc3 hd0 hd1 hd2 hd3; obtain ⟨⟨hc0, hc1, hc2, hc3⟩, _⟩ := O.facts; obtain ⟨⟨hd0, hd1, hd2, hd3⟩, _⟩ := C.facts) | (go_at_call 12; refine (c_MayWrite _ _ _ _ _ _).mono ?_; rintro e w1 ⟨rfl, hb⟩; replace O := own4.below hb O; replace C := own4.below hb C; replace HB := below_next hb HB; clear hb hc0 hc1 hc2 hc3 hd0 hd1 hd2 hd3; obtain ⟨⟨hc0, hc1, hc2, hc3⟩, _⟩ := O.facts; obtain ⟨⟨hd0, hd1, hd2, hd3⟩, _⟩ := C.facts) | (go_at_call 14; refine (c_MayExec _ _ _ _ _ _).mono ?_; rintro e w1 ⟨rfl, hb⟩; replace O := own4.below hb O; replace C := own4.below hb C; replace HB := below_next hb HB; clear hb hc0 hc1 hc2 hc3 hd0 hd1 hd2 hd3; obtain ⟨⟨hc0, hc1, hc2, hc3⟩, _⟩ := O.facts; obtain ⟨⟨hd0, hd1, hd2, hd3⟩, _⟩ := C.facts))
    go_ret
    exact ⟨rfl, HB.out⟩
  · have e8 : checkE (g2 + y) g2 g3 g4 = 1 := by unfold checkE; rw [if_pos (by omega)]
    go_wp2_with fail
    have C := own4.new W2 (g2 + y) g2 g3 g4
    replace O := O.alloc (.cells #[.int .i64 (g2 + y), .int .i64 g2, .int .i64 g3, .int .i64 g4] 23)
    replace HB := below_more HB (.cells #[.int .i64 (g2 + y), .int .i64 g2, .int .i64 g3, .int .i64 g4] 23)
    clear hc0 hc1 hc2 hc3 hf0 hf1 hf2 hf3
    generalize W2.alloc (.cells #[.int .i64 (g2 + y), .int .i64 g2, .int .i64 g3, .int .i64 g4] 23) = W3 at O C HB ⊢
    obtain ⟨⟨hc0, hc1, hc2, hc3⟩, _⟩ := O.facts
    obtain ⟨⟨hd0, hd1, hd2, hd3⟩, _⟩ := C.facts
    go_wp2_with (first | (go_at_call 11; refine (c_Call _ _ _ _ _ _ _).mono ?_; rintro e w1 ⟨rfl, hb⟩; replace O := own4.below hb O; replace C := own4.below hb C; replace HB := below_next hb HB; clear hb hc0 hc1 hc2 hc3 hd0 hd1 hd2 hd3; obtain ⟨⟨hc0, hc1, hc2, hc3⟩, _⟩ := O.facts; obtain ⟨⟨hd0, hd1, hd2, hd3⟩, _⟩ := C.facts) | (go_at_call 16; refine (c_Check _ _ _ _ _).mono ?_; rintro e w1 ⟨rfl, hb⟩; replace O := own4.below hb O; replace C := own4.below hb C; replace HB := below_next hb HB; clear hb hc0 hc1 hc2 hc3 hd0 hd1 hd2 hd3; obtain ⟨⟨hc0, hc1, hc2, hc3⟩, _⟩ := O.facts; obtain ⟨⟨hd0, hd1, hd2, hd3⟩, _⟩ := C.facts) | (go_at_call 13; refine (c_MayRead _ _ _ _ _ _).mono ?_; rintro e w1 ⟨rfl, hb⟩; replace O := own4.below hb O; replace C := own4.below hb C; replace HB := below_next hb HB; clear hb hc0 hc1 hc2 hc3 hd0 hd1 hd2 hd3; obtain ⟨⟨hc0, hc1, hc2, hc3⟩, _⟩ := O.facts; obtain ⟨⟨hd0, hd1, hd2, hd3⟩, _⟩ := C.facts) | (go_at_call 12; refine (c_MayWrite _ _ _ _ _ _).mono ?_; rintro e w1 ⟨rfl, hb⟩; replace O := own4.below hb O; replace C := own4.below hb C; replace HB := below_next hb HB; clear hb hc0 hc1 hc2 hc3 hd0 hd1 hd2 hd3; obtain ⟨⟨hc0, hc1, hc2, hc3⟩, _⟩ := O.facts; obtain ⟨⟨hd0, hd1, hd2, hd3⟩, _⟩ := C.facts) | (go_at_call 14; refine (c_MayExec _ _ _ _ _ _).mono ?_; rintro e w1 ⟨rfl, hb⟩; replace O := own4.below hb O; replace C := own4.below hb C; replace HB := below_next hb HB; clear hb hc0 hc1 hc2 hc3 hd0 hd1 hd2 hd3; obtain ⟨⟨hc0, hc1, hc2, hc3⟩, _⟩ := O.facts; obtain ⟨⟨hd0, hd1, hd2, hd3⟩, _⟩ := C.facts))
    go_ret
    exact ⟨rfl, HB.out⟩
  · have e8 : checkE g1 (g3 + y) g3 g4 = 1 := by unfold checkE; rw [if_pos (by omega)]
    go_wp2_with fail
    have C := own4.new W2 g1 (g3 + y) g3 g4
    replace O := O.alloc (.cells #[.int .i64 g1, .int .i64 (g3 + y), .int .i64 g3, .int .i64 g4] 23)
    replace HB := below_more HB (.cells #[.int .i64 g1, .int .i64 (g3 + y), .int .i64 g3, .int .i64 g4] 23)
    clear hc0 hc1 hc2 hc3 hf0 hf1 hf2 hf3
    generalize W2.alloc (.cells #[.int .i64 g1, .int .i64 (g3 + y), .int .i64 g3, .int .i64 g4] 23) = W3 at O C HB ⊢
    obtain ⟨⟨hc0, hc1, hc2, hc3⟩, _⟩ := O.facts
    obtain ⟨⟨hd0, hd1, hd2, hd3⟩, _⟩ := C.facts
    go_wp2_with (first | (go_at_call 11; refine (c_Call _ _ _ _ _ _ _).mono ?_; rintro e w1 ⟨rfl, hb⟩; replace O := own4.below hb O; replace C := own4.below hb C; replace HB := below_next hb HB; clear hb hc0 hc1 hc2 hc3 hd0 hd1 hd2 hd3; obtain ⟨⟨hc0, hc1, hc2, hc3⟩, _⟩ := O.facts; obtain ⟨⟨hd0, hd1, hd2, hd3⟩, _⟩ := C.facts) | (go_at_call 16; refine (c_Check _ _ _ _ _).mono ?_; rintro e w1 ⟨rfl, hb⟩; replace O := own4.below hb O; replace C := own4.below hb C; replace HB := below_next hb HB; clear hb hc0 hc1 hc2 hc3 hd0 hd1 hd2 hd3; obtain ⟨⟨hc0, hc1, hc2, hc3⟩, _⟩ := O.facts; obtain ⟨⟨hd0, hd1, hd2, hd3⟩, _⟩ := C.facts) | (go_at_call 13; refine (c_MayRead _ _ _ _ _ _).mono ?_; rintro e w1 ⟨rfl, hb⟩; replace O := own4.below hb O; replace C := own4.below hb C; replace HB := below_next hb HB; clear hb hc0 hc1 hc2 hc3 hd0 hd1 hd2 hd3; obtain ⟨⟨hc0, hc1, hc2, hc3⟩, _⟩ := O.facts; obtain ⟨⟨hd0, hd1, hd2, hd3⟩, _⟩ := C.facts) | (go_at_call 12; refine (c_MayWrite _ _ _ _ _ _).mono ?_; rintro e w1 ⟨rfl, hb⟩; replace O := own4.below hb O; replace C := own4.below hb C; replace HB := below_next hb HB; clear hb hc0 hc1 hc2 hc3 hd0 hd1 hd2 hd3; obtain ⟨⟨hc0, hc1, hc2, hc3⟩, _⟩ := O.facts; obtain ⟨⟨hd0, hd1, hd2, hd3⟩, _⟩ := C.facts) | (go_at_call 14; refine (c_MayExec _ _ _ _ _ _).mono ?_; rintro e w1 ⟨rfl, hb⟩; replace O := own4.below hb O; replace C := own4.below hb C; replace HB := below_next hb HB; clear hb hc0 hc1 hc2 hc3 hd0 hd1 hd2 hd3; obtain ⟨⟨hc0, hc1, hc2, hc3⟩, _⟩ := O.facts; obtain ⟨⟨hd0, hd1, hd2, hd3⟩, _⟩ := C.facts))
    go_ret
    exact ⟨rfl, HB.out⟩
  · have e8 : checkE g1 g2 (7 + y) g4 = 1 := by unfold checkE; rw [if_pos (by omega)]
    go_wp2_with fail
    have C := own4.new W2 g1 g2 (7 + y) g4
    replace O := O.alloc (.cells #[.int .i64 g1, .int .i64 g2, .int .i64 (7 + y), .int .i64 g4] 23)
    replace HB := below_more HB (.cells #[.int .i64 g1, .int .i64 g2, .int .i64 (7 + y), .int .i64 g4] 23)
    clear hc0 hc1 hc2 hc3 hf0 hf1 hf2 hf3
    generalize W2.alloc (.cells #[.int .i64 g1, .int .i64 g2, .int .i64 (7 + y), .int .i64 g4] 23) = W3 at O C HB ⊢
    obtain ⟨⟨hc0, hc1, hc2, hc3⟩, _⟩ := O.facts
    obtain ⟨⟨hd0, hd1, hd2, hd3⟩, _⟩ := C.facts
    go_wp2_with (first | (go_at_call 11; refine (c_Call _ _ _ _ _ _ _).mono ?_; rintro e w1 ⟨rfl, hb⟩; replace O := own4.below hb O; replace C := own4.below hb C; replace HB := below_next hb HB; clear hb hc0 hc1 hc2 hc3 hd0 hd1 hd2 hd3; obtain ⟨⟨hc0, hc1, hc2, hc3⟩, _⟩ := O.facts; obtain ⟨⟨hd0, hd1, hd2, hd3⟩, _⟩ := C.facts) | (go_at_call 16; refine (c_Check _ _ _ _ _).mono ?_; rintro e w1 ⟨rfl, hb⟩; replace O := own4.below hb O; replace C := own4.below hb C; replace HB := below_next hb HB; clear hb hc0 hc1 hc2 hc3 hd0 hd1 hd2 hd3; obtain ⟨⟨hc0, hc1, hc2, hc3⟩, _⟩ := O.facts; obtain ⟨⟨hd0, hd1, hd2, hd3⟩, _⟩ := C.facts) | (go_at_call 13; refine (c_MayRead _ _ _ _ _ _).mono ?_; rintro e w1 ⟨rfl, hb⟩; replace O := own4.below hb O; replace C := own4.below hb C; replace HB := below_next hb HB; clear hb hc0 hc1 hc2 hc3 hd0 hd1 hd2 hd3; obtain ⟨⟨hc0, hc1, hc2, hc3⟩, _⟩ := O.facts; obtain ⟨⟨hd0, hd1, hd2, hd3⟩, _⟩ := C.facts) | (go_at_call 12; refine (c_MayWrite _ _ _ _ _ _).mono ?_; rintro e w1 ⟨rfl, hb⟩; replace O := own4.below hb O; replace C := own4.below hb C; replace HB := below_next hb HB; clear hb hc0 hc1 hc2 hc3 hd0 hd1 hd2 hd3; obtain ⟨⟨hc0, hc1, hc2, hc3⟩, _⟩ := O.facts; obtain ⟨⟨hd0, hd1, hd2, hd3⟩, _⟩ := C.facts) | (go_at_call 14; refine (c_MayExec _ _ _ _ _ _).mono ?_; rintro e w1 ⟨rfl, hb⟩; replace O := own4.below hb O; replace C := own4.below hb C; replace HB := below_next hb HB; clear hb hc0 hc1 hc2 hc3 hd0 hd1 hd2 hd3; obtain ⟨⟨hc0, hc1, hc2, hc3⟩, _⟩ := O.facts; obtain ⟨⟨hd0, hd1, hd2, hd3⟩, _⟩ := C.facts))
    go_ret
    exact ⟨rfl, HB.out⟩
  · have e8 : checkE g1 g2 g3 (-y) = 1 := by unfold checkE; rw [if_pos (by omega)]
    go_wp2_with fail
    have C := own4.new W2 g1 g2 g3 (-y)
    replace O := O.alloc (.cells #[.int .i64 g1, .int .i64 g2, .int .i64 g3, .int .i64 (-y)] 23)
    replace HB := below_more HB (.cells #[.int .i64 g1, .int .i64 g2, .int .i64 g3, .int .i64 (-y)] 23)
    clear hc0 hc1 hc2 hc3 hf0 hf1 hf2 hf3
    generalize W2.alloc (.cells #[.int .i64 g1, .int .i64 g2, .int .i64 g3, .int .i64 (-y)] 23) = W3 at O C HB ⊢
    obtain ⟨⟨hc0, hc1, hc2, hc3⟩, _⟩ := O.facts
    obtain ⟨⟨hd0, hd1, hd2, hd3⟩, _⟩ := C.facts
    go_wp2_with (first | (go_at_call 11; refine (c_Call _ _ _ _ _ _ _).mono ?_; rintro e w1 ⟨rfl, hb⟩; replace O := own4.below hb O; replace C := own4.below hb C; replace HB := below_next hb HB; clear hb hc0 hc1 hc2 hc3 hd0 hd1 hd2 hd3; obtain ⟨⟨hc0, hc1, hc2, hc3⟩, _⟩ := O.facts; obtain ⟨⟨hd0, hd1, hd2, hd3⟩, _⟩ := C.facts) | (go_at_call 16; refine (c_Check _ _ _ _ _).mono ?_; rintro e w1 ⟨rfl, hb⟩; replace O := own4.below hb O; replace C := own4.below hb C; replace HB := below_next hb HB; clear hb hc0 hc1 hc2 hc3 hd0 hd1 hd2 hd3; obtain ⟨⟨hc0, hc1, hc2, hc3⟩, _⟩ := O.facts; obtain ⟨⟨hd0, hd1, hd2, hd3⟩, _⟩ := C.facts) | (go_at_call 13; refine (c_MayRead _ _ _ _ _ _).mono ?_; rintro e w1 ⟨rfl, hb⟩; replace O := own4.below hb O; replace C := own4.below hb C; replace HB := below_next hb HB; clear hb hc0 hc1 hc2 hc3 hd0 hd1 hd2 hd3; obtain ⟨⟨hc0, hc1, hc2, hc3⟩, _⟩ := O.facts; obtain ⟨⟨hd0, hd1, hd2, hd3⟩, _⟩ := C.facts) | (go_at_call 12; refine (c_MayWrite _ _ _ _ _ _).mono ?_; rintro e w1 ⟨rfl, hb⟩; replace O := own4.below hb O; replace C := own4.below hb C; replace HB := below_next hb HB; clear hb hc0 hc1 hc2 hc3 hd0 hd1 hd2 hd3; obtain ⟨⟨hc0, hc1, hc2, hc3⟩, _⟩ := O.facts; obtain ⟨⟨hd0, hd1, hd2, hd3⟩, _⟩ := C.facts) | (go_at_call 14; refine (c_MayExec _ _ _ _ _ _).mono ?_; rintro e w1 ⟨rfl, hb⟩; replace O := own4.below hb O; replace C := own4.below hb C; replace HB := below_next hb HB; clear hb hc0 hc1 hc2 hc3 hd0 hd1 hd2 hd3; obtain ⟨⟨hc0, hc1, hc2, hc3⟩, _⟩ := O.facts; obtain ⟨⟨hd0, hd1, hd2, hd3⟩, _⟩ := C.facts))
    go_ret
    exact ⟨rfl, HB.out⟩
  · have e8 : checkE g1 g2 g3 (16 + y) = 1 := by unfold checkE; rw [if_pos (by omega)]
    go_wp2_with fail
    have C := own4.new W2 g1 g2 g3 (16 + y)
    replace O := O.alloc (.cells #[.int .i64 g1, .int .i64 g2, .int .i64 g3, .int .i64 (16 + y)] 23)
    replace HB := below_more HB (.cells #[.int .i64 g1, .int .i64 g2, .int .i64 g3, .int .i64 (16 + y)] 23)
    clear hc0 hc1 hc2 hc3 hf0 hf1 hf2 hf3
    generalize W2.alloc (.cells #[.int .i64 g1, .int .i64 g2, .int .i64 g3, .int .i64 (16 + y)] 23) = W3 at O C HB ⊢
    obtain ⟨⟨hc0, hc1, hc2, hc3⟩, _⟩ := O.facts
    obtain ⟨⟨hd0, hd1, hd2, hd3⟩, _⟩ := C.facts
    go_wp2_with (first | (go_at_call 11; refine (c_Call _ _ _ _ _ _ _).mono ?_; rintro e w1 ⟨rfl, hb⟩; replace O := own4.below hb O; replace C := own4.below hb C; replace HB := below_next hb HB; clear hb hc0 hc1 hc2 hc3 hd0 hd1 hd2 hd3; obtain ⟨⟨hc0, hc1, hc2, hc3⟩, _⟩ := O.facts; obtain ⟨⟨hd0, hd1, hd2, hd3⟩, _⟩ := C.facts) | (go_at_call 16; refine (c_Check _ _ _ _ _).mono ?_; rintro e w1 ⟨rfl, hb⟩; replace O := own4.below hb O; replace C := own4.below hb C; replace HB := below_next hb HB; clear hb hc0 hc1 hc2 hc3 hd0 hd1 hd2 hd3; obtain ⟨⟨hc0, hc1, hc2, hc3⟩, _⟩ := O.facts; obtain ⟨⟨hd0, hd1, hd2, hd3⟩, _⟩ := C.facts) | (go_at_call 13; refine (c_MayRead _ _ _ _ _ _).mono ?_; rintro e w1 ⟨rfl, hb⟩; replace O := own4.below hb O; replace C := own4.below hb C; replace HB := below_next hb HB; clear hb hc0 hc1 hc2 hc3 hd0 hd1 hd2 hd3; obtain ⟨⟨hc0, hc1, hc2, hc3⟩, _⟩ := O.facts; obtain ⟨⟨hd0, hd1, hd2, hd3⟩, _⟩ := C.facts) | (go_at_call 12; refine (c_MayWrite _ _ _ _ _ _).mono ?_; rintro e w1 ⟨rfl, hb⟩; replace O := own4.below hb O; replace C := own4.below hb C; replace HB := below_next hb HB; clear hb hc0 hc1 hc2 hc3 hd0 hd1 hd2 hd3; obtain ⟨⟨hc0, hc1, hc2, hc3⟩, _⟩ := O.facts; obtain ⟨⟨hd0, hd1, hd2, hd3⟩, _⟩ := C.facts) | (go_at_call 14; refine (c_MayExec _ _ _ _ _ _).mono ?_; rintro e w1 ⟨rfl, hb⟩; replace O := own4.below hb O; replace C := own4.below hb C; replace HB := below_next hb HB; clear hb hc0 hc1 hc2 hc3 hd0 hd1 hd2 hd3; obtain ⟨⟨hc0, hc1, hc2, hc3⟩, _⟩ := O.facts; obtain ⟨⟨hd0, hd1, hd2, hd3⟩, _⟩ := C.facts))
    go_ret
    exact ⟨rfl, HB.out⟩

end Go.Proofs.Ytnfckbjefpmdiaa
