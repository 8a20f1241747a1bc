/- The walk of the law RingAsks. -/
import Derived.Test.YtnfckbjefpmdiaaRingM
import Derived.Deep.RegionHeld3
namespace Go.Proofs.Ytnfckbjefpmdiaa
open Go.RowKit Go.ChangeShapes
set_option linter.unusedVariables false

/-- block N is a struct of three ints, none frozen -/
def own3 (w : World) (N : Nat) (a b c : Int) : Prop := w.heap[N]? = some (.cells #[.int .i64 a, .int .i64 b, .int .i64 c] 33 (0, 0))
theorem own3.facts {w : World} {N : Nat} {a b c : Int} (h : own3 w N a b c) : (w.cell? ⟨N, 0, none⟩ = some (.int .i64 a) ∧ w.cell? ⟨N, 1, none⟩ = some (.int .i64 b) ∧ w.cell? ⟨N, 2, none⟩ = some (.int .i64 c)) ∧
    (w.frozen? ⟨N, 0, none⟩ = false ∧ w.frozen? ⟨N, 1, none⟩ = false ∧ w.frozen? ⟨N, 2, none⟩ = false) := by
  unfold own3 at h
  refine ⟨⟨?_, ?_, ?_⟩, ?_, ?_, ?_⟩
  · rw [cell_of_row w N 0 _ _ _ h]; rfl
  · rw [cell_of_row w N 1 _ _ _ h]; rfl
  · rw [cell_of_row w N 2 _ _ _ h]; rfl
  all_goals simp [World.frozen?, h]
theorem own3.lt {w : World} {N : Nat} {a b c : Int} (h : own3 w N a b c) : N < w.heap.size := by
  rcases Nat.lt_or_ge N w.heap.size with hlt | hge
  · exact hlt
  · unfold own3 at h; rw [Array.getElem?_eq_none hge] at h; cases h
theorem own3.below {W w1 : World} {N : Nat} {a b c : Int} (hb : Below W.heap.size W w1) (h : own3 W N a b c) : own3 w1 N a b c := (hb.block N h.lt).trans h
theorem own3.new (w : World) (a b c : Int) : own3 (w.alloc (.cells #[.int .i64 a, .int .i64 b, .int .i64 c] 33)) w.heap.size a b c := heap_alloc_new w _
theorem own3.alloc {w : World} {N : Nat} {a b c : Int} (h : own3 w N a b c) (o : Obj) : own3 (w.alloc o) N a b c := (Below.heap_alloc w o N h.lt).trans h
theorem own3.set4 {w : World} {N M : Nat} {a b c : Int} (a' b' c' d' : Value) (hn : N ≠ M) (h : own3 w N a b c) : own3 ((((w.setCell ⟨M, 0, none⟩ a').setCell ⟨M, 1, none⟩ b').setCell ⟨M, 2, none⟩ c').setCell ⟨M, 3, none⟩ d') N a b c := by
  unfold own3 at *
  simp [World.setCell, Array.getElem?_modify, h, Ne.symm hn]
theorem own3.drew {w : World} {N : Nat} {a b c : Int} (h : own3 w N a b c) : own3 w.drew N a b c := h
theorem own4.drew {w : World} {N : Nat} {a b c d : Int} (h : own4 w N a b c d) : own4 w.drew N a b c d := h
theorem below_drewH {w W : World} (h : Hid (Below w.heap.size w W)) : Hid (Below w.heap.size w W.drew) := h.out.drew

set_option maxHeartbeats 4000000 in
theorem law_RingAsks (b1 b2 b3 b4 off r p1 p2 p3 : Int) (w : World) : Calls Try.prog 7 #[.agg #[.int .i64 b1, .int .i64 b2, .int .i64 b3, .int .i64 b4], .int .i64 off, .int .i64 r, .agg #[.int .i64 p1, .int .i64 p2, .int .i64 p3]] w fun e w' => e = .returned (.bool true) ∧ Below w.heap.size w w' := by
  go_enter Try.func7, Try.ntmps7
  go_wp2_with fail
  have O := (own4.new w b1 b2 b3 b4).alloc (.cells #[.int .i64 p1, .int .i64 p2, .int .i64 p3] 33)
  have Q := own3.new (w.alloc (.cells #[.int .i64 b1, .int .i64 b2, .int .i64 b3, .int .i64 b4] 23)) p1 p2 p3
  have HB := below_more (below_new w (.cells #[.int .i64 b1, .int .i64 b2, .int .i64 b3, .int .i64 b4] 23)) (.cells #[.int .i64 p1, .int .i64 p2, .int .i64 p3] 33)
  simp only [World.size_alloc] at Q
  generalize (w.alloc (.cells #[.int .i64 b1, .int .i64 b2, .int .i64 b3, .int .i64 b4] 23)).alloc (.cells #[.int .i64 p1, .int .i64 p2, .int .i64 p3] 33) = W at O Q HB ⊢
  obtain ⟨⟨hc0, hc1, hc2, hc3⟩, hf0, hf1, hf2, hf3⟩ := O.facts
  obtain ⟨⟨hq0, hq1, hq2⟩, _⟩ := Q.facts
  refine (known_ok _).mono ?_
  rintro e w1 ⟨rfl, hb⟩; replace O := own4.below hb O; replace Q := own3.below hb Q; replace HB := below_next hb HB; clear hb hc0 hc1 hc2 hc3 hq0 hq1 hq2; obtain ⟨⟨hc0, hc1, hc2, hc3⟩, _⟩ := O.facts; obtain ⟨⟨hq0, hq1, hq2⟩, _⟩ := Q.facts
  go_wp2_with fail
  replace O := O.drew
  replace Q := Q.drew
  replace HB := below_drewH HB
  go_region_held3 (fun w' => w'.cell? ⟨w.heap.size, 0, none⟩ = some (.int .i64 b1) ∧ w'.cell? ⟨w.heap.size, 1, none⟩ = some (.int .i64 b2) ∧ w'.cell? ⟨w.heap.size, 2, none⟩ = some (.int .i64 b3) ∧ w'.cell? ⟨w.heap.size, 3, none⟩ = some (.int .i64 b4))
    (first
      | go_keep
      | exact ⟨hc0, hc1, hc2, hc3⟩)
    ((first
      | (go_at_call 16; refine (c_Check _ _ _ _ _).mono ?_; rintro e w1 ⟨rfl, hb⟩; replace O := own4.below hb O; replace Q := own3.below hb Q; replace HB := below_next hb HB; clear hb; obtain ⟨⟨hc0, hc1, hc2, hc3⟩, _⟩ := O.facts; obtain ⟨⟨hq0, hq1, hq2⟩, _⟩ := Q.facts)
      | (go_at_call 17; refine (r_Check _ _ _ _ _).mono ?_; rintro e w1 ⟨rfl, hb⟩; replace O := own4.below hb O; replace Q := own3.below hb Q; replace HB := below_next hb HB; clear hb; obtain ⟨⟨hc0, hc1, hc2, hc3⟩, _⟩ := O.facts; obtain ⟨⟨hq0, hq1, hq2⟩, _⟩ := Q.facts)))
  clear hf0 hf1 hf2 hf3
  go_wp2_with fail
  refine (Good_some _ _ _ _ _).mono ?_
  rintro e w1 ⟨g1, g2, g3, g4, rfl, hg0, hg1, hg2, hg3, hg4, hg5, hb⟩
  replace O := own4.below hb O; replace Q := own3.below hb Q; replace HB := below_next hb HB; clear hb
  have O0 := O
  obtain ⟨⟨hc0, hc1, hc2, hc3⟩, hf0, hf1, hf2, hf3⟩ := O.facts
  go_wp2
  replace O := own4.set4 g1 g2 g3 g4 O
  replace Q := own3.set4 (M := w.heap.size) (.int .i64 g1) (.int .i64 g2) (.int .i64 g3) (.int .i64 g4) (by omega) Q
  replace HB := below_set4 (.int .i64 g1) (.int .i64 g2) (.int .i64 g3) (.int .i64 g4) HB
  clear hc0 hc1 hc2 hc3 hf0 hf1 hf2 hf3
  generalize (((w1.setCell ⟨w.heap.size, 0, none⟩ (.int .i64 g1)).setCell ⟨w.heap.size, 1, none⟩ (.int .i64 g2)).setCell ⟨w.heap.size, 2, none⟩ (.int .i64 g3)).setCell ⟨w.heap.size, 3, none⟩ (.int .i64 g4) = W2 at O Q HB ⊢
  go_loopw [2, 9] (fun rv kv wr => ∃ (m : Nat) (q : Int), m ≤ 2 ∧ rv = .int .i64 q ∧ kv = .int .i64 m ∧ own4 wr w.heap.size g1 g2 g3 g4 ∧ own3 wr (w.heap.size + 1) p1 p2 p3 ∧ Hid (Below w.heap.size w wr)) (fun _ kv _ => 2 - (intOf kv).toNat)
  case atStart => exact ⟨0, r, by omega, rfl, rfl, O, Q, HB⟩
  case round =>
    clear O Q HB O0
    obtain ⟨m, q, hm, rfl, rfl, O, Q, HB⟩ := hrel
    obtain ⟨⟨hc0, hc1, hc2, hc3⟩, _⟩ := O.facts
    obtain ⟨⟨hq0, hq1, hq2⟩, _⟩ := Q.facts
    by_cases hlt : m < 2
    · go_wp2_with (first | (go_at_call 11; refine (c_Call _ _ _ _ _ _ _).mono ?_; rintro e w1 ⟨rfl, hb⟩; replace O := own4.below hb O; replace Q := own3.below hb Q; replace HB := below_next hb HB; clear hb hc0 hc1 hc2 hc3 hq0 hq1 hq2; obtain ⟨⟨hc0, hc1, hc2, hc3⟩, _⟩ := O.facts; obtain ⟨⟨hq0, hq1, hq2⟩, _⟩ := Q.facts) | (go_at_call 18; refine (r_Call _ _ _ _ _ _ (by omega) (by omega) _).mono ?_; rintro e w1 ⟨rfl, hb⟩; replace O := own4.below hb O; replace Q := own3.below hb Q; replace HB := below_next hb HB; clear hb hc0 hc1 hc2 hc3 hq0 hq1 hq2; obtain ⟨⟨hc0, hc1, hc2, hc3⟩, _⟩ := O.facts; obtain ⟨⟨hq0, hq1, hq2⟩, _⟩ := Q.facts))
      replace O := O.drew
      replace Q := Q.drew
      replace HB := below_drewH HB
      go_region_held3 (fun w' => w'.cell? ⟨w.heap.size, 0, none⟩ = some (.int .i64 g1) ∧ w'.cell? ⟨w.heap.size, 1, none⟩ = some (.int .i64 g2) ∧ w'.cell? ⟨w.heap.size, 2, none⟩ = some (.int .i64 g3) ∧ w'.cell? ⟨w.heap.size, 3, none⟩ = some (.int .i64 g4))
        (first
          | go_keep
          | exact ⟨hc0, hc1, hc2, hc3⟩)
        ((first
          | (go_at_call 13; refine (c_MayRead _ _ _ _ _ _).mono ?_; rintro e w1 ⟨rfl, hb⟩; replace O := own4.below hb O; replace Q := own3.below hb Q; replace HB := below_next hb HB; clear hb; obtain ⟨⟨hc0, hc1, hc2, hc3⟩, _⟩ := O.facts; obtain ⟨⟨hq0, hq1, hq2⟩, _⟩ := Q.facts)
          | (go_at_call 19; refine (r_MayRead _ _ _ _ _ _).mono ?_; rintro e w1 ⟨rfl, hb⟩; replace O := own4.below hb O; replace Q := own3.below hb Q; replace HB := below_next hb HB; clear hb; obtain ⟨⟨hc0, hc1, hc2, hc3⟩, _⟩ := O.facts; obtain ⟨⟨hq0, hq1, hq2⟩, _⟩ := Q.facts)
          | (go_at_call 12; refine (c_MayWrite _ _ _ _ _ _).mono ?_; rintro e w1 ⟨rfl, hb⟩; replace O := own4.below hb O; replace Q := own3.below hb Q; replace HB := below_next hb HB; clear hb; obtain ⟨⟨hc0, hc1, hc2, hc3⟩, _⟩ := O.facts; obtain ⟨⟨hq0, hq1, hq2⟩, _⟩ := Q.facts)
          | (go_at_call 20; refine (r_MayWrite _ _ _ _ _ _).mono ?_; rintro e w1 ⟨rfl, hb⟩; replace O := own4.below hb O; replace Q := own3.below hb Q; replace HB := below_next hb HB; clear hb; obtain ⟨⟨hc0, hc1, hc2, hc3⟩, _⟩ := O.facts; obtain ⟨⟨hq0, hq1, hq2⟩, _⟩ := Q.facts)
          | (go_at_call 14; refine (c_MayExec _ _ _ _ _ _).mono ?_; rintro e w1 ⟨rfl, hb⟩; replace O := own4.below hb O; replace Q := own3.below hb Q; replace HB := below_next hb HB; clear hb; obtain ⟨⟨hc0, hc1, hc2, hc3⟩, _⟩ := O.facts; obtain ⟨⟨hq0, hq1, hq2⟩, _⟩ := Q.facts)
          | (go_at_call 21; refine (r_MayExec _ _ _ _ _ _).mono ?_; rintro e w1 ⟨rfl, hb⟩; replace O := own4.below hb O; replace Q := own3.below hb Q; replace HB := below_next hb HB; clear hb; obtain ⟨⟨hc0, hc1, hc2, hc3⟩, _⟩ := O.facts; obtain ⟨⟨hq0, hq1, hq2⟩, _⟩ := Q.facts)))
      go_wp2_with (go_at_call 10; refine (within_some _ _ (by omega) (by omega) _).mono ?_; rintro e w2 ⟨q', rfl, k0, k1, rfl⟩)
      go_roundw
      case rel => exact ⟨m + 1, q', by omega, rfl, by go_num, O, Q, HB⟩
      case measure => simp [intOf]; omega
    · have e3 : checkE g1 g2 g3 g4 = 0 := by unfold checkE; rw [if_neg (by omega)]
      go_wp2
      replace O := O.drew
      replace Q := Q.drew
      replace HB := below_drewH HB
      go_region_held3 (fun w' => w'.cell? ⟨w.heap.size, 0, none⟩ = some (.int .i64 g1) ∧ w'.cell? ⟨w.heap.size, 1, none⟩ = some (.int .i64 g2) ∧ w'.cell? ⟨w.heap.size, 2, none⟩ = some (.int .i64 g3) ∧ w'.cell? ⟨w.heap.size, 3, none⟩ = some (.int .i64 g4) ∧ w'.cell? ⟨w.heap.size + 1, 0, none⟩ = some (.int .i64 p1) ∧ w'.cell? ⟨w.heap.size + 1, 1, none⟩ = some (.int .i64 p2) ∧ w'.cell? ⟨w.heap.size + 1, 2, none⟩ = some (.int .i64 p3))
        (first
          | go_keep
          | exact ⟨hc0, hc1, hc2, hc3, hq0, hq1, hq2⟩)
        ((first
          | (go_at_call 16; refine (c_Check _ _ _ _ _).mono ?_; rintro e w1 ⟨rfl, hb⟩; replace O := own4.below hb O; replace Q := own3.below hb Q; replace HB := below_next hb HB; clear hb; obtain ⟨⟨hc0, hc1, hc2, hc3⟩, _⟩ := O.facts; obtain ⟨⟨hq0, hq1, hq2⟩, _⟩ := Q.facts)
          | (go_at_call 15; refine (c_Follow _ _ _ _ _ _ _ _ _).mono ?_; rintro e w1 ⟨rfl, hb⟩; replace O := own4.below hb O; replace Q := own3.below hb Q; replace HB := below_next hb HB; clear hb; obtain ⟨⟨hc0, hc1, hc2, hc3⟩, _⟩ := O.facts; obtain ⟨⟨hq0, hq1, hq2⟩, _⟩ := Q.facts)
          | (go_at_call 22; refine (r_Follow _ _ _ _ _ _ _ _ _).mono ?_; rintro e w1 ⟨rfl, hb⟩; replace O := own4.below hb O; replace Q := own3.below hb Q; replace HB := below_next hb HB; clear hb; obtain ⟨⟨hc0, hc1, hc2, hc3⟩, _⟩ := O.facts; obtain ⟨⟨hq0, hq1, hq2⟩, _⟩ := Q.facts)))
      go_wp2
      go_ret
      exact ⟨rfl, HB.out⟩
end Go.Proofs.Ytnfckbjefpmdiaa
