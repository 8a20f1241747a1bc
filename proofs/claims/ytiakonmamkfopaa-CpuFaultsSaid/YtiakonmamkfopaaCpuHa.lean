/- A word of a piece. -/
import Derived.Test.YtiakonmamkfopaaCpuX
import Derived.Deep.RegionHeld3
namespace Go.Proofs.Ytiakonmamkfopaa
open Go.RowKit Go.ChangeShapes
set_option linter.unusedVariables false
set_option maxRecDepth 100000

theorem within15 (x n : Int) (h1 : 0 < n) (h2 : n ≤ 4294967296) (w : World) : Calls Try.prog 77 #[.int .i64 x, .int .i64 n] w fun e w' => e = .returned (.int .i64 (x % n)) ∧ w = w' := by
  have hz : (n == 0) = false := by simp; omega
  obtain ⟨f1, f2, f3, f4⟩ := tmod_facts x n h1
  obtain ⟨t, ht⟩ : ∃ t, x.tmod n = t := ⟨_, rfl⟩
  rw [ht] at f1 f2 f3 f4
  by_cases h : t < 0
  · have H := Lib.hid (f3 h)
    clear f3 f4
    go_enter Try.func77, Try.ntmps77
    go_wp2
    go_ret
    exact ⟨by rw [H.out]; rfl, rfl⟩
  · have H := Lib.hid (f4 (by omega))
    clear f3 f4
    go_enter Try.func77, Try.ntmps77
    go_wp2
    go_ret
    exact ⟨by rw [H.out]; rfl, rfl⟩
theorem within15s (x n : Int) (h1 : 0 < n) (h2 : n ≤ 4294967296) (w : World) : Calls Try.prog 77 #[.int .i64 x, .int .i64 n] w fun e w' => e = .returned (.int .i64 (x % n)) ∧ w' = w :=
  (within15 x n h1 h2 w).mono fun _ _ ⟨a, b⟩ => ⟨a, b.symm⟩
theorem good15 (a b c : Int) (w : World) : Calls Try.prog 54 #[.agg #[.int .i64 a, .int .i64 b, .int .i64 c]] w fun e w' => ∃ op p n, e = .returned (.agg #[.int .i64 op, .int .i64 p, .int .i64 n]) ∧ 0 ≤ op ∧ op < 23 ∧ 0 ≤ p ∧ p < 4 ∧ Below w.heap.size w w' := by
  go_enter Try.func54, Try.ntmps54
  go_wp2_with fail
  obtain ⟨W, hW, B1, B2, HB⟩ : ∃ W, (w.alloc (.cells #[.int .i64 a, .int .i64 b, .int .i64 c] 64)).alloc (.cells #[.int .i64 0, .int .i64 0, .int .i64 0] 64) = W ∧ Hid (blk3 W w.heap.size 64 (.int .i64 a) (.int .i64 b) (.int .i64 c)) ∧ Hid (blk3 W (w.heap.size + 1) 64 (.int .i64 0) (.int .i64 0) (.int .i64 0)) ∧ Hid (Below w.heap.size w W) := by
    refine ⟨_, rfl, Off.keeps (ex := fun _ => False) ((Off.refl _ _).alloc _) (blk3.new w 64 (.int .i64 a) (.int .i64 b) (.int .i64 c)) id, ?_, below_al (below_al0 _ _) _⟩
    have h := blk3.new (w.alloc (.cells #[.int .i64 a, .int .i64 b, .int .i64 c] 64)) 64 (.int .i64 0) (.int .i64 0) (.int .i64 0)
    rw [World.size_alloc] at h
    exact h
  rw [hW]
  clear hW
  obtain ⟨nn, hn⟩ : ∃ n, c % 4294967296 - 2147483648 = n := ⟨_, rfl⟩
  have q1 : IntKind.i64.wrap (c % 4294967296 - 2147483648) = nn := by rw [hn, IntKind.wrap_i64]; omega
  have BD : Hid (Below w.heap.size w W.drew) := below_drew HB.out
  have D1 : Hid (blk3 W.drew w.heap.size 64 (.int .i64 a) (.int .i64 b) (.int .i64 c)) := B1
  have D2 : Hid (blk3 W.drew (w.heap.size + 1) 64 (.int .i64 0) (.int .i64 0) (.int .i64 0)) := B2
  clear B1 B2 HB hn
  refine still_tail 11 (by kernel_rfl) (by kernel_rfl) ?_
  simp only [List.take_succ_cons, List.take_zero, List.drop_succ_cons, List.drop_zero]
  generalize W.drew = D at BD D1 D2 ⊢
  obtain ⟨⟨c0, c1, c2⟩, _⟩ := D1.out.facts
  repeat still_step
  still_call (within15s a 23 (by decide) (by decide) _)
  repeat still_step
  still_call (within15s b 4 (by decide) (by decide) _)
  repeat still_step
  still_call (within15s c 4294967296 (by decide) (by decide) _)
  repeat still_step
  refine wpStill_nil ?_
  obtain ⟨⟨d0, d1, d2⟩, df⟩ := D2.out.facts
  have a1 := Int.emod_nonneg a (show (23 : Int) ≠ 0 by decide)
  have a2 := Int.emod_lt_of_pos a (show (0 : Int) < 23 by decide)
  have b1 := Int.emod_nonneg b (show (4 : Int) ≠ 0 by decide)
  have b2 := Int.emod_lt_of_pos b (show (0 : Int) < 4 by decide)
  have BZ : Hid (Below w.heap.size w (((D.setCell ⟨w.heap.size + 1, 0, none⟩ (.int .i64 (a % 23))).setCell ⟨w.heap.size + 1, 1, none⟩ (.int .i64 (b % 4))).setCell ⟨w.heap.size + 1, 2, none⟩ (.int .i64 nn))) := Off.below BD.out (((off1 _ _ _ _).trans (off1 _ _ _ _)).trans (off1 _ _ _ _)) BD.out.size (fun k hk => by omega)
  have RR := Lib.hid (And.intro a1 (And.intro a2 (And.intro b1 b2)))
  clear a1 a2 b1 b2
  have Z3 := Lib.hid (set3 D2.out (.int .i64 (a % 23)) (.int .i64 (b % 4)) (.int .i64 nn))
  go_wp2
  generalize ((D.setCell ⟨w.heap.size + 1, 0, none⟩ (.int .i64 (a % 23))).setCell ⟨w.heap.size + 1, 1, none⟩ (.int .i64 (b % 4))).setCell ⟨w.heap.size + 1, 2, none⟩ (.int .i64 nn) = Z at BZ Z3 ⊢
  obtain ⟨⟨z0, z1, z2⟩, _⟩ := Z3.out.facts
  exact bodyPost_ret (v := .agg #[.int .i64 (a % 23), .int .i64 (b % 4), .int .i64 nn]) (by simp [results, Try.results54, go_sem, z0, z1, z2]) rfl ⟨_, _, _, rfl, RR.out.1, RR.out.2.1, RR.out.2.2.1, RR.out.2.2.2, BZ.out⟩
/-- block N is a struct of eight ints -/
def blk8 (w : World) (N : Nat) (ty : TypeId) (a0 a1 a2 a3 a4 a5 a6 a7 : Int) : Prop := w.heap[N]? = some (.cells #[.int .i64 a0, .int .i64 a1, .int .i64 a2, .int .i64 a3, .int .i64 a4, .int .i64 a5, .int .i64 a6, .int .i64 a7] ty (0, 0))
theorem blk8.cell {w : World} {N : Nat} {ty : TypeId} {a0 a1 a2 a3 a4 a5 a6 a7 : Int} (h : blk8 w N ty a0 a1 a2 a3 a4 a5 a6 a7) (j : Nat) : w.cell? ⟨N, j, none⟩ = (#[.int .i64 a0, .int .i64 a1, .int .i64 a2, .int .i64 a3, .int .i64 a4, .int .i64 a5, .int .i64 a6, .int .i64 a7] : Array Value)[j]? := cell_of_row w N j _ _ _ h
/-- block N is a struct of four values -/
def blk4 (w : World) (N : Nat) (ty : TypeId) (a0 a1 a2 a3 : Value) : Prop := w.heap[N]? = some (.cells #[a0, a1, a2, a3] ty (0, 0))
theorem blk4.cell {w : World} {N : Nat} {ty : TypeId} {a0 a1 a2 a3 : Value} (h : blk4 w N ty a0 a1 a2 a3) (j : Nat) : w.cell? ⟨N, j, none⟩ = (#[a0, a1, a2, a3] : Array Value)[j]? := cell_of_row w N j _ _ _ h
theorem blk4.free {w : World} {N : Nat} {ty : TypeId} {a0 a1 a2 a3 : Value} (h : blk4 w N ty a0 a1 a2 a3) (j : Nat) : w.frozen? ⟨N, j, none⟩ = false := by
  simp [World.frozen?, show w.heap[N]? = _ from h]
theorem blk4.lt {w : World} {N : Nat} {ty : TypeId} {a0 a1 a2 a3 : Value} (h : blk4 w N ty a0 a1 a2 a3) : N < w.heap.size := (Array.getElem?_eq_some_iff.1 h).1
theorem set4 {w1 : World} {N : Nat} {ty : TypeId} {a0 a1 a2 a3 : Value} (h : blk4 w1 N ty a0 a1 a2 a3) (b0 b1 b2 b3 : Value) : blk4 ((((w1.setCell ⟨N, 0, none⟩ b0).setCell ⟨N, 1, none⟩ b1).setCell ⟨N, 2, none⟩ b2).setCell ⟨N, 3, none⟩ b3) N ty b0 b1 b2 b3 := by
  unfold blk4 at h ⊢
  simp [World.setCell, Array.getElem?_modify, h]
theorem within16s (x n : Int) (h1 : 0 < n) (h2 : n ≤ 1073741824) (w : World) : Calls Try.prog 21 #[.int .i64 x, .int .i64 n] w fun e w' => e = .returned (.int .i64 (x % n)) ∧ w' = w :=
  (within16 x n h1 h2 w).mono fun _ _ ⟨a, b⟩ => ⟨a, b.symm⟩
theorem word_ins (k a b c d e f g : Int) (hk : k % 4 = 0 ∨ k % 4 = 1) (w : World) : Calls Try.prog 38 #[.agg #[.int .i64 k, .int .i64 a, .int .i64 b, .int .i64 c, .int .i64 d, .int .i64 e, .int .i64 f, .int .i64 g]] w fun e w' => (∃ y, e = .returned (.int .i64 y)) ∧ Below w.heap.size w w' := by
  obtain ⟨nn, hn⟩ : ∃ n, c % 9 - 2 = n := ⟨_, rfl⟩
  have q1 : IntKind.i64.wrap (c % 9 - 2) = nn := by rw [hn, IntKind.wrap_i64]; omega
  have n0 : -2147483648 ≤ nn := by omega
  have n1 : nn ≤ 2147483647 := by omega
  replace n0 := Lib.hid n0
  replace n1 := Lib.hid n1
  clear hn
  rcases hk with hk | hk
  all_goals
    replace hk := Lib.hid hk
    go_enter Try.func38, Try.ntmps38
    go_wp2_with (first | (go_at_call 21; refine (within16 _ _ (by decide) (by decide) _).mono ?_; rintro e w2 ⟨rfl, hw2⟩; subst hw2; (first | rw [hk.out] | skip)) | (go_at_call 54; refine (good15 _ _ _ _).mono ?_; rintro e w3 ⟨op, p, n, rfl, h0, h1, h2, h3, hb3⟩; have HB3 := Lib.hid (below2 (below_al0 _ _) hb3); have HR := Lib.hid (And.intro h0 (And.intro h1 (And.intro h2 h3))); have k8 : Hid (blk8 w3 w.heap.size 91 k a b c d e f g) := Off.keeps (.of_below (ex := fun _ => False) hb3) (heap_alloc_new w _) id; have k3 : w3.cell? ⟨w.heap.size, 3, none⟩ = some (.int .i64 c) := k8.out.cell 3; have k3' : w.heap.size < w3.heap.size := (Array.getElem?_eq_some_iff.1 k8.out).1; have k3'' : ¬ w3.heap.size = w.heap.size := (by omega); clear h0 h1 h2 h3 hb3) | (go_at_call 36; refine (r_Encode op p nn HR.out.1 HR.out.2.1 HR.out.2.2.1 HR.out.2.2.2 n0.out n1.out _).mono ?_; rintro e w4 ⟨rfl, hb4⟩; have HB4 := Lib.hid (below2 (below_al HB3.out _) hb4); clear hb4))
    go_ret
    exact ⟨⟨_, rfl⟩, HB4.out⟩
theorem word_ptr (k a b c d e f g : Int) (hk : k % 4 = 2) (w : World) : Calls Try.prog 38 #[.agg #[.int .i64 k, .int .i64 a, .int .i64 b, .int .i64 c, .int .i64 d, .int .i64 e, .int .i64 f, .int .i64 g]] w fun e w' => (∃ y, e = .returned (.int .i64 y)) ∧ Below w.heap.size w w' := by
  replace hk := Lib.hid hk
  go_enter Try.func38, Try.ntmps38
  go_wp2_with (first | (go_at_call 21; refine (within16 _ _ (by decide) (by decide) _).mono ?_; rintro e w2 ⟨rfl, hw2⟩; subst hw2; rw [hk.out]))
  obtain ⟨W, hW, B1, HB⟩ : ∃ W, w.alloc (.cells #[.int .i64 k, .int .i64 a, .int .i64 b, .int .i64 c, .int .i64 d, .int .i64 e, .int .i64 f, .int .i64 g] 91) = W ∧ Hid (blk8 W w.heap.size 91 k a b c d e f g) ∧ Hid (Below w.heap.size w W) := ⟨_, rfl, heap_alloc_new _ _, below_al0 _ _⟩
  rw [hW]
  clear hW
  have D1 : Hid (blk8 W.drew w.heap.size 91 k a b c d e f g) := B1
  have BD : Hid (Below w.heap.size w W.drew) := below_drew HB.out
  clear B1 HB
  refine still_tail 13 (by kernel_rfl) (by kernel_rfl) ?_
  simp only [List.take_succ_cons, List.take_zero, List.drop_succ_cons, List.drop_zero]
  generalize W.drew = D at BD D1 ⊢
  have c4 : D.cell? ⟨w.heap.size, 4, none⟩ = some (.int .i64 d) := D1.out.cell 4
  have c5 : D.cell? ⟨w.heap.size, 5, none⟩ = some (.int .i64 e) := D1.out.cell 5
  have c6 : D.cell? ⟨w.heap.size, 6, none⟩ = some (.int .i64 f) := D1.out.cell 6
  repeat still_step
  still_call (within16s d 5 (by decide) (by decide) _)
  repeat still_step
  still_call (within16s e 6 (by decide) (by decide) _)
  repeat still_step
  still_call (within16s f 8 (by decide) (by decide) _)
  repeat still_step
  refine wpStill_nil ?_
  go_wp2_with (first | (go_at_call 35; refine (r_EncodePointer _ _ _ _).mono ?_; rintro e w13 ⟨rfl, hb13⟩; have HB13 := Lib.hid (below2 BD.out hb13); clear hb13))
  go_ret
  exact ⟨⟨_, rfl⟩, HB13.out⟩
theorem word_raw (k a b c d e f g : Int) (hk : k % 4 = 3) (w : World) : Calls Try.prog 38 #[.agg #[.int .i64 k, .int .i64 a, .int .i64 b, .int .i64 c, .int .i64 d, .int .i64 e, .int .i64 f, .int .i64 g]] w fun e w' => (∃ y, e = .returned (.int .i64 y)) ∧ Below w.heap.size w w' := by
  replace hk := Lib.hid hk
  go_enter Try.func38, Try.ntmps38
  go_wp2_with (first | (go_at_call 21; refine (within16 _ _ (by decide) (by decide) _).mono ?_; rintro e w2 ⟨rfl, hw2⟩; subst hw2; rw [hk.out]))
  go_ret
  exact ⟨⟨_, rfl⟩, below_al0 _ _⟩
theorem c_word (k a b c d e f g : Int) (w : World) : Calls Try.prog 38 #[.agg #[.int .i64 k, .int .i64 a, .int .i64 b, .int .i64 c, .int .i64 d, .int .i64 e, .int .i64 f, .int .i64 g]] w fun e w' => (∃ y, e = .returned (.int .i64 y)) ∧ Below w.heap.size w w' := by
  rcases (show k % 4 = 0 ∨ k % 4 = 1 ∨ k % 4 = 2 ∨ k % 4 = 3 by omega) with h | h | h | h
  · exact word_ins k a b c d e f g (.inl h) w
  · exact word_ins k a b c d e f g (.inr h) w
  · exact word_ptr k a b c d e f g h w
  · exact word_raw k a b c d e f g h w
end Go.Proofs.Ytiakonmamkfopaa
