/- A word of a piece. A memory of pieces. The beginning of a processor. -/
import Derived.Test.YtiakonmamkfopaaZTk
import Derived.Test.YtiakonmamkfopaaZCpuW
import Derived.Deep.RegionHeld3
import Derived.Deep.CutRange
namespace Go.Proofs.Ytiakonmamkfopaa
open Go.RowKit Go.ChangeShapes
set_option linter.unusedVariables false
set_option maxRecDepth 100000
theorem within15 (x n : Int) (h1 : 0 < n) (h2 : n ≤ 4294967296) (w : World) : Calls Try.prog 77 #[.int .i64 x, .int .i64 n] w fun e w' => e = .returned (.int .i64 (x % n)) ∧ w = w' := by
  have hz : (n == 0) = false := by simp; omega
  obtain ⟨f1, f2, f3, f4⟩ := tmod_facts x n h1
  obtain ⟨t, ht⟩ : ∃ t, x.tmod n = t := ⟨_, rfl⟩
  rw [ht] at f1 f2 f3 f4
  by_cases h : t < 0
  · have H := Lib.hid (f3 h)
    clear f3 f4
    go_enter Try.func77, Try.ntmps77
    go_wp2
    go_ret
    exact ⟨by rw [H.out]; rfl, rfl⟩
  · have H := Lib.hid (f4 (by omega))
    clear f3 f4
    go_enter Try.func77, Try.ntmps77
    go_wp2
    go_ret
    exact ⟨by rw [H.out]; rfl, rfl⟩
theorem within15s (x n : Int) (h1 : 0 < n) (h2 : n ≤ 4294967296) (w : World) : Calls Try.prog 77 #[.int .i64 x, .int .i64 n] w fun e w' => e = .returned (.int .i64 (x % n)) ∧ w' = w :=
  (within15 x n h1 h2 w).mono fun _ _ ⟨a, b⟩ => ⟨a, b.symm⟩
theorem good15 (a b c : Int) (w : World) : Calls Try.prog 54 #[.agg #[.int .i64 a, .int .i64 b, .int .i64 c]] w fun e w' => ∃ op p n, e = .returned (.agg #[.int .i64 op, .int .i64 p, .int .i64 n]) ∧ 0 ≤ op ∧ op < 23 ∧ 0 ≤ p ∧ p < 4 ∧ Below w.heap.size w w' := by
  go_enter Try.func54, Try.ntmps54
  go_wp2_with fail
  obtain ⟨W, hW, B1, B2, HB⟩ : ∃ W, (w.alloc (.cells #[.int .i64 a, .int .i64 b, .int .i64 c] 64)).alloc (.cells #[.int .i64 0, .int .i64 0, .int .i64 0] 64) = W ∧ Hid (blk3 W w.heap.size 64 (.int .i64 a) (.int .i64 b) (.int .i64 c)) ∧ Hid (blk3 W (w.heap.size + 1) 64 (.int .i64 0) (.int .i64 0) (.int .i64 0)) ∧ Hid (Below w.heap.size w W) := by
    refine ⟨_, rfl, Off.keeps (ex := fun _ => False) ((Off.refl _ _).alloc _) (blk3.new w 64 (.int .i64 a) (.int .i64 b) (.int .i64 c)) id, ?_, below_al (below_al0 _ _) _⟩
    have h := blk3.new (w.alloc (.cells #[.int .i64 a, .int .i64 b, .int .i64 c] 64)) 64 (.int .i64 0) (.int .i64 0) (.int .i64 0)
    rw [World.size_alloc] at h
    exact h
  rw [hW]
  clear hW
  obtain ⟨nn, hn⟩ : ∃ n, c % 4294967296 - 2147483648 = n := ⟨_, rfl⟩
  have q1 : IntKind.i64.wrap (c % 4294967296 - 2147483648) = nn := by rw [hn, IntKind.wrap_i64]; omega
  have BD : Hid (Below w.heap.size w W.drew) := below_drew HB.out
  have D1 : Hid (blk3 W.drew w.heap.size 64 (.int .i64 a) (.int .i64 b) (.int .i64 c)) := B1
  have D2 : Hid (blk3 W.drew (w.heap.size + 1) 64 (.int .i64 0) (.int .i64 0) (.int .i64 0)) := B2
  clear B1 B2 HB hn
  refine still_tail 11 (by kernel_rfl) (by kernel_rfl) ?_
  simp only [List.take_succ_cons, List.take_zero, List.drop_succ_cons, List.drop_zero]
  generalize W.drew = D at BD D1 D2 ⊢
  obtain ⟨⟨c0, c1, c2⟩, _⟩ := D1.out.facts
  repeat still_step
  still_call (within15s a 23 (by decide) (by decide) _)
  repeat still_step
  still_call (within15s b 4 (by decide) (by decide) _)
  repeat still_step
  still_call (within15s c 4294967296 (by decide) (by decide) _)
  repeat still_step
  refine wpStill_nil ?_
  obtain ⟨⟨d0, d1, d2⟩, df⟩ := D2.out.facts
  have a1 := Int.emod_nonneg a (show (23 : Int) ≠ 0 by decide)
  have a2 := Int.emod_lt_of_pos a (show (0 : Int) < 23 by decide)
  have b1 := Int.emod_nonneg b (show (4 : Int) ≠ 0 by decide)
  have b2 := Int.emod_lt_of_pos b (show (0 : Int) < 4 by decide)
  have BZ : Hid (Below w.heap.size w (((D.setCell ⟨w.heap.size + 1, 0, none⟩ (.int .i64 (a % 23))).setCell ⟨w.heap.size + 1, 1, none⟩ (.int .i64 (b % 4))).setCell ⟨w.heap.size + 1, 2, none⟩ (.int .i64 nn))) := Off.below BD.out (((off1 _ _ _ _).trans (off1 _ _ _ _)).trans (off1 _ _ _ _)) BD.out.size (fun k hk => by omega)
  have RR := Lib.hid (And.intro a1 (And.intro a2 (And.intro b1 b2)))
  clear a1 a2 b1 b2
  have Z3 := Lib.hid (set3 D2.out (.int .i64 (a % 23)) (.int .i64 (b % 4)) (.int .i64 nn))
  go_wp2
  generalize ((D.setCell ⟨w.heap.size + 1, 0, none⟩ (.int .i64 (a % 23))).setCell ⟨w.heap.size + 1, 1, none⟩ (.int .i64 (b % 4))).setCell ⟨w.heap.size + 1, 2, none⟩ (.int .i64 nn) = Z at BZ Z3 ⊢
  obtain ⟨⟨z0, z1, z2⟩, _⟩ := Z3.out.facts
  exact bodyPost_ret (v := .agg #[.int .i64 (a % 23), .int .i64 (b % 4), .int .i64 nn]) (by simp [results, Try.results54, go_sem, z0, z1, z2]) rfl ⟨_, _, _, rfl, RR.out.1, RR.out.2.1, RR.out.2.2.1, RR.out.2.2.2, BZ.out⟩
/-- block N is a struct of eight ints -/
def blk8 (w : World) (N : Nat) (ty : TypeId) (a0 a1 a2 a3 a4 a5 a6 a7 : Int) : Prop := w.heap[N]? = some (.cells #[.int .i64 a0, .int .i64 a1, .int .i64 a2, .int .i64 a3, .int .i64 a4, .int .i64 a5, .int .i64 a6, .int .i64 a7] ty (0, 0))
theorem blk8.cell {w : World} {N : Nat} {ty : TypeId} {a0 a1 a2 a3 a4 a5 a6 a7 : Int} (h : blk8 w N ty a0 a1 a2 a3 a4 a5 a6 a7) (j : Nat) : w.cell? ⟨N, j, none⟩ = (#[.int .i64 a0, .int .i64 a1, .int .i64 a2, .int .i64 a3, .int .i64 a4, .int .i64 a5, .int .i64 a6, .int .i64 a7] : Array Value)[j]? := cell_of_row w N j _ _ _ h
/-- block N is a struct of four values -/
def blk4 (w : World) (N : Nat) (ty : TypeId) (a0 a1 a2 a3 : Value) : Prop := w.heap[N]? = some (.cells #[a0, a1, a2, a3] ty (0, 0))
theorem blk4.cell {w : World} {N : Nat} {ty : TypeId} {a0 a1 a2 a3 : Value} (h : blk4 w N ty a0 a1 a2 a3) (j : Nat) : w.cell? ⟨N, j, none⟩ = (#[a0, a1, a2, a3] : Array Value)[j]? := cell_of_row w N j _ _ _ h
theorem blk4.free {w : World} {N : Nat} {ty : TypeId} {a0 a1 a2 a3 : Value} (h : blk4 w N ty a0 a1 a2 a3) (j : Nat) : w.frozen? ⟨N, j, none⟩ = false := by
  simp [World.frozen?, show w.heap[N]? = _ from h]
theorem blk4.lt {w : World} {N : Nat} {ty : TypeId} {a0 a1 a2 a3 : Value} (h : blk4 w N ty a0 a1 a2 a3) : N < w.heap.size := (Array.getElem?_eq_some_iff.1 h).1
theorem set4 {w1 : World} {N : Nat} {ty : TypeId} {a0 a1 a2 a3 : Value} (h : blk4 w1 N ty a0 a1 a2 a3) (b0 b1 b2 b3 : Value) : blk4 ((((w1.setCell ⟨N, 0, none⟩ b0).setCell ⟨N, 1, none⟩ b1).setCell ⟨N, 2, none⟩ b2).setCell ⟨N, 3, none⟩ b3) N ty b0 b1 b2 b3 := by
  unfold blk4 at h ⊢
  simp [World.setCell, Array.getElem?_modify, h]
theorem within16s (x n : Int) (h1 : 0 < n) (h2 : n ≤ 1073741824) (w : World) : Calls Try.prog 21 #[.int .i64 x, .int .i64 n] w fun e w' => e = .returned (.int .i64 (x % n)) ∧ w' = w :=
  (within16 x n h1 h2 w).mono fun _ _ ⟨a, b⟩ => ⟨a, b.symm⟩
/-- a 64-bit number -/
def WfI (x : Int) : Prop := (Lit.int .i64 x).wf = true
theorem wfI_of {x : Int} (h1 : -9223372036854775808 ≤ x) (h2 : x ≤ 9223372036854775807) : WfI x := by
  unfold WfI
  simp [Lit.wf, IntKind.min, IntKind.max, IntKind.signed, IntKind.bits]
  omega
theorem wf_encP (a b c : Int) : WfI (encP a b c) := by
  apply wfI_of <;> unfold encP <;> omega
theorem wf_encI (op p n : Int) (h0 : 0 ≤ op) (h1 : op < 23) (h2 : 0 ≤ p) (h3 : p < 4) : WfI (encI op p n) := by
  apply wfI_of <;> unfold encI <;> omega
theorem word_ins (k a b c d e f g : Int) (hk : k % 4 = 0 ∨ k % 4 = 1) (w : World) : Calls Try.prog 38 #[.agg #[.int .i64 k, .int .i64 a, .int .i64 b, .int .i64 c, .int .i64 d, .int .i64 e, .int .i64 f, .int .i64 g]] w fun e w' => (∃ y, e = .returned (.int .i64 y) ∧ WfI y) ∧ Below w.heap.size w w' := by
  obtain ⟨nn, hn⟩ : ∃ n, c % 9 - 2 = n := ⟨_, rfl⟩
  have q1 : IntKind.i64.wrap (c % 9 - 2) = nn := by rw [hn, IntKind.wrap_i64]; omega
  have n0 : -2147483648 ≤ nn := by omega
  have n1 : nn ≤ 2147483647 := by omega
  replace n0 := Lib.hid n0
  replace n1 := Lib.hid n1
  clear hn
  rcases hk with hk | hk
  all_goals
    replace hk := Lib.hid hk
    go_enter Try.func38, Try.ntmps38
    go_wp2_with (first | (go_at_call 21; refine (within16 _ _ (by decide) (by decide) _).mono ?_; rintro e w2 ⟨rfl, hw2⟩; subst hw2; (first | rw [hk.out] | skip)) | (go_at_call 54; refine (good15 _ _ _ _).mono ?_; rintro e w3 ⟨op, p, n, rfl, h0, h1, h2, h3, hb3⟩; have HB3 := Lib.hid (below2 (below_al0 _ _) hb3); have HR := Lib.hid (And.intro h0 (And.intro h1 (And.intro h2 h3))); have k8 : Hid (blk8 w3 w.heap.size 91 k a b c d e f g) := Off.keeps (.of_below (ex := fun _ => False) hb3) (heap_alloc_new w _) id; have k3 : w3.cell? ⟨w.heap.size, 3, none⟩ = some (.int .i64 c) := k8.out.cell 3; have k3' : w.heap.size < w3.heap.size := (Array.getElem?_eq_some_iff.1 k8.out).1; have k3'' : ¬ w3.heap.size = w.heap.size := (by omega); clear h0 h1 h2 h3 hb3) | (go_at_call 36; refine (r_Encode op p nn HR.out.1 HR.out.2.1 HR.out.2.2.1 HR.out.2.2.2 n0.out n1.out _).mono ?_; rintro e w4 ⟨rfl, hb4⟩; have HB4 := Lib.hid (below2 (below_al HB3.out _) hb4); clear hb4))
    go_ret
    exact ⟨⟨_, rfl, wf_encI _ _ _ HR.out.1 HR.out.2.1 HR.out.2.2.1 HR.out.2.2.2⟩, HB4.out⟩
theorem word_ptr (k a b c d e f g : Int) (hk : k % 4 = 2) (w : World) : Calls Try.prog 38 #[.agg #[.int .i64 k, .int .i64 a, .int .i64 b, .int .i64 c, .int .i64 d, .int .i64 e, .int .i64 f, .int .i64 g]] w fun e w' => (∃ y, e = .returned (.int .i64 y) ∧ WfI y) ∧ Below w.heap.size w w' := by
  replace hk := Lib.hid hk
  go_enter Try.func38, Try.ntmps38
  go_wp2_with (first | (go_at_call 21; refine (within16 _ _ (by decide) (by decide) _).mono ?_; rintro e w2 ⟨rfl, hw2⟩; subst hw2; rw [hk.out]))
  obtain ⟨W, hW, B1, HB⟩ : ∃ W, w.alloc (.cells #[.int .i64 k, .int .i64 a, .int .i64 b, .int .i64 c, .int .i64 d, .int .i64 e, .int .i64 f, .int .i64 g] 91) = W ∧ Hid (blk8 W w.heap.size 91 k a b c d e f g) ∧ Hid (Below w.heap.size w W) := ⟨_, rfl, heap_alloc_new _ _, below_al0 _ _⟩
  rw [hW]
  clear hW
  have D1 : Hid (blk8 W.drew w.heap.size 91 k a b c d e f g) := B1
  have BD : Hid (Below w.heap.size w W.drew) := below_drew HB.out
  clear B1 HB
  refine still_tail 13 (by kernel_rfl) (by kernel_rfl) ?_
  simp only [List.take_succ_cons, List.take_zero, List.drop_succ_cons, List.drop_zero]
  generalize W.drew = D at BD D1 ⊢
  have c4 : D.cell? ⟨w.heap.size, 4, none⟩ = some (.int .i64 d) := D1.out.cell 4
  have c5 : D.cell? ⟨w.heap.size, 5, none⟩ = some (.int .i64 e) := D1.out.cell 5
  have c6 : D.cell? ⟨w.heap.size, 6, none⟩ = some (.int .i64 f) := D1.out.cell 6
  repeat still_step
  still_call (within16s d 5 (by decide) (by decide) _)
  repeat still_step
  still_call (within16s e 6 (by decide) (by decide) _)
  repeat still_step
  still_call (within16s f 8 (by decide) (by decide) _)
  repeat still_step
  refine wpStill_nil ?_
  go_wp2_with (first | (go_at_call 35; refine (r_EncodePointer _ _ _ _).mono ?_; rintro e w13 ⟨rfl, hb13⟩; have HB13 := Lib.hid (below2 BD.out hb13); clear hb13))
  go_ret
  exact ⟨⟨_, rfl, wf_encP _ _ _⟩, HB13.out⟩
theorem word_raw (k a b c d e f g : Int) (hg : WfI g) (hk : k % 4 = 3) (w : World) : Calls Try.prog 38 #[.agg #[.int .i64 k, .int .i64 a, .int .i64 b, .int .i64 c, .int .i64 d, .int .i64 e, .int .i64 f, .int .i64 g]] w fun e w' => (∃ y, e = .returned (.int .i64 y) ∧ WfI y) ∧ Below w.heap.size w w' := by
  replace hk := Lib.hid hk
  go_enter Try.func38, Try.ntmps38
  go_wp2_with (first | (go_at_call 21; refine (within16 _ _ (by decide) (by decide) _).mono ?_; rintro e w2 ⟨rfl, hw2⟩; subst hw2; rw [hk.out]))
  go_ret
  exact ⟨⟨_, rfl, hg⟩, below_al0 _ _⟩
theorem c_word (k a b c d e f g : Int) (hg : WfI g) (w : World) : Calls Try.prog 38 #[.agg #[.int .i64 k, .int .i64 a, .int .i64 b, .int .i64 c, .int .i64 d, .int .i64 e, .int .i64 f, .int .i64 g]] w fun e w' => (∃ y, e = .returned (.int .i64 y) ∧ WfI y) ∧ Below w.heap.size w w' := by
  rcases (show k % 4 = 0 ∨ k % 4 = 1 ∨ k % 4 = 2 ∨ k % 4 = 3 by omega) with h | h | h | h
  · exact word_ins k a b c d e f g (.inl h) w
  · exact word_ins k a b c d e f g (.inr h) w
  · exact word_ptr k a b c d e f g h w
  · exact word_raw k a b c d e f g hg h w
end Go.Proofs.Ytiakonmamkfopaa
namespace Go.Proofs.Ytiakonmamkfopaa
open Go.RowKit Go.ChangeShapes
set_option linter.unusedVariables false
set_option maxRecDepth 100000
/-- a slice of words, as it is handed in -/
def WdAt (w : World) (v : Value) : Prop := ∃ ad n cap, v = .slice ad n cap ∧ n ≤ cap ∧ cap ≤ maxLen ∧ ∀ k, k < n → ∃ b o, ad = some ⟨b, o, none⟩ ∧ b < w.heap.size ∧ ∃ a0 a1 a2 a3 a4 a5 a6 a7 : Int,
  w.cell? ⟨b, o + k * 8, none⟩ = some (.int .i64 a0) ∧ w.cell? ⟨b, o + k * 8 + 1, none⟩ = some (.int .i64 a1) ∧ w.cell? ⟨b, o + k * 8 + 2, none⟩ = some (.int .i64 a2) ∧ w.cell? ⟨b, o + k * 8 + 3, none⟩ = some (.int .i64 a3) ∧
  w.cell? ⟨b, o + k * 8 + 4, none⟩ = some (.int .i64 a4) ∧ w.cell? ⟨b, o + k * 8 + 5, none⟩ = some (.int .i64 a5) ∧ w.cell? ⟨b, o + k * 8 + 6, none⟩ = some (.int .i64 a6) ∧ w.cell? ⟨b, o + k * 8 + 7, none⟩ = some (.int .i64 a7) ∧ WfI a7
/-- a slice of pieces, as it is handed in -/
def PcAt (w : World) (v : Value) : Prop := ∃ ad n cap, v = .slice ad n cap ∧ n ≤ cap ∧ cap ≤ maxLen ∧ ∀ k, k < n → ∃ b o, ad = some ⟨b, o, none⟩ ∧ b < w.heap.size ∧ ∃ (no : Bool) (md r1 r2 r3 g : Int) (u : Value), WdAt w u ∧
  w.cell? ⟨b, o + k * 7, none⟩ = some (.bool no) ∧ w.cell? ⟨b, o + k * 7 + 1, none⟩ = some (.int .i64 md) ∧ w.cell? ⟨b, o + k * 7 + 2, none⟩ = some (.int .i64 r1) ∧ w.cell? ⟨b, o + k * 7 + 3, none⟩ = some (.int .i64 r2) ∧
  w.cell? ⟨b, o + k * 7 + 4, none⟩ = some (.int .i64 r3) ∧ w.cell? ⟨b, o + k * 7 + 5, none⟩ = some (.int .i64 g) ∧ w.cell? ⟨b, o + k * 7 + 6, none⟩ = some u
/-- a segment that was made of a piece -/
structure GoodSg (g : Sg) : Prop where
  ws : g.ws.length ≤ 16
  a : 0 ≤ g.r1
  b : g.r1 ≤ g.r2
  c : g.r2 ≤ g.r3
  d : g.r3 ≤ 7
  e : 0 ≤ g.g
  f : g.g ≤ 16
  m : 0 ≤ g.md
  n : g.md < 8
/-- a piece's words, so far -/
structure Inr (wo w2 : World) (T : Nat) (is : Bool) (m ga gb gc gd : Int) (no : Bool) (md r1 r2 r3 g : Int) (u : Value) (ws : List Int) (wv : Value) : Prop where
  t : blk7 w2 T 57 (.bool is) wv (.int .i64 m) (.int .i64 ga) (.int .i64 gb) (.int .i64 gc) (.int .i64 gd)
  row : w2.ownsRow (wo.heap.size + 1) 2 1 wv ws.length (ws.map (Value.int .i64))
  p : blk7 w2 wo.heap.size 87 (.bool no) (.int .i64 md) (.int .i64 r1) (.int .i64 r2) (.int .i64 r3) (.int .i64 g) u
  bl : Below wo.heap.size wo w2
  tw : wo.heap.size < T
  wf : ∀ x ∈ ws, WfI x
theorem row_new {w : World} {v : Value} {k : Nat} {B : Nat} {e ty : TypeId} {size n : Nat} {xs : List Value} {T : Nat} {cs : Array Value} (h : w.ownsRow B e size v n xs) (ht : w.heap[T]? = some (.cells cs ty (0, 0))) (hne : e ≠ ty) (hk : v.ownBlock = some k) : ¬ T = k := by
  rintro rfl
  rcases h.2 with ⟨hv, _⟩ | ⟨g, cap, cur, hv, _, hg, _⟩
  · subst hv; simp [Value.ownBlock] at hk
  · subst hv
    simp [Value.ownBlock] at hk
    subst hk
    rw [ht] at hg
    simp only [Option.some.injEq, Obj.cells.injEq] at hg
    exact hne hg.2.1.symm
structure MMr (w wr : World) (mv : Value) (vs : List Value) (M : List Sg) (i : Nat) : Prop where
  segs : Segs wr w.heap.size mv vs M
  len : M.length = i
  good : ∀ g ∈ M, GoodSg g
  bl : Below w.heap.size w wr
  wf : ∀ g ∈ M, ∀ x ∈ g.ws, WfI x
theorem Good_some6 (r1 r2 r3 g : Int) (w : World) : Calls Try.prog 37 #[.agg #[.int .i64 r1, .int .i64 r2, .int .i64 r3, .int .i64 g]] w fun e w' =>
    ∃ a b c d, e = .returned (.agg #[.int .i64 a, .int .i64 b, .int .i64 c, .int .i64 d]) ∧ (0 ≤ a ∧ a ≤ b ∧ b ≤ c ∧ c ≤ 7 ∧ 0 ≤ d ∧ d ≤ 16) ∧ Below w.heap.size w w' := by
  refine (Good_ok r1 r2 r3 g w).mono fun _ _ ⟨h, hb⟩ => ⟨_, _, _, _, h, ⟨?_, ?_, ?_, ?_, ?_, ?_⟩, hb⟩
  all_goals
    have a1 := Int.emod_nonneg r1 (show (8 : Int) ≠ 0 by decide)
    have a2 := Int.emod_lt_of_pos r1 (show (0 : Int) < 8 by decide)
    generalize r1 % 8 = a at *
    have b1 := Int.emod_nonneg r2 (show (8 - a : Int) ≠ 0 by omega)
    have b2 := Int.emod_lt_of_pos r2 (show (0 : Int) < 8 - a by omega)
    generalize r2 % (8 - a) = b at *
    have c1 := Int.emod_nonneg r3 (show (8 - (a + b) : Int) ≠ 0 by omega)
    have c2 := Int.emod_lt_of_pos r3 (show (0 : Int) < 8 - (a + b) by omega)
    omega
theorem A.infoG : (Try.prog.info? 57).map (fun i => (i.zero, i.size, i.bytes)) = some (some (.agg #[.bool false, .slice none 0 0, .int .i64 0, .int .i64 0, .int .i64 0, .int .i64 0, .int .i64 0]), 7, 72) := by kernel_rfl
theorem A.underG : Try.prog.underlying 30 = some (.slice 57) := by kernel_rfl
theorem Addr.add_mk0 (B j : Nat) : (⟨B, 0, none⟩ : Addr).add j = ⟨B, j, none⟩ := by
  unfold Addr.add
  by_cases h : j = 0
  · subst h; rfl
  · simp [h]
theorem rows_snoc : ∀ (M : List Sg) (vs : List Value) (s : Sg) (v : Value), vs.length = M.length → rows (M ++ [s]) (vs ++ [v]) = rows M vs ++ s.row v
  | [], [], s, v, _ => by simp [rows]
  | a :: M, b :: vs, s, v, h => by
    have ih := rows_snoc M vs s v (by simpa using h)
    simp only [List.cons_append, rows, ih, List.append_assoc]
theorem MMr.snoc {w wo w2 w5 : World} {mv wv v' : Value} {vs : List Value} {M : List Sg} {i T : Nat} {is : Bool} {m ga gb gc gd : Int} {no : Bool} {md r1 r2 r3 g : Int} {u : Value} {ws : List Int} {o : Obj} (HM : MMr w wo mv vs M i) (HI : Inr wo w2 T is m ga gb gc gd no md r1 r2 r3 g u ws wv) (GG : GoodSg ⟨is, [], m, ga, gb, gc, gd⟩) (h16 : ws.length ≤ 16)
    (hmv : (w2.alloc o).ownsRow w.heap.size 57 7 mv M.length (rows M vs)) (hown : w5.ownsRow w.heap.size 57 7 v' (M.length + 1) (rows M vs ++ [.bool is, wv, .int .i64 m, .int .i64 ga, .int .i64 gb, .int .i64 gc, .int .i64 gd])) (hg : (w2.alloc o).grownBy w5 mv.ownBlock) :
    MMr w w5 v' (vs ++ [wv]) (M ++ [⟨is, ws, m, ga, gb, gc, gd⟩]) (i + 1) := by
  have o1 : Off (fun k => mv.ownBlock = some k) wo w5 := ((Off.of_below HI.bl).trans ((Off.refl _ _).alloc o)).trans (Off.grown (Off.refl _ _) hg (fun k hk => .inl hk))
  have o2 : Off (fun k => mv.ownBlock = some k) w2 w5 := ((Off.refl _ _).alloc o).trans (Off.grown (Off.refl _ _) hg (fun k hk => .inl hk))
  have hne : ∀ (W : World), W.ownsRow w.heap.size 57 7 mv M.length (rows M vs) → ∀ k, mv.ownBlock = some k → ∀ cs, W.heap[k]? ≠ some (.cells cs 2 (0, 0)) := fun W h k hk cs hc => row_new h hc (by decide) hk rfl
  have hmw : w2.ownsRow w.heap.size 57 7 mv M.length (rows M vs) := Off.row (ex := fun _ => False) (.of_below HI.bl) HM.segs.row (fun _ h => h.elim)
  refine ⟨⟨by simp [HM.segs.len], ?_, ?_⟩, by simp [HM.len], ?_, ?_, ?_⟩
  · rw [rows_snoc _ _ _ _ HM.segs.len, List.length_append]
    exact hown
  · intro j s x hs hx
    rcases Nat.lt_or_ge j M.length with hj | hj
    · rw [List.getElem?_append_left hj] at hs
      rw [List.getElem?_append_left (by rw [HM.segs.len]; exact hj)] at hx
      exact Off.row o1 (HM.segs.words j s x hs hx) (hne _ HM.segs.row)
    · rw [List.getElem?_append_right hj] at hs
      rw [List.getElem?_append_right (by rw [HM.segs.len]; exact hj)] at hx
      rw [HM.segs.len] at hx
      match hq : j - M.length with
      | 0 =>
        rw [hq] at hs hx
        simp only [List.getElem?_cons_zero, Option.some.injEq] at hs hx
        subst hs; subst hx
        exact row_base (Off.row o2 HI.row (hne _ hmw)) (by have := HM.bl.size; omega)
      | q + 1 => rw [hq] at hs; simp at hs
  · intro x hx
    rcases List.mem_append.1 hx with h | h
    · exact HM.good x h
    · simp only [List.mem_singleton] at h
      subst h
      exact ⟨h16, GG.a, GG.b, GG.c, GG.d, GG.e, GG.f, GG.m, GG.n⟩
  · have b1 : Below w.heap.size w w2 := HM.bl.trans (HI.bl.mono HM.bl.size)
    exact (b1.alloc b1.size o).grown hg (by have := b1.size; simp; omega) (fun k hk => (hmv.lt k hk).1)
  · intro x hx
    rcases List.mem_append.1 hx with h | h
    · exact HM.wf x h
    · simp only [List.mem_singleton] at h
      subst h
      exact HI.wf
set_option maxHeartbeats 8000000 in
theorem c_memory2 (w : World) (v : Value) (hv : PcAt w v) : Calls Try.prog 15 #[v] w fun e w' => ∃ v' vs M, e = .returned v' ∧ Segs w' w.heap.size v' vs M ∧ M.length ≤ 5 ∧ (∀ g ∈ M, GoodSg g) ∧ (∀ g ∈ M, ∀ x ∈ g.ws, WfI x) ∧ Below w.heap.size w w' := by
  obtain ⟨ad, n, cap, rfl, hn, hcap, hc⟩ := hv
  have hmx : n ≤ 9223372036854775807 := by unfold maxLen at hcap; omega
  replace hc := Lib.hid hc
  have H0 : Hid (MMr w w (.slice none 0 0) [] [] 0) := ⟨⟨rfl, ⟨rfl, .inl ⟨rfl, rfl⟩⟩, fun i s u hs _ => by simp at hs⟩, rfl, fun g hg => by simp at hg, Below.refl _ _, fun g hg => by simp at hg⟩
  go_enter Try.func15, Try.ntmps15
  go_wp2_with fail
  go_loopw [3, 4] (fun mv iv wr => ∃ (i : Nat) (vs : List Value) (M : List Sg), iv = .int .i64 i ∧ i ≤ n ∧ i ≤ 5 ∧ Hid (MMr w wr mv vs M i)) (fun _ iv _ => 5 - (intOf iv).toNat)
  case atStart => exact ⟨0, [], [], rfl, by omega, by omega, H0⟩
  case round =>
    clear H0
    obtain ⟨wo, rfl⟩ : ∃ wo : World, wo = wr := ⟨_, rfl⟩
    obtain ⟨i, vs, M, rfl, hin, hi5, HM⟩ := hrel
    by_cases hlt : i < n ∧ i < 5
    · obtain ⟨hl1, hl2⟩ := hlt
      have hl2' : (i : Int) < 5 := by omega
      obtain ⟨b, o, rfl, hb, no, md, r1, r2, r3, g, u, hu, c0, c1, c2, c3, c4, c5, c6⟩ := hc.out i hl1
      have hbl := HM.out.bl
      replace c0 := (hbl.cell hb).trans c0
      replace c1 := (hbl.cell hb).trans c1
      replace c2 := (hbl.cell hb).trans c2
      replace c3 := (hbl.cell hb).trans c3
      replace c4 := (hbl.cell hb).trans c4
      replace c5 := (hbl.cell hb).trans c5
      replace c6 := (hbl.cell hb).trans c6
      obtain ⟨adw, nw, cw, rfl, hnw, hcw, hww⟩ := hu
      replace hww := Lib.hid hww
      replace hnw := Lib.hid hnw
      replace hcw := Lib.hid hcw
      replace hbl := Lib.hid hbl
      replace hb := Lib.hid hb
      go_upto_region 6 with fail
      obtain ⟨W1, hW1, Q1, B1⟩ : ∃ W, wo.alloc (.cells #[.bool no, .int .i64 md, .int .i64 r1, .int .i64 r2, .int .i64 r3, .int .i64 g, .slice adw nw cw] 87) = W ∧ Hid (blk7 W wo.heap.size 87 (.bool no) (.int .i64 md) (.int .i64 r1) (.int .i64 r2) (.int .i64 r3) (.int .i64 g) (.slice adw nw cw)) ∧ Hid (Below wo.heap.size wo W) := ⟨_, rfl, heap_alloc_new _ _, below_al0 _ _⟩
      rw [hW1]
      clear hW1 c0 c1 c2 c3 c4 c5 c6
      go_cut [6] from 8 to 57 (fun tv wx => ∃ (T : Nat) (is : Bool) (m ga gb gc gd : Int), tv = .pointer (some ⟨T, 0, none⟩) ∧ Hid (blk7 wx T 57 (.bool is) (.slice none 0 0) (.int .i64 m) (.int .i64 ga) (.int .i64 gb) (.int .i64 gc) (.int .i64 gd)) ∧ Hid (GoodSg ⟨is, [], m, ga, gb, gc, gd⟩) ∧ Hid (blk7 wx wo.heap.size 87 (.bool no) (.int .i64 md) (.int .i64 r1) (.int .i64 r2) (.int .i64 r3) (.int .i64 g) (.slice adw nw cw)) ∧ Hid (Below wo.heap.size wo wx) ∧ Hid (wo.heap.size < T))
      case first =>
        have QD : Hid (blk7 W1.drew wo.heap.size 87 (.bool no) (.int .i64 md) (.int .i64 r1) (.int .i64 r2) (.int .i64 r3) (.int .i64 g) (.slice adw nw cw)) := Q1
        have BD : Hid (Below wo.heap.size wo W1.drew) := below_drew B1.out
        have hmd : Hid (0 ≤ md % 8 ∧ md % 8 < 8) := Lib.hid ⟨by omega, by omega⟩
        refine wp_region_held_drew (S := fun w' => Below W1.drew.heap.size W1.drew w') (by kernel_rfl) (Below.refl _ _) (fun hHeld => ?_)
        generalize W1.drew = D at QD BD hHeld ⊢
        have BC := Lib.hid (Below.refl D.heap.size D)
        have hWD : Hid (wo.heap.size < D.heap.size) := QD.out.lt
        clear Q1 B1
        have k0 : ∀ w', Below D.heap.size D w' → w'.cell? ⟨wo.heap.size, 0, none⟩ = some (.bool no) := fun w' h => (show blk7 w' wo.heap.size 87 (.bool no) (.int .i64 md) (.int .i64 r1) (.int .i64 r2) (.int .i64 r3) (.int .i64 g) (.slice adw nw cw) from Off.keeps (.of_below (ex := fun _ => False) h) QD.out id).cell 0
        have k1 : ∀ w', Below D.heap.size D w' → w'.cell? ⟨wo.heap.size, 1, none⟩ = some (.int .i64 md) := fun w' h => (show blk7 w' wo.heap.size 87 (.bool no) (.int .i64 md) (.int .i64 r1) (.int .i64 r2) (.int .i64 r3) (.int .i64 g) (.slice adw nw cw) from Off.keeps (.of_below (ex := fun _ => False) h) QD.out id).cell 1
        have k2 : ∀ w', Below D.heap.size D w' → w'.cell? ⟨wo.heap.size, 2, none⟩ = some (.int .i64 r1) := fun w' h => (show blk7 w' wo.heap.size 87 (.bool no) (.int .i64 md) (.int .i64 r1) (.int .i64 r2) (.int .i64 r3) (.int .i64 g) (.slice adw nw cw) from Off.keeps (.of_below (ex := fun _ => False) h) QD.out id).cell 2
        have k3 : ∀ w', Below D.heap.size D w' → w'.cell? ⟨wo.heap.size, 3, none⟩ = some (.int .i64 r2) := fun w' h => (show blk7 w' wo.heap.size 87 (.bool no) (.int .i64 md) (.int .i64 r1) (.int .i64 r2) (.int .i64 r3) (.int .i64 g) (.slice adw nw cw) from Off.keeps (.of_below (ex := fun _ => False) h) QD.out id).cell 3
        have k4 : ∀ w', Below D.heap.size D w' → w'.cell? ⟨wo.heap.size, 4, none⟩ = some (.int .i64 r3) := fun w' h => (show blk7 w' wo.heap.size 87 (.bool no) (.int .i64 md) (.int .i64 r1) (.int .i64 r2) (.int .i64 r3) (.int .i64 g) (.slice adw nw cw) from Off.keeps (.of_below (ex := fun _ => False) h) QD.out id).cell 4
        have k5 : ∀ w', Below D.heap.size D w' → w'.cell? ⟨wo.heap.size, 5, none⟩ = some (.int .i64 g) := fun w' h => (show blk7 w' wo.heap.size 87 (.bool no) (.int .i64 md) (.int .i64 r1) (.int .i64 r2) (.int .i64 r3) (.int .i64 g) (.slice adw nw cw) from Off.keeps (.of_below (ex := fun _ => False) h) QD.out id).cell 5
        have k6 : ∀ w', Below D.heap.size D w' → w'.cell? ⟨wo.heap.size, 6, none⟩ = some (.slice adw nw cw) := fun w' h => (show blk7 w' wo.heap.size 87 (.bool no) (.int .i64 md) (.int .i64 r1) (.int .i64 r2) (.int .i64 r3) (.int .i64 g) (.slice adw nw cw) from Off.keeps (.of_below (ex := fun _ => False) h) QD.out id).cell 6
        refine tkA 0 ?_
        try simp only [Act.put, sA, sB, sC]
        refine tkA 1 ?_
        try simp only [Act.put, sA, sB, sC]
        refine tkA 2 ?_
        try simp only [Act.put, sA, sB, sC]
        refine tkA 3 ?_
        try simp only [Act.put, sA, sB, sC]
        refine tkA 4 ?_
        try simp only [Act.put, sA, sB, sC]
        refine tkA 6 ?_
        try simp only [Act.put, sA, sB, sC]
        refine tkA 7 ?_
        try simp only [Act.put, sA, sB, sC]
        clear k0 k1 k2 k3 k4 k5 k6
        refine rdB 5 10 (fun K hK => ?_) (fun K hK => ?_)
        · go_simp
          refine (within16 _ _ (by decide) (by decide) _).mono ?_
          rintro e w2 ⟨rfl, hw2⟩
          subst hw2
          dsimp only
          refine hK.out _ _ ?_ (fun hHeld => ?_)
          · exact BC.out
          clear hK K
          try simp only [Act.put, sA, sB, sC]
          refine rdB 8 10 (fun K hK => ?_) (fun K hK => ?_)
          · go_simp
            refine (Good_some6 r1 r2 r3 g D).mono ?_
            rintro e X1 ⟨ga, gb, gc, gd, rfl, hgg, hb1⟩
            dsimp only
            refine hK.out _ _ ?_ (fun hHeld => ?_)
            · exact below2 BC.out hb1
            clear hK K
            try simp only [Act.put, sA, sB, sC]
            have GG := Lib.hid hgg
            clear hgg
            replace BC := Lib.hid (below2 BC.out hb1)
            have hz1 := Lib.hid hb1.size
            clear hb1
            refine tkA 9 ?_
            try simp only [Act.put, sA, sB, sC]
            refine rdA 10 (fun K hK => ?_)
            go_simp
            refine hK.out _ _ ?_ (fun hHeld => ?_)
            · exact below_al BC.out (.cells #[.bool false, .slice none 0 0, .int .i64 0, .int .i64 0, .int .i64 0, .int .i64 0, .int .i64 0] 57)
            clear hK K
            try simp only [Act.put, sA, sB, sC]
            have hTD : Hid (D.heap.size ≤ X1.heap.size) := BC.out.size
            have hTW : Hid (wo.heap.size < X1.heap.size) := Nat.lt_of_lt_of_le hWD.out hTD.out
            have T := Lib.hid (heap_alloc_new X1 (.cells #[.bool false, .slice none 0 0, .int .i64 0, .int .i64 0, .int .i64 0, .int .i64 0, .int .i64 0] 57))
            replace BC := Lib.hid (below_al BC.out (.cells #[.bool false, .slice none 0 0, .int .i64 0, .int .i64 0, .int .i64 0, .int .i64 0, .int .i64 0] 57))
            have hz2 := Lib.hid (World.size_alloc X1 (.cells #[.bool false, .slice none 0 0, .int .i64 0, .int .i64 0, .int .i64 0, .int .i64 0, .int .i64 0] 57))
            generalize X1.alloc (.cells #[.bool false, .slice none 0 0, .int .i64 0, .int .i64 0, .int .i64 0, .int .i64 0, .int .i64 0] 57) = X2 at hHeld T BC hz2 ⊢
            have t0 : ∀ j, X2.frozen? ⟨X1.heap.size, j, none⟩ = false := fun j => (show blk7 X2 (X1.heap.size) 57 (.bool false) (.slice none 0 0) (.int .i64 0) (.int .i64 0) (.int .i64 0) (.int .i64 0) (.int .i64 0) from T.out).free j
            have tR : X1.heap.size < X2.heap.size := (show blk7 X2 (X1.heap.size) 57 (.bool false) (.slice none 0 0) (.int .i64 0) (.int .i64 0) (.int .i64 0) (.int .i64 0) (.int .i64 0) from T.out).lt
            have u0 : X2.cell? ⟨X1.heap.size, 0, none⟩ = some (.bool false) := (show blk7 X2 (X1.heap.size) 57 (.bool false) (.slice none 0 0) (.int .i64 0) (.int .i64 0) (.int .i64 0) (.int .i64 0) (.int .i64 0) from T.out).cell 0
            have u1 : X2.cell? ⟨X1.heap.size, 1, none⟩ = some (.slice none 0 0) := (show blk7 X2 (X1.heap.size) 57 (.bool false) (.slice none 0 0) (.int .i64 0) (.int .i64 0) (.int .i64 0) (.int .i64 0) (.int .i64 0) from T.out).cell 1
            have u2 : X2.cell? ⟨X1.heap.size, 2, none⟩ = some (.int .i64 0) := (show blk7 X2 (X1.heap.size) 57 (.bool false) (.slice none 0 0) (.int .i64 0) (.int .i64 0) (.int .i64 0) (.int .i64 0) (.int .i64 0) from T.out).cell 2
            have u3 : X2.cell? ⟨X1.heap.size, 3, none⟩ = some (.int .i64 0) := (show blk7 X2 (X1.heap.size) 57 (.bool false) (.slice none 0 0) (.int .i64 0) (.int .i64 0) (.int .i64 0) (.int .i64 0) (.int .i64 0) from T.out).cell 3
            have u4 : X2.cell? ⟨X1.heap.size, 4, none⟩ = some (.int .i64 0) := (show blk7 X2 (X1.heap.size) 57 (.bool false) (.slice none 0 0) (.int .i64 0) (.int .i64 0) (.int .i64 0) (.int .i64 0) (.int .i64 0) from T.out).cell 4
            have u5 : X2.cell? ⟨X1.heap.size, 5, none⟩ = some (.int .i64 0) := (show blk7 X2 (X1.heap.size) 57 (.bool false) (.slice none 0 0) (.int .i64 0) (.int .i64 0) (.int .i64 0) (.int .i64 0) (.int .i64 0) from T.out).cell 5
            have u6 : X2.cell? ⟨X1.heap.size, 6, none⟩ = some (.int .i64 0) := (show blk7 X2 (X1.heap.size) 57 (.bool false) (.slice none 0 0) (.int .i64 0) (.int .i64 0) (.int .i64 0) (.int .i64 0) (.int .i64 0) from T.out).cell 6
            refine rdA 11 (fun K hK => ?_)
            go_simp
            have BZ : Hid (Below D.heap.size D (((((((X2.setCell ⟨X1.heap.size, 0, none⟩ (.bool (!no))).setCell ⟨X1.heap.size, 1, none⟩ (.slice none 0 0)).setCell ⟨X1.heap.size, 2, none⟩ (.int .i64 (md % 8))).setCell ⟨X1.heap.size, 3, none⟩ (.int .i64 ga)).setCell ⟨X1.heap.size, 4, none⟩ (.int .i64 gb)).setCell ⟨X1.heap.size, 5, none⟩ (.int .i64 gc)).setCell ⟨X1.heap.size, 6, none⟩ (.int .i64 gd))) := Off.below BC.out (off7 X2 (X1.heap.size) (.bool (!no)) (.slice none 0 0) (.int .i64 (md % 8)) (.int .i64 ga) (.int .i64 gb) (.int .i64 gc) (.int .i64 gd)) BC.out.size (fun k hk => by subst hk; exact hTD.out)
            have TZ := Lib.hid (set7 (show blk7 X2 (X1.heap.size) 57 (.bool false) (.slice none 0 0) (.int .i64 0) (.int .i64 0) (.int .i64 0) (.int .i64 0) (.int .i64 0) from T.out) (.bool (!no)) (.slice none 0 0) (.int .i64 (md % 8)) (.int .i64 ga) (.int .i64 gb) (.int .i64 gc) (.int .i64 gd))
            refine hK.out _ _ ?_ (fun hHeld => ?_)
            · exact BZ.out
            clear hK K
            try simp only [Act.put, sA, sB, sC]
            clear u0 u1 u2 u3 u4 u5 u6 t0 tR T BC
            generalize (((((((X2.setCell ⟨X1.heap.size, 0, none⟩ (.bool (!no))).setCell ⟨X1.heap.size, 1, none⟩ (.slice none 0 0)).setCell ⟨X1.heap.size, 2, none⟩ (.int .i64 (md % 8))).setCell ⟨X1.heap.size, 3, none⟩ (.int .i64 ga)).setCell ⟨X1.heap.size, 4, none⟩ (.int .i64 gb)).setCell ⟨X1.heap.size, 5, none⟩ (.int .i64 gc)).setCell ⟨X1.heap.size, 6, none⟩ (.int .i64 gd)) = Z at BZ TZ ⊢
            refine wpAnyH_done (by kernel_rfl) ?_ _
            go_wp2_with fail
            go_meet
            case rel => exact ⟨_, _, _, _, _, _, _, rfl, TZ, Lib.hid ⟨by simp, GG.out.1, GG.out.2.1, GG.out.2.2.1, GG.out.2.2.2.1, GG.out.2.2.2.2.1, GG.out.2.2.2.2.2, hmd.out.1, hmd.out.2⟩, Off.keeps (.of_below (ex := fun _ => False) BZ.out) QD.out id, Lib.hid (below2 BD.out BZ.out), hTW⟩
          · go_simp
            refine hK.out _ _ ?_ (fun hHeld => ?_)
            · exact below_al BC.out (.cells #[.bool false, .slice none 0 0, .int .i64 0, .int .i64 0, .int .i64 0, .int .i64 0, .int .i64 0] 57)
            clear hK K
            try simp only [Act.put, sA, sB, sC]
            have hTD : Hid (D.heap.size ≤ D.heap.size) := BC.out.size
            have hTW : Hid (wo.heap.size < D.heap.size) := Nat.lt_of_lt_of_le hWD.out hTD.out
            have T := Lib.hid (heap_alloc_new D (.cells #[.bool false, .slice none 0 0, .int .i64 0, .int .i64 0, .int .i64 0, .int .i64 0, .int .i64 0] 57))
            replace BC := Lib.hid (below_al BC.out (.cells #[.bool false, .slice none 0 0, .int .i64 0, .int .i64 0, .int .i64 0, .int .i64 0, .int .i64 0] 57))
            have hz1 := Lib.hid (World.size_alloc D (.cells #[.bool false, .slice none 0 0, .int .i64 0, .int .i64 0, .int .i64 0, .int .i64 0, .int .i64 0] 57))
            generalize D.alloc (.cells #[.bool false, .slice none 0 0, .int .i64 0, .int .i64 0, .int .i64 0, .int .i64 0, .int .i64 0] 57) = X1 at hHeld T BC hz1 ⊢
            refine rdA 8 (fun K hK => ?_)
            go_simp
            refine (Good_some6 r1 r2 r3 g X1).mono ?_
            rintro e X2 ⟨ga, gb, gc, gd, rfl, hgg, hb1⟩
            dsimp only
            refine hK.out _ _ ?_ (fun hHeld => ?_)
            · exact below2 BC.out hb1
            clear hK K
            try simp only [Act.put, sA, sB, sC]
            have GG := Lib.hid hgg
            clear hgg
            replace T := Lib.hid (Off.keeps (.of_below (ex := fun _ => False) hb1) T.out id)
            replace BC := Lib.hid (below2 BC.out hb1)
            have hz2 := Lib.hid hb1.size
            clear hb1
            refine tkA 9 ?_
            try simp only [Act.put, sA, sB, sC]
            have t0 : ∀ j, X2.frozen? ⟨D.heap.size, j, none⟩ = false := fun j => (show blk7 X2 (D.heap.size) 57 (.bool false) (.slice none 0 0) (.int .i64 0) (.int .i64 0) (.int .i64 0) (.int .i64 0) (.int .i64 0) from T.out).free j
            have tR : D.heap.size < X2.heap.size := (show blk7 X2 (D.heap.size) 57 (.bool false) (.slice none 0 0) (.int .i64 0) (.int .i64 0) (.int .i64 0) (.int .i64 0) (.int .i64 0) from T.out).lt
            have u0 : X2.cell? ⟨D.heap.size, 0, none⟩ = some (.bool false) := (show blk7 X2 (D.heap.size) 57 (.bool false) (.slice none 0 0) (.int .i64 0) (.int .i64 0) (.int .i64 0) (.int .i64 0) (.int .i64 0) from T.out).cell 0
            have u1 : X2.cell? ⟨D.heap.size, 1, none⟩ = some (.slice none 0 0) := (show blk7 X2 (D.heap.size) 57 (.bool false) (.slice none 0 0) (.int .i64 0) (.int .i64 0) (.int .i64 0) (.int .i64 0) (.int .i64 0) from T.out).cell 1
            have u2 : X2.cell? ⟨D.heap.size, 2, none⟩ = some (.int .i64 0) := (show blk7 X2 (D.heap.size) 57 (.bool false) (.slice none 0 0) (.int .i64 0) (.int .i64 0) (.int .i64 0) (.int .i64 0) (.int .i64 0) from T.out).cell 2
            have u3 : X2.cell? ⟨D.heap.size, 3, none⟩ = some (.int .i64 0) := (show blk7 X2 (D.heap.size) 57 (.bool false) (.slice none 0 0) (.int .i64 0) (.int .i64 0) (.int .i64 0) (.int .i64 0) (.int .i64 0) from T.out).cell 3
            have u4 : X2.cell? ⟨D.heap.size, 4, none⟩ = some (.int .i64 0) := (show blk7 X2 (D.heap.size) 57 (.bool false) (.slice none 0 0) (.int .i64 0) (.int .i64 0) (.int .i64 0) (.int .i64 0) (.int .i64 0) from T.out).cell 4
            have u5 : X2.cell? ⟨D.heap.size, 5, none⟩ = some (.int .i64 0) := (show blk7 X2 (D.heap.size) 57 (.bool false) (.slice none 0 0) (.int .i64 0) (.int .i64 0) (.int .i64 0) (.int .i64 0) (.int .i64 0) from T.out).cell 5
            have u6 : X2.cell? ⟨D.heap.size, 6, none⟩ = some (.int .i64 0) := (show blk7 X2 (D.heap.size) 57 (.bool false) (.slice none 0 0) (.int .i64 0) (.int .i64 0) (.int .i64 0) (.int .i64 0) (.int .i64 0) from T.out).cell 6
            refine rdA 11 (fun K hK => ?_)
            go_simp
            have BZ : Hid (Below D.heap.size D (((((((X2.setCell ⟨D.heap.size, 0, none⟩ (.bool (!no))).setCell ⟨D.heap.size, 1, none⟩ (.slice none 0 0)).setCell ⟨D.heap.size, 2, none⟩ (.int .i64 (md % 8))).setCell ⟨D.heap.size, 3, none⟩ (.int .i64 ga)).setCell ⟨D.heap.size, 4, none⟩ (.int .i64 gb)).setCell ⟨D.heap.size, 5, none⟩ (.int .i64 gc)).setCell ⟨D.heap.size, 6, none⟩ (.int .i64 gd))) := Off.below BC.out (off7 X2 (D.heap.size) (.bool (!no)) (.slice none 0 0) (.int .i64 (md % 8)) (.int .i64 ga) (.int .i64 gb) (.int .i64 gc) (.int .i64 gd)) BC.out.size (fun k hk => by subst hk; exact hTD.out)
            have TZ := Lib.hid (set7 (show blk7 X2 (D.heap.size) 57 (.bool false) (.slice none 0 0) (.int .i64 0) (.int .i64 0) (.int .i64 0) (.int .i64 0) (.int .i64 0) from T.out) (.bool (!no)) (.slice none 0 0) (.int .i64 (md % 8)) (.int .i64 ga) (.int .i64 gb) (.int .i64 gc) (.int .i64 gd))
            refine hK.out _ _ ?_ (fun hHeld => ?_)
            · exact BZ.out
            clear hK K
            try simp only [Act.put, sA, sB, sC]
            clear u0 u1 u2 u3 u4 u5 u6 t0 tR T BC
            generalize (((((((X2.setCell ⟨D.heap.size, 0, none⟩ (.bool (!no))).setCell ⟨D.heap.size, 1, none⟩ (.slice none 0 0)).setCell ⟨D.heap.size, 2, none⟩ (.int .i64 (md % 8))).setCell ⟨D.heap.size, 3, none⟩ (.int .i64 ga)).setCell ⟨D.heap.size, 4, none⟩ (.int .i64 gb)).setCell ⟨D.heap.size, 5, none⟩ (.int .i64 gc)).setCell ⟨D.heap.size, 6, none⟩ (.int .i64 gd)) = Z at BZ TZ ⊢
            refine wpAnyH_done (by kernel_rfl) ?_ _
            go_wp2_with fail
            go_meet
            case rel => exact ⟨_, _, _, _, _, _, _, rfl, TZ, Lib.hid ⟨by simp, GG.out.1, GG.out.2.1, GG.out.2.2.1, GG.out.2.2.2.1, GG.out.2.2.2.2.1, GG.out.2.2.2.2.2, hmd.out.1, hmd.out.2⟩, Off.keeps (.of_below (ex := fun _ => False) BZ.out) QD.out id, Lib.hid (below2 BD.out BZ.out), hTW⟩
        · go_simp
          refine hK.out _ _ ?_ (fun hHeld => ?_)
          · exact below_al BC.out (.cells #[.bool false, .slice none 0 0, .int .i64 0, .int .i64 0, .int .i64 0, .int .i64 0, .int .i64 0] 57)
          clear hK K
          try simp only [Act.put, sA, sB, sC]
          have hTD : Hid (D.heap.size ≤ D.heap.size) := BC.out.size
          have hTW : Hid (wo.heap.size < D.heap.size) := Nat.lt_of_lt_of_le hWD.out hTD.out
          have T := Lib.hid (heap_alloc_new D (.cells #[.bool false, .slice none 0 0, .int .i64 0, .int .i64 0, .int .i64 0, .int .i64 0, .int .i64 0] 57))
          replace BC := Lib.hid (below_al BC.out (.cells #[.bool false, .slice none 0 0, .int .i64 0, .int .i64 0, .int .i64 0, .int .i64 0, .int .i64 0] 57))
          have hz1 := Lib.hid (World.size_alloc D (.cells #[.bool false, .slice none 0 0, .int .i64 0, .int .i64 0, .int .i64 0, .int .i64 0, .int .i64 0] 57))
          generalize D.alloc (.cells #[.bool false, .slice none 0 0, .int .i64 0, .int .i64 0, .int .i64 0, .int .i64 0, .int .i64 0] 57) = X1 at hHeld T BC hz1 ⊢
          refine rdA 5 (fun K hK => ?_)
          go_simp
          refine (within16 _ _ (by decide) (by decide) _).mono ?_
          rintro e w2 ⟨rfl, hw2⟩
          subst hw2
          dsimp only
          refine hK.out _ _ ?_ (fun hHeld => ?_)
          · exact BC.out
          clear hK K
          try simp only [Act.put, sA, sB, sC]
          refine rdA 8 (fun K hK => ?_)
          go_simp
          refine (Good_some6 r1 r2 r3 g X1).mono ?_
          rintro e X2 ⟨ga, gb, gc, gd, rfl, hgg, hb1⟩
          dsimp only
          refine hK.out _ _ ?_ (fun hHeld => ?_)
          · exact below2 BC.out hb1
          clear hK K
          try simp only [Act.put, sA, sB, sC]
          have GG := Lib.hid hgg
          clear hgg
          replace T := Lib.hid (Off.keeps (.of_below (ex := fun _ => False) hb1) T.out id)
          replace BC := Lib.hid (below2 BC.out hb1)
          have hz2 := Lib.hid hb1.size
          clear hb1
          refine tkA 9 ?_
          try simp only [Act.put, sA, sB, sC]
          have t0 : ∀ j, X2.frozen? ⟨D.heap.size, j, none⟩ = false := fun j => (show blk7 X2 (D.heap.size) 57 (.bool false) (.slice none 0 0) (.int .i64 0) (.int .i64 0) (.int .i64 0) (.int .i64 0) (.int .i64 0) from T.out).free j
          have tR : D.heap.size < X2.heap.size := (show blk7 X2 (D.heap.size) 57 (.bool false) (.slice none 0 0) (.int .i64 0) (.int .i64 0) (.int .i64 0) (.int .i64 0) (.int .i64 0) from T.out).lt
          have u0 : X2.cell? ⟨D.heap.size, 0, none⟩ = some (.bool false) := (show blk7 X2 (D.heap.size) 57 (.bool false) (.slice none 0 0) (.int .i64 0) (.int .i64 0) (.int .i64 0) (.int .i64 0) (.int .i64 0) from T.out).cell 0
          have u1 : X2.cell? ⟨D.heap.size, 1, none⟩ = some (.slice none 0 0) := (show blk7 X2 (D.heap.size) 57 (.bool false) (.slice none 0 0) (.int .i64 0) (.int .i64 0) (.int .i64 0) (.int .i64 0) (.int .i64 0) from T.out).cell 1
          have u2 : X2.cell? ⟨D.heap.size, 2, none⟩ = some (.int .i64 0) := (show blk7 X2 (D.heap.size) 57 (.bool false) (.slice none 0 0) (.int .i64 0) (.int .i64 0) (.int .i64 0) (.int .i64 0) (.int .i64 0) from T.out).cell 2
          have u3 : X2.cell? ⟨D.heap.size, 3, none⟩ = some (.int .i64 0) := (show blk7 X2 (D.heap.size) 57 (.bool false) (.slice none 0 0) (.int .i64 0) (.int .i64 0) (.int .i64 0) (.int .i64 0) (.int .i64 0) from T.out).cell 3
          have u4 : X2.cell? ⟨D.heap.size, 4, none⟩ = some (.int .i64 0) := (show blk7 X2 (D.heap.size) 57 (.bool false) (.slice none 0 0) (.int .i64 0) (.int .i64 0) (.int .i64 0) (.int .i64 0) (.int .i64 0) from T.out).cell 4
          have u5 : X2.cell? ⟨D.heap.size, 5, none⟩ = some (.int .i64 0) := (show blk7 X2 (D.heap.size) 57 (.bool false) (.slice none 0 0) (.int .i64 0) (.int .i64 0) (.int .i64 0) (.int .i64 0) (.int .i64 0) from T.out).cell 5
          have u6 : X2.cell? ⟨D.heap.size, 6, none⟩ = some (.int .i64 0) := (show blk7 X2 (D.heap.size) 57 (.bool false) (.slice none 0 0) (.int .i64 0) (.int .i64 0) (.int .i64 0) (.int .i64 0) (.int .i64 0) from T.out).cell 6
          refine rdA 11 (fun K hK => ?_)
          go_simp
          have BZ : Hid (Below D.heap.size D (((((((X2.setCell ⟨D.heap.size, 0, none⟩ (.bool (!no))).setCell ⟨D.heap.size, 1, none⟩ (.slice none 0 0)).setCell ⟨D.heap.size, 2, none⟩ (.int .i64 (md % 8))).setCell ⟨D.heap.size, 3, none⟩ (.int .i64 ga)).setCell ⟨D.heap.size, 4, none⟩ (.int .i64 gb)).setCell ⟨D.heap.size, 5, none⟩ (.int .i64 gc)).setCell ⟨D.heap.size, 6, none⟩ (.int .i64 gd))) := Off.below BC.out (off7 X2 (D.heap.size) (.bool (!no)) (.slice none 0 0) (.int .i64 (md % 8)) (.int .i64 ga) (.int .i64 gb) (.int .i64 gc) (.int .i64 gd)) BC.out.size (fun k hk => by subst hk; exact hTD.out)
          have TZ := Lib.hid (set7 (show blk7 X2 (D.heap.size) 57 (.bool false) (.slice none 0 0) (.int .i64 0) (.int .i64 0) (.int .i64 0) (.int .i64 0) (.int .i64 0) from T.out) (.bool (!no)) (.slice none 0 0) (.int .i64 (md % 8)) (.int .i64 ga) (.int .i64 gb) (.int .i64 gc) (.int .i64 gd))
          refine hK.out _ _ ?_ (fun hHeld => ?_)
          · exact BZ.out
          clear hK K
          try simp only [Act.put, sA, sB, sC]
          clear u0 u1 u2 u3 u4 u5 u6 t0 tR T BC
          generalize (((((((X2.setCell ⟨D.heap.size, 0, none⟩ (.bool (!no))).setCell ⟨D.heap.size, 1, none⟩ (.slice none 0 0)).setCell ⟨D.heap.size, 2, none⟩ (.int .i64 (md % 8))).setCell ⟨D.heap.size, 3, none⟩ (.int .i64 ga)).setCell ⟨D.heap.size, 4, none⟩ (.int .i64 gb)).setCell ⟨D.heap.size, 5, none⟩ (.int .i64 gc)).setCell ⟨D.heap.size, 6, none⟩ (.int .i64 gd)) = Z at BZ TZ ⊢
          refine wpAnyH_done (by kernel_rfl) ?_ _
          go_wp2_with fail
          go_meet
          case rel => exact ⟨_, _, _, _, _, _, _, rfl, TZ, Lib.hid ⟨by simp, GG.out.1, GG.out.2.1, GG.out.2.2.1, GG.out.2.2.2.1, GG.out.2.2.2.2.1, GG.out.2.2.2.2.2, hmd.out.1, hmd.out.2⟩, Off.keeps (.of_below (ex := fun _ => False) BZ.out) QD.out id, Lib.hid (below2 BD.out BZ.out), hTW⟩
      case rest =>
        obtain ⟨T, is, m, ga, gb, gc, gd, rfl, GT, GG, QP, BW, hTW⟩ := hcut
        go_wp2_with fail
        have HI0 : Hid (Inr wo wc T is m ga gb gc gd no md r1 r2 r3 g (.slice adw nw cw) [] (.slice none 0 0)) := ⟨GT.out, ⟨rfl, .inl ⟨rfl, rfl⟩⟩, QP.out, BW.out, hTW.out, fun x hx => by simp at hx⟩
        clear GT QP BW
        go_loopw [7] (fun kv w2 => ∃ (k : Nat) (ws : List Int) (wv : Value), kv = .int .i64 k ∧ k ≤ nw ∧ k ≤ 16 ∧ ws.length = k ∧ Hid (Inr wo w2 T is m ga gb gc gd no md r1 r2 r3 g (.slice adw nw cw) ws wv)) (fun kv _ => 16 - (intOf kv).toNat)
        case atStart => exact ⟨0, [], _, rfl, by omega, by omega, rfl, HI0⟩
        case round =>
          clear HI0
          obtain ⟨k, ws, wv, rfl, hkn, hk16, hws, HI⟩ := hrel
          replace hws := Lib.hid hws
          have p6 : wr.cell? ⟨wo.heap.size, 6, none⟩ = some (.slice adw nw cw) := HI.out.p.cell 6
          by_cases hk : k < nw ∧ k < 16
          · obtain ⟨hk1, hk2⟩ := hk
            have hk2' : (k : Int) < 16 := by omega
            obtain ⟨b', o', rfl, hb', a0, a1, a2, a3, a4, a5, a6, a7, e0, e1, e2, e3, e4, e5, e6, e7, wa7⟩ := hww.out k hk1
            replace wa7 := Lib.hid wa7
            replace hb' := Lib.hid hb'
            go_upto_region 10 with fail
            have QD : Hid (blk7 wr.drew wo.heap.size 87 (.bool no) (.int .i64 md) (.int .i64 r1) (.int .i64 r2) (.int .i64 r3) (.int .i64 g) (.slice (some ⟨b', o', none⟩) nw cw)) := HI.out.p
            have TT : Hid (blk7 wr.drew T 57 (.bool is) wv (.int .i64 m) (.int .i64 ga) (.int .i64 gb) (.int .i64 gc) (.int .i64 gd)) := HI.out.t
            have ROW : Hid (wr.drew.ownsRow (wo.heap.size + 1) 2 1 wv ws.length (ws.map (Value.int .i64))) := HI.out.row
            have BD : Hid (Below wo.heap.size wo wr.drew) := below_drew HI.out.bl
            obtain ⟨i0, hin0, hz0, hz1, hz2⟩ := info_parts A.infoI
            refine wp_region_held_drew (S := fun w' => Off (fun b => wo.heap.size < b) wr.drew w') (by kernel_rfl) (Off.refl _ _) (fun hHeld => ?_)
            generalize wr.drew = D at QD TT ROW BD hHeld ⊢
            have OC : Hid (Off (fun b => wo.heap.size < b) D D) := Off.refl _ _
            clear p6
            have k6 : ∀ w', Off (fun b => wo.heap.size < b) D w' → w'.cell? ⟨wo.heap.size, 6, none⟩ = some (.slice (some ⟨b', o', none⟩) nw cw) := fun w' h => (show blk7 w' wo.heap.size 87 _ _ _ _ _ _ _ from Off.keeps h QD.out (Nat.lt_irrefl _)).cell 6
            have hbw : Hid (b' < wo.heap.size) := Nat.lt_of_lt_of_le hb'.out hbl.out.size
            have l0 : ∀ w', Off (fun b => wo.heap.size < b) D w' → w'.cell? ⟨b', o' + k * 8, none⟩ = some (.int .i64 a0) := fun w' h => off_cell h ((BD.out.cell hbw.out).trans ((hbl.out.cell hb'.out).trans e0)) (by show ¬ wo.heap.size < b'; have := hbw.out; omega)
            have l1 : ∀ w', Off (fun b => wo.heap.size < b) D w' → w'.cell? ⟨b', o' + k * 8 + 1, none⟩ = some (.int .i64 a1) := fun w' h => off_cell h ((BD.out.cell hbw.out).trans ((hbl.out.cell hb'.out).trans e1)) (by show ¬ wo.heap.size < b'; have := hbw.out; omega)
            have l2 : ∀ w', Off (fun b => wo.heap.size < b) D w' → w'.cell? ⟨b', o' + k * 8 + 2, none⟩ = some (.int .i64 a2) := fun w' h => off_cell h ((BD.out.cell hbw.out).trans ((hbl.out.cell hb'.out).trans e2)) (by show ¬ wo.heap.size < b'; have := hbw.out; omega)
            have l3 : ∀ w', Off (fun b => wo.heap.size < b) D w' → w'.cell? ⟨b', o' + k * 8 + 3, none⟩ = some (.int .i64 a3) := fun w' h => off_cell h ((BD.out.cell hbw.out).trans ((hbl.out.cell hb'.out).trans e3)) (by show ¬ wo.heap.size < b'; have := hbw.out; omega)
            have l4 : ∀ w', Off (fun b => wo.heap.size < b) D w' → w'.cell? ⟨b', o' + k * 8 + 4, none⟩ = some (.int .i64 a4) := fun w' h => off_cell h ((BD.out.cell hbw.out).trans ((hbl.out.cell hb'.out).trans e4)) (by show ¬ wo.heap.size < b'; have := hbw.out; omega)
            have l5 : ∀ w', Off (fun b => wo.heap.size < b) D w' → w'.cell? ⟨b', o' + k * 8 + 5, none⟩ = some (.int .i64 a5) := fun w' h => off_cell h ((BD.out.cell hbw.out).trans ((hbl.out.cell hb'.out).trans e5)) (by show ¬ wo.heap.size < b'; have := hbw.out; omega)
            have l6 : ∀ w', Off (fun b => wo.heap.size < b) D w' → w'.cell? ⟨b', o' + k * 8 + 6, none⟩ = some (.int .i64 a6) := fun w' h => off_cell h ((BD.out.cell hbw.out).trans ((hbl.out.cell hb'.out).trans e6)) (by show ¬ wo.heap.size < b'; have := hbw.out; omega)
            have l7 : ∀ w', Off (fun b => wo.heap.size < b) D w' → w'.cell? ⟨b', o' + k * 8 + 7, none⟩ = some (.int .i64 a7) := fun w' h => off_cell h ((BD.out.cell hbw.out).trans ((hbl.out.cell hb'.out).trans e7)) (by show ¬ wo.heap.size < b'; have := hbw.out; omega)
            refine tkA 0 ?_
            try simp only [Act.put, sA, sB, sC]
            refine tkA 2 ?_
            try simp only [Act.put, sA, sB, sC]
            refine tkA 3 ?_
            try simp only [Act.put, sA, sB, sC]
            refine tkA 4 ?_
            try simp only [Act.put, sA, sB, sC]
            refine tkA 5 ?_
            try simp only [Act.put, sA, sB, sC]
            refine tkA 6 ?_
            try simp only [Act.put, sA, sB, sC]
            clear k6 l0 l1 l2 l3 l4 l5 l6 l7
            have hDs : Hid (D.heap.size ≤ D.heap.size) := Nat.le_refl _
            have hWD : Hid (wo.heap.size < D.heap.size) := QD.out.lt
            refine rdB 1 7 (fun K hK => ?_) (fun K hK => ?_)
            · have tc : D.cell? ⟨T, 1, none⟩ = some wv := (show blk7 D T 57 (.bool is) wv (.int .i64 m) (.int .i64 ga) (.int .i64 gb) (.int .i64 gc) (.int .i64 gd) from TT.out).cell 1
              go_simp
              clear tc
              refine hK.out _ _ ?_ (fun hHeld => ?_)
              · exact OC.out
              clear hK K
              try simp only [Act.put, sA, sB, sC]
              refine rdA 7 (fun K hK => ?_)
              go_simp
              refine (c_word a0 a1 a2 a3 a4 a5 a6 a7 wa7.out D).mono ?_
              rintro e X1 ⟨⟨y, rfl, hwy⟩, hb1⟩
              replace hwy := Lib.hid hwy
              dsimp only
              have OX : Hid (Off (fun b => wo.heap.size < b) D X1) := OC.out.trans (.of_below hb1)
              refine hK.out _ _ ?_ (fun hHeld => ?_)
              · exact OX.out
              clear hK K
              try simp only [Act.put, sA, sB, sC]
              replace TT := Lib.hid (Off.keeps (ex := fun _ => False) (.of_below hb1) TT.out id)
              replace ROW := Lib.hid (Off.row (ex := fun _ => False) (.of_below hb1) ROW.out (fun _ h => h.elim))
              replace hDs : Hid (D.heap.size ≤ X1.heap.size) := Nat.le_trans hDs.out hb1.size
              replace OC := OX
              clear OX hb1
              refine rdA 8 (fun K hK => ?_)
              go_simp
              have OX : Hid (Off (fun b => wo.heap.size < b) D (X1.alloc (.cells #[.int .i64 y] 2))) := OC.out.alloc _
              refine hK.out _ _ ?_ (fun hHeld => ?_)
              · exact OX.out
              clear hK K
              try simp only [Act.put, sA, sB, sC]
              replace TT := Lib.hid (Off.keeps (ex := fun _ => False) ((Off.refl _ _).alloc (.cells #[.int .i64 y] 2)) TT.out id)
              replace ROW := Lib.hid (Off.row (ex := fun _ => False) ((Off.refl _ _).alloc (.cells #[.int .i64 y] 2)) ROW.out (fun _ h => h.elim))
              have I := Lib.hid (heap_alloc_new X1 (.cells #[.int .i64 y] 2))
              replace hDs : Hid (D.heap.size ≤ (X1.alloc (.cells #[.int .i64 y] 2)).heap.size) := Nat.le_trans hDs.out (by simp)
              replace OC := OX
              clear OX
              generalize X1.alloc (.cells #[.int .i64 y] 2) = X2 at hHeld TT ROW I OC hDs ⊢
              refine rdA 9 (fun K hK => ?_)
              rw [if_pos (by rfl)]
              refine wp_append_own _ (.tmp 44) (.tmp 51) 53 rfl (wo.heap.size + 1) 2 i0 (.int .i64 0) 1 8 A.underI hin0 hz0 hz1 hz2 rfl (by decide) wv ws.length (ws.map (Value.int .i64)) rfl ROW.out ⟨X1.heap.size, 0, none⟩ 1 1 [.int .i64 y] rfl rfl (fun j u hj => (by match j, hj with | 0, hj => (cases hj; exact cell_of_row _ _ 0 _ _ _ I.out) | (q + 1), hj => simp at hj)) (by simp [Value.oneCell']) (by have := hws.out; unfold maxLen; omega) (by have := hws.out; omega) (by have h1 := hDs.out; have h2 := hWD.out; omega) ?_
              intro v' X3 hown hgrow _
              obtain ⟨g', c', hv'⟩ := row_some hown (by omega)
              subst hv'
              have OX : Hid (Off (fun b => wo.heap.size < b) D X3) := OC.out.grown hgrow (fun k hk => .inl (by have h1 := (ROW.out.lt k hk).1; show wo.heap.size < k; omega))
              have TN : Hid (blk7 X3 T 57 (.bool is) wv (.int .i64 m) (.int .i64 ga) (.int .i64 gb) (.int .i64 gc) (.int .i64 gd)) := Lib.hid ((hgrow.block T (Array.getElem?_eq_some_iff.1 TT.out).1 (fun e => row_new ROW.out TT.out (by decide) e.symm rfl)).trans TT.out)
              have ROWN := Lib.hid hown
              refine hK.out _ _ ?_ (fun hHeld => ?_)
              · exact OX.out
              clear hK K hown hgrow TT ROW OC I
              try simp only [Act.put, sA, sB, sC]
              refine tkA 10 ?_
              try simp only [Act.put, sA, sB, sC]
              have t1 : X3.cell? ⟨T, 1, none⟩ = some wv := TN.out.cell 1
              have tf : ∀ j, X3.frozen? ⟨T, j, none⟩ = false := fun j => TN.out.free j
              have tR : T < X3.heap.size := TN.out.lt
              refine rdA 11 (fun K hK => ?_)
              go_simp
              have OZ : Hid (Off (fun b => wo.heap.size < b) D (X3.setCell ⟨T, 1, none⟩ (.slice (some ⟨g', 0, none⟩) (ws.length + 1) c'))) := OX.out.setCell (.inl hTW.out) _
              have TZ : Hid (blk7 (X3.setCell ⟨T, 1, none⟩ (.slice (some ⟨g', 0, none⟩) (ws.length + 1) c')) T 57 (.bool is) (.slice (some ⟨g', 0, none⟩) (ws.length + 1) c') (.int .i64 m) (.int .i64 ga) (.int .i64 gb) (.int .i64 gc) (.int .i64 gd)) := TN.out.set1 _
              have RZ : Hid ((X3.setCell ⟨T, 1, none⟩ (.slice (some ⟨g', 0, none⟩) (ws.length + 1) c')).ownsRow (wo.heap.size + 1) 2 1 (.slice (some ⟨g', 0, none⟩) (ws.length + 1) c') (ws.length + 1) (ws.map (Value.int .i64) ++ [.int .i64 y])) := Off.row (off1 X3 T 1 (.slice (some ⟨g', 0, none⟩) (ws.length + 1) c')) ROWN.out (fun j hj cs hc => (by subst hj; have h2 := (show X3.heap[j]? = _ from TN.out).symm.trans hc; simp at h2))
              refine hK.out _ _ ?_ (fun hHeld => ?_)
              · exact OZ.out
              clear hK K
              try simp only [Act.put, sA, sB, sC]
              clear t1 tf tR TN ROWN OX
              generalize X3.setCell ⟨T, 1, none⟩ (.slice (some ⟨g', 0, none⟩) (ws.length + 1) c') = Z at OZ TZ RZ ⊢
              refine wpAnyH_done (by kernel_rfl) ?_ _
              go_wp2_with fail
              go_roundw
              case rel => exact ⟨k + 1, ws ++ [y], _, by go_num, by omega, by omega, by simp [hws.out], Lib.hid ⟨TZ.out, by have h := RZ.out; simpa using h, Off.keeps OZ.out QD.out (Nat.lt_irrefl _), BD.out.trans ⟨OZ.out.os, OZ.out.tape, OZ.out.output, OZ.out.size, fun j hj => OZ.out.block j (Nat.lt_of_lt_of_le hj BD.out.size) (by show ¬ wo.heap.size < j; omega)⟩, hTW.out, fun x hx => (List.mem_append.1 hx).elim (HI.out.wf x) (fun h => (List.mem_singleton.1 h).symm ▸ hwy.out)⟩⟩
              case measure => simp [intOf]; omega
            · go_simp
              refine (c_word a0 a1 a2 a3 a4 a5 a6 a7 wa7.out D).mono ?_
              rintro e X1 ⟨⟨y, rfl, hwy⟩, hb1⟩
              replace hwy := Lib.hid hwy
              dsimp only
              have OX : Hid (Off (fun b => wo.heap.size < b) D X1) := OC.out.trans (.of_below hb1)
              refine hK.out _ _ ?_ (fun hHeld => ?_)
              · exact OX.out
              clear hK K
              try simp only [Act.put, sA, sB, sC]
              replace TT := Lib.hid (Off.keeps (ex := fun _ => False) (.of_below hb1) TT.out id)
              replace ROW := Lib.hid (Off.row (ex := fun _ => False) (.of_below hb1) ROW.out (fun _ h => h.elim))
              replace hDs : Hid (D.heap.size ≤ X1.heap.size) := Nat.le_trans hDs.out hb1.size
              replace OC := OX
              clear OX hb1
              refine rdB 1 8 (fun K hK => ?_) (fun K hK => ?_)
              · have tc : X1.cell? ⟨T, 1, none⟩ = some wv := (show blk7 X1 T 57 (.bool is) wv (.int .i64 m) (.int .i64 ga) (.int .i64 gb) (.int .i64 gc) (.int .i64 gd) from TT.out).cell 1
                go_simp
                clear tc
                refine hK.out _ _ ?_ (fun hHeld => ?_)
                · exact OC.out
                clear hK K
                try simp only [Act.put, sA, sB, sC]
                refine rdA 8 (fun K hK => ?_)
                go_simp
                have OX : Hid (Off (fun b => wo.heap.size < b) D (X1.alloc (.cells #[.int .i64 y] 2))) := OC.out.alloc _
                refine hK.out _ _ ?_ (fun hHeld => ?_)
                · exact OX.out
                clear hK K
                try simp only [Act.put, sA, sB, sC]
                replace TT := Lib.hid (Off.keeps (ex := fun _ => False) ((Off.refl _ _).alloc (.cells #[.int .i64 y] 2)) TT.out id)
                replace ROW := Lib.hid (Off.row (ex := fun _ => False) ((Off.refl _ _).alloc (.cells #[.int .i64 y] 2)) ROW.out (fun _ h => h.elim))
                have I := Lib.hid (heap_alloc_new X1 (.cells #[.int .i64 y] 2))
                replace hDs : Hid (D.heap.size ≤ (X1.alloc (.cells #[.int .i64 y] 2)).heap.size) := Nat.le_trans hDs.out (by simp)
                replace OC := OX
                clear OX
                generalize X1.alloc (.cells #[.int .i64 y] 2) = X2 at hHeld TT ROW I OC hDs ⊢
                refine rdA 9 (fun K hK => ?_)
                rw [if_pos (by rfl)]
                refine wp_append_own _ (.tmp 44) (.tmp 51) 53 rfl (wo.heap.size + 1) 2 i0 (.int .i64 0) 1 8 A.underI hin0 hz0 hz1 hz2 rfl (by decide) wv ws.length (ws.map (Value.int .i64)) rfl ROW.out ⟨X1.heap.size, 0, none⟩ 1 1 [.int .i64 y] rfl rfl (fun j u hj => (by match j, hj with | 0, hj => (cases hj; exact cell_of_row _ _ 0 _ _ _ I.out) | (q + 1), hj => simp at hj)) (by simp [Value.oneCell']) (by have := hws.out; unfold maxLen; omega) (by have := hws.out; omega) (by have h1 := hDs.out; have h2 := hWD.out; omega) ?_
                intro v' X3 hown hgrow _
                obtain ⟨g', c', hv'⟩ := row_some hown (by omega)
                subst hv'
                have OX : Hid (Off (fun b => wo.heap.size < b) D X3) := OC.out.grown hgrow (fun k hk => .inl (by have h1 := (ROW.out.lt k hk).1; show wo.heap.size < k; omega))
                have TN : Hid (blk7 X3 T 57 (.bool is) wv (.int .i64 m) (.int .i64 ga) (.int .i64 gb) (.int .i64 gc) (.int .i64 gd)) := Lib.hid ((hgrow.block T (Array.getElem?_eq_some_iff.1 TT.out).1 (fun e => row_new ROW.out TT.out (by decide) e.symm rfl)).trans TT.out)
                have ROWN := Lib.hid hown
                refine hK.out _ _ ?_ (fun hHeld => ?_)
                · exact OX.out
                clear hK K hown hgrow TT ROW OC I
                try simp only [Act.put, sA, sB, sC]
                refine tkA 10 ?_
                try simp only [Act.put, sA, sB, sC]
                have t1 : X3.cell? ⟨T, 1, none⟩ = some wv := TN.out.cell 1
                have tf : ∀ j, X3.frozen? ⟨T, j, none⟩ = false := fun j => TN.out.free j
                have tR : T < X3.heap.size := TN.out.lt
                refine rdA 11 (fun K hK => ?_)
                go_simp
                have OZ : Hid (Off (fun b => wo.heap.size < b) D (X3.setCell ⟨T, 1, none⟩ (.slice (some ⟨g', 0, none⟩) (ws.length + 1) c'))) := OX.out.setCell (.inl hTW.out) _
                have TZ : Hid (blk7 (X3.setCell ⟨T, 1, none⟩ (.slice (some ⟨g', 0, none⟩) (ws.length + 1) c')) T 57 (.bool is) (.slice (some ⟨g', 0, none⟩) (ws.length + 1) c') (.int .i64 m) (.int .i64 ga) (.int .i64 gb) (.int .i64 gc) (.int .i64 gd)) := TN.out.set1 _
                have RZ : Hid ((X3.setCell ⟨T, 1, none⟩ (.slice (some ⟨g', 0, none⟩) (ws.length + 1) c')).ownsRow (wo.heap.size + 1) 2 1 (.slice (some ⟨g', 0, none⟩) (ws.length + 1) c') (ws.length + 1) (ws.map (Value.int .i64) ++ [.int .i64 y])) := Off.row (off1 X3 T 1 (.slice (some ⟨g', 0, none⟩) (ws.length + 1) c')) ROWN.out (fun j hj cs hc => (by subst hj; have h2 := (show X3.heap[j]? = _ from TN.out).symm.trans hc; simp at h2))
                refine hK.out _ _ ?_ (fun hHeld => ?_)
                · exact OZ.out
                clear hK K
                try simp only [Act.put, sA, sB, sC]
                clear t1 tf tR TN ROWN OX
                generalize X3.setCell ⟨T, 1, none⟩ (.slice (some ⟨g', 0, none⟩) (ws.length + 1) c') = Z at OZ TZ RZ ⊢
                refine wpAnyH_done (by kernel_rfl) ?_ _
                go_wp2_with fail
                go_roundw
                case rel => exact ⟨k + 1, ws ++ [y], _, by go_num, by omega, by omega, by simp [hws.out], Lib.hid ⟨TZ.out, by have h := RZ.out; simpa using h, Off.keeps OZ.out QD.out (Nat.lt_irrefl _), BD.out.trans ⟨OZ.out.os, OZ.out.tape, OZ.out.output, OZ.out.size, fun j hj => OZ.out.block j (Nat.lt_of_lt_of_le hj BD.out.size) (by show ¬ wo.heap.size < j; omega)⟩, hTW.out, fun x hx => (List.mem_append.1 hx).elim (HI.out.wf x) (fun h => (List.mem_singleton.1 h).symm ▸ hwy.out)⟩⟩
                case measure => simp [intOf]; omega
              · go_simp
                have OX : Hid (Off (fun b => wo.heap.size < b) D (X1.alloc (.cells #[.int .i64 y] 2))) := OC.out.alloc _
                refine hK.out _ _ ?_ (fun hHeld => ?_)
                · exact OX.out
                clear hK K
                try simp only [Act.put, sA, sB, sC]
                replace TT := Lib.hid (Off.keeps (ex := fun _ => False) ((Off.refl _ _).alloc (.cells #[.int .i64 y] 2)) TT.out id)
                replace ROW := Lib.hid (Off.row (ex := fun _ => False) ((Off.refl _ _).alloc (.cells #[.int .i64 y] 2)) ROW.out (fun _ h => h.elim))
                have I := Lib.hid (heap_alloc_new X1 (.cells #[.int .i64 y] 2))
                replace hDs : Hid (D.heap.size ≤ (X1.alloc (.cells #[.int .i64 y] 2)).heap.size) := Nat.le_trans hDs.out (by simp)
                replace OC := OX
                clear OX
                generalize X1.alloc (.cells #[.int .i64 y] 2) = X2 at hHeld TT ROW I OC hDs ⊢
                refine rdA 1 (fun K hK => ?_)
                have tc : X2.cell? ⟨T, 1, none⟩ = some wv := (show blk7 X2 T 57 (.bool is) wv (.int .i64 m) (.int .i64 ga) (.int .i64 gb) (.int .i64 gc) (.int .i64 gd) from TT.out).cell 1
                go_simp
                clear tc
                refine hK.out _ _ ?_ (fun hHeld => ?_)
                · exact OC.out
                clear hK K
                try simp only [Act.put, sA, sB, sC]
                refine rdA 9 (fun K hK => ?_)
                rw [if_pos (by rfl)]
                refine wp_append_own _ (.tmp 44) (.tmp 51) 53 rfl (wo.heap.size + 1) 2 i0 (.int .i64 0) 1 8 A.underI hin0 hz0 hz1 hz2 rfl (by decide) wv ws.length (ws.map (Value.int .i64)) rfl ROW.out ⟨X1.heap.size, 0, none⟩ 1 1 [.int .i64 y] rfl rfl (fun j u hj => (by match j, hj with | 0, hj => (cases hj; exact cell_of_row _ _ 0 _ _ _ I.out) | (q + 1), hj => simp at hj)) (by simp [Value.oneCell']) (by have := hws.out; unfold maxLen; omega) (by have := hws.out; omega) (by have h1 := hDs.out; have h2 := hWD.out; omega) ?_
                intro v' X3 hown hgrow _
                obtain ⟨g', c', hv'⟩ := row_some hown (by omega)
                subst hv'
                have OX : Hid (Off (fun b => wo.heap.size < b) D X3) := OC.out.grown hgrow (fun k hk => .inl (by have h1 := (ROW.out.lt k hk).1; show wo.heap.size < k; omega))
                have TN : Hid (blk7 X3 T 57 (.bool is) wv (.int .i64 m) (.int .i64 ga) (.int .i64 gb) (.int .i64 gc) (.int .i64 gd)) := Lib.hid ((hgrow.block T (Array.getElem?_eq_some_iff.1 TT.out).1 (fun e => row_new ROW.out TT.out (by decide) e.symm rfl)).trans TT.out)
                have ROWN := Lib.hid hown
                refine hK.out _ _ ?_ (fun hHeld => ?_)
                · exact OX.out
                clear hK K hown hgrow TT ROW OC I
                try simp only [Act.put, sA, sB, sC]
                refine tkA 10 ?_
                try simp only [Act.put, sA, sB, sC]
                have t1 : X3.cell? ⟨T, 1, none⟩ = some wv := TN.out.cell 1
                have tf : ∀ j, X3.frozen? ⟨T, j, none⟩ = false := fun j => TN.out.free j
                have tR : T < X3.heap.size := TN.out.lt
                refine rdA 11 (fun K hK => ?_)
                go_simp
                have OZ : Hid (Off (fun b => wo.heap.size < b) D (X3.setCell ⟨T, 1, none⟩ (.slice (some ⟨g', 0, none⟩) (ws.length + 1) c'))) := OX.out.setCell (.inl hTW.out) _
                have TZ : Hid (blk7 (X3.setCell ⟨T, 1, none⟩ (.slice (some ⟨g', 0, none⟩) (ws.length + 1) c')) T 57 (.bool is) (.slice (some ⟨g', 0, none⟩) (ws.length + 1) c') (.int .i64 m) (.int .i64 ga) (.int .i64 gb) (.int .i64 gc) (.int .i64 gd)) := TN.out.set1 _
                have RZ : Hid ((X3.setCell ⟨T, 1, none⟩ (.slice (some ⟨g', 0, none⟩) (ws.length + 1) c')).ownsRow (wo.heap.size + 1) 2 1 (.slice (some ⟨g', 0, none⟩) (ws.length + 1) c') (ws.length + 1) (ws.map (Value.int .i64) ++ [.int .i64 y])) := Off.row (off1 X3 T 1 (.slice (some ⟨g', 0, none⟩) (ws.length + 1) c')) ROWN.out (fun j hj cs hc => (by subst hj; have h2 := (show X3.heap[j]? = _ from TN.out).symm.trans hc; simp at h2))
                refine hK.out _ _ ?_ (fun hHeld => ?_)
                · exact OZ.out
                clear hK K
                try simp only [Act.put, sA, sB, sC]
                clear t1 tf tR TN ROWN OX
                generalize X3.setCell ⟨T, 1, none⟩ (.slice (some ⟨g', 0, none⟩) (ws.length + 1) c') = Z at OZ TZ RZ ⊢
                refine wpAnyH_done (by kernel_rfl) ?_ _
                go_wp2_with fail
                go_roundw
                case rel => exact ⟨k + 1, ws ++ [y], _, by go_num, by omega, by omega, by simp [hws.out], Lib.hid ⟨TZ.out, by have h := RZ.out; simpa using h, Off.keeps OZ.out QD.out (Nat.lt_irrefl _), BD.out.trans ⟨OZ.out.os, OZ.out.tape, OZ.out.output, OZ.out.size, fun j hj => OZ.out.block j (Nat.lt_of_lt_of_le hj BD.out.size) (by show ¬ wo.heap.size < j; omega)⟩, hTW.out, fun x hx => (List.mem_append.1 hx).elim (HI.out.wf x) (fun h => (List.mem_singleton.1 h).symm ▸ hwy.out)⟩⟩
                case measure => simp [intOf]; omega
          · have hkk := Lib.hid hk
            clear hk
            replace hk := hkk.out
            clear hkk
            have hrow : Hid ((wr.alloc (.cells #[.bool is, wv, .int .i64 m, .int .i64 ga, .int .i64 gb, .int .i64 gc, .int .i64 gd] 57)).ownsRow w.heap.size 57 7 _ M.length (rows M vs)) := Off.row (ex := fun _ => False) ((Off.of_below HI.out.bl).trans ((Off.refl _ _).alloc _)) HM.out.segs.row (fun _ h => h.elim)
            have hone : Hid (wv.oneCell' = true) := by obtain ⟨x1, x2, x3, _⟩ := row_shape HI.out.row; subst x3; rfl
            obtain ⟨iG, hiG, hg0, hg1, hg2⟩ := info_parts A.infoG
            have s0 : wr.cell? ⟨T, 0, none⟩ = some (.bool is) := HI.out.t.cell 0
            have s1 : wr.cell? ⟨T, 1, none⟩ = some wv := HI.out.t.cell 1
            have s2 : wr.cell? ⟨T, 2, none⟩ = some (.int .i64 m) := HI.out.t.cell 2
            have s3 : wr.cell? ⟨T, 3, none⟩ = some (.int .i64 ga) := HI.out.t.cell 3
            have s4 : wr.cell? ⟨T, 4, none⟩ = some (.int .i64 gb) := HI.out.t.cell 4
            have s5 : wr.cell? ⟨T, 5, none⟩ = some (.int .i64 gc) := HI.out.t.cell 5
            have s6 : wr.cell? ⟨T, 6, none⟩ = some (.int .i64 gd) := HI.out.t.cell 6
            have hkw : ws.length ≤ 16 := by rw [hws.out]; exact hk16
            by_cases hk1 : k < nw
            · have hk2 : ¬ (k : Int) < 16 := by omega
              go_wp2_with (first | (at_builtin; refine wpList_append_own _ rfl (.tmp 54) (.tmp 56) 30 rfl w.heap.size 57 iG (.agg #[.bool false, .slice none 0 0, .int .i64 0, .int .i64 0, .int .i64 0, .int .i64 0, .int .i64 0]) 7 72 A.underG hiG hg0 hg1 hg2 rfl (by decide) _ M.length (rows M vs) rfl hrow.out ⟨wr.heap.size, 0, none⟩ 1 1 [.bool is, wv, .int .i64 m, .int .i64 ga, .int .i64 gb, .int .i64 gc, .int .i64 gd] rfl rfl (fun j u hj => (by rw [← hj]; simp [Addr.add_mk0])) (by intro u hu; simp only [List.mem_cons, List.not_mem_nil, or_false] at hu; rcases hu with rfl | rfl | rfl | rfl | rfl | rfl | rfl <;> first | rfl | exact hone.out) (by have := HM.out.len; unfold maxLen; omega) (by have := HM.out.len; omega) (by have h1 := HM.out.bl.size; have h2 := HI.out.bl.size; simp; omega) ?_; intro v' w5 hown hgrow _; have HN := Lib.hid (MMr.snoc HM.out HI.out GG.out hkw hrow.out hown hgrow); clear hown hgrow))
              go_roundw
              case rel => exact ⟨i + 1, vs ++ [wv], M ++ [⟨is, ws, m, ga, gb, gc, gd⟩], by go_num, by omega, by omega, HN⟩
              case measure => simp [intOf]; omega
            · have q1 : 0 ≤ 0 := Nat.le_refl _
              go_wp2_with (first | (at_builtin; refine wpList_append_own _ rfl (.tmp 54) (.tmp 56) 30 rfl w.heap.size 57 iG (.agg #[.bool false, .slice none 0 0, .int .i64 0, .int .i64 0, .int .i64 0, .int .i64 0, .int .i64 0]) 7 72 A.underG hiG hg0 hg1 hg2 rfl (by decide) _ M.length (rows M vs) rfl hrow.out ⟨wr.heap.size, 0, none⟩ 1 1 [.bool is, wv, .int .i64 m, .int .i64 ga, .int .i64 gb, .int .i64 gc, .int .i64 gd] rfl rfl (fun j u hj => (by rw [← hj]; simp [Addr.add_mk0])) (by intro u hu; simp only [List.mem_cons, List.not_mem_nil, or_false] at hu; rcases hu with rfl | rfl | rfl | rfl | rfl | rfl | rfl <;> first | rfl | exact hone.out) (by have := HM.out.len; unfold maxLen; omega) (by have := HM.out.len; omega) (by have h1 := HM.out.bl.size; have h2 := HI.out.bl.size; simp; omega) ?_; intro v' w5 hown hgrow _; have HN := Lib.hid (MMr.snoc HM.out HI.out GG.out hkw hrow.out hown hgrow); clear hown hgrow))
              go_roundw
              case rel => exact ⟨i + 1, vs ++ [wv], M ++ [⟨is, ws, m, ga, gb, gc, gd⟩], by go_num, by omega, by omega, HN⟩
              case measure => simp [intOf]; omega
    · have hfin : Hid (MMr w wo _ vs M i) := HM
      by_cases hl1 : i < n
      · have hl2 : ¬ (i : Int) < 5 := by omega
        go_wp2_with fail
        go_ret
        first | exact ⟨_, vs, M, rfl, hfin.out.segs, by rw [hfin.out.len]; exact hi5, hfin.out.good, hfin.out.wf, hfin.out.bl⟩ | exact ⟨_, rfl, vs, M, hfin.out.segs, by rw [hfin.out.len]; exact hi5, hfin.out.good, hfin.out.wf, hfin.out.bl⟩
      · have hl2 : 0 ≤ 0 := Nat.le_refl _
        go_wp2_with fail
        go_ret
        first | exact ⟨_, vs, M, rfl, hfin.out.segs, by rw [hfin.out.len]; exact hi5, hfin.out.good, hfin.out.wf, hfin.out.bl⟩ | exact ⟨_, rfl, vs, M, hfin.out.segs, by rw [hfin.out.len]; exact hi5, hfin.out.good, hfin.out.wf, hfin.out.bl⟩
end Go.Proofs.Ytiakonmamkfopaa
namespace Go.Proofs.Ytiakonmamkfopaa
open Go.RowKit Go.ChangeShapes
set_option linter.unusedVariables false
set_option maxRecDepth 100000
/-- a slice of callers, as it is handed in -/
def FrIn (w : World) (v : Value) : Prop := ∃ ad n cap, v = .slice ad n cap ∧ n ≤ cap ∧ cap ≤ maxLen ∧ ∀ k, k < n → ∃ b o, ad = some ⟨b, o, none⟩ ∧ b < w.heap.size ∧ ∃ a0 a1 a2 : Int,
  w.cell? ⟨b, o + k * 3, none⟩ = some (.int .i64 a0) ∧ w.cell? ⟨b, o + k * 3 + 1, none⟩ = some (.int .i64 a1) ∧ w.cell? ⟨b, o + k * 3 + 2, none⟩ = some (.int .i64 a2)
def begC (x : St) (u : Value) : Array Value := #[.int .i64 x.seg, .int .i64 x.off, .int .i64 x.ring, .int .i64 x.a, .int .i64 x.p0.seg, .int .i64 x.p0.off, .int .i64 x.p0.ring, .int .i64 x.p1.seg, .int .i64 x.p1.off, .int .i64 x.p1.ring, .int .i64 x.p2.seg, .int .i64 x.p2.off, .int .i64 x.p2.ring, .int .i64 x.p3.seg, .int .i64 x.p3.off, .int .i64 x.p3.ring, u]
def begAt (w : World) (B : Nat) (x : St) (u : Value) : Prop := w.heap[B]? = some (.cells (begC x u) 28 (0, 0))
theorem begAt.cell {w : World} {B : Nat} {x : St} {u : Value} (h : begAt w B x u) (j : Nat) : w.cell? ⟨B, j, none⟩ = (begC x u)[j]? := cell_of_row w B j _ _ _ h
structure GoodPt (p : Pt) : Prop where
  s0 : 0 ≤ p.seg
  s1 : p.seg < 5
  o0 : 0 ≤ p.off
  o1 : p.off < 6
  r0 : 0 ≤ p.ring
  r1 : p.ring < 8
theorem good000 : GoodPt ⟨0, 0, 0⟩ := ⟨by decide, by decide, by decide, by decide, by decide, by decide⟩
theorem goodmod (a b c : Int) : GoodPt ⟨a % 5, b % 6, c % 8⟩ := ⟨Int.emod_nonneg _ (by decide), Int.emod_lt_of_pos _ (by decide), Int.emod_nonneg _ (by decide), Int.emod_lt_of_pos _ (by decide), Int.emod_nonneg _ (by decide), Int.emod_lt_of_pos _ (by decide)⟩
structure GoodBeg (s : St) : Prop where
  s0 : 0 ≤ s.seg
  s1 : s.seg < 5
  o0 : 0 ≤ s.off
  o1 : s.off < 5
  r0 : 0 ≤ s.ring
  r1 : s.ring < 8
  p0 : GoodPt s.p0
  p1 : GoodPt s.p1
  p2 : GoodPt s.p2
  p3 : GoodPt s.p3
  h : s.hal = false
structure GoodFr (f : Fr) : Prop where
  s0 : 0 ≤ f.seg
  s1 : f.seg < 5
  o0 : 0 ≤ f.off
  o1 : f.off < 6
  r0 : 0 ≤ f.ring
  r1 : f.ring < 8
/-- on the way -/
structure BegR (w wr : World) (x : St) (u : Value) (T : Nat) (s : St) (stk : Value) (l : List Fr) : Prop where
  st : stAt wr T s stk
  good : GoodBeg s
  bg : begAt wr w.heap.size x u
  rs : stAt wr (w.heap.size + 1) St.zero (.slice none 0 0)
  bl : Below w.heap.size w wr
  lt : w.heap.size + 1 < T
  row : wr.ownsRow (w.heap.size + 2) 79 3 stk l.length (frC l)
  fr : ∀ f ∈ l, GoodFr f
  ha : s.a = x.a
theorem BegR.upd {w wr w' : World} {x : St} {u : Value} {T : Nat} {s s' : St} (h : BegR w wr x u T s (.slice none 0 0) []) (o : Off (· = T) wr w') (hs : stAt w' T s' (.slice none 0 0)) (hg : GoodBeg s') (ha : s'.a = x.a) : BegR w w' x u T s' (.slice none 0 0) [] := by
  have h1 := h.lt
  exact ⟨hs, hg, Off.keeps o h.bg (by omega), Off.keeps o h.rs (by omega), Off.below h.bl o h.bl.size (fun k hk => by omega), h.lt, ⟨rfl, .inl ⟨rfl, rfl⟩⟩, h.fr, ha⟩
theorem st_not6 {w : World} {N : Nat} {s : St} {stk : Value} (h : stAt w N s stk) (ty : TypeId) (ht : ty ≠ 33) : ∀ k, k = N → ∀ cs, w.heap[k]? ≠ some (.cells cs ty (0, 0)) := by
  rintro k rfl cs hc
  have h2 := (show w.heap[k]? = _ from h).symm.trans hc
  simp only [Option.some.injEq, Obj.cells.injEq] at h2
  exact ht h2.2.1.symm
theorem beg_results {W : World} {N : Nat} {s : St} {stk : Value} (h : stAt W N s stk) (tmps : Array Value) (h4 : tmps[2]? = some (.pointer (some ⟨N, 0, none⟩))) :
    (results Try.f16 tmps).run Try.prog W = .ok (stV s stk) W := by
  have l0 := range_loadVar (st_range h)
  simp [results, Try.results16, h4, l0, asAddr]
theorem goodfr (a b c : Int) : GoodFr ⟨a % 5, b % 6, c % 8⟩ := ⟨Int.emod_nonneg _ (by decide), Int.emod_lt_of_pos _ (by decide), Int.emod_nonneg _ (by decide), Int.emod_lt_of_pos _ (by decide), Int.emod_nonneg _ (by decide), Int.emod_lt_of_pos _ (by decide)⟩
theorem BegR.keepT {w D w5 : World} {x : St} {u : Value} {T : Nat} {s : St} {stk : Value} {l : List Fr} {o : Obj} (h : BegR w D x u T s stk l) (hrow : (D.alloc o).ownsRow (w.heap.size + 2) 79 3 stk l.length (frC l)) (hg : (D.alloc o).grownBy w5 stk.ownBlock) : stAt w5 T s stk := by
  have h1 : stAt (D.alloc o) T s stk := Off.keeps (ex := fun _ => False) ((Off.refl _ _).alloc o) h.st id
  exact (hg.block T (Array.getElem?_eq_some_iff.1 h1).1 (fun e => row_new hrow h1 (by decide) e.symm rfl)).trans h1
theorem BegR.snoc {w D w5 : World} {x : St} {u v' : Value} {T : Nat} {s : St} {stk : Value} {l : List Fr} {o : Obj} {f : Fr} (h : BegR w D x u T s stk l) (hrow : (D.alloc o).ownsRow (w.heap.size + 2) 79 3 stk l.length (frC l)) (hown : w5.ownsRow (w.heap.size + 2) 79 3 v' (l.length + 1) (frC l ++ [.int .i64 f.seg, .int .i64 f.off, .int .i64 f.ring])) (hg : (D.alloc o).grownBy w5 stk.ownBlock) (hf : GoodFr f) :
    BegR w (w5.setCell ⟨T, 16, none⟩ v') x u T s v' (l ++ [f]) := by
  have hT := h.keepT hrow hg
  have h2 : ∀ (k : Nat) (ob : Obj), k < w.heap.size + 2 → D.heap[k]? = some ob → w5.heap[k]? = some ob := fun k ob hk hob => by
    have h1 := Off.keeps (ex := fun _ => False) ((Off.refl _ _).alloc o) hob id
    exact (hg.block k (Array.getElem?_eq_some_iff.1 h1).1 (fun e => by have := (hrow.lt k e.symm).1; omega)).trans h1
  have hlt := h.lt
  have oT := off1 w5 T 16 v'
  refine ⟨?_, h.good, Off.keeps oT (h2 _ _ (by omega) h.bg) (by omega), Off.keeps oT (h2 _ _ (by omega) h.rs) (by omega), ?_, h.lt, ?_, ?_, h.ha⟩
  · have hc := hT
    unfold stAt stC at hc ⊢
    simp [World.setCell, Array.getElem?_modify, hc]
  · have b1 : Below w.heap.size w w5 := (h.bl.alloc h.bl.size o).grown hg (by have := h.bl.size; simp; omega) (fun k hk => by have := (hrow.lt k hk).1; omega)
    exact Off.below b1 oT b1.size (fun k hk => by omega)
  · rw [List.length_append, frC_append]
    exact Off.row oT hown (st_not6 hT _ (by decide))
  · intro g hg'
    rcases List.mem_append.1 hg' with h3 | h3
    · exact h.fr g h3
    · simp only [List.mem_singleton] at h3
      subst h3
      exact hf
set_option maxHeartbeats 8000000 in
theorem c_begin2 (w : World) (x : St) (u : Value) (hu : FrIn w u) : Calls Try.prog 16 #[.agg (begC x u)] w fun e w' => ∃ s stk l, e = .returned (stV s stk) ∧ stkAt w' stk l ∧ l.length ≤ 8 ∧ GoodBeg s ∧ (∀ f ∈ l, GoodFr f) ∧ s.a = x.a ∧ Below w.heap.size w w' := by
  obtain ⟨adf, nf, cf, rfl, hnf, hcf, hff⟩ := hu
  replace hff := Lib.hid hff
  replace hnf := Lib.hid hnf
  replace hcf := Lib.hid hcf
  obtain ⟨W0, hW0, B0, R0, HB⟩ : ∃ W, (w.alloc (.cells (begC x (.slice adf nf cf)) 28)).alloc (.cells (stC St.zero (.slice none 0 0)) 33) = W ∧ begAt W w.heap.size x (.slice adf nf cf) ∧ stAt W (w.heap.size + 1) St.zero (.slice none 0 0) ∧ Below w.heap.size w W := by
    refine ⟨_, rfl, ?_, ?_, below_al (below_al0 _ _) _⟩
    · exact Off.keeps (ex := fun _ => False) ((Off.refl _ _).alloc _) (heap_alloc_new w (.cells (begC x (.slice adf nf cf)) 28)) id
    · have h0 := heap_alloc_new (w.alloc (.cells (begC x (.slice adf nf cf)) 28)) (.cells (stC St.zero (.slice none 0 0)) 33)
      rw [World.size_alloc] at h0
      exact h0
  replace hW0 := Lib.hid hW0
  replace B0 := Lib.hid B0
  replace R0 := Lib.hid R0
  replace HB := Lib.hid HB
  go_enter Try.func16, Try.ntmps16
  go_upto_region 1 with fail
  rw [show (w.alloc (.cells (begC x (.slice adf nf cf)) 28)).alloc (.cells #[.int .i64 0, .int .i64 0, .int .i64 0, .int .i64 0, .int .i64 0, .int .i64 0, .int .i64 0, .int .i64 0, .int .i64 0, .int .i64 0, .int .i64 0, .int .i64 0, .int .i64 0, .int .i64 0, .int .i64 0, .int .i64 0, .slice none 0 0, .bool false] 33) = W0 from hW0.out]
  clear hW0
  go_cut [3] from 6 to 82 (fun tv wx => ∃ (T : Nat) (s : St), tv = .pointer (some ⟨T, 0, none⟩) ∧ Hid (stAt wx T s (.slice none 0 0)) ∧ Hid (GoodBeg s) ∧ Hid (begAt wx w.heap.size x (.slice adf nf cf)) ∧ Hid (stAt wx (w.heap.size + 1) St.zero (.slice none 0 0)) ∧ Hid (Below w.heap.size w wx) ∧ Hid (w.heap.size + 1 < T) ∧ Hid (s.a = x.a))
  case first =>
    have BD : Hid (begAt W0.drew w.heap.size x (.slice adf nf cf)) := B0
    have RD : Hid (stAt W0.drew (w.heap.size + 1) St.zero (.slice none 0 0)) := R0
    have HD : Hid (Below w.heap.size w W0.drew) := below_drew HB.out
    refine wp_region_held_drew (S := fun w' => Below W0.drew.heap.size W0.drew w') (by kernel_rfl) (Below.refl _ _) (fun hHeld => ?_)
    generalize W0.drew = D at BD RD HD hHeld ⊢
    have BC := Lib.hid (Below.refl D.heap.size D)
    have hDT : Hid (w.heap.size + 1 < D.heap.size) := RD.out.lt
    have GX : Hid (GoodBeg { St.zero with seg := x.seg % 5, off := x.off % 5, ring := x.ring % 8, a := x.a }) := Lib.hid ⟨Int.emod_nonneg _ (by decide), Int.emod_lt_of_pos _ (by decide), Int.emod_nonneg _ (by decide), Int.emod_lt_of_pos _ (by decide), Int.emod_nonneg _ (by decide), Int.emod_lt_of_pos _ (by decide), good000, good000, good000, good000, rfl⟩
    have k0 : ∀ w', Below D.heap.size D w' → w'.cell? ⟨w.heap.size, 0, none⟩ = some (.int .i64 x.seg) := fun w' h => (show begAt w' w.heap.size x _ from Off.keeps (.of_below (ex := fun _ => False) h) BD.out id).cell 0
    have k1 : ∀ w', Below D.heap.size D w' → w'.cell? ⟨w.heap.size, 1, none⟩ = some (.int .i64 x.off) := fun w' h => (show begAt w' w.heap.size x _ from Off.keeps (.of_below (ex := fun _ => False) h) BD.out id).cell 1
    have k2 : ∀ w', Below D.heap.size D w' → w'.cell? ⟨w.heap.size, 2, none⟩ = some (.int .i64 x.ring) := fun w' h => (show begAt w' w.heap.size x _ from Off.keeps (.of_below (ex := fun _ => False) h) BD.out id).cell 2
    have k3 : ∀ w', Below D.heap.size D w' → w'.cell? ⟨w.heap.size, 3, none⟩ = some (.int .i64 x.a) := fun w' h => (show begAt w' w.heap.size x _ from Off.keeps (.of_below (ex := fun _ => False) h) BD.out id).cell 3
    refine tkA 0 ?_
    try simp only [Act.put, sA, sB, sC]
    refine tkA 1 ?_
    try simp only [Act.put, sA, sB, sC]
    refine tkA 3 ?_
    try simp only [Act.put, sA, sB, sC]
    refine tkA 4 ?_
    try simp only [Act.put, sA, sB, sC]
    refine tkA 6 ?_
    try simp only [Act.put, sA, sB, sC]
    refine tkA 7 ?_
    try simp only [Act.put, sA, sB, sC]
    refine tkA 9 ?_
    try simp only [Act.put, sA, sB, sC]
    refine tkA 10 ?_
    try simp only [Act.put, sA, sB, sC]
    clear k0 k1 k2 k3
    refine rdB 2 12 (fun K hK => ?_) (fun K hK => ?_)
    · go_simp
      refine (within16 _ _ (by decide) (by decide) _).mono ?_
      rintro e w2 ⟨rfl, hw2⟩
      subst hw2
      dsimp only
      refine hK.out _ _ ?_ (fun hHeld => ?_)
      · exact BC.out
      clear hK K
      try simp only [Act.put, sA, sB, sC]
      refine rdB 5 12 (fun K hK => ?_) (fun K hK => ?_)
      · go_simp
        refine (within16 _ _ (by decide) (by decide) _).mono ?_
        rintro e w2 ⟨rfl, hw2⟩
        subst hw2
        dsimp only
        refine hK.out _ _ ?_ (fun hHeld => ?_)
        · exact BC.out
        clear hK K
        try simp only [Act.put, sA, sB, sC]
        refine rdB 8 12 (fun K hK => ?_) (fun K hK => ?_)
        · go_simp
          refine (within16 _ _ (by decide) (by decide) _).mono ?_
          rintro e w2 ⟨rfl, hw2⟩
          subst hw2
          dsimp only
          refine hK.out _ _ ?_ (fun hHeld => ?_)
          · exact BC.out
          clear hK K
          try simp only [Act.put, sA, sB, sC]
          refine tkA 11 ?_
          try simp only [Act.put, sA, sB, sC]
          refine rdA 12 (fun K hK => ?_)
          go_simp
          refine hK.out _ _ ?_ (fun hHeld => ?_)
          · exact below_al BC.out (.cells #[.int .i64 0, .int .i64 0, .int .i64 0, .int .i64 0, .int .i64 0, .int .i64 0, .int .i64 0, .int .i64 0, .int .i64 0, .int .i64 0, .int .i64 0, .int .i64 0, .int .i64 0, .int .i64 0, .int .i64 0, .int .i64 0, .slice none 0 0, .bool false] 33)
          clear hK K
          try simp only [Act.put, sA, sB, sC]
          have TT := Lib.hid (heap_alloc_new D (.cells #[.int .i64 0, .int .i64 0, .int .i64 0, .int .i64 0, .int .i64 0, .int .i64 0, .int .i64 0, .int .i64 0, .int .i64 0, .int .i64 0, .int .i64 0, .int .i64 0, .int .i64 0, .int .i64 0, .int .i64 0, .int .i64 0, .slice none 0 0, .bool false] 33))
          replace BC := Lib.hid (below_al BC.out (.cells #[.int .i64 0, .int .i64 0, .int .i64 0, .int .i64 0, .int .i64 0, .int .i64 0, .int .i64 0, .int .i64 0, .int .i64 0, .int .i64 0, .int .i64 0, .int .i64 0, .int .i64 0, .int .i64 0, .int .i64 0, .int .i64 0, .slice none 0 0, .bool false] 33))
          generalize D.alloc (.cells #[.int .i64 0, .int .i64 0, .int .i64 0, .int .i64 0, .int .i64 0, .int .i64 0, .int .i64 0, .int .i64 0, .int .i64 0, .int .i64 0, .int .i64 0, .int .i64 0, .int .i64 0, .int .i64 0, .int .i64 0, .int .i64 0, .slice none 0 0, .bool false] 33) = X1 at hHeld TT BC ⊢
          refine rdA 13 (fun K hK => ?_)
          rw [if_pos (by rfl)]
          refine wp_store_st (s' := { St.zero with seg := x.seg % 5, off := x.off % 5, ring := x.ring % 8, a := x.a }) (stk' := .slice none 0 0) (.tmp 3) (.tmp 17) rfl rfl rfl (show stAt _ D.heap.size St.zero (.slice none 0 0) from TT.out) rfl ?_
          intro Z SZ FZ
          have BZ : Hid (Below D.heap.size D Z) := Off.below BC.out FZ BC.out.size (fun k hk => by omega)
          replace SZ := Lib.hid SZ
          clear FZ
          refine hK.out _ _ ?_ (fun hHeld => ?_)
          · exact BZ.out
          clear hK K
          try simp only [Act.put]
          clear TT BC
          refine wpAnyH_done (by kernel_rfl) ?_ _
          go_wp2_with fail
          go_meet
          case rel => exact ⟨_, _, rfl, SZ, GX, Off.keeps (.of_below (ex := fun _ => False) BZ.out) BD.out id, Off.keeps (.of_below (ex := fun _ => False) BZ.out) RD.out id, Lib.hid (below2 HD.out BZ.out), hDT, Lib.hid rfl⟩
        · go_simp
          refine hK.out _ _ ?_ (fun hHeld => ?_)
          · exact below_al BC.out (.cells #[.int .i64 0, .int .i64 0, .int .i64 0, .int .i64 0, .int .i64 0, .int .i64 0, .int .i64 0, .int .i64 0, .int .i64 0, .int .i64 0, .int .i64 0, .int .i64 0, .int .i64 0, .int .i64 0, .int .i64 0, .int .i64 0, .slice none 0 0, .bool false] 33)
          clear hK K
          try simp only [Act.put, sA, sB, sC]
          have TT := Lib.hid (heap_alloc_new D (.cells #[.int .i64 0, .int .i64 0, .int .i64 0, .int .i64 0, .int .i64 0, .int .i64 0, .int .i64 0, .int .i64 0, .int .i64 0, .int .i64 0, .int .i64 0, .int .i64 0, .int .i64 0, .int .i64 0, .int .i64 0, .int .i64 0, .slice none 0 0, .bool false] 33))
          replace BC := Lib.hid (below_al BC.out (.cells #[.int .i64 0, .int .i64 0, .int .i64 0, .int .i64 0, .int .i64 0, .int .i64 0, .int .i64 0, .int .i64 0, .int .i64 0, .int .i64 0, .int .i64 0, .int .i64 0, .int .i64 0, .int .i64 0, .int .i64 0, .int .i64 0, .slice none 0 0, .bool false] 33))
          generalize D.alloc (.cells #[.int .i64 0, .int .i64 0, .int .i64 0, .int .i64 0, .int .i64 0, .int .i64 0, .int .i64 0, .int .i64 0, .int .i64 0, .int .i64 0, .int .i64 0, .int .i64 0, .int .i64 0, .int .i64 0, .int .i64 0, .int .i64 0, .slice none 0 0, .bool false] 33) = X1 at hHeld TT BC ⊢
          refine rdA 8 (fun K hK => ?_)
          go_simp
          refine (within16 _ _ (by decide) (by decide) _).mono ?_
          rintro e w2 ⟨rfl, hw2⟩
          subst hw2
          dsimp only
          refine hK.out _ _ ?_ (fun hHeld => ?_)
          · exact BC.out
          clear hK K
          try simp only [Act.put, sA, sB, sC]
          refine tkA 11 ?_
          try simp only [Act.put, sA, sB, sC]
          refine rdA 13 (fun K hK => ?_)
          rw [if_pos (by rfl)]
          refine wp_store_st (s' := { St.zero with seg := x.seg % 5, off := x.off % 5, ring := x.ring % 8, a := x.a }) (stk' := .slice none 0 0) (.tmp 3) (.tmp 17) rfl rfl rfl (show stAt _ D.heap.size St.zero (.slice none 0 0) from TT.out) rfl ?_
          intro Z SZ FZ
          have BZ : Hid (Below D.heap.size D Z) := Off.below BC.out FZ BC.out.size (fun k hk => by omega)
          replace SZ := Lib.hid SZ
          clear FZ
          refine hK.out _ _ ?_ (fun hHeld => ?_)
          · exact BZ.out
          clear hK K
          try simp only [Act.put]
          clear TT BC
          refine wpAnyH_done (by kernel_rfl) ?_ _
          go_wp2_with fail
          go_meet
          case rel => exact ⟨_, _, rfl, SZ, GX, Off.keeps (.of_below (ex := fun _ => False) BZ.out) BD.out id, Off.keeps (.of_below (ex := fun _ => False) BZ.out) RD.out id, Lib.hid (below2 HD.out BZ.out), hDT, Lib.hid rfl⟩
      · go_simp
        refine hK.out _ _ ?_ (fun hHeld => ?_)
        · exact below_al BC.out (.cells #[.int .i64 0, .int .i64 0, .int .i64 0, .int .i64 0, .int .i64 0, .int .i64 0, .int .i64 0, .int .i64 0, .int .i64 0, .int .i64 0, .int .i64 0, .int .i64 0, .int .i64 0, .int .i64 0, .int .i64 0, .int .i64 0, .slice none 0 0, .bool false] 33)
        clear hK K
        try simp only [Act.put, sA, sB, sC]
        have TT := Lib.hid (heap_alloc_new D (.cells #[.int .i64 0, .int .i64 0, .int .i64 0, .int .i64 0, .int .i64 0, .int .i64 0, .int .i64 0, .int .i64 0, .int .i64 0, .int .i64 0, .int .i64 0, .int .i64 0, .int .i64 0, .int .i64 0, .int .i64 0, .int .i64 0, .slice none 0 0, .bool false] 33))
        replace BC := Lib.hid (below_al BC.out (.cells #[.int .i64 0, .int .i64 0, .int .i64 0, .int .i64 0, .int .i64 0, .int .i64 0, .int .i64 0, .int .i64 0, .int .i64 0, .int .i64 0, .int .i64 0, .int .i64 0, .int .i64 0, .int .i64 0, .int .i64 0, .int .i64 0, .slice none 0 0, .bool false] 33))
        generalize D.alloc (.cells #[.int .i64 0, .int .i64 0, .int .i64 0, .int .i64 0, .int .i64 0, .int .i64 0, .int .i64 0, .int .i64 0, .int .i64 0, .int .i64 0, .int .i64 0, .int .i64 0, .int .i64 0, .int .i64 0, .int .i64 0, .int .i64 0, .slice none 0 0, .bool false] 33) = X1 at hHeld TT BC ⊢
        refine rdA 5 (fun K hK => ?_)
        go_simp
        refine (within16 _ _ (by decide) (by decide) _).mono ?_
        rintro e w2 ⟨rfl, hw2⟩
        subst hw2
        dsimp only
        refine hK.out _ _ ?_ (fun hHeld => ?_)
        · exact BC.out
        clear hK K
        try simp only [Act.put, sA, sB, sC]
        refine rdA 8 (fun K hK => ?_)
        go_simp
        refine (within16 _ _ (by decide) (by decide) _).mono ?_
        rintro e w2 ⟨rfl, hw2⟩
        subst hw2
        dsimp only
        refine hK.out _ _ ?_ (fun hHeld => ?_)
        · exact BC.out
        clear hK K
        try simp only [Act.put, sA, sB, sC]
        refine tkA 11 ?_
        try simp only [Act.put, sA, sB, sC]
        refine rdA 13 (fun K hK => ?_)
        rw [if_pos (by rfl)]
        refine wp_store_st (s' := { St.zero with seg := x.seg % 5, off := x.off % 5, ring := x.ring % 8, a := x.a }) (stk' := .slice none 0 0) (.tmp 3) (.tmp 17) rfl rfl rfl (show stAt _ D.heap.size St.zero (.slice none 0 0) from TT.out) rfl ?_
        intro Z SZ FZ
        have BZ : Hid (Below D.heap.size D Z) := Off.below BC.out FZ BC.out.size (fun k hk => by omega)
        replace SZ := Lib.hid SZ
        clear FZ
        refine hK.out _ _ ?_ (fun hHeld => ?_)
        · exact BZ.out
        clear hK K
        try simp only [Act.put]
        clear TT BC
        refine wpAnyH_done (by kernel_rfl) ?_ _
        go_wp2_with fail
        go_meet
        case rel => exact ⟨_, _, rfl, SZ, GX, Off.keeps (.of_below (ex := fun _ => False) BZ.out) BD.out id, Off.keeps (.of_below (ex := fun _ => False) BZ.out) RD.out id, Lib.hid (below2 HD.out BZ.out), hDT, Lib.hid rfl⟩
    · go_simp
      refine hK.out _ _ ?_ (fun hHeld => ?_)
      · exact below_al BC.out (.cells #[.int .i64 0, .int .i64 0, .int .i64 0, .int .i64 0, .int .i64 0, .int .i64 0, .int .i64 0, .int .i64 0, .int .i64 0, .int .i64 0, .int .i64 0, .int .i64 0, .int .i64 0, .int .i64 0, .int .i64 0, .int .i64 0, .slice none 0 0, .bool false] 33)
      clear hK K
      try simp only [Act.put, sA, sB, sC]
      have TT := Lib.hid (heap_alloc_new D (.cells #[.int .i64 0, .int .i64 0, .int .i64 0, .int .i64 0, .int .i64 0, .int .i64 0, .int .i64 0, .int .i64 0, .int .i64 0, .int .i64 0, .int .i64 0, .int .i64 0, .int .i64 0, .int .i64 0, .int .i64 0, .int .i64 0, .slice none 0 0, .bool false] 33))
      replace BC := Lib.hid (below_al BC.out (.cells #[.int .i64 0, .int .i64 0, .int .i64 0, .int .i64 0, .int .i64 0, .int .i64 0, .int .i64 0, .int .i64 0, .int .i64 0, .int .i64 0, .int .i64 0, .int .i64 0, .int .i64 0, .int .i64 0, .int .i64 0, .int .i64 0, .slice none 0 0, .bool false] 33))
      generalize D.alloc (.cells #[.int .i64 0, .int .i64 0, .int .i64 0, .int .i64 0, .int .i64 0, .int .i64 0, .int .i64 0, .int .i64 0, .int .i64 0, .int .i64 0, .int .i64 0, .int .i64 0, .int .i64 0, .int .i64 0, .int .i64 0, .int .i64 0, .slice none 0 0, .bool false] 33) = X1 at hHeld TT BC ⊢
      refine rdA 2 (fun K hK => ?_)
      go_simp
      refine (within16 _ _ (by decide) (by decide) _).mono ?_
      rintro e w2 ⟨rfl, hw2⟩
      subst hw2
      dsimp only
      refine hK.out _ _ ?_ (fun hHeld => ?_)
      · exact BC.out
      clear hK K
      try simp only [Act.put, sA, sB, sC]
      refine rdA 5 (fun K hK => ?_)
      go_simp
      refine (within16 _ _ (by decide) (by decide) _).mono ?_
      rintro e w2 ⟨rfl, hw2⟩
      subst hw2
      dsimp only
      refine hK.out _ _ ?_ (fun hHeld => ?_)
      · exact BC.out
      clear hK K
      try simp only [Act.put, sA, sB, sC]
      refine rdA 8 (fun K hK => ?_)
      go_simp
      refine (within16 _ _ (by decide) (by decide) _).mono ?_
      rintro e w2 ⟨rfl, hw2⟩
      subst hw2
      dsimp only
      refine hK.out _ _ ?_ (fun hHeld => ?_)
      · exact BC.out
      clear hK K
      try simp only [Act.put, sA, sB, sC]
      refine tkA 11 ?_
      try simp only [Act.put, sA, sB, sC]
      refine rdA 13 (fun K hK => ?_)
      rw [if_pos (by rfl)]
      refine wp_store_st (s' := { St.zero with seg := x.seg % 5, off := x.off % 5, ring := x.ring % 8, a := x.a }) (stk' := .slice none 0 0) (.tmp 3) (.tmp 17) rfl rfl rfl (show stAt _ D.heap.size St.zero (.slice none 0 0) from TT.out) rfl ?_
      intro Z SZ FZ
      have BZ : Hid (Below D.heap.size D Z) := Off.below BC.out FZ BC.out.size (fun k hk => by omega)
      replace SZ := Lib.hid SZ
      clear FZ
      refine hK.out _ _ ?_ (fun hHeld => ?_)
      · exact BZ.out
      clear hK K
      try simp only [Act.put]
      clear TT BC
      refine wpAnyH_done (by kernel_rfl) ?_ _
      go_wp2_with fail
      go_meet
      case rel => exact ⟨_, _, rfl, SZ, GX, Off.keeps (.of_below (ex := fun _ => False) BZ.out) BD.out id, Off.keeps (.of_below (ex := fun _ => False) BZ.out) RD.out id, Lib.hid (below2 HD.out BZ.out), hDT, Lib.hid rfl⟩
  case rest =>
    obtain ⟨T, s0, rfl, TT, GB, BB, RR, BW, hT, hA0⟩ := hcut
    have H1 : Hid (BegR w wc x (.slice adf nf cf) T s0 (.slice none 0 0) []) := ⟨TT.out, GB.out, BB.out, RR.out, BW.out, hT.out, ⟨rfl, .inl ⟨rfl, rfl⟩⟩, fun f hf => by simp at hf, hA0.out⟩
    clear TT GB BB RR BW hA0
    go_wp2_with fail
    go_loopw [4] (fun kv wr => ∃ (k : Nat) (s : St), kv = .int .i64 k ∧ k ≤ 4 ∧ Hid (BegR w wr x (.slice adf nf cf) T s (.slice none 0 0) [])) (fun kv _ => 4 - (intOf kv).toNat)
    case atStart => exact ⟨0, s0, rfl, by omega, H1⟩
    case round =>
      clear H1
      obtain ⟨k, s, rfl, hk4, HR⟩ := hrel
      by_cases hk : k < 4
      · rcases (show k = 0 ∨ k = 1 ∨ k = 2 ∨ k = 3 by omega) with rfl | rfl | rfl | rfl
        · go_upto_region 5 with fail
          have HD : Hid (BegR w wr.drew x (.slice adf nf cf) T s (.slice none 0 0) []) := Lib.hid ⟨HR.out.st, HR.out.good, HR.out.bg, HR.out.rs, below_drew HR.out.bl, HR.out.lt, HR.out.row, HR.out.fr, HR.out.ha⟩
          refine still_tail 22 (by kernel_rfl) (by kernel_rfl) ?_
          simp only [List.take_succ_cons, List.take_zero, List.drop_succ_cons, List.drop_zero]
          generalize wr.drew = D at HD ⊢
          have b0 : D.cell? ⟨w.heap.size, 4, none⟩ = some (.int .i64 x.p0.seg) := HD.out.bg.cell 4
          have b1 : D.cell? ⟨w.heap.size, 5, none⟩ = some (.int .i64 x.p0.off) := HD.out.bg.cell 5
          have b2 : D.cell? ⟨w.heap.size, 6, none⟩ = some (.int .i64 x.p0.ring) := HD.out.bg.cell 6
          have c0 : D.cell? ⟨T, 4, none⟩ = some (.int .i64 s.p0.seg) := HD.out.st.cell 4
          have c1 : D.cell? ⟨T, 5, none⟩ = some (.int .i64 s.p0.off) := HD.out.st.cell 5
          have c2 : D.cell? ⟨T, 6, none⟩ = some (.int .i64 s.p0.ring) := HD.out.st.cell 6
          have cf' : ∀ j, D.frozen? ⟨T, j, none⟩ = false := fun j => HD.out.st.free j
          repeat still_step
          still_call (within16s x.p0.seg 5 (by decide) (by decide) _)
          repeat still_step
          still_call (within16s x.p0.off 6 (by decide) (by decide) _)
          repeat still_step
          still_call (within16s x.p0.ring 8 (by decide) (by decide) _)
          repeat still_step
          refine wpStill_nil ?_
          have HN : Hid (BegR w (((D.setCell ⟨T, 4, none⟩ (.int .i64 (x.p0.seg % 5))).setCell ⟨T, 5, none⟩ (.int .i64 (x.p0.off % 6))).setCell ⟨T, 6, none⟩ (.int .i64 (x.p0.ring % 8))) x (.slice adf nf cf) T { s with p0 := ⟨x.p0.seg % 5, x.p0.off % 6, x.p0.ring % 8⟩ } (.slice none 0 0) []) := HD.out.upd (((off1 _ _ _ _).trans (off1 _ _ _ _)).trans (off1 _ _ _ _)) (st3 HD.out.st 4 _ _ _) { HD.out.good with p0 := goodmod _ _ _ } HD.out.ha
          go_wp2_with fail
          go_roundw
          case rel => exact ⟨1, _, by go_num, by omega, HN⟩
          case measure => simp [intOf]
        · go_upto_region 5 with fail
          have HD : Hid (BegR w wr.drew x (.slice adf nf cf) T s (.slice none 0 0) []) := Lib.hid ⟨HR.out.st, HR.out.good, HR.out.bg, HR.out.rs, below_drew HR.out.bl, HR.out.lt, HR.out.row, HR.out.fr, HR.out.ha⟩
          refine still_tail 22 (by kernel_rfl) (by kernel_rfl) ?_
          simp only [List.take_succ_cons, List.take_zero, List.drop_succ_cons, List.drop_zero]
          generalize wr.drew = D at HD ⊢
          have b0 : D.cell? ⟨w.heap.size, 7, none⟩ = some (.int .i64 x.p1.seg) := HD.out.bg.cell 7
          have b1 : D.cell? ⟨w.heap.size, 8, none⟩ = some (.int .i64 x.p1.off) := HD.out.bg.cell 8
          have b2 : D.cell? ⟨w.heap.size, 9, none⟩ = some (.int .i64 x.p1.ring) := HD.out.bg.cell 9
          have c0 : D.cell? ⟨T, 7, none⟩ = some (.int .i64 s.p1.seg) := HD.out.st.cell 7
          have c1 : D.cell? ⟨T, 8, none⟩ = some (.int .i64 s.p1.off) := HD.out.st.cell 8
          have c2 : D.cell? ⟨T, 9, none⟩ = some (.int .i64 s.p1.ring) := HD.out.st.cell 9
          have cf' : ∀ j, D.frozen? ⟨T, j, none⟩ = false := fun j => HD.out.st.free j
          repeat still_step
          still_call (within16s x.p1.seg 5 (by decide) (by decide) _)
          repeat still_step
          still_call (within16s x.p1.off 6 (by decide) (by decide) _)
          repeat still_step
          still_call (within16s x.p1.ring 8 (by decide) (by decide) _)
          repeat still_step
          refine wpStill_nil ?_
          have HN : Hid (BegR w (((D.setCell ⟨T, 7, none⟩ (.int .i64 (x.p1.seg % 5))).setCell ⟨T, 8, none⟩ (.int .i64 (x.p1.off % 6))).setCell ⟨T, 9, none⟩ (.int .i64 (x.p1.ring % 8))) x (.slice adf nf cf) T { s with p1 := ⟨x.p1.seg % 5, x.p1.off % 6, x.p1.ring % 8⟩ } (.slice none 0 0) []) := HD.out.upd (((off1 _ _ _ _).trans (off1 _ _ _ _)).trans (off1 _ _ _ _)) (st3 HD.out.st 7 _ _ _) { HD.out.good with p1 := goodmod _ _ _ } HD.out.ha
          go_wp2_with fail
          go_roundw
          case rel => exact ⟨2, _, by go_num, by omega, HN⟩
          case measure => simp [intOf]
        · go_upto_region 5 with fail
          have HD : Hid (BegR w wr.drew x (.slice adf nf cf) T s (.slice none 0 0) []) := Lib.hid ⟨HR.out.st, HR.out.good, HR.out.bg, HR.out.rs, below_drew HR.out.bl, HR.out.lt, HR.out.row, HR.out.fr, HR.out.ha⟩
          refine still_tail 22 (by kernel_rfl) (by kernel_rfl) ?_
          simp only [List.take_succ_cons, List.take_zero, List.drop_succ_cons, List.drop_zero]
          generalize wr.drew = D at HD ⊢
          have b0 : D.cell? ⟨w.heap.size, 10, none⟩ = some (.int .i64 x.p2.seg) := HD.out.bg.cell 10
          have b1 : D.cell? ⟨w.heap.size, 11, none⟩ = some (.int .i64 x.p2.off) := HD.out.bg.cell 11
          have b2 : D.cell? ⟨w.heap.size, 12, none⟩ = some (.int .i64 x.p2.ring) := HD.out.bg.cell 12
          have c0 : D.cell? ⟨T, 10, none⟩ = some (.int .i64 s.p2.seg) := HD.out.st.cell 10
          have c1 : D.cell? ⟨T, 11, none⟩ = some (.int .i64 s.p2.off) := HD.out.st.cell 11
          have c2 : D.cell? ⟨T, 12, none⟩ = some (.int .i64 s.p2.ring) := HD.out.st.cell 12
          have cf' : ∀ j, D.frozen? ⟨T, j, none⟩ = false := fun j => HD.out.st.free j
          repeat still_step
          still_call (within16s x.p2.seg 5 (by decide) (by decide) _)
          repeat still_step
          still_call (within16s x.p2.off 6 (by decide) (by decide) _)
          repeat still_step
          still_call (within16s x.p2.ring 8 (by decide) (by decide) _)
          repeat still_step
          refine wpStill_nil ?_
          have HN : Hid (BegR w (((D.setCell ⟨T, 10, none⟩ (.int .i64 (x.p2.seg % 5))).setCell ⟨T, 11, none⟩ (.int .i64 (x.p2.off % 6))).setCell ⟨T, 12, none⟩ (.int .i64 (x.p2.ring % 8))) x (.slice adf nf cf) T { s with p2 := ⟨x.p2.seg % 5, x.p2.off % 6, x.p2.ring % 8⟩ } (.slice none 0 0) []) := HD.out.upd (((off1 _ _ _ _).trans (off1 _ _ _ _)).trans (off1 _ _ _ _)) (st3 HD.out.st 10 _ _ _) { HD.out.good with p2 := goodmod _ _ _ } HD.out.ha
          go_wp2_with fail
          go_roundw
          case rel => exact ⟨3, _, by go_num, by omega, HN⟩
          case measure => simp [intOf]
        · go_upto_region 5 with fail
          have HD : Hid (BegR w wr.drew x (.slice adf nf cf) T s (.slice none 0 0) []) := Lib.hid ⟨HR.out.st, HR.out.good, HR.out.bg, HR.out.rs, below_drew HR.out.bl, HR.out.lt, HR.out.row, HR.out.fr, HR.out.ha⟩
          refine still_tail 22 (by kernel_rfl) (by kernel_rfl) ?_
          simp only [List.take_succ_cons, List.take_zero, List.drop_succ_cons, List.drop_zero]
          generalize wr.drew = D at HD ⊢
          have b0 : D.cell? ⟨w.heap.size, 13, none⟩ = some (.int .i64 x.p3.seg) := HD.out.bg.cell 13
          have b1 : D.cell? ⟨w.heap.size, 14, none⟩ = some (.int .i64 x.p3.off) := HD.out.bg.cell 14
          have b2 : D.cell? ⟨w.heap.size, 15, none⟩ = some (.int .i64 x.p3.ring) := HD.out.bg.cell 15
          have c0 : D.cell? ⟨T, 13, none⟩ = some (.int .i64 s.p3.seg) := HD.out.st.cell 13
          have c1 : D.cell? ⟨T, 14, none⟩ = some (.int .i64 s.p3.off) := HD.out.st.cell 14
          have c2 : D.cell? ⟨T, 15, none⟩ = some (.int .i64 s.p3.ring) := HD.out.st.cell 15
          have cf' : ∀ j, D.frozen? ⟨T, j, none⟩ = false := fun j => HD.out.st.free j
          repeat still_step
          still_call (within16s x.p3.seg 5 (by decide) (by decide) _)
          repeat still_step
          still_call (within16s x.p3.off 6 (by decide) (by decide) _)
          repeat still_step
          still_call (within16s x.p3.ring 8 (by decide) (by decide) _)
          repeat still_step
          refine wpStill_nil ?_
          have HN : Hid (BegR w (((D.setCell ⟨T, 13, none⟩ (.int .i64 (x.p3.seg % 5))).setCell ⟨T, 14, none⟩ (.int .i64 (x.p3.off % 6))).setCell ⟨T, 15, none⟩ (.int .i64 (x.p3.ring % 8))) x (.slice adf nf cf) T { s with p3 := ⟨x.p3.seg % 5, x.p3.off % 6, x.p3.ring % 8⟩ } (.slice none 0 0) []) := HD.out.upd (((off1 _ _ _ _).trans (off1 _ _ _ _)).trans (off1 _ _ _ _)) (st3 HD.out.st 13 _ _ _) { HD.out.good with p3 := goodmod _ _ _ } HD.out.ha
          go_wp2_with fail
          go_roundw
          case rel => exact ⟨4, _, by go_num, by omega, HN⟩
          case measure => simp [intOf]
      · rw [show ((k : Nat) : Int) = 4 by omega]
        have H2 := HR
        go_wp2_with fail
        go_loopw [5] (fun kv wr => ∃ (k : Nat) (l : List Fr) (stk : Value), kv = .int .i64 k ∧ k ≤ nf ∧ k ≤ 8 ∧ Hid (l.length = k) ∧ Hid (BegR w wr x (.slice adf nf cf) T s stk l)) (fun kv _ => 8 - (intOf kv).toNat)
        case atStart => exact ⟨0, [], _, rfl, by omega, by omega, Lib.hid rfl, H2⟩
        case round =>
          clear H2 HR
          obtain ⟨k, l, stk, rfl, hkn, hk8, hl, HR⟩ := hrel
          have p6 : wr.cell? ⟨w.heap.size, 16, none⟩ = some (.slice adf nf cf) := HR.out.bg.cell 16
          have hone : Hid (stk.oneCell' = true) := by obtain ⟨x1, x2, x3, _⟩ := row_shape HR.out.row; subst x3; rfl
          by_cases hk : k < nf ∧ k < 8
          · obtain ⟨hk1, hk2⟩ := hk
            have hk2' : (k : Int) < 8 := by omega
            obtain ⟨b, o, rfl, hb, a0, a1, a2, e0, e1, e2⟩ := hff.out k hk1
            have hnf' : (nf : Int) ≤ 9223372036854775807 := by have h1 := hcf.out; have h2 := hnf.out; unfold maxLen at h1; omega
            go_upto_region 9 with fail
            have HD : Hid (BegR w wr.drew x (.slice (some ⟨b, o, none⟩) nf cf) T s stk l) := Lib.hid ⟨HR.out.st, HR.out.good, HR.out.bg, HR.out.rs, below_drew HR.out.bl, HR.out.lt, HR.out.row, HR.out.fr, HR.out.ha⟩
            have TT : Hid (stAt wr.drew T s stk) := HD.out.st
            obtain ⟨iF, hiF, hz0, hz1, hz2⟩ := info_parts A.infoF
            refine wp_region_held_drew (S := fun w' => Off (fun b => w.heap.size + 1 < b) wr.drew w') (by kernel_rfl) (Off.refl _ _) (fun hHeld => ?_)
            generalize wr.drew = D at HD TT hHeld ⊢
            have OC : Hid (Off (fun b => w.heap.size + 1 < b) D D) := Off.refl _ _
            clear p6
            have k6 : ∀ w', Off (fun b => w.heap.size + 1 < b) D w' → w'.cell? ⟨w.heap.size, 16, none⟩ = some (.slice (some ⟨b, o, none⟩) nf cf) := fun w' h => (show begAt w' w.heap.size x _ from Off.keeps h HD.out.bg (by omega)).cell 16
            have l0 : ∀ w', Off (fun b => w.heap.size + 1 < b) D w' → w'.cell? ⟨b, o + k * 3, none⟩ = some (.int .i64 a0) := fun w' h => off_cell h ((HD.out.bl.cell hb).trans e0) (by show ¬ w.heap.size + 1 < b; omega)
            have l1 : ∀ w', Off (fun b => w.heap.size + 1 < b) D w' → w'.cell? ⟨b, o + k * 3 + 1, none⟩ = some (.int .i64 a1) := fun w' h => off_cell h ((HD.out.bl.cell hb).trans e1) (by show ¬ w.heap.size + 1 < b; omega)
            have l2 : ∀ w', Off (fun b => w.heap.size + 1 < b) D w' → w'.cell? ⟨b, o + k * 3 + 2, none⟩ = some (.int .i64 a2) := fun w' h => off_cell h ((HD.out.bl.cell hb).trans e2) (by show ¬ w.heap.size + 1 < b; omega)
            replace hb := Lib.hid hb
            clear e0 e1 e2
            refine tkA 0 ?_
            try simp only [Act.put, sA, sB, sC]
            refine tkA 2 ?_
            try simp only [Act.put, sA, sB, sC]
            refine tkA 3 ?_
            try simp only [Act.put, sA, sB, sC]
            refine tkA 4 ?_
            try simp only [Act.put, sA, sB, sC]
            refine tkA 5 ?_
            try simp only [Act.put, sA, sB, sC]
            refine tkA 6 ?_
            try simp only [Act.put, sA, sB, sC]
            refine tkA 7 ?_
            try simp only [Act.put, sA, sB, sC]
            refine tkA 9 ?_
            try simp only [Act.put, sA, sB, sC]
            refine tkA 10 ?_
            try simp only [Act.put, sA, sB, sC]
            refine tkA 11 ?_
            try simp only [Act.put, sA, sB, sC]
            refine tkA 12 ?_
            try simp only [Act.put, sA, sB, sC]
            refine tkA 13 ?_
            try simp only [Act.put, sA, sB, sC]
            refine tkA 14 ?_
            try simp only [Act.put, sA, sB, sC]
            refine tkA 16 ?_
            try simp only [Act.put, sA, sB, sC]
            refine tkA 17 ?_
            try simp only [Act.put, sA, sB, sC]
            refine tkA 18 ?_
            try simp only [Act.put, sA, sB, sC]
            refine tkA 19 ?_
            try simp only [Act.put, sA, sB, sC]
            refine tkA 20 ?_
            try simp only [Act.put, sA, sB, sC]
            refine tkA 21 ?_
            try simp only [Act.put, sA, sB, sC]
            clear k6 l0 l1 l2
            refine rdB 1 8 (fun K hK => ?_) (fun K hK => ?_)
            · have tc : D.cell? ⟨T, 16, none⟩ = some stk := (show stAt D T s stk from TT.out).cell 16
              go_simp
              clear tc
              refine hK.out _ _ ?_ (fun hHeld => ?_)
              · exact OC.out
              clear hK K
              try simp only [Act.put, sA, sB, sC]
              refine rdA 8 (fun K hK => ?_)
              go_simp
              refine (within16 _ _ (by decide) (by decide) _).mono ?_
              rintro e w2 ⟨rfl, hw2⟩
              subst hw2
              dsimp only
              refine hK.out _ _ ?_ (fun hHeld => ?_)
              · exact OC.out
              clear hK K
              try simp only [Act.put, sA, sB, sC]
              refine rdA 15 (fun K hK => ?_)
              go_simp
              refine (within16 _ _ (by decide) (by decide) _).mono ?_
              rintro e w2 ⟨rfl, hw2⟩
              subst hw2
              dsimp only
              refine hK.out _ _ ?_ (fun hHeld => ?_)
              · exact OC.out
              clear hK K
              try simp only [Act.put, sA, sB, sC]
              refine rdA 22 (fun K hK => ?_)
              go_simp
              refine (within16 _ _ (by decide) (by decide) _).mono ?_
              rintro e w2 ⟨rfl, hw2⟩
              subst hw2
              dsimp only
              refine hK.out _ _ ?_ (fun hHeld => ?_)
              · exact OC.out
              clear hK K
              try simp only [Act.put, sA, sB, sC]
              refine tkA 23 ?_
              try simp only [Act.put, sA, sB, sC]
              refine rdA 24 (fun K hK => ?_)
              go_simp
              have OX : Hid (Off (fun b => w.heap.size + 1 < b) D (D.alloc (.cells #[.int .i64 (a0 % 5), .int .i64 (a1 % 6), .int .i64 (a2 % 8)] 79))) := OC.out.alloc _
              refine hK.out _ _ ?_ (fun hHeld => ?_)
              · exact OX.out
              clear hK K
              try simp only [Act.put, sA, sB, sC]
              replace TT : Hid (stAt (D.alloc (.cells #[.int .i64 (a0 % 5), .int .i64 (a1 % 6), .int .i64 (a2 % 8)] 79)) T s stk) := Off.keeps (ex := fun _ => False) ((Off.refl _ _).alloc (.cells #[.int .i64 (a0 % 5), .int .i64 (a1 % 6), .int .i64 (a2 % 8)] 79)) HD.out.st id
              have hrow : Hid ((D.alloc (.cells #[.int .i64 (a0 % 5), .int .i64 (a1 % 6), .int .i64 (a2 % 8)] 79)).ownsRow (w.heap.size + 2) 79 3 stk l.length (frC l)) := Off.row (ex := fun _ => False) ((Off.refl _ _).alloc (.cells #[.int .i64 (a0 % 5), .int .i64 (a1 % 6), .int .i64 (a2 % 8)] 79)) HD.out.row (fun _ h => h.elim)
              replace OC := OX
              clear OX
              refine rdA 25 (fun K hK => ?_)
              rw [if_pos (by rfl)]
              refine wp_append_own _ (.tmp 56) (.tmp 79) 26 rfl (w.heap.size + 2) 79 iF (.agg #[.int .i64 0, .int .i64 0, .int .i64 0]) 3 24 A.underF hiF hz0 hz1 hz2 rfl (by decide) stk l.length (frC l) rfl hrow.out ⟨D.heap.size, 0, none⟩ 1 1 [.int .i64 (a0 % 5), .int .i64 (a1 % 6), .int .i64 (a2 % 8)] rfl rfl (fun j u hj => (by rw [← hj]; simp [Addr.add_mk0])) (by intro u hu; simp only [List.mem_cons, List.not_mem_nil, or_false] at hu; rcases hu with rfl | rfl | rfl <;> rfl) (by have := hl.out; unfold maxLen; omega) (by have := hl.out; omega) (by have h1 := HD.out.rs.lt; simp; omega) ?_
              intro v' w5 hown hgrow _
              obtain ⟨x1, x2, x3⟩ := row_some hown (by omega)
              subst x3
              have HN := Lib.hid (HD.out.snoc hrow.out hown hgrow (goodfr a0 a1 a2))
              have T5 : Hid (stAt w5 T s stk) := Lib.hid (BegR.keepT HD.out hrow.out hgrow)
              have OX : Hid (Off (fun b => w.heap.size + 1 < b) D w5) := OC.out.grown hgrow (fun k hk => .inl (by have h1 := (hrow.out.lt k hk).1; show w.heap.size + 1 < k; omega))
              refine hK.out _ _ ?_ (fun hHeld => ?_)
              · exact OX.out
              clear hK K hown hgrow TT OC hrow
              try simp only [Act.put, sA, sB, sC]
              refine tkA 26 ?_
              try simp only [Act.put, sA, sB, sC]
              have t5 : w5.cell? ⟨T, 16, none⟩ = some stk := T5.out.cell 16
              have tf : ∀ j, w5.frozen? ⟨T, j, none⟩ = false := fun j => T5.out.free j
              have tR : T < w5.heap.size := T5.out.lt
              refine rdA 27 (fun K hK => ?_)
              go_simp
              have OZ : Hid (Off (fun b => w.heap.size + 1 < b) D (w5.setCell ⟨T, 16, none⟩ (.slice (some ⟨x1, 0, none⟩) (l.length + 1) x2))) := OX.out.setCell (.inl HD.out.lt) _
              refine hK.out _ _ ?_ (fun hHeld => ?_)
              · exact OZ.out
              clear hK K
              try simp only [Act.put, sA, sB, sC]
              clear t5 tf tR T5 OX OZ
              generalize w5.setCell ⟨T, 16, none⟩ (.slice (some ⟨x1, 0, none⟩) (l.length + 1) x2) = Z at HN ⊢
              refine wpAnyH_done (by kernel_rfl) ?_ _
              go_wp2_with fail
              go_roundw
              case rel => first | exact ⟨k + 1, l ++ [⟨a0 % 5, a1 % 6, a2 % 8⟩], _, by go_num, by omega, by omega, Lib.hid (by simp [hl.out]), HN⟩ | exact ⟨k + 1, by go_num, by omega, by omega, l ++ [⟨a0 % 5, a1 % 6, a2 % 8⟩], _, Lib.hid (by simp [hl.out]), HN⟩
              case measure => simp [intOf]; omega
            · go_simp
              refine (within16 _ _ (by decide) (by decide) _).mono ?_
              rintro e w2 ⟨rfl, hw2⟩
              subst hw2
              dsimp only
              refine hK.out _ _ ?_ (fun hHeld => ?_)
              · exact OC.out
              clear hK K
              try simp only [Act.put, sA, sB, sC]
              refine rdB 1 15 (fun K hK => ?_) (fun K hK => ?_)
              · have tc : D.cell? ⟨T, 16, none⟩ = some stk := (show stAt D T s stk from TT.out).cell 16
                go_simp
                clear tc
                refine hK.out _ _ ?_ (fun hHeld => ?_)
                · exact OC.out
                clear hK K
                try simp only [Act.put, sA, sB, sC]
                refine rdA 15 (fun K hK => ?_)
                go_simp
                refine (within16 _ _ (by decide) (by decide) _).mono ?_
                rintro e w2 ⟨rfl, hw2⟩
                subst hw2
                dsimp only
                refine hK.out _ _ ?_ (fun hHeld => ?_)
                · exact OC.out
                clear hK K
                try simp only [Act.put, sA, sB, sC]
                refine rdA 22 (fun K hK => ?_)
                go_simp
                refine (within16 _ _ (by decide) (by decide) _).mono ?_
                rintro e w2 ⟨rfl, hw2⟩
                subst hw2
                dsimp only
                refine hK.out _ _ ?_ (fun hHeld => ?_)
                · exact OC.out
                clear hK K
                try simp only [Act.put, sA, sB, sC]
                refine tkA 23 ?_
                try simp only [Act.put, sA, sB, sC]
                refine rdA 24 (fun K hK => ?_)
                go_simp
                have OX : Hid (Off (fun b => w.heap.size + 1 < b) D (D.alloc (.cells #[.int .i64 (a0 % 5), .int .i64 (a1 % 6), .int .i64 (a2 % 8)] 79))) := OC.out.alloc _
                refine hK.out _ _ ?_ (fun hHeld => ?_)
                · exact OX.out
                clear hK K
                try simp only [Act.put, sA, sB, sC]
                replace TT : Hid (stAt (D.alloc (.cells #[.int .i64 (a0 % 5), .int .i64 (a1 % 6), .int .i64 (a2 % 8)] 79)) T s stk) := Off.keeps (ex := fun _ => False) ((Off.refl _ _).alloc (.cells #[.int .i64 (a0 % 5), .int .i64 (a1 % 6), .int .i64 (a2 % 8)] 79)) HD.out.st id
                have hrow : Hid ((D.alloc (.cells #[.int .i64 (a0 % 5), .int .i64 (a1 % 6), .int .i64 (a2 % 8)] 79)).ownsRow (w.heap.size + 2) 79 3 stk l.length (frC l)) := Off.row (ex := fun _ => False) ((Off.refl _ _).alloc (.cells #[.int .i64 (a0 % 5), .int .i64 (a1 % 6), .int .i64 (a2 % 8)] 79)) HD.out.row (fun _ h => h.elim)
                replace OC := OX
                clear OX
                refine rdA 25 (fun K hK => ?_)
                rw [if_pos (by rfl)]
                refine wp_append_own _ (.tmp 56) (.tmp 79) 26 rfl (w.heap.size + 2) 79 iF (.agg #[.int .i64 0, .int .i64 0, .int .i64 0]) 3 24 A.underF hiF hz0 hz1 hz2 rfl (by decide) stk l.length (frC l) rfl hrow.out ⟨D.heap.size, 0, none⟩ 1 1 [.int .i64 (a0 % 5), .int .i64 (a1 % 6), .int .i64 (a2 % 8)] rfl rfl (fun j u hj => (by rw [← hj]; simp [Addr.add_mk0])) (by intro u hu; simp only [List.mem_cons, List.not_mem_nil, or_false] at hu; rcases hu with rfl | rfl | rfl <;> rfl) (by have := hl.out; unfold maxLen; omega) (by have := hl.out; omega) (by have h1 := HD.out.rs.lt; simp; omega) ?_
                intro v' w5 hown hgrow _
                obtain ⟨x1, x2, x3⟩ := row_some hown (by omega)
                subst x3
                have HN := Lib.hid (HD.out.snoc hrow.out hown hgrow (goodfr a0 a1 a2))
                have T5 : Hid (stAt w5 T s stk) := Lib.hid (BegR.keepT HD.out hrow.out hgrow)
                have OX : Hid (Off (fun b => w.heap.size + 1 < b) D w5) := OC.out.grown hgrow (fun k hk => .inl (by have h1 := (hrow.out.lt k hk).1; show w.heap.size + 1 < k; omega))
                refine hK.out _ _ ?_ (fun hHeld => ?_)
                · exact OX.out
                clear hK K hown hgrow TT OC hrow
                try simp only [Act.put, sA, sB, sC]
                refine tkA 26 ?_
                try simp only [Act.put, sA, sB, sC]
                have t5 : w5.cell? ⟨T, 16, none⟩ = some stk := T5.out.cell 16
                have tf : ∀ j, w5.frozen? ⟨T, j, none⟩ = false := fun j => T5.out.free j
                have tR : T < w5.heap.size := T5.out.lt
                refine rdA 27 (fun K hK => ?_)
                go_simp
                have OZ : Hid (Off (fun b => w.heap.size + 1 < b) D (w5.setCell ⟨T, 16, none⟩ (.slice (some ⟨x1, 0, none⟩) (l.length + 1) x2))) := OX.out.setCell (.inl HD.out.lt) _
                refine hK.out _ _ ?_ (fun hHeld => ?_)
                · exact OZ.out
                clear hK K
                try simp only [Act.put, sA, sB, sC]
                clear t5 tf tR T5 OX OZ
                generalize w5.setCell ⟨T, 16, none⟩ (.slice (some ⟨x1, 0, none⟩) (l.length + 1) x2) = Z at HN ⊢
                refine wpAnyH_done (by kernel_rfl) ?_ _
                go_wp2_with fail
                go_roundw
                case rel => first | exact ⟨k + 1, l ++ [⟨a0 % 5, a1 % 6, a2 % 8⟩], _, by go_num, by omega, by omega, Lib.hid (by simp [hl.out]), HN⟩ | exact ⟨k + 1, by go_num, by omega, by omega, l ++ [⟨a0 % 5, a1 % 6, a2 % 8⟩], _, Lib.hid (by simp [hl.out]), HN⟩
                case measure => simp [intOf]; omega
              · go_simp
                refine (within16 _ _ (by decide) (by decide) _).mono ?_
                rintro e w2 ⟨rfl, hw2⟩
                subst hw2
                dsimp only
                refine hK.out _ _ ?_ (fun hHeld => ?_)
                · exact OC.out
                clear hK K
                try simp only [Act.put, sA, sB, sC]
                refine rdB 1 22 (fun K hK => ?_) (fun K hK => ?_)
                · have tc : D.cell? ⟨T, 16, none⟩ = some stk := (show stAt D T s stk from TT.out).cell 16
                  go_simp
                  clear tc
                  refine hK.out _ _ ?_ (fun hHeld => ?_)
                  · exact OC.out
                  clear hK K
                  try simp only [Act.put, sA, sB, sC]
                  refine rdA 22 (fun K hK => ?_)
                  go_simp
                  refine (within16 _ _ (by decide) (by decide) _).mono ?_
                  rintro e w2 ⟨rfl, hw2⟩
                  subst hw2
                  dsimp only
                  refine hK.out _ _ ?_ (fun hHeld => ?_)
                  · exact OC.out
                  clear hK K
                  try simp only [Act.put, sA, sB, sC]
                  refine tkA 23 ?_
                  try simp only [Act.put, sA, sB, sC]
                  refine rdA 24 (fun K hK => ?_)
                  go_simp
                  have OX : Hid (Off (fun b => w.heap.size + 1 < b) D (D.alloc (.cells #[.int .i64 (a0 % 5), .int .i64 (a1 % 6), .int .i64 (a2 % 8)] 79))) := OC.out.alloc _
                  refine hK.out _ _ ?_ (fun hHeld => ?_)
                  · exact OX.out
                  clear hK K
                  try simp only [Act.put, sA, sB, sC]
                  replace TT : Hid (stAt (D.alloc (.cells #[.int .i64 (a0 % 5), .int .i64 (a1 % 6), .int .i64 (a2 % 8)] 79)) T s stk) := Off.keeps (ex := fun _ => False) ((Off.refl _ _).alloc (.cells #[.int .i64 (a0 % 5), .int .i64 (a1 % 6), .int .i64 (a2 % 8)] 79)) HD.out.st id
                  have hrow : Hid ((D.alloc (.cells #[.int .i64 (a0 % 5), .int .i64 (a1 % 6), .int .i64 (a2 % 8)] 79)).ownsRow (w.heap.size + 2) 79 3 stk l.length (frC l)) := Off.row (ex := fun _ => False) ((Off.refl _ _).alloc (.cells #[.int .i64 (a0 % 5), .int .i64 (a1 % 6), .int .i64 (a2 % 8)] 79)) HD.out.row (fun _ h => h.elim)
                  replace OC := OX
                  clear OX
                  refine rdA 25 (fun K hK => ?_)
                  rw [if_pos (by rfl)]
                  refine wp_append_own _ (.tmp 56) (.tmp 79) 26 rfl (w.heap.size + 2) 79 iF (.agg #[.int .i64 0, .int .i64 0, .int .i64 0]) 3 24 A.underF hiF hz0 hz1 hz2 rfl (by decide) stk l.length (frC l) rfl hrow.out ⟨D.heap.size, 0, none⟩ 1 1 [.int .i64 (a0 % 5), .int .i64 (a1 % 6), .int .i64 (a2 % 8)] rfl rfl (fun j u hj => (by rw [← hj]; simp [Addr.add_mk0])) (by intro u hu; simp only [List.mem_cons, List.not_mem_nil, or_false] at hu; rcases hu with rfl | rfl | rfl <;> rfl) (by have := hl.out; unfold maxLen; omega) (by have := hl.out; omega) (by have h1 := HD.out.rs.lt; simp; omega) ?_
                  intro v' w5 hown hgrow _
                  obtain ⟨x1, x2, x3⟩ := row_some hown (by omega)
                  subst x3
                  have HN := Lib.hid (HD.out.snoc hrow.out hown hgrow (goodfr a0 a1 a2))
                  have T5 : Hid (stAt w5 T s stk) := Lib.hid (BegR.keepT HD.out hrow.out hgrow)
                  have OX : Hid (Off (fun b => w.heap.size + 1 < b) D w5) := OC.out.grown hgrow (fun k hk => .inl (by have h1 := (hrow.out.lt k hk).1; show w.heap.size + 1 < k; omega))
                  refine hK.out _ _ ?_ (fun hHeld => ?_)
                  · exact OX.out
                  clear hK K hown hgrow TT OC hrow
                  try simp only [Act.put, sA, sB, sC]
                  refine tkA 26 ?_
                  try simp only [Act.put, sA, sB, sC]
                  have t5 : w5.cell? ⟨T, 16, none⟩ = some stk := T5.out.cell 16
                  have tf : ∀ j, w5.frozen? ⟨T, j, none⟩ = false := fun j => T5.out.free j
                  have tR : T < w5.heap.size := T5.out.lt
                  refine rdA 27 (fun K hK => ?_)
                  go_simp
                  have OZ : Hid (Off (fun b => w.heap.size + 1 < b) D (w5.setCell ⟨T, 16, none⟩ (.slice (some ⟨x1, 0, none⟩) (l.length + 1) x2))) := OX.out.setCell (.inl HD.out.lt) _
                  refine hK.out _ _ ?_ (fun hHeld => ?_)
                  · exact OZ.out
                  clear hK K
                  try simp only [Act.put, sA, sB, sC]
                  clear t5 tf tR T5 OX OZ
                  generalize w5.setCell ⟨T, 16, none⟩ (.slice (some ⟨x1, 0, none⟩) (l.length + 1) x2) = Z at HN ⊢
                  refine wpAnyH_done (by kernel_rfl) ?_ _
                  go_wp2_with fail
                  go_roundw
                  case rel => first | exact ⟨k + 1, l ++ [⟨a0 % 5, a1 % 6, a2 % 8⟩], _, by go_num, by omega, by omega, Lib.hid (by simp [hl.out]), HN⟩ | exact ⟨k + 1, by go_num, by omega, by omega, l ++ [⟨a0 % 5, a1 % 6, a2 % 8⟩], _, Lib.hid (by simp [hl.out]), HN⟩
                  case measure => simp [intOf]; omega
                · go_simp
                  refine (within16 _ _ (by decide) (by decide) _).mono ?_
                  rintro e w2 ⟨rfl, hw2⟩
                  subst hw2
                  dsimp only
                  refine hK.out _ _ ?_ (fun hHeld => ?_)
                  · exact OC.out
                  clear hK K
                  try simp only [Act.put, sA, sB, sC]
                  refine tkA 23 ?_
                  try simp only [Act.put, sA, sB, sC]
                  refine rdB 1 24 (fun K hK => ?_) (fun K hK => ?_)
                  · have tc : D.cell? ⟨T, 16, none⟩ = some stk := (show stAt D T s stk from TT.out).cell 16
                    go_simp
                    clear tc
                    refine hK.out _ _ ?_ (fun hHeld => ?_)
                    · exact OC.out
                    clear hK K
                    try simp only [Act.put, sA, sB, sC]
                    refine rdA 24 (fun K hK => ?_)
                    go_simp
                    have OX : Hid (Off (fun b => w.heap.size + 1 < b) D (D.alloc (.cells #[.int .i64 (a0 % 5), .int .i64 (a1 % 6), .int .i64 (a2 % 8)] 79))) := OC.out.alloc _
                    refine hK.out _ _ ?_ (fun hHeld => ?_)
                    · exact OX.out
                    clear hK K
                    try simp only [Act.put, sA, sB, sC]
                    replace TT : Hid (stAt (D.alloc (.cells #[.int .i64 (a0 % 5), .int .i64 (a1 % 6), .int .i64 (a2 % 8)] 79)) T s stk) := Off.keeps (ex := fun _ => False) ((Off.refl _ _).alloc (.cells #[.int .i64 (a0 % 5), .int .i64 (a1 % 6), .int .i64 (a2 % 8)] 79)) HD.out.st id
                    have hrow : Hid ((D.alloc (.cells #[.int .i64 (a0 % 5), .int .i64 (a1 % 6), .int .i64 (a2 % 8)] 79)).ownsRow (w.heap.size + 2) 79 3 stk l.length (frC l)) := Off.row (ex := fun _ => False) ((Off.refl _ _).alloc (.cells #[.int .i64 (a0 % 5), .int .i64 (a1 % 6), .int .i64 (a2 % 8)] 79)) HD.out.row (fun _ h => h.elim)
                    replace OC := OX
                    clear OX
                    refine rdA 25 (fun K hK => ?_)
                    rw [if_pos (by rfl)]
                    refine wp_append_own _ (.tmp 56) (.tmp 79) 26 rfl (w.heap.size + 2) 79 iF (.agg #[.int .i64 0, .int .i64 0, .int .i64 0]) 3 24 A.underF hiF hz0 hz1 hz2 rfl (by decide) stk l.length (frC l) rfl hrow.out ⟨D.heap.size, 0, none⟩ 1 1 [.int .i64 (a0 % 5), .int .i64 (a1 % 6), .int .i64 (a2 % 8)] rfl rfl (fun j u hj => (by rw [← hj]; simp [Addr.add_mk0])) (by intro u hu; simp only [List.mem_cons, List.not_mem_nil, or_false] at hu; rcases hu with rfl | rfl | rfl <;> rfl) (by have := hl.out; unfold maxLen; omega) (by have := hl.out; omega) (by have h1 := HD.out.rs.lt; simp; omega) ?_
                    intro v' w5 hown hgrow _
                    obtain ⟨x1, x2, x3⟩ := row_some hown (by omega)
                    subst x3
                    have HN := Lib.hid (HD.out.snoc hrow.out hown hgrow (goodfr a0 a1 a2))
                    have T5 : Hid (stAt w5 T s stk) := Lib.hid (BegR.keepT HD.out hrow.out hgrow)
                    have OX : Hid (Off (fun b => w.heap.size + 1 < b) D w5) := OC.out.grown hgrow (fun k hk => .inl (by have h1 := (hrow.out.lt k hk).1; show w.heap.size + 1 < k; omega))
                    refine hK.out _ _ ?_ (fun hHeld => ?_)
                    · exact OX.out
                    clear hK K hown hgrow TT OC hrow
                    try simp only [Act.put, sA, sB, sC]
                    refine tkA 26 ?_
                    try simp only [Act.put, sA, sB, sC]
                    have t5 : w5.cell? ⟨T, 16, none⟩ = some stk := T5.out.cell 16
                    have tf : ∀ j, w5.frozen? ⟨T, j, none⟩ = false := fun j => T5.out.free j
                    have tR : T < w5.heap.size := T5.out.lt
                    refine rdA 27 (fun K hK => ?_)
                    go_simp
                    have OZ : Hid (Off (fun b => w.heap.size + 1 < b) D (w5.setCell ⟨T, 16, none⟩ (.slice (some ⟨x1, 0, none⟩) (l.length + 1) x2))) := OX.out.setCell (.inl HD.out.lt) _
                    refine hK.out _ _ ?_ (fun hHeld => ?_)
                    · exact OZ.out
                    clear hK K
                    try simp only [Act.put, sA, sB, sC]
                    clear t5 tf tR T5 OX OZ
                    generalize w5.setCell ⟨T, 16, none⟩ (.slice (some ⟨x1, 0, none⟩) (l.length + 1) x2) = Z at HN ⊢
                    refine wpAnyH_done (by kernel_rfl) ?_ _
                    go_wp2_with fail
                    go_roundw
                    case rel => first | exact ⟨k + 1, l ++ [⟨a0 % 5, a1 % 6, a2 % 8⟩], _, by go_num, by omega, by omega, Lib.hid (by simp [hl.out]), HN⟩ | exact ⟨k + 1, by go_num, by omega, by omega, l ++ [⟨a0 % 5, a1 % 6, a2 % 8⟩], _, Lib.hid (by simp [hl.out]), HN⟩
                    case measure => simp [intOf]; omega
                  · go_simp
                    have OX : Hid (Off (fun b => w.heap.size + 1 < b) D (D.alloc (.cells #[.int .i64 (a0 % 5), .int .i64 (a1 % 6), .int .i64 (a2 % 8)] 79))) := OC.out.alloc _
                    refine hK.out _ _ ?_ (fun hHeld => ?_)
                    · exact OX.out
                    clear hK K
                    try simp only [Act.put, sA, sB, sC]
                    replace TT : Hid (stAt (D.alloc (.cells #[.int .i64 (a0 % 5), .int .i64 (a1 % 6), .int .i64 (a2 % 8)] 79)) T s stk) := Off.keeps (ex := fun _ => False) ((Off.refl _ _).alloc (.cells #[.int .i64 (a0 % 5), .int .i64 (a1 % 6), .int .i64 (a2 % 8)] 79)) HD.out.st id
                    have hrow : Hid ((D.alloc (.cells #[.int .i64 (a0 % 5), .int .i64 (a1 % 6), .int .i64 (a2 % 8)] 79)).ownsRow (w.heap.size + 2) 79 3 stk l.length (frC l)) := Off.row (ex := fun _ => False) ((Off.refl _ _).alloc (.cells #[.int .i64 (a0 % 5), .int .i64 (a1 % 6), .int .i64 (a2 % 8)] 79)) HD.out.row (fun _ h => h.elim)
                    replace OC := OX
                    clear OX
                    refine rdA 1 (fun K hK => ?_)
                    have tc : (D.alloc (.cells #[.int .i64 (a0 % 5), .int .i64 (a1 % 6), .int .i64 (a2 % 8)] 79)).cell? ⟨T, 16, none⟩ = some stk := (show stAt (D.alloc (.cells #[.int .i64 (a0 % 5), .int .i64 (a1 % 6), .int .i64 (a2 % 8)] 79)) T s stk from TT.out).cell 16
                    go_simp
                    clear tc
                    refine hK.out _ _ ?_ (fun hHeld => ?_)
                    · exact OC.out
                    clear hK K
                    try simp only [Act.put, sA, sB, sC]
                    refine rdA 25 (fun K hK => ?_)
                    rw [if_pos (by rfl)]
                    refine wp_append_own _ (.tmp 56) (.tmp 79) 26 rfl (w.heap.size + 2) 79 iF (.agg #[.int .i64 0, .int .i64 0, .int .i64 0]) 3 24 A.underF hiF hz0 hz1 hz2 rfl (by decide) stk l.length (frC l) rfl hrow.out ⟨D.heap.size, 0, none⟩ 1 1 [.int .i64 (a0 % 5), .int .i64 (a1 % 6), .int .i64 (a2 % 8)] rfl rfl (fun j u hj => (by rw [← hj]; simp [Addr.add_mk0])) (by intro u hu; simp only [List.mem_cons, List.not_mem_nil, or_false] at hu; rcases hu with rfl | rfl | rfl <;> rfl) (by have := hl.out; unfold maxLen; omega) (by have := hl.out; omega) (by have h1 := HD.out.rs.lt; simp; omega) ?_
                    intro v' w5 hown hgrow _
                    obtain ⟨x1, x2, x3⟩ := row_some hown (by omega)
                    subst x3
                    have HN := Lib.hid (HD.out.snoc hrow.out hown hgrow (goodfr a0 a1 a2))
                    have T5 : Hid (stAt w5 T s stk) := Lib.hid (BegR.keepT HD.out hrow.out hgrow)
                    have OX : Hid (Off (fun b => w.heap.size + 1 < b) D w5) := OC.out.grown hgrow (fun k hk => .inl (by have h1 := (hrow.out.lt k hk).1; show w.heap.size + 1 < k; omega))
                    refine hK.out _ _ ?_ (fun hHeld => ?_)
                    · exact OX.out
                    clear hK K hown hgrow TT OC hrow
                    try simp only [Act.put, sA, sB, sC]
                    refine tkA 26 ?_
                    try simp only [Act.put, sA, sB, sC]
                    have t5 : w5.cell? ⟨T, 16, none⟩ = some stk := T5.out.cell 16
                    have tf : ∀ j, w5.frozen? ⟨T, j, none⟩ = false := fun j => T5.out.free j
                    have tR : T < w5.heap.size := T5.out.lt
                    refine rdA 27 (fun K hK => ?_)
                    go_simp
                    have OZ : Hid (Off (fun b => w.heap.size + 1 < b) D (w5.setCell ⟨T, 16, none⟩ (.slice (some ⟨x1, 0, none⟩) (l.length + 1) x2))) := OX.out.setCell (.inl HD.out.lt) _
                    refine hK.out _ _ ?_ (fun hHeld => ?_)
                    · exact OZ.out
                    clear hK K
                    try simp only [Act.put, sA, sB, sC]
                    clear t5 tf tR T5 OX OZ
                    generalize w5.setCell ⟨T, 16, none⟩ (.slice (some ⟨x1, 0, none⟩) (l.length + 1) x2) = Z at HN ⊢
                    refine wpAnyH_done (by kernel_rfl) ?_ _
                    go_wp2_with fail
                    go_roundw
                    case rel => first | exact ⟨k + 1, l ++ [⟨a0 % 5, a1 % 6, a2 % 8⟩], _, by go_num, by omega, by omega, Lib.hid (by simp [hl.out]), HN⟩ | exact ⟨k + 1, by go_num, by omega, by omega, l ++ [⟨a0 % 5, a1 % 6, a2 % 8⟩], _, Lib.hid (by simp [hl.out]), HN⟩
                    case measure => simp [intOf]; omega
          · by_cases hk1 : k < nf
            · have hk2 : ¬ (k : Int) < 8 := by omega
              go_wp2_with (first | ((with_reducible refine wpList_load_st (op := ⟨some 82, .load 33 (.tmp 3), _, _, _, _⟩) (N := T) (s := s) (stk := stk) ?_ (.tmp 3) ?_ ?_ ?_ ?_); exact rfl; exact rfl; exact rfl; exact st_range HR.out.st) | ((with_reducible refine wpList_store_st (op := ⟨none, .store 33 (.tmp 2) (.tmp 82), _, _, _, _⟩) (N := (w.heap.size + 1)) (s := St.zero) (stk := (.slice none 0 0)) (s' := s) (stk' := stk) ?_ (.tmp 2) (.tmp 82) ?_ ?_ ?_ ?_ ?_ ?_); exact rfl; exact rfl; exact rfl; exact rfl; exact HR.out.rs; exact hone.out; intro w7 S7 F7; have F7 := Lib.hid F7; have S7 := Lib.hid S7))
              have ho : Off (· = w.heap.size + 1) wr w7 := F7.out
              refine bodyPost_ret (beg_results S7.out _ rfl) rfl ?_
              first | exact ⟨s, stk, l, rfl, row_base (Off.row ho HR.out.row (st_not6 HR.out.rs _ (by decide))) (Nat.zero_le _), by rw [hl.out]; exact hk8, HR.out.good, HR.out.fr, HR.out.ha, Off.below HR.out.bl ho HR.out.bl.size (fun j hj => by omega)⟩ | exact ⟨s, stk, rfl, l, row_base (Off.row ho HR.out.row (st_not6 HR.out.rs _ (by decide))) (Nat.zero_le _), by rw [hl.out]; exact hk8, HR.out.good, HR.out.fr, HR.out.ha, Off.below HR.out.bl ho HR.out.bl.size (fun j hj => by omega)⟩
            · have hq : 0 ≤ 0 := Nat.le_refl _
              go_wp2_with (first | ((with_reducible refine wpList_load_st (op := ⟨some 82, .load 33 (.tmp 3), _, _, _, _⟩) (N := T) (s := s) (stk := stk) ?_ (.tmp 3) ?_ ?_ ?_ ?_); exact rfl; exact rfl; exact rfl; exact st_range HR.out.st) | ((with_reducible refine wpList_store_st (op := ⟨none, .store 33 (.tmp 2) (.tmp 82), _, _, _, _⟩) (N := (w.heap.size + 1)) (s := St.zero) (stk := (.slice none 0 0)) (s' := s) (stk' := stk) ?_ (.tmp 2) (.tmp 82) ?_ ?_ ?_ ?_ ?_ ?_); exact rfl; exact rfl; exact rfl; exact rfl; exact HR.out.rs; exact hone.out; intro w7 S7 F7; have F7 := Lib.hid F7; have S7 := Lib.hid S7))
              have ho : Off (· = w.heap.size + 1) wr w7 := F7.out
              refine bodyPost_ret (beg_results S7.out _ rfl) rfl ?_
              first | exact ⟨s, stk, l, rfl, row_base (Off.row ho HR.out.row (st_not6 HR.out.rs _ (by decide))) (Nat.zero_le _), by rw [hl.out]; exact hk8, HR.out.good, HR.out.fr, HR.out.ha, Off.below HR.out.bl ho HR.out.bl.size (fun j hj => by omega)⟩ | exact ⟨s, stk, rfl, l, row_base (Off.row ho HR.out.row (st_not6 HR.out.rs _ (by decide))) (Nat.zero_le _), by rw [hl.out]; exact hk8, HR.out.good, HR.out.fr, HR.out.ha, Off.below HR.out.bl ho HR.out.bl.size (fun j hj => by omega)⟩
end Go.Proofs.Ytiakonmamkfopaa
