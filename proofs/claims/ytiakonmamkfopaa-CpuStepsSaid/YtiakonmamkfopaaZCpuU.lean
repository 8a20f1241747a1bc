/- Instructions as words; a processor that begins. -/
import Derived.Test.YtiakonmamkfopaaZCpuT
import Derived.LoopN
namespace Go.Proofs.Ytiakonmamkfopaa
open Go.RowKit Go.ChangeShapes
set_option linter.unusedVariables false
set_option maxRecDepth 100000
theorem encI_dec (op p n : Int) (h0 : 0 ≤ op) (h1 : op < 23) (h2 : 0 ≤ p) (h3 : p < 4) (h4 : -2147483648 ≤ n) (h5 : n ≤ 2147483647) : dOp (encI op p n) = op ∧ dP (encI op p n) = p ∧ dN (encI op p n) = n ∧ decE (encI op p n) = 0 := by
  have e1 : dOp (encI op p n) = op := by unfold dOp uw encI; omega
  have e2 : dP (encI op p n) = p := by unfold dP uw encI; omega
  have e3 : dMid (encI op p n) = 0 := by unfold dMid uw encI; omega
  have e4 : dN (encI op p n) = n := by unfold dN uw encI; split <;> omega
  refine ⟨e1, e2, e4, ?_⟩
  unfold decE
  rw [e1, e2, e3, if_neg (by omega), if_neg (by omega), if_neg (by omega)]
theorem r_Encode (op p n : Int) (h0 : 0 ≤ op) (h1 : op < 23) (h2 : 0 ≤ p) (h3 : p < 4) (h4 : -2147483648 ≤ n) (h5 : n ≤ 2147483647) (w : World) : Calls Try.prog 36 #[.agg #[.int .i64 op, .int .i64 p, .int .i64 n]] w fun x w' => x = .returned (.tuple #[.int .i64 (encI op p n), .int .i64 0]) ∧ Below w.heap.size w w' := by
  have n0 : ¬ op < 0 := by omega
  have n1 : ¬ 22 < op := by omega
  have n2 : ¬ p < 0 := by omega
  have n3 : ¬ 3 < p := by omega
  have n4 : ¬ n < -2147483648 := by omega
  have n5 : ¬ 2147483647 < n := by omega
  have f0 : bits .or .i64 (bits .or .i64 (op * 72057594037927936) (p * 281474976710656)) (n % 4294967296) = encI op p n := by
    have e3 := i64_join 56 (op * 72057594037927936) (p * 281474976710656) (by omega) (by omega) (by omega) (by omega) (by omega) (by decide)
    rw [e3, i64_join 32 _ _ (by omega) (by omega) (by omega) (by omega) (by omega) (by decide)]
    rfl
  clear h0 h1 h2 h3 h4 h5
  go_enter Try.func36, Try.ntmps36
  go_wp2
  exact bodyPost_ret (v := .tuple #[.int .i64 (encI op p n), .int .i64 0]) (by simp [results, Try.results36, go_sem]) rfl ⟨rfl, below_al0 w _⟩
/-- a processor that has just begun -/
def St.new : St := ⟨0, 0, 4, 0, ⟨0, 0, 4⟩, ⟨1, 0, 4⟩, ⟨2, 0, 4⟩, ⟨3, 0, 4⟩, false⟩
theorem st3 {w : World} {R : Nat} {s : St} {stk : Value} (h : stAt w R s stk) (o : Nat) (a b c : Value) : (((w.setCell ⟨R, o, none⟩ a).setCell ⟨R, o + 1, none⟩ b).setCell ⟨R, o + 2, none⟩ c).heap[R]? = some (.cells ((((stC s stk).setIfInBounds o a).setIfInBounds (o + 1) b).setIfInBounds (o + 2) c) 33 (0, 0)) := by
  simp [World.setCell, Array.getElem?_modify, show w.heap[R]? = _ from h]
theorem new_start (w : World) : ∃ W, (w.alloc (.cells (stC St.zero (.slice none 0 0)) 33)).alloc (.cells (stC St.zero (.slice none 0 0)) 33) = W ∧ stAt W w.heap.size St.zero (.slice none 0 0) ∧ stAt W (w.heap.size + 1) St.zero (.slice none 0 0) ∧ Below w.heap.size w W := by
  refine ⟨_, rfl, ?_, ?_, below_al (below_al0 _ _) _⟩
  · exact Off.keeps (ex := fun _ => False) ((Off.refl _ _).alloc _) (heap_alloc_new w (.cells (stC St.zero (.slice none 0 0)) 33)) id
  · have h0 := heap_alloc_new (w.alloc (.cells (stC St.zero (.slice none 0 0)) 33)) (.cells (stC St.zero (.slice none 0 0)) 33)
    rw [World.size_alloc] at h0
    exact h0
theorem new_results {W : World} {N : Nat} {s : St} {stk : Value} (h : stAt W N s stk) (tmps : Array Value) (h4 : tmps[0]? = some (.pointer (some ⟨N, 0, none⟩))) :
    (results Try.f17 tmps).run Try.prog W = .ok (stV s stk) W := by
  have l0 := range_loadVar (st_range h)
  simp [results, Try.results17, h4, l0, asAddr]
set_option maxHeartbeats 1000000 in
theorem c_New (w : World) : Calls Try.prog 17 #[] w fun x w' => x = .returned (stV St.new (.slice none 0 0)) ∧ Below w.heap.size w w' := by
  obtain ⟨W1, hW1, S0, S1, HB⟩ := new_start w
  have hW1 := Lib.hid hW1
  have S0 := Lib.hid S0
  have S1 := Lib.hid S1
  have HB := Lib.hid HB
  go_enter Try.func17, Try.ntmps17
  go_wp2_with (first | (refine wpList_store_st (s' := { St.zero with ring := 4 }) (stk' := .slice none 0 0) rfl (.tmp 1) (.tmp 3) rfl rfl rfl (show stAt _ (w.heap.size + 1) _ _ from hW1.out ▸ S1.out) rfl ?_; intro W2 S2 F2; have F2 := Lib.hid F2; have S2 := Lib.hid S2))
  have T2 : Hid (stAt W2 w.heap.size St.zero (.slice none 0 0)) := F2.out.keeps (show _ from hW1.out ▸ S0.out) (by omega)
  have H2 : Hid (Below w.heap.size w W2) := Off.below (show Below w.heap.size w _ from hW1.out ▸ HB.out) F2.out (show _ from hW1.out ▸ HB.out.size) (fun k hk => by omega)
  clear S0 S1 HB hW1 F2
  refine wp_loop_rounds 5 ?_
  have c0 : W2.cell? ⟨w.heap.size + 1, 4, none⟩ = some (.int .i64 0) := S2.out.cell 4
  have c1 : W2.cell? ⟨w.heap.size + 1, 5, none⟩ = some (.int .i64 0) := S2.out.cell 5
  have c2 : W2.cell? ⟨w.heap.size + 1, 6, none⟩ = some (.int .i64 0) := S2.out.cell 6
  have cf : ∀ j, W2.frozen? ⟨w.heap.size + 1, j, none⟩ = false := fun j => S2.out.free j
  rw [rounds_succ]
  go_wp2_with fail
  clear c0 c1 c2 cf
  obtain ⟨W3, hV, S3, F⟩ : ∃ V, (((W2.setCell ⟨w.heap.size + 1, 4, none⟩ (.int .i64 0)).setCell ⟨w.heap.size + 1, 5, none⟩ (.int .i64 0)).setCell ⟨w.heap.size + 1, 6, none⟩ (.int .i64 4)) = V ∧ Hid (stAt V (w.heap.size + 1) { St.zero with ring := 4, p0 := ⟨0, 0, 4⟩ } (.slice none 0 0)) ∧ Hid (Off (· = w.heap.size + 1) W2 V) := ⟨_, rfl, st3 S2.out 4 _ _ _, off3P _ _ _ _ _ _ _ _⟩
  rw [hV]
  have T3 : Hid (stAt W3 w.heap.size St.zero (.slice none 0 0)) := F.out.keeps T2.out (by omega)
  have H3 : Hid (Below w.heap.size w W3) := Off.below H2.out F.out H2.out.size (fun k hk => by omega)
  clear hV F
  have c0 : W3.cell? ⟨w.heap.size + 1, 7, none⟩ = some (.int .i64 0) := S3.out.cell 7
  have c1 : W3.cell? ⟨w.heap.size + 1, 8, none⟩ = some (.int .i64 0) := S3.out.cell 8
  have c2 : W3.cell? ⟨w.heap.size + 1, 9, none⟩ = some (.int .i64 0) := S3.out.cell 9
  have cf : ∀ j, W3.frozen? ⟨w.heap.size + 1, j, none⟩ = false := fun j => S3.out.free j
  rw [rounds_succ]
  go_wp2_with fail
  clear c0 c1 c2 cf
  obtain ⟨W4, hV, S4, F⟩ : ∃ V, (((W3.setCell ⟨w.heap.size + 1, 7, none⟩ (.int .i64 1)).setCell ⟨w.heap.size + 1, 8, none⟩ (.int .i64 0)).setCell ⟨w.heap.size + 1, 9, none⟩ (.int .i64 4)) = V ∧ Hid (stAt V (w.heap.size + 1) { St.zero with ring := 4, p0 := ⟨0, 0, 4⟩, p1 := ⟨1, 0, 4⟩ } (.slice none 0 0)) ∧ Hid (Off (· = w.heap.size + 1) W3 V) := ⟨_, rfl, st3 S3.out 7 _ _ _, off3P _ _ _ _ _ _ _ _⟩
  rw [hV]
  have T4 : Hid (stAt W4 w.heap.size St.zero (.slice none 0 0)) := F.out.keeps T3.out (by omega)
  have H4 : Hid (Below w.heap.size w W4) := Off.below H3.out F.out H3.out.size (fun k hk => by omega)
  clear hV F
  have c0 : W4.cell? ⟨w.heap.size + 1, 10, none⟩ = some (.int .i64 0) := S4.out.cell 10
  have c1 : W4.cell? ⟨w.heap.size + 1, 11, none⟩ = some (.int .i64 0) := S4.out.cell 11
  have c2 : W4.cell? ⟨w.heap.size + 1, 12, none⟩ = some (.int .i64 0) := S4.out.cell 12
  have cf : ∀ j, W4.frozen? ⟨w.heap.size + 1, j, none⟩ = false := fun j => S4.out.free j
  rw [rounds_succ]
  go_wp2_with fail
  clear c0 c1 c2 cf
  obtain ⟨W5, hV, S5, F⟩ : ∃ V, (((W4.setCell ⟨w.heap.size + 1, 10, none⟩ (.int .i64 2)).setCell ⟨w.heap.size + 1, 11, none⟩ (.int .i64 0)).setCell ⟨w.heap.size + 1, 12, none⟩ (.int .i64 4)) = V ∧ Hid (stAt V (w.heap.size + 1) { St.zero with ring := 4, p0 := ⟨0, 0, 4⟩, p1 := ⟨1, 0, 4⟩, p2 := ⟨2, 0, 4⟩ } (.slice none 0 0)) ∧ Hid (Off (· = w.heap.size + 1) W4 V) := ⟨_, rfl, st3 S4.out 10 _ _ _, off3P _ _ _ _ _ _ _ _⟩
  rw [hV]
  have T5 : Hid (stAt W5 w.heap.size St.zero (.slice none 0 0)) := F.out.keeps T4.out (by omega)
  have H5 : Hid (Below w.heap.size w W5) := Off.below H4.out F.out H4.out.size (fun k hk => by omega)
  clear hV F
  have c0 : W5.cell? ⟨w.heap.size + 1, 13, none⟩ = some (.int .i64 0) := S5.out.cell 13
  have c1 : W5.cell? ⟨w.heap.size + 1, 14, none⟩ = some (.int .i64 0) := S5.out.cell 14
  have c2 : W5.cell? ⟨w.heap.size + 1, 15, none⟩ = some (.int .i64 0) := S5.out.cell 15
  have cf : ∀ j, W5.frozen? ⟨w.heap.size + 1, j, none⟩ = false := fun j => S5.out.free j
  rw [rounds_succ]
  go_wp2_with fail
  clear c0 c1 c2 cf
  obtain ⟨W6, hV, S6, F⟩ : ∃ V, (((W5.setCell ⟨w.heap.size + 1, 13, none⟩ (.int .i64 3)).setCell ⟨w.heap.size + 1, 14, none⟩ (.int .i64 0)).setCell ⟨w.heap.size + 1, 15, none⟩ (.int .i64 4)) = V ∧ Hid (stAt V (w.heap.size + 1) { St.zero with ring := 4, p0 := ⟨0, 0, 4⟩, p1 := ⟨1, 0, 4⟩, p2 := ⟨2, 0, 4⟩, p3 := ⟨3, 0, 4⟩ } (.slice none 0 0)) ∧ Hid (Off (· = w.heap.size + 1) W5 V) := ⟨_, rfl, st3 S5.out 13 _ _ _, off3P _ _ _ _ _ _ _ _⟩
  rw [hV]
  have T6 : Hid (stAt W6 w.heap.size St.zero (.slice none 0 0)) := F.out.keeps T5.out (by omega)
  have H6 : Hid (Below w.heap.size w W6) := Off.below H5.out F.out H5.out.size (fun k hk => by omega)
  clear hV F
  rw [rounds_succ]
  go_wp2_with (first | (refine wpList_load_st rfl (.tmp 1) rfl rfl (st_range S6.out) ?_) | (refine wpList_store_st rfl (.tmp 0) (.tmp 13) rfl rfl rfl T6.out rfl ?_; intro W7 S7 F7; have F7 := Lib.hid F7; have S7 := Lib.hid S7))
  exact bodyPost_ret (new_results S7.out _ rfl) rfl ⟨rfl, Off.below H6.out F7.out H6.out.size (fun k hk => by omega)⟩
theorem within16 (x n : Int) (h1 : 0 < n) (h2 : n ≤ 1073741824) (w : World) : Calls Try.prog 21 #[.int .i64 x, .int .i64 n] w fun e w' => e = .returned (.int .i64 (x % n)) ∧ w = w' := by
  have hz : (n == 0) = false := by simp; omega
  obtain ⟨f1, f2, f3, f4⟩ := tmod_facts x n h1
  obtain ⟨t, ht⟩ : ∃ t, x.tmod n = t := ⟨_, rfl⟩
  rw [ht] at f1 f2 f3 f4
  by_cases h : t < 0
  · have H := Lib.hid (f3 h)
    clear f3 f4
    go_enter Try.func21, Try.ntmps21
    go_wp2
    go_ret
    exact ⟨by rw [H.out]; rfl, rfl⟩
  · have H := Lib.hid (f4 (by omega))
    clear f3 f4
    go_enter Try.func21, Try.ntmps21
    go_wp2
    go_ret
    exact ⟨by rw [H.out]; rfl, rfl⟩
end Go.Proofs.Ytiakonmamkfopaa
