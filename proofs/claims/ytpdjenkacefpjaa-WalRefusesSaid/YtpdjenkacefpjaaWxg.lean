/- WalRefuses: the law's walk. -/
import Derived.Test.YtpdjenkacefpjaaWxc
namespace Go.Proofs.Ytpdjenkacefpjaa
open Go.RowKit Go.ChangeShapes
set_option linter.unusedVariables false
set_option maxRecDepth 100000

def b1 : Sec := zeros.set 0 1
theorem b1_len : b1.length = 128 := by unfold b1; rw [List.length_set]; exact zeros_len
theorem b1_bys : (bys zeros).set 0 (.int .u8 1) = bys b1 := by unfold b1 bys; rw [List.map_set]; rfl
def z129 : Sec := List.replicate 129 0
theorem A.mk129 (w : World) : (Instr.makeSlice 36 (.int .i64 129) (.int .i64 129)).run Try.prog w = .ok (.slice (some ⟨w.heap.size, 0, none⟩) 129 129) (w.alloc (.cells (bys z129).toArray 5)) := by kernel_rfl
theorem bt_takeN {X : World} {a : Addr} {c nb : Nat} {b : Sec} (h : BtAt X (.slice (some a) 128 c) b) (hn : nb ≤ 128) : BtAt X (.slice (some a) nb c) (b.take nb) := by
  obtain ⟨ad, c', e, h1, h2, h3, h4⟩ := h
  injection e with e1 e2 e3
  subst e1 e3
  have hl : (b.take nb).length = nb := by rw [List.length_take]; omega
  refine ⟨_, _, by rw [hl], by omega, h2, h3, fun j x hj => ?_⟩
  have hj2 : j < nb := by have := (List.getElem?_eq_some_iff.1 hj).1; omega
  rw [List.getElem?_take_of_lt hj2] at hj
  exact h4 j x hj
theorem bt_made {X : World} {g : Nat} {b : Sec} (h : X.heap[g]? = some (.cells (bys b).toArray 5 (0, 0))) (hm : b.length ≤ maxLen) : BtAt X (.slice (some ⟨g, 0, none⟩) b.length b.length) b :=
  ⟨_, _, rfl, Nat.le_refl _, hm, fun e => (by cases e), fun j x hj => ⟨g, 0, rfl, by
    rw [Nat.zero_add, cell_of_row X g j _ _ _ h]
    simpa using bys_get hj⟩⟩
/-- two puts in a row of their own -/
theorem put_two {X : World} {F : Nat → Prop} {N : Nat} {n1 n2 : Int} {d1 d2 : Sec} {v1 v2 : Value} (h : X.heap[N]? = some (.cells #[.int .i64 n1, v1, .int .i64 n2, v2] 47 (0, 0))) (hF : ¬ F N) (h1 : PutD X F ((n1, d1), v1)) (h2 : PutD X F ((n2, d2), v2)) : PutAt X F (.slice (some ⟨N, 0, none⟩) 2 2) [(n1, d1), (n2, d2)] :=
  (show PutRow X 0 F (.slice (some ⟨N, 0, none⟩) 2 2) [((n1, d1), v1), ((n2, d2), v2)] from
    ⟨⟨rfl, .inr ⟨N, 2, _, rfl, Nat.zero_le _, h, Nat.le_refl _, by decide, rfl, rfl⟩⟩, fun e he => by
      simp at he
      rcases he with rfl | rfl
      · exact h1
      · exact h2⟩).at_ (fun g hg => by cases hg; exact hF)
theorem putD_of {X : World} {F : Nat → Prop} {n : Int} {b : Sec} {g l c : Nat} (hb : BtAt X (.slice (some ⟨g, 0, none⟩) l c) b) (hF : ¬ F g) (hg : g < X.heap.size) (hn : I64 n) (hl : b.length ≤ 140737488351232) : PutD X F ((n, b), .slice (some ⟨g, 0, none⟩) l c) :=
  ⟨hb, fun a n c e => by cases e; exact ⟨hF, hg⟩, hn, hl⟩
set_option maxHeartbeats 8000000 in
theorem law_WalRefuses (w : World) (kd : Int) (hkd : I64 kd) (n : Int) (hn : I64 n) : Calls Try.prog 4 #[.int .i64 kd, .int .i64 n] w fun e w' => e = .returned (.bool true) ∧ Below w.heap.size w w' := by
  have hmk := A.mk128
  have hmk9 := A.mk129
  obtain ⟨kz, hkk⟩ : ∃ kz : Int, kd % 6 = kz := ⟨_, rfl⟩
  have hk6 : kz = 0 ∨ kz = 1 ∨ kz = 2 ∨ kz = 3 ∨ kz = 4 ∨ kz = 5 := by omega
  obtain ⟨nn, hnn⟩ : ∃ nn : Nat, n % 100 = (nn : Int) := ⟨(n % 100).toNat, by omega⟩
  have hn100 : nn < 100 := by omega
  obtain ⟨nb, hnb⟩ : ∃ nb : Nat, n % 128 = (nb : Int) := ⟨(n % 128).toNat, by omega⟩
  have hn128 : nb < 128 := by omega
  replace hkk := Lib.hid hkk
  replace hnn := Lib.hid hnn
  replace hnb := Lib.hid hnb
  clear hkd hn
  go_enter Try.func4, Try.ntmps4
  go_upto_region 6 with (first
    | (go_at_call 11; refine (s_open O2.out (new_cr (N := 100) (by decide) (by decide)) rfl (by decide) (by decide) (by decide)).mono ?_; rintro e w3 ⟨L, F, d, rfl, S3, hl3, _, _⟩; replace S3 := Lib.hid S3; clear hl3)
    | (go_at_call 10; refine (s_new 100 w w1 hb1.out (by decide) (by decide)).mono ?_; rintro e w2 ⟨B, F0, rfl, O2, _, _⟩; replace O2 := Lib.hid O2)
    | (go_at_call 9; refine (c_known w).mono ?_; rintro e w1 ⟨rfl, hb1⟩; replace hb1 := Lib.hid hb1))
  obtain ⟨W, hW, R0⟩ : ∃ W, w3.alloc (.cells (bys zeros).toArray 5) = W ∧ Hid (FillR W w3.heap.size w3.heap.size 128 0 (rep 7) zeros) := ⟨_, rfl, Lib.hid (FillR.start (rep 7))⟩
  have SW : Hid (Sys 100 0 (fun _ => zeros) w W F L B d) := Lib.hid (by rw [← hW]; exact S3.out.below (below_al0 _ _))
  have hF2 : Hid (¬ F w3.heap.size ∧ w3.heap.size ≠ L ∧ w.heap.size ≤ w3.heap.size) := Lib.hid ⟨fun h => by have := S3.out.own.dk.lt _ h; omega, fun e => by have := S3.out.at_.lt; omega, S3.out.own.bl.size⟩
  rw [hW]
  clear hW S3 O2 hb1
  generalize w3.heap.size = g at *
  have RZ : Hid (W.ownsRow g 5 1 (.slice (some ⟨g, 0, none⟩) 128 128) 128 (bys zeros)) := Lib.hid R0.out
  have cz : W.cell? ⟨g, 0, none⟩ = some (.int .u8 0) := (row_cell RZ.out 0 (by rw [← bys_zeros]; rfl)).2
  have fz := R0.out.free 0
  go_upto_region 7 with fail
  have ho := off1 W g 0 (.int .u8 1)
  have R1 : Hid ((W.setCell ⟨g, 0, none⟩ (.int .u8 1)).ownsRow g 5 1 (.slice (some ⟨g, 0, none⟩) 128 128) 128 (bys b1)) := Lib.hid (by have := row_store RZ.out 0 (.int .u8 1); rwa [b1_bys] at this)
  have S1 : Hid (Sys 100 0 (fun _ => zeros) w (W.setCell ⟨g, 0, none⟩ (.int .u8 1)) F L B d) := Lib.hid (SW.out.off ho (fun i hi e => hF2.out.1 (e ▸ hi)) (fun e => hF2.out.2.1 e.symm) (fun i e => by have h : i = g := e; have := hF2.out.2.2; omega))
  clear ho cz fz RZ R0 SW
  generalize W.setCell ⟨g, 0, none⟩ (.int .u8 1) = w4 at *
  go_upto_region 10 with fail
  have G5 := heap_alloc_new w4 (.cells #[.int .i64 42, .slice (some ⟨g, 0, none⟩) 128 128] 47)
  have R5 := Lib.hid (Off.rowAt (.of_below (ex := fun _ => False) (below_al0 w4 (.cells #[.int .i64 42, .slice (some ⟨g, 0, none⟩) 128 128] 47))) R1.out (fun h => h))
  have S5 := Lib.hid (S1.out.below (below_al0 w4 (.cells #[.int .i64 42, .slice (some ⟨g, 0, none⟩) 128 128] 47)))
  have hz5 : Hid (g < w4.heap.size) := Lib.hid (Array.getElem?_eq_some_iff.1 (row_blk R1.out).2.2.2.choose_spec).1
  generalize w4.alloc (.cells #[.int .i64 42, .slice (some ⟨g, 0, none⟩) 128 128] 47) = W5 at *
  have hgd : Hid (w4.heap.size < W5.heap.size ∧ ¬ F w4.heap.size) := Lib.hid ⟨(Array.getElem?_eq_some_iff.1 G5).1, fun h => by have := S1.out.own.dk.lt _ h; omega⟩
  generalize w4.heap.size = gd at *
  have cg0 : W5.cell? ⟨gd, 0, none⟩ = some (.int .i64 42) := by simp [World.cell?, G5]
  have cg1 : W5.cell? ⟨gd, 1, none⟩ = some (.slice (some ⟨g, 0, none⟩) 128 128) := by simp [World.cell?, G5]
  replace G5 := Lib.hid G5
  clear R1 S1
  go_upto_block 0 with (first
    | (go_at_call 17; refine (c_within kd 6 (by decide) (by decide) W5).mono ?_; rintro e w' ⟨rfl, rfl⟩; rw [hkk.out]))
  go_cut [11, 12, 13] from 41 to 91 (fun wv pv _ wx => ∃ (ad : Option Addr) (pc : Nat) (ps : List (Int × Sec)), wv = .int .i64 (if 40 < ps.length then 4 else 1) ∧ pv = .slice ad ps.length pc ∧ Hid (PutAt wx F (.slice ad ps.length pc) ps) ∧ Hid (ps.length < 1000 ∧ (ps.length ≤ 40 → ∃ j x, ps[j]? = some x ∧ badP d x (ps.take j))) ∧ Hid (Sys 100 0 (fun _ => zeros) w wx F L B d))
  case first =>
    have hz6 : Hid (gd < W5.heap.size) := Lib.hid hgd.out.1
    rcases hk6 with rfl | rfl | rfl | rfl | rfl | rfl
    · skip
      have hzz : IntKind.i64.wrap (41 - (nn : Int)) = 41 - (nn : Int) := IntWalk.i64_in _ (by omega)
      go_upto_region 12 with fail
      go_wp2_with fail
      refine wp_region_held_drew (S := fun w' => w'.cell? ⟨gd, 0, none⟩ = some (.int .i64 42) ∧ w'.cell? ⟨gd, 1, none⟩ = some (.slice (some ⟨g, 0, none⟩) 128 128)) (by kernel_rfl) ?_ (fun hHeld => ?_)
      · exact ⟨cg0, cg1⟩
      refine wpAnyH_take (i := 0) (oi := ⟨_, _, _, _, _, _⟩) (v := ?_) rfl (by kernel_rfl) (by kernel_rfl) (by kernel_rfl) (fun _ _ _ h => h) (Or.inl ⟨by rfl, ?_⟩) (by assumption) ?_
      rotate_left
      · intro w hSw; (try dsimp only at hSw); go_split_ands; go_simp; (try with_reducible rfl)
      try simp only [Act.put, List.setIfInBounds_toArray, List.set_cons_zero, List.set_cons_succ]
      refine wpAnyH_take (i := 1) (oi := ⟨_, _, _, _, _, _⟩) (v := ?_) rfl (by kernel_rfl) (by kernel_rfl) (by kernel_rfl) (fun _ _ _ h => h) (Or.inl ⟨by rfl, ?_⟩) (by assumption) ?_
      rotate_left
      · intro w hSw; (try dsimp only at hSw); go_split_ands; go_simp; (try with_reducible rfl)
      try simp only [Act.put, List.setIfInBounds_toArray, List.set_cons_zero, List.set_cons_succ]
      refine wpAnyH_take (i := 4) (oi := ⟨_, _, _, _, _, _⟩) (v := ?_) rfl (by kernel_rfl) (by kernel_rfl) (by kernel_rfl) (fun _ _ _ h => h) (Or.inl ⟨by rfl, ?_⟩) (by assumption) ?_
      rotate_left
      · intro w hSw; (try dsimp only at hSw); go_split_ands; go_simp; (try with_reducible rfl)
      try simp only [Act.put, List.setIfInBounds_toArray, List.set_cons_zero, List.set_cons_succ]
      refine wpAnyH_ready (rs := [2]) (by kernel_rfl) (by simp) (AllReadyH.cons (o := ⟨_, _, _, _, _, _⟩) rfl (fun K hK => ?_) AllReadyH.nil)
      go_simp
      refine (c_within n 100 (by decide) (by decide) W5.drew).mono ?_
      rintro e w' ⟨rfl, rfl⟩
      rw [hnn.out]
      go_wp2_with fail
      refine hK.out _ _ ?_ (fun hHeld => ?_)
      · exact ⟨cg0, cg1⟩
      clear hK K
      try simp only [Act.put, List.setIfInBounds_toArray, List.set_cons_zero, List.set_cons_succ]
      refine wpAnyH_take (i := 3) (oi := ⟨_, _, _, _, _, _⟩) (v := ?_) rfl (by kernel_rfl) (by kernel_rfl) (by kernel_rfl) (fun _ _ _ h => h) (Or.inl ⟨by rfl, ?_⟩) (by assumption) ?_
      rotate_left
      · intro w hSw; (try dsimp only at hSw); go_split_ands; go_simp; (try with_reducible rfl)
      try simp only [Act.put, List.setIfInBounds_toArray, List.set_cons_zero, List.set_cons_succ]
      refine wpAnyH_take (i := 5) (oi := ⟨_, _, _, _, _, _⟩) (v := ?_) rfl (by kernel_rfl) (by kernel_rfl) (by kernel_rfl) (fun _ _ _ h => h) (Or.inl ⟨by rfl, ?_⟩) (by assumption) ?_
      rotate_left
      · intro w hSw; (try dsimp only at hSw); go_split_ands; go_simp; (try with_reducible rfl)
      try simp only [Act.put, List.setIfInBounds_toArray, List.set_cons_zero, List.set_cons_succ]
      refine wpAnyH_ready (rs := [6]) (by kernel_rfl) (by simp) (AllReadyH.cons (o := ⟨_, _, _, _, _, _⟩) rfl (fun K hK => ?_) AllReadyH.nil)
      go_simp
      obtain ⟨X, hX, BX, GX⟩ : ∃ X, (W5.alloc (.cells #[.int .i64 42, .slice (some ⟨g, 0, none⟩) 128 128, .int .i64 (41 - (nn : Int)), .slice (some ⟨g, 0, none⟩) 128 128] 47)).drew = X ∧ Hid (Below W5.heap.size W5 X) ∧ Hid (X.heap[W5.heap.size]? = some (.cells #[.int .i64 42, .slice (some ⟨g, 0, none⟩) 128 128, .int .i64 (41 - (nn : Int)), .slice (some ⟨g, 0, none⟩) 128 128] 47 (0, 0))) := ⟨_, rfl, Lib.hid (below_drew (below_al0 _ _)), Lib.hid (heap_alloc_new W5 _)⟩
      rw [hX]
      clear hX
      have SX := Lib.hid (S5.out.below BX.out)
      have hgx : Hid (¬ F W5.heap.size) := Lib.hid (fun h => by have := S5.out.own.dk.lt _ h; omega)
      have hgx1 : Hid (g < X.heap.size) := Lib.hid (by have := hz5.out; have := hgd.out.1; have := BX.out.size; have := hz6.out; omega)
      refine hK.out _ _ ?_ (fun hHeld => ?_)
      · exact ⟨off_cell (.of_below (ex := fun _ => False) BX.out) cg0 (fun h => h), off_cell (.of_below (ex := fun _ => False) BX.out) cg1 (fun h => h)⟩
      clear hK K
      try simp only [Act.put, List.setIfInBounds_toArray, List.set_cons_zero, List.set_cons_succ]
      refine wpAnyH_take (i := 7) (oi := ⟨_, _, _, _, _, _⟩) (v := ?_) rfl (by kernel_rfl) (by kernel_rfl) (by kernel_rfl) (fun _ _ _ h => h) (Or.inl ⟨by rfl, ?_⟩) (by assumption) ?_
      rotate_left
      · intro w hSw; (try dsimp only at hSw); go_split_ands; go_simp; (try with_reducible rfl)
      try simp only [Act.put, List.setIfInBounds_toArray, List.set_cons_zero, List.set_cons_succ]
      refine wpAnyH_done (by kernel_rfl) ?_ _
      go_wp2_with fail
      go_meet
      case rel => exact ⟨_, _, [(42, b1), (41 - (nn : Int), b1)], rfl, rfl, Lib.hid (put_two GX.out hgx.out (putD_of (row_bt (Off.rowAt (.of_below (ex := fun _ => False) BX.out) R5.out (fun h => h)) b1_len) hF2.out.1 hgx1.out ⟨by decide, by decide⟩ (by rw [b1_len]; decide)) (putD_of (row_bt (Off.rowAt (.of_below (ex := fun _ => False) BX.out) R5.out (fun h => h)) b1_len) hF2.out.1 hgx1.out ⟨by omega, by omega⟩ (by rw [b1_len]; decide))), Lib.hid ⟨by simp, fun _ => ⟨1, _, rfl, .inl (by show 41 - (nn : Int) < 42; omega)⟩⟩, SX⟩
    · skip
      have hzz : IntKind.i64.wrap (100 + (nn : Int)) = 100 + (nn : Int) := IntWalk.i64_in _ (by omega)
      go_upto_region 14 with fail
      go_wp2_with fail
      refine wp_region_held_drew (S := fun w' => w'.cell? ⟨gd, 0, none⟩ = some (.int .i64 42) ∧ w'.cell? ⟨gd, 1, none⟩ = some (.slice (some ⟨g, 0, none⟩) 128 128)) (by kernel_rfl) ?_ (fun hHeld => ?_)
      · exact ⟨cg0, cg1⟩
      refine wpAnyH_take (i := 0) (oi := ⟨_, _, _, _, _, _⟩) (v := ?_) rfl (by kernel_rfl) (by kernel_rfl) (by kernel_rfl) (fun _ _ _ h => h) (Or.inl ⟨by rfl, ?_⟩) (by assumption) ?_
      rotate_left
      · intro w hSw; (try dsimp only at hSw); go_split_ands; go_simp; (try with_reducible rfl)
      try simp only [Act.put, List.setIfInBounds_toArray, List.set_cons_zero, List.set_cons_succ]
      refine wpAnyH_take (i := 1) (oi := ⟨_, _, _, _, _, _⟩) (v := ?_) rfl (by kernel_rfl) (by kernel_rfl) (by kernel_rfl) (fun _ _ _ h => h) (Or.inl ⟨by rfl, ?_⟩) (by assumption) ?_
      rotate_left
      · intro w hSw; (try dsimp only at hSw); go_split_ands; go_simp; (try with_reducible rfl)
      try simp only [Act.put, List.setIfInBounds_toArray, List.set_cons_zero, List.set_cons_succ]
      refine wpAnyH_take (i := 4) (oi := ⟨_, _, _, _, _, _⟩) (v := ?_) rfl (by kernel_rfl) (by kernel_rfl) (by kernel_rfl) (fun _ _ _ h => h) (Or.inl ⟨by rfl, ?_⟩) (by assumption) ?_
      rotate_left
      · intro w hSw; (try dsimp only at hSw); go_split_ands; go_simp; (try with_reducible rfl)
      try simp only [Act.put, List.setIfInBounds_toArray, List.set_cons_zero, List.set_cons_succ]
      refine wpAnyH_ready (rs := [2]) (by kernel_rfl) (by simp) (AllReadyH.cons (o := ⟨_, _, _, _, _, _⟩) rfl (fun K hK => ?_) AllReadyH.nil)
      go_simp
      refine (c_within n 100 (by decide) (by decide) W5.drew).mono ?_
      rintro e w' ⟨rfl, rfl⟩
      rw [hnn.out]
      go_wp2_with fail
      refine hK.out _ _ ?_ (fun hHeld => ?_)
      · exact ⟨cg0, cg1⟩
      clear hK K
      try simp only [Act.put, List.setIfInBounds_toArray, List.set_cons_zero, List.set_cons_succ]
      refine wpAnyH_take (i := 3) (oi := ⟨_, _, _, _, _, _⟩) (v := ?_) rfl (by kernel_rfl) (by kernel_rfl) (by kernel_rfl) (fun _ _ _ h => h) (Or.inl ⟨by rfl, ?_⟩) (by assumption) ?_
      rotate_left
      · intro w hSw; (try dsimp only at hSw); go_split_ands; go_simp; (try with_reducible rfl)
      try simp only [Act.put, List.setIfInBounds_toArray, List.set_cons_zero, List.set_cons_succ]
      refine wpAnyH_take (i := 5) (oi := ⟨_, _, _, _, _, _⟩) (v := ?_) rfl (by kernel_rfl) (by kernel_rfl) (by kernel_rfl) (fun _ _ _ h => h) (Or.inl ⟨by rfl, ?_⟩) (by assumption) ?_
      rotate_left
      · intro w hSw; (try dsimp only at hSw); go_split_ands; go_simp; (try with_reducible rfl)
      try simp only [Act.put, List.setIfInBounds_toArray, List.set_cons_zero, List.set_cons_succ]
      refine wpAnyH_ready (rs := [6]) (by kernel_rfl) (by simp) (AllReadyH.cons (o := ⟨_, _, _, _, _, _⟩) rfl (fun K hK => ?_) AllReadyH.nil)
      go_simp
      obtain ⟨X, hX, BX, GX⟩ : ∃ X, (W5.alloc (.cells #[.int .i64 42, .slice (some ⟨g, 0, none⟩) 128 128, .int .i64 (100 + (nn : Int)), .slice (some ⟨g, 0, none⟩) 128 128] 47)).drew = X ∧ Hid (Below W5.heap.size W5 X) ∧ Hid (X.heap[W5.heap.size]? = some (.cells #[.int .i64 42, .slice (some ⟨g, 0, none⟩) 128 128, .int .i64 (100 + (nn : Int)), .slice (some ⟨g, 0, none⟩) 128 128] 47 (0, 0))) := ⟨_, rfl, Lib.hid (below_drew (below_al0 _ _)), Lib.hid (heap_alloc_new W5 _)⟩
      rw [hX]
      clear hX
      have SX := Lib.hid (S5.out.below BX.out)
      have hgx : Hid (¬ F W5.heap.size) := Lib.hid (fun h => by have := S5.out.own.dk.lt _ h; omega)
      have hgx1 : Hid (g < X.heap.size) := Lib.hid (by have := hz5.out; have := hgd.out.1; have := BX.out.size; have := hz6.out; omega)
      refine hK.out _ _ ?_ (fun hHeld => ?_)
      · exact ⟨off_cell (.of_below (ex := fun _ => False) BX.out) cg0 (fun h => h), off_cell (.of_below (ex := fun _ => False) BX.out) cg1 (fun h => h)⟩
      clear hK K
      try simp only [Act.put, List.setIfInBounds_toArray, List.set_cons_zero, List.set_cons_succ]
      refine wpAnyH_take (i := 7) (oi := ⟨_, _, _, _, _, _⟩) (v := ?_) rfl (by kernel_rfl) (by kernel_rfl) (by kernel_rfl) (fun _ _ _ h => h) (Or.inl ⟨by rfl, ?_⟩) (by assumption) ?_
      rotate_left
      · intro w hSw; (try dsimp only at hSw); go_split_ands; go_simp; (try with_reducible rfl)
      try simp only [Act.put, List.setIfInBounds_toArray, List.set_cons_zero, List.set_cons_succ]
      refine wpAnyH_done (by kernel_rfl) ?_ _
      go_wp2_with fail
      go_meet
      case rel => exact ⟨_, _, [(42, b1), (100 + (nn : Int), b1)], rfl, rfl, Lib.hid (put_two GX.out hgx.out (putD_of (row_bt (Off.rowAt (.of_below (ex := fun _ => False) BX.out) R5.out (fun h => h)) b1_len) hF2.out.1 hgx1.out ⟨by decide, by decide⟩ (by rw [b1_len]; decide)) (putD_of (row_bt (Off.rowAt (.of_below (ex := fun _ => False) BX.out) R5.out (fun h => h)) b1_len) hF2.out.1 hgx1.out ⟨by omega, by omega⟩ (by rw [b1_len]; decide))), Lib.hid ⟨by simp, fun _ => ⟨1, _, rfl, .inr (.inl (by
          show readE d (100 + (nn : Int)) = 1
          unfold readE
          rw [if_neg (by rw [S5.out.lg.alive]; exact Bool.false_ne_true), if_neg (by unfold Dk.there; rw [S5.out.lg.n]; simp; omega)]))⟩⟩, SX⟩
    · go_wp2_with fail
      obtain ⟨X, hX, BX, GX⟩ : ∃ X, (W5.alloc (.cells #[.int .i64 42, .slice (some ⟨g, 0, none⟩) 128 128, .int .i64 42, .slice (some ⟨g, 0, none⟩) 128 128] 47)) = X ∧ Hid (Below W5.heap.size W5 X) ∧ Hid (X.heap[W5.heap.size]? = some (.cells #[.int .i64 42, .slice (some ⟨g, 0, none⟩) 128 128, .int .i64 42, .slice (some ⟨g, 0, none⟩) 128 128] 47 (0, 0))) := ⟨_, rfl, Lib.hid (below_al0 _ _), Lib.hid (heap_alloc_new W5 _)⟩
      rw [hX]
      clear hX
      have SX := Lib.hid (S5.out.below BX.out)
      have hgx : Hid (¬ F W5.heap.size) := Lib.hid (fun h => by have := S5.out.own.dk.lt _ h; omega)
      have hgx1 : Hid (g < X.heap.size) := Lib.hid (by have := hz5.out; have := hgd.out.1; have := BX.out.size; have := hz6.out; omega)
      go_meet
      case rel => exact ⟨_, _, [(42, b1), (42, b1)], rfl, rfl, Lib.hid (put_two GX.out hgx.out (putD_of (row_bt (Off.rowAt (.of_below (ex := fun _ => False) BX.out) R5.out (fun h => h)) b1_len) hF2.out.1 hgx1.out ⟨by decide, by decide⟩ (by rw [b1_len]; decide)) (putD_of (row_bt (Off.rowAt (.of_below (ex := fun _ => False) BX.out) R5.out (fun h => h)) b1_len) hF2.out.1 hgx1.out ⟨by decide, by decide⟩ (by rw [b1_len]; decide))), Lib.hid ⟨by simp, fun _ => ⟨1, _, rfl, .inr (.inr (.inr ⟨(42, b1), by simp, rfl⟩))⟩⟩, SX⟩
    · go_upto_region 18 with fail
      have hnb' : (nb : Int) ≤ 128 := by omega
      go_wp2_with fail
      refine wp_region_held_drew (S := fun w' => w'.cell? ⟨gd, 0, none⟩ = some (.int .i64 42) ∧ w'.cell? ⟨gd, 1, none⟩ = some (.slice (some ⟨g, 0, none⟩) 128 128)) (by kernel_rfl) ?_ (fun hHeld => ?_)
      · exact ⟨cg0, cg1⟩
      refine wpAnyH_take (i := 0) (oi := ⟨_, _, _, _, _, _⟩) (v := ?_) rfl (by kernel_rfl) (by kernel_rfl) (by kernel_rfl) (fun _ _ _ h => h) (Or.inl ⟨by rfl, ?_⟩) (by assumption) ?_
      rotate_left
      · intro w hSw; (try dsimp only at hSw); go_split_ands; go_simp; (try with_reducible rfl)
      try simp only [Act.put, List.setIfInBounds_toArray, List.set_cons_zero, List.set_cons_succ]
      refine wpAnyH_take (i := 1) (oi := ⟨_, _, _, _, _, _⟩) (v := ?_) rfl (by kernel_rfl) (by kernel_rfl) (by kernel_rfl) (fun _ _ _ h => h) (Or.inl ⟨by rfl, ?_⟩) (by assumption) ?_
      rotate_left
      · intro w hSw; (try dsimp only at hSw); go_split_ands; go_simp; (try with_reducible rfl)
      try simp only [Act.put, List.setIfInBounds_toArray, List.set_cons_zero, List.set_cons_succ]
      refine wpAnyH_take (i := 2) (oi := ⟨_, _, _, _, _, _⟩) (v := ?_) rfl (by kernel_rfl) (by kernel_rfl) (by kernel_rfl) (fun _ _ _ h => h) (Or.inl ⟨by rfl, ?_⟩) (by assumption) ?_
      rotate_left
      · intro w hSw; (try dsimp only at hSw); go_split_ands; go_simp; (try with_reducible rfl)
      try simp only [Act.put, List.setIfInBounds_toArray, List.set_cons_zero, List.set_cons_succ]
      refine wpAnyH_ready (rs := [3]) (by kernel_rfl) (by simp) (AllReadyH.cons (o := ⟨_, _, _, _, _, _⟩) rfl (fun K hK => ?_) AllReadyH.nil)
      go_simp
      refine (c_within n 128 (by decide) (by decide) W5.drew).mono ?_
      rintro e w' ⟨rfl, rfl⟩
      rw [hnb.out]
      go_wp2_with fail
      refine hK.out _ _ ?_ (fun hHeld => ?_)
      · exact ⟨cg0, cg1⟩
      clear hK K
      try simp only [Act.put, List.setIfInBounds_toArray, List.set_cons_zero, List.set_cons_succ]
      refine wpAnyH_take (i := 4) (oi := ⟨_, _, _, _, _, _⟩) (v := ?_) rfl (by kernel_rfl) (by kernel_rfl) (by kernel_rfl) (fun _ _ _ h => h) (Or.inl ⟨by rfl, ?_⟩) (by assumption) ?_
      rotate_left
      · intro w hSw; (try dsimp only at hSw); go_split_ands; go_simp; (try with_reducible rfl)
      try simp only [Act.put, List.setIfInBounds_toArray, List.set_cons_zero, List.set_cons_succ]
      refine wpAnyH_take (i := 5) (oi := ⟨_, _, _, _, _, _⟩) (v := ?_) rfl (by kernel_rfl) (by kernel_rfl) (by kernel_rfl) (fun _ _ _ h => h) (Or.inl ⟨by rfl, ?_⟩) (by assumption) ?_
      rotate_left
      · intro w hSw; (try dsimp only at hSw); go_split_ands; go_simp; (try with_reducible rfl)
      try simp only [Act.put, List.setIfInBounds_toArray, List.set_cons_zero, List.set_cons_succ]
      refine wpAnyH_ready (rs := [6]) (by kernel_rfl) (by simp) (AllReadyH.cons (o := ⟨_, _, _, _, _, _⟩) rfl (fun K hK => ?_) AllReadyH.nil)
      go_simp
      obtain ⟨X, hX, BX, GX⟩ : ∃ X, (W5.alloc (.cells #[.int .i64 42, .slice (some ⟨g, 0, none⟩) 128 128, .int .i64 43, .slice (some ⟨g, 0, none⟩) nb 128] 47)).drew = X ∧ Hid (Below W5.heap.size W5 X) ∧ Hid (X.heap[W5.heap.size]? = some (.cells #[.int .i64 42, .slice (some ⟨g, 0, none⟩) 128 128, .int .i64 43, .slice (some ⟨g, 0, none⟩) nb 128] 47 (0, 0))) := ⟨_, rfl, Lib.hid (below_drew (below_al0 _ _)), Lib.hid (heap_alloc_new W5 _)⟩
      rw [hX]
      clear hX
      have SX := Lib.hid (S5.out.below BX.out)
      have hgx : Hid (¬ F W5.heap.size) := Lib.hid (fun h => by have := S5.out.own.dk.lt _ h; omega)
      have hgx1 : Hid (g < X.heap.size) := Lib.hid (by have := hz5.out; have := hgd.out.1; have := BX.out.size; have := hz6.out; omega)
      refine hK.out _ _ ?_ (fun hHeld => ?_)
      · exact ⟨off_cell (.of_below (ex := fun _ => False) BX.out) cg0 (fun h => h), off_cell (.of_below (ex := fun _ => False) BX.out) cg1 (fun h => h)⟩
      clear hK K
      try simp only [Act.put, List.setIfInBounds_toArray, List.set_cons_zero, List.set_cons_succ]
      refine wpAnyH_take (i := 7) (oi := ⟨_, _, _, _, _, _⟩) (v := ?_) rfl (by kernel_rfl) (by kernel_rfl) (by kernel_rfl) (fun _ _ _ h => h) (Or.inl ⟨by rfl, ?_⟩) (by assumption) ?_
      rotate_left
      · intro w hSw; (try dsimp only at hSw); go_split_ands; go_simp; (try with_reducible rfl)
      try simp only [Act.put, List.setIfInBounds_toArray, List.set_cons_zero, List.set_cons_succ]
      refine wpAnyH_done (by kernel_rfl) ?_ _
      go_wp2_with fail
      go_meet
      case rel => exact ⟨_, _, [(42, b1), (43, b1.take nb)], rfl, rfl, Lib.hid (put_two GX.out hgx.out (putD_of (row_bt (Off.rowAt (.of_below (ex := fun _ => False) BX.out) R5.out (fun h => h)) b1_len) hF2.out.1 hgx1.out ⟨by decide, by decide⟩ (by rw [b1_len]; decide)) (putD_of (bt_takeN (row_bt (Off.rowAt (.of_below (ex := fun _ => False) BX.out) R5.out (fun h => h)) b1_len) (by omega)) hF2.out.1 hgx1.out ⟨by decide, by decide⟩ (by rw [List.length_take, b1_len]; omega))), Lib.hid ⟨by simp, fun _ => ⟨1, _, rfl, .inr (.inr (.inl (by show (b1.take nb).length ≠ 128; rw [List.length_take, b1_len]; omega)))⟩⟩, SX⟩
    · go_wp2_with fail
      have R0 : Hid (PutRow W5 W5.heap.size F (.slice none 0 0) []) := Lib.hid (PutRow.nil _ _ _)
      go_loopw [12, 13] (fun pv kv wr => ∃ (k : Nat) (es : List PE), kv = .int .i64 k ∧ k ≤ 41 ∧ es.length = k ∧ Hid (PutRow wr W5.heap.size F pv es ∧ Below W5.heap.size W5 wr ∧ ∀ e ∈ es, e.2 = .slice (some ⟨g, 0, none⟩) 128 128)) (fun _ kv _ => 41 - (intOf kv).toNat)
      case atStart => exact ⟨0, [], rfl, by omega, rfl, Lib.hid ⟨R0.out, Below.refl _ _, fun e he => by simp at he⟩⟩
      case round =>
        clear R0
        obtain ⟨k, es, rfl, hk, hel, P⟩ := hrel
        replace hel := Lib.hid hel
        by_cases hkm : k < 41
        · have hkm' : (k : Int) < 41 := by omega
          have hz1 : IntKind.i64.wrap (42 + (k : Int)) = 42 + (k : Int) := IntWalk.i64_in _ (by omega)
          have P8 : Hid (PutRow (wr.alloc (.cells #[.int .i64 (42 + (k : Int)), .slice (some ⟨g, 0, none⟩) 128 128] 47)) W5.heap.size F u12 es ∧ Below W5.heap.size W5 (wr.alloc (.cells #[.int .i64 (42 + (k : Int)), .slice (some ⟨g, 0, none⟩) 128 128] 47))) := Lib.hid ⟨P.out.1.below (below_al0 _ _), below2 P.out.2.1 (below_al0 _ _)⟩
          have hxb := heap_alloc_new wr (.cells #[.int .i64 (42 + (k : Int)), .slice (some ⟨g, 0, none⟩) 128 128] 47)
          have n0 := Lib.hid (cell_of_row _ _ 0 _ _ _ hxb)
          have n1 := Lib.hid (cell_of_row _ _ 1 _ _ _ hxb)
          clear hxb
          go_wp2_with (first
            | (at_builtin; refine wpList_append_put (o := ⟨some 85, _, _, _, _, _⟩) ?_ (.tmp 79) (.tmp 84) ?_ W5.heap.size u12 es ?_ P8.out.1.row wr.heap.size (42 + (k : Int)) (some ⟨g, 0, none⟩) 128 128 b1 ?_ n0.out n1.out (by have := hel.out; omega) P8.out.2.size ?_; exact rfl; exact rfl; exact rfl; exact rfl; intro ga gc X hr ho; have hne : ∀ j, u12.ownBlock = some j → W5.heap.size ≤ j := fun j hj => (own_blk P.out.1.row hj).1; have BX : Below W5.heap.size W5 X := Off.below P8.out.2 ho P8.out.2.size (fun j hj => hne j hj); have PX : Hid (PutRow X W5.heap.size F (.slice (some ⟨ga, 0, none⟩) (es.length + 1) gc) (es ++ [((42 + (k : Int), b1), .slice (some ⟨g, 0, none⟩) 128 128)]) ∧ Below W5.heap.size W5 X ∧ ∀ e ∈ (es ++ [((42 + (k : Int), b1), .slice (some ⟨g, 0, none⟩) 128 128)]), e.2 = .slice (some ⟨g, 0, none⟩) 128 128) := Lib.hid ⟨⟨by simpa using hr, fun e he => by rcases List.mem_append.1 he with he | he; exact (P8.out.1.data e he).off ho (fun a n c e' hx => by rw [P.out.2.2 e he] at e'; cases e'; have h3 : W5.heap.size ≤ g := hne _ hx; have := hz5.out; have := hz6.out; omega); (simp at he; subst he; exact putD_of (row_bt (Off.rowAt (.of_below (ex := fun _ => False) BX) R5.out (fun h => h)) b1_len) hF2.out.1 (by have := hz5.out; have := hz6.out; have := BX.size; omega) ⟨by omega, by omega⟩ (by rw [b1_len]; decide))⟩, BX, fun e he => by rcases List.mem_append.1 he with he | he; exact P.out.2.2 e he; (simp at he; subst he; rfl)⟩; clear hr ho hne BX))
          clear hz1
          go_roundw
          case rel => exact ⟨k + 1, _, by go_num, by omega, by rw [List.length_append, hel.out]; rfl, PX⟩
          case measure => simp [intOf]; omega
        · have hkm' : ¬ (k : Int) < 41 := by omega
          obtain rfl : k = 41 := by omega
          have hPA := P.out.1.at_ (fun j hj hx => by have h1 := (own_blk P.out.1.row hj).1; have h2 := S5.out.own.dk.lt _ hx; omega)
          have hpl : (es.map (·.1)).length = 41 := by rw [List.length_map]; exact hel.out
          generalize es.map (·.1) = ps at *
          obtain ⟨pa, pc, hpv, _⟩ := id hPA
          subst hpv
          have PA := Lib.hid hPA
          have HPL := Lib.hid hpl
          have SX := Lib.hid (S5.out.below P.out.2.1)
          clear hPA hpl P
          go_wp2_with fail
          go_meet
          case rel => exact ⟨_, _, ps, by rw [if_pos (by rw [HPL.out]; decide)], rfl, PA, Lib.hid ⟨by rw [HPL.out]; decide, fun h => by rw [HPL.out] at h; exact absurd h (by decide)⟩, SX⟩
    · go_upto_region 26 with fail
      go_wp2_with fail
      refine wp_region_held_drew (S := fun w' => w'.cell? ⟨gd, 0, none⟩ = some (.int .i64 42) ∧ w'.cell? ⟨gd, 1, none⟩ = some (.slice (some ⟨g, 0, none⟩) 128 128)) (by kernel_rfl) ?_ (fun hHeld => ?_)
      · exact ⟨cg0, cg1⟩
      refine wpAnyH_take (i := 0) (oi := ⟨_, _, _, _, _, _⟩) (v := ?_) rfl (by kernel_rfl) (by kernel_rfl) (by kernel_rfl) (fun _ _ _ h => h) (Or.inl ⟨by rfl, ?_⟩) (by assumption) ?_
      rotate_left
      · intro w hSw; (try dsimp only at hSw); go_split_ands; go_simp; (try with_reducible rfl)
      try simp only [Act.put, List.setIfInBounds_toArray, List.set_cons_zero, List.set_cons_succ]
      refine wpAnyH_ready (rs := [1]) (by kernel_rfl) (by simp) (AllReadyH.cons (o := ⟨_, _, _, _, _, _⟩) rfl (fun K hK => ?_) AllReadyH.nil)
      go_simp
      obtain ⟨W6, hW6, B6, G6⟩ : ∃ W6, (W5.alloc (.cells (bys z129).toArray 5)).drew = W6 ∧ Hid (Below W5.heap.size W5 W6) ∧ Hid (W6.heap[W5.heap.size]? = some (.cells (bys z129).toArray 5 (0, 0))) := ⟨_, rfl, Lib.hid (below_drew (below_al0 _ _)), Lib.hid (heap_alloc_new W5 _)⟩
      rw [hW6]
      clear hW6
      have d0 := off_cell (.of_below (ex := fun _ => False) B6.out) cg0 (fun h => h)
      have d1 := off_cell (.of_below (ex := fun _ => False) B6.out) cg1 (fun h => h)
      refine hK.out _ _ ?_ (fun hHeld => ?_)
      · exact ⟨d0, d1⟩
      clear hK K
      try simp only [Act.put, List.setIfInBounds_toArray, List.set_cons_zero, List.set_cons_succ]
      refine wpAnyH_take (i := 2) (oi := ⟨_, _, _, _, _, _⟩) (v := ?_) rfl (by kernel_rfl) (by kernel_rfl) (by kernel_rfl) (fun _ _ _ h => h) (Or.inl ⟨by rfl, ?_⟩) (by assumption) ?_
      rotate_left
      · intro w hSw; (try dsimp only at hSw); go_split_ands; go_simp; (try with_reducible rfl)
      try simp only [Act.put, List.setIfInBounds_toArray, List.set_cons_zero, List.set_cons_succ]
      refine wpAnyH_ready (rs := [3]) (by kernel_rfl) (by simp) (AllReadyH.cons (o := ⟨_, _, _, _, _, _⟩) rfl (fun K hK => ?_) AllReadyH.nil)
      go_simp
      obtain ⟨X, hX, BX, GX⟩ : ∃ X, (W6.alloc (.cells #[.int .i64 42, .slice (some ⟨g, 0, none⟩) 128 128, .int .i64 43, .slice (some ⟨W5.heap.size, 0, none⟩) 129 129] 47)) = X ∧ Hid (Below W6.heap.size W6 X) ∧ Hid (X.heap[W6.heap.size]? = some (.cells #[.int .i64 42, .slice (some ⟨g, 0, none⟩) 128 128, .int .i64 43, .slice (some ⟨W5.heap.size, 0, none⟩) 129 129] 47 (0, 0))) := ⟨_, rfl, Lib.hid (below_al0 _ _), Lib.hid (heap_alloc_new W6 _)⟩
      rw [hX]
      clear hX
      have SX := Lib.hid (S5.out.below (below2 B6.out BX.out))
      have hgx : Hid (¬ F W6.heap.size) := Lib.hid (fun h => by have := S5.out.own.dk.lt _ h; have := B6.out.size; omega)
      have hgx1 : Hid (g < X.heap.size) := Lib.hid (by have := hz5.out; have := hgd.out.1; have := BX.out.size; have := B6.out.size; have := hz6.out; omega)
      refine hK.out _ _ ?_ (fun hHeld => ?_)
      · exact ⟨off_cell (.of_below (ex := fun _ => False) BX.out) d0 (fun h => h), off_cell (.of_below (ex := fun _ => False) BX.out) d1 (fun h => h)⟩
      clear hK K
      try simp only [Act.put, List.setIfInBounds_toArray, List.set_cons_zero, List.set_cons_succ]
      refine wpAnyH_take (i := 4) (oi := ⟨_, _, _, _, _, _⟩) (v := ?_) rfl (by kernel_rfl) (by kernel_rfl) (by kernel_rfl) (fun _ _ _ h => h) (Or.inl ⟨by rfl, ?_⟩) (by assumption) ?_
      rotate_left
      · intro w hSw; (try dsimp only at hSw); go_split_ands; go_simp; (try with_reducible rfl)
      try simp only [Act.put, List.setIfInBounds_toArray, List.set_cons_zero, List.set_cons_succ]
      refine wpAnyH_done (by kernel_rfl) ?_ _
      go_wp2_with fail
      go_meet
      case rel => exact ⟨_, _, [(42, b1), (43, z129)], rfl, rfl, Lib.hid (put_two GX.out hgx.out (putD_of (row_bt (Off.rowAt (.of_below (ex := fun _ => False) (below2 B6.out BX.out)) R5.out (fun h => h)) b1_len) hF2.out.1 hgx1.out ⟨by decide, by decide⟩ (by rw [b1_len]; decide)) (putD_of (bt_made ((Off.of_below (ex := fun _ => False) BX.out).keeps G6.out (fun h => h)) (by decide)) (fun h => by have := S5.out.own.dk.lt _ h; omega) (by have := (Array.getElem?_eq_some_iff.1 ((Off.of_below (ex := fun _ => False) BX.out).keeps G6.out (fun h => h))).1; exact this) ⟨by decide, by decide⟩ (by decide))), Lib.hid ⟨by simp, fun _ => ⟨1, _, rfl, .inr (.inr (.inl (by decide)))⟩⟩, SX⟩
  case rest =>
    obtain ⟨ad, pc, ps, rfl, rfl, PA, HB, SX⟩ := hcut
    obtain ⟨wt, hwt⟩ : ∃ wt : Int, (if 40 < ps.length then 4 else 1) = wt := ⟨_, rfl⟩
    rw [hwt]
    replace hwt := Lib.hid hwt
    clear cg0 cg1
    go_upto_region 32 with (first
      | (go_at_call 11; refine (c_Open_small w9 B9 (Dk.new 42) O9.out.dk rfl (by decide)).mono ?_; rintro e w10 ⟨rfl, hb10⟩; have S10 := Lib.hid (S9.out.below hb10); have X10 := Lib.hid (Off.rowAt (.of_below (ex := fun _ => False) hb10) X9.out (fun h => h)); clear hb10)
      | (go_at_call 10; refine (s_new 42 w w8 S8.out.own.bl (by decide) (by decide)).mono ?_; rintro e w9 ⟨B9, F9, rfl, O9, _, hb9⟩; have S9 := Lib.hid (S8.out.below hb9); have X9 := Lib.hid (Off.rowAt (.of_below (ex := fun _ => False) hb9) X8.out (fun h => h)); replace O9 := Lib.hid O9; clear hb9)
      | (go_at_call 18; refine (c_lread w7 L B _ false d 41 S7.out.at_ S7.out.own.dk ⟨by decide, by decide⟩).mono ?_; rintro e w8 ⟨v8, rfl, _, h8, hb8⟩; rw [h41.out] at h8 ⊢; obtain rfl := h8 (by decide); have S8 := Lib.hid (S7.out.below hb8); have X8 := Lib.hid (Off.rowAt (.of_below (ex := fun _ => False) hb8) X7.out (fun h => h)); clear hb8 h8)
      | (go_at_call 18; refine (s_read S6.out 42 (by decide) (by decide) (by decide)).mono ?_; rintro e w7 ⟨gx, cx, rfl, hx7, hb7⟩; have X7 := Lib.hid hx7; have S7 := Lib.hid (S6.out.below hb7); have h41 : Hid (lreadE false d 41 = 1) := Lib.hid (by unfold lreadE; rw [if_neg Bool.false_ne_true, if_neg (by rw [S6.out.lg.alive]; exact Bool.false_ne_true), if_pos (by decide)]); clear hx7 hb7)
      | (go_at_call 13; refine (c_Commit_bad wc L B _ false d (.slice ad ps.length pc) ps SX.out.at_ SX.out.own.dk SX.out.lg.alive PA.out HB.out.1 HB.out.2).mono ?_; rintro e w6 ⟨rfl, hb6⟩; rw [hwt.out]; have S6 := Lib.hid (SX.out.below hb6); clear hb6))
    have hsk : Hid (∀ w' : World, Below w10.heap.size w10 w' → Sem.run Try.prog (convert 36 9 (.slice (some ⟨gx, 0, none⟩) 128 cx)) w' = .ok (.string ⟨zeros.toArray⟩) w') := Lib.hid (fun w' hb => str_at (row_bt (Off.rowAt (.of_below (ex := fun _ => False) hb) X10.out (fun h => h)) zeros_len))
    go_wp2_with fail
    refine wp_region_held_drew (S := fun w' => Sem.run Try.prog (convert 36 9 (.slice (some ⟨gx, 0, none⟩) 128 cx)) w' = .ok (.string ⟨zeros.toArray⟩) w') (by kernel_rfl) ?_ (fun hHeld => ?_)
    · exact hsk.out _ (below_drew (Below.refl _ _))
    refine wpAnyH_take (i := 0) (oi := ⟨_, _, _, _, _, _⟩) (v := ?_) rfl (by kernel_rfl) (by kernel_rfl) (by kernel_rfl) (fun _ _ _ h => h) (Or.inl ⟨by rfl, ?_⟩) (by assumption) ?_
    rotate_left
    · intro w hSw; (try dsimp only at hSw); go_split_ands; go_simp; (try with_reducible rfl)
    try simp only [Act.put, List.setIfInBounds_toArray, List.set_cons_zero, List.set_cons_succ]
    refine wpAnyH_take (i := 1) (oi := ⟨_, _, _, _, _, _⟩) (v := ?_) rfl (by kernel_rfl) (by kernel_rfl) (by kernel_rfl) (fun _ _ _ h => h) (Or.inl ⟨by rfl, ?_⟩) (by assumption) ?_
    rotate_left
    · intro w hSw; (try dsimp only at hSw); go_split_ands; go_simp; (try with_reducible rfl)
    try simp only [Act.put, List.setIfInBounds_toArray, List.set_cons_zero, List.set_cons_succ]
    refine wpAnyH_take (i := 2) (oi := ⟨_, _, _, _, _, _⟩) (v := ?_) rfl (by kernel_rfl) (by kernel_rfl) (by kernel_rfl) (fun _ _ _ h => h) (Or.inl ⟨by rfl, ?_⟩) (by assumption) ?_
    rotate_left
    · intro w hSw; (try dsimp only at hSw); go_split_ands; go_simp; (try with_reducible rfl)
    try simp only [Act.put, List.setIfInBounds_toArray, List.set_cons_zero, List.set_cons_succ]
    refine wpAnyH_take (i := 3) (oi := ⟨_, _, _, _, _, _⟩) (v := ?_) rfl (by kernel_rfl) (by kernel_rfl) (by kernel_rfl) (fun _ _ _ h => h) (Or.inl ⟨by rfl, ?_⟩) (by assumption) ?_
    rotate_left
    · intro w hSw; (try dsimp only at hSw); go_split_ands; go_simp; (try with_reducible rfl)
    try simp only [Act.put, List.setIfInBounds_toArray, List.set_cons_zero, List.set_cons_succ]
    refine wpAnyH_take (i := 4) (oi := ⟨_, _, _, _, _, _⟩) (v := ?_) rfl (by kernel_rfl) (by kernel_rfl) (by kernel_rfl) (fun _ _ _ h => h) (Or.inl ⟨by rfl, ?_⟩) (by assumption) ?_
    rotate_left
    · intro w hSw; (try dsimp only at hSw); go_split_ands; go_simp; (try with_reducible rfl)
    try simp only [Act.put, List.setIfInBounds_toArray, List.set_cons_zero, List.set_cons_succ]
    refine wpAnyH_take (i := 5) (oi := ⟨_, _, _, _, _, _⟩) (v := ?_) rfl (by kernel_rfl) (by kernel_rfl) (by kernel_rfl) (fun _ _ _ h => h) (Or.inl ⟨by rfl, ?_⟩) (by assumption) ?_
    rotate_left
    · intro w hSw; (try dsimp only at hSw); go_split_ands; go_simp; (try with_reducible rfl)
    try simp only [Act.put, List.setIfInBounds_toArray, List.set_cons_zero, List.set_cons_succ]
    refine wpAnyH_take (i := 6) (oi := ⟨_, _, _, _, _, _⟩) (v := ?_) rfl (by kernel_rfl) (by kernel_rfl) (by kernel_rfl) (fun _ _ _ h => h) (Or.inl ⟨by rfl, ?_⟩) (by assumption) ?_
    rotate_left
    · intro w hSw; (try dsimp only at hSw); go_split_ands; go_simp; (try with_reducible rfl)
    try simp only [Act.put, List.setIfInBounds_toArray, List.set_cons_zero, List.set_cons_succ]
    refine wpAnyH_take (i := 7) (oi := ⟨_, _, _, _, _, _⟩) (v := ?_) rfl (by kernel_rfl) (by kernel_rfl) (by kernel_rfl) (fun _ _ _ h => h) (Or.inl ⟨by rfl, ?_⟩) (by assumption) ?_
    rotate_left
    · intro w hSw; (try dsimp only at hSw); go_split_ands; go_simp; (try with_reducible rfl)
    try simp only [Act.put, List.setIfInBounds_toArray, List.set_cons_zero, List.set_cons_succ]
    refine wpAnyH_take (i := 8) (oi := ⟨_, _, _, _, _, _⟩) (v := ?_) rfl (by kernel_rfl) (by kernel_rfl) (by kernel_rfl) (fun _ _ _ h => h) (Or.inl ⟨by rfl, ?_⟩) (by assumption) ?_
    rotate_left
    · intro w hSw; (try dsimp only at hSw); go_split_ands; go_simp; (try with_reducible rfl)
    try simp only [Act.put, List.setIfInBounds_toArray, List.set_cons_zero, List.set_cons_succ]
    refine wpAnyH_take (i := 9) (oi := ⟨_, _, _, _, _, _⟩) (v := ?_) rfl (by kernel_rfl) (by kernel_rfl) (by kernel_rfl) (fun _ _ _ h => h) (Or.inl ⟨by rfl, ?_⟩) (by assumption) ?_
    rotate_left
    · intro w hSw; (try dsimp only at hSw); go_split_ands; go_simp; (try with_reducible rfl)
    try simp only [Act.put, List.setIfInBounds_toArray, List.set_cons_zero, List.set_cons_succ]
    refine wpAnyH_take (i := 10) (oi := ⟨_, _, _, _, _, _⟩) (v := ?_) rfl (by kernel_rfl) (by kernel_rfl) (by kernel_rfl) (fun _ _ _ h => h) (Or.inl ⟨by rfl, ?_⟩) (by assumption) ?_
    rotate_left
    · intro w hSw; (try dsimp only at hSw); go_split_ands; go_simp; (try with_reducible rfl)
    try simp only [Act.put, List.setIfInBounds_toArray, List.set_cons_zero, List.set_cons_succ]
    refine wpAnyH_take (i := 11) (oi := ⟨_, _, _, _, _, _⟩) (v := ?_) rfl (by kernel_rfl) (by kernel_rfl) (by kernel_rfl) (fun _ _ _ h => h) (Or.inl ⟨by rfl, ?_⟩) (by assumption) ?_
    rotate_left
    · intro w hSw; (try dsimp only at hSw); go_split_ands; go_simp; (try with_reducible rfl)
    try simp only [Act.put, List.setIfInBounds_toArray, List.set_cons_zero, List.set_cons_succ]
    refine wpAnyH_take (i := 12) (oi := ⟨_, _, _, _, _, _⟩) (v := ?_) rfl (by kernel_rfl) (by kernel_rfl) (by kernel_rfl) (fun _ _ _ h => h) (Or.inl ⟨by rfl, ?_⟩) (by assumption) ?_
    rotate_left
    · intro w hSw; (try dsimp only at hSw); go_split_ands; go_simp; (try with_reducible rfl)
    try simp only [Act.put, List.setIfInBounds_toArray, List.set_cons_zero, List.set_cons_succ]
    refine wpAnyH_take (i := 13) (oi := ⟨_, _, _, _, _, _⟩) (v := ?_) rfl (by kernel_rfl) (by kernel_rfl) (by kernel_rfl) (fun _ _ _ h => h) (Or.inl ⟨by rfl, ?_⟩) (by assumption) ?_
    rotate_left
    · intro w hSw; (try dsimp only at hSw); go_split_ands; go_simp; (try with_reducible rfl)
    try simp only [Act.put, List.setIfInBounds_toArray, List.set_cons_zero, List.set_cons_succ]
    refine wpAnyH_ready (rs := [14]) (by kernel_rfl) (by simp) (AllReadyH.cons (o := ⟨_, _, _, _, _, _⟩) rfl (fun K hK => ?_) AllReadyH.nil)
    go_simp
    obtain ⟨W11, hW11, B11, G11⟩ : ∃ W11, (w10.alloc (.cells (bys zeros).toArray 5)).drew = W11 ∧ Hid (Below w10.heap.size w10 W11) ∧ Hid (W11.heap[w10.heap.size]? = some (.cells (bys zeros).toArray 5 (0, 0))) := ⟨_, rfl, Lib.hid (below_drew (below_al0 _ _)), Lib.hid (heap_alloc_new w10 _)⟩
    rw [hW11]
    clear hW11
    have hs11 := hsk.out W11 B11.out
    have hz11 : Sem.run Try.prog (convert 36 9 (.slice (some ⟨w10.heap.size, 0, none⟩) 128 128)) W11 = .ok (.string ⟨zeros.toArray⟩) W11 := str_at (by have := bt_made G11.out (by rw [zeros_len]; decide); rwa [zeros_len] at this)
    refine hK.out _ _ ?_ (fun hHeld => ?_)
    · exact hs11
    clear hK K
    try simp only [Act.put, List.setIfInBounds_toArray, List.set_cons_zero, List.set_cons_succ]
    refine wpAnyH_ready (rs := [15]) (by kernel_rfl) (by simp) (AllReadyH.cons (o := ⟨_, _, _, _, _, _⟩) rfl (fun K hK => ?_) AllReadyH.nil)
    go_simp
    refine hK.out _ _ ?_ (fun hHeld => ?_)
    · exact hs11
    clear hK K
    try simp only [Act.put, List.setIfInBounds_toArray, List.set_cons_zero, List.set_cons_succ]
    refine wpAnyH_take (i := 16) (oi := ⟨_, _, _, _, _, _⟩) (v := ?_) rfl (by kernel_rfl) (by kernel_rfl) (by kernel_rfl) (fun _ _ _ h => h) (Or.inl ⟨by rfl, ?_⟩) (by assumption) ?_
    rotate_left
    · intro w hSw; (try dsimp only at hSw); go_split_ands; go_simp; (try with_reducible rfl)
    try simp only [Act.put, List.setIfInBounds_toArray, List.set_cons_zero, List.set_cons_succ]
    refine wpAnyH_take (i := 17) (oi := ⟨_, _, _, _, _, _⟩) (v := ?_) rfl (by kernel_rfl) (by kernel_rfl) (by kernel_rfl) (fun _ _ _ h => h) (Or.inl ⟨by rfl, ?_⟩) (by assumption) ?_
    rotate_left
    · intro w hSw; (try dsimp only at hSw); go_split_ands; go_simp; (try with_reducible rfl)
    try simp only [Act.put, List.setIfInBounds_toArray, List.set_cons_zero, List.set_cons_succ]
    refine wpAnyH_take (i := 18) (oi := ⟨_, _, _, _, _, _⟩) (v := ?_) rfl (by kernel_rfl) (by kernel_rfl) (by kernel_rfl) (fun _ _ _ h => h) (Or.inl ⟨by rfl, ?_⟩) (by assumption) ?_
    rotate_left
    · intro w hSw; (try dsimp only at hSw); go_split_ands; go_simp; (try with_reducible rfl)
    try simp only [Act.put, List.setIfInBounds_toArray, List.set_cons_zero, List.set_cons_succ]
    refine wpAnyH_take (i := 19) (oi := ⟨_, _, _, _, _, _⟩) (v := ?_) rfl (by kernel_rfl) (by kernel_rfl) (by kernel_rfl) (fun _ _ _ h => h) (Or.inl ⟨by rfl, ?_⟩) (by assumption) ?_
    rotate_left
    · intro w hSw; (try dsimp only at hSw); go_split_ands; go_simp; (try with_reducible rfl)
    try simp only [Act.put, List.setIfInBounds_toArray, List.set_cons_zero, List.set_cons_succ]
    refine wpAnyH_ready (rs := [20]) (by kernel_rfl) (by simp) (AllReadyH.cons (o := ⟨_, _, _, _, _, _⟩) rfl (fun K hK => ?_) AllReadyH.nil)
    go_simp
    refine (c_Seq W11 L B _ _ (S10.out.below B11.out).at_).mono ?_
    rintro e w12 ⟨rfl, rfl⟩
    go_wp2_with fail
    refine hK.out _ _ ?_ (fun hHeld => ?_)
    · exact hs11
    clear hK K
    try simp only [Act.put, List.setIfInBounds_toArray, List.set_cons_zero, List.set_cons_succ]
    refine wpAnyH_take (i := 21) (oi := ⟨_, _, _, _, _, _⟩) (v := ?_) rfl (by kernel_rfl) (by kernel_rfl) (by kernel_rfl) (fun _ _ _ h => h) (Or.inl ⟨by rfl, ?_⟩) (by assumption) ?_
    rotate_left
    · intro w hSw; (try dsimp only at hSw); go_split_ands; go_simp; (try with_reducible rfl)
    try simp only [Act.put, List.setIfInBounds_toArray, List.set_cons_zero, List.set_cons_succ]
    refine wpAnyH_take (i := 22) (oi := ⟨_, _, _, _, _, _⟩) (v := ?_) rfl (by kernel_rfl) (by kernel_rfl) (by kernel_rfl) (fun _ _ _ h => h) (Or.inl ⟨by rfl, ?_⟩) (by assumption) ?_
    rotate_left
    · intro w hSw; (try dsimp only at hSw); go_split_ands; go_simp; (try with_reducible rfl)
    try simp only [Act.put, List.setIfInBounds_toArray, List.set_cons_zero, List.set_cons_succ]
    refine wpAnyH_take (i := 23) (oi := ⟨_, _, _, _, _, _⟩) (v := ?_) rfl (by kernel_rfl) (by kernel_rfl) (by kernel_rfl) (fun _ _ _ h => h) (Or.inl ⟨by rfl, ?_⟩) (by assumption) ?_
    rotate_left
    · intro w hSw; (try dsimp only at hSw); go_split_ands; go_simp; (try with_reducible rfl)
    try simp only [Act.put, List.setIfInBounds_toArray, List.set_cons_zero, List.set_cons_succ]
    refine wpAnyH_take (i := 24) (oi := ⟨_, _, _, _, _, _⟩) (v := ?_) rfl (by kernel_rfl) (by kernel_rfl) (by kernel_rfl) (fun _ _ _ h => h) (Or.inl ⟨by rfl, ?_⟩) (by assumption) ?_
    rotate_left
    · intro w hSw; (try dsimp only at hSw); go_split_ands; go_simp; (try with_reducible rfl)
    try simp only [Act.put, List.setIfInBounds_toArray, List.set_cons_zero, List.set_cons_succ]
    refine wpAnyH_take (i := 25) (oi := ⟨_, _, _, _, _, _⟩) (v := ?_) rfl (by kernel_rfl) (by kernel_rfl) (by kernel_rfl) (fun _ _ _ h => h) (Or.inl ⟨by rfl, ?_⟩) (by assumption) ?_
    rotate_left
    · intro w hSw; (try dsimp only at hSw); go_split_ands; go_simp; (try with_reducible rfl)
    try simp only [Act.put, List.setIfInBounds_toArray, List.set_cons_zero, List.set_cons_succ]
    refine wpAnyH_take (i := 26) (oi := ⟨_, _, _, _, _, _⟩) (v := ?_) rfl (by kernel_rfl) (by kernel_rfl) (by kernel_rfl) (fun _ _ _ h => h) (Or.inl ⟨by rfl, ?_⟩) (by assumption) ?_
    rotate_left
    · intro w hSw; (try dsimp only at hSw); go_split_ands; go_simp; (try with_reducible rfl)
    try simp only [Act.put, List.setIfInBounds_toArray, List.set_cons_zero, List.set_cons_succ]
    refine wpAnyH_take (i := 27) (oi := ⟨_, _, _, _, _, _⟩) (v := ?_) rfl (by kernel_rfl) (by kernel_rfl) (by kernel_rfl) (fun _ _ _ h => h) (Or.inl ⟨by rfl, ?_⟩) (by assumption) ?_
    rotate_left
    · intro w hSw; (try dsimp only at hSw); go_split_ands; go_simp; (try with_reducible rfl)
    try simp only [Act.put, List.setIfInBounds_toArray, List.set_cons_zero, List.set_cons_succ]
    refine wpAnyH_take (i := 28) (oi := ⟨_, _, _, _, _, _⟩) (v := ?_) rfl (by kernel_rfl) (by kernel_rfl) (by kernel_rfl) (fun _ _ _ h => h) (Or.inl ⟨by rfl, ?_⟩) (by assumption) ?_
    rotate_left
    · intro w hSw; (try dsimp only at hSw); go_split_ands; go_simp; (try with_reducible rfl)
    try simp only [Act.put, List.setIfInBounds_toArray, List.set_cons_zero, List.set_cons_succ]
    refine wpAnyH_take (i := 29) (oi := ⟨_, _, _, _, _, _⟩) (v := ?_) rfl (by kernel_rfl) (by kernel_rfl) (by kernel_rfl) (fun _ _ _ h => h) (Or.inl ⟨by rfl, ?_⟩) (by assumption) ?_
    rotate_left
    · intro w hSw; (try dsimp only at hSw); go_split_ands; go_simp; (try with_reducible rfl)
    try simp only [Act.put, List.setIfInBounds_toArray, List.set_cons_zero, List.set_cons_succ]
    refine wpAnyH_take (i := 30) (oi := ⟨_, _, _, _, _, _⟩) (v := ?_) rfl (by kernel_rfl) (by kernel_rfl) (by kernel_rfl) (fun _ _ _ h => h) (Or.inl ⟨by rfl, ?_⟩) (by assumption) ?_
    rotate_left
    · intro w hSw; (try dsimp only at hSw); go_split_ands; go_simp; (try with_reducible rfl)
    try simp only [Act.put, List.setIfInBounds_toArray, List.set_cons_zero, List.set_cons_succ]
    refine wpAnyH_take (i := 31) (oi := ⟨_, _, _, _, _, _⟩) (v := ?_) rfl (by kernel_rfl) (by kernel_rfl) (by kernel_rfl) (fun _ _ _ h => h) (Or.inl ⟨by rfl, ?_⟩) (by assumption) ?_
    rotate_left
    · intro w hSw; (try dsimp only at hSw); go_split_ands; go_simp; (try with_reducible rfl)
    try simp only [Act.put, List.setIfInBounds_toArray, List.set_cons_zero, List.set_cons_succ]
    refine wpAnyH_done (by kernel_rfl) ?_ _
    go_wp2_with fail
    go_ret
    exact ⟨rfl, (S10.out.below B11.out).own.bl⟩
end Go.Proofs.Ytpdjenkacefpjaa
