/- A memory of pieces. -/
import Derived.Test.YtiakonmamkfopaaCpuHa
import Derived.Deep.RegionHeld3
import Derived.Deep.CutRange
namespace Go.Proofs.Ytiakonmamkfopaa
open Go.RowKit Go.ChangeShapes
set_option linter.unusedVariables false
set_option maxRecDepth 100000

/-- a slice of words, as it is handed in -/
def WdAt (w : World) (v : Value) : Prop := ∃ ad n cap, v = .slice ad n cap ∧ n ≤ cap ∧ cap ≤ maxLen ∧ ∀ k, k < n → ∃ b o, ad = some ⟨b, o, none⟩ ∧ b < w.heap.size ∧ ∃ a0 a1 a2 a3 a4 a5 a6 a7 : Int,
  w.cell? ⟨b, o + k * 8, none⟩ = some (.int .i64 a0) ∧ w.cell? ⟨b, o + k * 8 + 1, none⟩ = some (.int .i64 a1) ∧ w.cell? ⟨b, o + k * 8 + 2, none⟩ = some (.int .i64 a2) ∧ w.cell? ⟨b, o + k * 8 + 3, none⟩ = some (.int .i64 a3) ∧
  w.cell? ⟨b, o + k * 8 + 4, none⟩ = some (.int .i64 a4) ∧ w.cell? ⟨b, o + k * 8 + 5, none⟩ = some (.int .i64 a5) ∧ w.cell? ⟨b, o + k * 8 + 6, none⟩ = some (.int .i64 a6) ∧ w.cell? ⟨b, o + k * 8 + 7, none⟩ = some (.int .i64 a7)
/-- a slice of pieces, as it is handed in -/
def PcAt (w : World) (v : Value) : Prop := ∃ ad n cap, v = .slice ad n cap ∧ n ≤ cap ∧ cap ≤ maxLen ∧ ∀ k, k < n → ∃ b o, ad = some ⟨b, o, none⟩ ∧ b < w.heap.size ∧ ∃ (no : Bool) (md r1 r2 r3 g : Int) (u : Value), WdAt w u ∧
  w.cell? ⟨b, o + k * 7, none⟩ = some (.bool no) ∧ w.cell? ⟨b, o + k * 7 + 1, none⟩ = some (.int .i64 md) ∧ w.cell? ⟨b, o + k * 7 + 2, none⟩ = some (.int .i64 r1) ∧ w.cell? ⟨b, o + k * 7 + 3, none⟩ = some (.int .i64 r2) ∧
  w.cell? ⟨b, o + k * 7 + 4, none⟩ = some (.int .i64 r3) ∧ w.cell? ⟨b, o + k * 7 + 5, none⟩ = some (.int .i64 g) ∧ w.cell? ⟨b, o + k * 7 + 6, none⟩ = some u
/-- a segment that was made of a piece -/
structure GoodSg (g : Sg) : Prop where
  ws : g.ws.length ≤ 16
  a : 0 ≤ g.r1
  b : g.r1 ≤ g.r2
  c : g.r2 ≤ g.r3
  d : g.r3 ≤ 7
  e : 0 ≤ g.g
  f : g.g ≤ 16
  m : 0 ≤ g.md
  n : g.md < 8
/-- a piece's words, so far -/
structure Inr (wo w2 : World) (T : Nat) (is : Bool) (m ga gb gc gd : Int) (no : Bool) (md r1 r2 r3 g : Int) (u : Value) (ws : List Int) (wv : Value) : Prop where
  t : blk7 w2 T 57 (.bool is) wv (.int .i64 m) (.int .i64 ga) (.int .i64 gb) (.int .i64 gc) (.int .i64 gd)
  row : w2.ownsRow (wo.heap.size + 1) 2 1 wv ws.length (ws.map (Value.int .i64))
  p : blk7 w2 wo.heap.size 87 (.bool no) (.int .i64 md) (.int .i64 r1) (.int .i64 r2) (.int .i64 r3) (.int .i64 g) u
  bl : Below wo.heap.size wo w2
  tw : wo.heap.size < T
theorem row_new {w : World} {v : Value} {k : Nat} {B : Nat} {e ty : TypeId} {size n : Nat} {xs : List Value} {T : Nat} {cs : Array Value} (h : w.ownsRow B e size v n xs) (ht : w.heap[T]? = some (.cells cs ty (0, 0))) (hne : e ≠ ty) (hk : v.ownBlock = some k) : ¬ T = k := by
  rintro rfl
  rcases h.2 with ⟨hv, _⟩ | ⟨g, cap, cur, hv, _, hg, _⟩
  · subst hv; simp [Value.ownBlock] at hk
  · subst hv
    simp [Value.ownBlock] at hk
    subst hk
    rw [ht] at hg
    simp only [Option.some.injEq, Obj.cells.injEq] at hg
    exact hne hg.2.1.symm
structure MMr (w wr : World) (mv : Value) (vs : List Value) (M : List Sg) (i : Nat) : Prop where
  segs : Segs wr w.heap.size mv vs M
  len : M.length = i
  good : ∀ g ∈ M, GoodSg g
  bl : Below w.heap.size w wr
theorem Good_some6 (r1 r2 r3 g : Int) (w : World) : Calls Try.prog 37 #[.agg #[.int .i64 r1, .int .i64 r2, .int .i64 r3, .int .i64 g]] w fun e w' =>
    ∃ a b c d, e = .returned (.agg #[.int .i64 a, .int .i64 b, .int .i64 c, .int .i64 d]) ∧ (0 ≤ a ∧ a ≤ b ∧ b ≤ c ∧ c ≤ 7 ∧ 0 ≤ d ∧ d ≤ 16) ∧ Below w.heap.size w w' := by
  refine (Good_ok r1 r2 r3 g w).mono fun _ _ ⟨h, hb⟩ => ⟨_, _, _, _, h, ⟨?_, ?_, ?_, ?_, ?_, ?_⟩, hb⟩
  all_goals
    have a1 := Int.emod_nonneg r1 (show (8 : Int) ≠ 0 by decide)
    have a2 := Int.emod_lt_of_pos r1 (show (0 : Int) < 8 by decide)
    generalize r1 % 8 = a at *
    have b1 := Int.emod_nonneg r2 (show (8 - a : Int) ≠ 0 by omega)
    have b2 := Int.emod_lt_of_pos r2 (show (0 : Int) < 8 - a by omega)
    generalize r2 % (8 - a) = b at *
    have c1 := Int.emod_nonneg r3 (show (8 - (a + b) : Int) ≠ 0 by omega)
    have c2 := Int.emod_lt_of_pos r3 (show (0 : Int) < 8 - (a + b) by omega)
    omega
theorem A.infoG : (Try.prog.info? 57).map (fun i => (i.zero, i.size, i.bytes)) = some (some (.agg #[.bool false, .slice none 0 0, .int .i64 0, .int .i64 0, .int .i64 0, .int .i64 0, .int .i64 0]), 7, 72) := by kernel_rfl
theorem A.underG : Try.prog.underlying 30 = some (.slice 57) := by kernel_rfl
theorem Addr.add_mk0 (B j : Nat) : (⟨B, 0, none⟩ : Addr).add j = ⟨B, j, none⟩ := by
  unfold Addr.add
  by_cases h : j = 0
  · subst h; rfl
  · simp [h]
theorem rows_snoc : ∀ (M : List Sg) (vs : List Value) (s : Sg) (v : Value), vs.length = M.length → rows (M ++ [s]) (vs ++ [v]) = rows M vs ++ s.row v
  | [], [], s, v, _ => by simp [rows]
  | a :: M, b :: vs, s, v, h => by
    have ih := rows_snoc M vs s v (by simpa using h)
    simp only [List.cons_append, rows, ih, List.append_assoc]
theorem MMr.snoc {w wo w2 w5 : World} {mv wv v' : Value} {vs : List Value} {M : List Sg} {i T : Nat} {is : Bool} {m ga gb gc gd : Int} {no : Bool} {md r1 r2 r3 g : Int} {u : Value} {ws : List Int} {o : Obj} (HM : MMr w wo mv vs M i) (HI : Inr wo w2 T is m ga gb gc gd no md r1 r2 r3 g u ws wv) (GG : GoodSg ⟨is, [], m, ga, gb, gc, gd⟩) (h16 : ws.length ≤ 16)
    (hmv : (w2.alloc o).ownsRow w.heap.size 57 7 mv M.length (rows M vs)) (hown : w5.ownsRow w.heap.size 57 7 v' (M.length + 1) (rows M vs ++ [.bool is, wv, .int .i64 m, .int .i64 ga, .int .i64 gb, .int .i64 gc, .int .i64 gd])) (hg : (w2.alloc o).grownBy w5 mv.ownBlock) :
    MMr w w5 v' (vs ++ [wv]) (M ++ [⟨is, ws, m, ga, gb, gc, gd⟩]) (i + 1) := by
  have o1 : Off (fun k => mv.ownBlock = some k) wo w5 := ((Off.of_below HI.bl).trans ((Off.refl _ _).alloc o)).trans (Off.grown (Off.refl _ _) hg (fun k hk => .inl hk))
  have o2 : Off (fun k => mv.ownBlock = some k) w2 w5 := ((Off.refl _ _).alloc o).trans (Off.grown (Off.refl _ _) hg (fun k hk => .inl hk))
  have hne : ∀ (W : World), W.ownsRow w.heap.size 57 7 mv M.length (rows M vs) → ∀ k, mv.ownBlock = some k → ∀ cs, W.heap[k]? ≠ some (.cells cs 2 (0, 0)) := fun W h k hk cs hc => row_new h hc (by decide) hk rfl
  have hmw : w2.ownsRow w.heap.size 57 7 mv M.length (rows M vs) := Off.row (ex := fun _ => False) (.of_below HI.bl) HM.segs.row (fun _ h => h.elim)
  refine ⟨⟨by simp [HM.segs.len], ?_, ?_⟩, by simp [HM.len], ?_, ?_⟩
  · rw [rows_snoc _ _ _ _ HM.segs.len, List.length_append]
    exact hown
  · intro j s x hs hx
    rcases Nat.lt_or_ge j M.length with hj | hj
    · rw [List.getElem?_append_left hj] at hs
      rw [List.getElem?_append_left (by rw [HM.segs.len]; exact hj)] at hx
      exact Off.row o1 (HM.segs.words j s x hs hx) (hne _ HM.segs.row)
    · rw [List.getElem?_append_right hj] at hs
      rw [List.getElem?_append_right (by rw [HM.segs.len]; exact hj)] at hx
      rw [HM.segs.len] at hx
      match hq : j - M.length with
      | 0 =>
        rw [hq] at hs hx
        simp only [List.getElem?_cons_zero, Option.some.injEq] at hs hx
        subst hs; subst hx
        exact row_base (Off.row o2 HI.row (hne _ hmw)) (by have := HM.bl.size; omega)
      | q + 1 => rw [hq] at hs; simp at hs
  · intro x hx
    rcases List.mem_append.1 hx with h | h
    · exact HM.good x h
    · simp only [List.mem_singleton] at h
      subst h
      exact ⟨h16, GG.a, GG.b, GG.c, GG.d, GG.e, GG.f, GG.m, GG.n⟩
  · have b1 : Below w.heap.size w w2 := HM.bl.trans (HI.bl.mono HM.bl.size)
    exact (b1.alloc b1.size o).grown hg (by have := b1.size; simp; omega) (fun k hk => (hmv.lt k hk).1)
set_option maxHeartbeats 8000000 in
theorem c_memory (w : World) (v : Value) (hv : PcAt w v) : Calls Try.prog 15 #[v] w fun e w' => ∃ v' vs M, e = .returned v' ∧ Segs w' w.heap.size v' vs M ∧ M.length ≤ 5 ∧ (∀ g ∈ M, GoodSg g) ∧ Below w.heap.size w w' := by
  obtain ⟨ad, n, cap, rfl, hn, hcap, hc⟩ := hv
  have hmx : n ≤ 9223372036854775807 := by unfold maxLen at hcap; omega
  replace hc := Lib.hid hc
  have H0 : Hid (MMr w w (.slice none 0 0) [] [] 0) := ⟨⟨rfl, ⟨rfl, .inl ⟨rfl, rfl⟩⟩, fun i s u hs _ => by simp at hs⟩, rfl, fun g hg => by simp at hg, Below.refl _ _⟩
  go_enter Try.func15, Try.ntmps15
  go_wp2_with fail
  go_loopw [3, 4] (fun mv iv wr => ∃ (i : Nat) (vs : List Value) (M : List Sg), iv = .int .i64 i ∧ i ≤ n ∧ i ≤ 5 ∧ Hid (MMr w wr mv vs M i)) (fun _ iv _ => 5 - (intOf iv).toNat)
  case atStart => exact ⟨0, [], [], rfl, by omega, by omega, H0⟩
  case round =>
    clear H0
    obtain ⟨wo, rfl⟩ : ∃ wo : World, wo = wr := ⟨_, rfl⟩
    obtain ⟨i, vs, M, rfl, hin, hi5, HM⟩ := hrel
    by_cases hlt : i < n ∧ i < 5
    · obtain ⟨hl1, hl2⟩ := hlt
      have hl2' : (i : Int) < 5 := by omega
      obtain ⟨b, o, rfl, hb, no, md, r1, r2, r3, g, u, hu, c0, c1, c2, c3, c4, c5, c6⟩ := hc.out i hl1
      have hbl := HM.out.bl
      replace c0 := (hbl.cell hb).trans c0
      replace c1 := (hbl.cell hb).trans c1
      replace c2 := (hbl.cell hb).trans c2
      replace c3 := (hbl.cell hb).trans c3
      replace c4 := (hbl.cell hb).trans c4
      replace c5 := (hbl.cell hb).trans c5
      replace c6 := (hbl.cell hb).trans c6
      obtain ⟨adw, nw, cw, rfl, hnw, hcw, hww⟩ := hu
      replace hww := Lib.hid hww
      replace hnw := Lib.hid hnw
      replace hcw := Lib.hid hcw
      replace hbl := Lib.hid hbl
      replace hb := Lib.hid hb
      go_upto_region 6 with fail
      obtain ⟨W1, hW1, Q1, B1⟩ : ∃ W, wo.alloc (.cells #[.bool no, .int .i64 md, .int .i64 r1, .int .i64 r2, .int .i64 r3, .int .i64 g, .slice adw nw cw] 87) = W ∧ Hid (blk7 W wo.heap.size 87 (.bool no) (.int .i64 md) (.int .i64 r1) (.int .i64 r2) (.int .i64 r3) (.int .i64 g) (.slice adw nw cw)) ∧ Hid (Below wo.heap.size wo W) := ⟨_, rfl, heap_alloc_new _ _, below_al0 _ _⟩
      rw [hW1]
      clear hW1 c0 c1 c2 c3 c4 c5 c6
      go_cut [6] from 8 to 57 (fun tv wx => ∃ (T : Nat) (is : Bool) (m ga gb gc gd : Int), tv = .pointer (some ⟨T, 0, none⟩) ∧ Hid (blk7 wx T 57 (.bool is) (.slice none 0 0) (.int .i64 m) (.int .i64 ga) (.int .i64 gb) (.int .i64 gc) (.int .i64 gd)) ∧ Hid (GoodSg ⟨is, [], m, ga, gb, gc, gd⟩) ∧ Hid (blk7 wx wo.heap.size 87 (.bool no) (.int .i64 md) (.int .i64 r1) (.int .i64 r2) (.int .i64 r3) (.int .i64 g) (.slice adw nw cw)) ∧ Hid (Below wo.heap.size wo wx) ∧ Hid (wo.heap.size < T))
      case first =>
        have QD : Hid (blk7 W1.drew wo.heap.size 87 (.bool no) (.int .i64 md) (.int .i64 r1) (.int .i64 r2) (.int .i64 r3) (.int .i64 g) (.slice adw nw cw)) := Q1
        have BD : Hid (Below wo.heap.size wo W1.drew) := below_drew B1.out
        have hmd : Hid (0 ≤ md % 8 ∧ md % 8 < 8) := Lib.hid ⟨by omega, by omega⟩
        refine wp_region_held_drew (S := fun w' => Below W1.drew.heap.size W1.drew w') (by kernel_rfl) (Below.refl _ _) (fun hHeld => ?_)
        generalize W1.drew = D at QD BD hHeld ⊢
        have BC := Lib.hid (Below.refl D.heap.size D)
        have hWD : Hid (wo.heap.size < D.heap.size) := QD.out.lt
        clear Q1 B1
        have k0 : ∀ w', Below D.heap.size D w' → w'.cell? ⟨wo.heap.size, 0, none⟩ = some (.bool no) := fun w' h => (show blk7 w' wo.heap.size 87 (.bool no) (.int .i64 md) (.int .i64 r1) (.int .i64 r2) (.int .i64 r3) (.int .i64 g) (.slice adw nw cw) from Off.keeps (.of_below (ex := fun _ => False) h) QD.out id).cell 0
        have k1 : ∀ w', Below D.heap.size D w' → w'.cell? ⟨wo.heap.size, 1, none⟩ = some (.int .i64 md) := fun w' h => (show blk7 w' wo.heap.size 87 (.bool no) (.int .i64 md) (.int .i64 r1) (.int .i64 r2) (.int .i64 r3) (.int .i64 g) (.slice adw nw cw) from Off.keeps (.of_below (ex := fun _ => False) h) QD.out id).cell 1
        have k2 : ∀ w', Below D.heap.size D w' → w'.cell? ⟨wo.heap.size, 2, none⟩ = some (.int .i64 r1) := fun w' h => (show blk7 w' wo.heap.size 87 (.bool no) (.int .i64 md) (.int .i64 r1) (.int .i64 r2) (.int .i64 r3) (.int .i64 g) (.slice adw nw cw) from Off.keeps (.of_below (ex := fun _ => False) h) QD.out id).cell 2
        have k3 : ∀ w', Below D.heap.size D w' → w'.cell? ⟨wo.heap.size, 3, none⟩ = some (.int .i64 r2) := fun w' h => (show blk7 w' wo.heap.size 87 (.bool no) (.int .i64 md) (.int .i64 r1) (.int .i64 r2) (.int .i64 r3) (.int .i64 g) (.slice adw nw cw) from Off.keeps (.of_below (ex := fun _ => False) h) QD.out id).cell 3
        have k4 : ∀ w', Below D.heap.size D w' → w'.cell? ⟨wo.heap.size, 4, none⟩ = some (.int .i64 r3) := fun w' h => (show blk7 w' wo.heap.size 87 (.bool no) (.int .i64 md) (.int .i64 r1) (.int .i64 r2) (.int .i64 r3) (.int .i64 g) (.slice adw nw cw) from Off.keeps (.of_below (ex := fun _ => False) h) QD.out id).cell 4
        have k5 : ∀ w', Below D.heap.size D w' → w'.cell? ⟨wo.heap.size, 5, none⟩ = some (.int .i64 g) := fun w' h => (show blk7 w' wo.heap.size 87 (.bool no) (.int .i64 md) (.int .i64 r1) (.int .i64 r2) (.int .i64 r3) (.int .i64 g) (.slice adw nw cw) from Off.keeps (.of_below (ex := fun _ => False) h) QD.out id).cell 5
        have k6 : ∀ w', Below D.heap.size D w' → w'.cell? ⟨wo.heap.size, 6, none⟩ = some (.slice adw nw cw) := fun w' h => (show blk7 w' wo.heap.size 87 (.bool no) (.int .i64 md) (.int .i64 r1) (.int .i64 r2) (.int .i64 r3) (.int .i64 g) (.slice adw nw cw) from Off.keeps (.of_below (ex := fun _ => False) h) QD.out id).cell 6
        refine wpAnyH_take (i := 0) (oi := ⟨_, _, _, _, _, _⟩) (v := ?_) rfl (by kernel_rfl) (by kernel_rfl) (by kernel_rfl) (fun _ _ _ h => h) (Or.inl ⟨by rfl, ?_⟩) (by assumption) ?_
        rotate_left
        · intro w hSw; (try dsimp only at hSw); go_simp; (try with_reducible rfl)
        try simp only [Act.put, List.setIfInBounds_toArray, List.set_cons_zero, List.set_cons_succ]
        refine wpAnyH_take (i := 1) (oi := ⟨_, _, _, _, _, _⟩) (v := ?_) rfl (by kernel_rfl) (by kernel_rfl) (by kernel_rfl) (fun _ _ _ h => h) (Or.inl ⟨by rfl, ?_⟩) (by assumption) ?_
        rotate_left
        · intro w hSw; (try dsimp only at hSw); go_simp; (try with_reducible rfl)
        try simp only [Act.put, List.setIfInBounds_toArray, List.set_cons_zero, List.set_cons_succ]
        refine wpAnyH_take (i := 2) (oi := ⟨_, _, _, _, _, _⟩) (v := ?_) rfl (by kernel_rfl) (by kernel_rfl) (by kernel_rfl) (fun _ _ _ h => h) (Or.inl ⟨by rfl, ?_⟩) (by assumption) ?_
        rotate_left
        · intro w hSw; (try dsimp only at hSw); go_simp; (try with_reducible rfl)
        try simp only [Act.put, List.setIfInBounds_toArray, List.set_cons_zero, List.set_cons_succ]
        refine wpAnyH_take (i := 3) (oi := ⟨_, _, _, _, _, _⟩) (v := ?_) rfl (by kernel_rfl) (by kernel_rfl) (by kernel_rfl) (fun _ _ _ h => h) (Or.inl ⟨by rfl, ?_⟩) (by assumption) ?_
        rotate_left
        · intro w hSw; (try dsimp only at hSw); go_simp; (try with_reducible rfl)
        try simp only [Act.put, List.setIfInBounds_toArray, List.set_cons_zero, List.set_cons_succ]
        refine wpAnyH_take (i := 4) (oi := ⟨_, _, _, _, _, _⟩) (v := ?_) rfl (by kernel_rfl) (by kernel_rfl) (by kernel_rfl) (fun _ _ _ h => h) (Or.inl ⟨by rfl, ?_⟩) (by assumption) ?_
        rotate_left
        · intro w hSw; (try dsimp only at hSw); go_simp; (try with_reducible rfl)
        try simp only [Act.put, List.setIfInBounds_toArray, List.set_cons_zero, List.set_cons_succ]
        refine wpAnyH_take (i := 6) (oi := ⟨_, _, _, _, _, _⟩) (v := ?_) rfl (by kernel_rfl) (by kernel_rfl) (by kernel_rfl) (fun _ _ _ h => h) (Or.inl ⟨by rfl, ?_⟩) (by assumption) ?_
        rotate_left
        · intro w hSw; (try dsimp only at hSw); go_simp; (try with_reducible rfl)
        try simp only [Act.put, List.setIfInBounds_toArray, List.set_cons_zero, List.set_cons_succ]
        refine wpAnyH_take (i := 7) (oi := ⟨_, _, _, _, _, _⟩) (v := ?_) rfl (by kernel_rfl) (by kernel_rfl) (by kernel_rfl) (fun _ _ _ h => h) (Or.inl ⟨by rfl, ?_⟩) (by assumption) ?_
        rotate_left
        · intro w hSw; (try dsimp only at hSw); go_simp; (try with_reducible rfl)
        try simp only [Act.put, List.setIfInBounds_toArray, List.set_cons_zero, List.set_cons_succ]
        clear k0 k1 k2 k3 k4 k5 k6
        refine wpAnyH_ready (rs := [5, 10]) (by kernel_rfl) (by simp) (AllReadyH.cons (o := ⟨_, _, _, _, _, _⟩) rfl (fun K hK => ?_) (AllReadyH.cons (o := ⟨_, _, _, _, _, _⟩) rfl (fun K hK => ?_) AllReadyH.nil))
        · go_simp
          refine (within16 _ _ (by decide) (by decide) _).mono ?_
          rintro e w2 ⟨rfl, hw2⟩
          subst hw2
          dsimp only
          refine hK.out _ _ ?_ (fun hHeld => ?_)
          · exact BC.out
          clear hK K
          try simp only [Act.put, List.setIfInBounds_toArray, List.set_cons_zero, List.set_cons_succ]
          refine wpAnyH_ready (rs := [8, 10]) (by kernel_rfl) (by simp) (AllReadyH.cons (o := ⟨_, _, _, _, _, _⟩) rfl (fun K hK => ?_) (AllReadyH.cons (o := ⟨_, _, _, _, _, _⟩) rfl (fun K hK => ?_) AllReadyH.nil))
          · go_simp
            refine (Good_some6 r1 r2 r3 g D).mono ?_
            rintro e X1 ⟨ga, gb, gc, gd, rfl, hgg, hb1⟩
            dsimp only
            refine hK.out _ _ ?_ (fun hHeld => ?_)
            · exact below2 BC.out hb1
            clear hK K
            try simp only [Act.put, List.setIfInBounds_toArray, List.set_cons_zero, List.set_cons_succ]
            have GG := Lib.hid hgg
            clear hgg
            replace BC := Lib.hid (below2 BC.out hb1)
            have hz1 := Lib.hid hb1.size
            clear hb1
            refine wpAnyH_take (i := 9) (oi := ⟨_, _, _, _, _, _⟩) (v := ?_) rfl (by kernel_rfl) (by kernel_rfl) (by kernel_rfl) (fun _ _ _ h => h) (Or.inl ⟨by rfl, ?_⟩) (by assumption) ?_
            rotate_left
            · intro w hSw; (try dsimp only at hSw); go_simp; (try with_reducible rfl)
            try simp only [Act.put, List.setIfInBounds_toArray, List.set_cons_zero, List.set_cons_succ]
            refine wpAnyH_ready (rs := [10]) (by kernel_rfl) (by simp) (AllReadyH.cons (o := ⟨_, _, _, _, _, _⟩) rfl (fun K hK => ?_) AllReadyH.nil)
            go_simp
            refine hK.out _ _ ?_ (fun hHeld => ?_)
            · exact below_al BC.out (.cells #[.bool false, .slice none 0 0, .int .i64 0, .int .i64 0, .int .i64 0, .int .i64 0, .int .i64 0] 57)
            clear hK K
            try simp only [Act.put, List.setIfInBounds_toArray, List.set_cons_zero, List.set_cons_succ]
            have hTD : Hid (D.heap.size ≤ X1.heap.size) := BC.out.size
            have hTW : Hid (wo.heap.size < X1.heap.size) := Nat.lt_of_lt_of_le hWD.out hTD.out
            have T := Lib.hid (heap_alloc_new X1 (.cells #[.bool false, .slice none 0 0, .int .i64 0, .int .i64 0, .int .i64 0, .int .i64 0, .int .i64 0] 57))
            replace BC := Lib.hid (below_al BC.out (.cells #[.bool false, .slice none 0 0, .int .i64 0, .int .i64 0, .int .i64 0, .int .i64 0, .int .i64 0] 57))
            have hz2 := Lib.hid (World.size_alloc X1 (.cells #[.bool false, .slice none 0 0, .int .i64 0, .int .i64 0, .int .i64 0, .int .i64 0, .int .i64 0] 57))
            generalize X1.alloc (.cells #[.bool false, .slice none 0 0, .int .i64 0, .int .i64 0, .int .i64 0, .int .i64 0, .int .i64 0] 57) = X2 at hHeld T BC hz2 ⊢
            have t0 : ∀ j, X2.frozen? ⟨X1.heap.size, j, none⟩ = false := fun j => (show blk7 X2 (X1.heap.size) 57 (.bool false) (.slice none 0 0) (.int .i64 0) (.int .i64 0) (.int .i64 0) (.int .i64 0) (.int .i64 0) from T.out).free j
            have tR : X1.heap.size < X2.heap.size := (show blk7 X2 (X1.heap.size) 57 (.bool false) (.slice none 0 0) (.int .i64 0) (.int .i64 0) (.int .i64 0) (.int .i64 0) (.int .i64 0) from T.out).lt
            have u0 : X2.cell? ⟨X1.heap.size, 0, none⟩ = some (.bool false) := (show blk7 X2 (X1.heap.size) 57 (.bool false) (.slice none 0 0) (.int .i64 0) (.int .i64 0) (.int .i64 0) (.int .i64 0) (.int .i64 0) from T.out).cell 0
            have u1 : X2.cell? ⟨X1.heap.size, 1, none⟩ = some (.slice none 0 0) := (show blk7 X2 (X1.heap.size) 57 (.bool false) (.slice none 0 0) (.int .i64 0) (.int .i64 0) (.int .i64 0) (.int .i64 0) (.int .i64 0) from T.out).cell 1
            have u2 : X2.cell? ⟨X1.heap.size, 2, none⟩ = some (.int .i64 0) := (show blk7 X2 (X1.heap.size) 57 (.bool false) (.slice none 0 0) (.int .i64 0) (.int .i64 0) (.int .i64 0) (.int .i64 0) (.int .i64 0) from T.out).cell 2
            have u3 : X2.cell? ⟨X1.heap.size, 3, none⟩ = some (.int .i64 0) := (show blk7 X2 (X1.heap.size) 57 (.bool false) (.slice none 0 0) (.int .i64 0) (.int .i64 0) (.int .i64 0) (.int .i64 0) (.int .i64 0) from T.out).cell 3
            have u4 : X2.cell? ⟨X1.heap.size, 4, none⟩ = some (.int .i64 0) := (show blk7 X2 (X1.heap.size) 57 (.bool false) (.slice none 0 0) (.int .i64 0) (.int .i64 0) (.int .i64 0) (.int .i64 0) (.int .i64 0) from T.out).cell 4
            have u5 : X2.cell? ⟨X1.heap.size, 5, none⟩ = some (.int .i64 0) := (show blk7 X2 (X1.heap.size) 57 (.bool false) (.slice none 0 0) (.int .i64 0) (.int .i64 0) (.int .i64 0) (.int .i64 0) (.int .i64 0) from T.out).cell 5
            have u6 : X2.cell? ⟨X1.heap.size, 6, none⟩ = some (.int .i64 0) := (show blk7 X2 (X1.heap.size) 57 (.bool false) (.slice none 0 0) (.int .i64 0) (.int .i64 0) (.int .i64 0) (.int .i64 0) (.int .i64 0) from T.out).cell 6
            refine wpAnyH_ready (rs := [11]) (by kernel_rfl) (by simp) (AllReadyH.cons (o := ⟨_, _, _, _, _, _⟩) rfl (fun K hK => ?_) AllReadyH.nil)
            go_simp
            have BZ : Hid (Below D.heap.size D (((((((X2.setCell ⟨X1.heap.size, 0, none⟩ (.bool (!no))).setCell ⟨X1.heap.size, 1, none⟩ (.slice none 0 0)).setCell ⟨X1.heap.size, 2, none⟩ (.int .i64 (md % 8))).setCell ⟨X1.heap.size, 3, none⟩ (.int .i64 ga)).setCell ⟨X1.heap.size, 4, none⟩ (.int .i64 gb)).setCell ⟨X1.heap.size, 5, none⟩ (.int .i64 gc)).setCell ⟨X1.heap.size, 6, none⟩ (.int .i64 gd))) := Off.below BC.out (off7 X2 (X1.heap.size) (.bool (!no)) (.slice none 0 0) (.int .i64 (md % 8)) (.int .i64 ga) (.int .i64 gb) (.int .i64 gc) (.int .i64 gd)) BC.out.size (fun k hk => by subst hk; exact hTD.out)
            have TZ := Lib.hid (set7 (show blk7 X2 (X1.heap.size) 57 (.bool false) (.slice none 0 0) (.int .i64 0) (.int .i64 0) (.int .i64 0) (.int .i64 0) (.int .i64 0) from T.out) (.bool (!no)) (.slice none 0 0) (.int .i64 (md % 8)) (.int .i64 ga) (.int .i64 gb) (.int .i64 gc) (.int .i64 gd))
            refine hK.out _ _ ?_ (fun hHeld => ?_)
            · exact BZ.out
            clear hK K
            try simp only [Act.put, List.setIfInBounds_toArray, List.set_cons_zero, List.set_cons_succ]
            clear u0 u1 u2 u3 u4 u5 u6 t0 tR T BC
            generalize (((((((X2.setCell ⟨X1.heap.size, 0, none⟩ (.bool (!no))).setCell ⟨X1.heap.size, 1, none⟩ (.slice none 0 0)).setCell ⟨X1.heap.size, 2, none⟩ (.int .i64 (md % 8))).setCell ⟨X1.heap.size, 3, none⟩ (.int .i64 ga)).setCell ⟨X1.heap.size, 4, none⟩ (.int .i64 gb)).setCell ⟨X1.heap.size, 5, none⟩ (.int .i64 gc)).setCell ⟨X1.heap.size, 6, none⟩ (.int .i64 gd)) = Z at BZ TZ ⊢
            refine wpAnyH_done (by kernel_rfl) ?_ _
            go_wp2_with fail
            go_meet
            case rel => exact ⟨_, _, _, _, _, _, _, rfl, TZ, Lib.hid ⟨by simp, GG.out.1, GG.out.2.1, GG.out.2.2.1, GG.out.2.2.2.1, GG.out.2.2.2.2.1, GG.out.2.2.2.2.2, hmd.out.1, hmd.out.2⟩, Off.keeps (.of_below (ex := fun _ => False) BZ.out) QD.out id, Lib.hid (below2 BD.out BZ.out), hTW⟩
          · go_simp
            refine hK.out _ _ ?_ (fun hHeld => ?_)
            · exact below_al BC.out (.cells #[.bool false, .slice none 0 0, .int .i64 0, .int .i64 0, .int .i64 0, .int .i64 0, .int .i64 0] 57)
            clear hK K
            try simp only [Act.put, List.setIfInBounds_toArray, List.set_cons_zero, List.set_cons_succ]
            have hTD : Hid (D.heap.size ≤ D.heap.size) := BC.out.size
            have hTW : Hid (wo.heap.size < D.heap.size) := Nat.lt_of_lt_of_le hWD.out hTD.out
            have T := Lib.hid (heap_alloc_new D (.cells #[.bool false, .slice none 0 0, .int .i64 0, .int .i64 0, .int .i64 0, .int .i64 0, .int .i64 0] 57))
            replace BC := Lib.hid (below_al BC.out (.cells #[.bool false, .slice none 0 0, .int .i64 0, .int .i64 0, .int .i64 0, .int .i64 0, .int .i64 0] 57))
            have hz1 := Lib.hid (World.size_alloc D (.cells #[.bool false, .slice none 0 0, .int .i64 0, .int .i64 0, .int .i64 0, .int .i64 0, .int .i64 0] 57))
            generalize D.alloc (.cells #[.bool false, .slice none 0 0, .int .i64 0, .int .i64 0, .int .i64 0, .int .i64 0, .int .i64 0] 57) = X1 at hHeld T BC hz1 ⊢
            refine wpAnyH_ready (rs := [8]) (by kernel_rfl) (by simp) (AllReadyH.cons (o := ⟨_, _, _, _, _, _⟩) rfl (fun K hK => ?_) AllReadyH.nil)
            go_simp
            refine (Good_some6 r1 r2 r3 g X1).mono ?_
            rintro e X2 ⟨ga, gb, gc, gd, rfl, hgg, hb1⟩
            dsimp only
            refine hK.out _ _ ?_ (fun hHeld => ?_)
            · exact below2 BC.out hb1
            clear hK K
            try simp only [Act.put, List.setIfInBounds_toArray, List.set_cons_zero, List.set_cons_succ]
            have GG := Lib.hid hgg
            clear hgg
            replace T := Lib.hid (Off.keeps (.of_below (ex := fun _ => False) hb1) T.out id)
            replace BC := Lib.hid (below2 BC.out hb1)
            have hz2 := Lib.hid hb1.size
            clear hb1
            refine wpAnyH_take (i := 9) (oi := ⟨_, _, _, _, _, _⟩) (v := ?_) rfl (by kernel_rfl) (by kernel_rfl) (by kernel_rfl) (fun _ _ _ h => h) (Or.inl ⟨by rfl, ?_⟩) (by assumption) ?_
            rotate_left
            · intro w hSw; (try dsimp only at hSw); go_simp; (try with_reducible rfl)
            try simp only [Act.put, List.setIfInBounds_toArray, List.set_cons_zero, List.set_cons_succ]
            have t0 : ∀ j, X2.frozen? ⟨D.heap.size, j, none⟩ = false := fun j => (show blk7 X2 (D.heap.size) 57 (.bool false) (.slice none 0 0) (.int .i64 0) (.int .i64 0) (.int .i64 0) (.int .i64 0) (.int .i64 0) from T.out).free j
            have tR : D.heap.size < X2.heap.size := (show blk7 X2 (D.heap.size) 57 (.bool false) (.slice none 0 0) (.int .i64 0) (.int .i64 0) (.int .i64 0) (.int .i64 0) (.int .i64 0) from T.out).lt
            have u0 : X2.cell? ⟨D.heap.size, 0, none⟩ = some (.bool false) := (show blk7 X2 (D.heap.size) 57 (.bool false) (.slice none 0 0) (.int .i64 0) (.int .i64 0) (.int .i64 0) (.int .i64 0) (.int .i64 0) from T.out).cell 0
            have u1 : X2.cell? ⟨D.heap.size, 1, none⟩ = some (.slice none 0 0) := (show blk7 X2 (D.heap.size) 57 (.bool false) (.slice none 0 0) (.int .i64 0) (.int .i64 0) (.int .i64 0) (.int .i64 0) (.int .i64 0) from T.out).cell 1
            have u2 : X2.cell? ⟨D.heap.size, 2, none⟩ = some (.int .i64 0) := (show blk7 X2 (D.heap.size) 57 (.bool false) (.slice none 0 0) (.int .i64 0) (.int .i64 0) (.int .i64 0) (.int .i64 0) (.int .i64 0) from T.out).cell 2
            have u3 : X2.cell? ⟨D.heap.size, 3, none⟩ = some (.int .i64 0) := (show blk7 X2 (D.heap.size) 57 (.bool false) (.slice none 0 0) (.int .i64 0) (.int .i64 0) (.int .i64 0) (.int .i64 0) (.int .i64 0) from T.out).cell 3
            have u4 : X2.cell? ⟨D.heap.size, 4, none⟩ = some (.int .i64 0) := (show blk7 X2 (D.heap.size) 57 (.bool false) (.slice none 0 0) (.int .i64 0) (.int .i64 0) (.int .i64 0) (.int .i64 0) (.int .i64 0) from T.out).cell 4
            have u5 : X2.cell? ⟨D.heap.size, 5, none⟩ = some (.int .i64 0) := (show blk7 X2 (D.heap.size) 57 (.bool false) (.slice none 0 0) (.int .i64 0) (.int .i64 0) (.int .i64 0) (.int .i64 0) (.int .i64 0) from T.out).cell 5
            have u6 : X2.cell? ⟨D.heap.size, 6, none⟩ = some (.int .i64 0) := (show blk7 X2 (D.heap.size) 57 (.bool false) (.slice none 0 0) (.int .i64 0) (.int .i64 0) (.int .i64 0) (.int .i64 0) (.int .i64 0) from T.out).cell 6
            refine wpAnyH_ready (rs := [11]) (by kernel_rfl) (by simp) (AllReadyH.cons (o := ⟨_, _, _, _, _, _⟩) rfl (fun K hK => ?_) AllReadyH.nil)
            go_simp
            have BZ : Hid (Below D.heap.size D (((((((X2.setCell ⟨D.heap.size, 0, none⟩ (.bool (!no))).setCell ⟨D.heap.size, 1, none⟩ (.slice none 0 0)).setCell ⟨D.heap.size, 2, none⟩ (.int .i64 (md % 8))).setCell ⟨D.heap.size, 3, none⟩ (.int .i64 ga)).setCell ⟨D.heap.size, 4, none⟩ (.int .i64 gb)).setCell ⟨D.heap.size, 5, none⟩ (.int .i64 gc)).setCell ⟨D.heap.size, 6, none⟩ (.int .i64 gd))) := Off.below BC.out (off7 X2 (D.heap.size) (.bool (!no)) (.slice none 0 0) (.int .i64 (md % 8)) (.int .i64 ga) (.int .i64 gb) (.int .i64 gc) (.int .i64 gd)) BC.out.size (fun k hk => by subst hk; exact hTD.out)
            have TZ := Lib.hid (set7 (show blk7 X2 (D.heap.size) 57 (.bool false) (.slice none 0 0) (.int .i64 0) (.int .i64 0) (.int .i64 0) (.int .i64 0) (.int .i64 0) from T.out) (.bool (!no)) (.slice none 0 0) (.int .i64 (md % 8)) (.int .i64 ga) (.int .i64 gb) (.int .i64 gc) (.int .i64 gd))
            refine hK.out _ _ ?_ (fun hHeld => ?_)
            · exact BZ.out
            clear hK K
            try simp only [Act.put, List.setIfInBounds_toArray, List.set_cons_zero, List.set_cons_succ]
            clear u0 u1 u2 u3 u4 u5 u6 t0 tR T BC
            generalize (((((((X2.setCell ⟨D.heap.size, 0, none⟩ (.bool (!no))).setCell ⟨D.heap.size, 1, none⟩ (.slice none 0 0)).setCell ⟨D.heap.size, 2, none⟩ (.int .i64 (md % 8))).setCell ⟨D.heap.size, 3, none⟩ (.int .i64 ga)).setCell ⟨D.heap.size, 4, none⟩ (.int .i64 gb)).setCell ⟨D.heap.size, 5, none⟩ (.int .i64 gc)).setCell ⟨D.heap.size, 6, none⟩ (.int .i64 gd)) = Z at BZ TZ ⊢
            refine wpAnyH_done (by kernel_rfl) ?_ _
            go_wp2_with fail
            go_meet
            case rel => exact ⟨_, _, _, _, _, _, _, rfl, TZ, Lib.hid ⟨by simp, GG.out.1, GG.out.2.1, GG.out.2.2.1, GG.out.2.2.2.1, GG.out.2.2.2.2.1, GG.out.2.2.2.2.2, hmd.out.1, hmd.out.2⟩, Off.keeps (.of_below (ex := fun _ => False) BZ.out) QD.out id, Lib.hid (below2 BD.out BZ.out), hTW⟩
        · go_simp
          refine hK.out _ _ ?_ (fun hHeld => ?_)
          · exact below_al BC.out (.cells #[.bool false, .slice none 0 0, .int .i64 0, .int .i64 0, .int .i64 0, .int .i64 0, .int .i64 0] 57)
          clear hK K
          try simp only [Act.put, List.setIfInBounds_toArray, List.set_cons_zero, List.set_cons_succ]
          have hTD : Hid (D.heap.size ≤ D.heap.size) := BC.out.size
          have hTW : Hid (wo.heap.size < D.heap.size) := Nat.lt_of_lt_of_le hWD.out hTD.out
          have T := Lib.hid (heap_alloc_new D (.cells #[.bool false, .slice none 0 0, .int .i64 0, .int .i64 0, .int .i64 0, .int .i64 0, .int .i64 0] 57))
          replace BC := Lib.hid (below_al BC.out (.cells #[.bool false, .slice none 0 0, .int .i64 0, .int .i64 0, .int .i64 0, .int .i64 0, .int .i64 0] 57))
          have hz1 := Lib.hid (World.size_alloc D (.cells #[.bool false, .slice none 0 0, .int .i64 0, .int .i64 0, .int .i64 0, .int .i64 0, .int .i64 0] 57))
          generalize D.alloc (.cells #[.bool false, .slice none 0 0, .int .i64 0, .int .i64 0, .int .i64 0, .int .i64 0, .int .i64 0] 57) = X1 at hHeld T BC hz1 ⊢
          refine wpAnyH_ready (rs := [5]) (by kernel_rfl) (by simp) (AllReadyH.cons (o := ⟨_, _, _, _, _, _⟩) rfl (fun K hK => ?_) AllReadyH.nil)
          go_simp
          refine (within16 _ _ (by decide) (by decide) _).mono ?_
          rintro e w2 ⟨rfl, hw2⟩
          subst hw2
          dsimp only
          refine hK.out _ _ ?_ (fun hHeld => ?_)
          · exact BC.out
          clear hK K
          try simp only [Act.put, List.setIfInBounds_toArray, List.set_cons_zero, List.set_cons_succ]
          refine wpAnyH_ready (rs := [8]) (by kernel_rfl) (by simp) (AllReadyH.cons (o := ⟨_, _, _, _, _, _⟩) rfl (fun K hK => ?_) AllReadyH.nil)
          go_simp
          refine (Good_some6 r1 r2 r3 g X1).mono ?_
          rintro e X2 ⟨ga, gb, gc, gd, rfl, hgg, hb1⟩
          dsimp only
          refine hK.out _ _ ?_ (fun hHeld => ?_)
          · exact below2 BC.out hb1
          clear hK K
          try simp only [Act.put, List.setIfInBounds_toArray, List.set_cons_zero, List.set_cons_succ]
          have GG := Lib.hid hgg
          clear hgg
          replace T := Lib.hid (Off.keeps (.of_below (ex := fun _ => False) hb1) T.out id)
          replace BC := Lib.hid (below2 BC.out hb1)
          have hz2 := Lib.hid hb1.size
          clear hb1
          refine wpAnyH_take (i := 9) (oi := ⟨_, _, _, _, _, _⟩) (v := ?_) rfl (by kernel_rfl) (by kernel_rfl) (by kernel_rfl) (fun _ _ _ h => h) (Or.inl ⟨by rfl, ?_⟩) (by assumption) ?_
          rotate_left
          · intro w hSw; (try dsimp only at hSw); go_simp; (try with_reducible rfl)
          try simp only [Act.put, List.setIfInBounds_toArray, List.set_cons_zero, List.set_cons_succ]
          have t0 : ∀ j, X2.frozen? ⟨D.heap.size, j, none⟩ = false := fun j => (show blk7 X2 (D.heap.size) 57 (.bool false) (.slice none 0 0) (.int .i64 0) (.int .i64 0) (.int .i64 0) (.int .i64 0) (.int .i64 0) from T.out).free j
          have tR : D.heap.size < X2.heap.size := (show blk7 X2 (D.heap.size) 57 (.bool false) (.slice none 0 0) (.int .i64 0) (.int .i64 0) (.int .i64 0) (.int .i64 0) (.int .i64 0) from T.out).lt
          have u0 : X2.cell? ⟨D.heap.size, 0, none⟩ = some (.bool false) := (show blk7 X2 (D.heap.size) 57 (.bool false) (.slice none 0 0) (.int .i64 0) (.int .i64 0) (.int .i64 0) (.int .i64 0) (.int .i64 0) from T.out).cell 0
          have u1 : X2.cell? ⟨D.heap.size, 1, none⟩ = some (.slice none 0 0) := (show blk7 X2 (D.heap.size) 57 (.bool false) (.slice none 0 0) (.int .i64 0) (.int .i64 0) (.int .i64 0) (.int .i64 0) (.int .i64 0) from T.out).cell 1
          have u2 : X2.cell? ⟨D.heap.size, 2, none⟩ = some (.int .i64 0) := (show blk7 X2 (D.heap.size) 57 (.bool false) (.slice none 0 0) (.int .i64 0) (.int .i64 0) (.int .i64 0) (.int .i64 0) (.int .i64 0) from T.out).cell 2
          have u3 : X2.cell? ⟨D.heap.size, 3, none⟩ = some (.int .i64 0) := (show blk7 X2 (D.heap.size) 57 (.bool false) (.slice none 0 0) (.int .i64 0) (.int .i64 0) (.int .i64 0) (.int .i64 0) (.int .i64 0) from T.out).cell 3
          have u4 : X2.cell? ⟨D.heap.size, 4, none⟩ = some (.int .i64 0) := (show blk7 X2 (D.heap.size) 57 (.bool false) (.slice none 0 0) (.int .i64 0) (.int .i64 0) (.int .i64 0) (.int .i64 0) (.int .i64 0) from T.out).cell 4
          have u5 : X2.cell? ⟨D.heap.size, 5, none⟩ = some (.int .i64 0) := (show blk7 X2 (D.heap.size) 57 (.bool false) (.slice none 0 0) (.int .i64 0) (.int .i64 0) (.int .i64 0) (.int .i64 0) (.int .i64 0) from T.out).cell 5
          have u6 : X2.cell? ⟨D.heap.size, 6, none⟩ = some (.int .i64 0) := (show blk7 X2 (D.heap.size) 57 (.bool false) (.slice none 0 0) (.int .i64 0) (.int .i64 0) (.int .i64 0) (.int .i64 0) (.int .i64 0) from T.out).cell 6
          refine wpAnyH_ready (rs := [11]) (by kernel_rfl) (by simp) (AllReadyH.cons (o := ⟨_, _, _, _, _, _⟩) rfl (fun K hK => ?_) AllReadyH.nil)
          go_simp
          have BZ : Hid (Below D.heap.size D (((((((X2.setCell ⟨D.heap.size, 0, none⟩ (.bool (!no))).setCell ⟨D.heap.size, 1, none⟩ (.slice none 0 0)).setCell ⟨D.heap.size, 2, none⟩ (.int .i64 (md % 8))).setCell ⟨D.heap.size, 3, none⟩ (.int .i64 ga)).setCell ⟨D.heap.size, 4, none⟩ (.int .i64 gb)).setCell ⟨D.heap.size, 5, none⟩ (.int .i64 gc)).setCell ⟨D.heap.size, 6, none⟩ (.int .i64 gd))) := Off.below BC.out (off7 X2 (D.heap.size) (.bool (!no)) (.slice none 0 0) (.int .i64 (md % 8)) (.int .i64 ga) (.int .i64 gb) (.int .i64 gc) (.int .i64 gd)) BC.out.size (fun k hk => by subst hk; exact hTD.out)
          have TZ := Lib.hid (set7 (show blk7 X2 (D.heap.size) 57 (.bool false) (.slice none 0 0) (.int .i64 0) (.int .i64 0) (.int .i64 0) (.int .i64 0) (.int .i64 0) from T.out) (.bool (!no)) (.slice none 0 0) (.int .i64 (md % 8)) (.int .i64 ga) (.int .i64 gb) (.int .i64 gc) (.int .i64 gd))
          refine hK.out _ _ ?_ (fun hHeld => ?_)
          · exact BZ.out
          clear hK K
          try simp only [Act.put, List.setIfInBounds_toArray, List.set_cons_zero, List.set_cons_succ]
          clear u0 u1 u2 u3 u4 u5 u6 t0 tR T BC
          generalize (((((((X2.setCell ⟨D.heap.size, 0, none⟩ (.bool (!no))).setCell ⟨D.heap.size, 1, none⟩ (.slice none 0 0)).setCell ⟨D.heap.size, 2, none⟩ (.int .i64 (md % 8))).setCell ⟨D.heap.size, 3, none⟩ (.int .i64 ga)).setCell ⟨D.heap.size, 4, none⟩ (.int .i64 gb)).setCell ⟨D.heap.size, 5, none⟩ (.int .i64 gc)).setCell ⟨D.heap.size, 6, none⟩ (.int .i64 gd)) = Z at BZ TZ ⊢
          refine wpAnyH_done (by kernel_rfl) ?_ _
          go_wp2_with fail
          go_meet
          case rel => exact ⟨_, _, _, _, _, _, _, rfl, TZ, Lib.hid ⟨by simp, GG.out.1, GG.out.2.1, GG.out.2.2.1, GG.out.2.2.2.1, GG.out.2.2.2.2.1, GG.out.2.2.2.2.2, hmd.out.1, hmd.out.2⟩, Off.keeps (.of_below (ex := fun _ => False) BZ.out) QD.out id, Lib.hid (below2 BD.out BZ.out), hTW⟩
      case rest =>
        obtain ⟨T, is, m, ga, gb, gc, gd, rfl, GT, GG, QP, BW, hTW⟩ := hcut
        go_wp2_with fail
        have HI0 : Hid (Inr wo wc T is m ga gb gc gd no md r1 r2 r3 g (.slice adw nw cw) [] (.slice none 0 0)) := ⟨GT.out, ⟨rfl, .inl ⟨rfl, rfl⟩⟩, QP.out, BW.out, hTW.out⟩
        clear GT QP BW
        go_loopw [7] (fun kv w2 => ∃ (k : Nat) (ws : List Int) (wv : Value), kv = .int .i64 k ∧ k ≤ nw ∧ k ≤ 16 ∧ ws.length = k ∧ Hid (Inr wo w2 T is m ga gb gc gd no md r1 r2 r3 g (.slice adw nw cw) ws wv)) (fun kv _ => 16 - (intOf kv).toNat)
        case atStart => exact ⟨0, [], _, rfl, by omega, by omega, rfl, HI0⟩
        case round =>
          clear HI0
          obtain ⟨k, ws, wv, rfl, hkn, hk16, hws, HI⟩ := hrel
          replace hws := Lib.hid hws
          have p6 : wr.cell? ⟨wo.heap.size, 6, none⟩ = some (.slice adw nw cw) := HI.out.p.cell 6
          by_cases hk : k < nw ∧ k < 16
          · obtain ⟨hk1, hk2⟩ := hk
            have hk2' : (k : Int) < 16 := by omega
            obtain ⟨b', o', rfl, hb', a0, a1, a2, a3, a4, a5, a6, a7, e0, e1, e2, e3, e4, e5, e6, e7⟩ := hww.out k hk1
            replace hb' := Lib.hid hb'
            go_upto_region 10 with fail
            have QD : Hid (blk7 wr.drew wo.heap.size 87 (.bool no) (.int .i64 md) (.int .i64 r1) (.int .i64 r2) (.int .i64 r3) (.int .i64 g) (.slice (some ⟨b', o', none⟩) nw cw)) := HI.out.p
            have TT : Hid (blk7 wr.drew T 57 (.bool is) wv (.int .i64 m) (.int .i64 ga) (.int .i64 gb) (.int .i64 gc) (.int .i64 gd)) := HI.out.t
            have ROW : Hid (wr.drew.ownsRow (wo.heap.size + 1) 2 1 wv ws.length (ws.map (Value.int .i64))) := HI.out.row
            have BD : Hid (Below wo.heap.size wo wr.drew) := below_drew HI.out.bl
            obtain ⟨i0, hin0, hz0, hz1, hz2⟩ := info_parts A.infoI
            refine wp_region_held_drew (S := fun w' => Off (fun b => wo.heap.size < b) wr.drew w') (by kernel_rfl) (Off.refl _ _) (fun hHeld => ?_)
            generalize wr.drew = D at QD TT ROW BD hHeld ⊢
            have OC : Hid (Off (fun b => wo.heap.size < b) D D) := Off.refl _ _
            clear p6
            have k6 : ∀ w', Off (fun b => wo.heap.size < b) D w' → w'.cell? ⟨wo.heap.size, 6, none⟩ = some (.slice (some ⟨b', o', none⟩) nw cw) := fun w' h => (show blk7 w' wo.heap.size 87 _ _ _ _ _ _ _ from Off.keeps h QD.out (Nat.lt_irrefl _)).cell 6
            have hbw : Hid (b' < wo.heap.size) := Nat.lt_of_lt_of_le hb'.out hbl.out.size
            have l0 : ∀ w', Off (fun b => wo.heap.size < b) D w' → w'.cell? ⟨b', o' + k * 8, none⟩ = some (.int .i64 a0) := fun w' h => off_cell h ((BD.out.cell hbw.out).trans ((hbl.out.cell hb'.out).trans e0)) (by show ¬ wo.heap.size < b'; have := hbw.out; omega)
            have l1 : ∀ w', Off (fun b => wo.heap.size < b) D w' → w'.cell? ⟨b', o' + k * 8 + 1, none⟩ = some (.int .i64 a1) := fun w' h => off_cell h ((BD.out.cell hbw.out).trans ((hbl.out.cell hb'.out).trans e1)) (by show ¬ wo.heap.size < b'; have := hbw.out; omega)
            have l2 : ∀ w', Off (fun b => wo.heap.size < b) D w' → w'.cell? ⟨b', o' + k * 8 + 2, none⟩ = some (.int .i64 a2) := fun w' h => off_cell h ((BD.out.cell hbw.out).trans ((hbl.out.cell hb'.out).trans e2)) (by show ¬ wo.heap.size < b'; have := hbw.out; omega)
            have l3 : ∀ w', Off (fun b => wo.heap.size < b) D w' → w'.cell? ⟨b', o' + k * 8 + 3, none⟩ = some (.int .i64 a3) := fun w' h => off_cell h ((BD.out.cell hbw.out).trans ((hbl.out.cell hb'.out).trans e3)) (by show ¬ wo.heap.size < b'; have := hbw.out; omega)
            have l4 : ∀ w', Off (fun b => wo.heap.size < b) D w' → w'.cell? ⟨b', o' + k * 8 + 4, none⟩ = some (.int .i64 a4) := fun w' h => off_cell h ((BD.out.cell hbw.out).trans ((hbl.out.cell hb'.out).trans e4)) (by show ¬ wo.heap.size < b'; have := hbw.out; omega)
            have l5 : ∀ w', Off (fun b => wo.heap.size < b) D w' → w'.cell? ⟨b', o' + k * 8 + 5, none⟩ = some (.int .i64 a5) := fun w' h => off_cell h ((BD.out.cell hbw.out).trans ((hbl.out.cell hb'.out).trans e5)) (by show ¬ wo.heap.size < b'; have := hbw.out; omega)
            have l6 : ∀ w', Off (fun b => wo.heap.size < b) D w' → w'.cell? ⟨b', o' + k * 8 + 6, none⟩ = some (.int .i64 a6) := fun w' h => off_cell h ((BD.out.cell hbw.out).trans ((hbl.out.cell hb'.out).trans e6)) (by show ¬ wo.heap.size < b'; have := hbw.out; omega)
            have l7 : ∀ w', Off (fun b => wo.heap.size < b) D w' → w'.cell? ⟨b', o' + k * 8 + 7, none⟩ = some (.int .i64 a7) := fun w' h => off_cell h ((BD.out.cell hbw.out).trans ((hbl.out.cell hb'.out).trans e7)) (by show ¬ wo.heap.size < b'; have := hbw.out; omega)
            refine wpAnyH_take (i := 0) (oi := ⟨_, _, _, _, _, _⟩) (v := ?_) rfl (by kernel_rfl) (by kernel_rfl) (by kernel_rfl) (fun _ _ _ h => h) (Or.inl ⟨by rfl, ?_⟩) (by assumption) ?_
            rotate_left
            · intro w hSw; (try dsimp only at hSw); go_simp; (try with_reducible rfl)
            try simp only [Act.put, List.setIfInBounds_toArray, List.set_cons_zero, List.set_cons_succ]
            refine wpAnyH_take (i := 2) (oi := ⟨_, _, _, _, _, _⟩) (v := ?_) rfl (by kernel_rfl) (by kernel_rfl) (by kernel_rfl) (fun _ _ _ h => h) (Or.inl ⟨by rfl, ?_⟩) (by assumption) ?_
            rotate_left
            · intro w hSw; (try dsimp only at hSw); go_simp; (try with_reducible rfl)
            try simp only [Act.put, List.setIfInBounds_toArray, List.set_cons_zero, List.set_cons_succ]
            refine wpAnyH_take (i := 3) (oi := ⟨_, _, _, _, _, _⟩) (v := ?_) rfl (by kernel_rfl) (by kernel_rfl) (by kernel_rfl) (fun _ _ _ h => h) (Or.inl ⟨by rfl, ?_⟩) (by assumption) ?_
            rotate_left
            · intro w hSw; (try dsimp only at hSw); go_simp; (try with_reducible rfl)
            try simp only [Act.put, List.setIfInBounds_toArray, List.set_cons_zero, List.set_cons_succ]
            refine wpAnyH_take (i := 4) (oi := ⟨_, _, _, _, _, _⟩) (v := ?_) rfl (by kernel_rfl) (by kernel_rfl) (by kernel_rfl) (fun _ _ _ h => h) (Or.inl ⟨by rfl, ?_⟩) (by assumption) ?_
            rotate_left
            · intro w hSw; (try dsimp only at hSw); go_simp; (try with_reducible rfl)
            try simp only [Act.put, List.setIfInBounds_toArray, List.set_cons_zero, List.set_cons_succ]
            refine wpAnyH_take (i := 5) (oi := ⟨_, _, _, _, _, _⟩) (v := ?_) rfl (by kernel_rfl) (by kernel_rfl) (by kernel_rfl) (fun _ _ _ h => h) (Or.inl ⟨by rfl, ?_⟩) (by assumption) ?_
            rotate_left
            · intro w hSw; (try dsimp only at hSw); go_simp; (try with_reducible rfl)
            try simp only [Act.put, List.setIfInBounds_toArray, List.set_cons_zero, List.set_cons_succ]
            refine wpAnyH_take (i := 6) (oi := ⟨_, _, _, _, _, _⟩) (v := ?_) rfl (by kernel_rfl) (by kernel_rfl) (by kernel_rfl) (fun _ _ _ h => h) (Or.inl ⟨by rfl, ?_⟩) (by assumption) ?_
            rotate_left
            · intro w hSw; (try dsimp only at hSw); go_simp; (try with_reducible rfl)
            try simp only [Act.put, List.setIfInBounds_toArray, List.set_cons_zero, List.set_cons_succ]
            clear k6 l0 l1 l2 l3 l4 l5 l6 l7
            have hDs : Hid (D.heap.size ≤ D.heap.size) := Nat.le_refl _
            have hWD : Hid (wo.heap.size < D.heap.size) := QD.out.lt
            refine wpAnyH_ready (rs := [1, 7]) (by kernel_rfl) (by simp) (AllReadyH.cons (o := ⟨_, _, _, _, _, _⟩) rfl (fun K hK => ?_) (AllReadyH.cons (o := ⟨_, _, _, _, _, _⟩) rfl (fun K hK => ?_) AllReadyH.nil))
            · have tc : D.cell? ⟨T, 1, none⟩ = some wv := (show blk7 D T 57 (.bool is) wv (.int .i64 m) (.int .i64 ga) (.int .i64 gb) (.int .i64 gc) (.int .i64 gd) from TT.out).cell 1
              go_simp
              clear tc
              refine hK.out _ _ ?_ (fun hHeld => ?_)
              · exact OC.out
              clear hK K
              try simp only [Act.put, List.setIfInBounds_toArray, List.set_cons_zero, List.set_cons_succ]
              refine wpAnyH_ready (rs := [7]) (by kernel_rfl) (by simp) (AllReadyH.cons (o := ⟨_, _, _, _, _, _⟩) rfl (fun K hK => ?_) AllReadyH.nil)
              go_simp
              refine (c_word a0 a1 a2 a3 a4 a5 a6 a7 D).mono ?_
              rintro e X1 ⟨⟨y, rfl⟩, hb1⟩
              dsimp only
              have OX : Hid (Off (fun b => wo.heap.size < b) D X1) := OC.out.trans (.of_below hb1)
              refine hK.out _ _ ?_ (fun hHeld => ?_)
              · exact OX.out
              clear hK K
              try simp only [Act.put, List.setIfInBounds_toArray, List.set_cons_zero, List.set_cons_succ]
              replace TT := Lib.hid (Off.keeps (ex := fun _ => False) (.of_below hb1) TT.out id)
              replace ROW := Lib.hid (Off.row (ex := fun _ => False) (.of_below hb1) ROW.out (fun _ h => h.elim))
              replace hDs : Hid (D.heap.size ≤ X1.heap.size) := Nat.le_trans hDs.out hb1.size
              replace OC := OX
              clear OX hb1
              refine wpAnyH_ready (rs := [8]) (by kernel_rfl) (by simp) (AllReadyH.cons (o := ⟨_, _, _, _, _, _⟩) rfl (fun K hK => ?_) AllReadyH.nil)
              go_simp
              have OX : Hid (Off (fun b => wo.heap.size < b) D (X1.alloc (.cells #[.int .i64 y] 2))) := OC.out.alloc _
              refine hK.out _ _ ?_ (fun hHeld => ?_)
              · exact OX.out
              clear hK K
              try simp only [Act.put, List.setIfInBounds_toArray, List.set_cons_zero, List.set_cons_succ]
              replace TT := Lib.hid (Off.keeps (ex := fun _ => False) ((Off.refl _ _).alloc (.cells #[.int .i64 y] 2)) TT.out id)
              replace ROW := Lib.hid (Off.row (ex := fun _ => False) ((Off.refl _ _).alloc (.cells #[.int .i64 y] 2)) ROW.out (fun _ h => h.elim))
              have I := Lib.hid (heap_alloc_new X1 (.cells #[.int .i64 y] 2))
              replace hDs : Hid (D.heap.size ≤ (X1.alloc (.cells #[.int .i64 y] 2)).heap.size) := Nat.le_trans hDs.out (by simp)
              replace OC := OX
              clear OX
              generalize X1.alloc (.cells #[.int .i64 y] 2) = X2 at hHeld TT ROW I OC hDs ⊢
              refine wpAnyH_ready (rs := [9]) (by kernel_rfl) (by simp) (AllReadyH.cons (o := ⟨_, _, _, _, _, _⟩) rfl (fun K hK => ?_) AllReadyH.nil)
              rw [if_pos (by rfl)]
              refine wp_append_own _ (.tmp 44) (.tmp 51) 53 rfl (wo.heap.size + 1) 2 i0 (.int .i64 0) 1 8 A.underI hin0 hz0 hz1 hz2 rfl (by decide) wv ws.length (ws.map (Value.int .i64)) rfl ROW.out ⟨X1.heap.size, 0, none⟩ 1 1 [.int .i64 y] rfl rfl (fun j u hj => (by match j, hj with | 0, hj => (cases hj; exact cell_of_row _ _ 0 _ _ _ I.out) | (q + 1), hj => simp at hj)) (by simp [Value.oneCell']) (by have := hws.out; unfold maxLen; omega) (by have := hws.out; omega) (by have h1 := hDs.out; have h2 := hWD.out; omega) ?_
              intro v' X3 hown hgrow _
              obtain ⟨g', c', hv'⟩ := row_some hown (by omega)
              subst hv'
              have OX : Hid (Off (fun b => wo.heap.size < b) D X3) := OC.out.grown hgrow (fun k hk => .inl (by have h1 := (ROW.out.lt k hk).1; show wo.heap.size < k; omega))
              have TN : Hid (blk7 X3 T 57 (.bool is) wv (.int .i64 m) (.int .i64 ga) (.int .i64 gb) (.int .i64 gc) (.int .i64 gd)) := Lib.hid ((hgrow.block T (Array.getElem?_eq_some_iff.1 TT.out).1 (fun e => row_new ROW.out TT.out (by decide) e.symm rfl)).trans TT.out)
              have ROWN := Lib.hid hown
              refine hK.out _ _ ?_ (fun hHeld => ?_)
              · exact OX.out
              clear hK K hown hgrow TT ROW OC I
              try simp only [Act.put, List.setIfInBounds_toArray, List.set_cons_zero, List.set_cons_succ]
              refine wpAnyH_take (i := 10) (oi := ⟨_, _, _, _, _, _⟩) (v := ?_) rfl (by kernel_rfl) (by kernel_rfl) (by kernel_rfl) (fun _ _ _ h => h) (Or.inl ⟨by rfl, ?_⟩) (by assumption) ?_
              rotate_left
              · intro w hSw; (try dsimp only at hSw); go_simp; (try with_reducible rfl)
              try simp only [Act.put, List.setIfInBounds_toArray, List.set_cons_zero, List.set_cons_succ]
              have t1 : X3.cell? ⟨T, 1, none⟩ = some wv := TN.out.cell 1
              have tf : ∀ j, X3.frozen? ⟨T, j, none⟩ = false := fun j => TN.out.free j
              have tR : T < X3.heap.size := TN.out.lt
              refine wpAnyH_ready (rs := [11]) (by kernel_rfl) (by simp) (AllReadyH.cons (o := ⟨_, _, _, _, _, _⟩) rfl (fun K hK => ?_) AllReadyH.nil)
              go_simp
              have OZ : Hid (Off (fun b => wo.heap.size < b) D (X3.setCell ⟨T, 1, none⟩ (.slice (some ⟨g', 0, none⟩) (ws.length + 1) c'))) := OX.out.setCell (.inl hTW.out) _
              have TZ : Hid (blk7 (X3.setCell ⟨T, 1, none⟩ (.slice (some ⟨g', 0, none⟩) (ws.length + 1) c')) T 57 (.bool is) (.slice (some ⟨g', 0, none⟩) (ws.length + 1) c') (.int .i64 m) (.int .i64 ga) (.int .i64 gb) (.int .i64 gc) (.int .i64 gd)) := TN.out.set1 _
              have RZ : Hid ((X3.setCell ⟨T, 1, none⟩ (.slice (some ⟨g', 0, none⟩) (ws.length + 1) c')).ownsRow (wo.heap.size + 1) 2 1 (.slice (some ⟨g', 0, none⟩) (ws.length + 1) c') (ws.length + 1) (ws.map (Value.int .i64) ++ [.int .i64 y])) := Off.row (off1 X3 T 1 (.slice (some ⟨g', 0, none⟩) (ws.length + 1) c')) ROWN.out (fun j hj cs hc => (by subst hj; have h2 := (show X3.heap[j]? = _ from TN.out).symm.trans hc; simp at h2))
              refine hK.out _ _ ?_ (fun hHeld => ?_)
              · exact OZ.out
              clear hK K
              try simp only [Act.put, List.setIfInBounds_toArray, List.set_cons_zero, List.set_cons_succ]
              clear t1 tf tR TN ROWN OX
              generalize X3.setCell ⟨T, 1, none⟩ (.slice (some ⟨g', 0, none⟩) (ws.length + 1) c') = Z at OZ TZ RZ ⊢
              refine wpAnyH_done (by kernel_rfl) ?_ _
              go_wp2_with fail
              go_roundw
              case rel => exact ⟨k + 1, ws ++ [y], _, by go_num, by omega, by omega, by simp [hws.out], Lib.hid ⟨TZ.out, by have h := RZ.out; simpa using h, Off.keeps OZ.out QD.out (Nat.lt_irrefl _), BD.out.trans ⟨OZ.out.os, OZ.out.tape, OZ.out.output, OZ.out.size, fun j hj => OZ.out.block j (Nat.lt_of_lt_of_le hj BD.out.size) (by show ¬ wo.heap.size < j; omega)⟩, hTW.out⟩⟩
              case measure => simp [intOf]; omega
            · go_simp
              refine (c_word a0 a1 a2 a3 a4 a5 a6 a7 D).mono ?_
              rintro e X1 ⟨⟨y, rfl⟩, hb1⟩
              dsimp only
              have OX : Hid (Off (fun b => wo.heap.size < b) D X1) := OC.out.trans (.of_below hb1)
              refine hK.out _ _ ?_ (fun hHeld => ?_)
              · exact OX.out
              clear hK K
              try simp only [Act.put, List.setIfInBounds_toArray, List.set_cons_zero, List.set_cons_succ]
              replace TT := Lib.hid (Off.keeps (ex := fun _ => False) (.of_below hb1) TT.out id)
              replace ROW := Lib.hid (Off.row (ex := fun _ => False) (.of_below hb1) ROW.out (fun _ h => h.elim))
              replace hDs : Hid (D.heap.size ≤ X1.heap.size) := Nat.le_trans hDs.out hb1.size
              replace OC := OX
              clear OX hb1
              refine wpAnyH_ready (rs := [1, 8]) (by kernel_rfl) (by simp) (AllReadyH.cons (o := ⟨_, _, _, _, _, _⟩) rfl (fun K hK => ?_) (AllReadyH.cons (o := ⟨_, _, _, _, _, _⟩) rfl (fun K hK => ?_) AllReadyH.nil))
              · have tc : X1.cell? ⟨T, 1, none⟩ = some wv := (show blk7 X1 T 57 (.bool is) wv (.int .i64 m) (.int .i64 ga) (.int .i64 gb) (.int .i64 gc) (.int .i64 gd) from TT.out).cell 1
                go_simp
                clear tc
                refine hK.out _ _ ?_ (fun hHeld => ?_)
                · exact OC.out
                clear hK K
                try simp only [Act.put, List.setIfInBounds_toArray, List.set_cons_zero, List.set_cons_succ]
                refine wpAnyH_ready (rs := [8]) (by kernel_rfl) (by simp) (AllReadyH.cons (o := ⟨_, _, _, _, _, _⟩) rfl (fun K hK => ?_) AllReadyH.nil)
                go_simp
                have OX : Hid (Off (fun b => wo.heap.size < b) D (X1.alloc (.cells #[.int .i64 y] 2))) := OC.out.alloc _
                refine hK.out _ _ ?_ (fun hHeld => ?_)
                · exact OX.out
                clear hK K
                try simp only [Act.put, List.setIfInBounds_toArray, List.set_cons_zero, List.set_cons_succ]
                replace TT := Lib.hid (Off.keeps (ex := fun _ => False) ((Off.refl _ _).alloc (.cells #[.int .i64 y] 2)) TT.out id)
                replace ROW := Lib.hid (Off.row (ex := fun _ => False) ((Off.refl _ _).alloc (.cells #[.int .i64 y] 2)) ROW.out (fun _ h => h.elim))
                have I := Lib.hid (heap_alloc_new X1 (.cells #[.int .i64 y] 2))
                replace hDs : Hid (D.heap.size ≤ (X1.alloc (.cells #[.int .i64 y] 2)).heap.size) := Nat.le_trans hDs.out (by simp)
                replace OC := OX
                clear OX
                generalize X1.alloc (.cells #[.int .i64 y] 2) = X2 at hHeld TT ROW I OC hDs ⊢
                refine wpAnyH_ready (rs := [9]) (by kernel_rfl) (by simp) (AllReadyH.cons (o := ⟨_, _, _, _, _, _⟩) rfl (fun K hK => ?_) AllReadyH.nil)
                rw [if_pos (by rfl)]
                refine wp_append_own _ (.tmp 44) (.tmp 51) 53 rfl (wo.heap.size + 1) 2 i0 (.int .i64 0) 1 8 A.underI hin0 hz0 hz1 hz2 rfl (by decide) wv ws.length (ws.map (Value.int .i64)) rfl ROW.out ⟨X1.heap.size, 0, none⟩ 1 1 [.int .i64 y] rfl rfl (fun j u hj => (by match j, hj with | 0, hj => (cases hj; exact cell_of_row _ _ 0 _ _ _ I.out) | (q + 1), hj => simp at hj)) (by simp [Value.oneCell']) (by have := hws.out; unfold maxLen; omega) (by have := hws.out; omega) (by have h1 := hDs.out; have h2 := hWD.out; omega) ?_
                intro v' X3 hown hgrow _
                obtain ⟨g', c', hv'⟩ := row_some hown (by omega)
                subst hv'
                have OX : Hid (Off (fun b => wo.heap.size < b) D X3) := OC.out.grown hgrow (fun k hk => .inl (by have h1 := (ROW.out.lt k hk).1; show wo.heap.size < k; omega))
                have TN : Hid (blk7 X3 T 57 (.bool is) wv (.int .i64 m) (.int .i64 ga) (.int .i64 gb) (.int .i64 gc) (.int .i64 gd)) := Lib.hid ((hgrow.block T (Array.getElem?_eq_some_iff.1 TT.out).1 (fun e => row_new ROW.out TT.out (by decide) e.symm rfl)).trans TT.out)
                have ROWN := Lib.hid hown
                refine hK.out _ _ ?_ (fun hHeld => ?_)
                · exact OX.out
                clear hK K hown hgrow TT ROW OC I
                try simp only [Act.put, List.setIfInBounds_toArray, List.set_cons_zero, List.set_cons_succ]
                refine wpAnyH_take (i := 10) (oi := ⟨_, _, _, _, _, _⟩) (v := ?_) rfl (by kernel_rfl) (by kernel_rfl) (by kernel_rfl) (fun _ _ _ h => h) (Or.inl ⟨by rfl, ?_⟩) (by assumption) ?_
                rotate_left
                · intro w hSw; (try dsimp only at hSw); go_simp; (try with_reducible rfl)
                try simp only [Act.put, List.setIfInBounds_toArray, List.set_cons_zero, List.set_cons_succ]
                have t1 : X3.cell? ⟨T, 1, none⟩ = some wv := TN.out.cell 1
                have tf : ∀ j, X3.frozen? ⟨T, j, none⟩ = false := fun j => TN.out.free j
                have tR : T < X3.heap.size := TN.out.lt
                refine wpAnyH_ready (rs := [11]) (by kernel_rfl) (by simp) (AllReadyH.cons (o := ⟨_, _, _, _, _, _⟩) rfl (fun K hK => ?_) AllReadyH.nil)
                go_simp
                have OZ : Hid (Off (fun b => wo.heap.size < b) D (X3.setCell ⟨T, 1, none⟩ (.slice (some ⟨g', 0, none⟩) (ws.length + 1) c'))) := OX.out.setCell (.inl hTW.out) _
                have TZ : Hid (blk7 (X3.setCell ⟨T, 1, none⟩ (.slice (some ⟨g', 0, none⟩) (ws.length + 1) c')) T 57 (.bool is) (.slice (some ⟨g', 0, none⟩) (ws.length + 1) c') (.int .i64 m) (.int .i64 ga) (.int .i64 gb) (.int .i64 gc) (.int .i64 gd)) := TN.out.set1 _
                have RZ : Hid ((X3.setCell ⟨T, 1, none⟩ (.slice (some ⟨g', 0, none⟩) (ws.length + 1) c')).ownsRow (wo.heap.size + 1) 2 1 (.slice (some ⟨g', 0, none⟩) (ws.length + 1) c') (ws.length + 1) (ws.map (Value.int .i64) ++ [.int .i64 y])) := Off.row (off1 X3 T 1 (.slice (some ⟨g', 0, none⟩) (ws.length + 1) c')) ROWN.out (fun j hj cs hc => (by subst hj; have h2 := (show X3.heap[j]? = _ from TN.out).symm.trans hc; simp at h2))
                refine hK.out _ _ ?_ (fun hHeld => ?_)
                · exact OZ.out
                clear hK K
                try simp only [Act.put, List.setIfInBounds_toArray, List.set_cons_zero, List.set_cons_succ]
                clear t1 tf tR TN ROWN OX
                generalize X3.setCell ⟨T, 1, none⟩ (.slice (some ⟨g', 0, none⟩) (ws.length + 1) c') = Z at OZ TZ RZ ⊢
                refine wpAnyH_done (by kernel_rfl) ?_ _
                go_wp2_with fail
                go_roundw
                case rel => exact ⟨k + 1, ws ++ [y], _, by go_num, by omega, by omega, by simp [hws.out], Lib.hid ⟨TZ.out, by have h := RZ.out; simpa using h, Off.keeps OZ.out QD.out (Nat.lt_irrefl _), BD.out.trans ⟨OZ.out.os, OZ.out.tape, OZ.out.output, OZ.out.size, fun j hj => OZ.out.block j (Nat.lt_of_lt_of_le hj BD.out.size) (by show ¬ wo.heap.size < j; omega)⟩, hTW.out⟩⟩
                case measure => simp [intOf]; omega
              · go_simp
                have OX : Hid (Off (fun b => wo.heap.size < b) D (X1.alloc (.cells #[.int .i64 y] 2))) := OC.out.alloc _
                refine hK.out _ _ ?_ (fun hHeld => ?_)
                · exact OX.out
                clear hK K
                try simp only [Act.put, List.setIfInBounds_toArray, List.set_cons_zero, List.set_cons_succ]
                replace TT := Lib.hid (Off.keeps (ex := fun _ => False) ((Off.refl _ _).alloc (.cells #[.int .i64 y] 2)) TT.out id)
                replace ROW := Lib.hid (Off.row (ex := fun _ => False) ((Off.refl _ _).alloc (.cells #[.int .i64 y] 2)) ROW.out (fun _ h => h.elim))
                have I := Lib.hid (heap_alloc_new X1 (.cells #[.int .i64 y] 2))
                replace hDs : Hid (D.heap.size ≤ (X1.alloc (.cells #[.int .i64 y] 2)).heap.size) := Nat.le_trans hDs.out (by simp)
                replace OC := OX
                clear OX
                generalize X1.alloc (.cells #[.int .i64 y] 2) = X2 at hHeld TT ROW I OC hDs ⊢
                refine wpAnyH_ready (rs := [1]) (by kernel_rfl) (by simp) (AllReadyH.cons (o := ⟨_, _, _, _, _, _⟩) rfl (fun K hK => ?_) AllReadyH.nil)
                have tc : X2.cell? ⟨T, 1, none⟩ = some wv := (show blk7 X2 T 57 (.bool is) wv (.int .i64 m) (.int .i64 ga) (.int .i64 gb) (.int .i64 gc) (.int .i64 gd) from TT.out).cell 1
                go_simp
                clear tc
                refine hK.out _ _ ?_ (fun hHeld => ?_)
                · exact OC.out
                clear hK K
                try simp only [Act.put, List.setIfInBounds_toArray, List.set_cons_zero, List.set_cons_succ]
                refine wpAnyH_ready (rs := [9]) (by kernel_rfl) (by simp) (AllReadyH.cons (o := ⟨_, _, _, _, _, _⟩) rfl (fun K hK => ?_) AllReadyH.nil)
                rw [if_pos (by rfl)]
                refine wp_append_own _ (.tmp 44) (.tmp 51) 53 rfl (wo.heap.size + 1) 2 i0 (.int .i64 0) 1 8 A.underI hin0 hz0 hz1 hz2 rfl (by decide) wv ws.length (ws.map (Value.int .i64)) rfl ROW.out ⟨X1.heap.size, 0, none⟩ 1 1 [.int .i64 y] rfl rfl (fun j u hj => (by match j, hj with | 0, hj => (cases hj; exact cell_of_row _ _ 0 _ _ _ I.out) | (q + 1), hj => simp at hj)) (by simp [Value.oneCell']) (by have := hws.out; unfold maxLen; omega) (by have := hws.out; omega) (by have h1 := hDs.out; have h2 := hWD.out; omega) ?_
                intro v' X3 hown hgrow _
                obtain ⟨g', c', hv'⟩ := row_some hown (by omega)
                subst hv'
                have OX : Hid (Off (fun b => wo.heap.size < b) D X3) := OC.out.grown hgrow (fun k hk => .inl (by have h1 := (ROW.out.lt k hk).1; show wo.heap.size < k; omega))
                have TN : Hid (blk7 X3 T 57 (.bool is) wv (.int .i64 m) (.int .i64 ga) (.int .i64 gb) (.int .i64 gc) (.int .i64 gd)) := Lib.hid ((hgrow.block T (Array.getElem?_eq_some_iff.1 TT.out).1 (fun e => row_new ROW.out TT.out (by decide) e.symm rfl)).trans TT.out)
                have ROWN := Lib.hid hown
                refine hK.out _ _ ?_ (fun hHeld => ?_)
                · exact OX.out
                clear hK K hown hgrow TT ROW OC I
                try simp only [Act.put, List.setIfInBounds_toArray, List.set_cons_zero, List.set_cons_succ]
                refine wpAnyH_take (i := 10) (oi := ⟨_, _, _, _, _, _⟩) (v := ?_) rfl (by kernel_rfl) (by kernel_rfl) (by kernel_rfl) (fun _ _ _ h => h) (Or.inl ⟨by rfl, ?_⟩) (by assumption) ?_
                rotate_left
                · intro w hSw; (try dsimp only at hSw); go_simp; (try with_reducible rfl)
                try simp only [Act.put, List.setIfInBounds_toArray, List.set_cons_zero, List.set_cons_succ]
                have t1 : X3.cell? ⟨T, 1, none⟩ = some wv := TN.out.cell 1
                have tf : ∀ j, X3.frozen? ⟨T, j, none⟩ = false := fun j => TN.out.free j
                have tR : T < X3.heap.size := TN.out.lt
                refine wpAnyH_ready (rs := [11]) (by kernel_rfl) (by simp) (AllReadyH.cons (o := ⟨_, _, _, _, _, _⟩) rfl (fun K hK => ?_) AllReadyH.nil)
                go_simp
                have OZ : Hid (Off (fun b => wo.heap.size < b) D (X3.setCell ⟨T, 1, none⟩ (.slice (some ⟨g', 0, none⟩) (ws.length + 1) c'))) := OX.out.setCell (.inl hTW.out) _
                have TZ : Hid (blk7 (X3.setCell ⟨T, 1, none⟩ (.slice (some ⟨g', 0, none⟩) (ws.length + 1) c')) T 57 (.bool is) (.slice (some ⟨g', 0, none⟩) (ws.length + 1) c') (.int .i64 m) (.int .i64 ga) (.int .i64 gb) (.int .i64 gc) (.int .i64 gd)) := TN.out.set1 _
                have RZ : Hid ((X3.setCell ⟨T, 1, none⟩ (.slice (some ⟨g', 0, none⟩) (ws.length + 1) c')).ownsRow (wo.heap.size + 1) 2 1 (.slice (some ⟨g', 0, none⟩) (ws.length + 1) c') (ws.length + 1) (ws.map (Value.int .i64) ++ [.int .i64 y])) := Off.row (off1 X3 T 1 (.slice (some ⟨g', 0, none⟩) (ws.length + 1) c')) ROWN.out (fun j hj cs hc => (by subst hj; have h2 := (show X3.heap[j]? = _ from TN.out).symm.trans hc; simp at h2))
                refine hK.out _ _ ?_ (fun hHeld => ?_)
                · exact OZ.out
                clear hK K
                try simp only [Act.put, List.setIfInBounds_toArray, List.set_cons_zero, List.set_cons_succ]
                clear t1 tf tR TN ROWN OX
                generalize X3.setCell ⟨T, 1, none⟩ (.slice (some ⟨g', 0, none⟩) (ws.length + 1) c') = Z at OZ TZ RZ ⊢
                refine wpAnyH_done (by kernel_rfl) ?_ _
                go_wp2_with fail
                go_roundw
                case rel => exact ⟨k + 1, ws ++ [y], _, by go_num, by omega, by omega, by simp [hws.out], Lib.hid ⟨TZ.out, by have h := RZ.out; simpa using h, Off.keeps OZ.out QD.out (Nat.lt_irrefl _), BD.out.trans ⟨OZ.out.os, OZ.out.tape, OZ.out.output, OZ.out.size, fun j hj => OZ.out.block j (Nat.lt_of_lt_of_le hj BD.out.size) (by show ¬ wo.heap.size < j; omega)⟩, hTW.out⟩⟩
                case measure => simp [intOf]; omega
          · have hkk := Lib.hid hk
            clear hk
            replace hk := hkk.out
            clear hkk
            have hrow : Hid ((wr.alloc (.cells #[.bool is, wv, .int .i64 m, .int .i64 ga, .int .i64 gb, .int .i64 gc, .int .i64 gd] 57)).ownsRow w.heap.size 57 7 _ M.length (rows M vs)) := Off.row (ex := fun _ => False) ((Off.of_below HI.out.bl).trans ((Off.refl _ _).alloc _)) HM.out.segs.row (fun _ h => h.elim)
            have hone : Hid (wv.oneCell' = true) := by obtain ⟨x1, x2, x3, _⟩ := row_shape HI.out.row; subst x3; rfl
            obtain ⟨iG, hiG, hg0, hg1, hg2⟩ := info_parts A.infoG
            have s0 : wr.cell? ⟨T, 0, none⟩ = some (.bool is) := HI.out.t.cell 0
            have s1 : wr.cell? ⟨T, 1, none⟩ = some wv := HI.out.t.cell 1
            have s2 : wr.cell? ⟨T, 2, none⟩ = some (.int .i64 m) := HI.out.t.cell 2
            have s3 : wr.cell? ⟨T, 3, none⟩ = some (.int .i64 ga) := HI.out.t.cell 3
            have s4 : wr.cell? ⟨T, 4, none⟩ = some (.int .i64 gb) := HI.out.t.cell 4
            have s5 : wr.cell? ⟨T, 5, none⟩ = some (.int .i64 gc) := HI.out.t.cell 5
            have s6 : wr.cell? ⟨T, 6, none⟩ = some (.int .i64 gd) := HI.out.t.cell 6
            have hkw : ws.length ≤ 16 := by rw [hws.out]; exact hk16
            by_cases hk1 : k < nw
            · have hk2 : ¬ (k : Int) < 16 := by omega
              go_wp2_with (first | (at_builtin; refine wpList_append_own _ rfl (.tmp 54) (.tmp 56) 30 rfl w.heap.size 57 iG (.agg #[.bool false, .slice none 0 0, .int .i64 0, .int .i64 0, .int .i64 0, .int .i64 0, .int .i64 0]) 7 72 A.underG hiG hg0 hg1 hg2 rfl (by decide) _ M.length (rows M vs) rfl hrow.out ⟨wr.heap.size, 0, none⟩ 1 1 [.bool is, wv, .int .i64 m, .int .i64 ga, .int .i64 gb, .int .i64 gc, .int .i64 gd] rfl rfl (fun j u hj => (by rw [← hj]; simp [Addr.add_mk0])) (by intro u hu; simp only [List.mem_cons, List.not_mem_nil, or_false] at hu; rcases hu with rfl | rfl | rfl | rfl | rfl | rfl | rfl <;> first | rfl | exact hone.out) (by have := HM.out.len; unfold maxLen; omega) (by have := HM.out.len; omega) (by have h1 := HM.out.bl.size; have h2 := HI.out.bl.size; simp; omega) ?_; intro v' w5 hown hgrow _; have HN := Lib.hid (MMr.snoc HM.out HI.out GG.out hkw hrow.out hown hgrow); clear hown hgrow))
              go_roundw
              case rel => exact ⟨i + 1, vs ++ [wv], M ++ [⟨is, ws, m, ga, gb, gc, gd⟩], by go_num, by omega, by omega, HN⟩
              case measure => simp [intOf]; omega
            · have q1 : 0 ≤ 0 := Nat.le_refl _
              go_wp2_with (first | (at_builtin; refine wpList_append_own _ rfl (.tmp 54) (.tmp 56) 30 rfl w.heap.size 57 iG (.agg #[.bool false, .slice none 0 0, .int .i64 0, .int .i64 0, .int .i64 0, .int .i64 0, .int .i64 0]) 7 72 A.underG hiG hg0 hg1 hg2 rfl (by decide) _ M.length (rows M vs) rfl hrow.out ⟨wr.heap.size, 0, none⟩ 1 1 [.bool is, wv, .int .i64 m, .int .i64 ga, .int .i64 gb, .int .i64 gc, .int .i64 gd] rfl rfl (fun j u hj => (by rw [← hj]; simp [Addr.add_mk0])) (by intro u hu; simp only [List.mem_cons, List.not_mem_nil, or_false] at hu; rcases hu with rfl | rfl | rfl | rfl | rfl | rfl | rfl <;> first | rfl | exact hone.out) (by have := HM.out.len; unfold maxLen; omega) (by have := HM.out.len; omega) (by have h1 := HM.out.bl.size; have h2 := HI.out.bl.size; simp; omega) ?_; intro v' w5 hown hgrow _; have HN := Lib.hid (MMr.snoc HM.out HI.out GG.out hkw hrow.out hown hgrow); clear hown hgrow))
              go_roundw
              case rel => exact ⟨i + 1, vs ++ [wv], M ++ [⟨is, ws, m, ga, gb, gc, gd⟩], by go_num, by omega, by omega, HN⟩
              case measure => simp [intOf]; omega
    · have hfin : Hid (MMr w wo _ vs M i) := HM
      by_cases hl1 : i < n
      · have hl2 : ¬ (i : Int) < 5 := by omega
        go_wp2_with fail
        go_ret
        first | exact ⟨_, vs, M, rfl, hfin.out.segs, by rw [hfin.out.len]; exact hi5, hfin.out.good, hfin.out.bl⟩ | exact ⟨_, rfl, vs, M, hfin.out.segs, by rw [hfin.out.len]; exact hi5, hfin.out.good, hfin.out.bl⟩
      · have hl2 : 0 ≤ 0 := Nat.le_refl _
        go_wp2_with fail
        go_ret
        first | exact ⟨_, vs, M, rfl, hfin.out.segs, by rw [hfin.out.len]; exact hi5, hfin.out.good, hfin.out.bl⟩ | exact ⟨_, rfl, vs, M, hfin.out.segs, by rw [hfin.out.len]; exact hi5, hfin.out.good, hfin.out.bl⟩
end Go.Proofs.Ytiakonmamkfopaa
