/- The beginning of a processor. -/
import Derived.Test.YtiakonmamkfopaaCpuHb
import Derived.Deep.RegionHeld3
import Derived.Deep.CutRange
namespace Go.Proofs.Ytiakonmamkfopaa
open Go.RowKit Go.ChangeShapes
set_option linter.unusedVariables false
set_option maxRecDepth 100000

/-- a slice of callers, as it is handed in -/
def FrIn (w : World) (v : Value) : Prop := ∃ ad n cap, v = .slice ad n cap ∧ n ≤ cap ∧ cap ≤ maxLen ∧ ∀ k, k < n → ∃ b o, ad = some ⟨b, o, none⟩ ∧ b < w.heap.size ∧ ∃ a0 a1 a2 : Int,
  w.cell? ⟨b, o + k * 3, none⟩ = some (.int .i64 a0) ∧ w.cell? ⟨b, o + k * 3 + 1, none⟩ = some (.int .i64 a1) ∧ w.cell? ⟨b, o + k * 3 + 2, none⟩ = some (.int .i64 a2)
def begC (x : St) (u : Value) : Array Value := #[.int .i64 x.seg, .int .i64 x.off, .int .i64 x.ring, .int .i64 x.a, .int .i64 x.p0.seg, .int .i64 x.p0.off, .int .i64 x.p0.ring, .int .i64 x.p1.seg, .int .i64 x.p1.off, .int .i64 x.p1.ring, .int .i64 x.p2.seg, .int .i64 x.p2.off, .int .i64 x.p2.ring, .int .i64 x.p3.seg, .int .i64 x.p3.off, .int .i64 x.p3.ring, u]
def begAt (w : World) (B : Nat) (x : St) (u : Value) : Prop := w.heap[B]? = some (.cells (begC x u) 28 (0, 0))
theorem begAt.cell {w : World} {B : Nat} {x : St} {u : Value} (h : begAt w B x u) (j : Nat) : w.cell? ⟨B, j, none⟩ = (begC x u)[j]? := cell_of_row w B j _ _ _ h
structure GoodPt (p : Pt) : Prop where
  s0 : 0 ≤ p.seg
  s1 : p.seg < 5
  o0 : 0 ≤ p.off
  o1 : p.off < 6
  r0 : 0 ≤ p.ring
  r1 : p.ring < 8
theorem good000 : GoodPt ⟨0, 0, 0⟩ := ⟨by decide, by decide, by decide, by decide, by decide, by decide⟩
theorem goodmod (a b c : Int) : GoodPt ⟨a % 5, b % 6, c % 8⟩ := ⟨Int.emod_nonneg _ (by decide), Int.emod_lt_of_pos _ (by decide), Int.emod_nonneg _ (by decide), Int.emod_lt_of_pos _ (by decide), Int.emod_nonneg _ (by decide), Int.emod_lt_of_pos _ (by decide)⟩
structure GoodBeg (s : St) : Prop where
  s0 : 0 ≤ s.seg
  s1 : s.seg < 5
  o0 : 0 ≤ s.off
  o1 : s.off < 5
  r0 : 0 ≤ s.ring
  r1 : s.ring < 8
  p0 : GoodPt s.p0
  p1 : GoodPt s.p1
  p2 : GoodPt s.p2
  p3 : GoodPt s.p3
  h : s.hal = false
structure GoodFr (f : Fr) : Prop where
  s0 : 0 ≤ f.seg
  s1 : f.seg < 5
  o0 : 0 ≤ f.off
  o1 : f.off < 6
  r0 : 0 ≤ f.ring
  r1 : f.ring < 8
/-- on the way -/
structure BegR (w wr : World) (x : St) (u : Value) (T : Nat) (s : St) (stk : Value) (l : List Fr) : Prop where
  st : stAt wr T s stk
  good : GoodBeg s
  bg : begAt wr w.heap.size x u
  rs : stAt wr (w.heap.size + 1) St.zero (.slice none 0 0)
  bl : Below w.heap.size w wr
  lt : w.heap.size + 1 < T
  row : wr.ownsRow (w.heap.size + 2) 79 3 stk l.length (frC l)
  fr : ∀ f ∈ l, GoodFr f
theorem BegR.upd {w wr w' : World} {x : St} {u : Value} {T : Nat} {s s' : St} (h : BegR w wr x u T s (.slice none 0 0) []) (o : Off (· = T) wr w') (hs : stAt w' T s' (.slice none 0 0)) (hg : GoodBeg s') : BegR w w' x u T s' (.slice none 0 0) [] := by
  have h1 := h.lt
  exact ⟨hs, hg, Off.keeps o h.bg (by omega), Off.keeps o h.rs (by omega), Off.below h.bl o h.bl.size (fun k hk => by omega), h.lt, ⟨rfl, .inl ⟨rfl, rfl⟩⟩, h.fr⟩
theorem st_not6 {w : World} {N : Nat} {s : St} {stk : Value} (h : stAt w N s stk) (ty : TypeId) (ht : ty ≠ 33) : ∀ k, k = N → ∀ cs, w.heap[k]? ≠ some (.cells cs ty (0, 0)) := by
  rintro k rfl cs hc
  have h2 := (show w.heap[k]? = _ from h).symm.trans hc
  simp only [Option.some.injEq, Obj.cells.injEq] at h2
  exact ht h2.2.1.symm
theorem beg_results {W : World} {N : Nat} {s : St} {stk : Value} (h : stAt W N s stk) (tmps : Array Value) (h4 : tmps[2]? = some (.pointer (some ⟨N, 0, none⟩))) :
    (results Try.f16 tmps).run Try.prog W = .ok (stV s stk) W := by
  have l0 := range_loadVar (st_range h)
  simp [results, Try.results16, h4, l0, asAddr]
theorem goodfr (a b c : Int) : GoodFr ⟨a % 5, b % 6, c % 8⟩ := ⟨Int.emod_nonneg _ (by decide), Int.emod_lt_of_pos _ (by decide), Int.emod_nonneg _ (by decide), Int.emod_lt_of_pos _ (by decide), Int.emod_nonneg _ (by decide), Int.emod_lt_of_pos _ (by decide)⟩
theorem BegR.keepT {w D w5 : World} {x : St} {u : Value} {T : Nat} {s : St} {stk : Value} {l : List Fr} {o : Obj} (h : BegR w D x u T s stk l) (hrow : (D.alloc o).ownsRow (w.heap.size + 2) 79 3 stk l.length (frC l)) (hg : (D.alloc o).grownBy w5 stk.ownBlock) : stAt w5 T s stk := by
  have h1 : stAt (D.alloc o) T s stk := Off.keeps (ex := fun _ => False) ((Off.refl _ _).alloc o) h.st id
  exact (hg.block T (Array.getElem?_eq_some_iff.1 h1).1 (fun e => row_new hrow h1 (by decide) e.symm rfl)).trans h1
theorem BegR.snoc {w D w5 : World} {x : St} {u v' : Value} {T : Nat} {s : St} {stk : Value} {l : List Fr} {o : Obj} {f : Fr} (h : BegR w D x u T s stk l) (hrow : (D.alloc o).ownsRow (w.heap.size + 2) 79 3 stk l.length (frC l)) (hown : w5.ownsRow (w.heap.size + 2) 79 3 v' (l.length + 1) (frC l ++ [.int .i64 f.seg, .int .i64 f.off, .int .i64 f.ring])) (hg : (D.alloc o).grownBy w5 stk.ownBlock) (hf : GoodFr f) :
    BegR w (w5.setCell ⟨T, 16, none⟩ v') x u T s v' (l ++ [f]) := by
  have hT := h.keepT hrow hg
  have h2 : ∀ (k : Nat) (ob : Obj), k < w.heap.size + 2 → D.heap[k]? = some ob → w5.heap[k]? = some ob := fun k ob hk hob => by
    have h1 := Off.keeps (ex := fun _ => False) ((Off.refl _ _).alloc o) hob id
    exact (hg.block k (Array.getElem?_eq_some_iff.1 h1).1 (fun e => by have := (hrow.lt k e.symm).1; omega)).trans h1
  have hlt := h.lt
  have oT := off1 w5 T 16 v'
  refine ⟨?_, h.good, Off.keeps oT (h2 _ _ (by omega) h.bg) (by omega), Off.keeps oT (h2 _ _ (by omega) h.rs) (by omega), ?_, h.lt, ?_, ?_⟩
  · have hc := hT
    unfold stAt stC at hc ⊢
    simp [World.setCell, Array.getElem?_modify, hc]
  · have b1 : Below w.heap.size w w5 := (h.bl.alloc h.bl.size o).grown hg (by have := h.bl.size; simp; omega) (fun k hk => by have := (hrow.lt k hk).1; omega)
    exact Off.below b1 oT b1.size (fun k hk => by omega)
  · rw [List.length_append, frC_append]
    exact Off.row oT hown (st_not6 hT _ (by decide))
  · intro g hg'
    rcases List.mem_append.1 hg' with h3 | h3
    · exact h.fr g h3
    · simp only [List.mem_singleton] at h3
      subst h3
      exact hf
theorem within16q (x n : Int) (h1 : 0 < n) (h2 : n ≤ 1073741824) (w : World) : Calls Try.prog 21 #[.int .i64 x, .int .i64 n] w fun e w' => e = .returned (.int .i64 (x % n)) ∧ w' = w := within16s x n h1 h2 w
set_option maxHeartbeats 8000000 in
theorem c_begin (w : World) (x : St) (u : Value) (hu : FrIn w u) : Calls Try.prog 16 #[.agg (begC x u)] w fun e w' => ∃ s stk l, e = .returned (stV s stk) ∧ stkAt w' stk l ∧ l.length ≤ 8 ∧ GoodBeg s ∧ (∀ f ∈ l, GoodFr f) ∧ Below w.heap.size w w' := by
  obtain ⟨adf, nf, cf, rfl, hnf, hcf, hff⟩ := hu
  replace hff := Lib.hid hff
  replace hnf := Lib.hid hnf
  replace hcf := Lib.hid hcf
  obtain ⟨W0, hW0, B0, R0, HB⟩ : ∃ W, (w.alloc (.cells (begC x (.slice adf nf cf)) 28)).alloc (.cells (stC St.zero (.slice none 0 0)) 33) = W ∧ begAt W w.heap.size x (.slice adf nf cf) ∧ stAt W (w.heap.size + 1) St.zero (.slice none 0 0) ∧ Below w.heap.size w W := by
    refine ⟨_, rfl, ?_, ?_, below_al (below_al0 _ _) _⟩
    · exact Off.keeps (ex := fun _ => False) ((Off.refl _ _).alloc _) (heap_alloc_new w (.cells (begC x (.slice adf nf cf)) 28)) id
    · have h0 := heap_alloc_new (w.alloc (.cells (begC x (.slice adf nf cf)) 28)) (.cells (stC St.zero (.slice none 0 0)) 33)
      rw [World.size_alloc] at h0
      exact h0
  replace hW0 := Lib.hid hW0
  replace B0 := Lib.hid B0
  replace R0 := Lib.hid R0
  replace HB := Lib.hid HB
  go_enter Try.func16, Try.ntmps16
  go_upto_region 1 with fail
  rw [show (w.alloc (.cells (begC x (.slice adf nf cf)) 28)).alloc (.cells #[.int .i64 0, .int .i64 0, .int .i64 0, .int .i64 0, .int .i64 0, .int .i64 0, .int .i64 0, .int .i64 0, .int .i64 0, .int .i64 0, .int .i64 0, .int .i64 0, .int .i64 0, .int .i64 0, .int .i64 0, .int .i64 0, .slice none 0 0, .bool false] 33) = W0 from hW0.out]
  clear hW0
  go_cut [3] from 6 to 82 (fun tv wx => ∃ (T : Nat) (s : St), tv = .pointer (some ⟨T, 0, none⟩) ∧ Hid (stAt wx T s (.slice none 0 0)) ∧ Hid (GoodBeg s) ∧ Hid (begAt wx w.heap.size x (.slice adf nf cf)) ∧ Hid (stAt wx (w.heap.size + 1) St.zero (.slice none 0 0)) ∧ Hid (Below w.heap.size w wx) ∧ Hid (w.heap.size + 1 < T))
  case first =>
    have BD : Hid (begAt W0.drew w.heap.size x (.slice adf nf cf)) := B0
    have RD : Hid (stAt W0.drew (w.heap.size + 1) St.zero (.slice none 0 0)) := R0
    have HD : Hid (Below w.heap.size w W0.drew) := below_drew HB.out
    refine wp_region_held_drew (S := fun w' => Below W0.drew.heap.size W0.drew w') (by kernel_rfl) (Below.refl _ _) (fun hHeld => ?_)
    generalize W0.drew = D at BD RD HD hHeld ⊢
    have BC := Lib.hid (Below.refl D.heap.size D)
    have hDT : Hid (w.heap.size + 1 < D.heap.size) := RD.out.lt
    have GX : Hid (GoodBeg { St.zero with seg := x.seg % 5, off := x.off % 5, ring := x.ring % 8, a := x.a }) := Lib.hid ⟨Int.emod_nonneg _ (by decide), Int.emod_lt_of_pos _ (by decide), Int.emod_nonneg _ (by decide), Int.emod_lt_of_pos _ (by decide), Int.emod_nonneg _ (by decide), Int.emod_lt_of_pos _ (by decide), good000, good000, good000, good000, rfl⟩
    have k0 : ∀ w', Below D.heap.size D w' → w'.cell? ⟨w.heap.size, 0, none⟩ = some (.int .i64 x.seg) := fun w' h => (show begAt w' w.heap.size x _ from Off.keeps (.of_below (ex := fun _ => False) h) BD.out id).cell 0
    have k1 : ∀ w', Below D.heap.size D w' → w'.cell? ⟨w.heap.size, 1, none⟩ = some (.int .i64 x.off) := fun w' h => (show begAt w' w.heap.size x _ from Off.keeps (.of_below (ex := fun _ => False) h) BD.out id).cell 1
    have k2 : ∀ w', Below D.heap.size D w' → w'.cell? ⟨w.heap.size, 2, none⟩ = some (.int .i64 x.ring) := fun w' h => (show begAt w' w.heap.size x _ from Off.keeps (.of_below (ex := fun _ => False) h) BD.out id).cell 2
    have k3 : ∀ w', Below D.heap.size D w' → w'.cell? ⟨w.heap.size, 3, none⟩ = some (.int .i64 x.a) := fun w' h => (show begAt w' w.heap.size x _ from Off.keeps (.of_below (ex := fun _ => False) h) BD.out id).cell 3
    refine wpAnyH_take (i := 0) (oi := ⟨_, _, _, _, _, _⟩) (v := ?_) rfl (by kernel_rfl) (by kernel_rfl) (by kernel_rfl) (fun _ _ _ h => h) (Or.inl ⟨by rfl, ?_⟩) (by assumption) ?_
    rotate_left
    · intro w hSw; (try dsimp only at hSw); go_simp; (try with_reducible rfl)
    try simp only [Act.put, List.setIfInBounds_toArray, List.set_cons_zero, List.set_cons_succ]
    refine wpAnyH_take (i := 1) (oi := ⟨_, _, _, _, _, _⟩) (v := ?_) rfl (by kernel_rfl) (by kernel_rfl) (by kernel_rfl) (fun _ _ _ h => h) (Or.inl ⟨by rfl, ?_⟩) (by assumption) ?_
    rotate_left
    · intro w hSw; (try dsimp only at hSw); go_simp; (try with_reducible rfl)
    try simp only [Act.put, List.setIfInBounds_toArray, List.set_cons_zero, List.set_cons_succ]
    refine wpAnyH_take (i := 3) (oi := ⟨_, _, _, _, _, _⟩) (v := ?_) rfl (by kernel_rfl) (by kernel_rfl) (by kernel_rfl) (fun _ _ _ h => h) (Or.inl ⟨by rfl, ?_⟩) (by assumption) ?_
    rotate_left
    · intro w hSw; (try dsimp only at hSw); go_simp; (try with_reducible rfl)
    try simp only [Act.put, List.setIfInBounds_toArray, List.set_cons_zero, List.set_cons_succ]
    refine wpAnyH_take (i := 4) (oi := ⟨_, _, _, _, _, _⟩) (v := ?_) rfl (by kernel_rfl) (by kernel_rfl) (by kernel_rfl) (fun _ _ _ h => h) (Or.inl ⟨by rfl, ?_⟩) (by assumption) ?_
    rotate_left
    · intro w hSw; (try dsimp only at hSw); go_simp; (try with_reducible rfl)
    try simp only [Act.put, List.setIfInBounds_toArray, List.set_cons_zero, List.set_cons_succ]
    refine wpAnyH_take (i := 6) (oi := ⟨_, _, _, _, _, _⟩) (v := ?_) rfl (by kernel_rfl) (by kernel_rfl) (by kernel_rfl) (fun _ _ _ h => h) (Or.inl ⟨by rfl, ?_⟩) (by assumption) ?_
    rotate_left
    · intro w hSw; (try dsimp only at hSw); go_simp; (try with_reducible rfl)
    try simp only [Act.put, List.setIfInBounds_toArray, List.set_cons_zero, List.set_cons_succ]
    refine wpAnyH_take (i := 7) (oi := ⟨_, _, _, _, _, _⟩) (v := ?_) rfl (by kernel_rfl) (by kernel_rfl) (by kernel_rfl) (fun _ _ _ h => h) (Or.inl ⟨by rfl, ?_⟩) (by assumption) ?_
    rotate_left
    · intro w hSw; (try dsimp only at hSw); go_simp; (try with_reducible rfl)
    try simp only [Act.put, List.setIfInBounds_toArray, List.set_cons_zero, List.set_cons_succ]
    refine wpAnyH_take (i := 9) (oi := ⟨_, _, _, _, _, _⟩) (v := ?_) rfl (by kernel_rfl) (by kernel_rfl) (by kernel_rfl) (fun _ _ _ h => h) (Or.inl ⟨by rfl, ?_⟩) (by assumption) ?_
    rotate_left
    · intro w hSw; (try dsimp only at hSw); go_simp; (try with_reducible rfl)
    try simp only [Act.put, List.setIfInBounds_toArray, List.set_cons_zero, List.set_cons_succ]
    refine wpAnyH_take (i := 10) (oi := ⟨_, _, _, _, _, _⟩) (v := ?_) rfl (by kernel_rfl) (by kernel_rfl) (by kernel_rfl) (fun _ _ _ h => h) (Or.inl ⟨by rfl, ?_⟩) (by assumption) ?_
    rotate_left
    · intro w hSw; (try dsimp only at hSw); go_simp; (try with_reducible rfl)
    try simp only [Act.put, List.setIfInBounds_toArray, List.set_cons_zero, List.set_cons_succ]
    clear k0 k1 k2 k3
    refine wpAnyH_ready (rs := [2, 12]) (by kernel_rfl) (by simp) (AllReadyH.cons (o := ⟨_, _, _, _, _, _⟩) rfl (fun K hK => ?_) (AllReadyH.cons (o := ⟨_, _, _, _, _, _⟩) rfl (fun K hK => ?_) AllReadyH.nil))
    · go_simp
      refine (within16 _ _ (by decide) (by decide) _).mono ?_
      rintro e w2 ⟨rfl, hw2⟩
      subst hw2
      dsimp only
      refine hK.out _ _ ?_ (fun hHeld => ?_)
      · exact BC.out
      clear hK K
      try simp only [Act.put, List.setIfInBounds_toArray, List.set_cons_zero, List.set_cons_succ]
      refine wpAnyH_ready (rs := [5, 12]) (by kernel_rfl) (by simp) (AllReadyH.cons (o := ⟨_, _, _, _, _, _⟩) rfl (fun K hK => ?_) (AllReadyH.cons (o := ⟨_, _, _, _, _, _⟩) rfl (fun K hK => ?_) AllReadyH.nil))
      · go_simp
        refine (within16 _ _ (by decide) (by decide) _).mono ?_
        rintro e w2 ⟨rfl, hw2⟩
        subst hw2
        dsimp only
        refine hK.out _ _ ?_ (fun hHeld => ?_)
        · exact BC.out
        clear hK K
        try simp only [Act.put, List.setIfInBounds_toArray, List.set_cons_zero, List.set_cons_succ]
        refine wpAnyH_ready (rs := [8, 12]) (by kernel_rfl) (by simp) (AllReadyH.cons (o := ⟨_, _, _, _, _, _⟩) rfl (fun K hK => ?_) (AllReadyH.cons (o := ⟨_, _, _, _, _, _⟩) rfl (fun K hK => ?_) AllReadyH.nil))
        · go_simp
          refine (within16 _ _ (by decide) (by decide) _).mono ?_
          rintro e w2 ⟨rfl, hw2⟩
          subst hw2
          dsimp only
          refine hK.out _ _ ?_ (fun hHeld => ?_)
          · exact BC.out
          clear hK K
          try simp only [Act.put, List.setIfInBounds_toArray, List.set_cons_zero, List.set_cons_succ]
          refine wpAnyH_take (i := 11) (oi := ⟨_, _, _, _, _, _⟩) (v := ?_) rfl (by kernel_rfl) (by kernel_rfl) (by kernel_rfl) (fun _ _ _ h => h) (Or.inl ⟨by rfl, ?_⟩) (by assumption) ?_
          rotate_left
          · intro w hSw; (try dsimp only at hSw); go_simp; (try with_reducible rfl)
          try simp only [Act.put, List.setIfInBounds_toArray, List.set_cons_zero, List.set_cons_succ]
          refine wpAnyH_ready (rs := [12]) (by kernel_rfl) (by simp) (AllReadyH.cons (o := ⟨_, _, _, _, _, _⟩) rfl (fun K hK => ?_) AllReadyH.nil)
          go_simp
          refine hK.out _ _ ?_ (fun hHeld => ?_)
          · exact below_al BC.out (.cells #[.int .i64 0, .int .i64 0, .int .i64 0, .int .i64 0, .int .i64 0, .int .i64 0, .int .i64 0, .int .i64 0, .int .i64 0, .int .i64 0, .int .i64 0, .int .i64 0, .int .i64 0, .int .i64 0, .int .i64 0, .int .i64 0, .slice none 0 0, .bool false] 33)
          clear hK K
          try simp only [Act.put, List.setIfInBounds_toArray, List.set_cons_zero, List.set_cons_succ]
          have TT := Lib.hid (heap_alloc_new D (.cells #[.int .i64 0, .int .i64 0, .int .i64 0, .int .i64 0, .int .i64 0, .int .i64 0, .int .i64 0, .int .i64 0, .int .i64 0, .int .i64 0, .int .i64 0, .int .i64 0, .int .i64 0, .int .i64 0, .int .i64 0, .int .i64 0, .slice none 0 0, .bool false] 33))
          replace BC := Lib.hid (below_al BC.out (.cells #[.int .i64 0, .int .i64 0, .int .i64 0, .int .i64 0, .int .i64 0, .int .i64 0, .int .i64 0, .int .i64 0, .int .i64 0, .int .i64 0, .int .i64 0, .int .i64 0, .int .i64 0, .int .i64 0, .int .i64 0, .int .i64 0, .slice none 0 0, .bool false] 33))
          generalize D.alloc (.cells #[.int .i64 0, .int .i64 0, .int .i64 0, .int .i64 0, .int .i64 0, .int .i64 0, .int .i64 0, .int .i64 0, .int .i64 0, .int .i64 0, .int .i64 0, .int .i64 0, .int .i64 0, .int .i64 0, .int .i64 0, .int .i64 0, .slice none 0 0, .bool false] 33) = X1 at hHeld TT BC ⊢
          refine wpAnyH_ready (rs := [13]) (by kernel_rfl) (by simp) (AllReadyH.cons (o := ⟨_, _, _, _, _, _⟩) rfl (fun K hK => ?_) AllReadyH.nil)
          rw [if_pos (by rfl)]
          refine wp_store_st (s' := { St.zero with seg := x.seg % 5, off := x.off % 5, ring := x.ring % 8, a := x.a }) (stk' := .slice none 0 0) (.tmp 3) (.tmp 17) rfl rfl rfl (show stAt _ D.heap.size St.zero (.slice none 0 0) from TT.out) rfl ?_
          intro Z SZ FZ
          have BZ : Hid (Below D.heap.size D Z) := Off.below BC.out FZ BC.out.size (fun k hk => by omega)
          replace SZ := Lib.hid SZ
          clear FZ
          refine hK.out _ _ ?_ (fun hHeld => ?_)
          · exact BZ.out
          clear hK K
          try simp only [Act.put]
          clear TT BC
          refine wpAnyH_done (by kernel_rfl) ?_ _
          go_wp2_with fail
          go_meet
          case rel => exact ⟨_, _, rfl, SZ, GX, Off.keeps (.of_below (ex := fun _ => False) BZ.out) BD.out id, Off.keeps (.of_below (ex := fun _ => False) BZ.out) RD.out id, Lib.hid (below2 HD.out BZ.out), hDT⟩
        · go_simp
          refine hK.out _ _ ?_ (fun hHeld => ?_)
          · exact below_al BC.out (.cells #[.int .i64 0, .int .i64 0, .int .i64 0, .int .i64 0, .int .i64 0, .int .i64 0, .int .i64 0, .int .i64 0, .int .i64 0, .int .i64 0, .int .i64 0, .int .i64 0, .int .i64 0, .int .i64 0, .int .i64 0, .int .i64 0, .slice none 0 0, .bool false] 33)
          clear hK K
          try simp only [Act.put, List.setIfInBounds_toArray, List.set_cons_zero, List.set_cons_succ]
          have TT := Lib.hid (heap_alloc_new D (.cells #[.int .i64 0, .int .i64 0, .int .i64 0, .int .i64 0, .int .i64 0, .int .i64 0, .int .i64 0, .int .i64 0, .int .i64 0, .int .i64 0, .int .i64 0, .int .i64 0, .int .i64 0, .int .i64 0, .int .i64 0, .int .i64 0, .slice none 0 0, .bool false] 33))
          replace BC := Lib.hid (below_al BC.out (.cells #[.int .i64 0, .int .i64 0, .int .i64 0, .int .i64 0, .int .i64 0, .int .i64 0, .int .i64 0, .int .i64 0, .int .i64 0, .int .i64 0, .int .i64 0, .int .i64 0, .int .i64 0, .int .i64 0, .int .i64 0, .int .i64 0, .slice none 0 0, .bool false] 33))
          generalize D.alloc (.cells #[.int .i64 0, .int .i64 0, .int .i64 0, .int .i64 0, .int .i64 0, .int .i64 0, .int .i64 0, .int .i64 0, .int .i64 0, .int .i64 0, .int .i64 0, .int .i64 0, .int .i64 0, .int .i64 0, .int .i64 0, .int .i64 0, .slice none 0 0, .bool false] 33) = X1 at hHeld TT BC ⊢
          refine wpAnyH_ready (rs := [8]) (by kernel_rfl) (by simp) (AllReadyH.cons (o := ⟨_, _, _, _, _, _⟩) rfl (fun K hK => ?_) AllReadyH.nil)
          go_simp
          refine (within16 _ _ (by decide) (by decide) _).mono ?_
          rintro e w2 ⟨rfl, hw2⟩
          subst hw2
          dsimp only
          refine hK.out _ _ ?_ (fun hHeld => ?_)
          · exact BC.out
          clear hK K
          try simp only [Act.put, List.setIfInBounds_toArray, List.set_cons_zero, List.set_cons_succ]
          refine wpAnyH_take (i := 11) (oi := ⟨_, _, _, _, _, _⟩) (v := ?_) rfl (by kernel_rfl) (by kernel_rfl) (by kernel_rfl) (fun _ _ _ h => h) (Or.inl ⟨by rfl, ?_⟩) (by assumption) ?_
          rotate_left
          · intro w hSw; (try dsimp only at hSw); go_simp; (try with_reducible rfl)
          try simp only [Act.put, List.setIfInBounds_toArray, List.set_cons_zero, List.set_cons_succ]
          refine wpAnyH_ready (rs := [13]) (by kernel_rfl) (by simp) (AllReadyH.cons (o := ⟨_, _, _, _, _, _⟩) rfl (fun K hK => ?_) AllReadyH.nil)
          rw [if_pos (by rfl)]
          refine wp_store_st (s' := { St.zero with seg := x.seg % 5, off := x.off % 5, ring := x.ring % 8, a := x.a }) (stk' := .slice none 0 0) (.tmp 3) (.tmp 17) rfl rfl rfl (show stAt _ D.heap.size St.zero (.slice none 0 0) from TT.out) rfl ?_
          intro Z SZ FZ
          have BZ : Hid (Below D.heap.size D Z) := Off.below BC.out FZ BC.out.size (fun k hk => by omega)
          replace SZ := Lib.hid SZ
          clear FZ
          refine hK.out _ _ ?_ (fun hHeld => ?_)
          · exact BZ.out
          clear hK K
          try simp only [Act.put]
          clear TT BC
          refine wpAnyH_done (by kernel_rfl) ?_ _
          go_wp2_with fail
          go_meet
          case rel => exact ⟨_, _, rfl, SZ, GX, Off.keeps (.of_below (ex := fun _ => False) BZ.out) BD.out id, Off.keeps (.of_below (ex := fun _ => False) BZ.out) RD.out id, Lib.hid (below2 HD.out BZ.out), hDT⟩
      · go_simp
        refine hK.out _ _ ?_ (fun hHeld => ?_)
        · exact below_al BC.out (.cells #[.int .i64 0, .int .i64 0, .int .i64 0, .int .i64 0, .int .i64 0, .int .i64 0, .int .i64 0, .int .i64 0, .int .i64 0, .int .i64 0, .int .i64 0, .int .i64 0, .int .i64 0, .int .i64 0, .int .i64 0, .int .i64 0, .slice none 0 0, .bool false] 33)
        clear hK K
        try simp only [Act.put, List.setIfInBounds_toArray, List.set_cons_zero, List.set_cons_succ]
        have TT := Lib.hid (heap_alloc_new D (.cells #[.int .i64 0, .int .i64 0, .int .i64 0, .int .i64 0, .int .i64 0, .int .i64 0, .int .i64 0, .int .i64 0, .int .i64 0, .int .i64 0, .int .i64 0, .int .i64 0, .int .i64 0, .int .i64 0, .int .i64 0, .int .i64 0, .slice none 0 0, .bool false] 33))
        replace BC := Lib.hid (below_al BC.out (.cells #[.int .i64 0, .int .i64 0, .int .i64 0, .int .i64 0, .int .i64 0, .int .i64 0, .int .i64 0, .int .i64 0, .int .i64 0, .int .i64 0, .int .i64 0, .int .i64 0, .int .i64 0, .int .i64 0, .int .i64 0, .int .i64 0, .slice none 0 0, .bool false] 33))
        generalize D.alloc (.cells #[.int .i64 0, .int .i64 0, .int .i64 0, .int .i64 0, .int .i64 0, .int .i64 0, .int .i64 0, .int .i64 0, .int .i64 0, .int .i64 0, .int .i64 0, .int .i64 0, .int .i64 0, .int .i64 0, .int .i64 0, .int .i64 0, .slice none 0 0, .bool false] 33) = X1 at hHeld TT BC ⊢
        refine wpAnyH_ready (rs := [5]) (by kernel_rfl) (by simp) (AllReadyH.cons (o := ⟨_, _, _, _, _, _⟩) rfl (fun K hK => ?_) AllReadyH.nil)
        go_simp
        refine (within16 _ _ (by decide) (by decide) _).mono ?_
        rintro e w2 ⟨rfl, hw2⟩
        subst hw2
        dsimp only
        refine hK.out _ _ ?_ (fun hHeld => ?_)
        · exact BC.out
        clear hK K
        try simp only [Act.put, List.setIfInBounds_toArray, List.set_cons_zero, List.set_cons_succ]
        refine wpAnyH_ready (rs := [8]) (by kernel_rfl) (by simp) (AllReadyH.cons (o := ⟨_, _, _, _, _, _⟩) rfl (fun K hK => ?_) AllReadyH.nil)
        go_simp
        refine (within16 _ _ (by decide) (by decide) _).mono ?_
        rintro e w2 ⟨rfl, hw2⟩
        subst hw2
        dsimp only
        refine hK.out _ _ ?_ (fun hHeld => ?_)
        · exact BC.out
        clear hK K
        try simp only [Act.put, List.setIfInBounds_toArray, List.set_cons_zero, List.set_cons_succ]
        refine wpAnyH_take (i := 11) (oi := ⟨_, _, _, _, _, _⟩) (v := ?_) rfl (by kernel_rfl) (by kernel_rfl) (by kernel_rfl) (fun _ _ _ h => h) (Or.inl ⟨by rfl, ?_⟩) (by assumption) ?_
        rotate_left
        · intro w hSw; (try dsimp only at hSw); go_simp; (try with_reducible rfl)
        try simp only [Act.put, List.setIfInBounds_toArray, List.set_cons_zero, List.set_cons_succ]
        refine wpAnyH_ready (rs := [13]) (by kernel_rfl) (by simp) (AllReadyH.cons (o := ⟨_, _, _, _, _, _⟩) rfl (fun K hK => ?_) AllReadyH.nil)
        rw [if_pos (by rfl)]
        refine wp_store_st (s' := { St.zero with seg := x.seg % 5, off := x.off % 5, ring := x.ring % 8, a := x.a }) (stk' := .slice none 0 0) (.tmp 3) (.tmp 17) rfl rfl rfl (show stAt _ D.heap.size St.zero (.slice none 0 0) from TT.out) rfl ?_
        intro Z SZ FZ
        have BZ : Hid (Below D.heap.size D Z) := Off.below BC.out FZ BC.out.size (fun k hk => by omega)
        replace SZ := Lib.hid SZ
        clear FZ
        refine hK.out _ _ ?_ (fun hHeld => ?_)
        · exact BZ.out
        clear hK K
        try simp only [Act.put]
        clear TT BC
        refine wpAnyH_done (by kernel_rfl) ?_ _
        go_wp2_with fail
        go_meet
        case rel => exact ⟨_, _, rfl, SZ, GX, Off.keeps (.of_below (ex := fun _ => False) BZ.out) BD.out id, Off.keeps (.of_below (ex := fun _ => False) BZ.out) RD.out id, Lib.hid (below2 HD.out BZ.out), hDT⟩
    · go_simp
      refine hK.out _ _ ?_ (fun hHeld => ?_)
      · exact below_al BC.out (.cells #[.int .i64 0, .int .i64 0, .int .i64 0, .int .i64 0, .int .i64 0, .int .i64 0, .int .i64 0, .int .i64 0, .int .i64 0, .int .i64 0, .int .i64 0, .int .i64 0, .int .i64 0, .int .i64 0, .int .i64 0, .int .i64 0, .slice none 0 0, .bool false] 33)
      clear hK K
      try simp only [Act.put, List.setIfInBounds_toArray, List.set_cons_zero, List.set_cons_succ]
      have TT := Lib.hid (heap_alloc_new D (.cells #[.int .i64 0, .int .i64 0, .int .i64 0, .int .i64 0, .int .i64 0, .int .i64 0, .int .i64 0, .int .i64 0, .int .i64 0, .int .i64 0, .int .i64 0, .int .i64 0, .int .i64 0, .int .i64 0, .int .i64 0, .int .i64 0, .slice none 0 0, .bool false] 33))
      replace BC := Lib.hid (below_al BC.out (.cells #[.int .i64 0, .int .i64 0, .int .i64 0, .int .i64 0, .int .i64 0, .int .i64 0, .int .i64 0, .int .i64 0, .int .i64 0, .int .i64 0, .int .i64 0, .int .i64 0, .int .i64 0, .int .i64 0, .int .i64 0, .int .i64 0, .slice none 0 0, .bool false] 33))
      generalize D.alloc (.cells #[.int .i64 0, .int .i64 0, .int .i64 0, .int .i64 0, .int .i64 0, .int .i64 0, .int .i64 0, .int .i64 0, .int .i64 0, .int .i64 0, .int .i64 0, .int .i64 0, .int .i64 0, .int .i64 0, .int .i64 0, .int .i64 0, .slice none 0 0, .bool false] 33) = X1 at hHeld TT BC ⊢
      refine wpAnyH_ready (rs := [2]) (by kernel_rfl) (by simp) (AllReadyH.cons (o := ⟨_, _, _, _, _, _⟩) rfl (fun K hK => ?_) AllReadyH.nil)
      go_simp
      refine (within16 _ _ (by decide) (by decide) _).mono ?_
      rintro e w2 ⟨rfl, hw2⟩
      subst hw2
      dsimp only
      refine hK.out _ _ ?_ (fun hHeld => ?_)
      · exact BC.out
      clear hK K
      try simp only [Act.put, List.setIfInBounds_toArray, List.set_cons_zero, List.set_cons_succ]
      refine wpAnyH_ready (rs := [5]) (by kernel_rfl) (by simp) (AllReadyH.cons (o := ⟨_, _, _, _, _, _⟩) rfl (fun K hK => ?_) AllReadyH.nil)
      go_simp
      refine (within16 _ _ (by decide) (by decide) _).mono ?_
      rintro e w2 ⟨rfl, hw2⟩
      subst hw2
      dsimp only
      refine hK.out _ _ ?_ (fun hHeld => ?_)
      · exact BC.out
      clear hK K
      try simp only [Act.put, List.setIfInBounds_toArray, List.set_cons_zero, List.set_cons_succ]
      refine wpAnyH_ready (rs := [8]) (by kernel_rfl) (by simp) (AllReadyH.cons (o := ⟨_, _, _, _, _, _⟩) rfl (fun K hK => ?_) AllReadyH.nil)
      go_simp
      refine (within16 _ _ (by decide) (by decide) _).mono ?_
      rintro e w2 ⟨rfl, hw2⟩
      subst hw2
      dsimp only
      refine hK.out _ _ ?_ (fun hHeld => ?_)
      · exact BC.out
      clear hK K
      try simp only [Act.put, List.setIfInBounds_toArray, List.set_cons_zero, List.set_cons_succ]
      refine wpAnyH_take (i := 11) (oi := ⟨_, _, _, _, _, _⟩) (v := ?_) rfl (by kernel_rfl) (by kernel_rfl) (by kernel_rfl) (fun _ _ _ h => h) (Or.inl ⟨by rfl, ?_⟩) (by assumption) ?_
      rotate_left
      · intro w hSw; (try dsimp only at hSw); go_simp; (try with_reducible rfl)
      try simp only [Act.put, List.setIfInBounds_toArray, List.set_cons_zero, List.set_cons_succ]
      refine wpAnyH_ready (rs := [13]) (by kernel_rfl) (by simp) (AllReadyH.cons (o := ⟨_, _, _, _, _, _⟩) rfl (fun K hK => ?_) AllReadyH.nil)
      rw [if_pos (by rfl)]
      refine wp_store_st (s' := { St.zero with seg := x.seg % 5, off := x.off % 5, ring := x.ring % 8, a := x.a }) (stk' := .slice none 0 0) (.tmp 3) (.tmp 17) rfl rfl rfl (show stAt _ D.heap.size St.zero (.slice none 0 0) from TT.out) rfl ?_
      intro Z SZ FZ
      have BZ : Hid (Below D.heap.size D Z) := Off.below BC.out FZ BC.out.size (fun k hk => by omega)
      replace SZ := Lib.hid SZ
      clear FZ
      refine hK.out _ _ ?_ (fun hHeld => ?_)
      · exact BZ.out
      clear hK K
      try simp only [Act.put]
      clear TT BC
      refine wpAnyH_done (by kernel_rfl) ?_ _
      go_wp2_with fail
      go_meet
      case rel => exact ⟨_, _, rfl, SZ, GX, Off.keeps (.of_below (ex := fun _ => False) BZ.out) BD.out id, Off.keeps (.of_below (ex := fun _ => False) BZ.out) RD.out id, Lib.hid (below2 HD.out BZ.out), hDT⟩
  case rest =>
    obtain ⟨T, s0, rfl, TT, GB, BB, RR, BW, hT⟩ := hcut
    have H1 : Hid (BegR w wc x (.slice adf nf cf) T s0 (.slice none 0 0) []) := ⟨TT.out, GB.out, BB.out, RR.out, BW.out, hT.out, ⟨rfl, .inl ⟨rfl, rfl⟩⟩, fun f hf => by simp at hf⟩
    clear TT GB BB RR BW
    go_wp2_with fail
    go_loopw [4] (fun kv wr => ∃ (k : Nat) (s : St), kv = .int .i64 k ∧ k ≤ 4 ∧ Hid (BegR w wr x (.slice adf nf cf) T s (.slice none 0 0) [])) (fun kv _ => 4 - (intOf kv).toNat)
    case atStart => exact ⟨0, s0, rfl, by omega, H1⟩
    case round =>
      clear H1
      obtain ⟨k, s, rfl, hk4, HR⟩ := hrel
      by_cases hk : k < 4
      · rcases (show k = 0 ∨ k = 1 ∨ k = 2 ∨ k = 3 by omega) with rfl | rfl | rfl | rfl
        · go_upto_region 5 with fail
          have HD : Hid (BegR w wr.drew x (.slice adf nf cf) T s (.slice none 0 0) []) := Lib.hid ⟨HR.out.st, HR.out.good, HR.out.bg, HR.out.rs, below_drew HR.out.bl, HR.out.lt, HR.out.row, HR.out.fr⟩
          refine still_tail 22 (by kernel_rfl) (by kernel_rfl) ?_
          simp only [List.take_succ_cons, List.take_zero, List.drop_succ_cons, List.drop_zero]
          generalize wr.drew = D at HD ⊢
          have b0 : D.cell? ⟨w.heap.size, 4, none⟩ = some (.int .i64 x.p0.seg) := HD.out.bg.cell 4
          have b1 : D.cell? ⟨w.heap.size, 5, none⟩ = some (.int .i64 x.p0.off) := HD.out.bg.cell 5
          have b2 : D.cell? ⟨w.heap.size, 6, none⟩ = some (.int .i64 x.p0.ring) := HD.out.bg.cell 6
          have c0 : D.cell? ⟨T, 4, none⟩ = some (.int .i64 s.p0.seg) := HD.out.st.cell 4
          have c1 : D.cell? ⟨T, 5, none⟩ = some (.int .i64 s.p0.off) := HD.out.st.cell 5
          have c2 : D.cell? ⟨T, 6, none⟩ = some (.int .i64 s.p0.ring) := HD.out.st.cell 6
          have cf' : ∀ j, D.frozen? ⟨T, j, none⟩ = false := fun j => HD.out.st.free j
          repeat still_step
          still_call (within16s x.p0.seg 5 (by decide) (by decide) _)
          repeat still_step
          still_call (within16s x.p0.off 6 (by decide) (by decide) _)
          repeat still_step
          still_call (within16s x.p0.ring 8 (by decide) (by decide) _)
          repeat still_step
          refine wpStill_nil ?_
          have HN : Hid (BegR w (((D.setCell ⟨T, 4, none⟩ (.int .i64 (x.p0.seg % 5))).setCell ⟨T, 5, none⟩ (.int .i64 (x.p0.off % 6))).setCell ⟨T, 6, none⟩ (.int .i64 (x.p0.ring % 8))) x (.slice adf nf cf) T { s with p0 := ⟨x.p0.seg % 5, x.p0.off % 6, x.p0.ring % 8⟩ } (.slice none 0 0) []) := HD.out.upd (((off1 _ _ _ _).trans (off1 _ _ _ _)).trans (off1 _ _ _ _)) (st3 HD.out.st 4 _ _ _) { HD.out.good with p0 := goodmod _ _ _ }
          go_wp2_with fail
          go_roundw
          case rel => exact ⟨1, _, by go_num, by omega, HN⟩
          case measure => simp [intOf]
        · go_upto_region 5 with fail
          have HD : Hid (BegR w wr.drew x (.slice adf nf cf) T s (.slice none 0 0) []) := Lib.hid ⟨HR.out.st, HR.out.good, HR.out.bg, HR.out.rs, below_drew HR.out.bl, HR.out.lt, HR.out.row, HR.out.fr⟩
          refine still_tail 22 (by kernel_rfl) (by kernel_rfl) ?_
          simp only [List.take_succ_cons, List.take_zero, List.drop_succ_cons, List.drop_zero]
          generalize wr.drew = D at HD ⊢
          have b0 : D.cell? ⟨w.heap.size, 7, none⟩ = some (.int .i64 x.p1.seg) := HD.out.bg.cell 7
          have b1 : D.cell? ⟨w.heap.size, 8, none⟩ = some (.int .i64 x.p1.off) := HD.out.bg.cell 8
          have b2 : D.cell? ⟨w.heap.size, 9, none⟩ = some (.int .i64 x.p1.ring) := HD.out.bg.cell 9
          have c0 : D.cell? ⟨T, 7, none⟩ = some (.int .i64 s.p1.seg) := HD.out.st.cell 7
          have c1 : D.cell? ⟨T, 8, none⟩ = some (.int .i64 s.p1.off) := HD.out.st.cell 8
          have c2 : D.cell? ⟨T, 9, none⟩ = some (.int .i64 s.p1.ring) := HD.out.st.cell 9
          have cf' : ∀ j, D.frozen? ⟨T, j, none⟩ = false := fun j => HD.out.st.free j
          repeat still_step
          still_call (within16s x.p1.seg 5 (by decide) (by decide) _)
          repeat still_step
          still_call (within16s x.p1.off 6 (by decide) (by decide) _)
          repeat still_step
          still_call (within16s x.p1.ring 8 (by decide) (by decide) _)
          repeat still_step
          refine wpStill_nil ?_
          have HN : Hid (BegR w (((D.setCell ⟨T, 7, none⟩ (.int .i64 (x.p1.seg % 5))).setCell ⟨T, 8, none⟩ (.int .i64 (x.p1.off % 6))).setCell ⟨T, 9, none⟩ (.int .i64 (x.p1.ring % 8))) x (.slice adf nf cf) T { s with p1 := ⟨x.p1.seg % 5, x.p1.off % 6, x.p1.ring % 8⟩ } (.slice none 0 0) []) := HD.out.upd (((off1 _ _ _ _).trans (off1 _ _ _ _)).trans (off1 _ _ _ _)) (st3 HD.out.st 7 _ _ _) { HD.out.good with p1 := goodmod _ _ _ }
          go_wp2_with fail
          go_roundw
          case rel => exact ⟨2, _, by go_num, by omega, HN⟩
          case measure => simp [intOf]
        · go_upto_region 5 with fail
          have HD : Hid (BegR w wr.drew x (.slice adf nf cf) T s (.slice none 0 0) []) := Lib.hid ⟨HR.out.st, HR.out.good, HR.out.bg, HR.out.rs, below_drew HR.out.bl, HR.out.lt, HR.out.row, HR.out.fr⟩
          refine still_tail 22 (by kernel_rfl) (by kernel_rfl) ?_
          simp only [List.take_succ_cons, List.take_zero, List.drop_succ_cons, List.drop_zero]
          generalize wr.drew = D at HD ⊢
          have b0 : D.cell? ⟨w.heap.size, 10, none⟩ = some (.int .i64 x.p2.seg) := HD.out.bg.cell 10
          have b1 : D.cell? ⟨w.heap.size, 11, none⟩ = some (.int .i64 x.p2.off) := HD.out.bg.cell 11
          have b2 : D.cell? ⟨w.heap.size, 12, none⟩ = some (.int .i64 x.p2.ring) := HD.out.bg.cell 12
          have c0 : D.cell? ⟨T, 10, none⟩ = some (.int .i64 s.p2.seg) := HD.out.st.cell 10
          have c1 : D.cell? ⟨T, 11, none⟩ = some (.int .i64 s.p2.off) := HD.out.st.cell 11
          have c2 : D.cell? ⟨T, 12, none⟩ = some (.int .i64 s.p2.ring) := HD.out.st.cell 12
          have cf' : ∀ j, D.frozen? ⟨T, j, none⟩ = false := fun j => HD.out.st.free j
          repeat still_step
          still_call (within16s x.p2.seg 5 (by decide) (by decide) _)
          repeat still_step
          still_call (within16s x.p2.off 6 (by decide) (by decide) _)
          repeat still_step
          still_call (within16s x.p2.ring 8 (by decide) (by decide) _)
          repeat still_step
          refine wpStill_nil ?_
          have HN : Hid (BegR w (((D.setCell ⟨T, 10, none⟩ (.int .i64 (x.p2.seg % 5))).setCell ⟨T, 11, none⟩ (.int .i64 (x.p2.off % 6))).setCell ⟨T, 12, none⟩ (.int .i64 (x.p2.ring % 8))) x (.slice adf nf cf) T { s with p2 := ⟨x.p2.seg % 5, x.p2.off % 6, x.p2.ring % 8⟩ } (.slice none 0 0) []) := HD.out.upd (((off1 _ _ _ _).trans (off1 _ _ _ _)).trans (off1 _ _ _ _)) (st3 HD.out.st 10 _ _ _) { HD.out.good with p2 := goodmod _ _ _ }
          go_wp2_with fail
          go_roundw
          case rel => exact ⟨3, _, by go_num, by omega, HN⟩
          case measure => simp [intOf]
        · go_upto_region 5 with fail
          have HD : Hid (BegR w wr.drew x (.slice adf nf cf) T s (.slice none 0 0) []) := Lib.hid ⟨HR.out.st, HR.out.good, HR.out.bg, HR.out.rs, below_drew HR.out.bl, HR.out.lt, HR.out.row, HR.out.fr⟩
          refine still_tail 22 (by kernel_rfl) (by kernel_rfl) ?_
          simp only [List.take_succ_cons, List.take_zero, List.drop_succ_cons, List.drop_zero]
          generalize wr.drew = D at HD ⊢
          have b0 : D.cell? ⟨w.heap.size, 13, none⟩ = some (.int .i64 x.p3.seg) := HD.out.bg.cell 13
          have b1 : D.cell? ⟨w.heap.size, 14, none⟩ = some (.int .i64 x.p3.off) := HD.out.bg.cell 14
          have b2 : D.cell? ⟨w.heap.size, 15, none⟩ = some (.int .i64 x.p3.ring) := HD.out.bg.cell 15
          have c0 : D.cell? ⟨T, 13, none⟩ = some (.int .i64 s.p3.seg) := HD.out.st.cell 13
          have c1 : D.cell? ⟨T, 14, none⟩ = some (.int .i64 s.p3.off) := HD.out.st.cell 14
          have c2 : D.cell? ⟨T, 15, none⟩ = some (.int .i64 s.p3.ring) := HD.out.st.cell 15
          have cf' : ∀ j, D.frozen? ⟨T, j, none⟩ = false := fun j => HD.out.st.free j
          repeat still_step
          still_call (within16s x.p3.seg 5 (by decide) (by decide) _)
          repeat still_step
          still_call (within16s x.p3.off 6 (by decide) (by decide) _)
          repeat still_step
          still_call (within16s x.p3.ring 8 (by decide) (by decide) _)
          repeat still_step
          refine wpStill_nil ?_
          have HN : Hid (BegR w (((D.setCell ⟨T, 13, none⟩ (.int .i64 (x.p3.seg % 5))).setCell ⟨T, 14, none⟩ (.int .i64 (x.p3.off % 6))).setCell ⟨T, 15, none⟩ (.int .i64 (x.p3.ring % 8))) x (.slice adf nf cf) T { s with p3 := ⟨x.p3.seg % 5, x.p3.off % 6, x.p3.ring % 8⟩ } (.slice none 0 0) []) := HD.out.upd (((off1 _ _ _ _).trans (off1 _ _ _ _)).trans (off1 _ _ _ _)) (st3 HD.out.st 13 _ _ _) { HD.out.good with p3 := goodmod _ _ _ }
          go_wp2_with fail
          go_roundw
          case rel => exact ⟨4, _, by go_num, by omega, HN⟩
          case measure => simp [intOf]
      · rw [show ((k : Nat) : Int) = 4 by omega]
        have H2 := HR
        go_wp2_with fail
        go_loopw [5] (fun kv wr => ∃ (k : Nat) (l : List Fr) (stk : Value), kv = .int .i64 k ∧ k ≤ nf ∧ k ≤ 8 ∧ Hid (l.length = k) ∧ Hid (BegR w wr x (.slice adf nf cf) T s stk l)) (fun kv _ => 8 - (intOf kv).toNat)
        case atStart => exact ⟨0, [], _, rfl, by omega, by omega, Lib.hid rfl, H2⟩
        case round =>
          clear H2 HR
          obtain ⟨k, l, stk, rfl, hkn, hk8, hl, HR⟩ := hrel
          have p6 : wr.cell? ⟨w.heap.size, 16, none⟩ = some (.slice adf nf cf) := HR.out.bg.cell 16
          have hone : Hid (stk.oneCell' = true) := by obtain ⟨x1, x2, x3, _⟩ := row_shape HR.out.row; subst x3; rfl
          by_cases hk : k < nf ∧ k < 8
          · obtain ⟨hk1, hk2⟩ := hk
            have hk2' : (k : Int) < 8 := by omega
            obtain ⟨b, o, rfl, hb, a0, a1, a2, e0, e1, e2⟩ := hff.out k hk1
            have hnf' : (nf : Int) ≤ 9223372036854775807 := by have h1 := hcf.out; have h2 := hnf.out; unfold maxLen at h1; omega
            go_upto_region 9 with fail
            have HD : Hid (BegR w wr.drew x (.slice (some ⟨b, o, none⟩) nf cf) T s stk l) := Lib.hid ⟨HR.out.st, HR.out.good, HR.out.bg, HR.out.rs, below_drew HR.out.bl, HR.out.lt, HR.out.row, HR.out.fr⟩
            have TT : Hid (stAt wr.drew T s stk) := HD.out.st
            obtain ⟨iF, hiF, hz0, hz1, hz2⟩ := info_parts A.infoF
            refine wp_region_held_drew (S := fun w' => Off (fun b => w.heap.size + 1 < b) wr.drew w') (by kernel_rfl) (Off.refl _ _) (fun hHeld => ?_)
            generalize wr.drew = D at HD TT hHeld ⊢
            have OC : Hid (Off (fun b => w.heap.size + 1 < b) D D) := Off.refl _ _
            clear p6
            have k6 : ∀ w', Off (fun b => w.heap.size + 1 < b) D w' → w'.cell? ⟨w.heap.size, 16, none⟩ = some (.slice (some ⟨b, o, none⟩) nf cf) := fun w' h => (show begAt w' w.heap.size x _ from Off.keeps h HD.out.bg (by omega)).cell 16
            have l0 : ∀ w', Off (fun b => w.heap.size + 1 < b) D w' → w'.cell? ⟨b, o + k * 3, none⟩ = some (.int .i64 a0) := fun w' h => off_cell h ((HD.out.bl.cell hb).trans e0) (by show ¬ w.heap.size + 1 < b; omega)
            have l1 : ∀ w', Off (fun b => w.heap.size + 1 < b) D w' → w'.cell? ⟨b, o + k * 3 + 1, none⟩ = some (.int .i64 a1) := fun w' h => off_cell h ((HD.out.bl.cell hb).trans e1) (by show ¬ w.heap.size + 1 < b; omega)
            have l2 : ∀ w', Off (fun b => w.heap.size + 1 < b) D w' → w'.cell? ⟨b, o + k * 3 + 2, none⟩ = some (.int .i64 a2) := fun w' h => off_cell h ((HD.out.bl.cell hb).trans e2) (by show ¬ w.heap.size + 1 < b; omega)
            replace hb := Lib.hid hb
            clear e0 e1 e2
            refine wpAnyH_take (i := 0) (oi := ⟨_, _, _, _, _, _⟩) (v := ?_) rfl (by kernel_rfl) (by kernel_rfl) (by kernel_rfl) (fun _ _ _ h => h) (Or.inl ⟨by rfl, ?_⟩) (by assumption) ?_
            rotate_left
            · intro w hSw; (try dsimp only at hSw); go_simp; (try with_reducible rfl)
            try simp only [Act.put, List.setIfInBounds_toArray, List.set_cons_zero, List.set_cons_succ]
            refine wpAnyH_take (i := 2) (oi := ⟨_, _, _, _, _, _⟩) (v := ?_) rfl (by kernel_rfl) (by kernel_rfl) (by kernel_rfl) (fun _ _ _ h => h) (Or.inl ⟨by rfl, ?_⟩) (by assumption) ?_
            rotate_left
            · intro w hSw; (try dsimp only at hSw); go_simp; (try with_reducible rfl)
            try simp only [Act.put, List.setIfInBounds_toArray, List.set_cons_zero, List.set_cons_succ]
            refine wpAnyH_take (i := 3) (oi := ⟨_, _, _, _, _, _⟩) (v := ?_) rfl (by kernel_rfl) (by kernel_rfl) (by kernel_rfl) (fun _ _ _ h => h) (Or.inl ⟨by rfl, ?_⟩) (by assumption) ?_
            rotate_left
            · intro w hSw; (try dsimp only at hSw); go_simp; (try with_reducible rfl)
            try simp only [Act.put, List.setIfInBounds_toArray, List.set_cons_zero, List.set_cons_succ]
            refine wpAnyH_take (i := 4) (oi := ⟨_, _, _, _, _, _⟩) (v := ?_) rfl (by kernel_rfl) (by kernel_rfl) (by kernel_rfl) (fun _ _ _ h => h) (Or.inl ⟨by rfl, ?_⟩) (by assumption) ?_
            rotate_left
            · intro w hSw; (try dsimp only at hSw); go_simp; (try with_reducible rfl)
            try simp only [Act.put, List.setIfInBounds_toArray, List.set_cons_zero, List.set_cons_succ]
            refine wpAnyH_take (i := 5) (oi := ⟨_, _, _, _, _, _⟩) (v := ?_) rfl (by kernel_rfl) (by kernel_rfl) (by kernel_rfl) (fun _ _ _ h => h) (Or.inl ⟨by rfl, ?_⟩) (by assumption) ?_
            rotate_left
            · intro w hSw; (try dsimp only at hSw); go_simp; (try with_reducible rfl)
            try simp only [Act.put, List.setIfInBounds_toArray, List.set_cons_zero, List.set_cons_succ]
            refine wpAnyH_take (i := 6) (oi := ⟨_, _, _, _, _, _⟩) (v := ?_) rfl (by kernel_rfl) (by kernel_rfl) (by kernel_rfl) (fun _ _ _ h => h) (Or.inl ⟨by rfl, ?_⟩) (by assumption) ?_
            rotate_left
            · intro w hSw; (try dsimp only at hSw); go_simp; (try with_reducible rfl)
            try simp only [Act.put, List.setIfInBounds_toArray, List.set_cons_zero, List.set_cons_succ]
            refine wpAnyH_take (i := 7) (oi := ⟨_, _, _, _, _, _⟩) (v := ?_) rfl (by kernel_rfl) (by kernel_rfl) (by kernel_rfl) (fun _ _ _ h => h) (Or.inl ⟨by rfl, ?_⟩) (by assumption) ?_
            rotate_left
            · intro w hSw; (try dsimp only at hSw); go_simp; (try with_reducible rfl)
            try simp only [Act.put, List.setIfInBounds_toArray, List.set_cons_zero, List.set_cons_succ]
            refine wpAnyH_take (i := 9) (oi := ⟨_, _, _, _, _, _⟩) (v := ?_) rfl (by kernel_rfl) (by kernel_rfl) (by kernel_rfl) (fun _ _ _ h => h) (Or.inl ⟨by rfl, ?_⟩) (by assumption) ?_
            rotate_left
            · intro w hSw; (try dsimp only at hSw); go_simp; (try with_reducible rfl)
            try simp only [Act.put, List.setIfInBounds_toArray, List.set_cons_zero, List.set_cons_succ]
            refine wpAnyH_take (i := 10) (oi := ⟨_, _, _, _, _, _⟩) (v := ?_) rfl (by kernel_rfl) (by kernel_rfl) (by kernel_rfl) (fun _ _ _ h => h) (Or.inl ⟨by rfl, ?_⟩) (by assumption) ?_
            rotate_left
            · intro w hSw; (try dsimp only at hSw); go_simp; (try with_reducible rfl)
            try simp only [Act.put, List.setIfInBounds_toArray, List.set_cons_zero, List.set_cons_succ]
            refine wpAnyH_take (i := 11) (oi := ⟨_, _, _, _, _, _⟩) (v := ?_) rfl (by kernel_rfl) (by kernel_rfl) (by kernel_rfl) (fun _ _ _ h => h) (Or.inl ⟨by rfl, ?_⟩) (by assumption) ?_
            rotate_left
            · intro w hSw; (try dsimp only at hSw); go_simp; (try with_reducible rfl)
            try simp only [Act.put, List.setIfInBounds_toArray, List.set_cons_zero, List.set_cons_succ]
            refine wpAnyH_take (i := 12) (oi := ⟨_, _, _, _, _, _⟩) (v := ?_) rfl (by kernel_rfl) (by kernel_rfl) (by kernel_rfl) (fun _ _ _ h => h) (Or.inl ⟨by rfl, ?_⟩) (by assumption) ?_
            rotate_left
            · intro w hSw; (try dsimp only at hSw); go_simp; (try with_reducible rfl)
            try simp only [Act.put, List.setIfInBounds_toArray, List.set_cons_zero, List.set_cons_succ]
            refine wpAnyH_take (i := 13) (oi := ⟨_, _, _, _, _, _⟩) (v := ?_) rfl (by kernel_rfl) (by kernel_rfl) (by kernel_rfl) (fun _ _ _ h => h) (Or.inl ⟨by rfl, ?_⟩) (by assumption) ?_
            rotate_left
            · intro w hSw; (try dsimp only at hSw); go_simp; (try with_reducible rfl)
            try simp only [Act.put, List.setIfInBounds_toArray, List.set_cons_zero, List.set_cons_succ]
            refine wpAnyH_take (i := 14) (oi := ⟨_, _, _, _, _, _⟩) (v := ?_) rfl (by kernel_rfl) (by kernel_rfl) (by kernel_rfl) (fun _ _ _ h => h) (Or.inl ⟨by rfl, ?_⟩) (by assumption) ?_
            rotate_left
            · intro w hSw; (try dsimp only at hSw); go_simp; (try with_reducible rfl)
            try simp only [Act.put, List.setIfInBounds_toArray, List.set_cons_zero, List.set_cons_succ]
            refine wpAnyH_take (i := 16) (oi := ⟨_, _, _, _, _, _⟩) (v := ?_) rfl (by kernel_rfl) (by kernel_rfl) (by kernel_rfl) (fun _ _ _ h => h) (Or.inl ⟨by rfl, ?_⟩) (by assumption) ?_
            rotate_left
            · intro w hSw; (try dsimp only at hSw); go_simp; (try with_reducible rfl)
            try simp only [Act.put, List.setIfInBounds_toArray, List.set_cons_zero, List.set_cons_succ]
            refine wpAnyH_take (i := 17) (oi := ⟨_, _, _, _, _, _⟩) (v := ?_) rfl (by kernel_rfl) (by kernel_rfl) (by kernel_rfl) (fun _ _ _ h => h) (Or.inl ⟨by rfl, ?_⟩) (by assumption) ?_
            rotate_left
            · intro w hSw; (try dsimp only at hSw); go_simp; (try with_reducible rfl)
            try simp only [Act.put, List.setIfInBounds_toArray, List.set_cons_zero, List.set_cons_succ]
            refine wpAnyH_take (i := 18) (oi := ⟨_, _, _, _, _, _⟩) (v := ?_) rfl (by kernel_rfl) (by kernel_rfl) (by kernel_rfl) (fun _ _ _ h => h) (Or.inl ⟨by rfl, ?_⟩) (by assumption) ?_
            rotate_left
            · intro w hSw; (try dsimp only at hSw); go_simp; (try with_reducible rfl)
            try simp only [Act.put, List.setIfInBounds_toArray, List.set_cons_zero, List.set_cons_succ]
            refine wpAnyH_take (i := 19) (oi := ⟨_, _, _, _, _, _⟩) (v := ?_) rfl (by kernel_rfl) (by kernel_rfl) (by kernel_rfl) (fun _ _ _ h => h) (Or.inl ⟨by rfl, ?_⟩) (by assumption) ?_
            rotate_left
            · intro w hSw; (try dsimp only at hSw); go_simp; (try with_reducible rfl)
            try simp only [Act.put, List.setIfInBounds_toArray, List.set_cons_zero, List.set_cons_succ]
            refine wpAnyH_take (i := 20) (oi := ⟨_, _, _, _, _, _⟩) (v := ?_) rfl (by kernel_rfl) (by kernel_rfl) (by kernel_rfl) (fun _ _ _ h => h) (Or.inl ⟨by rfl, ?_⟩) (by assumption) ?_
            rotate_left
            · intro w hSw; (try dsimp only at hSw); go_simp; (try with_reducible rfl)
            try simp only [Act.put, List.setIfInBounds_toArray, List.set_cons_zero, List.set_cons_succ]
            refine wpAnyH_take (i := 21) (oi := ⟨_, _, _, _, _, _⟩) (v := ?_) rfl (by kernel_rfl) (by kernel_rfl) (by kernel_rfl) (fun _ _ _ h => h) (Or.inl ⟨by rfl, ?_⟩) (by assumption) ?_
            rotate_left
            · intro w hSw; (try dsimp only at hSw); go_simp; (try with_reducible rfl)
            try simp only [Act.put, List.setIfInBounds_toArray, List.set_cons_zero, List.set_cons_succ]
            clear k6 l0 l1 l2
            refine wpAnyH_ready (rs := [1, 8]) (by kernel_rfl) (by simp) (AllReadyH.cons (o := ⟨_, _, _, _, _, _⟩) rfl (fun K hK => ?_) (AllReadyH.cons (o := ⟨_, _, _, _, _, _⟩) rfl (fun K hK => ?_) AllReadyH.nil))
            · have tc : D.cell? ⟨T, 16, none⟩ = some stk := (show stAt D T s stk from TT.out).cell 16
              go_simp
              clear tc
              refine hK.out _ _ ?_ (fun hHeld => ?_)
              · exact OC.out
              clear hK K
              try simp only [Act.put, List.setIfInBounds_toArray, List.set_cons_zero, List.set_cons_succ]
              refine wpAnyH_ready (rs := [8]) (by kernel_rfl) (by simp) (AllReadyH.cons (o := ⟨_, _, _, _, _, _⟩) rfl (fun K hK => ?_) AllReadyH.nil)
              go_simp
              refine (within16 _ _ (by decide) (by decide) _).mono ?_
              rintro e w2 ⟨rfl, hw2⟩
              subst hw2
              dsimp only
              refine hK.out _ _ ?_ (fun hHeld => ?_)
              · exact OC.out
              clear hK K
              try simp only [Act.put, List.setIfInBounds_toArray, List.set_cons_zero, List.set_cons_succ]
              refine wpAnyH_ready (rs := [15]) (by kernel_rfl) (by simp) (AllReadyH.cons (o := ⟨_, _, _, _, _, _⟩) rfl (fun K hK => ?_) AllReadyH.nil)
              go_simp
              refine (within16 _ _ (by decide) (by decide) _).mono ?_
              rintro e w2 ⟨rfl, hw2⟩
              subst hw2
              dsimp only
              refine hK.out _ _ ?_ (fun hHeld => ?_)
              · exact OC.out
              clear hK K
              try simp only [Act.put, List.setIfInBounds_toArray, List.set_cons_zero, List.set_cons_succ]
              refine wpAnyH_ready (rs := [22]) (by kernel_rfl) (by simp) (AllReadyH.cons (o := ⟨_, _, _, _, _, _⟩) rfl (fun K hK => ?_) AllReadyH.nil)
              go_simp
              refine (within16 _ _ (by decide) (by decide) _).mono ?_
              rintro e w2 ⟨rfl, hw2⟩
              subst hw2
              dsimp only
              refine hK.out _ _ ?_ (fun hHeld => ?_)
              · exact OC.out
              clear hK K
              try simp only [Act.put, List.setIfInBounds_toArray, List.set_cons_zero, List.set_cons_succ]
              refine wpAnyH_take (i := 23) (oi := ⟨_, _, _, _, _, _⟩) (v := ?_) rfl (by kernel_rfl) (by kernel_rfl) (by kernel_rfl) (fun _ _ _ h => h) (Or.inl ⟨by rfl, ?_⟩) (by assumption) ?_
              rotate_left
              · intro w hSw; (try dsimp only at hSw); go_simp; (try with_reducible rfl)
              try simp only [Act.put, List.setIfInBounds_toArray, List.set_cons_zero, List.set_cons_succ]
              refine wpAnyH_ready (rs := [24]) (by kernel_rfl) (by simp) (AllReadyH.cons (o := ⟨_, _, _, _, _, _⟩) rfl (fun K hK => ?_) AllReadyH.nil)
              go_simp
              have OX : Hid (Off (fun b => w.heap.size + 1 < b) D (D.alloc (.cells #[.int .i64 (a0 % 5), .int .i64 (a1 % 6), .int .i64 (a2 % 8)] 79))) := OC.out.alloc _
              refine hK.out _ _ ?_ (fun hHeld => ?_)
              · exact OX.out
              clear hK K
              try simp only [Act.put, List.setIfInBounds_toArray, List.set_cons_zero, List.set_cons_succ]
              replace TT : Hid (stAt (D.alloc (.cells #[.int .i64 (a0 % 5), .int .i64 (a1 % 6), .int .i64 (a2 % 8)] 79)) T s stk) := Off.keeps (ex := fun _ => False) ((Off.refl _ _).alloc (.cells #[.int .i64 (a0 % 5), .int .i64 (a1 % 6), .int .i64 (a2 % 8)] 79)) HD.out.st id
              have hrow : Hid ((D.alloc (.cells #[.int .i64 (a0 % 5), .int .i64 (a1 % 6), .int .i64 (a2 % 8)] 79)).ownsRow (w.heap.size + 2) 79 3 stk l.length (frC l)) := Off.row (ex := fun _ => False) ((Off.refl _ _).alloc (.cells #[.int .i64 (a0 % 5), .int .i64 (a1 % 6), .int .i64 (a2 % 8)] 79)) HD.out.row (fun _ h => h.elim)
              replace OC := OX
              clear OX
              refine wpAnyH_ready (rs := [25]) (by kernel_rfl) (by simp) (AllReadyH.cons (o := ⟨_, _, _, _, _, _⟩) rfl (fun K hK => ?_) AllReadyH.nil)
              rw [if_pos (by rfl)]
              refine wp_append_own _ (.tmp 56) (.tmp 79) 26 rfl (w.heap.size + 2) 79 iF (.agg #[.int .i64 0, .int .i64 0, .int .i64 0]) 3 24 A.underF hiF hz0 hz1 hz2 rfl (by decide) stk l.length (frC l) rfl hrow.out ⟨D.heap.size, 0, none⟩ 1 1 [.int .i64 (a0 % 5), .int .i64 (a1 % 6), .int .i64 (a2 % 8)] rfl rfl (fun j u hj => (by rw [← hj]; simp [Addr.add_mk0])) (by intro u hu; simp only [List.mem_cons, List.not_mem_nil, or_false] at hu; rcases hu with rfl | rfl | rfl <;> rfl) (by have := hl.out; unfold maxLen; omega) (by have := hl.out; omega) (by have h1 := HD.out.rs.lt; simp; omega) ?_
              intro v' w5 hown hgrow _
              obtain ⟨x1, x2, x3⟩ := row_some hown (by omega)
              subst x3
              have HN := Lib.hid (HD.out.snoc hrow.out hown hgrow (goodfr a0 a1 a2))
              have T5 : Hid (stAt w5 T s stk) := Lib.hid (BegR.keepT HD.out hrow.out hgrow)
              have OX : Hid (Off (fun b => w.heap.size + 1 < b) D w5) := OC.out.grown hgrow (fun k hk => .inl (by have h1 := (hrow.out.lt k hk).1; show w.heap.size + 1 < k; omega))
              refine hK.out _ _ ?_ (fun hHeld => ?_)
              · exact OX.out
              clear hK K hown hgrow TT OC hrow
              try simp only [Act.put, List.setIfInBounds_toArray, List.set_cons_zero, List.set_cons_succ]
              refine wpAnyH_take (i := 26) (oi := ⟨_, _, _, _, _, _⟩) (v := ?_) rfl (by kernel_rfl) (by kernel_rfl) (by kernel_rfl) (fun _ _ _ h => h) (Or.inl ⟨by rfl, ?_⟩) (by assumption) ?_
              rotate_left
              · intro w hSw; (try dsimp only at hSw); go_simp; (try with_reducible rfl)
              try simp only [Act.put, List.setIfInBounds_toArray, List.set_cons_zero, List.set_cons_succ]
              have t5 : w5.cell? ⟨T, 16, none⟩ = some stk := T5.out.cell 16
              have tf : ∀ j, w5.frozen? ⟨T, j, none⟩ = false := fun j => T5.out.free j
              have tR : T < w5.heap.size := T5.out.lt
              refine wpAnyH_ready (rs := [27]) (by kernel_rfl) (by simp) (AllReadyH.cons (o := ⟨_, _, _, _, _, _⟩) rfl (fun K hK => ?_) AllReadyH.nil)
              go_simp
              have OZ : Hid (Off (fun b => w.heap.size + 1 < b) D (w5.setCell ⟨T, 16, none⟩ (.slice (some ⟨x1, 0, none⟩) (l.length + 1) x2))) := OX.out.setCell (.inl HD.out.lt) _
              refine hK.out _ _ ?_ (fun hHeld => ?_)
              · exact OZ.out
              clear hK K
              try simp only [Act.put, List.setIfInBounds_toArray, List.set_cons_zero, List.set_cons_succ]
              clear t5 tf tR T5 OX OZ
              generalize w5.setCell ⟨T, 16, none⟩ (.slice (some ⟨x1, 0, none⟩) (l.length + 1) x2) = Z at HN ⊢
              refine wpAnyH_done (by kernel_rfl) ?_ _
              go_wp2_with fail
              go_roundw
              case rel => first | exact ⟨k + 1, l ++ [⟨a0 % 5, a1 % 6, a2 % 8⟩], _, by go_num, by omega, by omega, Lib.hid (by simp [hl.out]), HN⟩ | exact ⟨k + 1, by go_num, by omega, by omega, l ++ [⟨a0 % 5, a1 % 6, a2 % 8⟩], _, Lib.hid (by simp [hl.out]), HN⟩
              case measure => simp [intOf]; omega
            · go_simp
              refine (within16 _ _ (by decide) (by decide) _).mono ?_
              rintro e w2 ⟨rfl, hw2⟩
              subst hw2
              dsimp only
              refine hK.out _ _ ?_ (fun hHeld => ?_)
              · exact OC.out
              clear hK K
              try simp only [Act.put, List.setIfInBounds_toArray, List.set_cons_zero, List.set_cons_succ]
              refine wpAnyH_ready (rs := [1, 15]) (by kernel_rfl) (by simp) (AllReadyH.cons (o := ⟨_, _, _, _, _, _⟩) rfl (fun K hK => ?_) (AllReadyH.cons (o := ⟨_, _, _, _, _, _⟩) rfl (fun K hK => ?_) AllReadyH.nil))
              · have tc : D.cell? ⟨T, 16, none⟩ = some stk := (show stAt D T s stk from TT.out).cell 16
                go_simp
                clear tc
                refine hK.out _ _ ?_ (fun hHeld => ?_)
                · exact OC.out
                clear hK K
                try simp only [Act.put, List.setIfInBounds_toArray, List.set_cons_zero, List.set_cons_succ]
                refine wpAnyH_ready (rs := [15]) (by kernel_rfl) (by simp) (AllReadyH.cons (o := ⟨_, _, _, _, _, _⟩) rfl (fun K hK => ?_) AllReadyH.nil)
                go_simp
                refine (within16 _ _ (by decide) (by decide) _).mono ?_
                rintro e w2 ⟨rfl, hw2⟩
                subst hw2
                dsimp only
                refine hK.out _ _ ?_ (fun hHeld => ?_)
                · exact OC.out
                clear hK K
                try simp only [Act.put, List.setIfInBounds_toArray, List.set_cons_zero, List.set_cons_succ]
                refine wpAnyH_ready (rs := [22]) (by kernel_rfl) (by simp) (AllReadyH.cons (o := ⟨_, _, _, _, _, _⟩) rfl (fun K hK => ?_) AllReadyH.nil)
                go_simp
                refine (within16 _ _ (by decide) (by decide) _).mono ?_
                rintro e w2 ⟨rfl, hw2⟩
                subst hw2
                dsimp only
                refine hK.out _ _ ?_ (fun hHeld => ?_)
                · exact OC.out
                clear hK K
                try simp only [Act.put, List.setIfInBounds_toArray, List.set_cons_zero, List.set_cons_succ]
                refine wpAnyH_take (i := 23) (oi := ⟨_, _, _, _, _, _⟩) (v := ?_) rfl (by kernel_rfl) (by kernel_rfl) (by kernel_rfl) (fun _ _ _ h => h) (Or.inl ⟨by rfl, ?_⟩) (by assumption) ?_
                rotate_left
                · intro w hSw; (try dsimp only at hSw); go_simp; (try with_reducible rfl)
                try simp only [Act.put, List.setIfInBounds_toArray, List.set_cons_zero, List.set_cons_succ]
                refine wpAnyH_ready (rs := [24]) (by kernel_rfl) (by simp) (AllReadyH.cons (o := ⟨_, _, _, _, _, _⟩) rfl (fun K hK => ?_) AllReadyH.nil)
                go_simp
                have OX : Hid (Off (fun b => w.heap.size + 1 < b) D (D.alloc (.cells #[.int .i64 (a0 % 5), .int .i64 (a1 % 6), .int .i64 (a2 % 8)] 79))) := OC.out.alloc _
                refine hK.out _ _ ?_ (fun hHeld => ?_)
                · exact OX.out
                clear hK K
                try simp only [Act.put, List.setIfInBounds_toArray, List.set_cons_zero, List.set_cons_succ]
                replace TT : Hid (stAt (D.alloc (.cells #[.int .i64 (a0 % 5), .int .i64 (a1 % 6), .int .i64 (a2 % 8)] 79)) T s stk) := Off.keeps (ex := fun _ => False) ((Off.refl _ _).alloc (.cells #[.int .i64 (a0 % 5), .int .i64 (a1 % 6), .int .i64 (a2 % 8)] 79)) HD.out.st id
                have hrow : Hid ((D.alloc (.cells #[.int .i64 (a0 % 5), .int .i64 (a1 % 6), .int .i64 (a2 % 8)] 79)).ownsRow (w.heap.size + 2) 79 3 stk l.length (frC l)) := Off.row (ex := fun _ => False) ((Off.refl _ _).alloc (.cells #[.int .i64 (a0 % 5), .int .i64 (a1 % 6), .int .i64 (a2 % 8)] 79)) HD.out.row (fun _ h => h.elim)
                replace OC := OX
                clear OX
                refine wpAnyH_ready (rs := [25]) (by kernel_rfl) (by simp) (AllReadyH.cons (o := ⟨_, _, _, _, _, _⟩) rfl (fun K hK => ?_) AllReadyH.nil)
                rw [if_pos (by rfl)]
                refine wp_append_own _ (.tmp 56) (.tmp 79) 26 rfl (w.heap.size + 2) 79 iF (.agg #[.int .i64 0, .int .i64 0, .int .i64 0]) 3 24 A.underF hiF hz0 hz1 hz2 rfl (by decide) stk l.length (frC l) rfl hrow.out ⟨D.heap.size, 0, none⟩ 1 1 [.int .i64 (a0 % 5), .int .i64 (a1 % 6), .int .i64 (a2 % 8)] rfl rfl (fun j u hj => (by rw [← hj]; simp [Addr.add_mk0])) (by intro u hu; simp only [List.mem_cons, List.not_mem_nil, or_false] at hu; rcases hu with rfl | rfl | rfl <;> rfl) (by have := hl.out; unfold maxLen; omega) (by have := hl.out; omega) (by have h1 := HD.out.rs.lt; simp; omega) ?_
                intro v' w5 hown hgrow _
                obtain ⟨x1, x2, x3⟩ := row_some hown (by omega)
                subst x3
                have HN := Lib.hid (HD.out.snoc hrow.out hown hgrow (goodfr a0 a1 a2))
                have T5 : Hid (stAt w5 T s stk) := Lib.hid (BegR.keepT HD.out hrow.out hgrow)
                have OX : Hid (Off (fun b => w.heap.size + 1 < b) D w5) := OC.out.grown hgrow (fun k hk => .inl (by have h1 := (hrow.out.lt k hk).1; show w.heap.size + 1 < k; omega))
                refine hK.out _ _ ?_ (fun hHeld => ?_)
                · exact OX.out
                clear hK K hown hgrow TT OC hrow
                try simp only [Act.put, List.setIfInBounds_toArray, List.set_cons_zero, List.set_cons_succ]
                refine wpAnyH_take (i := 26) (oi := ⟨_, _, _, _, _, _⟩) (v := ?_) rfl (by kernel_rfl) (by kernel_rfl) (by kernel_rfl) (fun _ _ _ h => h) (Or.inl ⟨by rfl, ?_⟩) (by assumption) ?_
                rotate_left
                · intro w hSw; (try dsimp only at hSw); go_simp; (try with_reducible rfl)
                try simp only [Act.put, List.setIfInBounds_toArray, List.set_cons_zero, List.set_cons_succ]
                have t5 : w5.cell? ⟨T, 16, none⟩ = some stk := T5.out.cell 16
                have tf : ∀ j, w5.frozen? ⟨T, j, none⟩ = false := fun j => T5.out.free j
                have tR : T < w5.heap.size := T5.out.lt
                refine wpAnyH_ready (rs := [27]) (by kernel_rfl) (by simp) (AllReadyH.cons (o := ⟨_, _, _, _, _, _⟩) rfl (fun K hK => ?_) AllReadyH.nil)
                go_simp
                have OZ : Hid (Off (fun b => w.heap.size + 1 < b) D (w5.setCell ⟨T, 16, none⟩ (.slice (some ⟨x1, 0, none⟩) (l.length + 1) x2))) := OX.out.setCell (.inl HD.out.lt) _
                refine hK.out _ _ ?_ (fun hHeld => ?_)
                · exact OZ.out
                clear hK K
                try simp only [Act.put, List.setIfInBounds_toArray, List.set_cons_zero, List.set_cons_succ]
                clear t5 tf tR T5 OX OZ
                generalize w5.setCell ⟨T, 16, none⟩ (.slice (some ⟨x1, 0, none⟩) (l.length + 1) x2) = Z at HN ⊢
                refine wpAnyH_done (by kernel_rfl) ?_ _
                go_wp2_with fail
                go_roundw
                case rel => first | exact ⟨k + 1, l ++ [⟨a0 % 5, a1 % 6, a2 % 8⟩], _, by go_num, by omega, by omega, Lib.hid (by simp [hl.out]), HN⟩ | exact ⟨k + 1, by go_num, by omega, by omega, l ++ [⟨a0 % 5, a1 % 6, a2 % 8⟩], _, Lib.hid (by simp [hl.out]), HN⟩
                case measure => simp [intOf]; omega
              · go_simp
                refine (within16 _ _ (by decide) (by decide) _).mono ?_
                rintro e w2 ⟨rfl, hw2⟩
                subst hw2
                dsimp only
                refine hK.out _ _ ?_ (fun hHeld => ?_)
                · exact OC.out
                clear hK K
                try simp only [Act.put, List.setIfInBounds_toArray, List.set_cons_zero, List.set_cons_succ]
                refine wpAnyH_ready (rs := [1, 22]) (by kernel_rfl) (by simp) (AllReadyH.cons (o := ⟨_, _, _, _, _, _⟩) rfl (fun K hK => ?_) (AllReadyH.cons (o := ⟨_, _, _, _, _, _⟩) rfl (fun K hK => ?_) AllReadyH.nil))
                · have tc : D.cell? ⟨T, 16, none⟩ = some stk := (show stAt D T s stk from TT.out).cell 16
                  go_simp
                  clear tc
                  refine hK.out _ _ ?_ (fun hHeld => ?_)
                  · exact OC.out
                  clear hK K
                  try simp only [Act.put, List.setIfInBounds_toArray, List.set_cons_zero, List.set_cons_succ]
                  refine wpAnyH_ready (rs := [22]) (by kernel_rfl) (by simp) (AllReadyH.cons (o := ⟨_, _, _, _, _, _⟩) rfl (fun K hK => ?_) AllReadyH.nil)
                  go_simp
                  refine (within16 _ _ (by decide) (by decide) _).mono ?_
                  rintro e w2 ⟨rfl, hw2⟩
                  subst hw2
                  dsimp only
                  refine hK.out _ _ ?_ (fun hHeld => ?_)
                  · exact OC.out
                  clear hK K
                  try simp only [Act.put, List.setIfInBounds_toArray, List.set_cons_zero, List.set_cons_succ]
                  refine wpAnyH_take (i := 23) (oi := ⟨_, _, _, _, _, _⟩) (v := ?_) rfl (by kernel_rfl) (by kernel_rfl) (by kernel_rfl) (fun _ _ _ h => h) (Or.inl ⟨by rfl, ?_⟩) (by assumption) ?_
                  rotate_left
                  · intro w hSw; (try dsimp only at hSw); go_simp; (try with_reducible rfl)
                  try simp only [Act.put, List.setIfInBounds_toArray, List.set_cons_zero, List.set_cons_succ]
                  refine wpAnyH_ready (rs := [24]) (by kernel_rfl) (by simp) (AllReadyH.cons (o := ⟨_, _, _, _, _, _⟩) rfl (fun K hK => ?_) AllReadyH.nil)
                  go_simp
                  have OX : Hid (Off (fun b => w.heap.size + 1 < b) D (D.alloc (.cells #[.int .i64 (a0 % 5), .int .i64 (a1 % 6), .int .i64 (a2 % 8)] 79))) := OC.out.alloc _
                  refine hK.out _ _ ?_ (fun hHeld => ?_)
                  · exact OX.out
                  clear hK K
                  try simp only [Act.put, List.setIfInBounds_toArray, List.set_cons_zero, List.set_cons_succ]
                  replace TT : Hid (stAt (D.alloc (.cells #[.int .i64 (a0 % 5), .int .i64 (a1 % 6), .int .i64 (a2 % 8)] 79)) T s stk) := Off.keeps (ex := fun _ => False) ((Off.refl _ _).alloc (.cells #[.int .i64 (a0 % 5), .int .i64 (a1 % 6), .int .i64 (a2 % 8)] 79)) HD.out.st id
                  have hrow : Hid ((D.alloc (.cells #[.int .i64 (a0 % 5), .int .i64 (a1 % 6), .int .i64 (a2 % 8)] 79)).ownsRow (w.heap.size + 2) 79 3 stk l.length (frC l)) := Off.row (ex := fun _ => False) ((Off.refl _ _).alloc (.cells #[.int .i64 (a0 % 5), .int .i64 (a1 % 6), .int .i64 (a2 % 8)] 79)) HD.out.row (fun _ h => h.elim)
                  replace OC := OX
                  clear OX
                  refine wpAnyH_ready (rs := [25]) (by kernel_rfl) (by simp) (AllReadyH.cons (o := ⟨_, _, _, _, _, _⟩) rfl (fun K hK => ?_) AllReadyH.nil)
                  rw [if_pos (by rfl)]
                  refine wp_append_own _ (.tmp 56) (.tmp 79) 26 rfl (w.heap.size + 2) 79 iF (.agg #[.int .i64 0, .int .i64 0, .int .i64 0]) 3 24 A.underF hiF hz0 hz1 hz2 rfl (by decide) stk l.length (frC l) rfl hrow.out ⟨D.heap.size, 0, none⟩ 1 1 [.int .i64 (a0 % 5), .int .i64 (a1 % 6), .int .i64 (a2 % 8)] rfl rfl (fun j u hj => (by rw [← hj]; simp [Addr.add_mk0])) (by intro u hu; simp only [List.mem_cons, List.not_mem_nil, or_false] at hu; rcases hu with rfl | rfl | rfl <;> rfl) (by have := hl.out; unfold maxLen; omega) (by have := hl.out; omega) (by have h1 := HD.out.rs.lt; simp; omega) ?_
                  intro v' w5 hown hgrow _
                  obtain ⟨x1, x2, x3⟩ := row_some hown (by omega)
                  subst x3
                  have HN := Lib.hid (HD.out.snoc hrow.out hown hgrow (goodfr a0 a1 a2))
                  have T5 : Hid (stAt w5 T s stk) := Lib.hid (BegR.keepT HD.out hrow.out hgrow)
                  have OX : Hid (Off (fun b => w.heap.size + 1 < b) D w5) := OC.out.grown hgrow (fun k hk => .inl (by have h1 := (hrow.out.lt k hk).1; show w.heap.size + 1 < k; omega))
                  refine hK.out _ _ ?_ (fun hHeld => ?_)
                  · exact OX.out
                  clear hK K hown hgrow TT OC hrow
                  try simp only [Act.put, List.setIfInBounds_toArray, List.set_cons_zero, List.set_cons_succ]
                  refine wpAnyH_take (i := 26) (oi := ⟨_, _, _, _, _, _⟩) (v := ?_) rfl (by kernel_rfl) (by kernel_rfl) (by kernel_rfl) (fun _ _ _ h => h) (Or.inl ⟨by rfl, ?_⟩) (by assumption) ?_
                  rotate_left
                  · intro w hSw; (try dsimp only at hSw); go_simp; (try with_reducible rfl)
                  try simp only [Act.put, List.setIfInBounds_toArray, List.set_cons_zero, List.set_cons_succ]
                  have t5 : w5.cell? ⟨T, 16, none⟩ = some stk := T5.out.cell 16
                  have tf : ∀ j, w5.frozen? ⟨T, j, none⟩ = false := fun j => T5.out.free j
                  have tR : T < w5.heap.size := T5.out.lt
                  refine wpAnyH_ready (rs := [27]) (by kernel_rfl) (by simp) (AllReadyH.cons (o := ⟨_, _, _, _, _, _⟩) rfl (fun K hK => ?_) AllReadyH.nil)
                  go_simp
                  have OZ : Hid (Off (fun b => w.heap.size + 1 < b) D (w5.setCell ⟨T, 16, none⟩ (.slice (some ⟨x1, 0, none⟩) (l.length + 1) x2))) := OX.out.setCell (.inl HD.out.lt) _
                  refine hK.out _ _ ?_ (fun hHeld => ?_)
                  · exact OZ.out
                  clear hK K
                  try simp only [Act.put, List.setIfInBounds_toArray, List.set_cons_zero, List.set_cons_succ]
                  clear t5 tf tR T5 OX OZ
                  generalize w5.setCell ⟨T, 16, none⟩ (.slice (some ⟨x1, 0, none⟩) (l.length + 1) x2) = Z at HN ⊢
                  refine wpAnyH_done (by kernel_rfl) ?_ _
                  go_wp2_with fail
                  go_roundw
                  case rel => first | exact ⟨k + 1, l ++ [⟨a0 % 5, a1 % 6, a2 % 8⟩], _, by go_num, by omega, by omega, Lib.hid (by simp [hl.out]), HN⟩ | exact ⟨k + 1, by go_num, by omega, by omega, l ++ [⟨a0 % 5, a1 % 6, a2 % 8⟩], _, Lib.hid (by simp [hl.out]), HN⟩
                  case measure => simp [intOf]; omega
                · go_simp
                  refine (within16 _ _ (by decide) (by decide) _).mono ?_
                  rintro e w2 ⟨rfl, hw2⟩
                  subst hw2
                  dsimp only
                  refine hK.out _ _ ?_ (fun hHeld => ?_)
                  · exact OC.out
                  clear hK K
                  try simp only [Act.put, List.setIfInBounds_toArray, List.set_cons_zero, List.set_cons_succ]
                  refine wpAnyH_take (i := 23) (oi := ⟨_, _, _, _, _, _⟩) (v := ?_) rfl (by kernel_rfl) (by kernel_rfl) (by kernel_rfl) (fun _ _ _ h => h) (Or.inl ⟨by rfl, ?_⟩) (by assumption) ?_
                  rotate_left
                  · intro w hSw; (try dsimp only at hSw); go_simp; (try with_reducible rfl)
                  try simp only [Act.put, List.setIfInBounds_toArray, List.set_cons_zero, List.set_cons_succ]
                  refine wpAnyH_ready (rs := [1, 24]) (by kernel_rfl) (by simp) (AllReadyH.cons (o := ⟨_, _, _, _, _, _⟩) rfl (fun K hK => ?_) (AllReadyH.cons (o := ⟨_, _, _, _, _, _⟩) rfl (fun K hK => ?_) AllReadyH.nil))
                  · have tc : D.cell? ⟨T, 16, none⟩ = some stk := (show stAt D T s stk from TT.out).cell 16
                    go_simp
                    clear tc
                    refine hK.out _ _ ?_ (fun hHeld => ?_)
                    · exact OC.out
                    clear hK K
                    try simp only [Act.put, List.setIfInBounds_toArray, List.set_cons_zero, List.set_cons_succ]
                    refine wpAnyH_ready (rs := [24]) (by kernel_rfl) (by simp) (AllReadyH.cons (o := ⟨_, _, _, _, _, _⟩) rfl (fun K hK => ?_) AllReadyH.nil)
                    go_simp
                    have OX : Hid (Off (fun b => w.heap.size + 1 < b) D (D.alloc (.cells #[.int .i64 (a0 % 5), .int .i64 (a1 % 6), .int .i64 (a2 % 8)] 79))) := OC.out.alloc _
                    refine hK.out _ _ ?_ (fun hHeld => ?_)
                    · exact OX.out
                    clear hK K
                    try simp only [Act.put, List.setIfInBounds_toArray, List.set_cons_zero, List.set_cons_succ]
                    replace TT : Hid (stAt (D.alloc (.cells #[.int .i64 (a0 % 5), .int .i64 (a1 % 6), .int .i64 (a2 % 8)] 79)) T s stk) := Off.keeps (ex := fun _ => False) ((Off.refl _ _).alloc (.cells #[.int .i64 (a0 % 5), .int .i64 (a1 % 6), .int .i64 (a2 % 8)] 79)) HD.out.st id
                    have hrow : Hid ((D.alloc (.cells #[.int .i64 (a0 % 5), .int .i64 (a1 % 6), .int .i64 (a2 % 8)] 79)).ownsRow (w.heap.size + 2) 79 3 stk l.length (frC l)) := Off.row (ex := fun _ => False) ((Off.refl _ _).alloc (.cells #[.int .i64 (a0 % 5), .int .i64 (a1 % 6), .int .i64 (a2 % 8)] 79)) HD.out.row (fun _ h => h.elim)
                    replace OC := OX
                    clear OX
                    refine wpAnyH_ready (rs := [25]) (by kernel_rfl) (by simp) (AllReadyH.cons (o := ⟨_, _, _, _, _, _⟩) rfl (fun K hK => ?_) AllReadyH.nil)
                    rw [if_pos (by rfl)]
                    refine wp_append_own _ (.tmp 56) (.tmp 79) 26 rfl (w.heap.size + 2) 79 iF (.agg #[.int .i64 0, .int .i64 0, .int .i64 0]) 3 24 A.underF hiF hz0 hz1 hz2 rfl (by decide) stk l.length (frC l) rfl hrow.out ⟨D.heap.size, 0, none⟩ 1 1 [.int .i64 (a0 % 5), .int .i64 (a1 % 6), .int .i64 (a2 % 8)] rfl rfl (fun j u hj => (by rw [← hj]; simp [Addr.add_mk0])) (by intro u hu; simp only [List.mem_cons, List.not_mem_nil, or_false] at hu; rcases hu with rfl | rfl | rfl <;> rfl) (by have := hl.out; unfold maxLen; omega) (by have := hl.out; omega) (by have h1 := HD.out.rs.lt; simp; omega) ?_
                    intro v' w5 hown hgrow _
                    obtain ⟨x1, x2, x3⟩ := row_some hown (by omega)
                    subst x3
                    have HN := Lib.hid (HD.out.snoc hrow.out hown hgrow (goodfr a0 a1 a2))
                    have T5 : Hid (stAt w5 T s stk) := Lib.hid (BegR.keepT HD.out hrow.out hgrow)
                    have OX : Hid (Off (fun b => w.heap.size + 1 < b) D w5) := OC.out.grown hgrow (fun k hk => .inl (by have h1 := (hrow.out.lt k hk).1; show w.heap.size + 1 < k; omega))
                    refine hK.out _ _ ?_ (fun hHeld => ?_)
                    · exact OX.out
                    clear hK K hown hgrow TT OC hrow
                    try simp only [Act.put, List.setIfInBounds_toArray, List.set_cons_zero, List.set_cons_succ]
                    refine wpAnyH_take (i := 26) (oi := ⟨_, _, _, _, _, _⟩) (v := ?_) rfl (by kernel_rfl) (by kernel_rfl) (by kernel_rfl) (fun _ _ _ h => h) (Or.inl ⟨by rfl, ?_⟩) (by assumption) ?_
                    rotate_left
                    · intro w hSw; (try dsimp only at hSw); go_simp; (try with_reducible rfl)
                    try simp only [Act.put, List.setIfInBounds_toArray, List.set_cons_zero, List.set_cons_succ]
                    have t5 : w5.cell? ⟨T, 16, none⟩ = some stk := T5.out.cell 16
                    have tf : ∀ j, w5.frozen? ⟨T, j, none⟩ = false := fun j => T5.out.free j
                    have tR : T < w5.heap.size := T5.out.lt
                    refine wpAnyH_ready (rs := [27]) (by kernel_rfl) (by simp) (AllReadyH.cons (o := ⟨_, _, _, _, _, _⟩) rfl (fun K hK => ?_) AllReadyH.nil)
                    go_simp
                    have OZ : Hid (Off (fun b => w.heap.size + 1 < b) D (w5.setCell ⟨T, 16, none⟩ (.slice (some ⟨x1, 0, none⟩) (l.length + 1) x2))) := OX.out.setCell (.inl HD.out.lt) _
                    refine hK.out _ _ ?_ (fun hHeld => ?_)
                    · exact OZ.out
                    clear hK K
                    try simp only [Act.put, List.setIfInBounds_toArray, List.set_cons_zero, List.set_cons_succ]
                    clear t5 tf tR T5 OX OZ
                    generalize w5.setCell ⟨T, 16, none⟩ (.slice (some ⟨x1, 0, none⟩) (l.length + 1) x2) = Z at HN ⊢
                    refine wpAnyH_done (by kernel_rfl) ?_ _
                    go_wp2_with fail
                    go_roundw
                    case rel => first | exact ⟨k + 1, l ++ [⟨a0 % 5, a1 % 6, a2 % 8⟩], _, by go_num, by omega, by omega, Lib.hid (by simp [hl.out]), HN⟩ | exact ⟨k + 1, by go_num, by omega, by omega, l ++ [⟨a0 % 5, a1 % 6, a2 % 8⟩], _, Lib.hid (by simp [hl.out]), HN⟩
                    case measure => simp [intOf]; omega
                  · go_simp
                    have OX : Hid (Off (fun b => w.heap.size + 1 < b) D (D.alloc (.cells #[.int .i64 (a0 % 5), .int .i64 (a1 % 6), .int .i64 (a2 % 8)] 79))) := OC.out.alloc _
                    refine hK.out _ _ ?_ (fun hHeld => ?_)
                    · exact OX.out
                    clear hK K
                    try simp only [Act.put, List.setIfInBounds_toArray, List.set_cons_zero, List.set_cons_succ]
                    replace TT : Hid (stAt (D.alloc (.cells #[.int .i64 (a0 % 5), .int .i64 (a1 % 6), .int .i64 (a2 % 8)] 79)) T s stk) := Off.keeps (ex := fun _ => False) ((Off.refl _ _).alloc (.cells #[.int .i64 (a0 % 5), .int .i64 (a1 % 6), .int .i64 (a2 % 8)] 79)) HD.out.st id
                    have hrow : Hid ((D.alloc (.cells #[.int .i64 (a0 % 5), .int .i64 (a1 % 6), .int .i64 (a2 % 8)] 79)).ownsRow (w.heap.size + 2) 79 3 stk l.length (frC l)) := Off.row (ex := fun _ => False) ((Off.refl _ _).alloc (.cells #[.int .i64 (a0 % 5), .int .i64 (a1 % 6), .int .i64 (a2 % 8)] 79)) HD.out.row (fun _ h => h.elim)
                    replace OC := OX
                    clear OX
                    refine wpAnyH_ready (rs := [1]) (by kernel_rfl) (by simp) (AllReadyH.cons (o := ⟨_, _, _, _, _, _⟩) rfl (fun K hK => ?_) AllReadyH.nil)
                    have tc : (D.alloc (.cells #[.int .i64 (a0 % 5), .int .i64 (a1 % 6), .int .i64 (a2 % 8)] 79)).cell? ⟨T, 16, none⟩ = some stk := (show stAt (D.alloc (.cells #[.int .i64 (a0 % 5), .int .i64 (a1 % 6), .int .i64 (a2 % 8)] 79)) T s stk from TT.out).cell 16
                    go_simp
                    clear tc
                    refine hK.out _ _ ?_ (fun hHeld => ?_)
                    · exact OC.out
                    clear hK K
                    try simp only [Act.put, List.setIfInBounds_toArray, List.set_cons_zero, List.set_cons_succ]
                    refine wpAnyH_ready (rs := [25]) (by kernel_rfl) (by simp) (AllReadyH.cons (o := ⟨_, _, _, _, _, _⟩) rfl (fun K hK => ?_) AllReadyH.nil)
                    rw [if_pos (by rfl)]
                    refine wp_append_own _ (.tmp 56) (.tmp 79) 26 rfl (w.heap.size + 2) 79 iF (.agg #[.int .i64 0, .int .i64 0, .int .i64 0]) 3 24 A.underF hiF hz0 hz1 hz2 rfl (by decide) stk l.length (frC l) rfl hrow.out ⟨D.heap.size, 0, none⟩ 1 1 [.int .i64 (a0 % 5), .int .i64 (a1 % 6), .int .i64 (a2 % 8)] rfl rfl (fun j u hj => (by rw [← hj]; simp [Addr.add_mk0])) (by intro u hu; simp only [List.mem_cons, List.not_mem_nil, or_false] at hu; rcases hu with rfl | rfl | rfl <;> rfl) (by have := hl.out; unfold maxLen; omega) (by have := hl.out; omega) (by have h1 := HD.out.rs.lt; simp; omega) ?_
                    intro v' w5 hown hgrow _
                    obtain ⟨x1, x2, x3⟩ := row_some hown (by omega)
                    subst x3
                    have HN := Lib.hid (HD.out.snoc hrow.out hown hgrow (goodfr a0 a1 a2))
                    have T5 : Hid (stAt w5 T s stk) := Lib.hid (BegR.keepT HD.out hrow.out hgrow)
                    have OX : Hid (Off (fun b => w.heap.size + 1 < b) D w5) := OC.out.grown hgrow (fun k hk => .inl (by have h1 := (hrow.out.lt k hk).1; show w.heap.size + 1 < k; omega))
                    refine hK.out _ _ ?_ (fun hHeld => ?_)
                    · exact OX.out
                    clear hK K hown hgrow TT OC hrow
                    try simp only [Act.put, List.setIfInBounds_toArray, List.set_cons_zero, List.set_cons_succ]
                    refine wpAnyH_take (i := 26) (oi := ⟨_, _, _, _, _, _⟩) (v := ?_) rfl (by kernel_rfl) (by kernel_rfl) (by kernel_rfl) (fun _ _ _ h => h) (Or.inl ⟨by rfl, ?_⟩) (by assumption) ?_
                    rotate_left
                    · intro w hSw; (try dsimp only at hSw); go_simp; (try with_reducible rfl)
                    try simp only [Act.put, List.setIfInBounds_toArray, List.set_cons_zero, List.set_cons_succ]
                    have t5 : w5.cell? ⟨T, 16, none⟩ = some stk := T5.out.cell 16
                    have tf : ∀ j, w5.frozen? ⟨T, j, none⟩ = false := fun j => T5.out.free j
                    have tR : T < w5.heap.size := T5.out.lt
                    refine wpAnyH_ready (rs := [27]) (by kernel_rfl) (by simp) (AllReadyH.cons (o := ⟨_, _, _, _, _, _⟩) rfl (fun K hK => ?_) AllReadyH.nil)
                    go_simp
                    have OZ : Hid (Off (fun b => w.heap.size + 1 < b) D (w5.setCell ⟨T, 16, none⟩ (.slice (some ⟨x1, 0, none⟩) (l.length + 1) x2))) := OX.out.setCell (.inl HD.out.lt) _
                    refine hK.out _ _ ?_ (fun hHeld => ?_)
                    · exact OZ.out
                    clear hK K
                    try simp only [Act.put, List.setIfInBounds_toArray, List.set_cons_zero, List.set_cons_succ]
                    clear t5 tf tR T5 OX OZ
                    generalize w5.setCell ⟨T, 16, none⟩ (.slice (some ⟨x1, 0, none⟩) (l.length + 1) x2) = Z at HN ⊢
                    refine wpAnyH_done (by kernel_rfl) ?_ _
                    go_wp2_with fail
                    go_roundw
                    case rel => first | exact ⟨k + 1, l ++ [⟨a0 % 5, a1 % 6, a2 % 8⟩], _, by go_num, by omega, by omega, Lib.hid (by simp [hl.out]), HN⟩ | exact ⟨k + 1, by go_num, by omega, by omega, l ++ [⟨a0 % 5, a1 % 6, a2 % 8⟩], _, Lib.hid (by simp [hl.out]), HN⟩
                    case measure => simp [intOf]; omega
          · by_cases hk1 : k < nf
            · have hk2 : ¬ (k : Int) < 8 := by omega
              go_wp2_with (first | ((with_reducible refine wpList_load_st (op := ⟨some 82, .load 33 (.tmp 3), _, _, _, _⟩) (N := T) (s := s) (stk := stk) ?_ (.tmp 3) ?_ ?_ ?_ ?_); exact rfl; exact rfl; exact rfl; exact st_range HR.out.st) | ((with_reducible refine wpList_store_st (op := ⟨none, .store 33 (.tmp 2) (.tmp 82), _, _, _, _⟩) (N := (w.heap.size + 1)) (s := St.zero) (stk := (.slice none 0 0)) (s' := s) (stk' := stk) ?_ (.tmp 2) (.tmp 82) ?_ ?_ ?_ ?_ ?_ ?_); exact rfl; exact rfl; exact rfl; exact rfl; exact HR.out.rs; exact hone.out; intro w7 S7 F7; have F7 := Lib.hid F7; have S7 := Lib.hid S7))
              have ho : Off (· = w.heap.size + 1) wr w7 := F7.out
              refine bodyPost_ret (beg_results S7.out _ rfl) rfl ?_
              first | exact ⟨s, stk, l, rfl, row_base (Off.row ho HR.out.row (st_not6 HR.out.rs _ (by decide))) (Nat.zero_le _), by rw [hl.out]; exact hk8, HR.out.good, HR.out.fr, Off.below HR.out.bl ho HR.out.bl.size (fun j hj => by omega)⟩ | exact ⟨s, stk, rfl, l, row_base (Off.row ho HR.out.row (st_not6 HR.out.rs _ (by decide))) (Nat.zero_le _), by rw [hl.out]; exact hk8, HR.out.good, HR.out.fr, Off.below HR.out.bl ho HR.out.bl.size (fun j hj => by omega)⟩
            · have hq : 0 ≤ 0 := Nat.le_refl _
              go_wp2_with (first | ((with_reducible refine wpList_load_st (op := ⟨some 82, .load 33 (.tmp 3), _, _, _, _⟩) (N := T) (s := s) (stk := stk) ?_ (.tmp 3) ?_ ?_ ?_ ?_); exact rfl; exact rfl; exact rfl; exact st_range HR.out.st) | ((with_reducible refine wpList_store_st (op := ⟨none, .store 33 (.tmp 2) (.tmp 82), _, _, _, _⟩) (N := (w.heap.size + 1)) (s := St.zero) (stk := (.slice none 0 0)) (s' := s) (stk' := stk) ?_ (.tmp 2) (.tmp 82) ?_ ?_ ?_ ?_ ?_ ?_); exact rfl; exact rfl; exact rfl; exact rfl; exact HR.out.rs; exact hone.out; intro w7 S7 F7; have F7 := Lib.hid F7; have S7 := Lib.hid S7))
              have ho : Off (· = w.heap.size + 1) wr w7 := F7.out
              refine bodyPost_ret (beg_results S7.out _ rfl) rfl ?_
              first | exact ⟨s, stk, l, rfl, row_base (Off.row ho HR.out.row (st_not6 HR.out.rs _ (by decide))) (Nat.zero_le _), by rw [hl.out]; exact hk8, HR.out.good, HR.out.fr, Off.below HR.out.bl ho HR.out.bl.size (fun j hj => by omega)⟩ | exact ⟨s, stk, rfl, l, row_base (Off.row ho HR.out.row (st_not6 HR.out.rs _ (by decide))) (Nat.zero_le _), by rw [hl.out]; exact hk8, HR.out.good, HR.out.fr, Off.below HR.out.bl ho HR.out.bl.size (fun j hj => by omega)⟩
end Go.Proofs.Ytiakonmamkfopaa
