/- Contracts of package disk: crashing. -/
import Derived.Test.YtnlemjjigiphcaaDy
import Derived.Test.YtnlemjjigiphcaaSh
import Derived.Sort.OwnSortedInts
import Derived.Laws.CopyOwn
namespace Go.Proofs.Ytnlemjjigiphcaa
open Go.RowKit Go.ChangeShapes
set_option linter.unusedVariables false
set_option maxRecDepth 100000

/-! ### sorting -/
theorem asc_eq : ∀ {a b : List Int}, a.Pairwise (· < ·) → b.Pairwise (· < ·) → (∀ x, x ∈ a ↔ x ∈ b) → a = b
  | [], [], _, _, _ => rfl
  | [], y :: b, _, _, h => by have := (h y).2 (by simp); simp at this
  | x :: a, [], _, _, h => by have := (h x).1 (by simp); simp at this
  | x :: a, y :: b, ha, hb, h => by
    obtain ⟨a1, a2⟩ := List.pairwise_cons.1 ha
    obtain ⟨b1, b2⟩ := List.pairwise_cons.1 hb
    have e : x = y := by
      rcases List.mem_cons.1 ((h x).1 (by simp)) with e | e
      · exact e
      · rcases List.mem_cons.1 ((h y).2 (by simp)) with e' | e'
        · exact e'.symm
        · have := a1 y e'
          have := b1 x e
          omega
    subst e
    congr 1
    refine asc_eq a2 b2 (fun z => ?_)
    have hz := h z
    simp only [List.mem_cons] at hz
    constructor
    · intro hm
      have := a1 z hm
      rcases hz.1 (.inr hm) with e | e
      · omega
      · exact e
    · intro hm
      have := b1 z hm
      rcases hz.2 (.inr hm) with e | e
      · omega
      · exact e
theorem sort_asc {ks : List Int} (h : ks.Nodup) : (ks.mergeSort fun x y => decide (x ≤ y)).Pairwise (· < ·) := by
  have h1 : (ks.mergeSort fun x y => decide (x ≤ y)).Pairwise (fun a b => decide (a ≤ b) = true) := List.pairwise_mergeSort (fun a b c h1 h2 => by simp at *; omega) (fun a b => by simp; omega) ks
  have h2 : (ks.mergeSort fun x y => decide (x ≤ y)).Nodup := (List.mergeSort_perm ks _).nodup_iff.2 h
  have h3 := List.pairwise_and_iff.2 ⟨h1, h2⟩
  exact h3.imp (fun ⟨a, b⟩ => by simp at a; omega)
theorem c_Sort (w : World) (B : Nat) (v : Value) (ks : List Int) (h : w.ownsRow B 3 1 v ks.length (ks.map (Value.int .i64))) (hl : ks.length < 1000000) : Calls Try.prog 28 #[v] w fun e w' => e = .returned (.tuple #[]) ∧ w'.ownsRow B 3 1 v ks.length ((ks.mergeSort fun x y => decide (x ≤ y)).map (Value.int .i64)) ∧ Off (fun k => B ≤ k) w w' := by
  have hlen : (ks.mergeSort fun x y => decide (x ≤ y)).length = ks.length := (List.mergeSort_perm ks _).length_eq
  rcases h.2 with ⟨rfl, h0⟩ | ⟨g, cap, cur, hv, hb, hg, h1, h2, h3, h4⟩
  · obtain rfl : ks = [] := List.length_eq_zero_iff.1 h0
    refine (Any.slices_Sort_int_none lays189 none 0 w).mono ?_
    rintro e w' ⟨rfl, rfl⟩
    exact ⟨rfl, by simpa using h, Off.refl _ _⟩
  · subst hv
    refine (Any.slices_Sort_int lays189 g 0 cap ks w (holds_of_blockI hg (by rw [Nat.mul_one] at h4; exact h4)) (Array.getElem?_eq_some_iff.1 hg).1 (by omega)).mono ?_
    rintro e w' ⟨rfl, n, os, rfl⟩
    refine ⟨rfl, ?_, ?_⟩
    · exact ownsRow_sortedI (ss := ks) hlen hb hg h1 h2 h3
    · exact (Off.refl _ _).grown (grownBy_sortedI _) (fun k hk => .inl (by have := Option.some.inj hk; omega))
/-! ### the keys -/
theorem A.underLI : Try.prog.underlying 39 = some (.slice 3) := by kernel_rfl
theorem A.infoI : (Try.prog.info? 3).map (fun i => (i.zero, i.size, i.bytes)) = some (some (.int .i64 0), 1, 8) := by kernel_rfl
/-- the keys that have come -/
structure KyR (w wr : World) (R q : Nat) (v : Value) (vq : AM Value) (left : Lit → Bool) (cnt : Nat) (ks : List Int) : Prop where
  rg : wr.ranges Try.prog 3 heldE q R vq.length (.map (ents vq)) left cnt
  row : wr.ownsRow w.heap.size 3 1 v ks.length (ks.map (Value.int .i64))
  mem : ∀ k, k ∈ ks ↔ (getm vq k).isSome = true ∧ left (.int .i64 k) = false
  nd : ks.Nodup
  hR : w.heap.size = R
  off : Below w.heap.size w wr
theorem keys_nodup {vq : AM Value} (h : Asc vq) : (vq.map (·.1)).Pairwise (· < ·) := List.pairwise_map.2 h
theorem getm_keys {vq : AM Value} (k : Int) : (getm vq k).isSome = true ↔ k ∈ vq.map (·.1) := by
  induction vq with
  | nil => simp [getm]
  | cons p r ih =>
    obtain ⟨j, v⟩ := p
    rw [getm_cons]
    by_cases e : j = k
    · subst e; simp
    · rw [if_neg e, ih]
      simp [Ne.symm e]
theorem KyR.done {w wr : World} {R q : Nat} {v : Value} {vq : AM Value} {left : Lit → Bool} {cnt : Nat} {ks : List Int} (h : KyR w wr R q v vq left cnt ks) (ha : Asc vq) (hl : ∀ k, left k = false) : (ks.mergeSort fun x y => decide (x ≤ y)) = vq.map (·.1) :=
  asc_eq (sort_asc h.nd) (keys_nodup ha) (fun x => by
    rw [List.mem_mergeSort, h.mem, getm_keys, hl]
    simp)
theorem nodup_len : ∀ {a : List Int} {b : List Int}, a.Nodup → (∀ x ∈ a, x ∈ b) → a.length ≤ b.length := by
  intro a
  induction a with
  | nil => intro b _ _; simp
  | cons x a ih =>
    intro b hn hs
    obtain ⟨h1, h2⟩ := List.nodup_cons.1 hn
    have hx := hs x (by simp)
    have := ih (b := b.erase x) h2 (fun y hy => (List.mem_erase_of_ne (show y ≠ x from fun e => h1 (by rw [← e]; exact hy))).2 (hs y (by simp [hy])))
    rw [List.length_erase_of_mem hx] at this
    have := List.length_pos_of_mem hx
    simp
    omega
theorem KyR.len {w wr : World} {R q : Nat} {v : Value} {vq : AM Value} {left : Lit → Bool} {cnt : Nat} {ks : List Int} (h : KyR w wr R q v vq left cnt ks) : ks.length ≤ vq.length := by
  have := nodup_len (b := vq.map (·.1)) h.nd (fun x hx => (getm_keys x).1 ((h.mem x).1 hx).1)
  simpa using this
theorem KyR.start {w w2 : World} {q : Nat} {vq : AM Value} (hg : w.grownBy w2 none) (hr : w2.ranges Try.prog 3 heldE q w.heap.size vq.length (.map (ents vq)) (Maps.has (.map (ents vq))) (Maps.size (DataW.map (ents vq)))) : KyR w w2 w.heap.size q (.slice none 0 0) vq (Maps.has (.map (ents vq))) (Maps.size (DataW.map (ents vq))) [] :=
  ⟨hr, ⟨rfl, .inl ⟨rfl, rfl⟩⟩, fun k => by rw [ents_has]; cases hg : getm vq k <;> simp, List.nodup_nil, rfl, (Below.refl _ _).grown hg (by simp) (fun k hk => (by cases hk))⟩
theorem KyR.step {w wr w3 w4 : World} {R q : Nat} {v v' : Value} {vq : AM Value} {left : Lit → Bool} {cnt cnt' : Nat} {ks : List Int} {x : Int} {c : Value} (h : KyR w wr R q v vq left cnt ks) (hx : getm vq x = some c) (hl : left (.int .i64 x) = true)
    (hr : w3.ranges Try.prog 3 heldE q R vq.length (.map (ents vq)) (fun z => left z && !z.sameKey (.int .i64 x)) cnt') (hg : wr.grownBy w3 (some R)) (hrow : w4.ownsRow w.heap.size 3 1 v' (ks.length + 1) ((ks ++ [x]).map (Value.int .i64))) (hb : Off (fun k => blkOf v = some k) w3 w4) :
    KyR w w4 R q v' vq (fun z => left z && !z.sameKey (.int .i64 x)) cnt' (ks ++ [x]) := by
  have hvR : ∀ k, blkOf v = some k → k ≠ R ∧ w.heap.size ≤ k := by
    intro k hk
    obtain ⟨ad, cap, rfl, h0, h1⟩ := row_shape h.row
    cases ad with
    | none => cases hk
    | some a =>
      obtain ⟨g, rfl⟩ := h1 a rfl
      cases hk
      refine ⟨?_, (row_blk h.row).1⟩
      rintro rfl
      obtain ⟨_, _, _, cs, hc⟩ := row_blk h.row
      obtain ⟨es, clock, since, seen, c0, hb1, hb2, hb3, hb4, hb5, rest⟩ := h.rg
      rw [hb5] at hc
      cases hc
  have hvq : ∀ k, blkOf v = some k → k ≠ q := by
    intro k hk
    obtain ⟨ad, cap, rfl, h0, h1⟩ := row_shape h.row
    cases ad with
    | none => cases hk
    | some a =>
      obtain ⟨g, rfl⟩ := h1 a rfl
      cases hk
      rintro rfl
      obtain ⟨_, _, _, cs, hc⟩ := row_blk h.row
      obtain ⟨es, ck, hb', _⟩ := h.rg.owns
      rw [hb'] at hc
      cases hc
  have o1 : Off (fun k => w.heap.size ≤ k) wr w3 := (Off.refl _ _).grown hg (fun k hk => .inl (by have := h.hR; have := Option.some.inj hk; omega))
  have o2 : Off (fun k => w.heap.size ≤ k) wr w4 := o1.trans2 hb (fun k _ hk => (hvR k hk).2)
  refine ⟨?_, by simpa using hrow, fun k => ?_, ?_, h.hR, Off.below h.off o2 h.off.size (fun k hk => hk)⟩
  · have h1 := hr.lt
    have h2 := hr.owns.lt
    obtain ⟨es, clock, since, seen, c0, hb1, hb2, hb3, hb4, hb5, rest⟩ := hr
    exact ⟨es, clock, since, seen, c0, hb.keeps hb1 (fun e => hvq _ e rfl), hb2, hb3, hb4, hb.keeps hb5 (fun e => (hvR _ e).1 rfl), rest⟩
  · rw [List.mem_append, h.mem, List.mem_singleton]
    by_cases e : k = x
    · subst e
      simp [hx, hl, Lit.sameKey]
    · have : (Lit.int .i64 k).sameKey (.int .i64 x) = false := by simp [Lit.sameKey, e]
      simp [e, this]
  · rw [List.nodup_append]
    refine ⟨h.nd, by simp, ?_⟩
    rintro a ha b hb' rfl
    simp at hb'
    subst hb'
    have := ((h.mem a).1 ha).2
    rw [hl] at this
    cases this
end Go.Proofs.Ytnlemjjigiphcaa
