/- What the walks over disks stand on: worlds that are alike but for some blocks, rows of bytes, maps of sectors. -/
import Derived.Test.YtnlemjjigiphcaaProg
import Derived.Test.YtnlemjjigiphcaaDp
import Derived.WalkKit
import Derived.WalkLawsBesides
import Derived.Lib.Hide
import Derived.Deep.Draws
import Derived.StillTailTactics
import Derived.Below
import Derived.OpenShut
import Derived.Laws.AppendOwn
import Derived.Laws.AppendOwnNone
import Derived.Deep.RegionHeld3
import Derived.Deep.CutRange
import Derived.Maps.RangeWalk
namespace Go.Proofs.Ytnlemjjigiphcaa
open Go.RowKit Go.ChangeShapes
set_option linter.unusedVariables false
set_option maxRecDepth 100000

theorem below_drew {B : Nat} {a w : World} (h : Below B a w) : Below B a w.drew := ⟨h.os, h.tape, h.output, h.size, h.block⟩
theorem below2 {a b c : World} (h1 : Below a.heap.size a b) (h2 : Below b.heap.size b c) : Below a.heap.size a c := h1.trans (h2.mono h1.size)
theorem below_al {a b : World} (h : Below a.heap.size a b) (o : Obj) : Below a.heap.size a (b.alloc o) := h.alloc h.size o
theorem below_al0 (a : World) (o : Obj) : Below a.heap.size a (a.alloc o) := (Below.refl _ _).alloc (Nat.le_refl _) o
/-- every block that was there is as it was, but for those of which ex speaks -/
structure Off (ex : Nat → Prop) (w w' : World) : Prop where
  os : w'.os = w.os
  tape : w'.tape = w.tape
  output : w'.output = w.output
  size : w.heap.size ≤ w'.heap.size
  block : ∀ k, k < w.heap.size → ¬ ex k → w'.heap[k]? = w.heap[k]?
theorem Off.refl (ex : Nat → Prop) (w : World) : Off ex w w := ⟨rfl, rfl, rfl, Nat.le_refl _, fun _ _ _ => rfl⟩
theorem Off.trans {ex : Nat → Prop} {a b c : World} (h : Off ex a b) (k : Off ex b c) : Off ex a c :=
  ⟨k.os.trans h.os, k.tape.trans h.tape, k.output.trans h.output, Nat.le_trans h.size k.size, fun i hi he => (k.block i (Nat.lt_of_lt_of_le hi h.size) he).trans (h.block i hi he)⟩
theorem Off.trans2 {ex ex' : Nat → Prop} {a b c : World} (h : Off ex a b) (k : Off ex' b c) (he : ∀ i, i < a.heap.size → ex' i → ex i) : Off ex a c :=
  ⟨k.os.trans h.os, k.tape.trans h.tape, k.output.trans h.output, Nat.le_trans h.size k.size, fun i hi hn => (k.block i (Nat.lt_of_lt_of_le hi h.size) fun hx => hn (he i hi hx)).trans (h.block i hi hn)⟩
theorem Off.mono {ex ex' : Nat → Prop} {w w' : World} (h : Off ex w w') (he : ∀ k, k < w.heap.size → ex k → ex' k) : Off ex' w w' := ⟨h.os, h.tape, h.output, h.size, fun k hk hn => h.block k hk fun hx => hn (he k hk hx)⟩
theorem Off.of_below {ex : Nat → Prop} {w w' : World} (h : Below w.heap.size w w') : Off ex w w' := ⟨h.os, h.tape, h.output, h.size, fun k hk _ => h.block k hk⟩
theorem Off.below {ex : Nat → Prop} {w W w' : World} {B : Nat} (h : Below B w W) (ho : Off ex W w') (hB : B ≤ W.heap.size) (he : ∀ k, ex k → B ≤ k) : Below B w w' :=
  ⟨ho.os.trans h.os, ho.tape.trans h.tape, ho.output.trans h.output, Nat.le_trans h.size ho.size, fun k hk => (ho.block k (Nat.lt_of_lt_of_le hk hB) fun hx => absurd (he k hx) (by omega)).trans (h.block k hk)⟩
theorem Off.to_below {w w' : World} (h : Off (fun _ => False) w w') : Below w.heap.size w w' := Off.below (Below.refl _ _) h (Nat.le_refl _) (fun _ h => h.elim)
theorem Off.drew {ex : Nat → Prop} {a w : World} (h : Off ex a w) : Off ex a w.drew := ⟨h.os, h.tape, h.output, h.size, h.block⟩
theorem Off.drewN {ex : Nat → Prop} {a w : World} (h : Off ex a w) (n : Nat) : Off ex a (w.drewN n) := ⟨h.os, h.tape, h.output, h.size, h.block⟩
theorem Off.alloc {ex : Nat → Prop} {a w : World} (h : Off ex a w) (o : Obj) : Off ex a (w.alloc o) := h.trans (.of_below ((Below.refl _ _).alloc (Nat.le_refl _) o))
theorem Off.setCell {ex : Nat → Prop} {a w : World} (h : Off ex a w) {p : Addr} (hp : ex p.block ∨ a.heap.size ≤ p.block) (u : Value) : Off ex a (w.setCell p u) :=
  ⟨h.os, h.tape, h.output, by simpa using h.size, fun k hk hn => (Below.heap_setCell w p u k (by rintro rfl; rcases hp with hp | hp; exact hn hp; omega)).trans (h.block k hk hn)⟩
theorem off1 (w : World) (N j : Nat) (v : Value) : Off (· = N) w (w.setCell ⟨N, j, none⟩ v) := (Off.refl (· = N) w).setCell (Or.inl rfl) v
theorem Off.grown {ex : Nat → Prop} {a w w' : World} {row : Option Nat} (h : Off ex a w) (hg : w.grownBy w' row) (hr : ∀ k, row = some k → ex k ∨ a.heap.size ≤ k) : Off ex a w' :=
  ⟨hg.os.trans h.os, hg.tape.trans h.tape, hg.output.trans h.output, Nat.le_trans h.size hg.size, fun k hk hn => (hg.block k (Nat.lt_of_lt_of_le hk h.size) fun e => by rcases hr k e.symm with hx | hx; exact hn hx; omega).trans (h.block k hk hn)⟩
theorem Off.keeps {ex : Nat → Prop} {w w' : World} (h : Off ex w w') {k : Nat} {o : Obj} (hk : w.heap[k]? = some o) (hn : ¬ ex k) : w'.heap[k]? = some o := by
  rcases Nat.lt_or_ge k w.heap.size with hlt | hge
  · exact (h.block k hlt hn).trans hk
  · rw [Array.getElem?_eq_none hge] at hk; cases hk
/-- what a slice owns it owns still, where its block is none of those that may turn -/
theorem Off.row {ex : Nat → Prop} {w w' : World} (h : Off ex w w') {B : Nat} {e : TypeId} {size n : Nat} {v : Value} {xs : List Value} (ho : w.ownsRow B e size v n xs) (hn : ∀ k, ex k → ∀ cs, w.heap[k]? ≠ some (.cells cs e (0, 0))) : w'.ownsRow B e size v n xs := by
  refine ⟨ho.1, ?_⟩
  rcases ho.2 with h0 | ⟨g, cap, cur, hv, hb, hg, rest⟩
  · exact .inl h0
  · exact .inr ⟨g, cap, cur, hv, hb, h.keeps hg fun hx => hn g hx cur hg, rest⟩
theorem Off.rowAt {ex : Nat → Prop} {w w' : World} (h : Off ex w w') {B : Nat} {e : TypeId} {size n g c : Nat} {xs : List Value} (ho : w.ownsRow B e size (.slice (some ⟨g, 0, none⟩) n c) n xs) (hn : ¬ ex g) : w'.ownsRow B e size (.slice (some ⟨g, 0, none⟩) n c) n xs := by
  refine ⟨ho.1, ?_⟩
  rcases ho.2 with ⟨h0, _⟩ | ⟨g', cap, cur, hv, hb, hg, rest⟩
  · cases h0
  · cases hv
    exact .inr ⟨g, c, cur, rfl, hb, h.keeps hg hn, rest⟩
theorem row_cell {w : World} {B : Nat} {e : TypeId} {size n : Nat} {xs : List Value} {g cap o : Nat} {x : Value} (h : w.ownsRow B e size (.slice (some ⟨g, o, none⟩) n cap) n xs) (j : Nat) (hj : xs[j]? = some x) : o = 0 ∧ w.cell? ⟨g, j, none⟩ = some x := by
  rcases h.2 with ⟨hv, _⟩ | ⟨g', cap', cur, hv, hb, hg, hn, hc, hs, hx⟩
  · cases hv
  · cases hv
    refine ⟨rfl, ?_⟩
    subst hx
    rw [cell_of_row w g j _ _ _ hg]
    rw [List.getElem?_take] at hj
    split at hj
    · simpa using hj
    · cases hj
theorem row_shape {w : World} {B : Nat} {e : TypeId} {size n : Nat} {v : Value} {xs : List Value} (h : w.ownsRow B e size v n xs) : ∃ ad cap, v = .slice ad n cap ∧ (ad = none → n = 0 ∧ cap = 0) ∧ ∀ a, ad = some a → ∃ g, a = ⟨g, 0, none⟩ := by
  rcases h.2 with ⟨hv, h0⟩ | ⟨g, cap, cur, hv, _⟩
  · subst h0; exact ⟨none, 0, hv, (fun _ => ⟨rfl, rfl⟩), (fun _ hx => by cases hx)⟩
  · exact ⟨_, cap, hv, (fun hx => by cases hx), (fun a ha => ⟨g, by cases ha; rfl⟩)⟩
theorem row_some {w : World} {B : Nat} {e : TypeId} {size n : Nat} {v : Value} {xs : List Value} (h : w.ownsRow B e size v n xs) (hn : 0 < n) : ∃ g cap, v = .slice (some ⟨g, 0, none⟩) n cap := by
  rcases h.2 with ⟨hv, h0⟩ | ⟨g, cap, cur, hv, _⟩
  · omega
  · exact ⟨g, cap, hv⟩
theorem row_cells {w : World} {B : Nat} {e : TypeId} {size n cap : Nat} {ao : Option Addr} {xs : List Value} (h : w.ownsRow B e size (.slice ao n cap) n xs) : ∀ b, ao = some b → ∀ j u, xs[j]? = some u → w.cell? (b.add j) = some u := by
  rintro b rfl j u hj
  obtain ⟨g, cap', hv⟩ : ∃ g cap', Value.slice (some b) n cap = .slice (some ⟨g, 0, none⟩) n cap' := by
    rcases h.2 with ⟨hv, _⟩ | ⟨g, cap', cur, hv, _⟩
    · cases hv
    · exact ⟨g, cap', hv⟩
  cases hv
  obtain ⟨_, hc⟩ := row_cell h j hj
  rw [Addr.add_lit, Nat.zero_add]
  exact hc
theorem row_base {w : World} {B B' : Nat} {e : TypeId} {size n : Nat} {v : Value} {xs : List Value} (h : w.ownsRow B e size v n xs) (hb : B' ≤ B) : w.ownsRow B' e size v n xs := by
  refine ⟨h.1, ?_⟩
  rcases h.2 with h0 | ⟨g, cap, cur, hv, hbg, rest⟩
  · exact .inl h0
  · exact .inr ⟨g, cap, cur, hv, Nat.le_trans hb hbg, rest⟩
theorem row_blk {w : World} {B : Nat} {e : TypeId} {size n g cap : Nat} {xs : List Value} (h : w.ownsRow B e size (.slice (some ⟨g, 0, none⟩) n cap) n xs) : B ≤ g ∧ n ≤ cap ∧ cap ≤ maxLen ∧ ∃ cs, w.heap[g]? = some (.cells cs e (0, 0)) := by
  rcases h.2 with ⟨hv, _⟩ | ⟨g', cap', cur, hv, hb, hg, h1, h2, _⟩
  · cases hv
  · cases hv; exact ⟨hb, h1, h2, cur, hg⟩
theorem row_store {w : World} {B : Nat} {e : TypeId} {size n g cap : Nat} {xs : List Value} (h : w.ownsRow B e size (.slice (some ⟨g, 0, none⟩) n cap) n xs) (j : Nat) (v : Value) : (w.setCell ⟨g, j, none⟩ v).ownsRow B e size (.slice (some ⟨g, 0, none⟩) n cap) n (xs.set j v) := by
  obtain ⟨hl, hr⟩ := h
  refine ⟨by rw [List.length_set]; exact hl, ?_⟩
  rcases hr with ⟨hv, _⟩ | ⟨g', cap', cur, hv, hb, hg, h1, h2, h3, h4⟩
  · cases hv
  · cases hv
    refine .inr ⟨g, cap, cur.setIfInBounds j v, rfl, hb, ?_, h1, h2, by simpa using h3, ?_⟩
    · simp [World.setCell, Array.getElem?_modify, hg]
    · rw [Array.toList_setIfInBounds, ← h4, List.take_set]
theorem off_cell {ex : Nat → Prop} {w w' : World} {a : Addr} {v : Value} (h : Off ex w w') (hc : w.cell? a = some v) (hn : ¬ ex a.block) : w'.cell? a = some v := by
  have hlt : a.block < w.heap.size := by
    rcases Nat.lt_or_ge a.block w.heap.size with hlt | hge
    · exact hlt
    · exfalso
      simp [World.cell?, Array.getElem?_eq_none hge] at hc
  have e := h.block a.block hlt hn
  simp only [World.cell?, e] at hc ⊢
  exact hc
theorem tmod_facts (x n : Int) (h1 : 0 < n) : -n < x.tmod n ∧ x.tmod n < n ∧ (x.tmod n < 0 → x % n = x.tmod n + n) ∧ (0 ≤ x.tmod n → x % n = x.tmod n) := by
  have a1 := Int.emod_nonneg x (show n ≠ 0 by omega)
  have a2 := Int.emod_lt_of_pos x h1
  rcases Int.le_total 0 x with hx | hx
  · rw [Int.tmod_eq_emod_of_nonneg hx]; exact ⟨by omega, a2, fun h => by omega, fun _ => rfl⟩
  · have e : x.tmod n = -((-x) % n) := by
      have h := Int.neg_tmod (-x) n
      rw [Int.neg_neg] at h
      rw [h, Int.tmod_eq_emod_of_nonneg (by omega)]
    have b1 := Int.emod_nonneg (-x) (show n ≠ 0 by omega)
    have b2 := Int.emod_lt_of_pos (-x) h1
    have b4 := Int.emod_add_mul_ediv (-x) n
    rw [e]
    by_cases hz : (-x) % n = 0
    · have : x % n = 0 := by
        have := Int.dvd_of_emod_eq_zero hz
        exact Int.emod_eq_zero_of_dvd (Int.dvd_neg.1 this)
      exact ⟨by omega, by omega, fun h => by omega, fun h => by omega⟩
    · refine ⟨by omega, by omega, fun h => ?_, fun h => by omega⟩
      have : x = (-((-x) % n) + n) + n * (-((-x) / n) - 1) := by
        have : n * (-((-x) / n) - 1) = -(n * ((-x) / n)) - n := by rw [Int.mul_sub, Int.mul_neg, Int.mul_one]
        omega
      have h2 : x % n = (-((-x) % n) + n) % n := by
        conv => lhs; rw [this]
        rw [Int.add_mul_emod_self_left]
      rw [h2, Int.emod_eq_of_lt (by omega) (by omega)]
/-! ### bytes -/
def bys (b : Sec) : List Value := b.map fun x => .int .u8 (x.toNat : Int)
theorem bys_len (b : Sec) : (bys b).length = b.length := by simp [bys]
theorem bys_one (b : Sec) : ∀ u ∈ bys b, u.oneCell' = true := by
  intro u hu
  obtain ⟨y, _, rfl⟩ := List.mem_map.1 hu
  rfl
theorem bys_zeros : List.replicate 128 (Value.int .u8 0) = bys zeros := by
  unfold bys zeros
  rw [List.map_replicate]
  rfl
/-- a slice of bytes, wherever it lies, that reads so -/
def BtAt (w : World) (v : Value) (b : Sec) : Prop := ∃ (ad : Option Addr) (c : Nat), v = .slice ad b.length c ∧ b.length ≤ c ∧ c ≤ maxLen ∧ (ad = none → c = 0) ∧ ∀ (j : Nat) (x : UInt8), b[j]? = some x → ∃ g o, ad = some ⟨g, o, none⟩ ∧ w.cell? ⟨g, o + j, none⟩ = some (.int .u8 (x.toNat : Int))
/-- a slice of bytes of its own -/
abbrev RowB (w : World) (B : Nat) (v : Value) (b : Sec) : Prop := w.ownsRow B 5 1 v b.length (bys b)
theorem bys_get {b : Sec} {j : Nat} {x : UInt8} (h : b[j]? = some x) : (bys b)[j]? = some (.int .u8 (x.toNat : Int)) := by
  unfold bys
  rw [List.getElem?_map, h]
  rfl
theorem RowB.bt {w : World} {B : Nat} {v : Value} {b : Sec} (h : RowB w B v b) : BtAt w v b := by
  rcases h.2 with ⟨rfl, h0⟩ | ⟨g, c, cur, rfl, hb, hg, h1, h2, h3, h4⟩
  · obtain rfl : b = [] := List.length_eq_zero_iff.1 h0
    exact ⟨none, 0, rfl, Nat.le_refl _, Nat.zero_le _, fun _ => rfl, fun j x hj => by simp at hj⟩
  · exact ⟨_, c, rfl, h1, h2, fun h => (by cases h), fun j x hj => ⟨g, 0, rfl, by rw [Nat.zero_add]; exact (row_cell h j (bys_get hj)).2⟩⟩
theorem BtAt.some {w : World} {v : Value} {b : Sec} (h : BtAt w v b) (hb : 0 < b.length) : ∃ g o c, v = .slice (.some ⟨g, o, none⟩) b.length c ∧ ∀ (j : Nat) (u : Value), (bys b)[j]? = .some u → w.cell? ((⟨g, o, none⟩ : Addr).add j) = .some u := by
  obtain ⟨ad, c, rfl, _, _, _, h1⟩ := h
  obtain ⟨g, o, rfl, _⟩ := h1 0 _ (List.getElem?_eq_getElem hb)
  refine ⟨g, o, c, rfl, fun j u hj => ?_⟩
  unfold bys at hj
  rw [List.getElem?_map] at hj
  cases hx : b[j]? with
  | none => rw [hx] at hj; cases hj
  | some x =>
    rw [hx] at hj
    cases hj
    obtain ⟨g', o', e, hc⟩ := h1 j x hx
    cases e
    rw [Addr.add_lit]
    exact hc
theorem BtAt.off {ex : Nat → Prop} {w w' : World} {v : Value} {b : Sec} (h : BtAt w v b) (ho : Off ex w w') (hn : ∀ a n c, v = .slice (.some a) n c → ¬ ex a.block) : BtAt w' v b := by
  obtain ⟨ad, c, rfl, h0, h2, h3, h1⟩ := h
  refine ⟨ad, c, rfl, h0, h2, h3, fun j x hj => ?_⟩
  obtain ⟨g, o, rfl, hc⟩ := h1 j x hj
  exact ⟨g, o, rfl, off_cell ho hc (hn ⟨g, o, none⟩ _ _ rfl)⟩
theorem BtAt.below {w w1 : World} {v : Value} {b : Sec} (h : BtAt w v b) (hb : Below w.heap.size w w1) : BtAt w1 v b := h.off (ex := fun _ => False) (.of_below hb) (fun _ _ _ _ h => h)
/-- its block -/
def blkOf : Value → Option Nat
  | .slice (some a) _ _ => some a.block
  | _ => none
/-! ### maps of sectors -/
theorem A.underM : Try.prog.underlying 57 = some (.map 3 22) := by kernel_rfl
theorem A.underInt : Try.prog.underlying 3 = some (.int .i64) := by kernel_rfl
theorem A.underB : Try.prog.underlying 22 = some (.slice 5) := by kernel_rfl
theorem A.infoB : (Try.prog.info? 5).map (fun i => (i.zero, i.size, i.bytes)) = some (some (.int .u8 0), 1, 1) := by kernel_rfl
theorem A.keyed : Maps.Keyed Try.prog 3 := Maps.int_keyed A.underInt
theorem A.zeroB (w : World) : (zeroValue 22).run Try.prog w = .ok (.slice none 0 0) w := by kernel_rfl
/-- a key's number -/
def I64 (n : Int) : Prop := -9223372036854775808 ≤ n ∧ n ≤ 9223372036854775807
theorem key_of {n : Int} (h : I64 n) : keyOf Try.prog 3 (.int .i64 n) = some (.int .i64 n) := Maps.keyOf_int_mk A.underInt (WalkArith.wf_i64 h)
def heldE (v : Value) : Option (DataW Value × List MemPlace) := some (.held v, [])
def ents (vs : AM Value) : List (Lit × DataW Value) := vs.map fun p => (.int .i64 p.1, .held p.2)
theorem ents_at : ∀ (vs : AM Value) (k : Int) (z : DataW Value), (DataW.map (ents vs)).atKey (.int .i64 k) z = match getm vs k with | some v => .held v | none => z
  | [], k, z => rfl
  | (j, v) :: r, k, z => by
    have ih := ents_at r k z
    unfold DataW.atKey at ih ⊢
    simp only at ih ⊢
    rw [show ents ((j, v) :: r) = ((.int .i64 j, .held v) : Lit × DataW Value) :: ents r from rfl, List.find?_cons, getm_cons]
    by_cases e : j = k
    · subst e
      rw [if_pos rfl]
      simp [Lit.sameKey]
    · rw [if_neg e]
      have : (Lit.int .i64 j).sameKey (.int .i64 k) = false := by simp [Lit.sameKey, e]
      simp only [this]
      exact ih
theorem ents_filter : ∀ (vs : AM Value) (k : Int), (∀ p ∈ vs, p.1 ≠ k) → (ents vs).filter (ChangeMaps.notKey (.int .i64 k)) = ents vs := by
  intro vs k h
  refine List.filter_eq_self.2 (fun p hp => ?_)
  obtain ⟨q, hq, rfl⟩ := List.mem_map.1 hp
  have := h q hq
  simp [ChangeMaps.notKey, Lit.sameKey, this]
theorem ents_insert : ∀ (vs : AM Value) (k : Int) (v : Value), (∀ p ∈ vs, p.1 ≠ k) → DataW.insert (.int .i64 k, .held v) (ents vs) = ents (insm k v vs)
  | [], k, v, _ => rfl
  | (j, u) :: r, k, v, h => by
    have hne : j ≠ k := h (j, u) (by simp)
    have ih := ents_insert r k v (fun p hp => h p (by simp [hp]))
    rw [show ents ((j, u) :: r) = ((.int .i64 j, .held u) : Lit × DataW Value) :: ents r from rfl, DataW.insert]
    unfold insm
    by_cases e : k < j
    · rw [if_pos e, if_pos (by simp [Lit.before, e])]
      rfl
    · rw [if_neg e, if_neg (by simp [Lit.before]; omega), if_neg (fun e' => hne e'.symm), ih]
      rfl
theorem ents_put : ∀ (vs : AM Value) (k : Int) (v : Value), Asc vs → ChangeMaps.putKey (.int .i64 k) (.held v) (ents vs) = ents (insm k v vs)
  | [], k, v, _ => rfl
  | (j, u) :: r, k, v, h => by
    unfold ChangeMaps.putKey
    rw [show ents ((j, u) :: r) = ((.int .i64 j, .held u) : Lit × DataW Value) :: ents r from rfl, List.filter_cons]
    by_cases e : j = k
    · subst e
      rw [if_neg (by simp [ChangeMaps.notKey, Lit.sameKey]), ents_filter r j (fun p hp => by have := h.head p hp; simp at this; omega), ents_insert r j v (fun p hp => by have := h.head p hp; simp at this; omega)]
      congr 1
      cases r with
      | nil => simp [insm]
      | cons q r =>
        obtain ⟨i, x⟩ := q
        have := h.head (i, x) (by simp)
        simp at this
        unfold insm
        rw [if_pos this, if_neg (by omega), if_pos rfl]
    · rw [if_pos (by simp [ChangeMaps.notKey, Lit.sameKey, e])]
      have ih := ents_put r k v h.tail
      unfold ChangeMaps.putKey at ih
      rw [DataW.insert]
      unfold insm
      by_cases e2 : k < j
      · rw [if_pos e2, if_pos (by simp [Lit.before, e2]), ents_filter r k (fun p hp => by have := h.head p hp; simp at this; omega)]
        rfl
      · rw [if_neg e2, if_neg (by simp [Lit.before]; omega), if_neg (fun e' => e e'.symm), ih]
        rfl
/-- block p holds a map of these -/
def mapV (w : World) (p : Nat) (vs : AM Value) : Prop := Asc vs ∧ w.ownsMap Try.prog 3 heldE p vs.length (.map (ents vs))
theorem owns_len {w : World} {p n : Nat} {vs : AM Value} (h : w.ownsMap Try.prog 3 heldE p n (.map (ents vs))) : w.ownsMap Try.prog 3 heldE p vs.length (.map (ents vs)) := by
  obtain ⟨es, clock, hb, F, hs, hD⟩ := h
  refine ⟨es, clock, hb, F, ?_, hD⟩
  have h1 : ents vs = (es.toList.map (Go.WideElems.rg Try.prog 3 heldE)).foldr DataW.insert [] := by injection hD
  have h2 := congrArg List.length h1
  rw [length_sorted] at h2
  simp [ents] at h2
  omega
theorem mapV.lt {w : World} {p : Nat} {vs : AM Value} (h : mapV w p vs) : p < w.heap.size := h.2.lt
theorem mapV.eq {w w' : World} {p : Nat} {vs : AM Value} (h : mapV w p vs) (he : w'.heap[p]? = w.heap[p]?) : mapV w' p vs := by
  obtain ⟨ha, es, clock, hb, rest⟩ := h
  exact ⟨ha, es, clock, he.trans hb, rest⟩
theorem mapV.new (w : World) : mapV (w.alloc (.map #[] 0)) w.heap.size [] := ⟨List.Pairwise.nil, w.ownsMap_made _ _ _⟩
theorem mapV.put {w' : World} {p n : Nat} {vs : AM Value} {k : Int} {v : Value} (ha : Asc vs) (h : w'.ownsMap Try.prog 3 heldE p n ((DataW.map (ents vs)).put (.int .i64 k) (.held v))) : mapV w' p (insm k v vs) := by
  rw [DataW.put_eq, ents_put vs k v ha] at h
  exact ⟨ha.ins k v, owns_len h⟩
/-- 'v, is := m[k]' -/
theorem mapV.look {w : World} {p : Nat} {vs : AM Value} (h : mapV w p vs) {k : Int} (hk : I64 k) (c : Bool) :
    (Instr.lookup 57 (.map (some p)) (.int .i64 k) c).run Try.prog w = .ok (if c then .tuple #[(getm vs k).getD (.slice none 0 0), .bool (getm vs k).isSome] else (getm vs k).getD (.slice none 0 0)) w := by
  obtain ⟨ha, es, clock, hb, F, hs, hD⟩ := h
  have hat : ∀ z, (DataW.map ((es.toList.map (Go.WideElems.rg Try.prog 3 heldE)).foldr DataW.insert [])).atKey (.int .i64 k) z = match getm vs k with | some v => .held v | none => z := fun z => by rw [← hD, ents_at]
  rcases Maps.fit_look c A.keyed A.underM (A.zeroB w) hb F (key_of hk) with ⟨hr, _, hz⟩ | ⟨e0, y, _, _, hr, hR, hz, _⟩
  · have h1 := (hat .nil).symm.trans (hz .nil)
    cases hg : getm vs k with
    | some v => rw [hg] at h1; cases h1
    | none => exact hr
  · have h1 := (hat .nil).symm.trans (hz .nil)
    cases hR
    cases hg : getm vs k with
    | none => rw [hg] at h1; cases h1
    | some v =>
      rw [hg] at h1
      injection h1 with h1
      subst h1
      exact hr
/-- 'clear(m)' -/
theorem mapV.clear {w : World} {p : Nat} {vs : AM Value} (h : mapV w p vs) (ty : TypeId) : ∃ w', (Builtin.clear_ #[57] ty #[.map (some p)]).run Try.prog w = .ok (.tuple #[]) w' ∧ mapV w' p [] ∧ Off (· = p) w w' ∧ w'.heap.size = w.heap.size := by
  obtain ⟨ha, es, clock, hb, F, hs, hD⟩ := h
  refine ⟨ChangeMaps.setBlock w p (.map #[] clock), ?_, ⟨List.Pairwise.nil, #[], clock, ?_, ⟨by simp, MapKept.stamped_empty clock, by simp⟩, by simp, rfl⟩, ?_, by simp [ChangeMaps.setBlock]⟩
  · simp [Builtin.clear_, run_underlying A.underM, MapKept.run_getObj_map hb, MapKept.run_setObj_map _ hb, Result.andThen, ChangeMaps.setBlock]
  · simp [ChangeMaps.setBlock, (Array.getElem?_eq_some_iff.1 hb).1]
  · exact ⟨rfl, rfl, rfl, by simp [ChangeMaps.setBlock], fun k hk hn => by simp [ChangeMaps.setBlock, Array.getElem?_setIfInBounds, Ne.symm hn]⟩
/-- the sectors of a map, their rows lying in blocks of which F speaks -/
def secAt (F : Nat → Prop) (w : World) (v : Value) (b : Sec) : Prop := ∃ g c, v = .slice (some ⟨g, 0, none⟩) 128 c ∧ F g ∧ b.length = 128 ∧ w.ownsRow 0 5 1 v 128 (bys b)
def Rws (F : Nat → Prop) (w : World) : AM Value → AL → Prop
  | [], [] => True
  | (k, v) :: r, (j, b) :: s => k = j ∧ secAt F w v b ∧ Rws F w r s
  | _, _ => False
theorem secAt.row {F : Nat → Prop} {w : World} {v : Value} {b : Sec} (h : secAt F w v b) : RowB w 0 v b := by
  obtain ⟨g, c, rfl, hF, hl, ho⟩ := h
  unfold RowB
  rw [hl]
  exact ho
theorem secAt.eq {F : Nat → Prop} {w w' : World} {v : Value} {b : Sec} (h : secAt F w v b) (he : ∀ g, F g → g < w.heap.size → w'.heap[g]? = w.heap[g]?) : secAt F w' v b := by
  obtain ⟨g, c, rfl, hF, hl, ho⟩ := h
  refine ⟨g, c, rfl, hF, hl, ho.1, ?_⟩
  rcases ho.2 with ⟨h0, _⟩ | ⟨g', cap, cur, hv, hb, hg, rest⟩
  · cases h0
  · cases hv
    exact .inr ⟨g, c, cur, rfl, hb, (he g hF (Array.getElem?_eq_some_iff.1 hg).1).trans hg, rest⟩
theorem secAt.mono {F F' : Nat → Prop} {w : World} {v : Value} {b : Sec} (h : secAt F w v b) (hF : ∀ g, F g → F' g) : secAt F' w v b := by
  obtain ⟨g, c, rfl, h1, hl, ho⟩ := h
  exact ⟨g, c, rfl, hF g h1, hl, ho⟩
theorem Rws.map {F F' : Nat → Prop} {w w' : World} (hs : ∀ v b, secAt F w v b → secAt F' w' v b) : ∀ {vs : AM Value} {m : AL}, Rws F w vs m → Rws F' w' vs m
  | [], [], _ => trivial
  | (k, v) :: r, (j, b) :: s, ⟨h1, h2, h3⟩ => ⟨h1, hs v b h2, Rws.map hs h3⟩
  | [], _ :: _, h => h.elim
  | _ :: _, [], h => h.elim
theorem Rws.len {F : Nat → Prop} {w : World} : ∀ {vs : AM Value} {m : AL}, Rws F w vs m → vs.length = m.length
  | [], [], _ => rfl
  | (k, v) :: r, (j, b) :: s, ⟨h1, h2, h3⟩ => by simp [Rws.len h3]
  | [], _ :: _, h => h.elim
  | _ :: _, [], h => h.elim
theorem Rws.ins {F : Nat → Prop} {w : World} {k : Int} {v : Value} {b : Sec} (hv : secAt F w v b) : ∀ {vs : AM Value} {m : AL}, Rws F w vs m → Rws F w (insm k v vs) (insm k b m)
  | [], [], _ => ⟨rfl, hv, trivial⟩
  | (i, u) :: r, (j, c) :: s, ⟨h1, h2, h3⟩ => by
    subst h1
    unfold insm
    by_cases e : k < i
    · rw [if_pos e, if_pos e]
      exact ⟨rfl, hv, rfl, h2, h3⟩
    · rw [if_neg e, if_neg e]
      by_cases e2 : k = i
      · rw [if_pos e2, if_pos e2]
        exact ⟨rfl, hv, h3⟩
      · rw [if_neg e2, if_neg e2]
        exact ⟨rfl, h2, Rws.ins hv h3⟩
  | [], _ :: _, h => h.elim
  | _ :: _, [], h => h.elim
theorem Rws.get {F : Nat → Prop} {w : World} (k : Int) : ∀ {vs : AM Value} {m : AL}, Rws F w vs m → (getm vs k = none ∧ getm m k = none) ∨ ∃ v b, getm vs k = some v ∧ getm m k = some b ∧ secAt F w v b
  | [], [], _ => .inl ⟨rfl, rfl⟩
  | (i, u) :: r, (j, c) :: s, ⟨h1, h2, h3⟩ => by
    subst h1
    rw [getm_cons, getm_cons]
    by_cases e : i = k
    · rw [if_pos e, if_pos e]
      exact .inr ⟨u, c, rfl, rfl, h2⟩
    · rw [if_neg e, if_neg e]
      exact Rws.get k h3
  | [], _ :: _, h => h.elim
  | _ :: _, [], h => h.elim
end Go.Proofs.Ytnlemjjigiphcaa
