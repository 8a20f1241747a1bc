/- What DiskPlays stands on: the disk and the document's disk. -/
import Derived.Test.YtnlemjjigiphcaaDri
import Derived.Test.YtnlemjjigiphcaaDre
import Derived.Test.YtnlemjjigiphcaaDj
namespace Go.Proofs.Ytnlemjjigiphcaa
open Go.RowKit Go.ChangeShapes
set_option linter.unusedVariables false
set_option maxRecDepth 100000

/-- the disk, and the document's: the call's own, apart, alike -/
structure TwoD (w wr : World) (F : Nat → Prop) (B : Nat) (G : Nat → Prop) (X : Nat) (d : Dk) : Prop where
  o : Own w wr F B d
  r : RefAt G wr X d
  n : ∀ x, F x → ¬ G x
  g : ∀ x, G x → w.heap.size ≤ x
theorem TwoD.below {w wr w' : World} {F G : Nat → Prop} {B X : Nat} {d : Dk} (h : TwoD w wr F B G X d) (hb : Below wr.heap.size wr w') : TwoD w w' F B G X d := ⟨h.o.below hb, h.r.below hb, h.n, h.g⟩
theorem TwoD.off {w wr w' : World} {F G ex : Nat → Prop} {B X : Nat} {d : Dk} (h : TwoD w wr F B G X d) (ho : Off ex wr w') (hn : ∀ g, ex g → ¬ F g ∧ ¬ G g ∧ w.heap.size ≤ g) : TwoD w w' F B G X d :=
  ⟨h.o.off ho (fun g hf he => (hn g he).1 hf) (fun g he => (hn g he).2.2), h.r.off ho (fun g hg he => (hn g he).2.1 hg), h.n, h.g⟩
theorem TwoD.fresh {w wr : World} {F G : Nat → Prop} {B X : Nat} {d : Dk} (h : TwoD w wr F B G X d) {g : Nat} (hg : g < w.heap.size ∨ wr.heap.size ≤ g) : ¬ F g ∧ ¬ G g :=
  ⟨fun x => by have h1 := h.o.lo g x; have h2 := h.o.dk.lt g x; omega, fun x => by have h1 := h.g g x; have h2 := h.r.lt g x; omega⟩
/-- both have turned -/
theorem TwoD.both {w wr w1 w2 : World} {F G : Nat → Prop} {B X : Nat} {d d' : Dk} (h : TwoD w wr F B G X d) (ht : Turn F B d' wr w1) (hr : RTurn G X d' w1 w2) : ∃ F' G', TwoD w w2 F' B G' X d' ∧ (∀ x, F' x → F x ∨ wr.heap.size ≤ x ∧ x < w1.heap.size) ∧ (∀ x, G' x → G x ∨ w1.heap.size ≤ x) ∧ Off (fun x => F x ∨ G x) wr w2 := by
  obtain ⟨F', o1, n1, f1⟩ := h.o.turn ht
  obtain ⟨G', hR, g1, g2, g3⟩ := hr
  have lt1 := o1.dk.lt
  have hz := h.o.bl.size
  have hs1 := f1.size
  have lo1 : ∀ x, G' x → w.heap.size ≤ x := fun x hx => (g1 x hx).elim (h.g x) (fun e => by omega)
  refine ⟨F', G', ⟨o1.off g3 (fun x hf hg => ?_) h.g, hR, fun x hf hg => ?_, lo1⟩, fun x hx => ?_, g1, ?_⟩
  · rcases n1 x hf with e | e
    · exact h.n x e hg
    · have := h.r.lt x hg; omega
  · have h0 := lt1 x hf
    rcases g1 x hg with k | k
    · rcases n1 x hf with e | e
      · exact h.n x e k
      · have := h.r.lt x k; omega
    · omega
  · rcases n1 x hx with e | e
    · exact .inl e
    · exact .inr ⟨e, lt1 x hx⟩
  · exact (f1.mono (fun _ _ e => .inl e)).trans2 g3 (fun i _ e => .inr e)
/-- the world between -/
theorem TwoD.mid {w wr w1 : World} {F G : Nat → Prop} {B X : Nat} {d d' : Dk} (h : TwoD w wr F B G X d) (ht : Turn F B d' wr w1) : RefAt G w1 X d ∧ Off F wr w1 := by
  obtain ⟨F', _, _, f1⟩ := h.o.turn ht
  exact ⟨h.r.off f1 (fun x hg hf => h.n x hf hg), f1⟩
theorem TwoD.cells {w wr : World} {F G : Nat → Prop} {B X : Nat} {d : Dk} (h : TwoD w wr F B G X d) : wr.cell? ⟨X, 2, none⟩ = some (.int .i64 d.ops) ∧ wr.cell? ⟨X, 4, none⟩ = some (.bool d.dead) := by
  obtain ⟨s, v, es, h⟩ := h.r
  exact ⟨h.cell 2, h.cell 4⟩
theorem bt_off2 {ex : Nat → Prop} {w w' : World} {v : Value} {b : Sec} (h : BtAt w v b) (ho : Off ex w w') (hn : ∀ a n c, v = .slice (some a) n c → b ≠ [] → ¬ ex a.block) : BtAt w' v b := by
  by_cases hb : b = []
  · subst hb
    obtain ⟨ad, c, rfl, h0, h2, h3, _⟩ := h
    exact ⟨ad, c, rfl, h0, h2, h3, fun j x hj => by simp at hj⟩
  · exact h.off ho (fun a n c e => hn a n c e hb)
theorem it_off2 {ex : Nat → Prop} {w w' : World} {v : Value} {b : List Int} (h : ItAt w v b) (ho : Off ex w w') (hn : ∀ a n c, v = .slice (some a) n c → b ≠ [] → ¬ ex a.block) : ItAt w' v b := by
  by_cases hb : b = []
  · subst hb
    obtain ⟨ad, c, rfl, _⟩ := h
    exact ⟨ad, c, rfl, fun j x hj => by simp at hj⟩
  · exact h.off ho (fun a n c e => hn a n c e hb)
theorem ItAt.below {w w1 : World} {v : Value} {b : List Int} (h : ItAt w v b) (hb : Below w.heap.size w w1) : ItAt w1 v b := h.off (ex := fun _ => False) (.of_below hb) (fun _ _ _ _ h => h)
theorem cellLt {w : World} {g o : Nat} {v : Value} (h : w.cell? ⟨g, o, none⟩ = some v) : g < w.heap.size := by
  rcases Nat.lt_or_ge g w.heap.size with hlt | hge
  · exact hlt
  · exfalso
    simp [World.cell?, Array.getElem?_eq_none hge] at h
theorem bt_blk {w : World} {v : Value} {b : Sec} (h : BtAt w v b) : ∀ a n c, v = .slice (some a) n c → b ≠ [] → a.block < w.heap.size := by
  intro a n c e hb
  obtain ⟨ad, c', e', _, _, _, h4⟩ := h
  rw [e] at e'
  cases e'
  obtain ⟨g, o, e, hc⟩ := h4 0 _ (List.getElem?_eq_getElem (List.length_pos_iff.2 hb))
  cases e
  exact cellLt hc
theorem it_blk {w : World} {v : Value} {b : List Int} (h : ItAt w v b) : ∀ a n c, v = .slice (some a) n c → b ≠ [] → a.block < w.heap.size := by
  intro a n c e hb
  obtain ⟨ad, c', e', h4⟩ := h
  rw [e] at e'
  cases e'
  obtain ⟨g, o, e, hc⟩ := h4 0 _ (List.getElem?_eq_getElem (List.length_pos_iff.2 hb))
  cases e
  exact cellLt hc
/-- bytes of a sector: those handed in, or a row of their own -/
structure SecOut (w0 w w' : World) (v : Value) (b : Sec) : Prop where
  bt : BtAt w' v b
  len : b.length ≤ 140737488351232
  bl : Below w.heap.size w w'
  fr : ∀ a n c, v = .slice (some a) n c → b ≠ [] → a.block < w0.heap.size ∨ w.heap.size ≤ a.block
theorem c_sector_two (w0 w : World) (v : Value) (b : Sec) (hv : BtAt w0 v b) (hb : Below w0.heap.size w0 w) (hl : b.length ≤ 140737488351232) : Calls Try.prog 14 #[v] w fun e w' => ∃ v', e = .returned v' ∧ SecOut w0 w w' v' (secB b) := by
  refine (c_sector w v b (hv.below hb)).mono ?_
  rintro e w' (⟨rfl, rfl, h⟩ | ⟨g, c, rfl, hx, hl2, hb2⟩)
  · refine ⟨v, rfl, ?_⟩
    rw [h]
    exact ⟨hv.below hb, hl, Below.refl _ _, fun a n c e hn => .inl (bt_blk hv a n c e hn)⟩
  · refine ⟨_, rfl, row_bt hx hl2, by omega, hb2, fun a n c' e _ => .inr ?_⟩
    cases e
    exact (row_blk hx).1
/-- what was read of a sector -/
def readS (d : Dk) (n : Int) : Sec := if readE d n = 0 then d.at n else []
def RdP (d : Dk) (n : Int) (w : World) (e : Ending) (w' : World) : Prop := ∃ v, e = .returned (.tuple #[v, .int .i64 (readE d n)]) ∧ BtAt w' v (readS d n) ∧ Below w.heap.size w w'
theorem Rd.two {d : Dk} {n : Int} {w w' : World} {e : Ending} (h : Rd d n w e w') : RdP d n w e w' := by
  obtain ⟨v, rfl, h1, h2, h3⟩ := h
  refine ⟨v, rfl, ?_, h3⟩
  unfold readS
  by_cases hE : readE d n = 0
  · rw [if_pos hE]
    exact (h1 hE).bt
  · rw [if_neg hE, h2 hE]
    exact ⟨none, 0, rfl, Nat.le_refl _, Nat.zero_le _, fun _ => rfl, fun j x hj => by simp at hj⟩
theorem str_any {w : World} {v : Value} {b : Sec} (h : BtAt w v b) : Sem.run Try.prog (convert 22 9 v) w = .ok (.string ⟨b.toArray⟩) w := by
  have h0 := h
  obtain ⟨ad, c, rfl, h1, h2, h3, h4⟩ := h
  cases ad with
  | some a => exact str_at h0
  | none =>
    obtain rfl : b = [] := by
      rcases List.eq_nil_or_concat b with e | ⟨l, x, e⟩
      · exact e
      · obtain ⟨_, _, e', _⟩ := h4 0 _ (List.getElem?_eq_getElem (by rw [e]; simp))
        cases e'
    rw [run_convert_bytes_string w _ _ _ _ _ _ A.underB A.underU A.underS]
    rfl
/-- a row of bytes, whatever they are -/
def BytL (w : World) (A : Nat) (v : Value) (L : Nat) : Prop := ∃ b : Sec, b.length = L ∧ w.ownsRow A 5 1 v L (bys b)
theorem BytL.form {w : World} {A L : Nat} {v : Value} (h : BytL w A v L) (hL : 0 < L) : ∃ g c, v = .slice (some ⟨g, 0, none⟩) L c := by
  obtain ⟨b, _, hr⟩ := h
  exact row_some hr hL
theorem BytL.off {w w' : World} {A L : Nat} {v : Value} {ex : Nat → Prop} (h : BytL w A v L) (ho : Off ex w w') (hn : ∀ k, v.ownBlock = some k → ¬ ex k) : BytL w' A v L := by
  obtain ⟨b, hl, hr⟩ := h
  refine ⟨b, hl, hr.1, ?_⟩
  rcases hr.2 with h | ⟨g, cap, cur, e, hb, hx, h3⟩
  · exact .inl h
  · exact .inr ⟨g, cap, cur, e, hb, (ho.block g (Array.getElem?_eq_some_iff.1 hx).1 (hn g (by rw [e]; rfl))).trans hx, h3⟩
theorem BytL.own {w : World} {A L k : Nat} {v : Value} (h : BytL w A v L) (hk : v.ownBlock = some k) : A ≤ k ∧ k < w.heap.size := by
  obtain ⟨b, hl, hr⟩ := h
  rcases hr.2 with ⟨e, _⟩ | ⟨g, cap, cur, e, hb, hx, h3⟩
  · rw [e] at hk; cases hk
  · rw [e] at hk
    cases hk
    exact ⟨hb, (Array.getElem?_eq_some_iff.1 hx).1⟩
theorem BytL.cell {w : World} {A g c k L : Nat} (h : BytL w A (.slice (some ⟨g, 0, none⟩) L c) L) (hk : k < L) : ∃ x : UInt8, w.cell? ⟨g, k, none⟩ = some (.int .u8 (x.toNat : Int)) := by
  obtain ⟨b, hl, hr⟩ := h
  exact ⟨b[k], (row_cell hr k (bys_get (List.getElem?_eq_getElem (by omega)))).2⟩
theorem BytL.free {w : World} {A g c L : Nat} (h : BytL w A (.slice (some ⟨g, 0, none⟩) L c) L) (j : Nat) : w.frozen? ⟨g, j, none⟩ = false := by
  obtain ⟨b, hl, hr⟩ := h
  obtain ⟨_, _, _, cs, hc⟩ := row_blk hr
  simp [World.frozen?, hc]
theorem BytL.set {w : World} {A g c k L : Nat} (h : BytL w A (.slice (some ⟨g, 0, none⟩) L c) L) (x : UInt8) : BytL (w.setCell ⟨g, k, none⟩ (.int .u8 (x.toNat : Int))) A (.slice (some ⟨g, 0, none⟩) L c) L := by
  obtain ⟨b, hl, hr⟩ := h
  refine ⟨b.set k x, by simp [hl], ?_⟩
  have h1 := row_store hr k (.int .u8 (x.toNat : Int))
  have e : (bys b).set k (.int .u8 (x.toNat : Int)) = bys (b.set k x) := by unfold bys; rw [List.map_set]
  rw [e] at h1
  exact h1
theorem BytL.blk {w : World} {A g c L : Nat} (h : BytL w A (.slice (some ⟨g, 0, none⟩) L c) L) : A ≤ g ∧ g < w.heap.size := by
  obtain ⟨b, hl, hr⟩ := h
  exact ⟨(row_blk hr).1, (Array.getElem?_eq_some_iff.1 (row_blk hr).2.2.2.choose_spec).1⟩
end Go.Proofs.Ytnlemjjigiphcaa
