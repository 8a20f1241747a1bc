/- WalGreat: the law's walk. -/
import Derived.Test.YtpdjenkacefpjaaWxc
namespace Go.Proofs.Ytpdjenkacefpjaa
open Go.RowKit Go.ChangeShapes
set_option linter.unusedVariables false
set_option maxRecDepth 100000

def gB (k : Nat) : Sec := fillB (UInt8.ofNat (k + 1)) []
theorem gB_len (k : Nat) : (gB k).length = 128 := fillB_len _ _
theorem gB_ne {k : Nat} (hk : k < 40) : (zeros == gB k) = false := by
  rw [beq_eq_false_iff_ne]
  intro h
  have h0 : (gB k)[0]? = some (UInt8.ofNat (k + 1)) := fillB_hi (by decide) (by simp)
  rw [← h] at h0
  have h1 : UInt8.ofNat (k + 1) = 0 := by
    have h2 : zeros[0]? = some 0 := rfl
    rw [h2] at h0
    exact (Option.some.inj h0).symm
  have h3 := congrArg UInt8.toNat h1
  rw [UInt8.toNat_ofNat'] at h3
  simp at h3
  omega
/-- the puts, so far -/
structure Gp (W wr : World) (F : Nat → Prop) (pv : Value) (es : List PE) : Prop where
  row : PutRow wr W.heap.size F pv es
  bl : Below W.heap.size W wr
  el : ∀ (j : Nat) (e : PE), es[j]? = some e → e.1 = (42 + (j : Int), gB j) ∧ ∃ g c, e.2 = .slice (some ⟨g, 0, none⟩) 128 c ∧ W.heap.size ≤ g
theorem Gp.ok {W wr : World} {F : Nat → Prop} {pv : Value} {es : List PE} (h : Gp W wr F pv es) {d : Dk} (ha : d.dead = false) (hn : d.n = 82) (hl : es.length ≤ 40) : GoodC d (es.map (·.1)) := by
  refine ⟨by rw [List.length_map]; exact hl, fun j x hj => ?_⟩
  rw [List.getElem?_map] at hj
  cases hje : es[j]? with
  | none => rw [hje] at hj; cases hj
  | some e =>
    rw [hje] at hj
    cases hj
    have hjl := (List.getElem?_eq_some_iff.1 hje).1
    obtain ⟨e1, _⟩ := h.el j e hje
    show ¬ badP d e.1 _
    rw [e1]
    rintro (h9 | h9 | h9 | ⟨p, hp, h9⟩)
    · have : 42 + (j : Int) < 42 := h9
      omega
    · unfold readE at h9
      rw [if_neg (by rw [ha]; exact Bool.false_ne_true), if_pos (by unfold Dk.there; rw [hn]; simp; omega)] at h9
      cases h9
    · exact h9 (gB_len j)
    · obtain ⟨i, hi, e9⟩ := List.getElem_of_mem hp
      rw [List.length_take, List.length_map] at hi
      rw [List.getElem_take, List.getElem_map] at e9
      have e2 := (h.el i (es[i]'(by omega)) (List.getElem?_eq_getElem (by omega))).1
      rw [← e9, e2] at h9
      have : 42 + (i : Int) = 42 + (j : Int) := h9
      omega
theorem putF_at2 : ∀ (ps : List (Int × Sec)) (a : Int) (P : Int → Sec) (j : Nat) (b : Nat → Sec), (∀ (i : Nat) (p : Int × Sec), ps[i]? = some p → p = (a + (i : Int), b i)) → j < ps.length → putF ps P (a + (j : Int)) = b j
  | [], a, P, j, b, h, hj => by simp at hj
  | p :: r, a, P, j, b, h, hj => by
    have h0 := h 0 p rfl
    show putF r (upd P p.1 p.2) (a + (j : Int)) = b j
    cases j with
    | zero =>
      rw [putF_out r _ _ (fun hm => by
        obtain ⟨x, hx, e⟩ := List.mem_map.1 hm
        obtain ⟨i, hi, e2⟩ := List.getElem_of_mem hx
        have h1 := h (i + 1) x (by rw [List.getElem?_cons_succ, List.getElem?_eq_getElem hi, e2])
        rw [h1] at e
        have : a + ((i + 1 : Nat) : Int) = a + ((0 : Nat) : Int) := e
        omega)]
      rw [h0]
      unfold upd
      rw [if_pos (by simp)]
    | succ j =>
      have ih := putF_at2 r (a + 1) (upd P p.1 p.2) j (fun i => b (i + 1)) (fun i x hx => by
        have := h (i + 1) x (by rw [List.getElem?_cons_succ]; exact hx)
        rw [this]
        congr 1
        omega) (by simp at hj; omega)
      have e : a + ((j + 1 : Nat) : Int) = a + 1 + (j : Int) := by omega
      rw [e]
      exact ih
theorem Gp.app {W wr X : World} {F : Nat → Prop} {v v' : Value} {es : List PE} {g c : Nat} (h : Gp W wr F v es) (ho : Off (fun k => v.ownBlock = some k) wr X) (hr : X.ownsRow W.heap.size 47 2 v' (es.length + 1) (flat (es ++ [((42 + (es.length : Int), gB es.length), .slice (some ⟨g, 0, none⟩) 128 c)]))) (hbt : BtAt wr (.slice (some ⟨g, 0, none⟩) 128 c) (gB es.length)) (hl : es.length < 40) (hg : W.heap.size ≤ g) (hgl : g < wr.heap.size) (hF : ∀ i, F i → i < W.heap.size) (hgk : ∀ k, v.ownBlock = some k → k < g) : Gp W X F v' (es ++ [((42 + (es.length : Int), gB es.length), .slice (some ⟨g, 0, none⟩) 128 c)]) := by
  have hne : ∀ k, v.ownBlock = some k → W.heap.size ≤ k := fun k hk => (own_blk h.row.row hk).1
  refine ⟨⟨by simpa using hr, fun e he => ?_⟩, Off.below h.bl ho h.bl.size (fun k hk => hne k hk), fun j e hj => ?_⟩
  · rcases List.mem_append.1 he with he | he
    · refine (h.row.data e he).off ho (fun a n c e' hx => ?_)
      obtain ⟨j, hj, e9⟩ := List.getElem_of_mem he
      obtain ⟨e1, g2, c2, e2, _⟩ := h.el j e (by rw [List.getElem?_eq_getElem hj, e9])
      have hbt2 := (h.row.data e he).bt
      rw [e2] at e' hbt2
      cases e'
      rw [e1] at hbt2
      obtain ⟨_, _, e5, _, _, _, hc⟩ := hbt2
      injection e5 with e6 e7 e8
      subst e6
      obtain ⟨g', o', e3, hc0⟩ := hc 0 _ (List.getElem?_eq_getElem (by rw [gB_len]; decide))
      cases e3
      have hx' : v.ownBlock = some g2 := hx
      rcases h.row.row.2 with ⟨e4, _⟩ | ⟨g3, cap, cur, e4, hb, hh, _⟩
      · rw [e4] at hx'; cases hx'
      · have hr2 := h.row.row
        rw [e4] at hx' hr2
        cases hx'
        obtain ⟨x, r, hxr⟩ : ∃ x r, es = x :: r := by
          cases es with
          | nil => simp at he
          | cons x r => exact ⟨x, r, rfl⟩
        have h0 := (row_cell hr2 0 (x := .int .i64 x.1.1) (by rw [hxr]; rfl)).2
        rw [h0] at hc0
        cases hc0
    · simp at he
      subst he
      exact ⟨hbt.off ho (fun a n c e' hx => by cases e'; have h3 : g < g := hgk _ hx; omega), fun a n c e' => by cases e'; exact ⟨fun hx => by have h3 : g < W.heap.size := hF _ hx; omega, Nat.lt_of_lt_of_le hgl ho.size⟩, ⟨by show _ ≤ 42 + (es.length : Int); omega, by show 42 + (es.length : Int) ≤ _; omega⟩, by show (gB es.length).length ≤ _; rw [gB_len]; decide⟩
  · rcases Nat.lt_or_ge j es.length with hlt | hge
    · rw [List.getElem?_append_left hlt] at hj
      exact h.el j e hj
    · have hjl := (List.getElem?_eq_some_iff.1 hj).1
      simp at hjl
      obtain rfl : j = es.length := by omega
      simp at hj
      subst hj
      exact ⟨rfl, _, _, rfl, hg⟩
end Go.Proofs.Ytpdjenkacefpjaa
