/- WalEcho: the law's walk. -/
import Derived.Test.YtpdjenkacefpjaaWxk
import Derived.Deep.CutBlock
namespace Go.Proofs.Ytpdjenkacefpjaa
open Go.RowKit Go.ChangeShapes
set_option linter.unusedVariables false
set_option maxRecDepth 100000

theorem PutRow.more {w : World} {A : Nat} {F F' : Nat → Prop} {v : Value} {es : List PE} (h : PutRow w A F v es) (hn : ∀ g, F' g → F g ∨ w.heap.size ≤ g) : PutRow w A F' v es :=
  ⟨h.row, fun e he => ⟨(h.data e he).bt, fun a n c e' => ⟨fun hx => (hn _ hx).elim ((h.data e he).nF a n c e').1 (fun h2 => by have := ((h.data e he).nF a n c e').2; omega), ((h.data e he).nF a n c e').2⟩, (h.data e he).i64, (h.data e he).len⟩⟩
theorem flat_set : ∀ (es : List PE) (k : Nat) (e : PE) (b : Sec) (v : Value), es[k]? = some e → (flat es).set (k * 2 + 1) v = flat (es.set k ((e.1.1, b), v))
  | [], k, e, b, v, h => by simp at h
  | x :: r, 0, e, b, v, h => by
    cases h
    rfl
  | x :: r, k + 1, e, b, v, h => by
    have ih := flat_set r k e b v h
    have e1 : flat (x :: r) = .int .i64 x.1.1 :: x.2 :: flat r := rfl
    have e2 : (k + 1) * 2 + 1 = (k * 2 + 1) + 1 + 1 := by omega
    rw [e1, e2]
    show Value.int .i64 x.1.1 :: x.2 :: (flat r).set (k * 2 + 1) v = _
    rw [ih]
    rfl
/-- a put's data is changed -/
theorem PutRow.setD {w : World} {A ga n c gb cb k : Nat} {F : Nat → Prop} {es : List PE} {e : PE} {b : Sec} (h : PutRow w A F (.slice (some ⟨ga, 0, none⟩) n c) es) (hok : POk A es) (hk : es[k]? = some e) (hd : PutD w F ((e.1.1, b), .slice (some ⟨gb, 0, none⟩) 128 cb)) (hb : b.length = 128) (hA : A ≤ gb) (hne : gb ≠ ga) : PutRow (w.setCell ⟨ga, k * 2 + 1, none⟩ (.slice (some ⟨gb, 0, none⟩) 128 cb)) A F (.slice (some ⟨ga, 0, none⟩) n c) (es.set k ((e.1.1, b), .slice (some ⟨gb, 0, none⟩) 128 cb)) ∧ POk A (es.set k ((e.1.1, b), .slice (some ⟨gb, 0, none⟩) 128 cb)) := by
  have hn : n = es.length := by
    rcases h.row.2 with ⟨e, h0⟩ | ⟨g', cap, cur, e, _⟩
    · cases e
    · cases e; rfl
  have hw : w.ownsRow A 47 2 (.slice (some ⟨ga, 0, none⟩) es.length c) es.length (flat es) := by have := h.row; rwa [hn] at this
  have h1 := row_store hw (k * 2 + 1) (.slice (some ⟨gb, 0, none⟩) 128 cb)
  rw [flat_set es k e b _ hk] at h1
  have ho := off1 w ga (k * 2 + 1) (.slice (some ⟨gb, 0, none⟩) 128 cb)
  have hmem : ∀ x ∈ es.set k ((e.1.1, b), .slice (some ⟨gb, 0, none⟩) 128 cb), x ∈ es ∨ x = ((e.1.1, b), .slice (some ⟨gb, 0, none⟩) 128 cb) := fun x hx => List.mem_or_eq_of_mem_set hx
  refine ⟨⟨by rw [hn, List.length_set]; exact h1, fun x hx => ?_⟩, ⟨fun x hx => ?_, ?_⟩⟩
  · rcases hmem x hx with hx | rfl
    · exact (h.data x hx).off ho (fun a n' c' e' e2 => data_ne h hok.ok hx e' (by show some ga = some a.block; rw [show a.block = ga from e2]))
    · exact hd.off ho (fun a n' c' e' e2 => by cases e'; exact hne e2)
  · rcases hmem x hx with hx | rfl
    · exact hok.ok x hx
    · obtain ⟨g1, g2, _, _⟩ := hok.ok e (List.mem_of_getElem? hk)
      exact ⟨g1, g2, hb, gb, cb, rfl, hA⟩
  · have e1 : (es.set k ((e.1.1, b), .slice (some ⟨gb, 0, none⟩) 128 cb)).map (·.1.1) = es.map (·.1.1) := by
      rw [List.map_set]
      apply List.ext_getElem?
      intro j
      rw [List.getElem?_set]
      by_cases hj : k = j
      · subst hj
        rw [if_pos rfl, List.getElem?_map, hk]
        have hkl := (List.getElem?_eq_some_iff.1 hk).1
        rw [if_pos (by rw [List.length_map]; exact hkl)]
        rfl
      · rw [if_neg hj]
    rw [e1]
    exact hok.nd
theorem bt_none (w : World) : BtAt w (.slice none 0 0) [] := ⟨none, 0, rfl, Nat.le_refl _, Nat.zero_le _, fun _ => rfl, fun j x hj => by simp at hj⟩
/-- between the two commits -/
structure Ec (w wr : World) (B N1 N2 L q : Nat) (σ : Int → Sec) (ss nx : List Sec) (F : Nat → Prop) (d : Dk) (A : Nat) (pv : Value) (es : List PE) : Prop where
  sys : Sys 60 q σ w wr F L B d
  left : d.left = 0
  s1 : StAt wr N1 ss
  s2 : StAt wr N2 nx
  l1 : ss.length = 18
  l2 : nx.length = 18
  o1 : StOf ss σ
  n1 : ¬ F N1
  n2 : ¬ F N2
  e1 : N1 ≠ L
  e2 : N2 ≠ L
  row : PutRow wr A (fun g => F g ∨ g = L ∨ g = N1 ∨ g = N2) pv es
  ok : POk A es
  own : ∀ g, pv.ownBlock = some g → ¬ F g ∧ g ≠ L ∧ g ≠ N1 ∧ g ≠ N2 ∧ w.heap.size ≤ g
  hA : A ≤ wr.heap.size
theorem Ec.below {w wr w' : World} {B N1 N2 L q : Nat} {σ : Int → Sec} {ss nx : List Sec} {F : Nat → Prop} {d : Dk} {A : Nat} {pv : Value} {es : List PE} (h : Ec w wr B N1 N2 L q σ ss nx F d A pv es) (hb : Below wr.heap.size wr w') : Ec w w' B N1 N2 L q σ ss nx F d A pv es :=
  ⟨h.sys.below hb, h.left, (Off.of_below (ex := fun _ => False) hb).keeps h.s1 (fun h => h), (Off.of_below (ex := fun _ => False) hb).keeps h.s2 (fun h => h), h.l1, h.l2, h.o1, h.n1, h.n2, h.e1, h.e2, h.row.below hb, h.ok, h.own, Nat.le_trans h.hA hb.size⟩
theorem Ec.setD {w wr : World} {B N1 N2 L q : Nat} {σ : Int → Sec} {ss nx : List Sec} {F : Nat → Prop} {d : Dk} {A ga n c gb cb k : Nat} {es : List PE} {e : PE} {b : Sec} (h : Ec w wr B N1 N2 L q σ ss nx F d A (.slice (some ⟨ga, 0, none⟩) n c) es) (hk : es[k]? = some e) (hd : PutD wr (fun g => F g ∨ g = L ∨ g = N1 ∨ g = N2) ((e.1.1, b), .slice (some ⟨gb, 0, none⟩) 128 cb)) (hb : b.length = 128) (hA : A ≤ gb) (hne : gb ≠ ga) : Ec w (wr.setCell ⟨ga, k * 2 + 1, none⟩ (.slice (some ⟨gb, 0, none⟩) 128 cb)) B N1 N2 L q σ ss nx F d A (.slice (some ⟨ga, 0, none⟩) n c) (es.set k ((e.1.1, b), .slice (some ⟨gb, 0, none⟩) 128 cb)) := by
  have ho := off1 wr ga (k * 2 + 1) (.slice (some ⟨gb, 0, none⟩) 128 cb)
  obtain ⟨x1, x2, x3, x4, x5⟩ := h.own ga rfl
  have hr := h.row.setD h.ok hk hd hb hA hne
  exact ⟨h.sys.off ho (fun g hg e => x1 (e ▸ hg)) (fun e => x2 e.symm) (fun g e => e ▸ x5), h.left, ho.keeps h.s1 (fun e => x3 e.symm), ho.keeps h.s2 (fun e => x4 e.symm), h.l1, h.l2, h.o1, h.n1, h.n2, h.e1, h.e2, hr.1, hr.2, h.own, Nat.le_trans h.hA ho.size⟩
end Go.Proofs.Ytpdjenkacefpjaa
