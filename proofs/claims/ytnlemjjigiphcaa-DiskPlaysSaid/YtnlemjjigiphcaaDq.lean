/- The document's disk, plainly: sectors in a row; it answers as the disk does. -/
import Derived.Test.YtnlemjjigiphcaaDp
namespace Go.Proofs.Ytnlemjjigiphcaa
set_option linter.unusedVariables false

structure Sx where
  n : Int
  on : Sec
  last : Sec
  dirty : Bool
/-- how many have a lesser number, from the front on -/
def atX : List Sx → Int → Nat
  | [], _ => 0
  | x :: r, n => if x.n < n then atX r n + 1 else 0
def findX (s : List Sx) (n : Int) : Option Sx := match s[atX s n]? with
  | some x => if x.n = n then some x else none
  | none => none
def AscX (s : List Sx) : Prop := s.Pairwise (fun a b => a.n < b.n)
def buX : List Sx → AL
  | [] => []
  | x :: r => if x.dirty = true then (x.n, x.last) :: buX r else buX r
def writeX (s : List Sx) (n : Int) (b : Sec) : List Sx := match findX s n with
  | some x => s.set (atX s n) ⟨n, x.on, b, true⟩
  | none => s.take (atX s n) ++ ⟨n, zeros, b, true⟩ :: s.drop (atX s n)
def flushX (s : List Sx) : List Sx := s.map fun x => ⟨x.n, x.last, x.last, false⟩
def crashX : List Sx → List Int → List Sx
  | [], _ => []
  | x :: r, ps => if x.dirty = true then ⟨x.n, torn (pickOf ps) x.last x.on, torn (pickOf ps) x.last x.on, false⟩ :: crashX r ps.tail else x :: crashX r ps
theorem atX_le : ∀ (s : List Sx) (n : Int), atX s n ≤ s.length
  | [], n => Nat.le_refl _
  | x :: r, n => by
    unfold atX
    have := atX_le r n
    split
    · simp; omega
    · omega
theorem atX_lt : ∀ (s : List Sx) (n : Int) (j : Nat) (x : Sx), j < atX s n → s[j]? = some x → x.n < n
  | [], n, j, x, h, e => by simp at e
  | y :: r, n, j, x, h, e => by
    unfold atX at h
    split at h
    · cases j with
      | zero => cases e; assumption
      | succ j => exact atX_lt r n j x (by omega) (by simpa using e)
    · omega
theorem atX_ge : ∀ (s : List Sx) (n : Int) (x : Sx), s[atX s n]? = some x → n ≤ x.n
  | [], n, x, e => by simp at e
  | y :: r, n, x, e => by
    unfold atX at e
    split at e
    · exact atX_ge r n x (by simpa using e)
    · simp at e
      subst e
      omega
theorem atX_eq : ∀ (s : List Sx) (n : Int) (k : Nat), k ≤ s.length → (∀ j x, j < k → s[j]? = some x → x.n < n) → (∀ x, s[k]? = some x → ¬ x.n < n) → atX s n = k
  | [], n, k, h, _, _ => by simp at h; subst h; rfl
  | y :: r, n, 0, h, h1, h2 => by
    unfold atX
    rw [if_neg (h2 y rfl)]
  | y :: r, n, k + 1, h, h1, h2 => by
    unfold atX
    rw [if_pos (h1 0 y (by omega) rfl), atX_eq r n k (by simp at h; omega) (fun j x hj e => h1 (j + 1) x (by omega) (by simpa using e)) (fun x e => h2 x (by simpa using e))]
/-- the disk and the row of sectors hold the same -/
structure SimL (N : Int) (bu on : AL) (s : List Sx) : Prop where
  asc : AscX s
  rng : ∀ x ∈ s, 0 ≤ x.n ∧ x.n < N ∧ x.on.length = 128 ∧ x.last.length = 128
  bu : bu = buX s
  on : ∀ k, onOf on k = ((s.find? fun x => x.n == k).map (·.on)).getD zeros
  clean : ∀ x ∈ s, x.dirty = false → x.last = x.on
theorem find_cons (x : Sx) (r : List Sx) (k : Int) : ((x :: r).find? fun y => y.n == k) = if x.n = k then some x else r.find? fun y => y.n == k := by
  rw [List.find?_cons]
  by_cases h : x.n = k
  · have e : (x.n == k) = true := by rw [beq_iff_eq]; exact h
    rw [if_pos h, e]
  · have e : (x.n == k) = false := beq_eq_false_iff_ne.2 h
    rw [if_neg h, e]
theorem AscX.tail {x : Sx} {r : List Sx} (h : AscX (x :: r)) : AscX r := (List.pairwise_cons.1 h).2
theorem AscX.head {x : Sx} {r : List Sx} (h : AscX (x :: r)) : ∀ y ∈ r, x.n < y.n := (List.pairwise_cons.1 h).1
theorem find_none_lt {s : List Sx} {k : Int} (h : ∀ y ∈ s, k < y.n) : (s.find? fun y => y.n == k) = none := by
  rw [List.find?_eq_none]
  intro y hy e
  have := h y hy
  simp at e
  omega
theorem findX_find : ∀ (s : List Sx) (k : Int), AscX s → findX s k = s.find? fun y => y.n == k
  | [], k, h => rfl
  | x :: r, k, h => by
    have ih := findX_find r k h.tail
    unfold findX at ih ⊢
    rw [find_cons]
    unfold atX
    by_cases h1 : x.n < k
    · rw [if_pos h1, List.getElem?_cons_succ, if_neg (by omega)]
      exact ih
    · rw [if_neg h1]
      show (if x.n = k then some x else none) = _
      by_cases h2 : x.n = k
      · rw [if_pos h2, if_pos h2]
      · rw [if_neg h2, if_neg h2, find_none_lt (fun y hy => by have := h.head y hy; omega)]
theorem buX_get : ∀ (s : List Sx) (k : Int), AscX s → getm (buX s) k = match s.find? fun y => y.n == k with
    | some x => if x.dirty = true then some x.last else none
    | none => none
  | [], k, h => rfl
  | x :: r, k, h => by
    have ih := buX_get r k h.tail
    rw [find_cons]
    unfold buX
    by_cases hd : x.dirty = true
    · rw [if_pos hd, getm_cons]
      by_cases e : x.n = k
      · rw [if_pos e, if_pos e]; simp [hd]
      · rw [if_neg e, if_neg e]; exact ih
    · rw [if_neg hd]
      by_cases e : x.n = k
      · rw [if_pos e, ih, find_none_lt (fun y hy => by have := h.head y hy; omega)]
        simp [hd]
      · rw [if_neg e]; exact ih
theorem buX_mem : ∀ (s : List Sx) (p : Int × Sec), p ∈ buX s → ∃ x ∈ s, x.n = p.1 ∧ x.last = p.2
  | [], p, h => by simp [buX] at h
  | x :: r, p, h => by
    unfold buX at h
    split at h
    · rcases List.mem_cons.1 h with rfl | h
      · exact ⟨x, by simp, rfl, rfl⟩
      · obtain ⟨y, hy, e⟩ := buX_mem r p h
        exact ⟨y, by simp [hy], e⟩
    · obtain ⟨y, hy, e⟩ := buX_mem r p h
      exact ⟨y, by simp [hy], e⟩
theorem buX_asc : ∀ (s : List Sx), AscX s → Asc (buX s)
  | [], h => List.Pairwise.nil
  | x :: r, h => by
    unfold buX
    split
    · refine List.pairwise_cons.2 ⟨fun p hp => ?_, buX_asc r h.tail⟩
      obtain ⟨y, hy, e, _⟩ := buX_mem r p hp
      have := h.head y hy
      show x.n < p.1
      omega
    · exact buX_asc r h.tail
/-- what is read -/
theorem SimL.at_ {N : Int} {d : Dk} {s : List Sx} (h : SimL N d.bu d.on s) (k : Int) : d.at k = ((findX s k).map (·.last)).getD zeros := by
  rw [findX_find s k h.asc]
  unfold Dk.at Dk.onp
  rw [h.bu, buX_get s k h.asc, h.on]
  cases e : s.find? fun y => y.n == k with
  | none => rfl
  | some x =>
    have hx := List.mem_of_find?_eq_some e
    cases hd : x.dirty with
    | true => simp [hd]
    | false => simp [hd, h.clean x hx hd]
theorem SimL.new (N : Int) : SimL N [] [] [] := ⟨List.Pairwise.nil, fun x hx => by simp at hx, rfl, fun k => rfl, fun x hx => by simp at hx⟩
/-- what is written: asked number by number -/
theorem find_set : ∀ (s : List Sx) (n : Int) (x y : Sx) (k : Int), AscX s → s[atX s n]? = some x → x.n = n → y.n = n → ((s.set (atX s n) y).find? fun z => z.n == k) = if k = n then some y else s.find? fun z => z.n == k
  | [], n, x, y, k, h, e, _, _ => by simp at e
  | z :: r, n, x, y, k, h, e, hx, hy => by
    unfold atX at e ⊢
    by_cases h1 : z.n < n
    · rw [if_pos h1] at e ⊢
      rw [List.set_cons_succ, find_cons, find_cons, find_set r n x y k h.tail (by simpa using e) hx hy]
      by_cases h2 : z.n = k
      · rw [if_pos h2, if_pos h2, if_neg (by omega)]
      · rw [if_neg h2, if_neg h2]
    · rw [if_neg h1] at e ⊢
      simp at e
      subst e
      rw [List.set_cons_zero, find_cons, find_cons]
      by_cases h2 : k = n
      · rw [if_pos (by omega), if_pos h2]
      · rw [if_neg (by omega), if_neg h2, if_neg (by omega)]
theorem find_insert : ∀ (s : List Sx) (n : Int) (y : Sx) (k : Int), AscX s → y.n = n → ((s.take (atX s n) ++ y :: s.drop (atX s n)).find? fun z => z.n == k) = if k = n then some y else s.find? fun z => z.n == k
  | [], n, y, k, h, hy => by
    show ((y :: []).find? fun z => z.n == k) = _
    rw [find_cons]
    by_cases h2 : k = n
    · rw [if_pos (by omega), if_pos h2]
    · rw [if_neg (by omega), if_neg h2]
  | z :: r, n, y, k, h, hy => by
    unfold atX
    by_cases h1 : z.n < n
    · rw [if_pos h1, List.take_succ_cons, List.drop_succ_cons, List.cons_append, find_cons, find_cons, find_insert r n y k h.tail hy]
      by_cases h2 : z.n = k
      · rw [if_pos h2, if_pos h2, if_neg (by omega)]
      · rw [if_neg h2, if_neg h2]
    · rw [if_neg h1, List.take_zero, List.drop_zero, List.nil_append, find_cons]
      by_cases h2 : k = n
      · rw [if_pos (by omega), if_pos h2]
      · rw [if_neg (by omega), if_neg h2]
theorem writeX_mem {s : List Sx} {n : Int} {b : Sec} {y : Sx} (h : y ∈ writeX s n b) : y ∈ s ∨ (y.n = n ∧ y.last = b ∧ y.dirty = true ∧ (y.on = zeros ∨ ∃ x ∈ s, y.on = x.on)) := by
  unfold writeX at h
  split at h
  · rename_i x e
    rcases List.mem_or_eq_of_mem_set h with h | rfl
    · exact .inl h
    · refine .inr ⟨rfl, rfl, rfl, .inr ⟨x, ?_, rfl⟩⟩
      unfold findX at e
      split at e
      · rename_i x' e'
        split at e
        · cases e; exact List.mem_of_getElem? e'
        · cases e
      · cases e
  · rcases List.mem_append.1 h with h | h
    · exact .inl (List.mem_of_mem_take h)
    · rcases List.mem_cons.1 h with rfl | h
      · exact .inr ⟨rfl, rfl, rfl, .inl rfl⟩
      · exact .inl (List.mem_of_mem_drop h)
theorem asc_set : ∀ (s : List Sx) (k : Nat) (x y : Sx), AscX s → s[k]? = some x → y.n = x.n → AscX (s.set k y)
  | [], k, x, y, h, e, _ => by simp at e
  | z :: r, 0, x, y, h, e, hy => by
    cases e
    exact List.pairwise_cons.2 ⟨fun w hw => by have := h.head w hw; omega, h.tail⟩
  | z :: r, k + 1, x, y, h, e, hy => by
    refine List.pairwise_cons.2 ⟨fun w hw => ?_, asc_set r k x y h.tail (by simpa using e) hy⟩
    rcases List.mem_or_eq_of_mem_set hw with hw | rfl
    · exact h.head w hw
    · have := h.head x (List.mem_of_getElem? (by simpa using e))
      show z.n < w.n
      omega
theorem asc_insert : ∀ (s : List Sx) (n : Int) (y : Sx), AscX s → y.n = n → (∀ x, s[atX s n]? = some x → x.n ≠ n) → AscX (s.take (atX s n) ++ y :: s.drop (atX s n))
  | [], n, y, h, hy, _ => List.pairwise_cons.2 ⟨fun w hw => by simp [atX] at hw, List.Pairwise.nil⟩
  | z :: r, n, y, h, hy, hne => by
    unfold atX at hne ⊢
    by_cases h1 : z.n < n
    · rw [if_pos h1] at hne ⊢
      rw [List.take_succ_cons, List.drop_succ_cons, List.cons_append]
      refine List.pairwise_cons.2 ⟨fun w hw => ?_, asc_insert r n y h.tail hy (fun x e => hne x (by simpa using e))⟩
      rcases List.mem_append.1 hw with hw | hw
      · exact h.head w (List.mem_of_mem_take hw)
      · rcases List.mem_cons.1 hw with rfl | hw
        · omega
        · exact h.head w (List.mem_of_mem_drop hw)
    · rw [if_neg h1] at hne ⊢
      have h2 := hne z rfl
      rw [List.take_zero, List.drop_zero, List.nil_append]
      refine List.pairwise_cons.2 ⟨fun w hw => ?_, h⟩
      rcases List.mem_cons.1 hw with rfl | hw
      · omega
      · have := h.head w hw
        omega
theorem findX_some {s : List Sx} {n : Int} {x : Sx} (h : findX s n = some x) : s[atX s n]? = some x ∧ x.n = n := by
  unfold findX at h
  split at h
  · rename_i x' e
    split at h
    · cases h; exact ⟨e, by assumption⟩
    · cases h
  · cases h
theorem findX_no {s : List Sx} {n : Int} (h : findX s n = none) : ∀ x, s[atX s n]? = some x → x.n ≠ n := by
  intro x e
  unfold findX at h
  rw [e] at h
  simp at h
  exact h
theorem writeX_find (s : List Sx) (n : Int) (b : Sec) (k : Int) (h : AscX s) : ((writeX s n b).find? fun z => z.n == k) = if k = n then some ⟨n, ((findX s n).map (·.on)).getD zeros, b, true⟩ else s.find? fun z => z.n == k := by
  unfold writeX
  cases e : findX s n with
  | some x =>
    obtain ⟨e1, e2⟩ := findX_some e
    exact find_set s n x ⟨n, x.on, b, true⟩ k h e1 e2 rfl
  | none => exact find_insert s n ⟨n, zeros, b, true⟩ k h rfl
theorem writeX_asc (s : List Sx) (n : Int) (b : Sec) (h : AscX s) : AscX (writeX s n b) := by
  unfold writeX
  cases e : findX s n with
  | some x =>
    obtain ⟨e1, e2⟩ := findX_some e
    exact asc_set s _ x _ h e1 e2.symm
  | none => exact asc_insert s n _ h rfl (findX_no e)
theorem SimL.write {N : Int} {bu on : AL} {s : List Sx} (h : SimL N bu on s) {n : Int} {b : Sec} (h0 : 0 ≤ n) (h1 : n < N) (hb : b.length = 128) : SimL N (insm n b bu) on (writeX s n b) := by
  have ha := writeX_asc s n b h.asc
  refine ⟨ha, fun x hx => ?_, ?_, fun k => ?_, fun x hx hd => ?_⟩
  · rcases writeX_mem hx with hx | ⟨e1, e2, _, e3⟩
    · exact h.rng x hx
    · refine ⟨by omega, by omega, ?_, by rw [e2]; exact hb⟩
      rcases e3 with e3 | ⟨y, hy, e3⟩
      · rw [e3]; exact zeros_len
      · rw [e3]; exact (h.rng y hy).2.2.1
  · rw [h.bu]
    refine asc_ext ((buX_asc s h.asc).ins n b) (buX_asc _ ha) (fun k => ?_)
    rw [getm_ins n b k _ (buX_asc s h.asc), buX_get _ k ha, buX_get s k h.asc, writeX_find s n b k h.asc]
    by_cases e : k = n
    · rw [if_pos e, if_pos e]; rfl
    · rw [if_neg e, if_neg e]
  · rw [h.on k, writeX_find s n b k h.asc]
    by_cases e : k = n
    · rw [if_pos e, findX_find s n h.asc, e]; rfl
    · rw [if_neg e]
  · rcases writeX_mem hx with hx | ⟨_, _, e3, _⟩
    · exact h.clean x hx hd
    · rw [e3] at hd; cases hd
theorem find_map (f : Sx → Sx) (hf : ∀ x, (f x).n = x.n) : ∀ (s : List Sx) (k : Int), ((s.map f).find? fun z => z.n == k) = (s.find? fun z => z.n == k).map f
  | [], k => rfl
  | x :: r, k => by
    rw [List.map_cons, find_cons, find_cons, hf]
    by_cases e : x.n = k
    · rw [if_pos e, if_pos e]; rfl
    · rw [if_neg e, if_neg e]; exact find_map f hf r k
theorem buX_clean : ∀ (s : List Sx), (∀ x ∈ s, x.dirty = false) → buX s = []
  | [], h => rfl
  | x :: r, h => by
    unfold buX
    rw [if_neg (by rw [h x (by simp)]; exact Bool.false_ne_true)]
    exact buX_clean r (fun y hy => h y (by simp [hy]))
theorem SimL.flush {N : Int} {bu on : AL} {s : List Sx} (h : SimL N bu on s) (ha : Asc on) : SimL N [] (mergeL bu on) (flushX s) := by
  refine ⟨?_, fun x hx => ?_, ?_, fun k => ?_, fun x hx _ => ?_⟩
  · exact List.Pairwise.map _ (fun a b h => h) h.asc
  · obtain ⟨y, hy, rfl⟩ := List.mem_map.1 hx
    obtain ⟨a, b, c, d⟩ := h.rng y hy
    exact ⟨a, b, d, d⟩
  · exact (buX_clean _ (fun x hx => by obtain ⟨y, hy, rfl⟩ := List.mem_map.1 hx; rfl)).symm
  · unfold flushX
    rw [find_map (fun x => ⟨x.n, x.last, x.last, false⟩) (fun x => rfl)]
    unfold onOf
    have hon := h.on k
    unfold onOf at hon
    rw [getm_merge bu on k (by rw [h.bu]; exact buX_asc s h.asc) ha, h.bu, buX_get s k h.asc]
    cases e : s.find? fun z => z.n == k with
    | none =>
      rw [e] at hon
      simpa using hon
    | some x =>
      rw [e] at hon
      have hx := List.mem_of_find?_eq_some e
      cases hd : x.dirty with
      | true => simp [hd]
      | false => simp [hd] at hon ⊢; rw [hon, h.clean x hx hd]
  · obtain ⟨y, hy, rfl⟩ := List.mem_map.1 hx
    rfl
theorem crashX_mem : ∀ (s : List Sx) (ps : List Int) (y : Sx), y ∈ crashX s ps → ∃ x ∈ s, y.n = x.n ∧ y.dirty = false ∧ ((y.on = x.on ∧ y.last = x.last ∧ x.dirty = false) ∨ ∃ k, k ≤ 128 ∧ y.on = torn k x.last x.on ∧ y.last = y.on)
  | [], ps, y, h => by simp [crashX] at h
  | x :: r, ps, y, h => by
    unfold crashX at h
    split at h
    · rcases List.mem_cons.1 h with rfl | h
      · refine ⟨x, by simp, rfl, rfl, .inr ⟨_, ?_, rfl, rfl⟩⟩
        cases ps with
        | nil => exact Nat.zero_le _
        | cons p q => exact pick_le p
      · obtain ⟨z, hz, e⟩ := crashX_mem r ps.tail y h
        exact ⟨z, by simp [hz], e⟩
    · rename_i hd
      rcases List.mem_cons.1 h with rfl | h
      · exact ⟨y, by simp, rfl, by simpa using hd, .inl ⟨rfl, rfl, by simpa using hd⟩⟩
      · obtain ⟨z, hz, e⟩ := crashX_mem r ps y h
        exact ⟨z, by simp [hz], e⟩
theorem crashX_asc : ∀ (s : List Sx) (ps : List Int), AscX s → AscX (crashX s ps)
  | [], ps, h => List.Pairwise.nil
  | x :: r, ps, h => by
    unfold crashX
    split
    · refine List.pairwise_cons.2 ⟨fun w hw => ?_, crashX_asc r _ h.tail⟩
      obtain ⟨y, hy, e, _⟩ := crashX_mem r _ w hw
      have := h.head y hy
      show x.n < w.n
      omega
    · refine List.pairwise_cons.2 ⟨fun w hw => ?_, crashX_asc r _ h.tail⟩
      obtain ⟨y, hy, e, _⟩ := crashX_mem r _ w hw
      have := h.head y hy
      omega
theorem onOf_ins {on : AL} (ha : Asc on) (n : Int) (b : Sec) (k : Int) : onOf (insm n b on) k = if k = n then b else onOf on k := by
  unfold onOf
  rw [getm_ins n b k on ha]
  by_cases e : k = n
  · rw [if_pos e, if_pos e]; rfl
  · rw [if_neg e, if_neg e]
theorem crash_on : ∀ (s : List Sx) (ps : List Int) (on : AL) (k : Int), AscX s → Asc on → (∀ x ∈ s, onOf on x.n = x.on) → onOf (crashL (buX s) ps on) k = (((crashX s ps).find? fun z => z.n == k).map (·.on)).getD (onOf on k)
  | [], ps, on, k, _, _, _ => rfl
  | x :: r, ps, on, k, h, ha, hx => by
    have hgone : ∀ q, x.n = k → ((crashX r q).find? fun z => z.n == k) = none := fun q e => find_none_lt (fun y hy => by
      obtain ⟨z, hz, e2, _⟩ := crashX_mem r q y hy
      have := h.head z hz
      omega)
    unfold buX crashX
    by_cases hd : x.dirty = true
    · rw [if_pos hd, if_pos hd, find_cons]
      show onOf (crashL (buX r) ps.tail (insm x.n (x.last.take (pickOf ps) ++ (onOf on x.n).drop (pickOf ps)) on)) k = _
      rw [hx x (by simp), crash_on r ps.tail _ k h.tail (ha.ins _ _) (fun y hy => by
        have := h.head y hy
        rw [onOf_ins ha, if_neg (by omega)]
        exact hx y (by simp [hy])), onOf_ins ha]
      by_cases e : x.n = k
      · rw [hgone _ e, if_pos e.symm]
        show _ = ((if x.n = k then _ else _ : Option Sx).map (·.on)).getD _
        rw [if_pos e]
        rfl
      · rw [if_neg (fun h => e h.symm)]
        show _ = ((if x.n = k then _ else _ : Option Sx).map (·.on)).getD _
        rw [if_neg e]
    · rw [if_neg hd, if_neg hd, find_cons, crash_on r ps on k h.tail ha (fun y hy => hx y (by simp [hy]))]
      by_cases e : x.n = k
      · rw [hgone _ e, if_pos e, ← e, hx x (by simp)]
        rfl
      · rw [if_neg e]
theorem SimL.crash {N : Int} {bu on : AL} {s : List Sx} (h : SimL N bu on s) (ha : Asc on) (ps : List Int) : SimL N [] (crashL bu ps on) (crashX s ps) := by
  have hx : ∀ x ∈ s, onOf on x.n = x.on := fun x hx => by
    rw [h.on x.n, ← findX_find s x.n h.asc]
    have h1 : (s.find? fun z => z.n == x.n) = some x := by
      have hs := h.asc
      clear h
      induction s with
      | nil => simp at hx
      | cons y r ih =>
        rw [find_cons]
        rcases List.mem_cons.1 hx with rfl | hx'
        · rw [if_pos rfl]
        · have := hs.head x hx'
          rw [if_neg (by omega)]
          exact ih hx' hs.tail
    rw [findX_find s x.n h.asc, h1]
    rfl
  refine ⟨crashX_asc s ps h.asc, fun y hy => ?_, (buX_clean _ (fun y hy => ?_)).symm, fun k => ?_, fun y hy _ => ?_⟩
  · obtain ⟨x, hx', e, _, e2⟩ := crashX_mem s ps y hy
    obtain ⟨a, b, c, d⟩ := h.rng x hx'
    rcases e2 with ⟨e2, e3, _⟩ | ⟨k, hk, e2, e3⟩
    · exact ⟨by omega, by omega, by rw [e2]; exact c, by rw [e3]; exact d⟩
    · have hl : y.on.length = 128 := by rw [e2]; exact torn_len d c hk
      exact ⟨by omega, by omega, hl, by rw [e3]; exact hl⟩
  · obtain ⟨x, _, _, e, _⟩ := crashX_mem s ps y hy
    exact e
  · rw [h.bu, crash_on s ps on k h.asc ha hx]
    cases e : (crashX s ps).find? fun z => z.n == k with
    | some y => rfl
    | none =>
      show onOf on k = zeros
      rw [h.on k]
      have : (s.find? fun z => z.n == k) = none := by
        rw [List.find?_eq_none] at e ⊢
        intro x hx' hxk
        have key : ∀ (t : List Sx) (q : List Int), x ∈ t → ∃ y ∈ crashX t q, y.n = x.n := by
          intro t
          induction t with
          | nil => intro q h; simp at h
          | cons z r ih =>
            intro q hz
            unfold crashX
            rcases List.mem_cons.1 hz with rfl | hz
            · split
              · exact ⟨_, List.mem_cons_self, rfl⟩
              · exact ⟨_, List.mem_cons_self, rfl⟩
            · split
              · obtain ⟨y, hy, e⟩ := ih q.tail hz
                exact ⟨y, List.mem_cons_of_mem _ hy, e⟩
              · obtain ⟨y, hy, e⟩ := ih q hz
                exact ⟨y, List.mem_cons_of_mem _ hy, e⟩
        obtain ⟨y, hy, e2⟩ := key s ps hx'
        have := e y hy
        simp at this hxk
        omega
      rw [this]
      rfl
  · obtain ⟨x, hx', _, _, e2⟩ := crashX_mem s ps y hy
    rcases e2 with ⟨e2, e3, e4⟩ | ⟨k, hk, e2, e3⟩
    · rw [e3, e2]; exact h.clean x hx' e4
    · exact e3
theorem buX_len (s : List Sx) : (buX s).length = (s.filter (·.dirty)).length := by
  induction s with
  | nil => rfl
  | cons x r ih =>
    unfold buX
    cases hd : x.dirty with
    | true => simp [hd, ih]
    | false => simp [hd, ih]
end Go.Proofs.Ytnlemjjigiphcaa
