/- Disks, plainly: sectors by numbers, what a crash leaves. -/
namespace Go.Proofs.Ytnlemjjigiphcaa
set_option linter.unusedVariables false

/-- the bytes of a sector -/
abbrev Sec := List UInt8
/-- sectors by numbers, ascending -/
abbrev AM (α : Type) := List (Int × α)
abbrev AL := AM Sec
def getm {α : Type} : AM α → Int → Option α
  | [], _ => none
  | (k, b) :: r, n => if k = n then some b else getm r n
def insm {α : Type} (n : Int) (b : α) : AM α → AM α
  | [] => [(n, b)]
  | (k, c) :: r => if n < k then (n, b) :: (k, c) :: r else if n = k then (n, b) :: r else (k, c) :: insm n b r
def Asc {α : Type} (m : AM α) : Prop := m.Pairwise (fun a b => a.1 < b.1)
def zeros : Sec := List.replicate 128 0
theorem zeros_len : zeros.length = 128 := by simp [zeros]
theorem getm_cons {α : Type} (k : Int) (b : α) (r : AM α) (s : Int) : getm ((k, b) :: r) s = if k = s then some b else getm r s := rfl
theorem getm_none_lt {α : Type} : ∀ {m : AM α} {n : Int}, (∀ p ∈ m, n < p.1) → getm m n = none
  | [], _, _ => rfl
  | (k, b) :: r, n, h => by
    have h1 := h (k, b) (by simp)
    rw [getm, if_neg (by simp at h1; omega)]
    exact getm_none_lt (fun p hp => h p (by simp [hp]))
theorem Asc.tail {α : Type} {p : Int × α} {m : AM α} (h : Asc (p :: m)) : Asc m := (List.pairwise_cons.1 h).2
theorem Asc.head {α : Type} {p : Int × α} {m : AM α} (h : Asc (p :: m)) : ∀ q ∈ m, p.1 < q.1 := (List.pairwise_cons.1 h).1
theorem getm_ins {α : Type} (n : Int) (b : α) (j : Int) : ∀ (m : AM α), Asc m → getm (insm n b m) j = if j = n then some b else getm m j
  | [], _ => by
    simp only [insm, getm]
    by_cases h : n = j
    · subst h; simp
    · rw [if_neg h, if_neg (fun e => h e.symm)]
  | (k, c) :: r, h => by
    unfold insm
    split
    · rw [getm_cons]
      by_cases e : n = j
      · subst e; simp
      · rw [if_neg e, if_neg (fun e' => e e'.symm)]
    · split
      · rename_i hk
        subst hk
        simp only [getm]
        by_cases e : n = j
        · subst e; simp
        · rw [if_neg e, if_neg (fun e' => e e'.symm), if_neg e]
      · rename_i h1 h2
        simp only [getm]
        by_cases e : k = j
        · subst e
          rw [if_pos rfl, if_neg (fun e' => h2 e'.symm), if_pos rfl]
        · rw [if_neg e, if_neg e]
          exact getm_ins n b j r h.tail
theorem ins_mem {α : Type} (n : Int) (b : α) : ∀ (m : AM α) (p : Int × α), p ∈ insm n b m → p = (n, b) ∨ p ∈ m
  | [], p, h => by simp [insm] at h; exact .inl h
  | (k, c) :: r, p, h => by
    unfold insm at h
    split at h
    · rcases List.mem_cons.1 h with e | e
      · exact .inl e
      · exact .inr e
    · split at h
      · rcases List.mem_cons.1 h with e | e
        · exact .inl e
        · exact .inr (by simp [e])
      · rcases List.mem_cons.1 h with e | e
        · exact .inr (by simp [e])
        · rcases ins_mem n b r p e with e | e
          · exact .inl e
          · exact .inr (by simp [e])
theorem Asc.ins {α : Type} (n : Int) (b : α) : ∀ {m : AM α}, Asc m → Asc (insm n b m)
  | [], _ => by simp [insm, Asc]
  | (k, c) :: r, h => by
    unfold insm
    split
    · rename_i h1
      refine List.pairwise_cons.2 ⟨fun q hq => ?_, h⟩
      rcases List.mem_cons.1 hq with e | e
      · subst e; exact h1
      · have := h.head q e; simp at this ⊢; omega
    · split
      · rename_i h1 h2
        subst h2
        exact List.pairwise_cons.2 ⟨fun q hq => h.head q hq, h.tail⟩
      · rename_i h1 h2
        refine List.pairwise_cons.2 ⟨fun q hq => ?_, Asc.ins n b h.tail⟩
        rcases ins_mem n b r q hq with e | e
        · subst e; simp; omega
        · exact h.head q e
/-- two ascending lists that answer alike are one -/
theorem asc_ext {α : Type} : ∀ {a b : AM α}, Asc a → Asc b → (∀ n, getm a n = getm b n) → a = b
  | [], [], _, _, _ => rfl
  | [], (k, c) :: r, _, _, h => by have := h k; simp [getm] at this
  | (k, c) :: r, [], _, _, h => by have := h k; simp [getm] at this
  | (k, c) :: r, (k', c') :: r', ha, hb, h => by
    have g1 := h k
    have g2 := h k'
    simp only [getm, if_true] at g1 g2
    have hk : k = k' := by
      rcases Int.lt_trichotomy k k' with e | e | e
      · exfalso
        rw [if_neg (by omega), getm_none_lt (fun p hp => by have := hb.head p hp; simp at this; omega)] at g1
        simp at g1
      · exact e
      · exfalso
        rw [if_neg (by omega), getm_none_lt (fun p hp => by have := ha.head p hp; simp at this; omega)] at g2
        simp at g2
    subst hk
    simp at g1
    subst g1
    have ht : r = r' := asc_ext ha.tail hb.tail (fun n => by
      have := h n
      simp only [getm] at this
      by_cases e : k = n
      · subst e
        rw [getm_none_lt (fun p hp => ha.head p hp), getm_none_lt (fun p hp => hb.head p hp)]
      · rwa [if_neg e, if_neg e] at this)
    rw [ht]
theorem getm_mem {α : Type} : ∀ {m : AM α} {n : Int} {b : α}, getm m n = some b → (n, b) ∈ m
  | (k, c) :: r, n, b, h => by
    unfold getm at h
    split at h
    · rename_i e; cases h; subst e; simp
    · exact List.mem_cons_of_mem _ (getm_mem h)
theorem getm_of_mem {α : Type} : ∀ {m : AM α} {n : Int} {b : α}, Asc m → (n, b) ∈ m → getm m n = some b
  | (k, c) :: r, n, b, ha, h => by
    rcases List.mem_cons.1 h with e | e
    · cases e; simp [getm]
    · have := ha.head _ e
      simp at this
      rw [getm, if_neg (by omega)]
      exact getm_of_mem ha.tail e
theorem asc_len {α : Type} : ∀ {m : AM α} {lo hi : Int}, Asc m → (∀ p ∈ m, lo ≤ p.1 ∧ p.1 < hi) → lo ≤ hi → (m.length : Int) ≤ hi - lo
  | [], lo, hi, _, _, h => by simp; omega
  | (k, c) :: r, lo, hi, ha, hr, h => by
    have h0 := hr (k, c) (by simp)
    have := asc_len (lo := k + 1) (hi := hi) ha.tail (fun p hp => ⟨by have := ha.head p hp; simp at this; omega, (hr p (by simp [hp])).2⟩) (by simp at h0; omega)
    simp at h0 ⊢
    omega

/-- a disk, plainly -/
structure Dk where
  n : Int
  on : AL
  bu : AL
  left : Int
  dead : Bool
  ops : Int
def Dk.new (n : Int) : Dk := ⟨n, [], [], 0, false, 0⟩
/-- what stands in a sector on the platter -/
def onOf (m : AL) (s : Int) : Sec := (getm m s).getD zeros
def Dk.onp (d : Dk) (s : Int) : Sec := onOf d.on s
def Dk.at (d : Dk) (s : Int) : Sec := (getm d.bu s).getD (d.onp s)
def Dk.there (d : Dk) (s : Int) : Bool := decide (0 ≤ s) && decide (s < d.n)
def wr64 (n : Int) : Int := (n + 9223372036854775808) % 18446744073709551616 - 9223372036854775808
def Dk.spend (d : Dk) : Dk × Bool :=
  if d.left = 1 then ({ d with left := 0, dead := true }, false)
  else ({ d with left := if 0 < d.left then d.left - 1 else d.left, ops := wr64 (d.ops + 1) }, true)
def readE (d : Dk) (s : Int) : Int := if d.dead then 12 else if d.there s then 0 else 1
def readB (d : Dk) (s : Int) : Sec := if readE d s = 0 then d.at s else []
def writeR (d : Dk) (s : Int) (b : Sec) : Dk × Int :=
  if d.dead then (d, 12) else if d.there s && decide (b.length = 128) then
    (match d.spend with
    | (d', true) => ({ d' with bu := insm s b d'.bu }, 0)
    | (d', false) => (d', 12))
  else (d, 1)
def mergeL {α : Type} (bu on : AM α) : AM α := bu.foldl (fun m p => insm p.1 p.2 m) on
def flushR (d : Dk) : Dk × Int :=
  if d.dead then (d, 12) else
    (match d.spend with
    | (d', true) => ({ d' with on := mergeL d'.bu d'.on, bu := [] }, 0)
    | (d', false) => (d', 12))
def Dk.stop (d : Dk) (n : Int) : Dk := { d with left := max n 0 }
def pick (p : Int) : Nat := ((p.tmod 129 + 129) % 129).toNat
def pickOf : List Int → Nat
  | [] => 0
  | p :: _ => pick p
def crashL : AL → List Int → AL → AL
  | [], _, on => on
  | (n, b) :: r, ps, on =>
    crashL r ps.tail (insm n (b.take (pickOf ps) ++ (onOf on n).drop (pickOf ps)) on)
def Dk.crash (d : Dk) (ps : List Int) : Dk := { d with on := crashL d.bu ps d.on, bu := [], dead := false, left := 0 }
theorem pick_le (p : Int) : pick p ≤ 128 := by unfold pick; omega
theorem Asc.merge {α : Type} : ∀ {bu on : AM α}, Asc on → Asc (mergeL bu on)
  | [], on, h => h
  | (k, b) :: r, on, h => Asc.merge (bu := r) (h.ins k b)
theorem getm_merge {α : Type} : ∀ (bu on : AM α) (s : Int), Asc bu → Asc on → getm (mergeL bu on) s = (getm bu s).or (getm on s)
  | [], on, s, _, _ => rfl
  | (k, b) :: r, on, s, hb, ho => by
    show getm (mergeL r (insm k b on)) s = _
    rw [getm_merge r _ s hb.tail (ho.ins k b), getm_ins k b s on ho, getm_cons]
    by_cases e : k = s
    · subst e
      rw [getm_none_lt (fun p hp => hb.head p hp), if_pos rfl, if_pos rfl]
      rfl
    · rw [if_neg e, if_neg (fun e' => e e'.symm)]
theorem Asc.crash : ∀ {bu : AL} {ps : List Int} {on : AL}, Asc on → Asc (crashL bu ps on)
  | [], _, on, h => h
  | (k, b) :: r, ps, on, h => Asc.crash (bu := r) (h.ins k _)
/-- what a crash may leave of a sector -/
def Img (bu on : AL) (P : Int → Sec) : Prop := ∀ s, match getm bu s with
  | none => P s = onOf on s
  | some b => ∃ k, k ≤ 128 ∧ P s = b.take k ++ (onOf on s).drop k
theorem img_crash : ∀ (bu : AL) (ps : List Int) (on : AL), Asc bu → Asc on → Img bu on (onOf (crashL bu ps on))
  | [], ps, on, _, _ => fun s => rfl
  | (k, b) :: r, ps, on, hb, ho => by
    intro s
    have ih := img_crash r ps.tail (insm k (b.take (pickOf ps) ++ (onOf on k).drop (pickOf ps)) on) hb.tail (ho.ins k _) s
    have hk : (pickOf ps) ≤ 128 := by
      cases ps with
      | nil => exact Nat.zero_le _
      | cons p _ => exact pick_le p
    have e : crashL ((k, b) :: r) ps on = crashL r ps.tail (insm k (b.take (pickOf ps) ++ (onOf on k).drop (pickOf ps)) on) := rfl
    rw [e]
    generalize pickOf ps = j at ih hk ⊢
    by_cases hs : k = s
    · subst hs
      rw [getm_none_lt (fun p hp => hb.head p hp)] at ih
      simp only [getm, if_true]
      refine ⟨j, hk, ?_⟩
      simp only at ih
      rw [ih]
      unfold onOf
      rw [getm_ins _ _ _ _ ho, if_pos rfl]
      rfl
    · have hon : onOf (insm k (b.take j ++ (onOf on k).drop j) on) s = onOf on s := by
        unfold onOf
        rw [getm_ins _ _ _ _ ho, if_neg (fun e => hs e.symm)]
      rw [hon] at ih
      simp only [getm, if_neg hs]
      exact ih
/-- a front of one, the rest of the other -/
def torn (k : Nat) (a b : Sec) : Sec := a.take k ++ b.drop k
theorem torn_0 (a b : Sec) : torn 0 a b = b := rfl
theorem torn_all {a b : Sec} {k : Nat} (ha : a.length ≤ k) (hb : b.length ≤ k) : torn k a b = a := by
  unfold torn
  rw [List.take_of_length_le ha, List.drop_of_length_le hb, List.append_nil]
theorem torn_self (k : Nat) (a : Sec) : torn k a a = a := List.take_append_drop k a
theorem torn_len {k : Nat} {a b : Sec} (ha : a.length = 128) (hb : b.length = 128) (hk : k ≤ 128) : (torn k a b).length = 128 := by simp [torn]; omega
/-- a disk in order -/
structure DOk (d : Dk) : Prop where
  n0 : 1 ≤ d.n
  n1 : d.n ≤ 4096
  on : Asc d.on
  bu : Asc d.bu
  onR : ∀ p ∈ d.on, 0 ≤ p.1 ∧ p.1 < d.n ∧ p.2.length = 128
  buR : ∀ p ∈ d.bu, 0 ≤ p.1 ∧ p.1 < d.n ∧ p.2.length = 128
  left : 0 ≤ d.left
theorem DOk.new {n : Int} (h0 : 1 ≤ n) (h1 : n ≤ 4096) : DOk (Dk.new n) := ⟨h0, h1, List.Pairwise.nil, List.Pairwise.nil, fun _ h => by simp [Dk.new] at h, fun _ h => by simp [Dk.new] at h, Int.le_refl _⟩
theorem DOk.onLen {d : Dk} (h : DOk d) (s : Int) : (d.onp s).length = 128 := by
  unfold Dk.onp onOf
  cases e : getm d.on s with
  | none => exact zeros_len
  | some b => exact (h.onR _ (getm_mem e)).2.2
theorem DOk.atLen {d : Dk} (h : DOk d) (s : Int) : (d.at s).length = 128 := by
  unfold Dk.at
  cases e : getm d.bu s with
  | none => exact h.onLen s
  | some b => exact (h.buR _ (getm_mem e)).2.2
theorem DOk.stop {d : Dk} (h : DOk d) (n : Int) : DOk (d.stop n) := ⟨h.n0, h.n1, h.on, h.bu, h.onR, h.buR, by show 0 ≤ max n 0; omega⟩
/-- what an operation that is spent leaves -/
theorem spend_cases (d : Dk) (h : DOk d) (hd : d.dead = false) : (d.left = 1 ∧ d.spend = ({ d with left := 0, dead := true }, false)) ∨ (d.left ≠ 1 ∧ ∃ l o, 0 ≤ l ∧ d.spend = ({ d with left := l, ops := o }, true)) := by
  unfold Dk.spend
  by_cases e : d.left = 1
  · rw [if_pos e]
    exact .inl ⟨e, rfl⟩
  · rw [if_neg e]
    have := h.left
    refine .inr ⟨e, (if 0 < d.left then d.left - 1 else d.left), _, ?_, rfl⟩
    split <;> omega
theorem DOk.put {d : Dk} (h : DOk d) {s : Int} {b : Sec} (h0 : 0 ≤ s) (h1 : s < d.n) (hb : b.length = 128) {l o : Int} (hl : 0 ≤ l) : DOk { d with bu := insm s b d.bu, left := l, ops := o } :=
  ⟨h.n0, h.n1, h.on, h.bu.ins s b, h.onR, fun p hp => by
    rcases ins_mem s b d.bu p hp with rfl | hp
    · exact ⟨h0, h1, hb⟩
    · exact h.buR p hp, hl⟩
theorem mem_merge : ∀ (bu on : AL) (p : Int × Sec), p ∈ mergeL bu on → p ∈ bu ∨ p ∈ on
  | [], on, p, h => .inr h
  | (k, b) :: r, on, p, h => by
    rcases mem_merge r (insm k b on) p h with h | h
    · exact .inl (by simp [h])
    · rcases ins_mem k b on p h with rfl | h
      · exact .inl (by simp)
      · exact .inr h
theorem DOk.flushed {d : Dk} (h : DOk d) {l o : Int} (hl : 0 ≤ l) : DOk { d with on := mergeL d.bu d.on, bu := [], left := l, ops := o } :=
  ⟨h.n0, h.n1, Asc.merge h.on, List.Pairwise.nil, fun p hp => by
    rcases mem_merge _ _ p hp with hp | hp
    · exact h.buR p hp
    · exact h.onR p hp, fun _ h => by simp at h, hl⟩
theorem mem_crash : ∀ (bu : AL) (ps : List Int) (on : AL) (p : Int × Sec), p ∈ crashL bu ps on → (∀ q ∈ bu, q.2.length = 128) → (∀ q ∈ on, q.2.length = 128) → (∃ q ∈ bu, q.1 = p.1 ∧ p.2.length = 128) ∨ p ∈ on
  | [], ps, on, p, h, _, _ => .inr h
  | (k, b) :: r, ps, on, p, h, h1, h2 => by
    have hl : (onOf on k).length = 128 := by
      unfold onOf
      cases e : getm on k with
      | none => exact zeros_len
      | some b => exact h2 _ (getm_mem e)
    have hb := h1 (k, b) (by simp)
    have hk : pickOf ps ≤ 128 := by
      cases ps with
      | nil => exact Nat.zero_le _
      | cons q _ => exact pick_le q
    have hn : (b.take (pickOf ps) ++ (onOf on k).drop (pickOf ps)).length = 128 := torn_len hb hl hk
    rcases mem_crash r ps.tail _ p h (fun q hq => h1 q (by simp [hq])) (fun q hq => by
      rcases ins_mem _ _ _ q hq with rfl | hq
      · exact hn
      · exact h2 q hq) with ⟨q, hq, h3, h4⟩ | h
    · exact .inl ⟨q, by simp [hq], h3, h4⟩
    · rcases ins_mem _ _ _ p h with rfl | h
      · exact .inl ⟨(k, b), by simp, rfl, hn⟩
      · exact .inr h
theorem DOk.crash {d : Dk} (h : DOk d) (ps : List Int) : DOk (d.crash ps) :=
  ⟨h.n0, h.n1, Asc.crash h.on, List.Pairwise.nil, fun p hp => by
    rcases mem_crash _ _ _ p hp (fun q hq => (h.buR q hq).2.2) (fun q hq => (h.onR q hq).2.2) with ⟨q, hq, h1, h2⟩ | hp
    · have := h.buR q hq
      exact ⟨by omega, by show p.1 < d.n; omega, h2⟩
    · exact h.onR p hp, fun _ h => by simp [Dk.crash] at h, Int.le_refl _⟩
end Go.Proofs.Ytnlemjjigiphcaa
