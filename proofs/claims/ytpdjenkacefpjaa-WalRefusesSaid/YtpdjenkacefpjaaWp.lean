/- Logs, plainly: heads, marks, what opening finds. -/
import Derived.Test.YtpdjenkacefpjaaDp
namespace Go.Proofs.Ytpdjenkacefpjaa
set_option linter.unusedVariables false

def sg (q : Nat) : UInt8 := UInt8.ofNat (1 + q % 250)
def be8 (q : Nat) : Sec := [UInt8.ofNat (q / 72057594037927936), UInt8.ofNat (q / 281474976710656), UInt8.ofNat (q / 1099511627776), UInt8.ofNat (q / 4294967296), UInt8.ofNat (q / 16777216), UInt8.ofNat (q / 65536), UInt8.ofNat (q / 256), UInt8.ofNat q]
def pl2 (n : Int) : Sec := [UInt8.ofNat (n.toNat / 256), UInt8.ofNat n.toNat]
def headB (q : Nat) (l : List Int) : Sec := (sg q :: (be8 q ++ (UInt8.ofNat l.length :: (l.flatMap pl2 ++ List.replicate (117 - 2 * l.length) 0)))) ++ [sg q]
def seqOf (b : Sec) : Nat := ((b.drop 1).take 8).foldl (fun a x => a * 256 + x.toNat) 0
def bt (b : Sec) (i : Nat) : UInt8 := b.getD i 0
def listOf (b : Sec) : List Int := (List.range (bt b 9).toNat).map fun i => ((bt b (10 + 2 * i)).toNat * 256 + (bt b (11 + 2 * i)).toNat : Int)
def isHead (b : Sec) : Bool := (bt b 0 != 0) && (bt b 0 == bt b 127) && (bt b 0 == sg (seqOf b))
def readHead (b : Sec) : Option (Nat × List Int) := if isHead b then some (seqOf b, listOf b) else none
def mq (b : Sec) : Nat := match readHead b with | some (q, _) => q | none => 0
def GoodL (n : Int) (l : List Int) : Prop := l.length ≤ 40 ∧ ∀ x ∈ l, 42 ≤ x ∧ x < n

theorem flat_len : ∀ l : List Int, (l.flatMap pl2).length = 2 * l.length
  | [] => rfl
  | n :: r => by simp [List.flatMap_cons, pl2, flat_len r]; omega
theorem headB_len (q : Nat) (l : List Int) (h : l.length ≤ 40) : (headB q l).length = 128 := by
  simp only [headB, be8, List.length_append, List.length_cons, List.length_replicate, flat_len, List.length_nil]; omega
theorem headB_0 (q : Nat) (l : List Int) : bt (headB q l) 0 = sg q := rfl
theorem headB_1 (q : Nat) (l : List Int) (h : q < 72057594037927936) : bt (headB q l) 1 = 0 := by
  show UInt8.ofNat (q / 72057594037927936) = 0
  rw [Nat.div_eq_of_lt h]; rfl
theorem headB_127 (q : Nat) (l : List Int) (h : l.length ≤ 40) : bt (headB q l) 127 = sg q := by
  unfold bt headB
  rw [List.getD_eq_getElem?_getD, List.getElem?_append_right (by simp only [be8, List.length_append, List.length_cons, List.length_replicate, flat_len, List.length_nil]; omega)]
  have : 127 - (sg q :: (be8 q ++ (UInt8.ofNat l.length :: (l.flatMap pl2 ++ List.replicate (117 - 2 * l.length) 0)))).length = 0 := by simp only [be8, List.length_append, List.length_cons, List.length_replicate, flat_len, List.length_nil]; omega
  rw [this]
  rfl
theorem seqOf_headB (q : Nat) (l : List Int) (h : q < 72057594037927936) : seqOf (headB q l) = q := by
  show ((((((((0 * 256 + (UInt8.ofNat (q / 72057594037927936)).toNat) * 256 + (UInt8.ofNat (q / 281474976710656)).toNat) * 256 + (UInt8.ofNat (q / 1099511627776)).toNat) * 256 + (UInt8.ofNat (q / 4294967296)).toNat) * 256 + (UInt8.ofNat (q / 16777216)).toNat) * 256 + (UInt8.ofNat (q / 65536)).toNat) * 256 + (UInt8.ofNat (q / 256)).toNat) * 256 + (UInt8.ofNat q).toNat) = q
  simp only [UInt8.toNat_ofNat']
  omega
theorem flat_at : ∀ (l : List Int) (rest : Sec) (i : Nat) (x : Int), l[i]? = some x → (l.flatMap pl2 ++ rest).getD (2 * i) 0 = UInt8.ofNat (x.toNat / 256) ∧ (l.flatMap pl2 ++ rest).getD (2 * i + 1) 0 = UInt8.ofNat x.toNat
  | [], _, _, _, h => by simp at h
  | y :: r, rest, 0, x, h => by
    simp at h
    subst h
    simp [List.flatMap_cons, pl2]
  | y :: r, rest, i + 1, x, h => by
    have ih := flat_at r rest i x (by simpa using h)
    have e : 2 * (i + 1) = 2 * i + 2 := by omega
    rw [e, List.flatMap_cons]
    exact ih
theorem listOf_headB (q : Nat) (l : List Int) (n : Int) (h : GoodL n l) (hn : n ≤ 65536) : listOf (headB q l) = l := by
  unfold listOf
  have h9 : (bt (headB q l) 9).toNat = l.length := by
    show (UInt8.ofNat l.length).toNat = l.length
    rw [UInt8.toNat_ofNat']
    have := h.1
    omega
  rw [h9]
  apply List.ext_getElem?
  intro i
  by_cases hi : i < l.length
  · obtain ⟨x, hx⟩ : ∃ x, l[i]? = some x := ⟨l[i], List.getElem?_eq_getElem hi⟩
    have hr := h.2 x (List.mem_of_getElem? hx)
    rw [hx, List.getElem?_map, List.getElem?_range hi]
    have a := flat_at l (List.replicate (117 - 2 * l.length) 0 ++ [sg q]) i x hx
    have b1 : bt (headB q l) (10 + 2 * i) = UInt8.ofNat (x.toNat / 256) := by
      rw [← a.1]
      unfold bt headB
      have : 10 + 2 * i = (2 * i) + 1 + 1 + 1 + 1 + 1 + 1 + 1 + 1 + 1 + 1 := by omega
      rw [this]
      simp only [be8, List.cons_append, List.nil_append, List.getD_cons_succ, List.append_assoc]
    have b2 : bt (headB q l) (11 + 2 * i) = UInt8.ofNat x.toNat := by
      rw [← a.2]
      unfold bt headB
      have : 11 + 2 * i = (2 * i + 1) + 1 + 1 + 1 + 1 + 1 + 1 + 1 + 1 + 1 + 1 := by omega
      rw [this]
      simp only [be8, List.cons_append, List.nil_append, List.getD_cons_succ, List.append_assoc]
    simp only [Option.map_some, b1, b2, UInt8.toNat_ofNat']
    congr 1
    omega
  · rw [List.getElem?_eq_none (by rw [List.length_map, List.length_range]; omega), List.getElem?_eq_none (by omega)]
theorem sg_ne (q : Nat) : sg q ≠ 0 := by
  unfold sg
  intro e
  have := congrArg UInt8.toNat e
  rw [UInt8.toNat_ofNat'] at this
  simp at this
  omega
theorem sg_inj {a b : Nat} (ha : a < 250) (hb : b < 250) (h : sg a = sg b) : a = b := by
  have := congrArg UInt8.toNat h
  unfold sg at this
  rw [UInt8.toNat_ofNat', UInt8.toNat_ofNat'] at this
  omega
theorem read_headB (q : Nat) (l : List Int) (n : Int) (h : GoodL n l) (hn : n ≤ 65536) (hq : q < 72057594037927936) : readHead (headB q l) = some (q, l) := by
  unfold readHead isHead
  rw [headB_0, headB_127 q l h.1, seqOf_headB q l hq, listOf_headB q l n h hn]
  have := sg_ne q
  simp [this]
def Bad (b : Sec) : Prop := bt b 0 = 0 ∨ bt b 0 ≠ bt b 127
theorem read_bad {b : Sec} (h : Bad b) : readHead b = none := by
  unfold readHead isHead
  rcases h with h | h <;> simp [h]
/-- a head's sector -/
structure HL (n : Int) (q : Nat) (S : Sec) : Prop where
  len : S.length = 128
  one : bt S 1 = 0
  is : (∃ r l, r ≤ q ∧ GoodL n l ∧ S = headB r l) ∨ (Bad S ∧ (bt S 127 = 0 ∨ ∃ r, r ≤ q ∧ bt S 127 = sg r))
/-- a mark's -/
structure ML (n : Int) (q : Nat) (S : Sec) : Prop where
  len : S.length = 128
  one : bt S 1 = 0
  is : (∃ r, r ≤ q ∧ S = headB r []) ∨ (Bad S ∧ (bt S 127 = 0 ∨ ∃ r, r < q ∧ bt S 127 = sg r))
theorem HL.mono {n : Int} {q q' : Nat} {S : Sec} (h : HL n q S) (hq : q ≤ q') : HL n q' S :=
  ⟨h.len, h.one, by
    rcases h.is with ⟨r, l, a, b, c⟩ | ⟨a, b | ⟨r, b, c⟩⟩
    · exact .inl ⟨r, l, by omega, b, c⟩
    · exact .inr ⟨a, .inl b⟩
    · exact .inr ⟨a, .inr ⟨r, by omega, c⟩⟩⟩
theorem ML.mono {n : Int} {q q' : Nat} {S : Sec} (h : ML n q S) (hq : q ≤ q') : ML n q' S :=
  ⟨h.len, h.one, by
    rcases h.is with ⟨r, a, c⟩ | ⟨a, b | ⟨r, b, c⟩⟩
    · exact .inl ⟨r, by omega, c⟩
    · exact .inr ⟨a, .inl b⟩
    · exact .inr ⟨a, .inr ⟨r, by omega, c⟩⟩⟩
theorem GoodL.nil (n : Int) : GoodL n [] := ⟨by simp, by simp⟩
theorem headB_HL (n : Int) (q : Nat) (l : List Int) (h : GoodL n l) (hq : q < 250) : HL n q (headB q l) :=
  ⟨headB_len q l h.1, headB_1 q l (by omega), .inl ⟨q, l, Nat.le_refl _, h, rfl⟩⟩
theorem headB_ML (n : Int) (q : Nat) (hq : q < 250) : ML n q (headB q []) :=
  ⟨headB_len q [] (by simp), headB_1 q [] (by omega), .inl ⟨q, Nat.le_refl _, rfl⟩⟩
theorem zeros_bad : Bad zeros := .inl rfl
theorem zeros_HL (n : Int) : HL n 0 zeros := ⟨zeros_len, rfl, .inr ⟨zeros_bad, .inl rfl⟩⟩
theorem zeros_ML (n : Int) : ML n 0 zeros := ⟨zeros_len, rfl, .inr ⟨zeros_bad, .inl rfl⟩⟩
theorem torn_lo {k : Nat} {a b : Sec} {i : Nat} (ha : a.length = 128) (hi : i < k) (hk : k ≤ 128) : bt (torn k a b) i = bt a i := by
  unfold bt torn
  rw [List.getD_eq_getElem?_getD, List.getD_eq_getElem?_getD, List.getElem?_append_left (by simp; omega), List.getElem?_take_of_lt hi]
theorem torn_hi {k : Nat} {a b : Sec} {i : Nat} (ha : a.length = 128) (hi : k ≤ i) (hk : k ≤ 128) : bt (torn k a b) i = bt b i := by
  unfold bt torn
  rw [List.getD_eq_getElem?_getD, List.getD_eq_getElem?_getD, List.getElem?_append_right (by simp; omega), List.getElem?_drop]
  congr 2
  simp
  omega
theorem last_ne {n : Int} {q : Nat} {S : Sec} (h : HL n q S) (hq : q + 1 < 250) : bt S 127 ≠ sg (q + 1) := by
  rcases h.is with ⟨r, l, a, b, rfl⟩ | ⟨_, b | ⟨r, b, c⟩⟩
  · rw [headB_127 _ _ b.1]
    intro e
    have := sg_inj (by omega) hq e
    omega
  · rw [b]
    exact fun e => sg_ne _ e.symm
  · rw [c]
    intro e
    have := sg_inj (by omega) hq e
    omega
theorem last_in {n : Int} {q : Nat} {S : Sec} (h : HL n q S) : bt S 127 = 0 ∨ ∃ r, r ≤ q ∧ bt S 127 = sg r := by
  rcases h.is with ⟨r, l, a, b, rfl⟩ | ⟨_, b⟩
  · exact .inr ⟨r, a, headB_127 _ _ b.1⟩
  · exact b
/-- a torn head is the new one, the old one, or none -/
theorem torn_head {n : Int} {q k : Nat} {S : Sec} {l : List Int} (h : HL n q S) (hl : GoodL n l) (hq : q + 1 < 250) (hk : k ≤ 128) :
    torn k (headB (q + 1) l) S = headB (q + 1) l ∨ torn k (headB (q + 1) l) S = S ∨ (Bad (torn k (headB (q + 1) l) S) ∧ HL n q (torn k (headB (q + 1) l) S)) := by
  have hlen := headB_len (q + 1) l hl.1
  by_cases h0 : k = 0
  · subst h0
    exact .inr (.inl rfl)
  · by_cases h8 : k = 128
    · subst h8
      exact .inl (torn_all (by omega) (by rw [h.len]; omega))
    · have e0 : bt (torn k (headB (q + 1) l) S) 0 = sg (q + 1) := by rw [torn_lo hlen (by omega) hk]; rfl
      have e7 : bt (torn k (headB (q + 1) l) S) 127 = bt S 127 := torn_hi hlen (by omega) hk
      have hb : Bad (torn k (headB (q + 1) l) S) := .inr (by rw [e0, e7]; exact fun e => last_ne h hq e.symm)
      refine .inr (.inr ⟨hb, torn_len hlen h.len hk, ?_, .inr ⟨hb, by rw [e7]; exact last_in h⟩⟩)
      by_cases h1 : k = 1
      · subst h1
        rw [torn_hi hlen (by omega) hk]
        exact h.one
      · rw [torn_lo hlen (by omega) hk]
        exact headB_1 _ _ (by omega)
theorem mq_head (n : Int) {q : Nat} {l : List Int} (hl : GoodL n l) (hn : n ≤ 65536) (hq : q < 250) : mq (headB q l) = q := by
  unfold mq
  rw [read_headB q l n hl hn (by omega)]
theorem mq_bad {S : Sec} (h : Bad S) : mq S = 0 := by
  unfold mq
  rw [read_bad h]
/-- a torn mark -/
theorem torn_mark {n : Int} {q k : Nat} {S : Sec} (h : ML n q S) (hq : q < 250) (hk : k ≤ 128) :
    torn k (headB q []) S = headB q [] ∨ torn k (headB q []) S = S ∨ (Bad (torn k (headB q []) S) ∧ ML n q (torn k (headB q []) S) ∧ (mq S < q ∨ q = 0)) := by
  have hlen := headB_len q [] (by simp)
  by_cases h0 : k = 0
  · subst h0
    exact .inr (.inl rfl)
  · by_cases h8 : k = 128
    · subst h8
      exact .inl (torn_all (by omega) (by rw [h.len]; omega))
    · have e0 : bt (torn k (headB q []) S) 0 = sg q := by rw [torn_lo hlen (by omega) hk]; rfl
      have e7 : bt (torn k (headB q []) S) 127 = bt S 127 := torn_hi hlen (by omega) hk
      have e1 : bt (torn k (headB q []) S) 1 = 0 := by
        by_cases h1 : k = 1
        · subst h1
          rw [torn_hi hlen (by omega) hk]
          exact h.one
        · rw [torn_lo hlen (by omega) hk]
          exact headB_1 _ _ (by omega)
      by_cases hs : S = headB q []
      · subst hs
        exact .inl (torn_self _ _)
      · have hl : bt S 127 = 0 ∨ ∃ r, r < q ∧ bt S 127 = sg r := by
          rcases h.is with ⟨r, a, rfl⟩ | ⟨_, b⟩
          · refine .inr ⟨r, ?_, headB_127 _ _ (by simp)⟩
            have : r ≠ q := fun e => hs (by rw [e])
            omega
          · exact b
        have hb : Bad (torn k (headB q []) S) := .inr (by
          rw [e0, e7]
          rcases hl with b | ⟨r, b, c⟩
          · rw [b]; exact sg_ne _
          · rw [c]
            intro e
            have := sg_inj hq (by omega) e
            omega)
        refine .inr (.inr ⟨hb, ⟨torn_len hlen h.len hk, e1, .inr ⟨hb, by rw [e7]; exact hl⟩⟩, ?_⟩)
        rcases h.is with ⟨r, a, e⟩ | ⟨b, _⟩
        · have : r ≠ q := fun e' => hs (by rw [e, e'])
          rw [e, mq_head 0 (GoodL.nil 0) (by omega) (by omega)]
          omega
        · rw [mq_bad b]
          omega
/-! ### what opening finds -/
def upd (P : Int → Sec) (n : Int) (b : Sec) : Int → Sec := fun s => if s = n then b else P s
def placeF : List Int → Nat → (Int → Sec) → (Int → Sec) → (Int → Sec)
  | [], _, _, P => P
  | n :: r, i, src, P => placeF r (i + 1) src (upd P n (src (2 + i)))
def putF : List (Int × Sec) → (Int → Sec) → (Int → Sec)
  | [], P => P
  | (n, b) :: r, P => putF r (upd P n b)
def bytesF : List (Int × Sec) → Nat → (Int → Sec) → (Int → Sec)
  | [], _, P => P
  | (_, b) :: r, i, P => bytesF r (i + 1) (upd P (2 + i) b)
def recU (P : Int → Sec) : (Int → Sec) × Nat :=
  match readHead (P 0) with
  | some (h, l) => if mq (P 1) < h then (placeF l 0 P P, h) else (P, mq (P 1))
  | none => (P, mq (P 1))
theorem placeF_out : ∀ (l : List Int) (i : Nat) (src P : Int → Sec) (s : Int), s ∉ l → placeF l i src P s = P s
  | [], _, _, _, _, _ => rfl
  | n :: r, i, src, P, s, h => by
    show placeF r (i + 1) src (upd P n (src (2 + i))) s = P s
    rw [placeF_out r _ _ _ _ (fun hm => h (by simp [hm]))]
    exact if_neg (fun e => h (by simp [e]))
theorem placeF_congr : ∀ (l : List Int) (i : Nat) (src src' P P' : Int → Sec), (∀ j : Nat, i ≤ j → j < i + l.length → src (2 + j) = src' (2 + j)) → (∀ s, s ∉ l → P s = P' s) → placeF l i src P = placeF l i src' P'
  | [], _, _, _, P, P', _, h => funext fun s => h s (by simp)
  | n :: r, i, src, src', P, P', hs, h => by
    show placeF r (i + 1) src (upd P n (src (2 + i))) = placeF r (i + 1) src' (upd P' n (src' (2 + i)))
    refine placeF_congr r (i + 1) src src' _ _ (fun j h1 h2 => hs j (by omega) (by simp; omega)) (fun s hm => ?_)
    unfold upd
    rw [hs i (Nat.le_refl _) (by simp)]
    split
    · rfl
    · rename_i hne
      exact h s (by simp [hne, hm])
theorem placeF_at : ∀ (l : List Int) (i : Nat) (src src' P P' : Int → Sec), (∀ j : Nat, i ≤ j → j < i + l.length → src (2 + j) = src' (2 + j)) → ∀ s, P s = P' s → placeF l i src P s = placeF l i src' P' s
  | [], _, _, _, P, P', _, s, h => h
  | n :: r, i, src, src', P, P', hs, s, h => by
    show placeF r (i + 1) src (upd P n (src (2 + i))) s = placeF r (i + 1) src' (upd P' n (src' (2 + i))) s
    refine placeF_at r (i + 1) src src' _ _ (fun j h1 h2 => hs j (by omega) (by simp; omega)) s ?_
    unfold upd
    rw [hs i (Nat.le_refl _) (by simp), h]
theorem placeF_put : ∀ (ps : List (Int × Sec)) (i : Nat) (src P : Int → Sec), (∀ j p, ps[j]? = some p → src (2 + (i + j : Nat)) = p.2) → placeF (ps.map (·.1)) i src P = putF ps P
  | [], _, _, _, _ => rfl
  | (n, b) :: r, i, src, P, h => by
    show placeF (r.map (·.1)) (i + 1) src (upd P n (src (2 + i))) = putF r (upd P n b)
    have e : src (2 + i) = b := h 0 (n, b) rfl
    rw [e]
    exact placeF_put r (i + 1) src _ (fun j p hp => by
      have := h (j + 1) p (by simpa using hp)
      rw [show i + 1 + j = i + (j + 1) by omega]
      exact this)
theorem bytesF_out : ∀ (ps : List (Int × Sec)) (i : Nat) (P : Int → Sec) (s : Int), (s < 2 + i ∨ 2 + i + ps.length ≤ s) → bytesF ps i P s = P s
  | [], _, _, _, _ => rfl
  | (n, b) :: r, i, P, s, h => by
    show bytesF r (i + 1) (upd P (2 + i) b) s = P s
    rw [bytesF_out r (i + 1) _ s (by simp at h ⊢; omega)]
    exact if_neg (by simp at h; omega)
theorem bytesF_in : ∀ (ps : List (Int × Sec)) (i : Nat) (P : Int → Sec) (j : Nat) (p : Int × Sec), ps[j]? = some p → bytesF ps i P (2 + (i + j : Nat)) = p.2
  | [], _, _, _, _, h => by simp at h
  | (n, b) :: r, i, P, 0, p, h => by
    simp at h
    subst h
    show bytesF r (i + 1) (upd P (2 + i) b) (2 + (i + 0 : Nat)) = b
    rw [bytesF_out r (i + 1) _ _ (.inl (by omega))]
    exact if_pos rfl
  | (n, b) :: r, i, P, j + 1, p, h => by
    show bytesF r (i + 1) (upd P (2 + i) b) (2 + (i + (j + 1) : Nat)) = p.2
    rw [show i + (j + 1) = i + 1 + j by omega]
    exact bytesF_in r (i + 1) _ j p (by simpa using h)
/-- a platter of which opening tells q commits and the user's sectors σ -/
structure Safe (n : Int) (q : Nat) (σ P : Int → Sec) : Prop where
  ml : ML n q (P 1)
  hl : HL n q (P 0)
  seq : (recU P).2 = q
  usr : ∀ s, 42 ≤ s → (recU P).1 s = σ s
theorem recU_bad {P : Int → Sec} (h : Bad (P 0)) : recU P = (P, mq (P 1)) := by
  unfold recU
  rw [read_bad h]
theorem recU_head {P : Int → Sec} {n : Int} {q : Nat} {l : List Int} (h : P 0 = headB q l) (hl : GoodL n l) (hn : n ≤ 65536) (hq : q < 250) : recU P = if mq (P 1) < q then (placeF l 0 P P, q) else (P, mq (P 1)) := by
  unfold recU
  rw [h, read_headB q l n hl hn (by omega)]
theorem mq_le {n : Int} {q : Nat} {S : Sec} (h : ML n q S) (hq : q < 250) : mq S ≤ q := by
  rcases h.is with ⟨r, a, rfl⟩ | ⟨b, _⟩
  · rw [mq_head 0 (GoodL.nil 0) (by omega) (by omega)]
    exact a
  · rw [mq_bad b]
    omega
/-- the user's sectors changed at the places of the head's list alone, or nothing of the log: what is opened is the same -/
theorem Safe.users {n : Int} {q : Nat} {σ P Q : Int → Sec} (h : Safe n q σ P) (hn : n ≤ 65536) (hq : q < 250) {r : Nat} {l : List Int} (he : P 0 = headB r l) (hl : GoodL n l) (hr : mq (P 1) < r) (hrq : r < 250) (hQ : ∀ s, s ∉ l → Q s = P s) : Safe n q σ Q := by
  have hlow : ∀ s, s < 42 → Q s = P s := fun s hs => hQ s (fun hm => by have := (hl.2 s hm).1; omega)
  have e0 := hlow 0 (by omega)
  have e1 := hlow 1 (by omega)
  have er : recU Q = recU P := by
    rw [recU_head (P := Q) (e0.trans he) hl hn hrq, recU_head he hl hn hrq, e1, if_pos hr, if_pos hr]
    rw [placeF_congr l 0 Q P Q P (fun j _ h2 => hlow _ (by have := hl.1; omega)) hQ]
  exact ⟨by rw [e1]; exact h.ml, by rw [e0]; exact h.hl, by rw [er]; exact h.seq, fun s hs => by rw [er]; exact h.usr s hs⟩
/-- the log has rested: the user's sectors are in their places -/
structure Rest (n : Int) (q : Nat) (σ P : Int → Sec) : Prop extends Safe n q σ P where
  at_ : ∀ s, 42 ≤ s → P s = σ s
/-- while the mark is written -/
theorem Rest.mark {n : Int} {q k : Nat} {σ P Q : Int → Sec} (h : Rest n q σ P) (hn : n ≤ 65536) (hq : q < 250) (hk : k ≤ 128) (hQ : ∀ s, s ≠ 1 → Q s = P s) (h1 : Q 1 = torn k (headB q []) (P 1)) : Rest n q σ Q := by
  have e0 : Q 0 = P 0 := hQ 0 (by decide)
  have hu : ∀ s, 42 ≤ s → Q s = σ s := fun s hs => by rw [hQ s (by omega)]; exact h.at_ s hs
  have key : ML n q (Q 1) → (mq (Q 1) = q ∨ (mq (Q 1) < q ∧ mq (P 1) < q) ∨ mq (Q 1) = mq (P 1)) → Rest n q σ Q := by
    intro hml hm
    have hle := mq_le h.ml hq
    refine ⟨⟨hml, by rw [e0]; exact h.hl, ?_, ?_⟩, hu⟩
    · have hs := h.seq
      rcases h.hl.is with ⟨r, l, hr, hg, he⟩ | ⟨hb, _⟩
      · rw [recU_head he hg hn (by omega)] at hs
        rw [recU_head (e0.trans he) hg hn (by omega)]
        split at hs <;> split <;> simp at hs ⊢ <;> omega
      · rw [recU_bad hb] at hs
        rw [recU_bad (by rw [e0]; exact hb)]
        simp at hs ⊢
        omega
    · intro s hs
      rcases h.hl.is with ⟨r, l, hr, hg, he⟩ | ⟨hb, _⟩
      · have hus := h.usr s hs
        have hsq := h.seq
        rw [recU_head he hg hn (by omega)] at hus hsq
        rw [recU_head (e0.trans he) hg hn (by omega)]
        by_cases hx : mq (Q 1) < r
        · rw [if_pos hx]
          have hy : mq (P 1) < r := by
            by_cases hy : mq (P 1) < r
            · exact hy
            · rw [if_neg hy] at hsq
              simp at hsq
              omega
          rw [if_pos hy] at hus
          have e : placeF l 0 Q Q s = placeF l 0 P P s := placeF_at l 0 Q P Q P (fun j _ h2 => hQ _ (by omega)) s (hQ s (by omega))
          exact e.trans hus
        · rw [if_neg hx]
          exact hu s hs
      · rw [recU_bad (by rw [e0]; exact hb)]
        exact hu s hs
  rcases torn_mark h.ml hq hk with e | e | ⟨hb, hml, hc⟩
  · rw [e] at h1
    exact key (by rw [h1]; exact headB_ML n q hq) (.inl (by rw [h1]; exact mq_head 0 (GoodL.nil 0) (by omega) hq))
  · rw [e] at h1
    exact key (by rw [h1]; exact h.ml) (.inr (.inr (by rw [h1])))
  · rw [← h1] at hb hml
    refine key hml ?_
    rw [mq_bad hb]
    rcases hc with hc | hc
    · exact .inr (.inl ⟨by omega, hc⟩)
    · exact .inl hc.symm

/-- while bytes are written, the mark being there -/
theorem Rest.bytes {n : Int} {q : Nat} {σ P Q : Int → Sec} (h : Rest n q σ P) (hn : n ≤ 65536) (hq : q < 250) (hm : mq (P 1) = q) (h0 : Q 0 = P 0) (h1 : Q 1 = P 1) (hQ : ∀ s, 42 ≤ s → Q s = P s) : Rest n q σ Q := by
  have hu : ∀ s, 42 ≤ s → Q s = σ s := fun s hs => by rw [hQ s hs]; exact h.at_ s hs
  have hr : recU Q = (Q, q) := by
    rcases h.hl.is with ⟨r, l, hr, hg, he⟩ | ⟨hb, _⟩
    · rw [recU_head (h0.trans he) hg hn (by omega), h1, hm, if_neg (by omega)]
    · rw [recU_bad (by rw [h0]; exact hb), h1, hm]
  exact ⟨⟨by rw [h1]; exact h.ml, by rw [h0]; exact h.hl, by rw [hr], fun s hs => by rw [hr]; exact hu s hs⟩, hu⟩
/-- the head is written: the new state is the user's, wherever his sectors stand -/
theorem safe_new {n : Int} {q : Nat} {σ P Q : Int → Sec} {ps : List (Int × Sec)} (h : Rest n q σ P) (hn : n ≤ 65536) (hq : q + 1 < 250) (hg : GoodL n (ps.map (·.1))) (hm : mq (P 1) = q) (h1 : Q 1 = P 1) (h0 : Q 0 = headB (q + 1) (ps.map (·.1)))
    (hb : ∀ j p, ps[j]? = some p → Q (2 + (j : Nat)) = p.2) (hQ : ∀ s, 42 ≤ s → s ∉ ps.map (·.1) → Q s = P s) : Safe n (q + 1) (putF ps σ) Q := by
  have hr : recU Q = (placeF (ps.map (·.1)) 0 Q Q, q + 1) := by
    rw [recU_head h0 hg hn hq, h1, hm, if_pos (by omega)]
  refine ⟨by rw [h1]; exact h.ml.mono (by omega), by rw [h0]; exact headB_HL n _ _ hg hq, by rw [hr], fun s hs => ?_⟩
  rw [hr, ← placeF_put ps 0 Q σ (fun j p hp => by rw [Nat.zero_add]; exact hb j p hp)]
  by_cases hin : s ∈ ps.map (·.1)
  · show placeF (ps.map (·.1)) 0 Q Q s = _
    have := placeF_congr (ps.map (·.1)) 0 Q Q Q (fun s' => if s' ∈ ps.map (·.1) then σ s' else Q s') (fun _ _ _ => rfl) (fun s' hs' => by rw [if_neg hs'])
    rw [this]
    exact placeF_at _ 0 Q Q _ _ (fun _ _ _ => rfl) s (by rw [if_pos hin])
  · show placeF (ps.map (·.1)) 0 Q Q s = _
    rw [placeF_out _ _ _ _ _ hin, placeF_out _ _ _ _ _ hin, hQ s hs hin, h.at_ s hs]
/-- while the head is written -/
theorem Rest.head {n : Int} {q k : Nat} {σ P Q : Int → Sec} {ps : List (Int × Sec)} (h : Rest n q σ P) (hn : n ≤ 65536) (hq : q + 1 < 250) (hk : k ≤ 128) (hg : GoodL n (ps.map (·.1))) (hm : mq (P 1) = q) (hQ : ∀ s, s ≠ 0 → Q s = P s) (h0 : Q 0 = torn k (headB (q + 1) (ps.map (·.1))) (P 0))
    (hb : ∀ j p, ps[j]? = some p → P (2 + (j : Nat)) = p.2) : Rest n q σ Q ∨ Safe n (q + 1) (putF ps σ) Q := by
  have h1 : Q 1 = P 1 := hQ 1 (by decide)
  have hu : ∀ s, 42 ≤ s → Q s = σ s := fun s hs => by rw [hQ s (by omega)]; exact h.at_ s hs
  rcases torn_head h.hl hg hq hk with e | e | ⟨hbd, hhl⟩
  · right
    exact safe_new h hn hq hg hm h1 (by rw [h0, e]) (fun j p hp => by rw [hQ _ (by omega)]; exact hb j p hp) (fun s hs _ => hQ s (by omega))
  · left
    exact h.bytes hn (by omega) hm (by rw [h0, e]) h1 (fun s hs => hQ s (by omega))
  · left
    rw [← h0] at hbd hhl
    have hr : recU Q = (Q, q) := by rw [recU_bad hbd, h1, hm]
    exact ⟨⟨by rw [h1]; exact h.ml, hhl, by rw [hr], fun s hs => by rw [hr]; exact hu s hs⟩, hu⟩
/-- all is in its place -/
theorem rest_new {n : Int} {q : Nat} {σ P Q : Int → Sec} {ps : List (Int × Sec)} (h : Safe n (q + 1) (putF ps σ) Q) (h2 : ∀ s, 42 ≤ s → Q s = putF ps σ s) : Rest n (q + 1) (putF ps σ) Q := ⟨h, h2⟩
end Go.Proofs.Ytpdjenkacefpjaa
