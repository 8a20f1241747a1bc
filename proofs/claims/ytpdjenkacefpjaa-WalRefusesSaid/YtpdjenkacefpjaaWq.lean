/- Logs, plainly: a commit is done or not, wherever the disk stops. -/
import Derived.Test.YtpdjenkacefpjaaWp
namespace Go.Proofs.Ytpdjenkacefpjaa
set_option linter.unusedVariables false

/-! ### what a log does -/
abbrev WM := Dk → Dk × Bool
def andW (f g : WM) : WM := fun d => match f d with | (d', true) => g d' | (d', false) => (d', false)
def wrW (s : Int) (b : Sec) : WM := fun d => ((writeR d s b).1, (writeR d s b).2 == 0)
def flW : WM := fun d => ((flushR d).1, (flushR d).2 == 0)
def bytesW : List (Int × Sec) → Nat → WM
  | [], _ => flW
  | (_, b) :: r, i => andW (wrW (2 + i) b) (bytesW r (i + 1))
def placeW : List Int → Nat → WM
  | [], _ => flW
  | n :: r, i => fun d => andW (wrW n (d.at (2 + i))) (placeW r (i + 1)) d
def commitW (q : Nat) (ps : List (Int × Sec)) : WM :=
  andW (wrW 1 (headB q [])) (andW flW (andW (bytesW ps 0) (andW (wrW 0 (headB (q + 1) (ps.map (·.1)))) (andW flW (placeW (ps.map (·.1)) 0)))))
/-- under way: P on the platter, V to be read, what is in the buffer is of A -/
structure Ph (N : Int) (P V : Int → Sec) (A : Int → Prop) (d : Dk) : Prop where
  ok : DOk d
  n : d.n = N
  on : ∀ s, d.onp s = P s
  at_ : ∀ s, d.at s = V s
  bu : ∀ s, ¬ A s → getm d.bu s = none
  alive : d.dead = false
/-- stopped: whatever a crash keeps is of I -/
structure Dd (N : Int) (I : (Int → Sec) → Prop) (d : Dk) : Prop where
  ok : DOk d
  n : d.n = N
  img : ∀ Q, Img d.bu d.on Q → I Q
  dead : d.dead = true
theorem Dd.mono {N : Int} {I J : (Int → Sec) → Prop} {d : Dk} (h : Dd N I d) (hi : ∀ Q, I Q → J Q) : Dd N J d := ⟨h.ok, h.n, fun Q hq => hi Q (h.img Q hq), h.dead⟩
theorem img_out {N : Int} {P V : Int → Sec} {A : Int → Prop} {d : Dk} (h : Ph N P V A d) {Q : Int → Sec} (hq : Img d.bu d.on Q) (s : Int) (hs : ¬ A s) : Q s = P s := by
  have h1 := hq s
  rw [h.bu s hs] at h1
  exact h1.trans (h.on s)
theorem img_at {N : Int} {P V : Int → Sec} {A : Int → Prop} {d : Dk} (h : Ph N P V A d) {Q : Int → Sec} (hq : Img d.bu d.on Q) (s : Int) : ∃ k, k ≤ 128 ∧ Q s = torn k (V s) (P s) := by
  have h1 := hq s
  have h2 := h.at_ s
  unfold Dk.at at h2
  cases e : getm d.bu s with
  | none =>
    rw [e] at h1
    exact ⟨0, by omega, h1.trans (h.on s)⟩
  | some b =>
    rw [e] at h1 h2
    obtain ⟨k, hk, hb⟩ := h1
    refine ⟨k, hk, ?_⟩
    rw [hb]
    unfold torn
    rw [← h.on s]
    simp at h2
    rw [h2]
    rfl
theorem Ph.write {N : Int} {P V : Int → Sec} {A : Int → Prop} {d : Dk} (h : Ph N P V A d) {s : Int} {b : Sec} (h0 : 0 ≤ s) (h1 : s < N) (hb : b.length = 128) (hA : A s) :
    (∃ d', wrW s b d = (d', true) ∧ Ph N P (upd V s b) A d') ∨ (∃ d', wrW s b d = (d', false) ∧ Dd N (fun Q => ∀ s, (¬ A s → Q s = P s) ∧ ∃ k, k ≤ 128 ∧ Q s = torn k (V s) (P s)) d') := by
  have ht : (d.there s && decide (b.length = 128)) = true := by
    unfold Dk.there
    simp [h0, hb]
    rw [h.n]
    exact h1
  rcases spend_cases d h.ok h.alive with ⟨_, e⟩ | ⟨_, l, o, hl, e⟩
  · right
    refine ⟨{ d with left := 0, dead := true }, ?_, ⟨?_, h.n, ?_, rfl⟩⟩
    · unfold wrW writeR
      rw [if_neg (by rw [h.alive]; exact Bool.false_ne_true), if_pos ht, e]
      rfl
    · exact ⟨h.ok.n0, h.ok.n1, h.ok.on, h.ok.bu, h.ok.onR, h.ok.buR, Int.le_refl _⟩
    · intro Q hq s
      exact ⟨img_out h hq s, img_at h hq s⟩
  · left
    refine ⟨{ d with left := l, ops := o, bu := insm s b d.bu }, ?_, ⟨h.ok.put h0 (by rw [h.n]; exact h1) hb hl, h.n, h.on, ?_, ?_, h.alive⟩⟩
    · unfold wrW writeR
      rw [if_neg (by rw [h.alive]; exact Bool.false_ne_true), if_pos ht, e]
      rfl
    · intro j
      show (getm (insm s b d.bu) j).getD (d.onp j) = upd V s b j
      rw [getm_ins _ _ _ _ h.ok.bu]
      unfold upd
      split
      · rfl
      · exact h.at_ j
    · intro j hj
      show getm (insm s b d.bu) j = none
      rw [getm_ins _ _ _ _ h.ok.bu, if_neg (show ¬ j = s from fun e => hj (by rw [e]; exact hA))]
      exact h.bu j hj
theorem Ph.flush {N : Int} {P V : Int → Sec} {A : Int → Prop} {d : Dk} (h : Ph N P V A d) :
    (∃ d', flW d = (d', true) ∧ Ph N V V (fun _ => False) d') ∨ (∃ d', flW d = (d', false) ∧ Dd N (fun Q => ∀ s, (¬ A s → Q s = P s) ∧ ∃ k, k ≤ 128 ∧ Q s = torn k (V s) (P s)) d') := by
  rcases spend_cases d h.ok h.alive with ⟨_, e⟩ | ⟨_, l, o, hl, e⟩
  · right
    refine ⟨{ d with left := 0, dead := true }, ?_, ⟨?_, h.n, ?_, rfl⟩⟩
    · unfold flW flushR
      rw [if_neg (by rw [h.alive]; exact Bool.false_ne_true), e]
      rfl
    · exact ⟨h.ok.n0, h.ok.n1, h.ok.on, h.ok.bu, h.ok.onR, h.ok.buR, Int.le_refl _⟩
    · intro Q hq s
      exact ⟨img_out h hq s, img_at h hq s⟩
  · left
    have hon : ∀ s, onOf (mergeL d.bu d.on) s = V s := by
      intro s
      rw [← h.at_ s]
      unfold onOf Dk.at Dk.onp onOf
      rw [getm_merge _ _ _ h.ok.bu h.ok.on]
      cases getm d.bu s <;> rfl
    refine ⟨{ d with left := l, ops := o, on := mergeL d.bu d.on, bu := [] }, ?_, ⟨h.ok.flushed hl, h.n, hon, hon, fun _ _ => rfl, h.alive⟩⟩
    · unfold flW flushR
      rw [if_neg (by rw [h.alive]; exact Bool.false_ne_true), e]
      rfl
theorem Ph.wider {N : Int} {P V : Int → Sec} {A A' : Int → Prop} {d : Dk} (h : Ph N P V A d) (ha : ∀ s, A s → A' s) : Ph N P V A' d := ⟨h.ok, h.n, h.on, h.at_, fun s hs => h.bu s (fun x => hs (ha s x)), h.alive⟩
theorem andW_ok {f g : WM} {d d' : Dk} (h : f d = (d', true)) : andW f g d = g d' := by unfold andW; rw [h]
theorem andW_no {f g : WM} {d d' : Dk} (h : f d = (d', false)) : andW f g d = (d', false) := by unfold andW; rw [h]
theorem Ph.bytes {N : Int} (hN : 42 ≤ N) {P : Int → Sec} : ∀ (ps : List (Int × Sec)) (i : Nat) {V : Int → Sec} {d : Dk}, Ph N P V (fun s => 2 ≤ s ∧ s < 42) d → i + ps.length ≤ 40 → (∀ p ∈ ps, p.2.length = 128) →
    (∃ d', bytesW ps i d = (d', true) ∧ Ph N (bytesF ps i V) (bytesF ps i V) (fun _ => False) d') ∨ (∃ d', bytesW ps i d = (d', false) ∧ Dd N (fun Q => ∀ s, ¬ (2 ≤ s ∧ s < 42) → Q s = P s) d')
  | [], i, V, d, h, _, _ => by
    rcases h.flush with ⟨d', e, h'⟩ | ⟨d', e, h'⟩
    · exact .inl ⟨d', e, h'⟩
    · exact .inr ⟨d', e, h'.mono fun Q hq s => (hq s).1⟩
  | (n, b) :: r, i, V, d, h, hl, hp => by
    have hl' : i + (r.length + 1) ≤ 40 := hl
    rcases h.write (s := 2 + i) (b := b) (by omega) (by omega) (hp (n, b) (by simp)) ⟨by omega, by omega⟩ with ⟨d', e, h'⟩ | ⟨d', e, h'⟩
    · rcases Ph.bytes hN r (i + 1) h' (by omega) (fun p hp' => hp p (by simp [hp'])) with ⟨d2, e2, h2⟩ | ⟨d2, e2, h2⟩
      · exact .inl ⟨d2, (andW_ok e).trans e2, h2⟩
      · exact .inr ⟨d2, (andW_ok e).trans e2, h2⟩
    · exact .inr ⟨d', andW_no e, h'.mono fun Q hq s => (hq s).1⟩
theorem Ph.place {N : Int} {P : Int → Sec} {L : List Int} (hL : GoodL N L) : ∀ (l : List Int) (i : Nat) {V : Int → Sec} {d : Dk}, Ph N P V (fun s => s ∈ L) d → i + l.length ≤ 40 → (∀ x ∈ l, x ∈ L) →
    (∃ d', placeW l i d = (d', true) ∧ Ph N (placeF l i P V) (placeF l i P V) (fun _ => False) d') ∨ (∃ d', placeW l i d = (d', false) ∧ Dd N (fun Q => ∀ s, s ∉ L → Q s = P s) d')
  | [], i, V, d, h, _, _ => by
    rcases h.flush with ⟨d', e, h'⟩ | ⟨d', e, h'⟩
    · exact .inl ⟨d', e, h'⟩
    · exact .inr ⟨d', e, h'.mono fun Q hq s => (hq s).1⟩
  | n :: r, i, V, d, h, hl, hp => by
    have hl' : i + (r.length + 1) ≤ 40 := hl
    have hn := hL.2 n (hp n (by simp))
    have e0 : d.at (2 + i) = P (2 + i) := by
      unfold Dk.at
      rw [h.bu (2 + i) (fun hm => by have := (hL.2 _ hm).1; omega)]
      exact h.on _
    rcases h.write (s := n) (b := d.at (2 + i)) (by omega) hn.2 (h.ok.atLen _) (hp n (by simp)) with ⟨d', e, h'⟩ | ⟨d', e, h'⟩
    · rw [e0] at h'
      rcases Ph.place hL r (i + 1) h' (by omega) (fun p hp' => hp p (by simp [hp'])) with ⟨d2, e2, h2⟩ | ⟨d2, e2, h2⟩
      · exact .inl ⟨d2, (andW_ok e).trans e2, h2⟩
      · exact .inr ⟨d2, (andW_ok e).trans e2, h2⟩
    · exact .inr ⟨d', andW_no e, h'.mono fun Q hq s => (hq s).1⟩
/-- a log at rest -/
structure Lg (N : Int) (q : Nat) (σ : Int → Sec) (d : Dk) : Prop where
  ok : DOk d
  n : d.n = N
  bu : d.bu = []
  alive : d.dead = false
  rest : Rest N q σ d.onp
theorem Lg.ph {N : Int} {q : Nat} {σ : Int → Sec} {d : Dk} (h : Lg N q σ d) : Ph N d.onp d.onp (fun _ => False) d :=
  ⟨h.ok, h.n, fun _ => rfl, fun s => by unfold Dk.at; rw [h.bu]; rfl, fun s _ => by rw [h.bu]; rfl, h.alive⟩
theorem ph_bu {N : Int} {P V : Int → Sec} {d : Dk} (h : Ph N P V (fun _ => False) d) : d.bu = [] := by
  cases hb : d.bu with
  | nil => rfl
  | cons p r =>
    exfalso
    have := h.bu p.1 (fun h => h)
    rw [hb] at this
    simp [getm] at this
theorem ph_lg {N : Int} {q : Nat} {σ P V : Int → Sec} {d : Dk} (h : Ph N P V (fun _ => False) d) (hr : Rest N q σ P) : Lg N q σ d :=
  ⟨h.ok, h.n, ph_bu h, h.alive, by have e : d.onp = P := funext h.on; rw [e]; exact hr⟩
def GoodP (N : Int) (ps : List (Int × Sec)) : Prop := GoodL N (ps.map (·.1)) ∧ ∀ p ∈ ps, p.2.length = 128
theorem putF_out : ∀ (ps : List (Int × Sec)) (P : Int → Sec) (s : Int), s ∉ ps.map (·.1) → putF ps P s = P s
  | [], _, _, _ => rfl
  | (n, b) :: r, P, s, h => by
    show putF r (upd P n b) s = P s
    rw [putF_out r _ _ (fun hm => h (by simp at hm ⊢; exact .inr hm))]
    exact if_neg (fun e => h (by simp [e]))
theorem putF_at : ∀ (ps : List (Int × Sec)) (P P' : Int → Sec) (s : Int), P s = P' s → putF ps P s = putF ps P' s
  | [], _, _, _, h => h
  | (n, b) :: r, P, P', s, h => by
    show putF r (upd P n b) s = putF r (upd P' n b) s
    refine putF_at r _ _ s ?_
    unfold upd
    rw [h]
/-- a commit: done, or cut off, and then it is the one state or the other -/
theorem commit_ok {N : Int} (hN0 : 42 ≤ N) (hN : N ≤ 4096) {q : Nat} {σ : Int → Sec} {d : Dk} (h : Lg N q σ d) {ps : List (Int × Sec)} (hp : GoodP N ps) (hq : q + 1 < 250) :
    (∃ d', commitW q ps d = (d', true) ∧ Lg N (q + 1) (putF ps σ) d') ∨ (∃ d', commitW q ps d = (d', false) ∧ Dd N (fun Q => Safe N q σ Q ∨ Safe N (q + 1) (putF ps σ) Q) d') := by
  have hlen : ps.length ≤ 40 := by have := hp.1.1; simpa using this
  have h0 := h.ph
  have hr := h.rest
  generalize d.onp = P at h0 hr
  unfold commitW
  -- the mark
  rcases (h0.wider (A' := fun s => s = 1) (fun _ x => x.elim)).write (s := 1) (b := headB q []) (by omega) (by omega) (headB_len q [] (by simp)) rfl with ⟨d1, e1, h1⟩ | ⟨d1, e1, h1⟩
  rotate_left
  · refine .inr ⟨d1, andW_no e1, h1.mono fun Q hQ => .inl ?_⟩
    obtain ⟨k, hk, e⟩ := (hQ 1).2
    rw [torn_self] at e
    have : Q = P := funext fun s => by
      by_cases hs : s = 1
      · rw [hs]; exact e
      · exact (hQ s).1 hs
    rw [this]
    exact hr.toSafe
  rw [andW_ok e1]
  rcases h1.flush with ⟨d2, e2, h2⟩ | ⟨d2, e2, h2⟩
  rotate_left
  · refine .inr ⟨d2, andW_no e2, h2.mono fun Q hQ => .inl ?_⟩
    obtain ⟨k, hk, e⟩ := (hQ 1).2
    rw [show upd P 1 (headB q []) 1 = headB q [] from if_pos rfl] at e
    exact (hr.mark (by omega) (by omega) hk (fun s hs => (hQ s).1 hs) e).toSafe
  rw [andW_ok e2]
  have r2 : Rest N q σ (upd P 1 (headB q [])) := hr.mark (k := 128) (by omega) (by omega) (by omega) (fun s hs => if_neg hs) (by rw [torn_all (by rw [headB_len q [] (by simp)]; omega) (by rw [hr.ml.len]; omega)]; exact if_pos rfl)
  have m2 : mq (upd P 1 (headB q []) 1) = q := by
    rw [show upd P 1 (headB q []) 1 = headB q [] from if_pos rfl]
    exact mq_head 0 (GoodL.nil 0) (by omega) (by omega)
  generalize upd P 1 (headB q []) = P2 at h2 r2 m2
  clear h1 h0 hr
  -- the bytes
  rcases Ph.bytes hN0 ps 0 (h2.wider (A' := fun s => 2 ≤ s ∧ s < 42) (fun _ x => x.elim)) (by omega) hp.2 with ⟨d3, e3, h3⟩ | ⟨d3, e3, h3⟩
  rotate_left
  · refine .inr ⟨d3, andW_no e3, h3.mono fun Q hQ => .inl ?_⟩
    exact (r2.bytes (by omega) (by omega) m2 (hQ 0 (by omega)) (hQ 1 (by omega)) (fun s hs => hQ s (by omega))).toSafe
  rw [andW_ok e3]
  have r3 : Rest N q σ (bytesF ps 0 P2) := r2.bytes (by omega) (by omega) m2 (bytesF_out _ _ _ _ (.inl (by omega))) (bytesF_out _ _ _ _ (.inl (by omega))) (fun s hs => bytesF_out _ _ _ _ (.inr (by omega)))
  have m3 : mq (bytesF ps 0 P2 1) = q := by rw [bytesF_out _ _ _ _ (.inl (by omega))]; exact m2
  have b3 : ∀ j p, ps[j]? = some p → bytesF ps 0 P2 (2 + (j : Nat)) = p.2 := fun j p hj => by
    have := bytesF_in ps 0 P2 j p hj
    rw [Nat.zero_add] at this
    exact this
  generalize bytesF ps 0 P2 = P3 at h3 r3 m3 b3
  clear h2 r2 m2
  -- the head
  rcases (h3.wider (A' := fun s => s = 0) (fun _ x => x.elim)).write (s := 0) (b := headB (q + 1) (ps.map (·.1))) (by omega) (by omega) (headB_len _ _ hp.1.1) rfl with ⟨d4, e4, h4⟩ | ⟨d4, e4, h4⟩
  rotate_left
  · refine .inr ⟨d4, andW_no e4, h4.mono fun Q hQ => .inl ?_⟩
    obtain ⟨k, hk, e⟩ := (hQ 0).2
    rw [torn_self] at e
    have : Q = P3 := funext fun s => by
      by_cases hs : s = 0
      · rw [hs]; exact e
      · exact (hQ s).1 hs
    rw [this]
    exact r3.toSafe
  rw [andW_ok e4]
  rcases h4.flush with ⟨d5, e5, h5⟩ | ⟨d5, e5, h5⟩
  rotate_left
  · refine .inr ⟨d5, andW_no e5, h5.mono fun Q hQ => ?_⟩
    obtain ⟨k, hk, e⟩ := (hQ 0).2
    rw [show upd P3 0 (headB (q + 1) (ps.map (·.1))) 0 = headB (q + 1) (ps.map (·.1)) from if_pos rfl] at e
    rcases r3.head (by omega) hq hk hp.1 m3 (fun s hs => (hQ s).1 hs) e b3 with x | x
    · exact .inl x.toSafe
    · exact .inr x
  rw [andW_ok e5]
  have s5 : Safe N (q + 1) (putF ps σ) (upd P3 0 (headB (q + 1) (ps.map (·.1)))) := safe_new r3 (by omega) hq hp.1 m3 (if_neg (by omega)) (if_pos rfl) (fun j p hj => by
    rw [show upd P3 0 (headB (q + 1) (ps.map (·.1))) (2 + (j : Nat)) = P3 (2 + (j : Nat)) from if_neg (by omega)]
    exact b3 j p hj) (fun s hs _ => if_neg (by omega))
  have b5 : ∀ j p, ps[j]? = some p → upd P3 0 (headB (q + 1) (ps.map (·.1))) (2 + (j : Nat)) = p.2 := fun j p hj => by
    rw [show upd P3 0 (headB (q + 1) (ps.map (·.1))) (2 + (j : Nat)) = P3 (2 + (j : Nat)) from if_neg (by omega)]
    exact b3 j p hj
  have u5 : ∀ s, 42 ≤ s → upd P3 0 (headB (q + 1) (ps.map (·.1))) s = σ s := fun s hs => by
    rw [show upd P3 0 (headB (q + 1) (ps.map (·.1))) s = P3 s from if_neg (by omega)]
    exact r3.at_ s hs
  have m5 : mq (upd P3 0 (headB (q + 1) (ps.map (·.1))) 1) = q := by
    rw [show upd P3 0 (headB (q + 1) (ps.map (·.1))) 1 = P3 1 from if_neg (by omega)]
    exact m3
  have z5 : upd P3 0 (headB (q + 1) (ps.map (·.1))) 0 = headB (q + 1) (ps.map (·.1)) := if_pos rfl
  generalize upd P3 0 (headB (q + 1) (ps.map (·.1))) = P5 at h5 s5 b5 u5 m5 z5
  clear h4 h3 r3 m3 b3
  -- the places
  rcases Ph.place hp.1 (ps.map (·.1)) 0 (h5.wider (A' := fun s => s ∈ ps.map (·.1)) (fun _ x => x.elim)) (by have := hp.1.1; omega) (fun _ x => x) with ⟨d6, e6, h6⟩ | ⟨d6, e6, h6⟩
  rotate_left
  · refine .inr ⟨d6, e6, h6.mono fun Q hQ => .inr ?_⟩
    exact s5.users (by omega) (by omega) z5 hp.1 (by omega) (by omega) hQ
  refine .inl ⟨d6, e6, ph_lg h6 ⟨?_, ?_⟩⟩
  · refine s5.users (by omega) (by omega) z5 hp.1 (by omega) (by omega) (fun s hs => placeF_out _ _ _ _ _ hs)
  · intro s hs
    rw [placeF_put ps 0 P5 P5 (fun j p hj => by rw [Nat.zero_add]; exact b5 j p hj)]
    exact putF_at ps P5 σ s (u5 s hs)
/-- opening, plainly: the disk, and how many commits -/
def openW (d : Dk) : Dk × Option Nat :=
  match readHead (d.at 0) with
  | some (h, l) => if mq (d.at 1) < h then (match placeW l 0 d with | (d', true) => (d', some h) | (d', false) => (d', none)) else (d, some (mq (d.at 1)))
  | none => (d, some (mq (d.at 1)))
/-- a disk behind a crash -/
structure Cr (N : Int) (q : Nat) (σ : Int → Sec) (d : Dk) : Prop where
  ok : DOk d
  n : d.n = N
  bu : d.bu = []
  alive : d.dead = false
  safe : Safe N q σ d.onp
theorem open_ok {N : Int} (hN0 : 42 ≤ N) (hN : N ≤ 4096) {q : Nat} {σ : Int → Sec} {d : Dk} (h : Cr N q σ d) (hq : q < 250) :
    (∃ d', openW d = (d', some q) ∧ Lg N q σ d') ∨ (∃ d', openW d = (d', none) ∧ Dd N (Safe N q σ) d') := by
  have hat : d.at = d.onp := funext fun s => by unfold Dk.at; rw [h.bu]; rfl
  have hs := h.safe
  unfold openW
  rw [hat]
  have hph : Ph N d.onp d.onp (fun _ => False) d := ⟨h.ok, h.n, fun _ => rfl, fun s => by rw [hat], fun s _ => by rw [h.bu]; rfl, h.alive⟩
  rcases hs.hl.is with ⟨r, l, hr, hg, he⟩ | ⟨hb, _⟩
  · have h1 := recU_head he hg (by omega) (by omega)
    have hsq := hs.seq
    have hus := hs.usr
    rw [he, read_headB r l N hg (by omega) (by omega)]
    rw [h1] at hsq hus
    by_cases hm : mq (d.onp 1) < r
    · simp only [hm, if_true] at hsq hus ⊢
      subst hsq
      rcases Ph.place hg l 0 (hph.wider (A' := fun s => s ∈ l) (fun _ x => x.elim)) (by have := hg.1; omega) (fun _ x => x) with ⟨d6, e6, h6⟩ | ⟨d6, e6, h6⟩
      · rw [e6]
        exact .inl ⟨d6, rfl, ph_lg h6 ⟨hs.users (by omega) hq he hg hm hq (fun s hs' => placeF_out _ _ _ _ _ hs'), fun s hs' => hus s hs'⟩⟩
      · rw [e6]
        exact .inr ⟨d6, rfl, h6.mono fun Q hQ => hs.users (by omega) hq he hg hm hq hQ⟩
    · simp only [hm, if_false] at hsq hus ⊢
      subst hsq
      exact .inl ⟨d, rfl, ph_lg hph ⟨hs, hus⟩⟩
  · have h1 := recU_bad hb
    have hsq := hs.seq
    have hus := hs.usr
    rw [h1] at hsq hus
    rw [read_bad hb]
    simp only at hsq hus ⊢
    subst hsq
    exact .inl ⟨d, rfl, ph_lg hph ⟨hs, hus⟩⟩
/-- a disk crashes -/
theorem crash_cr {N : Int} {q : Nat} {σ : Int → Sec} {d : Dk} (hok : DOk d) (hn : d.n = N) (ps : List Int) (hi : ∀ Q, Img d.bu d.on Q → Safe N q σ Q) : Cr N q σ (d.crash ps) :=
  ⟨hok.crash ps, hn, rfl, rfl, hi _ (img_crash _ _ _ hok.bu hok.on)⟩
/-- a new disk -/
theorem new_cr {N : Int} (h0 : 1 ≤ N) (h1 : N ≤ 4096) : Cr N 0 (fun _ => zeros) (Dk.new N) := by
  refine ⟨DOk.new h0 h1, rfl, rfl, rfl, ?_⟩
  have e : (Dk.new N).onp = fun _ => zeros := rfl
  rw [e]
  have hr : recU (fun _ => zeros) = ((fun _ => zeros), mq zeros) := recU_bad zeros_bad
  exact ⟨zeros_ML N, zeros_HL N, by rw [hr]; exact mq_bad zeros_bad, fun s _ => by rw [hr]⟩
end Go.Proofs.Ytpdjenkacefpjaa
