/- Logs, plainly: where no disk is to stop nothing is cut off; disks that crash over and over. -/
import Derived.Test.YtpdjenkacefpjaaWq
namespace Go.Proofs.Ytpdjenkacefpjaa
set_option linter.unusedVariables false

/-- a disk that is not to stop -/
def Live (d : Dk) : Prop := d.left = 0 ∧ d.dead = false
def Kp (f : WM) : Prop := ∀ d, Live d → Live (f d).1
theorem spend_live {d : Dk} (h : Live d) : Live d.spend.1 ∧ d.spend.2 = true := by
  unfold Dk.spend
  rw [if_neg (by rw [h.1]; decide)]
  refine ⟨⟨?_, h.2⟩, rfl⟩
  show (if 0 < d.left then d.left - 1 else d.left) = 0
  rw [if_neg (by rw [h.1]; decide)]
  exact h.1
theorem kp_wr (s : Int) (b : Sec) : Kp (wrW s b) := by
  intro d h
  have hs := spend_live h
  unfold wrW writeR
  rw [if_neg (by rw [h.2]; exact Bool.false_ne_true)]
  split
  · cases e : d.spend with
    | mk d' b' =>
      rw [e] at hs
      obtain ⟨h1, h2⟩ := hs
      simp only at h2
      subst h2
      exact h1
  · exact h
theorem kp_fl : Kp flW := by
  intro d h
  have hs := spend_live h
  unfold flW flushR
  rw [if_neg (by rw [h.2]; exact Bool.false_ne_true)]
  cases e : d.spend with
  | mk d' b' =>
    rw [e] at hs
    obtain ⟨h1, h2⟩ := hs
    simp only at h2
    subst h2
    exact h1
theorem kp_and {f g : WM} (hf : Kp f) (hg : Kp g) : Kp (andW f g) := by
  intro d h
  have h1 := hf d h
  unfold andW
  cases e : f d with
  | mk d' b =>
    rw [e] at h1
    cases b with
    | true => exact hg d' h1
    | false => exact h1
theorem kp_bytes : ∀ (ps : List (Int × Sec)) (i : Nat), Kp (bytesW ps i)
  | [], _ => kp_fl
  | (_, b) :: r, i => kp_and (kp_wr _ _) (kp_bytes r (i + 1))
theorem kp_place : ∀ (l : List Int) (i : Nat), Kp (placeW l i)
  | [], _ => kp_fl
  | n :: r, i => fun d h => kp_and (kp_wr n (d.at (2 + i))) (kp_place r (i + 1)) d h
theorem kp_commit (q : Nat) (ps : List (Int × Sec)) : Kp (commitW q ps) :=
  kp_and (kp_wr _ _) (kp_and kp_fl (kp_and (kp_bytes _ _) (kp_and (kp_wr _ _) (kp_and kp_fl (kp_place _ _)))))
theorem live_open {d : Dk} (h : Live d) : Live (openW d).1 := by
  unfold openW
  split
  · split
    · rename_i q l _ _
      have := kp_place l 0 d h
      cases e : placeW l 0 d with
      | mk d' b =>
        rw [e] at this
        cases b <;> exact this
    · exact h
  · exact h
theorem commit_live {N : Int} (hN0 : 42 ≤ N) (hN : N ≤ 4096) {q : Nat} {σ : Int → Sec} {d : Dk} (h : Lg N q σ d) (hl : d.left = 0) {ps : List (Int × Sec)} (hp : GoodP N ps) (hq : q + 1 < 250) : ∃ d', commitW q ps d = (d', true) ∧ Lg N (q + 1) (putF ps σ) d' ∧ d'.left = 0 := by
  have hk := kp_commit q ps d ⟨hl, h.alive⟩
  rcases commit_ok hN0 hN h hp hq with ⟨d', e, h'⟩ | ⟨d', e, h'⟩
  · rw [e] at hk
    exact ⟨d', e, h', hk.1⟩
  · rw [e] at hk
    have h1 := h'.dead
    rw [hk.2] at h1
    cases h1
theorem open_live {N : Int} (hN0 : 42 ≤ N) (hN : N ≤ 4096) {q : Nat} {σ : Int → Sec} {d : Dk} (h : Cr N q σ d) (hl : d.left = 0) (hq : q < 250) : ∃ d', openW d = (d', some q) ∧ Lg N q σ d' ∧ d'.left = 0 := by
  have hk := live_open (d := d) ⟨hl, h.alive⟩
  rcases open_ok hN0 hN h hq with ⟨d', e, h'⟩ | ⟨d', e, h'⟩
  · rw [e] at hk
    exact ⟨d', e, h', hk.1⟩
  · rw [e] at hk
    have h1 := h'.dead
    rw [hk.2] at h1
    cases h1
/-- whatever a crash keeps is one of the logs of which S speaks -/
structure Any (N : Int) (S : Nat → (Int → Sec) → Prop) (d : Dk) : Prop where
  ok : DOk d
  n : d.n = N
  img : ∀ Q, Img d.bu d.on Q → ∃ q σ, S q σ ∧ Safe N q σ Q
theorem Any.crash {N : Int} {S : Nat → (Int → Sec) → Prop} {d : Dk} (h : Any N S d) (ps : List Int) : ∃ q σ, S q σ ∧ Cr N q σ (d.crash ps) := by
  obtain ⟨q, σ, hS, hs⟩ := h.img _ (img_crash _ _ _ h.ok.bu h.ok.on)
  exact ⟨q, σ, hS, h.ok.crash ps, h.n, rfl, rfl, hs⟩
theorem Lg.any {N : Int} {S : Nat → (Int → Sec) → Prop} {q : Nat} {σ : Int → Sec} {d : Dk} (h : Lg N q σ d) (hS : S q σ) : Any N S d :=
  ⟨h.ok, h.n, fun Q hQ => ⟨q, σ, hS, by
    have e : Q = d.onp := funext fun s => by
      have := hQ s
      rw [h.bu] at this
      exact this
    rw [e]
    exact h.rest.toSafe⟩⟩
theorem Dd.any {N : Int} {S : Nat → (Int → Sec) → Prop} {I : (Int → Sec) → Prop} {d : Dk} (h : Dd N I d) (hI : ∀ Q, I Q → ∃ q σ, S q σ ∧ Safe N q σ Q) : Any N S d := ⟨h.ok, h.n, fun Q hQ => hI Q (h.img Q hQ)⟩
theorem Cr.stop {N : Int} {q : Nat} {σ : Int → Sec} {d : Dk} (h : Cr N q σ d) (n : Int) : Cr N q σ (d.stop n) := ⟨h.ok.stop n, h.n, h.bu, h.alive, h.safe⟩
theorem Lg.stop {N : Int} {q : Nat} {σ : Int → Sec} {d : Dk} (h : Lg N q σ d) (n : Int) : Lg N q σ (d.stop n) := ⟨h.ok.stop n, h.n, h.bu, h.alive, h.rest⟩
theorem Lg.cr {N : Int} {q : Nat} {σ : Int → Sec} {d : Dk} (h : Lg N q σ d) : Cr N q σ d := ⟨h.ok, h.n, h.bu, h.alive, h.rest.toSafe⟩
theorem open_any {N : Int} (hN0 : 42 ≤ N) (hN : N ≤ 4096) {S : Nat → (Int → Sec) → Prop} {q : Nat} {σ : Int → Sec} {d : Dk} (h : Cr N q σ d) (hq : q < 250) (hS : S q σ) : Any N S (openW d).1 := by
  rcases open_ok hN0 hN h hq with ⟨d', e, h'⟩ | ⟨d', e, h'⟩
  · rw [e]; exact h'.any hS
  · rw [e]; exact h'.any fun Q hQ => ⟨q, σ, hS, hQ⟩
theorem Lg.at_ {N : Int} {q : Nat} {σ : Int → Sec} {d : Dk} (h : Lg N q σ d) {s : Int} (hs : 42 ≤ s) : d.at s = σ s := by
  unfold Dk.at
  rw [h.bu]
  exact h.rest.at_ s hs
end Go.Proofs.Ytpdjenkacefpjaa
