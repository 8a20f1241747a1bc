/- A log's disk stops and crashes. -/
import Derived.Test.YtpdjenkacefpjaaWxs
namespace Go.Proofs.Ytpdjenkacefpjaa
open Go.RowKit Go.ChangeShapes
set_option linter.unusedVariables false
set_option maxRecDepth 100000

theorem s_stop {w0 w : World} {F : Nat → Prop} {B : Nat} {d : Dk} (ho : Own w0 w F B d) (n : Int) (hn : I64 n) : Calls Try.prog 19 #[.pointer (some ⟨B, 0, none⟩), .int .i64 n] w fun e w' => ∃ F', e = .returned (.tuple #[]) ∧ Own w0 w' F' B (d.stop n) ∧ Inn F F' w w' := by
  refine (c_Stop w B d n ho.dk hn).mono ?_
  rintro e w' ⟨rfl, ht⟩
  obtain ⟨F', hd, hi⟩ := turn_inn ht
  exact ⟨F', rfl, ho.inn hd hi, hi⟩
theorem s_crash {w0 w : World} {F : Nat → Prop} {B : Nat} {d : Dk} (ho : Own w0 w F B d) (v : Value) (ps : List Int) (hv : ItAt w v ps) (h64 : ∀ y ∈ ps, I64 y) (hF : ∀ a n c, v = .slice (some a) n c → ps ≠ [] → ¬ F a.block) (hl : ps.length < 1000000) : Calls Try.prog 21 #[.pointer (some ⟨B, 0, none⟩), v] w fun e w' => ∃ F' k, e = .returned (.int .i64 k) ∧ Own w0 w' F' B (d.crash ps) ∧ Inn F F' w w' := by
  refine (c_Crash2 w B d v ps ho.dk hv h64 hF hl).mono ?_
  rintro e w' ⟨rfl, ht⟩
  obtain ⟨F', hd, hi⟩ := turn_inn ht
  exact ⟨F', _, rfl, ho.inn hd hi, hi⟩
/-- opening, whatever comes -/
theorem s_open_any {N : Int} {q : Nat} {σ : Int → Sec} {S : Nat → (Int → Sec) → Prop} {w0 w : World} {F : Nat → Prop} {B : Nat} {d : Dk} (ho : Own w0 w F B d) (hc : Cr N q σ d) (hS : S q σ) (h1 : 42 < N) (h2 : N ≤ 4096) (hq : q < 250) : Calls Try.prog 11 #[.pointer (some ⟨B, 0, none⟩)] w fun e w' => ∃ v F' d', e = .returned v ∧ Own w0 w' F' B d' ∧ Any N S d' ∧ Inn F F' w w' := by
  refine (c_Open w B d ho.dk hc.alive (by rw [hc.n]; exact h1) (hc.hd h2 hq)).mono ?_
  have hA := open_any (by omega) h2 hc hq hS
  rintro e w' ⟨d', F', hd, hi, ⟨n, L, h3, rfl, h4, h5, h6⟩ | ⟨h3, rfl⟩⟩
  · rw [h3] at hA
    exact ⟨_, F', d', rfl, ho.inn hd hi, hA, hi⟩
  · rw [h3] at hA
    exact ⟨_, F', d', rfl, ho.inn hd hi, hA, hi⟩
/-- two logs' states -/
def S2 (q : Nat) (σ : Int → Sec) (q' : Nat) (σ' : Int → Sec) (a : Nat) (τ : Int → Sec) : Prop := (a = q ∧ τ = σ) ∨ (a = q' ∧ τ = σ')
/-- a commit, cut off or not -/
theorem s_commit_two {N : Int} {q : Nat} {σ : Int → Sec} {w0 w : World} {F : Nat → Prop} {L B : Nat} {d : Dk} (S : Sys N q σ w0 w F L B d) (h1 : 42 < N) (h2 : N ≤ 4096) (hq : q + 1 < 250) {v : Value} {ps : List (Int × Sec)} (hv : PutAt w F v ps) (hg : GoodC d ps) : Calls Try.prog 13 #[.pointer (some ⟨L, 0, none⟩), v] w fun e w' => ∃ F' d', InL L F F' w w' ∧ ((e = .returned (.int .i64 0) ∧ Sys N (if ps = [] then q else q + 1) (putF ps σ) w0 w' F' L B d' ∧ (d.left = 0 → d'.left = 0)) ∨ (e = .returned (.int .i64 12) ∧ Own w0 w' F' B d' ∧ d'.dead = true ∧ Any N (S2 q σ (q + 1) (putF ps σ)) d')) := by
  by_cases he : ps = []
  · subst he
    rw [if_pos rfl]
    refine (c_Commit_none w L B q d v S.at_ S.own.dk S.lg.alive hv).mono ?_
    rintro e w' ⟨rfl, hb⟩
    exact ⟨F, d, (Inn.refl F hb).log, .inl ⟨rfl, S.below hb, fun h => h⟩⟩
  · rw [if_neg he]
    refine (c_Commit w L B q d v ps S.at_ S.nL S.own.dk S.lg.alive (by rw [S.lg.n]; omega) hq hv hg he).mono ?_
    have hp : GoodP N ps := by have := hg.p S.lg.alive; rwa [S.lg.n] at this
    rintro e w' ⟨d', F', hd, hi, ⟨h3, rfl, h4⟩ | ⟨h3, rfl⟩⟩
    · refine ⟨F', d', hi, .inl ⟨rfl, ?_, fun h0 => ?_⟩⟩
      · rcases commit_ok (by omega) h2 S.lg hp hq with ⟨d1, e1, hL⟩ | ⟨d1, e1, hD⟩
        · rw [e1] at h3
          cases h3
          refine ⟨hL, S.own.inl S.loL hd hi, h4, fun hx => ?_, S.loL⟩
          rcases hi.out L hx with h | h
          · exact S.nL h
          · have := S.at_.lt; omega
        · rw [e1] at h3
          cases h3
      · obtain ⟨d1, e1, _, h5⟩ := commit_live (by omega) h2 S.lg h0 hp hq
        rw [e1] at h3
        cases h3
        exact h5
    · refine ⟨F', d', hi, .inr ⟨rfl, S.own.inl S.loL hd hi, ?_⟩⟩
      rcases commit_ok (by omega) h2 S.lg hp hq with ⟨d1, e1, hL⟩ | ⟨d1, e1, hD⟩
      · rw [e1] at h3
        cases h3
      · rw [e1] at h3
        cases h3
        exact ⟨hD.dead, hD.any (fun Q hQ => hQ.elim (fun h => ⟨q, σ, .inl ⟨rfl, rfl⟩, h⟩) (fun h => ⟨q + 1, _, .inr ⟨rfl, rfl⟩, h⟩))⟩
/-- a disk of which two states are told: what was, what was to be -/
structure Gn (w wr : World) (B N1 N2 q q' : Nat) (σ σ' : Int → Sec) (ss nx : List Sec) (F : Nat → Prop) (d : Dk) : Prop where
  own : Own w wr F B d
  any : Any 60 (S2 q σ q' σ') d
  q1 : q < 250
  q2 : q' < 250
  s1 : StAt wr N1 ss
  s2 : StAt wr N2 nx
  l1 : ss.length = 18
  l2 : nx.length = 18
  o1 : StOf ss σ
  o2 : StOf nx σ'
  n1 : ¬ F N1
  n2 : ¬ F N2
theorem Gn.inn {w wr w' : World} {B N1 N2 q q' : Nat} {σ σ' : Int → Sec} {ss nx : List Sec} {F F' : Nat → Prop} {d d' : Dk} (h : Gn w wr B N1 N2 q q' σ σ' ss nx F d) (hi : Inn F F' wr w') (ho : Own w w' F' B d') (ha : Any 60 (S2 q σ q' σ') d') : Gn w w' B N1 N2 q q' σ σ' ss nx F' d' :=
  ⟨ho, ha, h.q1, h.q2, hi.off.keeps h.s1 h.n1, hi.off.keeps h.s2 h.n2, h.l1, h.l2, h.o1, h.o2, fun hx => (hi.out _ hx).elim h.n1 (fun h2 => by have := h.s1.lt; omega), fun hx => (hi.out _ hx).elim h.n2 (fun h2 => by have := h.s2.lt; omega)⟩
theorem Cr.any {N : Int} {S : Nat → (Int → Sec) → Prop} {q : Nat} {σ : Int → Sec} {d : Dk} (h : Cr N q σ d) (hS : S q σ) : Any N S d :=
  ⟨h.ok, h.n, fun Q hQ => ⟨q, σ, hS, by
    have e : Q = d.onp := funext fun s => by
      have := hQ s
      rw [h.bu] at this
      exact this
    rw [e]
    exact h.safe⟩⟩
theorem yields_ss {ops : Array Oper} {S : World → Prop} {op : Oper} {a : Act} (hw : Region.wanted op (yielded ops a.tmps) = true) (x : Operand) (ho : op.op = .load 34 x) {N : Nat} {ss : List Sec} (hx : a.eval x = .pointer (some ⟨N, 0, none⟩)) (hS : ∀ w, S w → StAt w N ss) (hl : ss.length = 18) : YieldsIf Try.prog ops S op (.agg (stC ss)) a := by
  have h := yieldsIf_load_mid (P := Try.prog) (ops := ops) (S := S) hw 34 x ho N 0 hx (stC ss).toList _ (fun w h => (hS w h).range) A.stU A.stR (by rw [A.stI, Array.length_toList, stC_size, hl])
  simpa using h
/-- picks, as handed in, at a later world -/
theorem it_later {w wr : World} {F : Nat → Prop} {v : Value} {ps : List Int} (h : ItAt w v ps) (hb : Below w.heap.size w wr) (hF : ∀ g, F g → w.heap.size ≤ g) : ItAt wr v ps ∧ ∀ a n c, v = .slice (some a) n c → ps ≠ [] → ¬ F a.block := by
  refine ⟨h.off (.of_below (ex := fun _ => False) hb) (fun _ _ _ _ h => h), fun a n c e hne hx => ?_⟩
  obtain ⟨hl, hc⟩ := it_cell h e
  cases ps with
  | nil => exact hne rfl
  | cons y r =>
    obtain ⟨g, o, e2, hg, _⟩ := hc 0 y rfl
    cases e2
    have h3 : w.heap.size ≤ g := hF _ hx
    omega
/-- the log is alive: the state that it has is next's, too -/
structure Lv (w wr : World) (B N1 N2 L q : Nat) (σ : Int → Sec) (ss : List Sec) (F : Nat → Prop) (d : Dk) : Prop where
  sys : Sys 60 q σ w wr F L B d
  s1 : StAt wr N1 ss
  s2 : StAt wr N2 ss
  l1 : ss.length = 18
  o1 : StOf ss σ
  n1 : ¬ F N1
  n2 : ¬ F N2
  e1 : N1 ≠ L
  e2 : N2 ≠ L
theorem Lv.gn {w wr : World} {B N1 N2 L q : Nat} {σ : Int → Sec} {ss : List Sec} {F : Nat → Prop} {d : Dk} (h : Lv w wr B N1 N2 L q σ ss F d) (hq : q < 250) : Gn w wr B N1 N2 q q σ σ ss ss F d :=
  ⟨h.sys.own, h.sys.lg.any (.inl ⟨rfl, rfl⟩), hq, hq, h.s1, h.s2, h.l1, h.l1, h.o1, h.o1, h.n1, h.n2⟩
end Go.Proofs.Ytpdjenkacefpjaa
