/- What the laws with groups share. -/
import Derived.Test.YtpdjenkacefpjaaWz
import Derived.Test.YtpdjenkacefpjaaWx
namespace Go.Proofs.Ytpdjenkacefpjaa
open Go.RowKit Go.ChangeShapes
set_option linter.unusedVariables false
set_option maxRecDepth 100000

/-- a state is what the user's sectors hold -/
def StOf (ss : List Sec) (σ : Int → Sec) : Prop := ∀ (k : Nat) (s : Sec), ss[k]? = some s → want s = σ (42 + (k : Int))
theorem StOf.start : StOf (List.replicate 18 []) (fun _ => zeros) := fun k s h => by
  rw [List.getElem?_replicate] at h
  split at h
  · cases h; rfl
  · cases h
theorem StOf.done : ∀ (ps : List (Int × Sec)) {ss : List Sec} {σ : Int → Sec}, StOf ss σ → (∀ p ∈ ps, 42 ≤ p.1 ∧ p.1 < 60 ∧ p.2.length = 128) → StOf (doneL ss ps) (putF ps σ)
  | [], ss, σ, h, _ => h
  | p :: r, ss, σ, h, hok => by
    have hp := hok p (by simp)
    refine StOf.done r (ss := ss.set (p.1 - 42).toNat p.2) (σ := upd σ p.1 p.2) (fun k s hk => ?_) (fun x hx => hok x (by simp [hx]))
    rw [List.getElem?_set] at hk
    unfold upd
    by_cases e : (p.1 - 42).toNat = k
    · rw [if_pos e] at hk
      rw [if_pos (by omega)]
      split at hk
      · cases hk
        unfold want
        rw [if_neg (fun h => by rw [h] at hp; simp at hp)]
      · cases hk
    · rw [if_neg e] at hk
      rw [if_neg (by omega)]
      exact h k s hk
theorem POk.good {A : Nat} {es : List PE} (h : POk A es) {d : Dk} (ha : d.dead = false) (hn : 60 ≤ d.n) (hl : es.length ≤ 40) : GoodC d (es.map (·.1)) := by
  refine ⟨by rw [List.length_map]; exact hl, fun j x hj => ?_⟩
  have hx : x ∈ es.map (·.1) := List.mem_of_getElem? hj
  obtain ⟨e, he, rfl⟩ := List.mem_map.1 hx
  obtain ⟨h1, h2, h3, _⟩ := h.ok e he
  rintro (h9 | h9 | h9 | ⟨p, hp, h9⟩)
  · omega
  · unfold readE at h9
    rw [if_neg (by rw [ha]; exact Bool.false_ne_true), if_pos (by unfold Dk.there; simp; omega)] at h9
    cases h9
  · exact h9 h3
  · have hnd := List.pairwise_iff_getElem.1 h.nd
    obtain ⟨i, hi, e9⟩ := List.getElem_of_mem hp
    rw [List.length_take, List.length_map] at hi
    have hjl : j < es.length := by have := (List.getElem?_eq_some_iff.1 hj).1; rwa [List.length_map] at this
    refine hnd i j (by rw [List.length_map]; omega) (by rw [List.length_map]; exact hjl) (by omega) ?_
    rw [List.getElem?_map, List.getElem?_eq_getElem hjl] at hj
    rw [List.getElem_take, List.getElem_map] at e9
    simp only [Option.map_some, Option.some.injEq] at hj
    rw [List.getElem_map, List.getElem_map, e9, h9, ← hj]
theorem POk.all {A : Nat} {es : List PE} (h : POk A es) : ∀ p ∈ es.map (·.1), 42 ≤ p.1 ∧ p.1 < 60 ∧ p.2.length = 128 := fun p hp => by
  obtain ⟨e, he, rfl⟩ := List.mem_map.1 hp
  obtain ⟨h1, h2, h3, _⟩ := h.ok e he
  exact ⟨h1, h2, h3⟩
theorem PutAt.less {F F' : Nat → Prop} {w : World} {v : Value} {ps : List (Int × Sec)} (h : PutAt w F v ps) (hn : ∀ g, F' g → F g) : PutAt w F' v ps := h.more (fun g hg => .inl (hn g hg))
/-- a commit, of nothing too -/
theorem s_commit_any {N : Int} {q : Nat} {σ : Int → Sec} {w0 w : World} {F : Nat → Prop} {L B : Nat} {d : Dk} (S : Sys N q σ w0 w F L B d) (hl : d.left = 0) (h1 : 42 < N) (h2 : N ≤ 4096) (hq : q + 1 < 250) {v : Value} {ps : List (Int × Sec)} (hv : PutAt w F v ps) (hg : GoodC d ps) : Calls Try.prog 13 #[.pointer (some ⟨L, 0, none⟩), v] w fun e w' => ∃ F' d', e = .returned (.int .i64 0) ∧ Sys N (if ps = [] then q else q + 1) (putF ps σ) w0 w' F' L B d' ∧ d'.left = 0 ∧ InL L F F' w w' := by
  by_cases he : ps = []
  · subst he
    rw [if_pos rfl]
    refine (c_Commit_none w L B q d v S.at_ S.own.dk S.lg.alive hv).mono ?_
    rintro e w' ⟨rfl, hb⟩
    exact ⟨F, d, rfl, S.below hb, hl, (Inn.refl F hb).log⟩
  · rw [if_neg he]
    exact s_commit S hl h1 h2 hq hv hg he
/-- a law's state in memory -/
structure Env (w wr : World) (B NS : Nat) (q L : Nat) (σ : Int → Sec) (ss : List Sec) (F : Nat → Prop) (d : Dk) : Prop where
  sys : Sys 60 q σ w wr F L B d
  left : d.left = 0
  st : StAt wr NS ss
  len : ss.length = 18
  of_ : StOf ss σ
  nF : ¬ F NS
  nL : NS ≠ L
theorem Env.below {w wr w' : World} {B NS q L : Nat} {σ : Int → Sec} {ss : List Sec} {F : Nat → Prop} {d : Dk} (h : Env w wr B NS q L σ ss F d) (hb : Below wr.heap.size wr w') : Env w w' B NS q L σ ss F d :=
  ⟨h.sys.below hb, h.left, (Off.of_below (ex := fun _ => False) hb).keeps h.st (fun h => h), h.len, h.of_, h.nF, h.nL⟩
theorem StAt.lt {w : World} {N : Nat} {ss : List Sec} (h : StAt w N ss) : N < w.heap.size := (Array.getElem?_eq_some_iff.1 h).1
theorem Env.inl {w wr w' : World} {B NS q q' L : Nat} {σ σ' : Int → Sec} {ss : List Sec} {F F' : Nat → Prop} {d d' : Dk} (h : Env w wr B NS q L σ ss F d) (hi : InL L F F' wr w') (hs : Sys 60 q' σ' w w' F' L B d') (hl : d'.left = 0) : StAt w' NS ss ∧ ¬ F' NS :=
  ⟨hi.off.keeps h.st (fun hx => hx.elim h.nF h.nL), fun hx => (hi.out _ hx).elim h.nF (fun h2 => by have := h.st.lt; omega)⟩
/-- one group, as it lies -/
theorem GrAt.one {w wr : World} {v : Value} (h : GrAt w v) (hb : Below w.heap.size w wr) {ad : Option Addr} {n c : Nat} (hv : v = .slice ad n c) {k : Nat} (hk : k < n) : ∃ g o, ∃ (vn vf vr : Value) (ns : List Int) (fb rb : Sec), ad = some ⟨g, o, none⟩ ∧ ItAt wr vn ns ∧ (∀ y ∈ ns, I64 y) ∧ BtAt wr vf fb ∧ BtAt wr vr rb ∧ wr.cell? ⟨g, o + k * 3, none⟩ = some vn ∧ wr.cell? ⟨g, o + k * 3 + 1, none⟩ = some vf ∧ wr.cell? ⟨g, o + k * 3 + 2, none⟩ = some vr := by
  obtain ⟨ad', n', c', e, _, _, hg⟩ := h
  rw [hv] at e
  cases e
  obtain ⟨g, o, vn, vf, vr, ns, fb, rb, e, hlt, h1, h2, h3, _, h4, _, c0, c1, c2⟩ := hg k hk
  have ho : Off (fun _ => False) w wr := .of_below hb
  exact ⟨g, o, vn, vf, vr, ns, fb, rb, e, h1.off ho (fun _ _ _ _ h => h), h2, h3.off ho (fun _ _ _ _ h => h), h4.off ho (fun _ _ _ _ h => h), off_cell ho c0 (fun h => h), off_cell ho c1 (fun h => h), off_cell ho c2 (fun h => h)⟩
end Go.Proofs.Ytpdjenkacefpjaa
