/- Contracts of package wal: Open. -/
import Derived.Test.YtpdjenkacefpjaaWj
namespace Go.Proofs.Ytpdjenkacefpjaa
open Go.RowKit Go.ChangeShapes
set_option linter.unusedVariables false
set_option maxRecDepth 100000

/-- what a closure of the log's leaves: P tells of the disk and of the log's number -/
def ClR (P : Dk → Option Int → Prop) (F : Nat → Prop) (L B : Nat) (dd : Bool) (w : World) (e : Ending) (w' : World) : Prop := ∃ d' r F' q', P d' r ∧ DiskAt F' w' B d' ∧ InL L F F' w w' ∧ LgAt w' L B q' dd ∧ (∀ n : Int, r = some n → e = .returned (.tuple #[]) ∧ q' = n) ∧ (r = none → e = .panicked died)
/-- what guard leaves then -/
def ClG (P : Dk → Option Int → Prop) (F : Nat → Prop) (L B : Nat) (w : World) (e : Ending) (w' : World) : Prop := ∃ d' F', DiskAt F' w' B d' ∧ InL L F F' w w' ∧ ((∃ n : Int, P d' (some n) ∧ e = .returned (.int .i64 0) ∧ LgAt w' L B n false) ∨ (P d' none ∧ e = .returned (.int .i64 12)))
theorem gw_at (w : World) (L : Nat) : ((w.alloc (.cells #[.pointer (some ⟨L, 0, none⟩)] 29)).alloc (.cells #[.int .i64 0] 26)).heap[w.heap.size]? = some (.cells #[.pointer (some ⟨L, 0, none⟩)] 29 (0, 0)) ∧ ((w.alloc (.cells #[.pointer (some ⟨L, 0, none⟩)] 29)).alloc (.cells #[.int .i64 0] 26)).heap[w.heap.size + 1]? = some (.cells #[.int .i64 0] 26 (0, 0)) ∧ Below w.heap.size w ((w.alloc (.cells #[.pointer (some ⟨L, 0, none⟩)] 29)).alloc (.cells #[.int .i64 0] 26)) ∧ ((w.alloc (.cells #[.pointer (some ⟨L, 0, none⟩)] 29)).alloc (.cells #[.int .i64 0] 26)).heap.size = w.heap.size + 2 := by
  refine ⟨?_, ?_, below2 (below_al0 _ _) (below_al0 _ _), ?_⟩
  · unfold World.alloc
    simp [Array.getElem?_push]
  · unfold World.alloc
    simp only [Array.getElem?_push, Array.size_push]
    simp
  · unfold World.alloc
    simp
theorem clr_gd {F : Nat → Prop} {w : World} {L B : Nat} {P : Dk → Option Int → Prop} (hL : L < w.heap.size) (hF : ∀ g, F g → g < w.heap.size) : ∀ e w1, ClR P F L B false ((w.alloc (.cells #[.pointer (some ⟨L, 0, none⟩)] 29)).alloc (.cells #[.int .i64 0] 26)) e w1 → (e = .returned (.tuple #[]) ∨ e = .panicked died) ∧ Gd w L B w1 := by
  rintro e w1 ⟨d', r, F', q', hP, hd, hi, hl, h1, h2⟩
  obtain ⟨a1, a2, _, _⟩ := gw_at w L
  refine ⟨?_, q', false, hl, hi.off.keeps a1 (fun h => ?_), hi.off.keeps a2 (fun h => ?_)⟩
  · cases r with
    | none => exact .inr (h2 rfl)
    | some n => exact .inl (h1 n rfl).1
  · rcases h with h | h
    · have := hF _ h; omega
    · omega
  · rcases h with h | h
    · have := hF _ h; omega
    · omega
theorem InL.from {L : Nat} {F F' : Nat → Prop} {w W w' : World} (h : InL L F F' W w') (hb : Below w.heap.size w W) : InL L F F' w w' := (Inn.refl F hb).log.trans h
theorem InL.over {L : Nat} {F F' : Nat → Prop} {w w' : World} (h : InL L F F' w w') {g j : Nat} {v : Value} (hg : w.heap.size ≤ g) : InL L F F' w (w'.setCell ⟨g, j, none⟩ v) := ⟨h.out, h.up, h.off.setCell (.inr hg) v⟩
theorem clr_ok {F : Nat → Prop} {w w1 : World} {L B : Nat} {P : Dk → Option Int → Prop} (hL : L < w.heap.size) (hF : ∀ g, F g → g < w.heap.size) (h : ClR P F L B false ((w.alloc (.cells #[.pointer (some ⟨L, 0, none⟩)] 29)).alloc (.cells #[.int .i64 0] 26)) (.returned (.tuple #[])) w1) : ClG P F L B w (.returned (.int .i64 0)) (w1.setCell ⟨w.heap.size + 1, 0, none⟩ (.int .i64 0)) := by
  obtain ⟨d', r, F', q', hP, hd, hi, hl, h1, h2⟩ := h
  obtain ⟨a1, a2, a3, a4⟩ := gw_at w L
  have ho := off1 w1 (w.heap.size + 1) 0 (.int .i64 0)
  refine ⟨d', F', hd.off ho (fun g hg e => ?_), (hi.from a3).over (by omega), ?_⟩
  · rcases hi.out g hg with h | h
    · have := hF _ h; omega
    · omega
  · cases r with
    | none => have := h2 rfl; cases this
    | some n =>
      obtain ⟨_, rfl⟩ := h1 n rfl
      exact .inl ⟨_, hP, rfl, hl.off ho (by show ¬ L = _; omega)⟩
theorem clr_no {F : Nat → Prop} {w w1 : World} {L B : Nat} {P : Dk → Option Int → Prop} (hL : L < w.heap.size) (hF : ∀ g, F g → g < w.heap.size) (h : ClR P F L B false ((w.alloc (.cells #[.pointer (some ⟨L, 0, none⟩)] 29)).alloc (.cells #[.int .i64 0] 26)) (.panicked died) w1) (hLF : ¬ F L) : ClG P F L B w (.returned (.int .i64 12)) ((w1.setCell ⟨L, 2, none⟩ (.bool true)).setCell ⟨w.heap.size + 1, 0, none⟩ (.int .i64 12)) := by
  obtain ⟨d', r, F', q', hP, hd, hi, hl, h1, h2⟩ := h
  obtain ⟨a1, a2, a3, a4⟩ := gw_at w L
  have ho0 := off1 w1 L 2 (.bool true)
  have ho := off1 (w1.setCell ⟨L, 2, none⟩ (.bool true)) (w.heap.size + 1) 0 (.int .i64 12)
  refine ⟨d', F', (hd.off ho0 (fun g hg e => ?_)).off ho (fun g hg e => ?_), ((hi.from a3).set _ _).over (by omega), ?_⟩
  · subst e
    rcases hi.out _ hg with h | h
    · exact hLF h
    · omega
  · rcases hi.out g hg with h | h
    · have := hF _ h; omega
    · omega
  · cases r with
    | none => exact .inr ⟨hP, rfl⟩
    | some n => have := (h1 n rfl).1; cases this
theorem c_guardO {F : Nat → Prop} (w : World) (L B : Nat) (P : Dk → Option Int → Prop) (hL : L < w.heap.size) (hF : ∀ g, F g → g < w.heap.size) (hLF : ¬ F L) (ca : Array Value) (hdo : Calls Try.prog 26 ca ((w.alloc (.cells #[.pointer (some ⟨L, 0, none⟩)] 29)).alloc (.cells #[.int .i64 0] 26)) (ClR P F L B false ((w.alloc (.cells #[.pointer (some ⟨L, 0, none⟩)] 29)).alloc (.cells #[.int .i64 0] 26)))) : Calls Try.prog 25 #[.pointer (some ⟨L, 0, none⟩), .func (.func 26) #[] ca] w (ClG P F L B w) := by
  refine (c_guard w L B hL ca _ hdo (clr_gd hL hF)).mono ?_
  rintro e w' ⟨w1, ⟨hr, rfl, rfl⟩ | ⟨hr, rfl, rfl⟩⟩
  · exact clr_ok hL hF hr
  · exact clr_no hL hF hr hLF
theorem c_guardC {F : Nat → Prop} (w : World) (L B : Nat) (P : Dk → Option Int → Prop) (hL : L < w.heap.size) (hF : ∀ g, F g → g < w.heap.size) (hLF : ¬ F L) (ca : Array Value) (hdo : Calls Try.prog 31 ca ((w.alloc (.cells #[.pointer (some ⟨L, 0, none⟩)] 29)).alloc (.cells #[.int .i64 0] 26)) (ClR P F L B false ((w.alloc (.cells #[.pointer (some ⟨L, 0, none⟩)] 29)).alloc (.cells #[.int .i64 0] 26)))) : Calls Try.prog 25 #[.pointer (some ⟨L, 0, none⟩), .func (.func 31) #[] ca] w (ClG P F L B w) := by
  refine (c_guard2 w L B hL ca _ hdo (clr_gd hL hF)).mono ?_
  rintro e w' ⟨w1, ⟨hr, rfl, rfl⟩ | ⟨hr, rfl, rfl⟩⟩
  · exact clr_ok hL hF hr
  · exact clr_no hL hF hr hLF
/-- of a disk's first two sectors: what reading them asks -/
structure HdOk (d : Dk) : Prop where
  b0 : bt (d.at 0) 1 = 0
  b1 : bt (d.at 1) 1 = 0
  n0 : isHead (d.at 0) = true → (bt (d.at 0) 9).toNat ≤ 40
  n1 : isHead (d.at 1) = true → (bt (d.at 1) 9).toNat ≤ 40
  gl : (hdl (d.at 0)).length ≤ 40 ∧ ∀ x ∈ hdl (d.at 0), 0 ≤ x ∧ x < d.n
/-- what opening leaves -/
def OpenP (F : Nat → Prop) (B : Nat) (d : Dk) (w : World) (e : Ending) (w' : World) : Prop := ∃ d' F', DiskAt F' w' B d' ∧ Inn F F' w w' ∧ ((∃ (n : Nat) (L : Nat), openW d = (d', some n) ∧ e = .returned (.tuple #[.pointer (some ⟨L, 0, none⟩), .int .i64 0]) ∧ LgAt w' L B n false ∧ ¬ F' L ∧ w.heap.size ≤ L) ∨ (openW d = (d', none) ∧ e = .returned (.tuple #[.pointer none, .int .i64 12])))
def OpP (d : Dk) (d' : Dk) (r : Option Int) : Prop := ∃ r' : Option Nat, openW d = (d', r') ∧ r = r'.map Nat.cast
theorem OpR.cl {F : Nat → Prop} {L B : Nat} {dd : Bool} {d : Dk} {w w' : World} {e : Ending} (h : OpR F L B dd d w e w') : ClR (OpP d) F L B dd w e w' := by
  obtain ⟨d', r, F', q', h0, hd, hi, hl, h1, h2⟩ := h
  refine ⟨d', r.map Nat.cast, F', q', ⟨r, h0, rfl⟩, hd, hi, hl, fun n e => ?_, fun e => ?_⟩
  · cases r with
    | none => cases e
    | some m => cases e; exact h1 m rfl
  · cases r with
    | none => exact h2 rfl
    | some m => cases e
set_option maxHeartbeats 2000000 in
theorem c_Open {F : Nat → Prop} (w : World) (B : Nat) (d : Dk) (h : DiskAt F w B d) (ha : d.dead = false) (hn : 42 < d.n) (ho : HdOk d) : Calls Try.prog 11 #[.pointer (some ⟨B, 0, none⟩)] w (OpenP F B d w) := by
  have hmf : ∀ (fn : Fn) (first cap : Array Value) (w : World), (Instr.makeFunc fn first cap).run Try.prog w = .ok (.func fn first cap) w := fun _ _ _ _ => rfl
  have D0 := Lib.hid h
  have HO := Lib.hid ho
  have HA := Lib.hid (And.intro ha hn)
  have HF := Lib.hid h.lt
  have h12 : Hid (readE d 42 = 0) := Lib.hid (by
    unfold readE
    rw [if_neg (by rw [ha]; exact Bool.false_ne_true), if_pos (by unfold Dk.there; simp; omega)])
  clear h ho ha hn
  go_enter Try.func11, Try.ntmps11
  go_upto_region 2 with fail
  have a3 : Hid (Below w.heap.size w ((w.alloc (.cells #[.pointer (some ⟨B, 0, none⟩), .int .i64 0, .bool false] 63)).alloc (.cells #[.pointer (some ⟨w.heap.size, 0, none⟩)] 29))) := Lib.hid (below2 (below_al0 _ _) (below_al0 _ _))
  have a2 : Hid (((w.alloc (.cells #[.pointer (some ⟨B, 0, none⟩), .int .i64 0, .bool false] 63)).alloc (.cells #[.pointer (some ⟨w.heap.size, 0, none⟩)] 29)).heap[w.heap.size + 1]? = some (.cells #[.pointer (some ⟨w.heap.size, 0, none⟩)] 29 (0, 0))) := Lib.hid (by
    unfold World.alloc
    simp only [Array.getElem?_push, Array.size_push]
    simp)
  have a1 : Hid (LgAt ((w.alloc (.cells #[.pointer (some ⟨B, 0, none⟩), .int .i64 0, .bool false] 63)).alloc (.cells #[.pointer (some ⟨w.heap.size, 0, none⟩)] 29)) w.heap.size B 0 false) := Lib.hid (by
    unfold World.alloc LgAt
    simp [Array.getElem?_push])
  have a4 : Hid (((w.alloc (.cells #[.pointer (some ⟨B, 0, none⟩), .int .i64 0, .bool false] 63)).alloc (.cells #[.pointer (some ⟨w.heap.size, 0, none⟩)] 29)).heap.size = w.heap.size + 2) := Lib.hid (by
    unfold World.alloc
    simp)
  generalize ((w.alloc (.cells #[.pointer (some ⟨B, 0, none⟩), .int .i64 0, .bool false] 63)).alloc (.cells #[.pointer (some ⟨w.heap.size, 0, none⟩)] 29)) = W at *
  have D1 : Hid (DiskAt F W B d) := Lib.hid (D0.out.below a3.out)
  go_upto_region 6 with (first
    | (go_at_call 20; refine (c_Dead W B d D1.out).mono ?_; rintro e w' ⟨rfl, rfl⟩; rw [HA.out.1])
    | (go_at_call 24; refine (c_smaller W B d D1.out).mono ?_; rintro e w3 ⟨rfl, hb3⟩; rw [h12.out]; replace hb3 := Lib.hid hb3))
  have sz3 := Lib.hid hb3.out.size
  have cv3 : w3.cell? ⟨w.heap.size + 1, 0, none⟩ = some (.pointer (some ⟨w.heap.size, 0, none⟩)) := (by have := (Off.of_below (ex := fun _ => False) hb3.out).keeps a2.out (fun h => h); simp [World.cell?, this])
  have G := gw_at w3 w.heap.size
  have G3 := below2 hb3.out G.2.2.1
  have P4 := Lib.hid ((Off.of_below (ex := fun _ => False) G3).keeps a2.out (fun h => h))
  have L4 := Lib.hid (a1.out.off (.of_below (ex := fun _ => False) G3) (fun h => h))
  have D4 := Lib.hid (D1.out.below G3)
  clear G G3
  have hF3 : Hid (∀ g, F g → g < w3.heap.size) := Lib.hid (fun g hg => by have := HF.out g hg; have := a4.out; have := sz3.out; omega)
  have nF : Hid (∀ j, ¬ F (w.heap.size + j)) := Lib.hid (fun j hg => by have := HF.out _ hg; omega)
  have hL3 : Hid (w.heap.size < w3.heap.size) := Lib.hid (by have := a4.out; have := sz3.out; omega)
  have hdo := Lib.hid ((c_open1 _ (w.heap.size + 1) w.heap.size B 0 false d P4.out L4.out D4.out (nF.out 0) (nF.out 1) (by omega) HA.out.1 (by have := HA.out.2; omega) HO.out.b0 HO.out.b1 HO.out.n0 HO.out.n1 HO.out.gl).mono (fun _ _ h => h.cl))
  clear P4 L4 D4
  go_wp2_with (first
    | (go_at_call 25; refine (c_guardO w3 w.heap.size B (OpP d) hL3.out hF3.out (nF.out 0) _ hdo.out).mono ?_; rintro e w5 ⟨d', F', hd5, hi5, he5⟩; replace hd5 := Lib.hid hd5; replace hi5 := Lib.hid hi5; have cv5 : w5.cell? ⟨w.heap.size + 1, 0, none⟩ = some (.pointer (some ⟨w.heap.size, 0, none⟩)) := off_cell hi5.out.off cv3 (fun hx => by rcases hx with hx | hx; exact nF.out 1 hx; exact absurd hx (by show ¬ w.heap.size + 1 = _; omega)); rcases he5 with ⟨nn, hP5, rfl, hl5⟩ | ⟨hP5, rfl⟩ <;> replace hP5 := Lib.hid hP5))
  all_goals
    have hb := below2 a3.out hb3.out
    have hI : Inn F F' w w5 := ⟨fun g hg => (hi5.out.out g hg).imp id fun h => Nat.le_trans hb.size h, fun g hg => hi5.out.up g hg, (Off.of_below hb).trans2 hi5.out.off (fun i hi hf => by
      rcases hf with hf | hf
      · exact hf
      · omega)⟩
    replace hI := Lib.hid hI
    clear hb
    obtain ⟨r', hO, hr⟩ := hP5.out
  · cases r' with
    | none => cases hr
    | some m =>
      cases hr
      replace hO := Lib.hid hO
      replace hl5 := Lib.hid hl5
      have hnL : Hid (¬ F' w.heap.size) := Lib.hid (fun hg => by
        rcases hi5.out.out _ hg with h | h
        · exact nF.out 0 h
        · have := hL3.out; omega)
      go_ret2
      exact ⟨d', F', hd5.out, hI.out, .inl ⟨m, _, hO.out, rfl, hl5.out, hnL.out, Nat.le_refl _⟩⟩
  · cases r' with
    | some m => cases hr
    | none =>
      replace hO := Lib.hid hO
      clear hr
      go_ret2
      exact ⟨d', F', hd5.out, hI.out, .inr ⟨hO.out, rfl⟩⟩
/-- a disk that is too small -/
theorem c_Open_small {F : Nat → Prop} (w : World) (B : Nat) (d : Dk) (h : DiskAt F w B d) (ha : d.dead = false) (hn : d.n ≤ 42) : Calls Try.prog 11 #[.pointer (some ⟨B, 0, none⟩)] w fun e w' => e = .returned (.tuple #[.pointer none, .int .i64 1]) ∧ Below w.heap.size w w' := by
  have hmf : ∀ (fn : Fn) (first cap : Array Value) (w : World), (Instr.makeFunc fn first cap).run Try.prog w = .ok (.func fn first cap) w := fun _ _ _ _ => rfl
  have D0 := Lib.hid h
  have HA := Lib.hid ha
  have h12 : Hid (readE d 42 = 1) := Lib.hid (by
    unfold readE
    rw [if_neg (by rw [ha]; exact Bool.false_ne_true), if_neg (by unfold Dk.there; simp; omega)])
  clear h ha hn
  go_enter Try.func11, Try.ntmps11
  go_upto_region 2 with fail
  have a3 : Hid (Below w.heap.size w ((w.alloc (.cells #[.pointer (some ⟨B, 0, none⟩), .int .i64 0, .bool false] 63)).alloc (.cells #[.pointer (some ⟨w.heap.size, 0, none⟩)] 29))) := Lib.hid (below2 (below_al0 _ _) (below_al0 _ _))
  generalize ((w.alloc (.cells #[.pointer (some ⟨B, 0, none⟩), .int .i64 0, .bool false] 63)).alloc (.cells #[.pointer (some ⟨w.heap.size, 0, none⟩)] 29)) = W at *
  have D1 : Hid (DiskAt F W B d) := Lib.hid (D0.out.below a3.out)
  go_wp2_with (first
    | (go_at_call 20; refine (c_Dead W B d D1.out).mono ?_; rintro e w' ⟨rfl, rfl⟩; rw [HA.out])
    | (go_at_call 24; refine (c_smaller W B d D1.out).mono ?_; rintro e w3 ⟨rfl, hb3⟩; rw [h12.out]; replace hb3 := Lib.hid hb3))
  go_ret2
  exact ⟨rfl, below2 a3.out hb3.out⟩
theorem hdl_head (q : Nat) (l : List Int) (n : Int) (h : GoodL n l) (hn : n ≤ 65536) (hq : q < 250) : hdl (headB q l) = l := by
  have h1 := read_headB q l n h hn (by omega)
  unfold readHead at h1
  unfold hdl
  by_cases hi : isHead (headB q l) = true
  · rw [if_pos hi] at h1 ⊢
    exact (Prod.mk.inj (Option.some.inj h1)).2
  · rw [if_neg hi] at h1
    cases h1
theorem bad_not {b : Sec} (h : Bad b) : ¬ isHead b = true := by
  have := read_bad h
  unfold readHead at this
  intro hi
  rw [if_pos hi] at this
  cases this
theorem list_len (b : Sec) : (listOf b).length = (bt b 9).toNat := by
  unfold listOf
  simp
theorem Cr.hd {N : Int} {q : Nat} {σ : Int → Sec} {d : Dk} (h : Cr N q σ d) (hN : N ≤ 4096) (hq : q < 250) : HdOk d := by
  have hat : d.at = d.onp := funext fun s => by unfold Dk.at; rw [h.bu]; rfl
  have hs := h.safe
  have e0 : ∀ S, HL N q S → (isHead S = true → (bt S 9).toNat ≤ 40) ∧ (hdl S).length ≤ 40 ∧ ∀ x ∈ hdl S, 0 ≤ x ∧ x < N := by
    intro S hS
    rcases hS.is with ⟨r, l, hr, hg, rfl⟩ | ⟨hb, _⟩
    · have hh := hdl_head r l N hg (by omega) (by omega)
      refine ⟨fun hi => ?_, ?_, ?_⟩
      · have h2 := hh
        unfold hdl at h2
        rw [if_pos hi] at h2
        rw [← list_len, h2]
        exact hg.1
      · rw [hh]; exact hg.1
      · rw [hh]
        intro x hx
        have := hg.2 x hx
        omega
    · have hi := bad_not hb
      unfold hdl
      rw [if_neg hi]
      exact ⟨fun h => absurd h hi, by simp, by simp⟩
  have e1 := e0 _ hs.hl
  have e2 : isHead (d.onp 1) = true → (bt (d.onp 1) 9).toNat ≤ 40 := by
    rcases hs.ml.is with ⟨r, hr, he⟩ | ⟨hb, _⟩
    · rw [he]
      intro hi
      have hh := hdl_head r [] N (GoodL.nil N) (by omega) (by omega)
      unfold hdl at hh
      rw [if_pos hi] at hh
      rw [← list_len, hh]
      simp
    · exact fun h => absurd h (bad_not hb)
  refine ⟨?_, ?_, ?_, ?_, ?_⟩
  · rw [hat]; exact hs.hl.one
  · rw [hat]; exact hs.ml.one
  · rw [hat]; exact e1.1
  · rw [hat]; exact e2
  · rw [hat, h.n]; exact e1.2
end Go.Proofs.Ytpdjenkacefpjaa
