/- Contracts of package wal: Open's closure. -/
import Derived.Test.YtpdjenkacefpjaaWi
namespace Go.Proofs.Ytpdjenkacefpjaa
open Go.RowKit Go.ChangeShapes
set_option linter.unusedVariables false
set_option maxRecDepth 100000

/-- the list that is read -/
def hdl (b : Sec) : List Int := if isHead b = true then listOf b else []
theorem mq_some {b : Sec} (h : isHead b = true) : mq b = seqOf b := by unfold mq readHead; rw [if_pos h]
theorem mq_none {b : Sec} (h : isHead b = false) : mq b = 0 := by unfold mq readHead; rw [if_neg (by rw [h]; exact Bool.false_ne_true)]
theorem Rh.any {b : Sec} {w w' : World} {e : Ending} (h : Rh b w e w') : ∃ la k lc, e = .returned (.tuple #[.agg #[.int .i64 (mq b : Nat), .slice la k lc], .bool (isHead b)]) ∧ ItAt w' (.slice la k lc) (hdl b) ∧ (∀ a n c, Value.slice la k lc = .slice (some a) n c → w.heap.size ≤ a.block) ∧ Below w.heap.size w w' := by
  obtain ⟨h1, h2, h3⟩ := h
  cases hi : isHead b with
  | false =>
    refine ⟨none, 0, 0, by rw [h1 hi, mq_none hi]; rfl, ⟨none, 0, by unfold hdl; rw [if_neg (by rw [hi]; exact Bool.false_ne_true)]; rfl, fun j x hj => ?_⟩, fun a n c e => (by cases e), h3⟩
    unfold hdl at hj
    rw [if_neg (by rw [hi]; exact Bool.false_ne_true)] at hj
    simp at hj
  | true =>
    obtain ⟨vl, h4, h5, h6⟩ := h2 hi
    obtain ⟨ad, c, hv, _⟩ := id h5
    subst hv
    refine ⟨ad, _, c, by rw [h4, mq_some hi], ?_, h6, h3⟩
    unfold hdl
    rw [if_pos hi]
    exact h5
/-- what a turn does to the blocks of a disk and of its log -/
structure InL (L : Nat) (F F' : Nat → Prop) (w w' : World) : Prop where
  out : ∀ g, F' g → F g ∨ w.heap.size ≤ g
  up : ∀ g, F g → F' g
  off : Off (fun g => F g ∨ g = L) w w'
theorem InL.trans {L : Nat} {F F1 F2 : Nat → Prop} {w w1 w2 : World} (h : InL L F F1 w w1) (k : InL L F1 F2 w1 w2) : InL L F F2 w w2 :=
  ⟨fun g hg => by
    rcases k.out g hg with e | e
    · exact h.out g e
    · exact .inr (Nat.le_trans h.off.size e), fun g hg => k.up g (h.up g hg), h.off.trans2 k.off (fun i hi hf => by
    rcases hf with hf | hf
    · rcases h.out i hf with e | e
      · exact .inl e
      · omega
    · exact .inr hf)⟩
theorem Inn.log {L : Nat} {F F' : Nat → Prop} {w w' : World} (h : Inn F F' w w') : InL L F F' w w' := ⟨h.out, h.up, h.off.mono fun _ _ h => .inl h⟩
theorem InL.below {L : Nat} {F F1 : Nat → Prop} {w w1 w2 : World} (h : InL L F F1 w w1) (k : Below w1.heap.size w1 w2) : InL L F F1 w w2 := h.trans (Inn.refl F1 k).log
theorem InL.set {L : Nat} {F F1 : Nat → Prop} {w w1 : World} (h : InL L F F1 w w1) (j : Nat) (v : Value) : InL L F F1 w (w1.setCell ⟨L, j, none⟩ v) := ⟨h.out, h.up, h.off.setCell (.inl (.inr rfl)) v⟩
/-- what the opening's closure leaves -/
def OpR (F : Nat → Prop) (L B : Nat) (dd : Bool) (d : Dk) (w : World) (e : Ending) (w' : World) : Prop := ∃ d' r F' q', openW d = (d', r) ∧ DiskAt F' w' B d' ∧ InL L F F' w w' ∧ LgAt w' L B q' dd ∧ (∀ n : Nat, r = some n → e = .returned (.tuple #[]) ∧ q' = n) ∧ (r = none → e = .panicked died)
theorem lg_set {w : World} {L B : Nat} {q q' : Int} {dd : Bool} (h : LgAt w L B q dd) : LgAt (w.setCell ⟨L, 1, none⟩ (.int .i64 q')) L B q' dd := by
  unfold LgAt at h ⊢
  simp [World.setCell, Array.getElem?_modify, h]
theorem open_no {d : Dk} (h : isHead (d.at 0) = false) : openW d = (d, some (mq (d.at 1))) := by
  unfold openW readHead
  rw [if_neg (by rw [h]; exact Bool.false_ne_true)]
theorem open_le {d : Dk} (h : isHead (d.at 0) = true) (hm : ¬ mq (d.at 1) < mq (d.at 0)) : openW d = (d, some (mq (d.at 1))) := by
  rw [mq_some h] at hm
  unfold openW readHead
  rw [if_pos h]
  exact if_neg hm
theorem open_gt {d d' : Dk} {ok : Bool} (h : isHead (d.at 0) = true) (hm : mq (d.at 1) < mq (d.at 0)) (hp : placeW (hdl (d.at 0)) 0 d = (d', ok)) : openW d = (d', if ok = true then some (mq (d.at 0)) else none) := by
  unfold hdl at hp
  rw [if_pos h] at hp
  rw [mq_some h] at hm ⊢
  unfold openW readHead
  rw [if_pos h]
  simp only [hm, if_true]
  rw [hp]
  cases ok <;> rfl
theorem Pl.cases {F : Nat → Prop} {B : Nat} {d : Dk} {l : List Int} {w w' : World} {e : Ending} (h : Pl F B d l w e w') : ∃ d' F', DiskAt F' w' B d' ∧ Inn F F' w w' ∧ ((placeW l 0 d = (d', true) ∧ e = .returned (.tuple #[])) ∨ (placeW l 0 d = (d', false) ∧ e = .panicked died)) := by
  obtain ⟨d7, ok, hp1, hp2, hp3, ht⟩ := h
  obtain ⟨F7, D7, I7⟩ := turn_inn ht
  refine ⟨d7, F7, D7, I7, ?_⟩
  cases ok with
  | true => exact .inl ⟨hp1, (hp2 rfl).1⟩
  | false => exact .inr ⟨hp1, hp3 rfl⟩
set_option maxHeartbeats 2000000 in
theorem c_open1 {F : Nat → Prop} (w : World) (pa L B : Nat) (q : Int) (dd : Bool) (d : Dk) (hp : w.heap[pa]? = some (.cells #[.pointer (some ⟨L, 0, none⟩)] 29 (0, 0))) (hl : LgAt w L B q dd) (h : DiskAt F w B d) (hL : ¬ F L) (hpF : ¬ F pa) (hpL : pa ≠ L) (ha : d.dead = false) (hn : 42 ≤ d.n) (h0 : bt (d.at 0) 1 = 0) (h1 : bt (d.at 1) 1 = 0) (h2 : isHead (d.at 0) = true → (bt (d.at 0) 9).toNat ≤ 40) (h3 : isHead (d.at 1) = true → (bt (d.at 1) 9).toNat ≤ 40) (hgl : (hdl (d.at 0)).length ≤ 40 ∧ ∀ x ∈ hdl (d.at 0), 0 ≤ x ∧ x < d.n) : Calls Try.prog 26 #[.pointer (some ⟨pa, 0, none⟩)] w (OpR F L B dd d w) := by
  have cp : w.cell? ⟨pa, 0, none⟩ = some (.pointer (some ⟨L, 0, none⟩)) := by simp [World.cell?, hp]
  have HP := Lib.hid hp
  have h' := Lib.hid h
  have HL := Lib.hid hl
  have hr : Hid (∀ n : Int, 0 ≤ n → n < 42 → readE d n = 0) := Lib.hid (fun n h4 h5 => by
    unfold readE
    rw [if_neg (by rw [ha]; exact Bool.false_ne_true), if_pos (by unfold Dk.there; simp; omega)])
  have H0 := Lib.hid h0
  have H1 := Lib.hid h1
  have H2 := Lib.hid h2
  have H3 := Lib.hid h3
  have HG := Lib.hid hgl
  have HA := Lib.hid (And.intro ha hn)
  have HLF := Lib.hid (And.intro hL (And.intro hpF hpL))
  have HLt := Lib.hid hl.lt
  obtain ⟨ih, hih⟩ : ∃ ih, isHead (d.at 0) = ih := ⟨_, rfl⟩
  have HIS := Lib.hid hih
  clear h hl h0 h1 h2 h3 hp hgl ha hn hL hpF hpL hih
  go_enter Try.func26, Try.ntmps26
  go_upto_region 2 with (first
    | (go_at_call 28; refine (c_take _ L B q dd d 0 L3.out D3.out ⟨by decide, by decide⟩ (hr.out 0 (by decide) (by decide))).mono ?_; rintro e w3 ⟨g2, c2, rfl, hx2, hb3⟩; replace hx2 := Lib.hid hx2; replace hb3 := Lib.hid hb3)
    | (go_at_call 27; refine (c_read w3 _ (d.at 0) (row_bt hx2.out (h'.out.okd.atLen 0)) (h'.out.okd.atLen 0) H0.out H2.out).mono ?_; rintro e w4 hrh; obtain ⟨la2, lk2, lc2, hev, hi4, hf4, hb4⟩ := hrh.any; clear hrh; rw [HIS.out] at hev; subst hev; replace hb4 := Lib.hid hb4; replace hf4 := Lib.hid hf4; replace hi4 := Lib.hid hi4; have O4 : Hid (Off (fun _ => False) (w2.alloc (.cells #[.int .i64 (mq (d.at 1) : Nat), .slice la lk lc] 67)) w4) := Lib.hid ((Off.of_below hb3.out).trans (.of_below hb4.out)); have O5 : Hid (Off (fun _ => False) (w2.alloc (.cells #[.int .i64 (mq (d.at 1) : Nat), .slice la lk lc] 67)) (w4.alloc (.cells #[.int .i64 (mq (d.at 0) : Nat), .slice la2 lk2 lc2] 67))) := Lib.hid (O4.out.alloc _); have kp5 : (w4.alloc (.cells #[.int .i64 (mq (d.at 0) : Nat), .slice la2 lk2 lc2] 67)).cell? ⟨pa, 0, none⟩ = some (.pointer (some ⟨L, 0, none⟩)) := (by have := O5.out.keeps P3.out (fun h => h); simp only [World.cell?, this]; rfl); have km5 : (w4.alloc (.cells #[.int .i64 (mq (d.at 0) : Nat), .slice la2 lk2 lc2] 67)).cell? ⟨w2.heap.size, 0, none⟩ = some (.int .i64 (mq (d.at 1) : Nat)) := (by have := O5.out.keeps M3.out (fun h => h); simp only [World.cell?, this]; rfl); have L5 : Hid (LgAt (w4.alloc (.cells #[.int .i64 (mq (d.at 0) : Nat), .slice la2 lk2 lc2] 67)) L B q dd) := Lib.hid (L3.out.off O5.out (fun h => h)); have fl5 : (w4.alloc (.cells #[.int .i64 (mq (d.at 0) : Nat), .slice la2 lk2 lc2] 67)).frozen? ⟨L, 1, none⟩ = false := L5.out.cell.2.2.2 1)
    | (go_at_call 28; refine (c_take w L B q dd d 1 HL.out h'.out ⟨by decide, by decide⟩ (hr.out 1 (by decide) (by decide))).mono ?_; rintro e w1 ⟨g1, c1, rfl, hx1, hb1⟩; replace hx1 := Lib.hid hx1; replace hb1 := Lib.hid hb1)
    | (go_at_call 27; refine (c_read w1 _ (d.at 1) (row_bt hx1.out (h'.out.okd.atLen 1)) (h'.out.okd.atLen 1) H1.out H3.out).mono ?_; rintro e w2 hrh; obtain ⟨la, lk, lc, rfl, hi2, hf2, hb2⟩ := hrh.any; clear hrh; replace hb2 := Lib.hid hb2; clear hi2 hf2; have B2 : Hid (Below w.heap.size w w2) := Lib.hid (below2 hb1.out hb2.out); have P2 : Hid (w2.heap[pa]? = some (.cells #[.pointer (some ⟨L, 0, none⟩)] 29 (0, 0))) := Lib.hid ((Off.of_below (ex := fun _ => False) B2.out).keeps HP.out (fun h => h)); have L2 : Hid (LgAt w2 L B q dd) := Lib.hid (HL.out.off (.of_below (ex := fun _ => False) B2.out) (fun h => h)); have P3 : Hid ((w2.alloc (.cells #[.int .i64 (mq (d.at 1) : Nat), .slice la lk lc] 67)).heap[pa]? = some (.cells #[.pointer (some ⟨L, 0, none⟩)] 29 (0, 0))) := Lib.hid ((Off.of_below (ex := fun _ => False) (below_al0 _ _)).keeps P2.out (fun h => h)); have kp3 : (w2.alloc (.cells #[.int .i64 (mq (d.at 1) : Nat), .slice la lk lc] 67)).cell? ⟨pa, 0, none⟩ = some (.pointer (some ⟨L, 0, none⟩)) := (by have := P3.out; simp only [World.cell?, this]; rfl); have L3 : Hid (LgAt (w2.alloc (.cells #[.int .i64 (mq (d.at 1) : Nat), .slice la lk lc] 67)) L B q dd) := Lib.hid (L2.out.off (.of_below (ex := fun _ => False) (below_al0 _ _)) (fun h => h)); have D3 : Hid (DiskAt F (w2.alloc (.cells #[.int .i64 (mq (d.at 1) : Nat), .slice la lk lc] 67)) B d) := Lib.hid ((h'.out.below B2.out).off (.of_below (ex := fun _ => False) (below_al0 _ _)) (fun _ _ h => h)); have M3 : Hid ((w2.alloc (.cells #[.int .i64 (mq (d.at 1) : Nat), .slice la lk lc] 67)).heap[w2.heap.size]? = some (.cells #[.int .i64 (mq (d.at 1) : Nat), .slice la lk lc] 67 (0, 0))) := Lib.hid (by unfold World.alloc; simp)))
  have HB3 : Hid (Below w.heap.size w (w2.alloc (.cells #[.int .i64 (mq (d.at 1) : Nat), .slice la lk lc] 67))) := Lib.hid (below2 B2.out (below_al0 _ _))
  have HB4 : Hid (Below w.heap.size w w4) := Lib.hid (below2 HB3.out (below2 hb3.out hb4.out))
  have HB5 : Hid (Below w.heap.size w (w4.alloc (.cells #[.int .i64 (mq (d.at 0) : Nat), .slice la2 lk2 lc2] 67))) := Lib.hid (below2 HB4.out (below_al0 _ _))
  have N5 : Hid ((w4.alloc (.cells #[.int .i64 (mq (d.at 0) : Nat), .slice la2 lk2 lc2] 67)).heap[w4.heap.size]? = some (.cells #[.int .i64 (mq (d.at 0) : Nat), .slice la2 lk2 lc2] 67 (0, 0))) := Lib.hid (by unfold World.alloc; simp)
  have IT5 : Hid (ItAt (w4.alloc (.cells #[.int .i64 (mq (d.at 0) : Nat), .slice la2 lk2 lc2] 67)) (.slice la2 lk2 lc2) (hdl (d.at 0))) := Lib.hid (hi4.out.off (.of_below (ex := fun _ => False) (below_al0 _ _)) (fun _ _ _ _ h => h))
  have IF5 : Hid (∀ a n c, Value.slice la2 lk2 lc2 = .slice (some a) n c → ¬ F a.block ∧ a.block ≠ L) := Lib.hid (fun a n c e => by
    have e1 := hf4.out a n c e
    have e3 := (below2 HB3.out hb3.out).size
    have e4 := HLt.out
    refine ⟨fun hF => ?_, by omega⟩
    have e2 := h'.out.lt _ hF
    omega)
  have hs2 : L ≠ w2.heap.size := by have := HLt.out; have := B2.out.size; omega
  have hs3 : L ≠ w4.heap.size := by have := HLt.out; have := HB4.out.size; omega
  have M5 : Hid ((w4.alloc (.cells #[.int .i64 (mq (d.at 0) : Nat), .slice la2 lk2 lc2] 67)).heap[w2.heap.size]? = some (.cells #[.int .i64 (mq (d.at 1) : Nat), .slice la lk lc] 67 (0, 0))) := Lib.hid (O5.out.keeps M3.out (fun h => h))
  have P5 : Hid ((w4.alloc (.cells #[.int .i64 (mq (d.at 0) : Nat), .slice la2 lk2 lc2] 67)).heap[pa]? = some (.cells #[.pointer (some ⟨L, 0, none⟩)] 29 (0, 0))) := Lib.hid (O5.out.keeps P3.out (fun h => h))
  have NF : Hid (¬ F w4.heap.size ∧ True) := Lib.hid ⟨fun hF => by
    have := h'.out.lt _ hF
    have := HB4.out.size
    omega, trivial⟩
  have sz2 := Lib.hid hs2
  have sz3 := Lib.hid hs3
  generalize hW5 : (w4.alloc (.cells #[.int .i64 (mq (d.at 0) : Nat), .slice la2 lk2 lc2] 67)) = w5 at *
  clear hW5 P2 L2 P3 kp3 L3 D3 M3 hx1 hx2 hb1 hb2 hb3 hi4 hf4 hb4 O4 O5 HP cp HL B2 HB3 HB4
  generalize w4.heap.size = n4 at *
  generalize w2.heap.size = n2 at *
  have cl5 := L5.out.cell.2.1
  have cb5 := L5.out.cell.1
  go_upto_region 3 with fail
  have OL : Hid (Off (· = L) w5 (w5.setCell ⟨L, 1, none⟩ (.int .i64 (mq (d.at 1) : Nat)))) := Lib.hid (off1 w5 L 1 _)
  have L6 : Hid (LgAt (w5.setCell ⟨L, 1, none⟩ (.int .i64 (mq (d.at 1) : Nat))) L B (mq (d.at 1) : Nat) dd) := Lib.hid (lg_set L5.out)
  generalize w5.setCell ⟨L, 1, none⟩ (.int .i64 (mq (d.at 1) : Nat)) = w6 at *
  have M6 := OL.out.keeps M5.out sz2.out.symm
  have N6 := OL.out.keeps N5.out sz3.out.symm
  have P6 := OL.out.keeps P5.out HLF.out.2.2
  have D6 : Hid (DiskAt F w6 B d) := Lib.hid ((h'.out.below HB5.out).off OL.out (fun g hg e => HLF.out.1 (e ▸ hg)))
  have I6 : Hid (InL L F F w w6) := Lib.hid ⟨fun g hg => .inl hg, fun g hg => hg, (Off.of_below HB5.out).trans2 OL.out (fun i _ h => .inr h)⟩
  have IT6 : Hid (ItAt w6 (.slice la2 lk2 lc2) (hdl (d.at 0))) := Lib.hid (IT5.out.off OL.out (fun a n c e hx => (IF5.out a n c e).2 hx))
  have cm : w6.cell? ⟨n2, 0, none⟩ = some (.int .i64 (mq (d.at 1) : Nat)) := by simp [World.cell?, M6]
  have ch0 : w6.cell? ⟨n4, 0, none⟩ = some (.int .i64 (mq (d.at 0) : Nat)) := by simp [World.cell?, N6]
  have ch1 : w6.cell? ⟨n4, 1, none⟩ = some (.slice la2 lk2 lc2) := by simp [World.cell?, N6]
  have cp6 : w6.cell? ⟨pa, 0, none⟩ = some (.pointer (some ⟨L, 0, none⟩)) := by simp [World.cell?, P6]
  replace M6 := Lib.hid M6
  replace N6 := Lib.hid N6
  replace P6 := Lib.hid P6
  clear hs2 hs3 kp5 km5 L5 fl5 cl5 cb5 HB5 N5 IT5 M5 P5 OL
  cases ih with
  | false =>
    go_wp2_with fail
    go_end0
    exact ⟨d, _, F, _, open_no HIS.out, D6.out, I6.out, L6.out, fun n e => ⟨rfl, by cases e; rfl⟩, fun h => (by cases h)⟩
  | true =>
    by_cases hm : mq (d.at 1) < mq (d.at 0)
    · have hlt : ((mq (d.at 1) : Nat) : Int) < ((mq (d.at 0) : Nat) : Int) := by omega
      have HM := Lib.hid hm
      clear hm
      go_wp2_with (first
        | (go_at_call 29; refine (c_place w6 L B _ _ dd d _ (hdl (d.at 0)) L6.out HLF.out.1 D6.out HA.out.1 HA.out.2 IT6.out (fun a n c e => (IF5.out a n c e).1) HG.out.1 HG.out.2).mono ?_; rintro e w7 hpl; obtain ⟨d7, F7, D7, I7, he⟩ := hpl.cases; clear hpl; replace D7 := Lib.hid D7; replace I7 := Lib.hid I7; have L7 : Hid (LgAt w7 L B (mq (d.at 1) : Nat) dd) := Lib.hid (L6.out.off I7.out.off HLF.out.1); have O7 := I7.out.off; have ch7 : w7.cell? ⟨n4, 0, none⟩ = some (.int .i64 (mq (d.at 0) : Nat)) := off_cell O7 ch0 NF.out.1; have cp7 : w7.cell? ⟨pa, 0, none⟩ = some (.pointer (some ⟨L, 0, none⟩)) := off_cell O7 cp6 HLF.out.2.1; have fl7 := L7.out.cell.2.2.2 1; have cl7 := L7.out.cell.2.1; clear O7; rcases he with ⟨hp1, rfl⟩ | ⟨hp1, rfl⟩ <;> replace hp1 := Lib.hid hp1))
      · go_end0
        exact ⟨d7, _, F7, _, open_gt HIS.out HM.out hp1.out, D7.out.off (off1 w7 L 1 _) (fun g hg e => by subst e; rcases I7.out.out _ hg with h | h; exact HLF.out.1 h; exact absurd L6.out.lt (by omega)), (I6.out.trans I7.out.log).set _ _, lg_set L7.out, fun n e => ⟨rfl, by cases e; rfl⟩, fun h => (by cases h)⟩
      · exact ⟨rfl, d7, _, F7, _, open_gt HIS.out HM.out hp1.out, D7.out, I6.out.trans I7.out.log, L7.out, fun n e => (by cases e), fun _ => rfl⟩
    · have hlt : ¬ ((mq (d.at 1) : Nat) : Int) < ((mq (d.at 0) : Nat) : Int) := by omega
      have HM := Lib.hid hm
      clear hm
      go_wp2_with fail
      go_end0
      exact ⟨d, _, F, _, open_le HIS.out HM.out, D6.out, I6.out, L6.out, fun n e => ⟨rfl, by cases e; rfl⟩, fun h => (by cases h)⟩
end Go.Proofs.Ytpdjenkacefpjaa
