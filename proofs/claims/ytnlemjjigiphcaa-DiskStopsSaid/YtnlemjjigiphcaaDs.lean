/- DiskStops: the law's walk. -/
import Derived.Test.YtnlemjjigiphcaaDk
namespace Go.Proofs.Ytnlemjjigiphcaa
open Go.RowKit Go.ChangeShapes
set_option linter.unusedVariables false
set_option maxRecDepth 100000

/-- a disk that stops at the N-th operation, behind j tries -/
structure StS (N j : Nat) (d : Dk) : Prop where
  n : d.n = 4
  dead : d.dead = decide (N ≤ j)
  left : j < N → d.left = (N : Int) - j
  ops : d.ops = min (j : Int) ((N : Int) - 1)
theorem StS.spend {N j : Nat} {d : Dk} (h : StS N j d) (hj : j < N) (hN : N ≤ 100) : (j + 1 < N → d.spend.2 = true) ∧ (¬ j + 1 < N → d.spend.2 = false) ∧ ∀ bu on, StS N (j + 1) { d.spend.1 with bu := bu, on := on } := by
  have hl := h.left hj
  have ho := h.ops
  have hd : d.dead = false := by rw [h.dead]; simp; omega
  unfold Dk.spend
  by_cases e : d.left = 1
  · rw [if_pos e]
    refine ⟨fun x => by omega, fun _ => rfl, fun bu on => ⟨h.n, ?_, fun x => by omega, ?_⟩⟩
    · show true = _
      simp
      omega
    · show d.ops = _
      omega
  · rw [if_neg e]
    refine ⟨fun _ => rfl, fun x => by omega, fun bu on => ⟨h.n, ?_, fun x => ?_, ?_⟩⟩
    · show d.dead = _
      rw [hd]
      simp
      omega
    · show (if 0 < d.left then d.left - 1 else d.left) = _
      rw [if_pos (by omega)]
      omega
    · show wr64 (d.ops + 1) = _
      unfold wr64
      omega
theorem StS.same {N j : Nat} {d : Dk} (h : StS N j d) (hj : N ≤ j) : StS N (j + 1) d :=
  ⟨h.n, by rw [h.dead]; simp; omega, fun x => by omega, by rw [h.ops]; omega⟩
theorem StS.write {N j : Nat} {d : Dk} {s : Int} {b : Sec} (h : StS N j d) (hN : N ≤ 100) (h0 : 0 ≤ s) (h1 : s < 4) (hb : b.length = 128) : ∃ d', writeR d s b = (d', if j + 1 < N then 0 else 12) ∧ StS N (j + 1) d' := by
  unfold writeR
  by_cases hj : j < N
  · have hd : d.dead = false := by rw [h.dead]; simp; omega
    have ht : (d.there s && decide (b.length = 128)) = true := by unfold Dk.there; simp [h0, h.n, h1, hb]
    obtain ⟨a1, a2, a3⟩ := h.spend hj hN
    rw [if_neg (by rw [hd]; exact Bool.false_ne_true), if_pos ht]
    cases hs : d.spend with
    | mk d' ok =>
      rw [hs] at a1 a2 a3
      cases ok with
      | true => exact ⟨_, by rw [if_pos (by rcases Nat.lt_or_ge (j + 1) N with x | x; exact x; exact absurd (a2 (by omega)) (by simp))], a3 _ d'.on⟩
      | false => exact ⟨d', by rw [if_neg (fun x => absurd (a1 x) (by simp))], a3 d'.bu d'.on⟩
  · have hd : d.dead = true := by rw [h.dead]; simp; omega
    rw [if_pos hd, if_neg (by omega)]
    exact ⟨d, rfl, h.same (by omega)⟩
theorem StS.flush {N j : Nat} {d : Dk} (h : StS N j d) (hN : N ≤ 100) : ∃ d', flushR d = (d', if j + 1 < N then 0 else 12) ∧ StS N (j + 1) d' := by
  unfold flushR
  by_cases hj : j < N
  · have hd : d.dead = false := by rw [h.dead]; simp; omega
    obtain ⟨a1, a2, a3⟩ := h.spend hj hN
    rw [if_neg (by rw [hd]; exact Bool.false_ne_true)]
    cases hs : d.spend with
    | mk d' ok =>
      rw [hs] at a1 a2 a3
      cases ok with
      | true => exact ⟨_, by rw [if_pos (by rcases Nat.lt_or_ge (j + 1) N with x | x; exact x; exact absurd (a2 (by omega)) (by simp))], a3 [] (mergeL d'.bu d'.on)⟩
      | false => exact ⟨d', by rw [if_neg (fun x => absurd (a1 x) (by simp))], a3 d'.bu d'.on⟩
  · have hd : d.dead = true := by rw [h.dead]; simp; omega
    rw [if_pos hd, if_neg (by omega)]
    exact ⟨d, rfl, h.same (by omega)⟩
theorem min_ne {a b c : Int} (h : b = c) : (min a b != min a c) = false := by
  rw [h]
  simp
set_option maxHeartbeats 4000000 in
theorem law_DiskStops (w : World) (v : Value) (hv : BoAt w v) (n : Int) (hn : I64 n) : Calls Try.prog 7 #[.int .i64 n, v] w fun e w' => e = .returned (.bool true) ∧ Below w.heap.size w w' := by
  obtain ⟨ad, m, c, rfl, hmc, hcm, hv1⟩ := hv
  have hmm : m ≤ 9223372036854775807 := by unfold maxLen at hcm; omega
  replace hv1 := Lib.hid hv1
  replace hn := Lib.hid hn
  clear hmc hcm
  obtain ⟨nn, hnn⟩ : ∃ m : Nat, n % 20 = (m : Int) := ⟨(n % 20).toNat, by omega⟩
  have hn20 : nn < 20 := by omega
  replace hnn := Lib.hid hnn
  have hmk := A.mk128
  go_enter Try.func7, Try.ntmps7
  go_wp2_with (first
    | (go_at_call 8; refine (c_known w).mono ?_; rintro e w1 ⟨rfl, hb1⟩; replace hb1 := Lib.hid hb1)
    | (go_at_call 9; refine (c_New 4 w1 (by decide) (by decide)).mono ?_; rintro e w2 ⟨B, F, rfl, hD, hF, hb⟩; have O2 : Hid (Own w w2 F B (Dk.new 4)) := Lib.hid ⟨hD, fun g hg => Nat.le_trans hb1.out.size (hF g hg), below2 hb1.out hb⟩; clear hD hF hb)
    | (go_at_call 13; refine (c_within n 20 (by decide) (by decide) _).mono ?_; rintro e w6 ⟨rfl, rfl⟩; rw [hnn.out])
    | (go_at_call 21; refine (c_Stop w2 B _ (1 + (nn : Int)) O2.out.dk (by unfold I64; omega)).mono ?_; rintro e w3 ⟨rfl, ht⟩; obtain ⟨F3, O3, _, _⟩ := O2.out.turn ht; clear ht; have O3 : Hid (∃ F d, Own w w3 F B d ∧ StS (nn + 1) 0 d) := Lib.hid ⟨F3, _, O3, ⟨rfl, by simp [Dk.stop, Dk.new], fun _ => by simp [Dk.stop, Dk.new]; omega, by simp [Dk.stop, Dk.new]; omega⟩⟩))
  go_loopw [7] (fun iv wr => ∃ i : Nat, iv = .int .i64 i ∧ 1 ≤ i ∧ i ≤ 26 ∧ Hid (∃ F d, Own w wr F B d ∧ StS (nn + 1) (i - 1) d)) (fun iv _ => 26 - (intOf iv).toNat)
  case atStart => exact ⟨1, rfl, by omega, by omega, O3⟩
  case round =>
    clear O3 O2
    obtain ⟨i, rfl, hi1, hi26, HO⟩ := hrel
    obtain ⟨F, d, O, hS⟩ := HO.out
    replace O := Lib.hid O
    replace hS := Lib.hid hS
    clear HO
    by_cases hlt : i ≤ 25
    · have hlt' : ¬ (25 : Int) < (i : Int) := by omega
      have key : ∀ (w5 : World) (F5 : Nat → Prop) (d5 : Dk), Own w w5 F5 B d5 → StS (nn + 1) i d5 → True := fun _ _ _ _ _ => trivial
      clear key
      have hN : nn + 1 ≤ 100 := by omega
      have hi0 : i - 1 + 1 = i := by omega
      have fl : (∃ g o, ∃ x : Bool, i < m ∧ ad = some ⟨g, o, none⟩ ∧ g < w.heap.size ∧ w.cell? ⟨g, o + i, none⟩ = some (.bool x)) ∨ ¬ i < m := by
        by_cases h : i < m
        · obtain ⟨g, o, x, h1, h2, h3⟩ := hv1.out i h
          exact .inl ⟨g, o, x, h, h1, h2, h3⟩
        · exact .inr h
      rcases Nat.lt_or_ge i (nn + 1) with hc | hc
      · have hc1 : (i : Int) < 1 + (nn : Int) := by omega
        rcases fl with ⟨g, o0, x, hm, rfl, hg, hcx⟩ | hm
        · have hm1 : (i : Int) < (m : Int) := by omega
          have hcr : wr.cell? ⟨g, o0 + i, none⟩ = some (.bool x) := (O.out.bl.cell (p := ⟨g, o0 + i, none⟩) hg).trans hcx
          clear hcx hg
          cases x with
          | true =>
            obtain ⟨d5, hE, hS5⟩ := hS.out.flush hN
            rw [hi0] at hE hS5
            rw [if_pos hc] at hE
            have hdead : Hid (d5.dead = false) := Lib.hid (by rw [hS5.dead]; simp <;> omega)
            obtain ⟨o, ho, hmin⟩ : ∃ o : Int, d5.ops = o ∧ (o != min (i : Int) (1 + (nn : Int) - 1)) = false := ⟨_, hS5.ops, min_ne (by omega)⟩
            replace ho := Lib.hid ho
            replace hE := Lib.hid hE
            replace hS5 := Lib.hid hS5
            clear hi0
            go_wp2_with (first
              | (go_at_call 16; refine (c_Flush wr B d O.out.dk).mono ?_; rintro e w5 hwd; obtain ⟨rfl, ht⟩ := hwd.to hE.out; obtain ⟨F5, O5, _, _⟩ := O.out.turn ht; replace O5 := Lib.hid O5; clear hwd ht)
              | (go_at_call 24; refine (c_Dead w5 B d5 O5.out.dk).mono ?_; rintro e w6 ⟨rfl, rfl⟩; rw [hdead.out])
              | (go_at_call 15; refine (c_Ops w5 B d5 O5.out.dk).mono ?_; rintro e w6 ⟨rfl, rfl⟩; rw [ho.out]))
            go_roundw
            case rel => exact ⟨i + 1, by go_num, by omega, by omega, Lib.hid ⟨_, _, O5.out, by rw [Nat.add_sub_cancel]; exact hS5.out⟩⟩
            case measure => simp [intOf]; omega
          | false =>
            obtain ⟨d5, hE, hS5⟩ := hS.out.write (s := (i : Int) % 4) (b := zeros) hN (by omega) (by omega) zeros_len
            rw [hi0] at hE hS5
            rw [if_pos hc] at hE
            have hdead : Hid (d5.dead = false) := Lib.hid (by rw [hS5.dead]; simp <;> omega)
            obtain ⟨o, ho, hmin⟩ : ∃ o : Int, d5.ops = o ∧ (o != min (i : Int) (1 + (nn : Int) - 1)) = false := ⟨_, hS5.ops, min_ne (by omega)⟩
            replace ho := Lib.hid ho
            replace hE := Lib.hid hE
            replace hS5 := Lib.hid hS5
            clear hi0
            go_wp2_with (first
              | (go_at_call 10; refine (c_Write (wr.alloc (.cells (bys zeros).toArray 5)) B d ((i : Int) % 4) _ zeros (O.out.below (below_al0 _ _)).dk (by unfold I64; omega) (row_bt (row_zeros wr 0 (Nat.zero_le _)) zeros_len) (by rw [zeros_len]; decide)).mono ?_; rintro e w5 hwd; obtain ⟨rfl, ht⟩ := hwd.to hE.out; obtain ⟨F5, O5, _, _⟩ := (O.out.below (below_al0 _ _)).turn ht; replace O5 := Lib.hid O5; clear hwd ht)
              | (go_at_call 24; refine (c_Dead w5 B d5 O5.out.dk).mono ?_; rintro e w6 ⟨rfl, rfl⟩; rw [hdead.out])
              | (go_at_call 15; refine (c_Ops w5 B d5 O5.out.dk).mono ?_; rintro e w6 ⟨rfl, rfl⟩; rw [ho.out]))
            go_roundw
            case rel => exact ⟨i + 1, by go_num, by omega, by omega, Lib.hid ⟨_, _, O5.out, by rw [Nat.add_sub_cancel]; exact hS5.out⟩⟩
            case measure => simp [intOf]; omega
        · have hm1 : ¬ (i : Int) < (m : Int) := by omega
          by_cases hz : True
          · clear hz
            obtain ⟨d5, hE, hS5⟩ := hS.out.write (s := (i : Int) % 4) (b := zeros) hN (by omega) (by omega) zeros_len
            rw [hi0] at hE hS5
            rw [if_pos hc] at hE
            have hdead : Hid (d5.dead = false) := Lib.hid (by rw [hS5.dead]; simp <;> omega)
            obtain ⟨o, ho, hmin⟩ : ∃ o : Int, d5.ops = o ∧ (o != min (i : Int) (1 + (nn : Int) - 1)) = false := ⟨_, hS5.ops, min_ne (by omega)⟩
            replace ho := Lib.hid ho
            replace hE := Lib.hid hE
            replace hS5 := Lib.hid hS5
            clear hi0
            go_wp2_with (first
              | (go_at_call 10; refine (c_Write (wr.alloc (.cells (bys zeros).toArray 5)) B d ((i : Int) % 4) _ zeros (O.out.below (below_al0 _ _)).dk (by unfold I64; omega) (row_bt (row_zeros wr 0 (Nat.zero_le _)) zeros_len) (by rw [zeros_len]; decide)).mono ?_; rintro e w5 hwd; obtain ⟨rfl, ht⟩ := hwd.to hE.out; obtain ⟨F5, O5, _, _⟩ := (O.out.below (below_al0 _ _)).turn ht; replace O5 := Lib.hid O5; clear hwd ht)
              | (go_at_call 24; refine (c_Dead w5 B d5 O5.out.dk).mono ?_; rintro e w6 ⟨rfl, rfl⟩; rw [hdead.out])
              | (go_at_call 15; refine (c_Ops w5 B d5 O5.out.dk).mono ?_; rintro e w6 ⟨rfl, rfl⟩; rw [ho.out]))
            go_roundw
            case rel => exact ⟨i + 1, by go_num, by omega, by omega, Lib.hid ⟨_, _, O5.out, by rw [Nat.add_sub_cancel]; exact hS5.out⟩⟩
            case measure => simp [intOf]; omega
          · exact absurd trivial hz
      · have hc1 : ¬ (i : Int) < 1 + (nn : Int) := by omega
        rcases fl with ⟨g, o0, x, hm, rfl, hg, hcx⟩ | hm
        · have hm1 : (i : Int) < (m : Int) := by omega
          have hcr : wr.cell? ⟨g, o0 + i, none⟩ = some (.bool x) := (O.out.bl.cell (p := ⟨g, o0 + i, none⟩) hg).trans hcx
          clear hcx hg
          cases x with
          | true =>
            obtain ⟨d5, hE, hS5⟩ := hS.out.flush hN
            rw [hi0] at hE hS5
            rw [if_neg (by omega)] at hE
            have hdead : Hid (d5.dead = true) := Lib.hid (by rw [hS5.dead]; simp <;> omega)
            obtain ⟨o, ho, hmin⟩ : ∃ o : Int, d5.ops = o ∧ (o != min (i : Int) (1 + (nn : Int) - 1)) = false := ⟨_, hS5.ops, min_ne (by omega)⟩
            replace ho := Lib.hid ho
            replace hE := Lib.hid hE
            replace hS5 := Lib.hid hS5
            clear hi0
            go_wp2_with (first
              | (go_at_call 16; refine (c_Flush wr B d O.out.dk).mono ?_; rintro e w5 hwd; obtain ⟨rfl, ht⟩ := hwd.to hE.out; obtain ⟨F5, O5, _, _⟩ := O.out.turn ht; replace O5 := Lib.hid O5; clear hwd ht)
              | (go_at_call 24; refine (c_Dead w5 B d5 O5.out.dk).mono ?_; rintro e w6 ⟨rfl, rfl⟩; rw [hdead.out])
              | (go_at_call 15; refine (c_Ops w5 B d5 O5.out.dk).mono ?_; rintro e w6 ⟨rfl, rfl⟩; rw [ho.out]))
            go_roundw
            case rel => exact ⟨i + 1, by go_num, by omega, by omega, Lib.hid ⟨_, _, O5.out, by rw [Nat.add_sub_cancel]; exact hS5.out⟩⟩
            case measure => simp [intOf]; omega
          | false =>
            obtain ⟨d5, hE, hS5⟩ := hS.out.write (s := (i : Int) % 4) (b := zeros) hN (by omega) (by omega) zeros_len
            rw [hi0] at hE hS5
            rw [if_neg (by omega)] at hE
            have hdead : Hid (d5.dead = true) := Lib.hid (by rw [hS5.dead]; simp <;> omega)
            obtain ⟨o, ho, hmin⟩ : ∃ o : Int, d5.ops = o ∧ (o != min (i : Int) (1 + (nn : Int) - 1)) = false := ⟨_, hS5.ops, min_ne (by omega)⟩
            replace ho := Lib.hid ho
            replace hE := Lib.hid hE
            replace hS5 := Lib.hid hS5
            clear hi0
            go_wp2_with (first
              | (go_at_call 10; refine (c_Write (wr.alloc (.cells (bys zeros).toArray 5)) B d ((i : Int) % 4) _ zeros (O.out.below (below_al0 _ _)).dk (by unfold I64; omega) (row_bt (row_zeros wr 0 (Nat.zero_le _)) zeros_len) (by rw [zeros_len]; decide)).mono ?_; rintro e w5 hwd; obtain ⟨rfl, ht⟩ := hwd.to hE.out; obtain ⟨F5, O5, _, _⟩ := (O.out.below (below_al0 _ _)).turn ht; replace O5 := Lib.hid O5; clear hwd ht)
              | (go_at_call 24; refine (c_Dead w5 B d5 O5.out.dk).mono ?_; rintro e w6 ⟨rfl, rfl⟩; rw [hdead.out])
              | (go_at_call 15; refine (c_Ops w5 B d5 O5.out.dk).mono ?_; rintro e w6 ⟨rfl, rfl⟩; rw [ho.out]))
            go_roundw
            case rel => exact ⟨i + 1, by go_num, by omega, by omega, Lib.hid ⟨_, _, O5.out, by rw [Nat.add_sub_cancel]; exact hS5.out⟩⟩
            case measure => simp [intOf]; omega
        · have hm1 : ¬ (i : Int) < (m : Int) := by omega
          by_cases hz : True
          · clear hz
            obtain ⟨d5, hE, hS5⟩ := hS.out.write (s := (i : Int) % 4) (b := zeros) hN (by omega) (by omega) zeros_len
            rw [hi0] at hE hS5
            rw [if_neg (by omega)] at hE
            have hdead : Hid (d5.dead = true) := Lib.hid (by rw [hS5.dead]; simp <;> omega)
            obtain ⟨o, ho, hmin⟩ : ∃ o : Int, d5.ops = o ∧ (o != min (i : Int) (1 + (nn : Int) - 1)) = false := ⟨_, hS5.ops, min_ne (by omega)⟩
            replace ho := Lib.hid ho
            replace hE := Lib.hid hE
            replace hS5 := Lib.hid hS5
            clear hi0
            go_wp2_with (first
              | (go_at_call 10; refine (c_Write (wr.alloc (.cells (bys zeros).toArray 5)) B d ((i : Int) % 4) _ zeros (O.out.below (below_al0 _ _)).dk (by unfold I64; omega) (row_bt (row_zeros wr 0 (Nat.zero_le _)) zeros_len) (by rw [zeros_len]; decide)).mono ?_; rintro e w5 hwd; obtain ⟨rfl, ht⟩ := hwd.to hE.out; obtain ⟨F5, O5, _, _⟩ := (O.out.below (below_al0 _ _)).turn ht; replace O5 := Lib.hid O5; clear hwd ht)
              | (go_at_call 24; refine (c_Dead w5 B d5 O5.out.dk).mono ?_; rintro e w6 ⟨rfl, rfl⟩; rw [hdead.out])
              | (go_at_call 15; refine (c_Ops w5 B d5 O5.out.dk).mono ?_; rintro e w6 ⟨rfl, rfl⟩; rw [ho.out]))
            go_roundw
            case rel => exact ⟨i + 1, by go_num, by omega, by omega, Lib.hid ⟨_, _, O5.out, by rw [Nat.add_sub_cancel]; exact hS5.out⟩⟩
            case measure => simp [intOf]; omega
          · exact absurd trivial hz
    · have hlt' : ¬ (i : Int) ≤ 25 := by omega
      have hdead : Hid (readE d 0 = 12) := Lib.hid (by unfold readE; rw [hS.out.dead, decide_eq_true (by omega)]; rfl)
      have hr2 : Hid (readE (d.crash []) 0 = 0) := Lib.hid (by unfold readE Dk.there; rw [show (d.crash []).dead = false from rfl, show (d.crash []).n = d.n from rfl, hS.out.n]; rfl)
      have hf : Hid (∃ d', flushR (d.crash []) = (d', 0)) := Lib.hid ⟨_, rfl⟩
      obtain ⟨d', hf'⟩ := hf.out
      replace hf' := Lib.hid hf'
      clear hf
      have hlen : Hid (((d.crash []).at 0).length = 128) := Lib.hid ((O.out.dk.ok.crash []).atLen 0)
      go_wp2_with (first
        | (go_at_call 12; first
          | (refine (c_Read wr B d 0 O.out.dk ⟨by decide, by decide⟩).mono ?_; rintro e w5 hrd; obtain ⟨rfl, hb5⟩ := hrd.err hdead.out (by decide); replace hb5 := Lib.hid hb5; have O5 := Lib.hid (O.out.below hb5.out); clear hrd)
          | (refine (c_Read w6 B (d.crash []) 0 O6.out.dk ⟨by decide, by decide⟩).mono ?_; rintro e w7 hrd; obtain ⟨gx, cx, rfl, hx, hbx⟩ := hrd.ok hr2.out rfl hlen.out; replace hx := Lib.hid hx; replace hbx := Lib.hid hbx; have O7 := Lib.hid (O6.out.below hbx.out); clear hrd))
        | (go_at_call 11; refine (c_Crash w5 B d _ [] O5.out.dk ⟨none, 0, rfl, fun j x hj => (by simp at hj)⟩ (by intro q hq; simp at hq) (by intro a n c h; cases h) (by decide)).mono ?_; rintro e w6 ⟨rfl, ht⟩; obtain ⟨F6, O6, _, _⟩ := O5.out.turn ht; replace O6 := Lib.hid O6; clear ht)
        | (go_at_call 16; refine (c_Flush w7 B _ O7.out.dk).mono ?_; rintro e w8 hwd; obtain ⟨rfl, ht⟩ := hwd.to hf'.out; obtain ⟨F8, O8, _, _⟩ := O7.out.turn ht; replace O8 := Lib.hid O8; clear hwd ht))
      go_ret
      exact ⟨rfl, O8.out.bl⟩
end Go.Proofs.Ytnlemjjigiphcaa
