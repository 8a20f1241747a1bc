/- DiskLast: the law's walk. -/
import Derived.Test.YtnlemjjigiphcaaDk
namespace Go.Proofs.Ytnlemjjigiphcaa
open Go.RowKit Go.ChangeShapes
set_option linter.unusedVariables false
set_option maxRecDepth 100000

def lastR (b : Sec) (i : Nat) : UInt8 := if i = 0 then 0 else b.getD (i - 1) 0
def stL (b : Sec) (i : Nat) (o : Int) : Dk := ⟨3, [], if i = 0 then [] else [(1, rep (lastR b i))], 0, false, o⟩
theorem stL_write (b : Sec) (i : Nat) (o : Int) (x : UInt8) (h : b[i]? = some x) : writeR (stL b i o) 1 (rep x) = (stL b (i + 1) (wr64 (o + 1)), 0) := by
  have hx : lastR b (i + 1) = x := by
    unfold lastR
    rw [if_neg (by omega), Nat.add_sub_cancel, List.getD_eq_getElem?_getD, h]
    rfl
  have e : stL b (i + 1) (wr64 (o + 1)) = ⟨3, [], [(1, rep x)], 0, false, wr64 (o + 1)⟩ := by
    unfold stL
    rw [if_neg (by omega), hx]
  rw [e]
  unfold writeR stL
  by_cases h0 : i = 0
  · rw [if_pos h0]
    rfl
  · rw [if_neg h0]
    rfl
theorem rep_zeros : rep 0 = zeros := rfl
def stL2 (b : Sec) (i : Nat) (o p : Int) : Dk := ⟨3, if i = 0 then [] else [(1, torn (pick p) (rep (lastR b i)) zeros)], [], 0, false, o⟩
theorem stL_crash (b : Sec) (i : Nat) (o p : Int) : (stL b i o).crash [p] = stL2 b i o p ∧ ((stL b i o).bu.length : Int) = if i = 0 then 0 else 1 := by
  unfold stL stL2 Dk.crash
  by_cases h0 : i = 0
  · rw [if_pos h0, if_pos h0, if_pos h0]
    exact ⟨rfl, rfl⟩
  · rw [if_neg h0, if_neg h0, if_neg h0]
    exact ⟨rfl, rfl⟩
theorem stL_read (b : Sec) (i : Nat) (o p : Int) : (stL2 b i o p).at 1 = torn (pick p) (rep (lastR b i)) zeros := by
  unfold stL2
  by_cases h0 : i = 0
  · rw [if_pos h0]
    subst h0
    show zeros = torn (pick p) (rep 0) zeros
    rw [rep_zeros, torn_self]
  · rw [if_neg h0]
    rfl
theorem torn_get {k kk : Nat} {x : UInt8} (hk : k < 128) (hkk : kk ≤ 128) : (torn kk (rep x) zeros)[k]? = some (if k < kk then x else 0) := by
  unfold torn
  by_cases h : k < kk
  · rw [if_pos h, List.getElem?_append_left (by simp [rep]; omega), List.getElem?_take_of_lt h, rep_get x hk]
  · rw [if_neg h, List.getElem?_append_right (by simp [rep]; omega), List.getElem?_drop]
    have e : kk + (k - ((rep x).take kk).length) = k := by simp [rep]; omega
    rw [e]
    exact rep_get 0 hk
set_option maxHeartbeats 2000000 in
theorem law_DiskLast (w : World) (v : Value) (b : Sec) (hv : BtAt w v b) (p : Int) (hp : I64 p) : Calls Try.prog 3 #[v, .int .i64 p] w fun e w' => e = .returned (.bool true) ∧ Below w.heap.size w w' := by
  have HV := Lib.hid hv
  obtain ⟨ad, c, rfl, hbc, hcm, hv1⟩ := hv
  have hbm : b.length ≤ 9223372036854775807 := by unfold maxLen at hcm; omega
  replace hv1 := Lib.hid hv1
  replace hp := Lib.hid hp
  clear hbc hcm
  have hmk := A.mk128
  go_enter Try.func3, Try.ntmps3
  go_wp2_with (first | (go_at_call 8; refine (c_known w).mono ?_; rintro e w1 ⟨rfl, hb1⟩; replace hb1 := Lib.hid hb1) | (go_at_call 9; refine (c_New 3 w1 (by decide) (by decide)).mono ?_; rintro e w2 ⟨B, F, rfl, hD, hF, hb⟩; have O2 : Hid (∃ F o, Own w w2 F B (stL b 0 o)) := Lib.hid ⟨F, 0, hD, fun g hg => Nat.le_trans hb1.out.size (hF g hg), below2 hb1.out hb⟩; clear hD hF hb))
  go_loopw [7, 8] (fun lv iv wr => ∃ i : Nat, iv = .int .i64 i ∧ lv = .int .u8 ((lastR b i).toNat : Int) ∧ i ≤ 20 ∧ i ≤ b.length ∧ Hid (∃ F o, Own w wr F B (stL b i o))) (fun _ iv _ => 20 - (intOf iv).toNat)
  case atStart => exact ⟨0, rfl, rfl, by omega, by omega, O2⟩
  case round =>
    clear O2
    obtain ⟨i, rfl, rfl, hi20, hib, HO⟩ := hrel
    by_cases hlt : i < b.length ∧ i < 20
    · obtain ⟨hl1, hl2⟩ := hlt
      have hl1' : (i : Int) < (b.length : Int) := by omega
      have hl2' : (i : Int) < 20 := by omega
      obtain ⟨x, hx⟩ : ∃ x, b[i]? = some x := ⟨_, List.getElem?_eq_getElem hl1⟩
      obtain ⟨gv, ov, hqv, hcv⟩ := hv1.out i x hx
      subst hqv
      obtain ⟨F, o, O⟩ := HO.out
      replace O := Lib.hid O
      replace hx := Lib.hid hx
      have hcw : w.cell? ⟨gv, ov + i, none⟩ = some (.int .u8 (x.toNat : Int)) := hcv
      have hcl : gv < w.heap.size := by
        rcases Nat.lt_or_ge gv w.heap.size with h | h
        · exact h
        · simp [World.cell?, Array.getElem?_eq_none h] at hcw
      clear HO hcv
      replace hcw := Lib.hid hcw
      replace hcl := Lib.hid hcl
      go_wp2_with fail
      obtain ⟨W, hW, R0, OW, hz⟩ : ∃ W, wr.alloc (.cells (bys zeros).toArray 5) = W ∧ Hid (FillR W wr.heap.size wr.heap.size 128 0 (rep x) zeros) ∧ Hid (Own w W F B (stL b i o)) ∧ Hid (W.heap.size = wr.heap.size + 1) := ⟨_, rfl, Lib.hid (FillR.start (rep x)), Lib.hid (O.out.below (below_al0 _ _)), Lib.hid (by simp)⟩
      rw [hW]
      clear hW
      have hg1 : Hid (w.heap.size ≤ wr.heap.size) := Lib.hid O.out.bl.size
      have hFg : Hid (∀ g, F g → g < wr.heap.size) := Lib.hid O.out.dk.lt
      clear O
      obtain ⟨wo, rfl⟩ : ∃ wo : World, wo = wr := ⟨_, rfl⟩
      go_loopw [10] (fun kv wr => ∃ k : Nat, kv = .int .i64 k ∧ k ≤ 128 ∧ Hid (FillR wr wo.heap.size wo.heap.size 128 k (rep x) zeros) ∧ Hid (Own w wr F B (stL b i o))) (fun kv _ => 128 - (intOf kv).toNat)
      case atStart => exact ⟨0, rfl, by omega, R0, OW⟩
      case round =>
        clear R0 OW
        obtain ⟨k, rfl, hk, R, O⟩ := hrel
        have cv : wr.cell? ⟨gv, ov + i, none⟩ = some (.int .u8 (x.toNat : Int)) := (O.out.bl.cell (p := ⟨gv, ov + i, none⟩) hcl.out).trans hcw.out
        by_cases hlt : k < 128
        · have hlt' : (k : Int) < 128 := by omega
          obtain ⟨u, hu⟩ := R.out.cell zeros_len (rep_len x) hlt
          have hf := R.out.free k
          go_wp2
          have R2 := Lib.hid (R.out.step (rep_len x) zeros_len (rep_get x hlt))
          have O2 := Lib.hid (O.out.off (off1 wr wo.heap.size k (.int .u8 (x.toNat : Int))) (fun g hg e => by have := hFg.out g hg; omega) (fun g e => by have := hg1.out; omega))
          clear hu hf cv
          go_roundw
          case rel => exact ⟨k + 1, by go_num, by omega, R2, O2⟩
          case measure => simp [intOf]; omega
        · have hlt' : ¬ (k : Int) < 128 := by omega
          obtain rfl : k = 128 := by omega
          have RW := Lib.hid (R.out.done (rep_len x) zeros_len)
          have hE := Lib.hid (stL_write b i o x hx.out)
          have hL : Hid (lastR b (i + 1) = x) := Lib.hid (by unfold lastR; rw [if_neg (by omega), Nat.add_sub_cancel, List.getD_eq_getElem?_getD, hx.out]; rfl)
          clear cv
          go_wp2_with (first
            | (go_at_call 10; refine (c_Write wr B _ 1 _ (rep x) O.out.dk ⟨by decide, by decide⟩ (row_bt RW.out (rep_len x)) (by rw [rep_len]; decide)).mono ?_; rintro e w2 hwd; obtain ⟨rfl, ht⟩ := hwd.to hE.out; obtain ⟨F2, O2, hF2, ho2⟩ := O.out.turn ht; replace O2 := Lib.hid O2; clear hwd ht hF2 ho2; have cv : w2.cell? ⟨gv, ov + i, none⟩ = some (.int .u8 (x.toNat : Int)) := (O2.out.bl.cell (p := ⟨gv, ov + i, none⟩) hcl.out).trans hcw.out))
          clear cv
          go_roundw
          case rel => exact ⟨i + 1, by go_num, by rw [hL.out], by omega, by omega, Lib.hid ⟨_, _, O2.out⟩⟩
          case measure => simp [intOf]; omega
    · obtain ⟨F, o, O⟩ := HO.out
      replace O := Lib.hid O
      have hC := stL_crash b i o p
      have hp1 : Hid (∀ q ∈ [p], I64 q) := Lib.hid (by intro q hq; simp at hq; rw [hq]; exact hp.out)
      have key : ∀ z : Int, ((stL b i o).bu.length : Int) = z → ((z = 0 ∧ (b.length : Int) = 0) ∨ (z = 1 ∧ 1 ≤ (b.length : Int))) := by
        intro z hz
        rw [hC.2] at hz
        split at hz <;> omega
      obtain ⟨z, hz⟩ : ∃ z : Int, ((stL b i o).bu.length : Int) = z := ⟨_, rfl⟩
      replace key := key z hz
      replace hz := Lib.hid hz
      have hC1 := Lib.hid hC.1
      have hlt' : (¬ (i : Int) < (b.length : Int)) ∨ ((i : Int) < (b.length : Int) ∧ ¬ (i : Int) < 20) := by omega
      clear hC hlt HO
      have hzt : (z != min (b.length : Int) 1) = false := by
        have : z = min (b.length : Int) 1 := by omega
        simp [this]
      have key2 : (z = 0 ∧ (b.length : Int) ≤ 0 ∧ ¬ (i : Int) < (b.length : Int)) ∨ (z = 1 ∧ 1 ≤ (b.length : Int) ∧ ¬ (i : Int) < (b.length : Int)) ∨ (z = 1 ∧ 1 ≤ (b.length : Int) ∧ (i : Int) < (b.length : Int) ∧ ¬ (i : Int) < 20) := by omega
      clear key hlt'
      rcases key2 with ⟨rfl, hb0, h1⟩ | ⟨rfl, hb0, h1⟩ | ⟨rfl, hb0, h1, h2⟩
      all_goals
        go_wp2_with (first
          | (go_at_call 11; refine (c_Crash (wr.alloc (.cells #[.int .i64 p] 3)) B _ _ [p] (O.out.below (below_al0 _ _)).dk (one_it wr p) hp1.out (by intro a n c h hF; cases h; exact Nat.lt_irrefl _ (O.out.dk.lt _ hF)) (show 1 < 1000000 by decide)).mono ?_; rintro e w3 ⟨rfl, ht⟩; rw [hC1.out] at ht; obtain ⟨F3, O3, hF3, ho3⟩ := (O.out.below (below_al0 _ _)).turn ht; replace O3 := Lib.hid O3; clear ht hF3 ho3; rw [hz.out])
          | (go_at_call 12; refine (c_Read w3 B _ 1 O3.out.dk ⟨by decide, by decide⟩).mono ?_; rintro e w4 hrd; obtain ⟨gx, cx, rfl, hx, hbx⟩ := hrd.ok (by rfl) (stL_read b i o p) (torn_len (rep_len _) zeros_len (pick_le p)); replace hx := Lib.hid hx; replace hbx := Lib.hid hbx; clear hrd))
        have O4 := Lib.hid (O3.out.below hbx.out)
        have hxl : Hid (gx < w4.heap.size) := Lib.hid (Array.getElem?_eq_some_iff.1 (row_blk hx.out).2.2.2.choose_spec).1
        have hpk := Lib.hid (pick_eq p)
        have hpl := Lib.hid (pick_le p)
        have hc5 : Hid (((stL2 b i o p).bu.length : Int) = 0) := Lib.hid rfl
        clear hbx hzt hp1 hz
        go_loop [14] (fun kv => ∃ k : Nat, kv = .int .i64 k ∧ k ≤ 128) (fun kv => 128 - (intOf kv).toNat)
        case atStart => exact ⟨0, rfl, by omega⟩
        case round =>
          obtain ⟨k, rfl, hk⟩ := hrel
          by_cases hlk : k < 128
          · have hlk' : (k : Int) < 128 := by omega
            have hxc := row_u8 hx.out (torn_get (x := lastR b i) hlk hpl.out)
            by_cases hkp : k < pick p
            · have hkp' : (k : Int) < p % 129 := by rw [← hpk.out]; omega
              rw [if_pos hkp] at hxc
              clear hkp
              go_wp2_with (first | (go_at_call 13; refine (c_within p 129 (by decide) (by decide) _).mono ?_; rintro e w6 ⟨rfl, rfl⟩))
              go_round
              case rel => exact ⟨k + 1, by go_num, by omega⟩
              case measure => simp [intOf]; omega
            · have hkp' : ¬ (k : Int) < p % 129 := by rw [← hpk.out]; omega
              rw [if_neg hkp] at hxc
              replace hxc : w4.cell? ⟨gx, k, none⟩ = some (.int .u8 0) := hxc
              clear hkp
              go_wp2_with (first | (go_at_call 13; refine (c_within p 129 (by decide) (by decide) _).mono ?_; rintro e w6 ⟨rfl, rfl⟩))
              go_round
              case rel => exact ⟨k + 1, by go_num, by omega⟩
              case measure => simp [intOf]; omega
          · have hlk' : ¬ (k : Int) < 128 := by omega
            go_wp2_with (first
              | (go_at_call 11; refine (c_Crash (w4.alloc (.cells #[.int .i64 5] 3)) B _ _ [5] (O4.out.below (below_al0 _ _)).dk (one_it w4 5) (by intro q hq; simp at hq; subst hq; exact ⟨by decide, by decide⟩) (by intro a n c h hF; cases h; exact Nat.lt_irrefl _ (O4.out.dk.lt _ hF)) (by decide)).mono ?_; rintro e w7 ⟨rfl, ht⟩; obtain ⟨F7, O7, hF7, ho7⟩ := (O4.out.below (below_al0 _ _)).turn ht; replace O7 := Lib.hid O7; clear ht hF7 ho7; rw [hc5.out]))
            go_ret
            exact ⟨rfl, O7.out.bl⟩
end Go.Proofs.Ytnlemjjigiphcaa
