/- WalOwn: the law's walk. -/
import Derived.Test.YtpdjenkacefpjaaWs
import Derived.Laws.BitsAllLaws
namespace Go.Proofs.Ytpdjenkacefpjaa
open Go.RowKit Go.ChangeShapes
set_option linter.unusedVariables false
set_option maxRecDepth 100000

/-- a row of a hundred and twenty-eight bytes, whatever they are -/
def Byt (w : World) (A g c : Nat) : Prop := ∃ b : Sec, b.length = 128 ∧ w.ownsRow A 5 1 (.slice (some ⟨g, 0, none⟩) 128 c) 128 (bys b)
theorem Byt.cell {w : World} {A g c k : Nat} (h : Byt w A g c) (hk : k < 128) : ∃ x : UInt8, w.cell? ⟨g, k, none⟩ = some (.int .u8 (x.toNat : Int)) := by
  obtain ⟨b, hl, hr⟩ := h
  exact ⟨b[k], row_u8 hr (List.getElem?_eq_getElem (by omega))⟩
theorem Byt.free {w : World} {A g c : Nat} (h : Byt w A g c) (j : Nat) : w.frozen? ⟨g, j, none⟩ = false := by
  obtain ⟨b, hl, hr⟩ := h
  obtain ⟨_, _, _, cs, hc⟩ := row_blk hr
  simp [World.frozen?, hc]
theorem Byt.set {w : World} {A g c k : Nat} (h : Byt w A g c) (x : UInt8) : Byt (w.setCell ⟨g, k, none⟩ (.int .u8 (x.toNat : Int))) A g c := by
  obtain ⟨b, hl, hr⟩ := h
  refine ⟨b.set k x, by simp [hl], ?_⟩
  have h1 := row_store hr k (.int .u8 (x.toNat : Int))
  have e : (bys b).set k (.int .u8 (x.toNat : Int)) = bys (b.set k x) := by unfold bys; rw [List.map_set]
  rw [e] at h1
  exact h1
theorem Byt.lt {w : World} {A g c : Nat} (h : Byt w A g c) : g < w.heap.size := by
  obtain ⟨b, hl, hr⟩ := h
  exact (Array.getElem?_eq_some_iff.1 (row_blk hr).2.2.2.choose_spec).1
theorem xor_u8 (a b : UInt8) : ∃ z : UInt8, bits .xor .u8 (a.toNat : Int) (b.toNat : Int) = (z.toNat : Int) := by
  refine ⟨UInt8.ofNat (a.toNat ^^^ b.toNat), ?_⟩
  have h1 := a.toNat_lt
  have h2 := b.toNat_lt
  rw [u8_xor_nat _ _ h1 h2, UInt8.toNat_ofNat', Nat.mod_eq_of_lt (Nat.xor_lt_two_pow (n := 8) h1 h2)]
theorem Byt.of {w : World} {A g c : Nat} {b : Sec} (h : w.ownsRow A 5 1 (.slice (some ⟨g, 0, none⟩) 128 c) 128 (bys b)) (hb : b.length = 128) : Byt w A g c := ⟨b, hb, h⟩
set_option maxHeartbeats 4000000 in
theorem law_WalOwn (w : World) (fi : Int) (hf0 : 0 ≤ fi) (hf1 : fi ≤ 255) (y : Int) (hy0 : 0 ≤ y) (hy1 : y ≤ 255) : Calls Try.prog 5 #[.int .u8 fi, .int .u8 y] w fun e w' => e = .returned (.bool true) ∧ Below w.heap.size w w' := by
  obtain ⟨yy, rfl⟩ : ∃ yy : UInt8, y = (yy.toNat : Int) := ⟨UInt8.ofNat y.toNat, by rw [UInt8.toNat_ofNat']; omega⟩
  obtain ⟨ff, rfl⟩ : ∃ ff : UInt8, fi = (ff.toNat : Int) := ⟨UInt8.ofNat fi.toNat, by rw [UInt8.toNat_ofNat']; omega⟩
  have hmk := A.mk128
  clear hf0 hf1 hy0 hy1
  by_cases hyz : yy.toNat = 0
  · have hz0 : ((yy.toNat : Int) == 0) = true := by rw [hyz]; rfl
    replace hyz := Lib.hid hyz
    go_enter Try.func5, Try.ntmps5
    go_wp2_with (first | (go_at_call 9; refine (c_known w).mono ?_; rintro e w1 ⟨rfl, hb1⟩; replace hb1 := Lib.hid hb1))
    go_ret
    exact ⟨rfl, hb1.out⟩
  have hz0 : ((yy.toNat : Int) == 0) = false := by rw [beq_eq_false_iff_ne]; omega
  clear hyz
  go_enter Try.func5, Try.ntmps5
  go_upto_region 8 with (first
    | (go_at_call 11; refine (s_open O2.out (new_cr (N := 60) (by decide) (by decide)) rfl (by decide) (by decide) (by decide)).mono ?_; rintro e w3 ⟨L, F, d, rfl, S3, hl3, _, _⟩; replace S3 := Lib.hid S3; replace hl3 := Lib.hid hl3)
    | (go_at_call 10; refine (s_new 60 w w1 hb1.out (by decide) (by decide)).mono ?_; rintro e w2 ⟨B, F0, rfl, O2, _, _⟩; replace O2 := Lib.hid O2)
    | (go_at_call 9; refine (c_known w).mono ?_; rintro e w1 ⟨rfl, hb1⟩; replace hb1 := Lib.hid hb1))
  obtain ⟨W, hW, R0⟩ : ∃ W, w3.alloc (.cells (bys zeros).toArray 5) = W ∧ Hid (FillR W w3.heap.size w3.heap.size 128 0 (rep ff) zeros) := ⟨_, rfl, Lib.hid (FillR.start (rep ff))⟩
  have SW : Hid (Sys 60 0 (fun _ => zeros) w W F L B d) := Lib.hid (by rw [← hW]; exact S3.out.below (below_al0 _ _))
  have hF2 : Hid (¬ F w3.heap.size ∧ w3.heap.size ≠ L ∧ w.heap.size ≤ w3.heap.size) := Lib.hid ⟨fun h => by have := S3.out.own.dk.lt _ h; omega, fun e => by have := S3.out.at_.lt; omega, S3.out.own.bl.size⟩
  rw [hW]
  clear hW S3 O2
  generalize w3.heap.size = g at *
  go_wp2_with fail
  go_loopw [10] (fun kv wr => ∃ k : Nat, kv = .int .i64 k ∧ k ≤ 128 ∧ Hid (FillR wr g g 128 k (rep ff) zeros) ∧ Hid (Sys 60 0 (fun _ => zeros) w wr F L B d)) (fun kv _ => 128 - (intOf kv).toNat)
  case atStart => exact ⟨0, rfl, by omega, R0, SW⟩
  case round =>
    clear R0 SW
    obtain ⟨k, rfl, hk, R, S⟩ := hrel
    by_cases hlt : k < 128
    · have hlt' : (k : Int) < 128 := by omega
      obtain ⟨u, hu⟩ := R.out.cell zeros_len (rep_len ff) hlt
      have hf := R.out.free k
      go_wp2
      have R2 := Lib.hid (R.out.step (rep_len ff) zeros_len (rep_get ff hlt))
      have S2 := Lib.hid (S.out.off (off1 wr g k (.int .u8 (ff.toNat : Int))) (fun i hi e => hF2.out.1 (e ▸ hi)) (fun e => hF2.out.2.1 e.symm) (fun i e => by have h : i = g := e; have := hF2.out.2.2; omega))
      clear hu hf
      go_roundw
      case rel => exact ⟨k + 1, by go_num, by omega, R2, S2⟩
      case measure => simp [intOf]; omega
    · have hlt' : ¬ (k : Int) < 128 := by omega
      obtain rfl : k = 128 := by omega
      have RD := Lib.hid (R.out.done (rep_len ff) zeros_len)
      have hgl : Hid (g < wr.heap.size) := Lib.hid (Array.getElem?_eq_some_iff.1 (row_blk RD.out).2.2.2.choose_spec).1
      have hB9 : Hid (BtAt wr (.slice (some ⟨g, 0, none⟩) (rep ff).length 128) (rep ff)) := Lib.hid (by rw [rep_len]; exact row_bt RD.out (rep_len ff))
      have PV := put_one wr 50 g 128 (rep ff) hB9.out (fun i hi => S.out.own.dk.lt i hi) hF2.out.1 hgl.out ⟨by decide, by decide⟩ (by rw [rep_len]; decide)
      rw [rep_len] at PV
      have S4 : Hid (Sys 60 0 (fun _ => zeros) w (wr.alloc (.cells #[.int .i64 50, .slice (some ⟨g, 0, none⟩) 128 128] 47)) F L B d) := Lib.hid (S.out.below (below_al0 _ _))
      have R4 := Lib.hid (Off.rowAt (.of_below (ex := fun _ => False) (below_al0 wr (.cells #[.int .i64 50, .slice (some ⟨g, 0, none⟩) 128 128] 47))) RD.out (fun h => h))
      have GC : Hid (GoodC d [(50, rep ff)]) := Lib.hid (goodc_one S.out.lg.alive (by decide) (by rw [S.out.lg.n]; decide) (rep_len ff))
      have h4s : Hid (g < (wr.alloc (.cells #[.int .i64 50, .slice (some ⟨g, 0, none⟩) 128 128] 47)).heap.size) := Lib.hid (Nat.lt_of_lt_of_le hgl.out (by unfold World.alloc; simp))
      replace PV := Lib.hid PV
      clear R RD S hB9 hlt hk
      go_upto_region 13 with (first
        | (go_at_call 13; refine (s_commit S4.out hl3.out (by decide) (by decide) (by decide) PV.out GC.out (by simp)).mono ?_; rintro e w5 ⟨F5, d5, rfl, S5, hl5, hi5⟩; have R5 := Lib.hid (row_keep R4.out hi5 hF2.out.1 hF2.out.2.1); have hF5 : Hid (¬ F5 g) := Lib.hid (fun h => (hi5.out _ h).elim hF2.out.1 (fun h => by have := h4s.out; omega)); replace S5 := Lib.hid S5; replace hl5 := Lib.hid hl5; clear hi5))
      have cb0 := row_u8 R5.out (rep_get ff (by decide : 0 < 128))
      have fb0 := (Byt.of R5.out (rep_len ff)).free 0
      go_upto_region 14 with fail
      obtain ⟨z0, hz0'⟩ := xor_u8 ff yy
      rw [hz0']
      have S6 := Lib.hid (S5.out.off (off1 w5 g 0 (.int .u8 (z0.toNat : Int))) (fun i hi e => hF5.out (e ▸ hi)) (fun e => hF2.out.2.1 e.symm) (fun i e => by have h : i = g := e; have := hF2.out.2.2; omega))
      clear cb0 fb0 hz0' S4 R4 PV GC h4s R5 S5
      generalize w5.setCell ⟨g, 0, none⟩ (.int .u8 (z0.toNat : Int)) = w6 at *
      have hσ : Hid (putF [((50 : Int), rep ff)] (fun _ => zeros) 50 = rep ff) := Lib.hid (by simp [putF, upd])
      go_wp2_with (first
        | (go_at_call 18; refine (s_read S6.out 50 (by decide) (by decide) (by decide)).mono ?_; rintro e w7 ⟨gx, cx, rfl, hr7, hb7⟩; rw [hσ.out] at hr7; replace hr7 := Lib.hid (Byt.of hr7 (rep_len ff)); have S7 := Lib.hid (S6.out.below hb7); have ng : Hid (w6.heap.size ≤ gx) := Lib.hid (by obtain ⟨_, _, h⟩ := hr7.out; exact (row_blk h).1); clear hb7))
      go_loopw [14] (fun kv wr => ∃ k : Nat, kv = .int .i64 k ∧ k ≤ 128 ∧ Hid (Byt wr w6.heap.size gx cx) ∧ Hid (Sys 60 1 (putF [((50 : Int), rep ff)] (fun _ => zeros)) w wr F5 L B d5)) (fun kv _ => 128 - (intOf kv).toNat)
      case atStart => exact ⟨0, rfl, by omega, hr7, S7⟩
      case round =>
        have nx : Hid (¬ F5 gx ∧ gx ≠ L ∧ w.heap.size ≤ gx) := Lib.hid (by
          have h1 := ng.out
          refine ⟨fun h => by have := S6.out.own.dk.lt _ h; omega, fun e => by have := S6.out.at_.lt; omega, by have := S6.out.own.bl.size; omega⟩)
        clear hr7 S7
        obtain ⟨k, rfl, hk, M, S⟩ := hrel
        by_cases hlt : k < 128
        · have hlt' : (k : Int) < 128 := by omega
          obtain ⟨u, hu⟩ := M.out.cell hlt
          have hf := M.out.free k
          go_wp2
          obtain ⟨zz, hzz⟩ := xor_u8 u yy
          rw [hzz]
          have M2 := Lib.hid (M.out.set (k := k) zz)
          have S2 := Lib.hid (S.out.off (off1 wr gx k (.int .u8 (zz.toNat : Int))) (fun i hi e => nx.out.1 (e ▸ hi)) (fun e => nx.out.2.1 e.symm) (fun i e => by have h : i = gx := e; have := nx.out.2.2; omega))
          clear hu hf hzz
          go_roundw
          case rel => exact ⟨k + 1, by go_num, by omega, M2, S2⟩
          case measure => simp [intOf]; omega
        · have hlt' : ¬ (k : Int) < 128 := by omega
          obtain rfl : k = 128 := by omega
          go_wp2_with (first
            | (go_at_call 18; refine (s_read S.out 50 (by decide) (by decide) (by decide)).mono ?_; rintro e w8 ⟨gy, cy, rfl, hr8, hb8⟩; rw [hσ.out] at hr8; replace hr8 := Lib.hid hr8; have B8 := Lib.hid (S.out.below hb8).own.bl; clear hb8))
          have B0 := B8
          go_loopw [17] (fun kv wr => ∃ k : Nat, kv = .int .i64 k ∧ k ≤ 128 ∧ wr = w8) (fun kv _ => 128 - (intOf kv).toNat)
          case atStart => exact ⟨0, rfl, by omega, rfl⟩
          case round =>
            obtain ⟨k, rfl, hk, rfl⟩ := hrel
            by_cases hlt : k < 128
            · have hlt' : (k : Int) < 128 := by omega
              have cu := row_u8 hr8.out (rep_get ff hlt)
              go_wp2
              clear cu
              go_roundw
              case rel => exact ⟨k + 1, by go_num, by omega, by trivial⟩
              case measure => simp [intOf]; omega
            · have hlt' : ¬ (k : Int) < 128 := by omega
              obtain rfl : k = 128 := by omega
              go_wp2_with fail
              go_ret
              exact ⟨rfl, B8.out⟩
end Go.Proofs.Ytpdjenkacefpjaa
