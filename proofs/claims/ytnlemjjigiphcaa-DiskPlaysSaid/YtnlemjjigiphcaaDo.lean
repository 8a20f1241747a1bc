/- DiskOwn: the law's walk. -/
import Derived.Test.YtnlemjjigiphcaaDh
import Derived.Laws.BitsAllLaws
import Derived.Laws.IdiomStrings
namespace Go.Proofs.Ytnlemjjigiphcaa
open Go.RowKit Go.ChangeShapes
set_option linter.unusedVariables false
set_option maxRecDepth 100000

/-- a row of a hundred and twenty-eight bytes, whatever they are -/
def Byt (w : World) (A g c : Nat) : Prop := ∃ b : Sec, b.length = 128 ∧ w.ownsRow A 5 1 (.slice (some ⟨g, 0, none⟩) 128 c) 128 (bys b)
theorem Byt.cell {w : World} {A g c k : Nat} (h : Byt w A g c) (hk : k < 128) : ∃ x : UInt8, w.cell? ⟨g, k, none⟩ = some (.int .u8 (x.toNat : Int)) := by
  obtain ⟨b, hl, hr⟩ := h
  exact ⟨b[k], row_u8 hr (List.getElem?_eq_getElem (by omega))⟩
theorem Byt.free {w : World} {A g c : Nat} (h : Byt w A g c) (j : Nat) : w.frozen? ⟨g, j, none⟩ = false := by
  obtain ⟨b, hl, hr⟩ := h
  obtain ⟨_, _, _, cs, hc⟩ := row_blk hr
  simp [World.frozen?, hc]
theorem Byt.set {w : World} {A g c k : Nat} (h : Byt w A g c) (x : UInt8) : Byt (w.setCell ⟨g, k, none⟩ (.int .u8 (x.toNat : Int))) A g c := by
  obtain ⟨b, hl, hr⟩ := h
  refine ⟨b.set k x, by simp [hl], ?_⟩
  have h1 := row_store hr k (.int .u8 (x.toNat : Int))
  have e : (bys b).set k (.int .u8 (x.toNat : Int)) = bys (b.set k x) := by unfold bys; rw [List.map_set]
  rw [e] at h1
  exact h1
theorem Byt.lt {w : World} {A g c : Nat} (h : Byt w A g c) : g < w.heap.size := by
  obtain ⟨b, hl, hr⟩ := h
  exact (Array.getElem?_eq_some_iff.1 (row_blk hr).2.2.2.choose_spec).1
theorem row_one (w : World) (x : UInt8) : (w.alloc (.cells #[.int .u8 (x.toNat : Int)] 5)).ownsRow w.heap.size 5 1 (.slice (some ⟨w.heap.size, 0, none⟩) 1 1) [x].length (bys [x]) :=
  ⟨rfl, .inr ⟨w.heap.size, 1, _, rfl, Nat.le_refl _, heap_alloc_new w _, Nat.le_refl _, by decide, rfl, rfl⟩⟩
/-- two disks and a row -/
structure Two (w wr : World) (F1 : Nat → Prop) (B1 : Nat) (d1 : Dk) (F2 : Nat → Prop) (B2 : Nat) (d2 : Dk) (A gx cx : Nat) (X : Sec) : Prop where
  o1 : Own w wr F1 B1 d1
  o2 : Own w wr F2 B2 d2
  x : wr.ownsRow A 5 1 (.slice (some ⟨gx, 0, none⟩) 128 cx) 128 (bys X)
theorem Two.below {w wr w' : World} {F1 : Nat → Prop} {B1 : Nat} {d1 : Dk} {F2 : Nat → Prop} {B2 : Nat} {d2 : Dk} {A gx cx : Nat} {X : Sec} (h : Two w wr F1 B1 d1 F2 B2 d2 A gx cx X) (hb : Below wr.heap.size wr w') : Two w w' F1 B1 d1 F2 B2 d2 A gx cx X :=
  ⟨h.o1.below hb, h.o2.below hb, Off.row (.of_below (ex := fun _ => False) hb) h.x (fun _ h => h.elim)⟩
theorem Two.set {w wr : World} {F1 : Nat → Prop} {B1 : Nat} {d1 : Dk} {F2 : Nat → Prop} {B2 : Nat} {d2 : Dk} {A gx cx g : Nat} {X : Sec} (h : Two w wr F1 B1 d1 F2 B2 d2 A gx cx X) (hn : ¬ F1 g ∧ ¬ F2 g ∧ g ≠ gx ∧ w.heap.size ≤ g) (k : Nat) (v : Value) : Two w (wr.setCell ⟨g, k, none⟩ v) F1 B1 d1 F2 B2 d2 A gx cx X :=
  ⟨h.o1.off (off1 wr g k v) (fun j hj e => hn.1 (e ▸ hj)) (fun j e => e ▸ hn.2.2.2), h.o2.off (off1 wr g k v) (fun j hj e => hn.2.1 (e ▸ hj)) (fun j e => e ▸ hn.2.2.2), Off.rowAt (off1 wr g k v) h.x (fun e => hn.2.2.1 e.symm)⟩
theorem xor_u8 (a b : UInt8) : ∃ z : UInt8, bits .xor .u8 (a.toNat : Int) (b.toNat : Int) = (z.toNat : Int) := by
  refine ⟨UInt8.ofNat (a.toNat ^^^ b.toNat), ?_⟩
  have h1 := a.toNat_lt
  have h2 := b.toNat_lt
  rw [u8_xor_nat _ _ h1 h2, UInt8.toNat_ofNat', Nat.mod_eq_of_lt (Nat.xor_lt_two_pow (n := 8) h1 h2)]
theorem A.underS : Try.prog.underlying 9 = some .string := by kernel_rfl
theorem A.underU : Try.prog.underlying 5 = some (.int .u8) := by kernel_rfl
theorem str_at {w : World} {ad : Addr} {n c : Nat} {b : Sec} (h : BtAt w (.slice (some ad) n c) b) : Sem.run Try.prog (convert 22 9 (.slice (some ad) n c)) w = .ok (.string ⟨b.toArray⟩) w := by
  obtain ⟨ad', c', e, h1, h2, h3, h4⟩ := h
  cases e
  refine run_convert_bytes_back w _ _ 5 ad _ b A.underB A.underU A.underS (fun j hj => ?_)
  obtain ⟨g, o, e, hc⟩ := h4 j _ (List.getElem?_eq_getElem hj)
  cases e
  rw [Addr.add_lit]
  exact hc
theorem row_empty (w : World) : (w.alloc (.cells #[] 5)).ownsRow w.heap.size 5 1 (.slice (some ⟨w.heap.size, 0, none⟩) 0 0) ([] : Sec).length (bys []) :=
  ⟨rfl, .inr ⟨w.heap.size, 0, _, rfl, Nat.le_refl _, heap_alloc_new w _, Nat.le_refl _, by decide, rfl, rfl⟩⟩
set_option maxHeartbeats 4000000 in
theorem law_DiskOwn (w : World) (v : Value) (b : Sec) (hv : BtAt w v b) (hL : b.length ≤ 140737488351232) (y : Int) (hy0 : 0 ≤ y) (hy1 : y ≤ 255) : Calls Try.prog 4 #[v, .int .u8 y] w fun e w' => e = .returned (.bool true) ∧ Below w.heap.size w w' := by
  obtain ⟨yy, rfl⟩ : ∃ yy : UInt8, y = (yy.toNat : Int) := ⟨UInt8.ofNat y.toNat, by rw [UInt8.toNat_ofNat']; omega⟩
  have HV := Lib.hid hv
  replace hL := Lib.hid hL
  clear hv
  obtain ⟨ad, c, n, hvq⟩ : ∃ ad c n, v = .slice ad n c := by obtain ⟨ad, c, e, _⟩ := HV.out; exact ⟨ad, c, _, e⟩
  subst hvq
  have hmk := A.mk128
  go_enter Try.func4, Try.ntmps4
  obtain ⟨X, hX⟩ : ∃ X : Sec, secB ([3] ++ b) = X := ⟨_, rfl⟩
  have hXB := Lib.hid hX
  clear hX
  have hnl : ([3] ++ b).length = 1 + b.length := by simp; omega
  by_cases hX8 : X.length = 128
  · by_cases hyz : yy.toNat = 0
    · have hz0 : ((yy.toNat : Int) == 0) = true := by rw [hyz]; rfl
      replace hyz := Lib.hid hyz
      replace hX8 := Lib.hid hX8
      clear hnl
      go_wp2_with (first
    | (go_at_call 8; refine (c_known w).mono ?_; rintro e w1 ⟨rfl, hb1⟩; replace hb1 := Lib.hid hb1)
    | (at_builtin; refine wpList_append_bytes (o := ⟨some 24, _, _, _, _, _⟩) ?_ (.tmp 22) (.tmp 23) ?_ w1.heap.size (.slice (some ⟨w1.heap.size, 0, none⟩) 1 1) [3] ?_ (row_one w1 3) (.slice ad n c) b ?_ (HV.out.off (ex := fun _ => False) (.of_below (below_al hb1.out _)) (fun _ _ _ _ h => h)) ?_ ?_ ?_; exact rfl; exact rfl; exact rfl; exact rfl; (have := hL.out; simp; omega); (simp); intro v' w2 hr2 ho2 hq2; have hz2 : Hid (w1.heap.size ≤ w2.heap.size) := Lib.hid (Nat.le_trans (by simp) ho2.size); have hb2 : Hid (Below w.heap.size w w2) := Lib.hid (Off.below (below_al hb1.out _) ho2 (below_al hb1.out _).size (fun k hk => by have := hb1.out.size; cases hk; exact this)); replace hr2 := Lib.hid hr2; clear ho2 hq2)
    | (go_at_call 14; refine (c_sector_own w2 w1.heap.size v' ([3] ++ b) hr2.out (by simp) hz2.out).mono ?_; rintro e w3 ⟨gx, cx, rfl, hx3, hb3⟩; rw [hXB.out, hX8.out] at hx3 ⊢; replace hx3 := Lib.hid hx3; replace hb3 := Lib.hid (below2 hb2.out hb3)))
      go_ret
      exact ⟨rfl, hb3.out⟩
    · have hz0 : ((yy.toNat : Int) == 0) = false := by rw [beq_eq_false_iff_ne]; omega
      clear hyz
      replace hX8 := Lib.hid hX8
      clear hnl
      go_wp2_with (first
    | (go_at_call 8; refine (c_known w).mono ?_; rintro e w1 ⟨rfl, hb1⟩; replace hb1 := Lib.hid hb1)
    | (at_builtin; refine wpList_append_bytes (o := ⟨some 24, _, _, _, _, _⟩) ?_ (.tmp 22) (.tmp 23) ?_ w1.heap.size (.slice (some ⟨w1.heap.size, 0, none⟩) 1 1) [3] ?_ (row_one w1 3) (.slice ad n c) b ?_ (HV.out.off (ex := fun _ => False) (.of_below (below_al hb1.out _)) (fun _ _ _ _ h => h)) ?_ ?_ ?_; exact rfl; exact rfl; exact rfl; exact rfl; (have := hL.out; simp; omega); (simp); intro v' w2 hr2 ho2 hq2; have hz2 : Hid (w1.heap.size ≤ w2.heap.size) := Lib.hid (Nat.le_trans (by simp) ho2.size); have hb2 : Hid (Below w.heap.size w w2) := Lib.hid (Off.below (below_al hb1.out _) ho2 (below_al hb1.out _).size (fun k hk => by have := hb1.out.size; cases hk; exact this)); replace hr2 := Lib.hid hr2; clear ho2 hq2)
    | (go_at_call 14; refine (c_sector_own w2 w1.heap.size v' ([3] ++ b) hr2.out (by simp) hz2.out).mono ?_; rintro e w3 ⟨gx, cx, rfl, hx3, hb3⟩; rw [hXB.out, hX8.out] at hx3 ⊢; replace hx3 := Lib.hid hx3; replace hb3 := Lib.hid (below2 hb2.out hb3)))
      have hgx : Hid (gx < w3.heap.size) := Lib.hid (Array.getElem?_eq_some_iff.1 (row_blk hx3.out).2.2.2.choose_spec).1
      refine (c_New 4 w3 (by decide) (by decide)).mono ?_
      rintro e w4 ⟨B1, F1, rfl, hD, hF, hb⟩
      have O4 : Hid (Own w w4 F1 B1 (Dk.new 4)) := Lib.hid ⟨hD, fun g hg => Nat.le_trans hb3.out.size (hF g hg), below2 hb3.out hb⟩
      have hF1 := Lib.hid hF
      have hb4 := Lib.hid hb
      clear hD hF hb
      go_wp2_with fail
      refine (c_New 4 w4 (by decide) (by decide)).mono ?_
      rintro e w5 ⟨B2, F2, rfl, hD, hF, hb⟩
      have P5 : Hid (Own w w5 F2 B2 (Dk.new 4)) := Lib.hid ⟨hD, fun g hg => Nat.le_trans O4.out.bl.size (hF g hg), below2 O4.out.bl hb⟩
      have hF2 := Lib.hid hF
      have hb5 := Lib.hid hb
      have O5 := Lib.hid (O4.out.below hb)
      clear hD hF hb
      have x5 := Lib.hid (hx3.out |> fun h => Off.row (.of_below (ex := fun _ => False) (below2 hb4.out hb5.out)) h (fun _ h => h.elim))
      have hE : Hid (writeR (Dk.new 4) 2 X = (⟨4, [], [(2, X)], 0, false, 1⟩, 0)) := Lib.hid (by
        unfold writeR
        rw [if_neg (by decide), if_pos (by rw [hX8.out]; rfl)]
        rfl)
      have XB5 := Lib.hid (row_bt x5.out hX8.out)
      go_wp2_with (first
        | (at_builtin; refine wpList_append_bytes (o := ⟨some 43, _, _, _, _, _⟩) ?_ (.tmp 41) (.tmp 42) ?_ w5.heap.size (.slice (some ⟨w5.heap.size, 0, none⟩) 0 0) [] ?_ (row_empty w5) (.slice (some ⟨gx, 0, none⟩) 128 cx) X ?_ (XB5.out.below (below_al0 _ _)) ?_ ?_ ?_; exact rfl; exact rfl; exact rfl; exact rfl; (rw [hX8.out]; decide); (simp); intro vm w6 hm6 ho6 hqm; have hb6 : Hid (Below w5.heap.size w5 w6) := Lib.hid (Off.below (below_al0 w5 _) ho6 (below_al0 w5 _).size (fun k hk => by cases hk; exact Nat.le_refl _)); rw [List.nil_append] at hm6; unfold RowB at hm6; rw [hX8.out] at hm6; obtain ⟨gm, cm, hqv⟩ := row_some hm6 (by decide); subst hqv; replace hm6 := Lib.hid hm6; clear ho6 hqm; have O6 := Lib.hid (O5.out.below hb6.out); have P6 := Lib.hid (P5.out.below hb6.out); have x6 := Lib.hid (Off.row (.of_below (ex := fun _ => False) hb6.out) x5.out (fun _ h => h.elim)))
        | (go_at_call 10; refine (c_Write w6 B1 _ 2 _ X O6.out.dk ⟨by decide, by decide⟩ (row_bt hm6.out hX8.out) (by rw [hX8.out]; decide)).mono ?_; rintro e w7 hwd; obtain ⟨rfl, ht⟩ := hwd.to hE.out; obtain ⟨F3, O7, hF3, ho7⟩ := O6.out.turn ht; replace O7 := Lib.hid O7; replace hF3 := Lib.hid hF3; replace ho7 := Lib.hid ho7; clear hwd ht))
      have P7 := Lib.hid (P6.out.off ho7.out (fun g hg h1 => by have h2 := hF2.out g hg; have h3 := O4.out.dk.lt g h1; omega) O6.out.lo)
      have hgm : Hid (w5.heap.size ≤ gm ∧ gm < w6.heap.size) := Lib.hid ⟨(row_blk hm6.out).1, (Array.getElem?_eq_some_iff.1 (row_blk hm6.out).2.2.2.choose_spec).1⟩
      have nF1 : Hid (∀ g, F1 g → w3.heap.size ≤ g ∧ g < w4.heap.size) := Lib.hid (fun g hg => ⟨hF1.out g hg, O4.out.dk.lt g hg⟩)
      have nF2 : Hid (∀ g, F2 g → w4.heap.size ≤ g ∧ g < w5.heap.size) := Lib.hid (fun g hg => ⟨hF2.out g hg, P5.out.dk.lt g hg⟩)
      have hs : Hid (w.heap.size ≤ w3.heap.size ∧ w3.heap.size ≤ w4.heap.size ∧ w4.heap.size ≤ w5.heap.size ∧ w5.heap.size ≤ w6.heap.size ∧ w6.heap.size ≤ w7.heap.size) := Lib.hid ⟨hb3.out.size, hb4.out.size, hb5.out.size, hb6.out.size, ho7.out.size⟩
      have m7 : Hid (Byt w7 w5.heap.size gm cm) := Lib.hid ⟨X, hX8.out, Off.rowAt ho7.out hm6.out (fun h => by have := nF1.out _ h; have := hgm.out; have := hs.out; omega)⟩
      have x7 := Lib.hid (Off.rowAt ho7.out x6.out (fun h => by have := nF1.out _ h; have := hgx.out; omega))
      have T7 : Hid (Two w w7 F3 B1 ⟨4, [], [(2, X)], 0, false, 1⟩ F2 B2 (Dk.new 4) w1.heap.size gx cx X) := Lib.hid ⟨O7.out, P7.out, x7.out⟩
      have nm : Hid (¬ F3 gm ∧ ¬ F2 gm ∧ gm ≠ gx ∧ w.heap.size ≤ gm) := Lib.hid ⟨fun h => by have := nF1.out gm; have := hgm.out; have := hs.out; rcases hF3.out _ h with h | h; have := nF1.out gm h; omega; omega, fun h => by have := nF2.out _ h; have := hgm.out; omega, by have := hgm.out; have := hgx.out; have := hs.out; omega, by have := hgm.out; have := hs.out; omega⟩
      clear O4 P5 O5 x5 XB5 O6 P6 x6 O7 P7 x7 hE hr2 hx3 hm6
      go_loopw [12] (fun kv wr => ∃ k : Nat, kv = .int .i64 k ∧ k ≤ 128 ∧ Hid (Byt wr w5.heap.size gm cm) ∧ Hid (Two w wr F3 B1 ⟨4, [], [(2, X)], 0, false, 1⟩ F2 B2 (Dk.new 4) w1.heap.size gx cx X)) (fun kv _ => 128 - (intOf kv).toNat)
      case atStart => exact ⟨0, rfl, by omega, m7, T7⟩
      case round =>
        clear m7 T7
        obtain ⟨k, rfl, hk, M, T⟩ := hrel
        by_cases hlt : k < 128
        · have hlt' : (k : Int) < 128 := by omega
          obtain ⟨u, hu⟩ := M.out.cell hlt
          have hf := M.out.free k
          go_wp2
          obtain ⟨zz, hzz⟩ := xor_u8 u yy
          rw [hzz]
          have M2 := Lib.hid (M.out.set (k := k) zz)
          have T2 := Lib.hid (T.out.set nm.out k (.int .u8 (zz.toNat : Int)))
          clear hu hf hzz
          go_roundw
          case rel => exact ⟨k + 1, by go_num, by omega, M2, T2⟩
          case measure => simp [intOf]; omega
        · have hlt' : ¬ (k : Int) < 128 := by omega
          obtain rfl : k = 128 := by omega
          go_wp2_with fail
          refine (c_Read wr B1 _ 2 T.out.o1.dk ⟨by decide, by decide⟩).mono ?_
          rintro e w8 hrd
          obtain ⟨gy, cy, rfl, hy8, hb8⟩ := hrd.ok (b := X) rfl rfl hX8.out
          clear hrd
          have Y8 : Hid (Byt w8 wr.heap.size gy cy) := Lib.hid ⟨X, hX8.out, hy8⟩
          have hgy0 : Hid (wr.heap.size ≤ gy) := Lib.hid (row_blk hy8).1
          obtain ⟨q8, hq8, Y8⟩ : ∃ q8, wr.heap.size = q8 ∧ Hid (Byt w8 q8 gy cy) := ⟨_, rfl, Y8⟩
          clear hq8 hgy0
          have T8 := Lib.hid (T.out.below hb8)
          have hgy : Hid (wr.heap.size ≤ gy) := Lib.hid (row_blk hy8).1
          have ny : Hid (¬ F3 gy ∧ ¬ F2 gy ∧ gy ≠ gx ∧ w.heap.size ≤ gy) := Lib.hid ⟨fun h => by have := T.out.o1.dk.lt gy h; have := hgy.out; omega, fun h => by have := T.out.o2.dk.lt gy h; have := hgy.out; omega, by have := (Array.getElem?_eq_some_iff.1 (row_blk T.out.x).2.2.2.choose_spec).1; have := hgy.out; omega, Nat.le_trans T.out.o1.bl.size hgy.out⟩
          clear M hy8 hb8
          go_wp2_with fail
          go_loopw [15] (fun kv wr => ∃ k : Nat, kv = .int .i64 k ∧ k ≤ 128 ∧ Hid (Byt wr q8 gy cy) ∧ Hid (Two w wr F3 B1 ⟨4, [], [(2, X)], 0, false, 1⟩ F2 B2 (Dk.new 4) w1.heap.size gx cx X)) (fun kv _ => 128 - (intOf kv).toNat)
          case atStart => exact ⟨0, rfl, by omega, Y8, T8⟩
          case round =>
            clear Y8 T8 T
            obtain ⟨k, rfl, hk, M, T⟩ := hrel
            by_cases hlt : k < 128
            · have hlt' : (k : Int) < 128 := by omega
              obtain ⟨u, hu⟩ := M.out.cell hlt
              have hf := M.out.free k
              go_wp2
              obtain ⟨zz, hzz⟩ := xor_u8 u yy
              rw [hzz]
              have M2 := Lib.hid (M.out.set (k := k) zz)
              have T2 := Lib.hid (T.out.set ny.out k (.int .u8 (zz.toNat : Int)))
              clear hu hf hzz
              go_roundw
              case rel => exact ⟨k + 1, by go_num, by omega, M2, T2⟩
              case measure => simp [intOf]; omega
            · have hlt' : ¬ (k : Int) < 128 := by omega
              obtain rfl : k = 128 := by omega
              go_wp2_with fail
              refine (c_Read wr B1 _ 2 T.out.o1.dk ⟨by decide, by decide⟩).mono ?_
              rintro e w9 hrd
              obtain ⟨gz, cz, rfl, hz9, hb9⟩ := hrd.ok (b := X) rfl rfl hX8.out
              have Z9 := Lib.hid (row_bt hz9 hX8.out)
              have T9 := Lib.hid (T.out.below hb9)
              clear hrd hz9 hb9 M T
              go_wp2_with fail
              refine (c_Read w9 B2 _ 2 T9.out.o2.dk ⟨by decide, by decide⟩).mono ?_
              rintro e wa hrd
              obtain ⟨gv, cv, rfl, hza, hba⟩ := hrd.ok (b := zeros) rfl rfl zeros_len
              have Va := Lib.hid (row_bt hza zeros_len)
              have Za := Lib.hid (Z9.out.below hba)
              have Ta := Lib.hid (T9.out.below hba)
              have Xa := Lib.hid (row_bt Ta.out.x hX8.out)
              clear hrd hza hba Z9 T9
              have kz : ∀ w', Below wa.heap.size wa w' → Sem.run Try.prog (convert 22 9 (.slice (some ⟨gz, 0, none⟩) 128 cz)) w' = .ok (.string ⟨X.toArray⟩) w' := fun w' h => str_at (Za.out.below h)
              have kx : ∀ w', Below wa.heap.size wa w' → Sem.run Try.prog (convert 22 9 (.slice (some ⟨gx, 0, none⟩) 128 cx)) w' = .ok (.string ⟨X.toArray⟩) w' := fun w' h => str_at (Xa.out.below h)
              have kv : ∀ w', Below wa.heap.size wa w' → Sem.run Try.prog (convert 22 9 (.slice (some ⟨gv, 0, none⟩) 128 cv)) w' = .ok (.string ⟨zeros.toArray⟩) w' := fun w' h => str_at (Va.out.below h)
              have km : Sem.run Try.prog (convert 22 9 (.slice (some ⟨wa.heap.size, 0, none⟩) 128 128)) (wa.alloc (.cells (bys zeros).toArray 5)).drew = .ok (.string ⟨zeros.toArray⟩) (wa.alloc (.cells (bys zeros).toArray 5)).drew := str_at ((row_bt (row_zeros wa wa.heap.size (Nat.le_refl _)) zeros_len).below (below_drew (Below.refl _ _)))
              go_wp2_with fail
              refine wp_region_held_drew (S := fun w' => Below wa.heap.size wa w') (by kernel_rfl) ?_ (fun hHeld => ?_)
              · exact below_drew (Below.refl _ _)
              refine wpAnyH_take (i := 0) (oi := ⟨_, _, _, _, _, _⟩) (v := ?_) rfl (by kernel_rfl) (by kernel_rfl) (by kernel_rfl) (fun _ _ _ h => h) (Or.inl ⟨by rfl, ?_⟩) (by assumption) ?_
              rotate_left
              · intro w hSw; (try dsimp only at hSw); go_simp; (try with_reducible rfl)
              try simp only [Act.put, List.setIfInBounds_toArray, List.set_cons_zero, List.set_cons_succ]
              refine wpAnyH_take (i := 1) (oi := ⟨_, _, _, _, _, _⟩) (v := ?_) rfl (by kernel_rfl) (by kernel_rfl) (by kernel_rfl) (fun _ _ _ h => h) (Or.inl ⟨by rfl, ?_⟩) (by assumption) ?_
              rotate_left
              · intro w hSw; (try dsimp only at hSw); go_simp; (try with_reducible rfl)
              try simp only [Act.put, List.setIfInBounds_toArray, List.set_cons_zero, List.set_cons_succ]
              refine wpAnyH_take (i := 2) (oi := ⟨_, _, _, _, _, _⟩) (v := ?_) rfl (by kernel_rfl) (by kernel_rfl) (by kernel_rfl) (fun _ _ _ h => h) (Or.inl ⟨by rfl, ?_⟩) (by assumption) ?_
              rotate_left
              · intro w hSw; (try dsimp only at hSw); go_simp; (try with_reducible rfl)
              try simp only [Act.put, List.setIfInBounds_toArray, List.set_cons_zero, List.set_cons_succ]
              refine wpAnyH_take (i := 3) (oi := ⟨_, _, _, _, _, _⟩) (v := ?_) rfl (by kernel_rfl) (by kernel_rfl) (by kernel_rfl) (fun _ _ _ h => h) (Or.inl ⟨by rfl, ?_⟩) (by assumption) ?_
              rotate_left
              · intro w hSw; (try dsimp only at hSw); go_simp; (try with_reducible rfl)
              try simp only [Act.put, List.setIfInBounds_toArray, List.set_cons_zero, List.set_cons_succ]
              refine wpAnyH_take (i := 4) (oi := ⟨_, _, _, _, _, _⟩) (v := ?_) rfl (by kernel_rfl) (by kernel_rfl) (by kernel_rfl) (fun _ _ _ h => h) (Or.inl ⟨by rfl, ?_⟩) (by assumption) ?_
              rotate_left
              · intro w hSw; (try dsimp only at hSw); go_simp; (try with_reducible rfl)
              try simp only [Act.put, List.setIfInBounds_toArray, List.set_cons_zero, List.set_cons_succ]
              refine wpAnyH_take (i := 5) (oi := ⟨_, _, _, _, _, _⟩) (v := ?_) rfl (by kernel_rfl) (by kernel_rfl) (by kernel_rfl) (fun _ _ _ h => h) (Or.inl ⟨by rfl, ?_⟩) (by assumption) ?_
              rotate_left
              · intro w hSw; (try dsimp only at hSw); go_simp; (try with_reducible rfl)
              try simp only [Act.put, List.setIfInBounds_toArray, List.set_cons_zero, List.set_cons_succ]
              refine wpAnyH_take (i := 6) (oi := ⟨_, _, _, _, _, _⟩) (v := ?_) rfl (by kernel_rfl) (by kernel_rfl) (by kernel_rfl) (fun _ _ _ h => h) (Or.inl ⟨by rfl, ?_⟩) (by assumption) ?_
              rotate_left
              · intro w hSw; (try dsimp only at hSw); go_simp; (try with_reducible rfl)
              try simp only [Act.put, List.setIfInBounds_toArray, List.set_cons_zero, List.set_cons_succ]
              refine wpAnyH_take (i := 7) (oi := ⟨_, _, _, _, _, _⟩) (v := ?_) rfl (by kernel_rfl) (by kernel_rfl) (by kernel_rfl) (fun _ _ _ h => h) (Or.inl ⟨by rfl, ?_⟩) (by assumption) ?_
              rotate_left
              · intro w hSw; (try dsimp only at hSw); go_simp; (try with_reducible rfl)
              try simp only [Act.put, List.setIfInBounds_toArray, List.set_cons_zero, List.set_cons_succ]
              refine wpAnyH_take (i := 8) (oi := ⟨_, _, _, _, _, _⟩) (v := ?_) rfl (by kernel_rfl) (by kernel_rfl) (by kernel_rfl) (fun _ _ _ h => h) (Or.inl ⟨by rfl, ?_⟩) (by assumption) ?_
              rotate_left
              · intro w hSw; (try dsimp only at hSw); go_simp; (try with_reducible rfl)
              try simp only [Act.put, List.setIfInBounds_toArray, List.set_cons_zero, List.set_cons_succ]
              refine wpAnyH_take (i := 9) (oi := ⟨_, _, _, _, _, _⟩) (v := ?_) rfl (by kernel_rfl) (by kernel_rfl) (by kernel_rfl) (fun _ _ _ h => h) (Or.inl ⟨by rfl, ?_⟩) (by assumption) ?_
              rotate_left
              · intro w hSw; (try dsimp only at hSw); go_simp; (try with_reducible rfl)
              try simp only [Act.put, List.setIfInBounds_toArray, List.set_cons_zero, List.set_cons_succ]
              refine wpAnyH_take (i := 10) (oi := ⟨_, _, _, _, _, _⟩) (v := ?_) rfl (by kernel_rfl) (by kernel_rfl) (by kernel_rfl) (fun _ _ _ h => h) (Or.inl ⟨by rfl, ?_⟩) (by assumption) ?_
              rotate_left
              · intro w hSw; (try dsimp only at hSw); go_simp; (try with_reducible rfl)
              try simp only [Act.put, List.setIfInBounds_toArray, List.set_cons_zero, List.set_cons_succ]
              refine wpAnyH_take (i := 11) (oi := ⟨_, _, _, _, _, _⟩) (v := ?_) rfl (by kernel_rfl) (by kernel_rfl) (by kernel_rfl) (fun _ _ _ h => h) (Or.inl ⟨by rfl, ?_⟩) (by assumption) ?_
              rotate_left
              · intro w hSw; (try dsimp only at hSw); go_simp; (try with_reducible rfl)
              try simp only [Act.put, List.setIfInBounds_toArray, List.set_cons_zero, List.set_cons_succ]
              refine wpAnyH_take (i := 12) (oi := ⟨_, _, _, _, _, _⟩) (v := ?_) rfl (by kernel_rfl) (by kernel_rfl) (by kernel_rfl) (fun _ _ _ h => h) (Or.inl ⟨by rfl, ?_⟩) (by assumption) ?_
              rotate_left
              · intro w hSw; (try dsimp only at hSw); go_simp; (try with_reducible rfl)
              try simp only [Act.put, List.setIfInBounds_toArray, List.set_cons_zero, List.set_cons_succ]
              refine wpAnyH_take (i := 13) (oi := ⟨_, _, _, _, _, _⟩) (v := ?_) rfl (by kernel_rfl) (by kernel_rfl) (by kernel_rfl) (fun _ _ _ h => h) (Or.inl ⟨by rfl, ?_⟩) (by assumption) ?_
              rotate_left
              · intro w hSw; (try dsimp only at hSw); go_simp; (try with_reducible rfl)
              try simp only [Act.put, List.setIfInBounds_toArray, List.set_cons_zero, List.set_cons_succ]
              refine wpAnyH_take (i := 14) (oi := ⟨_, _, _, _, _, _⟩) (v := ?_) rfl (by kernel_rfl) (by kernel_rfl) (by kernel_rfl) (fun _ _ _ h => h) (Or.inl ⟨by rfl, ?_⟩) (by assumption) ?_
              rotate_left
              · intro w hSw; (try dsimp only at hSw); go_simp; (try with_reducible rfl)
              try simp only [Act.put, List.setIfInBounds_toArray, List.set_cons_zero, List.set_cons_succ]
              refine wpAnyH_take (i := 15) (oi := ⟨_, _, _, _, _, _⟩) (v := ?_) rfl (by kernel_rfl) (by kernel_rfl) (by kernel_rfl) (fun _ _ _ h => h) (Or.inl ⟨by rfl, ?_⟩) (by assumption) ?_
              rotate_left
              · intro w hSw; (try dsimp only at hSw); go_simp; (try with_reducible rfl)
              try simp only [Act.put, List.setIfInBounds_toArray, List.set_cons_zero, List.set_cons_succ]
              refine wpAnyH_take (i := 16) (oi := ⟨_, _, _, _, _, _⟩) (v := ?_) rfl (by kernel_rfl) (by kernel_rfl) (by kernel_rfl) (fun _ _ _ h => h) (Or.inl ⟨by rfl, ?_⟩) (by assumption) ?_
              rotate_left
              · intro w hSw; (try dsimp only at hSw); go_simp; (try with_reducible rfl)
              try simp only [Act.put, List.setIfInBounds_toArray, List.set_cons_zero, List.set_cons_succ]
              refine wpAnyH_take (i := 17) (oi := ⟨_, _, _, _, _, _⟩) (v := ?_) rfl (by kernel_rfl) (by kernel_rfl) (by kernel_rfl) (fun _ _ _ h => h) (Or.inl ⟨by rfl, ?_⟩) (by assumption) ?_
              rotate_left
              · intro w hSw; (try dsimp only at hSw); go_simp; (try with_reducible rfl)
              try simp only [Act.put, List.setIfInBounds_toArray, List.set_cons_zero, List.set_cons_succ]
              refine wpAnyH_take (i := 18) (oi := ⟨_, _, _, _, _, _⟩) (v := ?_) rfl (by kernel_rfl) (by kernel_rfl) (by kernel_rfl) (fun _ _ _ h => h) (Or.inl ⟨by rfl, ?_⟩) (by assumption) ?_
              rotate_left
              · intro w hSw; (try dsimp only at hSw); go_simp; (try with_reducible rfl)
              try simp only [Act.put, List.setIfInBounds_toArray, List.set_cons_zero, List.set_cons_succ]
              refine wpAnyH_take (i := 19) (oi := ⟨_, _, _, _, _, _⟩) (v := ?_) rfl (by kernel_rfl) (by kernel_rfl) (by kernel_rfl) (fun _ _ _ h => h) (Or.inl ⟨by rfl, ?_⟩) (by assumption) ?_
              rotate_left
              · intro w hSw; (try dsimp only at hSw); go_simp; (try with_reducible rfl)
              try simp only [Act.put, List.setIfInBounds_toArray, List.set_cons_zero, List.set_cons_succ]
              refine wpAnyH_take (i := 20) (oi := ⟨_, _, _, _, _, _⟩) (v := ?_) rfl (by kernel_rfl) (by kernel_rfl) (by kernel_rfl) (fun _ _ _ h => h) (Or.inl ⟨by rfl, ?_⟩) (by assumption) ?_
              rotate_left
              · intro w hSw; (try dsimp only at hSw); go_simp; (try with_reducible rfl)
              try simp only [Act.put, List.setIfInBounds_toArray, List.set_cons_zero, List.set_cons_succ]
              refine wpAnyH_take (i := 21) (oi := ⟨_, _, _, _, _, _⟩) (v := ?_) rfl (by kernel_rfl) (by kernel_rfl) (by kernel_rfl) (fun _ _ _ h => h) (Or.inl ⟨by rfl, ?_⟩) (by assumption) ?_
              rotate_left
              · intro w hSw; (try dsimp only at hSw); go_simp; (try with_reducible rfl)
              try simp only [Act.put, List.setIfInBounds_toArray, List.set_cons_zero, List.set_cons_succ]
              refine wpAnyH_take (i := 22) (oi := ⟨_, _, _, _, _, _⟩) (v := ?_) rfl (by kernel_rfl) (by kernel_rfl) (by kernel_rfl) (fun _ _ _ h => h) (Or.inl ⟨by rfl, ?_⟩) (by assumption) ?_
              rotate_left
              · intro w hSw; (try dsimp only at hSw); go_simp; (try with_reducible rfl)
              try simp only [Act.put, List.setIfInBounds_toArray, List.set_cons_zero, List.set_cons_succ]
              refine wpAnyH_take (i := 23) (oi := ⟨_, _, _, _, _, _⟩) (v := ?_) rfl (by kernel_rfl) (by kernel_rfl) (by kernel_rfl) (fun _ _ _ h => h) (Or.inl ⟨by rfl, ?_⟩) (by assumption) ?_
              rotate_left
              · intro w hSw; (try dsimp only at hSw); go_simp; (try with_reducible rfl)
              try simp only [Act.put, List.setIfInBounds_toArray, List.set_cons_zero, List.set_cons_succ]
              refine wpAnyH_take (i := 24) (oi := ⟨_, _, _, _, _, _⟩) (v := ?_) rfl (by kernel_rfl) (by kernel_rfl) (by kernel_rfl) (fun _ _ _ h => h) (Or.inl ⟨by rfl, ?_⟩) (by assumption) ?_
              rotate_left
              · intro w hSw; (try dsimp only at hSw); go_simp; (try with_reducible rfl)
              try simp only [Act.put, List.setIfInBounds_toArray, List.set_cons_zero, List.set_cons_succ]
              refine wpAnyH_take (i := 25) (oi := ⟨_, _, _, _, _, _⟩) (v := ?_) rfl (by kernel_rfl) (by kernel_rfl) (by kernel_rfl) (fun _ _ _ h => h) (Or.inl ⟨by rfl, ?_⟩) (by assumption) ?_
              rotate_left
              · intro w hSw; (try dsimp only at hSw); go_simp; (try with_reducible rfl)
              try simp only [Act.put, List.setIfInBounds_toArray, List.set_cons_zero, List.set_cons_succ]
              refine wpAnyH_take (i := 26) (oi := ⟨_, _, _, _, _, _⟩) (v := ?_) rfl (by kernel_rfl) (by kernel_rfl) (by kernel_rfl) (fun _ _ _ h => h) (Or.inl ⟨by rfl, ?_⟩) (by assumption) ?_
              rotate_left
              · intro w hSw; (try dsimp only at hSw); go_simp; (try with_reducible rfl)
              try simp only [Act.put, List.setIfInBounds_toArray, List.set_cons_zero, List.set_cons_succ]
              refine wpAnyH_take (i := 27) (oi := ⟨_, _, _, _, _, _⟩) (v := ?_) rfl (by kernel_rfl) (by kernel_rfl) (by kernel_rfl) (fun _ _ _ h => h) (Or.inl ⟨by rfl, ?_⟩) (by assumption) ?_
              rotate_left
              · intro w hSw; (try dsimp only at hSw); go_simp; (try with_reducible rfl)
              try simp only [Act.put, List.setIfInBounds_toArray, List.set_cons_zero, List.set_cons_succ]
              refine wpAnyH_ready (rs := [28]) (by kernel_rfl) (by simp) (AllReadyH.cons (o := ⟨_, _, _, _, _, _⟩) rfl (fun K hK => ?_) AllReadyH.nil)
              go_simp
              refine hK.out _ _ ?_ (fun hHeld => ?_)
              · (repeat (with_reducible first | exact Below.refl _ _ | refine below_drew ?_ | exact below_al0 _ _))
              clear hK K
              try simp only [Act.put, List.setIfInBounds_toArray, List.set_cons_zero, List.set_cons_succ]
              refine wpAnyH_ready (rs := [29]) (by kernel_rfl) (by simp) (AllReadyH.cons (o := ⟨_, _, _, _, _, _⟩) rfl (fun K hK => ?_) AllReadyH.nil)
              go_simp
              refine hK.out _ _ ?_ (fun hHeld => ?_)
              · (repeat (with_reducible first | exact Below.refl _ _ | refine below_drew ?_ | exact below_al0 _ _))
              clear hK K
              try simp only [Act.put, List.setIfInBounds_toArray, List.set_cons_zero, List.set_cons_succ]
              refine wpAnyH_take (i := 30) (oi := ⟨_, _, _, _, _, _⟩) (v := ?_) rfl (by kernel_rfl) (by kernel_rfl) (by kernel_rfl) (fun _ _ _ h => h) (Or.inl ⟨by rfl, ?_⟩) (by assumption) ?_
              rotate_left
              · intro w hSw; (try dsimp only at hSw); go_simp; (try with_reducible rfl)
              try simp only [Act.put, List.setIfInBounds_toArray, List.set_cons_zero, List.set_cons_succ]
              refine wpAnyH_take (i := 31) (oi := ⟨_, _, _, _, _, _⟩) (v := ?_) rfl (by kernel_rfl) (by kernel_rfl) (by kernel_rfl) (fun _ _ _ h => h) (Or.inl ⟨by rfl, ?_⟩) (by assumption) ?_
              rotate_left
              · intro w hSw; (try dsimp only at hSw); go_simp; (try with_reducible rfl)
              try simp only [Act.put, List.setIfInBounds_toArray, List.set_cons_zero, List.set_cons_succ]
              refine wpAnyH_take (i := 32) (oi := ⟨_, _, _, _, _, _⟩) (v := ?_) rfl (by kernel_rfl) (by kernel_rfl) (by kernel_rfl) (fun _ _ _ h => h) (Or.inl ⟨by rfl, ?_⟩) (by assumption) ?_
              rotate_left
              · intro w hSw; (try dsimp only at hSw); go_simp; (try with_reducible rfl)
              try simp only [Act.put, List.setIfInBounds_toArray, List.set_cons_zero, List.set_cons_succ]
              refine wpAnyH_take (i := 33) (oi := ⟨_, _, _, _, _, _⟩) (v := ?_) rfl (by kernel_rfl) (by kernel_rfl) (by kernel_rfl) (fun _ _ _ h => h) (Or.inl ⟨by rfl, ?_⟩) (by assumption) ?_
              rotate_left
              · intro w hSw; (try dsimp only at hSw); go_simp; (try with_reducible rfl)
              try simp only [Act.put, List.setIfInBounds_toArray, List.set_cons_zero, List.set_cons_succ]
              refine wpAnyH_ready (rs := [34]) (by kernel_rfl) (by simp) (AllReadyH.cons (o := ⟨_, _, _, _, _, _⟩) rfl (fun K hK => ?_) AllReadyH.nil)
              go_simp
              refine (c_Ops _ B2 _ (Ta.out.o2.dk.below (by assumption))).mono ?_
              rintro e wb ⟨rfl, rfl⟩
              go_wp2_with fail
              refine hK.out _ _ ?_ (fun hHeld => ?_)
              · (repeat (with_reducible first | exact Below.refl _ _ | refine below_drew ?_ | exact below_al0 _ _))
              clear hK K
              try simp only [Act.put, List.setIfInBounds_toArray, List.set_cons_zero, List.set_cons_succ]
              refine wpAnyH_take (i := 35) (oi := ⟨_, _, _, _, _, _⟩) (v := ?_) rfl (by kernel_rfl) (by kernel_rfl) (by kernel_rfl) (fun _ _ _ h => h) (Or.inl ⟨by rfl, ?_⟩) (by assumption) ?_
              rotate_left
              · intro w hSw; (try dsimp only at hSw); go_simp; (try with_reducible rfl)
              try simp only [Act.put, List.setIfInBounds_toArray, List.set_cons_zero, List.set_cons_succ]
              refine wpAnyH_take (i := 36) (oi := ⟨_, _, _, _, _, _⟩) (v := ?_) rfl (by kernel_rfl) (by kernel_rfl) (by kernel_rfl) (fun _ _ _ h => h) (Or.inl ⟨by rfl, ?_⟩) (by assumption) ?_
              rotate_left
              · intro w hSw; (try dsimp only at hSw); go_simp; (try with_reducible rfl)
              try simp only [Act.put, List.setIfInBounds_toArray, List.set_cons_zero, List.set_cons_succ]
              refine wpAnyH_take (i := 37) (oi := ⟨_, _, _, _, _, _⟩) (v := ?_) rfl (by kernel_rfl) (by kernel_rfl) (by kernel_rfl) (fun _ _ _ h => h) (Or.inl ⟨by rfl, ?_⟩) (by assumption) ?_
              rotate_left
              · intro w hSw; (try dsimp only at hSw); go_simp; (try with_reducible rfl)
              try simp only [Act.put, List.setIfInBounds_toArray, List.set_cons_zero, List.set_cons_succ]
              refine wpAnyH_take (i := 38) (oi := ⟨_, _, _, _, _, _⟩) (v := ?_) rfl (by kernel_rfl) (by kernel_rfl) (by kernel_rfl) (fun _ _ _ h => h) (Or.inl ⟨by rfl, ?_⟩) (by assumption) ?_
              rotate_left
              · intro w hSw; (try dsimp only at hSw); go_simp; (try with_reducible rfl)
              try simp only [Act.put, List.setIfInBounds_toArray, List.set_cons_zero, List.set_cons_succ]
              refine wpAnyH_ready (rs := [39]) (by kernel_rfl) (by simp) (AllReadyH.cons (o := ⟨_, _, _, _, _, _⟩) rfl (fun K hK => ?_) AllReadyH.nil)
              go_simp
              refine (c_Ops _ B1 _ (Ta.out.o1.dk.below (by assumption))).mono ?_
              rintro e wb ⟨rfl, rfl⟩
              go_wp2_with fail
              refine hK.out _ _ ?_ (fun hHeld => ?_)
              · (repeat (with_reducible first | exact Below.refl _ _ | refine below_drew ?_ | exact below_al0 _ _))
              clear hK K
              try simp only [Act.put, List.setIfInBounds_toArray, List.set_cons_zero, List.set_cons_succ]
              refine wpAnyH_take (i := 40) (oi := ⟨_, _, _, _, _, _⟩) (v := ?_) rfl (by kernel_rfl) (by kernel_rfl) (by kernel_rfl) (fun _ _ _ h => h) (Or.inl ⟨by rfl, ?_⟩) (by assumption) ?_
              rotate_left
              · intro w hSw; (try dsimp only at hSw); go_simp; (try with_reducible rfl)
              try simp only [Act.put, List.setIfInBounds_toArray, List.set_cons_zero, List.set_cons_succ]
              refine wpAnyH_take (i := 41) (oi := ⟨_, _, _, _, _, _⟩) (v := ?_) rfl (by kernel_rfl) (by kernel_rfl) (by kernel_rfl) (fun _ _ _ h => h) (Or.inl ⟨by rfl, ?_⟩) (by assumption) ?_
              rotate_left
              · intro w hSw; (try dsimp only at hSw); go_simp; (try with_reducible rfl)
              try simp only [Act.put, List.setIfInBounds_toArray, List.set_cons_zero, List.set_cons_succ]
              refine wpAnyH_take (i := 42) (oi := ⟨_, _, _, _, _, _⟩) (v := ?_) rfl (by kernel_rfl) (by kernel_rfl) (by kernel_rfl) (fun _ _ _ h => h) (Or.inl ⟨by rfl, ?_⟩) (by assumption) ?_
              rotate_left
              · intro w hSw; (try dsimp only at hSw); go_simp; (try with_reducible rfl)
              try simp only [Act.put, List.setIfInBounds_toArray, List.set_cons_zero, List.set_cons_succ]
              refine wpAnyH_done (by kernel_rfl) ?_ _
              all_goals clear kz kx kv km
              all_goals go_wp2
              all_goals go_ret
              all_goals exact ⟨rfl, below2 Ta.out.o1.bl (below_drew (below_al0 _ _))⟩
  · have hne : ((X.length : Int) != 128) = true := by simp; omega
    have hX9 := Lib.hid hX8
    clear hX8 hnl
    go_wp2_with (first
    | (go_at_call 8; refine (c_known w).mono ?_; rintro e w1 ⟨rfl, hb1⟩; replace hb1 := Lib.hid hb1)
      | (at_builtin; refine wpList_append_bytes (o := ⟨some 24, _, _, _, _, _⟩) ?_ (.tmp 22) (.tmp 23) ?_ w1.heap.size (.slice (some ⟨w1.heap.size, 0, none⟩) 1 1) [3] ?_ (row_one w1 3) (.slice ad n c) b ?_ (HV.out.off (ex := fun _ => False) (.of_below (below_al hb1.out _)) (fun _ _ _ _ h => h)) ?_ ?_ ?_; exact rfl; exact rfl; exact rfl; exact rfl; (have := hL.out; simp; omega); (simp); intro v' w2 hr2 ho2 hq2; have hz2 : Hid (w1.heap.size ≤ w2.heap.size) := Lib.hid (Nat.le_trans (by simp) ho2.size); have hb2 : Hid (Below w.heap.size w w2) := Lib.hid (Off.below (below_al hb1.out _) ho2 (below_al hb1.out _).size (fun k hk => by have := hb1.out.size; cases hk; exact this)); replace hr2 := Lib.hid hr2; clear ho2 hq2)
      | (go_at_call 14; refine (c_sector w2 v' ([3] ++ b) hr2.out.bt).mono ?_; rintro e w3 (⟨rfl, rfl, hq3⟩ | ⟨gx, cx, rfl, hx3, hl3, hb3⟩); rotate_left; exact absurd (hXB.out ▸ hl3) hX9.out; (rw [← hXB.out, hq3] at hne); have hr3 := hr2.out; unfold RowB at hr3; obtain ⟨nl, hnl⟩ : ∃ nl, ([3] ++ b).length = nl := ⟨_, rfl⟩; rw [hnl] at hr3 hne; obtain ⟨gx, cx, hqv⟩ := row_some hr3 (by rw [← hnl]; simp); subst hqv; clear hr3 hq3 hnl hr2))
    go_ret
    exact ⟨rfl, hb2.out⟩
theorem u8_wf {x : Int} (h : (Lit.int .u8 x).wf = true) : 0 ≤ x ∧ x ≤ 255 := by
  simp [Lit.wf, IntKind.min, IntKind.max, IntKind.signed, IntKind.bits] at h
  omega
end Go.Proofs.Ytnlemjjigiphcaa
