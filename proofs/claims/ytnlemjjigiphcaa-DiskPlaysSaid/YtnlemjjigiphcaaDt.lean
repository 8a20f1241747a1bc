/- DiskStays: the law's walk. -/
import Derived.Test.YtnlemjjigiphcaaDo
import Derived.Test.YtnlemjjigiphcaaDj
import Derived.Laws.Concat
namespace Go.Proofs.Ytnlemjjigiphcaa
open Go.RowKit Go.ChangeShapes
set_option linter.unusedVariables false
set_option maxRecDepth 100000

structure SaS (x y : Sec) (d : Dk) : Prop where
  n : d.n = 9
  dead : d.dead = false
  left : d.left = 0
  on : d.on = [(0, x)]
  bu : ∃ r, d.bu = (0, y) :: r ∧ ∀ q ∈ r, q.1 ≠ 0
theorem SaS.write {x y b : Sec} {d : Dk} (h : SaS x y d) {s : Int} (hs : s ≠ 0) : ∃ d' k, writeR d s b = (d', k) ∧ SaS x y d' := by
  unfold writeR
  rw [if_neg (by rw [h.dead]; exact Bool.false_ne_true)]
  by_cases ht : (d.there s && decide (b.length = 128)) = true
  · rw [if_pos ht]
    have h0 : 0 ≤ s := by simp [Dk.there] at ht; omega
    have hsp : d.spend = ({ d with left := 0, ops := wr64 (d.ops + 1) }, true) := by
      unfold Dk.spend
      rw [if_neg (by rw [h.left]; decide), h.left]
      rfl
    rw [hsp]
    obtain ⟨r, hr, hn⟩ := h.bu
    refine ⟨_, _, rfl, h.n, h.dead, rfl, h.on, insm s b r, ?_, fun q hq => ?_⟩
    · show insm s b d.bu = _
      rw [hr, insm, if_neg (by omega), if_neg hs]
    · rcases ins_mem s b r q hq with rfl | hq
      · exact hs
      · exact hn q hq
  · rw [if_neg ht]
    exact ⟨d, 1, rfl, h⟩
theorem crash_other : ∀ (bu : AL) (ps : List Int) (on : AL) (s : Int), Asc on → (∀ q ∈ bu, q.1 ≠ s) → getm (crashL bu ps on) s = getm on s
  | [], _, _, _, _, _ => rfl
  | (k, b) :: r, ps, on, s, ho, h => by
    show getm (crashL r ps.tail (insm k _ on)) s = _
    rw [crash_other r _ _ s (ho.ins k _) (fun q hq => h q (by simp [hq])), getm_ins _ _ _ _ ho, if_neg (fun e => h (k, b) (by simp) e.symm)]
theorem SaS.crash {x y : Sec} {d : Dk} (h : SaS x y d) (p : Int) : (d.crash [p]).at 0 = torn (pick p) y x ∧ readE (d.crash [p]) 0 = 0 := by
  obtain ⟨r, hr, hn⟩ := h.bu
  constructor
  · show (getm ([] : AL) 0).getD ((getm (crashL d.bu [p] d.on) 0).getD zeros) = _
    rw [hr, h.on]
    show ((getm (crashL r [] (insm 0 (y.take (pick p) ++ (onOf [(0, x)] 0).drop (pick p)) [(0, x)])) 0).getD zeros) = _
    rw [crash_other _ _ _ _ (by simp [insm, Asc]) hn]
    rfl
  · unfold readE
    rw [if_neg (by show ¬ (false = true); exact Bool.false_ne_true), if_pos]
    show (decide ((0 : Int) ≤ 0) && decide ((0 : Int) < d.n)) = true
    rw [h.n]
    rfl
/-- the law's disk and its two rows -/
structure Sta (w wr : World) (F : Nat → Prop) (lo hi B A1 gx cx A2 gy cy : Nat) (X Y : Sec) (d : Dk) : Prop where
  o : Own w wr F B d
  f : ∀ g, F g → g < lo ∨ hi ≤ g
  x : wr.ownsRow A1 5 1 (.slice (some ⟨gx, 0, none⟩) 128 cx) 128 (bys X)
  y : wr.ownsRow A2 5 1 (.slice (some ⟨gy, 0, none⟩) 128 cy) 128 (bys Y)
  hx : lo ≤ gx ∧ gx < hi
  hy : lo ≤ gy ∧ gy < hi
  hi : hi ≤ wr.heap.size
theorem Sta.below {w wr w' : World} {F : Nat → Prop} {lo hi B A1 gx cx A2 gy cy : Nat} {X Y : Sec} {d : Dk} (h : Sta w wr F lo hi B A1 gx cx A2 gy cy X Y d) (hb : Below wr.heap.size wr w') : Sta w w' F lo hi B A1 gx cx A2 gy cy X Y d :=
  ⟨h.o.below hb, h.f, Off.row (.of_below (ex := fun _ => False) hb) h.x (fun _ h => h.elim), Off.row (.of_below (ex := fun _ => False) hb) h.y (fun _ h => h.elim), h.hx, h.hy, Nat.le_trans h.hi hb.size⟩
theorem Sta.turn {w wr w' : World} {F : Nat → Prop} {lo hi B A1 gx cx A2 gy cy : Nat} {X Y : Sec} {d d' : Dk} (h : Sta w wr F lo hi B A1 gx cx A2 gy cy X Y d) (ht : Turn F B d' wr w') : ∃ F', Sta w w' F' lo hi B A1 gx cx A2 gy cy X Y d' := by
  obtain ⟨F', h1, h2, h3⟩ := h.o.turn ht
  have hx := h.hx
  have hy := h.hy
  exact ⟨F', h1, fun g hg => by rcases h2 g hg with e | e; exact h.f g e; exact .inr (Nat.le_trans h.hi e), Off.rowAt h3 h.x (fun e => by have := h.f _ e; omega), Off.rowAt h3 h.y (fun e => by have := h.f _ e; omega), hx, hy, Nat.le_trans h.hi h3.size⟩
theorem bt_take {w : World} {g c k : Nat} {b : Sec} (h : BtAt w (.slice (some ⟨g, 0, none⟩) 128 c) b) (hl : b.length = 128) (hk : k ≤ 128) : BtAt w (.slice (some ⟨g, 0, none⟩) k c) (b.take k) := by
  obtain ⟨ad, c', e, h1, h2, h3, h4⟩ := h
  have e' : ad = some ⟨g, 0, none⟩ ∧ c' = c := by injection e with a b c; exact ⟨a.symm, c.symm⟩
  obtain ⟨rfl, rfl⟩ := e'
  have hlen : (b.take k).length = k := by simp; omega
  refine ⟨_, c', by rw [hlen], by rw [hlen]; omega, h2, fun h => (by cases h), fun j x hj => ?_⟩
  have hj' : j < k := by rw [← hlen]; exact (List.getElem?_eq_some_iff.1 hj).1
  rw [List.getElem?_take_of_lt hj'] at hj
  exact h4 j x hj
theorem bt_drop {w : World} {g c k : Nat} {b : Sec} (h : BtAt w (.slice (some ⟨g, 0, none⟩) 128 c) b) (hl : b.length = 128) (hk : k ≤ 128) : BtAt w (.slice (if c = k then some ⟨g, 0, none⟩ else some ⟨g, k, none⟩) (128 - k) (c - k)) (b.drop k) := by
  obtain ⟨ad, c', e, h1, h2, h3, h4⟩ := h
  have e' : ad = some ⟨g, 0, none⟩ ∧ c' = c := by injection e with a b c; exact ⟨a.symm, c.symm⟩
  obtain ⟨rfl, rfl⟩ := e'
  have hlen : (b.drop k).length = 128 - k := by simp; omega
  refine ⟨_, c' - k, by rw [hlen], by rw [hlen]; omega, by omega, fun h => ?_, fun j x hj => ?_⟩
  · split at h
    · cases h
    · cases h
  · have hj' : j < 128 - k := by rw [← hlen]; exact (List.getElem?_eq_some_iff.1 hj).1
    rw [List.getElem?_drop] at hj
    obtain ⟨g', o', e, hc⟩ := h4 (k + j) x hj
    cases e
    rw [if_neg (by omega)]
    refine ⟨_, _, rfl, ?_⟩
    rw [Nat.zero_add] at hc
    exact hc
theorem str_torn (k : Nat) (x y : Sec) : (⟨(torn k y x).toArray⟩ : ByteArray) = ⟨(y.take k).toArray⟩ ++ ⟨(x.drop k).toArray⟩ := by
  apply ByteArray.ext
  show (torn k y x).toArray = (ByteArray.append _ _).data
  simp [torn]
theorem c_sector_any (w : World) (v : Value) (b : Sec) (hv : BtAt w v b) (hl : b.length ≤ 140737488351232) : Calls Try.prog 14 #[v] w fun e w' => ∃ v', e = .returned v' ∧ BtAt w' v' (secB b) ∧ (secB b).length ≤ 140737488351232 ∧ Below w.heap.size w w' := by
  refine (c_sector w v b hv).mono ?_
  rintro e w' (⟨rfl, rfl, h⟩ | ⟨g, c, rfl, hx, hl, hb⟩)
  · exact ⟨v, rfl, by rw [h]; exact hv, by rw [h]; exact hl, Below.refl _ _⟩
  · exact ⟨_, rfl, row_bt hx hl, by omega, hb⟩
set_option maxHeartbeats 4000000 in
theorem law_DiskStays (w : World) (v : Value) (a : Sec) (hv : BtAt w v a) (hL : a.length ≤ 140737488351232) (u : Value) (b : Sec) (hu : BtAt w u b) (hM : b.length ≤ 140737488351232) (q : Value) (hq : CaAt w q) (p : Int) (hp : I64 p) : Calls Try.prog 5 #[v, u, q, .int .i64 p] w fun e w' => e = .returned (.bool true) ∧ Below w.heap.size w w' := by
  have VA := Lib.hid hv
  have VB := Lib.hid hu
  have hLa := Lib.hid hL
  have hLb := Lib.hid hM
  have HP := Lib.hid hp
  clear hv hu hL hM hp
  obtain ⟨ad, c, n, hvq⟩ : ∃ ad c n, v = .slice ad n c := by obtain ⟨ad, c, e, _⟩ := VA.out; exact ⟨ad, c, _, e⟩
  subst hvq
  obtain ⟨bd, c2, m, hvq⟩ : ∃ ad c n, u = .slice ad n c := by obtain ⟨ad, c, e, _⟩ := VB.out; exact ⟨ad, c, _, e⟩
  subst hvq
  obtain ⟨qd, qn, qc, rfl, hqc, hqm, hq1⟩ := hq
  replace hq1 := Lib.hid hq1
  have hqM : qn ≤ 9223372036854775807 := by unfold maxLen at hqm; omega
  clear hqc hqm
  go_enter Try.func5, Try.ntmps5
  obtain ⟨X, hX⟩ : ∃ X : Sec, secB ([1] ++ a) = X := ⟨_, rfl⟩
  have hXB := Lib.hid hX
  clear hX
  obtain ⟨Y, hY⟩ : ∃ X : Sec, secB ([2] ++ b) = X := ⟨_, rfl⟩
  have hYB := Lib.hid hY
  clear hY
  obtain ⟨xn, hX⟩ : ∃ n, X.length = n := ⟨_, rfl⟩
  have hXn := Lib.hid hX
  clear hX
  obtain ⟨yn, hY⟩ : ∃ n, Y.length = n := ⟨_, rfl⟩
  have hYn := Lib.hid hY
  clear hY
  by_cases hx8 : xn = 128
  · by_cases hy8 : yn = 128
    · subst hx8
      subst hy8
      go_wp2_with (first
        | (go_at_call 8; refine (c_known w).mono ?_; rintro e w1 ⟨rfl, hb1⟩; replace hb1 := Lib.hid hb1)
        | (go_at_call 9; refine (c_New 9 w1 (by decide) (by decide)).mono ?_; rintro e w2 ⟨B, F, rfl, hD, hF, hb⟩; have O2 : Hid (Own w w2 F B (Dk.new 9)) := Lib.hid ⟨hD, fun g hg => Nat.le_trans hb1.out.size (hF g hg), below2 hb1.out hb⟩; clear hD hF hb; have VA2 := Lib.hid (VA.out.below O2.out.bl))
        | (at_builtin; refine wpList_append_bytes (o := ⟨some 25, _, _, _, _, _⟩) ?_ (.tmp 23) (.tmp 24) ?_ w2.heap.size (.slice (some ⟨w2.heap.size, 0, none⟩) 1 1) [1] ?_ (row_one w2 1) (.slice ad n c) a ?_ (VA2.out.below (below_al0 _ _)) ?_ ?_ ?_; exact rfl; exact rfl; exact rfl; exact rfl; (have := hLa.out; simp; omega); (simp); intro v3 w3 hrw3 how3 hqw3; have hbw3 : Hid (Below w2.heap.size w2 w3) := Lib.hid (Off.below (below_al0 w2 _) how3 (below_al0 w2 _).size (fun k hk => by cases hk; exact Nat.le_refl _)); replace hrw3 := Lib.hid hrw3; clear how3 hqw3)
        | (go_at_call 14; refine (c_sector_own w3 w2.heap.size v3 ([1] ++ a) hrw3.out (by simp) hbw3.out.size).mono ?_; rintro e w4 ⟨gx, cx, rfl, hxw4, hbw4⟩; rw [hXB.out, hXn.out] at hxw4 ⊢; replace hxw4 := Lib.hid hxw4; replace hbw4 := Lib.hid (below2 hbw3.out hbw4); clear hrw3; have VB4 := Lib.hid (VB.out.below (below2 O2.out.bl hbw4.out)))
        | (at_builtin; refine wpList_append_bytes (o := ⟨some 29, _, _, _, _, _⟩) ?_ (.tmp 27) (.tmp 28) ?_ w4.heap.size (.slice (some ⟨w4.heap.size, 0, none⟩) 1 1) [2] ?_ (row_one w4 2) (.slice bd m c2) b ?_ (VB4.out.below (below_al0 _ _)) ?_ ?_ ?_; exact rfl; exact rfl; exact rfl; exact rfl; (have := hLb.out; simp; omega); (simp); intro v5 w5 hrw5 how5 hqw5; have hbw5 : Hid (Below w4.heap.size w4 w5) := Lib.hid (Off.below (below_al0 w4 _) how5 (below_al0 w4 _).size (fun k hk => by cases hk; exact Nat.le_refl _)); replace hrw5 := Lib.hid hrw5; clear how5 hqw5)
        | (go_at_call 14; refine (c_sector_own w5 w4.heap.size v5 ([2] ++ b) hrw5.out (by simp) hbw5.out.size).mono ?_; rintro e w6 ⟨gy, cy, rfl, hxw6, hbw6⟩; rw [hYB.out, hYn.out] at hxw6 ⊢; replace hxw6 := Lib.hid hxw6; replace hbw6 := Lib.hid (below2 hbw5.out hbw6); clear hrw5))
      obtain ⟨lo, hlo⟩ : ∃ lo, w2.heap.size = lo := ⟨_, rfl⟩
      obtain ⟨hi, hhi⟩ : ∃ hi, w6.heap.size = hi := ⟨_, rfl⟩
      have S6 : Hid (Sta w w6 F lo hi B w2.heap.size gx cx w4.heap.size gy cy X Y (Dk.new 9)) := Lib.hid (by
        have h1 := (Array.getElem?_eq_some_iff.1 (row_blk hxw4.out).2.2.2.choose_spec).1
        have h2 := (Array.getElem?_eq_some_iff.1 (row_blk hxw6.out).2.2.2.choose_spec).1
        have h3 := (row_blk hxw4.out).1
        have h4 := (row_blk hxw6.out).1
        have h5 := hbw4.out.size
        have h6 := hbw6.out.size
        exact ⟨O2.out.below (below2 hbw4.out hbw6.out), fun g hg => .inl (by have := O2.out.dk.lt g hg; omega), Off.row (.of_below (ex := fun _ => False) hbw6.out) hxw4.out (fun _ h => h.elim), hxw6.out, ⟨by omega, by omega⟩, ⟨by omega, by omega⟩, by omega⟩)
      obtain ⟨A1, hA1⟩ : ∃ A, w2.heap.size = A := ⟨_, rfl⟩
      obtain ⟨A2, hA2⟩ : ∃ A, w4.heap.size = A := ⟨_, rfl⟩
      rw [hA1, hA2] at S6
      have hE1 : Hid (writeR (Dk.new 9) 0 X = (⟨9, [], [(0, X)], 0, false, 1⟩, 0)) := Lib.hid (by
        unfold writeR
        rw [if_neg (by decide), if_pos (by rw [hXn.out]; rfl)]
        rfl)
      have hE2 : Hid (flushR ⟨9, [], [(0, X)], 0, false, 1⟩ = (⟨9, [(0, X)], [], 0, false, 2⟩, 0)) := Lib.hid rfl
      have hE3 : Hid (writeR ⟨9, [(0, X)], [], 0, false, 2⟩ 0 Y = (⟨9, [(0, X)], [(0, Y)], 0, false, 3⟩, 0)) := Lib.hid (by
        unfold writeR
        rw [if_neg Bool.false_ne_true, if_pos (by rw [hYn.out]; rfl)]
        rfl)
      clear hlo hhi hA1 hA2 hxw4 hxw6 hbw4 hbw6 hbw3 hbw5 VA2 VB4 O2
      go_wp2_with (first
        | (go_at_call 10; refine (c_Write w8 B _ 0 _ Y S8.out.o.dk ⟨by decide, by decide⟩ (row_bt S8.out.y hYn.out) (by rw [hYn.out]; decide)).mono ?_; rintro e w9 hwd; obtain ⟨rfl, ht⟩ := hwd.to hE3.out; obtain ⟨F9, S9⟩ := S8.out.turn ht; replace S9 := Lib.hid S9; clear hwd ht)
        | (go_at_call 16; refine (c_Flush w7 B _ S7.out.o.dk).mono ?_; rintro e w8 hwd; obtain ⟨rfl, ht⟩ := hwd.to hE2.out; obtain ⟨F8, S8⟩ := S7.out.turn ht; replace S8 := Lib.hid S8; clear hwd ht)
        | (go_at_call 10; refine (c_Write w6 B _ 0 _ X S6.out.o.dk ⟨by decide, by decide⟩ (row_bt S6.out.x hXn.out) (by rw [hXn.out]; decide)).mono ?_; rintro e w7 hwd; obtain ⟨rfl, ht⟩ := hwd.to hE1.out; obtain ⟨F7, S7⟩ := S6.out.turn ht; replace S7 := Lib.hid S7; clear hwd ht))
      have SS : Hid (∃ F d, Sta w w9 F lo hi B A1 gx cx A2 gy cy X Y d ∧ SaS X Y d) := Lib.hid ⟨F9, _, S9.out, ⟨rfl, rfl, rfl, rfl, [], rfl, fun q hq => by simp at hq⟩⟩
      clear S6 S7 S8 S9 hE1 hE2 hE3
      go_loopw [13] (fun iv wr => ∃ i : Nat, iv = .int .i64 i ∧ i ≤ 30 ∧ Hid (∃ F d, Sta w wr F lo hi B A1 gx cx A2 gy cy X Y d ∧ SaS X Y d)) (fun iv _ => 30 - (intOf iv).toNat)
      case atStart => exact ⟨0, rfl, by omega, SS⟩
      case round =>
        clear SS
        obtain ⟨i, rfl, hi30, HS⟩ := hrel
        by_cases hlt : i < qn ∧ i < 30
        · obtain ⟨hl1, hl2⟩ := hlt
          have hl1' : (i : Int) < (qn : Int) := by omega
          have hl2' : (i : Int) < 30 := by omega
          obtain ⟨g, o, kd, nn, vb, vp, bb, ps, rfl, hgl, hkd, hnn, hvb, hbl, _, _, ck0, ck1, ck2, _⟩ := hq1.out i hl1
          obtain ⟨F, d, T, Z⟩ := HS.out
          replace T := Lib.hid T
          replace Z := Lib.hid Z
          have hob := Lib.hid T.out.o.bl
          have c0 : wr.cell? ⟨g, o + i * 4, none⟩ = some (.int .i64 kd) := (hob.out.cell (p := ⟨g, o + i * 4, none⟩) hgl).trans ck0
          have c1 : wr.cell? ⟨g, o + i * 4 + 1, none⟩ = some (.int .i64 nn) := (hob.out.cell (p := ⟨g, o + i * 4 + 1, none⟩) hgl).trans ck1
          have HV := Lib.hid (hvb.below hob.out)
          replace ck1 := Lib.hid ck1
          replace ck2 := Lib.hid ck2
          replace hgl := Lib.hid hgl
          replace hnn := Lib.hid hnn
          replace hbl := Lib.hid hbl
          clear hvb HS ck0 hkd
          by_cases hk0 : kd % 5 = 0
          · have hk0' : (kd % 5 == 0) = true := by rw [hk0]; rfl
            clear hk0
            by_cases hn0 : nn = 0
            · have hn0' : (nn != 0) = false := by rw [hn0]; rfl
              clear hn0
              go_wp2_with (first | (go_at_call 13; refine (c_within kd 5 (by decide) (by decide) wr).mono ?_; rintro e w6 ⟨rfl, rfl⟩))
              clear c0 c1
              go_roundw
              case rel => exact ⟨i + 1, by go_num, by omega, Lib.hid ⟨F, d, T.out, Z.out⟩⟩
              case measure => simp [intOf]; omega
            · have hn0' : (nn != 0) = true := by simpa using hn0
              replace hn0 := Lib.hid hn0
              go_wp2_with (first | (go_at_call 13; refine (c_within kd 5 (by decide) (by decide) wr).mono ?_; rintro e w6 ⟨rfl, rfl⟩))
              clear c0 c1
              have k1 : ∀ w', Below w.heap.size w w' → w'.cell? ⟨g, o + i * 4 + 1, none⟩ = some (.int .i64 nn) := fun w' hb => (hb.cell (p := ⟨g, o + i * 4 + 1, none⟩) hgl.out).trans ck1.out
              have k2 : ∀ w', Below w.heap.size w w' → w'.cell? ⟨g, o + i * 4 + 2, none⟩ = some vb := fun w' hb => (hb.cell (p := ⟨g, o + i * 4 + 2, none⟩) hgl.out).trans ck2.out
              obtain ⟨d', kk, hE, Z'⟩ := Z.out.write (b := secB bb) hn0.out
              replace hE := Lib.hid hE
              replace Z' := Lib.hid Z'
              go_region_held3 (fun w' => Below w.heap.size w w')
                ((with_reducible first | exact B8.out | exact B7.out | exact below_drew hob.out))
                ((first
                  | (go_at_call 10; refine (c_Write w7 B _ nn v7 (secB bb) T7.out.o.dk hnn.out hv7.out hl7.out).mono ?_; rintro e w8 hwd; obtain ⟨rfl, ht⟩ := hwd.to hE.out; obtain ⟨F8, T8⟩ := T7.out.turn ht; replace T8 := Lib.hid T8; have B8 := Lib.hid T8.out.o.bl; clear hwd ht)
                  | (go_at_call 14; refine (c_sector_any _ vb bb (HV.out.below (below_drew (Below.refl _ _))) hbl.out).mono ?_; rintro e w7 ⟨v7, rfl, hv7, hl7, hb7⟩; have T7 := Lib.hid (T.out.below (below2 (below_drew (Below.refl _ _)) hb7)); have B7 := Lib.hid T7.out.o.bl; replace hv7 := Lib.hid hv7; replace hl7 := Lib.hid hl7; clear hb7)))
              clear k1 k2
              go_wp2
              go_roundw
              case rel => exact ⟨i + 1, by go_num, by omega, Lib.hid ⟨F8, d', T8.out, Z'.out⟩⟩
              case measure => simp [intOf]; omega
          · have hk0' : (kd % 5 == 0) = false := by rw [beq_eq_false_iff_ne]; exact hk0
            clear hk0
            go_wp2_with (first | (go_at_call 13; refine (c_within kd 5 (by decide) (by decide) wr).mono ?_; rintro e w6 ⟨rfl, rfl⟩))
            clear c0 c1
            go_roundw
            case rel => exact ⟨i + 1, by go_num, by omega, Lib.hid ⟨F, d, T.out, Z.out⟩⟩
            case measure => simp [intOf]; omega
        · obtain ⟨F, d, T, Z⟩ := HS.out
          replace T := Lib.hid T
          replace Z := Lib.hid Z
          have key : (¬ (i : Int) < (qn : Int)) ∨ ((i : Int) < (qn : Int) ∧ ¬ (i : Int) < 30) := by omega
          have hcr := Lib.hid (Z.out.crash p)
          have hpq : (pick p : Int) = p % 129 := pick_eq p
          have hpl := pick_le p
          obtain ⟨kk, hkk⟩ : ∃ kk, pick p = kk := ⟨_, rfl⟩
          rw [hkk] at hcr hpq hpl
          replace hpq := Lib.hid hpq
          have hp1 : Hid (∀ q ∈ [p], I64 q) := Lib.hid (by intro q hq; simp at hq; rw [hq]; exact HP.out)
          clear hkk hlt HS
          rcases key with h1 | ⟨h1, h2⟩
          all_goals
            go_wp2_with (first
              | (go_at_call 11; refine (c_Crash (wr.alloc (.cells #[.int .i64 p] 3)) B _ _ [p] (T.out.o.below (below_al0 _ _)).dk (one_it wr p) hp1.out (by intro a n c h hF; cases h; exact Nat.lt_irrefl _ (T.out.o.dk.lt _ hF)) (show 1 < 1000000 by decide)).mono ?_; rintro e w3 ⟨rfl, ht⟩; obtain ⟨F3, T3⟩ := (T.out.below (below_al0 _ _)).turn ht; replace T3 := Lib.hid T3; clear ht)
              | (go_at_call 12; refine (c_Read w3 B _ 0 T3.out.o.dk ⟨by decide, by decide⟩).mono ?_; rintro e w4 hrd; obtain ⟨gz, cz, rfl, hz, hbz⟩ := hrd.ok hcr.out.2 hcr.out.1 (torn_len hYn.out hXn.out hpl); replace hz := Lib.hid hz; replace hbz := Lib.hid hbz; clear hrd)
              | (go_at_call 13; refine (c_within p 129 (by decide) (by decide) w4).mono ?_; rintro e w5 ⟨rfl, rfl⟩; rw [← hpq.out]))
            have T4 := Lib.hid (T3.out.below hbz.out)
            have kz : ∀ w', Below w4.heap.size w4 w' → Sem.run Try.prog (convert 22 9 (.slice (some ⟨gz, 0, none⟩) 128 cz)) w' = .ok (.string ⟨(torn kk Y X).toArray⟩) w' := fun w' h => str_at ((row_bt hz.out (torn_len hYn.out hXn.out hpl)).below h)
            have hy3 : Hid (128 ≤ cy) := Lib.hid (row_blk T4.out.y).2.1
            have hx3 : Hid (128 ≤ cx) := Lib.hid (row_blk T4.out.x).2.1
            have i1 : (0 : Int) ≤ (kk : Int) := by omega
            have i2 : (kk : Int) ≤ (cy : Int) := by have := hy3.out; omega
            have i3 : (kk : Int) ≤ 128 := by omega
            have ky : ∀ w', Below w4.heap.size w4 w' → Sem.run Try.prog (convert 22 9 (.slice (some ⟨gy, 0, none⟩) kk cy)) w' = .ok (.string ⟨(Y.take kk).toArray⟩) w' := fun w' h => str_at ((bt_take (row_bt T4.out.y hYn.out) hYn.out hpl).below h)
            have kx : ∀ w', Below w4.heap.size w4 w' → Sem.run Try.prog (convert 22 9 (.slice (if cx = kk then some ⟨gx, 0, none⟩ else some ⟨gx, kk, none⟩) (128 - kk) (cx - kk))) w' = .ok (.string ⟨(X.drop kk).toArray⟩) w' := fun w' h => by
              have h1 := (bt_drop (row_bt T4.out.x hXn.out) hXn.out hpl).below h
              split at h1
              · rename_i e
                rw [if_pos e]
                exact str_at h1
              · rename_i e
                rw [if_neg e]
                exact str_at h1
            obtain ⟨s1, hs1⟩ : ∃ s : ByteArray, (⟨(Y.take kk).toArray⟩ : ByteArray) = s := ⟨_, rfl⟩
            obtain ⟨s2, hs2⟩ : ∃ s : ByteArray, (⟨(X.drop kk).toArray⟩ : ByteArray) = s := ⟨_, rfl⟩
            simp only [str_torn, hs1, hs2] at kz
            simp only [hs1] at ky
            simp only [hs2] at kx
            have hsz : s1.size + s2.size ≤ 9223372036854775807 := by
              rw [← hs1, ← hs2]
              show (Y.take kk).toArray.size + (X.drop kk).toArray.size ≤ _
              have := hXn.out
              have := hYn.out
              simp
              omega
            clear hs1 hs2
            have hsz2 : ¬ (9223372036854775807 < s1.size + s2.size) := by omega
            have hsz3 : ∀ w' : World, (Op.stringOp .add s1 s2).run Try.prog w' = .ok (.string (s1 ++ s2)) w' := fun w' => run_string_add_sum w' s1 s2 hsz
            go_region_held3 (fun w' => Below w4.heap.size w4 w')
              ((exact below_drew (Below.refl _ _)))
              ((fail))
            clear kz ky kx hsz hsz2 hsz3 i1 i2 i3
          all_goals go_wp2
          all_goals go_ret
          all_goals exact ⟨rfl, below2 T4.out.o.bl (below_drew (Below.refl _ _))⟩
    · have hne : ((yn : Int) != 128) = true := by simp; omega
      subst hx8
      clear hy8
      go_wp2_with (first
        | (go_at_call 8; refine (c_known w).mono ?_; rintro e w1 ⟨rfl, hb1⟩; replace hb1 := Lib.hid hb1)
        | (go_at_call 9; refine (c_New 9 w1 (by decide) (by decide)).mono ?_; rintro e w2 ⟨B, F, rfl, hD, hF, hb⟩; have O2 : Hid (Own w w2 F B (Dk.new 9)) := Lib.hid ⟨hD, fun g hg => Nat.le_trans hb1.out.size (hF g hg), below2 hb1.out hb⟩; clear hD hF hb; have VA2 := Lib.hid (VA.out.below O2.out.bl))
        | (at_builtin; refine wpList_append_bytes (o := ⟨some 25, _, _, _, _, _⟩) ?_ (.tmp 23) (.tmp 24) ?_ w2.heap.size (.slice (some ⟨w2.heap.size, 0, none⟩) 1 1) [1] ?_ (row_one w2 1) (.slice ad n c) a ?_ (VA2.out.below (below_al0 _ _)) ?_ ?_ ?_; exact rfl; exact rfl; exact rfl; exact rfl; (have := hLa.out; simp; omega); (simp); intro v3 w3 hrw3 how3 hqw3; have hbw3 : Hid (Below w2.heap.size w2 w3) := Lib.hid (Off.below (below_al0 w2 _) how3 (below_al0 w2 _).size (fun k hk => by cases hk; exact Nat.le_refl _)); replace hrw3 := Lib.hid hrw3; clear how3 hqw3)
        | (go_at_call 14; refine (c_sector_own w3 w2.heap.size v3 ([1] ++ a) hrw3.out (by simp) hbw3.out.size).mono ?_; rintro e w4 ⟨gx, cx, rfl, hxw4, hbw4⟩; rw [hXB.out, hXn.out] at hxw4 ⊢; replace hxw4 := Lib.hid hxw4; replace hbw4 := Lib.hid (below2 hbw3.out hbw4); clear hrw3; have VB4 := Lib.hid (VB.out.below (below2 O2.out.bl hbw4.out)))
        | (at_builtin; refine wpList_append_bytes (o := ⟨some 29, _, _, _, _, _⟩) ?_ (.tmp 27) (.tmp 28) ?_ w4.heap.size (.slice (some ⟨w4.heap.size, 0, none⟩) 1 1) [2] ?_ (row_one w4 2) (.slice bd m c2) b ?_ (VB4.out.below (below_al0 _ _)) ?_ ?_ ?_; exact rfl; exact rfl; exact rfl; exact rfl; (have := hLb.out; simp; omega); (simp); intro v5 w5 hrw5 how5 hqw5; have hbw5 : Hid (Below w4.heap.size w4 w5) := Lib.hid (Off.below (below_al0 w4 _) how5 (below_al0 w4 _).size (fun k hk => by cases hk; exact Nat.le_refl _)); replace hrw5 := Lib.hid hrw5; clear how5 hqw5)
        | (go_at_call 14; refine (c_sector_own w5 w4.heap.size v5 ([2] ++ b) hrw5.out (by simp) hbw5.out.size).mono ?_; rintro e w6 ⟨gy, cy, rfl, hxw6, hbw6⟩; rw [hYB.out, hYn.out] at hxw6 ⊢; replace hxw6 := Lib.hid hxw6; replace hbw6 := Lib.hid (below2 hbw5.out hbw6); clear hrw5))
      go_ret
      exact ⟨rfl, below2 O2.out.bl (below2 hbw4.out hbw6.out)⟩
  · have hne : ((xn : Int) != 128) = true := by simp; omega
    clear hx8
    go_wp2_with (first
        | (go_at_call 8; refine (c_known w).mono ?_; rintro e w1 ⟨rfl, hb1⟩; replace hb1 := Lib.hid hb1)
        | (go_at_call 9; refine (c_New 9 w1 (by decide) (by decide)).mono ?_; rintro e w2 ⟨B, F, rfl, hD, hF, hb⟩; have O2 : Hid (Own w w2 F B (Dk.new 9)) := Lib.hid ⟨hD, fun g hg => Nat.le_trans hb1.out.size (hF g hg), below2 hb1.out hb⟩; clear hD hF hb; have VA2 := Lib.hid (VA.out.below O2.out.bl))
        | (at_builtin; refine wpList_append_bytes (o := ⟨some 25, _, _, _, _, _⟩) ?_ (.tmp 23) (.tmp 24) ?_ w2.heap.size (.slice (some ⟨w2.heap.size, 0, none⟩) 1 1) [1] ?_ (row_one w2 1) (.slice ad n c) a ?_ (VA2.out.below (below_al0 _ _)) ?_ ?_ ?_; exact rfl; exact rfl; exact rfl; exact rfl; (have := hLa.out; simp; omega); (simp); intro v3 w3 hrw3 how3 hqw3; have hbw3 : Hid (Below w2.heap.size w2 w3) := Lib.hid (Off.below (below_al0 w2 _) how3 (below_al0 w2 _).size (fun k hk => by cases hk; exact Nat.le_refl _)); replace hrw3 := Lib.hid hrw3; clear how3 hqw3)
        | (go_at_call 14; refine (c_sector_own w3 w2.heap.size v3 ([1] ++ a) hrw3.out (by simp) hbw3.out.size).mono ?_; rintro e w4 ⟨gx, cx, rfl, hxw4, hbw4⟩; rw [hXB.out, hXn.out] at hxw4 ⊢; replace hxw4 := Lib.hid hxw4; replace hbw4 := Lib.hid (below2 hbw3.out hbw4); clear hrw3; have VB4 := Lib.hid (VB.out.below (below2 O2.out.bl hbw4.out)))
        | (at_builtin; refine wpList_append_bytes (o := ⟨some 29, _, _, _, _, _⟩) ?_ (.tmp 27) (.tmp 28) ?_ w4.heap.size (.slice (some ⟨w4.heap.size, 0, none⟩) 1 1) [2] ?_ (row_one w4 2) (.slice bd m c2) b ?_ (VB4.out.below (below_al0 _ _)) ?_ ?_ ?_; exact rfl; exact rfl; exact rfl; exact rfl; (have := hLb.out; simp; omega); (simp); intro v5 w5 hrw5 how5 hqw5; have hbw5 : Hid (Below w4.heap.size w4 w5) := Lib.hid (Off.below (below_al0 w4 _) how5 (below_al0 w4 _).size (fun k hk => by cases hk; exact Nat.le_refl _)); replace hrw5 := Lib.hid hrw5; clear how5 hqw5)
        | (go_at_call 14; refine (c_sector_own w5 w4.heap.size v5 ([2] ++ b) hrw5.out (by simp) hbw5.out.size).mono ?_; rintro e w6 ⟨gy, cy, rfl, hxw6, hbw6⟩; rw [hYB.out, hYn.out] at hxw6 ⊢; replace hxw6 := Lib.hid hxw6; replace hbw6 := Lib.hid (below2 hbw5.out hbw6); clear hrw5))
    go_ret
    exact ⟨rfl, below2 O2.out.bl (below2 hbw4.out hbw6.out)⟩
end Go.Proofs.Ytnlemjjigiphcaa
