/- CpuRings: the law's walk. -/
import Derived.Test.YtiakonmamkfopaaCpuMg
import Derived.Deep.CutRange
import Derived.Deep.RegionHeld3
import Derived.Deep.QuietTactic
import Derived.BigQuiet
namespace Go.Proofs.Ytiakonmamkfopaa
open Go.RowKit Go.ChangeShapes
set_option linter.unusedVariables false
set_option maxRecDepth 100000

set_option maxHeartbeats 8000000 in
theorem law_CpuRings (w : World) (v : Value) (hv : PcAt w v) (x : St) (u : Value) (hu : FrIn w u) (n : Int) : Calls Try.prog 4 #[v, .agg (begC x u), .int .i64 n] w fun e w' => e = .returned (.bool true) ∧ Below w.heap.size w w' := by
  obtain ⟨W0, hW0, B0, HB⟩ : ∃ W, w.alloc (.cells (begC x u) 28) = W ∧ Hid (begAt W w.heap.size x u) ∧ Hid (Below w.heap.size w W) := ⟨_, rfl, heap_alloc_new _ _, below_al0 _ _⟩
  obtain ⟨nn, hnn⟩ : ∃ m : Nat, n % 40 = (m : Int) := ⟨(n % 40).toNat, by omega⟩
  have hn30 : nn < 40 := by omega
  have hw1 : IntKind.i64.wrap (1 + (nn : Int)) = 1 + (nn : Int) := by rw [IntKind.wrap_i64]; omega
  replace hnn := Lib.hid hnn
  replace hv := Lib.hid hv
  replace hu := Lib.hid hu
  replace hW0 := Lib.hid hW0
  have hone : Hid (u.oneCell' = true) := by obtain ⟨ad, n, cap, hq, _⟩ := hu.out; subst hq; rfl
  go_enter Try.func4, Try.ntmps4
  go_wp2_with fail
  rw [show w.alloc (.cells (begC x u) 28) = W0 from hW0.out]
  refine (c_known _).mono ?_
  rintro e w1 ⟨rfl, hb1⟩
  dsimp only
  have B1 : Hid (begAt w1 w.heap.size x u) := Off.keeps (.of_below (ex := fun _ => False) hb1) B0.out id
  have L1 := Lib.hid (below2 HB.out hb1)
  clear hW0 B0 HB hb1
  go_wp2_with fail
  refine (c_memory w1 v (hv.out.below L1.out)).mono ?_
  rintro e w5 ⟨v', vs, M, rfl, hsg, hM5, hMg, hb5⟩
  dsimp only
  obtain ⟨am, cm, hq, _, _⟩ := row_shape hsg.row
  subst hq
  have B5 : Hid (begAt w5 w.heap.size x u) := Off.keeps (.of_below (ex := fun _ => False) hb5) B1.out id
  have L5 := Lib.hid (below2 L1.out hb5)
  replace hsg := Lib.hid hsg.base
  replace hMg := Lib.hid hMg
  replace hM5 := Lib.hid hM5
  clear hb5 L1 B1
  go_wp2_with (first | ((with_reducible refine wpList_load_bg (op := ⟨some 29, .load 28 (.tmp 4), _, _, _, _⟩) (N := w.heap.size) (x := x) (u := u) ?_ (.tmp 4) ?_ ?_ ?_ ?_); exact rfl; exact rfl; exact rfl; exact bg_range B5.out))
  refine (c_begin w5 x u (hu.out.below L5.out)).mono ?_
  rintro e w2 ⟨s, stk, l, rfl, hs, hl8, hg, hfr, hb2⟩
  dsimp only
  obtain ⟨ad, cp, hq, _, _⟩ := row_shape hs
  subst hq
  replace hs := Lib.hid hs
  have L2 := Lib.hid (below2 L5.out hb2)
  have G2 : Hid (Segs w2 0 (.slice am M.length cm) vs M) := hsg.out.off (ex := fun _ => False) (.of_below hb2) (fun _ h => h.elim) (fun _ h => h.elim)
  replace hl8 := Lib.hid hl8
  have hgh : Hid (s.hal = false) := hg.h
  clear hb2 L5 B5 hg hfr hsg
  go_wp2_with (first | ((with_reducible refine wpList_store_st (op := ⟨none, .store 33 (.tmp 8) (.tmp 30), _, _, _, _⟩) (N := w2.heap.size) (s := St.zero) (stk := (.slice none 0 0)) (s' := s) (stk' := (.slice ad l.length cp)) ?_ (.tmp 8) (.tmp 30) ?_ ?_ ?_ ?_ ?_ ?_); exact rfl; exact rfl; exact rfl; exact rfl; exact (show stAt _ w2.heap.size St.zero (.slice none 0 0) from heap_alloc_new w2 (.cells (stC St.zero (.slice none 0 0)) 33)); exact rfl; intro w3 S3 F3; replace F3 := Lib.hid F3; replace S3 := Lib.hid S3))
  have B3 : Below w2.heap.size w2 w3 := Off.below (below_al0 w2 (.cells (stC St.zero (.slice none 0 0)) 33)) F3.out (by simp) (fun k hk => by omega)
  have H0 : Hid (RGr w w3 w2.heap.size s (.slice ad l.length cp) l (.slice am M.length cm) vs M) := ⟨S3.out, stkAt.off (ex := fun _ => False) hs.out (.of_below B3) (fun _ h => h.elim), hl8.out, G2.out.off (ex := fun _ => False) (.of_below B3) (fun _ h => h.elim) (fun _ h => h.elim), hM5.out, hMg.out, hgh.out, below2 L2.out B3, L2.out.size⟩
  clear B3 F3 S3 hs G2 hl8 L2 hM5 hMg hgh
  generalize w2.heap.size = N at H0 ⊢
  go_loopw [7, 9] (fun mv kv wr => ∃ (k : Nat) (s : St) (stk : Value) (l : List Fr) (vs : List Value) (M : List Sg), kv = .int .i64 k ∧ k ≤ 1 + nn ∧ Hid (RGr w wr N s stk l mv vs M)) (fun _ kv _ => 50 - (intOf kv).toNat)
  case atStart => exact ⟨0, s, _, l, vs, M, rfl, by omega, H0⟩
  case round =>
    clear H0
    obtain ⟨k, s, stk, l, vs, M, rfl, hkn, HR⟩ := hrel
    have hmv : ∃ am cm, u7 = .slice am M.length cm := by obtain ⟨am, cm, hq, _, _⟩ := row_shape HR.out.sg.row; exact ⟨am, cm, hq⟩
    obtain ⟨am, cm, rfl⟩ := hmv
    by_cases hk : k < 1 + nn
    · have hk' : (k : Int) < 1 + (nn : Int) := by omega
      have sN : N < wr.heap.size := HR.out.st.lt
      have c0 : wr.cell? ⟨N, 0, none⟩ = some (.int .i64 s.seg) := HR.out.st.cell 0
      go_wp2_with (first | (go_at_call 21; refine (within16 _ _ (by decide) (by decide) _).mono ?_; rintro e w2 ⟨rfl, hw2⟩; subst hw2; rw [hnn.out]))
      clear c0 sN
      obtain ⟨W6, hW6, Y6, B6⟩ : ∃ W, wr.alloc (.cells #[.slice am M.length cm, .bool false, .int .i64 0, .int .i64 0, .int .i64 0, .int .i64 0] 47) = W ∧ Hid (memAt W 0 wr.heap.size (.slice am M.length cm) false 0 0 0 0) ∧ Hid (Below wr.heap.size wr W) := ⟨_, rfl, heap_alloc_new _ _, below_al0 _ _⟩
      rw [hW6]
      clear hW6
      have R6 : Hid (RGr w W6 N s stk l (.slice am M.length cm) vs M) := HR.out.below B6.out
      have hwY : Hid (w.heap.size ≤ wr.heap.size) := HR.out.bl.size
      have hNY : Hid (N < wr.heap.size) := HR.out.st.lt
      clear HR B6
      cases hsg : seg? M s.seg with
      | none =>
        as_aux_lemma =>
          have hq := Lib.hid (st_none (l := l) hsg R6.out.h)
          refine (c_MemSegment_none W6 0 wr.heap.size _ vs M false 0 0 0 0 s.seg Y6.out R6.out.sg (by have := R6.out.m5; omega) (seg?_none hsg)).mono ?_
          rintro e w7 ⟨rfl, hb7⟩
          dsimp only
          unfold noV
          have R8 : Hid (RGr w (w7.alloc (.cells #[.slice none 0 0, .int .i64 0, .int .i64 0, .int .i64 0, .int .i64 0, .int .i64 0] 60)) N s stk l (.slice am M.length cm) vs M) := (R6.out.below hb7).below (below_al0 _ _)
          have Y8 : Hid (memAt (w7.alloc (.cells #[.slice none 0 0, .int .i64 0, .int .i64 0, .int .i64 0, .int .i64 0, .int .i64 0] 60)) 0 wr.heap.size (.slice am M.length cm) false 0 0 0 0) := Off.keeps (ex := fun _ => False) ((Off.of_below hb7).alloc _) Y6.out id
          clear R6 Y6 hb7 hsg
          go_wp2_with (first | ((with_reducible refine wpList_load_st (op := ⟨some 49, .load 33 (.tmp 8), _, _, _, _⟩) (N := N) (s := s) (stk := stk) ?_ (.tmp 8) ?_ ?_ ?_ ?_); exact rfl; exact rfl; exact rfl; exact st_range R8.out.st))
          refine (c_Step_er _ 0 wr.heap.size s stk M l (R8.out.mem Y8.out) R8.out.rw (by have := R8.out.l8; omega) 35 hq.out).mono ?_
          rintro e w9 ⟨rfl, hb9⟩
          dsimp only
          have L9 := Lib.hid (below2 R8.out.bl hb9)
          clear hb9 R8 Y8
          go_wp2_with (first | ((with_reducible refine wpList_store_st (op := ⟨none, .store 33 (.tmp 13) (.tmp 53), _, _, _, _⟩) (N := w9.heap.size) (s := St.zero) (stk := (.slice none 0 0)) (s' := St.zero) (stk' := (.slice none 0 0)) ?_ (.tmp 13) (.tmp 53) ?_ ?_ ?_ ?_ ?_ ?_); exact rfl; exact rfl; exact rfl; exact rfl; exact (show stAt _ w9.heap.size St.zero (.slice none 0 0) from heap_alloc_new w9 (.cells (stC St.zero (.slice none 0 0)) 33)); exact rfl; intro w10 S10 F10; have B10 : Hid (Below w9.heap.size w9 w10) := Off.below (below_al0 w9 (.cells (stC St.zero (.slice none 0 0)) 33)) F10 (by simp) (fun k hk => by omega); clear S10 F10))
          go_ret
          exact ⟨rfl, below2 L9.out B10.out⟩
      | some g =>
        obtain ⟨K, hK, hMK, his⟩ := seg_nat hsg
        have hwl : g.ws.length ≤ 16 := (R6.out.mg g (List.mem_of_getElem? hMK)).ws
        rw [hK]
        refine (c_MemSegment_some W6 0 wr.heap.size _ vs M false 0 0 0 0 K g Y6.out R6.out.sg (by have := R6.out.m5; omega) hMK his (by omega) (Nat.zero_le _)).mono ?_
        rintro e w7 ⟨u', rfl, hru, hb7⟩
        dsimp only
        obtain ⟨au, cu, hq, _, _⟩ := row_shape hru
        subst hq
        unfold sgV
        have R8 : Hid (RGr w (w7.alloc (.cells #[.slice au g.ws.length cu, .int .i64 g.md, .int .i64 g.r1, .int .i64 g.r2, .int .i64 g.r3, .int .i64 g.g] 60)) N s stk l (.slice am M.length cm) vs M) := (R6.out.below hb7).below (below_al0 _ _)
        have Y8 : Hid (memAt (w7.alloc (.cells #[.slice au g.ws.length cu, .int .i64 g.md, .int .i64 g.r1, .int .i64 g.r2, .int .i64 g.r3, .int .i64 g.g] 60)) 0 wr.heap.size (.slice am M.length cm) false 0 0 0 0) := Off.keeps (ex := fun _ => False) ((Off.of_below hb7).alloc _) Y6.out id
        have U8 : Hid ((w7.alloc (.cells #[.slice au g.ws.length cu, .int .i64 g.md, .int .i64 g.r1, .int .i64 g.r2, .int .i64 g.r3, .int .i64 g.g] 60)).ownsRow 0 2 1 (.slice au g.ws.length cu) g.ws.length (g.ws.map (Value.int .i64))) := row_base (Off.row (ex := fun _ => False) ((Off.refl _ _).alloc _) hru (fun _ h => h.elim)) (Nat.zero_le _)
        have G8 : Hid (blk6 (w7.alloc (.cells #[.slice au g.ws.length cu, .int .i64 g.md, .int .i64 g.r1, .int .i64 g.r2, .int .i64 g.r3, .int .i64 g.g] 60)) w7.heap.size 60 (.slice au g.ws.length cu) (.int .i64 g.md) (.int .i64 g.r1) (.int .i64 g.r2) (.int .i64 g.r3) (.int .i64 g.g)) := heap_alloc_new _ _
        have h7Y : Hid (wr.heap.size < w7.heap.size) := Nat.lt_of_lt_of_le (Array.getElem?_eq_some_iff.1 Y6.out).1 hb7.size
        replace hsg := Lib.hid hsg
        replace hK := Lib.hid hK
        replace hMK := Lib.hid hMK
        replace his := Lib.hid his
        replace hwl := Lib.hid hwl
        clear R6 Y6 hb7 hru
        go_wp2_with (first | ((with_reducible refine wpList_load_st (op := ⟨some 49, .load 33 (.tmp 8), _, _, _, _⟩) (N := N) (s := s) (stk := stk) ?_ (.tmp 8) ?_ ?_ ?_ ?_); exact rfl; exact rfl; exact rfl; exact st_range R8.out.st))
        generalize w7.alloc (.cells #[.slice au g.ws.length cu, .int .i64 g.md, .int .i64 g.r1, .int .i64 g.r2, .int .i64 g.r3, .int .i64 g.g] 60) = W8 at R8 Y8 U8 G8 ⊢
        cases hst : stR M s l with
        | error er =>
          as_aux_lemma =>
            obtain ⟨h31, h37⟩ := stR_err hst
            have hne : ¬ er = 0 := by omega
            have hne' : (er != 0) = true := by simpa using hne
            refine (c_Step_er W8 0 wr.heap.size s stk M l (R8.out.mem Y8.out) R8.out.rw (by have := R8.out.l8; omega) er hst).mono ?_
            rintro e w9 ⟨rfl, hb9⟩
            dsimp only
            have L9 := Lib.hid (below2 R8.out.bl hb9)
            clear hb9 R8 Y8 U8 G8 hst h31 h37
            go_wp2_with (first | ((with_reducible refine wpList_store_st (op := ⟨none, .store 33 (.tmp 13) (.tmp 53), _, _, _, _⟩) (N := w9.heap.size) (s := St.zero) (stk := (.slice none 0 0)) (s' := St.zero) (stk' := (.slice none 0 0)) ?_ (.tmp 13) (.tmp 53) ?_ ?_ ?_ ?_ ?_ ?_); exact rfl; exact rfl; exact rfl; exact rfl; exact (show stAt _ w9.heap.size St.zero (.slice none 0 0) from heap_alloc_new w9 (.cells (stC St.zero (.slice none 0 0)) 33)); exact rfl; intro w10 S10 F10; have B10 : Hid (Below w9.heap.size w9 w10) := Off.below (below_al0 w9 (.cells (stC St.zero (.slice none 0 0)) 33)) F10 (by simp) (fun k hk => by omega); clear S10 F10))
            go_ret
            exact ⟨rfl, below2 L9.out B10.out⟩
        | ok r =>
          refine (c_Step_ok W8 0 wr.heap.size s stk M l (R8.out.mem Y8.out) R8.out.rw (by have := R8.out.l8; omega) (.slice am M.length cm) false 0 0 0 0 Y8.out r hst).mono ?_
          rintro e w9 ⟨stk', rfl, hs9, hmt, ho⟩
          dsimp only
          obtain ⟨ad9, cp9, hq, _, _⟩ := row_shape hs9
          subst hq
          have L9 := Lib.hid (Off.below R8.out.bl ho R8.out.bl.size (fun k hk => by have := hwY.out; omega))
          cases hh : r.s.hal with
          | true =>
            as_aux_lemma =>
              clear hs9 hmt ho R8 Y8 U8 G8 hst
              go_wp2_with (first | ((with_reducible refine wpList_store_st (op := ⟨none, .store 33 (.tmp 13) (.tmp 53), _, _, _, _⟩) (N := w9.heap.size) (s := St.zero) (stk := (.slice none 0 0)) (s' := r.s) (stk' := (.slice ad9 r.l.length cp9)) ?_ (.tmp 13) (.tmp 53) ?_ ?_ ?_ ?_ ?_ ?_); exact rfl; exact rfl; exact rfl; exact rfl; exact (show stAt _ w9.heap.size St.zero (.slice none 0 0) from heap_alloc_new w9 (.cells (stC St.zero (.slice none 0 0)) 33)); exact rfl; intro w10 S10 F10; have B10 : Hid (Below w9.heap.size w9 w10) := Off.below (below_al0 w9 (.cells (stC St.zero (.slice none 0 0)) 33)) F10 (by simp) (fun k hk => by omega); have z17 : w10.cell? ⟨w9.heap.size, 17, none⟩ = some (.bool true) := hh ▸ S10.cell 17; clear S10 F10))
              go_ret
              exact ⟨rfl, below2 L9.out B10.out⟩
          | false =>
            as_aux_lemma =>
              obtain ⟨g', x0, hg', o0, o1, hx0, hd, p0, p1, RF⟩ := stR_rf hst R8.out.h
              obtain rfl : g = g' := Option.some.inj (hsg.out.symm.trans hg')
              obtain ⟨O, hO⟩ : ∃ O : Nat, s.off = (O : Int) := ⟨s.off.toNat, by omega⟩
              have hOx : g.ws[O]? = some x0 := by rw [hO, Int.toNat_natCast] at hx0; exact hx0
              have hOl : O < g.ws.length := (List.getElem?_eq_some_iff.1 hOx).1
              obtain ⟨gu, cu', hq⟩ := row_some U8.out (by omega)
              cases hq
              have S9 : Hid (stAt w9 N s stk) := Off.keeps ho R8.out.st (by have := hNY.out; omega)
              have K9 := Lib.hid hs9
              have M9 : Hid (Segs w9 0 (.slice am M.length cm) vs M) := R8.out.sg.off ho (mem_not Y8.out _ (by decide)) (mem_not Y8.out _ (by decide))
              have G9 : Hid (blk6 w9 w7.heap.size 60 (.slice (some ⟨gu, 0, none⟩) g.ws.length cu) (.int .i64 g.md) (.int .i64 g.r1) (.int .i64 g.r2) (.int .i64 g.r3) (.int .i64 g.g)) := Off.keeps ho G8.out (by have := h7Y.out; omega)
              have U9 := Lib.hid (Off.row ho U8.out (mem_not Y8.out _ (by decide)))
              have hl9 : Hid (r.l.length ≤ 8) := stR_len hst R8.out.l8
              have hm5 := Lib.hid R8.out.m5
              have hmg := Lib.hid R8.out.mg
              have hlo := Lib.hid R8.out.lo
              replace hmt := Lib.hid hmt
              replace RF := Lib.hid RF
              replace hd := Lib.hid hd
              replace p0 := Lib.hid p0
              replace p1 := Lib.hid p1
              replace hOx := Lib.hid hOx
              replace hh := Lib.hid hh
              clear hs9 ho R8 Y8 U8 G8 hst hg' o0 o1 hx0
              replace hO := Lib.hid hO
              have hnl : ¬ (O : Int) < 0 := by omega
              have hle : ¬ (g.ws.length : Int) ≤ (O : Int) := by omega
              go_wp2_with (first | (go_at_call 25; refine (r_Decode x0 _).mono ?_; rintro e w11 ⟨rfl, hb11⟩; rw [if_pos hd.out, hd.out]; have B11 := Lib.hid hb11; have S11 : Hid (stAt w11 w9.heap.size r.s (.slice ad9 r.l.length cp9)) := Off.keeps (.of_below (ex := fun _ => False) hb11) S10.out id; have z0 : w11.cell? ⟨w9.heap.size, 0, none⟩ = some (.int .i64 r.s.seg) := S11.out.cell 0; have zl : w9.heap.size < w11.heap.size := S11.out.lt; clear hb11; dsimp only) | ((with_reducible refine wpList_store_st (op := ⟨none, .store 33 (.tmp 13) (.tmp 53), _, _, _, _⟩) (N := w9.heap.size) (s := St.zero) (stk := (.slice none 0 0)) (s' := r.s) (stk' := (.slice ad9 r.l.length cp9)) ?_ (.tmp 13) (.tmp 53) ?_ ?_ ?_ ?_ ?_ ?_); exact rfl; exact rfl; exact rfl; exact rfl; exact (show stAt _ w9.heap.size St.zero (.slice none 0 0) from heap_alloc_new w9 (.cells (stC St.zero (.slice none 0 0)) 33)); exact rfl; intro w10 S10 F10; have B10 : Hid (Below w9.heap.size w9 w10) := Off.below (below_al0 w9 (.cells (stC St.zero (.slice none 0 0)) 33)) F10 (by simp) (fun k hk => by omega); have z17 : w10.cell? ⟨w9.heap.size, 17, none⟩ = some (.bool false) := hh.out ▸ S10.cell 17; have s1 : w10.cell? ⟨N, 1, none⟩ = some (.int .i64 (O : Int)) := hO.out ▸ (show stAt w10 N s stk from Off.keeps (.of_below (ex := fun _ => False) B10.out) S9.out id).cell 1; have q0 : w10.cell? ⟨w7.heap.size, 0, none⟩ = some (.slice (some ⟨gu, 0, none⟩) g.ws.length cu) := (show blk6 w10 w7.heap.size _ _ _ _ _ _ _ from Off.keeps (.of_below (ex := fun _ => False) B10.out) G9.out id).facts.1.1; have xO : w10.cell? ⟨gu, O, none⟩ = some (.int .i64 x0) := (by have h1 := row_cells U9.out _ rfl O (.int .i64 x0) (by rw [List.getElem?_map, hOx.out]; rfl); rw [Addr.add_mk0] at h1; exact off_cell (Off.of_below (ex := fun _ => False) B10.out) h1 id); replace S10 := Lib.hid S10; clear F10))
              -- behind the decoding: the facts at w12 = w11 with the instruction's block
              obtain ⟨w12, hw12, I12, B12⟩ : ∃ W, w11.alloc (.cells #[.int .i64 (dOp x0), .int .i64 (dP x0), .int .i64 (dN x0)] 64) = W ∧ Hid (blk3 W w11.heap.size 64 (.int .i64 (dOp x0)) (.int .i64 (dP x0)) (.int .i64 (dN x0))) ∧ Hid (Below w9.heap.size w9 W) := ⟨_, rfl, heap_alloc_new _ _, below2 (below2 B10.out B11.out) (below_al0 _ _)⟩
              rw [hw12]
              have S12 : Hid (stAt w12 w9.heap.size r.s (.slice ad9 r.l.length cp9)) := hw12 ▸ (Off.keeps (ex := fun _ => False) ((Off.refl _ w11).alloc _) S11.out id)
              have N12 : Hid (stAt w12 N s stk) := Off.keeps (.of_below (ex := fun _ => False) B12.out) S9.out id
              have M12 : Hid (Segs w12 0 (.slice am M.length cm) vs M) := M9.out.off (ex := fun _ => False) (.of_below B12.out) (fun _ h => h.elim) (fun _ h => h.elim)
              have K12 : Hid (stkAt w12 (.slice ad9 r.l.length cp9) r.l) := stkAt.off (ex := fun _ => False) K9.out (.of_below B12.out) (fun _ h => h.elim)
              have L12 := Lib.hid (below2 L9.out B12.out)
              have Y12 : Hid (∃ is sg of_ xx nn0, memAt w12 0 wr.heap.size (.slice am M.length cm) is sg of_ xx nn0) := by
                cases hrs : r.st with
                | none =>
                  have h1 := hmt.out
                  rw [hrs] at h1
                  exact ⟨_, _, _, _, _, Off.keeps (.of_below (ex := fun _ => False) B12.out) (show memAt w9 0 wr.heap.size (.slice am M.length cm) false 0 0 0 0 from h1) id⟩
                | some y =>
                  obtain ⟨y1, y2, y3⟩ := y
                  have h1 := hmt.out
                  rw [hrs] at h1
                  exact ⟨_, _, _, _, _, Off.keeps (.of_below (ex := fun _ => False) B12.out) (show memAt w9 0 wr.heap.size (.slice am M.length cm) true y1 y2 y3 (wrap64 (0 + 1)) from h1) id⟩
              have YM : Hid (match r.st with | none => memAt w12 0 wr.heap.size (.slice am M.length cm) false 0 0 0 0 | some (y1, y2, y3) => memAt w12 0 wr.heap.size (.slice am M.length cm) true y1 y2 y3 1) := Lib.hid (by
                have h1 := hmt.out
                revert h1
                cases r.st with
                | none => exact fun h1 => Off.keeps (.of_below (ex := fun _ => False) B12.out) (show memAt w9 0 wr.heap.size (.slice am M.length cm) false 0 0 0 0 from h1) id
                | some y =>
                  obtain ⟨y1, y2, y3⟩ := y
                  intro h1
                  have h2 : memAt w9 0 wr.heap.size (.slice am M.length cm) true y1 y2 y3 (wrap64 (0 + 1)) := h1
                  rw [show wrap64 (0 + 1) = 1 from by decide +kernel] at h2
                  exact Off.keeps (.of_below (ex := fun _ => False) B12.out) h2 id)
              clear hw12 z17 s1 q0 xO z0 zl S10 S11 B10 B11 S9 M9 K9 U9 G9
              obtain ⟨is12, sg12, of12, x12, n12, Y13⟩ := Y12.out
              refine (c_MemSegment_any w12 wr.heap.size _ vs M is12 sg12 of12 x12 n12 r.s.seg Y13 M12.out hm5.out hmg.out).mono ?_
              rintro e w13 ⟨ad13, len13, cp13, q, had, rfl, hsq, hlen13, hb13⟩
              dsimp only
              unfold sgV
              replace hsq := Lib.hid hsq
              replace hlen13 := Lib.hid hlen13
              replace hb13 := Lib.hid hb13
              clear Y13
              go_upto_region 19 with fail
              obtain ⟨w14, hw14, Q14, B14⟩ : ∃ W, w13.alloc (.cells #[.slice ad13 len13 cp13, .int .i64 q.md, .int .i64 q.r1, .int .i64 q.r2, .int .i64 q.r3, .int .i64 q.g] 60) = W ∧ Hid (blk6 W w13.heap.size 60 (.slice ad13 len13 cp13) (.int .i64 q.md) (.int .i64 q.r1) (.int .i64 q.r2) (.int .i64 q.r3) (.int .i64 q.g)) ∧ Hid (Below w12.heap.size w12 W) := ⟨_, rfl, heap_alloc_new _ _, below2 hb13.out (below_al0 _ _)⟩
              rw [hw14]
              clear hw14
              have S14 : Hid (stAt w14 w9.heap.size r.s (.slice ad9 r.l.length cp9)) := Off.keeps (.of_below (ex := fun _ => False) B14.out) S12.out id
              have N14 : Hid (stAt w14 N s stk) := Off.keeps (.of_below (ex := fun _ => False) B14.out) N12.out id
              have I14 : Hid (blk3 w14 w11.heap.size 64 (.int .i64 (dOp x0)) (.int .i64 (dP x0)) (.int .i64 (dN x0))) := Off.keeps (.of_below (ex := fun _ => False) B14.out) I12.out id
              go_cut [151] from 31 to 321 (fun cv wx => cv = .bool false ∧ wx = w14)
              case first =>
                have t2 : w14.cell? ⟨w9.heap.size, 2, none⟩ = some (.int .i64 r.s.ring) := S14.out.cell 2
                have t1 : w14.cell? ⟨w9.heap.size, 1, none⟩ = some (.int .i64 r.s.off) := S14.out.cell 1
                have n2 : w14.cell? ⟨N, 2, none⟩ = some (.int .i64 s.ring) := N14.out.cell 2
                have i0 : w14.cell? ⟨w11.heap.size, 0, none⟩ = some (.int .i64 (dOp x0)) := I14.out.facts.1.1
                have q3 : w14.cell? ⟨w13.heap.size, 3, none⟩ = some (.int .i64 q.r2) := cell_of_row w14 w13.heap.size 3 _ _ _ Q14.out
                have q4 : w14.cell? ⟨w13.heap.size, 4, none⟩ = some (.int .i64 q.r3) := cell_of_row w14 w13.heap.size 4 _ _ _ Q14.out
                have q5 : w14.cell? ⟨w13.heap.size, 5, none⟩ = some (.int .i64 q.g) := cell_of_row w14 w13.heap.size 5 _ _ _ Q14.out
                by_cases hf : r.s.ring < s.ring
                · obtain ⟨ho, tg, ht, h1, h2, h3⟩ := RF.out.fall hf
                  have hz := hsq.out
                  cases had with
                  | false => rw [hz] at ht; cases ht
                  | true =>
                    rw [hz] at ht
                    cases ht
                    have he : (dOp x0 != 20) = false := by simp [ho]
                    have e1 : (r.s.ring != q.r2) = false := by simp [h1]
                    have e2 : ¬ q.r3 < s.ring := by omega
                    have e3 : ¬ q.g ≤ r.s.off := by omega
                    have e4 : ¬ s.ring < r.s.ring := by omega
                    clear hz h1 h2 h3 ho
                    go_wp2_with fail
                    go_meet
                    case rel => exact ⟨rfl, rfl⟩
                · by_cases hr : s.ring < r.s.ring
                  · rcases RF.out.rise hr with ho | ho
                    · have he : (dOp x0 != 20) = false := by simp [ho]
                      clear ho
                      go_wp2_with fail
                      go_meet
                      case rel => exact ⟨rfl, rfl⟩
                    · have he : (dOp x0 != 20) = true := by simp [ho]
                      have he2 : (dOp x0 != 21) = false := by simp [ho]
                      clear ho
                      go_wp2_with fail
                      go_meet
                      case rel => exact ⟨rfl, rfl⟩
                  · go_wp2_with fail
                    go_meet
                    case rel => exact ⟨rfl, rfl⟩
              case rest =>
                obtain ⟨rfl, rfl⟩ := hcut
                iterate 5 go_step
                have M14 : Segs wc 0 (.slice am M.length cm) vs M := M12.out.off (ex := fun _ => False) (.of_below B14.out) (fun _ h => h.elim) (fun _ h => h.elim)
                have K14 : stkAt wc (.slice ad9 r.l.length cp9) r.l := stkAt.off (ex := fun _ => False) K12.out (.of_below B14.out) (fun _ h => h.elim)
                have Y14 : (match r.st with | none => memAt wc 0 wr.heap.size (.slice am M.length cm) false 0 0 0 0 | some (y1, y2, y3) => memAt wc 0 wr.heap.size (.slice am M.length cm) true y1 y2 y3 1) := by
                  have h1 := YM.out
                  revert h1
                  cases r.st with
                  | none => exact fun h1 => Off.keeps (.of_below (ex := fun _ => False) B14.out) h1 id
                  | some y => exact fun h1 => Off.keeps (.of_below (ex := fun _ => False) B14.out) h1 id
                refine tail19 w wc N w9.heap.size w11.heap.size wr.heap.size cm r.l.length cp9 am ad9 s r stk _ vs M (dOp x0) (dP x0) _ _ _ _ _ _ _ _ _ _ _ _ _ _ _ _ _ _ _ _ _ _ _ _ _ _ _ _ _ _ _ _ _ _ _ _ _ _ _ _ _ _ _ _ _ _ _ _ _ _ _ _ _ _ _ _ _ _ _ _ _ _ _ _ _ _ _ _ _ _ _ _ _ _ _ _ _ _ _ _ _ _ _ _ _ _ _ _ _ _ _ _ _ _ _ _ _ _ _ _ _ _ _ _ _ _ _ _ _ _ _ _ _ _ _ _ _ _ _ _ _ _ _ _ _ _ _ _ _ _ _ _ _ _ _ _ _ _ _ _ _ _ _ _ _ _ _ _ _ _ _ _ _ _ _ _ _ _ _ _ _ _ _ _ _ _ _ _ _ _ _ _ _ _ _ _ _ _ _ _ _ _ _ _ _ _ _ _ _ _ _ _ _ _ _ _ _ _ _ _ _ _ _ _ _ _ _ _ _ _ _ _ _ _ _ _ _ _ _ _ _ _ _ _ _ _ _ _ _ _ _ _ _ _ _ _ _ _ _ _ _ _ _ _ _ _ _ _ _ _ _ _ _ _ _ _ _ _ _ _ _ _ _ _ _ _ _ _ _ _ _ _ _ _ _ _ _ _ _ _ _ _ _ _ _ _ _ _ _ _ _ _ _ _ _ _ _ _ _ _ _ _ _ _ _ _ _ _ _ _ _ _ _ _ _ _ _ _ S14.out N14.out I14.out M14 hm5.out hmg.out K14 hl9.out hh.out (below2 L12.out B14.out) hlo.out RF.out p0.out p1.out Y14 ?_
                clear M14 K14 Y14
                intro t6 t7 t21 t22 t23 t24 t152 t153 t154 t155 t156 t157 t158 t159 t160 t161 t162 t163 t164 t165 t166 t167 t168 t169 t170 t171 t172 t173 t174 t175 t176 t177 t178 t179 t180 t181 t182 t183 t184 t185 t186 t187 t188 t189 t190 t191 t192 t193 t194 t195 t196 t197 t198 t199 t200 t201 t202 t203 t204 t205 t206 t207 t208 t209 t210 t211 t212 t213 t214 t215 t216 t217 t218 t219 t220 t221 t222 t223 t224 t225 t226 t227 t228 t229 t230 t231 t232 t233 t234 t235 t236 t237 t238 t239 t240 t241 t242 t243 t244 t245 t246 t247 t248 t249 t250 t251 t252 t253 t254 t255 t256 t257 t258 t259 t260 t261 t262 t263 t264 t265 t266 t267 t268 t269 t270 t271 t272 t273 t274 t275 t276 t277 t278 t279 t280 t281 t282 t283 t284 t285 t286 t287 t288 t289 t290 t291 t292 t293 t294 t295 t296 t297 t298 t299 t300 t301 t302 t303 t304 t305 t306 t307 t308 t309 t310 t311 t312 t313 t314 t315 t316 t317 t318 t319 t320 t321 w' vs' M' hR
                have HR2 := Lib.hid hR
                clear hR
                go_wp2_with fail
                go_roundw
                case rel => exact ⟨k + 1, r.s, _, r.l, vs', M', by go_num, by omega, HR2⟩
                case measure => simp [intOf]; omega
    · have hk' : ¬ (k : Int) < 1 + (nn : Int) := by omega
      go_wp2_with (first | (go_at_call 21; refine (within16 _ _ (by decide) (by decide) _).mono ?_; rintro e w2 ⟨rfl, hw2⟩; subst hw2; rw [hnn.out]))
      go_ret
      exact ⟨rfl, HR.out.bl⟩
end Go.Proofs.Ytiakonmamkfopaa
