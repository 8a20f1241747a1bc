/- DiskPlays: the law's walk. -/
import Derived.Test.YtnlemjjigiphcaaDrj
namespace Go.Proofs.Ytnlemjjigiphcaa
open Go.RowKit Go.ChangeShapes
set_option linter.unusedVariables false
set_option maxRecDepth 100000

set_option maxHeartbeats 4000000 in
theorem law_DiskPlays (w : World) (n : Int) (hn : I64 n) (q : Value) (hq : CaAt w q) : Calls Try.prog 6 #[.int .i64 n, q] w fun e w' => e = .returned (.bool true) ∧ Below w.heap.size w w' := by
  obtain ⟨qd, qn, qc, rfl, hqc, hqm, hq1⟩ := hq
  replace hq1 := Lib.hid hq1
  replace hn := Lib.hid hn
  have hqM : qn ≤ 9223372036854775807 := by unfold maxLen at hqm; omega
  clear hqc hqm
  go_enter Try.func6, Try.ntmps6
  by_cases h14 : 1 ≤ n ∧ n ≤ 4096
  · replace h14 := Lib.hid h14
    go_wp2_with (first
      | (go_at_call 8; refine (c_known w).mono ?_; rintro e w1 ⟨rfl, hb1⟩; replace hb1 := Lib.hid hb1)
      | (go_at_call 9; refine (c_New n w1 h14.out.1 h14.out.2).mono ?_; rintro e w2 ⟨B, F, rfl, hD, hF, hb⟩; have O2 : Hid (Own w w2 F B (Dk.new n)) := Lib.hid ⟨hD, fun g hg => Nat.le_trans hb1.out.size (hF g hg), below2 hb1.out hb⟩; clear hD hF hb)
      | (go_at_call 17; refine (c_rNew n w2 h14.out.1 h14.out.2).mono ?_; rintro e w3 ⟨X, G, rfl, hR, hG, hb⟩; have T3 : Hid (∃ F G d, TwoD w w3 F B G X d) := Lib.hid ⟨F, G, _, O2.out.below hb, hR, fun x hf hg => (by have h1 := O2.out.dk.lt x hf; have h2 := hG x hg; omega), fun x hx => Nat.le_trans O2.out.bl.size (hG x hx)⟩; clear hR hG hb O2))
    go_loopw [9] (fun iv wr => ∃ i : Nat, iv = .int .i64 i ∧ i ≤ 100 ∧ Hid (∃ F G d, TwoD w wr F B G X d)) (fun iv _ => 100 - (intOf iv).toNat)
    case atStart => exact ⟨0, rfl, by omega, T3⟩
    case round =>
      clear T3
      obtain ⟨i, rfl, hi100, HS⟩ := hrel
      by_cases hlt : i < qn ∧ i < 100
      · obtain ⟨hl1, hl2⟩ := hlt
        have hl1' : (i : Int) < (qn : Int) := by omega
        have hl2' : (i : Int) < 100 := by omega
        obtain ⟨g, o, kd, nn, vb, vp, bb, ps, rfl, hgl, hkd, hnn, hvb, hbl, hvp, hps, ck0, ck1, ck2, ck3⟩ := hq1.out i hl1
        obtain ⟨F, G, d, T⟩ := HS.out
        replace T := Lib.hid T
        have hob := Lib.hid T.out.o.bl
        have c0 : wr.cell? ⟨g, o + i * 4, none⟩ = some (.int .i64 kd) := (hob.out.cell (p := ⟨g, o + i * 4, none⟩) hgl).trans ck0
        have c1 : wr.cell? ⟨g, o + i * 4 + 1, none⟩ = some (.int .i64 nn) := (hob.out.cell (p := ⟨g, o + i * 4 + 1, none⟩) hgl).trans ck1
        have c2 : wr.cell? ⟨g, o + i * 4 + 2, none⟩ = some vb := (hob.out.cell (p := ⟨g, o + i * 4 + 2, none⟩) hgl).trans ck2
        have c3 : wr.cell? ⟨g, o + i * 4 + 3, none⟩ = some vp := (hob.out.cell (p := ⟨g, o + i * 4 + 3, none⟩) hgl).trans ck3
        have HV := Lib.hid hvb
        have HI := Lib.hid hvp
        obtain ⟨pd, pc, rfl, _⟩ := hvp
        obtain ⟨bd, bc, rfl, _⟩ := hvb
        replace hps := Lib.hid hps
        replace hnn := Lib.hid hnn
        replace hbl := Lib.hid hbl
        clear HS ck0 ck1 ck2 ck3 hgl hkd
        by_cases h50 : 50 < ps.length
        · have h50' : (50 : Int) < (ps.length : Int) := by omega
          go_wp2_with fail
          go_roundw
          case rel => exact ⟨i + 1, by go_num, by omega, Lib.hid ⟨_, _, _, T.out.below (below_al0 wr _)⟩⟩
          case measure => simp [intOf]; omega
        · have h50' : ¬ (50 : Int) < (ps.length : Int) := by omega
          replace h50 := Lib.hid h50
          obtain ⟨m, hm⟩ : ∃ m, kd % 5 = m := ⟨_, rfl⟩
          have hm5 : m = 0 ∨ m = 1 ∨ m = 2 ∨ m = 3 ∨ m = 4 := by omega
          replace hm := Lib.hid hm
          replace hm5 := Lib.hid hm5
          go_wp2_with fail
          refine (c_within kd 5 (by decide) (by decide) _).mono ?_
          rintro e w6 ⟨rfl, hw6⟩
          rw [hm.out]
          have k1 : Hid (w6.cell? ⟨wr.heap.size, 1, none⟩ = some (.int .i64 nn)) := Lib.hid (by rw [← hw6]; exact cell_of_row _ _ 1 _ _ _ (heap_alloc_new wr _))
          have k2 : Hid (w6.cell? ⟨wr.heap.size, 2, none⟩ = some (.slice bd bb.length bc)) := Lib.hid (by rw [← hw6]; exact cell_of_row _ _ 2 _ _ _ (heap_alloc_new wr _))
          have k3 : Hid (w6.cell? ⟨wr.heap.size, 3, none⟩ = some (.slice pd ps.length pc)) := Lib.hid (by rw [← hw6]; exact cell_of_row _ _ 3 _ _ _ (heap_alloc_new wr _))
          have hb6 : Below wr.heap.size wr w6 := by rw [← hw6]; exact below_al0 wr _
          have hC6 : Hid (wr.heap.size < w6.heap.size) := Lib.hid (by rw [← hw6]; simp)
          have OB6 := Lib.hid (below2 hob.out hb6)
          have T6 := Lib.hid (T.out.below hb6)
          have nC := Lib.hid (T.out.fresh (.inr (Nat.le_refl wr.heap.size)))
          clear hw6 hb6 c0 c1 c2 c3 T hob hq1
          rcases hm5.out with rfl | rfl | rfl | rfl | rfl
          · clear hm5 hm
            have k2' := k2.out
            obtain ⟨sb, hsb⟩ : ∃ sb, secB bb = sb := ⟨_, rfl⟩
            replace hsb := Lib.hid hsb
            obtain ⟨d', kk, hE⟩ : ∃ d' kk, writeR d nn sb = (d', kk) := ⟨_, _, rfl⟩
            replace hE := Lib.hid hE
            have hkk : (kk != kk) = false := by simp
            go_wp2_with (first
              | (go_at_call 14; refine (c_sector_two w w6 _ bb HV.out OB6.out hbl.out).mono ?_; rintro e w7 ⟨v7, rfl, S7⟩; rw [hsb.out] at S7; replace S7 := Lib.hid S7; have T7 := Lib.hid (T6.out.below S7.out.bl))
              | (at_builtin; refine wpList_append_bytes (o := ⟨some 72, _, _, _, _, _⟩) ?_ (.tmp 70) (.tmp 71) ?_ w7.heap.size (.slice (some ⟨w7.heap.size, 0, none⟩) 0 0) [] ?_ (row_empty w7) v7 sb ?_ (S7.out.bt.below (below_al0 _ _)) ?_ ?_ ?_; exact rfl; exact rfl; exact rfl; exact rfl; (have := S7.out.len; simp; omega); (simp); intro vm w8 hm8 ho8 hq8; have hb8 : Hid (Below w7.heap.size w7 w8) := Lib.hid (Off.below (below_al0 w7 _) ho8 (below_al0 w7 _).size (fun k hk => by cases hk; exact Nat.le_refl _)); rw [List.nil_append] at hm8; replace hm8 := Lib.hid hm8; clear ho8 hq8))
            have T8 := Lib.hid (T7.out.below hb8.out)
            have B8 := Lib.hid (below2 S7.out.bl hb8.out)
            have TD := Lib.hid (T8.out.below (below_drew (Below.refl _ _)))
            have c8 : w8.drew.cell? ⟨wr.heap.size, 1, none⟩ = some (.int .i64 nn) := (B8.out.cell (p := ⟨wr.heap.size, 1, none⟩) hC6.out).trans k1.out
            obtain ⟨adm, cm, hvm⟩ : ∃ ad c, vm = .slice ad sb.length c := by obtain ⟨ad, c, e, _⟩ := hm8.out.bt; exact ⟨ad, c, e⟩
            subst hvm
            have VM := Lib.hid (hm8.out.bt.below (below_drew (Below.refl _ _)))
            go_region_held3 (fun w' => w'.cell? ⟨wr.heap.size, 1, none⟩ = some (.int .i64 nn))
              ((first | go_keep | exact c10.out | exact c9.out | exact c8))
              ((first
                | (go_at_call 18; refine (c_rWrite w9 X d nn v7 sb M9.out.1 hnn.out (bt_off2 V8.out M9.out.2 (fun a n c e hn hF => by rcases S7.out.fr a n c e hn with h | h; exact (T6.out.fresh (.inl h)).1 hF; exact (T6.out.fresh (.inr h)).1 hF)) (fun a n c e hn hG => by rcases S7.out.fr a n c e hn with h | h; exact (T6.out.fresh (.inl h)).2 hG; exact (T6.out.fresh (.inr h)).2 hG)).mono ?_; rintro e w10 ⟨he, hr⟩; rw [hE.out] at he hr; obtain rfl := he; obtain ⟨F', G', TT, hF', hG', o10⟩ := TD.out.both ht9.out hr; have c10 : Hid (w10.cell? ⟨wr.heap.size, 1, none⟩ = some (.int .i64 nn)) := Lib.hid (off_cell o10 c8 (fun h => h.elim nC.out.1 nC.out.2)); replace TT := Lib.hid TT; replace hF' := Lib.hid hF'; replace hG' := Lib.hid hG'; replace o10 := Lib.hid o10; clear hr)
                | (go_at_call 10; refine (c_Write w8.drew B d nn _ sb TD.out.o.dk hnn.out VM.out S7.out.len).mono ?_; rintro e w9 hwd; obtain ⟨rfl, ht9⟩ := hwd.to hE.out; replace ht9 := Lib.hid ht9; have M9 := Lib.hid (TD.out.mid ht9.out); have V8 := Lib.hid ((S7.out.bt.below hb8.out).below (below_drew (Below.refl _ _))); have c9 : Hid (w9.cell? ⟨wr.heap.size, 1, none⟩ = some (.int .i64 nn)) := Lib.hid (off_cell M9.out.2 c8 nC.out.1); clear hwd)))
            clear c8
            go_wp2_with fail
            have M8 : Hid (BytL w8 w7.heap.size (.slice adm sb.length cm) sb.length) := Lib.hid ⟨sb, rfl, hm8.out⟩
            have MM : Hid (BytL w10 w7.heap.size (.slice adm sb.length cm) sb.length) := Lib.hid ((M8.out.off (ex := fun _ => False) (.of_below (below_drew (Below.refl _ _))) (fun _ _ h => h)).off o10.out (fun k hk h => h.elim (T7.out.fresh (.inr (M8.out.own hk).1)).1 (T7.out.fresh (.inr (M8.out.own hk).1)).2))
            have nm : Hid (∀ k, (Value.slice adm sb.length cm).ownBlock = some k → ¬ F' k ∧ ¬ G' k ∧ w.heap.size ≤ k) := Lib.hid (fun k hk => by
              have h1 := M8.out.own hk
              have h2 := T7.out.fresh (.inr h1.1)
              have h3 : w8.heap.size ≤ w9.heap.size := M9.out.2.size
              have h4 := T7.out.o.bl.size
              refine ⟨fun h => ?_, fun h => ?_, by omega⟩
              · rcases hF'.out k h with h | ⟨h, _⟩
                · exact h2.1 h
                · have h5 : w8.heap.size ≤ k := h
                  omega
              · rcases hG'.out k h with h | h
                · exact h2.2 h
                · omega)
            clear M8 hm8 VM V8 M9 o10 hF' hG' TD ht9 c9 c10 hE T8 B8
            have hsbL : sb.length ≤ 140737488351232 := S7.out.len
            obtain ⟨A7, hA7⟩ : ∃ A, w7.heap.size = A := ⟨_, rfl⟩
            rw [hA7] at MM
            clear hA7
            obtain ⟨wo, rfl⟩ : ∃ wo : World, wo = wr := ⟨_, rfl⟩
            go_loopw [13] (fun kv wi => ∃ k : Nat, kv = .int .i64 k ∧ k ≤ sb.length ∧ Hid (BytL wi A7 (.slice adm sb.length cm) sb.length) ∧ Hid (TwoD w wi F' B G' X d')) (fun kv _ => sb.length - (intOf kv).toNat)
            case atStart => exact ⟨0, rfl, by omega, MM, TT⟩
            case round =>
              clear MM TT
              obtain ⟨k, rfl, hk, M, TT⟩ := hrel
              by_cases hlt : k < sb.length
              · have hlt' : (k : Int) < (sb.length : Int) := by omega
                obtain ⟨gm, cm', hf⟩ := M.out.form (by omega)
                have hf2 : adm = some ⟨gm, 0, none⟩ ∧ cm = cm' := by injection hf with a _ c; exact ⟨a, c⟩
                obtain ⟨rfl, rfl⟩ := hf2
                obtain ⟨u, hu⟩ := M.out.cell hlt
                have hfz := M.out.free k
                have M2 : Hid (BytL (wr.setCell ⟨gm, k, none⟩ (.int .u8 238)) A7 (.slice (some ⟨gm, 0, none⟩) sb.length cm) sb.length) := Lib.hid (M.out.set (k := k) 238)
                have T2 := Lib.hid (TT.out.off (off1 wr gm k (.int .u8 238)) (fun g e => e ▸ nm.out gm rfl))
                clear hf M TT
                go_wp2_with fail
                clear hu hfz
                go_roundw
                case rel => exact ⟨k + 1, by go_num, by omega, M2, T2⟩
                case measure => simp [intOf]; omega
              · have hlt' : ¬ (k : Int) < (sb.length : Int) := by omega
                clear M
                go_wp2_with fail
                have TD := Lib.hid (TT.out.below (below_drew (Below.refl _ _)))
                obtain ⟨cX2, cX4⟩ := TD.out.cells
                have ho' : ∃ oo, d'.ops = oo := ⟨_, rfl⟩
                obtain ⟨oo, ho⟩ := ho'
                rw [ho] at cX2
                have hoo : (oo != oo) = false := by simp
                replace ho := Lib.hid ho
                rcases Bool.eq_false_or_eq_true d'.dead with hdd | hdd
                · rw [hdd] at cX4
                  replace hdd := Lib.hid hdd
                  go_region_held3 (fun w' => w'.cell? ⟨X, 2, none⟩ = some (.int .i64 oo) ∧ w'.cell? ⟨X, 4, none⟩ = some (.bool true))
                    ((first | go_keep | exact ⟨cX2, cX4⟩))
                    ((first
                      | (go_at_call 24; refine (c_Dead _ B _ TD.out.o.dk).mono ?_; rintro e wb ⟨rfl, rfl⟩; rw [hdd.out])
                      | (go_at_call 15; refine (c_Ops _ B _ TD.out.o.dk).mono ?_; rintro e wb ⟨rfl, rfl⟩; rw [ho.out])))
                  clear cX2 cX4
                  go_wp2_with fail
                  go_roundw
                  case rel => exact ⟨i + 1, by go_num, by omega, Lib.hid ⟨_, _, _, TD.out⟩⟩
                  case measure => simp [intOf]; omega
                · rw [hdd] at cX4
                  replace hdd := Lib.hid hdd
                  go_region_held3 (fun w' => w'.cell? ⟨X, 2, none⟩ = some (.int .i64 oo) ∧ w'.cell? ⟨X, 4, none⟩ = some (.bool false))
                    ((first | go_keep | exact ⟨cX2, cX4⟩))
                    ((first
                      | (go_at_call 24; refine (c_Dead _ B _ TD.out.o.dk).mono ?_; rintro e wb ⟨rfl, rfl⟩; rw [hdd.out])
                      | (go_at_call 15; refine (c_Ops _ B _ TD.out.o.dk).mono ?_; rintro e wb ⟨rfl, rfl⟩; rw [ho.out])))
                  clear cX2 cX4
                  go_wp2_with fail
                  go_roundw
                  case rel => exact ⟨i + 1, by go_num, by omega, Lib.hid ⟨_, _, _, TD.out⟩⟩
                  case measure => simp [intOf]; omega

          · clear hm5 hm
            have k1' := k1.out
            obtain ⟨re, hre⟩ : ∃ re, readE d nn = re := ⟨_, rfl⟩
            replace hre := Lib.hid hre
            obtain ⟨st, hst⟩ : ∃ st : ByteArray, ⟨(readS d nn).toArray⟩ = st := ⟨_, rfl⟩
            replace hst := Lib.hid hst
            have hrr : (re != re) = false := by simp
            go_wp2_with (first
              | (go_at_call 12; refine (c_Read w6 B d nn T6.out.o.dk hnn.out).mono ?_; rintro e w7 hrd; obtain ⟨va, rfl, hva, hb7⟩ := hrd.two; rw [hre.out]; have T7 := Lib.hid (T6.out.below hb7); have k7 := (hb7.cell (p := ⟨wr.heap.size, 1, none⟩) hC6.out).trans k1.out; replace hva := Lib.hid hva; clear hrd hb7)
              | (go_at_call 19; refine (c_rRead w7 X d nn T7.out.r).mono ?_; rintro e w8 hrd; obtain ⟨va2, rfl, hva2, hb8⟩ := hrd.two; rw [hre.out]; have T8 := Lib.hid (T7.out.below hb8); have s1 := str_any (hva.out.below hb8); have s2 := str_any hva2; rw [hst.out] at s1 s2; clear hrd hb8 hva2))
            clear s1 s2 k7 k1'
            have TD := Lib.hid (T8.out.below (below_drew (Below.refl _ _)))
            obtain ⟨cX2, cX4⟩ := TD.out.cells
            have ho' : ∃ oo, d.ops = oo := ⟨_, rfl⟩
            obtain ⟨oo, ho⟩ := ho'
            rw [ho] at cX2
            have hoo : (oo != oo) = false := by simp
            replace ho := Lib.hid ho
            rcases Bool.eq_false_or_eq_true d.dead with hdd | hdd
            · rw [hdd] at cX4
              replace hdd := Lib.hid hdd
              go_region_held3 (fun w' => w'.cell? ⟨X, 2, none⟩ = some (.int .i64 oo) ∧ w'.cell? ⟨X, 4, none⟩ = some (.bool true))
                ((first | go_keep | exact ⟨cX2, cX4⟩))
                ((first
                  | (go_at_call 24; refine (c_Dead _ B _ TD.out.o.dk).mono ?_; rintro e wb ⟨rfl, rfl⟩; rw [hdd.out])
                  | (go_at_call 15; refine (c_Ops _ B _ TD.out.o.dk).mono ?_; rintro e wb ⟨rfl, rfl⟩; rw [ho.out])))
              clear cX2 cX4
              go_wp2_with fail
              go_roundw
              case rel => exact ⟨i + 1, by go_num, by omega, Lib.hid ⟨_, _, _, TD.out⟩⟩
              case measure => simp [intOf]; omega
            · rw [hdd] at cX4
              replace hdd := Lib.hid hdd
              go_region_held3 (fun w' => w'.cell? ⟨X, 2, none⟩ = some (.int .i64 oo) ∧ w'.cell? ⟨X, 4, none⟩ = some (.bool false))
                ((first | go_keep | exact ⟨cX2, cX4⟩))
                ((first
                  | (go_at_call 24; refine (c_Dead _ B _ TD.out.o.dk).mono ?_; rintro e wb ⟨rfl, rfl⟩; rw [hdd.out])
                  | (go_at_call 15; refine (c_Ops _ B _ TD.out.o.dk).mono ?_; rintro e wb ⟨rfl, rfl⟩; rw [ho.out])))
              clear cX2 cX4
              go_wp2_with fail
              go_roundw
              case rel => exact ⟨i + 1, by go_num, by omega, Lib.hid ⟨_, _, _, TD.out⟩⟩
              case measure => simp [intOf]; omega

          · clear hm5 hm
            obtain ⟨d', kk, hE⟩ : ∃ d' kk, flushR d = (d', kk) := ⟨_, _, rfl⟩
            replace hE := Lib.hid hE
            have hkk : (kk != kk) = false := by simp
            go_wp2_with (first
              | (go_at_call 16; refine (c_Flush w6 B d T6.out.o.dk).mono ?_; rintro e w7 hwd; obtain ⟨rfl, ht7⟩ := hwd.to hE.out; replace ht7 := Lib.hid ht7; have M7 := Lib.hid (T6.out.mid ht7.out); clear hwd)
              | (go_at_call 20; refine (c_rFlush w7 X d M7.out.1).mono ?_; rintro e w8 ⟨he, hr⟩; rw [hE.out] at he hr; obtain rfl := he; obtain ⟨F', G', TT, _, _, _⟩ := T6.out.both ht7.out hr; replace TT := Lib.hid TT; clear hr))
            have TD := Lib.hid (TT.out.below (below_drew (Below.refl _ _)))
            obtain ⟨cX2, cX4⟩ := TD.out.cells
            have ho' : ∃ oo, d'.ops = oo := ⟨_, rfl⟩
            obtain ⟨oo, ho⟩ := ho'
            rw [ho] at cX2
            have hoo : (oo != oo) = false := by simp
            replace ho := Lib.hid ho
            rcases Bool.eq_false_or_eq_true d'.dead with hdd | hdd
            · rw [hdd] at cX4
              replace hdd := Lib.hid hdd
              go_region_held3 (fun w' => w'.cell? ⟨X, 2, none⟩ = some (.int .i64 oo) ∧ w'.cell? ⟨X, 4, none⟩ = some (.bool true))
                ((first | go_keep | exact ⟨cX2, cX4⟩))
                ((first
                  | (go_at_call 24; refine (c_Dead _ B _ TD.out.o.dk).mono ?_; rintro e wb ⟨rfl, rfl⟩; rw [hdd.out])
                  | (go_at_call 15; refine (c_Ops _ B _ TD.out.o.dk).mono ?_; rintro e wb ⟨rfl, rfl⟩; rw [ho.out])))
              clear cX2 cX4
              go_wp2_with fail
              go_roundw
              case rel => exact ⟨i + 1, by go_num, by omega, Lib.hid ⟨_, _, _, TD.out⟩⟩
              case measure => simp [intOf]; omega
            · rw [hdd] at cX4
              replace hdd := Lib.hid hdd
              go_region_held3 (fun w' => w'.cell? ⟨X, 2, none⟩ = some (.int .i64 oo) ∧ w'.cell? ⟨X, 4, none⟩ = some (.bool false))
                ((first | go_keep | exact ⟨cX2, cX4⟩))
                ((first
                  | (go_at_call 24; refine (c_Dead _ B _ TD.out.o.dk).mono ?_; rintro e wb ⟨rfl, rfl⟩; rw [hdd.out])
                  | (go_at_call 15; refine (c_Ops _ B _ TD.out.o.dk).mono ?_; rintro e wb ⟨rfl, rfl⟩; rw [ho.out])))
              clear cX2 cX4
              go_wp2_with fail
              go_roundw
              case rel => exact ⟨i + 1, by go_num, by omega, Lib.hid ⟨_, _, _, TD.out⟩⟩
              case measure => simp [intOf]; omega

          · clear hm5 hm
            have k1' := k1.out
            go_wp2_with (first
              | (go_at_call 21; refine (c_Stop w6 B d nn T6.out.o.dk hnn.out).mono ?_; rintro e w7 ⟨rfl, ht7⟩; replace ht7 := Lib.hid ht7; have M7 := Lib.hid (T6.out.mid ht7.out); have k7 := off_cell M7.out.2 k1.out nC.out.1)
              | (go_at_call 22; refine (c_rStop w7 X d nn M7.out.1 hnn.out).mono ?_; rintro e w8 ⟨rfl, hr⟩; obtain ⟨F', G', TT, _, _, _⟩ := T6.out.both ht7.out hr; replace TT := Lib.hid TT; clear hr))
            clear k7 k1'
            have TD := Lib.hid (TT.out.below (below_drew (Below.refl _ _)))
            obtain ⟨cX2, cX4⟩ := TD.out.cells
            have ho' : ∃ oo, (d.stop nn).ops = oo := ⟨_, rfl⟩
            obtain ⟨oo, ho⟩ := ho'
            rw [ho] at cX2
            have hoo : (oo != oo) = false := by simp
            replace ho := Lib.hid ho
            rcases Bool.eq_false_or_eq_true (d.stop nn).dead with hdd | hdd
            · rw [hdd] at cX4
              replace hdd := Lib.hid hdd
              go_region_held3 (fun w' => w'.cell? ⟨X, 2, none⟩ = some (.int .i64 oo) ∧ w'.cell? ⟨X, 4, none⟩ = some (.bool true))
                ((first | go_keep | exact ⟨cX2, cX4⟩))
                ((first
                  | (go_at_call 24; refine (c_Dead _ B _ TD.out.o.dk).mono ?_; rintro e wb ⟨rfl, rfl⟩; rw [hdd.out])
                  | (go_at_call 15; refine (c_Ops _ B _ TD.out.o.dk).mono ?_; rintro e wb ⟨rfl, rfl⟩; rw [ho.out])))
              clear cX2 cX4
              go_wp2_with fail
              go_roundw
              case rel => exact ⟨i + 1, by go_num, by omega, Lib.hid ⟨_, _, _, TD.out⟩⟩
              case measure => simp [intOf]; omega
            · rw [hdd] at cX4
              replace hdd := Lib.hid hdd
              go_region_held3 (fun w' => w'.cell? ⟨X, 2, none⟩ = some (.int .i64 oo) ∧ w'.cell? ⟨X, 4, none⟩ = some (.bool false))
                ((first | go_keep | exact ⟨cX2, cX4⟩))
                ((first
                  | (go_at_call 24; refine (c_Dead _ B _ TD.out.o.dk).mono ?_; rintro e wb ⟨rfl, rfl⟩; rw [hdd.out])
                  | (go_at_call 15; refine (c_Ops _ B _ TD.out.o.dk).mono ?_; rintro e wb ⟨rfl, rfl⟩; rw [ho.out])))
              clear cX2 cX4
              go_wp2_with fail
              go_roundw
              case rel => exact ⟨i + 1, by go_num, by omega, Lib.hid ⟨_, _, _, TD.out⟩⟩
              case measure => simp [intOf]; omega

          · clear hm5 hm
            obtain ⟨bn, hbn⟩ : ∃ bn : Nat, d.bu.length = bn := ⟨_, rfl⟩
            replace hbn := Lib.hid hbn
            have hkk : ((bn : Int) != (bn : Int)) = false := by simp
            have TD := Lib.hid (T6.out.below (below_drew (Below.refl _ _)))
            have ID := Lib.hid ((HI.out.below OB6.out).below (below_drew (Below.refl w6.heap.size w6)))
            have hpl : Hid (ps.length < 1000000) := Lib.hid (by have := h50.out; omega)
            have nI : Hid (∀ a n c, Value.slice pd ps.length pc = .slice (some a) n c → ps ≠ [] → ¬ F a.block ∧ ¬ G a.block) := Lib.hid (fun a n c e h => TD.out.fresh (.inl (it_blk HI.out a n c e h)))
            have c8 : w6.drew.cell? ⟨wr.heap.size, 3, none⟩ = some (.slice pd ps.length pc) := k3.out
            go_wp2_with fail
            go_region_held3 (fun w' => w'.cell? ⟨wr.heap.size, 3, none⟩ = some (.slice pd ps.length pc))
              ((first | go_keep | exact c10.out | exact c9.out | exact c8))
              ((first
                | (go_at_call 23; refine (c_rCrash w9 X d _ ps M9.out.1 (it_off2 ID.out M9.out.2 (fun a n c e hn => (nI.out a n c e hn).1)) hps.out (fun a n c e hn => (nI.out a n c e hn).2) hpl.out).mono ?_; rintro e w10 ⟨he, hr⟩; rw [hbn.out] at he; obtain rfl := he; obtain ⟨F', G', TT, hF', hG', o10⟩ := TD.out.both ht9.out hr; have c10 : Hid (w10.cell? ⟨wr.heap.size, 3, none⟩ = some (.slice pd ps.length pc)) := Lib.hid (off_cell o10 c8 (fun h => h.elim nC.out.1 nC.out.2)); replace TT := Lib.hid TT; clear hr hF' hG' o10)
                | (go_at_call 11; refine (c_Crash2 w6.drew B d _ ps TD.out.o.dk ID.out hps.out (fun a n c e hn => (nI.out a n c e hn).1) hpl.out).mono ?_; rintro e w9 ⟨he, ht9⟩; rw [hbn.out] at he; obtain rfl := he; replace ht9 := Lib.hid ht9; have M9 := Lib.hid (TD.out.mid ht9.out); have c9 : Hid (w9.cell? ⟨wr.heap.size, 3, none⟩ = some (.slice pd ps.length pc)) := Lib.hid (off_cell M9.out.2 c8 nC.out.1))))
            clear c8
            go_wp2_with fail
            clear TD
            have TD := Lib.hid (TT.out.below (below_drew (Below.refl _ _)))
            obtain ⟨cX2, cX4⟩ := TD.out.cells
            have ho' : ∃ oo, (d.crash ps).ops = oo := ⟨_, rfl⟩
            obtain ⟨oo, ho⟩ := ho'
            rw [ho] at cX2
            have hoo : (oo != oo) = false := by simp
            replace ho := Lib.hid ho
            rcases Bool.eq_false_or_eq_true (d.crash ps).dead with hdd | hdd
            · rw [hdd] at cX4
              replace hdd := Lib.hid hdd
              go_region_held3 (fun w' => w'.cell? ⟨X, 2, none⟩ = some (.int .i64 oo) ∧ w'.cell? ⟨X, 4, none⟩ = some (.bool true))
                ((first | go_keep | exact ⟨cX2, cX4⟩))
                ((first
                  | (go_at_call 24; refine (c_Dead _ B _ TD.out.o.dk).mono ?_; rintro e wb ⟨rfl, rfl⟩; rw [hdd.out])
                  | (go_at_call 15; refine (c_Ops _ B _ TD.out.o.dk).mono ?_; rintro e wb ⟨rfl, rfl⟩; rw [ho.out])))
              clear cX2 cX4
              go_wp2_with fail
              go_roundw
              case rel => exact ⟨i + 1, by go_num, by omega, Lib.hid ⟨_, _, _, TD.out⟩⟩
              case measure => simp [intOf]; omega
            · rw [hdd] at cX4
              replace hdd := Lib.hid hdd
              go_region_held3 (fun w' => w'.cell? ⟨X, 2, none⟩ = some (.int .i64 oo) ∧ w'.cell? ⟨X, 4, none⟩ = some (.bool false))
                ((first | go_keep | exact ⟨cX2, cX4⟩))
                ((first
                  | (go_at_call 24; refine (c_Dead _ B _ TD.out.o.dk).mono ?_; rintro e wb ⟨rfl, rfl⟩; rw [hdd.out])
                  | (go_at_call 15; refine (c_Ops _ B _ TD.out.o.dk).mono ?_; rintro e wb ⟨rfl, rfl⟩; rw [ho.out])))
              clear cX2 cX4
              go_wp2_with fail
              go_roundw
              case rel => exact ⟨i + 1, by go_num, by omega, Lib.hid ⟨_, _, _, TD.out⟩⟩
              case measure => simp [intOf]; omega

      · obtain ⟨F, G, d, T⟩ := HS.out
        replace T := Lib.hid T
        have key : (¬ (i : Int) < (qn : Int)) ∨ ((i : Int) < (qn : Int) ∧ ¬ (i : Int) < 100) := by omega
        clear hlt HS
        rcases key with h1 | ⟨h1, h2⟩
        all_goals go_wp2_with fail
        all_goals go_ret
        all_goals exact ⟨rfl, T.out.o.bl⟩
  · replace h14 := Lib.hid h14
    go_wp2_with (first
      | (go_at_call 8; refine (c_known w).mono ?_; rintro e w1 ⟨rfl, hb1⟩; replace hb1 := Lib.hid hb1)
      | (go_at_call 9; refine (c_New_no n w1 h14.out).mono ?_; rintro e w2 ⟨rfl, rfl⟩)
      | (go_at_call 17; refine (c_rNew_no n w1 (by have := h14.out; omega)).mono ?_; rintro e w3 ⟨rfl, rfl⟩))
    go_loopw [9] (fun iv wr => iv = .int .i64 0 ∧ wr = w1) (fun iv _ => 0)
    case atStart => exact ⟨rfl, rfl⟩
    case round =>
      obtain ⟨rfl, rfl⟩ := hrel
      go_wp2_with fail
      go_ret
      exact ⟨rfl, hb1.out⟩
end Go.Proofs.Ytnlemjjigiphcaa
