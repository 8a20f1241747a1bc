/- WalCrashes: the law's walk. -/
import Derived.Test.YtpdjenkacefpjaaWxk
import Derived.Deep.CutBlock
namespace Go.Proofs.Ytpdjenkacefpjaa
open Go.RowKit Go.ChangeShapes
set_option linter.unusedVariables false
set_option maxRecDepth 100000

set_option maxHeartbeats 8000000 in
theorem law_WalCrashes (w : World) (v0 : Value) (h0 : GrAt w v0) (st : Int) (hst : I64 st) (v2 : Value) (p2 : List Int) (h2 : ItAt w v2 p2 ∧ ∀ y ∈ p2, I64 y) (v3 : Value) (p3 : List Int) (h3 : ItAt w v3 p3 ∧ ∀ y ∈ p3, I64 y) : Calls Try.prog 6 #[v0, .int .i64 st, v2, v3] w fun e w' => e = .returned (.bool true) ∧ Below w.heap.size w w' := by
  obtain ⟨ad, n, c, hq0, hnc, hcm, _⟩ := id h0
  obtain ⟨a2, c2, hq2, _⟩ := id h2.1
  obtain ⟨a3, c3, hq3, _⟩ := id h3.1
  subst hq0 hq2 hq3
  have HG := Lib.hid h0
  have HP2 := Lib.hid h2
  have HP3 := Lib.hid h3
  have hnm : n ≤ 9223372036854775807 := by unfold maxLen at hcm; omega
  clear h0 h2 h3 hnc hcm hst
  have hs0 : stC (List.replicate 18 []) = #[.string ⟨#[]⟩, .string ⟨#[]⟩, .string ⟨#[]⟩, .string ⟨#[]⟩, .string ⟨#[]⟩, .string ⟨#[]⟩, .string ⟨#[]⟩, .string ⟨#[]⟩, .string ⟨#[]⟩, .string ⟨#[]⟩, .string ⟨#[]⟩, .string ⟨#[]⟩, .string ⟨#[]⟩, .string ⟨#[]⟩, .string ⟨#[]⟩, .string ⟨#[]⟩, .string ⟨#[]⟩, .string ⟨#[]⟩] := rfl
  obtain ⟨ks, hks⟩ : ∃ ks : Nat, st % 300 = (ks : Int) := ⟨(st % 300).toNat, by omega⟩
  have hks3 : ks < 300 := by omega
  replace hks := Lib.hid hks
  have hza : IntKind.i64.wrap (1 + (ks : Int)) = 1 + (ks : Int) := IntWalk.i64_in _ (by omega)
  by_cases h60 : 60 < p2.length
  · have h60' : (60 : Int) < (p2.length : Int) := by omega
    go_enter Try.func6, Try.ntmps6
    go_wp2_with (first | (go_at_call 9; refine (c_known w).mono ?_; rintro e w1 ⟨rfl, hb1⟩; replace hb1 := Lib.hid hb1))
    go_ret
    exact ⟨rfl, hb1.out⟩
  have h60' : ¬ (60 : Int) < (p2.length : Int) := by omega
  have hp60 : Hid (p2.length < 1000000) := Lib.hid (by omega)
  go_enter Try.func6, Try.ntmps6
  go_upto_block 0 with (first
    | (go_at_call 19; refine (s_stop S3.out.own (1 + (ks : Int)) ⟨by omega, by omega⟩).mono ?_; rintro e w4 ⟨F4, rfl, O4, hi4⟩; have S4 : Hid (Sys 60 0 (fun _ => zeros) w w4 F4 L B (d.stop (1 + (ks : Int)))) := Lib.hid ⟨S3.out.lg.stop _, O4, S3.out.at_.off hi4.off S3.out.nL, fun hx => (hi4.out _ hx).elim S3.out.nL (fun h => by have := S3.out.at_.lt; omega), S3.out.loL⟩; clear O4 hi4)
    | (go_at_call 17; refine (c_within st 300 (by decide) (by decide) w3).mono ?_; rintro e w' ⟨rfl, rfl⟩; rw [hks.out])
    | (go_at_call 11; refine (s_open O2.out (new_cr (N := 60) (by decide) (by decide)) rfl (by decide) (by decide) (by decide)).mono ?_; rintro e w3 ⟨L, F, d, rfl, S3, hl3, _, _⟩; replace S3 := Lib.hid S3; replace hl3 := Lib.hid hl3)
    | (go_at_call 10; refine (s_new 60 w w1 hb1.out (by decide) (by decide)).mono ?_; rintro e w2 ⟨B, F0, rfl, O2, _, _⟩; replace O2 := Lib.hid O2)
    | (go_at_call 9; refine (c_known w).mono ?_; rintro e w1 ⟨rfl, hb1⟩; replace hb1 := Lib.hid hb1))
  rw [← hs0]
  have E0 : Hid (Lv w ((w4.alloc (.cells (stC (List.replicate 18 [])) 34)).alloc (.cells (stC (List.replicate 18 [])) 34)) B w4.heap.size (w4.heap.size + 1) L 0 (fun _ => zeros) (List.replicate 18 []) F4 (d.stop (1 + (ks : Int)))) := Lib.hid ⟨S4.out.below (below2 (below_al0 _ _) (below_al0 _ _)), by
      unfold World.alloc StAt
      simp [Array.getElem?_push], by
      unfold World.alloc StAt
      simp only [Array.getElem?_push, Array.size_push]
      simp, by simp, StOf.start, fun h => by have := S4.out.own.dk.lt _ h; omega, fun h => by have := S4.out.own.dk.lt _ h; omega, fun e => by have := S4.out.at_.lt; omega, fun e => by have := S4.out.at_.lt; omega⟩
  have hN1 : Hid (w.heap.size ≤ w4.heap.size) := Lib.hid S4.out.own.bl.size
  generalize ((w4.alloc (.cells (stC (List.replicate 18 [])) 34)).alloc (.cells (stC (List.replicate 18 [])) 34)) = W at *
  obtain ⟨N2, hN2⟩ : ∃ N2, w4.heap.size + 1 = N2 := ⟨_, rfl⟩
  rw [hN2] at E0 ⊢
  generalize w4.heap.size = N1 at *
  replace hN2 := Lib.hid hN2
  clear S3 hl3 O2 hb1 S4
  go_cut [15, 16] from 43 to 77 (fun _ _ wx => Hid (∃ q q' σ σ' ss nx F d, Gn w wx B N1 N2 q q' σ σ' ss nx F d))
  case first =>
    go_wp2_with fail
    go_loopw [15] (fun iv wr => ∃ i : Nat, iv = .int .i64 i ∧ i ≤ 25 ∧ i ≤ n ∧ Hid ((∃ q σ ss F d, q ≤ i ∧ Lv w wr B N1 N2 L q σ ss F d) ∨ (∃ q q' σ σ' ss nx F d, Gn w wr B N1 N2 q q' σ σ' ss nx F d ∧ d.dead = true))) (fun iv _ => 25 - (intOf iv).toNat)
    case atStart => exact ⟨0, rfl, by omega, by omega, Lib.hid (.inl ⟨0, _, _, _, _, Nat.le_refl _, E0.out⟩)⟩
    case round =>
      clear E0 hza
      obtain ⟨i, rfl, hi25, hin, HS⟩ := hrel
      have HGN : Hid ((∃ q q' σ σ' ss nx F d, Gn w wr B N1 N2 q q' σ σ' ss nx F d)) := Lib.hid (by
        rcases HS.out with ⟨q, σ, ss, F, d, hq, h⟩ | ⟨q, q', σ, σ', ss, nx, F, d, h, _⟩
        · exact ⟨q, q, σ, σ, ss, ss, F, d, h.gn (by omega)⟩
        · exact ⟨q, q', σ, σ', ss, nx, F, d, h⟩)
      by_cases hlt : i < n
      · have hlt' : (i : Int) < (n : Int) := by omega
        by_cases h25 : i < 25
        · have h25' : (i : Int) < 25 := by omega
          rcases HS.out with ⟨q, σ, ss, F, d, hqi, E⟩ | ⟨q, q', σ, σ', ss, nx, F, d, G, hdd⟩
          · replace E := Lib.hid E
            clear HS HGN
            obtain ⟨g, o, vn, vf, vr, ns, fb, rb, rfl, hn1, hn2, hf1, hr1, c0, c1, c2⟩ := HG.out.one E.out.sys.own.bl rfl hlt
            obtain ⟨an, cn, hqn, _⟩ := id hn1
            obtain ⟨af, cf, hqf, _⟩ := id hf1
            obtain ⟨ar, cr, hqr, _, hcr, _⟩ := id hr1
            subst hqn hqf hqr
            have hrl : rb.length ≤ 9223372036854775807 := by unfold maxLen at hcr; omega
            clear hcr
            have P1 := Lib.hid hn1
            have P2 := Lib.hid hn2
            have P3 := Lib.hid hf1
            have P4 := Lib.hid hr1
            clear hn1 hn2 hf1 hr1
            have hal := Lib.hid E.out.sys.lg.alive
            by_cases h128 : 128 < rb.length
            · have h128' : (128 : Int) < (rb.length : Int) := by omega
              go_wp2_with (first | (go_at_call 20; refine (c_Dead wr B d E.out.sys.own.dk).mono ?_; rintro e w' ⟨rfl, rfl⟩; rw [hal.out]))
              clear c0 c1 c2 h128'
              go_roundw
              case rel => exact ⟨i + 1, by go_num, by omega, by omega, Lib.hid (.inl ⟨q, σ, ss, F, d, by omega, E.out⟩)⟩
              case measure => simp [intOf]; omega
            · have h128' : ¬ (128 : Int) < (rb.length : Int) := by omega
              have hF9 : Hid (∀ g, (F g ∨ g = L ∨ g = N1 ∨ g = N2) → g < wr.heap.size) := Lib.hid (fun g hg => by
                rcases hg with hg | rfl | rfl | rfl
                · exact E.out.sys.own.dk.lt g hg
                · exact E.out.sys.at_.lt
                · exact E.out.s1.lt
                · exact E.out.s2.lt)
              go_upto_region 16 with (first
                | (go_at_call 12; refine (c_puts (F := fun g => F g ∨ g = L ∨ g = N1 ∨ g = N2) wr _ _ _ ns fb rb P1.out P2.out P3.out P4.out hF9.out).mono ?_; rintro e w2 ⟨pv, es, rfl, hrow, hok, hle, hb2⟩)
                | (go_at_call 20; refine (c_Dead wr B d E.out.sys.own.dk).mono ?_; rintro e w' ⟨rfl, rfl⟩; rw [hal.out]))
              have hPA := hrow.at_ (fun g hg hx => by have h1 := (own_blk hrow.row hg).1; have h2 := hF9.out g hx; omega)
              have hall := Lib.hid hok.all
              have hgood : Hid (GoodC d (es.map (·.1))) := Lib.hid (hok.good E.out.sys.lg.alive (by rw [E.out.sys.lg.n]; decide) (by omega))
              have hle' : (es.map (·.1)).length ≤ 30 := by rw [List.length_map]; exact hle
              have ho2 : Off (fun _ => False) wr w2 := .of_below hb2
              have S2 := Lib.hid (E.out.sys.below hb2)
              have T1 : Hid (StAt w2 N1 ss) := Lib.hid (ho2.keeps E.out.s1 (fun h => h))
              have T2 : Hid (StAt w2 N2 ss) := Lib.hid (ho2.keeps E.out.s2 (fun h => h))
              clear hrow hok hle hb2 hF9 c0 c1 c2 ho2
              generalize es.map (·.1) = ps at *
              obtain ⟨pa, pc, hpv, _⟩ := id hPA
              subst hpv
              have PA := Lib.hid hPA
              clear hPA
              have hq30 : q + 1 < 250 := by omega
              have HLE := Lib.hid hle'
              clear hle'
              have hlen := Lib.hid E.out.l1
              have hof := Lib.hid (StOf.done ps E.out.o1 hall.out)
              have hl2 : Hid ((doneL ss ps).length = 18) := Lib.hid (by rw [doneL_len]; exact hlen.out)
              have ne12 : Hid (N1 ≠ N2) := Lib.hid (by have := hN2.out; omega)
              go_upto_region 17 with (first
                | ((with_reducible refine wpList_load_ss (op := ⟨some 70, .load 34 (.tmp 13), _, _, _, _⟩) (N := N1) (ss := ss) ?_ (.tmp 13) ?_ ?_ T1.out hlen.out ?_); exact rfl; exact rfl; exact rfl)
                | ((with_reducible refine wpList_store_ss (op := ⟨none, .store 34 (.tmp 14) (.tmp 72), _, _, _, _⟩) (N := N2) (ss := ss) (ss' := doneL ss ps) ?_ (.tmp 14) (.tmp 72) ?_ ?_ ?_ T4.2.out hlen.out hl2.out ?_); exact rfl; exact rfl; exact rfl; exact rfl; intro w5 h5 o5; have S5 := Lib.hid (S4.out.off o5 (fun g hg e => E.out.n2 (e ▸ hg)) (fun e => E.out.e2 e.symm) (fun g e => by have h1 : g = N2 := e; have := hN1.out; have := hN2.out; omega)); have T5 : Hid (StAt w5 N1 ss) := Lib.hid (o5.keeps T4.1.out ne12.out); have U5 : Hid (StAt w5 N2 (doneL ss ps)) := Lib.hid h5; have PA5 := Lib.hid (PA4.out.off o5 (fun g e => .inl (.inr (.inr (.inr e))))); clear h5 o5)
                | (go_at_call 14; refine (c_done w2 ss hlen.out _ ps PA.out hall.out (by have := HLE.out; omega)).mono ?_; rintro e w4 ⟨rfl, hb4⟩; have T4 : Hid (StAt w4 N1 ss) ∧ Hid (StAt w4 N2 ss) := ⟨Lib.hid ((Off.of_below (ex := fun _ => False) hb4).keeps T1.out (fun h => h)), Lib.hid ((Off.of_below (ex := fun _ => False) hb4).keeps T2.out (fun h => h))⟩; have S4 := Lib.hid (S2.out.below hb4); have PA4 := Lib.hid (PA.out.below hb4); clear hb4))
              go_upto_region 18 with (first
                | (go_at_call 13; refine (s_commit_two S5.out (by decide) (by decide) hq30 (PA5.out.less (F' := F) (fun g hg => .inl hg)) hgood.out).mono ?_; rintro e w6 ⟨F6, d6, hi6, hc6⟩; have T6 : Hid (StAt w6 N1 ss) := Lib.hid (hi6.off.keeps T5.out (fun hx => hx.elim E.out.n1 E.out.e1)); have U6 : Hid (StAt w6 N2 (doneL ss ps)) := Lib.hid (hi6.off.keeps U5.out (fun hx => hx.elim E.out.n2 E.out.e2)); have f1 : Hid (¬ F6 N1) := Lib.hid (fun hx => (hi6.out _ hx).elim E.out.n1 (fun h2 => by have := T5.out.lt; omega)); have f2 : Hid (¬ F6 N2) := Lib.hid (fun hx => (hi6.out _ hx).elim E.out.n2 (fun h2 => by have := U5.out.lt; omega)); clear hi6; rcases hc6 with ⟨rfl, S6, _⟩ | ⟨rfl, O6, hd6, hA6⟩))
              · go_wp2_with (first
                  | ((with_reducible refine wpList_load_ss (op := ⟨some 77, .load 34 (.tmp 14), _, _, _, _⟩) (N := N2) (ss := doneL ss ps) ?_ (.tmp 14) ?_ ?_ U6.out hl2.out ?_); exact rfl; exact rfl; exact rfl)
                  | ((with_reducible refine wpList_store_ss (op := ⟨none, .store 34 (.tmp 13) (.tmp 77), _, _, _, _⟩) (N := N1) (ss := ss) (ss' := doneL ss ps) ?_ (.tmp 13) (.tmp 77) ?_ ?_ ?_ T6.out hlen.out hl2.out ?_); exact rfl; exact rfl; exact rfl; exact rfl; intro w7 h7 o7; have E7 : Hid (Lv w w7 B N1 N2 L (if ps = [] then q else q + 1) (putF ps σ) (doneL ss ps) F6 d6) := Lib.hid ⟨S6.off o7 (fun g hg e => f1.out (e ▸ hg)) (fun e => E.out.e1 e.symm) (fun g e => by have h1 : g = N1 := e; have := hN1.out; omega), h7, o7.keeps U6.out ne12.out.symm, hl2.out, hof.out, f1.out, f2.out, E.out.e1, E.out.e2⟩; clear h7 o7))
                have hq7 : (if ps = [] then q else q + 1) ≤ i + 1 := by split <;> omega
                replace hq7 := Lib.hid hq7
                go_roundw
                case rel => exact ⟨i + 1, by go_num, by omega, by omega, Lib.hid (.inl ⟨_, _, _, _, _, hq7.out, E7.out⟩)⟩
                case measure => simp [intOf]; omega
              · have G6 : Hid (Gn w w6 B N1 N2 q (q + 1) σ (putF ps σ) ss (doneL ss ps) F6 d6) := Lib.hid ⟨O6, hA6, by omega, hq30, T6.out, U6.out, hlen.out, hl2.out, E.out.o1, hof.out, f1.out, f2.out⟩
                have hd6h := Lib.hid hd6
                clear O6 hd6 hA6
                go_roundw
                case rel => exact ⟨i + 1, by go_num, by omega, by omega, Lib.hid (.inr ⟨_, _, _, _, _, _, _, _, G6.out, hd6h.out⟩)⟩
                case measure => simp [intOf]; omega
          · have hdh := Lib.hid hdd
            have Gh := Lib.hid G
            clear hdd G HS
            go_wp2_with (first | (go_at_call 20; refine (c_Dead wr B d Gh.out.own.dk).mono ?_; rintro e w' ⟨rfl, rfl⟩; rw [hdh.out]))
            go_meet
            case rel => exact HGN
        · have h25' : ¬ (i : Int) < 25 := by omega
          go_wp2_with fail
          go_meet
          case rel => exact HGN
      · have hlt' : ¬ (i : Int) < (n : Int) := by omega
        go_wp2_with fail
        go_meet
        case rel => exact HGN
  case rest =>
    clear E0 hza
    obtain ⟨q, q', σ, σ', ss, nx, F, d, G0⟩ := hcut.out
    replace G0 := Lib.hid G0
    clear hcut
    go_upto_block 2 with fail
    go_cut [17] from 78 to 100 (fun _ wx => Hid (∃ F d, Gn w wx B N1 N2 q q' σ σ' ss nx F d))
    case first =>
      go_wp2_with fail
      go_loopw [17] (fun iv wr => ∃ k : Nat, iv = .int .i64 k ∧ k ≤ 4 ∧ k ≤ p3.length ∧ Hid (∃ F d, Gn w wr B N1 N2 q q' σ σ' ss nx F d)) (fun iv _ => 4 - (intOf iv).toNat)
      case atStart => exact ⟨0, rfl, by omega, by omega, Lib.hid ⟨_, _, G0.out⟩⟩
      case round =>
        clear G0
        obtain ⟨k, rfl, hk4, hk3, HS⟩ := hrel
        by_cases hlt : k < p3.length
        · have hlt' : (k : Int) < (p3.length : Int) := by omega
          by_cases h4 : k < 4
          · have h4' : (k : Int) < 4 := by omega
            obtain ⟨F1, d1, G1⟩ := HS.out
            have IL := it_later HP2.out.1 G1.own.bl G1.own.lo
            replace G1 := Lib.hid G1
            replace IL := Lib.hid IL
            clear HS
            obtain ⟨x, hx⟩ : ∃ x, p3[k]? = some x := ⟨_, List.getElem?_eq_getElem hlt⟩
            obtain ⟨_, hc3⟩ := it_cell HP3.out.1 rfl
            obtain ⟨g3, o3, rfl, hg3, hcx⟩ := hc3 k x hx
            have hcxh := Lib.hid (And.intro hg3 hcx)
            obtain ⟨kz, hkz⟩ : ∃ kz : Nat, x % 12 = (kz : Int) := ⟨(x % 12).toNat, by omega⟩
            have hkz3 : kz < 12 := by omega
            replace hkz := Lib.hid hkz
            have hzb : IntKind.i64.wrap (1 + (kz : Int)) = 1 + (kz : Int) := IntWalk.i64_in _ (by omega)
            clear hc3 hg3 hcx hx
            go_wp2_with (first
              | (go_at_call 11; refine (s_open_any G6.out.own (hC3.out.stop _) hS3.out (by decide) (by decide) hq3.out).mono ?_; rintro e w7 ⟨v7, F7, d7, rfl, O7, hA7, hi7⟩; have G7 := Lib.hid (G6.out.inn hi7 O7 hA7); clear O7 hA7 hi7)
              | (go_at_call 19; refine (s_stop G5.out.own (1 + (kz : Int)) ⟨by omega, by omega⟩).mono ?_; rintro e w6 ⟨F6, rfl, O6, hi6⟩; have G6 := Lib.hid (G5.out.inn hi6 O6 ((hC3.out.stop _).any hS3.out)); clear O6 hi6)
              | (go_at_call 17; refine (c_within x 12 (by decide) (by decide) w5).mono ?_; rintro e w' ⟨rfl, rfl⟩; rw [hkz.out])
              | (go_at_call 21; refine (s_crash G1.out.own (.slice a2 p2.length c2) p2 IL.out.1 HP2.out.2 IL.out.2 hp60.out).mono ?_; rintro e w5 ⟨F5, kk, rfl, O5, hi5⟩; obtain ⟨q3, σ3, hS3, hC3⟩ := G1.out.any.crash p2; have G5 := Lib.hid (G1.out.inn hi5 O5 (hC3.any hS3)); have cx : w5.cell? ⟨g3, o3 + k, none⟩ = some (.int .i64 x) := (G5.out.own.bl.cell (p := ⟨g3, o3 + k, none⟩) hcxh.out.1).trans hcxh.out.2; have hq3 : Hid (q3 < 250) := Lib.hid (by rcases hS3 with ⟨e, _⟩ | ⟨e, _⟩; rw [e]; exact G1.out.q1; rw [e]; exact G1.out.q2); replace hS3 := Lib.hid hS3; replace hC3 := Lib.hid hC3; clear O5 hi5))
            clear cx hzb
            go_roundw
            case rel => exact ⟨k + 1, by go_num, by omega, by omega, Lib.hid ⟨_, _, G7.out⟩⟩
            case measure => simp [intOf]; omega
          · have h4' : ¬ (k : Int) < 4 := by omega
            go_wp2_with fail
            go_meet
            case rel => exact HS
        · have hlt' : ¬ (k : Int) < (p3.length : Int) := by omega
          go_wp2_with fail
          go_meet
          case rel => exact HS
    case rest =>
      clear G0 F d
      obtain ⟨F, d, G⟩ := hcut.out
      have IL := Lib.hid (it_later HP2.out.1 G.own.bl G.own.lo)
      replace G := Lib.hid G
      clear hcut
      go_upto_region 29 with (first
        | (go_at_call 11; refine (s_open G5.out.own hC3.out rfl (by decide) (by decide) hq3.out).mono ?_; rintro e w8 ⟨L8, F8, d8, rfl, S8, hl8, hi8, _⟩; have G8 := Lib.hid (G5.out.inn hi8 S8.own (S8.lg.any hS3.out)); replace S8 := Lib.hid S8; clear hl8 hi8)
        | (go_at_call 21; refine (s_crash G.out.own (.slice a2 p2.length c2) p2 IL.out.1 HP2.out.2 IL.out.2 hp60.out).mono ?_; rintro e w5 ⟨F5, kk, rfl, O5, hi5⟩; obtain ⟨q3, σ3, hS3, hC3⟩ := G.out.any.crash p2; have G5 := Lib.hid (G.out.inn hi5 O5 (hC3.any hS3)); have hq3 : Hid (q3 < 250) := Lib.hid (by rcases hS3 with ⟨e, _⟩ | ⟨e, _⟩; rw [e]; exact G.out.q1; rw [e]; exact G.out.q2); replace hS3 := Lib.hid hS3; replace hC3 := Lib.hid hC3; clear O5 hi5))
      have T8 := Lib.hid G8.out.s1
      have U8 := Lib.hid G8.out.s2
      go_wp2_with fail
      refine wp_region_held_drew (S := fun w' => Below w8.heap.size w8 w') (by kernel_rfl) ?_ (fun hHeld => ?_)
      · exact below_drew (Below.refl _ _)
      refine wpAnyH_take (i := 0) (oi := ⟨_, _, _, _, _, _⟩) (v := ?_) rfl (by kernel_rfl) (by kernel_rfl) (by kernel_rfl) (fun _ _ _ h => h) (Or.inl ⟨by rfl, ?_⟩) (by assumption) ?_
      rotate_left
      · intro w hSw; (try dsimp only at hSw); go_split_ands; go_simp; (try with_reducible rfl)
      try simp only [Act.put, List.setIfInBounds_toArray, List.set_cons_zero, List.set_cons_succ]
      refine wpAnyH_take (i := 1) (oi := ⟨_, _, _, _, _, _⟩) (v := .agg (stC ss)) rfl (by kernel_rfl) (by kernel_rfl) (by kernel_rfl) (fun _ _ _ h => h) (yields_ss (by rfl) (.tmp 13) rfl (N := N1) rfl (fun w hS => Off.keeps (.of_below (ex := fun _ => False) hS) T8.out id) G8.out.l1) (by assumption) ?_
      try simp only [Act.put, List.setIfInBounds_toArray, List.set_cons_zero, List.set_cons_succ]
      refine wpAnyH_take (i := 3) (oi := ⟨_, _, _, _, _, _⟩) (v := ?_) rfl (by kernel_rfl) (by kernel_rfl) (by kernel_rfl) (fun _ _ _ h => h) (Or.inl ⟨by rfl, ?_⟩) (by assumption) ?_
      rotate_left
      · intro w hSw; (try dsimp only at hSw); go_split_ands; go_simp; (try with_reducible rfl)
      try simp only [Act.put, List.setIfInBounds_toArray, List.set_cons_zero, List.set_cons_succ]
      refine wpAnyH_take (i := 4) (oi := ⟨_, _, _, _, _, _⟩) (v := .agg (stC nx)) rfl (by kernel_rfl) (by kernel_rfl) (by kernel_rfl) (fun _ _ _ h => h) (yields_ss (by rfl) (.tmp 14) rfl (N := N2) rfl (fun w hS => Off.keeps (.of_below (ex := fun _ => False) hS) U8.out id) G8.out.l2) (by assumption) ?_
      try simp only [Act.put, List.setIfInBounds_toArray, List.set_cons_zero, List.set_cons_succ]
      refine wpAnyH_take (i := 6) (oi := ⟨_, _, _, _, _, _⟩) (v := ?_) rfl (by kernel_rfl) (by kernel_rfl) (by kernel_rfl) (fun _ _ _ h => h) (Or.inl ⟨by rfl, ?_⟩) (by assumption) ?_
      rotate_left
      · intro w hSw; (try dsimp only at hSw); go_split_ands; go_simp; (try with_reducible rfl)
      try simp only [Act.put, List.setIfInBounds_toArray, List.set_cons_zero, List.set_cons_succ]
      refine wpAnyH_ready (rs := [2]) (by kernel_rfl) (by simp) (AllReadyH.cons (o := ⟨_, _, _, _, _, _⟩) rfl (fun K hK => ?_) AllReadyH.nil)
      go_simp
      refine (c_holds (S8.out.below (below_drew (Below.refl _ _))) (by decide) (by decide) ss G8.out.l1).mono ?_
      rintro e w9 ⟨⟨b1, rfl, hb1⟩, hb9⟩
      have B9 : Hid (Below w8.heap.size w8 w9) := Lib.hid (below2 (below_drew (Below.refl _ _)) hb9)
      clear hb9
      replace hb1 := Lib.hid hb1
      go_wp2_with fail
      refine hK.out _ _ ?_ (fun hHeld => ?_)
      · exact B9.out
      clear hK K
      try simp only [Act.put, List.setIfInBounds_toArray, List.set_cons_zero, List.set_cons_succ]
      refine wpAnyH_ready (rs := [5]) (by kernel_rfl) (by simp) (AllReadyH.cons (o := ⟨_, _, _, _, _, _⟩) rfl (fun K hK => ?_) AllReadyH.nil)
      go_simp
      refine (c_holds (S8.out.below B9.out) (by decide) (by decide) nx G8.out.l2).mono ?_
      rintro e w10 ⟨⟨b2, rfl, hb2⟩, hb10⟩
      have B10 : Hid (Below w8.heap.size w8 w10) := Lib.hid (below2 B9.out hb10)
      clear hb10
      replace hb2 := Lib.hid hb2
      go_wp2_with fail
      refine hK.out _ _ ?_ (fun hHeld => ?_)
      · exact B10.out
      clear hK K
      try simp only [Act.put, List.setIfInBounds_toArray, List.set_cons_zero, List.set_cons_succ]
      refine wpAnyH_ready (rs := [7]) (by kernel_rfl) (by simp) (AllReadyH.cons (o := ⟨_, _, _, _, _, _⟩) rfl (fun K hK => ?_) AllReadyH.nil)
      go_simp
      refine (c_Seq w10 L8 B _ _ (S8.out.below B10.out).at_).mono ?_
      rintro e w11 ⟨rfl, rfl⟩
      go_wp2_with fail
      refine hK.out _ _ ?_ (fun hHeld => ?_)
      · exact B10.out
      clear hK K
      try simp only [Act.put, List.setIfInBounds_toArray, List.set_cons_zero, List.set_cons_succ]
      refine wpAnyH_take (i := 8) (oi := ⟨_, _, _, _, _, _⟩) (v := ?_) rfl (by kernel_rfl) (by kernel_rfl) (by kernel_rfl) (fun _ _ _ h => h) (Or.inl ⟨by rfl, ?_⟩) (by assumption) ?_
      rotate_left
      · intro w hSw; (try dsimp only at hSw); go_split_ands; go_simp; (try with_reducible rfl)
      try simp only [Act.put, List.setIfInBounds_toArray, List.set_cons_zero, List.set_cons_succ]
      refine wpAnyH_take (i := 9) (oi := ⟨_, _, _, _, _, _⟩) (v := ?_) rfl (by kernel_rfl) (by kernel_rfl) (by kernel_rfl) (fun _ _ _ h => h) (Or.inl ⟨by rfl, ?_⟩) (by assumption) ?_
      rotate_left
      · intro w hSw; (try dsimp only at hSw); go_split_ands; go_simp; (try with_reducible rfl)
      try simp only [Act.put, List.setIfInBounds_toArray, List.set_cons_zero, List.set_cons_succ]
      refine wpAnyH_take (i := 10) (oi := ⟨_, _, _, _, _, _⟩) (v := ?_) rfl (by kernel_rfl) (by kernel_rfl) (by kernel_rfl) (fun _ _ _ h => h) (Or.inl ⟨by rfl, ?_⟩) (by assumption) ?_
      rotate_left
      · intro w hSw; (try dsimp only at hSw); go_split_ands; go_simp; (try with_reducible rfl)
      try simp only [Act.put, List.setIfInBounds_toArray, List.set_cons_zero, List.set_cons_succ]
      refine wpAnyH_done (by kernel_rfl) ?_ _
      have S10 := Lib.hid (S8.out.below B10.out)
      have ho10 : Off (fun _ => False) w8 w10 := .of_below B10.out
      have G10 : Hid (Gn w w10 B N1 N2 q3 q3 σ3 σ3 ss nx F8 d8 ∨ True) := Lib.hid (.inr trivial)
      have A10 : Hid (Any 60 (S2 q3 σ3 q3 σ3) d8) := Lib.hid (S8.out.lg.any (.inl ⟨rfl, rfl⟩))
      have T10 : Hid (StAt w10 N1 ss) := Lib.hid (ho10.keeps T8.out (fun h => h))
      have U10 : Hid (StAt w10 N2 nx) := Lib.hid (ho10.keeps U8.out (fun h => h))
      have IL10 := Lib.hid (it_later HP2.out.1 S10.out.own.bl S10.out.own.lo)
      have hor : Hid (b1 = true ∨ b2 = true) := Lib.hid (by
        rcases hS3.out with ⟨_, e⟩ | ⟨_, e⟩
        · exact .inl (hb1.out.is.2 (by rw [e]; exact G8.out.o1))
        · exact .inr (hb2.out.is.2 (by rw [e]; exact G8.out.o2)))
      have hll := Lib.hid (And.intro G8.out.l1 G8.out.l2)
      have hnn := Lib.hid (And.intro G8.out.n1 G8.out.n2)
      clear ho10 G10 T8 U8 hHeld G8 S8 G G5 hC3 IL hS3
      cases b1 with
      | true =>
        go_wp2_with (first
          | ((with_reducible refine wpList_load_ss_g (op := ⟨some 139, .load 34 (.tmp 13), _, _, _, _⟩) (N := N1) (ss := ss) (.tmp 13) ?_ ?_ ?_ T13.out hll.out.1 ?_); exact rfl; exact rfl; exact rfl)
          | (go_at_call 15; refine (c_Seq w14 L13 B _ _ S14.out.at_).mono ?_; rintro e w15 ⟨rfl, rfl⟩)
          | (go_at_call 16; refine (c_holds S13.out (by decide) (by decide) ss hll.out.1).mono ?_; rintro e w14 ⟨⟨b4, rfl, hb4⟩, hb14⟩; obtain rfl := hb4.is.2 (hb1.out.is.1 rfl); have S14 := Lib.hid (S13.out.below hb14); clear hb14 hb4)
          | (go_at_call 11; refine (s_open O12.out hC4.out rfl (by decide) (by decide) hq3.out).mono ?_; rintro e w13 ⟨L13, F13, d13, rfl, S13, hl13, hi13, _⟩; have T13 : Hid (StAt w13 N1 ss) := Lib.hid (hi13.off.keeps T12.out f12.out); replace S13 := Lib.hid S13; clear hl13 hi13)
          | (go_at_call 21; refine (s_crash S10.out.own (.slice a2 p2.length c2) p2 IL10.out.1 HP2.out.2 IL10.out.2 hp60.out).mono ?_; rintro e w12 ⟨F12, kk, rfl, O12, hi12⟩; obtain ⟨q4, σ4, hS4, hC4⟩ := A10.out.crash p2; obtain ⟨rfl, rfl⟩ : q4 = q3 ∧ σ4 = σ3 := hS4.elim id id; have T12 : Hid (StAt w12 N1 ss) := Lib.hid (hi12.off.keeps T10.out hnn.out.1); have f12 : Hid (¬ F12 N1) := Lib.hid (fun hx => (hi12.out _ hx).elim hnn.out.1 (fun h2 => by have := T10.out.lt; omega)); replace O12 := Lib.hid O12; replace hC4 := Lib.hid hC4; clear hi12 hS4))
        go_ret
        exact ⟨rfl, S14.out.own.bl⟩
      | false =>
        obtain rfl : b2 = true := hor.out.elim (fun h => (by cases h)) id
        go_wp2_with (first
          | ((with_reducible refine wpList_load_ss_g (op := ⟨some 146, .load 34 (.tmp 14), _, _, _, _⟩) (N := N2) (ss := nx) (.tmp 14) ?_ ?_ ?_ T13.out hll.out.2 ?_); exact rfl; exact rfl; exact rfl)
          | (go_at_call 15; refine (c_Seq w14 L13 B _ _ S14.out.at_).mono ?_; rintro e w15 ⟨rfl, rfl⟩)
          | (go_at_call 16; refine (c_holds S13.out (by decide) (by decide) nx hll.out.2).mono ?_; rintro e w14 ⟨⟨b4, rfl, hb4⟩, hb14⟩; obtain rfl := hb4.is.2 (hb2.out.is.1 rfl); have S14 := Lib.hid (S13.out.below hb14); clear hb14 hb4)
          | (go_at_call 11; refine (s_open O12.out hC4.out rfl (by decide) (by decide) hq3.out).mono ?_; rintro e w13 ⟨L13, F13, d13, rfl, S13, hl13, hi13, _⟩; have T13 : Hid (StAt w13 N2 nx) := Lib.hid (hi13.off.keeps T12.out f12.out); replace S13 := Lib.hid S13; clear hl13 hi13)
          | (go_at_call 21; refine (s_crash S10.out.own (.slice a2 p2.length c2) p2 IL10.out.1 HP2.out.2 IL10.out.2 hp60.out).mono ?_; rintro e w12 ⟨F12, kk, rfl, O12, hi12⟩; obtain ⟨q4, σ4, hS4, hC4⟩ := A10.out.crash p2; obtain ⟨rfl, rfl⟩ : q4 = q3 ∧ σ4 = σ3 := hS4.elim id id; have T12 : Hid (StAt w12 N2 nx) := Lib.hid (hi12.off.keeps U10.out hnn.out.2); have f12 : Hid (¬ F12 N2) := Lib.hid (fun hx => (hi12.out _ hx).elim hnn.out.2 (fun h2 => by have := U10.out.lt; omega)); replace O12 := Lib.hid O12; replace hC4 := Lib.hid hC4; clear hi12 hS4))
        go_ret
        exact ⟨rfl, S14.out.own.bl⟩
end Go.Proofs.Ytpdjenkacefpjaa
