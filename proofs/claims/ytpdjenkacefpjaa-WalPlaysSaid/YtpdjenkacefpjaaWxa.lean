/- WalPlays: the law's walk. -/
import Derived.Test.YtpdjenkacefpjaaWxs
namespace Go.Proofs.Ytpdjenkacefpjaa
open Go.RowKit Go.ChangeShapes
set_option linter.unusedVariables false
set_option maxRecDepth 100000

set_option maxHeartbeats 8000000 in
theorem law_WalPlays (w : World) (v0 : Value) (h0 : GrAt w v0) (v1 : Value) (h1 : BoAt w v1) : Calls Try.prog 3 #[v0, v1] w fun e w' => e = .returned (.bool true) ∧ Below w.heap.size w w' := by
  obtain ⟨ad, n, c, hq0, hnc, hcm, _⟩ := id h0
  obtain ⟨bd, bn, bc, hq1, hbnc, hbcm, hbo⟩ := id h1
  subst hq0 hq1
  have HG := Lib.hid h0
  have HB0 := Lib.hid hbo
  have hnm : n ≤ 9223372036854775807 := by unfold maxLen at hcm; omega
  have hbm : bn ≤ 9223372036854775807 := by unfold maxLen at hbcm; omega
  clear h0 h1 hnc hcm hbnc hbcm hbo
  have hs0 : stC (List.replicate 18 []) = #[.string ⟨#[]⟩, .string ⟨#[]⟩, .string ⟨#[]⟩, .string ⟨#[]⟩, .string ⟨#[]⟩, .string ⟨#[]⟩, .string ⟨#[]⟩, .string ⟨#[]⟩, .string ⟨#[]⟩, .string ⟨#[]⟩, .string ⟨#[]⟩, .string ⟨#[]⟩, .string ⟨#[]⟩, .string ⟨#[]⟩, .string ⟨#[]⟩, .string ⟨#[]⟩, .string ⟨#[]⟩, .string ⟨#[]⟩] := rfl
  go_enter Try.func3, Try.ntmps3
  go_wp2_with (first
    | (go_at_call 11; refine (s_open O2.out (new_cr (N := 60) (by decide) (by decide)) rfl (by decide) (by decide) (by decide)).mono ?_; rintro e w3 ⟨L, F, d, rfl, S3, hl3, _, _⟩; replace S3 := Lib.hid S3; replace hl3 := Lib.hid hl3)
    | (go_at_call 10; refine (s_new 60 w w1 hb1.out (by decide) (by decide)).mono ?_; rintro e w2 ⟨B, F0, rfl, O2, _, _⟩; replace O2 := Lib.hid O2)
    | (go_at_call 9; refine (c_known w).mono ?_; rintro e w1 ⟨rfl, hb1⟩; replace hb1 := Lib.hid hb1))
  rw [← hs0]
  have E0 : Hid (Env w (w3.alloc (.cells (stC (List.replicate 18 [])) 34)) B w3.heap.size 0 L (fun _ => zeros) (List.replicate 18 []) F d) := Lib.hid ⟨S3.out.below (below_al0 _ _), hl3.out, heap_alloc_new w3 _, by simp, StOf.start, fun h => by have := S3.out.own.dk.lt _ h; omega, fun e => by have := S3.out.at_.lt; omega⟩
  have hNS : Hid (w.heap.size ≤ w3.heap.size) := Lib.hid S3.out.own.bl.size
  generalize w3.alloc (.cells (stC (List.replicate 18 [])) 34) = W at *
  generalize w3.heap.size = NS at *
  clear hs0 S3 hl3 O2 hb1
  go_loopw [7, 10, 11] (fun gv sv iv wr => ∃ (i q L : Nat) (σ : Int → Sec) (ss : List Sec) (F : Nat → Prop) (d : Dk), gv = .pointer (some ⟨L, 0, none⟩) ∧ sv = .int .i64 q ∧ iv = .int .i64 i ∧ q ≤ i ∧ i ≤ 30 ∧ i ≤ n ∧ Hid (Env w wr B NS q L σ ss F d)) (fun _ _ iv _ => 30 - (intOf iv).toNat)
  case atStart => exact ⟨0, 0, L, _, _, F, d, rfl, rfl, rfl, by omega, by omega, by omega, E0⟩
  case round =>
    clear E0
    obtain ⟨i, q, L, σ, ss, F, d, rfl, rfl, rfl, hqi, hi30, hin, E⟩ := hrel
    by_cases hlt : i < n
    · have hlt' : (i : Int) < (n : Int) := by omega
      by_cases h30 : i < 30
      · have h30' : (i : Int) < 30 := by omega
        obtain ⟨g, o, vn, vf, vr, ns, fb, rb, rfl, hn1, hn2, hf1, hr1, c0, c1, c2⟩ := HG.out.one E.out.sys.own.bl rfl hlt
        obtain ⟨an, cn, hqn, _⟩ := id hn1
        obtain ⟨af, cf, hqf, _⟩ := id hf1
        obtain ⟨ar, cr, hqr, _, hcr, _⟩ := id hr1
        subst hqn hqf hqr
        have hrl : rb.length ≤ 9223372036854775807 := by unfold maxLen at hcr; omega
        clear hcr
        have P1 := Lib.hid hn1
        have P2 := Lib.hid hn2
        have P3 := Lib.hid hf1
        have P4 := Lib.hid hr1
        clear hn1 hn2 hf1 hr1
        by_cases h128 : 128 < rb.length
        · have h128' : (128 : Int) < (rb.length : Int) := by omega
          go_wp2_with fail
          clear c0 c1 c2 h128'
          go_roundw
          case rel => exact ⟨i + 1, q, L, σ, ss, F, d, rfl, rfl, by go_num, by omega, by omega, by omega, E⟩
          case measure => simp [intOf]; omega
        · have h128' : ¬ (128 : Int) < (rb.length : Int) := by omega
          have hF9 : Hid (∀ g, (F g ∨ g = L ∨ g = NS) → g < wr.heap.size) := Lib.hid (fun g hg => by
            rcases hg with hg | rfl | rfl
            · exact E.out.sys.own.dk.lt g hg
            · exact E.out.sys.at_.lt
            · exact E.out.st.lt)
          go_upto_region 14 with (first
            | (go_at_call 12; refine (c_puts (F := fun g => F g ∨ g = L ∨ g = NS) wr _ _ _ ns fb rb P1.out P2.out P3.out P4.out hF9.out).mono ?_; rintro e w2 ⟨pv, es, rfl, hrow, hok, hle, hb2⟩))
          have hPA := hrow.at_ (fun g hg hx => by have h1 := (own_blk hrow.row hg).1; have h2 := hF9.out g hx; omega)
          have hall := Lib.hid hok.all
          have hgood : Hid (GoodC d (es.map (·.1))) := Lib.hid (hok.good E.out.sys.lg.alive (by rw [E.out.sys.lg.n]; decide) (by omega))
          have hle' : (es.map (·.1)).length ≤ 30 := by rw [List.length_map]; exact hle
          have E2 := Lib.hid (E.out.below hb2)
          clear hrow hok hle E hb2 hF9 c0 c1 c2
          generalize es.map (·.1) = ps at *
          obtain ⟨pa, pc, hpv, _⟩ := id hPA
          subst hpv
          have PA := Lib.hid hPA
          clear hPA
          have hq30 : q + 1 < 250 := by omega
          have HLE := Lib.hid hle'
          clear hle'
          go_upto_region 16 with (first
            | (go_at_call 13; refine (s_commit_any E2.out.sys E2.out.left (by decide) (by decide) hq30 (PA.out.less (F' := F) (fun g hg => .inl hg)) hgood.out).mono ?_; rintro e w3 ⟨F3, d3, rfl, S3, hl3, hi3⟩; have T3 := E2.out.inl hi3 S3 hl3; have PA3 := Lib.hid (PA.out.off hi3.off (fun g hg => hg.elim (fun h => .inl (.inl h)) (fun h => .inl (.inr (.inl h))))); have nF3 := Lib.hid T3.2; replace T3 := Lib.hid T3.1; replace S3 := Lib.hid S3; replace hl3 := Lib.hid hl3; clear hi3))
          have hlen := Lib.hid E2.out.len
          have hof := Lib.hid (StOf.done ps E2.out.of_ hall.out)
          have nL := Lib.hid E2.out.nL
          have hl2 : Hid ((doneL ss ps).length = 18) := Lib.hid (by rw [doneL_len]; exact hlen.out)
          go_upto_region 17 with (first
            | ((with_reducible refine wpList_load_ss (op := ⟨some 52, .load 34 (.tmp 9), _, _, _, _⟩) (N := NS) (ss := ss) ?_ (.tmp 9) ?_ ?_ T3.out hlen.out ?_); exact rfl; exact rfl; exact rfl)
            | ((with_reducible refine wpList_store_ss (op := ⟨none, .store 34 (.tmp 9) (.tmp 54), _, _, _, _⟩) (N := NS) (ss := ss) (ss' := doneL ss ps) ?_ (.tmp 9) (.tmp 54) ?_ ?_ ?_ T4.out hlen.out hl2.out ?_); exact rfl; exact rfl; exact rfl; exact rfl; intro w5 h5 o5; have E5 : Hid (Env w w5 B NS (if ps = [] then q else q + 1) L (putF ps σ) (doneL ss ps) F3 d3) := Lib.hid ⟨S4.out.off o5 (fun g hg e => nF3.out (e ▸ hg)) (fun e => nL.out e.symm) (fun g e => e ▸ hNS.out), hl3.out, h5, hl2.out, hof.out, nF3.out, nL.out⟩; clear h5 o5)
            | (go_at_call 14; refine (c_done w3 ss hlen.out _ ps PA3.out hall.out (by have := HLE.out; omega)).mono ?_; rintro e w4 ⟨rfl, hb4⟩; have T4 : Hid (StAt w4 NS ss) := Lib.hid ((Off.of_below (ex := fun _ => False) hb4).keeps T3.out (fun h => h)); have S4 := Lib.hid (S3.out.below hb4); clear hb4))
          by_cases hpe : ps = []
          · rw [if_pos hpe] at E5
            have hpl' : ¬ (0 : Int) < (ps.length : Int) := by rw [hpe]; decide
            have hq31 : q < 250 := by omega
            replace hpe := Lib.hid hpe
            clear PA PA3 hgood E2 S3 hl3 S4 T4 T3
            by_cases hob : i < bn
            · have hob' : (i : Int) < (bn : Int) := by omega
              obtain ⟨gb, ob, x, rfl, hgb, hcb⟩ := HB0.out i hob
              have cb := (E5.out.sys.own.bl.cell (p := ⟨gb, ob + i, none⟩) hgb).trans hcb
              clear hgb hcb
              cases x with
              | true =>
                go_upto_region 23 with (first
                  | (go_at_call 11; refine (s_open E5.out.sys.own E5.out.sys.lg.cr E5.out.left (by decide) (by decide) hq31).mono ?_; rintro e w6 ⟨L6, F6, d6, rfl, S6, hl6, hi6, hL6⟩; have E6 : Hid (Env w w6 B NS q L6 (putF ps σ) (doneL ss ps) F6 d6) := Lib.hid ⟨S6, hl6, hi6.off.keeps E5.out.st E5.out.nF, hl2.out, hof.out, fun h => (hi6.out _ h).elim E5.out.nF (fun h => by have := E5.out.st.lt; omega), fun e => by have := E5.out.st.lt; omega⟩; clear S6 hl6 hi6 hL6))
                clear cb
                have LL := Lib.hid E6.out.sys.at_
                have TT := Lib.hid E6.out.st
                go_wp2_with (first
                  | ((with_reducible refine wpList_load_ss_g (op := ⟨some 83, .load 34 (.tmp 9), _, _, _, _⟩) (N := NS) (ss := doneL ss ps) (.tmp 9) ?_ ?_ ?_ TT.out hl2.out ?_); exact rfl; exact rfl; exact rfl)
                  | (go_at_call 15; refine (c_Seq w6 L6 B _ _ LL.out).mono ?_; rintro e w8 ⟨rfl, rfl⟩; skip)
                  | (go_at_call 16; refine (c_holds E6.out.sys (by decide) (by decide) (doneL ss ps) hl2.out).mono ?_; rintro e w9 ⟨⟨bb, rfl, hbb⟩, hb9⟩; obtain rfl := hbb.is.2 E6.out.of_; have E9 := Lib.hid (E6.out.below hb9); clear hb9 hbb))
                (try clear cb)
                go_roundw
                case rel => exact ⟨i + 1, q, L6, _, _, _, _, rfl, by go_num, by go_num, by omega, by omega, by omega, E9⟩
                case measure => simp [intOf]; omega
              | false =>
                have LL := Lib.hid E5.out.sys.at_
                have TT := Lib.hid E5.out.st
                go_wp2_with (first
                  | ((with_reducible refine wpList_load_ss_g (op := ⟨some 83, .load 34 (.tmp 9), _, _, _, _⟩) (N := NS) (ss := doneL ss ps) (.tmp 9) ?_ ?_ ?_ TT.out hl2.out ?_); exact rfl; exact rfl; exact rfl)
                  | (go_at_call 15; refine (c_Seq w5 L B _ _ LL.out).mono ?_; rintro e w8 ⟨rfl, rfl⟩; skip)
                  | (go_at_call 16; refine (c_holds E5.out.sys (by decide) (by decide) (doneL ss ps) hl2.out).mono ?_; rintro e w9 ⟨⟨bb, rfl, hbb⟩, hb9⟩; obtain rfl := hbb.is.2 E5.out.of_; have E9 := Lib.hid (E5.out.below hb9); clear hb9 hbb))
                (try clear cb)
                go_roundw
                case rel => exact ⟨i + 1, q, L, _, _, _, _, rfl, by go_num, by go_num, by omega, by omega, by omega, E9⟩
                case measure => simp [intOf]; omega
            · have hob' : ¬ (i : Int) < (bn : Int) := by omega
              have LL := Lib.hid E5.out.sys.at_
              have TT := Lib.hid E5.out.st
              go_wp2_with (first
                | ((with_reducible refine wpList_load_ss_g (op := ⟨some 83, .load 34 (.tmp 9), _, _, _, _⟩) (N := NS) (ss := doneL ss ps) (.tmp 9) ?_ ?_ ?_ TT.out hl2.out ?_); exact rfl; exact rfl; exact rfl)
                | (go_at_call 15; refine (c_Seq w5 L B _ _ LL.out).mono ?_; rintro e w8 ⟨rfl, rfl⟩; skip)
                | (go_at_call 16; refine (c_holds E5.out.sys (by decide) (by decide) (doneL ss ps) hl2.out).mono ?_; rintro e w9 ⟨⟨bb, rfl, hbb⟩, hb9⟩; obtain rfl := hbb.is.2 E5.out.of_; have E9 := Lib.hid (E5.out.below hb9); clear hb9 hbb))
              (try clear cb)
              go_roundw
              case rel => exact ⟨i + 1, q, L, _, _, _, _, rfl, by go_num, by go_num, by omega, by omega, by omega, E9⟩
              case measure => simp [intOf]; omega
          · rw [if_neg hpe] at E5
            have hpl' : (0 : Int) < (ps.length : Int) := by have := List.length_pos_iff.2 hpe; omega
            have hq31 : q + 1 < 250 := by omega
            have hcast : ((q + 1 : Nat) : Int) = (q : Int) + 1 := by omega
            replace hpe := Lib.hid hpe
            clear PA PA3 hgood E2 S3 hl3 S4 T4 T3
            by_cases hob : i < bn
            · have hob' : (i : Int) < (bn : Int) := by omega
              obtain ⟨gb, ob, x, rfl, hgb, hcb⟩ := HB0.out i hob
              have cb := (E5.out.sys.own.bl.cell (p := ⟨gb, ob + i, none⟩) hgb).trans hcb
              clear hgb hcb
              cases x with
              | true =>
                go_upto_region 23 with (first
                  | (go_at_call 11; refine (s_open E5.out.sys.own E5.out.sys.lg.cr E5.out.left (by decide) (by decide) hq31).mono ?_; rintro e w6 ⟨L6, F6, d6, rfl, S6, hl6, hi6, hL6⟩; have E6 : Hid (Env w w6 B NS (q + 1) L6 (putF ps σ) (doneL ss ps) F6 d6) := Lib.hid ⟨S6, hl6, hi6.off.keeps E5.out.st E5.out.nF, hl2.out, hof.out, fun h => (hi6.out _ h).elim E5.out.nF (fun h => by have := E5.out.st.lt; omega), fun e => by have := E5.out.st.lt; omega⟩; clear S6 hl6 hi6 hL6))
                clear cb
                have LL := Lib.hid E6.out.sys.at_
                have TT := Lib.hid E6.out.st
                go_wp2_with (first
                  | ((with_reducible refine wpList_load_ss_g (op := ⟨some 83, .load 34 (.tmp 9), _, _, _, _⟩) (N := NS) (ss := doneL ss ps) (.tmp 9) ?_ ?_ ?_ TT.out hl2.out ?_); exact rfl; exact rfl; exact rfl)
                  | (go_at_call 15; refine (c_Seq w6 L6 B _ _ LL.out).mono ?_; rintro e w8 ⟨rfl, rfl⟩; rw [hcast])
                  | (go_at_call 16; refine (c_holds E6.out.sys (by decide) (by decide) (doneL ss ps) hl2.out).mono ?_; rintro e w9 ⟨⟨bb, rfl, hbb⟩, hb9⟩; obtain rfl := hbb.is.2 E6.out.of_; have E9 := Lib.hid (E6.out.below hb9); clear hb9 hbb))
                (try clear cb)
                go_roundw
                case rel => exact ⟨i + 1, (q + 1), L6, _, _, _, _, rfl, by go_num, by go_num, by omega, by omega, by omega, E9⟩
                case measure => simp [intOf]; omega
              | false =>
                have LL := Lib.hid E5.out.sys.at_
                have TT := Lib.hid E5.out.st
                go_wp2_with (first
                  | ((with_reducible refine wpList_load_ss_g (op := ⟨some 83, .load 34 (.tmp 9), _, _, _, _⟩) (N := NS) (ss := doneL ss ps) (.tmp 9) ?_ ?_ ?_ TT.out hl2.out ?_); exact rfl; exact rfl; exact rfl)
                  | (go_at_call 15; refine (c_Seq w5 L B _ _ LL.out).mono ?_; rintro e w8 ⟨rfl, rfl⟩; rw [hcast])
                  | (go_at_call 16; refine (c_holds E5.out.sys (by decide) (by decide) (doneL ss ps) hl2.out).mono ?_; rintro e w9 ⟨⟨bb, rfl, hbb⟩, hb9⟩; obtain rfl := hbb.is.2 E5.out.of_; have E9 := Lib.hid (E5.out.below hb9); clear hb9 hbb))
                (try clear cb)
                go_roundw
                case rel => exact ⟨i + 1, (q + 1), L, _, _, _, _, rfl, by go_num, by go_num, by omega, by omega, by omega, E9⟩
                case measure => simp [intOf]; omega
            · have hob' : ¬ (i : Int) < (bn : Int) := by omega
              have LL := Lib.hid E5.out.sys.at_
              have TT := Lib.hid E5.out.st
              go_wp2_with (first
                | ((with_reducible refine wpList_load_ss_g (op := ⟨some 83, .load 34 (.tmp 9), _, _, _, _⟩) (N := NS) (ss := doneL ss ps) (.tmp 9) ?_ ?_ ?_ TT.out hl2.out ?_); exact rfl; exact rfl; exact rfl)
                | (go_at_call 15; refine (c_Seq w5 L B _ _ LL.out).mono ?_; rintro e w8 ⟨rfl, rfl⟩; rw [hcast])
                | (go_at_call 16; refine (c_holds E5.out.sys (by decide) (by decide) (doneL ss ps) hl2.out).mono ?_; rintro e w9 ⟨⟨bb, rfl, hbb⟩, hb9⟩; obtain rfl := hbb.is.2 E5.out.of_; have E9 := Lib.hid (E5.out.below hb9); clear hb9 hbb))
              (try clear cb)
              go_roundw
              case rel => exact ⟨i + 1, (q + 1), L, _, _, _, _, rfl, by go_num, by go_num, by omega, by omega, by omega, E9⟩
              case measure => simp [intOf]; omega
      · have h30' : ¬ (i : Int) < 30 := by omega
        go_wp2_with fail
        go_ret
        exact ⟨rfl, E.out.sys.own.bl⟩
    · have hlt' : ¬ (i : Int) < (n : Int) := by omega
      go_wp2_with fail
      go_ret
      exact ⟨rfl, E.out.sys.own.bl⟩
end Go.Proofs.Ytpdjenkacefpjaa
