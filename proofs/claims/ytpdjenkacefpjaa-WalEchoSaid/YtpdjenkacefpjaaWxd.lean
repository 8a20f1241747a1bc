/- WalEcho: the law's walk. -/
import Derived.Test.YtpdjenkacefpjaaWxc
namespace Go.Proofs.Ytpdjenkacefpjaa
open Go.RowKit Go.ChangeShapes
set_option linter.unusedVariables false
set_option maxRecDepth 100000

theorem PutRow.keep {w w' : World} {A : Nat} {F2 ex : Nat → Prop} {v : Value} {es : List PE} (h : PutRow w A F2 v es) (ho : Off ex w w') (hex : ∀ g, ex g → F2 g) (hown : ∀ g, v.ownBlock = some g → ¬ F2 g) : PutRow w' A F2 v es :=
  h.off ho (fun g hg hx => hown g hg (hex g hx)) (fun e he a n c e' hx => ((h.data e he).nF a n c e').1 (hex _ hx))
set_option maxHeartbeats 8000000 in
theorem law_WalEcho (w : World) (v0 : Value) (h0 : GrAt w v0) (st : Int) (hst : I64 st) (v2 : Value) (p2 : List Int) (h2 : ItAt w v2 p2 ∧ ∀ y ∈ p2, I64 y) : Calls Try.prog 8 #[v0, .int .i64 st, v2] w fun e w' => e = .returned (.bool true) ∧ Below w.heap.size w w' := by
  obtain ⟨ad, n, c, hq0, hnc, hcm, _⟩ := id h0
  obtain ⟨a2, c2, hq2, _⟩ := id h2.1
  subst hq0 hq2
  have HG := Lib.hid h0
  have HP2 := Lib.hid h2
  have hnm : n ≤ 9223372036854775807 := by unfold maxLen at hcm; omega
  clear h0 h2 hnc hcm hst
  have hs0 : stC (List.replicate 18 []) = #[.string ⟨#[]⟩, .string ⟨#[]⟩, .string ⟨#[]⟩, .string ⟨#[]⟩, .string ⟨#[]⟩, .string ⟨#[]⟩, .string ⟨#[]⟩, .string ⟨#[]⟩, .string ⟨#[]⟩, .string ⟨#[]⟩, .string ⟨#[]⟩, .string ⟨#[]⟩, .string ⟨#[]⟩, .string ⟨#[]⟩, .string ⟨#[]⟩, .string ⟨#[]⟩, .string ⟨#[]⟩, .string ⟨#[]⟩] := rfl
  by_cases h60 : 60 < p2.length
  · have h60' : (60 : Int) < (p2.length : Int) := by omega
    go_enter Try.func8, Try.ntmps8
    go_wp2_with (first | (go_at_call 9; refine (c_known w).mono ?_; rintro e w1 ⟨rfl, hb1⟩; replace hb1 := Lib.hid hb1))
    go_ret
    exact ⟨rfl, hb1.out⟩
  have h60' : ¬ (60 : Int) < (p2.length : Int) := by omega
  have hp60 : Hid (p2.length < 1000000) := Lib.hid (by omega)
  go_enter Try.func8, Try.ntmps8
  go_upto_block 0 with (first
    | (go_at_call 11; refine (s_open O2.out (new_cr (N := 60) (by decide) (by decide)) rfl (by decide) (by decide) (by decide)).mono ?_; rintro e w4 ⟨L, F4, d4, rfl, S4, hl4, _, _⟩; replace S4 := Lib.hid S4; replace hl4 := Lib.hid hl4)
    | (go_at_call 10; refine (s_new 60 w w1 hb1.out (by decide) (by decide)).mono ?_; rintro e w2 ⟨B, F0, rfl, O2, _, _⟩; replace O2 := Lib.hid O2)
    | (go_at_call 9; refine (c_known w).mono ?_; rintro e w1 ⟨rfl, hb1⟩; replace hb1 := Lib.hid hb1))
  rw [← hs0]
  have E0 : Hid (Lv w ((w4.alloc (.cells (stC (List.replicate 18 [])) 34)).alloc (.cells (stC (List.replicate 18 [])) 34)) B w4.heap.size (w4.heap.size + 1) L 0 (fun _ => zeros) (List.replicate 18 []) F4 d4) := Lib.hid ⟨S4.out.below (below2 (below_al0 _ _) (below_al0 _ _)), by
      unfold World.alloc StAt
      simp [Array.getElem?_push], by
      unfold World.alloc StAt
      simp only [Array.getElem?_push, Array.size_push]
      simp, by simp, StOf.start, fun h => by have := S4.out.own.dk.lt _ h; omega, fun h => by have := S4.out.own.dk.lt _ h; omega, fun e => by have := S4.out.at_.lt; omega, fun e => by have := S4.out.at_.lt; omega⟩
  have hN1 : Hid (w.heap.size ≤ w4.heap.size) := Lib.hid S4.out.own.bl.size
  generalize ((w4.alloc (.cells (stC (List.replicate 18 [])) 34)).alloc (.cells (stC (List.replicate 18 [])) 34)) = W at *
  obtain ⟨N2, hN2⟩ : ∃ N2, w4.heap.size + 1 = N2 := ⟨_, rfl⟩
  rw [hN2] at E0 ⊢
  generalize w4.heap.size = N1 at *
  replace hN2 := Lib.hid hN2
  clear O2 hb1 S4
  go_cut [13, 14, 15, 16, 17] from 34 to 103 (fun _ _ _ _ _ wx => Hid (∃ q q' σ σ' ss nx F d, Gn w wx B N1 N2 q q' σ σ' ss nx F d))
  case first =>
    go_wp2_with fail
    go_loopw [13] (fun iv wr => ∃ i : Nat, iv = .int .i64 i ∧ i ≤ 8 ∧ i ≤ n ∧ Hid (∃ q σ ss F d, q ≤ 2 * i ∧ Lv w wr B N1 N2 L q σ ss F d ∧ d.left = 0)) (fun iv _ => 8 - (intOf iv).toNat)
    case atStart => exact ⟨0, rfl, by omega, by omega, Lib.hid ⟨0, _, _, _, _, Nat.le_refl _, E0.out, hl4.out⟩⟩
    case round =>
      clear E0 hl4
      obtain ⟨i, rfl, hi8, hin, HS⟩ := hrel
      have HGN : Hid (∃ q q' σ σ' ss nx F d, Gn w wr B N1 N2 q q' σ σ' ss nx F d) := Lib.hid (by
        obtain ⟨q, σ, ss, F, d, hq, h, _⟩ := HS.out
        exact ⟨q, q, σ, σ, ss, ss, F, d, h.gn (by omega)⟩)
      by_cases hlt : i < n
      · have hlt' : (i : Int) < (n : Int) := by omega
        by_cases h8 : i < 8
        · have h8' : (i : Int) < 8 := by omega
          obtain ⟨q, σ, ss, F, d, hqi, E, hleft⟩ := HS.out
          replace E := Lib.hid E
          replace hleft := Lib.hid hleft
          clear HS HGN
          obtain ⟨g, o, vn, vf, vr, ns, fb, rb, rfl, hn1, hn2, hf1, hr1, c0, c1, _⟩ := HG.out.one E.out.sys.own.bl rfl hlt
          obtain ⟨an, cn, hqn, _⟩ := id hn1
          obtain ⟨af, cf, hqf, _⟩ := id hf1
          subst hqn hqf
          have P1 := Lib.hid hn1
          have P2 := Lib.hid hn2
          have P3 := Lib.hid hf1
          clear hn1 hn2 hf1 hr1
          have hF9 : Hid (∀ g, (F g ∨ g = L ∨ g = N1 ∨ g = N2) → g < wr.heap.size) := Lib.hid (fun g hg => by
            rcases hg with hg | rfl | rfl | rfl
            · exact E.out.sys.own.dk.lt g hg
            · exact E.out.sys.at_.lt
            · exact E.out.s1.lt
            · exact E.out.s2.lt)
          go_wp2_with fail
          refine wp_region_held_drew (S := fun w' => w'.cell? ⟨g, o + i * 3, none⟩ = some (.slice an ns.length cn) ∧ w'.cell? ⟨g, o + i * 3 + 1, none⟩ = some (.slice af fb.length cf)) (by kernel_rfl) ?_ (fun hHeld => ?_)
          · exact ⟨c0, c1⟩
          refine wpAnyH_take (i := 0) (oi := ⟨_, _, _, _, _, _⟩) (v := ?_) rfl (by kernel_rfl) (by kernel_rfl) (by kernel_rfl) (fun _ _ _ h => h) (Or.inl ⟨by rfl, ?_⟩) (by assumption) ?_
          rotate_left
          · intro w hSw; (try dsimp only at hSw); go_split_ands; go_simp; (try with_reducible rfl)
          try simp only [Act.put, List.setIfInBounds_toArray, List.set_cons_zero, List.set_cons_succ]
          refine wpAnyH_take (i := 1) (oi := ⟨_, _, _, _, _, _⟩) (v := ?_) rfl (by kernel_rfl) (by kernel_rfl) (by kernel_rfl) (fun _ _ _ h => h) (Or.inl ⟨by rfl, ?_⟩) (by assumption) ?_
          rotate_left
          · intro w hSw; (try dsimp only at hSw); go_split_ands; go_simp; (try with_reducible rfl)
          try simp only [Act.put, List.setIfInBounds_toArray, List.set_cons_zero, List.set_cons_succ]
          refine wpAnyH_take (i := 2) (oi := ⟨_, _, _, _, _, _⟩) (v := ?_) rfl (by kernel_rfl) (by kernel_rfl) (by kernel_rfl) (fun _ _ _ h => h) (Or.inl ⟨by rfl, ?_⟩) (by assumption) ?_
          rotate_left
          · intro w hSw; (try dsimp only at hSw); go_split_ands; go_simp; (try with_reducible rfl)
          try simp only [Act.put, List.setIfInBounds_toArray, List.set_cons_zero, List.set_cons_succ]
          refine wpAnyH_take (i := 3) (oi := ⟨_, _, _, _, _, _⟩) (v := ?_) rfl (by kernel_rfl) (by kernel_rfl) (by kernel_rfl) (fun _ _ _ h => h) (Or.inl ⟨by rfl, ?_⟩) (by assumption) ?_
          rotate_left
          · intro w hSw; (try dsimp only at hSw); go_split_ands; go_simp; (try with_reducible rfl)
          try simp only [Act.put, List.setIfInBounds_toArray, List.set_cons_zero, List.set_cons_succ]
          refine wpAnyH_take (i := 4) (oi := ⟨_, _, _, _, _, _⟩) (v := ?_) rfl (by kernel_rfl) (by kernel_rfl) (by kernel_rfl) (fun _ _ _ h => h) (Or.inl ⟨by rfl, ?_⟩) (by assumption) ?_
          rotate_left
          · intro w hSw; (try dsimp only at hSw); go_split_ands; go_simp; (try with_reducible rfl)
          try simp only [Act.put, List.setIfInBounds_toArray, List.set_cons_zero, List.set_cons_succ]
          refine wpAnyH_take (i := 5) (oi := ⟨_, _, _, _, _, _⟩) (v := ?_) rfl (by kernel_rfl) (by kernel_rfl) (by kernel_rfl) (fun _ _ _ h => h) (Or.inl ⟨by rfl, ?_⟩) (by assumption) ?_
          rotate_left
          · intro w hSw; (try dsimp only at hSw); go_split_ands; go_simp; (try with_reducible rfl)
          try simp only [Act.put, List.setIfInBounds_toArray, List.set_cons_zero, List.set_cons_succ]
          refine wpAnyH_take (i := 6) (oi := ⟨_, _, _, _, _, _⟩) (v := ?_) rfl (by kernel_rfl) (by kernel_rfl) (by kernel_rfl) (fun _ _ _ h => h) (Or.inl ⟨by rfl, ?_⟩) (by assumption) ?_
          rotate_left
          · intro w hSw; (try dsimp only at hSw); go_split_ands; go_simp; (try with_reducible rfl)
          try simp only [Act.put, List.setIfInBounds_toArray, List.set_cons_zero, List.set_cons_succ]
          refine wpAnyH_take (i := 7) (oi := ⟨_, _, _, _, _, _⟩) (v := ?_) rfl (by kernel_rfl) (by kernel_rfl) (by kernel_rfl) (fun _ _ _ h => h) (Or.inl ⟨by rfl, ?_⟩) (by assumption) ?_
          rotate_left
          · intro w hSw; (try dsimp only at hSw); go_split_ands; go_simp; (try with_reducible rfl)
          try simp only [Act.put, List.setIfInBounds_toArray, List.set_cons_zero, List.set_cons_succ]
          refine wpAnyH_take (i := 8) (oi := ⟨_, _, _, _, _, _⟩) (v := ?_) rfl (by kernel_rfl) (by kernel_rfl) (by kernel_rfl) (fun _ _ _ h => h) (Or.inl ⟨by rfl, ?_⟩) (by assumption) ?_
          rotate_left
          · intro w hSw; (try dsimp only at hSw); go_split_ands; go_simp; (try with_reducible rfl)
          try simp only [Act.put, List.setIfInBounds_toArray, List.set_cons_zero, List.set_cons_succ]
          refine wpAnyH_take (i := 9) (oi := ⟨_, _, _, _, _, _⟩) (v := ?_) rfl (by kernel_rfl) (by kernel_rfl) (by kernel_rfl) (fun _ _ _ h => h) (Or.inl ⟨by rfl, ?_⟩) (by assumption) ?_
          rotate_left
          · intro w hSw; (try dsimp only at hSw); go_split_ands; go_simp; (try with_reducible rfl)
          try simp only [Act.put, List.setIfInBounds_toArray, List.set_cons_zero, List.set_cons_succ]
          refine wpAnyH_take (i := 10) (oi := ⟨_, _, _, _, _, _⟩) (v := ?_) rfl (by kernel_rfl) (by kernel_rfl) (by kernel_rfl) (fun _ _ _ h => h) (Or.inl ⟨by rfl, ?_⟩) (by assumption) ?_
          rotate_left
          · intro w hSw; (try dsimp only at hSw); go_split_ands; go_simp; (try with_reducible rfl)
          try simp only [Act.put, List.setIfInBounds_toArray, List.set_cons_zero, List.set_cons_succ]
          refine wpAnyH_ready (rs := [11]) (by kernel_rfl) (by simp) (AllReadyH.cons (o := ⟨_, _, _, _, _, _⟩) rfl (fun K hK => ?_) AllReadyH.nil)
          go_simp
          refine (c_puts (F := (fun g => F g ∨ g = L ∨ g = N1 ∨ g = N2)) wr.drew _ _ _ ns fb [] (P1.out.off (.of_below (ex := fun _ => False) (below_drew (Below.refl _ _))) (fun _ _ _ _ h => h)) P2.out (P3.out.below (below_drew (Below.refl _ _))) (bt_none _) hF9.out).mono ?_
          rintro e w2 ⟨pv, es, rfl, hrow, hok, hle, hb2⟩
          have B2 : Below wr.heap.size wr w2 := below2 (below_drew (Below.refl _ _)) hb2
          have k0 := off_cell (.of_below (ex := fun _ => False) B2) c0 (fun h => h)
          have k1 := off_cell (.of_below (ex := fun _ => False) B2) c1 (fun h => h)
          go_wp2_with fail
          refine hK.out _ _ ?_ (fun hHeld => ?_)
          · exact ⟨k0, k1⟩
          clear hK K
          try simp only [Act.put, List.setIfInBounds_toArray, List.set_cons_zero, List.set_cons_succ]
          refine wpAnyH_take (i := 12) (oi := ⟨_, _, _, _, _, _⟩) (v := ?_) rfl (by kernel_rfl) (by kernel_rfl) (by kernel_rfl) (fun _ _ _ h => h) (Or.inl ⟨by rfl, ?_⟩) (by assumption) ?_
          rotate_left
          · intro w hSw; (try dsimp only at hSw); go_split_ands; go_simp; (try with_reducible rfl)
          try simp only [Act.put, List.setIfInBounds_toArray, List.set_cons_zero, List.set_cons_succ]
          refine wpAnyH_done (by kernel_rfl) ?_ _
          have hrow' : PutRow w2 wr.heap.size (fun g => F g ∨ g = L ∨ g = N1 ∨ g = N2) pv es := hrow
          have hok' : POk wr.heap.size es := hok
          have hown : ∀ g, pv.ownBlock = some g → ¬ (F g ∨ g = L ∨ g = N1 ∨ g = N2) ∧ wr.heap.size ≤ g ∧ g < w2.heap.size := fun g hg => by
            obtain ⟨h1, cs, hc⟩ := own_blk hrow'.row hg
            exact ⟨fun hx => by have h2 := hF9.out g hx; omega, h1, (Array.getElem?_eq_some_iff.1 hc).1⟩
          have hPA := hrow'.at_ (fun g hg hx => (hown g hg).1 hx)
          have hall := Lib.hid hok'.all
          have hgood : Hid (GoodC d (es.map (·.1))) := Lib.hid (hok'.good E.out.sys.lg.alive (by rw [E.out.sys.lg.n]; decide) (by omega))
          have hle' : Hid ((es.map (·.1)).length ≤ 30) := Lib.hid (by rw [List.length_map]; exact hle)
          have ho2 : Off (fun _ => False) wr w2 := .of_below B2
          have S2 := Lib.hid (E.out.sys.below B2)
          have T1 : Hid (StAt w2 N1 ss) := Lib.hid (ho2.keeps E.out.s1 (fun h => h))
          have T2 : Hid (StAt w2 N2 ss) := Lib.hid (ho2.keeps E.out.s2 (fun h => h))
          have PR2 := Lib.hid hrow'
          have PK2 := Lib.hid hok'
          have HO2 := Lib.hid hown
          have HLE := Lib.hid hle
          have hwA := Lib.hid (And.intro E.out.sys.own.bl.size B2.size)
          obtain ⟨A, hA⟩ : ∃ A, wr.heap.size = A := ⟨_, rfl⟩
          rw [hA] at PR2 PK2 HO2 hwA
          have hAh := Lib.hid hA
          obtain ⟨pa, pc, hpv, _⟩ := id hPA
          have hpl : (es.map (·.1)).length = es.length := List.length_map _
          rw [hpl] at hpv
          subst hpv
          rw [← hpl] at hPA
          have PA := Lib.hid hPA
          rw [hpl] at PA
          clear hPA hpl hrow hrow' hok hok' hown hle hb2 B2 hF9 c0 c1 k0 k1 ho2 hHeld hA
          generalize hps : es.map (·.1) = ps at *
          replace hps := Lib.hid hps
          have hq30 : q + 1 < 250 := by omega
          have hlen := Lib.hid E.out.l1
          have hof := Lib.hid (StOf.done ps E.out.o1 hall.out)
          have hl2 : Hid ((doneL ss ps).length = 18) := Lib.hid (by rw [doneL_len]; exact hlen.out)
          have ne12 : Hid (N1 ≠ N2) := Lib.hid (by have := hN2.out; omega)
          go_upto_region 18 with (first
            | ((with_reducible refine wpList_load_ss (op := ⟨some 63, .load 34 (.tmp 12), _, _, _, _⟩) (N := N2) (ss := doneL ss ps) ?_ (.tmp 12) ?_ ?_ U6.out hl2.out ?_); exact rfl; exact rfl; exact rfl)
            | ((with_reducible refine wpList_store_ss (op := ⟨none, .store 34 (.tmp 11) (.tmp 63), _, _, _, _⟩) (N := N1) (ss := ss) (ss' := doneL ss ps) ?_ (.tmp 11) (.tmp 63) ?_ ?_ ?_ T6.out hlen.out hl2.out ?_); exact rfl; exact rfl; exact rfl; exact rfl; intro w7 h7 o7; have E7 : Hid (Ec w w7 B N1 N2 L (if ps = [] then q else q + 1) (putF ps σ) (doneL ss ps) (doneL ss ps) F6 d6 A (.slice pa es.length pc) es) := Lib.hid ⟨S6.out.off o7 (fun g hg e => f1.out (e ▸ hg)) (fun e => E.out.e1 e.symm) (fun g e => by have h1 : g = N1 := e; have := hN1.out; omega), hl6.out, h7, o7.keeps U6.out ne12.out.symm, hl2.out, hl2.out, hof.out, f1.out, f2.out, E.out.e1, E.out.e2, PR6.out.keep o7 (fun g e => .inr (.inr (.inl e))) HO6.out, PK2.out, fun g hg => ⟨fun hx => HO6.out g hg (.inl hx), fun hx => HO6.out g hg (.inr (.inl hx)), fun hx => HO6.out g hg (.inr (.inr (.inl hx))), fun hx => HO6.out g hg (.inr (.inr (.inr hx))), by have := (HO2.out g hg).2.1; have := hwA.out.1; omega⟩, by have := hwA.out.2; have := hz6.out; have := o7.size; omega⟩; clear h7 o7)
            | (go_at_call 13; refine (s_commit_any S5.out hleft.out (by decide) (by decide) hq30 (PA5.out.less (F' := F) (fun g hg => .inl hg)) hgood.out).mono ?_; rintro e w6 ⟨F6, d6, rfl, S6, hl6, hi6⟩; have T6 : Hid (StAt w6 N1 ss) := Lib.hid (hi6.off.keeps T5.out (fun hx => hx.elim E.out.n1 E.out.e1)); have U6 : Hid (StAt w6 N2 (doneL ss ps)) := Lib.hid (hi6.off.keeps U5.out (fun hx => hx.elim E.out.n2 E.out.e2)); have f1 : Hid (¬ F6 N1) := Lib.hid (fun hx => (hi6.out _ hx).elim E.out.n1 (fun h2 => by have := T5.out.lt; omega)); have f2 : Hid (¬ F6 N2) := Lib.hid (fun hx => (hi6.out _ hx).elim E.out.n2 (fun h2 => by have := U5.out.lt; omega)); have HO6 : Hid (∀ g, (Value.slice pa es.length pc).ownBlock = some g → ¬ (F6 g ∨ g = L ∨ g = N1 ∨ g = N2)) := Lib.hid (fun g hg hx => by obtain ⟨x1, x2, x3⟩ := HO2.out g hg; rcases hx with hx | hx; exact (hi6.out g hx).elim (fun h => x1 (.inl h)) (fun h => by have := hz5.out; omega); exact x1 (.inr hx)); have PR6 : Hid (PutRow w6 A (fun g => F6 g ∨ g = L ∨ g = N1 ∨ g = N2) (.slice pa es.length pc) es) := Lib.hid ((PR5.out.more (F' := fun g => F6 g ∨ g = L ∨ g = N1 ∨ g = N2) (fun g hg => hg.elim (fun h => (hi6.out g h).imp .inl id) (fun h => .inl (.inr h)))).keep hi6.off (fun g hg => hg.elim (fun h => .inl (hi6.up g h)) (fun h => .inr (.inl h))) HO6.out); have hz6 : Hid (w2.heap.size ≤ w6.heap.size) := Lib.hid (Nat.le_trans hz5.out hi6.off.size); replace S6 := Lib.hid S6; replace hl6 := Lib.hid hl6; clear hi6)
            | ((with_reducible refine wpList_load_ss (op := ⟨some 56, .load 34 (.tmp 11), _, _, _, _⟩) (N := N1) (ss := ss) ?_ (.tmp 11) ?_ ?_ T1.out hlen.out ?_); exact rfl; exact rfl; exact rfl)
            | ((with_reducible refine wpList_store_ss (op := ⟨none, .store 34 (.tmp 12) (.tmp 58), _, _, _, _⟩) (N := N2) (ss := ss) (ss' := doneL ss ps) ?_ (.tmp 12) (.tmp 58) ?_ ?_ ?_ T4.2.out hlen.out hl2.out ?_); exact rfl; exact rfl; exact rfl; exact rfl; intro w5 h5 o5; have S5 := Lib.hid (S4.out.off o5 (fun g hg e => E.out.n2 (e ▸ hg)) (fun e => E.out.e2 e.symm) (fun g e => by have h1 : g = N2 := e; have := hN1.out; have := hN2.out; omega)); have T5 : Hid (StAt w5 N1 ss) := Lib.hid (o5.keeps T4.1.out ne12.out); have U5 : Hid (StAt w5 N2 (doneL ss ps)) := Lib.hid h5; have PA5 := Lib.hid (PA4.out.off o5 (fun g e => .inl (.inr (.inr (.inr e))))); have PR5 := Lib.hid (PR4.out.keep o5 (fun g e => .inr (.inr (.inr e))) (fun g hg => (HO2.out g hg).1)); have hz5 : Hid (w2.heap.size ≤ w5.heap.size) := Lib.hid (Nat.le_trans hz4.out o5.size); clear h5 o5)
            | (go_at_call 14; refine (c_done w2 ss hlen.out _ ps PA.out hall.out (by have := hle'.out; omega)).mono ?_; rintro e w4 ⟨rfl, hb4⟩; have T4 : Hid (StAt w4 N1 ss) ∧ Hid (StAt w4 N2 ss) := ⟨Lib.hid ((Off.of_below (ex := fun _ => False) hb4).keeps T1.out (fun h => h)), Lib.hid ((Off.of_below (ex := fun _ => False) hb4).keeps T2.out (fun h => h))⟩; have S4 := Lib.hid (S2.out.below hb4); have PA4 := Lib.hid (PA.out.below hb4); have PR4 := Lib.hid (PR2.out.below hb4); have hz4 : Hid (w2.heap.size ≤ w4.heap.size) := Lib.hid hb4.size; clear hb4))
          have hq7 : Hid ((if ps = [] then q else q + 1) ≤ 2 * i + 1) := Lib.hid (by split <;> omega)
          generalize (if ps = [] then q else q + 1) = q7 at *
          generalize putF ps σ = σ7 at *
          generalize doneL ss ps = s7 at *
          clear hleft hgood PA hof hl2 S2 T1 T2 PR2 hall hlen T6 S6 hl6 T4 S4 PA4 PR4 T5 U5 U6 S5 PA5 PR5 hz4 hz5 hz6 PR6 HO6 f1 f2 P1 P2 P3 PK2 hle' hps E HO2
          have hm30 : es.length ≤ 30 := HLE.out
          go_wp2_with fail
          have R0 : Hid (∃ es2, es2.length = es.length ∧ Ec w w7 B N1 N2 L q7 σ7 s7 s7 F6 d6 A (.slice pa es.length pc) es2) := Lib.hid ⟨es, rfl, E7.out⟩
          clear E7
          generalize es.length = m at *
          obtain ⟨w7', hw7⟩ : ∃ x : World, x = w7 := ⟨_, rfl⟩
          clear hw7
          go_loopw [15] (fun kv wr => ∃ k : Nat, kv = .int .i64 k ∧ k ≤ m ∧ Hid (∃ es2, es2.length = m ∧ Ec w wr B N1 N2 L q7 σ7 s7 s7 F6 d6 A (.slice pa m pc) es2)) (fun kv _ => m - (intOf kv).toNat)
          case atStart => exact ⟨0, rfl, by omega, R0⟩
          case round =>
            clear R0
            obtain ⟨k, rfl, hk, HS⟩ := hrel
            by_cases hkm : k < m
            · have hkm' : (k : Int) < (m : Int) := by omega
              obtain ⟨es2, hel, E8⟩ := HS.out
              clear HS
              obtain ⟨ga, hga⟩ : ∃ ga, pa = some ⟨ga, 0, none⟩ := by
                rcases E8.row.row.2 with ⟨_, h0⟩ | ⟨g', cap, cur, e, _⟩
                · omega
                · cases e; exact ⟨_, rfl⟩
              subst hga
              obtain ⟨e8, he8⟩ : ∃ e, es2[k]? = some e := ⟨_, List.getElem?_eq_getElem (by omega)⟩
              obtain ⟨kz, hkz⟩ : ∃ kz : Nat, ((k : Int) + (i : Int)) % 42 = (kz : Int) := ⟨(((k : Int) + (i : Int)) % 42).toNat, by omega⟩
              have hkz3 : kz < 42 := by omega
              have hz9 : IntKind.i64.wrap ((k : Int) + (i : Int)) = (k : Int) + (i : Int) := IntWalk.i64_in _ (by omega)
              have hE9 : Hid (readE d6 (kz : Int) = 0) := Lib.hid (by
                unfold readE
                rw [if_neg (by rw [E8.sys.lg.alive]; exact Bool.false_ne_true), if_pos (by unfold Dk.there; rw [E8.sys.lg.n]; simp; omega)])
              have hA9 := Lib.hid (E8.sys.lg.ok.atLen (kz : Int))
              replace E8 := Lib.hid E8
              have he9 := Lib.hid he8
              have hel9 := Lib.hid hel
              replace hkz := Lib.hid hkz
              clear he8 hel
              go_wp2_with (first
                | (go_at_call 17; refine (c_within ((k : Int) + (i : Int)) 42 (by decide) (by decide) wr).mono ?_; rintro e w' ⟨rfl, rfl⟩; rw [hkz.out]))
              refine (c_Read wr B d6 (kz : Int) E8.out.sys.own.dk ⟨by omega, by omega⟩).mono ?_
              rintro e w9 hrd
              obtain ⟨gb, cb, rfl, hx9, hb9⟩ := hrd.ok hE9.out rfl hA9.out
              have E9 := Lib.hid (E8.out.below hb9)
              obtain ⟨cs9, hcs9⟩ := (own_blk E9.out.row.row (k := ga) rfl).2
              have cc9 : w9.cell? ⟨ga, k * 2 + 1, none⟩ = some e8.2 := (row_cell (show w9.ownsRow A 47 2 (.slice (some ⟨ga, 0, none⟩) m pc) m (flat es2) by have := E9.out.row.row; rwa [hel9.out] at this) (k * 2 + 1) (flat_get es2 k e8 he9.out).2).2
              have ff9 : w9.frozen? ⟨ga, k * 2 + 1, none⟩ = false := (by simp [World.frozen?, hcs9])
              have hgb := Lib.hid (row_blk hx9).1
              have hga9 : Hid (ga < wr.heap.size) := Lib.hid (by obtain ⟨cs8, hcs8⟩ := (own_blk E8.out.row.row (k := ga) rfl).2; exact (Array.getElem?_eq_some_iff.1 hcs8).1)
              have hbt9 := Lib.hid (row_bt hx9 hA9.out)
              have hgb2 : Hid (gb < w9.heap.size) := Lib.hid (Array.getElem?_eq_some_iff.1 (row_blk hx9).2.2.2.choose_spec).1
              clear hx9 hcs9
              go_wp2_with fail
              have hfx : Hid (∀ g, (F6 g ∨ g = L ∨ g = N1 ∨ g = N2) → g < wr.heap.size) := Lib.hid (fun g hg => by
                rcases hg with hg | rfl | rfl | rfl
                · exact E8.out.sys.own.dk.lt g hg
                · exact E8.out.sys.at_.lt
                · exact E8.out.s1.lt
                · exact E8.out.s2.lt)
              have EN := Lib.hid (E9.out.setD he9.out (b := d6.at (kz : Int)) (gb := gb) (cb := cb) ⟨hbt9.out, fun a n c e => by cases e; exact ⟨fun hx => by have h1 : gb < wr.heap.size := hfx.out _ hx; have := hgb.out; omega, hgb2.out⟩, by have := E9.out.ok.all e8.1 (List.mem_map.2 ⟨e8, List.mem_of_getElem? he9.out, rfl⟩); exact ⟨by show _ ≤ e8.1.1; omega, by show e8.1.1 ≤ _; omega⟩, by show (d6.at (kz : Int)).length ≤ _; rw [hA9.out]; decide⟩ hA9.out (by have := E8.out.hA; have := hgb.out; omega) (by have := hgb.out; have := hga9.out; omega))
              clear cc9 ff9 hz9 hb9
              go_roundw
              case rel => exact ⟨k + 1, by go_num, by omega, Lib.hid ⟨_, by rw [List.length_set]; exact hel9.out, EN.out⟩⟩
              case measure => simp [intOf]; omega
            · have hkm' : ¬ (k : Int) < (m : Int) := by omega
              obtain rfl : k = m := by omega
              obtain ⟨es2, hel, E8⟩ := HS.out
              clear HS
              have hall2 := Lib.hid E8.ok.all
              have hgood2 : GoodC d6 (es2.map (·.1)) := E8.ok.good E8.sys.lg.alive (by rw [E8.sys.lg.n]; decide) (by omega)
              have hPA := E8.row.at_ (fun g hg hx => by obtain ⟨x1, x2, x3, x4, _⟩ := E8.own g hg; rcases hx with hx | hx | hx | hx; exact x1 hx; exact x2 hx; exact x3 hx; exact x4 hx)
              have hpl2 : (es2.map (·.1)).length = k := by rw [List.length_map]; exact hel
              have hle2 := Lib.hid (show (es2.map (·.1)).length ≤ 30 by omega)
              have SS := Lib.hid E8.sys
              have TT := Lib.hid E8.s1
              have UU := Lib.hid E8.s2
              have FF := Lib.hid (And.intro E8.n1 (And.intro E8.n2 (And.intro E8.e1 E8.e2)))
              have l7 := Lib.hid E8.l1
              have o7 := Lib.hid E8.o1
              have g7 := Lib.hid hgood2
              have PB := Lib.hid hPA
              clear hgood2 hPA hpl2 E8 hel
              generalize es2.map (·.1) = p8 at *
              have hof8 := Lib.hid (StOf.done p8 o7.out hall2.out)
              have hl8 : Hid ((doneL s7 p8).length = 18) := Lib.hid (by rw [doneL_len]; exact l7.out)
              have hq8 : q7 + 1 < 250 := by have := hq7.out; omega
              by_cases hodd : i % 2 = 1
              · have hod' : (i : Int).tmod 2 = 1 := by have := Int.tmod_eq_emod_of_nonneg (a := (i : Int)) (b := 2) (by omega); omega
                obtain ⟨ks, hks⟩ : ∃ ks : Nat, st % 30 = (ks : Int) := ⟨(st % 30).toNat, by omega⟩
                have hks3 : ks < 30 := by omega
                replace hks := Lib.hid hks
                have hza : IntKind.i64.wrap (1 + (ks : Int)) = 1 + (ks : Int) := IntWalk.i64_in _ (by omega)
                go_upto_region 26 with (first
                  | (go_at_call 17; refine (c_within st 30 (by decide) (by decide) wr).mono ?_; rintro e w' ⟨rfl, rfl⟩; rw [hks.out]))
                refine (s_stop SS.out.own (1 + (ks : Int)) ⟨by omega, by omega⟩).mono ?_
                rintro e w8 ⟨F8, rfl, O8, hi8⟩
                have SX : Hid (Sys 60 q7 σ7 w w8 F8 L B (d6.stop (1 + (ks : Int)))) := Lib.hid ⟨SS.out.lg.stop _, O8, SS.out.at_.off hi8.off SS.out.nL, fun hx => (hi8.out _ hx).elim SS.out.nL (fun h => by have := SS.out.at_.lt; omega), SS.out.loL⟩
                have TX : Hid (StAt w8 N1 s7) := Lib.hid (hi8.off.keeps TT.out FF.out.1)
                have UX : Hid (StAt w8 N2 s7) := Lib.hid (hi8.off.keeps UU.out FF.out.2.1)
                have FFX : Hid (¬ F8 N1 ∧ ¬ F8 N2 ∧ N1 ≠ L ∧ N2 ≠ L) := Lib.hid ⟨fun hx => (hi8.out _ hx).elim FF.out.1 (fun h => by have := TT.out.lt; omega), fun hx => (hi8.out _ hx).elim FF.out.2.1 (fun h => by have := UU.out.lt; omega), FF.out.2.2⟩
                have PX : Hid (PutAt w8 (fun g => F8 g ∨ g = L ∨ g = N1 ∨ g = N2) (.slice pa k pc) p8) := Lib.hid ((PB.out.more (F' := fun g => F8 g ∨ g = L ∨ g = N1 ∨ g = N2) (fun g hg => hg.elim (fun h => (hi8.out g h).imp .inl id) (fun h => .inl (.inr h)))).off hi8.off (fun g hg => .inl (.inl (hi8.up g hg))))
                have gX : Hid (GoodC (d6.stop (1 + (ks : Int))) p8) := Lib.hid ⟨g7.out.len, g7.out.good⟩
                clear O8 hi8
                go_upto_region 26 with fail
                go_upto_region 27 with (first
                  | ((with_reducible refine wpList_load_ss (op := ⟨some 94, .load 34 (.tmp 11), _, _, _, _⟩) (N := N1) (ss := s7) ?_ (.tmp 11) ?_ ?_ TX.out l7.out ?_); exact rfl; exact rfl; exact rfl)
                  | ((with_reducible refine wpList_store_ss (op := ⟨none, .store 34 (.tmp 12) (.tmp 96), _, _, _, _⟩) (N := N2) (ss := s7) (ss' := doneL s7 p8) ?_ (.tmp 12) (.tmp 96) ?_ ?_ ?_ U10.out l7.out hl8.out ?_); exact rfl; exact rfl; exact rfl; exact rfl; intro w11 h11 o11; have S11 := Lib.hid (S10.out.off o11 (fun g hg e => FFX.out.2.1 (e ▸ hg)) (fun e => FFX.out.2.2.2 e.symm) (fun g e => by have h1 : g = N2 := e; have := hN1.out; have := hN2.out; omega)); have T11 : Hid (StAt w11 N1 s7) := Lib.hid (o11.keeps T10.out ne12.out); have U11 : Hid (StAt w11 N2 (doneL s7 p8)) := Lib.hid h11; have P11 := Lib.hid (P10.out.off o11 (fun g e => .inl (.inr (.inr (.inr e))))); clear h11 o11)
                  | (go_at_call 14; refine (c_done w8 s7 l7.out _ p8 PX.out hall2.out (by have := hle2.out; omega)).mono ?_; rintro e w10 ⟨rfl, hb10⟩; have T10 : Hid (StAt w10 N1 s7) := Lib.hid ((Off.of_below (ex := fun _ => False) hb10).keeps TX.out (fun h => h)); have U10 : Hid (StAt w10 N2 s7) := Lib.hid ((Off.of_below (ex := fun _ => False) hb10).keeps UX.out (fun h => h)); have S10 := Lib.hid (SX.out.below hb10); have P10 := Lib.hid (PX.out.below hb10); clear hb10))
                have hof9 := Lib.hid (show q7 ≤ 2 * i + 1 from hq7.out)
                go_upto_region 28 with (first
                  | (go_at_call 13; refine (s_commit_two S11.out (by decide) (by decide) hq8 (P11.out.less (F' := F8) (fun g hg => .inl hg)) gX.out).mono ?_; rintro e w12 ⟨F12, d12, hi12, hc12⟩; have T12 : Hid (StAt w12 N1 s7) := Lib.hid (hi12.off.keeps T11.out (fun hx => hx.elim FFX.out.1 FFX.out.2.2.1)); have U12 : Hid (StAt w12 N2 (doneL s7 p8)) := Lib.hid (hi12.off.keeps U11.out (fun hx => hx.elim FFX.out.2.1 FFX.out.2.2.2)); have f1 : Hid (¬ F12 N1) := Lib.hid (fun hx => (hi12.out _ hx).elim FFX.out.1 (fun h2 => by have := T11.out.lt; omega)); have f2 : Hid (¬ F12 N2) := Lib.hid (fun hx => (hi12.out _ hx).elim FFX.out.2.1 (fun h2 => by have := U11.out.lt; omega)); clear hi12; rcases hc12 with ⟨rfl, S12, _⟩ | ⟨rfl, O12, hd12, hA12⟩))
                · replace S12 := Lib.hid S12
                  have hqN : Hid ((if p8 = [] then q7 else q7 + 1) ≤ 2 * (i + 1)) := Lib.hid (by have := hof9.out; split <;> omega)
                  generalize (if p8 = [] then q7 else q7 + 1) = q8 at *
                  go_wp2_with (first
                    | ((with_reducible refine wpList_load_ss (op := ⟨some 101, .load 34 (.tmp 12), _, _, _, _⟩) (N := N2) (ss := doneL s7 p8) ?_ (.tmp 12) ?_ ?_ U12.out hl8.out ?_); exact rfl; exact rfl; exact rfl)
                    | ((with_reducible refine wpList_store_ss (op := ⟨none, .store 34 (.tmp 11) (.tmp 101), _, _, _, _⟩) (N := N1) (ss := s7) (ss' := doneL s7 p8) ?_ (.tmp 11) (.tmp 101) ?_ ?_ ?_ T12.out l7.out hl8.out ?_); exact rfl; exact rfl; exact rfl; exact rfl; intro w13 h13 o13; have S13 := Lib.hid (S12.out.off o13 (fun g hg e => f1.out (e ▸ hg)) (fun e => FFX.out.2.2.1 e.symm) (fun g e => by have h1 : g = N1 := e; have := hN1.out; omega)); have T13 : Hid (StAt w13 N1 (doneL s7 p8)) := Lib.hid h13; have U13 : Hid (StAt w13 N2 (doneL s7 p8)) := Lib.hid (o13.keeps U12.out ne12.out.symm); clear h13 o13)
                    | (go_at_call 19; refine (s_stop S13.out.own 0 ⟨by decide, by decide⟩).mono ?_; rintro e w14 ⟨F14, rfl, O14, hi14⟩; have E14 : Hid (Lv w w14 B N1 N2 L q8 (putF p8 σ7) (doneL s7 p8) F14 (d12.stop 0)) := Lib.hid ⟨⟨S13.out.lg.stop _, O14, S13.out.at_.off hi14.off S13.out.nL, fun hx => (hi14.out _ hx).elim S13.out.nL (fun h => by have := S13.out.at_.lt; omega), S13.out.loL⟩, hi14.off.keeps T13.out f1.out, hi14.off.keeps U13.out f2.out, hl8.out, hof8.out, fun hx => (hi14.out _ hx).elim f1.out (fun h => by have := T13.out.lt; omega), fun hx => (hi14.out _ hx).elim f2.out (fun h => by have := U13.out.lt; omega), FFX.out.2.2.1, FFX.out.2.2.2⟩; clear O14 hi14))
                  go_roundw
                  case rel => exact ⟨i + 1, by go_num, by omega, by omega, Lib.hid ⟨_, _, _, _, _, hqN.out, E14.out, rfl⟩⟩
                  case measure => simp [intOf]; omega
                · have G12 : Hid (Gn w w12 B N1 N2 q7 (q7 + 1) σ7 (putF p8 σ7) s7 (doneL s7 p8) F12 d12) := Lib.hid ⟨O12, hA12, by omega, hq8, T12.out, U12.out, l7.out, hl8.out, o7.out, hof8.out, f1.out, f2.out⟩
                  clear O12 hd12 hA12
                  go_wp2_with fail
                  go_meet
                  case rel => exact Lib.hid ⟨_, _, _, _, _, _, _, _, G12.out⟩
              · have hod' : ¬ (i : Int).tmod 2 = 1 := by have := Int.tmod_eq_emod_of_nonneg (a := (i : Int)) (b := 2) (by omega); omega
                go_upto_region 26 with fail
                go_upto_region 27 with (first
                  | ((with_reducible refine wpList_load_ss (op := ⟨some 94, .load 34 (.tmp 11), _, _, _, _⟩) (N := N1) (ss := s7) ?_ (.tmp 11) ?_ ?_ TT.out l7.out ?_); exact rfl; exact rfl; exact rfl)
                  | ((with_reducible refine wpList_store_ss (op := ⟨none, .store 34 (.tmp 12) (.tmp 96), _, _, _, _⟩) (N := N2) (ss := s7) (ss' := doneL s7 p8) ?_ (.tmp 12) (.tmp 96) ?_ ?_ ?_ U10.out l7.out hl8.out ?_); exact rfl; exact rfl; exact rfl; exact rfl; intro w11 h11 o11; have S11 := Lib.hid (S10.out.off o11 (fun g hg e => FF.out.2.1 (e ▸ hg)) (fun e => FF.out.2.2.2 e.symm) (fun g e => by have h1 : g = N2 := e; have := hN1.out; have := hN2.out; omega)); have T11 : Hid (StAt w11 N1 s7) := Lib.hid (o11.keeps T10.out ne12.out); have U11 : Hid (StAt w11 N2 (doneL s7 p8)) := Lib.hid h11; have P11 := Lib.hid (P10.out.off o11 (fun g e => .inl (.inr (.inr (.inr e))))); clear h11 o11)
                  | (go_at_call 14; refine (c_done wr s7 l7.out _ p8 PB.out hall2.out (by have := hle2.out; omega)).mono ?_; rintro e w10 ⟨rfl, hb10⟩; have T10 : Hid (StAt w10 N1 s7) := Lib.hid ((Off.of_below (ex := fun _ => False) hb10).keeps TT.out (fun h => h)); have U10 : Hid (StAt w10 N2 s7) := Lib.hid ((Off.of_below (ex := fun _ => False) hb10).keeps UU.out (fun h => h)); have S10 := Lib.hid (SS.out.below hb10); have P10 := Lib.hid (PB.out.below hb10); clear hb10))
                have hof9 := Lib.hid (show q7 ≤ 2 * i + 1 from hq7.out)
                go_upto_region 28 with (first
                  | (go_at_call 13; refine (s_commit_two S11.out (by decide) (by decide) hq8 (P11.out.less (F' := F6) (fun g hg => .inl hg)) g7.out).mono ?_; rintro e w12 ⟨F12, d12, hi12, hc12⟩; have T12 : Hid (StAt w12 N1 s7) := Lib.hid (hi12.off.keeps T11.out (fun hx => hx.elim FF.out.1 FF.out.2.2.1)); have U12 : Hid (StAt w12 N2 (doneL s7 p8)) := Lib.hid (hi12.off.keeps U11.out (fun hx => hx.elim FF.out.2.1 FF.out.2.2.2)); have f1 : Hid (¬ F12 N1) := Lib.hid (fun hx => (hi12.out _ hx).elim FF.out.1 (fun h2 => by have := T11.out.lt; omega)); have f2 : Hid (¬ F12 N2) := Lib.hid (fun hx => (hi12.out _ hx).elim FF.out.2.1 (fun h2 => by have := U11.out.lt; omega)); clear hi12; rcases hc12 with ⟨rfl, S12, _⟩ | ⟨rfl, O12, hd12, hA12⟩))
                · replace S12 := Lib.hid S12
                  have hqN : Hid ((if p8 = [] then q7 else q7 + 1) ≤ 2 * (i + 1)) := Lib.hid (by have := hof9.out; split <;> omega)
                  generalize (if p8 = [] then q7 else q7 + 1) = q8 at *
                  go_wp2_with (first
                    | ((with_reducible refine wpList_load_ss (op := ⟨some 101, .load 34 (.tmp 12), _, _, _, _⟩) (N := N2) (ss := doneL s7 p8) ?_ (.tmp 12) ?_ ?_ U12.out hl8.out ?_); exact rfl; exact rfl; exact rfl)
                    | ((with_reducible refine wpList_store_ss (op := ⟨none, .store 34 (.tmp 11) (.tmp 101), _, _, _, _⟩) (N := N1) (ss := s7) (ss' := doneL s7 p8) ?_ (.tmp 11) (.tmp 101) ?_ ?_ ?_ T12.out l7.out hl8.out ?_); exact rfl; exact rfl; exact rfl; exact rfl; intro w13 h13 o13; have S13 := Lib.hid (S12.out.off o13 (fun g hg e => f1.out (e ▸ hg)) (fun e => FF.out.2.2.1 e.symm) (fun g e => by have h1 : g = N1 := e; have := hN1.out; omega)); have T13 : Hid (StAt w13 N1 (doneL s7 p8)) := Lib.hid h13; have U13 : Hid (StAt w13 N2 (doneL s7 p8)) := Lib.hid (o13.keeps U12.out ne12.out.symm); clear h13 o13)
                    | (go_at_call 19; refine (s_stop S13.out.own 0 ⟨by decide, by decide⟩).mono ?_; rintro e w14 ⟨F14, rfl, O14, hi14⟩; have E14 : Hid (Lv w w14 B N1 N2 L q8 (putF p8 σ7) (doneL s7 p8) F14 (d12.stop 0)) := Lib.hid ⟨⟨S13.out.lg.stop _, O14, S13.out.at_.off hi14.off S13.out.nL, fun hx => (hi14.out _ hx).elim S13.out.nL (fun h => by have := S13.out.at_.lt; omega), S13.out.loL⟩, hi14.off.keeps T13.out f1.out, hi14.off.keeps U13.out f2.out, hl8.out, hof8.out, fun hx => (hi14.out _ hx).elim f1.out (fun h => by have := T13.out.lt; omega), fun hx => (hi14.out _ hx).elim f2.out (fun h => by have := U13.out.lt; omega), FF.out.2.2.1, FF.out.2.2.2⟩; clear O14 hi14))
                  go_roundw
                  case rel => exact ⟨i + 1, by go_num, by omega, by omega, Lib.hid ⟨_, _, _, _, _, hqN.out, E14.out, rfl⟩⟩
                  case measure => simp [intOf]; omega
                · have G12 : Hid (Gn w w12 B N1 N2 q7 (q7 + 1) σ7 (putF p8 σ7) s7 (doneL s7 p8) F12 d12) := Lib.hid ⟨O12, hA12, by omega, hq8, T12.out, U12.out, l7.out, hl8.out, o7.out, hof8.out, f1.out, f2.out⟩
                  clear O12 hd12 hA12
                  go_wp2_with fail
                  go_meet
                  case rel => exact Lib.hid ⟨_, _, _, _, _, _, _, _, G12.out⟩
        · have h8' : ¬ (i : Int) < 8 := by omega
          go_wp2_with fail
          go_meet
          case rel => exact HGN
      · have hlt' : ¬ (i : Int) < (n : Int) := by omega
        go_wp2_with fail
        go_meet
        case rel => exact HGN
  case rest =>
    clear E0 hl4
    obtain ⟨q, q', σ, σ', ss, nx, F, d, G⟩ := hcut.out
    have IL := Lib.hid (it_later HP2.out.1 G.own.bl G.own.lo)
    replace G := Lib.hid G
    clear hcut
    go_upto_region 32 with (first
      | (go_at_call 11; refine (s_open G5.out.own hC3.out rfl (by decide) (by decide) hq3.out).mono ?_; rintro e w8 ⟨L8, F8, d8, rfl, S8, hl8, hi8, _⟩; have G8 := Lib.hid (G5.out.inn hi8 S8.own (S8.lg.any hS3.out)); replace S8 := Lib.hid S8; clear hl8 hi8)
      | (go_at_call 21; refine (s_crash G.out.own (.slice a2 p2.length c2) p2 IL.out.1 HP2.out.2 IL.out.2 hp60.out).mono ?_; rintro e w5 ⟨F5, kk, rfl, O5, hi5⟩; obtain ⟨q3, σ3, hS3, hC3⟩ := G.out.any.crash p2; have G5 := Lib.hid (G.out.inn hi5 O5 (hC3.any hS3)); have hq3 : Hid (q3 < 250) := Lib.hid (by rcases hS3 with ⟨e, _⟩ | ⟨e, _⟩; rw [e]; exact G.out.q1; rw [e]; exact G.out.q2); replace hS3 := Lib.hid hS3; replace hC3 := Lib.hid hC3; clear O5 hi5))
    have T8 := Lib.hid G8.out.s1
    have U8 := Lib.hid G8.out.s2
    have ll := Lib.hid (And.intro G8.out.l1 G8.out.l2)
    have hor : Hid (StOf ss σ3 ∨ StOf nx σ3) := Lib.hid (by
      rcases hS3.out with ⟨_, e⟩ | ⟨_, e⟩
      · exact .inl (by rw [e]; exact G8.out.o1)
      · exact .inr (by rw [e]; exact G8.out.o2))
    go_wp2_with (first
      | ((with_reducible refine wpList_load_ss_g (op := ⟨some 120, .load 34 (.tmp 12), _, _, _, _⟩) (N := N2) (ss := nx) (.tmp 12) ?_ ?_ ?_ U9.out ll.out.2 ?_); exact rfl; exact rfl; exact rfl)
      | ((with_reducible refine wpList_load_ss_g (op := ⟨some 116, .load 34 (.tmp 11), _, _, _, _⟩) (N := N1) (ss := ss) (.tmp 11) ?_ ?_ ?_ T8.out ll.out.1 ?_); exact rfl; exact rfl; exact rfl)
      | (go_at_call 16; refine (c_holds S9.out (by decide) (by decide) nx ll.out.2).mono ?_; rintro e w10 ⟨⟨b2, rfl, hb2⟩, hb10⟩; obtain rfl := hb2.is.2 (hor.out.elim (fun h => absurd (hb1.out.is.2 h) (by decide)) id); have B10 := Lib.hid (S9.out.below hb10).own.bl; clear hb10 hb2)
      | (go_at_call 16; refine (c_holds S8.out (by decide) (by decide) ss ll.out.1).mono ?_; rintro e w9 ⟨⟨b1, rfl, hb1⟩, hb9⟩; have S9 := Lib.hid (S8.out.below hb9); have U9 : Hid (StAt w9 N2 nx) := Lib.hid ((Off.of_below (ex := fun _ => False) hb9).keeps U8.out (fun h => h)); replace hb1 := Lib.hid hb1; clear hb9; cases b1))
    · go_ret
      exact ⟨rfl, B10.out⟩
    · go_ret
      exact ⟨rfl, S9.out.own.bl⟩
end Go.Proofs.Ytpdjenkacefpjaa
