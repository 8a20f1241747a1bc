/- WalGreat: the law's walk. -/
import Derived.Test.YtpdjenkacefpjaaWxe
namespace Go.Proofs.Ytpdjenkacefpjaa
open Go.RowKit Go.ChangeShapes
set_option linter.unusedVariables false
set_option maxRecDepth 100000

/-- what stands in the sectors: all of it, or none -/
def gS (v : Bool) (k : Nat) : Sec := if v = true then gB k else zeros
set_option maxHeartbeats 8000000 in
theorem law_WalGreat (w : World) (n : Int) (hn : I64 n) (st : Int) (hst : I64 st) (v2 : Value) (p2 : List Int) (h2 : ItAt w v2 p2 ∧ ∀ y ∈ p2, I64 y) : Calls Try.prog 7 #[.int .i64 n, .int .i64 st, v2] w fun e w' => e = .returned (.bool true) ∧ Below w.heap.size w w' := by
  obtain ⟨a2, c2, hq2, _⟩ := id h2.1
  subst hq2
  have HP2 := Lib.hid h2
  clear h2 hst hn
  have hmk := A.mk128
  by_cases h60 : 100 < p2.length
  · have h60' : (100 : Int) < (p2.length : Int) := by omega
    go_enter Try.func7, Try.ntmps7
    go_wp2_with (first | (go_at_call 9; refine (c_known w).mono ?_; rintro e w1 ⟨rfl, hb1⟩; replace hb1 := Lib.hid hb1))
    go_ret
    exact ⟨rfl, hb1.out⟩
  have h60' : ¬ (100 : Int) < (p2.length : Int) := by omega
  have hp60 : Hid (p2.length < 1000000) := Lib.hid (by omega)
  obtain ⟨m0, hm0⟩ : ∃ m0 : Nat, n % 40 = (m0 : Int) := ⟨(n % 40).toNat, by omega⟩
  have hm40 : m0 < 40 := by omega
  obtain ⟨ks, hks⟩ : ∃ ks : Nat, st % 130 = (ks : Int) := ⟨(st % 130).toNat, by omega⟩
  have hks3 : ks < 130 := by omega
  have hzm : IntKind.i64.wrap (1 + (m0 : Int)) = ((m0 + 1 : Nat) : Int) := by rw [IntWalk.i64_in _ (by omega)]; omega
  have hza : IntKind.i64.wrap (1 + (ks : Int)) = 1 + (ks : Int) := IntWalk.i64_in _ (by omega)
  replace hm0 := Lib.hid hm0
  replace hks := Lib.hid hks
  go_enter Try.func7, Try.ntmps7
  go_wp2_with (first
    | (go_at_call 17; refine (c_within n 40 (by decide) (by decide) W).mono ?_; rintro e w' ⟨rfl, rfl⟩; rw [hm0.out])
    | (go_at_call 11; refine (s_open O2.out (new_cr (N := 82) (by decide) (by decide)) rfl (by decide) (by decide) (by decide)).mono ?_; rintro e W ⟨L, F, d, rfl, S0, hl0, _, _⟩; replace S0 := Lib.hid S0; replace hl0 := Lib.hid hl0)
    | (go_at_call 10; refine (s_new 82 w w1 hb1.out (by decide) (by decide)).mono ?_; rintro e w2 ⟨B, F0, rfl, O2, _, _⟩; replace O2 := Lib.hid O2)
    | (go_at_call 9; refine (c_known w).mono ?_; rintro e w1 ⟨rfl, hb1⟩; replace hb1 := Lib.hid hb1))
  have hFW : Hid (∀ g, (F g ∨ g = L) → g < W.heap.size) := Lib.hid (fun g hg => by
    rcases hg with hg | rfl
    · exact S0.out.own.dk.lt g hg
    · exact S0.out.at_.lt)
  obtain ⟨m, hm⟩ : ∃ m, m0 + 1 = m := ⟨_, rfl⟩
  have hm1 : 1 ≤ m := by omega
  have hm41 : m ≤ 40 := by omega
  rw [show (m0 : Int) + 1 = (m : Int) by omega]
  clear hzm hm hm40 O2 hb1
  have R0 : Hid (Gp W W (fun g => F g ∨ g = L) (.slice none 0 0) []) := Lib.hid ⟨PutRow.nil _ _ _, Below.refl _ _, fun j e hj => by simp at hj⟩
  go_loopw [11, 12] (fun pv kv wr => ∃ (k : Nat) (es : List PE), kv = .int .i64 k ∧ k ≤ m ∧ es.length = k ∧ Hid (Gp W wr (fun g => F g ∨ g = L) pv es)) (fun _ kv _ => m - (intOf kv).toNat)
  case atStart => exact ⟨0, [], rfl, by omega, rfl, R0⟩
  case round =>
    clear R0
    obtain ⟨k, es, rfl, hk, hel, P⟩ := hrel
    replace hel := Lib.hid hel
    by_cases hkm : k < m
    · have hkm' : (k : Int) < (m : Int) := by omega
      have hz1 : IntKind.i64.wrap (42 + (k : Int)) = 42 + (k : Int) := IntWalk.i64_in _ (by omega)
      have hz2 : IntKind.i64.wrap ((k : Int) + 1) = (k : Int) + 1 := IntWalk.i64_in _ (by omega)
      have hz3 : IntKind.u8.wrap ((k : Int) + 1) = (k : Int) + 1 := by simp [IntKind.wrap, IntKind.signed, IntKind.bits]; omega
      have hyk : (((UInt8.ofNat (k + 1)).toNat : Nat) : Int) = (k : Int) + 1 := by rw [UInt8.toNat_ofNat']; omega
      have hfl : Hid (∀ w' : World, Calls Try.prog 22 #[.int .u8 ((k : Int) + 1), .slice none 0 0] w' fun e w'' => e = .returned (.string ⟨(gB k).toArray⟩) ∧ Below w'.heap.size w' w'') := Lib.hid (fun w' => by
        have h := c_fill w' (UInt8.ofNat (k + 1)) (.slice none 0 0) [] (bt_none w')
        rwa [hyk] at h)
      clear hyk
      go_wp2_with (first
        | (at_builtin; refine wpList_append_put (o := ⟨some 54, _, _, _, _, _⟩) ?_ (.tmp 44) (.tmp 53) ?_ W.heap.size u11 es ?_ P8.out.row.row w7.heap.size (42 + (k : Int)) (some ⟨w6.heap.size, 0, none⟩) 128 c7 (gB k) ?_ n0.out n1.out (by have := hel.out; omega) P8.out.bl.size ?_; exact rfl; exact rfl; exact rfl; exact rfl; intro ga gc X hr ho; have PX : Hid (Gp W X (fun g => F g ∨ g = L) (.slice (some ⟨ga, 0, none⟩) (es.length + 1) gc) (es ++ [((42 + (k : Int), gB k), .slice (some ⟨w6.heap.size, 0, none⟩) 128 c7)])) := Lib.hid (by have hk2 := hel.out; subst hk2; exact P8.out.app ho hr BT8.out (by omega) (by have := P.out.bl.size; have := hb6.out.size; omega) (by have := hs8.out; omega) hFW.out (fun j hj => by obtain ⟨_, cs, hc⟩ := own_blk P.out.row.row hj; have := (Array.getElem?_eq_some_iff.1 hc).1; have := hb6.out.size; omega)); clear hr ho)
        | (go_at_call 22; refine (hfl.out wr).mono ?_; rintro e w6 ⟨rfl, hb6⟩; obtain ⟨c7, w7, hcv, hbt7, hb7, hs7⟩ := str_bytes w6 (gB k) (by rw [gB_len]; decide); rw [gB_len] at hcv hbt7; have P8 : Hid (Gp W (w7.alloc (.cells #[.int .i64 (42 + (k : Int)), .slice (some ⟨w6.heap.size, 0, none⟩) 128 c7] 47)) (fun g => F g ∨ g = L) u11 es) := Lib.hid ⟨P.out.row.below (below2 (below2 hb6 hb7) (below_al0 _ _)), below2 P.out.bl (below2 (below2 hb6 hb7) (below_al0 _ _)), P.out.el⟩; have hxb := heap_alloc_new w7 (.cells #[.int .i64 (42 + (k : Int)), .slice (some ⟨w6.heap.size, 0, none⟩) 128 c7] 47); have n0 := Lib.hid (cell_of_row _ _ 0 _ _ _ hxb); have n1 := Lib.hid (cell_of_row _ _ 1 _ _ _ hxb); have BT8 := Lib.hid (hbt7.below (below_al0 w7 (.cells #[.int .i64 (42 + (k : Int)), .slice (some ⟨w6.heap.size, 0, none⟩) 128 c7] 47))); have hs8 : Hid (w6.heap.size < ((w7.alloc (.cells #[.int .i64 (42 + (k : Int)), .slice (some ⟨w6.heap.size, 0, none⟩) 128 c7] 47))).heap.size) := Lib.hid (by rw [show ((w7.alloc (.cells #[.int .i64 (42 + (k : Int)), .slice (some ⟨w6.heap.size, 0, none⟩) 128 c7] 47))).heap.size = w7.heap.size + 1 by unfold World.alloc; simp]; omega); replace hb6 := Lib.hid hb6; clear hxb hbt7 hb7 hs7))
      clear hcv hz1 hz2 hz3
      go_roundw
      case rel => exact ⟨k + 1, _, by go_num, by omega, by rw [List.length_append, hel.out]; rfl, PX⟩
      case measure => simp [intOf]; omega
    · have hkm' : ¬ (k : Int) < (m : Int) := by omega
      obtain rfl : k = m := by omega
      have hown : ∀ g, u11.ownBlock = some g → ¬ (F g ∨ g = L) := fun g hg hx => by
        have h1 := (own_blk P.out.row.row hg).1
        have h2 := hFW.out g hx
        omega
      have hPA := P.out.row.at_ hown
      have SW := Lib.hid (S0.out.below P.out.bl)
      have hgd := Lib.hid (P.out.ok S0.out.lg.alive S0.out.lg.n (by have := hel.out; omega))
      have hps : Hid (∀ (i : Nat) (p : Int × Sec), (es.map (·.1))[i]? = some p → p = (42 + (i : Int), gB i)) := Lib.hid (fun i p hi => by
        rw [List.getElem?_map] at hi
        cases hje : es[i]? with
        | none => rw [hje] at hi; cases hi
        | some e => rw [hje] at hi; cases hi; exact (P.out.el i e hje).1)
      have hpl : Hid ((es.map (·.1)).length = k) := Lib.hid (by rw [List.length_map]; exact hel.out)
      clear P hown
      generalize es.map (·.1) = ps at *
      have hpe : ps ≠ [] := fun h => by have := hpl.out; rw [h] at this; simp at this; omega
      replace hpe := Lib.hid hpe
      obtain ⟨pa, pc, hpv, _⟩ := id hPA
      subst hpv
      have PA := Lib.hid hPA
      clear hPA
      have hcr := Lib.hid (it_later HP2.out.1 SW.out.own.bl SW.out.own.lo)
      go_upto_region 19 with (first
        | (go_at_call 11; refine (s_open O8.out hC3.out rfl (by decide) (by decide) hq3.out).mono ?_; rintro e w9 ⟨L9, F9, d9, rfl, S9, hl9, hi9, _⟩; replace S9 := Lib.hid S9; clear hl9 hi9)
        | (go_at_call 21; refine (s_crash O7.out (.slice a2 p2.length c2) p2 IL7.out.1 HP2.out.2 IL7.out.2 hp60.out).mono ?_; rintro e w8 ⟨F8, kk, rfl, O8, hi8⟩; obtain ⟨q3, σ3, hS3, hC3⟩ := hA7.out.crash p2; have hq3 := Lib.hid hS3.1; replace hS3 := Lib.hid hS3.2; replace hC3 := Lib.hid hC3; replace O8 := Lib.hid O8; clear hi8)
        | (go_at_call 13; refine (s_commit_two SX.out (by decide) (by decide) (by decide) PX.out gX.out).mono ?_; rintro e w7 ⟨F7, d7, hi7, hc7⟩; rw [if_neg hpe.out] at hc7; clear hi7; rcases hc7 with ⟨rfl, S7, _⟩ | ⟨rfl, O7, _, hA7⟩; rotate_left; (have IL7 := Lib.hid (it_later HP2.out.1 O7.bl O7.lo); replace O7 := Lib.hid O7; replace hA7 : Hid (Any 82 (fun a τ => a < 250 ∧ (τ = (fun _ => zeros) ∨ τ = putF ps (fun _ => zeros))) d7) := Lib.hid ⟨hA7.ok, hA7.n, fun Q hQ => by obtain ⟨q, σ, hS, h⟩ := hA7.img Q hQ; exact ⟨q, σ, ⟨by rcases hS with ⟨e, _⟩ | ⟨e, _⟩ <;> omega, hS.elim (fun h => .inl h.2) (fun h => .inr h.2)⟩, h⟩⟩); rotate_left; (have O7 := Lib.hid S7.own; have IL7 := Lib.hid (it_later HP2.out.1 S7.own.bl S7.own.lo); have hA7 : Hid (Any 82 (fun a τ => a < 250 ∧ τ = putF ps (fun _ => zeros)) d7) := Lib.hid (S7.lg.any ⟨by decide, rfl⟩); clear S7))
        | (go_at_call 19; refine (s_stop SW.out.own (1 + (ks : Int)) ⟨by omega, by omega⟩).mono ?_; rintro e w6 ⟨F6, rfl, O6, hi6⟩; have SX : Hid (Sys 82 0 (fun _ => zeros) w w6 F6 L B (d.stop (1 + (ks : Int)))) := Lib.hid ⟨SW.out.lg.stop _, O6, SW.out.at_.off hi6.off SW.out.nL, fun hx => (hi6.out _ hx).elim SW.out.nL (fun h => by have := SW.out.at_.lt; omega), SW.out.loL⟩; have PX : Hid (PutAt w6 F6 (.slice pa ps.length pc) ps) := Lib.hid ((PA.out.more (F' := F6) (fun g hg => (hi6.out g hg).imp .inl id)).off hi6.off (fun g hg => .inl (hi6.up g hg))); have gX : Hid (GoodC (d.stop (1 + (ks : Int))) ps) := Lib.hid ⟨hgd.out.len, hgd.out.good⟩; clear O6 hi6)
        | (go_at_call 17; refine (c_within st 130 (by decide) (by decide) wr).mono ?_; rintro e w' ⟨rfl, rfl⟩; rw [hks.out]))
      · have hσ3 := Lib.hid hS3.out
        have hv : Hid (∀ j : Nat, j < k → σ3 (42 + (j : Int)) = gB j) := Lib.hid (fun j hj => by
          rw [hσ3.out]
          exact putF_at2 ps 42 _ j gB hps.out (by have := hpl.out; omega))
        go_wp2_with fail
        go_loopw [16, 17, 18] (fun sv av kv wr => ∃ (j : Nat) (sb ab : Bool), kv = .int .i64 j ∧ sv = .bool sb ∧ av = .bool ab ∧ j ≤ k ∧ ((j = 0 ∧ sb = false ∧ ab = true) ∨ (0 < j ∧ sb = true ∧ ab = true)) ∧ Hid (Sys 82 q3 σ3 w wr F9 L9 B d9)) (fun _ _ kv _ => k - (intOf kv).toNat)
        case atStart => exact ⟨0, false, true, rfl, rfl, rfl, by omega, .inl ⟨rfl, rfl, rfl⟩, S9⟩
        case round =>
          clear S9
          obtain ⟨j, sb, ab, rfl, rfl, rfl, hjk, hsb, S⟩ := hrel
          by_cases hlt : j < k
          · have hlt' : (j : Int) < (k : Int) := by omega
            have hz1 : IntKind.i64.wrap (42 + (j : Int)) = 42 + (j : Int) := IntWalk.i64_in _ (by omega)
            have hz2 : IntKind.i64.wrap ((j : Int) + 1) = (j : Int) + 1 := IntWalk.i64_in _ (by omega)
            have hz3 : IntKind.u8.wrap ((j : Int) + 1) = (j : Int) + 1 := by simp [IntKind.wrap, IntKind.signed, IntKind.bits]; omega
            have hyk : (((UInt8.ofNat (j + 1)).toNat : Nat) : Int) = (j : Int) + 1 := by rw [UInt8.toNat_ofNat']; omega
            have hfl : Hid (∀ w' : World, Calls Try.prog 22 #[.int .u8 ((j : Int) + 1), .slice none 0 0] w' fun e w'' => e = .returned (.string ⟨(gB j).toArray⟩) ∧ Below w'.heap.size w' w'') := Lib.hid (fun w' => by
              have h := c_fill w' (UInt8.ofNat (j + 1)) (.slice none 0 0) [] (bt_none w')
              rwa [hyk] at h)
            have hxl : Hid ((gB j).length = 128) := Lib.hid (gB_len j)
            skip
            clear hyk
            go_upto_region 24 with (first
              | (go_at_call 18; refine (s_read S.out (42 + (j : Int)) (by omega) (by omega) (by decide)).mono ?_; rintro e w10 ⟨gx, cx, rfl, hr10, hb10⟩; rw [hv.out j hlt] at hr10; replace hr10 := Lib.hid hr10; have S10 := Lib.hid (S.out.below hb10); clear hb10))
            have hs10 := str_at (row_bt hr10.out hxl.out)
            have hsk : Hid (∀ w' : World, Below w10.heap.size w10 w' → Sem.run Try.prog (convert 36 9 (.slice (some ⟨gx, 0, none⟩) 128 cx)) w' = .ok (.string ⟨(gB j).toArray⟩) w') := Lib.hid (fun w' hb => str_at (row_bt (Off.rowAt (.of_below (ex := fun _ => False) hb) hr10.out (fun h => h)) hxl.out))
            go_wp2_with fail
            refine wp_region_held_drew (S := fun w' => Sem.run Try.prog (convert 36 9 (.slice (some ⟨gx, 0, none⟩) 128 cx)) w' = .ok (.string ⟨(gB j).toArray⟩) w') (by kernel_rfl) ?_ (fun hHeld => ?_)
            · exact hsk.out _ (below_drew (Below.refl _ _))
            refine wpAnyH_take (i := 0) (oi := ⟨_, _, _, _, _, _⟩) (v := ?_) rfl (by kernel_rfl) (by kernel_rfl) (by kernel_rfl) (fun _ _ _ h => h) (Or.inl ⟨by rfl, ?_⟩) (by assumption) ?_
            rotate_left
            · intro w hSw; (try dsimp only at hSw); go_split_ands; go_simp; (try with_reducible rfl)
            try simp only [Act.put, List.setIfInBounds_toArray, List.set_cons_zero, List.set_cons_succ]
            refine wpAnyH_take (i := 1) (oi := ⟨_, _, _, _, _, _⟩) (v := ?_) rfl (by kernel_rfl) (by kernel_rfl) (by kernel_rfl) (fun _ _ _ h => h) (Or.inl ⟨by rfl, ?_⟩) (by assumption) ?_
            rotate_left
            · intro w hSw; (try dsimp only at hSw); go_split_ands; go_simp; (try with_reducible rfl)
            try simp only [Act.put, List.setIfInBounds_toArray, List.set_cons_zero, List.set_cons_succ]
            refine wpAnyH_take (i := 2) (oi := ⟨_, _, _, _, _, _⟩) (v := ?_) rfl (by kernel_rfl) (by kernel_rfl) (by kernel_rfl) (fun _ _ _ h => h) (Or.inl ⟨by rfl, ?_⟩) (by assumption) ?_
            rotate_left
            · intro w hSw; (try dsimp only at hSw); go_split_ands; go_simp; (try with_reducible rfl)
            try simp only [Act.put, List.setIfInBounds_toArray, List.set_cons_zero, List.set_cons_succ]
            refine wpAnyH_take (i := 3) (oi := ⟨_, _, _, _, _, _⟩) (v := ?_) rfl (by kernel_rfl) (by kernel_rfl) (by kernel_rfl) (fun _ _ _ h => h) (Or.inl ⟨by rfl, ?_⟩) (by assumption) ?_
            rotate_left
            · intro w hSw; (try dsimp only at hSw); go_split_ands; go_simp; (try with_reducible rfl)
            try simp only [Act.put, List.setIfInBounds_toArray, List.set_cons_zero, List.set_cons_succ]
            refine wpAnyH_take (i := 4) (oi := ⟨_, _, _, _, _, _⟩) (v := ?_) rfl (by kernel_rfl) (by kernel_rfl) (by kernel_rfl) (fun _ _ _ h => h) (Or.inl ⟨by rfl, ?_⟩) (by assumption) ?_
            rotate_left
            · intro w hSw; (try dsimp only at hSw); go_split_ands; go_simp; (try with_reducible rfl)
            try simp only [Act.put, List.setIfInBounds_toArray, List.set_cons_zero, List.set_cons_succ]
            refine wpAnyH_ready (rs := [5]) (by kernel_rfl) (by simp) (AllReadyH.cons (o := ⟨_, _, _, _, _, _⟩) rfl (fun K hK => ?_) AllReadyH.nil)
            go_simp
            refine (hfl.out w10.drew).mono ?_
            rintro e w11 ⟨rfl, hb11⟩
            have B11 : Hid (Below w10.heap.size w10 w11) := Lib.hid (below2 (below_drew (Below.refl _ _)) hb11)
            clear hb11
            have hs11 := hsk.out w11 B11.out
            go_wp2_with fail
            refine hK.out _ _ ?_ (fun hHeld => ?_)
            · exact hs11
            clear hK K
            try simp only [Act.put, List.setIfInBounds_toArray, List.set_cons_zero, List.set_cons_succ]
            refine wpAnyH_take (i := 6) (oi := ⟨_, _, _, _, _, _⟩) (v := ?_) rfl (by kernel_rfl) (by kernel_rfl) (by kernel_rfl) (fun _ _ _ h => h) (Or.inl ⟨by rfl, ?_⟩) (by assumption) ?_
            rotate_left
            · intro w hSw; (try dsimp only at hSw); go_split_ands; go_simp; (try with_reducible rfl)
            try simp only [Act.put, List.setIfInBounds_toArray, List.set_cons_zero, List.set_cons_succ]
            refine wpAnyH_take (i := 7) (oi := ⟨_, _, _, _, _, _⟩) (v := ?_) rfl (by kernel_rfl) (by kernel_rfl) (by kernel_rfl) (fun _ _ _ h => h) (Or.inl ⟨by rfl, ?_⟩) (by assumption) ?_
            rotate_left
            · intro w hSw; (try dsimp only at hSw); go_split_ands; go_simp; (try with_reducible rfl)
            try simp only [Act.put, List.setIfInBounds_toArray, List.set_cons_zero, List.set_cons_succ]
            refine wpAnyH_done (by kernel_rfl) ?_ _
            clear hHeld hs10
            have S11 := Lib.hid (S10.out.below B11.out)
            go_wp2_with fail
            go_quiet (fail)
            have S12 := Lib.hid (S11.out.below ((Off.drewN (ex := fun _ => False) (Off.refl _ w11) nq).to_below))
            rcases hsb with ⟨hj0, rfl, rfl⟩ | ⟨hj0, rfl, rfl⟩ <;> replace hj0 := Lib.hid hj0
            · go_wp2_with fail
              clear hz1 hz2 hz3 hs11
              go_roundw
              case rel => exact ⟨j + 1, true, true, by go_num, rfl, rfl, by omega, .inr ⟨by omega, rfl, rfl⟩, S12⟩
              case measure => simp [intOf]; omega
            · go_wp2_with fail
              clear hz1 hz2 hz3 hs11
              go_roundw
              case rel => exact ⟨j + 1, true, true, by go_num, rfl, rfl, by omega, .inr ⟨by omega, rfl, rfl⟩, S12⟩
              case measure => simp [intOf]; omega
          · have hlt' : ¬ (j : Int) < (k : Int) := by omega
            obtain rfl : j = k := by omega
            obtain ⟨rfl, rfl⟩ : sb = true ∧ ab = true := hsb.elim (fun h => absurd h.1 (by omega)) (fun h => h.2)
            go_wp2_with fail
            go_ret
            exact ⟨rfl, S.out.own.bl⟩
      · rcases hS3.out with hσ3 | hσ3 <;> replace hσ3 := Lib.hid hσ3
        · skip
          have hv : Hid (∀ j : Nat, j < k → σ3 (42 + (j : Int)) = zeros) := Lib.hid (fun j hj => by
            rw [hσ3.out]
            skip)
          go_wp2_with fail
          go_loopw [16, 17, 18] (fun sv av kv wr => ∃ (j : Nat) (sb ab : Bool), kv = .int .i64 j ∧ sv = .bool sb ∧ av = .bool ab ∧ j ≤ k ∧ ((j = 0 ∧ sb = false ∧ ab = true) ∨ (0 < j ∧ sb = false ∧ ab = false)) ∧ Hid (Sys 82 q3 σ3 w wr F9 L9 B d9)) (fun _ _ kv _ => k - (intOf kv).toNat)
          case atStart => exact ⟨0, false, true, rfl, rfl, rfl, by omega, .inl ⟨rfl, rfl, rfl⟩, S9⟩
          case round =>
            clear S9
            obtain ⟨j, sb, ab, rfl, rfl, rfl, hjk, hsb, S⟩ := hrel
            by_cases hlt : j < k
            · have hlt' : (j : Int) < (k : Int) := by omega
              have hz1 : IntKind.i64.wrap (42 + (j : Int)) = 42 + (j : Int) := IntWalk.i64_in _ (by omega)
              have hz2 : IntKind.i64.wrap ((j : Int) + 1) = (j : Int) + 1 := IntWalk.i64_in _ (by omega)
              have hz3 : IntKind.u8.wrap ((j : Int) + 1) = (j : Int) + 1 := by simp [IntKind.wrap, IntKind.signed, IntKind.bits]; omega
              have hyk : (((UInt8.ofNat (j + 1)).toNat : Nat) : Int) = (j : Int) + 1 := by rw [UInt8.toNat_ofNat']; omega
              have hfl : Hid (∀ w' : World, Calls Try.prog 22 #[.int .u8 ((j : Int) + 1), .slice none 0 0] w' fun e w'' => e = .returned (.string ⟨(gB j).toArray⟩) ∧ Below w'.heap.size w' w'') := Lib.hid (fun w' => by
                have h := c_fill w' (UInt8.ofNat (j + 1)) (.slice none 0 0) [] (bt_none w')
                rwa [hyk] at h)
              have hxl : Hid ((zeros).length = 128) := Lib.hid (zeros_len)
              have hxe := gB_ne (k := j) (by omega)
              clear hyk
              go_upto_region 24 with (first
                | (go_at_call 18; refine (s_read S.out (42 + (j : Int)) (by omega) (by omega) (by decide)).mono ?_; rintro e w10 ⟨gx, cx, rfl, hr10, hb10⟩; rw [hv.out j hlt] at hr10; replace hr10 := Lib.hid hr10; have S10 := Lib.hid (S.out.below hb10); clear hb10))
              have hs10 := str_at (row_bt hr10.out hxl.out)
              have hsk : Hid (∀ w' : World, Below w10.heap.size w10 w' → Sem.run Try.prog (convert 36 9 (.slice (some ⟨gx, 0, none⟩) 128 cx)) w' = .ok (.string ⟨(zeros).toArray⟩) w') := Lib.hid (fun w' hb => str_at (row_bt (Off.rowAt (.of_below (ex := fun _ => False) hb) hr10.out (fun h => h)) hxl.out))
              go_wp2_with fail
              refine wp_region_held_drew (S := fun w' => Sem.run Try.prog (convert 36 9 (.slice (some ⟨gx, 0, none⟩) 128 cx)) w' = .ok (.string ⟨(zeros).toArray⟩) w') (by kernel_rfl) ?_ (fun hHeld => ?_)
              · exact hsk.out _ (below_drew (Below.refl _ _))
              refine wpAnyH_take (i := 0) (oi := ⟨_, _, _, _, _, _⟩) (v := ?_) rfl (by kernel_rfl) (by kernel_rfl) (by kernel_rfl) (fun _ _ _ h => h) (Or.inl ⟨by rfl, ?_⟩) (by assumption) ?_
              rotate_left
              · intro w hSw; (try dsimp only at hSw); go_split_ands; go_simp; (try with_reducible rfl)
              try simp only [Act.put, List.setIfInBounds_toArray, List.set_cons_zero, List.set_cons_succ]
              refine wpAnyH_take (i := 1) (oi := ⟨_, _, _, _, _, _⟩) (v := ?_) rfl (by kernel_rfl) (by kernel_rfl) (by kernel_rfl) (fun _ _ _ h => h) (Or.inl ⟨by rfl, ?_⟩) (by assumption) ?_
              rotate_left
              · intro w hSw; (try dsimp only at hSw); go_split_ands; go_simp; (try with_reducible rfl)
              try simp only [Act.put, List.setIfInBounds_toArray, List.set_cons_zero, List.set_cons_succ]
              refine wpAnyH_take (i := 2) (oi := ⟨_, _, _, _, _, _⟩) (v := ?_) rfl (by kernel_rfl) (by kernel_rfl) (by kernel_rfl) (fun _ _ _ h => h) (Or.inl ⟨by rfl, ?_⟩) (by assumption) ?_
              rotate_left
              · intro w hSw; (try dsimp only at hSw); go_split_ands; go_simp; (try with_reducible rfl)
              try simp only [Act.put, List.setIfInBounds_toArray, List.set_cons_zero, List.set_cons_succ]
              refine wpAnyH_take (i := 3) (oi := ⟨_, _, _, _, _, _⟩) (v := ?_) rfl (by kernel_rfl) (by kernel_rfl) (by kernel_rfl) (fun _ _ _ h => h) (Or.inl ⟨by rfl, ?_⟩) (by assumption) ?_
              rotate_left
              · intro w hSw; (try dsimp only at hSw); go_split_ands; go_simp; (try with_reducible rfl)
              try simp only [Act.put, List.setIfInBounds_toArray, List.set_cons_zero, List.set_cons_succ]
              refine wpAnyH_take (i := 4) (oi := ⟨_, _, _, _, _, _⟩) (v := ?_) rfl (by kernel_rfl) (by kernel_rfl) (by kernel_rfl) (fun _ _ _ h => h) (Or.inl ⟨by rfl, ?_⟩) (by assumption) ?_
              rotate_left
              · intro w hSw; (try dsimp only at hSw); go_split_ands; go_simp; (try with_reducible rfl)
              try simp only [Act.put, List.setIfInBounds_toArray, List.set_cons_zero, List.set_cons_succ]
              refine wpAnyH_ready (rs := [5]) (by kernel_rfl) (by simp) (AllReadyH.cons (o := ⟨_, _, _, _, _, _⟩) rfl (fun K hK => ?_) AllReadyH.nil)
              go_simp
              refine (hfl.out w10.drew).mono ?_
              rintro e w11 ⟨rfl, hb11⟩
              have B11 : Hid (Below w10.heap.size w10 w11) := Lib.hid (below2 (below_drew (Below.refl _ _)) hb11)
              clear hb11
              have hs11 := hsk.out w11 B11.out
              go_wp2_with fail
              refine hK.out _ _ ?_ (fun hHeld => ?_)
              · exact hs11
              clear hK K
              try simp only [Act.put, List.setIfInBounds_toArray, List.set_cons_zero, List.set_cons_succ]
              refine wpAnyH_take (i := 6) (oi := ⟨_, _, _, _, _, _⟩) (v := ?_) rfl (by kernel_rfl) (by kernel_rfl) (by kernel_rfl) (fun _ _ _ h => h) (Or.inl ⟨by rfl, ?_⟩) (by assumption) ?_
              rotate_left
              · intro w hSw; (try dsimp only at hSw); go_split_ands; go_simp; (try with_reducible rfl)
              try simp only [Act.put, List.setIfInBounds_toArray, List.set_cons_zero, List.set_cons_succ]
              refine wpAnyH_take (i := 7) (oi := ⟨_, _, _, _, _, _⟩) (v := ?_) rfl (by kernel_rfl) (by kernel_rfl) (by kernel_rfl) (fun _ _ _ h => h) (Or.inl ⟨by rfl, ?_⟩) (by assumption) ?_
              rotate_left
              · intro w hSw; (try dsimp only at hSw); go_split_ands; go_simp; (try with_reducible rfl)
              try simp only [Act.put, List.setIfInBounds_toArray, List.set_cons_zero, List.set_cons_succ]
              refine wpAnyH_done (by kernel_rfl) ?_ _
              clear hHeld hs10
              have S11 := Lib.hid (S10.out.below B11.out)
              go_wp2_with fail
              refine wp_region_held_drew (S := fun w' => Sem.run Try.prog (convert 36 9 (.slice (some ⟨gx, 0, none⟩) 128 cx)) w' = .ok (.string ⟨(zeros).toArray⟩) w') (by kernel_rfl) ?_ (fun hHeld => ?_)
              · exact hsk.out _ (below2 B11.out (below_drew (Below.refl _ _)))
              refine wpAnyH_take (i := 0) (oi := ⟨_, _, _, _, _, _⟩) (v := ?_) rfl (by kernel_rfl) (by kernel_rfl) (by kernel_rfl) (fun _ _ _ h => h) (Or.inl ⟨by rfl, ?_⟩) (by assumption) ?_
              rotate_left
              · intro w hSw; (try dsimp only at hSw); go_split_ands; go_simp; (try with_reducible rfl)
              try simp only [Act.put, List.setIfInBounds_toArray, List.set_cons_zero, List.set_cons_succ]
              refine wpAnyH_take (i := 1) (oi := ⟨_, _, _, _, _, _⟩) (v := ?_) rfl (by kernel_rfl) (by kernel_rfl) (by kernel_rfl) (fun _ _ _ h => h) (Or.inl ⟨by rfl, ?_⟩) (by assumption) ?_
              rotate_left
              · intro w hSw; (try dsimp only at hSw); go_split_ands; go_simp; (try with_reducible rfl)
              try simp only [Act.put, List.setIfInBounds_toArray, List.set_cons_zero, List.set_cons_succ]
              refine wpAnyH_take (i := 2) (oi := ⟨_, _, _, _, _, _⟩) (v := ?_) rfl (by kernel_rfl) (by kernel_rfl) (by kernel_rfl) (fun _ _ _ h => h) (Or.inl ⟨by rfl, ?_⟩) (by assumption) ?_
              rotate_left
              · intro w hSw; (try dsimp only at hSw); go_split_ands; go_simp; (try with_reducible rfl)
              try simp only [Act.put, List.setIfInBounds_toArray, List.set_cons_zero, List.set_cons_succ]
              refine wpAnyH_take (i := 3) (oi := ⟨_, _, _, _, _, _⟩) (v := ?_) rfl (by kernel_rfl) (by kernel_rfl) (by kernel_rfl) (fun _ _ _ h => h) (Or.inl ⟨by rfl, ?_⟩) (by assumption) ?_
              rotate_left
              · intro w hSw; (try dsimp only at hSw); go_split_ands; go_simp; (try with_reducible rfl)
              try simp only [Act.put, List.setIfInBounds_toArray, List.set_cons_zero, List.set_cons_succ]
              refine wpAnyH_take (i := 4) (oi := ⟨_, _, _, _, _, _⟩) (v := ?_) rfl (by kernel_rfl) (by kernel_rfl) (by kernel_rfl) (fun _ _ _ h => h) (Or.inl ⟨by rfl, ?_⟩) (by assumption) ?_
              rotate_left
              · intro w hSw; (try dsimp only at hSw); go_split_ands; go_simp; (try with_reducible rfl)
              try simp only [Act.put, List.setIfInBounds_toArray, List.set_cons_zero, List.set_cons_succ]
              refine wpAnyH_ready (rs := [5]) (by kernel_rfl) (by simp) (AllReadyH.cons (o := ⟨_, _, _, _, _, _⟩) rfl (fun K hK => ?_) AllReadyH.nil)
              go_simp
              have hz12 : Sem.run Try.prog (convert 36 9 (.slice (some ⟨w11.heap.size, 0, none⟩) 128 128)) ((w11.alloc (.cells (bys zeros).toArray 5)).drew) = .ok (.string ⟨zeros.toArray⟩) ((w11.alloc (.cells (bys zeros).toArray 5)).drew) := str_at (row_bt (w := (w11.alloc (.cells (bys zeros).toArray 5)).drew) (A := w11.heap.size) (FillR.done (a := zeros) (by have := FillR.start (w := w11) zeros; unfold FillR at this ⊢; rw [torn_self] at this ⊢; exact this) zeros_len zeros_len) zeros_len)
              have B12 : Hid (Below w11.heap.size w11 ((w11.alloc (.cells (bys zeros).toArray 5)).drew)) := Lib.hid (below_drew (below_al0 _ _))
              have hs12 := hsk.out _ (below2 B11.out B12.out)
              refine hK.out _ _ ?_ (fun hHeld => ?_)
              · exact hs12
              clear hK K
              try simp only [Act.put, List.setIfInBounds_toArray, List.set_cons_zero, List.set_cons_succ]
              refine wpAnyH_ready (rs := [6]) (by kernel_rfl) (by simp) (AllReadyH.cons (o := ⟨_, _, _, _, _, _⟩) rfl (fun K hK => ?_) AllReadyH.nil)
              go_simp
              refine hK.out _ _ ?_ (fun hHeld => ?_)
              · exact hs12
              clear hK K
              try simp only [Act.put, List.setIfInBounds_toArray, List.set_cons_zero, List.set_cons_succ]
              refine wpAnyH_take (i := 7) (oi := ⟨_, _, _, _, _, _⟩) (v := ?_) rfl (by kernel_rfl) (by kernel_rfl) (by kernel_rfl) (fun _ _ _ h => h) (Or.inl ⟨by rfl, ?_⟩) (by assumption) ?_
              rotate_left
              · intro w hSw; (try dsimp only at hSw); go_split_ands; go_simp; (try with_reducible rfl)
              try simp only [Act.put, List.setIfInBounds_toArray, List.set_cons_zero, List.set_cons_succ]
              refine wpAnyH_take (i := 8) (oi := ⟨_, _, _, _, _, _⟩) (v := ?_) rfl (by kernel_rfl) (by kernel_rfl) (by kernel_rfl) (fun _ _ _ h => h) (Or.inl ⟨by rfl, ?_⟩) (by assumption) ?_
              rotate_left
              · intro w hSw; (try dsimp only at hSw); go_split_ands; go_simp; (try with_reducible rfl)
              try simp only [Act.put, List.setIfInBounds_toArray, List.set_cons_zero, List.set_cons_succ]
              refine wpAnyH_done (by kernel_rfl) ?_ _
              clear hHeld
              have S12 := Lib.hid (S11.out.below B12.out)
              rcases hsb with ⟨hj0, rfl, rfl⟩ | ⟨hj0, rfl, rfl⟩ <;> replace hj0 := Lib.hid hj0
              · go_wp2_with fail
                clear hz1 hz2 hz3 hs11 hz12 hs12 hxe
                go_roundw
                case rel => exact ⟨j + 1, false, false, by go_num, rfl, rfl, by omega, .inr ⟨by omega, rfl, rfl⟩, S12⟩
                case measure => simp [intOf]; omega
              · go_wp2_with fail
                clear hz1 hz2 hz3 hs11 hz12 hs12 hxe
                go_roundw
                case rel => exact ⟨j + 1, false, false, by go_num, rfl, rfl, by omega, .inr ⟨by omega, rfl, rfl⟩, S12⟩
                case measure => simp [intOf]; omega
            · have hlt' : ¬ (j : Int) < (k : Int) := by omega
              obtain rfl : j = k := by omega
              obtain ⟨rfl, rfl⟩ : sb = false ∧ ab = false := hsb.elim (fun h => absurd h.1 (by omega)) (fun h => h.2)
              go_wp2_with fail
              go_ret
              exact ⟨rfl, S.out.own.bl⟩
        · skip
          have hv : Hid (∀ j : Nat, j < k → σ3 (42 + (j : Int)) = gB j) := Lib.hid (fun j hj => by
            rw [hσ3.out]
            exact putF_at2 ps 42 _ j gB hps.out (by have := hpl.out; omega))
          go_wp2_with fail
          go_loopw [16, 17, 18] (fun sv av kv wr => ∃ (j : Nat) (sb ab : Bool), kv = .int .i64 j ∧ sv = .bool sb ∧ av = .bool ab ∧ j ≤ k ∧ ((j = 0 ∧ sb = false ∧ ab = true) ∨ (0 < j ∧ sb = true ∧ ab = true)) ∧ Hid (Sys 82 q3 σ3 w wr F9 L9 B d9)) (fun _ _ kv _ => k - (intOf kv).toNat)
          case atStart => exact ⟨0, false, true, rfl, rfl, rfl, by omega, .inl ⟨rfl, rfl, rfl⟩, S9⟩
          case round =>
            clear S9
            obtain ⟨j, sb, ab, rfl, rfl, rfl, hjk, hsb, S⟩ := hrel
            by_cases hlt : j < k
            · have hlt' : (j : Int) < (k : Int) := by omega
              have hz1 : IntKind.i64.wrap (42 + (j : Int)) = 42 + (j : Int) := IntWalk.i64_in _ (by omega)
              have hz2 : IntKind.i64.wrap ((j : Int) + 1) = (j : Int) + 1 := IntWalk.i64_in _ (by omega)
              have hz3 : IntKind.u8.wrap ((j : Int) + 1) = (j : Int) + 1 := by simp [IntKind.wrap, IntKind.signed, IntKind.bits]; omega
              have hyk : (((UInt8.ofNat (j + 1)).toNat : Nat) : Int) = (j : Int) + 1 := by rw [UInt8.toNat_ofNat']; omega
              have hfl : Hid (∀ w' : World, Calls Try.prog 22 #[.int .u8 ((j : Int) + 1), .slice none 0 0] w' fun e w'' => e = .returned (.string ⟨(gB j).toArray⟩) ∧ Below w'.heap.size w' w'') := Lib.hid (fun w' => by
                have h := c_fill w' (UInt8.ofNat (j + 1)) (.slice none 0 0) [] (bt_none w')
                rwa [hyk] at h)
              have hxl : Hid ((gB j).length = 128) := Lib.hid (gB_len j)
              skip
              clear hyk
              go_upto_region 24 with (first
                | (go_at_call 18; refine (s_read S.out (42 + (j : Int)) (by omega) (by omega) (by decide)).mono ?_; rintro e w10 ⟨gx, cx, rfl, hr10, hb10⟩; rw [hv.out j hlt] at hr10; replace hr10 := Lib.hid hr10; have S10 := Lib.hid (S.out.below hb10); clear hb10))
              have hs10 := str_at (row_bt hr10.out hxl.out)
              have hsk : Hid (∀ w' : World, Below w10.heap.size w10 w' → Sem.run Try.prog (convert 36 9 (.slice (some ⟨gx, 0, none⟩) 128 cx)) w' = .ok (.string ⟨(gB j).toArray⟩) w') := Lib.hid (fun w' hb => str_at (row_bt (Off.rowAt (.of_below (ex := fun _ => False) hb) hr10.out (fun h => h)) hxl.out))
              go_wp2_with fail
              refine wp_region_held_drew (S := fun w' => Sem.run Try.prog (convert 36 9 (.slice (some ⟨gx, 0, none⟩) 128 cx)) w' = .ok (.string ⟨(gB j).toArray⟩) w') (by kernel_rfl) ?_ (fun hHeld => ?_)
              · exact hsk.out _ (below_drew (Below.refl _ _))
              refine wpAnyH_take (i := 0) (oi := ⟨_, _, _, _, _, _⟩) (v := ?_) rfl (by kernel_rfl) (by kernel_rfl) (by kernel_rfl) (fun _ _ _ h => h) (Or.inl ⟨by rfl, ?_⟩) (by assumption) ?_
              rotate_left
              · intro w hSw; (try dsimp only at hSw); go_split_ands; go_simp; (try with_reducible rfl)
              try simp only [Act.put, List.setIfInBounds_toArray, List.set_cons_zero, List.set_cons_succ]
              refine wpAnyH_take (i := 1) (oi := ⟨_, _, _, _, _, _⟩) (v := ?_) rfl (by kernel_rfl) (by kernel_rfl) (by kernel_rfl) (fun _ _ _ h => h) (Or.inl ⟨by rfl, ?_⟩) (by assumption) ?_
              rotate_left
              · intro w hSw; (try dsimp only at hSw); go_split_ands; go_simp; (try with_reducible rfl)
              try simp only [Act.put, List.setIfInBounds_toArray, List.set_cons_zero, List.set_cons_succ]
              refine wpAnyH_take (i := 2) (oi := ⟨_, _, _, _, _, _⟩) (v := ?_) rfl (by kernel_rfl) (by kernel_rfl) (by kernel_rfl) (fun _ _ _ h => h) (Or.inl ⟨by rfl, ?_⟩) (by assumption) ?_
              rotate_left
              · intro w hSw; (try dsimp only at hSw); go_split_ands; go_simp; (try with_reducible rfl)
              try simp only [Act.put, List.setIfInBounds_toArray, List.set_cons_zero, List.set_cons_succ]
              refine wpAnyH_take (i := 3) (oi := ⟨_, _, _, _, _, _⟩) (v := ?_) rfl (by kernel_rfl) (by kernel_rfl) (by kernel_rfl) (fun _ _ _ h => h) (Or.inl ⟨by rfl, ?_⟩) (by assumption) ?_
              rotate_left
              · intro w hSw; (try dsimp only at hSw); go_split_ands; go_simp; (try with_reducible rfl)
              try simp only [Act.put, List.setIfInBounds_toArray, List.set_cons_zero, List.set_cons_succ]
              refine wpAnyH_take (i := 4) (oi := ⟨_, _, _, _, _, _⟩) (v := ?_) rfl (by kernel_rfl) (by kernel_rfl) (by kernel_rfl) (fun _ _ _ h => h) (Or.inl ⟨by rfl, ?_⟩) (by assumption) ?_
              rotate_left
              · intro w hSw; (try dsimp only at hSw); go_split_ands; go_simp; (try with_reducible rfl)
              try simp only [Act.put, List.setIfInBounds_toArray, List.set_cons_zero, List.set_cons_succ]
              refine wpAnyH_ready (rs := [5]) (by kernel_rfl) (by simp) (AllReadyH.cons (o := ⟨_, _, _, _, _, _⟩) rfl (fun K hK => ?_) AllReadyH.nil)
              go_simp
              refine (hfl.out w10.drew).mono ?_
              rintro e w11 ⟨rfl, hb11⟩
              have B11 : Hid (Below w10.heap.size w10 w11) := Lib.hid (below2 (below_drew (Below.refl _ _)) hb11)
              clear hb11
              have hs11 := hsk.out w11 B11.out
              go_wp2_with fail
              refine hK.out _ _ ?_ (fun hHeld => ?_)
              · exact hs11
              clear hK K
              try simp only [Act.put, List.setIfInBounds_toArray, List.set_cons_zero, List.set_cons_succ]
              refine wpAnyH_take (i := 6) (oi := ⟨_, _, _, _, _, _⟩) (v := ?_) rfl (by kernel_rfl) (by kernel_rfl) (by kernel_rfl) (fun _ _ _ h => h) (Or.inl ⟨by rfl, ?_⟩) (by assumption) ?_
              rotate_left
              · intro w hSw; (try dsimp only at hSw); go_split_ands; go_simp; (try with_reducible rfl)
              try simp only [Act.put, List.setIfInBounds_toArray, List.set_cons_zero, List.set_cons_succ]
              refine wpAnyH_take (i := 7) (oi := ⟨_, _, _, _, _, _⟩) (v := ?_) rfl (by kernel_rfl) (by kernel_rfl) (by kernel_rfl) (fun _ _ _ h => h) (Or.inl ⟨by rfl, ?_⟩) (by assumption) ?_
              rotate_left
              · intro w hSw; (try dsimp only at hSw); go_split_ands; go_simp; (try with_reducible rfl)
              try simp only [Act.put, List.setIfInBounds_toArray, List.set_cons_zero, List.set_cons_succ]
              refine wpAnyH_done (by kernel_rfl) ?_ _
              clear hHeld hs10
              have S11 := Lib.hid (S10.out.below B11.out)
              go_wp2_with fail
              go_quiet (fail)
              have S12 := Lib.hid (S11.out.below ((Off.drewN (ex := fun _ => False) (Off.refl _ w11) nq).to_below))
              rcases hsb with ⟨hj0, rfl, rfl⟩ | ⟨hj0, rfl, rfl⟩ <;> replace hj0 := Lib.hid hj0
              · go_wp2_with fail
                clear hz1 hz2 hz3 hs11
                go_roundw
                case rel => exact ⟨j + 1, true, true, by go_num, rfl, rfl, by omega, .inr ⟨by omega, rfl, rfl⟩, S12⟩
                case measure => simp [intOf]; omega
              · go_wp2_with fail
                clear hz1 hz2 hz3 hs11
                go_roundw
                case rel => exact ⟨j + 1, true, true, by go_num, rfl, rfl, by omega, .inr ⟨by omega, rfl, rfl⟩, S12⟩
                case measure => simp [intOf]; omega
            · have hlt' : ¬ (j : Int) < (k : Int) := by omega
              obtain rfl : j = k := by omega
              obtain ⟨rfl, rfl⟩ : sb = true ∧ ab = true := hsb.elim (fun h => absurd h.1 (by omega)) (fun h => h.2)
              go_wp2_with fail
              go_ret
              exact ⟨rfl, S.out.own.bl⟩
end Go.Proofs.Ytpdjenkacefpjaa
