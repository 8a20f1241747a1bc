/- The document's disk: Write. -/
import Derived.Test.YtnlemjjigiphcaaDrf
namespace Go.Proofs.Ytnlemjjigiphcaa
open Go.RowKit Go.ChangeShapes
set_option linter.unusedVariables false
set_option maxRecDepth 100000

theorem RefIn.ins2 {G : Nat → Prop} {w w4 : World} {X : Nat} {d : Dk} {s : List Sx} {v : Value} {es es2 : List Se} {z k g c : Nat} {n : Int} (h : RefIn G w X d s v es) (hk : k ≤ es.length) (hb : Below w.heap.size w w4) (hz : ZAt w w4 z) (hes : es.take k ++ [newS n z] ++ es.drop k = es2)
    (hr : w4.ownsRow w.heap.size 66 4 (.slice (some ⟨g, 0, none⟩) es2.length c) es2.length (cells4 es2)) : ∃ G', MidW G' (w4.setCell ⟨X, 1, none⟩ (.slice (some ⟨g, 0, none⟩) es2.length c)) X d g c es2 k (newS n z) ∧ (∀ x, G' x → G x ∨ w.heap.size ≤ x) ∧ (∀ x, G x → G' x) ∧ Off G w (w4.setCell ⟨X, 1, none⟩ (.slice (some ⟨g, 0, none⟩) es2.length c)) := by
  subst hes
  obtain ⟨g', c', G', hv, h1, h2, h3, h4⟩ := h.ins hk hb hz hr
  have e : g = g' ∧ c = c' := by injection hv with a _ c; injection a with a; injection a with a; exact ⟨a, c⟩
  obtain ⟨rfl, rfl⟩ := e
  exact ⟨G', h1, h2, h3, h4⟩
theorem MidW.k_lt {G : Nat → Prop} {w : World} {X : Nat} {d : Dk} {g c k : Nat} {es : List Se} {e : Se} (h : MidW G w X d g c es k e) : (k : Int) < (es.length : Int) := by
  have := (List.getElem?_eq_some_iff.1 h.gk).1
  omega
theorem MidW.cell2 {G : Nat → Prop} {w : World} {X : Nat} {d : Dk} {g c k : Nat} {es : List Se} {e : Se} (h : MidW G w X d g c es k e) : w.cell? ⟨g, k * 4 + 2, none⟩ = some e.vl := (row_cell h.row _ (cells4_get es k e h.gk).2.2.1).2
theorem MidW.step {G : Nat → Prop} {w : World} {X : Nat} {d : Dk} {g c k : Nat} {es : List Se} {e : Se} (h : MidW G w X d g c es k e) (v : Value) : (w.setCell ⟨g, k * 4 + 2, none⟩ v).cell? ⟨X, 1, none⟩ = some (.slice (some ⟨g, 0, none⟩) es.length c) ∧ (∀ j, (w.setCell ⟨g, k * 4 + 2, none⟩ v).frozen? ⟨g, j, none⟩ = false) ∧ ∃ q, (w.setCell ⟨g, k * 4 + 2, none⟩ v).cell? ⟨g, k * 4 + 3, none⟩ = some (.bool q) := by
  have hr := row_store h.row (k * 4 + 2) v
  obtain ⟨_, _, _, cs, hc⟩ := row_blk hr
  refine ⟨off_cell (off1 w g _ v) h.cell h.ne, fun j => by simp [World.frozen?, hc], e.x.dirty, (row_cell hr _ ?_).2⟩
  rw [List.getElem?_set_ne (by omega)]
  exact (cells4_get es k e h.gk).2.2.2
set_option maxHeartbeats 4000000 in
theorem c_rWrite {G : Nat → Prop} (w : World) (X : Nat) (d : Dk) (n : Int) (vb : Value) (b : Sec) (h : RefAt G w X d) (hn : I64 n) (hv : BtAt w vb b) (hvG : ∀ a n c, vb = .slice (some a) n c → b ≠ [] → ¬ G a.block) : Calls Try.prog 18 #[.pointer (some ⟨X, 0, none⟩), .int .i64 n, vb] w fun e w' => e = .returned (.int .i64 (writeR d n b).2) ∧ RTurn G X (writeR d n b).1 w w' := by
  obtain ⟨s, v, es, h⟩ := h
  have c4 : w.cell? ⟨X, 4, none⟩ = some (.bool d.dead) := h.cell 4
  have c0 : w.cell? ⟨X, 0, none⟩ = some (.int .i64 d.n) := h.cell 0
  obtain ⟨ao, cap, rfl, hm, hp, hp0⟩ := h.form
  have c1 : w.cell? ⟨X, 1, none⟩ = some (.slice ao es.length cap) := h.cell 1
  have HP := Lib.hid hp
  have HP0 := Lib.hid hp0
  have SM := Lib.hid h.small
  clear hm hp hp0
  have HB := Lib.hid hv
  replace hvG := Lib.hid hvG
  obtain ⟨adb, cb, rfl, hbc, hcm, _, _⟩ := hv
  have hbm : b.length ≤ 9223372036854775807 := by unfold maxLen at hcm; omega
  clear hbc hcm
  have hF := h.find n
  have H := Lib.hid h
  clear h
  have same : RTurn G X d w w := ⟨G, ⟨s, _, es, H.out⟩, fun g hg => .inl hg, fun g hg => hg, Off.refl _ _⟩
  replace same := Lib.hid same
  have hd' := Lib.hid (rfl : d.dead = d.dead)
  cases hd : d.dead with
  | true =>
    have hE : Hid (writeR d n b = (d, 12)) := Lib.hid (by unfold writeR; rw [hd]; rfl)
    rw [hd] at c4
    clear hF hd
    go_enter Try.func18, Try.ntmps18
    go_wp2_with fail
    go_ret
    rw [hE.out]
    exact ⟨rfl, same.out⟩
  | false =>
    rw [hd] at c4
    clear hd'
    replace hd := Lib.hid hd
    by_cases hT : (d.there n && decide (b.length = 128)) = true
    · have hb0 : ¬ n < 0 := by simp [Dk.there] at hT; omega
      have hb1 : ¬ n ≥ d.n := by simp [Dk.there] at hT; omega
      have hl : b.length = 128 := by simp at hT; exact hT.2
      have hl' : ((b.length : Int) == 128) = true := by rw [hl]; rfl
      replace hl := Lib.hid hl
      obtain ⟨ga, oa, ca, hva, _⟩ := HB.out.some (by rw [hl.out]; decide)
      have hva2 : adb = some ⟨ga, oa, none⟩ ∧ cb = ca := by injection hva with a _ c; exact ⟨a, c⟩
      obtain ⟨rfl, rfl⟩ := hva2
      clear hva
      obtain ⟨d1, ok, hsp⟩ : ∃ d1 ok, d.spend = (d1, ok) := ⟨_, _, rfl⟩
      have HN : Hid (0 ≤ n ∧ n < d.n) := Lib.hid (by omega)
      cases ok with
      | false =>
        have hE : Hid (writeR d n b = (d1, 12)) := Lib.hid (by unfold writeR; rw [hd.out, hT, hsp]; rfl)
        replace hsp := Lib.hid hsp
        clear hF hT
        go_enter Try.func18, Try.ntmps18
        go_wp2_with (first
          | (go_at_call 30; refine (c_goes w X d s _ es H.out hd.out).mono ?_; rintro e w1 ⟨rfl, hR1, ho1⟩; rw [hsp.out] at hR1 ⊢; replace hR1 := Lib.hid hR1; replace ho1 := Lib.hid ho1)
          | (go_at_call 31; refine (c_at w1 X d1 s _ es hR1.out n).mono ?_; rintro e w2 ⟨rfl, rfl⟩; rw [HK.out]; have d1c : w1.cell? ⟨X, 1, none⟩ = some (.slice ao es.length cap) := hR1.out.cell 1; (try have d1r := hR1.out.rowc he.out); (try have d1n := d1r.1); (try clear d1r)))
        go_ret
        rw [hE.out]
        exact ⟨rfl, G, ⟨s, _, es, hR1.out⟩, fun g hg => .inl hg, fun g hg => hg, ho1.out.mono (fun k _ e => e ▸ H.out.gX)⟩
      | true =>
        have hE : Hid (writeR d n b = ({ d1 with bu := insm n b d1.bu }, 0)) := Lib.hid (by unfold writeR; rw [hd.out, hT, hsp]; rfl)
        have hd1 : d1 = { d with left := d1.left, dead := d1.dead, ops := d1.ops } := by have := congrArg Prod.fst hsp; unfold Dk.spend at this; split at this <;> (subst this; rfl)
        replace hd1 := Lib.hid hd1
        replace hsp := Lib.hid hsp
        clear hT
        have hmk := A.mk128
        rcases hF with ⟨hf, he | ⟨e, he, hne⟩⟩ | ⟨e, hf, he, hee⟩
        · obtain ⟨k, hk⟩ : ∃ k, atX s n = k := ⟨_, rfl⟩
          rw [hk] at he
          have HK := Lib.hid hk
          replace hf := Lib.hid hf
          subst he
          clear hk
          obtain ⟨hao, hes⟩ | ⟨g, hao⟩ : (ao = none ∧ cap = 0 ∧ es = []) ∨ ∃ g, ao = some ⟨g, 0, none⟩ := by
            rcases Nat.eq_zero_or_pos es.length with h0 | h0
            · rcases HP0.out h0 with ⟨h1, h2⟩ | h1
              · exact .inl ⟨h1, h2, List.eq_nil_of_length_eq_zero h0⟩
              · exact .inr h1
            · exact .inr (HP.out h0)
          · obtain ⟨rfl, rfl⟩ := hes
            subst hao
            go_enter Try.func18, Try.ntmps18
            go_upto_region 13 with (first
          | (go_at_call 30; refine (c_goes w X d s _ ([] : List Se) H.out hd.out).mono ?_; rintro e w1 ⟨rfl, hR1, ho1⟩; rw [hsp.out] at hR1 ⊢; replace hR1 := Lib.hid hR1; replace ho1 := Lib.hid ho1)
          | (go_at_call 31; refine (c_at w1 X d1 s _ ([] : List Se) hR1.out n).mono ?_; rintro e w2 ⟨rfl, rfl⟩; rw [HK.out]; have d1c : w1.cell? ⟨X, 1, none⟩ = some (.slice none ([] : List Se).length 0) := hR1.out.cell 1; (try have d1r := hR1.out.rowc he.out); (try have d1n := d1r.1); (try clear d1r)) | (at_builtin; refine wpList_append_secs (o := ⟨some 60, _, _, _, _, _⟩) ?_ (.tmp 53) (.tmp 59) ?_ w1.heap.size (.slice none 0 0) [] (([] : List Se).take 0) ?_ (World.ownsRow_nil _ _ _ _) (.slice none 0 0) ?_ ?_ (hR1.out.one.take _) ?_ (Nat.le_refl _) ?_; exact rfl; exact rfl; exact rfl; exact rfl; (exact SrcAt.nil _); (first | (have := SM.out; simp; omega) | simp); intro v2 w2 hr2 ho2; have I2 := Lib.hid (InsW.start hr2 ho2); have I2L := Lib.hid (I2.out.below (lay2_below w2 n)); have Z2 := Lib.hid (ZAt.new I2.out n); clear hr2 ho2) | (at_builtin; refine wpList_append_secs (o := ⟨some 66, _, _, _, _, _⟩) ?_ (.tmp 61) (.tmp 65) ?_ w1.heap.size v2 (([] : List Se).take 0) [newS n w2.heap.size] ?_ I2L.out.r (.slice (some ⟨w2.heap.size + 1, 0, none⟩) 1 1) ?_ ?_ (one_new _ _) ?_ I2L.out.b.size ?_; exact rfl; exact rfl; exact rfl; exact rfl; (exact src_new w2 n); (first | (have := SM.out; simp; omega) | simp); intro v3 w3 hr3 ho3; have I3 := Lib.hid (I2L.out.grow hr3 ho3); have Z3 := Lib.hid (ZAt.grow Z2.out I2L.out ho3); have d3c : w3.cell? ⟨X, 1, none⟩ = some (.slice none ([] : List Se).length 0) := off_cell (.of_below (ex := fun _ => False) I3.out.b) d1c (fun h => h); clear hr3 ho3 I2L Z2 I2) | (at_builtin; refine wpList_append_secs (o := ⟨some 75, _, _, _, _, _⟩) ?_ (.tmp 68) (.tmp 74) ?_ w1.heap.size v3 (([] : List Se).take 0 ++ [newS n w2.heap.size]) (([] : List Se).drop 0) ?_ I3.out.r (.slice none 0 0) ?_ ?_ (hR1.out.one.drop _) ?_ I3.out.b.size ?_; exact rfl; exact rfl; exact rfl; exact rfl; (exact SrcAt.nil _); (first | (have := SM.out; simp; omega) | simp); intro v4 w4 hr4 ho4; have I4 := Lib.hid (I3.out.grow hr4 ho4); have Z4 := Lib.hid (ZAt.grow Z3.out I3.out ho4); obtain ⟨es2, hes2⟩ : ∃ es2, ([] : List Se).take 0 ++ [newS n w2.heap.size] ++ ([] : List Se).drop 0 = es2 := ⟨_, rfl⟩; rw [hes2] at I4; obtain ⟨gg, cc, hv4⟩ := row_some I4.out.r (by rw [← hes2]; first | (simp; done) | (simp; omega)); subst hv4; replace hes2 := Lib.hid hes2; have R4 := Lib.hid (hR1.out.off (.of_below (ex := fun _ => False) I4.out.b) (fun _ _ h => h)); have d4c : w4.cell? ⟨X, 1, none⟩ = some (.slice none ([] : List Se).length 0) := R4.out.cell 1; have d4f := fun j => R4.out.free j; clear hr4 ho4 I3 Z3 d3c))
            obtain ⟨GG, M, m1, m2, m3⟩ := hR1.out.ins2 (Nat.zero_le _) I4.out.b Z4.out hes2.out I4.out.r
            have SIM : Hid (∀ vl, (es2.set 0 ⟨⟨(newS n w2.heap.size).x.n, (newS n w2.heap.size).x.on, b, true⟩, (newS n w2.heap.size).vo, vl⟩).map (·.x) = writeX s n b) := Lib.hid (fun vl => by have hq := hR1.out.wr_none (b := b) (vl := vl) (z := w2.heap.size) hf.out; rw [HK.out] at hq; rw [← hes2.out]; exact hq)
            have hm := M.k_lt
            replace hm : 0 < es2.length := by have := hm; omega
            clear I4 Z4 hes2 R4 d4c d4f d1c
            have o1 : Off G w w1 := ho1.out.mono (fun k _ e => e ▸ H.out.gX)
            have n1 : ∀ x, _ → G x ∨ w.heap.size ≤ x := fun x hx => (m1 x hx).imp id (fun h => Nat.le_trans o1.size h)
            replace m3 := o1.trans m3
            have FIN : Hid (∀ D w6 gb cb', Below (w4.setCell ⟨X, 1, none⟩ (.slice (some ⟨gg, 0, none⟩) es2.length cc)).heap.size (w4.setCell ⟨X, 1, none⟩ (.slice (some ⟨gg, 0, none⟩) es2.length cc)) D → Below D.heap.size D w6 → w6.ownsRow D.heap.size 5 1 (.slice (some ⟨gb, 0, none⟩) 128 cb') 128 (bys b) → RTurn G X { d1 with bu := insm n b d1.bu } w ((w6.setCell ⟨gg, 2, none⟩ (.slice (some ⟨gb, 0, none⟩) 128 cb')).setCell ⟨gg, 3, none⟩ (.bool true))) := Lib.hid (fun D w6 gb cb' h0 h1 h2 => ((M.below h0).fin h1 h2 hl.out _ _ (SIM.out _) (hR1.out.sim.write HN.out.1 (by rw [hd1.out]; exact HN.out.2) hl.out) (hR1.out.ok.put HN.out.1 (by rw [hd1.out]; exact HN.out.2) hl.out hR1.out.ok.left) hR1.out.ops hR1.out.left).comp n1 m2 (m3.trans (.of_below h0)))
            replace M := Lib.hid M
            replace m3 := Lib.hid m3
            clear n1 m1 m2 o1 SIM hR1 ho1
            generalize (w4.setCell ⟨X, 1, none⟩ (.slice (some ⟨gg, 0, none⟩) es2.length cc)) = W at M m3 FIN ⊢
            have MD := Lib.hid (M.out.below (below_drew (Below.refl _ _)))
            have BD := Lib.hid (HB.out.off m3.out.drew (fun a n c e => hvG.out a n c e (fun e0 => by have := hl.out; rw [e0] at this; cases this)))
            have LD := Lib.hid (below_drew (Below.refl W.heap.size W))
            refine wp_region_held_drew (S := fun w' => Off (· = gg) W.drew w') (by kernel_rfl) (Off.refl _ _) (fun hHeld => ?_)
            generalize W.drew = D at MD BD LD hHeld ⊢
            have kX : ∀ w', Off (· = gg) D w' → w'.cell? ⟨X, 1, none⟩ = some (.slice (some ⟨gg, 0, none⟩) es2.length cc) := fun w' h => off_cell h MD.out.cell MD.out.ne
            obtain ⟨i0, hin0, hz0, hz1, hz2⟩ := info_parts A.infoB
            try simp only [Act.put, List.setIfInBounds_toArray, List.set_cons_zero, List.set_cons_succ]
            refine wpAnyH_take (i := 0) (oi := ⟨_, _, _, _, _, _⟩) (v := ?_) rfl (by kernel_rfl) (by kernel_rfl) (by kernel_rfl) (fun _ _ _ h => h) (Or.inl ⟨by rfl, ?_⟩) (by assumption) ?_
            rotate_left
            · intro w hSw; (try dsimp only at hSw); go_split_ands; go_simp; (try with_reducible rfl)
            try simp only [Act.put, List.setIfInBounds_toArray, List.set_cons_zero, List.set_cons_succ]
            refine wpAnyH_take (i := 1) (oi := ⟨_, _, _, _, _, _⟩) (v := ?_) rfl (by kernel_rfl) (by kernel_rfl) (by kernel_rfl) (fun _ _ _ h => h) (Or.inl ⟨by rfl, ?_⟩) (by assumption) ?_
            rotate_left
            · intro w hSw; (try dsimp only at hSw); go_split_ands; go_simp; (try with_reducible rfl)
            try simp only [Act.put, List.setIfInBounds_toArray, List.set_cons_zero, List.set_cons_succ]
            refine wpAnyH_take (i := 2) (oi := ⟨_, _, _, _, _, _⟩) (v := ?_) rfl (by kernel_rfl) (by kernel_rfl) (by kernel_rfl) (fun _ _ _ h => h) (Or.inl ⟨by rfl, ?_⟩) (by assumption) ?_
            rotate_left
            · intro w hSw; (try dsimp only at hSw); go_split_ands; go_simp; (try with_reducible rfl)
            try simp only [Act.put, List.setIfInBounds_toArray, List.set_cons_zero, List.set_cons_succ]
            refine wpAnyH_take (i := 3) (oi := ⟨_, _, _, _, _, _⟩) (v := ?_) rfl (by kernel_rfl) (by kernel_rfl) (by kernel_rfl) (fun _ _ _ h => h) (Or.inl ⟨by rfl, ?_⟩) (by assumption) ?_
            rotate_left
            · intro w hSw; (try dsimp only at hSw); go_split_ands; go_simp; (try with_reducible rfl)
            try simp only [Act.put, List.setIfInBounds_toArray, List.set_cons_zero, List.set_cons_succ]
            refine wpAnyH_take (i := 4) (oi := ⟨_, _, _, _, _, _⟩) (v := ?_) rfl (by kernel_rfl) (by kernel_rfl) (by kernel_rfl) (fun _ _ _ h => h) (Or.inl ⟨by rfl, ?_⟩) (by assumption) ?_
            rotate_left
            · intro w hSw; (try dsimp only at hSw); go_split_ands; go_simp; (try with_reducible rfl)
            try simp only [Act.put, List.setIfInBounds_toArray, List.set_cons_zero, List.set_cons_succ]
            refine wpAnyH_take (i := 6) (oi := ⟨_, _, _, _, _, _⟩) (v := ?_) rfl (by kernel_rfl) (by kernel_rfl) (by kernel_rfl) (fun _ _ _ h => h) (Or.inl ⟨by rfl, ?_⟩) (by assumption) ?_
            rotate_left
            · intro w hSw; (try dsimp only at hSw); go_split_ands; go_simp; (try with_reducible rfl)
            try simp only [Act.put, List.setIfInBounds_toArray, List.set_cons_zero, List.set_cons_succ]
            refine wpAnyH_ready (rs := [5]) (by kernel_rfl) (by simp) (AllReadyH.cons (o := ⟨_, _, _, _, _, _⟩) rfl (fun K hK => ?_) AllReadyH.nil)
            go_simp
            refine hK.out _ _ ?_ (fun hHeld => ?_)
            · exact (Off.refl _ _).alloc _
            clear hK K
            try simp only [Act.put, List.setIfInBounds_toArray, List.set_cons_zero, List.set_cons_succ]
            refine wpAnyH_ready (rs := [7]) (by kernel_rfl) (by simp) (AllReadyH.cons (o := ⟨_, _, _, _, _, _⟩) rfl (fun K hK => ?_) AllReadyH.nil)
            have CE : ∀ j u, (bys b)[j]? = some u → (D.alloc (.cells #[] 5)).cell? ((⟨ga, oa, none⟩ : Addr).add j) = some u := by
              obtain ⟨g1, o1, c1, e1, h1⟩ := (BD.out.below (below_al0 D (.cells #[] 5))).some (by rw [hl.out]; decide)
              injection e1 with e1 _ _
              cases e1
              exact h1
            (try rw [if_pos (by rfl)])
            refine wp_append_own _ (.tmp 83) (.tmp 84) 22 rfl D.heap.size 5 i0 (.int .u8 0) 1 1 A.underB hin0 hz0 hz1 hz2 rfl (by decide) (.slice (some ⟨D.heap.size, 0, none⟩) 0 0) 0 [] rfl (row_empty D) ⟨ga, oa, none⟩ b.length cb (bys b) rfl (by rw [bys_len, Nat.mul_one]) CE (bys_one b) (by rw [hl.out]; decide) (by rw [hl.out]; decide) (by simp) ?_
            intro vn w6 hown hgrow _
            rw [hl.out] at hown
            obtain ⟨gb, cb2, hvn⟩ := row_some hown (by decide)
            subst hvn
            have B6 : Hid (Below D.heap.size D w6) := Lib.hid ((Off.of_below (ex := fun _ => False) (below_al0 D (.cells #[] 5))).grown hgrow (fun k hk => .inr (by cases hk; exact Nat.le_refl _))).to_below
            have M6 := Lib.hid (MD.out.below B6.out)
            have F6 := Lib.hid (FIN.out D w6 gb cb2 LD.out B6.out hown)
            refine hK.out _ _ ?_ (fun hHeld => ?_)
            · exact .of_below B6.out
            clear hK K hown hgrow CE BD LD FIN
            try simp only [Act.put, List.setIfInBounds_toArray, List.set_cons_zero, List.set_cons_succ]
            refine wpAnyH_take (i := 8) (oi := ⟨_, _, _, _, _, _⟩) (v := ?_) rfl (by kernel_rfl) (by kernel_rfl) (by kernel_rfl) (fun _ _ _ h => h) (Or.inl ⟨by rfl, ?_⟩) (by assumption) ?_
            rotate_left
            · intro w hSw; (try dsimp only at hSw); go_split_ands; go_simp; (try with_reducible rfl)
            try simp only [Act.put, List.setIfInBounds_toArray, List.set_cons_zero, List.set_cons_succ]
            refine wpAnyH_take (i := 9) (oi := ⟨_, _, _, _, _, _⟩) (v := ?_) rfl (by kernel_rfl) (by kernel_rfl) (by kernel_rfl) (fun _ _ _ h => h) (Or.inl ⟨by rfl, ?_⟩) (by assumption) ?_
            rotate_left
            · intro w hSw; (try dsimp only at hSw); go_split_ands; go_simp; (try with_reducible rfl)
            try simp only [Act.put, List.setIfInBounds_toArray, List.set_cons_zero, List.set_cons_succ]
            have c6 : w6.cell? ⟨gg, 2, none⟩ = _ := M6.out.cell2
            have f6 := M6.out.free
            obtain ⟨zX, zf, q, zc⟩ := M6.out.step (.slice (some ⟨gb, 0, none⟩) 128 cb2)
            simp only [Nat.zero_mul, Nat.zero_add] at zX zf zc
            have OZ : Hid (Off (· = gg) D (w6.setCell ⟨gg, 2, none⟩ (.slice (some ⟨gb, 0, none⟩) 128 cb2))) := Lib.hid ((Off.of_below (ex := (· = gg)) B6.out).setCell (p := ⟨gg, 2, none⟩) (.inl rfl) _)
            refine wpAnyH_ready (rs := [10]) (by kernel_rfl) (by simp) (AllReadyH.cons (o := ⟨_, _, _, _, _, _⟩) rfl (fun K hK => ?_) AllReadyH.nil)
            go_simp
            refine hK.out _ _ ?_ (fun hHeld => ?_)
            · exact OZ.out
            clear hK K
            try simp only [Act.put, List.setIfInBounds_toArray, List.set_cons_zero, List.set_cons_succ]
            clear OZ kX MD M6 B6 c6 f6 M
            generalize w6.setCell ⟨gg, 2, none⟩ (.slice (some ⟨gb, 0, none⟩) 128 cb2) = Z at zX zf zc F6 ⊢
            refine wpAnyH_done (by kernel_rfl) ?_ _
            go_wp2_with fail
            go_ret
            rw [hE.out]
            exact ⟨rfl, F6.out⟩

          · subst hao
            have hcap : es.length ≤ cap := (row_blk H.out.row).2.1
            by_cases hcl : cap = es.length
            · subst hcl
              go_enter Try.func18, Try.ntmps18
              go_upto_region 13 with (first
          | (go_at_call 30; refine (c_goes w X d s _ es H.out hd.out).mono ?_; rintro e w1 ⟨rfl, hR1, ho1⟩; rw [hsp.out] at hR1 ⊢; replace hR1 := Lib.hid hR1; replace ho1 := Lib.hid ho1)
          | (go_at_call 31; refine (c_at w1 X d1 s _ es hR1.out n).mono ?_; rintro e w2 ⟨rfl, rfl⟩; rw [HK.out]; have d1c : w1.cell? ⟨X, 1, none⟩ = some (.slice (some ⟨g, 0, none⟩) es.length es.length) := hR1.out.cell 1; (try have d1r := hR1.out.rowc he.out); (try have d1n := d1r.1); (try clear d1r)) | (at_builtin; refine wpList_append_secs (o := ⟨some 60, _, _, _, _, _⟩) ?_ (.tmp 53) (.tmp 59) ?_ w1.heap.size (.slice none 0 0) [] (es.take es.length) ?_ (World.ownsRow_nil _ _ _ _) (.slice (some ⟨g, 0, none⟩) es.length es.length) ?_ ?_ (hR1.out.one.take _) ?_ (Nat.le_refl _) ?_; exact rfl; exact rfl; exact rfl; exact rfl; (exact src_take hR1.out.row es.length (Nat.le_refl _)); (first | (have := SM.out; simp; omega) | simp); intro v2 w2 hr2 ho2; have I2 := Lib.hid (InsW.start hr2 ho2); have I2L := Lib.hid (I2.out.below (lay2_below w2 n)); have Z2 := Lib.hid (ZAt.new I2.out n); clear hr2 ho2) | (at_builtin; refine wpList_append_secs (o := ⟨some 66, _, _, _, _, _⟩) ?_ (.tmp 61) (.tmp 65) ?_ w1.heap.size v2 (es.take es.length) [newS n w2.heap.size] ?_ I2L.out.r (.slice (some ⟨w2.heap.size + 1, 0, none⟩) 1 1) ?_ ?_ (one_new _ _) ?_ I2L.out.b.size ?_; exact rfl; exact rfl; exact rfl; exact rfl; (exact src_new w2 n); (first | (have := SM.out; simp; omega) | simp); intro v3 w3 hr3 ho3; have I3 := Lib.hid (I2L.out.grow hr3 ho3); have Z3 := Lib.hid (ZAt.grow Z2.out I2L.out ho3); have d3c : w3.cell? ⟨X, 1, none⟩ = some (.slice (some ⟨g, 0, none⟩) es.length es.length) := off_cell (.of_below (ex := fun _ => False) I3.out.b) d1c (fun h => h); clear hr3 ho3 I2L Z2 I2) | (at_builtin; refine wpList_append_secs (o := ⟨some 75, _, _, _, _, _⟩) ?_ (.tmp 68) (.tmp 74) ?_ w1.heap.size v3 (es.take es.length ++ [newS n w2.heap.size]) (es.drop es.length) ?_ I3.out.r (.slice (some ⟨g, 0, none⟩) 0 0) ?_ ?_ (hR1.out.one.drop _) ?_ I3.out.b.size ?_; exact rfl; exact rfl; exact rfl; exact rfl; (have := src_drop hR1.out.row es.length (Nat.le_refl _); rw [Nat.sub_self, if_pos rfl] at this; exact (this.off (.of_below (ex := fun _ => False) I3.out.b) (fun _ _ h => h))); (first | (have := SM.out; simp; omega) | simp); intro v4 w4 hr4 ho4; have I4 := Lib.hid (I3.out.grow hr4 ho4); have Z4 := Lib.hid (ZAt.grow Z3.out I3.out ho4); obtain ⟨es2, hes2⟩ : ∃ es2, es.take es.length ++ [newS n w2.heap.size] ++ es.drop es.length = es2 := ⟨_, rfl⟩; rw [hes2] at I4; obtain ⟨gg, cc, hv4⟩ := row_some I4.out.r (by rw [← hes2]; first | (simp; done) | (simp; omega)); subst hv4; replace hes2 := Lib.hid hes2; have R4 := Lib.hid (hR1.out.off (.of_below (ex := fun _ => False) I4.out.b) (fun _ _ h => h)); have d4c : w4.cell? ⟨X, 1, none⟩ = some (.slice (some ⟨g, 0, none⟩) es.length es.length) := R4.out.cell 1; have d4f := fun j => R4.out.free j; clear hr4 ho4 I3 Z3 d3c))
              obtain ⟨GG, M, m1, m2, m3⟩ := hR1.out.ins2 (Nat.le_refl _) I4.out.b Z4.out hes2.out I4.out.r
              have SIM : Hid (∀ vl, (es2.set es.length ⟨⟨(newS n w2.heap.size).x.n, (newS n w2.heap.size).x.on, b, true⟩, (newS n w2.heap.size).vo, vl⟩).map (·.x) = writeX s n b) := Lib.hid (fun vl => by have hq := hR1.out.wr_none (b := b) (vl := vl) (z := w2.heap.size) hf.out; rw [HK.out] at hq; rw [← hes2.out]; exact hq)
              have hm := M.k_lt
              clear I4 Z4 hes2 R4 d4c d4f d1c
              have o1 : Off G w w1 := ho1.out.mono (fun k _ e => e ▸ H.out.gX)
              have n1 : ∀ x, _ → G x ∨ w.heap.size ≤ x := fun x hx => (m1 x hx).imp id (fun h => Nat.le_trans o1.size h)
              replace m3 := o1.trans m3
              have FIN : Hid (∀ D w6 gb cb', Below (w4.setCell ⟨X, 1, none⟩ (.slice (some ⟨gg, 0, none⟩) es2.length cc)).heap.size (w4.setCell ⟨X, 1, none⟩ (.slice (some ⟨gg, 0, none⟩) es2.length cc)) D → Below D.heap.size D w6 → w6.ownsRow D.heap.size 5 1 (.slice (some ⟨gb, 0, none⟩) 128 cb') 128 (bys b) → RTurn G X { d1 with bu := insm n b d1.bu } w ((w6.setCell ⟨gg, es.length * 4 + 2, none⟩ (.slice (some ⟨gb, 0, none⟩) 128 cb')).setCell ⟨gg, es.length * 4 + 3, none⟩ (.bool true))) := Lib.hid (fun D w6 gb cb' h0 h1 h2 => ((M.below h0).fin h1 h2 hl.out _ _ (SIM.out _) (hR1.out.sim.write HN.out.1 (by rw [hd1.out]; exact HN.out.2) hl.out) (hR1.out.ok.put HN.out.1 (by rw [hd1.out]; exact HN.out.2) hl.out hR1.out.ok.left) hR1.out.ops hR1.out.left).comp n1 m2 (m3.trans (.of_below h0)))
              replace M := Lib.hid M
              replace m3 := Lib.hid m3
              clear n1 m1 m2 o1 SIM hR1 ho1
              generalize (w4.setCell ⟨X, 1, none⟩ (.slice (some ⟨gg, 0, none⟩) es2.length cc)) = W at M m3 FIN ⊢
              have MD := Lib.hid (M.out.below (below_drew (Below.refl _ _)))
              have BD := Lib.hid (HB.out.off m3.out.drew (fun a n c e => hvG.out a n c e (fun e0 => by have := hl.out; rw [e0] at this; cases this)))
              have LD := Lib.hid (below_drew (Below.refl W.heap.size W))
              refine wp_region_held_drew (S := fun w' => Off (· = gg) W.drew w') (by kernel_rfl) (Off.refl _ _) (fun hHeld => ?_)
              generalize W.drew = D at MD BD LD hHeld ⊢
              have kX : ∀ w', Off (· = gg) D w' → w'.cell? ⟨X, 1, none⟩ = some (.slice (some ⟨gg, 0, none⟩) es2.length cc) := fun w' h => off_cell h MD.out.cell MD.out.ne
              obtain ⟨i0, hin0, hz0, hz1, hz2⟩ := info_parts A.infoB
              try simp only [Act.put, List.setIfInBounds_toArray, List.set_cons_zero, List.set_cons_succ]
              refine wpAnyH_take (i := 0) (oi := ⟨_, _, _, _, _, _⟩) (v := ?_) rfl (by kernel_rfl) (by kernel_rfl) (by kernel_rfl) (fun _ _ _ h => h) (Or.inl ⟨by rfl, ?_⟩) (by assumption) ?_
              rotate_left
              · intro w hSw; (try dsimp only at hSw); go_split_ands; go_simp; (try with_reducible rfl)
              try simp only [Act.put, List.setIfInBounds_toArray, List.set_cons_zero, List.set_cons_succ]
              refine wpAnyH_take (i := 1) (oi := ⟨_, _, _, _, _, _⟩) (v := ?_) rfl (by kernel_rfl) (by kernel_rfl) (by kernel_rfl) (fun _ _ _ h => h) (Or.inl ⟨by rfl, ?_⟩) (by assumption) ?_
              rotate_left
              · intro w hSw; (try dsimp only at hSw); go_split_ands; go_simp; (try with_reducible rfl)
              try simp only [Act.put, List.setIfInBounds_toArray, List.set_cons_zero, List.set_cons_succ]
              refine wpAnyH_take (i := 2) (oi := ⟨_, _, _, _, _, _⟩) (v := ?_) rfl (by kernel_rfl) (by kernel_rfl) (by kernel_rfl) (fun _ _ _ h => h) (Or.inl ⟨by rfl, ?_⟩) (by assumption) ?_
              rotate_left
              · intro w hSw; (try dsimp only at hSw); go_split_ands; go_simp; (try with_reducible rfl)
              try simp only [Act.put, List.setIfInBounds_toArray, List.set_cons_zero, List.set_cons_succ]
              refine wpAnyH_take (i := 3) (oi := ⟨_, _, _, _, _, _⟩) (v := ?_) rfl (by kernel_rfl) (by kernel_rfl) (by kernel_rfl) (fun _ _ _ h => h) (Or.inl ⟨by rfl, ?_⟩) (by assumption) ?_
              rotate_left
              · intro w hSw; (try dsimp only at hSw); go_split_ands; go_simp; (try with_reducible rfl)
              try simp only [Act.put, List.setIfInBounds_toArray, List.set_cons_zero, List.set_cons_succ]
              refine wpAnyH_take (i := 4) (oi := ⟨_, _, _, _, _, _⟩) (v := ?_) rfl (by kernel_rfl) (by kernel_rfl) (by kernel_rfl) (fun _ _ _ h => h) (Or.inl ⟨by rfl, ?_⟩) (by assumption) ?_
              rotate_left
              · intro w hSw; (try dsimp only at hSw); go_split_ands; go_simp; (try with_reducible rfl)
              try simp only [Act.put, List.setIfInBounds_toArray, List.set_cons_zero, List.set_cons_succ]
              refine wpAnyH_take (i := 6) (oi := ⟨_, _, _, _, _, _⟩) (v := ?_) rfl (by kernel_rfl) (by kernel_rfl) (by kernel_rfl) (fun _ _ _ h => h) (Or.inl ⟨by rfl, ?_⟩) (by assumption) ?_
              rotate_left
              · intro w hSw; (try dsimp only at hSw); go_split_ands; go_simp; (try with_reducible rfl)
              try simp only [Act.put, List.setIfInBounds_toArray, List.set_cons_zero, List.set_cons_succ]
              refine wpAnyH_ready (rs := [5]) (by kernel_rfl) (by simp) (AllReadyH.cons (o := ⟨_, _, _, _, _, _⟩) rfl (fun K hK => ?_) AllReadyH.nil)
              go_simp
              refine hK.out _ _ ?_ (fun hHeld => ?_)
              · exact (Off.refl _ _).alloc _
              clear hK K
              try simp only [Act.put, List.setIfInBounds_toArray, List.set_cons_zero, List.set_cons_succ]
              refine wpAnyH_ready (rs := [7]) (by kernel_rfl) (by simp) (AllReadyH.cons (o := ⟨_, _, _, _, _, _⟩) rfl (fun K hK => ?_) AllReadyH.nil)
              have CE : ∀ j u, (bys b)[j]? = some u → (D.alloc (.cells #[] 5)).cell? ((⟨ga, oa, none⟩ : Addr).add j) = some u := by
                obtain ⟨g1, o1, c1, e1, h1⟩ := (BD.out.below (below_al0 D (.cells #[] 5))).some (by rw [hl.out]; decide)
                injection e1 with e1 _ _
                cases e1
                exact h1
              (try rw [if_pos (by rfl)])
              refine wp_append_own _ (.tmp 83) (.tmp 84) 22 rfl D.heap.size 5 i0 (.int .u8 0) 1 1 A.underB hin0 hz0 hz1 hz2 rfl (by decide) (.slice (some ⟨D.heap.size, 0, none⟩) 0 0) 0 [] rfl (row_empty D) ⟨ga, oa, none⟩ b.length cb (bys b) rfl (by rw [bys_len, Nat.mul_one]) CE (bys_one b) (by rw [hl.out]; decide) (by rw [hl.out]; decide) (by simp) ?_
              intro vn w6 hown hgrow _
              rw [hl.out] at hown
              obtain ⟨gb, cb2, hvn⟩ := row_some hown (by decide)
              subst hvn
              have B6 : Hid (Below D.heap.size D w6) := Lib.hid ((Off.of_below (ex := fun _ => False) (below_al0 D (.cells #[] 5))).grown hgrow (fun k hk => .inr (by cases hk; exact Nat.le_refl _))).to_below
              have M6 := Lib.hid (MD.out.below B6.out)
              have F6 := Lib.hid (FIN.out D w6 gb cb2 LD.out B6.out hown)
              refine hK.out _ _ ?_ (fun hHeld => ?_)
              · exact .of_below B6.out
              clear hK K hown hgrow CE BD LD FIN
              try simp only [Act.put, List.setIfInBounds_toArray, List.set_cons_zero, List.set_cons_succ]
              refine wpAnyH_take (i := 8) (oi := ⟨_, _, _, _, _, _⟩) (v := ?_) rfl (by kernel_rfl) (by kernel_rfl) (by kernel_rfl) (fun _ _ _ h => h) (Or.inl ⟨by rfl, ?_⟩) (by assumption) ?_
              rotate_left
              · intro w hSw; (try dsimp only at hSw); go_split_ands; go_simp; (try with_reducible rfl)
              try simp only [Act.put, List.setIfInBounds_toArray, List.set_cons_zero, List.set_cons_succ]
              refine wpAnyH_take (i := 9) (oi := ⟨_, _, _, _, _, _⟩) (v := ?_) rfl (by kernel_rfl) (by kernel_rfl) (by kernel_rfl) (fun _ _ _ h => h) (Or.inl ⟨by rfl, ?_⟩) (by assumption) ?_
              rotate_left
              · intro w hSw; (try dsimp only at hSw); go_split_ands; go_simp; (try with_reducible rfl)
              try simp only [Act.put, List.setIfInBounds_toArray, List.set_cons_zero, List.set_cons_succ]
              have c6 : w6.cell? ⟨gg, es.length * 4 + 2, none⟩ = _ := M6.out.cell2
              have f6 := M6.out.free
              obtain ⟨zX, zf, q, zc⟩ := M6.out.step (.slice (some ⟨gb, 0, none⟩) 128 cb2)
              have OZ : Hid (Off (· = gg) D (w6.setCell ⟨gg, es.length * 4 + 2, none⟩ (.slice (some ⟨gb, 0, none⟩) 128 cb2))) := Lib.hid ((Off.of_below (ex := (· = gg)) B6.out).setCell (p := ⟨gg, es.length * 4 + 2, none⟩) (.inl rfl) _)
              refine wpAnyH_ready (rs := [10]) (by kernel_rfl) (by simp) (AllReadyH.cons (o := ⟨_, _, _, _, _, _⟩) rfl (fun K hK => ?_) AllReadyH.nil)
              go_simp
              refine hK.out _ _ ?_ (fun hHeld => ?_)
              · exact OZ.out
              clear hK K
              try simp only [Act.put, List.setIfInBounds_toArray, List.set_cons_zero, List.set_cons_succ]
              clear OZ kX MD M6 B6 c6 f6 M
              generalize w6.setCell ⟨gg, es.length * 4 + 2, none⟩ (.slice (some ⟨gb, 0, none⟩) 128 cb2) = Z at zX zf zc F6 ⊢
              refine wpAnyH_done (by kernel_rfl) ?_ _
              go_wp2_with fail
              go_ret
              rw [hE.out]
              exact ⟨rfl, F6.out⟩

            · go_enter Try.func18, Try.ntmps18
              go_upto_region 13 with (first
          | (go_at_call 30; refine (c_goes w X d s _ es H.out hd.out).mono ?_; rintro e w1 ⟨rfl, hR1, ho1⟩; rw [hsp.out] at hR1 ⊢; replace hR1 := Lib.hid hR1; replace ho1 := Lib.hid ho1)
          | (go_at_call 31; refine (c_at w1 X d1 s _ es hR1.out n).mono ?_; rintro e w2 ⟨rfl, rfl⟩; rw [HK.out]; have d1c : w1.cell? ⟨X, 1, none⟩ = some (.slice (some ⟨g, 0, none⟩) es.length cap) := hR1.out.cell 1; (try have d1r := hR1.out.rowc he.out); (try have d1n := d1r.1); (try clear d1r)) | (at_builtin; refine wpList_append_secs (o := ⟨some 60, _, _, _, _, _⟩) ?_ (.tmp 53) (.tmp 59) ?_ w1.heap.size (.slice none 0 0) [] (es.take es.length) ?_ (World.ownsRow_nil _ _ _ _) (.slice (some ⟨g, 0, none⟩) es.length cap) ?_ ?_ (hR1.out.one.take _) ?_ (Nat.le_refl _) ?_; exact rfl; exact rfl; exact rfl; exact rfl; (exact src_take hR1.out.row es.length (Nat.le_refl _)); (first | (have := SM.out; simp; omega) | simp); intro v2 w2 hr2 ho2; have I2 := Lib.hid (InsW.start hr2 ho2); have I2L := Lib.hid (I2.out.below (lay2_below w2 n)); have Z2 := Lib.hid (ZAt.new I2.out n); clear hr2 ho2) | (at_builtin; refine wpList_append_secs (o := ⟨some 66, _, _, _, _, _⟩) ?_ (.tmp 61) (.tmp 65) ?_ w1.heap.size v2 (es.take es.length) [newS n w2.heap.size] ?_ I2L.out.r (.slice (some ⟨w2.heap.size + 1, 0, none⟩) 1 1) ?_ ?_ (one_new _ _) ?_ I2L.out.b.size ?_; exact rfl; exact rfl; exact rfl; exact rfl; (exact src_new w2 n); (first | (have := SM.out; simp; omega) | simp); intro v3 w3 hr3 ho3; have I3 := Lib.hid (I2L.out.grow hr3 ho3); have Z3 := Lib.hid (ZAt.grow Z2.out I2L.out ho3); have d3c : w3.cell? ⟨X, 1, none⟩ = some (.slice (some ⟨g, 0, none⟩) es.length cap) := off_cell (.of_below (ex := fun _ => False) I3.out.b) d1c (fun h => h); clear hr3 ho3 I2L Z2 I2) | (at_builtin; refine wpList_append_secs (o := ⟨some 75, _, _, _, _, _⟩) ?_ (.tmp 68) (.tmp 74) ?_ w1.heap.size v3 (es.take es.length ++ [newS n w2.heap.size]) (es.drop es.length) ?_ I3.out.r (.slice (some ⟨g, es.length * 4, none⟩) 0 (cap - es.length)) ?_ ?_ (hR1.out.one.drop _) ?_ I3.out.b.size ?_; exact rfl; exact rfl; exact rfl; exact rfl; (have := src_drop hR1.out.row es.length (Nat.le_refl _); rw [Nat.sub_self, if_neg hcl] at this; exact (this.off (.of_below (ex := fun _ => False) I3.out.b) (fun _ _ h => h))); (first | (have := SM.out; simp; omega) | simp); intro v4 w4 hr4 ho4; have I4 := Lib.hid (I3.out.grow hr4 ho4); have Z4 := Lib.hid (ZAt.grow Z3.out I3.out ho4); obtain ⟨es2, hes2⟩ : ∃ es2, es.take es.length ++ [newS n w2.heap.size] ++ es.drop es.length = es2 := ⟨_, rfl⟩; rw [hes2] at I4; obtain ⟨gg, cc, hv4⟩ := row_some I4.out.r (by rw [← hes2]; first | (simp; done) | (simp; omega)); subst hv4; replace hes2 := Lib.hid hes2; have R4 := Lib.hid (hR1.out.off (.of_below (ex := fun _ => False) I4.out.b) (fun _ _ h => h)); have d4c : w4.cell? ⟨X, 1, none⟩ = some (.slice (some ⟨g, 0, none⟩) es.length cap) := R4.out.cell 1; have d4f := fun j => R4.out.free j; clear hr4 ho4 I3 Z3 d3c))
              obtain ⟨GG, M, m1, m2, m3⟩ := hR1.out.ins2 (Nat.le_refl _) I4.out.b Z4.out hes2.out I4.out.r
              have SIM : Hid (∀ vl, (es2.set es.length ⟨⟨(newS n w2.heap.size).x.n, (newS n w2.heap.size).x.on, b, true⟩, (newS n w2.heap.size).vo, vl⟩).map (·.x) = writeX s n b) := Lib.hid (fun vl => by have hq := hR1.out.wr_none (b := b) (vl := vl) (z := w2.heap.size) hf.out; rw [HK.out] at hq; rw [← hes2.out]; exact hq)
              have hm := M.k_lt
              clear I4 Z4 hes2 R4 d4c d4f d1c
              have o1 : Off G w w1 := ho1.out.mono (fun k _ e => e ▸ H.out.gX)
              have n1 : ∀ x, _ → G x ∨ w.heap.size ≤ x := fun x hx => (m1 x hx).imp id (fun h => Nat.le_trans o1.size h)
              replace m3 := o1.trans m3
              have FIN : Hid (∀ D w6 gb cb', Below (w4.setCell ⟨X, 1, none⟩ (.slice (some ⟨gg, 0, none⟩) es2.length cc)).heap.size (w4.setCell ⟨X, 1, none⟩ (.slice (some ⟨gg, 0, none⟩) es2.length cc)) D → Below D.heap.size D w6 → w6.ownsRow D.heap.size 5 1 (.slice (some ⟨gb, 0, none⟩) 128 cb') 128 (bys b) → RTurn G X { d1 with bu := insm n b d1.bu } w ((w6.setCell ⟨gg, es.length * 4 + 2, none⟩ (.slice (some ⟨gb, 0, none⟩) 128 cb')).setCell ⟨gg, es.length * 4 + 3, none⟩ (.bool true))) := Lib.hid (fun D w6 gb cb' h0 h1 h2 => ((M.below h0).fin h1 h2 hl.out _ _ (SIM.out _) (hR1.out.sim.write HN.out.1 (by rw [hd1.out]; exact HN.out.2) hl.out) (hR1.out.ok.put HN.out.1 (by rw [hd1.out]; exact HN.out.2) hl.out hR1.out.ok.left) hR1.out.ops hR1.out.left).comp n1 m2 (m3.trans (.of_below h0)))
              replace M := Lib.hid M
              replace m3 := Lib.hid m3
              clear n1 m1 m2 o1 SIM hR1 ho1
              generalize (w4.setCell ⟨X, 1, none⟩ (.slice (some ⟨gg, 0, none⟩) es2.length cc)) = W at M m3 FIN ⊢
              have MD := Lib.hid (M.out.below (below_drew (Below.refl _ _)))
              have BD := Lib.hid (HB.out.off m3.out.drew (fun a n c e => hvG.out a n c e (fun e0 => by have := hl.out; rw [e0] at this; cases this)))
              have LD := Lib.hid (below_drew (Below.refl W.heap.size W))
              refine wp_region_held_drew (S := fun w' => Off (· = gg) W.drew w') (by kernel_rfl) (Off.refl _ _) (fun hHeld => ?_)
              generalize W.drew = D at MD BD LD hHeld ⊢
              have kX : ∀ w', Off (· = gg) D w' → w'.cell? ⟨X, 1, none⟩ = some (.slice (some ⟨gg, 0, none⟩) es2.length cc) := fun w' h => off_cell h MD.out.cell MD.out.ne
              obtain ⟨i0, hin0, hz0, hz1, hz2⟩ := info_parts A.infoB
              try simp only [Act.put, List.setIfInBounds_toArray, List.set_cons_zero, List.set_cons_succ]
              refine wpAnyH_take (i := 0) (oi := ⟨_, _, _, _, _, _⟩) (v := ?_) rfl (by kernel_rfl) (by kernel_rfl) (by kernel_rfl) (fun _ _ _ h => h) (Or.inl ⟨by rfl, ?_⟩) (by assumption) ?_
              rotate_left
              · intro w hSw; (try dsimp only at hSw); go_split_ands; go_simp; (try with_reducible rfl)
              try simp only [Act.put, List.setIfInBounds_toArray, List.set_cons_zero, List.set_cons_succ]
              refine wpAnyH_take (i := 1) (oi := ⟨_, _, _, _, _, _⟩) (v := ?_) rfl (by kernel_rfl) (by kernel_rfl) (by kernel_rfl) (fun _ _ _ h => h) (Or.inl ⟨by rfl, ?_⟩) (by assumption) ?_
              rotate_left
              · intro w hSw; (try dsimp only at hSw); go_split_ands; go_simp; (try with_reducible rfl)
              try simp only [Act.put, List.setIfInBounds_toArray, List.set_cons_zero, List.set_cons_succ]
              refine wpAnyH_take (i := 2) (oi := ⟨_, _, _, _, _, _⟩) (v := ?_) rfl (by kernel_rfl) (by kernel_rfl) (by kernel_rfl) (fun _ _ _ h => h) (Or.inl ⟨by rfl, ?_⟩) (by assumption) ?_
              rotate_left
              · intro w hSw; (try dsimp only at hSw); go_split_ands; go_simp; (try with_reducible rfl)
              try simp only [Act.put, List.setIfInBounds_toArray, List.set_cons_zero, List.set_cons_succ]
              refine wpAnyH_take (i := 3) (oi := ⟨_, _, _, _, _, _⟩) (v := ?_) rfl (by kernel_rfl) (by kernel_rfl) (by kernel_rfl) (fun _ _ _ h => h) (Or.inl ⟨by rfl, ?_⟩) (by assumption) ?_
              rotate_left
              · intro w hSw; (try dsimp only at hSw); go_split_ands; go_simp; (try with_reducible rfl)
              try simp only [Act.put, List.setIfInBounds_toArray, List.set_cons_zero, List.set_cons_succ]
              refine wpAnyH_take (i := 4) (oi := ⟨_, _, _, _, _, _⟩) (v := ?_) rfl (by kernel_rfl) (by kernel_rfl) (by kernel_rfl) (fun _ _ _ h => h) (Or.inl ⟨by rfl, ?_⟩) (by assumption) ?_
              rotate_left
              · intro w hSw; (try dsimp only at hSw); go_split_ands; go_simp; (try with_reducible rfl)
              try simp only [Act.put, List.setIfInBounds_toArray, List.set_cons_zero, List.set_cons_succ]
              refine wpAnyH_take (i := 6) (oi := ⟨_, _, _, _, _, _⟩) (v := ?_) rfl (by kernel_rfl) (by kernel_rfl) (by kernel_rfl) (fun _ _ _ h => h) (Or.inl ⟨by rfl, ?_⟩) (by assumption) ?_
              rotate_left
              · intro w hSw; (try dsimp only at hSw); go_split_ands; go_simp; (try with_reducible rfl)
              try simp only [Act.put, List.setIfInBounds_toArray, List.set_cons_zero, List.set_cons_succ]
              refine wpAnyH_ready (rs := [5]) (by kernel_rfl) (by simp) (AllReadyH.cons (o := ⟨_, _, _, _, _, _⟩) rfl (fun K hK => ?_) AllReadyH.nil)
              go_simp
              refine hK.out _ _ ?_ (fun hHeld => ?_)
              · exact (Off.refl _ _).alloc _
              clear hK K
              try simp only [Act.put, List.setIfInBounds_toArray, List.set_cons_zero, List.set_cons_succ]
              refine wpAnyH_ready (rs := [7]) (by kernel_rfl) (by simp) (AllReadyH.cons (o := ⟨_, _, _, _, _, _⟩) rfl (fun K hK => ?_) AllReadyH.nil)
              have CE : ∀ j u, (bys b)[j]? = some u → (D.alloc (.cells #[] 5)).cell? ((⟨ga, oa, none⟩ : Addr).add j) = some u := by
                obtain ⟨g1, o1, c1, e1, h1⟩ := (BD.out.below (below_al0 D (.cells #[] 5))).some (by rw [hl.out]; decide)
                injection e1 with e1 _ _
                cases e1
                exact h1
              (try rw [if_pos (by rfl)])
              refine wp_append_own _ (.tmp 83) (.tmp 84) 22 rfl D.heap.size 5 i0 (.int .u8 0) 1 1 A.underB hin0 hz0 hz1 hz2 rfl (by decide) (.slice (some ⟨D.heap.size, 0, none⟩) 0 0) 0 [] rfl (row_empty D) ⟨ga, oa, none⟩ b.length cb (bys b) rfl (by rw [bys_len, Nat.mul_one]) CE (bys_one b) (by rw [hl.out]; decide) (by rw [hl.out]; decide) (by simp) ?_
              intro vn w6 hown hgrow _
              rw [hl.out] at hown
              obtain ⟨gb, cb2, hvn⟩ := row_some hown (by decide)
              subst hvn
              have B6 : Hid (Below D.heap.size D w6) := Lib.hid ((Off.of_below (ex := fun _ => False) (below_al0 D (.cells #[] 5))).grown hgrow (fun k hk => .inr (by cases hk; exact Nat.le_refl _))).to_below
              have M6 := Lib.hid (MD.out.below B6.out)
              have F6 := Lib.hid (FIN.out D w6 gb cb2 LD.out B6.out hown)
              refine hK.out _ _ ?_ (fun hHeld => ?_)
              · exact .of_below B6.out
              clear hK K hown hgrow CE BD LD FIN
              try simp only [Act.put, List.setIfInBounds_toArray, List.set_cons_zero, List.set_cons_succ]
              refine wpAnyH_take (i := 8) (oi := ⟨_, _, _, _, _, _⟩) (v := ?_) rfl (by kernel_rfl) (by kernel_rfl) (by kernel_rfl) (fun _ _ _ h => h) (Or.inl ⟨by rfl, ?_⟩) (by assumption) ?_
              rotate_left
              · intro w hSw; (try dsimp only at hSw); go_split_ands; go_simp; (try with_reducible rfl)
              try simp only [Act.put, List.setIfInBounds_toArray, List.set_cons_zero, List.set_cons_succ]
              refine wpAnyH_take (i := 9) (oi := ⟨_, _, _, _, _, _⟩) (v := ?_) rfl (by kernel_rfl) (by kernel_rfl) (by kernel_rfl) (fun _ _ _ h => h) (Or.inl ⟨by rfl, ?_⟩) (by assumption) ?_
              rotate_left
              · intro w hSw; (try dsimp only at hSw); go_split_ands; go_simp; (try with_reducible rfl)
              try simp only [Act.put, List.setIfInBounds_toArray, List.set_cons_zero, List.set_cons_succ]
              have c6 : w6.cell? ⟨gg, es.length * 4 + 2, none⟩ = _ := M6.out.cell2
              have f6 := M6.out.free
              obtain ⟨zX, zf, q, zc⟩ := M6.out.step (.slice (some ⟨gb, 0, none⟩) 128 cb2)
              have OZ : Hid (Off (· = gg) D (w6.setCell ⟨gg, es.length * 4 + 2, none⟩ (.slice (some ⟨gb, 0, none⟩) 128 cb2))) := Lib.hid ((Off.of_below (ex := (· = gg)) B6.out).setCell (p := ⟨gg, es.length * 4 + 2, none⟩) (.inl rfl) _)
              refine wpAnyH_ready (rs := [10]) (by kernel_rfl) (by simp) (AllReadyH.cons (o := ⟨_, _, _, _, _, _⟩) rfl (fun K hK => ?_) AllReadyH.nil)
              go_simp
              refine hK.out _ _ ?_ (fun hHeld => ?_)
              · exact OZ.out
              clear hK K
              try simp only [Act.put, List.setIfInBounds_toArray, List.set_cons_zero, List.set_cons_succ]
              clear OZ kX MD M6 B6 c6 f6 M
              generalize w6.setCell ⟨gg, es.length * 4 + 2, none⟩ (.slice (some ⟨gb, 0, none⟩) 128 cb2) = Z at zX zf zc F6 ⊢
              refine wpAnyH_done (by kernel_rfl) ?_ _
              go_wp2_with fail
              go_ret
              rw [hE.out]
              exact ⟨rfl, F6.out⟩

        · obtain ⟨k, hk⟩ : ∃ k, atX s n = k := ⟨_, rfl⟩
          have hkl : atX s n < es.length := (List.getElem?_eq_some_iff.1 he).1
          rw [hk] at he hkl
          have hkl' : (k : Int) < (es.length : Int) := by omega
          obtain ⟨g, rfl⟩ := HP.out (by omega)
          have hne' : (e.x.n == n) = false := beq_eq_false_iff_ne.2 hne
          have hcap : es.length ≤ cap := (row_blk H.out.row).2.1
          have hke : ((k : Int) == (es.length : Int)) = false := beq_eq_false_iff_ne.2 (by omega)
          have HK := Lib.hid hk
          replace hf := Lib.hid hf
          replace he := Lib.hid he
          clear hk hne
          have hk := Lib.hid (Nat.le_of_lt hkl)
          have hck : Hid (¬ cap = k) := Lib.hid (by omega)
          go_enter Try.func18, Try.ntmps18
          go_upto_region 13 with (first
          | (go_at_call 30; refine (c_goes w X d s _ es H.out hd.out).mono ?_; rintro e w1 ⟨rfl, hR1, ho1⟩; rw [hsp.out] at hR1 ⊢; replace hR1 := Lib.hid hR1; replace ho1 := Lib.hid ho1)
          | (go_at_call 31; refine (c_at w1 X d1 s _ es hR1.out n).mono ?_; rintro e w2 ⟨rfl, rfl⟩; rw [HK.out]; have d1c : w1.cell? ⟨X, 1, none⟩ = some (.slice (some ⟨g, 0, none⟩) es.length cap) := hR1.out.cell 1; (try have d1r := hR1.out.rowc he.out); (try have d1n := d1r.1); (try clear d1r)) | (at_builtin; refine wpList_append_secs (o := ⟨some 60, _, _, _, _, _⟩) ?_ (.tmp 53) (.tmp 59) ?_ w1.heap.size (.slice none 0 0) [] (es.take k) ?_ (World.ownsRow_nil _ _ _ _) (.slice (some ⟨g, 0, none⟩) k cap) ?_ ?_ (hR1.out.one.take _) ?_ (Nat.le_refl _) ?_; exact rfl; exact rfl; exact rfl; exact rfl; (exact src_take hR1.out.row k hk.out); (first | (have := SM.out; simp; omega) | simp); intro v2 w2 hr2 ho2; have I2 := Lib.hid (InsW.start hr2 ho2); have I2L := Lib.hid (I2.out.below (lay2_below w2 n)); have Z2 := Lib.hid (ZAt.new I2.out n); clear hr2 ho2) | (at_builtin; refine wpList_append_secs (o := ⟨some 66, _, _, _, _, _⟩) ?_ (.tmp 61) (.tmp 65) ?_ w1.heap.size v2 (es.take k) [newS n w2.heap.size] ?_ I2L.out.r (.slice (some ⟨w2.heap.size + 1, 0, none⟩) 1 1) ?_ ?_ (one_new _ _) ?_ I2L.out.b.size ?_; exact rfl; exact rfl; exact rfl; exact rfl; (exact src_new w2 n); (first | (have := SM.out; simp; omega) | simp); intro v3 w3 hr3 ho3; have I3 := Lib.hid (I2L.out.grow hr3 ho3); have Z3 := Lib.hid (ZAt.grow Z2.out I2L.out ho3); have d3c : w3.cell? ⟨X, 1, none⟩ = some (.slice (some ⟨g, 0, none⟩) es.length cap) := off_cell (.of_below (ex := fun _ => False) I3.out.b) d1c (fun h => h); clear hr3 ho3 I2L Z2 I2) | (at_builtin; refine wpList_append_secs (o := ⟨some 75, _, _, _, _, _⟩) ?_ (.tmp 68) (.tmp 74) ?_ w1.heap.size v3 (es.take k ++ [newS n w2.heap.size]) (es.drop k) ?_ I3.out.r (.slice (some ⟨g, k * 4, none⟩) (es.length - k) (cap - k)) ?_ ?_ (hR1.out.one.drop _) ?_ I3.out.b.size ?_; exact rfl; exact rfl; exact rfl; exact rfl; (have := src_drop hR1.out.row k hk.out; rw [if_neg hck.out] at this; exact (this.off (.of_below (ex := fun _ => False) I3.out.b) (fun _ _ h => h))); (first | (have := SM.out; simp; omega) | simp); intro v4 w4 hr4 ho4; have I4 := Lib.hid (I3.out.grow hr4 ho4); have Z4 := Lib.hid (ZAt.grow Z3.out I3.out ho4); obtain ⟨es2, hes2⟩ : ∃ es2, es.take k ++ [newS n w2.heap.size] ++ es.drop k = es2 := ⟨_, rfl⟩; rw [hes2] at I4; obtain ⟨gg, cc, hv4⟩ := row_some I4.out.r (by rw [← hes2]; first | (simp; done) | (simp; omega)); subst hv4; replace hes2 := Lib.hid hes2; have R4 := Lib.hid (hR1.out.off (.of_below (ex := fun _ => False) I4.out.b) (fun _ _ h => h)); have d4c : w4.cell? ⟨X, 1, none⟩ = some (.slice (some ⟨g, 0, none⟩) es.length cap) := R4.out.cell 1; have d4f := fun j => R4.out.free j; clear hr4 ho4 I3 Z3 d3c))
          obtain ⟨GG, M, m1, m2, m3⟩ := hR1.out.ins2 hk.out I4.out.b Z4.out hes2.out I4.out.r
          have SIM : Hid (∀ vl, (es2.set k ⟨⟨(newS n w2.heap.size).x.n, (newS n w2.heap.size).x.on, b, true⟩, (newS n w2.heap.size).vo, vl⟩).map (·.x) = writeX s n b) := Lib.hid (fun vl => by have hq := hR1.out.wr_none (b := b) (vl := vl) (z := w2.heap.size) hf.out; rw [HK.out] at hq; rw [← hes2.out]; exact hq)
          have hm := M.k_lt
          clear I4 Z4 hes2 R4 d4c d4f d1c
          have o1 : Off G w w1 := ho1.out.mono (fun k _ e => e ▸ H.out.gX)
          have n1 : ∀ x, _ → G x ∨ w.heap.size ≤ x := fun x hx => (m1 x hx).imp id (fun h => Nat.le_trans o1.size h)
          replace m3 := o1.trans m3
          have FIN : Hid (∀ D w6 gb cb', Below (w4.setCell ⟨X, 1, none⟩ (.slice (some ⟨gg, 0, none⟩) es2.length cc)).heap.size (w4.setCell ⟨X, 1, none⟩ (.slice (some ⟨gg, 0, none⟩) es2.length cc)) D → Below D.heap.size D w6 → w6.ownsRow D.heap.size 5 1 (.slice (some ⟨gb, 0, none⟩) 128 cb') 128 (bys b) → RTurn G X { d1 with bu := insm n b d1.bu } w ((w6.setCell ⟨gg, k * 4 + 2, none⟩ (.slice (some ⟨gb, 0, none⟩) 128 cb')).setCell ⟨gg, k * 4 + 3, none⟩ (.bool true))) := Lib.hid (fun D w6 gb cb' h0 h1 h2 => ((M.below h0).fin h1 h2 hl.out _ _ (SIM.out _) (hR1.out.sim.write HN.out.1 (by rw [hd1.out]; exact HN.out.2) hl.out) (hR1.out.ok.put HN.out.1 (by rw [hd1.out]; exact HN.out.2) hl.out hR1.out.ok.left) hR1.out.ops hR1.out.left).comp n1 m2 (m3.trans (.of_below h0)))
          replace M := Lib.hid M
          replace m3 := Lib.hid m3
          clear n1 m1 m2 o1 SIM hR1 ho1
          generalize (w4.setCell ⟨X, 1, none⟩ (.slice (some ⟨gg, 0, none⟩) es2.length cc)) = W at M m3 FIN ⊢
          have MD := Lib.hid (M.out.below (below_drew (Below.refl _ _)))
          have BD := Lib.hid (HB.out.off m3.out.drew (fun a n c e => hvG.out a n c e (fun e0 => by have := hl.out; rw [e0] at this; cases this)))
          have LD := Lib.hid (below_drew (Below.refl W.heap.size W))
          refine wp_region_held_drew (S := fun w' => Off (· = gg) W.drew w') (by kernel_rfl) (Off.refl _ _) (fun hHeld => ?_)
          generalize W.drew = D at MD BD LD hHeld ⊢
          have kX : ∀ w', Off (· = gg) D w' → w'.cell? ⟨X, 1, none⟩ = some (.slice (some ⟨gg, 0, none⟩) es2.length cc) := fun w' h => off_cell h MD.out.cell MD.out.ne
          obtain ⟨i0, hin0, hz0, hz1, hz2⟩ := info_parts A.infoB
          try simp only [Act.put, List.setIfInBounds_toArray, List.set_cons_zero, List.set_cons_succ]
          refine wpAnyH_take (i := 0) (oi := ⟨_, _, _, _, _, _⟩) (v := ?_) rfl (by kernel_rfl) (by kernel_rfl) (by kernel_rfl) (fun _ _ _ h => h) (Or.inl ⟨by rfl, ?_⟩) (by assumption) ?_
          rotate_left
          · intro w hSw; (try dsimp only at hSw); go_split_ands; go_simp; (try with_reducible rfl)
          try simp only [Act.put, List.setIfInBounds_toArray, List.set_cons_zero, List.set_cons_succ]
          refine wpAnyH_take (i := 1) (oi := ⟨_, _, _, _, _, _⟩) (v := ?_) rfl (by kernel_rfl) (by kernel_rfl) (by kernel_rfl) (fun _ _ _ h => h) (Or.inl ⟨by rfl, ?_⟩) (by assumption) ?_
          rotate_left
          · intro w hSw; (try dsimp only at hSw); go_split_ands; go_simp; (try with_reducible rfl)
          try simp only [Act.put, List.setIfInBounds_toArray, List.set_cons_zero, List.set_cons_succ]
          refine wpAnyH_take (i := 2) (oi := ⟨_, _, _, _, _, _⟩) (v := ?_) rfl (by kernel_rfl) (by kernel_rfl) (by kernel_rfl) (fun _ _ _ h => h) (Or.inl ⟨by rfl, ?_⟩) (by assumption) ?_
          rotate_left
          · intro w hSw; (try dsimp only at hSw); go_split_ands; go_simp; (try with_reducible rfl)
          try simp only [Act.put, List.setIfInBounds_toArray, List.set_cons_zero, List.set_cons_succ]
          refine wpAnyH_take (i := 3) (oi := ⟨_, _, _, _, _, _⟩) (v := ?_) rfl (by kernel_rfl) (by kernel_rfl) (by kernel_rfl) (fun _ _ _ h => h) (Or.inl ⟨by rfl, ?_⟩) (by assumption) ?_
          rotate_left
          · intro w hSw; (try dsimp only at hSw); go_split_ands; go_simp; (try with_reducible rfl)
          try simp only [Act.put, List.setIfInBounds_toArray, List.set_cons_zero, List.set_cons_succ]
          refine wpAnyH_take (i := 4) (oi := ⟨_, _, _, _, _, _⟩) (v := ?_) rfl (by kernel_rfl) (by kernel_rfl) (by kernel_rfl) (fun _ _ _ h => h) (Or.inl ⟨by rfl, ?_⟩) (by assumption) ?_
          rotate_left
          · intro w hSw; (try dsimp only at hSw); go_split_ands; go_simp; (try with_reducible rfl)
          try simp only [Act.put, List.setIfInBounds_toArray, List.set_cons_zero, List.set_cons_succ]
          refine wpAnyH_take (i := 6) (oi := ⟨_, _, _, _, _, _⟩) (v := ?_) rfl (by kernel_rfl) (by kernel_rfl) (by kernel_rfl) (fun _ _ _ h => h) (Or.inl ⟨by rfl, ?_⟩) (by assumption) ?_
          rotate_left
          · intro w hSw; (try dsimp only at hSw); go_split_ands; go_simp; (try with_reducible rfl)
          try simp only [Act.put, List.setIfInBounds_toArray, List.set_cons_zero, List.set_cons_succ]
          refine wpAnyH_ready (rs := [5]) (by kernel_rfl) (by simp) (AllReadyH.cons (o := ⟨_, _, _, _, _, _⟩) rfl (fun K hK => ?_) AllReadyH.nil)
          go_simp
          refine hK.out _ _ ?_ (fun hHeld => ?_)
          · exact (Off.refl _ _).alloc _
          clear hK K
          try simp only [Act.put, List.setIfInBounds_toArray, List.set_cons_zero, List.set_cons_succ]
          refine wpAnyH_ready (rs := [7]) (by kernel_rfl) (by simp) (AllReadyH.cons (o := ⟨_, _, _, _, _, _⟩) rfl (fun K hK => ?_) AllReadyH.nil)
          have CE : ∀ j u, (bys b)[j]? = some u → (D.alloc (.cells #[] 5)).cell? ((⟨ga, oa, none⟩ : Addr).add j) = some u := by
            obtain ⟨g1, o1, c1, e1, h1⟩ := (BD.out.below (below_al0 D (.cells #[] 5))).some (by rw [hl.out]; decide)
            injection e1 with e1 _ _
            cases e1
            exact h1
          (try rw [if_pos (by rfl)])
          refine wp_append_own _ (.tmp 83) (.tmp 84) 22 rfl D.heap.size 5 i0 (.int .u8 0) 1 1 A.underB hin0 hz0 hz1 hz2 rfl (by decide) (.slice (some ⟨D.heap.size, 0, none⟩) 0 0) 0 [] rfl (row_empty D) ⟨ga, oa, none⟩ b.length cb (bys b) rfl (by rw [bys_len, Nat.mul_one]) CE (bys_one b) (by rw [hl.out]; decide) (by rw [hl.out]; decide) (by simp) ?_
          intro vn w6 hown hgrow _
          rw [hl.out] at hown
          obtain ⟨gb, cb2, hvn⟩ := row_some hown (by decide)
          subst hvn
          have B6 : Hid (Below D.heap.size D w6) := Lib.hid ((Off.of_below (ex := fun _ => False) (below_al0 D (.cells #[] 5))).grown hgrow (fun k hk => .inr (by cases hk; exact Nat.le_refl _))).to_below
          have M6 := Lib.hid (MD.out.below B6.out)
          have F6 := Lib.hid (FIN.out D w6 gb cb2 LD.out B6.out hown)
          refine hK.out _ _ ?_ (fun hHeld => ?_)
          · exact .of_below B6.out
          clear hK K hown hgrow CE BD LD FIN
          try simp only [Act.put, List.setIfInBounds_toArray, List.set_cons_zero, List.set_cons_succ]
          refine wpAnyH_take (i := 8) (oi := ⟨_, _, _, _, _, _⟩) (v := ?_) rfl (by kernel_rfl) (by kernel_rfl) (by kernel_rfl) (fun _ _ _ h => h) (Or.inl ⟨by rfl, ?_⟩) (by assumption) ?_
          rotate_left
          · intro w hSw; (try dsimp only at hSw); go_split_ands; go_simp; (try with_reducible rfl)
          try simp only [Act.put, List.setIfInBounds_toArray, List.set_cons_zero, List.set_cons_succ]
          refine wpAnyH_take (i := 9) (oi := ⟨_, _, _, _, _, _⟩) (v := ?_) rfl (by kernel_rfl) (by kernel_rfl) (by kernel_rfl) (fun _ _ _ h => h) (Or.inl ⟨by rfl, ?_⟩) (by assumption) ?_
          rotate_left
          · intro w hSw; (try dsimp only at hSw); go_split_ands; go_simp; (try with_reducible rfl)
          try simp only [Act.put, List.setIfInBounds_toArray, List.set_cons_zero, List.set_cons_succ]
          have c6 : w6.cell? ⟨gg, k * 4 + 2, none⟩ = _ := M6.out.cell2
          have f6 := M6.out.free
          obtain ⟨zX, zf, q, zc⟩ := M6.out.step (.slice (some ⟨gb, 0, none⟩) 128 cb2)
          have OZ : Hid (Off (· = gg) D (w6.setCell ⟨gg, k * 4 + 2, none⟩ (.slice (some ⟨gb, 0, none⟩) 128 cb2))) := Lib.hid ((Off.of_below (ex := (· = gg)) B6.out).setCell (p := ⟨gg, k * 4 + 2, none⟩) (.inl rfl) _)
          refine wpAnyH_ready (rs := [10]) (by kernel_rfl) (by simp) (AllReadyH.cons (o := ⟨_, _, _, _, _, _⟩) rfl (fun K hK => ?_) AllReadyH.nil)
          go_simp
          refine hK.out _ _ ?_ (fun hHeld => ?_)
          · exact OZ.out
          clear hK K
          try simp only [Act.put, List.setIfInBounds_toArray, List.set_cons_zero, List.set_cons_succ]
          clear OZ kX MD M6 B6 c6 f6 M
          generalize w6.setCell ⟨gg, k * 4 + 2, none⟩ (.slice (some ⟨gb, 0, none⟩) 128 cb2) = Z at zX zf zc F6 ⊢
          refine wpAnyH_done (by kernel_rfl) ?_ _
          go_wp2_with fail
          go_ret
          rw [hE.out]
          exact ⟨rfl, F6.out⟩

        · obtain ⟨k, hk⟩ : ∃ k, atX s n = k := ⟨_, rfl⟩
          have hkl : atX s n < es.length := (List.getElem?_eq_some_iff.1 he).1
          rw [hk] at he hkl
          have hkl' : (k : Int) < (es.length : Int) := by omega
          obtain ⟨g, rfl⟩ := HP.out (by omega)
          have hne' : (e.x.n == n) = true := beq_iff_eq.2 hee
          have hke : ((k : Int) == (es.length : Int)) = false := beq_eq_false_iff_ne.2 (by omega)
          have HK := Lib.hid hk
          replace hf := Lib.hid hf
          replace he := Lib.hid he
          clear hk hee
          go_enter Try.func18, Try.ntmps18
          go_upto_region 13 with (first
          | (go_at_call 30; refine (c_goes w X d s _ es H.out hd.out).mono ?_; rintro e w1 ⟨rfl, hR1, ho1⟩; rw [hsp.out] at hR1 ⊢; replace hR1 := Lib.hid hR1; replace ho1 := Lib.hid ho1)
          | (go_at_call 31; refine (c_at w1 X d1 s _ es hR1.out n).mono ?_; rintro e w2 ⟨rfl, rfl⟩; rw [HK.out]; have d1c : w1.cell? ⟨X, 1, none⟩ = some (.slice (some ⟨g, 0, none⟩) es.length cap) := hR1.out.cell 1; (try have d1r := hR1.out.rowc he.out); (try have d1n := d1r.1); (try clear d1r)))
          have M := hR1.out.mid he.out
          have m1 : ∀ x, G x → G x ∨ w1.heap.size ≤ x := fun x hx => .inl hx
          have m2 : ∀ x, G x → G x := fun x hx => hx
          have m3 : Off G w1 w1 := Off.refl _ _
          have SIM : Hid (∀ vl, (es.set k ⟨⟨e.x.n, e.x.on, b, true⟩, e.vo, vl⟩).map (·.x) = writeX s n b) := Lib.hid (fun vl => by have hq := hR1.out.wr_some (b := b) (vl := vl) hf.out (by rw [HK.out]; exact he.out); rw [HK.out] at hq; exact hq)
          have hm := M.k_lt
          clear d1c d1n
          have o1 : Off G w w1 := ho1.out.mono (fun k _ e => e ▸ H.out.gX)
          have n1 : ∀ x, _ → G x ∨ w.heap.size ≤ x := fun x hx => (m1 x hx).imp id (fun h => Nat.le_trans o1.size h)
          replace m3 := o1.trans m3
          have FIN : Hid (∀ D w6 gb cb', Below w1.heap.size w1 D → Below D.heap.size D w6 → w6.ownsRow D.heap.size 5 1 (.slice (some ⟨gb, 0, none⟩) 128 cb') 128 (bys b) → RTurn G X { d1 with bu := insm n b d1.bu } w ((w6.setCell ⟨g, k * 4 + 2, none⟩ (.slice (some ⟨gb, 0, none⟩) 128 cb')).setCell ⟨g, k * 4 + 3, none⟩ (.bool true))) := Lib.hid (fun D w6 gb cb' h0 h1 h2 => ((M.below h0).fin h1 h2 hl.out _ _ (SIM.out _) (hR1.out.sim.write HN.out.1 (by rw [hd1.out]; exact HN.out.2) hl.out) (hR1.out.ok.put HN.out.1 (by rw [hd1.out]; exact HN.out.2) hl.out hR1.out.ok.left) hR1.out.ops hR1.out.left).comp n1 m2 (m3.trans (.of_below h0)))
          replace M := Lib.hid M
          replace m3 := Lib.hid m3
          clear n1 m1 m2 o1 SIM hR1 ho1
          obtain ⟨W, hWW⟩ : ∃ W, w1 = W := ⟨_, rfl⟩
          subst hWW
          have MD := Lib.hid (M.out.below (below_drew (Below.refl _ _)))
          have BD := Lib.hid (HB.out.off m3.out.drew (fun a n c e => hvG.out a n c e (fun e0 => by have := hl.out; rw [e0] at this; cases this)))
          have LD := Lib.hid (below_drew (Below.refl w1.heap.size w1))
          refine wp_region_held_drew (S := fun w' => Off (· = g) w1.drew w') (by kernel_rfl) (Off.refl _ _) (fun hHeld => ?_)
          generalize w1.drew = D at MD BD LD hHeld ⊢
          have kX : ∀ w', Off (· = g) D w' → w'.cell? ⟨X, 1, none⟩ = some (.slice (some ⟨g, 0, none⟩) es.length cap) := fun w' h => off_cell h MD.out.cell MD.out.ne
          obtain ⟨i0, hin0, hz0, hz1, hz2⟩ := info_parts A.infoB
          try simp only [Act.put, List.setIfInBounds_toArray, List.set_cons_zero, List.set_cons_succ]
          refine wpAnyH_take (i := 0) (oi := ⟨_, _, _, _, _, _⟩) (v := ?_) rfl (by kernel_rfl) (by kernel_rfl) (by kernel_rfl) (fun _ _ _ h => h) (Or.inl ⟨by rfl, ?_⟩) (by assumption) ?_
          rotate_left
          · intro w hSw; (try dsimp only at hSw); go_split_ands; go_simp; (try with_reducible rfl)
          try simp only [Act.put, List.setIfInBounds_toArray, List.set_cons_zero, List.set_cons_succ]
          refine wpAnyH_take (i := 1) (oi := ⟨_, _, _, _, _, _⟩) (v := ?_) rfl (by kernel_rfl) (by kernel_rfl) (by kernel_rfl) (fun _ _ _ h => h) (Or.inl ⟨by rfl, ?_⟩) (by assumption) ?_
          rotate_left
          · intro w hSw; (try dsimp only at hSw); go_split_ands; go_simp; (try with_reducible rfl)
          try simp only [Act.put, List.setIfInBounds_toArray, List.set_cons_zero, List.set_cons_succ]
          refine wpAnyH_take (i := 2) (oi := ⟨_, _, _, _, _, _⟩) (v := ?_) rfl (by kernel_rfl) (by kernel_rfl) (by kernel_rfl) (fun _ _ _ h => h) (Or.inl ⟨by rfl, ?_⟩) (by assumption) ?_
          rotate_left
          · intro w hSw; (try dsimp only at hSw); go_split_ands; go_simp; (try with_reducible rfl)
          try simp only [Act.put, List.setIfInBounds_toArray, List.set_cons_zero, List.set_cons_succ]
          refine wpAnyH_take (i := 3) (oi := ⟨_, _, _, _, _, _⟩) (v := ?_) rfl (by kernel_rfl) (by kernel_rfl) (by kernel_rfl) (fun _ _ _ h => h) (Or.inl ⟨by rfl, ?_⟩) (by assumption) ?_
          rotate_left
          · intro w hSw; (try dsimp only at hSw); go_split_ands; go_simp; (try with_reducible rfl)
          try simp only [Act.put, List.setIfInBounds_toArray, List.set_cons_zero, List.set_cons_succ]
          refine wpAnyH_take (i := 4) (oi := ⟨_, _, _, _, _, _⟩) (v := ?_) rfl (by kernel_rfl) (by kernel_rfl) (by kernel_rfl) (fun _ _ _ h => h) (Or.inl ⟨by rfl, ?_⟩) (by assumption) ?_
          rotate_left
          · intro w hSw; (try dsimp only at hSw); go_split_ands; go_simp; (try with_reducible rfl)
          try simp only [Act.put, List.setIfInBounds_toArray, List.set_cons_zero, List.set_cons_succ]
          refine wpAnyH_take (i := 6) (oi := ⟨_, _, _, _, _, _⟩) (v := ?_) rfl (by kernel_rfl) (by kernel_rfl) (by kernel_rfl) (fun _ _ _ h => h) (Or.inl ⟨by rfl, ?_⟩) (by assumption) ?_
          rotate_left
          · intro w hSw; (try dsimp only at hSw); go_split_ands; go_simp; (try with_reducible rfl)
          try simp only [Act.put, List.setIfInBounds_toArray, List.set_cons_zero, List.set_cons_succ]
          refine wpAnyH_ready (rs := [5]) (by kernel_rfl) (by simp) (AllReadyH.cons (o := ⟨_, _, _, _, _, _⟩) rfl (fun K hK => ?_) AllReadyH.nil)
          go_simp
          refine hK.out _ _ ?_ (fun hHeld => ?_)
          · exact (Off.refl _ _).alloc _
          clear hK K
          try simp only [Act.put, List.setIfInBounds_toArray, List.set_cons_zero, List.set_cons_succ]
          refine wpAnyH_ready (rs := [7]) (by kernel_rfl) (by simp) (AllReadyH.cons (o := ⟨_, _, _, _, _, _⟩) rfl (fun K hK => ?_) AllReadyH.nil)
          have CE : ∀ j u, (bys b)[j]? = some u → (D.alloc (.cells #[] 5)).cell? ((⟨ga, oa, none⟩ : Addr).add j) = some u := by
            obtain ⟨g1, o1, c1, e1, h1⟩ := (BD.out.below (below_al0 D (.cells #[] 5))).some (by rw [hl.out]; decide)
            injection e1 with e1 _ _
            cases e1
            exact h1
          (try rw [if_pos (by rfl)])
          refine wp_append_own _ (.tmp 83) (.tmp 84) 22 rfl D.heap.size 5 i0 (.int .u8 0) 1 1 A.underB hin0 hz0 hz1 hz2 rfl (by decide) (.slice (some ⟨D.heap.size, 0, none⟩) 0 0) 0 [] rfl (row_empty D) ⟨ga, oa, none⟩ b.length cb (bys b) rfl (by rw [bys_len, Nat.mul_one]) CE (bys_one b) (by rw [hl.out]; decide) (by rw [hl.out]; decide) (by simp) ?_
          intro vn w6 hown hgrow _
          rw [hl.out] at hown
          obtain ⟨gb, cb2, hvn⟩ := row_some hown (by decide)
          subst hvn
          have B6 : Hid (Below D.heap.size D w6) := Lib.hid ((Off.of_below (ex := fun _ => False) (below_al0 D (.cells #[] 5))).grown hgrow (fun k hk => .inr (by cases hk; exact Nat.le_refl _))).to_below
          have M6 := Lib.hid (MD.out.below B6.out)
          have F6 := Lib.hid (FIN.out D w6 gb cb2 LD.out B6.out hown)
          refine hK.out _ _ ?_ (fun hHeld => ?_)
          · exact .of_below B6.out
          clear hK K hown hgrow CE BD LD FIN
          try simp only [Act.put, List.setIfInBounds_toArray, List.set_cons_zero, List.set_cons_succ]
          refine wpAnyH_take (i := 8) (oi := ⟨_, _, _, _, _, _⟩) (v := ?_) rfl (by kernel_rfl) (by kernel_rfl) (by kernel_rfl) (fun _ _ _ h => h) (Or.inl ⟨by rfl, ?_⟩) (by assumption) ?_
          rotate_left
          · intro w hSw; (try dsimp only at hSw); go_split_ands; go_simp; (try with_reducible rfl)
          try simp only [Act.put, List.setIfInBounds_toArray, List.set_cons_zero, List.set_cons_succ]
          refine wpAnyH_take (i := 9) (oi := ⟨_, _, _, _, _, _⟩) (v := ?_) rfl (by kernel_rfl) (by kernel_rfl) (by kernel_rfl) (fun _ _ _ h => h) (Or.inl ⟨by rfl, ?_⟩) (by assumption) ?_
          rotate_left
          · intro w hSw; (try dsimp only at hSw); go_split_ands; go_simp; (try with_reducible rfl)
          try simp only [Act.put, List.setIfInBounds_toArray, List.set_cons_zero, List.set_cons_succ]
          have c6 : w6.cell? ⟨g, k * 4 + 2, none⟩ = _ := M6.out.cell2
          have f6 := M6.out.free
          obtain ⟨zX, zf, q, zc⟩ := M6.out.step (.slice (some ⟨gb, 0, none⟩) 128 cb2)
          have OZ : Hid (Off (· = g) D (w6.setCell ⟨g, k * 4 + 2, none⟩ (.slice (some ⟨gb, 0, none⟩) 128 cb2))) := Lib.hid ((Off.of_below (ex := (· = g)) B6.out).setCell (p := ⟨g, k * 4 + 2, none⟩) (.inl rfl) _)
          refine wpAnyH_ready (rs := [10]) (by kernel_rfl) (by simp) (AllReadyH.cons (o := ⟨_, _, _, _, _, _⟩) rfl (fun K hK => ?_) AllReadyH.nil)
          go_simp
          refine hK.out _ _ ?_ (fun hHeld => ?_)
          · exact OZ.out
          clear hK K
          try simp only [Act.put, List.setIfInBounds_toArray, List.set_cons_zero, List.set_cons_succ]
          clear OZ kX MD M6 B6 c6 f6 M
          generalize w6.setCell ⟨g, k * 4 + 2, none⟩ (.slice (some ⟨gb, 0, none⟩) 128 cb2) = Z at zX zf zc F6 ⊢
          refine wpAnyH_done (by kernel_rfl) ?_ _
          go_wp2_with fail
          go_ret
          rw [hE.out]
          exact ⟨rfl, F6.out⟩

    · have hE : Hid (writeR d n b = (d, 1)) := Lib.hid (by unfold writeR; rw [hd.out, if_neg (by decide), if_neg hT])
      clear hF
      by_cases hb0 : n < 0
      · go_enter Try.func18, Try.ntmps18
        go_wp2_with fail
        go_ret
        rw [hE.out]
        exact ⟨rfl, same.out⟩
      · by_cases hb1 : n ≥ d.n
        · go_enter Try.func18, Try.ntmps18
          go_wp2_with fail
          go_ret
          rw [hE.out]
          exact ⟨rfl, same.out⟩
        · have hl : ((b.length : Int) == 128) = false := by
            rw [beq_eq_false_iff_ne]
            intro e
            refine hT ?_
            have h1 : 0 ≤ n := by omega
            have h2 : n < d.n := by omega
            have h3 : b.length = 128 := by omega
            simp [Dk.there, h1, h2, h3]
          go_enter Try.func18, Try.ntmps18
          go_wp2_with fail
          go_ret
          rw [hE.out]
          exact ⟨rfl, same.out⟩
end Go.Proofs.Ytnlemjjigiphcaa
