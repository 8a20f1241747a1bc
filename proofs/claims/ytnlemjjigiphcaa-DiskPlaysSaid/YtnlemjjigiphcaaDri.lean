/- The document's disk: Crash. -/
import Derived.Test.YtnlemjjigiphcaaDrh
namespace Go.Proofs.Ytnlemjjigiphcaa
open Go.RowKit Go.ChangeShapes
set_option linter.unusedVariables false
set_option maxRecDepth 100000

theorem bys_app (a b : Sec) : bys (a ++ b) = bys a ++ bys b := by unfold bys; rw [List.map_append]
theorem bt_cells {w : World} {a : Addr} {n c : Nat} {b : Sec} (h : BtAt w (.slice (some a) n c) b) : ∀ j u, (bys b)[j]? = some u → w.cell? (a.add j) = some u := by
  obtain ⟨ad, c', e, h1, h2, h3, h4⟩ := h
  intro j u hj
  unfold bys at hj
  rw [List.getElem?_map] at hj
  cases hx : b[j]? with
  | none => rw [hx] at hj; cases hj
  | some y =>
    rw [hx] at hj
    cases hj
    obtain ⟨g, o, e2, hc⟩ := h4 j y hx
    have e3 : some a = ad := by injection e
    rw [e2] at e3
    cases e3
    rw [Addr.add_lit]
    exact hc
theorem row_own_ge {w : World} {B n size : Nat} {e : TypeId} {v : Value} {xs : List Value} (h : w.ownsRow B e size v n xs) : ∀ k, v.ownBlock = some k → B ≤ k := by
  intro k hk
  rcases h.2 with ⟨e, _⟩ | ⟨g, cap, cur, e, hb, hg, _⟩
  · rw [e] at hk; cases hk
  · rw [e] at hk; cases hk
    exact hb
theorem pickOf_le (ps : List Int) : pickOf ps ≤ 128 := by
  cases ps with
  | nil => exact Nat.zero_le _
  | cons p r => exact pick_le p
theorem RowW.crashed {G : Nat → Prop} {w : World} {X : Nat} {d d' : Dk} {v : Value} {es : List Se} (h : RowW G w X d v es) (h1 : d'.n = d.n) (h2 : d'.ops = d.ops) (h3 : d'.left = 0) (h4 : d'.dead = false) : RowW G ((w.setCell ⟨X, 4, none⟩ (.bool false)).setCell ⟨X, 3, none⟩ (.int .i64 0)) X d' v es := by
  have ho := (off1 w X 4 (.bool false)).trans (off1 _ X 3 (.int .i64 0))
  have hb : ((w.setCell ⟨X, 4, none⟩ (.bool false)).setCell ⟨X, 3, none⟩ (.int .i64 0)).heap[X]? = some (.cells (rdC d' v) 53 (0, 0)) := by simp [World.setCell, Array.getElem?_modify, h.blk, rdC, h1, h2, h3, h4]
  generalize (w.setCell ⟨X, 4, none⟩ (.bool false)).setCell ⟨X, 3, none⟩ (.int .i64 0) = Z at ho hb ⊢
  have cT : ∀ e, e ≠ 53 → ∀ x, x = X → ∀ cs, w.heap[x]? ≠ some (.cells cs e (0, 0)) := by
    rintro e he x rfl cs hx
    rw [h.blk] at hx
    injection hx with hx
    injection hx with _ hx _
    exact he hx.symm
  have mv : ∀ v b, secAt G w v b → secAt G Z v b := fun v b x => x.off ho (cT _ (by decide))
  exact ⟨hb, h.gX, ho.row h.row (cT _ (by decide)), h.gR, fun e he => ⟨mv _ _ (h.dat e he).1, mv _ _ (h.dat e he).2⟩, fun g hg => Nat.lt_of_lt_of_le (h.lt g hg) ho.size⟩
set_option maxHeartbeats 4000000 in
theorem c_rCrash {G : Nat → Prop} (w : World) (X : Nat) (d : Dk) (pv : Value) (ps : List Int) (h : RefAt G w X d) (hv : ItAt w pv ps) (hp64 : ∀ p ∈ ps, I64 p) (hvG : ∀ a n c, pv = .slice (some a) n c → ps ≠ [] → ¬ G a.block) (hpl : ps.length < 1000000) : Calls Try.prog 23 #[.pointer (some ⟨X, 0, none⟩), pv] w fun e w' => e = .returned (.int .i64 (d.bu.length : Nat)) ∧ RTurn G X (d.crash ps) w w' := by
  obtain ⟨s, v, es, h⟩ := h
  have SM : Hid (es.length ≤ 4096) := Lib.hid h.small
  have H := Lib.hid h
  have R0 := h.rows
  clear h
  replace hvG := Lib.hid hvG
  replace hp64 := Lib.hid hp64
  have HV := Lib.hid hv
  obtain ⟨ad, c, rfl, _⟩ := hv
  go_enter Try.func23, Try.ntmps23
  go_wp2_with fail
  have C0 : Hid (CrW G w w X d v es ps 0 0 G []) := Lib.hid (CrW.start R0 ps)
  clear R0
  go_loopw [5, 6] (fun nv kv wr => ∃ (i nn : Nat) (GG : Nat → Prop) (fs : List Se), kv = .int .i64 i ∧ nv = .int .i64 nn ∧ i ≤ es.length ∧ nn ≤ i ∧ Hid (CrW G w wr X d v es ps i nn GG fs)) (fun _ kv _ => es.length - (intOf kv).toNat)
  case atStart => exact ⟨0, 0, _, _, rfl, rfl, by omega, by omega, C0⟩
  case round =>
    clear C0
    obtain ⟨i, nn, GG, fs, rfl, rfl, hi, hnn, C⟩ := hrel
    have hlen : Hid ((fs ++ es.drop i).length = es.length) := Lib.hid (by rw [List.length_append, C.out.l, List.length_drop]; omega)
    obtain ⟨ao, cap, hvv, _, hp⟩ := C.out.r.form
    rw [hlen.out] at hvv hp
    subst hvv
    have cX : wr.cell? ⟨X, 1, none⟩ = some (.slice ao es.length cap) := C.out.r.cell 1
    have h4096 : es.length ≤ 4096 := SM.out
    by_cases hlt : i < es.length
    · have hlt' : (i : Int) < (es.length : Int) := by omega
      obtain ⟨g, rfl⟩ := hp (by omega)
      obtain ⟨e, he⟩ : ∃ e, es[i]? = some e := ⟨_, List.getElem?_eq_getElem hlt⟩
      have he2 := C.out.get.trans he
      obtain ⟨_, _, _, cd⟩ := C.out.r.rowc he2
      have hwi : Hid (wrap64 ((i : Int) + 1) = ((i + 1 : Nat) : Int)) := Lib.hid (by unfold wrap64; omega)
      have hwn : Hid (wrap64 ((nn : Int) + 1) = ((nn + 1 : Nat) : Int)) := Lib.hid (by unfold wrap64; omega)
      have HE := Lib.hid he
      have HE2 := Lib.hid he2
      clear hp he he2
      cases hdt : e.x.dirty with
      | false =>
        rw [hdt] at cd
        have CN := Lib.hid (C.out.clean HE.out hdt)
        clear hdt
        go_wp2_with fail
        go_roundw
        case rel => exact ⟨i + 1, nn, _, _, by go_num, rfl, by omega, by omega, CN⟩
        case measure => simp [intOf]; omega
      | true =>
        rw [hdt] at cd
        replace hdt := Lib.hid hdt
        have hd := C.out.r.dat e (List.mem_of_getElem? HE2.out)
        obtain ⟨⟨go, co, hvo, _, hol, hro⟩, ⟨gl, cl, hvl, _, hll, hrl⟩⟩ := hd
        have hco : 128 ≤ co := (row_blk (by rw [hvo] at hro; exact hro)).2.1
        have hcl : 128 ≤ cl := (row_blk (by rw [hvl] at hrl; exact hrl)).2.1
        replace hvo := Lib.hid hvo
        replace hvl := Lib.hid hvl
        replace hol := Lib.hid hol
        replace hll := Lib.hid hll
        clear hro hrl
        obtain ⟨kk, hkk⟩ : ∃ kk, pickOf (ps.drop nn) = kk := ⟨_, rfl⟩
        have hk128 : kk ≤ 128 := by rw [← hkk]; exact pickOf_le _
        replace hkk := Lib.hid hkk
        replace hk128 := Lib.hid hk128
        go_upto_if 29 with fail
        go_cut [7] from 29 to 39 (fun kv wx => kv = .int .i64 (kk : Int) ∧ wx = wr)
        case first =>
          by_cases hpk : nn < ps.length
          · have hpk' : (nn : Int) < (ps.length : Int) := by omega
            obtain ⟨pp, hpp⟩ : ∃ y, ps[nn]? = some y := ⟨_, List.getElem?_eq_getElem hpk⟩
            have hp6 := hp64.out pp (List.mem_of_getElem? hpp)
            obtain ⟨t, ht, ht1, ht2⟩ : ∃ t, pp.tmod 129 = t ∧ -129 < t ∧ t < 129 := ⟨_, rfl, (tmod_facts pp 129 (by decide)).1, (tmod_facts pp 129 (by decide)).2.1⟩
            have hkt : Hid ((kk : Int) = (t + 129) % 129) := Lib.hid (by
              rw [← hkk.out, List.drop_eq_getElem_cons hpk, (List.getElem?_eq_some_iff.1 hpp).2]
              show ((pick pp : Nat) : Int) = _
              unfold pick
              rw [ht]
              omega)
            obtain ⟨ad', c', hqv, hcv⟩ := HV.out
            cases hqv
            obtain ⟨gp, op, hqp, hcp⟩ := hcv nn pp hpp
            subst hqp
            have pcell : wr.cell? ⟨gp, op + nn, none⟩ = some (.int .i64 pp) := off_cell C.out.o hcp (show ¬ G gp from hvG.out ⟨gp, op, none⟩ _ _ rfl (fun e9 => by rw [e9] at hpp; simp at hpp))
            replace hp6 := Lib.hid hp6
            replace hpp := Lib.hid hpp
            clear hcv hcp
            by_cases ht0 : t < 0
            · go_wp2_with fail
              go_meet
              case rel => exact ⟨by rw [hkt.out]; congr 1; omega, rfl⟩
            · go_wp2_with fail
              go_meet
              case rel => exact ⟨by rw [hkt.out]; congr 1; omega, rfl⟩
          · have hpk' : ¬ (nn : Int) < (ps.length : Int) := by omega
            have hk0 : Hid (kk = 0) := Lib.hid (by rw [← hkk.out, List.drop_eq_nil_of_le (by omega)]; rfl)
            go_wp2_with fail
            go_meet
            case rel => exact ⟨by rw [hk0.out]; rfl, rfl⟩
        case rest =>
          obtain ⟨rfl, rfl⟩ := hcut
          go_upto_region 12 with fail
          go_cut [] from 42 to 71 (fun wx => Hid (∃ w7 gb cb, Below wc.heap.size wc w7 ∧ w7.ownsRow wc.heap.size 5 1 (.slice (some ⟨gb, 0, none⟩) 128 cb) 128 (bys (torn kk e.x.last e.x.on)) ∧ wx = w7.setCell ⟨g, i * 4 + 1, none⟩ (.slice (some ⟨gb, 0, none⟩) 128 cb)))
          case first =>
            by_cases hfull : co = kk
            · have hfull := Lib.hid hfull
              have RD := Lib.hid (C.out.r.below (below_drew (Below.refl _ _)))
              have LD := Lib.hid (below_drew (Below.refl wc.heap.size wc))
              have HC := C.out.r.rowc HE2.out
              have hcl0 := HC.2.2.1
              rw [hvl.out] at hcl0
              clear HC
              refine wp_region_held_drew (S := fun w' => w'.cell? ⟨X, 1, none⟩ = some (.slice (some ⟨g, 0, none⟩) es.length cap) ∧ w'.cell? ⟨g, i * 4 + 2, none⟩ = some (.slice (some ⟨gl, 0, none⟩) 128 cl)) (by kernel_rfl) ⟨cX, hcl0⟩ (fun hHeld => ?_)
              clear cX hcl0 cd
              generalize wc.drew = D at RD LD hHeld ⊢
              obtain ⟨_, co1, cl1, _⟩ := RD.out.rowc HE2.out
              rw [hvo.out] at co1
              rw [hvl.out] at cl1
              have cX1 : D.cell? ⟨X, 1, none⟩ = some (.slice (some ⟨g, 0, none⟩) es.length cap) := RD.out.cell 1
              have sS : ∀ w', Below D.heap.size D w' → w'.cell? ⟨X, 1, none⟩ = some (.slice (some ⟨g, 0, none⟩) es.length cap) ∧ w'.cell? ⟨g, i * 4 + 2, none⟩ = some (.slice (some ⟨gl, 0, none⟩) 128 cl) := fun w' h => ⟨off_cell (.of_below (ex := fun _ => False) h) cX1 (fun h => h), off_cell (.of_below (ex := fun _ => False) h) cl1 (fun h => h)⟩
              have hd := RD.out.dat e (List.mem_of_getElem? HE2.out)
              have BO : Hid (BtAt D (.slice (some ⟨go, 0, none⟩) 128 co) e.x.on) := Lib.hid (by rw [← hvo.out]; exact hd.1.row.bt)
              have BL : Hid (BtAt D (.slice (some ⟨gl, 0, none⟩) 128 cl) e.x.last) := Lib.hid (by rw [← hvl.out]; exact hd.2.row.bt)
              have hlenL : Hid ((bys (e.x.last.take kk)).length = kk * 1) := Lib.hid (by have h1 := hll.out; have h2 := hk128.out; rw [bys_len, List.length_take]; omega)
              have hlenO : Hid ((bys (e.x.on.drop kk)).length = (128 - kk) * 1) := Lib.hid (by have h1 := hol.out; have h2 := hk128.out; rw [bys_len, List.length_drop]; omega)
              obtain ⟨i0, hin0, hz0, hz1, hz2⟩ := info_parts A.infoB
              have hkl : kk ≤ cl := by have := hk128.out; omega
              have hko : kk ≤ co := by have := hk128.out; omega
              have hk1 : (kk : Int) ≤ 128 := by have := hk128.out; omega
              clear hd cl1 cX1
              try simp only [Act.put, List.setIfInBounds_toArray, List.set_cons_zero, List.set_cons_succ]
              refine wpAnyH_take (i := 0) (oi := ⟨_, _, _, _, _, _⟩) (v := ?_) rfl (by kernel_rfl) (by kernel_rfl) (by kernel_rfl) (fun _ _ _ h => h) (Or.inl ⟨by rfl, ?_⟩) (by assumption) ?_
              rotate_left
              · intro w hSw; (try dsimp only at hSw); go_split_ands; go_simp; (try with_reducible rfl)
              try simp only [Act.put, List.setIfInBounds_toArray, List.set_cons_zero, List.set_cons_succ]
              refine wpAnyH_take (i := 1) (oi := ⟨_, _, _, _, _, _⟩) (v := ?_) rfl (by kernel_rfl) (by kernel_rfl) (by kernel_rfl) (fun _ _ _ h => h) (Or.inl ⟨by rfl, ?_⟩) (by assumption) ?_
              rotate_left
              · intro w hSw; (try dsimp only at hSw); go_split_ands; go_simp; (try with_reducible rfl)
              try simp only [Act.put, List.setIfInBounds_toArray, List.set_cons_zero, List.set_cons_succ]
              refine wpAnyH_take (i := 2) (oi := ⟨_, _, _, _, _, _⟩) (v := ?_) rfl (by kernel_rfl) (by kernel_rfl) (by kernel_rfl) (fun _ _ _ h => h) (Or.inl ⟨by rfl, ?_⟩) (by assumption) ?_
              rotate_left
              · intro w hSw; (try dsimp only at hSw); go_split_ands; go_simp; (try with_reducible rfl)
              try simp only [Act.put, List.setIfInBounds_toArray, List.set_cons_zero, List.set_cons_succ]
              refine wpAnyH_take (i := 3) (oi := ⟨_, _, _, _, _, _⟩) (v := ?_) rfl (by kernel_rfl) (by kernel_rfl) (by kernel_rfl) (fun _ _ _ h => h) (Or.inl ⟨by rfl, ?_⟩) (by assumption) ?_
              rotate_left
              · intro w hSw; (try dsimp only at hSw); go_split_ands; go_simp; (try with_reducible rfl)
              try simp only [Act.put, List.setIfInBounds_toArray, List.set_cons_zero, List.set_cons_succ]
              refine wpAnyH_take (i := 4) (oi := ⟨_, _, _, _, _, _⟩) (v := ?_) rfl (by kernel_rfl) (by kernel_rfl) (by kernel_rfl) (fun _ _ _ h => h) (Or.inl ⟨by rfl, ?_⟩) (by assumption) ?_
              rotate_left
              · intro w hSw; (try dsimp only at hSw); go_split_ands; go_simp; (try with_reducible rfl)
              try simp only [Act.put, List.setIfInBounds_toArray, List.set_cons_zero, List.set_cons_succ]
              refine wpAnyH_take (i := 6) (oi := ⟨_, _, _, _, _, _⟩) (v := ?_) rfl (by kernel_rfl) (by kernel_rfl) (by kernel_rfl) (fun _ _ _ h => h) (Or.inl ⟨by rfl, ?_⟩) (by assumption) ?_
              rotate_left
              · intro w hSw; (try dsimp only at hSw); go_split_ands; go_simp; (try with_reducible rfl)
              try simp only [Act.put, List.setIfInBounds_toArray, List.set_cons_zero, List.set_cons_succ]
              refine wpAnyH_take (i := 7) (oi := ⟨_, _, _, _, _, _⟩) (v := ?_) rfl (by kernel_rfl) (by kernel_rfl) (by kernel_rfl) (fun _ _ _ h => h) (Or.inl ⟨by rfl, ?_⟩) (by assumption) ?_
              rotate_left
              · intro w hSw; (try dsimp only at hSw); go_split_ands; go_simp; (try with_reducible rfl)
              try simp only [Act.put, List.setIfInBounds_toArray, List.set_cons_zero, List.set_cons_succ]
              refine wpAnyH_take (i := 8) (oi := ⟨_, _, _, _, _, _⟩) (v := ?_) rfl (by kernel_rfl) (by kernel_rfl) (by kernel_rfl) (fun _ _ _ h => h) (Or.inl ⟨by rfl, ?_⟩) (by assumption) ?_
              rotate_left
              · intro w hSw; (try dsimp only at hSw); go_split_ands; go_simp; (try with_reducible rfl)
              try simp only [Act.put, List.setIfInBounds_toArray, List.set_cons_zero, List.set_cons_succ]
              refine wpAnyH_take (i := 9) (oi := ⟨_, _, _, _, _, _⟩) (v := ?_) rfl (by kernel_rfl) (by kernel_rfl) (by kernel_rfl) (fun _ _ _ h => h) (Or.inl ⟨by rfl, ?_⟩) (by assumption) ?_
              rotate_left
              · intro w hSw; (try dsimp only at hSw); go_split_ands; go_simp; (try with_reducible rfl)
              try simp only [Act.put, List.setIfInBounds_toArray, List.set_cons_zero, List.set_cons_succ]
              refine wpAnyH_take (i := 10) (oi := ⟨_, _, _, _, _, _⟩) (v := ?_) rfl (by kernel_rfl) (by kernel_rfl) (by kernel_rfl) (fun _ _ _ h => h) (Or.inl ⟨by rfl, ?_⟩) (by assumption) ?_
              rotate_left
              · intro w hSw; (try dsimp only at hSw); go_split_ands; go_simp; (try with_reducible rfl)
              try simp only [Act.put, List.setIfInBounds_toArray, List.set_cons_zero, List.set_cons_succ]
              refine wpAnyH_take (i := 11) (oi := ⟨_, _, _, _, _, _⟩) (v := ?_) rfl (by kernel_rfl) (by kernel_rfl) (by kernel_rfl) (fun _ _ _ h => h) (Or.inl ⟨by rfl, ?_⟩) (by assumption) ?_
              rotate_left
              · intro w hSw; (try dsimp only at hSw); go_split_ands; go_simp; (try with_reducible rfl)
              try simp only [Act.put, List.setIfInBounds_toArray, List.set_cons_zero, List.set_cons_succ]
              refine wpAnyH_take (i := 12) (oi := ⟨_, _, _, _, _, _⟩) (v := ?_) rfl (by kernel_rfl) (by kernel_rfl) (by kernel_rfl) (fun _ _ _ h => h) (Or.inl ⟨by rfl, ?_⟩) (by assumption) ?_
              rotate_left
              · intro w hSw; (try dsimp only at hSw); go_split_ands; go_simp; (try with_reducible rfl)
              try simp only [Act.put, List.setIfInBounds_toArray, List.set_cons_zero, List.set_cons_succ]
              refine wpAnyH_take (i := 13) (oi := ⟨_, _, _, _, _, _⟩) (v := ?_) rfl (by kernel_rfl) (by kernel_rfl) (by kernel_rfl) (fun _ _ _ h => h) (Or.inl ⟨by rfl, ?_⟩) (by assumption) ?_
              rotate_left
              · intro w hSw; (try dsimp only at hSw); go_split_ands; go_simp; (try with_reducible rfl)
              try simp only [Act.put, List.setIfInBounds_toArray, List.set_cons_zero, List.set_cons_succ]
              refine wpAnyH_take (i := 14) (oi := ⟨_, _, _, _, _, _⟩) (v := ?_) rfl (by kernel_rfl) (by kernel_rfl) (by kernel_rfl) (fun _ _ _ h => h) (Or.inl ⟨by rfl, ?_⟩) (by assumption) ?_
              rotate_left
              · intro w hSw; (try dsimp only at hSw); go_split_ands; go_simp; (try with_reducible rfl)
              try simp only [Act.put, List.setIfInBounds_toArray, List.set_cons_zero, List.set_cons_succ]
              refine wpAnyH_take (i := 15) (oi := ⟨_, _, _, _, _, _⟩) (v := ?_) rfl (by kernel_rfl) (by kernel_rfl) (by kernel_rfl) (fun _ _ _ h => h) (Or.inl ⟨by rfl, ?_⟩) (by assumption) ?_
              rotate_left
              · intro w hSw; (try dsimp only at hSw); go_split_ands; go_simp; (try with_reducible rfl)
              try simp only [Act.put, List.setIfInBounds_toArray, List.set_cons_zero, List.set_cons_succ]
              refine wpAnyH_take (i := 17) (oi := ⟨_, _, _, _, _, _⟩) (v := ?_) rfl (by kernel_rfl) (by kernel_rfl) (by kernel_rfl) (fun _ _ _ h => h) (Or.inl ⟨by rfl, ?_⟩) (by assumption) ?_
              rotate_left
              · intro w hSw; (try dsimp only at hSw); go_split_ands; go_simp; (try with_reducible rfl)
              try simp only [Act.put, List.setIfInBounds_toArray, List.set_cons_zero, List.set_cons_succ]
              refine wpAnyH_take (i := 18) (oi := ⟨_, _, _, _, _, _⟩) (v := ?_) rfl (by kernel_rfl) (by kernel_rfl) (by kernel_rfl) (fun _ _ _ h => h) (Or.inl ⟨by rfl, ?_⟩) (by assumption) ?_
              rotate_left
              · intro w hSw; (try dsimp only at hSw); go_split_ands; go_simp; (try with_reducible rfl)
              try simp only [Act.put, List.setIfInBounds_toArray, List.set_cons_zero, List.set_cons_succ]
              refine wpAnyH_take (i := 19) (oi := ⟨_, _, _, _, _, _⟩) (v := ?_) rfl (by kernel_rfl) (by kernel_rfl) (by kernel_rfl) (fun _ _ _ h => h) (Or.inl ⟨by rfl, ?_⟩) (by assumption) ?_
              rotate_left
              · intro w hSw; (try dsimp only at hSw); go_split_ands; go_simp; (try with_reducible rfl)
              try simp only [Act.put, List.setIfInBounds_toArray, List.set_cons_zero, List.set_cons_succ]
              refine wpAnyH_take (i := 20) (oi := ⟨_, _, _, _, _, _⟩) (v := ?_) rfl (by kernel_rfl) (by kernel_rfl) (by kernel_rfl) (fun _ _ _ h => h) (Or.inl ⟨by rfl, ?_⟩) (by assumption) ?_
              rotate_left
              · intro w hSw; (try dsimp only at hSw); go_split_ands; go_simp; (try with_reducible rfl)
              try simp only [Act.put, List.setIfInBounds_toArray, List.set_cons_zero, List.set_cons_succ]
              refine wpAnyH_take (i := 21) (oi := ⟨_, _, _, _, _, _⟩) (v := ?_) rfl (by kernel_rfl) (by kernel_rfl) (by kernel_rfl) (fun _ _ _ h => h) (Or.inl ⟨by rfl, ?_⟩) (by assumption) ?_
              rotate_left
              · intro w hSw; (try dsimp only at hSw); go_split_ands; go_simp; (try with_reducible rfl)
              try simp only [Act.put, List.setIfInBounds_toArray, List.set_cons_zero, List.set_cons_succ]
              refine wpAnyH_take (i := 22) (oi := ⟨_, _, _, _, _, _⟩) (v := ?_) rfl (by kernel_rfl) (by kernel_rfl) (by kernel_rfl) (fun _ _ _ h => h) (Or.inl ⟨by rfl, ?_⟩) (by assumption) ?_
              rotate_left
              · intro w hSw; (try dsimp only at hSw); go_split_ands; go_simp; (try with_reducible rfl)
              try simp only [Act.put, List.setIfInBounds_toArray, List.set_cons_zero, List.set_cons_succ]
              refine wpAnyH_take (i := 23) (oi := ⟨_, _, _, _, _, _⟩) (v := ?_) rfl (by kernel_rfl) (by kernel_rfl) (by kernel_rfl) (fun _ _ _ h => h) (Or.inl ⟨by rfl, ?_⟩) (by assumption) ?_
              rotate_left
              · intro w hSw; (try dsimp only at hSw); go_split_ands; go_simp; (try with_reducible rfl)
              try simp only [Act.put, List.setIfInBounds_toArray, List.set_cons_zero, List.set_cons_succ]
              refine wpAnyH_take (i := 25) (oi := ⟨_, _, _, _, _, _⟩) (v := ?_) rfl (by kernel_rfl) (by kernel_rfl) (by kernel_rfl) (fun _ _ _ h => h) (Or.inl ⟨by rfl, ?_⟩) (by assumption) ?_
              rotate_left
              · intro w hSw; (try dsimp only at hSw); go_split_ands; go_simp; (try with_reducible rfl)
              try simp only [Act.put, List.setIfInBounds_toArray, List.set_cons_zero, List.set_cons_succ]
              refine wpAnyH_ready (rs := [5, 24]) (by kernel_rfl) (by simp) (AllReadyH.cons (o := ⟨_, _, _, _, _, _⟩) rfl (fun K hK => ?_) (AllReadyH.cons (o := ⟨_, _, _, _, _, _⟩) rfl (fun K hK => ?_) AllReadyH.nil))
              · go_simp
                refine hK.out _ _ ?_ (fun hHeld => ?_)
                · exact sS _ (below_al0 D _)
                clear hK K
                try simp only [Act.put, List.setIfInBounds_toArray, List.set_cons_zero, List.set_cons_succ]
                refine wpAnyH_ready (rs := [16, 24]) (by kernel_rfl) (by simp) (AllReadyH.cons (o := ⟨_, _, _, _, _, _⟩) rfl (fun K hK => ?_) (AllReadyH.cons (o := ⟨_, _, _, _, _, _⟩) rfl (fun K hK => ?_) AllReadyH.nil))
                · have CE := bt_cells ((bt_take BL.out hll.out hk128.out).below (below_al0 D (.cells #[] 5)))
                  (try rw [if_pos (by rfl)])
                  refine wp_append_own _ (.tmp 47) (.tmp 57) 22 rfl D.heap.size 5 i0 (.int .u8 0) 1 1 A.underB hin0 hz0 hz1 hz2 rfl (by decide) (.slice (some ⟨D.heap.size, 0, none⟩) 0 0) 0 [] rfl (row_empty D) ⟨gl, 0, none⟩ kk cl (bys (e.x.last.take kk)) rfl hlenL.out CE (bys_one _) (by have := hk128.out; unfold maxLen; omega) (by have := hk128.out; omega) (by simp) ?_
                  intro v1 w16 hown1 hgrow1 _
                  rw [Nat.zero_add, List.nil_append] at hown1
                  have B16 : Hid (Below D.heap.size D w16) := Lib.hid ((Off.of_below (ex := fun _ => False) (below_al0 D (.cells #[] 5))).grown hgrow1 (fun k hk => .inr (by cases hk; exact Nat.le_refl _))).to_below
                  replace hown1 := Lib.hid hown1
                  clear hgrow1 CE
                  refine hK.out _ _ ?_ (fun hHeld => ?_)
                  · exact sS _ B16.out
                  clear hK K
                  try simp only [Act.put, List.setIfInBounds_toArray, List.set_cons_zero, List.set_cons_succ]
                  refine wpAnyH_ready (rs := [24]) (by kernel_rfl) (by simp) (AllReadyH.cons (o := ⟨_, _, _, _, _, _⟩) rfl (fun K hK => ?_) AllReadyH.nil)
                  have tc := off_cell (.of_below (ex := fun _ => False) (B16.out : Below D.heap.size D w16)) co1 (fun h => h)
                  go_simp
                  clear tc
                  refine hK.out _ _ ?_ (fun hHeld => ?_)
                  · exact sS _ B16.out
                  clear hK K
                  try simp only [Act.put, List.setIfInBounds_toArray, List.set_cons_zero, List.set_cons_succ]
                  refine wpAnyH_take (i := 26) (oi := ⟨_, _, _, _, _, _⟩) (v := ?_) rfl (by kernel_rfl) (by kernel_rfl) (by kernel_rfl) (fun _ _ _ h => h) (Or.inl ⟨by rfl, ?_⟩) (by assumption) ?_
                  rotate_left
                  · intro w hSw; (try dsimp only at hSw); go_split_ands; go_simp; (try with_reducible rfl)
                  try simp only [Act.put, List.setIfInBounds_toArray, List.set_cons_zero, List.set_cons_succ]
                  refine wpAnyH_ready (rs := [27]) (by kernel_rfl) (by simp) (AllReadyH.cons (o := ⟨_, _, _, _, _, _⟩) rfl (fun K hK => ?_) AllReadyH.nil)
                  have hBO := bt_drop BO.out hol.out hk128.out
                  rw [if_pos hfull.out] at hBO
                  have CE := bt_cells (hBO.below B16.out)
                  (try rw [if_pos (by rfl)])
                  refine wp_append_own _ (.tmp 58) (.tmp 68) 22 rfl D.heap.size 5 i0 (.int .u8 0) 1 1 A.underB hin0 hz0 hz1 hz2 rfl (by decide) v1 kk (bys (e.x.last.take kk)) rfl hown1.out ⟨go, 0, none⟩ (128 - kk) 0 (bys (e.x.on.drop kk)) rfl hlenO.out CE (bys_one _) (by have := hk128.out; unfold maxLen; omega) (by have := hk128.out; omega) B16.out.size ?_
                  intro v2 w7 hown2 hgrow2 _
                  rw [show kk + (128 - kk) = 128 by have := hk128.out; omega, ← bys_app] at hown2
                  obtain ⟨gb, cb, hv2⟩ := row_some hown2 (by decide)
                  subst hv2
                  have B7 : Hid (Below D.heap.size D w7) := Lib.hid ((Off.of_below (ex := fun _ => False) B16.out).grown hgrow2 (fun k hk => .inr (row_own_ge hown1.out k hk))).to_below
                  replace hown2 := Lib.hid hown2
                  clear hgrow2 CE hBO
                  refine hK.out _ _ ?_ (fun hHeld => ?_)
                  · exact sS _ B7.out
                  clear hK K
                  try simp only [Act.put, List.setIfInBounds_toArray, List.set_cons_zero, List.set_cons_succ]
                  refine wpAnyH_take (i := 28) (oi := ⟨_, _, _, _, _, _⟩) (v := ?_) rfl (by kernel_rfl) (by kernel_rfl) (by kernel_rfl) (fun _ _ _ h => h) (Or.inl ⟨by rfl, ?_⟩) (by assumption) ?_
                  rotate_left
                  · intro w hSw; (try dsimp only at hSw); go_split_ands; go_simp; (try with_reducible rfl)
                  try simp only [Act.put, List.setIfInBounds_toArray, List.set_cons_zero, List.set_cons_succ]
                  refine wpAnyH_take (i := 29) (oi := ⟨_, _, _, _, _, _⟩) (v := ?_) rfl (by kernel_rfl) (by kernel_rfl) (by kernel_rfl) (fun _ _ _ h => h) (Or.inl ⟨by rfl, ?_⟩) (by assumption) ?_
                  rotate_left
                  · intro w hSw; (try dsimp only at hSw); go_split_ands; go_simp; (try with_reducible rfl)
                  try simp only [Act.put, List.setIfInBounds_toArray, List.set_cons_zero, List.set_cons_succ]
                  have R7 := RD.out.below B7.out
                  obtain ⟨_, c71, _, _⟩ := R7.rowc HE2.out
                  have f7 := fun j => row_free R7.row j
                  obtain ⟨_, m1, _, m2, _⟩ := RD.out.mid (v := .slice (some ⟨gb, 0, none⟩) 128 cb) HE2.out B7.out (Below.refl _ _)
                  rw [hvl.out] at m2
                  replace R7 := Lib.hid R7
                  clear B16 hown1
                  refine wpAnyH_ready (rs := [30]) (by kernel_rfl) (by simp) (AllReadyH.cons (o := ⟨_, _, _, _, _, _⟩) rfl (fun K hK => ?_) AllReadyH.nil)
                  go_simp
                  refine hK.out _ _ ?_ (fun hHeld => ?_)
                  · exact ⟨m1, m2⟩
                  clear hK K
                  try simp only [Act.put, List.setIfInBounds_toArray, List.set_cons_zero, List.set_cons_succ]
                  clear m1 m2 c71 f7 R7
                  refine wpAnyH_done (by kernel_rfl) ?_ _
                  have REL : Hid (∃ w7' gb' cb', Below wc.heap.size wc w7' ∧ w7'.ownsRow wc.heap.size 5 1 (.slice (some ⟨gb', 0, none⟩) 128 cb') 128 (bys (torn kk e.x.last e.x.on)) ∧ w7.setCell ⟨g, i * 4 + 1, none⟩ (.slice (some ⟨gb, 0, none⟩) 128 cb) = w7'.setCell ⟨g, i * 4 + 1, none⟩ (.slice (some ⟨gb', 0, none⟩) 128 cb')) := Lib.hid ⟨w7, gb, cb, below2 LD.out B7.out, row_base hown2.out LD.out.size, rfl⟩
                  go_wp2_with fail
                  go_meet
                  case rel => exact REL
                · have tc := off_cell (.of_below (ex := fun _ => False) ((below_al0 D _) : Below D.heap.size D (D.alloc (.cells #[] 5)))) co1 (fun h => h)
                  go_simp
                  clear tc
                  refine hK.out _ _ ?_ (fun hHeld => ?_)
                  · exact sS _ (below_al0 D _)
                  clear hK K
                  try simp only [Act.put, List.setIfInBounds_toArray, List.set_cons_zero, List.set_cons_succ]
                  refine wpAnyH_take (i := 26) (oi := ⟨_, _, _, _, _, _⟩) (v := ?_) rfl (by kernel_rfl) (by kernel_rfl) (by kernel_rfl) (fun _ _ _ h => h) (Or.inl ⟨by rfl, ?_⟩) (by assumption) ?_
                  rotate_left
                  · intro w hSw; (try dsimp only at hSw); go_split_ands; go_simp; (try with_reducible rfl)
                  try simp only [Act.put, List.setIfInBounds_toArray, List.set_cons_zero, List.set_cons_succ]
                  refine wpAnyH_ready (rs := [16]) (by kernel_rfl) (by simp) (AllReadyH.cons (o := ⟨_, _, _, _, _, _⟩) rfl (fun K hK => ?_) AllReadyH.nil)
                  have CE := bt_cells ((bt_take BL.out hll.out hk128.out).below (below_al0 D (.cells #[] 5)))
                  (try rw [if_pos (by rfl)])
                  refine wp_append_own _ (.tmp 47) (.tmp 57) 22 rfl D.heap.size 5 i0 (.int .u8 0) 1 1 A.underB hin0 hz0 hz1 hz2 rfl (by decide) (.slice (some ⟨D.heap.size, 0, none⟩) 0 0) 0 [] rfl (row_empty D) ⟨gl, 0, none⟩ kk cl (bys (e.x.last.take kk)) rfl hlenL.out CE (bys_one _) (by have := hk128.out; unfold maxLen; omega) (by have := hk128.out; omega) (by simp) ?_
                  intro v1 w16 hown1 hgrow1 _
                  rw [Nat.zero_add, List.nil_append] at hown1
                  have B16 : Hid (Below D.heap.size D w16) := Lib.hid ((Off.of_below (ex := fun _ => False) (below_al0 D (.cells #[] 5))).grown hgrow1 (fun k hk => .inr (by cases hk; exact Nat.le_refl _))).to_below
                  replace hown1 := Lib.hid hown1
                  clear hgrow1 CE
                  refine hK.out _ _ ?_ (fun hHeld => ?_)
                  · exact sS _ B16.out
                  clear hK K
                  try simp only [Act.put, List.setIfInBounds_toArray, List.set_cons_zero, List.set_cons_succ]
                  refine wpAnyH_ready (rs := [27]) (by kernel_rfl) (by simp) (AllReadyH.cons (o := ⟨_, _, _, _, _, _⟩) rfl (fun K hK => ?_) AllReadyH.nil)
                  have hBO := bt_drop BO.out hol.out hk128.out
                  rw [if_pos hfull.out] at hBO
                  have CE := bt_cells (hBO.below B16.out)
                  (try rw [if_pos (by rfl)])
                  refine wp_append_own _ (.tmp 58) (.tmp 68) 22 rfl D.heap.size 5 i0 (.int .u8 0) 1 1 A.underB hin0 hz0 hz1 hz2 rfl (by decide) v1 kk (bys (e.x.last.take kk)) rfl hown1.out ⟨go, 0, none⟩ (128 - kk) 0 (bys (e.x.on.drop kk)) rfl hlenO.out CE (bys_one _) (by have := hk128.out; unfold maxLen; omega) (by have := hk128.out; omega) B16.out.size ?_
                  intro v2 w7 hown2 hgrow2 _
                  rw [show kk + (128 - kk) = 128 by have := hk128.out; omega, ← bys_app] at hown2
                  obtain ⟨gb, cb, hv2⟩ := row_some hown2 (by decide)
                  subst hv2
                  have B7 : Hid (Below D.heap.size D w7) := Lib.hid ((Off.of_below (ex := fun _ => False) B16.out).grown hgrow2 (fun k hk => .inr (row_own_ge hown1.out k hk))).to_below
                  replace hown2 := Lib.hid hown2
                  clear hgrow2 CE hBO
                  refine hK.out _ _ ?_ (fun hHeld => ?_)
                  · exact sS _ B7.out
                  clear hK K
                  try simp only [Act.put, List.setIfInBounds_toArray, List.set_cons_zero, List.set_cons_succ]
                  refine wpAnyH_take (i := 28) (oi := ⟨_, _, _, _, _, _⟩) (v := ?_) rfl (by kernel_rfl) (by kernel_rfl) (by kernel_rfl) (fun _ _ _ h => h) (Or.inl ⟨by rfl, ?_⟩) (by assumption) ?_
                  rotate_left
                  · intro w hSw; (try dsimp only at hSw); go_split_ands; go_simp; (try with_reducible rfl)
                  try simp only [Act.put, List.setIfInBounds_toArray, List.set_cons_zero, List.set_cons_succ]
                  refine wpAnyH_take (i := 29) (oi := ⟨_, _, _, _, _, _⟩) (v := ?_) rfl (by kernel_rfl) (by kernel_rfl) (by kernel_rfl) (fun _ _ _ h => h) (Or.inl ⟨by rfl, ?_⟩) (by assumption) ?_
                  rotate_left
                  · intro w hSw; (try dsimp only at hSw); go_split_ands; go_simp; (try with_reducible rfl)
                  try simp only [Act.put, List.setIfInBounds_toArray, List.set_cons_zero, List.set_cons_succ]
                  have R7 := RD.out.below B7.out
                  obtain ⟨_, c71, _, _⟩ := R7.rowc HE2.out
                  have f7 := fun j => row_free R7.row j
                  obtain ⟨_, m1, _, m2, _⟩ := RD.out.mid (v := .slice (some ⟨gb, 0, none⟩) 128 cb) HE2.out B7.out (Below.refl _ _)
                  rw [hvl.out] at m2
                  replace R7 := Lib.hid R7
                  clear B16 hown1
                  refine wpAnyH_ready (rs := [30]) (by kernel_rfl) (by simp) (AllReadyH.cons (o := ⟨_, _, _, _, _, _⟩) rfl (fun K hK => ?_) AllReadyH.nil)
                  go_simp
                  refine hK.out _ _ ?_ (fun hHeld => ?_)
                  · exact ⟨m1, m2⟩
                  clear hK K
                  try simp only [Act.put, List.setIfInBounds_toArray, List.set_cons_zero, List.set_cons_succ]
                  clear m1 m2 c71 f7 R7
                  refine wpAnyH_done (by kernel_rfl) ?_ _
                  have REL : Hid (∃ w7' gb' cb', Below wc.heap.size wc w7' ∧ w7'.ownsRow wc.heap.size 5 1 (.slice (some ⟨gb', 0, none⟩) 128 cb') 128 (bys (torn kk e.x.last e.x.on)) ∧ w7.setCell ⟨g, i * 4 + 1, none⟩ (.slice (some ⟨gb, 0, none⟩) 128 cb) = w7'.setCell ⟨g, i * 4 + 1, none⟩ (.slice (some ⟨gb', 0, none⟩) 128 cb')) := Lib.hid ⟨w7, gb, cb, below2 LD.out B7.out, row_base hown2.out LD.out.size, rfl⟩
                  go_wp2_with fail
                  go_meet
                  case rel => exact REL
              · have tc := off_cell (.of_below (ex := fun _ => False) ((Below.refl _ _) : Below D.heap.size D D)) co1 (fun h => h)
                go_simp
                clear tc
                refine hK.out _ _ ?_ (fun hHeld => ?_)
                · exact sS _ (Below.refl _ _)
                clear hK K
                try simp only [Act.put, List.setIfInBounds_toArray, List.set_cons_zero, List.set_cons_succ]
                refine wpAnyH_take (i := 26) (oi := ⟨_, _, _, _, _, _⟩) (v := ?_) rfl (by kernel_rfl) (by kernel_rfl) (by kernel_rfl) (fun _ _ _ h => h) (Or.inl ⟨by rfl, ?_⟩) (by assumption) ?_
                rotate_left
                · intro w hSw; (try dsimp only at hSw); go_split_ands; go_simp; (try with_reducible rfl)
                try simp only [Act.put, List.setIfInBounds_toArray, List.set_cons_zero, List.set_cons_succ]
                refine wpAnyH_ready (rs := [5]) (by kernel_rfl) (by simp) (AllReadyH.cons (o := ⟨_, _, _, _, _, _⟩) rfl (fun K hK => ?_) AllReadyH.nil)
                go_simp
                refine hK.out _ _ ?_ (fun hHeld => ?_)
                · exact sS _ (below_al0 D _)
                clear hK K
                try simp only [Act.put, List.setIfInBounds_toArray, List.set_cons_zero, List.set_cons_succ]
                refine wpAnyH_ready (rs := [16]) (by kernel_rfl) (by simp) (AllReadyH.cons (o := ⟨_, _, _, _, _, _⟩) rfl (fun K hK => ?_) AllReadyH.nil)
                have CE := bt_cells ((bt_take BL.out hll.out hk128.out).below (below_al0 D (.cells #[] 5)))
                (try rw [if_pos (by rfl)])
                refine wp_append_own _ (.tmp 47) (.tmp 57) 22 rfl D.heap.size 5 i0 (.int .u8 0) 1 1 A.underB hin0 hz0 hz1 hz2 rfl (by decide) (.slice (some ⟨D.heap.size, 0, none⟩) 0 0) 0 [] rfl (row_empty D) ⟨gl, 0, none⟩ kk cl (bys (e.x.last.take kk)) rfl hlenL.out CE (bys_one _) (by have := hk128.out; unfold maxLen; omega) (by have := hk128.out; omega) (by simp) ?_
                intro v1 w16 hown1 hgrow1 _
                rw [Nat.zero_add, List.nil_append] at hown1
                have B16 : Hid (Below D.heap.size D w16) := Lib.hid ((Off.of_below (ex := fun _ => False) (below_al0 D (.cells #[] 5))).grown hgrow1 (fun k hk => .inr (by cases hk; exact Nat.le_refl _))).to_below
                replace hown1 := Lib.hid hown1
                clear hgrow1 CE
                refine hK.out _ _ ?_ (fun hHeld => ?_)
                · exact sS _ B16.out
                clear hK K
                try simp only [Act.put, List.setIfInBounds_toArray, List.set_cons_zero, List.set_cons_succ]
                refine wpAnyH_ready (rs := [27]) (by kernel_rfl) (by simp) (AllReadyH.cons (o := ⟨_, _, _, _, _, _⟩) rfl (fun K hK => ?_) AllReadyH.nil)
                have hBO := bt_drop BO.out hol.out hk128.out
                rw [if_pos hfull.out] at hBO
                have CE := bt_cells (hBO.below B16.out)
                (try rw [if_pos (by rfl)])
                refine wp_append_own _ (.tmp 58) (.tmp 68) 22 rfl D.heap.size 5 i0 (.int .u8 0) 1 1 A.underB hin0 hz0 hz1 hz2 rfl (by decide) v1 kk (bys (e.x.last.take kk)) rfl hown1.out ⟨go, 0, none⟩ (128 - kk) 0 (bys (e.x.on.drop kk)) rfl hlenO.out CE (bys_one _) (by have := hk128.out; unfold maxLen; omega) (by have := hk128.out; omega) B16.out.size ?_
                intro v2 w7 hown2 hgrow2 _
                rw [show kk + (128 - kk) = 128 by have := hk128.out; omega, ← bys_app] at hown2
                obtain ⟨gb, cb, hv2⟩ := row_some hown2 (by decide)
                subst hv2
                have B7 : Hid (Below D.heap.size D w7) := Lib.hid ((Off.of_below (ex := fun _ => False) B16.out).grown hgrow2 (fun k hk => .inr (row_own_ge hown1.out k hk))).to_below
                replace hown2 := Lib.hid hown2
                clear hgrow2 CE hBO
                refine hK.out _ _ ?_ (fun hHeld => ?_)
                · exact sS _ B7.out
                clear hK K
                try simp only [Act.put, List.setIfInBounds_toArray, List.set_cons_zero, List.set_cons_succ]
                refine wpAnyH_take (i := 28) (oi := ⟨_, _, _, _, _, _⟩) (v := ?_) rfl (by kernel_rfl) (by kernel_rfl) (by kernel_rfl) (fun _ _ _ h => h) (Or.inl ⟨by rfl, ?_⟩) (by assumption) ?_
                rotate_left
                · intro w hSw; (try dsimp only at hSw); go_split_ands; go_simp; (try with_reducible rfl)
                try simp only [Act.put, List.setIfInBounds_toArray, List.set_cons_zero, List.set_cons_succ]
                refine wpAnyH_take (i := 29) (oi := ⟨_, _, _, _, _, _⟩) (v := ?_) rfl (by kernel_rfl) (by kernel_rfl) (by kernel_rfl) (fun _ _ _ h => h) (Or.inl ⟨by rfl, ?_⟩) (by assumption) ?_
                rotate_left
                · intro w hSw; (try dsimp only at hSw); go_split_ands; go_simp; (try with_reducible rfl)
                try simp only [Act.put, List.setIfInBounds_toArray, List.set_cons_zero, List.set_cons_succ]
                have R7 := RD.out.below B7.out
                obtain ⟨_, c71, _, _⟩ := R7.rowc HE2.out
                have f7 := fun j => row_free R7.row j
                obtain ⟨_, m1, _, m2, _⟩ := RD.out.mid (v := .slice (some ⟨gb, 0, none⟩) 128 cb) HE2.out B7.out (Below.refl _ _)
                rw [hvl.out] at m2
                replace R7 := Lib.hid R7
                clear B16 hown1
                refine wpAnyH_ready (rs := [30]) (by kernel_rfl) (by simp) (AllReadyH.cons (o := ⟨_, _, _, _, _, _⟩) rfl (fun K hK => ?_) AllReadyH.nil)
                go_simp
                refine hK.out _ _ ?_ (fun hHeld => ?_)
                · exact ⟨m1, m2⟩
                clear hK K
                try simp only [Act.put, List.setIfInBounds_toArray, List.set_cons_zero, List.set_cons_succ]
                clear m1 m2 c71 f7 R7
                refine wpAnyH_done (by kernel_rfl) ?_ _
                have REL : Hid (∃ w7' gb' cb', Below wc.heap.size wc w7' ∧ w7'.ownsRow wc.heap.size 5 1 (.slice (some ⟨gb', 0, none⟩) 128 cb') 128 (bys (torn kk e.x.last e.x.on)) ∧ w7.setCell ⟨g, i * 4 + 1, none⟩ (.slice (some ⟨gb, 0, none⟩) 128 cb) = w7'.setCell ⟨g, i * 4 + 1, none⟩ (.slice (some ⟨gb', 0, none⟩) 128 cb')) := Lib.hid ⟨w7, gb, cb, below2 LD.out B7.out, row_base hown2.out LD.out.size, rfl⟩
                go_wp2_with fail
                go_meet
                case rel => exact REL

            · have hfull := Lib.hid hfull
              have RD := Lib.hid (C.out.r.below (below_drew (Below.refl _ _)))
              have LD := Lib.hid (below_drew (Below.refl wc.heap.size wc))
              have HC := C.out.r.rowc HE2.out
              have hcl0 := HC.2.2.1
              rw [hvl.out] at hcl0
              clear HC
              refine wp_region_held_drew (S := fun w' => w'.cell? ⟨X, 1, none⟩ = some (.slice (some ⟨g, 0, none⟩) es.length cap) ∧ w'.cell? ⟨g, i * 4 + 2, none⟩ = some (.slice (some ⟨gl, 0, none⟩) 128 cl)) (by kernel_rfl) ⟨cX, hcl0⟩ (fun hHeld => ?_)
              clear cX hcl0 cd
              generalize wc.drew = D at RD LD hHeld ⊢
              obtain ⟨_, co1, cl1, _⟩ := RD.out.rowc HE2.out
              rw [hvo.out] at co1
              rw [hvl.out] at cl1
              have cX1 : D.cell? ⟨X, 1, none⟩ = some (.slice (some ⟨g, 0, none⟩) es.length cap) := RD.out.cell 1
              have sS : ∀ w', Below D.heap.size D w' → w'.cell? ⟨X, 1, none⟩ = some (.slice (some ⟨g, 0, none⟩) es.length cap) ∧ w'.cell? ⟨g, i * 4 + 2, none⟩ = some (.slice (some ⟨gl, 0, none⟩) 128 cl) := fun w' h => ⟨off_cell (.of_below (ex := fun _ => False) h) cX1 (fun h => h), off_cell (.of_below (ex := fun _ => False) h) cl1 (fun h => h)⟩
              have hd := RD.out.dat e (List.mem_of_getElem? HE2.out)
              have BO : Hid (BtAt D (.slice (some ⟨go, 0, none⟩) 128 co) e.x.on) := Lib.hid (by rw [← hvo.out]; exact hd.1.row.bt)
              have BL : Hid (BtAt D (.slice (some ⟨gl, 0, none⟩) 128 cl) e.x.last) := Lib.hid (by rw [← hvl.out]; exact hd.2.row.bt)
              have hlenL : Hid ((bys (e.x.last.take kk)).length = kk * 1) := Lib.hid (by have h1 := hll.out; have h2 := hk128.out; rw [bys_len, List.length_take]; omega)
              have hlenO : Hid ((bys (e.x.on.drop kk)).length = (128 - kk) * 1) := Lib.hid (by have h1 := hol.out; have h2 := hk128.out; rw [bys_len, List.length_drop]; omega)
              obtain ⟨i0, hin0, hz0, hz1, hz2⟩ := info_parts A.infoB
              have hkl : kk ≤ cl := by have := hk128.out; omega
              have hko : kk ≤ co := by have := hk128.out; omega
              have hk1 : (kk : Int) ≤ 128 := by have := hk128.out; omega
              clear hd cl1 cX1
              try simp only [Act.put, List.setIfInBounds_toArray, List.set_cons_zero, List.set_cons_succ]
              refine wpAnyH_take (i := 0) (oi := ⟨_, _, _, _, _, _⟩) (v := ?_) rfl (by kernel_rfl) (by kernel_rfl) (by kernel_rfl) (fun _ _ _ h => h) (Or.inl ⟨by rfl, ?_⟩) (by assumption) ?_
              rotate_left
              · intro w hSw; (try dsimp only at hSw); go_split_ands; go_simp; (try with_reducible rfl)
              try simp only [Act.put, List.setIfInBounds_toArray, List.set_cons_zero, List.set_cons_succ]
              refine wpAnyH_take (i := 1) (oi := ⟨_, _, _, _, _, _⟩) (v := ?_) rfl (by kernel_rfl) (by kernel_rfl) (by kernel_rfl) (fun _ _ _ h => h) (Or.inl ⟨by rfl, ?_⟩) (by assumption) ?_
              rotate_left
              · intro w hSw; (try dsimp only at hSw); go_split_ands; go_simp; (try with_reducible rfl)
              try simp only [Act.put, List.setIfInBounds_toArray, List.set_cons_zero, List.set_cons_succ]
              refine wpAnyH_take (i := 2) (oi := ⟨_, _, _, _, _, _⟩) (v := ?_) rfl (by kernel_rfl) (by kernel_rfl) (by kernel_rfl) (fun _ _ _ h => h) (Or.inl ⟨by rfl, ?_⟩) (by assumption) ?_
              rotate_left
              · intro w hSw; (try dsimp only at hSw); go_split_ands; go_simp; (try with_reducible rfl)
              try simp only [Act.put, List.setIfInBounds_toArray, List.set_cons_zero, List.set_cons_succ]
              refine wpAnyH_take (i := 3) (oi := ⟨_, _, _, _, _, _⟩) (v := ?_) rfl (by kernel_rfl) (by kernel_rfl) (by kernel_rfl) (fun _ _ _ h => h) (Or.inl ⟨by rfl, ?_⟩) (by assumption) ?_
              rotate_left
              · intro w hSw; (try dsimp only at hSw); go_split_ands; go_simp; (try with_reducible rfl)
              try simp only [Act.put, List.setIfInBounds_toArray, List.set_cons_zero, List.set_cons_succ]
              refine wpAnyH_take (i := 4) (oi := ⟨_, _, _, _, _, _⟩) (v := ?_) rfl (by kernel_rfl) (by kernel_rfl) (by kernel_rfl) (fun _ _ _ h => h) (Or.inl ⟨by rfl, ?_⟩) (by assumption) ?_
              rotate_left
              · intro w hSw; (try dsimp only at hSw); go_split_ands; go_simp; (try with_reducible rfl)
              try simp only [Act.put, List.setIfInBounds_toArray, List.set_cons_zero, List.set_cons_succ]
              refine wpAnyH_take (i := 6) (oi := ⟨_, _, _, _, _, _⟩) (v := ?_) rfl (by kernel_rfl) (by kernel_rfl) (by kernel_rfl) (fun _ _ _ h => h) (Or.inl ⟨by rfl, ?_⟩) (by assumption) ?_
              rotate_left
              · intro w hSw; (try dsimp only at hSw); go_split_ands; go_simp; (try with_reducible rfl)
              try simp only [Act.put, List.setIfInBounds_toArray, List.set_cons_zero, List.set_cons_succ]
              refine wpAnyH_take (i := 7) (oi := ⟨_, _, _, _, _, _⟩) (v := ?_) rfl (by kernel_rfl) (by kernel_rfl) (by kernel_rfl) (fun _ _ _ h => h) (Or.inl ⟨by rfl, ?_⟩) (by assumption) ?_
              rotate_left
              · intro w hSw; (try dsimp only at hSw); go_split_ands; go_simp; (try with_reducible rfl)
              try simp only [Act.put, List.setIfInBounds_toArray, List.set_cons_zero, List.set_cons_succ]
              refine wpAnyH_take (i := 8) (oi := ⟨_, _, _, _, _, _⟩) (v := ?_) rfl (by kernel_rfl) (by kernel_rfl) (by kernel_rfl) (fun _ _ _ h => h) (Or.inl ⟨by rfl, ?_⟩) (by assumption) ?_
              rotate_left
              · intro w hSw; (try dsimp only at hSw); go_split_ands; go_simp; (try with_reducible rfl)
              try simp only [Act.put, List.setIfInBounds_toArray, List.set_cons_zero, List.set_cons_succ]
              refine wpAnyH_take (i := 9) (oi := ⟨_, _, _, _, _, _⟩) (v := ?_) rfl (by kernel_rfl) (by kernel_rfl) (by kernel_rfl) (fun _ _ _ h => h) (Or.inl ⟨by rfl, ?_⟩) (by assumption) ?_
              rotate_left
              · intro w hSw; (try dsimp only at hSw); go_split_ands; go_simp; (try with_reducible rfl)
              try simp only [Act.put, List.setIfInBounds_toArray, List.set_cons_zero, List.set_cons_succ]
              refine wpAnyH_take (i := 10) (oi := ⟨_, _, _, _, _, _⟩) (v := ?_) rfl (by kernel_rfl) (by kernel_rfl) (by kernel_rfl) (fun _ _ _ h => h) (Or.inl ⟨by rfl, ?_⟩) (by assumption) ?_
              rotate_left
              · intro w hSw; (try dsimp only at hSw); go_split_ands; go_simp; (try with_reducible rfl)
              try simp only [Act.put, List.setIfInBounds_toArray, List.set_cons_zero, List.set_cons_succ]
              refine wpAnyH_take (i := 11) (oi := ⟨_, _, _, _, _, _⟩) (v := ?_) rfl (by kernel_rfl) (by kernel_rfl) (by kernel_rfl) (fun _ _ _ h => h) (Or.inl ⟨by rfl, ?_⟩) (by assumption) ?_
              rotate_left
              · intro w hSw; (try dsimp only at hSw); go_split_ands; go_simp; (try with_reducible rfl)
              try simp only [Act.put, List.setIfInBounds_toArray, List.set_cons_zero, List.set_cons_succ]
              refine wpAnyH_take (i := 12) (oi := ⟨_, _, _, _, _, _⟩) (v := ?_) rfl (by kernel_rfl) (by kernel_rfl) (by kernel_rfl) (fun _ _ _ h => h) (Or.inl ⟨by rfl, ?_⟩) (by assumption) ?_
              rotate_left
              · intro w hSw; (try dsimp only at hSw); go_split_ands; go_simp; (try with_reducible rfl)
              try simp only [Act.put, List.setIfInBounds_toArray, List.set_cons_zero, List.set_cons_succ]
              refine wpAnyH_take (i := 13) (oi := ⟨_, _, _, _, _, _⟩) (v := ?_) rfl (by kernel_rfl) (by kernel_rfl) (by kernel_rfl) (fun _ _ _ h => h) (Or.inl ⟨by rfl, ?_⟩) (by assumption) ?_
              rotate_left
              · intro w hSw; (try dsimp only at hSw); go_split_ands; go_simp; (try with_reducible rfl)
              try simp only [Act.put, List.setIfInBounds_toArray, List.set_cons_zero, List.set_cons_succ]
              refine wpAnyH_take (i := 14) (oi := ⟨_, _, _, _, _, _⟩) (v := ?_) rfl (by kernel_rfl) (by kernel_rfl) (by kernel_rfl) (fun _ _ _ h => h) (Or.inl ⟨by rfl, ?_⟩) (by assumption) ?_
              rotate_left
              · intro w hSw; (try dsimp only at hSw); go_split_ands; go_simp; (try with_reducible rfl)
              try simp only [Act.put, List.setIfInBounds_toArray, List.set_cons_zero, List.set_cons_succ]
              refine wpAnyH_take (i := 15) (oi := ⟨_, _, _, _, _, _⟩) (v := ?_) rfl (by kernel_rfl) (by kernel_rfl) (by kernel_rfl) (fun _ _ _ h => h) (Or.inl ⟨by rfl, ?_⟩) (by assumption) ?_
              rotate_left
              · intro w hSw; (try dsimp only at hSw); go_split_ands; go_simp; (try with_reducible rfl)
              try simp only [Act.put, List.setIfInBounds_toArray, List.set_cons_zero, List.set_cons_succ]
              refine wpAnyH_take (i := 17) (oi := ⟨_, _, _, _, _, _⟩) (v := ?_) rfl (by kernel_rfl) (by kernel_rfl) (by kernel_rfl) (fun _ _ _ h => h) (Or.inl ⟨by rfl, ?_⟩) (by assumption) ?_
              rotate_left
              · intro w hSw; (try dsimp only at hSw); go_split_ands; go_simp; (try with_reducible rfl)
              try simp only [Act.put, List.setIfInBounds_toArray, List.set_cons_zero, List.set_cons_succ]
              refine wpAnyH_take (i := 18) (oi := ⟨_, _, _, _, _, _⟩) (v := ?_) rfl (by kernel_rfl) (by kernel_rfl) (by kernel_rfl) (fun _ _ _ h => h) (Or.inl ⟨by rfl, ?_⟩) (by assumption) ?_
              rotate_left
              · intro w hSw; (try dsimp only at hSw); go_split_ands; go_simp; (try with_reducible rfl)
              try simp only [Act.put, List.setIfInBounds_toArray, List.set_cons_zero, List.set_cons_succ]
              refine wpAnyH_take (i := 19) (oi := ⟨_, _, _, _, _, _⟩) (v := ?_) rfl (by kernel_rfl) (by kernel_rfl) (by kernel_rfl) (fun _ _ _ h => h) (Or.inl ⟨by rfl, ?_⟩) (by assumption) ?_
              rotate_left
              · intro w hSw; (try dsimp only at hSw); go_split_ands; go_simp; (try with_reducible rfl)
              try simp only [Act.put, List.setIfInBounds_toArray, List.set_cons_zero, List.set_cons_succ]
              refine wpAnyH_take (i := 20) (oi := ⟨_, _, _, _, _, _⟩) (v := ?_) rfl (by kernel_rfl) (by kernel_rfl) (by kernel_rfl) (fun _ _ _ h => h) (Or.inl ⟨by rfl, ?_⟩) (by assumption) ?_
              rotate_left
              · intro w hSw; (try dsimp only at hSw); go_split_ands; go_simp; (try with_reducible rfl)
              try simp only [Act.put, List.setIfInBounds_toArray, List.set_cons_zero, List.set_cons_succ]
              refine wpAnyH_take (i := 21) (oi := ⟨_, _, _, _, _, _⟩) (v := ?_) rfl (by kernel_rfl) (by kernel_rfl) (by kernel_rfl) (fun _ _ _ h => h) (Or.inl ⟨by rfl, ?_⟩) (by assumption) ?_
              rotate_left
              · intro w hSw; (try dsimp only at hSw); go_split_ands; go_simp; (try with_reducible rfl)
              try simp only [Act.put, List.setIfInBounds_toArray, List.set_cons_zero, List.set_cons_succ]
              refine wpAnyH_take (i := 22) (oi := ⟨_, _, _, _, _, _⟩) (v := ?_) rfl (by kernel_rfl) (by kernel_rfl) (by kernel_rfl) (fun _ _ _ h => h) (Or.inl ⟨by rfl, ?_⟩) (by assumption) ?_
              rotate_left
              · intro w hSw; (try dsimp only at hSw); go_split_ands; go_simp; (try with_reducible rfl)
              try simp only [Act.put, List.setIfInBounds_toArray, List.set_cons_zero, List.set_cons_succ]
              refine wpAnyH_take (i := 23) (oi := ⟨_, _, _, _, _, _⟩) (v := ?_) rfl (by kernel_rfl) (by kernel_rfl) (by kernel_rfl) (fun _ _ _ h => h) (Or.inl ⟨by rfl, ?_⟩) (by assumption) ?_
              rotate_left
              · intro w hSw; (try dsimp only at hSw); go_split_ands; go_simp; (try with_reducible rfl)
              try simp only [Act.put, List.setIfInBounds_toArray, List.set_cons_zero, List.set_cons_succ]
              refine wpAnyH_take (i := 25) (oi := ⟨_, _, _, _, _, _⟩) (v := ?_) rfl (by kernel_rfl) (by kernel_rfl) (by kernel_rfl) (fun _ _ _ h => h) (Or.inl ⟨by rfl, ?_⟩) (by assumption) ?_
              rotate_left
              · intro w hSw; (try dsimp only at hSw); go_split_ands; go_simp; (try with_reducible rfl)
              try simp only [Act.put, List.setIfInBounds_toArray, List.set_cons_zero, List.set_cons_succ]
              refine wpAnyH_ready (rs := [5, 24]) (by kernel_rfl) (by simp) (AllReadyH.cons (o := ⟨_, _, _, _, _, _⟩) rfl (fun K hK => ?_) (AllReadyH.cons (o := ⟨_, _, _, _, _, _⟩) rfl (fun K hK => ?_) AllReadyH.nil))
              · go_simp
                refine hK.out _ _ ?_ (fun hHeld => ?_)
                · exact sS _ (below_al0 D _)
                clear hK K
                try simp only [Act.put, List.setIfInBounds_toArray, List.set_cons_zero, List.set_cons_succ]
                refine wpAnyH_ready (rs := [16, 24]) (by kernel_rfl) (by simp) (AllReadyH.cons (o := ⟨_, _, _, _, _, _⟩) rfl (fun K hK => ?_) (AllReadyH.cons (o := ⟨_, _, _, _, _, _⟩) rfl (fun K hK => ?_) AllReadyH.nil))
                · have CE := bt_cells ((bt_take BL.out hll.out hk128.out).below (below_al0 D (.cells #[] 5)))
                  (try rw [if_pos (by rfl)])
                  refine wp_append_own _ (.tmp 47) (.tmp 57) 22 rfl D.heap.size 5 i0 (.int .u8 0) 1 1 A.underB hin0 hz0 hz1 hz2 rfl (by decide) (.slice (some ⟨D.heap.size, 0, none⟩) 0 0) 0 [] rfl (row_empty D) ⟨gl, 0, none⟩ kk cl (bys (e.x.last.take kk)) rfl hlenL.out CE (bys_one _) (by have := hk128.out; unfold maxLen; omega) (by have := hk128.out; omega) (by simp) ?_
                  intro v1 w16 hown1 hgrow1 _
                  rw [Nat.zero_add, List.nil_append] at hown1
                  have B16 : Hid (Below D.heap.size D w16) := Lib.hid ((Off.of_below (ex := fun _ => False) (below_al0 D (.cells #[] 5))).grown hgrow1 (fun k hk => .inr (by cases hk; exact Nat.le_refl _))).to_below
                  replace hown1 := Lib.hid hown1
                  clear hgrow1 CE
                  refine hK.out _ _ ?_ (fun hHeld => ?_)
                  · exact sS _ B16.out
                  clear hK K
                  try simp only [Act.put, List.setIfInBounds_toArray, List.set_cons_zero, List.set_cons_succ]
                  refine wpAnyH_ready (rs := [24]) (by kernel_rfl) (by simp) (AllReadyH.cons (o := ⟨_, _, _, _, _, _⟩) rfl (fun K hK => ?_) AllReadyH.nil)
                  have tc := off_cell (.of_below (ex := fun _ => False) (B16.out : Below D.heap.size D w16)) co1 (fun h => h)
                  go_simp
                  clear tc
                  refine hK.out _ _ ?_ (fun hHeld => ?_)
                  · exact sS _ B16.out
                  clear hK K
                  try simp only [Act.put, List.setIfInBounds_toArray, List.set_cons_zero, List.set_cons_succ]
                  refine wpAnyH_take (i := 26) (oi := ⟨_, _, _, _, _, _⟩) (v := ?_) rfl (by kernel_rfl) (by kernel_rfl) (by kernel_rfl) (fun _ _ _ h => h) (Or.inl ⟨by rfl, ?_⟩) (by assumption) ?_
                  rotate_left
                  · intro w hSw; (try dsimp only at hSw); go_split_ands; go_simp; (try with_reducible rfl)
                  try simp only [Act.put, List.setIfInBounds_toArray, List.set_cons_zero, List.set_cons_succ]
                  refine wpAnyH_ready (rs := [27]) (by kernel_rfl) (by simp) (AllReadyH.cons (o := ⟨_, _, _, _, _, _⟩) rfl (fun K hK => ?_) AllReadyH.nil)
                  have hBO := bt_drop BO.out hol.out hk128.out
                  rw [if_neg hfull.out] at hBO
                  have CE := bt_cells (hBO.below B16.out)
                  (try rw [if_pos (by rfl)])
                  refine wp_append_own _ (.tmp 58) (.tmp 68) 22 rfl D.heap.size 5 i0 (.int .u8 0) 1 1 A.underB hin0 hz0 hz1 hz2 rfl (by decide) v1 kk (bys (e.x.last.take kk)) rfl hown1.out ⟨go, kk, none⟩ (128 - kk) (co - kk) (bys (e.x.on.drop kk)) rfl hlenO.out CE (bys_one _) (by have := hk128.out; unfold maxLen; omega) (by have := hk128.out; omega) B16.out.size ?_
                  intro v2 w7 hown2 hgrow2 _
                  rw [show kk + (128 - kk) = 128 by have := hk128.out; omega, ← bys_app] at hown2
                  obtain ⟨gb, cb, hv2⟩ := row_some hown2 (by decide)
                  subst hv2
                  have B7 : Hid (Below D.heap.size D w7) := Lib.hid ((Off.of_below (ex := fun _ => False) B16.out).grown hgrow2 (fun k hk => .inr (row_own_ge hown1.out k hk))).to_below
                  replace hown2 := Lib.hid hown2
                  clear hgrow2 CE hBO
                  refine hK.out _ _ ?_ (fun hHeld => ?_)
                  · exact sS _ B7.out
                  clear hK K
                  try simp only [Act.put, List.setIfInBounds_toArray, List.set_cons_zero, List.set_cons_succ]
                  refine wpAnyH_take (i := 28) (oi := ⟨_, _, _, _, _, _⟩) (v := ?_) rfl (by kernel_rfl) (by kernel_rfl) (by kernel_rfl) (fun _ _ _ h => h) (Or.inl ⟨by rfl, ?_⟩) (by assumption) ?_
                  rotate_left
                  · intro w hSw; (try dsimp only at hSw); go_split_ands; go_simp; (try with_reducible rfl)
                  try simp only [Act.put, List.setIfInBounds_toArray, List.set_cons_zero, List.set_cons_succ]
                  refine wpAnyH_take (i := 29) (oi := ⟨_, _, _, _, _, _⟩) (v := ?_) rfl (by kernel_rfl) (by kernel_rfl) (by kernel_rfl) (fun _ _ _ h => h) (Or.inl ⟨by rfl, ?_⟩) (by assumption) ?_
                  rotate_left
                  · intro w hSw; (try dsimp only at hSw); go_split_ands; go_simp; (try with_reducible rfl)
                  try simp only [Act.put, List.setIfInBounds_toArray, List.set_cons_zero, List.set_cons_succ]
                  have R7 := RD.out.below B7.out
                  obtain ⟨_, c71, _, _⟩ := R7.rowc HE2.out
                  have f7 := fun j => row_free R7.row j
                  obtain ⟨_, m1, _, m2, _⟩ := RD.out.mid (v := .slice (some ⟨gb, 0, none⟩) 128 cb) HE2.out B7.out (Below.refl _ _)
                  rw [hvl.out] at m2
                  replace R7 := Lib.hid R7
                  clear B16 hown1
                  refine wpAnyH_ready (rs := [30]) (by kernel_rfl) (by simp) (AllReadyH.cons (o := ⟨_, _, _, _, _, _⟩) rfl (fun K hK => ?_) AllReadyH.nil)
                  go_simp
                  refine hK.out _ _ ?_ (fun hHeld => ?_)
                  · exact ⟨m1, m2⟩
                  clear hK K
                  try simp only [Act.put, List.setIfInBounds_toArray, List.set_cons_zero, List.set_cons_succ]
                  clear m1 m2 c71 f7 R7
                  refine wpAnyH_done (by kernel_rfl) ?_ _
                  have REL : Hid (∃ w7' gb' cb', Below wc.heap.size wc w7' ∧ w7'.ownsRow wc.heap.size 5 1 (.slice (some ⟨gb', 0, none⟩) 128 cb') 128 (bys (torn kk e.x.last e.x.on)) ∧ w7.setCell ⟨g, i * 4 + 1, none⟩ (.slice (some ⟨gb, 0, none⟩) 128 cb) = w7'.setCell ⟨g, i * 4 + 1, none⟩ (.slice (some ⟨gb', 0, none⟩) 128 cb')) := Lib.hid ⟨w7, gb, cb, below2 LD.out B7.out, row_base hown2.out LD.out.size, rfl⟩
                  go_wp2_with fail
                  go_meet
                  case rel => exact REL
                · have tc := off_cell (.of_below (ex := fun _ => False) ((below_al0 D _) : Below D.heap.size D (D.alloc (.cells #[] 5)))) co1 (fun h => h)
                  go_simp
                  clear tc
                  refine hK.out _ _ ?_ (fun hHeld => ?_)
                  · exact sS _ (below_al0 D _)
                  clear hK K
                  try simp only [Act.put, List.setIfInBounds_toArray, List.set_cons_zero, List.set_cons_succ]
                  refine wpAnyH_take (i := 26) (oi := ⟨_, _, _, _, _, _⟩) (v := ?_) rfl (by kernel_rfl) (by kernel_rfl) (by kernel_rfl) (fun _ _ _ h => h) (Or.inl ⟨by rfl, ?_⟩) (by assumption) ?_
                  rotate_left
                  · intro w hSw; (try dsimp only at hSw); go_split_ands; go_simp; (try with_reducible rfl)
                  try simp only [Act.put, List.setIfInBounds_toArray, List.set_cons_zero, List.set_cons_succ]
                  refine wpAnyH_ready (rs := [16]) (by kernel_rfl) (by simp) (AllReadyH.cons (o := ⟨_, _, _, _, _, _⟩) rfl (fun K hK => ?_) AllReadyH.nil)
                  have CE := bt_cells ((bt_take BL.out hll.out hk128.out).below (below_al0 D (.cells #[] 5)))
                  (try rw [if_pos (by rfl)])
                  refine wp_append_own _ (.tmp 47) (.tmp 57) 22 rfl D.heap.size 5 i0 (.int .u8 0) 1 1 A.underB hin0 hz0 hz1 hz2 rfl (by decide) (.slice (some ⟨D.heap.size, 0, none⟩) 0 0) 0 [] rfl (row_empty D) ⟨gl, 0, none⟩ kk cl (bys (e.x.last.take kk)) rfl hlenL.out CE (bys_one _) (by have := hk128.out; unfold maxLen; omega) (by have := hk128.out; omega) (by simp) ?_
                  intro v1 w16 hown1 hgrow1 _
                  rw [Nat.zero_add, List.nil_append] at hown1
                  have B16 : Hid (Below D.heap.size D w16) := Lib.hid ((Off.of_below (ex := fun _ => False) (below_al0 D (.cells #[] 5))).grown hgrow1 (fun k hk => .inr (by cases hk; exact Nat.le_refl _))).to_below
                  replace hown1 := Lib.hid hown1
                  clear hgrow1 CE
                  refine hK.out _ _ ?_ (fun hHeld => ?_)
                  · exact sS _ B16.out
                  clear hK K
                  try simp only [Act.put, List.setIfInBounds_toArray, List.set_cons_zero, List.set_cons_succ]
                  refine wpAnyH_ready (rs := [27]) (by kernel_rfl) (by simp) (AllReadyH.cons (o := ⟨_, _, _, _, _, _⟩) rfl (fun K hK => ?_) AllReadyH.nil)
                  have hBO := bt_drop BO.out hol.out hk128.out
                  rw [if_neg hfull.out] at hBO
                  have CE := bt_cells (hBO.below B16.out)
                  (try rw [if_pos (by rfl)])
                  refine wp_append_own _ (.tmp 58) (.tmp 68) 22 rfl D.heap.size 5 i0 (.int .u8 0) 1 1 A.underB hin0 hz0 hz1 hz2 rfl (by decide) v1 kk (bys (e.x.last.take kk)) rfl hown1.out ⟨go, kk, none⟩ (128 - kk) (co - kk) (bys (e.x.on.drop kk)) rfl hlenO.out CE (bys_one _) (by have := hk128.out; unfold maxLen; omega) (by have := hk128.out; omega) B16.out.size ?_
                  intro v2 w7 hown2 hgrow2 _
                  rw [show kk + (128 - kk) = 128 by have := hk128.out; omega, ← bys_app] at hown2
                  obtain ⟨gb, cb, hv2⟩ := row_some hown2 (by decide)
                  subst hv2
                  have B7 : Hid (Below D.heap.size D w7) := Lib.hid ((Off.of_below (ex := fun _ => False) B16.out).grown hgrow2 (fun k hk => .inr (row_own_ge hown1.out k hk))).to_below
                  replace hown2 := Lib.hid hown2
                  clear hgrow2 CE hBO
                  refine hK.out _ _ ?_ (fun hHeld => ?_)
                  · exact sS _ B7.out
                  clear hK K
                  try simp only [Act.put, List.setIfInBounds_toArray, List.set_cons_zero, List.set_cons_succ]
                  refine wpAnyH_take (i := 28) (oi := ⟨_, _, _, _, _, _⟩) (v := ?_) rfl (by kernel_rfl) (by kernel_rfl) (by kernel_rfl) (fun _ _ _ h => h) (Or.inl ⟨by rfl, ?_⟩) (by assumption) ?_
                  rotate_left
                  · intro w hSw; (try dsimp only at hSw); go_split_ands; go_simp; (try with_reducible rfl)
                  try simp only [Act.put, List.setIfInBounds_toArray, List.set_cons_zero, List.set_cons_succ]
                  refine wpAnyH_take (i := 29) (oi := ⟨_, _, _, _, _, _⟩) (v := ?_) rfl (by kernel_rfl) (by kernel_rfl) (by kernel_rfl) (fun _ _ _ h => h) (Or.inl ⟨by rfl, ?_⟩) (by assumption) ?_
                  rotate_left
                  · intro w hSw; (try dsimp only at hSw); go_split_ands; go_simp; (try with_reducible rfl)
                  try simp only [Act.put, List.setIfInBounds_toArray, List.set_cons_zero, List.set_cons_succ]
                  have R7 := RD.out.below B7.out
                  obtain ⟨_, c71, _, _⟩ := R7.rowc HE2.out
                  have f7 := fun j => row_free R7.row j
                  obtain ⟨_, m1, _, m2, _⟩ := RD.out.mid (v := .slice (some ⟨gb, 0, none⟩) 128 cb) HE2.out B7.out (Below.refl _ _)
                  rw [hvl.out] at m2
                  replace R7 := Lib.hid R7
                  clear B16 hown1
                  refine wpAnyH_ready (rs := [30]) (by kernel_rfl) (by simp) (AllReadyH.cons (o := ⟨_, _, _, _, _, _⟩) rfl (fun K hK => ?_) AllReadyH.nil)
                  go_simp
                  refine hK.out _ _ ?_ (fun hHeld => ?_)
                  · exact ⟨m1, m2⟩
                  clear hK K
                  try simp only [Act.put, List.setIfInBounds_toArray, List.set_cons_zero, List.set_cons_succ]
                  clear m1 m2 c71 f7 R7
                  refine wpAnyH_done (by kernel_rfl) ?_ _
                  have REL : Hid (∃ w7' gb' cb', Below wc.heap.size wc w7' ∧ w7'.ownsRow wc.heap.size 5 1 (.slice (some ⟨gb', 0, none⟩) 128 cb') 128 (bys (torn kk e.x.last e.x.on)) ∧ w7.setCell ⟨g, i * 4 + 1, none⟩ (.slice (some ⟨gb, 0, none⟩) 128 cb) = w7'.setCell ⟨g, i * 4 + 1, none⟩ (.slice (some ⟨gb', 0, none⟩) 128 cb')) := Lib.hid ⟨w7, gb, cb, below2 LD.out B7.out, row_base hown2.out LD.out.size, rfl⟩
                  go_wp2_with fail
                  go_meet
                  case rel => exact REL
              · have tc := off_cell (.of_below (ex := fun _ => False) ((Below.refl _ _) : Below D.heap.size D D)) co1 (fun h => h)
                go_simp
                clear tc
                refine hK.out _ _ ?_ (fun hHeld => ?_)
                · exact sS _ (Below.refl _ _)
                clear hK K
                try simp only [Act.put, List.setIfInBounds_toArray, List.set_cons_zero, List.set_cons_succ]
                refine wpAnyH_take (i := 26) (oi := ⟨_, _, _, _, _, _⟩) (v := ?_) rfl (by kernel_rfl) (by kernel_rfl) (by kernel_rfl) (fun _ _ _ h => h) (Or.inl ⟨by rfl, ?_⟩) (by assumption) ?_
                rotate_left
                · intro w hSw; (try dsimp only at hSw); go_split_ands; go_simp; (try with_reducible rfl)
                try simp only [Act.put, List.setIfInBounds_toArray, List.set_cons_zero, List.set_cons_succ]
                refine wpAnyH_ready (rs := [5]) (by kernel_rfl) (by simp) (AllReadyH.cons (o := ⟨_, _, _, _, _, _⟩) rfl (fun K hK => ?_) AllReadyH.nil)
                go_simp
                refine hK.out _ _ ?_ (fun hHeld => ?_)
                · exact sS _ (below_al0 D _)
                clear hK K
                try simp only [Act.put, List.setIfInBounds_toArray, List.set_cons_zero, List.set_cons_succ]
                refine wpAnyH_ready (rs := [16]) (by kernel_rfl) (by simp) (AllReadyH.cons (o := ⟨_, _, _, _, _, _⟩) rfl (fun K hK => ?_) AllReadyH.nil)
                have CE := bt_cells ((bt_take BL.out hll.out hk128.out).below (below_al0 D (.cells #[] 5)))
                (try rw [if_pos (by rfl)])
                refine wp_append_own _ (.tmp 47) (.tmp 57) 22 rfl D.heap.size 5 i0 (.int .u8 0) 1 1 A.underB hin0 hz0 hz1 hz2 rfl (by decide) (.slice (some ⟨D.heap.size, 0, none⟩) 0 0) 0 [] rfl (row_empty D) ⟨gl, 0, none⟩ kk cl (bys (e.x.last.take kk)) rfl hlenL.out CE (bys_one _) (by have := hk128.out; unfold maxLen; omega) (by have := hk128.out; omega) (by simp) ?_
                intro v1 w16 hown1 hgrow1 _
                rw [Nat.zero_add, List.nil_append] at hown1
                have B16 : Hid (Below D.heap.size D w16) := Lib.hid ((Off.of_below (ex := fun _ => False) (below_al0 D (.cells #[] 5))).grown hgrow1 (fun k hk => .inr (by cases hk; exact Nat.le_refl _))).to_below
                replace hown1 := Lib.hid hown1
                clear hgrow1 CE
                refine hK.out _ _ ?_ (fun hHeld => ?_)
                · exact sS _ B16.out
                clear hK K
                try simp only [Act.put, List.setIfInBounds_toArray, List.set_cons_zero, List.set_cons_succ]
                refine wpAnyH_ready (rs := [27]) (by kernel_rfl) (by simp) (AllReadyH.cons (o := ⟨_, _, _, _, _, _⟩) rfl (fun K hK => ?_) AllReadyH.nil)
                have hBO := bt_drop BO.out hol.out hk128.out
                rw [if_neg hfull.out] at hBO
                have CE := bt_cells (hBO.below B16.out)
                (try rw [if_pos (by rfl)])
                refine wp_append_own _ (.tmp 58) (.tmp 68) 22 rfl D.heap.size 5 i0 (.int .u8 0) 1 1 A.underB hin0 hz0 hz1 hz2 rfl (by decide) v1 kk (bys (e.x.last.take kk)) rfl hown1.out ⟨go, kk, none⟩ (128 - kk) (co - kk) (bys (e.x.on.drop kk)) rfl hlenO.out CE (bys_one _) (by have := hk128.out; unfold maxLen; omega) (by have := hk128.out; omega) B16.out.size ?_
                intro v2 w7 hown2 hgrow2 _
                rw [show kk + (128 - kk) = 128 by have := hk128.out; omega, ← bys_app] at hown2
                obtain ⟨gb, cb, hv2⟩ := row_some hown2 (by decide)
                subst hv2
                have B7 : Hid (Below D.heap.size D w7) := Lib.hid ((Off.of_below (ex := fun _ => False) B16.out).grown hgrow2 (fun k hk => .inr (row_own_ge hown1.out k hk))).to_below
                replace hown2 := Lib.hid hown2
                clear hgrow2 CE hBO
                refine hK.out _ _ ?_ (fun hHeld => ?_)
                · exact sS _ B7.out
                clear hK K
                try simp only [Act.put, List.setIfInBounds_toArray, List.set_cons_zero, List.set_cons_succ]
                refine wpAnyH_take (i := 28) (oi := ⟨_, _, _, _, _, _⟩) (v := ?_) rfl (by kernel_rfl) (by kernel_rfl) (by kernel_rfl) (fun _ _ _ h => h) (Or.inl ⟨by rfl, ?_⟩) (by assumption) ?_
                rotate_left
                · intro w hSw; (try dsimp only at hSw); go_split_ands; go_simp; (try with_reducible rfl)
                try simp only [Act.put, List.setIfInBounds_toArray, List.set_cons_zero, List.set_cons_succ]
                refine wpAnyH_take (i := 29) (oi := ⟨_, _, _, _, _, _⟩) (v := ?_) rfl (by kernel_rfl) (by kernel_rfl) (by kernel_rfl) (fun _ _ _ h => h) (Or.inl ⟨by rfl, ?_⟩) (by assumption) ?_
                rotate_left
                · intro w hSw; (try dsimp only at hSw); go_split_ands; go_simp; (try with_reducible rfl)
                try simp only [Act.put, List.setIfInBounds_toArray, List.set_cons_zero, List.set_cons_succ]
                have R7 := RD.out.below B7.out
                obtain ⟨_, c71, _, _⟩ := R7.rowc HE2.out
                have f7 := fun j => row_free R7.row j
                obtain ⟨_, m1, _, m2, _⟩ := RD.out.mid (v := .slice (some ⟨gb, 0, none⟩) 128 cb) HE2.out B7.out (Below.refl _ _)
                rw [hvl.out] at m2
                replace R7 := Lib.hid R7
                clear B16 hown1
                refine wpAnyH_ready (rs := [30]) (by kernel_rfl) (by simp) (AllReadyH.cons (o := ⟨_, _, _, _, _, _⟩) rfl (fun K hK => ?_) AllReadyH.nil)
                go_simp
                refine hK.out _ _ ?_ (fun hHeld => ?_)
                · exact ⟨m1, m2⟩
                clear hK K
                try simp only [Act.put, List.setIfInBounds_toArray, List.set_cons_zero, List.set_cons_succ]
                clear m1 m2 c71 f7 R7
                refine wpAnyH_done (by kernel_rfl) ?_ _
                have REL : Hid (∃ w7' gb' cb', Below wc.heap.size wc w7' ∧ w7'.ownsRow wc.heap.size 5 1 (.slice (some ⟨gb', 0, none⟩) 128 cb') 128 (bys (torn kk e.x.last e.x.on)) ∧ w7.setCell ⟨g, i * 4 + 1, none⟩ (.slice (some ⟨gb, 0, none⟩) 128 cb) = w7'.setCell ⟨g, i * 4 + 1, none⟩ (.slice (some ⟨gb', 0, none⟩) 128 cb')) := Lib.hid ⟨w7, gb, cb, below2 LD.out B7.out, row_base hown2.out LD.out.size, rfl⟩
                go_wp2_with fail
                go_meet
                case rel => exact REL

          case rest =>
            obtain ⟨w7, gb, cb, B7, r7, hw⟩ := hcut.out
            subst hw
            have B7 := Lib.hid B7
            have r7 := Lib.hid r7
            clear hcut
            have M := C.out.r.mid (v := (.slice (some ⟨gb, 0, none⟩) 128 cb)) HE2.out B7.out (Below.refl _ _)
            obtain ⟨_, cX7, c71, _, _, _, _⟩ := M
            clear cX
            go_upto_region 13 with fail
            have LD := Lib.hid (below_drew (Below.refl (w7.setCell ⟨g, i * 4 + 1, none⟩ (.slice (some ⟨gb, 0, none⟩) 128 cb)).heap.size (w7.setCell ⟨g, i * 4 + 1, none⟩ (.slice (some ⟨gb, 0, none⟩) 128 cb))))
            refine wp_region_held_drew (S := fun w' => w'.cell? ⟨X, 1, none⟩ = some (.slice (some ⟨g, 0, none⟩) es.length cap) ∧ w'.cell? ⟨g, i * 4 + 1, none⟩ = some (.slice (some ⟨gb, 0, none⟩) 128 cb)) (by kernel_rfl) ⟨cX7, c71⟩ (fun hHeld => ?_)
            clear cX7 c71 cd
            generalize (w7.setCell ⟨g, i * 4 + 1, none⟩ (.slice (some ⟨gb, 0, none⟩) 128 cb)).drew = D at LD hHeld ⊢
            obtain ⟨hrD, cX, c71, c72, c73, fr, _⟩ := C.out.r.mid (v := (.slice (some ⟨gb, 0, none⟩) 128 cb)) HE2.out B7.out LD.out
            rw [hvl.out] at c72
            have hrl := Lib.hid (row_store hrD (i * 4 + 2) (.slice (some ⟨gb, 0, none⟩) 128 cb))
            have FIN := Lib.hid (C.out.r.crash HE2.out B7.out r7.out (torn_len hll.out hol.out hk128.out) LD.out)
            clear hrD
            try simp only [Act.put, List.setIfInBounds_toArray, List.set_cons_zero, List.set_cons_succ]
            refine wpAnyH_take (i := 0) (oi := ⟨_, _, _, _, _, _⟩) (v := ?_) rfl (by kernel_rfl) (by kernel_rfl) (by kernel_rfl) (fun _ _ _ h => h) (Or.inl ⟨by rfl, ?_⟩) (by assumption) ?_
            rotate_left
            · intro w hSw; (try dsimp only at hSw); go_split_ands; go_simp; (try with_reducible rfl)
            try simp only [Act.put, List.setIfInBounds_toArray, List.set_cons_zero, List.set_cons_succ]
            refine wpAnyH_take (i := 1) (oi := ⟨_, _, _, _, _, _⟩) (v := ?_) rfl (by kernel_rfl) (by kernel_rfl) (by kernel_rfl) (fun _ _ _ h => h) (Or.inl ⟨by rfl, ?_⟩) (by assumption) ?_
            rotate_left
            · intro w hSw; (try dsimp only at hSw); go_split_ands; go_simp; (try with_reducible rfl)
            try simp only [Act.put, List.setIfInBounds_toArray, List.set_cons_zero, List.set_cons_succ]
            refine wpAnyH_take (i := 2) (oi := ⟨_, _, _, _, _, _⟩) (v := ?_) rfl (by kernel_rfl) (by kernel_rfl) (by kernel_rfl) (fun _ _ _ h => h) (Or.inl ⟨by rfl, ?_⟩) (by assumption) ?_
            rotate_left
            · intro w hSw; (try dsimp only at hSw); go_split_ands; go_simp; (try with_reducible rfl)
            try simp only [Act.put, List.setIfInBounds_toArray, List.set_cons_zero, List.set_cons_succ]
            refine wpAnyH_take (i := 3) (oi := ⟨_, _, _, _, _, _⟩) (v := ?_) rfl (by kernel_rfl) (by kernel_rfl) (by kernel_rfl) (fun _ _ _ h => h) (Or.inl ⟨by rfl, ?_⟩) (by assumption) ?_
            rotate_left
            · intro w hSw; (try dsimp only at hSw); go_split_ands; go_simp; (try with_reducible rfl)
            try simp only [Act.put, List.setIfInBounds_toArray, List.set_cons_zero, List.set_cons_succ]
            refine wpAnyH_take (i := 4) (oi := ⟨_, _, _, _, _, _⟩) (v := ?_) rfl (by kernel_rfl) (by kernel_rfl) (by kernel_rfl) (fun _ _ _ h => h) (Or.inl ⟨by rfl, ?_⟩) (by assumption) ?_
            rotate_left
            · intro w hSw; (try dsimp only at hSw); go_split_ands; go_simp; (try with_reducible rfl)
            try simp only [Act.put, List.setIfInBounds_toArray, List.set_cons_zero, List.set_cons_succ]
            refine wpAnyH_take (i := 5) (oi := ⟨_, _, _, _, _, _⟩) (v := ?_) rfl (by kernel_rfl) (by kernel_rfl) (by kernel_rfl) (fun _ _ _ h => h) (Or.inl ⟨by rfl, ?_⟩) (by assumption) ?_
            rotate_left
            · intro w hSw; (try dsimp only at hSw); go_split_ands; go_simp; (try with_reducible rfl)
            try simp only [Act.put, List.setIfInBounds_toArray, List.set_cons_zero, List.set_cons_succ]
            refine wpAnyH_take (i := 6) (oi := ⟨_, _, _, _, _, _⟩) (v := ?_) rfl (by kernel_rfl) (by kernel_rfl) (by kernel_rfl) (fun _ _ _ h => h) (Or.inl ⟨by rfl, ?_⟩) (by assumption) ?_
            rotate_left
            · intro w hSw; (try dsimp only at hSw); go_split_ands; go_simp; (try with_reducible rfl)
            try simp only [Act.put, List.setIfInBounds_toArray, List.set_cons_zero, List.set_cons_succ]
            refine wpAnyH_take (i := 7) (oi := ⟨_, _, _, _, _, _⟩) (v := ?_) rfl (by kernel_rfl) (by kernel_rfl) (by kernel_rfl) (fun _ _ _ h => h) (Or.inl ⟨by rfl, ?_⟩) (by assumption) ?_
            rotate_left
            · intro w hSw; (try dsimp only at hSw); go_split_ands; go_simp; (try with_reducible rfl)
            try simp only [Act.put, List.setIfInBounds_toArray, List.set_cons_zero, List.set_cons_succ]
            refine wpAnyH_take (i := 8) (oi := ⟨_, _, _, _, _, _⟩) (v := ?_) rfl (by kernel_rfl) (by kernel_rfl) (by kernel_rfl) (fun _ _ _ h => h) (Or.inl ⟨by rfl, ?_⟩) (by assumption) ?_
            rotate_left
            · intro w hSw; (try dsimp only at hSw); go_split_ands; go_simp; (try with_reducible rfl)
            try simp only [Act.put, List.setIfInBounds_toArray, List.set_cons_zero, List.set_cons_succ]
            refine wpAnyH_take (i := 9) (oi := ⟨_, _, _, _, _, _⟩) (v := ?_) rfl (by kernel_rfl) (by kernel_rfl) (by kernel_rfl) (fun _ _ _ h => h) (Or.inl ⟨by rfl, ?_⟩) (by assumption) ?_
            rotate_left
            · intro w hSw; (try dsimp only at hSw); go_split_ands; go_simp; (try with_reducible rfl)
            try simp only [Act.put, List.setIfInBounds_toArray, List.set_cons_zero, List.set_cons_succ]
            refine wpAnyH_take (i := 10) (oi := ⟨_, _, _, _, _, _⟩) (v := ?_) rfl (by kernel_rfl) (by kernel_rfl) (by kernel_rfl) (fun _ _ _ h => h) (Or.inl ⟨by rfl, ?_⟩) (by assumption) ?_
            rotate_left
            · intro w hSw; (try dsimp only at hSw); go_split_ands; go_simp; (try with_reducible rfl)
            try simp only [Act.put, List.setIfInBounds_toArray, List.set_cons_zero, List.set_cons_succ]
            refine wpAnyH_take (i := 11) (oi := ⟨_, _, _, _, _, _⟩) (v := ?_) rfl (by kernel_rfl) (by kernel_rfl) (by kernel_rfl) (fun _ _ _ h => h) (Or.inl ⟨by rfl, ?_⟩) (by assumption) ?_
            rotate_left
            · intro w hSw; (try dsimp only at hSw); go_split_ands; go_simp; (try with_reducible rfl)
            try simp only [Act.put, List.setIfInBounds_toArray, List.set_cons_zero, List.set_cons_succ]
            refine wpAnyH_take (i := 12) (oi := ⟨_, _, _, _, _, _⟩) (v := ?_) rfl (by kernel_rfl) (by kernel_rfl) (by kernel_rfl) (fun _ _ _ h => h) (Or.inl ⟨by rfl, ?_⟩) (by assumption) ?_
            rotate_left
            · intro w hSw; (try dsimp only at hSw); go_split_ands; go_simp; (try with_reducible rfl)
            try simp only [Act.put, List.setIfInBounds_toArray, List.set_cons_zero, List.set_cons_succ]
            refine wpAnyH_take (i := 13) (oi := ⟨_, _, _, _, _, _⟩) (v := ?_) rfl (by kernel_rfl) (by kernel_rfl) (by kernel_rfl) (fun _ _ _ h => h) (Or.inl ⟨by rfl, ?_⟩) (by assumption) ?_
            rotate_left
            · intro w hSw; (try dsimp only at hSw); go_split_ands; go_simp; (try with_reducible rfl)
            try simp only [Act.put, List.setIfInBounds_toArray, List.set_cons_zero, List.set_cons_succ]
            refine wpAnyH_take (i := 14) (oi := ⟨_, _, _, _, _, _⟩) (v := ?_) rfl (by kernel_rfl) (by kernel_rfl) (by kernel_rfl) (fun _ _ _ h => h) (Or.inl ⟨by rfl, ?_⟩) (by assumption) ?_
            rotate_left
            · intro w hSw; (try dsimp only at hSw); go_split_ands; go_simp; (try with_reducible rfl)
            try simp only [Act.put, List.setIfInBounds_toArray, List.set_cons_zero, List.set_cons_succ]
            refine wpAnyH_ready (rs := [15]) (by kernel_rfl) (by simp) (AllReadyH.cons (o := ⟨_, _, _, _, _, _⟩) rfl (fun K hK => ?_) AllReadyH.nil)
            go_simp
            have k1 := off_cell (off1 D g (i * 4 + 2) (.slice (some ⟨gb, 0, none⟩) 128 cb)) cX C.out.r.ne
            have hn1 := C.out.r.len
            have hL : (cells4 (fs ++ es.drop i)).length = (fs ++ es.drop i).length * 4 := cells4_len _
            have hiL : i < (fs ++ es.drop i).length := (List.getElem?_eq_some_iff.1 HE2.out).1
            obtain ⟨_, q1, q2, q3⟩ := cells4_get (fs ++ es.drop i) i e HE2.out
            have k2 : (D.setCell ⟨g, i * 4 + 2, none⟩ (.slice (some ⟨gb, 0, none⟩) 128 cb)).cell? ⟨g, i * 4 + 1, none⟩ = some (.slice (some ⟨gb, 0, none⟩) 128 cb) := (row_cell hrl.out _ (by rw [List.getElem?_set_ne (by omega), List.getElem?_set, if_pos rfl, if_pos (by omega)])).2
            have k3 : (D.setCell ⟨g, i * 4 + 2, none⟩ (.slice (some ⟨gb, 0, none⟩) 128 cb)).cell? ⟨g, i * 4 + 3, none⟩ = some (.bool e.x.dirty) := (row_cell hrl.out _ (by rw [List.getElem?_set_ne (by omega), List.getElem?_set_ne (by omega)]; exact q3)).2
            have fr1 := fun j => row_free hrl.out j
            clear hn1 hL hiL q1 q2 q3 hrl
            refine hK.out _ _ ?_ (fun hHeld => ?_)
            · exact ⟨k1, k2⟩
            clear hK K
            try simp only [Act.put, List.setIfInBounds_toArray, List.set_cons_zero, List.set_cons_succ]
            clear cX c71 c72 c73 fr k2
            generalize D.setCell ⟨g, i * 4 + 2, none⟩ (.slice (some ⟨gb, 0, none⟩) 128 cb) = Z at k1 k3 fr1 FIN ⊢
            refine wpAnyH_done (by kernel_rfl) ?_ _
            obtain ⟨G', f1, f2, f3, f4⟩ := FIN.out
            rw [← hkk.out] at f1
            have CN := Lib.hid (C.out.dirty HE.out hdt.out (C.out.r.gR g rfl) f1 f2 f3 f4)
            clear f1 f2 f3 f4 FIN
            go_wp2_with fail
            go_roundw
            case rel => exact ⟨i + 1, nn + 1, _, _, by go_num, by go_num, by omega, by omega, CN⟩
            case measure => simp [intOf]; omega
    · have hlt' : ¬ (i : Int) < (es.length : Int) := by omega
      have hie : Hid (i = es.length) := Lib.hid (by omega)
      have cf := fun j => C.out.r.free j
      have c4 : wr.cell? ⟨X, 4, none⟩ = some (.bool d.dead) := C.out.r.cell 4
      have c3 : wr.cell? ⟨X, 3, none⟩ = some (.int .i64 d.left) := C.out.r.cell 3
      clear hp
      go_wp2_with fail
      go_ret
      have hx := C.out.x
      have hr := C.out.r
      have hn := C.out.n
      rw [hie.out, List.take_of_length_le (Nat.le_refl _), H.out.xs] at hx hn
      rw [hie.out, List.drop_of_length_le (Nat.le_refl _), List.append_nil] at hr
      have hbu := congrArg List.length H.out.sim.bu
      have hb := hr.blk
      have ho := (off1 wr X 4 (.bool false)).trans (off1 _ X 3 (.int .i64 0))
      have oG : Off GG wr ((wr.setCell ⟨X, 4, none⟩ (.bool false)).setCell ⟨X, 3, none⟩ (.int .i64 0)) := ho.mono (fun k _ e => e ▸ hr.gX)
      refine ⟨by rw [hbu, ← hn]; rfl, GG, ⟨crashX s ps, _, fs, (hr.crashed (d' := d.crash ps) rfl rfl rfl rfl).ref rfl hx (H.out.sim.crash H.out.ok.on ps) (H.out.ok.crash ps) H.out.ops (show (0 : Int) ≤ 9223372036854775807 by decide)⟩, C.out.new, C.out.old, C.out.o.trans2 ho (fun k _ e => e ▸ H.out.gX)⟩
end Go.Proofs.Ytnlemjjigiphcaa
