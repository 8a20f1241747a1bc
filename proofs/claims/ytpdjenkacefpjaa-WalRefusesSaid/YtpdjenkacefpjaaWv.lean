/- puts. -/
import Derived.Test.YtpdjenkacefpjaaWu
namespace Go.Proofs.Ytpdjenkacefpjaa
open Go.RowKit Go.ChangeShapes
set_option linter.unusedVariables false
set_option maxRecDepth 100000

theorem str_bytes (w : World) (b : Sec) (hb : b.length ≤ maxLen) : ∃ c W, Sem.run Try.prog (convert 9 36 (.string ⟨b.toArray⟩)) w = .ok (.slice (some ⟨w.heap.size, 0, none⟩) b.length c) W ∧ BtAt W (.slice (some ⟨w.heap.size, 0, none⟩) b.length c) b ∧ Below w.heap.size w W ∧ W.heap.size = w.heap.size + 1 := by
  have h := run_bytes_of_string (P := Try.prog) w 9 36 5 ⟨b.toArray⟩ A.underS A.underB A.underU
  have hsz : (⟨b.toArray⟩ : ByteArray).size = b.length := by simp [ByteArray.size]
  rw [hsz] at h
  obtain ⟨cp, hcp⟩ : ∃ cp, grownCap w b.length 0 5 = cp := ⟨_, rfl⟩
  have h1 := grownCap_ge w b.length 0 5
  have h2 := grownCap_le_maxLen w b.length 0 5 hb
  rw [hcp] at h h1 h2
  refine ⟨cp, _, h, ⟨_, cp, rfl, h1, h2, fun e => (by cases e), fun j x hj => ⟨_, 0, rfl, ?_⟩⟩, (below_drew (Below.refl _ _)).alloc (Nat.le_refl _) _, by show (w.heap.push _).size = _; simp⟩
  have hh : (w.drew.alloc (.cells (bytesRow ⟨b.toArray⟩ cp) 5 ((bytesRow ⟨b.toArray⟩ cp).size, (bytesRow ⟨b.toArray⟩ cp).size + 1))).heap[w.heap.size]? = some (.cells (bytesRow ⟨b.toArray⟩ cp) 5 ((bytesRow ⟨b.toArray⟩ cp).size, (bytesRow ⟨b.toArray⟩ cp).size + 1)) := by
    show (w.heap.push _)[w.heap.size]? = _
    simp
  rw [Nat.zero_add]
  unfold World.cell?
  simp only [hh]
  have hjl : j < b.length := (List.getElem?_eq_some_iff.1 hj).1
  unfold bytesRow
  rw [Array.getElem?_append_left (by simp; exact hjl)]
  simp [hj]
def hasC (hb : List Bool) : Array Value := (hb.map Value.bool).toArray
/-- puts under way -/
structure Pu (w wr : World) (F : Nat → Prop) (vn vf vr : Value) (es : List PE) (v : Value) (hb : List Bool) : Prop where
  grp : wr.heap[w.heap.size]? = some (.cells #[vn, vf, vr] 38 (0, 0))
  has : wr.heap[w.heap.size + 1]? = some (.cells (hasC hb) 72 (0, 0))
  row : PutRow wr (w.heap.size + 2) F v es
  sz : w.heap.size + 2 ≤ wr.heap.size
  bl : Below w.heap.size w wr
  hl : hb.length = 18
  hk : ∀ k : Nat, k < 18 → (hb[k]? = some true ↔ ∃ e ∈ es, e.1.1 = 42 + (k : Int))
  ok : ∀ e ∈ es, 42 ≤ e.1.1 ∧ e.1.1 < 60 ∧ e.1.2.length = 128 ∧ ∃ g c, e.2 = .slice (some ⟨g, 0, none⟩) 128 c ∧ w.heap.size + 2 ≤ g
  nd : (es.map (·.1.1)).Nodup
/-- puts in order -/
structure POk (A : Nat) (es : List PE) : Prop where
  ok : ∀ e ∈ es, 42 ≤ e.1.1 ∧ e.1.1 < 60 ∧ e.1.2.length = 128 ∧ ∃ g c, e.2 = .slice (some ⟨g, 0, none⟩) 128 c ∧ A ≤ g
  nd : (es.map (·.1.1)).Nodup
theorem Pu.pok {w wr : World} {F : Nat → Prop} {vn vf vr : Value} {es : List PE} {v : Value} {hb : List Bool} (h : Pu w wr F vn vf vr es v hb) : POk w.heap.size es :=
  ⟨fun e he => ⟨(h.ok e he).1, (h.ok e he).2.1, (h.ok e he).2.2.1, by obtain ⟨g, c, e1, e2⟩ := (h.ok e he).2.2.2; exact ⟨g, c, e1, by omega⟩⟩, h.nd⟩
theorem Pu.cells {w wr : World} {F : Nat → Prop} {vn vf vr : Value} {es : List PE} {v : Value} {hb : List Bool} (h : Pu w wr F vn vf vr es v hb) : wr.cell? ⟨w.heap.size, 0, none⟩ = some vn ∧ wr.cell? ⟨w.heap.size, 1, none⟩ = some vf ∧ wr.cell? ⟨w.heap.size, 2, none⟩ = some vr := by
  have := h.grp
  refine ⟨?_, ?_, ?_⟩ <;> simp [World.cell?, this]
theorem Pu.hasAt {w wr : World} {F : Nat → Prop} {vn vf vr : Value} {es : List PE} {v : Value} {hb : List Bool} (h : Pu w wr F vn vf vr es v hb) {k : Nat} (hk : k < 18) : ∃ b, hb[k]? = some b ∧ wr.cell? ⟨w.heap.size + 1, k, none⟩ = some (.bool b) ∧ wr.frozen? ⟨w.heap.size + 1, k, none⟩ = false := by
  have hh := h.has
  have hk2 : k < hb.length := by rw [h.hl]; exact hk
  refine ⟨hb[k], List.getElem?_eq_getElem hk2, ?_, ?_⟩
  · have h1 := cell_of_row wr (w.heap.size + 1) k _ _ _ hh
    rw [h1]
    unfold hasC
    simp [hk2]
  · simp [World.frozen?, hh]
theorem Pu.below {w wr w' : World} {F : Nat → Prop} {vn vf vr : Value} {es : List PE} {v : Value} {hb : List Bool} (h : Pu w wr F vn vf vr es v hb) (hbl : Below wr.heap.size wr w') : Pu w w' F vn vf vr es v hb := by
  have ho : Off (fun _ => False) wr w' := .of_below hbl
  exact ⟨ho.keeps h.grp (fun h => h), ho.keeps h.has (fun h => h), h.row.below hbl, Nat.le_trans h.sz hbl.size, below2 h.bl hbl, h.hl, h.hk, h.ok, h.nd⟩
/-- a place is taken, its put is to come -/
structure Pv (w wr : World) (F : Nat → Prop) (vn vf vr : Value) (es : List PE) (v : Value) (hb : List Bool) (k0 : Nat) : Prop where
  grp : wr.heap[w.heap.size]? = some (.cells #[vn, vf, vr] 38 (0, 0))
  has : wr.heap[w.heap.size + 1]? = some (.cells (hasC hb) 72 (0, 0))
  row : PutRow wr (w.heap.size + 2) F v es
  sz : w.heap.size + 2 ≤ wr.heap.size
  bl : Below w.heap.size w wr
  hl : hb.length = 18
  hk : ∀ k : Nat, k < 18 → (hb[k]? = some true ↔ k = k0 ∨ ∃ e ∈ es, e.1.1 = 42 + (k : Int))
  ok : ∀ e ∈ es, 42 ≤ e.1.1 ∧ e.1.1 < 60 ∧ e.1.2.length = 128 ∧ ∃ g c, e.2 = .slice (some ⟨g, 0, none⟩) 128 c ∧ w.heap.size + 2 ≤ g
  nd : (es.map (·.1.1)).Nodup
  fresh : ∀ e ∈ es, e.1.1 ≠ 42 + (k0 : Int)
theorem Pu.mark {w wr : World} {F : Nat → Prop} {vn vf vr : Value} {es : List PE} {v : Value} {hb : List Bool} {k0 : Nat} (h : Pu w wr F vn vf vr es v hb) (ho : Off (· = w.heap.size + 1) wr (wr.setCell ⟨w.heap.size + 1, k0, none⟩ (.bool true))) (hk0 : k0 < 18) (hb0 : hb[k0]? = some false) : Pv w (wr.setCell ⟨w.heap.size + 1, k0, none⟩ (.bool true)) F vn vf vr es v (hb.set k0 true) k0 := by
  refine ⟨ho.keeps h.grp (by omega), ?_, h.row.off ho (fun g hg => ?_) (fun e he a n c e' => ?_), Nat.le_trans h.sz ho.size, off_below h.bl (by omega), by rw [List.length_set, h.hl], fun k hk => ?_, h.ok, h.nd, fun e he e1 => by have := (h.hk k0 hk0).2 ⟨e, he, e1⟩; rw [hb0] at this; cases this⟩
  · have := h.has
    simp [World.setCell, Array.getElem?_modify, this, hasC]
  · have := (own_blk h.row.row hg).1
    show ¬ g = _
    omega
  · obtain ⟨g, c, e1, e2⟩ := (h.ok e he).2.2.2
    rw [e1] at e'
    cases e'
    show ¬ g = _
    omega
  · rw [List.getElem?_set]
    by_cases e : k0 = k
    · subst e
      rw [if_pos rfl, if_pos (by rw [h.hl]; exact hk)]
      exact ⟨fun _ => .inl rfl, fun _ => rfl⟩
    · rw [if_neg e, h.hk k hk]
      exact ⟨.inr, fun h => h.elim (fun h => absurd h.symm e) id⟩
theorem Pv.below {w wr w' : World} {F : Nat → Prop} {vn vf vr : Value} {es : List PE} {v : Value} {hb : List Bool} {k0 : Nat} (h : Pv w wr F vn vf vr es v hb k0) (hbl : Below wr.heap.size wr w') : Pv w w' F vn vf vr es v hb k0 := by
  have ho : Off (fun _ => False) wr w' := .of_below hbl
  exact ⟨ho.keeps h.grp (fun h => h), ho.keeps h.has (fun h => h), h.row.below hbl, Nat.le_trans h.sz hbl.size, below2 h.bl hbl, h.hl, h.hk, h.ok, h.nd, h.fresh⟩
theorem data_ne {wr : World} {F : Nat → Prop} {A : Nat} {v : Value} {es : List PE} (h : PutRow wr A F v es) (hok : ∀ e ∈ es, 42 ≤ e.1.1 ∧ e.1.1 < 60 ∧ e.1.2.length = 128 ∧ ∃ g c, e.2 = .slice (some ⟨g, 0, none⟩) 128 c ∧ A ≤ g) {e : PE} (he : e ∈ es) {a : Addr} {n c : Nat} (hv : e.2 = .slice (some a) n c) : ¬ v.ownBlock = some a.block := by
  intro hx
  obtain ⟨_, _, h3, g, c', e1, _⟩ := hok e he
  have hbt := (h.data e he).bt
  rw [e1] at hv
  cases hv
  rw [e1] at hbt
  obtain ⟨_, _, e2, _, _, _, hc⟩ := hbt
  injection e2 with e5 e6 e7
  subst e5
  obtain ⟨g', o', e3, hc0⟩ := hc 0 _ (List.getElem?_eq_getElem (by omega))
  cases e3
  rcases h.row.2 with ⟨e4, _⟩ | ⟨g2, cap, cur, e4, hb, hh, _⟩
  · rw [e4] at hx; cases hx
  · have hr := h.row
    rw [e4] at hx hr
    cases hx
    obtain ⟨x, r, hxr⟩ : ∃ x r, es = x :: r := by
      cases es with
      | nil => simp at he
      | cons x r => exact ⟨x, r, rfl⟩
    have h0 := (row_cell hr 0 (x := .int .i64 x.1.1) (by rw [hxr]; rfl)).2
    rw [h0] at hc0
    cases hc0
theorem Pv.app {w wr X : World} {F : Nat → Prop} {vn vf vr : Value} {es : List PE} {v v' : Value} {hb : List Bool} {k0 g c : Nat} {b : Sec} (h : Pv w wr F vn vf vr es v hb k0) (ho : Off (fun k => v.ownBlock = some k) wr X) (hr : X.ownsRow (w.heap.size + 2) 47 2 v' (es.length + 1) (flat (es ++ [((42 + (k0 : Int), b), .slice (some ⟨g, 0, none⟩) 128 c)]))) (hbt : BtAt wr (.slice (some ⟨g, 0, none⟩) 128 c) b) (hbl : b.length = 128) (hk0 : k0 < 18) (hg : w.heap.size + 2 ≤ g) (hgl : g < wr.heap.size) (hF : ∀ i, F i → i < w.heap.size) (hgk : ∀ k, v.ownBlock = some k → k < g) : Pu w X F vn vf vr (es ++ [((42 + (k0 : Int), b), .slice (some ⟨g, 0, none⟩) 128 c)]) v' hb := by
  have hne : ∀ k, v.ownBlock = some k → w.heap.size + 2 ≤ k ∧ ∃ cs, wr.heap[k]? = some (.cells cs 47 (0, 0)) := fun k hk => own_blk h.row.row hk
  refine ⟨ho.keeps h.grp (fun hx => by have := (hne _ hx).1; omega), ho.keeps h.has (fun hx => by have := (hne _ hx).1; omega), ⟨by simpa using hr, fun e he => ?_⟩, Nat.le_trans h.sz ho.size, Off.below h.bl ho h.bl.size (fun k hk => by have := (hne k hk).1; omega), h.hl, fun k hk => ?_, fun e he => ?_, ?_⟩
  · rcases List.mem_append.1 he with he | he
    · refine (h.row.data e he).off ho (fun a n c e' hx => ?_)
      exact data_ne h.row h.ok he e' hx
    · simp at he
      subst he
      exact ⟨hbt.off ho (fun a n c e' hx => by cases e'; have := hgk _ hx; have h3 : g < g := this; omega), fun a n c e' => by cases e'; exact ⟨fun hx => by have := hF _ hx; have h3 : g < w.heap.size := this; omega, Nat.lt_of_lt_of_le hgl ho.size⟩, ⟨by show _ ≤ 42 + (k0 : Int); omega, by show 42 + (k0 : Int) ≤ _; omega⟩, by show b.length ≤ _; omega⟩
  · rw [h.hk k hk]
    constructor
    · rintro (e | ⟨e, he, e1⟩)
      · exact ⟨_, List.mem_append.2 (.inr (List.mem_singleton.2 rfl)), by rw [e]⟩
      · exact ⟨e, List.mem_append.2 (.inl he), e1⟩
    · rintro ⟨e, he, e1⟩
      rcases List.mem_append.1 he with he | he
      · exact .inr ⟨e, he, e1⟩
      · simp at he
        subst he
        exact .inl (by simp at e1; omega)
  · rcases List.mem_append.1 he with he | he
    · exact h.ok e he
    · simp at he
      subst he
      exact ⟨by show 42 ≤ 42 + (k0 : Int); omega, by show 42 + (k0 : Int) < 60; omega, hbl, _, _, rfl, hg⟩
  · rw [List.map_append]
    refine List.nodup_append.2 ⟨h.nd, by simp, fun a ha b' hb' e => ?_⟩
    obtain ⟨e2, he2, rfl⟩ := List.mem_map.1 ha
    simp at hb'
    exact h.fresh e2 he2 (e.trans hb')
theorem PutRow.weak {w : World} {A : Nat} {F : Nat → Prop} {v : Value} {es : List PE} (h : PutRow w (A + 2) F v es) : PutRow w A F v es := by
  refine ⟨⟨h.row.1, ?_⟩, h.data⟩
  rcases h.row.2 with h | ⟨g, cap, cur, e, hb, h3⟩
  · exact .inl h
  · exact .inr ⟨g, cap, cur, e, by omega, h3⟩
set_option maxHeartbeats 4000000 in
theorem c_puts {F : Nat → Prop} (w : World) (vn vf vr : Value) (ns : List Int) (fb raw : Sec) (hn : ItAt w vn ns) (hn64 : ∀ y ∈ ns, I64 y) (hf : BtAt w vf fb) (hr : BtAt w vr raw) (hF : ∀ g, F g → g < w.heap.size) : Calls Try.prog 12 #[.agg #[vn, vf, vr]] w fun e w' => ∃ v es, e = .returned v ∧ PutRow w' w.heap.size F v es ∧ POk w.heap.size es ∧ es.length ≤ 30 ∧ Below w.heap.size w w' := by
  obtain ⟨an, nn, cn, hqn⟩ : ∃ a n c, vn = .slice a n c := by obtain ⟨a, c, e, _⟩ := hn; exact ⟨a, _, c, e⟩
  obtain ⟨af, cf, hqf, _, hcf, _⟩ := id hf
  obtain ⟨ar, cr, hqr, _⟩ := id hr
  subst hqn hqf hqr
  obtain ⟨hnl, hnc⟩ := it_cell hn rfl
  subst hnl
  have HNC := Lib.hid hnc
  have HN64 := Lib.hid hn64
  have HFB := Lib.hid hf
  have HR := Lib.hid hr
  have HF := Lib.hid hF
  have hfl : fb.length ≤ 9223372036854775807 := by unfold maxLen at hcf; omega
  clear hn hn64 hf hr hF hnc hcf
  go_enter Try.func12, Try.ntmps12
  go_wp2_with fail
  have hs0 : Hid (((w.alloc (.cells #[.slice an ns.length cn, .slice af fb.length cf, .slice ar raw.length cr] 38)).alloc (.cells (hasC (List.replicate 18 false)) 72)).heap.size = w.heap.size + 2) := Lib.hid (by unfold World.alloc; simp)
  have P0 : Hid (Pu w ((w.alloc (.cells #[.slice an ns.length cn, .slice af fb.length cf, .slice ar raw.length cr] 38)).alloc (.cells (hasC (List.replicate 18 false)) 72)) F (.slice an ns.length cn) (.slice af fb.length cf) (.slice ar raw.length cr) [] (.slice none 0 0) (List.replicate 18 false)) := Lib.hid ⟨by
      unfold World.alloc
      simp [Array.getElem?_push], by
      unfold World.alloc
      simp only [Array.getElem?_push, Array.size_push]
      simp, PutRow.nil _ _ _, by rw [hs0.out]; exact Nat.le_refl _, below2 (below_al0 _ _) (below_al0 _ _), by simp, fun k hk => ⟨fun h => (by rw [List.getElem?_replicate, if_pos hk] at h; cases h), fun ⟨e, he, _⟩ => (by simp at he)⟩, fun e he => by simp at he, by simp⟩
  have hlit : hasC (List.replicate 18 false) = #[.bool false, .bool false, .bool false, .bool false, .bool false, .bool false, .bool false, .bool false, .bool false, .bool false, .bool false, .bool false, .bool false, .bool false, .bool false, .bool false, .bool false, .bool false] := rfl
  rw [hlit] at P0 hs0
  go_loopw [3, 5] (fun vv iv wr => ∃ (i : Nat) (es : List PE) (hb : List Bool), iv = .int .i64 i ∧ i ≤ 30 ∧ i ≤ ns.length ∧ i ≤ fb.length ∧ es.length ≤ i ∧ Hid (Pu w wr F (.slice an ns.length cn) (.slice af fb.length cf) (.slice ar raw.length cr) es vv hb)) (fun _ iv _ => 30 - (intOf iv).toNat)
  case atStart => exact ⟨0, [], _, rfl, by omega, by omega, by omega, by simp, P0⟩
  case round =>
    clear P0 hs0 hlit
    obtain ⟨i, es, hb, rfl, hi30, hin, hif, hel, P⟩ := hrel
    have cg := P.out.cells.1
    have cf9 := P.out.cells.2.1
    have cr9 := P.out.cells.2.2
    by_cases h1 : i < ns.length
    · have h1' : (i : Int) < (ns.length : Int) := by omega
      by_cases h2 : i < fb.length
      · have h2' : (i : Int) < (fb.length : Int) := by omega
        by_cases h3 : i < 30
        · have h3' : (i : Int) < 30 := by omega
          obtain ⟨x, hx⟩ : ∃ x, ns[i]? = some x := ⟨_, List.getElem?_eq_getElem h1⟩
          obtain ⟨gn, on, rfl, hgn, hcn⟩ := HNC.out i x hx
          have hx64 := Lib.hid (HN64.out x (List.mem_of_getElem? hx))
          have cx := (P.out.bl.cell (p := ⟨gn, on + i, none⟩) hgn).trans hcn
          obtain ⟨kk, hkk⟩ : ∃ kk : Nat, x % 18 = (kk : Int) := ⟨(x % 18).toNat, by omega⟩
          have hk18 : kk < 18 := by omega
          obtain ⟨bb, hbb, cb, fbz⟩ := P.out.hasAt hk18
          replace hkk := Lib.hid hkk
          replace hbb := Lib.hid hbb
          clear hcn hgn hx
          cases bb with
          | true =>
            go_wp2_with (first
              | (go_at_call 17; refine (c_within x 18 (by decide) (by decide) wr).mono ?_; rintro e w2 ⟨rfl, rfl⟩; rw [hkk.out]))
            clear cg cf9 cr9 cx cb fbz
            go_roundw
            case rel => exact ⟨i + 1, es, hb, by go_num, by omega, by omega, by omega, by omega, P⟩
            case measure => simp [intOf]; omega
          | false =>
            go_upto_region 9 with (first
              | (go_at_call 17; refine (c_within x 18 (by decide) (by decide) wr).mono ?_; rintro e w2 ⟨rfl, rfl⟩; rw [hkk.out]))
            have o1 := off1 wr (w.heap.size + 1) kk (.bool true)
            have B5 : Hid (Below w.heap.size w (wr.setCell ⟨w.heap.size + 1, kk, none⟩ (.bool true))) := Lib.hid (off_below P.out.bl (by omega))
            have P5 := Lib.hid (P.out.mark o1 hk18 hbb.out)
            clear cb fbz
            generalize wr.setCell ⟨w.heap.size + 1, kk, none⟩ (.bool true) = w5 at *
            obtain ⟨y, hy⟩ : ∃ y, fb[i]? = some y := ⟨_, List.getElem?_eq_getElem h2⟩
            have hfw := HFB.out.below B5.out
            obtain ⟨_, _, e, _, _, _, hfc⟩ := hfw
            cases e
            obtain ⟨gf, off, rfl, cfy⟩ := hfc i y hy
            have hgf : Hid (gf < w5.heap.size) := Lib.hid (by
              rcases Nat.lt_or_ge gf w5.heap.size with h | h
              · exact h
              · simp [World.cell?, Array.getElem?_eq_none h] at cfy)
            have hgw : Hid (gf < w.heap.size) := Lib.hid (by
              obtain ⟨_, _, e, _, _, _, hvc0⟩ := HFB.out
              cases e
              obtain ⟨g3, o3, e3, hc3⟩ := hvc0 i y hy
              cases e3
              rcases Nat.lt_or_ge gf w.heap.size with h | h
              · exact h
              · simp [World.cell?, Array.getElem?_eq_none h] at hc3)
            have HRW := Lib.hid (HR.out.below B5.out)
            have d1 := P5.out.grp
            have e1 : w5.cell? ⟨w.heap.size, 1, none⟩ = some (.slice (some ⟨gf, off, none⟩) fb.length cf) := (by simp [World.cell?, d1])
            have e2 : w5.cell? ⟨w.heap.size, 2, none⟩ = some (.slice ar raw.length cr) := (by simp [World.cell?, d1])
            have hza : IntKind.i64.wrap (42 + (kk : Int)) = 42 + (kk : Int) := IntWalk.i64_in _ (by omega)
            clear hfc hy d1 cg cf9 cr9 cx o1
            go_wp2_with fail
            refine wp_region_held_drew (S := fun w' => w'.cell? ⟨w.heap.size, 1, none⟩ = some (.slice (some ⟨gf, off, none⟩) fb.length cf) ∧ w'.cell? ⟨w.heap.size, 2, none⟩ = some (.slice ar raw.length cr) ∧ w'.cell? ⟨gf, off + i, none⟩ = some (.int .u8 (y.toNat : Int))) (by kernel_rfl) ?_ (fun hHeld => ?_)
            · exact ⟨e1, e2, cfy⟩
            refine wpAnyH_take (i := 0) (oi := ⟨_, _, _, _, _, _⟩) (v := ?_) rfl (by kernel_rfl) (by kernel_rfl) (by kernel_rfl) (fun _ _ _ h => h) (Or.inl ⟨by rfl, ?_⟩) (by assumption) ?_
            rotate_left
            · intro w hSw; (try dsimp only at hSw); go_split_ands; go_simp; (try with_reducible rfl)
            try simp only [Act.put, List.setIfInBounds_toArray, List.set_cons_zero, List.set_cons_succ]
            refine wpAnyH_take (i := 1) (oi := ⟨_, _, _, _, _, _⟩) (v := ?_) rfl (by kernel_rfl) (by kernel_rfl) (by kernel_rfl) (fun _ _ _ h => h) (Or.inl ⟨by rfl, ?_⟩) (by assumption) ?_
            rotate_left
            · intro w hSw; (try dsimp only at hSw); go_split_ands; go_simp; (try with_reducible rfl)
            try simp only [Act.put, List.setIfInBounds_toArray, List.set_cons_zero, List.set_cons_succ]
            refine wpAnyH_take (i := 2) (oi := ⟨_, _, _, _, _, _⟩) (v := ?_) rfl (by kernel_rfl) (by kernel_rfl) (by kernel_rfl) (fun _ _ _ h => h) (Or.inl ⟨by rfl, ?_⟩) (by assumption) ?_
            rotate_left
            · intro w hSw; (try dsimp only at hSw); go_split_ands; go_simp; (try with_reducible rfl)
            try simp only [Act.put, List.setIfInBounds_toArray, List.set_cons_zero, List.set_cons_succ]
            refine wpAnyH_take (i := 3) (oi := ⟨_, _, _, _, _, _⟩) (v := ?_) rfl (by kernel_rfl) (by kernel_rfl) (by kernel_rfl) (fun _ _ _ h => h) (Or.inl ⟨by rfl, ?_⟩) (by assumption) ?_
            rotate_left
            · intro w hSw; (try dsimp only at hSw); go_split_ands; go_simp; (try with_reducible rfl)
            try simp only [Act.put, List.setIfInBounds_toArray, List.set_cons_zero, List.set_cons_succ]
            refine wpAnyH_take (i := 4) (oi := ⟨_, _, _, _, _, _⟩) (v := ?_) rfl (by kernel_rfl) (by kernel_rfl) (by kernel_rfl) (fun _ _ _ h => h) (Or.inl ⟨by rfl, ?_⟩) (by assumption) ?_
            rotate_left
            · intro w hSw; (try dsimp only at hSw); go_split_ands; go_simp; (try with_reducible rfl)
            try simp only [Act.put, List.setIfInBounds_toArray, List.set_cons_zero, List.set_cons_succ]
            refine wpAnyH_take (i := 5) (oi := ⟨_, _, _, _, _, _⟩) (v := ?_) rfl (by kernel_rfl) (by kernel_rfl) (by kernel_rfl) (fun _ _ _ h => h) (Or.inl ⟨by rfl, ?_⟩) (by assumption) ?_
            rotate_left
            · intro w hSw; (try dsimp only at hSw); go_split_ands; go_simp; (try with_reducible rfl)
            try simp only [Act.put, List.setIfInBounds_toArray, List.set_cons_zero, List.set_cons_succ]
            refine wpAnyH_take (i := 6) (oi := ⟨_, _, _, _, _, _⟩) (v := ?_) rfl (by kernel_rfl) (by kernel_rfl) (by kernel_rfl) (fun _ _ _ h => h) (Or.inl ⟨by rfl, ?_⟩) (by assumption) ?_
            rotate_left
            · intro w hSw; (try dsimp only at hSw); go_split_ands; go_simp; (try with_reducible rfl)
            try simp only [Act.put, List.setIfInBounds_toArray, List.set_cons_zero, List.set_cons_succ]
            refine wpAnyH_take (i := 7) (oi := ⟨_, _, _, _, _, _⟩) (v := ?_) rfl (by kernel_rfl) (by kernel_rfl) (by kernel_rfl) (fun _ _ _ h => h) (Or.inl ⟨by rfl, ?_⟩) (by assumption) ?_
            rotate_left
            · intro w hSw; (try dsimp only at hSw); go_split_ands; go_simp; (try with_reducible rfl)
            try simp only [Act.put, List.setIfInBounds_toArray, List.set_cons_zero, List.set_cons_succ]
            refine wpAnyH_take (i := 8) (oi := ⟨_, _, _, _, _, _⟩) (v := ?_) rfl (by kernel_rfl) (by kernel_rfl) (by kernel_rfl) (fun _ _ _ h => h) (Or.inl ⟨by rfl, ?_⟩) (by assumption) ?_
            rotate_left
            · intro w hSw; (try dsimp only at hSw); go_split_ands; go_simp; (try with_reducible rfl)
            try simp only [Act.put, List.setIfInBounds_toArray, List.set_cons_zero, List.set_cons_succ]
            refine wpAnyH_take (i := 9) (oi := ⟨_, _, _, _, _, _⟩) (v := ?_) rfl (by kernel_rfl) (by kernel_rfl) (by kernel_rfl) (fun _ _ _ h => h) (Or.inl ⟨by rfl, ?_⟩) (by assumption) ?_
            rotate_left
            · intro w hSw; (try dsimp only at hSw); go_split_ands; go_simp; (try with_reducible rfl)
            try simp only [Act.put, List.setIfInBounds_toArray, List.set_cons_zero, List.set_cons_succ]
            refine wpAnyH_ready (rs := [10]) (by kernel_rfl) (by simp) (AllReadyH.cons (o := ⟨_, _, _, _, _, _⟩) rfl (fun K hK => ?_) AllReadyH.nil)
            go_simp
            refine (c_fill w5.drew y (.slice ar raw.length cr) raw (HRW.out.below (below_drew (Below.refl _ _)))).mono ?_
            rintro e w6 ⟨rfl, hb6⟩
            have B6 : Hid (Below w5.heap.size w5 w6) := Lib.hid (below2 (below_drew (Below.refl _ _)) hb6)
            clear hb6
            have k1 := off_cell (.of_below (ex := fun _ => False) B6.out) e1 (fun h => h)
            have k2 := off_cell (.of_below (ex := fun _ => False) B6.out) e2 (fun h => h)
            have k3 := off_cell (.of_below (ex := fun _ => False) B6.out) cfy (fun h => h)
            go_wp2_with fail
            refine hK.out _ _ ?_ (fun hHeld => ?_)
            · exact ⟨k1, k2, k3⟩
            clear hK K
            try simp only [Act.put, List.setIfInBounds_toArray, List.set_cons_zero, List.set_cons_succ]
            obtain ⟨c7, w7, hcv, hbt7, hb7, hs7⟩ := str_bytes w6 (fillB y raw) (by rw [fillB_len]; decide)
            rw [fillB_len] at hcv hbt7
            have B7 : Hid (Below w5.heap.size w5 w7) := Lib.hid (below2 B6.out hb7)
            have m1 := off_cell (.of_below (ex := fun _ => False) hb7) k1 (fun h => h)
            have m2 := off_cell (.of_below (ex := fun _ => False) hb7) k2 (fun h => h)
            have m3 := off_cell (.of_below (ex := fun _ => False) hb7) k3 (fun h => h)
            replace hbt7 := Lib.hid hbt7
            replace hs7 := Lib.hid hs7
            clear hb7
            refine wpAnyH_ready (rs := [11]) (by kernel_rfl) (by simp) (AllReadyH.cons (o := ⟨_, _, _, _, _, _⟩) rfl (fun K hK => ?_) AllReadyH.nil)
            go_simp
            refine hK.out _ _ ?_ (fun hHeld => ?_)
            · exact ⟨m1, m2, m3⟩
            clear hK K
            try simp only [Act.put, List.setIfInBounds_toArray, List.set_cons_zero, List.set_cons_succ]
            refine wpAnyH_take (i := 12) (oi := ⟨_, _, _, _, _, _⟩) (v := ?_) rfl (by kernel_rfl) (by kernel_rfl) (by kernel_rfl) (fun _ _ _ h => h) (Or.inl ⟨by rfl, ?_⟩) (by assumption) ?_
            rotate_left
            · intro w hSw; (try dsimp only at hSw); go_split_ands; go_simp; (try with_reducible rfl)
            try simp only [Act.put, List.setIfInBounds_toArray, List.set_cons_zero, List.set_cons_succ]
            refine wpAnyH_ready (rs := [13]) (by kernel_rfl) (by simp) (AllReadyH.cons (o := ⟨_, _, _, _, _, _⟩) rfl (fun K hK => ?_) AllReadyH.nil)
            go_simp
            have B8 : Hid (Below w5.heap.size w5 (w7.alloc (.cells #[.int .i64 (42 + (kk : Int)), .slice (some ⟨w6.heap.size, 0, none⟩) 128 c7] 47))) := Lib.hid (below2 B7.out (below_al0 _ _))
            have hxb := heap_alloc_new w7 (.cells #[.int .i64 (42 + (kk : Int)), .slice (some ⟨w6.heap.size, 0, none⟩) 128 c7] 47)
            have n0 := Lib.hid (cell_of_row _ _ 0 _ _ _ hxb)
            have n1 := Lib.hid (cell_of_row _ _ 1 _ _ _ hxb)
            have BT8 := Lib.hid (hbt7.out.below (below_al0 w7 (.cells #[.int .i64 (42 + (kk : Int)), .slice (some ⟨w6.heap.size, 0, none⟩) 128 c7] 47)))
            have P8 := Lib.hid (P5.out.below B8.out)
            clear hxb
            refine hK.out _ _ ?_ (fun hHeld => ?_)
            · exact ⟨off_cell (.of_below (ex := fun _ => False) B8.out) e1 (fun h => h), off_cell (.of_below (ex := fun _ => False) B8.out) e2 (fun h => h), off_cell (.of_below (ex := fun _ => False) B8.out) cfy (fun h => h)⟩
            clear hK K
            try simp only [Act.put, List.setIfInBounds_toArray, List.set_cons_zero, List.set_cons_succ]
            refine wpAnyH_ready (rs := [14]) (by kernel_rfl) (by simp) (AllReadyH.cons (o := ⟨_, _, _, _, _, _⟩) rfl (fun K hK => ?_) AllReadyH.nil)
            rw [if_pos (by rfl)]
            refine wp_append_put (.tmp 37) (.tmp 50) rfl (w.heap.size + 2) u3 es rfl P8.out.row.row w7.heap.size (42 + (kk : Int)) (some ⟨w6.heap.size, 0, none⟩) 128 c7 (fillB y raw) rfl n0.out n1.out (by omega) P8.out.sz ?_
            intro ga gc X hr ho
            have ho' := Lib.hid ho
            have PX := Lib.hid (P8.out.app ho hr BT8.out (fillB_len y raw) hk18 (by have := B6.out.size; have := P5.out.sz; omega) (by have := hs7.out; show w6.heap.size < ((w7.alloc (.cells #[.int .i64 (42 + (kk : Int)), .slice (some ⟨w6.heap.size, 0, none⟩) 128 c7] 47))).heap.size; rw [show ((w7.alloc (.cells #[.int .i64 (42 + (kk : Int)), .slice (some ⟨w6.heap.size, 0, none⟩) 128 c7] 47))).heap.size = w7.heap.size + 1 by unfold World.alloc; simp]; omega) HF.out (fun k hk => by obtain ⟨_, cs, hc⟩ := own_blk P5.out.row.row hk; have := (Array.getElem?_eq_some_iff.1 hc).1; have := B6.out.size; omega))
            clear hr ho
            refine hK.out _ _ ?_ (fun hHeld => ?_)
            · have hne : ∀ k, u3.ownBlock = some k → w.heap.size + 2 ≤ k := fun k hk => (own_blk P8.out.row.row hk).1
              exact ⟨off_cell ho'.out (off_cell (.of_below (ex := fun _ => False) B8.out) e1 (fun h => h)) (fun h => by have h2 := hne _ h; have h3 : w.heap.size + 2 ≤ w.heap.size := h2; omega), off_cell ho'.out (off_cell (.of_below (ex := fun _ => False) B8.out) e2 (fun h => h)) (fun h => by have h2 := hne _ h; have h3 : w.heap.size + 2 ≤ w.heap.size := h2; omega), off_cell ho'.out (off_cell (.of_below (ex := fun _ => False) B8.out) cfy (fun h => h)) (fun h => by have h2 := hne _ h; have h3 : w.heap.size + 2 ≤ gf := h2; have := hgw.out; omega)⟩
            clear hK K
            try simp only [Act.put, List.setIfInBounds_toArray, List.set_cons_zero, List.set_cons_succ]
            refine wpAnyH_take (i := 15) (oi := ⟨_, _, _, _, _, _⟩) (v := ?_) rfl (by kernel_rfl) (by kernel_rfl) (by kernel_rfl) (fun _ _ _ h => h) (Or.inl ⟨by rfl, ?_⟩) (by assumption) ?_
            rotate_left
            · intro w hSw; (try dsimp only at hSw); go_split_ands; go_simp; (try with_reducible rfl)
            try simp only [Act.put, List.setIfInBounds_toArray, List.set_cons_zero, List.set_cons_succ]
            refine wpAnyH_done (by kernel_rfl) ?_ _
            clear e1 e2 cfy k1 k2 k3 m1 m2 m3 hza hHeld hcv
            go_wp2
            go_roundw
            case rel => exact ⟨i + 1, _, _, by go_num, by omega, by omega, by omega, by simp; omega, PX⟩
            case measure => simp [intOf]; omega
        · have h3' : ¬ (i : Int) < 30 := by omega
          go_wp2_with fail
          go_ret
          exact ⟨_, rfl, es, P.out.row.weak, P.out.pok, by omega, P.out.bl⟩
      · have h2' : ¬ (i : Int) < (fb.length : Int) := by omega
        go_wp2_with fail
        go_ret
        exact ⟨_, rfl, es, P.out.row.weak, P.out.pok, by omega, P.out.bl⟩
    · have h1' : ¬ (i : Int) < (ns.length : Int) := by omega
      go_wp2_with fail
      go_ret
      exact ⟨_, rfl, es, P.out.row.weak, P.out.pok, by omega, P.out.bl⟩
end Go.Proofs.Ytpdjenkacefpjaa
