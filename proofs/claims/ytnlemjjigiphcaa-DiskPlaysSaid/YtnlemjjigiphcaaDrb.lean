/- The document's disk: Read. -/
import Derived.Test.YtnlemjjigiphcaaDra
import Derived.Test.YtnlemjjigiphcaaDo
namespace Go.Proofs.Ytnlemjjigiphcaa
open Go.RowKit Go.ChangeShapes
set_option linter.unusedVariables false
set_option maxRecDepth 100000

theorem RefIn.at_ {G : Nat → Prop} {w : World} {X : Nat} {d : Dk} {s : List Sx} {v : Value} {es : List Se} (h : RefIn G w X d s v es) (n : Int) : d.at n = ((findX s n).map (·.last)).getD zeros := h.sim.at_ n
/-- whether there is one: its place, its cells -/
theorem RefIn.find {G : Nat → Prop} {w : World} {X : Nat} {d : Dk} {s : List Sx} {v : Value} {es : List Se} (h : RefIn G w X d s v es) (n : Int) : (findX s n = none ∧ (atX s n = es.length ∨ ∃ e, es[atX s n]? = some e ∧ e.x.n ≠ n)) ∨ ∃ e, findX s n = some e.x ∧ es[atX s n]? = some e ∧ e.x.n = n := by
  cases hf : findX s n with
  | some x =>
    obtain ⟨h1, h2⟩ := findX_some hf
    obtain ⟨e, he, rfl⟩ := h.at_k h1
    exact .inr ⟨e, rfl, he, h2⟩
  | none =>
    refine .inl ⟨rfl, ?_⟩
    rcases Nat.lt_or_ge (atX s n) es.length with hl | hl
    · obtain ⟨e, he⟩ : ∃ e, es[atX s n]? = some e := ⟨_, List.getElem?_eq_getElem hl⟩
      exact .inr ⟨e, he, findX_no hf _ (h.get he)⟩
    · have := atX_le s n
      rw [h.len] at this
      exact .inl (by omega)
set_option maxHeartbeats 4000000 in
theorem c_rRead {G : Nat → Prop} (w : World) (X : Nat) (d : Dk) (n : Int) (h : RefAt G w X d) : Calls Try.prog 19 #[.pointer (some ⟨X, 0, none⟩), .int .i64 n] w (Rd d n w) := by
  obtain ⟨s, v, es, h⟩ := h
  have c4 : w.cell? ⟨X, 4, none⟩ = some (.bool d.dead) := h.cell 4
  have c0 : w.cell? ⟨X, 0, none⟩ = some (.int .i64 d.n) := h.cell 0
  have h128 : Hid ((d.at n).length = 128) := Lib.hid (h.ok.atLen n)
  obtain ⟨ao, cap, rfl, hm, hp, _⟩ := h.form
  have c1 : w.cell? ⟨X, 1, none⟩ = some (.slice ao es.length cap) := h.cell 1
  have HP := Lib.hid hp
  clear hm hp
  have hF := h.find n
  have hA := h.at_ n
  have H := Lib.hid h
  clear h
  cases hd : d.dead with
  | true =>
    have hE : Hid (readE d n = 12) := Lib.hid (by unfold readE; rw [hd]; rfl)
    rw [hd] at c4
    clear hF hA hd
    go_enter Try.func19, Try.ntmps19
    go_wp2_with fail
    go_ret2
    exact Rd.no hE.out (by decide) (Below.refl _ _)
  | false =>
    rw [hd] at c4
    by_cases hT : d.there n = true
    · have hE : Hid (readE d n = 0) := Lib.hid (by unfold readE; rw [hd, hT]; rfl)
      have hb0 : ¬ n < 0 := by simp [Dk.there] at hT; omega
      have hb1 : ¬ n ≥ d.n := by simp [Dk.there] at hT; omega
      clear hd hT
      have hmk := A.mk128
      have CA : ∀ w', w' = w → Calls Try.prog 31 #[.pointer (some ⟨X, 0, none⟩), .int .i64 n] w' fun e w'' => e = .returned (.int .i64 (atX s n)) ∧ w' = w'' := by rintro w' rfl; exact c_at w' X d s _ es H.out n
      replace CA := Lib.hid CA
      rcases hF with ⟨hf, he | ⟨e, he, hne⟩⟩ | ⟨e, hf, he, hee⟩
      · rw [hf] at hA
        obtain ⟨k, hk⟩ : ∃ k, atX s n = k := ⟨_, rfl⟩
        rw [hk] at he
        subst he
        have HK := Lib.hid hk
        have HA := Lib.hid hA
        clear hk hf hA
        go_enter Try.func19, Try.ntmps19
        go_wp2_with (first | (go_at_call 31; refine (CA.out _ rfl).mono ?_; rintro e w1 ⟨rfl, rfl⟩; rw [HK.out]))
        go_ret2
        exact Rd.yes hE.out (by rw [HA.out]; exact row_zeros w _ (Nat.le_refl _)) (below_al0 w _)
      · rw [hf] at hA
        have hkl : atX s n < es.length := (List.getElem?_eq_some_iff.1 he).1
        obtain ⟨k, hk⟩ : ∃ k, atX s n = k := ⟨_, rfl⟩
        rw [hk] at he hkl
        obtain ⟨g, rfl⟩ := HP.out (by omega)
        obtain ⟨cn, _, cl, _⟩ := H.out.rowc he
        have hkl' : (k : Int) < (es.length : Int) := by omega
        have hne' : (e.x.n == n) = false := beq_eq_false_iff_ne.2 hne
        have HK := Lib.hid hk
        have HA := Lib.hid hA
        clear hk hf hA hne he
        go_enter Try.func19, Try.ntmps19
        go_wp2_with (first | (go_at_call 31; refine (CA.out _ rfl).mono ?_; rintro e w1 ⟨rfl, rfl⟩; rw [HK.out]))
        go_ret2
        exact Rd.yes hE.out (by rw [HA.out]; exact row_zeros w _ (Nat.le_refl _)) (below_al0 w _)
      · rw [hf] at hA
        have hkl : atX s n < es.length := (List.getElem?_eq_some_iff.1 he).1
        have hD := (H.out.dat e (List.mem_of_getElem? he)).2
        obtain ⟨k, hk⟩ : ∃ k, atX s n = k := ⟨_, rfl⟩
        rw [hk] at he hkl
        obtain ⟨g, rfl⟩ := HP.out (by omega)
        obtain ⟨cn, _, cl, _⟩ := H.out.rowc he
        have hkl' : (k : Int) < (es.length : Int) := by omega
        rw [hee] at cn
        have HK := Lib.hid hk
        have HA : Hid (d.at n = e.x.last) := Lib.hid hA
        have hl128 : Hid (e.x.last.length = 128) := Lib.hid (by rw [← HA.out]; exact h128.out)
        have HB : Hid (BtAt w e.vl e.x.last) := Lib.hid hD.row.bt
        obtain ⟨vl, hvl⟩ : ∃ vl, e.vl = vl := ⟨_, rfl⟩
        rw [hvl] at cl HB
        have c1e := off_cell (.of_below (ex := fun _ => False) (below_al0 w (.cells #[] 5))) c1 (fun h => h)
        have cle := off_cell (.of_below (ex := fun _ => False) (below_al0 w (.cells #[] 5))) cl (fun h => h)
        clear hk hf hA he hD hee hvl cl
        go_enter Try.func19, Try.ntmps19
        go_wp2_with (first
          | (go_at_call 31; refine (CA.out _ rfl).mono ?_; rintro e w1 ⟨rfl, rfl⟩; rw [HK.out])
          | (at_builtin; refine wpList_append_bytes (o := ⟨some 52, _, _, _, _, _⟩) ?_ (.tmp 43) (.tmp 51) ?_ w.heap.size (.slice (some ⟨w.heap.size, 0, none⟩) 0 0) [] ?_ (row_empty w) vl e.x.last ?_ (HB.out.below (below_al0 _ _)) ?_ ?_ ?_; exact rfl; exact rfl; exact rfl; exact rfl; (rw [hl128.out]; decide); (simp); intro vm w6 hm6 ho6 hqm; have hb6 : Hid (Below w.heap.size w w6) := Lib.hid (Off.below (below_al0 w _) ho6 (below_al0 w _).size (fun k hk => by cases hk; exact Nat.le_refl _)); rw [List.nil_append] at hm6; have hm6 := Lib.hid hm6; clear ho6 hqm))
        go_ret2
        exact Rd.yes hE.out (by rw [HA.out]; exact hm6.out) hb6.out
    · have hE : Hid (readE d n = 1) := Lib.hid (by unfold readE; rw [hd]; simp at hT; rw [hT]; rfl)
      clear hF hA hd
      by_cases hb0 : n < 0
      · go_enter Try.func19, Try.ntmps19
        go_wp2_with fail
        go_ret2
        exact Rd.no hE.out (by decide) (Below.refl _ _)
      · have hb1 : n ≥ d.n := by simp [Dk.there] at hT; omega
        go_enter Try.func19, Try.ntmps19
        go_wp2_with fail
        go_ret2
        exact Rd.no hE.out (by decide) (Below.refl _ _)
end Go.Proofs.Ytnlemjjigiphcaa
