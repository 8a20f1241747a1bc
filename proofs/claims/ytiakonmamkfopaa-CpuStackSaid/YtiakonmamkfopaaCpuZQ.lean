/- CpuStack: the law's walk. -/
import Derived.Test.YtiakonmamkfopaaCpuZP
import Derived.Deep.RegionHeld3
namespace Go.Proofs.Ytiakonmamkfopaa
open Go.RowKit Go.ChangeShapes
set_option linter.unusedVariables false
set_option maxRecDepth 100000

/-- what a round of the law finds: the state, its m callers, the memory -/
structure Stk (w wr : World) (Y N G : Nat) (s : St) (m : Nat) (stk : Value) : Prop where
  st : stAt wr N s stk
  rw : stkAt wr stk (List.replicate m (⟨0, 1, 4⟩ : Fr))
  mo : MemOk wr 0 Y [Sg.two]
  me : memAt wr 0 Y (.slice (some ⟨G, 0, none⟩) 1 1) false 0 0 0 0
  ne : N ≠ Y
  bl : Below w.heap.size w wr
  lo : w.heap.size ≤ Y ∧ w.heap.size ≤ N
theorem rep_snoc (m : Nat) : List.replicate m (⟨0, 1, 4⟩ : Fr) ++ [⟨0, 1, 4⟩] = List.replicate (m + 1) (⟨0, 1, 4⟩ : Fr) := by
  rw [List.replicate_succ']
theorem Stk.ok {w wr : World} {Y N G : Nat} {m : Nat} {stk : Value} (h : Stk w wr Y N G St.new m stk) (hm : m < 8) :
    Calls Try.prog 22 #[stV St.new stk, memV Y] wr fun e w' => ∃ g cp, e = .returned (.tuple #[stV St.new (.slice (some ⟨g, 0, none⟩) (m + 1) cp), .int .i64 0, .bool false, .int .i64 0]) ∧ w'.cell? ⟨g, m * 3 + 1, none⟩ = some (.int .i64 1) ∧ g < w'.heap.size ∧ stkAt w' (.slice (some ⟨g, 0, none⟩) (m + 1) cp) (List.replicate (m + 1) (⟨0, 1, 4⟩ : Fr)) ∧ Stk w w' Y N G St.new m stk := by
  refine (c_Step_ok wr 0 Y St.new stk [Sg.two] _ h.mo h.rw (by simp; omega) _ _ _ _ _ _ h.me _ (two_call _ (by simpa using hm))).mono ?_
  rintro e w' ⟨stk', rfl, hs, hm', ho⟩
  simp only [rep_snoc] at hs
  have hs' := hs
  unfold stkAt at hs'
  rw [List.length_replicate] at hs'
  obtain ⟨g, cp, rfl⟩ := row_some hs' (by omega)
  refine ⟨g, cp, rfl, ?_, ?_, hs, ?_⟩
  · have h1 := row_cells hs' _ rfl (m * 3 + 1) (.int .i64 1) (by
      rw [← rep_snoc, frC_append, List.getElem?_append_right (by rw [frC_length, List.length_replicate]; omega), frC_length, List.length_replicate, Nat.add_sub_cancel_left]
      rfl)
    simpa [Addr.add] using h1
  · obtain ⟨cs, hc⟩ := row_blk hs'
    exact (Array.getElem?_eq_some_iff.1 hc).1
  · exact ⟨Off.keeps ho h.st h.ne, stkAt.off h.rw ho (mem_frame h.me), h.mo.step h.me ho hm', hm', h.ne, Off.below h.bl ho h.bl.size (fun k hk => by have := h.lo.1; omega), h.lo⟩
theorem Stk.full {w wr : World} {Y N G : Nat} {m : Nat} {stk : Value} (h : Stk w wr Y N G St.new m stk) (hm : m = 8) :
    Calls Try.prog 22 #[stV St.new stk, memV Y] wr fun e w' => e = .returned (.tuple #[stV St.zero (.slice none 0 0), .int .i64 0, .bool false, .int .i64 37]) ∧ Stk w w' Y N G St.new m stk := by
  refine (c_Step_er wr 0 Y St.new stk [Sg.two] _ h.mo h.rw (by simp; omega) 37 (two_full _ (by simp; omega))).mono ?_
  rintro e w' ⟨rfl, hb⟩
  have ho : Off (fun _ => False) wr w' := .of_below hb
  exact ⟨rfl, Off.keeps ho h.st id, stkAt.off h.rw ho (fun _ h => h.elim), h.mo.below hb, Off.keeps ho h.me id, h.ne, below2 h.bl hb, h.lo⟩
theorem Stk.ret {w wr : World} {Y N G : Nat} {m : Nat} {stk : Value} (h : Stk w wr Y N G { St.new with off := 1 } (m + 1) stk) (hm : m < 8) :
    Calls Try.prog 22 #[stV { St.new with off := 1 } stk, memV Y] wr fun e w' => ∃ ad cp, e = .returned (.tuple #[stV { St.new with off := 1 } (.slice ad m cp), .int .i64 0, .bool false, .int .i64 0]) ∧ stkAt w' (.slice ad m cp) (List.replicate m (⟨0, 1, 4⟩ : Fr)) ∧ Stk w w' Y N G { St.new with off := 1 } (m + 1) stk := by
  refine (c_Step_ok wr 0 Y { St.new with off := 1 } stk [Sg.two] _ h.mo h.rw (by simp; omega) _ _ _ _ _ _ h.me _ (by rw [← rep_snoc]; exact two_ret _)).mono ?_
  rintro e w' ⟨stk', rfl, hs, hm', ho⟩
  have hs' := hs
  unfold stkAt at hs'
  rw [List.length_replicate] at hs'
  obtain ⟨ad, cp, rfl, _, _⟩ := row_shape hs'
  exact ⟨ad, cp, rfl, hs, Off.keeps ho h.st h.ne, stkAt.off h.rw ho (mem_frame h.me), h.mo.step h.me ho hm', hm', h.ne, Off.below h.bl ho h.bl.size (fun k hk => by have := h.lo.1; omega), h.lo⟩
theorem Stk.void {w wr : World} {Y N G : Nat} {m : Nat} {stk : Value} (h : Stk w wr Y N G { St.new with off := 1 } m stk) (hm : m = 0) :
    Calls Try.prog 22 #[stV { St.new with off := 1 } stk, memV Y] wr fun e w' => e = .returned (.tuple #[stV St.zero (.slice none 0 0), .int .i64 0, .bool false, .int .i64 37]) ∧ Below w.heap.size w w' := by
  subst hm
  refine (c_Step_er wr 0 Y { St.new with off := 1 } stk [Sg.two] _ h.mo h.rw (by simp) 37 two_void).mono ?_
  rintro e w' ⟨rfl, hb⟩
  exact ⟨rfl, below2 h.bl hb⟩
/-- behind a round: a state is stored -/
theorem Stk.upd {w wr w3 : World} {Y N G : Nat} {s s' : St} {m m' : Nat} {stk stk' : Value} (h : Stk w wr Y N G s m stk) (hr : stkAt wr stk' (List.replicate m' (⟨0, 1, 4⟩ : Fr))) (o : Off (· = N) wr w3) (hn : stAt w3 N s' stk') : Stk w w3 Y N G s' m' stk' := by
  have hN : ∀ (ty : TypeId), ty ≠ 33 → ∀ k, k = N → ∀ cs, wr.heap[k]? ≠ some (.cells cs ty (0, 0)) := by
    rintro ty ht k rfl cs hc
    have h2 := (show wr.heap[k]? = _ from h.st).symm.trans hc
    simp only [Option.some.injEq, Obj.cells.injEq] at h2
    exact ht h2.2.1.symm
  exact ⟨hn, stkAt.off hr o (hN _ (by decide)), h.mo.off o (fun e => h.ne e.symm) (hN _ (by decide)) (hN _ (by decide)), Off.keeps o h.me (fun e => h.ne e.symm), h.ne, Off.below h.bl o h.bl.size (fun k hk => by have := h.lo.2; omega), h.lo⟩
theorem Stk.below {w wr w3 : World} {Y N G : Nat} {s : St} {m : Nat} {stk : Value} (h : Stk w wr Y N G s m stk) (o : Below wr.heap.size wr w3) : Stk w w3 Y N G s m stk := by
  have o' : Off (fun _ => False) wr w3 := .of_below o
  exact ⟨Off.keeps o' h.st id, stkAt.off h.rw o' (fun _ h => h.elim), h.mo.below o, Off.keeps o' h.me id, h.ne, below2 h.bl o, h.lo⟩
theorem Stk.shape {w wr : World} {Y N G : Nat} {s : St} {m : Nat} {stk : Value} (h : Stk w wr Y N G s m stk) : ∃ ad cp, stk = .slice ad m cp := by
  have hs := h.rw
  unfold stkAt at hs
  rw [List.length_replicate] at hs
  obtain ⟨ad, cp, hv, _, _⟩ := row_shape hs
  exact ⟨ad, cp, hv⟩
theorem six_min (a b : Int) : (if b < a then b else a) = min a b := by omega
theorem st_set1 {w : World} {N : Nat} {s : St} {stk : Value} (h : stAt w N s stk) (a : Int) : stAt (w.setCell ⟨N, 1, none⟩ (.int .i64 a)) N { s with off := a } stk := by
  unfold stAt stC at h ⊢
  simp [World.setCell, Array.getElem?_modify, h]
set_option maxHeartbeats 8000000 in
theorem law_CpuStack (x : Int) (w : World) : Calls Try.prog 11 #[.int .i64 x] w fun e w' => e = .returned (.bool true) ∧ Below w.heap.size w w' := by
  obtain ⟨n, hn⟩ : ∃ n, x % 12 = n := ⟨_, rfl⟩
  have n0 : 0 ≤ n := by omega
  have n1 : n < 12 := by omega
  replace hn := Lib.hid hn
  go_enter Try.func11, Try.ntmps11
  go_wp2_with (first | (go_at_call 14; refine (c_known _).mono ?_; rintro e w1 ⟨rfl, hb1'⟩; have HB1 := Lib.hid hb1'; clear hb1') | (go_at_call 21; refine (within16 _ _ (by decide) (by decide) _).mono ?_; rintro e w2 ⟨rfl, hw2⟩; subst hw2; rw [hn.out]))
  obtain ⟨W2, hW2, hI, HB2⟩ : ∃ W, w1.alloc (.cells #[.int .i64 20, .int .i64 0, .int .i64 0, .int .i64 21, .int .i64 0, .int .i64 0] 64) = W ∧ W.heap[w1.heap.size]? = some (.cells #[.int .i64 20, .int .i64 0, .int .i64 0, .int .i64 21, .int .i64 0, .int .i64 0] 64 (0, 0)) ∧ Hid (Below w.heap.size w W) := ⟨_, rfl, heap_alloc_new _ _, below_al HB1.out _⟩
  rw [hW2]
  clear hW2
  refine (c_one2 W2 w1.heap.size 20 0 0 (by decide) (by decide) (by decide) (by decide) (by decide) (by decide) 21 0 0 (by decide) (by decide) (by decide) (by decide) (by decide) (by decide) hI).mono ?_
  rintro e w3 ⟨ad, cp, rfl, hu, hb3⟩
  have HU := Lib.hid (row_base hu (Nat.zero_le _))
  have HB3 := Lib.hid (below2 HB2.out hb3)
  clear hu hb3 hI
  go_wp2_with fail
  obtain ⟨W4, hW4, M4, Y4, B4, L4⟩ : ∃ W, (w3.alloc (.cells #[.bool true, .slice ad 2 cp, .int .i64 7, .int .i64 4, .int .i64 4, .int .i64 4, .int .i64 0] 57)).alloc (.cells #[.slice (some ⟨w3.heap.size, 0, none⟩) 1 1, .bool false, .int .i64 0, .int .i64 0, .int .i64 0, .int .i64 0] 47) = W ∧ Hid (MemOk W 0 (w3.heap.size + 1) [Sg.two]) ∧ Hid (memAt W 0 (w3.heap.size + 1) (.slice (some ⟨w3.heap.size, 0, none⟩) 1 1) false 0 0 0 0) ∧ Hid (Below w3.heap.size w3 W) ∧ Hid (w3.heap.size + 1 < W.heap.size) := by
    have h := mem_new w3 0 Sg.two (.slice ad 2 cp) HU.out (by show 2 < 1000000; decide) (Nat.zero_le _)
    exact ⟨_, rfl, h.1, h.2, below_al (below_al0 _ _) _, by show _ < _; simp⟩
  rw [hW4]
  clear hW4
  refine (c_New W4).mono ?_
  rintro e w5 ⟨rfl, hb5⟩
  have M5 := Lib.hid (M4.out.below hb5)
  have Y5 : Hid (memAt w5 0 (w3.heap.size + 1) (.slice (some ⟨w3.heap.size, 0, none⟩) 1 1) false 0 0 0 0) := Off.keeps (.of_below (ex := fun _ => False) hb5) Y4.out id
  have B5 := Lib.hid (below2 (below2 HB3.out B4.out) hb5)
  have L5 : Hid (w3.heap.size + 1 < w5.heap.size) := Nat.lt_of_lt_of_le L4.out hb5.size
  clear hb5
  go_wp2_with (first | (refine wpList_store_st (s' := St.new) (stk' := .slice none 0 0) rfl (.tmp 4) (.tmp 26) rfl rfl rfl (show stAt _ w5.heap.size St.zero (.slice none 0 0) from heap_alloc_new w5 (.cells (stC St.zero (.slice none 0 0)) 33)) rfl ?_; intro w6 S6 F6))
  have HS : Hid (Stk w w6 (w3.heap.size + 1) w5.heap.size w3.heap.size St.new 0 (.slice none 0 0)) := by
    have hB : Below w5.heap.size w5 w6 := Off.below (below_al0 w5 (.cells (stC St.zero (.slice none 0 0)) 33)) F6 (by simp) (fun k hk => by omega)
    have h1 := HB3.out.size
    have h2 := L5.out
    exact ⟨S6, stk_nil _, M5.out.below hB, Off.keeps (.of_below (ex := fun _ => False) hB) Y5.out id, by omega, below2 B5.out hB, by omega⟩
  clear S6 F6
  generalize w3.heap.size + 1 = Y at HS ⊢
  generalize w5.heap.size = N at HS ⊢
  generalize w3.heap.size = G at HS ⊢
  clear HB1 HB2 HB3 HU M4 Y4 B4 L4 M5 Y5 B5 L5
  go_loopw [5] (fun kv wr => ∃ (m : Nat) (stk : Value), kv = .int .i64 ((m : Int) + 1) ∧ (m : Int) ≤ n ∧ m ≤ 8 ∧ Hid (Stk w wr Y N G St.new m stk)) (fun kv _ => 12 - (intOf kv).toNat)
  case atStart => exact ⟨0, _, rfl, by omega, by omega, HS⟩
  case round =>
    clear HS
    obtain ⟨m, stk, rfl, hm, hm8, HS⟩ := hrel
    by_cases hle : (m : Int) + 1 ≤ n
    · by_cases h8 : m < 8
      · have h8' : (m : Int) + 1 ≤ 8 := by omega
        have q1 : IntKind.i64.wrap ((m : Int) + 1 - 1) = (m : Int) := by rw [IntKind.wrap_i64]; omega
        have q2 : IntKind.i64.wrap ((m : Int) + 1 + 1) = (m : Int) + 1 + 1 := by rw [IntKind.wrap_i64]; omega
        go_wp2_with (first | (refine wpList_load_st rfl (.tmp 4) rfl rfl (st_range HS.out.st) ?_) | (go_at_call 22; refine (Stk.ok HS.out h8).mono ?_; rintro e w8 ⟨g, cp1, rfl, hcl, hg, hrow, hk⟩; have hcl := Lib.hid hcl; have hrow := Lib.hid hrow; have hk := Lib.hid hk; have hg := Lib.hid hg) | (refine wpList_store_st (s' := St.new) (stk' := (.slice (some ⟨g, 0, none⟩) (m + 1) cp1)) rfl (.tmp 6) (.tmp 37) rfl rfl rfl (show stAt _ w8.heap.size St.zero (.slice none 0 0) from heap_alloc_new w8 (.cells (stC St.zero (.slice none 0 0)) 33)) rfl ?_; intro w9 S9 F9; have B9 : Hid (Below w8.heap.size w8 w9) := Off.below (below_al0 w8 (.cells (stC St.zero (.slice none 0 0)) 33)) F9 (by simp) (fun k hk => by omega); have c16 : w9.cell? ⟨w8.heap.size, 16, none⟩ = some (.slice (some ⟨g, 0, none⟩) (m + 1) cp1) := S9.cell 16; have c0 : w9.cell? ⟨w8.heap.size, 0, none⟩ = some (.int .i64 0) := S9.cell 0; have c1 : w9.cell? ⟨w8.heap.size, 1, none⟩ = some (.int .i64 0) := S9.cell 1; have fc : w9.cell? ⟨g, m * 3 + 1, none⟩ = some (.int .i64 1) := off_cell (Off.of_below (ex := fun _ => False) B9.out) hcl.out id; have S9 := Lib.hid S9; clear F9) | (refine wpList_load_st rfl (.tmp 6) rfl rfl (st_range S9.out) ?_) | (refine wpList_store_st (s' := St.new) (stk' := (.slice (some ⟨g, 0, none⟩) (m + 1) cp1)) rfl (.tmp 4) (.tmp 81) rfl rfl rfl (hk.out.below B9.out).st rfl ?_; intro w10 S10 F10; have HN : Hid (Stk w w10 Y N G St.new (m + 1) (.slice (some ⟨g, 0, none⟩) (m + 1) cp1)) := (hk.out.below B9.out).upd (stkAt.off hrow.out (Off.of_below (ex := fun _ => False) B9.out) (fun _ h => h.elim)) F10 S10; clear S10 F10))
        go_roundw
        case rel => exact ⟨m + 1, _, by go_num, by omega, by omega, HN⟩
        case measure => simp [intOf]; omega
      · have h8' : m = 8 := by omega
        subst h8'
        have hmn : 8 < n := by omega
        go_wp2_with (first | (refine wpList_load_st rfl (.tmp 4) rfl rfl (st_range HS.out.st) ?_) | (go_at_call 22; refine (Stk.full HS.out rfl).mono ?_; rintro e w8 ⟨rfl, hk⟩; have hk := Lib.hid hk) | (refine wpList_store_st (s' := St.zero) (stk' := (.slice none 0 0)) rfl (.tmp 6) (.tmp 37) rfl rfl rfl (show stAt _ w8.heap.size St.zero (.slice none 0 0) from heap_alloc_new w8 (.cells (stC St.zero (.slice none 0 0)) 33)) rfl ?_; intro w9 S9 F9; have B9 : Hid (Below w8.heap.size w8 w9) := Off.below (below_al0 w8 (.cells (stC St.zero (.slice none 0 0)) 33)) F9 (by simp) (fun k hk => by omega); have HR : Hid (Stk w w9 Y N G St.new 8 stk) := Lib.hid (hk.out.below B9.out); have n1c : w9.cell? ⟨N, 1, none⟩ = some (.int .i64 0) := HR.out.st.cell 1; have n1f : ∀ j, w9.frozen? ⟨N, j, none⟩ = false := (fun j => HR.out.st.free j); have n1s : N < w9.heap.size := HR.out.st.lt; have S9 := Lib.hid S9; clear F9))
        have HQ : Hid (Stk w (w9.setCell ⟨N, 1, none⟩ (.int .i64 1)) Y N G { St.new with off := 1 } 8 stk) := HR.out.upd HR.out.rw (off1 _ _ _ _) (st_set1 HR.out.st 1)
        clear n1c n1f n1s
        generalize w9.setCell ⟨N, 1, none⟩ (.int .i64 1) = W9 at HQ ⊢
        go_loopw [10] (fun kv wr => ∃ (m : Nat) (stk : Value), kv = .int .i64 m ∧ m ≤ 8 ∧ Hid (Stk w wr Y N G { St.new with off := 1 } m stk)) (fun kv _ => (intOf kv).toNat)
        case atStart => exact ⟨8, stk, rfl, by omega, HQ⟩
        case round =>
          clear HQ HR
          obtain ⟨m, stk, rfl, hm8, HS⟩ := hrel
          have hge : (0 : Int) ≤ m := by omega
          by_cases hz : m = 0
          · subst hz
            go_wp2_with (first | (refine wpList_load_st rfl (.tmp 4) rfl rfl (st_range HS.out.st) ?_) | (go_at_call 22; refine (Stk.void HS.out rfl).mono ?_; rintro e w8 ⟨rfl, hk⟩; have hk := Lib.hid hk) | (refine wpList_store_st (s' := St.zero) (stk' := (.slice none 0 0)) rfl (.tmp 11) (.tmp 94) rfl rfl rfl (show stAt _ w8.heap.size St.zero (.slice none 0 0) from heap_alloc_new w8 (.cells (stC St.zero (.slice none 0 0)) 33)) rfl ?_; intro w9 S9 F9; have B9 : Hid (Below w8.heap.size w8 w9) := Off.below (below_al0 w8 (.cells (stC St.zero (.slice none 0 0)) 33)) F9 (by simp) (fun k hk => by omega); have S9 := Lib.hid S9; clear F9))
            go_ret
            exact ⟨rfl, (hk.out).trans (B9.out.mono hk.out.size)⟩
          · obtain ⟨m', rfl⟩ : ∃ m', m = m' + 1 := ⟨m - 1, by omega⟩
            have h8 : m' < 8 := by omega
            have q0 : ((m' : Int) + 1 == 0) = false := by simp; omega
            have q1 : IntKind.i64.wrap ((m' : Int) + 1 - 1) = (m' : Int) := by rw [IntKind.wrap_i64]; omega
            replace h8 := Lib.hid h8
            go_wp2_with (first | (refine wpList_load_st rfl (.tmp 4) rfl rfl (st_range HS.out.st) ?_) | (go_at_call 22; refine (Stk.ret HS.out h8.out).mono ?_; rintro e w8 ⟨ad2, cp2, rfl, hrow, hk⟩; have hrow := Lib.hid hrow; have hk := Lib.hid hk) | (refine wpList_store_st (s' := { St.new with off := 1 }) (stk' := (.slice ad2 m' cp2)) rfl (.tmp 11) (.tmp 94) rfl rfl rfl (show stAt _ w8.heap.size St.zero (.slice none 0 0) from heap_alloc_new w8 (.cells (stC St.zero (.slice none 0 0)) 33)) rfl ?_; intro w9 S9 F9; have B9 : Hid (Below w8.heap.size w8 w9) := Off.below (below_al0 w8 (.cells (stC St.zero (.slice none 0 0)) 33)) F9 (by simp) (fun k hk => by omega); have c16 : w9.cell? ⟨w8.heap.size, 16, none⟩ = some (.slice ad2 m' cp2) := S9.cell 16; have c1 : w9.cell? ⟨w8.heap.size, 1, none⟩ = some (.int .i64 1) := S9.cell 1; have S9 := Lib.hid S9; clear F9) | (refine wpList_load_st rfl (.tmp 11) rfl rfl (st_range S9.out) ?_) | (refine wpList_store_st (s' := { St.new with off := 1 }) (stk' := (.slice ad2 m' cp2)) rfl (.tmp 4) (.tmp 117) rfl rfl rfl (hk.out.below B9.out).st rfl ?_; intro w10 S10 F10; have HN : Hid (Stk w w10 Y N G { St.new with off := 1 } m' (.slice ad2 m' cp2)) := (hk.out.below B9.out).upd (stkAt.off hrow.out (Off.of_below (ex := fun _ => False) B9.out) (fun _ h => h.elim)) F10 S10; clear S10 F10))
            go_roundw
            case rel => exact ⟨m', _, by go_num, by omega, HN⟩
            case measure => simp [intOf]
    · obtain rfl : n = m := by omega
      have hmn : ¬ 8 < (m : Int) := by omega
      have HR : Hid (Stk w wr Y N G St.new m stk) := HS; have n1c : wr.cell? ⟨N, 1, none⟩ = some (.int .i64 0) := HR.out.st.cell 1; have n1f : ∀ j, wr.frozen? ⟨N, j, none⟩ = false := (fun j => HR.out.st.free j); have n1s : N < wr.heap.size := HR.out.st.lt
      go_wp2_with fail
      have HQ : Hid (Stk w (wr.setCell ⟨N, 1, none⟩ (.int .i64 1)) Y N G { St.new with off := 1 } m stk) := HR.out.upd HR.out.rw (off1 _ _ _ _) (st_set1 HR.out.st 1)
      clear n1c n1f n1s
      generalize wr.setCell ⟨N, 1, none⟩ (.int .i64 1) = W9 at HQ ⊢
      go_loopw [10] (fun kv wr => ∃ (m : Nat) (stk : Value), kv = .int .i64 m ∧ m ≤ 8 ∧ Hid (Stk w wr Y N G { St.new with off := 1 } m stk)) (fun kv _ => (intOf kv).toNat)
      case atStart => exact ⟨m, stk, rfl, by omega, HQ⟩
      case round =>
        clear HQ HR
        obtain ⟨m, stk, rfl, hm8, HS⟩ := hrel
        have hge : (0 : Int) ≤ m := by omega
        by_cases hz : m = 0
        · subst hz
          go_wp2_with (first | (refine wpList_load_st rfl (.tmp 4) rfl rfl (st_range HS.out.st) ?_) | (go_at_call 22; refine (Stk.void HS.out rfl).mono ?_; rintro e w8 ⟨rfl, hk⟩; have hk := Lib.hid hk) | (refine wpList_store_st (s' := St.zero) (stk' := (.slice none 0 0)) rfl (.tmp 11) (.tmp 94) rfl rfl rfl (show stAt _ w8.heap.size St.zero (.slice none 0 0) from heap_alloc_new w8 (.cells (stC St.zero (.slice none 0 0)) 33)) rfl ?_; intro w9 S9 F9; have B9 : Hid (Below w8.heap.size w8 w9) := Off.below (below_al0 w8 (.cells (stC St.zero (.slice none 0 0)) 33)) F9 (by simp) (fun k hk => by omega); have S9 := Lib.hid S9; clear F9))
          go_ret
          exact ⟨rfl, (hk.out).trans (B9.out.mono hk.out.size)⟩
        · obtain ⟨m', rfl⟩ : ∃ m', m = m' + 1 := ⟨m - 1, by omega⟩
          have h8 : m' < 8 := by omega
          have q0 : ((m' : Int) + 1 == 0) = false := by simp; omega
          have q1 : IntKind.i64.wrap ((m' : Int) + 1 - 1) = (m' : Int) := by rw [IntKind.wrap_i64]; omega
          replace h8 := Lib.hid h8
          go_wp2_with (first | (refine wpList_load_st rfl (.tmp 4) rfl rfl (st_range HS.out.st) ?_) | (go_at_call 22; refine (Stk.ret HS.out h8.out).mono ?_; rintro e w8 ⟨ad2, cp2, rfl, hrow, hk⟩; have hrow := Lib.hid hrow; have hk := Lib.hid hk) | (refine wpList_store_st (s' := { St.new with off := 1 }) (stk' := (.slice ad2 m' cp2)) rfl (.tmp 11) (.tmp 94) rfl rfl rfl (show stAt _ w8.heap.size St.zero (.slice none 0 0) from heap_alloc_new w8 (.cells (stC St.zero (.slice none 0 0)) 33)) rfl ?_; intro w9 S9 F9; have B9 : Hid (Below w8.heap.size w8 w9) := Off.below (below_al0 w8 (.cells (stC St.zero (.slice none 0 0)) 33)) F9 (by simp) (fun k hk => by omega); have c16 : w9.cell? ⟨w8.heap.size, 16, none⟩ = some (.slice ad2 m' cp2) := S9.cell 16; have c1 : w9.cell? ⟨w8.heap.size, 1, none⟩ = some (.int .i64 1) := S9.cell 1; have S9 := Lib.hid S9; clear F9) | (refine wpList_load_st rfl (.tmp 11) rfl rfl (st_range S9.out) ?_) | (refine wpList_store_st (s' := { St.new with off := 1 }) (stk' := (.slice ad2 m' cp2)) rfl (.tmp 4) (.tmp 117) rfl rfl rfl (hk.out.below B9.out).st rfl ?_; intro w10 S10 F10; have HN : Hid (Stk w w10 Y N G { St.new with off := 1 } m' (.slice ad2 m' cp2)) := (hk.out.below B9.out).upd (stkAt.off hrow.out (Off.of_below (ex := fun _ => False) B9.out) (fun _ h => h.elim)) F10 S10; clear S10 F10))
          go_roundw
          case rel => exact ⟨m', _, by go_num, by omega, HN⟩
          case measure => simp [intOf]
end Go.Proofs.Ytiakonmamkfopaa
