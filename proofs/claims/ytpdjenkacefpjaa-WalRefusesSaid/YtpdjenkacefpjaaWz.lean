/- done. -/
import Derived.Test.YtpdjenkacefpjaaWy
namespace Go.Proofs.Ytpdjenkacefpjaa
open Go.RowKit Go.ChangeShapes
set_option linter.unusedVariables false
set_option maxRecDepth 100000

theorem A.stU : Try.prog.underlying 34 = some (((Try.prog.underlying 34).getD (.struct #[]))) := by kernel_rfl
theorem A.stR : TypeDesc.isRow ((Try.prog.underlying 34).getD (.struct #[])) = true := by kernel_rfl
theorem A.stI : (Try.prog.info? 34).map (·.size) = some 18 := by kernel_rfl
theorem StAt.range {w : World} {N : Nat} {ss : List Sec} (h : StAt w N ss) : w.rangeAt N 0 (stC ss).toList := fun j v hj => by
  rw [Nat.zero_add, cell_of_row w N j _ _ _ h]
  simpa using hj
theorem StAt.load {w : World} {N : Nat} {ss : List Sec} (h : StAt w N ss) (hl : ss.length = 18) : (Instr.loadAt 34 (.pointer (some ⟨N, 0, none⟩))).run Try.prog w = .ok (.agg (stC ss)) w := by
  have := run_loadAt_mid (P := Try.prog) w N 0 34 (stC ss).toList _ h.range A.stU A.stR (by rw [A.stI, Array.length_toList, stC_size, hl])
  simpa using this
theorem wpList_load_ss {ops : Array Oper} {rest : List Oper} {op : Oper} {a : Act} {W : World} {Q : Exit → Act → World → Prop} (hgd : op.guard = none) (x : Operand) (ho : op.op = .load 34 x) {N : Nat} {ss : List Sec} (hx : a.eval x = .pointer (some ⟨N, 0, none⟩)) (h : StAt W N ss) (hl : ss.length = 18) (hk : wpList Try.prog ops Q rest (a.put op.dst (.agg (stC ss))) W) : wpList Try.prog ops Q (op :: rest) a W :=
  wpList_load_mid hgd 34 x ho N 0 hx (stC ss).toList _ h.range A.stU A.stR (by rw [A.stI, Array.length_toList, stC_size, hl]) (by simpa using hk)
theorem wpList_load_ss_g {ops : Array Oper} {rest : List Oper} {op : Oper} {a : Act} {W : World} {Q : Exit → Act → World → Prop} (x : Operand) (ho : op.op = .load 34 x) (hw : Region.wanted op (yielded ops a.tmps) = true) {N : Nat} {ss : List Sec} (hx : a.eval x = .pointer (some ⟨N, 0, none⟩)) (h : StAt W N ss) (hl : ss.length = 18) (hk : wpList Try.prog ops Q rest (a.put op.dst (.agg (stC ss))) W) : wpList Try.prog ops Q (op :: rest) a W :=
  wpList_step fun K hK => by
    simp only [hw, if_true]
    exact wp_load_mid 34 x ho N 0 hx (stC ss).toList _ h.range A.stU A.stR (by rw [A.stI, Array.length_toList, stC_size, hl]) (hK _ _ (by simpa using hk))
def setArr (cs : Array Value) : Nat → List Value → Array Value
  | _, [] => cs
  | o, v :: r => setArr (cs.setIfInBounds o v) (o + 1) r
theorem setCells_at (N : Nat) (t : TypeId) : ∀ (vs : List Value) (o : Nat) (w : World) (cs : Array Value), w.heap[N]? = some (.cells cs t (0, 0)) → (w.setCells N o vs).heap[N]? = some (.cells (setArr cs o vs) t (0, 0))
  | [], o, w, cs, h => h
  | v :: r, o, w, cs, h => by
    refine setCells_at N t r (o + 1) _ (cs.setIfInBounds o v) ?_
    simp [World.setCell, Array.getElem?_modify, h]
theorem setCells_off (N : Nat) : ∀ (vs : List Value) (o : Nat) (w : World), Off (· = N) w (w.setCells N o vs)
  | [], o, w => Off.refl _ _
  | v :: r, o, w => (off1 w N o v).trans (setCells_off N r (o + 1) _)
theorem setArr_size : ∀ (vs : List Value) (o : Nat) (cs : Array Value), (setArr cs o vs).size = cs.size
  | [], o, cs => rfl
  | v :: r, o, cs => by
    show (setArr (cs.setIfInBounds o v) (o + 1) r).size = _
    rw [setArr_size r, Array.size_setIfInBounds]
theorem setArr_get : ∀ (vs : List Value) (o : Nat) (cs : Array Value) (j : Nat), o + vs.length ≤ cs.size → (setArr cs o vs)[j]? = if o ≤ j ∧ j < o + vs.length then vs[j - o]? else cs[j]?
  | [], o, cs, j, h => by
    rw [if_neg (by simp; try omega)]
    rfl
  | v :: r, o, cs, j, h => by
    simp only [List.length_cons] at h ⊢
    show (setArr (cs.setIfInBounds o v) (o + 1) r)[j]? = _
    rw [setArr_get r (o + 1) _ j (by rw [Array.size_setIfInBounds]; omega)]
    by_cases h1 : o + 1 ≤ j ∧ j < o + 1 + r.length
    · rw [if_pos h1, if_pos (by omega)]
      have e : j - o = (j - (o + 1)) + 1 := by omega
      rw [e, List.getElem?_cons_succ]
    · rw [if_neg h1, Array.getElem?_setIfInBounds]
      by_cases h2 : o = j
      · subst h2
        rw [if_pos rfl, if_pos (by omega), if_pos (by omega)]
        simp
      · rw [if_neg h2, if_neg (by omega)]
theorem setArr_all (cs ds : Array Value) (h : ds.size = cs.size) : setArr cs 0 ds.toList = ds := by
  apply Array.ext_getElem?
  intro j
  rw [setArr_get _ 0 cs j (by simp; omega)]
  by_cases hj : j < ds.size
  · rw [if_pos (by simp; exact hj)]
    simp
  · rw [if_neg (by simp; omega), Array.getElem?_eq_none (by omega), Array.getElem?_eq_none (by omega)]
theorem StAt.put {w : World} {N : Nat} {ss ss' : List Sec} (h : StAt w N ss) (hl : ss.length = 18) (hl' : ss'.length = 18) : StAt (w.setCells N 0 (stC ss').toList) N ss' ∧ Off (· = N) w (w.setCells N 0 (stC ss').toList) := by
  refine ⟨?_, setCells_off N _ 0 w⟩
  have h1 := setCells_at N 34 (stC ss').toList 0 w (stC ss) h
  rw [setArr_all (stC ss) (stC ss') (by rw [stC_size, stC_size, hl, hl'])] at h1
  exact h1
theorem wpList_store_ss {ops : Array Oper} {rest : List Oper} {op : Oper} {a : Act} {W : World} {Q : Exit → Act → World → Prop} (hgd : op.guard = none) (x y : Operand) (ho : op.op = .store 34 x y) {N : Nat} {ss ss' : List Sec} (hx : a.eval x = .pointer (some ⟨N, 0, none⟩)) (hy : a.eval y = .agg (stC ss')) (h : StAt W N ss) (hl : ss.length = 18) (hl' : ss'.length = 18) (hk : ∀ W', StAt W' N ss' → Off (· = N) W W' → wpList Try.prog ops Q rest (a.put op.dst undef) W') : wpList Try.prog ops Q (op :: rest) a W :=
  wpList_store_mid hgd 34 x y ho N 0 (stC ss') hx hy (fun j hj => ⟨by
    rw [stC_size, hl'] at hj
    rw [Nat.zero_add, cell_of_row W N j _ _ _ h]
    have : j < (stC ss).size := by rw [stC_size, hl]; exact hj
    simp [this], h.free _⟩) (by rw [A.stI, stC_size, hl']) (stC_one ss') (hk _ (h.put hl hl').1 (h.put hl hl').2)
/-- a state behind puts -/
def doneL (ss : List Sec) (ps : List (Int × Sec)) : List Sec := ps.foldl (fun a p => a.set (p.1 - 42).toNat p.2) ss
theorem doneL_len : ∀ (ps : List (Int × Sec)) (ss : List Sec), (doneL ss ps).length = ss.length
  | [], ss => rfl
  | p :: r, ss => by
    show (doneL (ss.set (p.1 - 42).toNat p.2) r).length = _
    rw [doneL_len r, List.length_set]
theorem doneL_app (ss : List Sec) (ps : List (Int × Sec)) (p : Int × Sec) : doneL ss (ps ++ [p]) = (doneL ss ps).set (p.1 - 42).toNat p.2 := by unfold doneL; rw [List.foldl_append]; rfl
theorem StAt.set {w : World} {N : Nat} {ss : List Sec} (h : StAt w N ss) (k : Nat) (b : Sec) : StAt (w.setCell ⟨N, k, none⟩ (.string ⟨b.toArray⟩)) N (ss.set k b) := by
  unfold StAt at h ⊢
  simp [World.setCell, Array.getElem?_modify, h, stC]
set_option maxHeartbeats 4000000 in
theorem c_done {F : Nat → Prop} (w : World) (ss : List Sec) (hl : ss.length = 18) (v : Value) (ps : List (Int × Sec)) (hv : PutAt w F v ps) (hok : ∀ p ∈ ps, 42 ≤ p.1 ∧ p.1 < 60 ∧ p.2.length = 128) (hpl : ps.length ≤ 1000) : Calls Try.prog 14 #[.agg (stC ss), v] w fun e w' => e = .returned (.agg (stC (doneL ss ps))) ∧ Below w.heap.size w w' := by
  obtain ⟨ad, vc, hvq, _⟩ := id hv
  subst hvq
  have HV := Lib.hid hv
  have HL := Lib.hid hl
  have HOK := Lib.hid hok
  have HPL := Lib.hid hpl
  have hs0 : stC (List.replicate 18 []) = #[.string ⟨#[]⟩, .string ⟨#[]⟩, .string ⟨#[]⟩, .string ⟨#[]⟩, .string ⟨#[]⟩, .string ⟨#[]⟩, .string ⟨#[]⟩, .string ⟨#[]⟩, .string ⟨#[]⟩, .string ⟨#[]⟩, .string ⟨#[]⟩, .string ⟨#[]⟩, .string ⟨#[]⟩, .string ⟨#[]⟩, .string ⟨#[]⟩, .string ⟨#[]⟩, .string ⟨#[]⟩, .string ⟨#[]⟩] := rfl
  clear hl hv hok hpl
  go_enter Try.func14, Try.ntmps14
  go_wp2_with fail
  rw [← hs0]
  have T0 : Hid (StAt ((w.alloc (.cells (stC ss) 34)).alloc (.cells (stC (List.replicate 18 [])) 34)) w.heap.size ss) := Lib.hid (by
    unfold World.alloc StAt
    simp [Array.getElem?_push])
  have U0 : Hid (StAt ((w.alloc (.cells (stC ss) 34)).alloc (.cells (stC (List.replicate 18 [])) 34)) (w.heap.size + 1) (List.replicate 18 [])) := Lib.hid (by
    unfold World.alloc StAt
    simp only [Array.getElem?_push, Array.size_push]
    simp)
  have B0 : Hid (Below w.heap.size w ((w.alloc (.cells (stC ss) 34)).alloc (.cells (stC (List.replicate 18 [])) 34))) := Lib.hid (below2 (below_al0 _ _) (below_al0 _ _))
  generalize ((w.alloc (.cells (stC ss) 34)).alloc (.cells (stC (List.replicate 18 [])) 34)) = W at *
  have E0 : doneL ss (ps.take 0) = ss := rfl
  rw [← E0] at T0
  clear E0 hs0
  go_loopw [5] (fun kv wr => ∃ k : Nat, kv = .int .i64 k ∧ k ≤ ps.length ∧ Hid (StAt wr w.heap.size (doneL ss (ps.take k))) ∧ Hid (StAt wr (w.heap.size + 1) (List.replicate 18 [])) ∧ Hid (Below w.heap.size w wr)) (fun kv _ => ps.length - (intOf kv).toNat)
  case atStart => exact ⟨0, rfl, by omega, T0, U0, B0⟩
  case round =>
    clear T0 U0 B0
    obtain ⟨k, rfl, hk, T, U, HB⟩ := hrel
    have hk9 := HPL.out
    by_cases hlt : k < ps.length
    · have hlt' : (k : Int) < (ps.length : Int) := by omega
      obtain ⟨p, hp⟩ : ∃ p, ps[k]? = some p := ⟨_, List.getElem?_eq_getElem hlt⟩
      have hV := HV.out.below HB.out
      obtain ⟨ad', vc', e, _, _, _, hV⟩ := hV
      cases e
      obtain ⟨g2, o2, vd, rfl, hi⟩ := hV k p hp
      clear hV
      obtain ⟨h42, h60, h128⟩ := HOK.out p (List.mem_of_getElem? hp)
      obtain ⟨vda, vdc, hvd, _⟩ := id hi.bt
      subst hvd
      have hia : ∃ a0, vda = some a0 := by
        obtain ⟨_, _, e, _, _, _, hc⟩ := hi.bt
        injection e with e5 e6 e7
        obtain ⟨g', o', e3, _⟩ := hc 0 _ (List.getElem?_eq_getElem (by omega))
        exact ⟨_, e5.trans e3⟩
      obtain ⟨a0, rfl⟩ := hia
      have cn := hi.n
      have cd := hi.d
      have hs1 := str_at hi.bt
      obtain ⟨nn, hnn⟩ : ∃ nn : Nat, p.1 = 42 + (nn : Int) := ⟨(p.1 - 42).toNat, by omega⟩
      have hn18 : nn < 18 := by omega
      have hn18' : (nn : Int) < 18 := by omega
      have hg2 : Hid (g2 ≠ w.heap.size) := Lib.hid (by
        have h0 := HV.out
        obtain ⟨_, _, e, _, _, _, h9⟩ := h0
        cases e
        obtain ⟨g3, o3, _, e3, hi3⟩ := h9 k p hp
        cases e3
        have := hi3.lt
        omega)
      have hlen18 : (doneL ss (ps.take k)).length = 18 := by rw [doneL_len]; exact HL.out
      obtain ⟨su, hsu⟩ : ∃ s, (doneL ss (ps.take k))[nn]? = some s := ⟨_, List.getElem?_eq_getElem (by omega)⟩
      have cs1 := T.out.cell hsu
      have fs1 := T.out.free nn
      have htk : Hid (doneL ss (ps.take (k + 1)) = (doneL ss (ps.take k)).set nn p.2) := Lib.hid (by
        rw [List.take_add_one, hp]
        show doneL ss (ps.take k ++ [p]) = _
        rw [doneL_app, hnn]
        congr 1
        omega)
      rw [hnn] at cn
      have hza : IntKind.i64.wrap (42 + (nn : Int) - 42) = (nn : Int) := by rw [IntWalk.i64_in _ (by omega)]; omega
      have HI := Lib.hid hi
      have hpk := Lib.hid hp
      clear hp hi h42 h60 h128 hsu hlen18 hnn
      go_wp2_with fail
      refine wp_region_held_drew (S := fun w' => w'.cell? ⟨g2, o2 + k * 2, none⟩ = some (.int .i64 (42 + (nn : Int))) ∧ w'.cell? ⟨g2, o2 + k * 2 + 1, none⟩ = some (.slice (some a0) p.2.length vdc) ∧ Sem.run Try.prog (convert 36 9 (.slice (some a0) p.2.length vdc)) w' = .ok (.string ⟨p.2.toArray⟩) w') (by kernel_rfl) ?_ (fun hHeld => ?_)
      · exact ⟨cn, cd, str_at (HI.out.bt.off (ex := fun _ => False) (.of_below (below_drew (Below.refl _ _))) (fun _ _ _ _ h => h))⟩
      refine wpAnyH_take (i := 0) (oi := ⟨_, _, _, _, _, _⟩) (v := ?_) rfl (by kernel_rfl) (by kernel_rfl) (by kernel_rfl) (fun _ _ _ h => h) (Or.inl ⟨by rfl, ?_⟩) (by assumption) ?_
      rotate_left
      · intro w hSw; (try dsimp only at hSw); go_split_ands; go_simp; (try with_reducible rfl)
      try simp only [Act.put, List.setIfInBounds_toArray, List.set_cons_zero, List.set_cons_succ]
      refine wpAnyH_take (i := 1) (oi := ⟨_, _, _, _, _, _⟩) (v := ?_) rfl (by kernel_rfl) (by kernel_rfl) (by kernel_rfl) (fun _ _ _ h => h) (Or.inl ⟨by rfl, ?_⟩) (by assumption) ?_
      rotate_left
      · intro w hSw; (try dsimp only at hSw); go_split_ands; go_simp; (try with_reducible rfl)
      try simp only [Act.put, List.setIfInBounds_toArray, List.set_cons_zero, List.set_cons_succ]
      refine wpAnyH_take (i := 2) (oi := ⟨_, _, _, _, _, _⟩) (v := ?_) rfl (by kernel_rfl) (by kernel_rfl) (by kernel_rfl) (fun _ _ _ h => h) (Or.inl ⟨by rfl, ?_⟩) (by assumption) ?_
      rotate_left
      · intro w hSw; (try dsimp only at hSw); go_split_ands; go_simp; (try with_reducible rfl)
      try simp only [Act.put, List.setIfInBounds_toArray, List.set_cons_zero, List.set_cons_succ]
      refine wpAnyH_take (i := 3) (oi := ⟨_, _, _, _, _, _⟩) (v := ?_) rfl (by kernel_rfl) (by kernel_rfl) (by kernel_rfl) (fun _ _ _ h => h) (Or.inl ⟨by rfl, ?_⟩) (by assumption) ?_
      rotate_left
      · intro w hSw; (try dsimp only at hSw); go_split_ands; go_simp; (try with_reducible rfl)
      try simp only [Act.put, List.setIfInBounds_toArray, List.set_cons_zero, List.set_cons_succ]
      refine wpAnyH_take (i := 4) (oi := ⟨_, _, _, _, _, _⟩) (v := ?_) rfl (by kernel_rfl) (by kernel_rfl) (by kernel_rfl) (fun _ _ _ h => h) (Or.inl ⟨by rfl, ?_⟩) (by assumption) ?_
      rotate_left
      · intro w hSw; (try dsimp only at hSw); go_split_ands; go_simp; (try with_reducible rfl)
      try simp only [Act.put, List.setIfInBounds_toArray, List.set_cons_zero, List.set_cons_succ]
      refine wpAnyH_take (i := 5) (oi := ⟨_, _, _, _, _, _⟩) (v := ?_) rfl (by kernel_rfl) (by kernel_rfl) (by kernel_rfl) (fun _ _ _ h => h) (Or.inl ⟨by rfl, ?_⟩) (by assumption) ?_
      rotate_left
      · intro w hSw; (try dsimp only at hSw); go_split_ands; go_simp; (try with_reducible rfl)
      try simp only [Act.put, List.setIfInBounds_toArray, List.set_cons_zero, List.set_cons_succ]
      refine wpAnyH_take (i := 6) (oi := ⟨_, _, _, _, _, _⟩) (v := ?_) rfl (by kernel_rfl) (by kernel_rfl) (by kernel_rfl) (fun _ _ _ h => h) (Or.inl ⟨by rfl, ?_⟩) (by assumption) ?_
      rotate_left
      · intro w hSw; (try dsimp only at hSw); go_split_ands; go_simp; (try with_reducible rfl)
      try simp only [Act.put, List.setIfInBounds_toArray, List.set_cons_zero, List.set_cons_succ]
      refine wpAnyH_take (i := 7) (oi := ⟨_, _, _, _, _, _⟩) (v := ?_) rfl (by kernel_rfl) (by kernel_rfl) (by kernel_rfl) (fun _ _ _ h => h) (Or.inl ⟨by rfl, ?_⟩) (by assumption) ?_
      rotate_left
      · intro w hSw; (try dsimp only at hSw); go_split_ands; go_simp; (try with_reducible rfl)
      try simp only [Act.put, List.setIfInBounds_toArray, List.set_cons_zero, List.set_cons_succ]
      refine wpAnyH_take (i := 8) (oi := ⟨_, _, _, _, _, _⟩) (v := ?_) rfl (by kernel_rfl) (by kernel_rfl) (by kernel_rfl) (fun _ _ _ h => h) (Or.inl ⟨by rfl, ?_⟩) (by assumption) ?_
      rotate_left
      · intro w hSw; (try dsimp only at hSw); go_split_ands; go_simp; (try with_reducible rfl)
      try simp only [Act.put, List.setIfInBounds_toArray, List.set_cons_zero, List.set_cons_succ]
      refine wpAnyH_take (i := 9) (oi := ⟨_, _, _, _, _, _⟩) (v := ?_) rfl (by kernel_rfl) (by kernel_rfl) (by kernel_rfl) (fun _ _ _ h => h) (Or.inl ⟨by rfl, ?_⟩) (by assumption) ?_
      rotate_left
      · intro w hSw; (try dsimp only at hSw); go_split_ands; go_simp; (try with_reducible rfl)
      try simp only [Act.put, List.setIfInBounds_toArray, List.set_cons_zero, List.set_cons_succ]
      refine wpAnyH_take (i := 10) (oi := ⟨_, _, _, _, _, _⟩) (v := ?_) rfl (by kernel_rfl) (by kernel_rfl) (by kernel_rfl) (fun _ _ _ h => h) (Or.inl ⟨by rfl, ?_⟩) (by assumption) ?_
      rotate_left
      · intro w hSw; (try dsimp only at hSw); go_split_ands; go_simp; (try with_reducible rfl)
      try simp only [Act.put, List.setIfInBounds_toArray, List.set_cons_zero, List.set_cons_succ]
      refine wpAnyH_take (i := 11) (oi := ⟨_, _, _, _, _, _⟩) (v := ?_) rfl (by kernel_rfl) (by kernel_rfl) (by kernel_rfl) (fun _ _ _ h => h) (Or.inl ⟨by rfl, ?_⟩) (by assumption) ?_
      rotate_left
      · intro w hSw; (try dsimp only at hSw); go_split_ands; go_simp; (try with_reducible rfl)
      try simp only [Act.put, List.setIfInBounds_toArray, List.set_cons_zero, List.set_cons_succ]
      refine wpAnyH_take (i := 12) (oi := ⟨_, _, _, _, _, _⟩) (v := ?_) rfl (by kernel_rfl) (by kernel_rfl) (by kernel_rfl) (fun _ _ _ h => h) (Or.inl ⟨by rfl, ?_⟩) (by assumption) ?_
      rotate_left
      · intro w hSw; (try dsimp only at hSw); go_split_ands; go_simp; (try with_reducible rfl)
      try simp only [Act.put, List.setIfInBounds_toArray, List.set_cons_zero, List.set_cons_succ]
      refine wpAnyH_take (i := 13) (oi := ⟨_, _, _, _, _, _⟩) (v := ?_) rfl (by kernel_rfl) (by kernel_rfl) (by kernel_rfl) (fun _ _ _ h => h) (Or.inl ⟨by rfl, ?_⟩) (by assumption) ?_
      rotate_left
      · intro w hSw; (try dsimp only at hSw); go_split_ands; go_simp; (try with_reducible rfl)
      try simp only [Act.put, List.setIfInBounds_toArray, List.set_cons_zero, List.set_cons_succ]
      have TW : Hid (StAt wr.drew w.heap.size (doneL ss (ps.take k))) := T
      have cs2 : wr.drew.cell? ⟨w.heap.size, nn, none⟩ = some (.string ⟨su.toArray⟩) := cs1
      have fs2 : wr.drew.frozen? ⟨w.heap.size, nn, none⟩ = false := fs1
      refine wpAnyH_ready (rs := [14]) (by kernel_rfl) (by simp) (AllReadyH.cons (o := ⟨_, _, _, _, _, _⟩) rfl (fun K hK => ?_) AllReadyH.nil)
      go_simp
      have o9 := off1 wr.drew w.heap.size nn (.string ⟨p.2.toArray⟩)
      have T9 := Lib.hid (TW.out.set nn p.2)
      have U9 : Hid (StAt (wr.drew.setCell ⟨w.heap.size, nn, none⟩ (.string ⟨p.2.toArray⟩)) (w.heap.size + 1) (List.replicate 18 [])) := Lib.hid (o9.keeps U.out (by omega))
      have B9 : Hid (Below w.heap.size w (wr.drew.setCell ⟨w.heap.size, nn, none⟩ (.string ⟨p.2.toArray⟩))) := Lib.hid (off_below (below2 HB.out (below_drew (Below.refl _ _))) (Nat.le_refl _))
      rw [← htk.out] at T9
      refine hK.out _ _ ?_ (fun hHeld => ?_)
      · have hVn := HV.out.below B9.out
        obtain ⟨_, _, e, _, _, _, hVn⟩ := hVn
        cases e
        obtain ⟨g3, o3, vd3, e3, hi3⟩ := hVn k p hpk.out
        cases e3
        have hcd : (wr.drew.setCell ⟨w.heap.size, nn, none⟩ (.string ⟨p.2.toArray⟩)).cell? ⟨g2, o2 + k * 2 + 1, none⟩ = some (.slice (some a0) p.2.length vdc) := off_cell o9 cd hg2.out
        have hd3 := hi3.d
        rw [hcd] at hd3
        cases hd3
        exact ⟨off_cell o9 cn hg2.out, hcd, str_at hi3.bt⟩
      clear hK K
      try simp only [Act.put, List.setIfInBounds_toArray, List.set_cons_zero, List.set_cons_succ]
      refine wpAnyH_done (by kernel_rfl) ?_ _
      clear cn cd hs1 cs1 fs1 cs2 fs2 hza hHeld o9
      go_wp2
      go_roundw
      case rel => exact ⟨k + 1, by go_num, by omega, T9, U9, B9⟩
      case measure => simp [intOf]; omega
    · have hlt' : ¬ (k : Int) < (ps.length : Int) := by omega
      obtain rfl : k = ps.length := by omega
      have TD : Hid (StAt wr w.heap.size (doneL ss ps)) := Lib.hid (by have := T.out; rwa [List.take_length] at this)
      have hl2 : Hid ((doneL ss ps).length = 18) := Lib.hid (by rw [doneL_len]; exact HL.out)
      go_wp2_with (first
        | ((with_reducible refine wpList_load_ss (op := ⟨some 26, .load 34 (.tmp 2), _, _, _, _⟩) (N := w.heap.size) (ss := doneL ss ps) ?_ (.tmp 2) ?_ ?_ TD.out hl2.out ?_); exact rfl; exact rfl; exact rfl)
        | ((with_reducible refine wpList_store_ss (op := ⟨none, .store 34 (.tmp 4) (.tmp 26), _, _, _, _⟩) (N := w.heap.size + 1) (ss := List.replicate 18 []) (ss' := doneL ss ps) ?_ (.tmp 4) (.tmp 26) ?_ ?_ ?_ U.out (by simp) hl2.out ?_); exact rfl; exact rfl; exact rfl; exact rfl; intro W9 hW9 hO9; have S9 := Lib.hid hW9; have B9 := Lib.hid (Off.below HB.out hO9 HB.out.size (fun k hk => by omega)); clear hW9 hO9))
      have lv : (loadVar 34 ⟨w.heap.size + 1, 0, none⟩).run Try.prog W9 = .ok (.agg (stC (doneL ss ps))) W9 := by
        have := run_loadVar_mid (P := Try.prog) W9 (w.heap.size + 1) 0 34 (stC (doneL ss ps)).toList _ S9.out.range A.stU A.stR (by rw [A.stI, Array.length_toList, stC_size, hl2.out])
        simpa using this
      refine bodyPost_ret (v := .agg (stC (doneL ss ps))) (by simp [results, Try.results14, lv, asAddr]) rfl ?_
      exact ⟨rfl, B9.out⟩
end Go.Proofs.Ytpdjenkacefpjaa
