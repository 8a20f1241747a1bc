/- Contracts of package wal: what is wrong with a commit. -/
import Derived.Test.YtpdjenkacefpjaaWh
namespace Go.Proofs.Ytpdjenkacefpjaa
open Go.RowKit Go.ChangeShapes
set_option linter.unusedVariables false
set_option maxRecDepth 100000

theorem BtAt.offN {ex : Nat → Prop} {w w' : World} {v : Value} {b : Sec} (h : BtAt w v b) (ho : Off ex w w') (hn : ∀ a n c, v = .slice (.some a) n c → ex a.block → w.heap.size ≤ a.block) : BtAt w' v b := by
  obtain ⟨ad, c, rfl, h0, h2, h3, h1⟩ := h
  refine ⟨ad, c, rfl, h0, h2, h3, fun j x hj => ?_⟩
  obtain ⟨g, o, rfl, hc⟩ := h1 j x hj
  refine ⟨g, o, rfl, off_cell ho hc fun hx => ?_⟩
  have := hn ⟨g, o, none⟩ _ _ rfl hx
  simp [World.cell?, Array.getElem?_eq_none this] at hc
/-- one put, as it lies -/
structure PutI (w : World) (F : Nat → Prop) (g o : Nat) (p : Int × Sec) (vd : Value) : Prop where
  lt : g < w.heap.size
  n : w.cell? ⟨g, o, none⟩ = some (.int .i64 p.1)
  d : w.cell? ⟨g, o + 1, none⟩ = some vd
  bt : BtAt w vd p.2
  nF : ¬ F g
  nFd : ∀ a n c, vd = .slice (some a) n c → ¬ F a.block
  ltd : ∀ a n c, vd = .slice (some a) n c → a.block < w.heap.size
  i64 : I64 p.1
  len : p.2.length ≤ 140737488351232
/-- puts, as they are handed in -/
def PutAt (w : World) (F : Nat → Prop) (v : Value) (ps : List (Int × Sec)) : Prop := ∃ (ad : Option Addr) (c : Nat), v = .slice ad ps.length c ∧ ps.length ≤ c ∧ c ≤ maxLen ∧ (ad = none → c = 0) ∧ ∀ (j : Nat) (p : Int × Sec), ps[j]? = some p → ∃ g o vd, ad = some ⟨g, o, none⟩ ∧ PutI w F g (o + j * 2) p vd
theorem PutI.off {F ex : Nat → Prop} {w w' : World} {g o : Nat} {p : Int × Sec} {vd : Value} (h : PutI w F g o p vd) (ho : Off ex w w') (hn : ∀ g, ex g → F g ∨ w.heap.size ≤ g) : PutI w' F g o p vd := by
  have h1 : ¬ ex g := fun hx => by
    rcases hn g hx with e | e
    · exact h.nF e
    · have := h.lt; omega
  refine ⟨Nat.lt_of_lt_of_le h.lt ho.size, off_cell ho h.n h1, off_cell ho h.d h1, h.bt.offN ho fun a n c e hx => ?_, h.nF, h.nFd, fun a n c e => Nat.lt_of_lt_of_le (h.ltd a n c e) ho.size, h.i64, h.len⟩
  rcases hn _ hx with e' | e'
  · exact absurd e' (h.nFd a n c e)
  · exact e'
theorem PutAt.off {F ex : Nat → Prop} {w w' : World} {v : Value} {ps : List (Int × Sec)} (h : PutAt w F v ps) (ho : Off ex w w') (hn : ∀ g, ex g → F g ∨ w.heap.size ≤ g) : PutAt w' F v ps := by
  obtain ⟨ad, c, rfl, h1, h2, h3, h4⟩ := h
  refine ⟨ad, c, rfl, h1, h2, h3, fun j p hj => ?_⟩
  obtain ⟨g, o, vd, e, k⟩ := h4 j p hj
  exact ⟨g, o, vd, e, k.off ho hn⟩
theorem PutAt.below {F : Nat → Prop} {w w' : World} {v : Value} {ps : List (Int × Sec)} (h : PutAt w F v ps) (ho : Below w.heap.size w w') : PutAt w' F v ps := h.off (ex := fun _ => False) (.of_below ho) (fun _ h => h.elim)
theorem PutAt.more {F F' : Nat → Prop} {w : World} {v : Value} {ps : List (Int × Sec)} (h : PutAt w F v ps) (hn : ∀ g, F' g → F g ∨ w.heap.size ≤ g) : PutAt w F' v ps := by
  obtain ⟨ad, c, rfl, h1, h2, h3, h4⟩ := h
  refine ⟨ad, c, rfl, h1, h2, h3, fun j p hj => ?_⟩
  obtain ⟨g, o, vd, e, k⟩ := h4 j p hj
  refine ⟨g, o, vd, e, k.lt, k.n, k.d, k.bt, fun hx => ?_, fun a n c e hx => ?_, k.ltd, k.i64, k.len⟩
  · rcases hn _ hx with hx | hx
    · exact k.nF hx
    · have := k.lt; omega
  · rcases hn _ hx with hx | hx
    · exact k.nFd a n c e hx
    · have := k.ltd a n c e; omega
theorem c_wrong1 (w : World) (y x : Int) (vd : Value) (g o : Nat) (hx : w.cell? ⟨g, o, none⟩ = some (.int .i64 x)) (hg : g < w.heap.size) : Calls Try.prog 43 #[.agg #[.int .i64 y, vd], .pointer (some ⟨g, o, none⟩)] w fun e w' => e = .returned (.bool (decide (y = x))) ∧ Below w.heap.size w w' := by
  have hne : g ≠ w.heap.size := by omega
  have hne2 : w.heap.size ≠ g := by omega
  have HB := Lib.hid (below_al0 w (.cells #[.int .i64 y, vd] 47))
  go_enter Try.func43, Try.ntmps43
  go_wp2
  go_ret
  exact ⟨rfl, HB.out⟩
set_option maxHeartbeats 1000000 in
theorem c_indexf {F : Nat → Prop} (w : World) (v : Value) (ps : List (Int × Sec)) (x : Int) (g o : Nat) (hv : PutAt w F v ps) (hps : ps.length < 1000) (hx : w.cell? ⟨g, o, none⟩ = some (.int .i64 x)) : Calls Try.prog 47 #[v, .func (.func 43) #[] #[.pointer (some ⟨g, o, none⟩)]] w fun e w' => ∃ r : Int, e = .returned (.int .i64 r) ∧ I64 r ∧ (0 ≤ r ↔ ∃ p ∈ ps, p.1 = x) ∧ Below w.heap.size w w' := by
  have hg : g < w.heap.size := by
    rcases Nat.lt_or_ge g w.heap.size with h | h
    · exact h
    · simp [World.cell?, Array.getElem?_eq_none h] at hx
  obtain ⟨ad, c, rfl, h1, h2, h3, h4⟩ := hv
  have H4 := Lib.hid h4
  have HX := Lib.hid hx
  have HG := Lib.hid hg
  have HL := Lib.hid hps
  clear h1 h2 h3 h4 hx hg hps
  go_enter Try.func47, Try.ntmps47
  go_wp2_with fail
  have R0 : Hid (∀ j p, j < 0 → ps[j]? = some p → p.1 ≠ x) := Lib.hid (fun j p hj => by omega)
  have B0 : Hid (Below w.heap.size w w) := Lib.hid (Below.refl _ _)
  go_loopw [8] (fun kv wr => ∃ k : Nat, kv = .int .i64 k ∧ k ≤ ps.length ∧ Hid (∀ j p, j < k → ps[j]? = some p → p.1 ≠ x) ∧ Hid (Below w.heap.size w wr)) (fun kv _ => ps.length - (intOf kv).toNat)
  case atStart => exact ⟨0, rfl, by omega, R0, B0⟩
  case round =>
    clear R0 B0
    obtain ⟨k, rfl, hk, HR, HB⟩ := hrel
    have hk9 := HL.out
    by_cases hlt : k < ps.length
    · have hlt' : (k : Int) < (ps.length : Int) := by omega
      obtain ⟨p, hp⟩ : ∃ p, ps[k]? = some p := ⟨_, List.getElem?_eq_getElem hlt⟩
      obtain ⟨g2, o2, vd, rfl, hi⟩ := H4.out k p hp
      have hi' := hi.off (ex := fun _ => False) (.of_below HB.out) (fun _ h => h.elim)
      have cn := hi'.n
      have cd := hi'.d
      have HX1 : Hid (wr.cell? ⟨g, o, none⟩ = some (.int .i64 x)) := Lib.hid (off_cell (.of_below (ex := fun _ => False) HB.out) HX.out (fun h => h))
      have HP := Lib.hid hp
      have hg1 := Lib.hid (Nat.lt_of_lt_of_le HG.out HB.out.size)
      clear hi hi' hp
      by_cases he : p.1 = x
      · have HE := Lib.hid he
        have hk64 : Hid (I64 (k : Int)) := Lib.hid (by have := HL.out; constructor <;> omega)
        have hex : Hid (0 ≤ (k : Int) ↔ ∃ p ∈ ps, p.1 = x) := Lib.hid ⟨fun _ => ⟨p, List.mem_of_getElem? HP.out, HE.out⟩, fun _ => by omega⟩
        have hdt : decide (p.1 = x) = true := decide_eq_true he
        clear he
        go_wp2_with (first | (go_at_call 43; refine (c_wrong1 wr p.1 x vd g o HX1.out hg1.out).mono ?_; rintro e w1 ⟨rfl, hb⟩; rw [hdt]; replace hb := Lib.hid hb))
        go_ret
        exact ⟨_, rfl, hk64.out, hex.out, below2 HB.out hb.out⟩
      · have HR2 : Hid (∀ j p, j < k + 1 → ps[j]? = some p → p.1 ≠ x) := Lib.hid (fun j p' hj hp' => by
          rcases Nat.lt_or_ge j k with h | h
          · exact HR.out j p' h hp'
          · obtain rfl : j = k := by omega
            rw [HP.out] at hp'
            cases hp'
            exact he)
        have hdf : decide (p.1 = x) = false := decide_eq_false he
        go_wp2_with (first | (go_at_call 43; refine (c_wrong1 wr p.1 x vd g o HX1.out hg1.out).mono ?_; rintro e w1 ⟨rfl, hb⟩; rw [hdf]; replace hb := Lib.hid (below2 HB.out hb)))
        clear cn cd hdf
        go_roundw
        case rel => exact ⟨k + 1, by go_num, by omega, HR2, hb⟩
        case measure => simp [intOf]; omega
    · have hlt' : ¬ (k : Int) < (ps.length : Int) := by omega
      obtain rfl : k = ps.length := by omega
      have hex : Hid (0 ≤ (-1 : Int) ↔ ∃ p ∈ ps, p.1 = x) := Lib.hid ⟨fun h => by omega, fun ⟨p, hp, he⟩ => by
        obtain ⟨j, hj, e⟩ := List.getElem_of_mem hp
        exact absurd he (HR.out j p hj (by rw [List.getElem?_eq_getElem hj, e]))⟩
      go_wp2_with fail
      go_ret
      exact ⟨_, rfl, ⟨by decide, by decide⟩, by simpa using hex.out, HB.out⟩
theorem PutAt.take {w : World} {F : Nat → Prop} {ad : Option Addr} {n c : Nat} {ps : List (Int × Sec)} (h : PutAt w F (.slice ad n c) ps) {k : Nat} (hk : k ≤ ps.length) : PutAt w F (.slice ad k c) (ps.take k) := by
  obtain ⟨ad', c', e, h1, h2, h3, h4⟩ := h
  injection e with e1 e2 e3
  subst e1 e2 e3
  have hl : (ps.take k).length = k := by rw [List.length_take]; omega
  refine ⟨_, _, by rw [hl], by omega, h2, h3, fun j p hj => ?_⟩
  have hj2 : j < k := by have := (List.getElem?_eq_some_iff.1 hj).1; omega
  rw [List.getElem?_take, if_pos hj2] at hj
  exact h4 j p hj
theorem c_contF {F : Nat → Prop} (w : World) (v : Value) (ps : List (Int × Sec)) (x : Int) (g o : Nat) (hv : PutAt w F v ps) (hps : ps.length < 1000) (hx : w.cell? ⟨g, o, none⟩ = some (.int .i64 x)) (b : Bool) (hb : b = true ↔ ∃ p ∈ ps, p.1 = x) : Calls Try.prog 42 #[v, .func (.func 43) #[] #[.pointer (some ⟨g, o, none⟩)]] w fun e w' => e = .returned (.bool b) ∧ Below w.heap.size w w' := by
  have HV := Lib.hid hv
  have HX := Lib.hid hx
  have HP := Lib.hid hps
  have HB := Lib.hid hb
  clear hv hx hps hb
  cases b with
  | true =>
    go_enter Try.func42, Try.ntmps42
    go_wp2_with (first | (go_at_call 47; refine (c_indexf w v ps x g o HV.out HP.out HX.out).mono ?_; rintro e w1 ⟨r, rfl, h64, hr, hb1⟩; have hr0 : 0 ≤ r := (hr.2 (HB.out.1 rfl)); replace hb1 := Lib.hid hb1; clear hr h64))
    go_ret
    exact ⟨rfl, hb1.out⟩
  | false =>
    go_enter Try.func42, Try.ntmps42
    go_wp2_with (first | (go_at_call 47; refine (c_indexf w v ps x g o HV.out HP.out HX.out).mono ?_; rintro e w1 ⟨r, rfl, h64, hr, hb1⟩; have hr0 : ¬ 0 ≤ r := (fun h => by have := HB.out.2 (hr.1 h); cases this); replace hb1 := Lib.hid hb1; clear hr h64))
    go_ret
    exact ⟨congrArg (fun b => Ending.returned (.bool b)) (decide_eq_false (by omega)), hb1.out⟩
/-- what is wrong with a put, behind others -/
def badP (d : Dk) (x : Int × Sec) (pre : List (Int × Sec)) : Prop := x.1 < 42 ∨ readE d x.1 = 1 ∨ x.2.length ≠ 128 ∨ ∃ p ∈ pre, p.1 = x.1
theorem readE_or {d : Dk} (ha : d.dead = false) (n : Int) : readE d n = 0 ∨ readE d n = 1 := by
  unfold readE
  rw [if_neg (by rw [ha]; exact Bool.false_ne_true)]
  by_cases h : d.there n = true
  · rw [if_pos h]; exact .inl rfl
  · rw [if_neg h]; exact .inr rfl
/-- what wrong answers -/
def WrP (d : Dk) (ps : List (Int × Sec)) (w : World) (e : Ending) (w' : World) : Prop := ∃ r : Int, e = .returned (.int .i64 r) ∧ (40 < ps.length → r = 4) ∧ (ps.length ≤ 40 → (∀ j x, ps[j]? = some x → ¬ badP d x (ps.take j)) → r = 0) ∧ (ps.length ≤ 40 → (∃ j x, ps[j]? = some x ∧ badP d x (ps.take j)) → r = 1) ∧ Below w.heap.size w w'
set_option maxHeartbeats 2000000 in
theorem c_wrong {F : Nat → Prop} (w : World) (L B : Nat) (q : Int) (dd : Bool) (d : Dk) (v : Value) (ps : List (Int × Sec)) (hl : LgAt w L B q dd) (h : DiskAt F w B d) (ha : d.dead = false) (hv : PutAt w F v ps) (hps : ps.length < 1000) : Calls Try.prog 30 #[.pointer (some ⟨L, 0, none⟩), v] w (WrP d ps w) := by
  obtain ⟨ad, vc, hvq, _⟩ := id hv
  subst hvq
  have HL := Lib.hid hl
  have D0 := Lib.hid h
  have HA := Lib.hid ha
  have HV := Lib.hid hv
  have HP := Lib.hid hps
  clear hl h ha hv
  have hmf : ∀ (fn : Fn) (first cap : Array Value) (w : World), (Instr.makeFunc fn first cap).run Try.prog w = .ok (.func fn first cap) w := fun _ _ _ _ => rfl
  by_cases hmany : 40 < ps.length
  · have hm' : (40 : Int) < (ps.length : Int) := by omega
    have HM := Lib.hid hmany
    go_enter Try.func30, Try.ntmps30
    go_wp2_with fail
    go_ret
    exact ⟨_, rfl, fun _ => rfl, fun h => absurd HM.out (by omega), fun h => absurd HM.out (by omega), Below.refl _ _⟩
  · have hm' : ¬ (40 : Int) < (ps.length : Int) := by omega
    have HM := Lib.hid hmany
    clear hmany
    go_enter Try.func30, Try.ntmps30
    go_wp2_with fail
    have R0 : Hid (∀ j x, j < 0 → ps[j]? = some x → ¬ badP d x (ps.take j)) := Lib.hid (fun j x h => by omega)
    have B0 : Hid (Below w.heap.size w w) := Lib.hid (Below.refl _ _)
    go_loopw [14] (fun kv wr => ∃ k : Nat, kv = .int .i64 k ∧ k ≤ ps.length ∧ Hid (∀ j x, j < k → ps[j]? = some x → ¬ badP d x (ps.take j)) ∧ Hid (Below w.heap.size w wr)) (fun kv _ => ps.length - (intOf kv).toNat)
    case atStart => exact ⟨0, rfl, by omega, R0, B0⟩
    case round =>
      clear R0 B0
      obtain ⟨k, rfl, hk, HR, HB⟩ := hrel
      by_cases hlt : k < ps.length
      · have hlt' : (k : Int) < (ps.length : Int) := by omega
        obtain ⟨p, hp⟩ : ∃ p, ps[k]? = some p := ⟨_, List.getElem?_eq_getElem hlt⟩
        have hVr := HV.out.below HB.out
        obtain ⟨ad', vc', e, _, _, _, hV⟩ := id hVr
        cases e
        obtain ⟨g2, o2, vd, rfl, hi⟩ := hV k p hp
        clear hV
        obtain ⟨vda, vdc, hvd, _⟩ := id hi.bt
        subst hvd
        have cn := hi.n
        have cd := hi.d
        have HI := Lib.hid hi
        have HPk := Lib.hid hp
        have HVr := Lib.hid hVr
        clear hi hp hVr
        go_upto_region 6 with fail
        have BA := Lib.hid (below2 HB.out (below_al0 wr (.cells #[.int .i64 p.1, .slice vda p.2.length vdc] 47)))
        have hxc := heap_alloc_new wr (.cells #[.int .i64 p.1, .slice vda p.2.length vdc] 47)
        have HVa := Lib.hid (HVr.out.below (below_al0 wr (.cells #[.int .i64 p.1, .slice vda p.2.length vdc] 47)))
        generalize wr.alloc (.cells #[.int .i64 p.1, .slice vda p.2.length vdc] 47) = W1 at *
        generalize wr.heap.size = n1 at *
        have cx0 : W1.cell? ⟨n1, 0, none⟩ = some (.int .i64 p.1) := (by simp [World.cell?, hxc])
        have HXC := Lib.hid hxc
        have HG : Hid (LgAt W1 L B q dd) := Lib.hid (HL.out.off (.of_below (ex := fun _ => False) BA.out) (fun h => h))
        have c1 := HG.out.cell.1
        clear hxc cn cd
        go_wp2_with fail
        refine wp_region_held_drew (S := fun w' => w'.cell? ⟨L, 0, none⟩ = some (.pointer (some ⟨B, 0, none⟩)) ∧ w'.cell? ⟨n1, 0, none⟩ = some (.int .i64 p.1)) (by kernel_rfl) ?_ (fun hHeld => ?_)
        · exact ⟨c1, cx0⟩
        refine wpAnyH_take (i := 0) (oi := ⟨_, _, _, _, _, _⟩) (v := ?_) rfl (by kernel_rfl) (by kernel_rfl) (by kernel_rfl) (fun _ _ _ h => h) (Or.inl ⟨by rfl, ?_⟩) (by assumption) ?_
        rotate_left
        · intro w hSw; (try dsimp only at hSw); go_split_ands; go_simp; (try with_reducible rfl)
        try simp only [Act.put, List.setIfInBounds_toArray, List.set_cons_zero, List.set_cons_succ]
        refine wpAnyH_take (i := 1) (oi := ⟨_, _, _, _, _, _⟩) (v := ?_) rfl (by kernel_rfl) (by kernel_rfl) (by kernel_rfl) (fun _ _ _ h => h) (Or.inl ⟨by rfl, ?_⟩) (by assumption) ?_
        rotate_left
        · intro w hSw; (try dsimp only at hSw); go_split_ands; go_simp; (try with_reducible rfl)
        try simp only [Act.put, List.setIfInBounds_toArray, List.set_cons_zero, List.set_cons_succ]
        refine wpAnyH_take (i := 2) (oi := ⟨_, _, _, _, _, _⟩) (v := ?_) rfl (by kernel_rfl) (by kernel_rfl) (by kernel_rfl) (fun _ _ _ h => h) (Or.inl ⟨by rfl, ?_⟩) (by assumption) ?_
        rotate_left
        · intro w hSw; (try dsimp only at hSw); go_split_ands; go_simp; (try with_reducible rfl)
        try simp only [Act.put, List.setIfInBounds_toArray, List.set_cons_zero, List.set_cons_succ]
        refine wpAnyH_take (i := 3) (oi := ⟨_, _, _, _, _, _⟩) (v := ?_) rfl (by kernel_rfl) (by kernel_rfl) (by kernel_rfl) (fun _ _ _ h => h) (Or.inl ⟨by rfl, ?_⟩) (by assumption) ?_
        rotate_left
        · intro w hSw; (try dsimp only at hSw); go_split_ands; go_simp; (try with_reducible rfl)
        try simp only [Act.put, List.setIfInBounds_toArray, List.set_cons_zero, List.set_cons_succ]
        refine wpAnyH_take (i := 4) (oi := ⟨_, _, _, _, _, _⟩) (v := ?_) rfl (by kernel_rfl) (by kernel_rfl) (by kernel_rfl) (fun _ _ _ h => h) (Or.inl ⟨by rfl, ?_⟩) (by assumption) ?_
        rotate_left
        · intro w hSw; (try dsimp only at hSw); go_split_ands; go_simp; (try with_reducible rfl)
        try simp only [Act.put, List.setIfInBounds_toArray, List.set_cons_zero, List.set_cons_succ]
        refine wpAnyH_take (i := 5) (oi := ⟨_, _, _, _, _, _⟩) (v := ?_) rfl (by kernel_rfl) (by kernel_rfl) (by kernel_rfl) (fun _ _ _ h => h) (Or.inl ⟨by rfl, ?_⟩) (by assumption) ?_
        rotate_left
        · intro w hSw; (try dsimp only at hSw); go_split_ands; go_simp; (try with_reducible rfl)
        try simp only [Act.put, List.setIfInBounds_toArray, List.set_cons_zero, List.set_cons_succ]
        refine wpAnyH_ready (rs := [6]) (by kernel_rfl) (by simp) (AllReadyH.cons (o := ⟨_, _, _, _, _, _⟩) rfl (fun K hK => ?_) AllReadyH.nil)
        go_simp
        refine (c_Read W1.drew B d p.1 ((D0.out.below BA.out).below (below_drew (Below.refl _ _))) HI.out.i64).mono ?_
        rintro e w3 ⟨v3, rfl, _, _, hb3⟩
        have B3 : Hid (Below W1.heap.size W1 w3) := Lib.hid (below2 (below_drew (Below.refl _ _)) hb3)
        clear hb3
        have k1 := off_cell (.of_below (ex := fun _ => False) B3.out) c1 (fun h => h)
        have hxc3 := (Off.of_below (ex := fun _ => False) B3.out).keeps HXC.out (fun h => h)
        have k2 : w3.cell? ⟨n1, 0, none⟩ = some (.int .i64 p.1) := (by simp [World.cell?, hxc3])
        have k3 : w3.cell? ⟨n1, 1, none⟩ = some (.slice vda p.2.length vdc) := (by simp [World.cell?, hxc3])
        clear hxc3
        go_wp2_with fail
        refine hK.out _ _ ?_ (fun hHeld => ?_)
        · exact ⟨k1, k2⟩
        clear hK K
        try simp only [Act.put, List.setIfInBounds_toArray, List.set_cons_zero, List.set_cons_succ]
        refine wpAnyH_take (i := 7) (oi := ⟨_, _, _, _, _, _⟩) (v := ?_) rfl (by kernel_rfl) (by kernel_rfl) (by kernel_rfl) (fun _ _ _ h => h) (Or.inl ⟨by rfl, ?_⟩) (by assumption) ?_
        rotate_left
        · intro w hSw; (try dsimp only at hSw); go_split_ands; go_simp; (try with_reducible rfl)
        try simp only [Act.put, List.setIfInBounds_toArray, List.set_cons_zero, List.set_cons_succ]
        refine wpAnyH_take (i := 8) (oi := ⟨_, _, _, _, _, _⟩) (v := ?_) rfl (by kernel_rfl) (by kernel_rfl) (by kernel_rfl) (fun _ _ _ h => h) (Or.inl ⟨by rfl, ?_⟩) (by assumption) ?_
        rotate_left
        · intro w hSw; (try dsimp only at hSw); go_split_ands; go_simp; (try with_reducible rfl)
        try simp only [Act.put, List.setIfInBounds_toArray, List.set_cons_zero, List.set_cons_succ]
        refine wpAnyH_take (i := 9) (oi := ⟨_, _, _, _, _, _⟩) (v := ?_) rfl (by kernel_rfl) (by kernel_rfl) (by kernel_rfl) (fun _ _ _ h => h) (Or.inl ⟨by rfl, ?_⟩) (by assumption) ?_
        rotate_left
        · intro w hSw; (try dsimp only at hSw); go_split_ands; go_simp; (try with_reducible rfl)
        try simp only [Act.put, List.setIfInBounds_toArray, List.set_cons_zero, List.set_cons_succ]
        refine wpAnyH_take (i := 10) (oi := ⟨_, _, _, _, _, _⟩) (v := ?_) rfl (by kernel_rfl) (by kernel_rfl) (by kernel_rfl) (fun _ _ _ h => h) (Or.inl ⟨by rfl, ?_⟩) (by assumption) ?_
        rotate_left
        · intro w hSw; (try dsimp only at hSw); go_split_ands; go_simp; (try with_reducible rfl)
        try simp only [Act.put, List.setIfInBounds_toArray, List.set_cons_zero, List.set_cons_succ]
        refine wpAnyH_take (i := 11) (oi := ⟨_, _, _, _, _, _⟩) (v := ?_) rfl (by kernel_rfl) (by kernel_rfl) (by kernel_rfl) (fun _ _ _ h => h) (Or.inl ⟨by rfl, ?_⟩) (by assumption) ?_
        rotate_left
        · intro w hSw; (try dsimp only at hSw); go_split_ands; go_simp; (try with_reducible rfl)
        try simp only [Act.put, List.setIfInBounds_toArray, List.set_cons_zero, List.set_cons_succ]
        refine wpAnyH_done (by kernel_rfl) ?_ _
        have HB3 : Hid (Below w.heap.size w w3) := Lib.hid (below2 BA.out B3.out)
        have HV3 : Hid (PutAt w3 F (.slice (some ⟨g2, o2, none⟩) k vc) (ps.take k)) := Lib.hid ((HVa.out.below B3.out).take hk)
        have hlk : Hid ((ps.take k).length < 1000) := Lib.hid (by rw [List.length_take]; omega)
        have K2 := Lib.hid k2
        have hk9 := HP.out
        clear c1 cx0 k1 hHeld HL HG D0
        by_cases h42 : p.1 < 42
        · have hbad := Lib.hid (show badP d p (ps.take k) from .inl h42)
          go_wp2_with fail
          go_ret
          exact ⟨_, rfl, fun h => absurd h HM.out, fun _ h => absurd hbad.out (h k p HPk.out), fun _ _ => rfl, HB3.out⟩
        · rcases readE_or HA.out p.1 with hE | hE
          · by_cases hlen : p.2.length = 128
            · have hln' : (p.2.length : Int) = 128 := by omega
              have HLN := Lib.hid hlen
              have hEh := Lib.hid hE
              clear hlen
              rw [hE]
              clear hE
              by_cases hex : ∃ p' ∈ ps.take k, p'.1 = p.1
              · have hbad := Lib.hid (show badP d p (ps.take k) from .inr (.inr (.inr hex)))
                have hbt : Hid (true = true ↔ ∃ p' ∈ ps.take k, p'.1 = p.1) := Lib.hid ⟨fun _ => hex, fun _ => rfl⟩
                clear hex
                go_wp2_with (first | (go_at_call 42; refine (c_contF w3 (.slice (some ⟨g2, o2, none⟩) k vc) (ps.take k) p.1 n1 0 HV3.out hlk.out K2.out true hbt.out).mono ?_; rintro e w4 ⟨rfl, hb4⟩; replace hb4 := Lib.hid hb4))
                go_ret
                exact ⟨_, rfl, fun h => absurd h HM.out, fun _ h => absurd hbad.out (h k p HPk.out), fun _ _ => rfl, below2 HB3.out hb4.out⟩
              · have hgood : Hid (¬ badP d p (ps.take k)) := Lib.hid (fun h => by
                  rcases h with h | h | h | h
                  · exact h42 h
                  · rw [hEh.out] at h; cases h
                  · exact h HLN.out
                  · exact hex h)
                have hbt : Hid (false = true ↔ ∃ p' ∈ ps.take k, p'.1 = p.1) := Lib.hid ⟨fun h => (by cases h), fun h => absurd h hex⟩
                clear hex
                go_wp2_with (first | (go_at_call 42; refine (c_contF w3 (.slice (some ⟨g2, o2, none⟩) k vc) (ps.take k) p.1 n1 0 HV3.out hlk.out K2.out false hbt.out).mono ?_; rintro e w4 ⟨rfl, hb4⟩; replace hb4 := Lib.hid hb4))
                clear k3 k2 hln' h42
                go_roundw
                case rel => exact ⟨k + 1, by go_num, by omega, Lib.hid (fun j x hj hx => by
                  rcases Nat.lt_or_ge j k with h | h
                  · exact HR.out j x h hx
                  · obtain rfl : j = k := by omega
                    rw [HPk.out] at hx
                    cases hx
                    exact hgood.out), Lib.hid (below2 HB3.out hb4.out)⟩
                case measure => simp [intOf]; omega
            · have hln' : ¬ (p.2.length : Int) = 128 := by omega
              have hbad := Lib.hid (show badP d p (ps.take k) from .inr (.inr (.inl hlen)))
              clear hlen
              rw [hE]
              clear hE
              go_wp2_with fail
              go_ret
              exact ⟨_, rfl, fun h => absurd h HM.out, fun _ h => absurd hbad.out (h k p HPk.out), fun _ _ => rfl, HB3.out⟩
          · have hbad := Lib.hid (show badP d p (ps.take k) from .inr (.inl hE))
            rw [hE]
            clear hE
            go_wp2_with fail
            go_ret
            exact ⟨_, rfl, fun h => absurd h HM.out, fun _ h => absurd hbad.out (h k p HPk.out), fun _ _ => rfl, HB3.out⟩
      · have hlt' : ¬ (k : Int) < (ps.length : Int) := by omega
        obtain rfl : k = ps.length := by omega
        go_wp2_with fail
        go_ret
        exact ⟨_, rfl, fun h => absurd h HM.out, fun _ _ => rfl, fun _ ⟨j, x, hj, hb⟩ => absurd hb (HR.out j x (List.getElem?_eq_some_iff.1 hj).1 hj), HB.out⟩
end Go.Proofs.Ytpdjenkacefpjaa
