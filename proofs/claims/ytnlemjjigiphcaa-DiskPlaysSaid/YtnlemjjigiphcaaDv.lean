/- Contracts of package disk: the crash. -/
import Derived.Test.YtnlemjjigiphcaaDz
namespace Go.Proofs.Ytnlemjjigiphcaa
open Go.RowKit Go.ChangeShapes
set_option linter.unusedVariables false
set_option maxRecDepth 100000

theorem new1_cells (w : World) (ty : TypeId) (a : Value) : ∀ j u, ([a] : List Value)[j]? = some u → (w.alloc (.cells #[a] ty)).cell? ((⟨w.heap.size, 0, none⟩ : Addr).add j) = some u := fun j u hj => by
  match j, hj with
  | 0, hj => cases hj; exact cell_of_row _ _ 0 _ _ _ (heap_alloc_new w (.cells #[a] ty))
  | (k + 1), hj => simp at hj
/-- a slice of numbers, wherever it lies -/
def ItAt (w : World) (v : Value) (ps : List Int) : Prop := ∃ (ad : Option Addr) (c : Nat), v = .slice ad ps.length c ∧ ∀ (j : Nat) (x : Int), ps[j]? = some x → ∃ g o, ad = some ⟨g, o, none⟩ ∧ w.cell? ⟨g, o + j, none⟩ = some (.int .i64 x)
theorem ItAt.off {ex : Nat → Prop} {w w' : World} {v : Value} {ps : List Int} (h : ItAt w v ps) (ho : Off ex w w') (hn : ∀ a n c, v = .slice (some a) n c → ¬ ex a.block) : ItAt w' v ps := by
  obtain ⟨ad, c, rfl, h1⟩ := h
  refine ⟨ad, c, rfl, fun j x hj => ?_⟩
  obtain ⟨g, o, rfl, hc⟩ := h1 j x hj
  exact ⟨g, o, rfl, off_cell ho hc (hn ⟨g, o, none⟩ _ _ rfl)⟩
/-- the platter has one sector more -/
theorem DiskIn.putOn {F : Nat → Prop} {w w' : World} {B p q A g c : Nat} {vp vq : AM Value} {d : Dk} {n : Int} {b : Sec} (h : DiskIn F w B p q vp vq d) (hn0 : 0 ≤ n) (hn1 : n < d.n) (hb : b.length = 128) (hr : w.ownsRow A 5 1 (.slice (some ⟨g, 0, none⟩) 128 c) 128 (bys b)) (hm : mapV w' p (insm n (.slice (some ⟨g, 0, none⟩) 128 c) vp)) (hg : w.grownBy w' (some p)) :
    DiskIn (fun x => F x ∨ x = g) w' B p q (insm n (.slice (some ⟨g, 0, none⟩) 128 c) vp) vq { d with on := insm n b d.on } ∧ Off (· = p) w w' := by
  have ho : Off (· = p) w w' := (Off.refl _ _).grown hg (fun k hk => .inl (Option.some.inj hk).symm)
  have hgl : g < w.heap.size := (Array.getElem?_eq_some_iff.1 (row_blk hr).2.2.2.choose_spec).1
  have nq : ∀ k, k = p → ∀ cs, w.heap[k]? ≠ some (.cells cs 5 (0, 0)) := by
    rintro k rfl cs hc
    obtain ⟨_, es, ck, hb', _⟩ := h.mp
    rw [hb'] at hc
    cases hc
  have mono : ∀ v' b', secAt F w v' b' → secAt (fun x => F x ∨ x = g) w' v' b' := fun v' b' x => (x.off ho nq).mono (fun _ => .inl)
  refine ⟨⟨ho.keeps h.blk (fun e => h.neP e.symm), .inl h.fB, .inl h.fp, .inl h.fq, h.ne, hm, h.mq.eq (ho.block q h.mq.lt (fun e => h.ne e.symm)), Rws.ins ⟨g, c, rfl, .inr rfl, hb, row_base (Off.row ho hr nq) (Nat.zero_le _)⟩ (h.rp.map mono), h.rq.map mono, ?_, h.ops, h.left, ?_⟩, ho⟩
  · exact ⟨h.ok.n0, h.ok.n1, h.ok.on.ins n b, h.ok.bu, fun x hx => by
      rcases ins_mem n b _ x hx with rfl | hx
      · exact ⟨hn0, hn1, hb⟩
      · exact h.ok.onR x hx, h.ok.buR, h.ok.left⟩
  · rintro x (hx | rfl)
    · exact Nat.lt_of_lt_of_le (h.lt x hx) ho.size
    · exact Nat.lt_of_lt_of_le hgl ho.size
/-- the buffer is emptied -/
theorem DiskIn.cleared {F : Nat → Prop} {w w' : World} {B p q : Nat} {vp vq : AM Value} {d : Dk} (h : DiskIn F w B p q vp vq d) (hm : mapV w' q []) (ho : Off (· = q) w w') : DiskIn F w' B p q vp [] { d with bu := [] } := by
  have nq : ∀ k, k = q → ∀ cs, w.heap[k]? ≠ some (.cells cs 5 (0, 0)) := by
    rintro k rfl cs hc
    obtain ⟨_, es, ck, hb', _⟩ := h.mq
    rw [hb'] at hc
    cases hc
  exact ⟨ho.keeps h.blk (fun e => h.neQ e.symm), h.fB, h.fp, h.fq, h.ne, h.mp.eq (ho.block p h.mp.lt h.ne), hm, h.rp.map (fun _ _ x => x.off ho nq), trivial, ⟨h.ok.n0, h.ok.n1, h.ok.on, List.Pairwise.nil, h.ok.onR, fun _ hx => (by simp at hx), h.ok.left⟩, h.ops, h.left, fun g hg => Nat.lt_of_lt_of_le (h.lt g hg) ho.size⟩
/-- so far the crash has come -/
structure CrR (F : Nat → Prop) (w w3 wr : World) (B p q : Nat) (vq : AM Value) (d : Dk) (ps : List Int) (i : Nat) (on : AL) (vp : AM Value) (F' : Nat → Prop) : Prop where
  dk : DiskIn F' wr B p q vp vq { d with on := on }
  new : ∀ g, F' g → F g ∨ w.heap.size ≤ g
  old : ∀ g, F g → F' g
  off : Off (· = p) w3 wr
  eq : crashL (d.bu.drop i) (ps.drop i) on = crashL d.bu ps d.on
theorem Rws.nth {F : Nat → Prop} {w : World} : ∀ {vs : AM Value} {m : AL} {i : Nat} {x : Int} {v : Value}, Rws F w vs m → vs[i]? = some (x, v) → ∃ b, m[i]? = some (x, b) ∧ secAt F w v b
  | [], [], i, x, v, _, h => by simp at h
  | (k, u) :: r, (j, b) :: s, 0, x, v, ⟨h1, h2, h3⟩, h => by
    simp only [List.getElem?_cons_zero, Option.some.injEq, Prod.mk.injEq] at h
    obtain ⟨rfl, rfl⟩ := h
    subst h1
    exact ⟨b, rfl, h2⟩
  | (k, u) :: r, (j, b) :: s, i + 1, x, v, ⟨h1, h2, h3⟩, h => by
    obtain ⟨b', hb, hs⟩ := Rws.nth (i := i) h3 (by simpa using h)
    exact ⟨b', by simpa using hb, hs⟩
  | [], _ :: _, _, _, _, h, _ => h.elim
  | _ :: _, [], _, _, _, h, _ => h.elim
theorem crash_step {bu : AL} {ps : List Int} {on : AL} {i : Nat} {x : Int} {b : Sec} (h : bu[i]? = some (x, b)) : crashL (bu.drop i) (ps.drop i) on = crashL (bu.drop (i + 1)) (ps.drop (i + 1)) (insm x (torn (pickOf (ps.drop i)) b (onOf on x)) on) := by
  obtain ⟨hi, he⟩ := List.getElem?_eq_some_iff.1 h
  rw [List.drop_eq_getElem_cons hi, he]
  show crashL (bu.drop (i + 1)) (ps.drop i).tail _ = _
  rw [List.tail_drop]
  rfl
/-- a front is copied over a row -/
theorem row_copy {w w' : World} {A g c k : Nat} {b old : Sec} {cur : List Value} (hr : w.ownsRow A 5 1 (.slice (some ⟨g, 0, none⟩) 128 c) 128 (bys old)) (hc : w.heap[g]? = some (.cells cur.toArray 5 (0, 0))) (hb : b.length = 128) (hk : k ≤ 128) (h : w'.heap[g]? = some (.cells (splice cur 0 ((bys b).take k)).toArray 5 (0, 0))) :
    w'.ownsRow A 5 1 (.slice (some ⟨g, 0, none⟩) 128 c) 128 (bys (torn k b old)) := by
  obtain ⟨hl, hr⟩ := hr
  rw [bys_len] at hl
  rcases hr with ⟨hv, _⟩ | ⟨g', cap, cur', hv, hA, hg, h1, h2, h3, h4⟩
  · cases hv
  · cases hv
    rw [hc] at hg
    cases hg
    simp only [List.size_toArray] at h3 h4
    have hlb : (bys b).length = 128 := by rw [bys_len]; exact hb
    refine ⟨by rw [bys_len, torn_len hb (by omega) hk], .inr ⟨g, c, _, rfl, hA, h, h1, h2, ?_, ?_⟩⟩
    · simp only [splice, List.size_toArray, List.length_append, List.length_take, List.length_drop, hlb]
      omega
    · simp only [splice, List.take_zero, List.nil_append, Nat.zero_add, List.length_take, hlb]
      rw [Nat.min_eq_left hk, List.take_append, List.length_take, hlb, Nat.min_eq_left hk, List.take_take]
      have e2 : (cur.drop k).take (128 * 1 - k) = (bys old).drop k := by
        rw [← h4, List.drop_take]
      rw [e2]
      unfold torn bys
      rw [List.map_append, List.map_take, List.map_drop, Nat.min_eq_right (by omega)]
theorem A.sizeB : (Try.prog.info? 5).map (·.size) = some 1 := by kernel_rfl
theorem copy_len {b : Sec} {k : Nat} (hb : b.length = 128) (hk : k ≤ 128) : ((bys b).take k).length = Nat.min k 128 := by
  rw [List.length_take, bys_len, hb]
theorem copy_src {w w8 : World} {gb cb k : Nat} {b : Sec} (hr : w.ownsRow 0 5 1 (.slice (some ⟨gb, 0, none⟩) 128 cb) 128 (bys b)) (hb : Below w.heap.size w w8) {dp : Option Addr} (hd : dp = dp := by rfl) : 0 < ((bys b).take k).length → dp = dp ∧ ∃ ad, (some ⟨gb, 0, none⟩ : Option Addr) = some ad ∧ ∀ j v, ((bys b).take k)[j]? = some v → w8.cell? (ad.add j) = some v := fun _ =>
  ⟨rfl, _, rfl, fun j v hj => by
    rw [List.getElem?_take] at hj
    split at hj
    · exact row_cells (Off.row (.of_below (ex := fun _ => False) hb) hr (fun _ h => h.elim)) _ rfl j v hj
    · cases hj⟩
theorem copy_fit {w8 : World} {A g c k : Nat} {b old : Sec} {cur : List Value} (hr : w8.ownsRow A 5 1 (.slice (some ⟨g, 0, none⟩) 128 c) 128 (bys old)) (hc : w8.heap[g]? = some (.cells cur.toArray 5 (0, 0))) (hb : b.length = 128) (hk : k ≤ 128) : 0 + ((bys b).take k).length ≤ cur.length := by
  rcases hr.2 with ⟨hv, _⟩ | ⟨g', cap, cur', hv, hA, hg, h1, h2, h3, h4⟩
  · cases hv
  · cases hv
    rw [hc] at hg
    cases hg
    simp only [List.size_toArray] at h3
    rw [List.length_take, bys_len, hb]
    omega
theorem copy_one (b : Sec) (k : Nat) : ∀ v ∈ (bys b).take k, v.oneCell' = true := fun v hv => bys_one b v (List.mem_of_mem_take hv)
theorem CrR.step {F F' : Nat → Prop} {w w3 wr w9 w10 : World} {B p q A g c : Nat} {vp vq : AM Value} {d : Dk} {ps : List Int} {i : Nat} {on : AL} {x : Int} {b : Sec} (h : CrR F w w3 wr B p q vq d ps i on vp F') (hx : d.bu[i]? = some (x, b)) (hb9 : Below wr.heap.size wr w9) (hw : w.heap.size ≤ w3.heap.size) (hw2 : w3.heap.size ≤ A)
    (hr : w9.ownsRow A 5 1 (.slice (some ⟨g, 0, none⟩) 128 c) 128 (bys (torn (pickOf (ps.drop i)) b (onOf on x)))) (hm : mapV w10 p (insm x (.slice (some ⟨g, 0, none⟩) 128 c) vp)) (hg : w9.grownBy w10 (some p)) :
    CrR F w w3 w10 B p q vq d ps (i + 1) (insm x (torn (pickOf (ps.drop i)) b (onOf on x)) on) (insm x (.slice (some ⟨g, 0, none⟩) 128 c) vp) (fun y => F' y ∨ y = g) := by
  have hbuf := h.dk.ok.buR (x, b) (List.mem_of_getElem? hx)
  have hlen : (torn (pickOf (ps.drop i)) b (onOf on x)).length = 128 := by
    have := hr.1
    rw [bys_len] at this
    simpa using this
  obtain ⟨h1, h2⟩ := (h.dk.below hb9).putOn hbuf.1 hbuf.2.1 hlen hr hm hg
  refine ⟨h1, ?_, fun y hy => .inl (h.old y hy), (h.off.trans2 (.of_below (ex := (· = p)) hb9) (fun _ _ h => h)).trans h2, ?_⟩
  · rintro y (hy | rfl)
    · exact h.new y hy
    · exact .inr (by have := (row_blk hr).1; omega)
  · rw [← h.eq, crash_step hx]
set_option maxHeartbeats 2000000 in
theorem c_Crash2 {F : Nat → Prop} (w : World) (B : Nat) (d : Dk) (v : Value) (ps : List Int) (h : DiskAt F w B d) (hv : ItAt w v ps) (hp64 : ∀ p ∈ ps, I64 p) (hvF : ∀ a n c, v = .slice (some a) n c → ps ≠ [] → ¬ F a.block) (hpl : ps.length < 1000000) : Calls Try.prog 11 #[.pointer (some ⟨B, 0, none⟩), v] w fun e w' => e = .returned (.int .i64 (d.bu.length : Nat)) ∧ Turn F B (d.crash ps) w w' := by
  have h' := Lib.hid h
  obtain ⟨p, q, vp, vq, h⟩ := h
  have c2 : w.cell? ⟨B, 2, none⟩ = some (.map (some q)) := h.cell 2
  have HI := Lib.hid h
  have HV := Lib.hid hv
  obtain ⟨ad, c, rfl, hv1⟩ := hv
  obtain ⟨i0, hi, hz0, hz1, hz2⟩ := info_parts A.infoI
  have hvql : Hid (vq.length ≤ 4096) := Lib.hid (by rw [HI.out.rq.len]; exact bu_len HI.out.ok)
  replace hvF := Lib.hid hvF
  replace hp64 := Lib.hid hp64
  clear h hv1
  go_enter Try.func11, Try.ntmps11
  go_wp2_with (first | (at_range; refine wpList_range_own _ rfl _ 57 rfl 3 22 A.keyed A.underM heldE q vq.length (.map (ents vq)) rfl HI.out.mq.2 ?_; intro w2 hrg2 hg2 hs2; have H0 := Lib.hid (KyR.start hg2 hrg2); clear hrg2 hg2 hs2))
  (try go_frame)
  go_loopw [5] (fun v5 wr => ∃ left cnt ks, Hid (KyR w wr w.heap.size q v5 vq left cnt ks)) (fun _ wr => wr.rangeLeft q w.heap.size)
  case atStart => exact ⟨_, _, _, H0⟩
  case round =>
    clear H0
    obtain ⟨left, cnt, ks, HR⟩ := hrel
    obtain ⟨ad5, c5, hq5, _, _⟩ := row_shape HR.out.row
    subst hq5
    go_wp2_with (first | (at_next; refine wpList_next_sec rfl _ rfl q w.heap.size _ vq left cnt rfl HR.out.rg ?_ ?_))
    · intro hc0 hl0
      have hks := Lib.hid (HR.out.done HI.out.mq.1 hl0)
      have hkl : Hid (ks.length = vq.length) := Lib.hid (by have h1 := congrArg List.length hks.out; rw [(List.mergeSort_perm ks _).length_eq] at h1; simpa using h1)
      have hkl2 : Hid (ks.length < 1000000) := Lib.hid (by have := hkl.out; have := hvql.out; omega)
      clear hc0 hl0
      go_wp2_with (first | (go_at_call 28; refine (c_Sort wr w.heap.size (.slice ad5 ks.length c5) ks HR.out.row hkl2.out).mono ?_; rintro e w5 ⟨rfl, hr5, ho5⟩; replace hr5 := Lib.hid hr5; replace ho5 := Lib.hid ho5))
      replace ho5 := Lib.hid (Off.below HR.out.off ho5.out HR.out.off.size (fun k hk => hk))
      have hr5' : Hid (w5.ownsRow w.heap.size 3 1 (.slice ad5 ks.length c5) ks.length ((vq.map (·.1)).map (Value.int .i64))) := Lib.hid (by rw [← hks.out]; exact hr5.out)
      clear hr5 hks
      have H0 : Hid (CrR F w w5 w5 B p q vq d ps 0 d.on vp F) := Lib.hid ⟨HI.out.below ho5.out, fun g hg => .inl hg, fun g hg => hg, Off.refl _ _, rfl⟩
      clear HR
      go_loopw [28] (fun iv wr => ∃ (i : Nat) (on : AL) (vp' : AM Value) (F' : Nat → Prop), iv = .int .i64 i ∧ i ≤ ks.length ∧ Hid (CrR F w w5 wr B p q vq d ps i on vp' F')) (fun iv _ => ks.length - (intOf iv).toNat)
      case atStart => exact ⟨0, _, _, _, rfl, Nat.zero_le _, H0⟩
      case round =>
        clear H0
        obtain ⟨i, on, vp', F', rfl, hik, HC⟩ := hrel
        have hkb : ks.length < 1000000 := hkl2.out
        by_cases hlt : i < ks.length
        · have hlt' : (i : Int) < (ks.length : Int) := by omega
          obtain ⟨g5, c5', hq5⟩ := row_some hr5'.out (by omega)
          cases hq5
          obtain ⟨⟨x, cv⟩, hvi⟩ : ∃ y, vq[i]? = some y := ⟨_, List.getElem?_eq_getElem (by have := hkl.out; omega)⟩
          obtain ⟨b, hbi, gb, cb, rfl, hFb, hbl, hrb⟩ := HC.out.dk.rq.nth hvi
          have hgx := getm_of_mem HC.out.dk.mq.1 (List.mem_of_getElem? hvi)
          have hxr := HC.out.dk.ok.buR (x, b) (List.mem_of_getElem? hbi)
          have hx64 : Hid (I64 x) := Lib.hid (by have := hxr.1; have := hxr.2.1; have := HC.out.dk.ok.n1; unfold I64; simp only at *; omega)
          have hcell : wr.cell? ⟨g5, i, none⟩ = some (.int .i64 x) := off_cell HC.out.off (row_cell hr5'.out i (by rw [List.getElem?_map, List.getElem?_map, hvi]; rfl)).2 (by
            obtain ⟨_, _, _, cs, hc⟩ := row_blk hr5'.out
            intro e
            obtain ⟨_, es, ck, hb', _⟩ := (HI.out.below ho5.out).mp
            have e' : g5 = p := e
            rw [e', hb'] at hc
            cases hc)
          replace hgx := Lib.hid hgx
          replace hrb := Lib.hid hrb
          replace hbi := Lib.hid hbi
          replace hbl := Lib.hid hbl
          have hcb : (128 : Nat) ≤ cb := (row_blk hrb.out).2.1
          have hDA := Lib.hid (show DiskAt F' wr B _ from ⟨p, q, vp', vq, HC.out.dk⟩)
          clear hxr hvi hFb
          have hol : Hid ((onOf on x).length = 128) := Lib.hid (hDA.out.ok.onLen x)
          have hvpl : Hid (vp'.length ≤ 5000) := Lib.hid (by have h1 := HC.out.dk.rp.len; have h2 := on_len HC.out.dk.ok; simp only at h1 h2; omega)
          by_cases hpk : i < ps.length
          · have hpk' : (i : Int) < (ps.length : Int) := by omega
            obtain ⟨pp, hpp⟩ : ∃ y, ps[i]? = some y := ⟨_, List.getElem?_eq_getElem hpk⟩
            have hp6 := hp64.out pp (List.mem_of_getElem? hpp)
            obtain ⟨t, ht, ht1, ht2⟩ : ∃ t, pp.tmod 129 = t ∧ -129 < t ∧ t < 129 := ⟨_, rfl, (tmod_facts pp 129 (by decide)).1, (tmod_facts pp 129 (by decide)).2.1⟩
            have hkE : Hid (pickOf (ps.drop i) = pick pp) := Lib.hid (by rw [List.drop_eq_getElem_cons hpk, (List.getElem?_eq_some_iff.1 hpp).2]; rfl)
            have hk128 : Hid (pick pp ≤ 128) := Lib.hid (pick_le pp)
            have hkt : (t + 128 + 1) % 129 = ((pick pp : Nat) : Int) := by unfold pick; rw [ht]; omega
            have hkc : ((pick pp : Nat) : Int) ≤ (cb : Int) := by have := hk128.out; omega
            obtain ⟨ad', c', hqv, hcv⟩ := HV.out
            cases hqv
            obtain ⟨gp, op, hqp, hcp⟩ := hcv i pp hpp
            subst hqp
            have pcell : wr.cell? ⟨gp, op + i, none⟩ = some (.int .i64 pp) := by
              exact off_cell (Off.trans2 (.of_below (ex := (· = p)) ho5.out) HC.out.off (fun _ _ h => h)) hcp (fun e => hvF.out _ _ _ rfl (fun e9 => by rw [e9] at hpp; simp at hpp) (by have e' : gp = p := e; rw [e']; exact HI.out.fp))
            replace hp6 := Lib.hid hp6
            replace hpp := Lib.hid hpp
            clear hcv hcp
            generalize pick pp = kN at hkE hk128 hkt hkc
            go_wp2_with (first
              | (go_at_call 29; refine (c_on wr B _ x hDA.out hx64.out).mono ?_; rintro e w7 ⟨v7, rfl, hv7, hb7⟩; replace hv7 := Lib.hid hv7; replace hb7 := Lib.hid hb7)
              | (go_at_call 27; (refine (c_CloneB w7 v7 _ hv7.out.bt hol.out).mono ?_; rintro e w8 ⟨v8, rfl, hv8, hb8⟩; have hr8 : Hid (w8.ownsRow w7.heap.size 5 1 v8 128 (bys (onOf on x))) := Lib.hid (by have h1 : w8.ownsRow w7.heap.size 5 1 v8 (onOf on x).length (bys (onOf on x)) := hv8; rw [hol.out] at h1; exact h1); have hb8' := Lib.hid (below2 hb7.out hb8); clear hv8 hb8; obtain ⟨gn, cn, hq8⟩ := row_some hr8.out (by decide); subst hq8; obtain ⟨_, _, _, cur, hcur⟩ := row_blk hr8.out; replace hcur : Hid (w8.heap[gn]? = some (.cells cur.toList.toArray 5 (0, 0))) := Lib.hid (by rw [Array.toArray_toList]; exact hcur); have hl := (HC.out.dk.below hb8'.out).mq.look hx64.out false; rw [hgx.out] at hl; simp only [Option.getD_some, Bool.false_eq_true, if_false] at hl; have b2 : w8.cell? ⟨B, 2, none⟩ = some (.map (some q)) := (HC.out.dk.below hb8'.out).cell 2))
              | ((with_reducible refine wpList_copy_splice (o := ⟨some 58, _, _, _, _, _⟩) ?_ (.tmp 49) (.tmp 57) 22 22 ?_ 5 A.underB A.sizeB (some ⟨gn, 0, none⟩) (some ⟨gb, 0, none⟩) 128 cn kN cb ?_ ?_ gn 0 cur.toList 5 hcur.out ((bys b).take kN) ?_ ?_ ?_ ?_ wr.heap.size wr hb8'.out ?_ ?_); exact rfl; exact rfl; exact rfl; exact rfl; exact copy_len hbl.out hk128.out; exact copy_src (hrb.out) hb8'.out; exact copy_fit hr8.out hcur.out hbl.out hk128.out; exact copy_one b _; exact Nat.le_trans hb7.out.size (row_blk hr8.out).1; intro w9 hg9 hb9; have hr9 := Lib.hid (row_copy hr8.out hcur.out hbl.out hk128.out hg9.out); replace hb9 := Lib.hid hb9; clear hg9 hl b2 hcur; have b1 : w9.cell? ⟨B, 1, none⟩ = some (.map (some p)) := (HC.out.dk.below hb9.out).cell 1; have mp9 := Lib.hid (HC.out.dk.below hb9.out).mp)
              | (at_mapUpdate; refine wpList_mapUpdate rfl (.tmp 62) (.tmp 63) (.tmp 64) rfl p vp' rfl mp9.out hvpl.out x hx64.out (.slice (some ⟨gn, 0, none⟩) 128 cn) rfl rfl ?_; intro w10 hm10 hg10; replace hm10 := Lib.hid hm10; replace hg10 := Lib.hid hg10; go_frame))
            have HN := Lib.hid (HC.out.step (A := w7.heap.size) hbi.out hb9.out ho5.out.size (Nat.le_trans HC.out.off.size hb7.out.size) (by rw [hkE.out]; exact hr9.out) hm10.out hg10.out)
            clear b1 mp9 hcell
            go_roundw
            case rel => exact ⟨i + 1, _, _, _, by go_num, by omega, HN⟩
            case measure => simp [intOf]; omega
          · have hpk' : ¬ (i : Int) < (ps.length : Int) := by omega
            have hkE : Hid (pickOf (ps.drop i) = 0) := Lib.hid (by rw [List.drop_eq_nil_of_le (by omega)]; rfl)
            have hk128 : Hid ((0 : Nat) ≤ 128) := Lib.hid (by decide)
            have hkc : (0 : Int) ≤ (cb : Int) := by omega
            go_wp2_with (first
              | (go_at_call 29; refine (c_on wr B _ x hDA.out hx64.out).mono ?_; rintro e w7 ⟨v7, rfl, hv7, hb7⟩; replace hv7 := Lib.hid hv7; replace hb7 := Lib.hid hb7)
              | (go_at_call 27; (refine (c_CloneB w7 v7 _ hv7.out.bt hol.out).mono ?_; rintro e w8 ⟨v8, rfl, hv8, hb8⟩; have hr8 : Hid (w8.ownsRow w7.heap.size 5 1 v8 128 (bys (onOf on x))) := Lib.hid (by have h1 : w8.ownsRow w7.heap.size 5 1 v8 (onOf on x).length (bys (onOf on x)) := hv8; rw [hol.out] at h1; exact h1); have hb8' := Lib.hid (below2 hb7.out hb8); clear hv8 hb8; obtain ⟨gn, cn, hq8⟩ := row_some hr8.out (by decide); subst hq8; obtain ⟨_, _, _, cur, hcur⟩ := row_blk hr8.out; replace hcur : Hid (w8.heap[gn]? = some (.cells cur.toList.toArray 5 (0, 0))) := Lib.hid (by rw [Array.toArray_toList]; exact hcur); have hl := (HC.out.dk.below hb8'.out).mq.look hx64.out false; rw [hgx.out] at hl; simp only [Option.getD_some, Bool.false_eq_true, if_false] at hl; have b2 : w8.cell? ⟨B, 2, none⟩ = some (.map (some q)) := (HC.out.dk.below hb8'.out).cell 2))
              | ((with_reducible refine wpList_copy_splice (o := ⟨some 58, _, _, _, _, _⟩) ?_ (.tmp 49) (.tmp 57) 22 22 ?_ 5 A.underB A.sizeB (some ⟨gn, 0, none⟩) (some ⟨gb, 0, none⟩) 128 cn 0 cb ?_ ?_ gn 0 cur.toList 5 hcur.out ((bys b).take 0) ?_ ?_ ?_ ?_ wr.heap.size wr hb8'.out ?_ ?_); exact rfl; exact rfl; exact rfl; exact rfl; exact copy_len hbl.out hk128.out; exact copy_src (hrb.out) hb8'.out; exact copy_fit hr8.out hcur.out hbl.out hk128.out; exact copy_one b _; exact Nat.le_trans hb7.out.size (row_blk hr8.out).1; intro w9 hg9 hb9; have hr9 := Lib.hid (row_copy hr8.out hcur.out hbl.out hk128.out hg9.out); replace hb9 := Lib.hid hb9; clear hg9 hl b2 hcur; have b1 : w9.cell? ⟨B, 1, none⟩ = some (.map (some p)) := (HC.out.dk.below hb9.out).cell 1; have mp9 := Lib.hid (HC.out.dk.below hb9.out).mp)
              | (at_mapUpdate; refine wpList_mapUpdate rfl (.tmp 62) (.tmp 63) (.tmp 64) rfl p vp' rfl mp9.out hvpl.out x hx64.out (.slice (some ⟨gn, 0, none⟩) 128 cn) rfl rfl ?_; intro w10 hm10 hg10; replace hm10 := Lib.hid hm10; replace hg10 := Lib.hid hg10; go_frame))
            have HN := Lib.hid (HC.out.step (A := w7.heap.size) hbi.out hb9.out ho5.out.size (Nat.le_trans HC.out.off.size hb7.out.size) (by rw [hkE.out]; exact hr9.out) hm10.out hg10.out)
            clear b1 mp9 hcell
            go_roundw
            case rel => exact ⟨i + 1, _, _, _, by go_num, by omega, HN⟩
            case measure => simp [intOf]; omega
        · have hlt' : ¬ (i : Int) < (ks.length : Int) := by omega
          have b2 : wr.cell? ⟨B, 2, none⟩ = some (.map (some q)) := HC.out.dk.cell 2
          have mq := Lib.hid HC.out.dk.mq
          have hiq : Hid (i = d.bu.length) := Lib.hid (by have h1 := hkl.out; have h2 := HC.out.dk.rq.len; simp only at h2; omega)
          have hkd : Hid (ks.length = d.bu.length) := Lib.hid (by have h1 := hkl.out; have h2 := HC.out.dk.rq.len; simp only at h2; omega)
          go_wp2_with (first | (refine wpList_clear rfl (.tmp 69) rfl q vq rfl mq.out ?_; intro w6 hm6 ho6 hs6; have HD6 := Lib.hid (HC.out.dk.cleared hm6 ho6); replace ho6 := Lib.hid ho6; clear hm6 hs6 b2; have b4 : w6.cell? ⟨B, 4, none⟩ = some (.bool d.dead) := HD6.out.cell 4; have b3 : w6.cell? ⟨B, 3, none⟩ = some (.int .i64 d.left) := HD6.out.cell 3; have bf := fun j => HD6.out.free j))
          go_ret
          have ho := (off1 w6 B 4 (.bool false)).trans (off1 _ B 3 (.int .i64 0))
          refine ⟨by rw [hkd.out]; rfl, F', ⟨p, q, vp', [], ?_⟩, HC.out.new, HC.out.old, ?_⟩
          · have h1 := HD6.out.set ho 0 d.ops false (by decide) (by decide) HD6.out.ops (by simp [World.setCell, Array.getElem?_modify, HD6.out.blk, diskC])
            have e : crashL d.bu ps d.on = on := by
              have h2 := HC.out.eq
              rw [hiq.out, List.drop_length] at h2
              exact h2.symm
            unfold Dk.crash
            rw [e]
            exact h1
          · exact ((Off.trans2 (.of_below (ex := F) ho5.out) HC.out.off (fun k _ hk => hk ▸ HI.out.fp)).trans2 ho6.out (fun k _ hk => hk ▸ HI.out.fq)).trans2 ho (fun k _ hk => hk ▸ HI.out.fB)
    · intro x c' w3 cnt3 hx64 hlx hgx hrg3 hlt hg3 hs3 hen
      replace hlx := Lib.hid hlx
      replace hgx := Lib.hid hgx
      replace hrg3 := Lib.hid hrg3
      replace hg3 := Lib.hid hg3
      replace hs3 := Lib.hid hs3
      have row3 : Hid (w3.ownsRow w.heap.size 3 1 (.slice ad5 ks.length c5) ks.length (ks.map (Value.int .i64))) := Lib.hid (Off.row ((Off.refl (fun k => k = w.heap.size) wr).grown hg3.out (fun k hk => .inl (Option.some.inj hk).symm)) HR.out.row (by
        rintro k rfl cs hc
        obtain ⟨es, clock, since, seen, c0, hb1, hb2, hb3, hb4, hb5, rest⟩ := HR.out.rg
        rw [hb5] at hc
        cases hc))
      have hkl : Hid (ks.length ≤ 4096) := Lib.hid (Nat.le_trans HR.out.len hvql.out)
      have hwz : Hid (w.heap.size ≤ w3.heap.size) := Lib.hid (Nat.le_trans HR.out.off.size hg3.out.size)
      go_wp2_with (first | (at_builtin; refine wpList_append_own _ rfl (.tmp 20) (.tmp 22) 39 rfl w.heap.size 3 i0 (.int .i64 0) 1 8 A.underLI hi hz0 hz1 hz2 rfl (by decide) _ ks.length (ks.map (Value.int .i64)) rfl (row3.out.alloc _) ⟨w3.heap.size, 0, none⟩ 1 1 [.int .i64 x] rfl rfl (new1_cells w3 _ _) (by simp [Value.oneCell']) (by have := hkl.out; unfold maxLen; omega) (by have := hkl.out; omega) (by have := hwz.out; simp; omega) ?_; intro v' w4 hown hgrow hnil; replace hown := Lib.hid hown; replace hgrow := Lib.hid hgrow; clear hnil))
      have hgr : (w3.alloc (.cells #[.int .i64 x] 3)).grownBy w4 (Value.slice ad5 ks.length c5).ownBlock := hgrow.out
      have hof : Off (fun k => blkOf (.slice ad5 ks.length c5) = some k) w3 w4 := ((Off.refl _ w3).alloc _).grown hgr (fun k hk => .inl (by cases ad5 with | none => cases hk | some a => exact hk))
      have HN := Lib.hid (HR.out.step hgx.out hlx.out hrg3.out hg3.out (by rw [List.map_append]; exact hown.out) hof)
      clear hgr hof hen hgrow hown row3
      go_roundw
      case rel => exact ⟨_, cnt3, _, HN⟩
      case measure => rw [HN.out.rg.left_eq, HR.out.rg.left_eq]; omega
theorem c_Crash {F : Nat → Prop} (w : World) (B : Nat) (d : Dk) (v : Value) (ps : List Int) (h : DiskAt F w B d) (hv : ItAt w v ps) (hp64 : ∀ p ∈ ps, I64 p) (hvF : ∀ a n c, v = .slice (some a) n c → ¬ F a.block) (hpl : ps.length < 1000000) : Calls Try.prog 11 #[.pointer (some ⟨B, 0, none⟩), v] w fun e w' => e = .returned (.int .i64 (d.bu.length : Nat)) ∧ Turn F B (d.crash ps) w w' := c_Crash2 w B d v ps h hv hp64 (fun a n c e _ => hvF a n c e) hpl
end Go.Proofs.Ytnlemjjigiphcaa
