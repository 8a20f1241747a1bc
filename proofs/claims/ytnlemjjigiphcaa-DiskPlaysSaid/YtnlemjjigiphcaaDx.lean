/- Contracts of package disk: writing. -/
import Derived.Test.YtnlemjjigiphcaaDw
namespace Go.Proofs.Ytnlemjjigiphcaa
open Go.RowKit Go.ChangeShapes
set_option linter.unusedVariables false
set_option maxRecDepth 100000

/-- what writing answers, and leaves -/
def Wd (F : Nat → Prop) (B : Nat) (d : Dk) (n : Int) (b : Sec) (w : World) (e : Ending) (w' : World) : Prop := e = .returned (.int .i64 (writeR d n b).2) ∧ Turn F B (writeR d n b).1 w w'
theorem Wd.same {F : Nat → Prop} {B : Nat} {d d' : Dk} {n k : Int} {b : Sec} {w w' : World} (h : writeR d n b = (d', k)) (ht : Turn F B d' w w') : Wd F B d n b w (.returned (.int .i64 k)) w' := by
  unfold Wd
  rw [h]
  exact ⟨rfl, ht⟩
/-- no byte lies in a disk's own block -/
theorem BtAt.offDisk {F : Nat → Prop} {w w1 : World} {B p q : Nat} {vp vq : AM Value} {d : Dk} {v : Value} {b : Sec} (h : BtAt w v b) (hd : DiskIn F w B p q vp vq d) (ho : Off (· = B) w w1) : BtAt w1 v b := by
  obtain ⟨ad, c, rfl, h0, h2, h3, h1⟩ := h
  refine ⟨ad, c, rfl, h0, h2, h3, fun j x hj => ?_⟩
  obtain ⟨g, o, rfl, hc⟩ := h1 j x hj
  refine ⟨g, o, rfl, off_cell ho hc ?_⟩
  intro hB
  have hB' : g = B := hB
  subst hB'
  rw [hd.cell] at hc
  unfold diskC at hc
  match hx : o + j, hc with
  | 0, hc => simp at hc
  | 1, hc => simp at hc
  | 2, hc => simp at hc
  | 3, hc => simp at hc
  | 4, hc => simp at hc
  | 5, hc => simp at hc
  | (k + 6), hc => simp at hc
/-- the buffer has one sector more -/
theorem DiskIn.put {F : Nat → Prop} {w w1 w2 w3 : World} {B p q : Nat} {vp vq : AM Value} {d : Dk} {n : Int} {v : Value} {b : Sec} (h : DiskIn F w1 B p q vp vq d) (h1 : Off F w w1) (hn0 : 0 ≤ n) (hn1 : n < d.n) (hb : b.length = 128) (hr : RowB w2 w1.heap.size v b) (hbl : Below w1.heap.size w1 w2) (hm : mapV w3 q (insm n v vq)) (hg : w2.grownBy w3 (some q)) :
    Turn F B { d with bu := insm n b d.bu } w w3 := by
  have h2 := h.below hbl
  have ho : Off (· = q) w2 w3 := (Off.refl _ _).grown hg (fun k hk => .inl (Option.some.inj hk).symm)
  unfold RowB at hr
  rw [hb] at hr
  obtain ⟨g, c, hv⟩ := row_some hr (by omega)
  subst hv
  have hrb := row_blk hr
  have hgl : g < w2.heap.size := (Array.getElem?_eq_some_iff.1 hrb.2.2.2.choose_spec).1
  have hsize := Nat.le_trans h1.size (Nat.le_trans hbl.size ho.size)
  have nq : ∀ k, k = q → ∀ cs, w2.heap[k]? ≠ some (.cells cs 5 (0, 0)) := by
    rintro k rfl cs hc
    obtain ⟨_, es, ck, hb', _⟩ := h2.mq
    rw [hb'] at hc
    cases hc
  have mono : ∀ v' b', secAt F w2 v' b' → secAt (fun x => F x ∨ x = g) w3 v' b' := fun v' b' x => (x.off ho nq).mono (fun _ => .inl)
  refine ⟨fun x => F x ∨ x = g, ⟨p, q, vp, insm n (.slice (some ⟨g, 0, none⟩) 128 c) vq, ?_⟩, ?_, fun x hx => .inl hx, ?_⟩
  · refine ⟨ho.keeps h2.blk (fun e => h2.neQ e.symm), .inl h2.fB, .inl h2.fp, .inl h2.fq, h2.ne, h2.mp.eq (ho.block p h2.mp.lt h2.ne), hm, h2.rp.map mono, ?_, ?_, h2.ops, h2.left, ?_⟩
    · refine Rws.ins ?_ (h2.rq.map mono)
      exact ⟨g, c, rfl, .inr rfl, hb, row_base (Off.row ho hr nq) (Nat.zero_le _)⟩
    · have := h2.ok.put hn0 hn1 hb h2.ok.left (o := d.ops)
      exact this
    · rintro x (hx | rfl)
      · exact Nat.lt_of_lt_of_le (h2.lt x hx) ho.size
      · exact Nat.lt_of_lt_of_le hgl ho.size
  · rintro x (hx | rfl)
    · exact .inl hx
    · exact .inr (Nat.le_trans h1.size hrb.1)
  · exact h1.trans2 (Off.trans2 (.of_below hbl) ho (fun i hi e => e ▸ h.fq)) (fun i hi x => x)
set_option maxHeartbeats 1000000 in
theorem c_Write {F : Nat → Prop} (w : World) (B : Nat) (d : Dk) (n : Int) (v : Value) (b : Sec) (h : DiskAt F w B d) (hn : I64 n) (hv : BtAt w v b) (hlen : b.length ≤ 140737488351232) : Calls Try.prog 10 #[.pointer (some ⟨B, 0, none⟩), .int .i64 n, v] w (Wd F B d n b w) := by
  have h' := Lib.hid h
  obtain ⟨p, q, vp, vq, h⟩ := h
  have c4 : w.cell? ⟨B, 4, none⟩ = some (.bool d.dead) := h.cell 4
  have HI := Lib.hid h
  have HV := Lib.hid hv
  obtain ⟨ad, c, rfl, hv0, hv2, hv3, hv1⟩ := hv
  clear h hv0 hv1 hv2 hv3
  cases hd : d.dead with
  | true =>
    have hE : Hid (writeR d n b = (d, 12)) := Lib.hid (by unfold writeR; rw [hd]; rfl)
    rw [hd] at c4
    clear hd
    go_enter Try.func10, Try.ntmps10
    go_wp2
    go_ret
    exact Wd.same hE.out (Turn.refl h'.out (Below.refl _ _))
  | false =>
    rw [hd] at c4
    cases hT : d.there n with
    | false =>
      have hE : Hid (writeR d n b = (d, 1)) := Lib.hid (by unfold writeR; rw [hd, hT]; rfl)
      replace hT := Lib.hid hT
      clear hd
      go_enter Try.func10, Try.ntmps10
      go_wp2_with (first | (go_at_call 25; refine (c_there _ B d n h'.out).mono ?_; rintro e w1 ⟨rfl, rfl⟩; rw [hT.out]))
      go_ret
      exact Wd.same hE.out (Turn.refl h'.out (Below.refl _ _))
    | true =>
      by_cases hl : b.length = 128
      · have hS := spend_cases d HI.out.ok hd
        have hkey := HI.out.ok.key hT
        have hW : writeR d n b = (match d.spend with | (d', true) => ({ d' with bu := insm n b d'.bu }, 0) | (d', false) => (d', 12)) := by
          unfold writeR
          rw [if_neg (by rw [hd]; exact Bool.false_ne_true), if_pos (by rw [hT, hl]; rfl)]
          rfl
        rw [hl]
        have hq : Hid (Value.slice ad 128 c = .slice ad b.length c) := Lib.hid (by rw [hl])
        replace hT := Lib.hid hT
        have HD := Lib.hid hd
        replace hl := Lib.hid hl
        rcases hS with ⟨_, eS⟩ | ⟨_, l, o, hl0, eS⟩
        · rw [eS] at hW
          replace hW := Lib.hid hW
          replace eS := Lib.hid eS
          clear hd hkey
          go_enter Try.func10, Try.ntmps10
          go_wp2_with (first | (go_at_call 25; refine (c_there _ B d n h'.out).mono ?_; rintro e w1 ⟨rfl, rfl⟩; rw [hT.out]) | (go_at_call 26; refine (c_spend _ B p q vp vq d HI.out HD.out).mono ?_; rintro e w1 ⟨rfl, hi1, ho1⟩; rw [eS.out] at hi1; rw [eS.out]; have hi1 := Lib.hid hi1; have ho1 := Lib.hid ho1; dsimp only; rw [if_neg Bool.false_ne_true]))
          go_ret
          exact Wd.same hW.out ⟨F, ⟨p, q, vp, vq, hi1.out⟩, fun g hg => .inl hg, fun g hg => hg, ho1.out.mono (fun k _ hk => hk ▸ HI.out.fB)⟩
        · rw [eS] at hW
          replace hW := Lib.hid hW
          replace eS := Lib.hid eS
          replace hkey := Lib.hid hkey
          clear hd
          go_enter Try.func10, Try.ntmps10
          go_wp2_with (first | (go_at_call 25; refine (c_there _ B d n h'.out).mono ?_; rintro e w1 ⟨rfl, rfl⟩; rw [hT.out]) | (go_at_call 26; refine (c_spend _ B p q vp vq d HI.out HD.out).mono ?_; rintro e w1 ⟨rfl, hi1, ho1⟩; rw [eS.out] at hi1; rw [eS.out]; have hi1 := Lib.hid hi1; have ho1 := Lib.hid ho1; dsimp only; rw [if_pos rfl]))
          have hv1 : Hid (BtAt w1 (.slice ad 128 c) b) := Lib.hid (by rw [hq.out]; exact HV.out.offDisk HI.out ho1.out)
          have k2 : ∀ w', Off (· = q) w1 w' → w'.cell? ⟨B, 2, none⟩ = some (.map (some q)) := fun w' ho => off_cell ho (hi1.out.cell 2) (fun e => hi1.out.neQ e.symm)
          have hql : Hid (vq.length ≤ 5000) := Lib.hid (by have h1 := hi1.out.rq.len; have h2 := bu_len hi1.out.ok; simp only at h1 h2; omega)
          go_region_held3 (fun w' => Off (· = q) w1 w')
            ((repeat (with_reducible first | refine Off.drew ?_ | exact O3.out | exact O2.out | exact Off.refl _ _)))
            ((first
              | (go_at_call 27; refine (c_CloneB _ _ b (hv1.out.below (below_drew (Below.refl _ _))) hl.out).mono ?_; rintro e w2 ⟨v2, rfl, hv2, hb2⟩; have hv2 := Lib.hid hv2; have HB2 : Hid (Below w1.heap.size w1 w2) := Lib.hid (below2 (below_drew (Below.refl _ _)) hb2); obtain ⟨w3, hrun, hm3, hg3⟩ := ((hi1.out.below HB2.out).mq).upd hql.out hkey.out.2.2 v2; have hm3 := Lib.hid hm3; have hg3 := Lib.hid hg3; have O2 : Hid (Off (· = q) w1 w2) := Lib.hid (.of_below HB2.out); have O3 : Hid (Off (· = q) w1 w3) := Lib.hid (O2.out.grown hg3.out (fun k hk => .inl (Option.some.inj hk).symm)); clear hb2)))
          clear k2
          go_wp2
          go_ret
          exact Wd.same hW.out (hi1.out.put (ho1.out.mono (fun k _ hk => hk ▸ HI.out.fB)) hkey.out.1 hkey.out.2.1 hl.out hv2.out HB2.out hm3.out hg3.out)
      · have hE : Hid (writeR d n b = (d, 1)) := Lib.hid (by unfold writeR; rw [if_neg (by rw [hd]; exact Bool.false_ne_true), if_neg (by simp [hl])])
        have hne : ((b.length : Int) != 128) = true := by simp; omega
        replace hT := Lib.hid hT
        clear hd hl
        go_enter Try.func10, Try.ntmps10
        go_wp2_with (first | (go_at_call 25; refine (c_there _ B d n h'.out).mono ?_; rintro e w1 ⟨rfl, rfl⟩; rw [hT.out]))
        go_ret
        exact Wd.same hE.out (Turn.refl h'.out (Below.refl _ _))
end Go.Proofs.Ytnlemjjigiphcaa
