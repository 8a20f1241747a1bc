/- Contracts of package disk: flushing. -/
import Derived.Test.YtnlemjjigiphcaaDx
namespace Go.Proofs.Ytnlemjjigiphcaa
open Go.RowKit Go.ChangeShapes
set_option linter.unusedVariables false
set_option maxRecDepth 100000

theorem Rws.merge {F : Nat → Prop} {w : World} : ∀ {vb : AM Value} {bu : AL} {vo : AM Value} {on : AL}, Rws F w vb bu → Rws F w vo on → Rws F w (mergeL vb vo) (mergeL bu on)
  | [], [], _, _, _, h => h
  | (k, v) :: r, (j, b) :: s, vo, on, ⟨h1, h2, h3⟩, h => by
    subst h1
    exact Rws.merge (vb := r) (bu := s) h3 (h.ins h2)
  | [], _ :: _, _, _, h, _ => h.elim
  | _ :: _, [], _, _, h, _ => h.elim
/-- the ways of a step of a range over a map of sectors -/
theorem wpList_next_sec {w : World} {ops : Array Oper} {rest : List Oper} {o : Oper} {a : Act} {Q : Exit → Act → World → Prop} (hg : o.guard = none) (it : Operand) (hop : o.op = Op.next it false) (b r n : Nat) (vs : AM Value) (left : Lit → Bool) (cnt : Nat)
    (hit : a.eval it = .pointer (some ⟨r, 0, none⟩)) (h : w.ranges Try.prog 3 heldE b r n (.map (ents vs)) left cnt)
    (hDone : cnt = 0 → (∀ kl, left kl = false) → wpList Try.prog ops Q rest (a.put o.dst (.tuple #[.bool false])) w)
    (hMore : ∀ (x : Int) (c : Value) (w' : World) (cnt' : Nat), I64 x → left (.int .i64 x) = true → getm vs x = some c → w'.ranges Try.prog 3 heldE b r n (.map (ents vs)) (fun z => left z && !z.sameKey (.int .i64 x)) cnt' → cnt' < cnt →
      w.grownBy w' (some r) → w'.heap.size = w.heap.size → (Instr.entry (.pointer (some ⟨r, 0, none⟩))).run Try.prog w' = .ok (.tuple #[.int .i64 x, c]) w' → wpList Try.prog ops Q rest (a.put o.dst (.tuple #[.bool true, .int .i64 x, c])) w') :
    wpList Try.prog ops Q (o :: rest) a w :=
  wpList_next_ranges w hg it hop 3 A.keyed heldE (Value.int .i64) id (fun key kl hkey => by obtain ⟨x, rfl, _⟩ := Maps.keyOf_int_inv A.underInt hkey; exact ⟨x, rfl⟩) (fun v y hv => ⟨v, rfl⟩)
    b r n _ left cnt hit h hDone (fun x c kl y w' cnt' hkey hlk hv hat hrg hlt hgr hsz hen => by
      obtain ⟨x', ex, rfl, hwx⟩ := Maps.keyOf_int_inv A.underInt hkey
      cases ex
      have h1 := hat .nil
      rw [ents_at] at h1
      cases hv
      refine hMore x c w' cnt' ?_ hlk ?_ hrg hlt hgr hsz hen
      · unfold I64
        simp [Lit.wf, IntKind.min, IntKind.max, IntKind.signed, IntKind.bits] at hwx
        omega
      · cases hg : getm vs x with
        | none => rw [hg] at h1; cases h1
        | some u =>
          rw [hg] at h1
          injection h1 with h1
          rw [h1]
          rfl)
/-- 'clear(m)', at the operation -/
theorem wpList_clear {w : World} {ops : Array Oper} {rest : List Oper} {o : Oper} {a : Act} {Q : Exit → Act → World → Prop} (hg : o.guard = none) (m : Operand) (hop : o.op = Op.call { callee := Callee.builtin Builtin.clear, args := #[m], argTypes := #[57] }) (p : Nat) (vs : AM Value) (hm : a.eval m = .map (some p)) (hmv : mapV w p vs)
    (hK : ∀ w', mapV w' p [] → Off (· = p) w w' → w'.heap.size = w.heap.size → wpList Try.prog ops Q rest (a.put o.dst (.tuple #[])) w') : wpList Try.prog ops Q (o :: rest) a w := by
  refine wpList_plain hg fun K hK' => ?_
  obtain ⟨w', hrun, r1, r2, r3⟩ := hmv.clear o.type
  unfold Oper.wp
  simp [execOp, hop, resolve, invoke, builtin, hm, hrun, Result.andThen]
  exact hK' _ _ (hK w' r1 r2 r3)
theorem ents_has : ∀ (vs : AM Value) (k : Int), Maps.has (DataW.map (ents vs)) (.int .i64 k) = (getm vs k).isSome
  | [], k => rfl
  | (j, v) :: r, k => by
    have ih := ents_has r k
    rw [Maps.has_eq] at ih ⊢
    rw [show ents ((j, v) :: r) = ((.int .i64 j, .held v) : Lit × DataW Value) :: ents r from rfl, List.any_cons, ih, getm_cons]
    by_cases e : j = k
    · subst e
      simp [Lit.sameKey]
    · rw [if_neg e]
      have : (Lit.int .i64 j).sameKey (.int .i64 k) = false := by simp [Lit.sameKey, e]
      rw [this, Bool.false_or]
/-- what has been brought to the platter, as far as the range has come -/
structure FlR (w1 wr : World) (R p q : Nat) (vp vq : AM Value) (left : Lit → Bool) (cnt : Nat) (vp' : AM Value) : Prop where
  rg : wr.ranges Try.prog 3 heldE q R vq.length (.map (ents vq)) left cnt
  mp : mapV wr p vp'
  get : ∀ k, getm vp' k = if left (.int .i64 k) = true then getm vp k else (getm vq k).or (getm vp k)
  rng : ∀ x ∈ vp', 0 ≤ x.1 ∧ x.1 < 4096
  off : Off (· = p) w1 wr
theorem FlR.start {w1 w2 : World} {p q : Nat} {vp vq : AM Value} (hp : mapV w1 p vp) (hg : w1.grownBy w2 none) (hr : w2.ranges Try.prog 3 heldE q w1.heap.size vq.length (.map (ents vq)) (Maps.has (.map (ents vq))) (Maps.size (DataW.map (ents vq)))) (h0 : ∀ x ∈ vp, 0 ≤ x.1 ∧ x.1 < 4096) : FlR w1 w2 w1.heap.size p q vp vq (Maps.has (.map (ents vq))) (Maps.size (DataW.map (ents vq))) vp :=
  ⟨hr, hp.eq (hg.block p hp.lt (by simp)), fun k => by
    rw [ents_has]
    cases getm vq k with
    | none => rfl
    | some v => rfl, h0, (Off.refl _ _).grown hg (fun k hk => by cases hk)⟩
theorem FlR.step {w1 wr w3 w4 : World} {R p q x cnt' : _} {vp vq vp' : AM Value} {left : Lit → Bool} {cnt : Nat} {c : Value} (h : FlR w1 wr R p q vp vq left cnt vp') (hR : w1.heap.size ≤ R) (hpq : p ≠ q) (hx : getm vq x = some c) (hl : left (.int .i64 x) = true) (hxr : 0 ≤ x ∧ x < 4096)
    (hr : w3.ranges Try.prog 3 heldE q R vq.length (.map (ents vq)) (fun z => left z && !z.sameKey (.int .i64 x)) cnt') (hg : wr.grownBy w3 (some R)) (hm : mapV w4 p (insm x c vp')) (hg4 : w3.grownBy w4 (some p)) (hpR : p ≠ R) :
    FlR w1 w4 R p q vp vq (fun z => left z && !z.sameKey (.int .i64 x)) cnt' (insm x c vp') := by
  refine ⟨hr.kept hg4 (by simpa using fun e => hpq e.symm) (by simpa using fun e => hpR e.symm), hm, fun k => ?_, fun y hy => ?_, ?_⟩
  · rw [getm_ins _ _ _ _ h.mp.1]
    by_cases e : k = x
    · subst e
      rw [if_pos rfl, hx]
      simp [Lit.sameKey]
    · rw [if_neg e, h.get k]
      have : (Lit.int .i64 k).sameKey (.int .i64 x) = false := by simp [Lit.sameKey, e]
      simp only [this, Bool.not_false, Bool.and_true]
  · rcases ins_mem _ _ _ y hy with rfl | hy
    · exact hxr
    · exact h.rng y hy
  · exact (h.off.grown hg (fun k hk => .inr (by have := Option.some.inj hk; omega))).grown hg4 (fun k hk => .inl (Option.some.inj hk).symm)
theorem FlR.len {w1 wr : World} {R p q : Nat} {vp vq vp' : AM Value} {left : Lit → Bool} {cnt : Nat} (h : FlR w1 wr R p q vp vq left cnt vp') : vp'.length ≤ 5000 := by
  have := asc_len (lo := 0) (hi := 4096) h.mp.1 h.rng (by decide)
  omega
theorem FlR.done {w1 wr : World} {R p q : Nat} {vp vq vp' : AM Value} {left : Lit → Bool} {cnt : Nat} (h : FlR w1 wr R p q vp vq left cnt vp') (hq : Asc vq) (hp : Asc vp) (hl : ∀ k, left k = false) : vp' = mergeL vq vp :=
  asc_ext h.mp.1 (Asc.merge hp) (fun k => by rw [h.get k, hl, getm_merge _ _ _ hq hp]; rfl)
theorem rng_of {F : Nat → Prop} {w : World} : ∀ {vs : AM Value} {m : AL} {n : Int}, Rws F w vs m → (∀ p ∈ m, 0 ≤ p.1 ∧ p.1 < n ∧ p.2.length = 128) → n ≤ 4096 → ∀ x ∈ vs, 0 ≤ x.1 ∧ x.1 < 4096
  | [], [], _, _, _, _, x, hx => by simp at hx
  | (k, v) :: r, (j, b) :: s, n, ⟨h1, h2, h3⟩, hm, hn, x, hx => by
    rcases List.mem_cons.1 hx with rfl | hx
    · have := hm (j, b) (by simp)
      simp at this
      subst h1
      simp
      omega
    · exact rng_of h3 (fun p hp => hm p (by simp [hp])) hn x hx
  | [], _ :: _, _, h, _, _, _, _ => h.elim
  | _ :: _, [], _, h, _, _, _, _ => h.elim
/-- the buffer is on the platter -/
theorem DiskIn.flushed {F : Nat → Prop} {w w1 wr w5 : World} {B p q R : Nat} {vp vq vp' : AM Value} {d : Dk} {left : Lit → Bool} {cnt : Nat} (h : DiskIn F w1 B p q vp vq d) (h1 : Off F w w1) (hf : FlR w1 wr R p q vp vq left cnt vp') (hl : ∀ k, left k = false) (hm : mapV w5 q []) (ho5 : Off (· = q) wr w5) : Turn F B { d with on := mergeL d.bu d.on, bu := [] } w w5 := by
  have e := hf.done h.mq.1 h.mp.1 hl
  subst e
  have o1 := hf.off
  have cellp : ∀ k, k = p → ∀ cs, w1.heap[k]? ≠ some (.cells cs 5 (0, 0)) := by
    rintro k rfl cs hc
    obtain ⟨_, es, ck, hb', _⟩ := h.mp
    rw [hb'] at hc
    cases hc
  have cellq : ∀ k, k = q → ∀ cs, wr.heap[k]? ≠ some (.cells cs 5 (0, 0)) := by
    rintro k rfl cs hc
    obtain ⟨es, ck, hb', _⟩ := (hf.rg.owns)
    rw [hb'] at hc
    cases hc
  have mono : ∀ v b, secAt F w1 v b → secAt F w5 v b := fun v b x => (x.off o1 cellp).off ho5 cellq
  refine ⟨F, ⟨p, q, mergeL vq vp, [], ?_⟩, fun g hg => .inl hg, fun g hg => hg, ?_⟩
  · refine ⟨ho5.keeps (o1.keeps h.blk (fun e => h.neP e.symm)) (fun e => h.neQ e.symm), h.fB, h.fp, h.fq, h.ne, hf.mp.eq (ho5.block p hf.mp.lt h.ne), hm, (h.rq.map mono).merge (h.rp.map mono), trivial, ?_, h.ops, h.left, fun g hg => Nat.lt_of_lt_of_le (Nat.lt_of_lt_of_le (h.lt g hg) o1.size) ho5.size⟩
    have := h.ok.flushed h.ok.left (o := d.ops)
    exact this
  · exact (h1.trans2 o1 (fun i hi e => e ▸ h.fp)).trans2 ho5 (fun i hi e => e ▸ h.fq)
/-- what flushing answers, and leaves -/
def Fd (F : Nat → Prop) (B : Nat) (d : Dk) (w : World) (e : Ending) (w' : World) : Prop := e = .returned (.int .i64 (flushR d).2) ∧ Turn F B (flushR d).1 w w'
theorem Fd.same {F : Nat → Prop} {B : Nat} {d d' : Dk} {k : Int} {w w' : World} (h : flushR d = (d', k)) (ht : Turn F B d' w w') : Fd F B d w (.returned (.int .i64 k)) w' := by
  unfold Fd
  rw [h]
  exact ⟨rfl, ht⟩
set_option maxHeartbeats 1000000 in
theorem c_Flush {F : Nat → Prop} (w : World) (B : Nat) (d : Dk) (h : DiskAt F w B d) : Calls Try.prog 16 #[.pointer (some ⟨B, 0, none⟩)] w (Fd F B d w) := by
  have h' := Lib.hid h
  obtain ⟨p, q, vp, vq, h⟩ := h
  have c4 : w.cell? ⟨B, 4, none⟩ = some (.bool d.dead) := h.cell 4
  have HI := Lib.hid h
  clear h
  cases hd : d.dead with
  | true =>
    have hE : Hid (flushR d = (d, 12)) := Lib.hid (by unfold flushR; rw [hd]; rfl)
    rw [hd] at c4
    clear hd
    go_enter Try.func16, Try.ntmps16
    go_wp2
    go_ret
    exact Fd.same hE.out (Turn.refl h'.out (Below.refl _ _))
  | false =>
    rw [hd] at c4
    have hS := spend_cases d HI.out.ok hd
    have hW : flushR d = (match d.spend with | (d', true) => ({ d' with on := mergeL d'.bu d'.on, bu := [] }, 0) | (d', false) => (d', 12)) := by
      unfold flushR
      rw [if_neg (by rw [hd]; exact Bool.false_ne_true)]
      rfl
    have HD := Lib.hid hd
    rcases hS with ⟨_, eS⟩ | ⟨_, l, o, hl0, eS⟩
    · rw [eS] at hW
      replace hW := Lib.hid hW
      replace eS := Lib.hid eS
      clear hd
      go_enter Try.func16, Try.ntmps16
      go_wp2_with (first | (go_at_call 26; refine (c_spend _ B p q vp vq d HI.out HD.out).mono ?_; rintro e w1 ⟨rfl, hi1, ho1⟩; rw [eS.out] at hi1; rw [eS.out]; have hi1 := Lib.hid hi1; have ho1 := Lib.hid ho1; dsimp only; rw [if_neg Bool.false_ne_true]))
      go_ret
      exact Fd.same hW.out ⟨F, ⟨p, q, vp, vq, hi1.out⟩, fun g hg => .inl hg, fun g hg => hg, ho1.out.mono (fun k _ hk => hk ▸ HI.out.fB)⟩
    · rw [eS] at hW
      replace hW := Lib.hid hW
      replace eS := Lib.hid eS
      clear hd
      go_enter Try.func16, Try.ntmps16
      go_wp2_with (first | (go_at_call 26; refine (c_spend _ B p q vp vq d HI.out HD.out).mono ?_; rintro e w1 ⟨rfl, hi1, ho1⟩; rw [eS.out] at hi1; rw [eS.out]; have hi1 := Lib.hid hi1; have ho1 := Lib.hid ho1; have c2 : w1.cell? ⟨B, 2, none⟩ = some (.map (some q)) := hi1.out.cell 2; dsimp only; rw [if_pos rfl]) | (at_range; refine wpList_range_own _ rfl _ 57 rfl 3 22 A.keyed A.underM heldE q vq.length (.map (ents vq)) rfl hi1.out.mq.2 ?_; intro w2 hrg2 hg2 hs2; have hrg2 := Lib.hid hrg2; have hg2 := Lib.hid hg2; have hs2 := Lib.hid hs2))
      have H0 := Lib.hid (FlR.start hi1.out.mp hg2.out hrg2.out (rng_of hi1.out.rp hi1.out.ok.onR hi1.out.ok.n1))
      have hvq := Lib.hid (rng_of hi1.out.rq hi1.out.ok.buR hi1.out.ok.n1)
      have hpR : Hid (p ≠ w1.heap.size) := Lib.hid (by have := hi1.out.mp.lt; omega)
      clear hrg2 hg2 hs2 c2
      go_loopw [4, 5] (fun _ _ wr => ∃ left cnt vp', Hid (FlR w1 wr w1.heap.size p q vp vq left cnt vp')) (fun _ _ wr => wr.rangeLeft q w1.heap.size)
      case atStart => exact ⟨_, _, _, H0⟩
      case round =>
        clear H0
        obtain ⟨left, cnt, vp', HR⟩ := hrel
        have bo : wr.cell? ⟨B, 1, none⟩ = some (.map (some p)) := off_cell HR.out.off (hi1.out.cell 1) (fun e => hi1.out.neP e.symm)
        go_wp2_with (first | (at_next; refine wpList_next_sec rfl _ rfl q w1.heap.size _ vq left cnt rfl HR.out.rg ?_ ?_))
        · intro hc0 hl0
          replace hl0 := Lib.hid hl0
          clear bo
          have bo2 : wr.cell? ⟨B, 2, none⟩ = some (.map (some q)) := off_cell HR.out.off (hi1.out.cell 2) (fun e => hi1.out.neP e.symm)
          have mqr := Lib.hid (mapV.eq hi1.out.mq (HR.out.off.block q hi1.out.mq.lt (fun e => hi1.out.ne e.symm)))
          go_wp2_with (first | (refine wpList_clear rfl (.tmp 33) rfl q vq rfl mqr.out ?_; intro w5 hm5 ho5 hs5; replace hm5 := Lib.hid hm5; replace ho5 := Lib.hid ho5; clear hs5))
          go_ret
          exact Fd.same hW.out (hi1.out.flushed (ho1.out.mono (fun k _ hk => hk ▸ HI.out.fB)) HR.out hl0.out hm5.out ho5.out)
        · intro x c w3 cnt3 hx64 hlx hgx hrg3 hlt hg3 hs3 hen
          replace hlx := Lib.hid hlx
          replace hgx := Lib.hid hgx
          replace hrg3 := Lib.hid hrg3
          replace hg3 := Lib.hid hg3
          replace hs3 := Lib.hid hs3
          have b3 : w3.cell? ⟨B, 1, none⟩ = some (.map (some p)) := off_cell ((Off.refl (· = w1.heap.size) wr).grown hg3.out (fun k hk => .inl (Option.some.inj hk).symm)) bo (by have := hi1.out.lt B hi1.out.fB; show ¬ B = w1.heap.size; omega)
          have mp3 := Lib.hid (mapV.eq HR.out.mp (hg3.out.block p HR.out.mp.lt (by simpa using hpR.out)))
          have hln := Lib.hid HR.out.len
          clear bo
          go_wp2_with (first | (at_mapUpdate; refine wpList_mapUpdate rfl (.tmp 27) (.tmp 28) (.tmp 29) rfl p vp' rfl mp3.out hln.out x hx64 c rfl rfl ?_; intro w4 hm4 hg4; replace hm4 := Lib.hid hm4; replace hg4 := Lib.hid hg4; go_frame))
          have HN := Lib.hid (HR.out.step (Nat.le_refl _) hi1.out.ne hgx.out hlx.out (hvq.out (x, c) (getm_mem hgx.out)) hrg3.out hg3.out hm4.out hg4.out hpR.out)
          clear hen b3 mp3
          go_roundw
          case rel => exact ⟨_, cnt3, _, HN⟩
          case measure => rw [HN.out.rg.left_eq, HR.out.rg.left_eq]; omega
end Go.Proofs.Ytnlemjjigiphcaa
