/- Contracts of package wal: Commit's closure. -/
import Derived.Test.YtpdjenkacefpjaaWl
import Derived.Test.YtpdjenkacefpjaaWk
namespace Go.Proofs.Ytpdjenkacefpjaa
open Go.RowKit Go.ChangeShapes
set_option linter.unusedVariables false
set_option maxRecDepth 100000

theorem DiskAt.more {F F' : Nat → Prop} {w : World} {B : Nat} {d : Dk} (h : DiskAt F w B d) (hs : ∀ g, F g → F' g) (hl : ∀ g, F' g → g < w.heap.size) : DiskAt F' w B d := by
  obtain ⟨p, q, vp, vq, h⟩ := h
  have hm : ∀ v b, secAt F w v b → secAt F' w v b := fun v b ⟨g, c, e, hg, k⟩ => ⟨g, c, e, hs g hg, k⟩
  exact ⟨p, q, vp, vq, h.blk, hs _ h.fB, hs _ h.fp, hs _ h.fq, h.ne, h.mp, h.mq, h.rp.map hm, h.rq.map hm, h.ok, h.ops, h.left, hl⟩
/-- no ints lie in a disk's blocks -/
theorem DiskAt.ints {F : Nat → Prop} {w : World} {B : Nat} {d : Dk} (h : DiskAt F w B d) : DiskAt (fun g => F g ∧ ∀ cs, w.heap[g]? ≠ some (.cells cs 3 (0, 0))) w B d := by
  obtain ⟨p, q, vp, vq, h⟩ := h
  have hm : ∀ v b, secAt F w v b → secAt (fun g => F g ∧ ∀ cs, w.heap[g]? ≠ some (.cells cs 3 (0, 0))) w v b := fun v b ⟨g, c, e, hg, hl, k⟩ => ⟨g, c, e, ⟨hg, fun cs hc => by
    subst e
    rcases k.2 with ⟨e, _⟩ | ⟨g', cap, cur, e, _, hx, _⟩
    · cases e
    · cases e
      rw [hc] at hx
      cases hx⟩, hl, k⟩
  refine ⟨p, q, vp, vq, h.blk, ⟨h.fB, fun cs hc => ?_⟩, ⟨h.fp, fun cs hc => ?_⟩, ⟨h.fq, fun cs hc => ?_⟩, h.ne, h.mp, h.mq, h.rp.map hm, h.rq.map hm, h.ok, h.ops, h.left, fun g hg => h.lt g hg.1⟩
  · rw [h.blk] at hc
    cases hc
  · obtain ⟨_, es, c, hb, _⟩ := h.mp
    rw [hc] at hb
    cases hb
  · obtain ⟨_, es, c, hb, _⟩ := h.mq
    rw [hc] at hb
    cases hb
/-- what a commit leaves -/
def CmP (q : Nat) (ps : List (Int × Sec)) (d : Dk) (d' : Dk) (r : Option Int) : Prop := (commitW q ps d = (d', true) ∧ r = some (q : Int)) ∨ (commitW q ps d = (d', false) ∧ r = none)
theorem InL.two {F F1 : Nat → Prop} {ph L : Nat} {w wr : World} (h : InL ph F F1 w wr) : InL L (fun g => F g ∨ g = ph) (fun g => F1 g ∨ g = ph) w wr :=
  ⟨fun g hg => by
    rcases hg with hg | hg
    · exact (h.out g hg).imp .inl id
    · exact .inl (.inr hg), fun g hg => hg.imp (h.up g) id, h.off.mono fun _ _ hx => .inl hx⟩
theorem cm_disk {F F1 : Nat → Prop} {ph B : Nat} {d : Dk} {w wr : World} (hd : DiskAt F1 wr B d) (h : InL ph F F1 w wr) (hp : ph < w.heap.size) : DiskAt (fun g => F1 g ∨ g = ph) wr B d :=
  hd.more (fun g hg => .inl hg) (fun g hg => by
    rcases hg with hg | hg
    · exact hd.lt g hg
    · subst hg; exact Nat.lt_of_lt_of_le hp h.off.size)
def CmR (F : Nat → Prop) (ph L B q : Nat) (dd : Bool) (ps : List (Int × Sec)) (d : Dk) (w : World) (e : Ending) (w' : World) : Prop := ClR (CmP q ps d) (fun g => F g ∨ g = ph) L B dd w e w' ∧ (e = .returned (.tuple #[]) → w'.cell? ⟨ph, 0, none⟩ = some (.int .i64 ((q + 1 : Nat) : Int)))
theorem cm_no {F F1 : Nat → Prop} {ph L B q : Nat} {dd : Bool} {ps : List (Int × Sec)} {d d' : Dk} {w wr : World} (h : commitW q ps d = (d', false)) (hd : DiskAt F1 wr B d') (hi : InL ph F F1 w wr) (hp : ph < w.heap.size) (hl : LgAt wr L B q dd) : CmR F ph L B q dd ps d w (.panicked died) wr :=
  ⟨⟨d', none, _, q, .inr ⟨h, rfl⟩, cm_disk hd hi hp, hi.two, hl, fun n e => (by cases e), fun _ => rfl⟩, fun e => (by cases e)⟩
theorem cm_ok {F F1 : Nat → Prop} {ph L B q : Nat} {dd : Bool} {ps : List (Int × Sec)} {d d' : Dk} {w wr : World} (h : commitW q ps d = (d', true)) (hd : DiskAt F1 wr B d') (hi : InL ph F F1 w wr) (hp : ph < w.heap.size) (hl : LgAt wr L B q dd) (hc : wr.cell? ⟨ph, 0, none⟩ = some (.int .i64 ((q + 1 : Nat) : Int))) : CmR F ph L B q dd ps d w (.returned (.tuple #[])) wr :=
  ⟨⟨d', some (q : Int), _, q, .inl ⟨h, rfl⟩, cm_disk hd hi hp, hi.two, hl, fun n e => ⟨rfl, by cases e; rfl⟩, fun e => (by cases e)⟩, fun _ => hc⟩
theorem it_nil (w : World) : ItAt w (.slice none 0 0) [] := ⟨none, 0, rfl, fun j x hj => by simp at hj⟩
/-- a commit under way: the list of its head so far is l -/
structure Cs (F : Nat → Prop) (w : World) (ph B q : Nat) (d : Dk) (l : List Int) (F1 : Nat → Prop) (dk : Dk) (vl : Value) (wr : World) : Prop where
  disk : DiskAt F1 wr B dk
  ints : ∀ g, F1 g → ∀ cs, wr.heap[g]? ≠ some (.cells cs 3 (0, 0))
  out : ∀ g, F1 g → F g ∨ w.heap.size ≤ g
  off : Off (fun g => F g ∨ g = ph) w wr
  hd : wr.heap[ph]? = some (.cells #[.int .i64 ((q + 1 : Nat) : Int), vl] 67 (0, 0))
  row : wr.ownsRow w.heap.size 3 1 vl l.length (l.map (Value.int .i64))
  al : dk.dead = false
  n : dk.n = d.n
theorem Cs.turn {F F1 : Nat → Prop} {w wr w' : World} {ph B q : Nat} {d dk d' : Dk} {l : List Int} {vl : Value} (h : Cs F w ph B q d l F1 dk vl wr) (hp : ph < w.heap.size) (hF : ¬ F ph) (ht : Turn F1 B d' wr w') (ha : d'.dead = false ∧ d'.n = d.n) : ∃ F2, Cs F w ph B q d l F2 d' vl w' := by
  obtain ⟨F2, D2, I2⟩ := turn_inn ht
  have hph : ¬ F1 ph := fun hx => by
    rcases h.out _ hx with e | e
    · exact hF e
    · omega
  refine ⟨_, D2.ints, fun g hg => hg.2, fun g hg => ?_, h.off.trans2 I2.off (fun i hi hx => ?_), I2.off.keeps h.hd hph, Off.row I2.off h.row h.ints, ha.1, ha.2⟩
  · rcases I2.out g hg.1 with e | e
    · exact h.out g e
    · exact .inr (Nat.le_trans h.off.size e)
  · rcases h.out i hx with e | e
    · exact .inl e
    · omega
theorem Cs.dead {F F1 : Nat → Prop} {w wr w' : World} {ph B q : Nat} {d dk d' : Dk} {l : List Int} {vl : Value} (h : Cs F w ph B q d l F1 dk vl wr) (hl : ∀ g, F g → g < w.heap.size) (ht : Turn F1 B d' wr w') : ∃ F2, DiskAt F2 w' B d' ∧ InL ph F F2 w w' := by
  obtain ⟨F2, D2, I2⟩ := turn_inn ht
  have hs := Nat.le_trans h.off.size I2.off.size
  refine ⟨fun g => F2 g ∨ F g, D2.more (fun g hg => .inl hg) (fun g hg => ?_), fun g hg => ?_, fun g hg => .inr hg, h.off.trans2 I2.off (fun i hi hx => ?_)⟩
  · rcases hg with hg | hg
    · exact D2.lt g hg
    · exact Nat.lt_of_lt_of_le (hl g hg) hs
  · rcases hg with hg | hg
    · rcases I2.out g hg with e | e
      · exact h.out g e
      · exact .inr (Nat.le_trans h.off.size e)
    · exact .inl hg
  · rcases h.out i hx with e | e
    · exact .inl e
    · omega
theorem Cs.below {F F1 : Nat → Prop} {w wr w' : World} {ph B q : Nat} {d dk : Dk} {l : List Int} {vl : Value} (h : Cs F w ph B q d l F1 dk vl wr) (hb : Below wr.heap.size wr w') : Cs F w ph B q d l F1 dk vl w' := by
  have ho : Off (fun _ => False) wr w' := .of_below hb
  refine ⟨h.disk.below hb, fun g hg cs hc => ?_, h.out, h.off.trans2 ho (fun i hi hx => hx.elim), ho.keeps h.hd (fun h => h), Off.row ho h.row (fun _ h => h.elim), h.al, h.n⟩
  rw [ho.block g (h.disk.lt g hg) (fun h => h)] at hc
  exact h.ints g hg cs hc
theorem Cs.cells {F F1 : Nat → Prop} {w wr : World} {ph B q : Nat} {d dk : Dk} {l : List Int} {vl : Value} (h : Cs F w ph B q d l F1 dk vl wr) : wr.cell? ⟨ph, 0, none⟩ = some (.int .i64 ((q + 1 : Nat) : Int)) ∧ wr.cell? ⟨ph, 1, none⟩ = some vl ∧ ∀ j, wr.frozen? ⟨ph, j, none⟩ = false := by
  have := h.hd
  refine ⟨?_, ?_, fun j => ?_⟩ <;> simp [World.cell?, World.frozen?, this]
theorem Cs.start {F : Nat → Prop} {w : World} {ph B q : Nat} {d : Dk} (h : DiskAt F w B d) (hp : w.heap[ph]? = some (.cells #[.int .i64 ((q + 1 : Nat) : Int), .slice none 0 0] 67 (0, 0))) (ha : d.dead = false) : ∃ F1, Cs F w ph B q d [] F1 d (.slice none 0 0) w :=
  ⟨_, h.ints, fun g hg => hg.2, fun g hg => .inl hg.1, Off.refl _ _, hp, World.ownsRow_nil _ _ _ _, ha, rfl⟩
theorem own_ints {w : World} {A n : Nat} {v : Value} {xs : List Value} (h : w.ownsRow A 3 1 v n xs) {k : Nat} (hk : v.ownBlock = some k) : A ≤ k ∧ ∃ cs, w.heap[k]? = some (.cells cs 3 (0, 0)) := by
  rcases h.2 with ⟨e, _⟩ | ⟨g, cap, cur, e, hb, hx, _⟩
  · subst e; cases hk
  · subst e; cases hk; exact ⟨hb, _, hx⟩
theorem Cs.app {F F1 : Nat → Prop} {w wr X : World} {ph B q : Nat} {d dk : Dk} {l : List Int} {y : Int} {vl vl' : Value} (h : Cs F w ph B q d l F1 dk vl wr) (hp : ph < w.heap.size) (hF : ¬ F ph) (ho : Off (fun k => vl.ownBlock = some k) wr X) (hr : X.ownsRow w.heap.size 3 1 vl' (l.length + 1) ((l ++ [y]).map (Value.int .i64))) : Cs F w ph B q d (l ++ [y]) F1 dk vl' (X.setCell ⟨ph, 1, none⟩ vl') ∧ X.cell? ⟨ph, 1, none⟩ = some vl ∧ X.frozen? ⟨ph, 1, none⟩ = false := by
  have o2 := off1 X ph 1 vl'
  have hph : ¬ F1 ph := fun hx => by
    rcases h.out _ hx with e | e
    · exact hF e
    · omega
  have hne : ∀ g, F1 g → ¬ vl.ownBlock = some g := fun g hg hx => by
    obtain ⟨_, cs, hc⟩ := own_ints h.row hx
    exact h.ints g hg cs hc
  have hnp : ¬ vl.ownBlock = some ph := fun hx => by
    have := (own_ints h.row hx).1
    omega
  have hX := ho.keeps h.hd hnp
  have hl1 : (l ++ [y]).length = l.length + 1 := by simp
  refine ⟨⟨(h.disk.off ho hne).off o2 (fun g hg e => hph (by subst e; exact hg)), fun g hg cs hc => ?_, h.out, h.off.trans2 ((ho.mono (ex' := fun k => vl.ownBlock = some k ∨ k = ph) (fun _ _ hx => .inl hx)).trans2 o2 (fun _ _ hx => .inr hx)) (fun i hi hx => ?_), ?_, ?_, h.al, h.n⟩, ?_, ?_⟩
  · have hlt := h.disk.lt g hg
    rw [o2.block g (Nat.lt_of_lt_of_le hlt ho.size) (fun e => hph (by subst e; exact hg)), ho.block g hlt (hne g hg)] at hc
    exact h.ints g hg cs hc
  · rcases hx with hx | hx
    · have := (own_ints h.row hx).1
      omega
    · exact .inr hx
  · simp [World.setCell, Array.getElem?_modify, hX]
  · rw [hl1]
    exact Off.row o2 hr (fun k hk cs hc => by subst hk; rw [hX] at hc; cases hc)
  · simp [World.cell?, hX]
  · simp [World.frozen?, hX]
/-- one number appended to a row of the call's own -/
theorem wpList_append_int {w : World} {ops : Array Oper} {rest : List Oper} {o : Oper} {a : Act} {Q : Exit → Act → World → Prop} (hgd : o.guard = none) (s x : Operand) (ho : o.op = .call { callee := .builtin .append, args := #[s, x], argTypes := #[35, 35] })
    (base : Nat) (v0 : Value) (xs : List Int) (hs : a.eval s = v0) (hown : w.ownsRow base 3 1 v0 xs.length (xs.map (Value.int .i64))) (g : Nat) (y : Int) (hx : a.eval x = .slice (some ⟨g, 0, none⟩) 1 1) (hc : w.cell? ⟨g, 0, none⟩ = some (.int .i64 y)) (hb : xs.length ≤ 1000) (hbase : base ≤ w.heap.size)
    (h : ∀ ga gc w', w'.ownsRow base 3 1 (.slice (some ⟨ga, 0, none⟩) (xs.length + 1) gc) (xs.length + 1) ((xs ++ [y]).map (Value.int .i64)) → Off (fun k => v0.ownBlock = some k) w w' → wpList Try.prog ops Q rest (a.put o.dst (.slice (some ⟨ga, 0, none⟩) (xs.length + 1) gc)) w') : wpList Try.prog ops Q (o :: rest) a w := by
  obtain ⟨i0, hin0, hz0, hz1, hz2⟩ := info_parts A.infoI
  refine wpList_append_own _ hgd s x 35 ho base 3 i0 (.int .i64 0) 1 8 A.uLI hin0 hz0 hz1 hz2 rfl (by decide) v0 xs.length (xs.map (Value.int .i64)) hs hown ⟨g, 0, none⟩ 1 1 [.int .i64 y] hx rfl (fun j u hj => ?_) (by simp [Value.oneCell']) (by unfold maxLen; omega) (by omega) hbase (fun v' w' r1 r2 _ => ?_)
  · match j, hj with
    | 0, hj => cases hj; exact hc
    | z + 1, hj => simp at hj
  · obtain ⟨ga, gc, hv'⟩ := row_some r1 (by omega)
    subst hv'
    refine h ga gc w' ?_ ((Off.refl _ _).grown r2 (fun k hk => .inl hk))
    rw [List.map_append]
    exact r1
theorem andW_assoc (f g k : WM) (d : Dk) : andW (andW f g) k d = andW f (andW g k) d := by
  unfold andW
  cases h : f d with
  | mk d' b => cases b <;> rfl
theorem bytesW_cons (p : Int × Sec) (r : List (Int × Sec)) (i : Nat) : bytesW (p :: r) i = andW (wrW (2 + i) p.2) (bytesW r (i + 1)) := rfl
theorem drop_put {l : List (Int × Sec)} {k : Nat} {x : Int × Sec} (h : l[k]? = some x) : l.drop k = x :: l.drop (k + 1) := by
  obtain ⟨hk, e⟩ := List.getElem?_eq_some_iff.1 h
  rw [List.drop_eq_getElem_cons hk, e]
theorem take_put {l : List (Int × Sec)} {k : Nat} {x : Int × Sec} (h : l[k]? = some x) : (l.take (k + 1)).map (·.1) = (l.take k).map (·.1) ++ [x.1] := by
  rw [List.take_add_one, h]
  simp
theorem Pl.turned {F : Nat → Prop} {B : Nat} {d : Dk} {l : List Int} {w w' : World} {e : Ending} (h : Pl F B d l w e w') : ∃ d', Turn F B d' w w' ∧ ((placeW l 0 d = (d', true) ∧ e = .returned (.tuple #[])) ∨ (placeW l 0 d = (d', false) ∧ e = .panicked died)) := by
  obtain ⟨d7, ok, hp1, hp2, hp3, ht⟩ := h
  refine ⟨d7, ht, ?_⟩
  cases ok with
  | true => exact .inl ⟨hp1, (hp2 rfl).1⟩
  | false => exact .inr ⟨hp1, hp3 rfl⟩
set_option maxHeartbeats 4000000 in
theorem c_commit1 {F : Nat → Prop} (w : World) (pa pb ph L B q : Nat) (dd : Bool) (d : Dk) (ad : Option Addr) (vc : Nat) (ps : List (Int × Sec)) (hpa : w.heap[pa]? = some (.cells #[.pointer (some ⟨L, 0, none⟩)] 29 (0, 0))) (hpb : w.heap[pb]? = some (.cells #[.slice ad ps.length vc] 39 (0, 0))) (hph : w.heap[ph]? = some (.cells #[.int .i64 ((q + 1 : Nat) : Int), .slice none 0 0] 67 (0, 0))) (hl : LgAt w L B q dd) (h : DiskAt F w B d) (hv : PutAt w (fun g => F g ∨ g = ph) (.slice ad ps.length vc) ps) (hgp : GoodP d.n ps) (ha : d.dead = false) (hn : 42 ≤ d.n) (hq : q + 1 < 250) (hX : ¬ (F pa ∨ pa = ph) ∧ ¬ (F pb ∨ pb = ph) ∧ ¬ (F L ∨ L = ph)) (hphF : ¬ F ph) : Calls Try.prog 31 #[.pointer (some ⟨pa, 0, none⟩), .pointer (some ⟨pb, 0, none⟩), .pointer (some ⟨ph, 0, none⟩)] w (CmR F ph L B q dd ps d w) := by
  have cpa : Hid (w.cell? ⟨pa, 0, none⟩ = some (.pointer (some ⟨L, 0, none⟩))) := Lib.hid (by simp [World.cell?, hpa])
  have cpb : Hid (w.cell? ⟨pb, 0, none⟩ = some (.slice ad ps.length vc)) := Lib.hid (by simp [World.cell?, hpb])
  have HPL : Hid (ph < w.heap.size) := Lib.hid (Array.getElem?_eq_some_iff.1 hph).1
  have HL := Lib.hid hl
  obtain ⟨F0s, C0⟩ := Cs.start h hph ha
  replace C0 := Lib.hid C0
  have HFl := Lib.hid h.lt
  have HV := Lib.hid hv
  have HGP := Lib.hid hgp
  have HN := Lib.hid hn
  have HQ := Lib.hid hq
  have CX := Lib.hid hX
  have PF := Lib.hid hphF
  have HLn : Hid (ps.length ≤ 40) := Lib.hid (by have := hgp.1.1; simpa using this)
  have P0 : Hid (commitW q ps d = andW (wrW 1 (headB q [])) (andW flW (andW (bytesW ps 0) (andW (wrW 0 (headB (q + 1) (ps.map (·.1)))) (andW flW (placeW (ps.map (·.1)) 0))))) d) := Lib.hid rfl
  clear h hl hpa hpb hph hv hgp ha hn hq hX hphF
  go_enter Try.func31, Try.ntmps31
  have HG : Hid (LgAt w L B q dd) := Lib.hid (HL.out.off C0.out.off CX.out.2.2)
  have c1 : w.cell? ⟨pa, 0, none⟩ = some (.pointer (some ⟨L, 0, none⟩)) := off_cell C0.out.off cpa.out CX.out.1
  have c2 := HG.out.cell.1
  have c3 := HG.out.cell.2.1
  have hb0 : Hid ((headB q []).length = 128) := Lib.hid (headB_len q [] (by simp))
  rcases wr_cases (s := 1) (b := headB q []) C0.out.disk.okd C0.out.al (by decide) (by have := HN.out; omega) hb0.out with ⟨dk1s, hE, hd1, hd2⟩ | ⟨dk1s, hE⟩
  rotate_left
  · have hR : Hid (commitW q ps d = (dk1s, false)) := Lib.hid (by rw [P0.out, andW_no (wr_no hE)])
    replace hE := Lib.hid hE
    go_wp2_with fail
    refine wp_region_held_drew (S := fun w' => w'.cell? ⟨pa, 0, none⟩ = some (.pointer (some ⟨L, 0, none⟩)) ∧ w'.cell? ⟨L, 0, none⟩ = some (.pointer (some ⟨B, 0, none⟩)) ∧ w'.cell? ⟨L, 1, none⟩ = some (.int .i64 (q : Int))) (by kernel_rfl) ?_ (fun hHeld => ?_)
    · exact ⟨c1, c2, c3⟩
    refine wpAnyH_take (i := 0) (oi := ⟨_, _, _, _, _, _⟩) (v := ?_) rfl (by kernel_rfl) (by kernel_rfl) (by kernel_rfl) (fun _ _ _ h => h) (Or.inl ⟨by rfl, ?_⟩) (by assumption) ?_
    rotate_left
    · intro w hSw; (try dsimp only at hSw); go_split_ands; go_simp; (try with_reducible rfl)
    try simp only [Act.put, List.setIfInBounds_toArray, List.set_cons_zero, List.set_cons_succ]
    refine wpAnyH_take (i := 1) (oi := ⟨_, _, _, _, _, _⟩) (v := ?_) rfl (by kernel_rfl) (by kernel_rfl) (by kernel_rfl) (fun _ _ _ h => h) (Or.inl ⟨by rfl, ?_⟩) (by assumption) ?_
    rotate_left
    · intro w hSw; (try dsimp only at hSw); go_split_ands; go_simp; (try with_reducible rfl)
    try simp only [Act.put, List.setIfInBounds_toArray, List.set_cons_zero, List.set_cons_succ]
    refine wpAnyH_take (i := 2) (oi := ⟨_, _, _, _, _, _⟩) (v := ?_) rfl (by kernel_rfl) (by kernel_rfl) (by kernel_rfl) (fun _ _ _ h => h) (Or.inl ⟨by rfl, ?_⟩) (by assumption) ?_
    rotate_left
    · intro w hSw; (try dsimp only at hSw); go_split_ands; go_simp; (try with_reducible rfl)
    try simp only [Act.put, List.setIfInBounds_toArray, List.set_cons_zero, List.set_cons_succ]
    refine wpAnyH_take (i := 3) (oi := ⟨_, _, _, _, _, _⟩) (v := ?_) rfl (by kernel_rfl) (by kernel_rfl) (by kernel_rfl) (fun _ _ _ h => h) (Or.inl ⟨by rfl, ?_⟩) (by assumption) ?_
    rotate_left
    · intro w hSw; (try dsimp only at hSw); go_split_ands; go_simp; (try with_reducible rfl)
    try simp only [Act.put, List.setIfInBounds_toArray, List.set_cons_zero, List.set_cons_succ]
    refine wpAnyH_take (i := 4) (oi := ⟨_, _, _, _, _, _⟩) (v := ?_) rfl (by kernel_rfl) (by kernel_rfl) (by kernel_rfl) (fun _ _ _ h => h) (Or.inl ⟨by rfl, ?_⟩) (by assumption) ?_
    rotate_left
    · intro w hSw; (try dsimp only at hSw); go_split_ands; go_simp; (try with_reducible rfl)
    try simp only [Act.put, List.setIfInBounds_toArray, List.set_cons_zero, List.set_cons_succ]
    refine wpAnyH_take (i := 5) (oi := ⟨_, _, _, _, _, _⟩) (v := ?_) rfl (by kernel_rfl) (by kernel_rfl) (by kernel_rfl) (fun _ _ _ h => h) (Or.inl ⟨by rfl, ?_⟩) (by assumption) ?_
    rotate_left
    · intro w hSw; (try dsimp only at hSw); go_split_ands; go_simp; (try with_reducible rfl)
    try simp only [Act.put, List.setIfInBounds_toArray, List.set_cons_zero, List.set_cons_succ]
    refine wpAnyH_take (i := 6) (oi := ⟨_, _, _, _, _, _⟩) (v := ?_) rfl (by kernel_rfl) (by kernel_rfl) (by kernel_rfl) (fun _ _ _ h => h) (Or.inl ⟨by rfl, ?_⟩) (by assumption) ?_
    rotate_left
    · intro w hSw; (try dsimp only at hSw); go_split_ands; go_simp; (try with_reducible rfl)
    try simp only [Act.put, List.setIfInBounds_toArray, List.set_cons_zero, List.set_cons_succ]
    refine wpAnyH_take (i := 7) (oi := ⟨_, _, _, _, _, _⟩) (v := ?_) rfl (by kernel_rfl) (by kernel_rfl) (by kernel_rfl) (fun _ _ _ h => h) (Or.inl ⟨by rfl, ?_⟩) (by assumption) ?_
    rotate_left
    · intro w hSw; (try dsimp only at hSw); go_split_ands; go_simp; (try with_reducible rfl)
    try simp only [Act.put, List.setIfInBounds_toArray, List.set_cons_zero, List.set_cons_succ]
    refine wpAnyH_take (i := 8) (oi := ⟨_, _, _, _, _, _⟩) (v := ?_) rfl (by kernel_rfl) (by kernel_rfl) (by kernel_rfl) (fun _ _ _ h => h) (Or.inl ⟨by rfl, ?_⟩) (by assumption) ?_
    rotate_left
    · intro w hSw; (try dsimp only at hSw); go_split_ands; go_simp; (try with_reducible rfl)
    try simp only [Act.put, List.setIfInBounds_toArray, List.set_cons_zero, List.set_cons_succ]
    refine wpAnyH_ready (rs := [9]) (by kernel_rfl) (by simp) (AllReadyH.cons (o := ⟨_, _, _, _, _, _⟩) rfl (fun K hK => ?_) AllReadyH.nil)
    go_simp
    refine (c_hwrite w.drew q (.slice none 0 0) [] (by have := HQ.out; omega) (it_nil _) (by simp) (by simp)).mono ?_
    rintro e w5 ⟨g5, c5, rfl, hx5, hb5⟩
    replace hx5 := Lib.hid hx5
    have B5 : Hid (Below w.heap.size w w5) := Lib.hid (below2 (below_drew (Below.refl _ _)) hb5)
    clear hb5
    have C5 := Lib.hid (C0.out.below B5.out)
    have k1 := off_cell (.of_below (ex := fun _ => False) B5.out) c1 (fun h => h)
    have k2 := off_cell (.of_below (ex := fun _ => False) B5.out) c2 (fun h => h)
    have k3 := off_cell (.of_below (ex := fun _ => False) B5.out) c3 (fun h => h)
    go_wp2_with fail
    refine hK.out _ _ ?_ (fun hHeld => ?_)
    · exact ⟨k1, k2, k3⟩
    clear hK K
    try simp only [Act.put, List.setIfInBounds_toArray, List.set_cons_zero, List.set_cons_succ]
    clear k1 k2 k3 hHeld
    refine wpAnyH_ready (rs := [10]) (by kernel_rfl) (by simp) (AllReadyH.cons (o := ⟨_, _, _, _, _, _⟩) rfl (fun K hK => ?_) AllReadyH.nil)
    go_simp
    refine (c_Write w5 B d 1 _ _ C5.out.disk ⟨by decide, by decide⟩ (row_bt hx5.out hb0.out) (by rw [hb0.out]; decide)).mono ?_
    rintro e w1s hwd
    obtain ⟨rfl, ht⟩ := hwd.to hE.out
    clear hwd
    obtain ⟨F6, D6, I6⟩ := C5.out.dead HFl.out ht
    replace D6 := Lib.hid D6
    replace I6 := Lib.hid I6
    have G6 : Hid (LgAt w1s L B q dd) := Lib.hid (HL.out.off I6.out.off CX.out.2.2)
    have k1 := off_cell I6.out.off cpa.out CX.out.1
    have k2 := G6.out.cell.1
    have k3 := G6.out.cell.2.1
    go_wp2_with fail
    refine hK.out _ _ ?_ (fun hHeld => ?_)
    · exact ⟨k1, k2, k3⟩
    clear hK K
    try simp only [Act.put, List.setIfInBounds_toArray, List.set_cons_zero, List.set_cons_succ]
    refine wpAnyH_ready (rs := [11]) (by kernel_rfl) (by simp) (AllReadyH.cons (o := ⟨_, _, _, _, _, _⟩) rfl (fun K hK => ?_) AllReadyH.nil)
    go_simp
    refine (c_must_no w1s).mono ?_
    rintro e w7 ⟨rfl, rfl⟩
    exact ⟨rfl, cm_no hR.out D6.out I6.out HPL.out G6.out⟩
  have P1 : Hid (commitW q ps d = andW flW (andW (bytesW ps 0) (andW (wrW 0 (headB (q + 1) (ps.map (·.1)))) (andW flW (placeW (ps.map (·.1)) 0)))) dk1s) := Lib.hid (by rw [P0.out, andW_ok (wr_ok hE)])
  have A1 : Hid (dk1s.dead = false ∧ dk1s.n = d.n) := Lib.hid ⟨hd1, hd2⟩
  replace hE := Lib.hid hE
  clear hd1 hd2
  go_wp2_with fail
  refine wp_region_held_drew (S := fun w' => w'.cell? ⟨pa, 0, none⟩ = some (.pointer (some ⟨L, 0, none⟩)) ∧ w'.cell? ⟨L, 0, none⟩ = some (.pointer (some ⟨B, 0, none⟩)) ∧ w'.cell? ⟨L, 1, none⟩ = some (.int .i64 (q : Int))) (by kernel_rfl) ?_ (fun hHeld => ?_)
  · exact ⟨c1, c2, c3⟩
  refine wpAnyH_take (i := 0) (oi := ⟨_, _, _, _, _, _⟩) (v := ?_) rfl (by kernel_rfl) (by kernel_rfl) (by kernel_rfl) (fun _ _ _ h => h) (Or.inl ⟨by rfl, ?_⟩) (by assumption) ?_
  rotate_left
  · intro w hSw; (try dsimp only at hSw); go_split_ands; go_simp; (try with_reducible rfl)
  try simp only [Act.put, List.setIfInBounds_toArray, List.set_cons_zero, List.set_cons_succ]
  refine wpAnyH_take (i := 1) (oi := ⟨_, _, _, _, _, _⟩) (v := ?_) rfl (by kernel_rfl) (by kernel_rfl) (by kernel_rfl) (fun _ _ _ h => h) (Or.inl ⟨by rfl, ?_⟩) (by assumption) ?_
  rotate_left
  · intro w hSw; (try dsimp only at hSw); go_split_ands; go_simp; (try with_reducible rfl)
  try simp only [Act.put, List.setIfInBounds_toArray, List.set_cons_zero, List.set_cons_succ]
  refine wpAnyH_take (i := 2) (oi := ⟨_, _, _, _, _, _⟩) (v := ?_) rfl (by kernel_rfl) (by kernel_rfl) (by kernel_rfl) (fun _ _ _ h => h) (Or.inl ⟨by rfl, ?_⟩) (by assumption) ?_
  rotate_left
  · intro w hSw; (try dsimp only at hSw); go_split_ands; go_simp; (try with_reducible rfl)
  try simp only [Act.put, List.setIfInBounds_toArray, List.set_cons_zero, List.set_cons_succ]
  refine wpAnyH_take (i := 3) (oi := ⟨_, _, _, _, _, _⟩) (v := ?_) rfl (by kernel_rfl) (by kernel_rfl) (by kernel_rfl) (fun _ _ _ h => h) (Or.inl ⟨by rfl, ?_⟩) (by assumption) ?_
  rotate_left
  · intro w hSw; (try dsimp only at hSw); go_split_ands; go_simp; (try with_reducible rfl)
  try simp only [Act.put, List.setIfInBounds_toArray, List.set_cons_zero, List.set_cons_succ]
  refine wpAnyH_take (i := 4) (oi := ⟨_, _, _, _, _, _⟩) (v := ?_) rfl (by kernel_rfl) (by kernel_rfl) (by kernel_rfl) (fun _ _ _ h => h) (Or.inl ⟨by rfl, ?_⟩) (by assumption) ?_
  rotate_left
  · intro w hSw; (try dsimp only at hSw); go_split_ands; go_simp; (try with_reducible rfl)
  try simp only [Act.put, List.setIfInBounds_toArray, List.set_cons_zero, List.set_cons_succ]
  refine wpAnyH_take (i := 5) (oi := ⟨_, _, _, _, _, _⟩) (v := ?_) rfl (by kernel_rfl) (by kernel_rfl) (by kernel_rfl) (fun _ _ _ h => h) (Or.inl ⟨by rfl, ?_⟩) (by assumption) ?_
  rotate_left
  · intro w hSw; (try dsimp only at hSw); go_split_ands; go_simp; (try with_reducible rfl)
  try simp only [Act.put, List.setIfInBounds_toArray, List.set_cons_zero, List.set_cons_succ]
  refine wpAnyH_take (i := 6) (oi := ⟨_, _, _, _, _, _⟩) (v := ?_) rfl (by kernel_rfl) (by kernel_rfl) (by kernel_rfl) (fun _ _ _ h => h) (Or.inl ⟨by rfl, ?_⟩) (by assumption) ?_
  rotate_left
  · intro w hSw; (try dsimp only at hSw); go_split_ands; go_simp; (try with_reducible rfl)
  try simp only [Act.put, List.setIfInBounds_toArray, List.set_cons_zero, List.set_cons_succ]
  refine wpAnyH_take (i := 7) (oi := ⟨_, _, _, _, _, _⟩) (v := ?_) rfl (by kernel_rfl) (by kernel_rfl) (by kernel_rfl) (fun _ _ _ h => h) (Or.inl ⟨by rfl, ?_⟩) (by assumption) ?_
  rotate_left
  · intro w hSw; (try dsimp only at hSw); go_split_ands; go_simp; (try with_reducible rfl)
  try simp only [Act.put, List.setIfInBounds_toArray, List.set_cons_zero, List.set_cons_succ]
  refine wpAnyH_take (i := 8) (oi := ⟨_, _, _, _, _, _⟩) (v := ?_) rfl (by kernel_rfl) (by kernel_rfl) (by kernel_rfl) (fun _ _ _ h => h) (Or.inl ⟨by rfl, ?_⟩) (by assumption) ?_
  rotate_left
  · intro w hSw; (try dsimp only at hSw); go_split_ands; go_simp; (try with_reducible rfl)
  try simp only [Act.put, List.setIfInBounds_toArray, List.set_cons_zero, List.set_cons_succ]
  refine wpAnyH_ready (rs := [9]) (by kernel_rfl) (by simp) (AllReadyH.cons (o := ⟨_, _, _, _, _, _⟩) rfl (fun K hK => ?_) AllReadyH.nil)
  go_simp
  refine (c_hwrite w.drew q (.slice none 0 0) [] (by have := HQ.out; omega) (it_nil _) (by simp) (by simp)).mono ?_
  rintro e w5 ⟨g5, c5, rfl, hx5, hb5⟩
  replace hx5 := Lib.hid hx5
  have B5 : Hid (Below w.heap.size w w5) := Lib.hid (below2 (below_drew (Below.refl _ _)) hb5)
  clear hb5
  have C5 := Lib.hid (C0.out.below B5.out)
  have k1 := off_cell (.of_below (ex := fun _ => False) B5.out) c1 (fun h => h)
  have k2 := off_cell (.of_below (ex := fun _ => False) B5.out) c2 (fun h => h)
  have k3 := off_cell (.of_below (ex := fun _ => False) B5.out) c3 (fun h => h)
  go_wp2_with fail
  refine hK.out _ _ ?_ (fun hHeld => ?_)
  · exact ⟨k1, k2, k3⟩
  clear hK K
  try simp only [Act.put, List.setIfInBounds_toArray, List.set_cons_zero, List.set_cons_succ]
  clear k1 k2 k3 hHeld
  refine wpAnyH_ready (rs := [10]) (by kernel_rfl) (by simp) (AllReadyH.cons (o := ⟨_, _, _, _, _, _⟩) rfl (fun K hK => ?_) AllReadyH.nil)
  go_simp
  refine (c_Write w5 B d 1 _ _ C5.out.disk ⟨by decide, by decide⟩ (row_bt hx5.out hb0.out) (by rw [hb0.out]; decide)).mono ?_
  rintro e w1s hwd
  obtain ⟨rfl, ht⟩ := hwd.to hE.out
  clear hwd
  obtain ⟨F1s, C1⟩ := C5.out.turn HPL.out PF.out ht A1.out
  replace C1 := Lib.hid C1
  have G6 : Hid (LgAt w1s L B q dd) := Lib.hid (HL.out.off C1.out.off CX.out.2.2)
  have k1 := off_cell C1.out.off cpa.out CX.out.1
  have k2 := G6.out.cell.1
  have k3 := G6.out.cell.2.1
  clear ht
  go_wp2_with fail
  refine hK.out _ _ ?_ (fun hHeld => ?_)
  · exact ⟨k1, k2, k3⟩
  clear hK K
  try simp only [Act.put, List.setIfInBounds_toArray, List.set_cons_zero, List.set_cons_succ]
  refine wpAnyH_ready (rs := [11]) (by kernel_rfl) (by simp) (AllReadyH.cons (o := ⟨_, _, _, _, _, _⟩) rfl (fun K hK => ?_) AllReadyH.nil)
  go_simp
  refine (c_must_ok w1s).mono ?_
  rintro e w7 ⟨rfl, rfl⟩
  go_wp2_with fail
  refine hK.out _ _ ?_ (fun hHeld => ?_)
  · exact ⟨k1, k2, k3⟩
  clear hK K
  try simp only [Act.put, List.setIfInBounds_toArray, List.set_cons_zero, List.set_cons_succ]
  refine wpAnyH_done (by kernel_rfl) ?_ _
  clear C0 P0 A1 HG c1 c2 c3 hE k1 k2 k3 G6 B5 C5 hHeld hx5
  have HG : Hid (LgAt w1s L B q dd) := Lib.hid (HL.out.off C1.out.off CX.out.2.2)
  have c1 : w1s.cell? ⟨pa, 0, none⟩ = some (.pointer (some ⟨L, 0, none⟩)) := off_cell C1.out.off cpa.out CX.out.1
  have c2 := HG.out.cell.1
  rcases fl_cases C1.out.disk.okd C1.out.al with ⟨dk2s, hE, hd1, hd2⟩ | ⟨dk2s, hE⟩
  rotate_left
  · have hR : Hid (commitW q ps d = (dk2s, false)) := Lib.hid (by rw [P1.out, andW_no (fl_no hE)])
    replace hE := Lib.hid hE
    go_wp2_with (first
      | (go_at_call 35; refine (c_Flush w1s B dk1s C1.out.disk).mono ?_; rintro e w2 hfd; obtain ⟨rfl, ht⟩ := hfd.to hE.out; replace ht := Lib.hid (C1.out.dead HFl.out ht); clear hfd)
      | (go_at_call 32; refine (c_must_no w2).mono ?_; rintro e w3 ⟨rfl, rfl⟩))
    obtain ⟨F2, D2, I2⟩ := ht.out
    exact ⟨rfl, cm_no hR.out D2 I2 HPL.out (HL.out.off I2.off CX.out.2.2)⟩
  have P2 : Hid (commitW q ps d = (andW (bytesW ps 0) (andW (wrW 0 (headB (q + 1) (ps.map (·.1)))) (andW flW (placeW (ps.map (·.1)) 0)))) dk2s) := Lib.hid (by rw [P1.out, andW_ok (fl_ok hE)])
  have A2 : Hid (dk2s.dead = false ∧ dk2s.n = d.n) := Lib.hid ⟨hd1, hd2.trans C1.out.n⟩
  replace hE := Lib.hid hE
  clear hd1 hd2
  go_upto_region 2 with (first
    | (go_at_call 35; refine (c_Flush w1s B dk1s C1.out.disk).mono ?_; rintro e w2s hfd; obtain ⟨rfl, ht⟩ := hfd.to hE.out; obtain ⟨F2s, C2⟩ := C1.out.turn HPL.out PF.out ht A2.out; replace C2 := Lib.hid C2; clear hfd ht)
    | (go_at_call 32; refine (c_must_ok w2s).mono ?_; rintro e w3 ⟨rfl, rfl⟩))
  clear C1 P1 A2 HG c1 c2 hE
  have c4 : w2s.cell? ⟨pb, 0, none⟩ = some (.slice ad ps.length vc) := off_cell C2.out.off cpb.out CX.out.2.1
  go_upto_region 3 with fail
  have R0 : Hid (∃ F1 dk vl, Cs F w ph B q d ((ps.take 0).map (·.1)) F1 dk vl w2s ∧ commitW q ps d = andW (bytesW (ps.drop 0) 0) (andW (wrW 0 (headB (q + 1) (ps.map (·.1)))) (andW flW (placeW (ps.map (·.1)) 0))) dk) := Lib.hid ⟨_, _, _, C2.out, P2.out⟩
  clear C2 P2 c4
  go_loopw [25] (fun kv wr => ∃ k : Nat, kv = .int .i64 k ∧ k ≤ ps.length ∧ Hid (∃ F1 dk vl, Cs F w ph B q d ((ps.take k).map (·.1)) F1 dk vl wr ∧ commitW q ps d = andW (bytesW (ps.drop k) k) (andW (wrW 0 (headB (q + 1) (ps.map (·.1)))) (andW flW (placeW (ps.map (·.1)) 0))) dk)) (fun kv _ => ps.length - (intOf kv).toNat)
  case atStart => exact ⟨0, rfl, by omega, R0⟩
  case round =>
    clear R0
    obtain ⟨k, rfl, hk, HR⟩ := hrel
    obtain ⟨F1, dk, vl, C, P⟩ := HR.out
    replace C := Lib.hid C
    replace P := Lib.hid P
    clear HR
    have hk9 := HLn.out
    by_cases hlt : k < ps.length
    · have hlt' : (k : Int) < (ps.length : Int) := by omega
      obtain ⟨p, hp⟩ : ∃ p, ps[k]? = some p := ⟨_, List.getElem?_eq_getElem hlt⟩
      obtain ⟨ad', vc', e, _, _, _, hV⟩ := id HV.out
      cases e
      obtain ⟨g2, o2, vd, rfl, hi0⟩ := hV k p hp
      clear hV
      obtain ⟨vda, vdc, hvd, _⟩ := id hi0.bt
      subst hvd
      have hi := hi0.off C.out.off (fun g hg => .inl hg)
      have cn := hi.n
      have cd := hi.d
      have HI := Lib.hid hi0
      have hds := Lib.hid (drop_put hp)
      have hts := Lib.hid (take_put hp)
      have hpl : Hid (p.2.length = 128) := Lib.hid (HGP.out.2 p (List.mem_of_getElem? hp))
      have hlk : Hid (((ps.take k).map (·.1)).length = k) := Lib.hid (by rw [List.length_map, List.length_take]; omega)
      clear hi hi0 hp
      go_upto_region 5 with fail
      have CA := Lib.hid (C.out.below (below_al0 wr (.cells #[.int .i64 p.1, .slice vda p.2.length vdc] 47)))
      have hxc : Hid ((wr.alloc (.cells #[.int .i64 p.1, .slice vda p.2.length vdc] 47)).heap[wr.heap.size]? = some (.cells #[.int .i64 p.1, .slice vda p.2.length vdc] 47 (0, 0))) := Lib.hid (heap_alloc_new wr _)
      have BA := Lib.hid (below_al0 wr (.cells #[.int .i64 p.1, .slice vda p.2.length vdc] 47))
      have hnw : Hid (w.heap.size ≤ wr.heap.size) := Lib.hid C.out.off.size
      have hnF : Hid (∀ g, F1 g → g < wr.heap.size) := Lib.hid (fun g hg => C.out.disk.lt g hg)
      generalize (wr.alloc (.cells #[.int .i64 p.1, .slice vda p.2.length vdc] 47)) = W1 at *
      generalize wr.heap.size = n1 at *
      have cf0 := CA.out.cells.2.1
      have cx0 : W1.cell? ⟨n1, 0, none⟩ = some (.int .i64 p.1) := by have := hxc.out; simp [World.cell?, this]
      have B2 : Hid (Below W1.heap.size W1 (W1.alloc (.cells #[.int .i64 p.1] 3))) := Lib.hid (below_al0 _ _)
      have CB := Lib.hid (CA.out.below B2.out)
      have cf1 : (W1.alloc (.cells #[.int .i64 p.1] 3)).cell? ⟨ph, 1, none⟩ = some vl := CB.out.cells.2.1
      have hrc : Hid ((W1.alloc (.cells #[.int .i64 p.1] 3)).cell? ⟨W1.heap.size, 0, none⟩ = some (.int .i64 p.1)) := Lib.hid ((cell_of_row _ _ 0 _ _ _ (heap_alloc_new W1 (.cells #[.int .i64 p.1] 3))).trans rfl)
      go_upto_region 6 with (first
        | (at_builtin; refine wpList_append_int (o := ⟨some 35, _, _, _, _, _⟩) ?_ (.tmp 31) (.tmp 34) ?_ w.heap.size vl ((ps.take k).map (·.1)) ?_ CB.out.row W1.heap.size p.1 ?_ hrc.out (by have := hlk.out; omega) (by have := CB.out.off.size; omega) ?_; exact rfl; exact rfl; exact rfl; exact rfl; intro ga gc X hr ho; have HAp := CB.out.app HPL.out PF.out ho hr; have cX := HAp.2.1; have fX := HAp.2.2; replace HAp := Lib.hid HAp.1; have HX1 : Hid (X.heap[n1]? = some (.cells #[.int .i64 p.1, .slice vda p.2.length vdc] 47 (0, 0))) := Lib.hid (ho.keeps ((Off.of_below (ex := fun _ => False) B2.out).keeps hxc.out (fun h => h)) (fun hx => by obtain ⟨_, cs, hc⟩ := own_ints CA.out.row hx; have := hxc.out; rw [hc] at this; cases this)); have HX2 : Hid (Off (fun k => vl.ownBlock = some k) W1 X) := Lib.hid ((Off.of_below B2.out).trans2 ho (fun _ _ h => h)); clear ho hr))
      rw [hlk.out] at HAp
      have hnp : n1 ≠ ph := by have := hnw.out; have := HPL.out; omega
      have cv : (X.setCell ⟨ph, 1, none⟩ (.slice (some ⟨ga, 0, none⟩) (k + 1) gc)).cell? ⟨n1, 1, none⟩ = some (.slice vda p.2.length vdc) := off_cell (off1 X ph 1 _) (by have := HX1.out; simp [World.cell?, this]) hnp
      clear cX fX cx0 cf1 cf0 cn cd HX2 HX1 B2 CB hrc hnp
      generalize X.setCell ⟨ph, 1, none⟩ (.slice (some ⟨ga, 0, none⟩) (k + 1) gc) = w5 at *
      clear C CA hxc BA X
      rw [← hts.out] at HAp
      have C9 := HAp
      have BT : Hid (BtAt w5 (.slice vda p.2.length vdc) p.2) := Lib.hid (HI.out.off C9.out.off (fun g hg => .inl hg)).bt
      have HG : Hid (LgAt w5 L B q dd) := Lib.hid (HL.out.off C9.out.off CX.out.2.2)
      have c1 : w5.cell? ⟨pa, 0, none⟩ = some (.pointer (some ⟨L, 0, none⟩)) := off_cell C9.out.off cpa.out CX.out.1
      have c2 := HG.out.cell.1
      have hz : IntKind.i64.wrap (2 + (k : Int)) = 2 + (k : Int) := IntWalk.i64_in _ (by omega)
      have C5 := Lib.hid (C9.out.below (below_drew (Below.refl _ _)))
      have BT5 := Lib.hid (BT.out.off (ex := fun _ => False) (.of_below (below_drew (Below.refl _ _))) (fun _ _ _ _ h => h))
      rcases wr_cases (s := 2 + (k : Int)) (b := p.2) C9.out.disk.okd C9.out.al (by omega) (by have := HN.out; have := C9.out.n; omega) hpl.out with ⟨dk1s, hE, hd1, hd2⟩ | ⟨dk1s, hE⟩
      rotate_left
      · have hR : Hid (commitW q ps d = (dk1s, false)) := Lib.hid (by rw [P.out, hds.out, bytesW_cons, andW_assoc, andW_no (wr_no hE)])
        replace hE := Lib.hid hE
        go_wp2_with fail
        refine wp_region_held_drew (S := fun w' => w'.cell? ⟨pa, 0, none⟩ = some (.pointer (some ⟨L, 0, none⟩)) ∧ w'.cell? ⟨L, 0, none⟩ = some (.pointer (some ⟨B, 0, none⟩)) ∧ w'.cell? ⟨n1, 1, none⟩ = some (.slice vda p.2.length vdc)) (by kernel_rfl) ?_ (fun hHeld => ?_)
        · exact ⟨c1, c2, cv⟩
        refine wpAnyH_take (i := 0) (oi := ⟨_, _, _, _, _, _⟩) (v := ?_) rfl (by kernel_rfl) (by kernel_rfl) (by kernel_rfl) (fun _ _ _ h => h) (Or.inl ⟨by rfl, ?_⟩) (by assumption) ?_
        rotate_left
        · intro w hSw; (try dsimp only at hSw); go_split_ands; go_simp; (try with_reducible rfl)
        try simp only [Act.put, List.setIfInBounds_toArray, List.set_cons_zero, List.set_cons_succ]
        refine wpAnyH_take (i := 1) (oi := ⟨_, _, _, _, _, _⟩) (v := ?_) rfl (by kernel_rfl) (by kernel_rfl) (by kernel_rfl) (fun _ _ _ h => h) (Or.inl ⟨by rfl, ?_⟩) (by assumption) ?_
        rotate_left
        · intro w hSw; (try dsimp only at hSw); go_split_ands; go_simp; (try with_reducible rfl)
        try simp only [Act.put, List.setIfInBounds_toArray, List.set_cons_zero, List.set_cons_succ]
        refine wpAnyH_take (i := 2) (oi := ⟨_, _, _, _, _, _⟩) (v := ?_) rfl (by kernel_rfl) (by kernel_rfl) (by kernel_rfl) (fun _ _ _ h => h) (Or.inl ⟨by rfl, ?_⟩) (by assumption) ?_
        rotate_left
        · intro w hSw; (try dsimp only at hSw); go_split_ands; go_simp; (try with_reducible rfl)
        try simp only [Act.put, List.setIfInBounds_toArray, List.set_cons_zero, List.set_cons_succ]
        refine wpAnyH_take (i := 3) (oi := ⟨_, _, _, _, _, _⟩) (v := ?_) rfl (by kernel_rfl) (by kernel_rfl) (by kernel_rfl) (fun _ _ _ h => h) (Or.inl ⟨by rfl, ?_⟩) (by assumption) ?_
        rotate_left
        · intro w hSw; (try dsimp only at hSw); go_split_ands; go_simp; (try with_reducible rfl)
        try simp only [Act.put, List.setIfInBounds_toArray, List.set_cons_zero, List.set_cons_succ]
        refine wpAnyH_take (i := 4) (oi := ⟨_, _, _, _, _, _⟩) (v := ?_) rfl (by kernel_rfl) (by kernel_rfl) (by kernel_rfl) (fun _ _ _ h => h) (Or.inl ⟨by rfl, ?_⟩) (by assumption) ?_
        rotate_left
        · intro w hSw; (try dsimp only at hSw); go_split_ands; go_simp; (try with_reducible rfl)
        try simp only [Act.put, List.setIfInBounds_toArray, List.set_cons_zero, List.set_cons_succ]
        refine wpAnyH_take (i := 5) (oi := ⟨_, _, _, _, _, _⟩) (v := ?_) rfl (by kernel_rfl) (by kernel_rfl) (by kernel_rfl) (fun _ _ _ h => h) (Or.inl ⟨by rfl, ?_⟩) (by assumption) ?_
        rotate_left
        · intro w hSw; (try dsimp only at hSw); go_split_ands; go_simp; (try with_reducible rfl)
        try simp only [Act.put, List.setIfInBounds_toArray, List.set_cons_zero, List.set_cons_succ]
        refine wpAnyH_take (i := 6) (oi := ⟨_, _, _, _, _, _⟩) (v := ?_) rfl (by kernel_rfl) (by kernel_rfl) (by kernel_rfl) (fun _ _ _ h => h) (Or.inl ⟨by rfl, ?_⟩) (by assumption) ?_
        rotate_left
        · intro w hSw; (try dsimp only at hSw); go_split_ands; go_simp; (try with_reducible rfl)
        try simp only [Act.put, List.setIfInBounds_toArray, List.set_cons_zero, List.set_cons_succ]
        refine wpAnyH_take (i := 7) (oi := ⟨_, _, _, _, _, _⟩) (v := ?_) rfl (by kernel_rfl) (by kernel_rfl) (by kernel_rfl) (fun _ _ _ h => h) (Or.inl ⟨by rfl, ?_⟩) (by assumption) ?_
        rotate_left
        · intro w hSw; (try dsimp only at hSw); go_split_ands; go_simp; (try with_reducible rfl)
        try simp only [Act.put, List.setIfInBounds_toArray, List.set_cons_zero, List.set_cons_succ]
        refine wpAnyH_ready (rs := [8]) (by kernel_rfl) (by simp) (AllReadyH.cons (o := ⟨_, _, _, _, _, _⟩) rfl (fun K hK => ?_) AllReadyH.nil)
        go_simp
        refine (c_Write w5.drew B dk (2 + (k : Int)) _ _ C5.out.disk ⟨by omega, by omega⟩ BT5.out (by rw [hpl.out]; decide)).mono ?_
        rintro e w3s hwd
        obtain ⟨rfl, ht⟩ := hwd.to hE.out
        clear hwd
        obtain ⟨F6, D6, I6⟩ := C5.out.dead HFl.out ht
        replace D6 := Lib.hid D6
        replace I6 := Lib.hid I6
        have G6 : Hid (LgAt w3s L B q dd) := Lib.hid (HL.out.off I6.out.off CX.out.2.2)
        have k1 := off_cell I6.out.off cpa.out CX.out.1
        have k2 := G6.out.cell.1
        have k3 : w3s.cell? ⟨n1, 1, none⟩ = some (.slice vda p.2.length vdc) := (by obtain ⟨_, _, I9⟩ := turn_inn ht; exact off_cell I9.off cv (fun h => Nat.lt_irrefl _ (hnF.out _ h)))
        go_wp2_with fail
        refine hK.out _ _ ?_ (fun hHeld => ?_)
        · exact ⟨k1, k2, k3⟩
        clear hK K
        try simp only [Act.put, List.setIfInBounds_toArray, List.set_cons_zero, List.set_cons_succ]
        refine wpAnyH_ready (rs := [9]) (by kernel_rfl) (by simp) (AllReadyH.cons (o := ⟨_, _, _, _, _, _⟩) rfl (fun K hK => ?_) AllReadyH.nil)
        go_simp
        refine (c_must_no w3s).mono ?_
        rintro e w7 ⟨rfl, rfl⟩
        exact ⟨rfl, cm_no hR.out D6.out I6.out HPL.out G6.out⟩
      have PN : Hid (commitW q ps d = andW (bytesW (ps.drop (k + 1)) (k + 1)) (andW (wrW 0 (headB (q + 1) (ps.map (·.1)))) (andW flW (placeW (ps.map (·.1)) 0))) dk1s) := Lib.hid (by rw [P.out, hds.out, bytesW_cons, andW_assoc, andW_ok (wr_ok hE)])
      have A3 : Hid (dk1s.dead = false ∧ dk1s.n = d.n) := Lib.hid ⟨hd1, hd2.trans C9.out.n⟩
      replace hE := Lib.hid hE
      clear hd1 hd2
      go_wp2_with fail
      refine wp_region_held_drew (S := fun w' => w'.cell? ⟨pa, 0, none⟩ = some (.pointer (some ⟨L, 0, none⟩)) ∧ w'.cell? ⟨L, 0, none⟩ = some (.pointer (some ⟨B, 0, none⟩)) ∧ w'.cell? ⟨n1, 1, none⟩ = some (.slice vda p.2.length vdc)) (by kernel_rfl) ?_ (fun hHeld => ?_)
      · exact ⟨c1, c2, cv⟩
      refine wpAnyH_take (i := 0) (oi := ⟨_, _, _, _, _, _⟩) (v := ?_) rfl (by kernel_rfl) (by kernel_rfl) (by kernel_rfl) (fun _ _ _ h => h) (Or.inl ⟨by rfl, ?_⟩) (by assumption) ?_
      rotate_left
      · intro w hSw; (try dsimp only at hSw); go_split_ands; go_simp; (try with_reducible rfl)
      try simp only [Act.put, List.setIfInBounds_toArray, List.set_cons_zero, List.set_cons_succ]
      refine wpAnyH_take (i := 1) (oi := ⟨_, _, _, _, _, _⟩) (v := ?_) rfl (by kernel_rfl) (by kernel_rfl) (by kernel_rfl) (fun _ _ _ h => h) (Or.inl ⟨by rfl, ?_⟩) (by assumption) ?_
      rotate_left
      · intro w hSw; (try dsimp only at hSw); go_split_ands; go_simp; (try with_reducible rfl)
      try simp only [Act.put, List.setIfInBounds_toArray, List.set_cons_zero, List.set_cons_succ]
      refine wpAnyH_take (i := 2) (oi := ⟨_, _, _, _, _, _⟩) (v := ?_) rfl (by kernel_rfl) (by kernel_rfl) (by kernel_rfl) (fun _ _ _ h => h) (Or.inl ⟨by rfl, ?_⟩) (by assumption) ?_
      rotate_left
      · intro w hSw; (try dsimp only at hSw); go_split_ands; go_simp; (try with_reducible rfl)
      try simp only [Act.put, List.setIfInBounds_toArray, List.set_cons_zero, List.set_cons_succ]
      refine wpAnyH_take (i := 3) (oi := ⟨_, _, _, _, _, _⟩) (v := ?_) rfl (by kernel_rfl) (by kernel_rfl) (by kernel_rfl) (fun _ _ _ h => h) (Or.inl ⟨by rfl, ?_⟩) (by assumption) ?_
      rotate_left
      · intro w hSw; (try dsimp only at hSw); go_split_ands; go_simp; (try with_reducible rfl)
      try simp only [Act.put, List.setIfInBounds_toArray, List.set_cons_zero, List.set_cons_succ]
      refine wpAnyH_take (i := 4) (oi := ⟨_, _, _, _, _, _⟩) (v := ?_) rfl (by kernel_rfl) (by kernel_rfl) (by kernel_rfl) (fun _ _ _ h => h) (Or.inl ⟨by rfl, ?_⟩) (by assumption) ?_
      rotate_left
      · intro w hSw; (try dsimp only at hSw); go_split_ands; go_simp; (try with_reducible rfl)
      try simp only [Act.put, List.setIfInBounds_toArray, List.set_cons_zero, List.set_cons_succ]
      refine wpAnyH_take (i := 5) (oi := ⟨_, _, _, _, _, _⟩) (v := ?_) rfl (by kernel_rfl) (by kernel_rfl) (by kernel_rfl) (fun _ _ _ h => h) (Or.inl ⟨by rfl, ?_⟩) (by assumption) ?_
      rotate_left
      · intro w hSw; (try dsimp only at hSw); go_split_ands; go_simp; (try with_reducible rfl)
      try simp only [Act.put, List.setIfInBounds_toArray, List.set_cons_zero, List.set_cons_succ]
      refine wpAnyH_take (i := 6) (oi := ⟨_, _, _, _, _, _⟩) (v := ?_) rfl (by kernel_rfl) (by kernel_rfl) (by kernel_rfl) (fun _ _ _ h => h) (Or.inl ⟨by rfl, ?_⟩) (by assumption) ?_
      rotate_left
      · intro w hSw; (try dsimp only at hSw); go_split_ands; go_simp; (try with_reducible rfl)
      try simp only [Act.put, List.setIfInBounds_toArray, List.set_cons_zero, List.set_cons_succ]
      refine wpAnyH_take (i := 7) (oi := ⟨_, _, _, _, _, _⟩) (v := ?_) rfl (by kernel_rfl) (by kernel_rfl) (by kernel_rfl) (fun _ _ _ h => h) (Or.inl ⟨by rfl, ?_⟩) (by assumption) ?_
      rotate_left
      · intro w hSw; (try dsimp only at hSw); go_split_ands; go_simp; (try with_reducible rfl)
      try simp only [Act.put, List.setIfInBounds_toArray, List.set_cons_zero, List.set_cons_succ]
      refine wpAnyH_ready (rs := [8]) (by kernel_rfl) (by simp) (AllReadyH.cons (o := ⟨_, _, _, _, _, _⟩) rfl (fun K hK => ?_) AllReadyH.nil)
      go_simp
      refine (c_Write w5.drew B dk (2 + (k : Int)) _ _ C5.out.disk ⟨by omega, by omega⟩ BT5.out (by rw [hpl.out]; decide)).mono ?_
      rintro e w3s hwd
      obtain ⟨rfl, ht⟩ := hwd.to hE.out
      clear hwd
      obtain ⟨F3s, C3⟩ := C5.out.turn HPL.out PF.out ht A3.out
      replace C3 := Lib.hid C3
      have G6 : Hid (LgAt w3s L B q dd) := Lib.hid (HL.out.off C3.out.off CX.out.2.2)
      have k1 := off_cell C3.out.off cpa.out CX.out.1
      have k2 := G6.out.cell.1
      have k3 : w3s.cell? ⟨n1, 1, none⟩ = some (.slice vda p.2.length vdc) := (by obtain ⟨_, _, I9⟩ := turn_inn ht; exact off_cell I9.off cv (fun h => Nat.lt_irrefl _ (hnF.out _ h)))
      clear ht
      go_wp2_with fail
      refine hK.out _ _ ?_ (fun hHeld => ?_)
      · exact ⟨k1, k2, k3⟩
      clear hK K
      try simp only [Act.put, List.setIfInBounds_toArray, List.set_cons_zero, List.set_cons_succ]
      refine wpAnyH_ready (rs := [9]) (by kernel_rfl) (by simp) (AllReadyH.cons (o := ⟨_, _, _, _, _, _⟩) rfl (fun K hK => ?_) AllReadyH.nil)
      go_simp
      refine (c_must_ok w3s).mono ?_
      rintro e w7 ⟨rfl, rfl⟩
      go_wp2_with fail
      refine hK.out _ _ ?_ (fun hHeld => ?_)
      · exact ⟨k1, k2, k3⟩
      clear hK K
      try simp only [Act.put, List.setIfInBounds_toArray, List.set_cons_zero, List.set_cons_succ]
      refine wpAnyH_done (by kernel_rfl) ?_ _
      clear hz c1 c2 cv k1 k2 k3 hHeld HG
      go_wp2
      go_roundw
      case rel => exact ⟨k + 1, by go_num, by omega, Lib.hid ⟨_, _, _, C3.out, PN.out⟩⟩
      case measure => simp [intOf]; omega
    · have hlt' : ¬ (k : Int) < (ps.length : Int) := by omega
      obtain rfl : k = ps.length := by omega
      have C4 : Hid (Cs F w ph B q d (ps.map (·.1)) F1 dk vl wr) := Lib.hid (by have := C.out; rwa [List.take_length] at this)
      have P4 : Hid (commitW q ps d = andW flW (andW (wrW 0 (headB (q + 1) (ps.map (·.1)))) (andW flW (placeW (ps.map (·.1)) 0))) dk) := Lib.hid (by have := P.out; rwa [List.drop_length] at this)
      clear C P
      have HG : Hid (LgAt wr L B q dd) := Lib.hid (HL.out.off C4.out.off CX.out.2.2)
      have c1 : wr.cell? ⟨pa, 0, none⟩ = some (.pointer (some ⟨L, 0, none⟩)) := off_cell C4.out.off cpa.out CX.out.1
      have c2 := HG.out.cell.1
      rcases fl_cases C4.out.disk.okd C4.out.al with ⟨dk6s, hE, hd1, hd2⟩ | ⟨dk6s, hE⟩
      rotate_left
      · have hR : Hid (commitW q ps d = (dk6s, false)) := Lib.hid (by rw [P4.out, andW_no (fl_no hE)])
        replace hE := Lib.hid hE
        go_wp2_with (first
          | (go_at_call 35; refine (c_Flush wr B dk C4.out.disk).mono ?_; rintro e w2 hfd; obtain ⟨rfl, ht⟩ := hfd.to hE.out; replace ht := Lib.hid (C4.out.dead HFl.out ht); clear hfd)
          | (go_at_call 32; refine (c_must_no w2).mono ?_; rintro e w3 ⟨rfl, rfl⟩))
        obtain ⟨F2, D2, I2⟩ := ht.out
        exact ⟨rfl, cm_no hR.out D2 I2 HPL.out (HL.out.off I2.off CX.out.2.2)⟩
      have P6 : Hid (commitW q ps d = (andW (wrW 0 (headB (q + 1) (ps.map (·.1)))) (andW flW (placeW (ps.map (·.1)) 0))) dk6s) := Lib.hid (by rw [P4.out, andW_ok (fl_ok hE)])
      have A6 : Hid (dk6s.dead = false ∧ dk6s.n = d.n) := Lib.hid ⟨hd1, hd2.trans C4.out.n⟩
      replace hE := Lib.hid hE
      clear hd1 hd2
      go_upto_region 9 with (first
        | (go_at_call 35; refine (c_Flush wr B dk C4.out.disk).mono ?_; rintro e w6s hfd; obtain ⟨rfl, ht⟩ := hfd.to hE.out; obtain ⟨F6s, C6⟩ := C4.out.turn HPL.out PF.out ht A6.out; replace C6 := Lib.hid C6; clear hfd ht)
        | (go_at_call 32; refine (c_must_ok w6s).mono ?_; rintro e w3 ⟨rfl, rfl⟩))
      clear C4 P4 A6 HG c1 c2 hE
      obtain ⟨la, lc, hlv, _, _⟩ := row_shape C6.out.row
      subst hlv
      have hml : Hid ((ps.map (·.1)).length = ps.length) := Lib.hid (List.length_map _)
      rw [hml.out] at C6
      have hgl : Hid ((ps.map (·.1)).length ≤ 40 ∧ ∀ x ∈ (ps.map (·.1)), 42 ≤ x ∧ x < d.n) := Lib.hid HGP.out.1
      have hN4 : Hid (d.n ≤ 4096) := Lib.hid (by rw [← C6.out.n]; exact C6.out.disk.okd.n1)
      have hb9 : Hid ((headB (q + 1) (ps.map (·.1))).length = 128) := Lib.hid (headB_len _ _ hgl.out.1)
      have HG : Hid (LgAt w6s L B q dd) := Lib.hid (HL.out.off C6.out.off CX.out.2.2)
      have c1 : w6s.cell? ⟨pa, 0, none⟩ = some (.pointer (some ⟨L, 0, none⟩)) := off_cell C6.out.off cpa.out CX.out.1
      have c2 := HG.out.cell.1
      have c3 := C6.out.cells.1
      have c4 := C6.out.cells.2.1
      have hrw6 := C6.out.row
      rw [hml.out] at hrw6
      have IT6 : Hid (ItAt w6s.drew (.slice la ps.length lc) (ps.map (·.1))) := Lib.hid ((it_row hrw6).1.off (.of_below (ex := fun _ => False) (below_drew (Below.refl _ _))) (fun _ _ _ _ h => h))
      clear hrw6
      rcases wr_cases (s := 0) (b := headB (q + 1) (ps.map (·.1))) C6.out.disk.okd C6.out.al (by decide) (by have := HN.out; have := C6.out.n; omega) hb9.out with ⟨dk7s, hE, hd1, hd2⟩ | ⟨dk7s, hE⟩
      rotate_left
      · have hR : Hid (commitW q ps d = (dk7s, false)) := Lib.hid (by rw [P6.out, andW_no (wr_no hE)])
        replace hE := Lib.hid hE
        go_wp2_with fail
        refine wp_region_held_drew (S := fun w' => w'.cell? ⟨pa, 0, none⟩ = some (.pointer (some ⟨L, 0, none⟩)) ∧ w'.cell? ⟨L, 0, none⟩ = some (.pointer (some ⟨B, 0, none⟩)) ∧ w'.cell? ⟨ph, 0, none⟩ = some (.int .i64 ((q + 1 : Nat) : Int)) ∧ w'.cell? ⟨ph, 1, none⟩ = some (.slice la ps.length lc)) (by kernel_rfl) ?_ (fun hHeld => ?_)
        · exact ⟨c1, c2, c3, c4⟩
        refine wpAnyH_take (i := 0) (oi := ⟨_, _, _, _, _, _⟩) (v := ?_) rfl (by kernel_rfl) (by kernel_rfl) (by kernel_rfl) (fun _ _ _ h => h) (Or.inl ⟨by rfl, ?_⟩) (by assumption) ?_
        rotate_left
        · intro w hSw; (try dsimp only at hSw); go_split_ands; go_simp; (try with_reducible rfl)
        try simp only [Act.put, List.setIfInBounds_toArray, List.set_cons_zero, List.set_cons_succ]
        refine wpAnyH_take (i := 1) (oi := ⟨_, _, _, _, _, _⟩) (v := ?_) rfl (by kernel_rfl) (by kernel_rfl) (by kernel_rfl) (fun _ _ _ h => h) (Or.inl ⟨by rfl, ?_⟩) (by assumption) ?_
        rotate_left
        · intro w hSw; (try dsimp only at hSw); go_split_ands; go_simp; (try with_reducible rfl)
        try simp only [Act.put, List.setIfInBounds_toArray, List.set_cons_zero, List.set_cons_succ]
        refine wpAnyH_take (i := 2) (oi := ⟨_, _, _, _, _, _⟩) (v := ?_) rfl (by kernel_rfl) (by kernel_rfl) (by kernel_rfl) (fun _ _ _ h => h) (Or.inl ⟨by rfl, ?_⟩) (by assumption) ?_
        rotate_left
        · intro w hSw; (try dsimp only at hSw); go_split_ands; go_simp; (try with_reducible rfl)
        try simp only [Act.put, List.setIfInBounds_toArray, List.set_cons_zero, List.set_cons_succ]
        refine wpAnyH_take (i := 3) (oi := ⟨_, _, _, _, _, _⟩) (v := ?_) rfl (by kernel_rfl) (by kernel_rfl) (by kernel_rfl) (fun _ _ _ h => h) (Or.inl ⟨by rfl, ?_⟩) (by assumption) ?_
        rotate_left
        · intro w hSw; (try dsimp only at hSw); go_split_ands; go_simp; (try with_reducible rfl)
        try simp only [Act.put, List.setIfInBounds_toArray, List.set_cons_zero, List.set_cons_succ]
        refine wpAnyH_take (i := 4) (oi := ⟨_, _, _, _, _, _⟩) (v := ?_) rfl (by kernel_rfl) (by kernel_rfl) (by kernel_rfl) (fun _ _ _ h => h) (Or.inl ⟨by rfl, ?_⟩) (by assumption) ?_
        rotate_left
        · intro w hSw; (try dsimp only at hSw); go_split_ands; go_simp; (try with_reducible rfl)
        try simp only [Act.put, List.setIfInBounds_toArray, List.set_cons_zero, List.set_cons_succ]
        refine wpAnyH_ready (rs := [5]) (by kernel_rfl) (by simp) (AllReadyH.cons (o := ⟨_, _, _, _, _, _⟩) rfl (fun K hK => ?_) AllReadyH.nil)
        go_simp
        refine (c_hwrite w6s.drew (q + 1) (.slice la ps.length lc) (ps.map (·.1)) (by have := HQ.out; omega) IT6.out hgl.out.1 (fun x hx => by have := hgl.out.2 x hx; have := hN4.out; omega)).mono ?_
        rintro e w5 ⟨g5, c5, rfl, hx5, hb5⟩
        replace hx5 := Lib.hid hx5
        have B5 : Hid (Below w6s.heap.size w6s w5) := Lib.hid (below2 (below_drew (Below.refl _ _)) hb5)
        clear hb5
        have C5 := Lib.hid (C6.out.below B5.out)
        have k1 := off_cell (.of_below (ex := fun _ => False) B5.out) c1 (fun h => h)
        have k2 := off_cell (.of_below (ex := fun _ => False) B5.out) c2 (fun h => h)
        have k3 := C5.out.cells.1
        have k4 := C5.out.cells.2.1
        go_wp2_with fail
        refine hK.out _ _ ?_ (fun hHeld => ?_)
        · exact ⟨k1, k2, k3, k4⟩
        clear hK K
        try simp only [Act.put, List.setIfInBounds_toArray, List.set_cons_zero, List.set_cons_succ]
        clear k1 k2 k3 k4 hHeld
        refine wpAnyH_ready (rs := [6]) (by kernel_rfl) (by simp) (AllReadyH.cons (o := ⟨_, _, _, _, _, _⟩) rfl (fun K hK => ?_) AllReadyH.nil)
        go_simp
        refine (c_Write w5 B dk6s 0 _ _ C5.out.disk ⟨by decide, by decide⟩ (row_bt hx5.out hb9.out) (by rw [hb9.out]; decide)).mono ?_
        rintro e w7s hwd
        obtain ⟨rfl, ht⟩ := hwd.to hE.out
        clear hwd
        obtain ⟨F6, D6, I6⟩ := C5.out.dead HFl.out ht
        replace D6 := Lib.hid D6
        replace I6 := Lib.hid I6
        have G6 : Hid (LgAt w7s L B q dd) := Lib.hid (HL.out.off I6.out.off CX.out.2.2)
        have k1 := off_cell I6.out.off cpa.out CX.out.1
        have k2 := G6.out.cell.1
        have k3 : w7s.cell? ⟨ph, 0, none⟩ = some (.int .i64 ((q + 1 : Nat) : Int)) := (by obtain ⟨_, _, I9⟩ := turn_inn ht; exact off_cell I9.off C5.out.cells.1 (fun h => (C5.out.out _ h).elim PF.out (fun h => by have h2 : w.heap.size ≤ ph := h; have := HPL.out; omega)))
        have k4 : w7s.cell? ⟨ph, 1, none⟩ = some (.slice la ps.length lc) := (by obtain ⟨_, _, I9⟩ := turn_inn ht; exact off_cell I9.off C5.out.cells.2.1 (fun h => (C5.out.out _ h).elim PF.out (fun h => by have h2 : w.heap.size ≤ ph := h; have := HPL.out; omega)))
        go_wp2_with fail
        refine hK.out _ _ ?_ (fun hHeld => ?_)
        · exact ⟨k1, k2, k3, k4⟩
        clear hK K
        try simp only [Act.put, List.setIfInBounds_toArray, List.set_cons_zero, List.set_cons_succ]
        refine wpAnyH_ready (rs := [7]) (by kernel_rfl) (by simp) (AllReadyH.cons (o := ⟨_, _, _, _, _, _⟩) rfl (fun K hK => ?_) AllReadyH.nil)
        go_simp
        refine (c_must_no w7s).mono ?_
        rintro e w7 ⟨rfl, rfl⟩
        exact ⟨rfl, cm_no hR.out D6.out I6.out HPL.out G6.out⟩
      have P7 : Hid (commitW q ps d = (andW flW (placeW (ps.map (·.1)) 0)) dk7s) := Lib.hid (by rw [P6.out, andW_ok (wr_ok hE)])
      have A7 : Hid (dk7s.dead = false ∧ dk7s.n = d.n) := Lib.hid ⟨hd1, hd2.trans C6.out.n⟩
      replace hE := Lib.hid hE
      clear hd1 hd2
      go_wp2_with fail
      refine wp_region_held_drew (S := fun w' => w'.cell? ⟨pa, 0, none⟩ = some (.pointer (some ⟨L, 0, none⟩)) ∧ w'.cell? ⟨L, 0, none⟩ = some (.pointer (some ⟨B, 0, none⟩)) ∧ w'.cell? ⟨ph, 0, none⟩ = some (.int .i64 ((q + 1 : Nat) : Int)) ∧ w'.cell? ⟨ph, 1, none⟩ = some (.slice la ps.length lc)) (by kernel_rfl) ?_ (fun hHeld => ?_)
      · exact ⟨c1, c2, c3, c4⟩
      refine wpAnyH_take (i := 0) (oi := ⟨_, _, _, _, _, _⟩) (v := ?_) rfl (by kernel_rfl) (by kernel_rfl) (by kernel_rfl) (fun _ _ _ h => h) (Or.inl ⟨by rfl, ?_⟩) (by assumption) ?_
      rotate_left
      · intro w hSw; (try dsimp only at hSw); go_split_ands; go_simp; (try with_reducible rfl)
      try simp only [Act.put, List.setIfInBounds_toArray, List.set_cons_zero, List.set_cons_succ]
      refine wpAnyH_take (i := 1) (oi := ⟨_, _, _, _, _, _⟩) (v := ?_) rfl (by kernel_rfl) (by kernel_rfl) (by kernel_rfl) (fun _ _ _ h => h) (Or.inl ⟨by rfl, ?_⟩) (by assumption) ?_
      rotate_left
      · intro w hSw; (try dsimp only at hSw); go_split_ands; go_simp; (try with_reducible rfl)
      try simp only [Act.put, List.setIfInBounds_toArray, List.set_cons_zero, List.set_cons_succ]
      refine wpAnyH_take (i := 2) (oi := ⟨_, _, _, _, _, _⟩) (v := ?_) rfl (by kernel_rfl) (by kernel_rfl) (by kernel_rfl) (fun _ _ _ h => h) (Or.inl ⟨by rfl, ?_⟩) (by assumption) ?_
      rotate_left
      · intro w hSw; (try dsimp only at hSw); go_split_ands; go_simp; (try with_reducible rfl)
      try simp only [Act.put, List.setIfInBounds_toArray, List.set_cons_zero, List.set_cons_succ]
      refine wpAnyH_take (i := 3) (oi := ⟨_, _, _, _, _, _⟩) (v := ?_) rfl (by kernel_rfl) (by kernel_rfl) (by kernel_rfl) (fun _ _ _ h => h) (Or.inl ⟨by rfl, ?_⟩) (by assumption) ?_
      rotate_left
      · intro w hSw; (try dsimp only at hSw); go_split_ands; go_simp; (try with_reducible rfl)
      try simp only [Act.put, List.setIfInBounds_toArray, List.set_cons_zero, List.set_cons_succ]
      refine wpAnyH_take (i := 4) (oi := ⟨_, _, _, _, _, _⟩) (v := ?_) rfl (by kernel_rfl) (by kernel_rfl) (by kernel_rfl) (fun _ _ _ h => h) (Or.inl ⟨by rfl, ?_⟩) (by assumption) ?_
      rotate_left
      · intro w hSw; (try dsimp only at hSw); go_split_ands; go_simp; (try with_reducible rfl)
      try simp only [Act.put, List.setIfInBounds_toArray, List.set_cons_zero, List.set_cons_succ]
      refine wpAnyH_ready (rs := [5]) (by kernel_rfl) (by simp) (AllReadyH.cons (o := ⟨_, _, _, _, _, _⟩) rfl (fun K hK => ?_) AllReadyH.nil)
      go_simp
      refine (c_hwrite w6s.drew (q + 1) (.slice la ps.length lc) (ps.map (·.1)) (by have := HQ.out; omega) IT6.out hgl.out.1 (fun x hx => by have := hgl.out.2 x hx; have := hN4.out; omega)).mono ?_
      rintro e w5 ⟨g5, c5, rfl, hx5, hb5⟩
      replace hx5 := Lib.hid hx5
      have B5 : Hid (Below w6s.heap.size w6s w5) := Lib.hid (below2 (below_drew (Below.refl _ _)) hb5)
      clear hb5
      have C5 := Lib.hid (C6.out.below B5.out)
      have k1 := off_cell (.of_below (ex := fun _ => False) B5.out) c1 (fun h => h)
      have k2 := off_cell (.of_below (ex := fun _ => False) B5.out) c2 (fun h => h)
      have k3 := C5.out.cells.1
      have k4 := C5.out.cells.2.1
      go_wp2_with fail
      refine hK.out _ _ ?_ (fun hHeld => ?_)
      · exact ⟨k1, k2, k3, k4⟩
      clear hK K
      try simp only [Act.put, List.setIfInBounds_toArray, List.set_cons_zero, List.set_cons_succ]
      clear k1 k2 k3 k4 hHeld
      refine wpAnyH_ready (rs := [6]) (by kernel_rfl) (by simp) (AllReadyH.cons (o := ⟨_, _, _, _, _, _⟩) rfl (fun K hK => ?_) AllReadyH.nil)
      go_simp
      refine (c_Write w5 B dk6s 0 _ _ C5.out.disk ⟨by decide, by decide⟩ (row_bt hx5.out hb9.out) (by rw [hb9.out]; decide)).mono ?_
      rintro e w7s hwd
      obtain ⟨rfl, ht⟩ := hwd.to hE.out
      clear hwd
      obtain ⟨F7s, C7⟩ := C5.out.turn HPL.out PF.out ht A7.out
      replace C7 := Lib.hid C7
      have G6 : Hid (LgAt w7s L B q dd) := Lib.hid (HL.out.off C7.out.off CX.out.2.2)
      have k1 := off_cell C7.out.off cpa.out CX.out.1
      have k2 := G6.out.cell.1
      have k3 := C7.out.cells.1
      have k4 := C7.out.cells.2.1
      clear ht
      go_wp2_with fail
      refine hK.out _ _ ?_ (fun hHeld => ?_)
      · exact ⟨k1, k2, k3, k4⟩
      clear hK K
      try simp only [Act.put, List.setIfInBounds_toArray, List.set_cons_zero, List.set_cons_succ]
      refine wpAnyH_ready (rs := [7]) (by kernel_rfl) (by simp) (AllReadyH.cons (o := ⟨_, _, _, _, _, _⟩) rfl (fun K hK => ?_) AllReadyH.nil)
      go_simp
      refine (c_must_ok w7s).mono ?_
      rintro e w7 ⟨rfl, rfl⟩
      go_wp2_with fail
      refine hK.out _ _ ?_ (fun hHeld => ?_)
      · exact ⟨k1, k2, k3, k4⟩
      clear hK K
      try simp only [Act.put, List.setIfInBounds_toArray, List.set_cons_zero, List.set_cons_succ]
      refine wpAnyH_done (by kernel_rfl) ?_ _
      clear C6 P6 A7 HG c1 c2 c3 c4 hE k1 k2 k3 k4 G6 B5 C5 hHeld hx5 IT6
      have HG : Hid (LgAt w7s L B q dd) := Lib.hid (HL.out.off C7.out.off CX.out.2.2)
      have c1 : w7s.cell? ⟨pa, 0, none⟩ = some (.pointer (some ⟨L, 0, none⟩)) := off_cell C7.out.off cpa.out CX.out.1
      have c2 := HG.out.cell.1
      rcases fl_cases C7.out.disk.okd C7.out.al with ⟨dk8s, hE, hd1, hd2⟩ | ⟨dk8s, hE⟩
      rotate_left
      · have hR : Hid (commitW q ps d = (dk8s, false)) := Lib.hid (by rw [P7.out, andW_no (fl_no hE)])
        replace hE := Lib.hid hE
        go_wp2_with (first
          | (go_at_call 35; refine (c_Flush w7s B dk7s C7.out.disk).mono ?_; rintro e w2 hfd; obtain ⟨rfl, ht⟩ := hfd.to hE.out; replace ht := Lib.hid (C7.out.dead HFl.out ht); clear hfd)
          | (go_at_call 32; refine (c_must_no w2).mono ?_; rintro e w3 ⟨rfl, rfl⟩))
        obtain ⟨F2, D2, I2⟩ := ht.out
        exact ⟨rfl, cm_no hR.out D2 I2 HPL.out (HL.out.off I2.off CX.out.2.2)⟩
      have P8 : Hid (commitW q ps d = (placeW (ps.map (·.1)) 0) dk8s) := Lib.hid (by rw [P7.out, andW_ok (fl_ok hE)])
      have A8 : Hid (dk8s.dead = false ∧ dk8s.n = d.n) := Lib.hid ⟨hd1, hd2.trans C7.out.n⟩
      replace hE := Lib.hid hE
      clear hd1 hd2
      go_upto_region 11 with (first
        | (go_at_call 35; refine (c_Flush w7s B dk7s C7.out.disk).mono ?_; rintro e w8s hfd; obtain ⟨rfl, ht⟩ := hfd.to hE.out; obtain ⟨F8s, C8⟩ := C7.out.turn HPL.out PF.out ht A8.out; replace C8 := Lib.hid C8; clear hfd ht)
        | (go_at_call 32; refine (c_must_ok w8s).mono ?_; rintro e w3 ⟨rfl, rfl⟩))
      clear C7 P7 A8 HG c1 c2 hE
      have HG : Hid (LgAt w8s L B q dd) := Lib.hid (HL.out.off C8.out.off CX.out.2.2)
      have c1 : w8s.cell? ⟨pa, 0, none⟩ = some (.pointer (some ⟨L, 0, none⟩)) := off_cell C8.out.off cpa.out CX.out.1
      have c2 := HG.out.cell.1
      have c3 := C8.out.cells.1
      have c4 := C8.out.cells.2.1
      have hrw8 := C8.out.row
      rw [hml.out] at hrw8
      have IT8 : Hid (ItAt w8s (.slice la ps.length lc) (ps.map (·.1))) := Lib.hid (it_row hrw8).1
      have IF8 : Hid (∀ a n c, Value.slice la ps.length lc = .slice (some a) n c → ¬ F8s a.block) := Lib.hid (fun a n c e hF => by
        rcases hrw8.2 with ⟨e1, _⟩ | ⟨g, cap, cur, e1, _, hx, _⟩
        · rw [e1] at e; cases e
        · rw [e1] at e; cases e; exact C8.out.ints _ hF _ hx)
      have nL8 : Hid (¬ F8s L) := Lib.hid (fun hF => (C8.out.out _ hF).elim (fun h => CX.out.2.2 (.inl h)) (fun h => by have := HL.out.lt; omega))
      clear hrw8
      go_wp2_with (first
        | (go_at_call 29; refine (c_place w8s L B q _ dd dk8s _ (ps.map (·.1)) HG.out nL8.out C8.out.disk C8.out.al (by have := HN.out; have := C8.out.n; omega) IT8.out IF8.out hgl.out.1 (fun x hx => by have := hgl.out.2 x hx; have := C8.out.n; omega)).mono ?_; rintro e w9 hpl; obtain ⟨d9, ht, he⟩ := hpl.turned; clear hpl; have cq9 : Hid (w9.cell? ⟨ph, 0, none⟩ = some (.int .i64 ((q + 1 : Nat) : Int))) := Lib.hid (by obtain ⟨_, _, I9⟩ := turn_inn ht; exact off_cell I9.off C8.out.cells.1 (fun h => (C8.out.out _ h).elim PF.out (fun h => by have h2 : w.heap.size ≤ ph := h; have := HPL.out; omega))); replace ht := Lib.hid (C8.out.dead HFl.out ht); rcases he with ⟨hp1, rfl⟩ | ⟨hp1, rfl⟩ <;> replace hp1 := Lib.hid (P8.out.trans hp1)))
      · obtain ⟨F9, D9, I9⟩ := ht.out
        replace D9 := Lib.hid D9
        replace I9 := Lib.hid I9
        go_end0
        exact cm_ok hp1.out D9.out I9.out HPL.out (HL.out.off I9.out.off CX.out.2.2) cq9.out
      · obtain ⟨F9, D9, I9⟩ := ht.out
        exact ⟨rfl, cm_no hp1.out D9 I9 HPL.out (HL.out.off I9.off CX.out.2.2)⟩
end Go.Proofs.Ytpdjenkacefpjaa
