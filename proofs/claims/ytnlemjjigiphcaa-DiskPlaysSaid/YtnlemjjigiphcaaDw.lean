/- Contracts of package disk: its small functions, reading. -/
import Derived.Test.YtnlemjjigiphcaaDb
namespace Go.Proofs.Ytnlemjjigiphcaa
open Go.RowKit Go.ChangeShapes
set_option linter.unusedVariables false
set_option maxRecDepth 100000

/-! ### a disk in memory -/
def diskC (d : Dk) (p q : Nat) : Array Value := #[.int .i64 d.n, .map (some p), .map (some q), .int .i64 d.left, .bool d.dead, .int .i64 d.ops]
/-- block B is a disk's, its maps are blocks p and q; all that it stands on lies in blocks of which F speaks -/
structure DiskIn (F : Nat → Prop) (w : World) (B p q : Nat) (vp vq : AM Value) (d : Dk) : Prop where
  blk : w.heap[B]? = some (.cells (diskC d p q) 59 (0, 0))
  fB : F B
  fp : F p
  fq : F q
  ne : p ≠ q
  mp : mapV w p vp
  mq : mapV w q vq
  rp : Rws F w vp d.on
  rq : Rws F w vq d.bu
  ok : DOk d
  ops : I64 d.ops
  left : d.left ≤ 9223372036854775807
  lt : ∀ g, F g → g < w.heap.size
def DiskAt (F : Nat → Prop) (w : World) (B : Nat) (d : Dk) : Prop := ∃ p q vp vq, DiskIn F w B p q vp vq d
/-- the disk has turned, and nothing else that was there -/
def Turn (F : Nat → Prop) (B : Nat) (d : Dk) (w w' : World) : Prop := ∃ F', DiskAt F' w' B d ∧ (∀ g, F' g → F g ∨ w.heap.size ≤ g) ∧ (∀ g, F g → F' g) ∧ Off F w w'
theorem DiskIn.eq {F : Nat → Prop} {w w' : World} {B p q : Nat} {vp vq : AM Value} {d : Dk} (h : DiskIn F w B p q vp vq d) (he : ∀ g, F g → g < w.heap.size → w'.heap[g]? = w.heap[g]?) (hs : w.heap.size ≤ w'.heap.size) : DiskIn F w' B p q vp vq d :=
  ⟨(he B h.fB (h.lt B h.fB)).trans h.blk, h.fB, h.fp, h.fq, h.ne, h.mp.eq (he p h.fp (h.lt p h.fp)), h.mq.eq (he q h.fq (h.lt q h.fq)), h.rp.map (fun _ _ x => x.eq he), h.rq.map (fun _ _ x => x.eq he), h.ok, h.ops, h.left, fun g hg => Nat.lt_of_lt_of_le (h.lt g hg) hs⟩
theorem DiskIn.off {ex F : Nat → Prop} {w w' : World} {B p q : Nat} {vp vq : AM Value} {d : Dk} (h : DiskIn F w B p q vp vq d) (ho : Off ex w w') (hn : ∀ g, F g → ¬ ex g) : DiskIn F w' B p q vp vq d :=
  h.eq (fun g hg hl => ho.block g hl (hn g hg)) ho.size
theorem DiskIn.below {F : Nat → Prop} {w w' : World} {B p q : Nat} {vp vq : AM Value} {d : Dk} (h : DiskIn F w B p q vp vq d) (hb : Below w.heap.size w w') : DiskIn F w' B p q vp vq d := h.off (ex := fun _ => False) (.of_below hb) (fun _ _ h => h)
theorem DiskIn.cell {F : Nat → Prop} {w : World} {B p q : Nat} {vp vq : AM Value} {d : Dk} (h : DiskIn F w B p q vp vq d) (j : Nat) : w.cell? ⟨B, j, none⟩ = (diskC d p q)[j]? := cell_of_row w B j _ _ _ h.blk
theorem DiskIn.free {F : Nat → Prop} {w : World} {B p q : Nat} {vp vq : AM Value} {d : Dk} (h : DiskIn F w B p q vp vq d) (j : Nat) : w.frozen? ⟨B, j, none⟩ = false := by
  simp [World.frozen?, show w.heap[B]? = _ from h.blk]
theorem DiskIn.neP {F : Nat → Prop} {w : World} {B p q : Nat} {vp vq : AM Value} {d : Dk} (h : DiskIn F w B p q vp vq d) : p ≠ B := by
  rintro rfl
  obtain ⟨_, es, c, hb, _⟩ := h.mp
  rw [h.blk] at hb
  cases hb
theorem DiskIn.neQ {F : Nat → Prop} {w : World} {B p q : Nat} {vp vq : AM Value} {d : Dk} (h : DiskIn F w B p q vp vq d) : q ≠ B := by
  rintro rfl
  obtain ⟨_, es, c, hb, _⟩ := h.mq
  rw [h.blk] at hb
  cases hb
theorem DiskAt.below {F : Nat → Prop} {w w' : World} {B : Nat} {d : Dk} (h : DiskAt F w B d) (hb : Below w.heap.size w w') : DiskAt F w' B d := by
  obtain ⟨p, q, vp, vq, h⟩ := h
  exact ⟨p, q, vp, vq, h.below hb⟩
theorem DiskAt.off {ex F : Nat → Prop} {w w' : World} {B : Nat} {d : Dk} (h : DiskAt F w B d) (ho : Off ex w w') (hn : ∀ g, F g → ¬ ex g) : DiskAt F w' B d := by
  obtain ⟨p, q, vp, vq, h⟩ := h
  exact ⟨p, q, vp, vq, h.off ho hn⟩
theorem DiskAt.ok {F : Nat → Prop} {w : World} {B : Nat} {d : Dk} (h : DiskAt F w B d) : DOk d := by
  obtain ⟨p, q, vp, vq, h⟩ := h
  exact h.ok
theorem DiskAt.lt {F : Nat → Prop} {w : World} {B : Nat} {d : Dk} (h : DiskAt F w B d) : ∀ g, F g → g < w.heap.size := by
  obtain ⟨p, q, vp, vq, h⟩ := h
  exact h.lt
theorem DiskAt.fB {F : Nat → Prop} {w : World} {B : Nat} {d : Dk} (h : DiskAt F w B d) : F B := by
  obtain ⟨p, q, vp, vq, h⟩ := h
  exact h.fB
theorem Turn.refl {F : Nat → Prop} {w w' : World} {B : Nat} {d : Dk} (h : DiskAt F w B d) (hb : Below w.heap.size w w') : Turn F B d w w' := ⟨F, h.below hb, fun g hg => .inl hg, fun g hg => hg, .of_below hb⟩
theorem secAt.off {F ex : Nat → Prop} {w w' : World} {v : Value} {b : Sec} (h : secAt F w v b) (ho : Off ex w w') (hn : ∀ g, ex g → ∀ cs, w.heap[g]? ≠ some (.cells cs 5 (0, 0))) : secAt F w' v b := by
  obtain ⟨g, c, rfl, hF, hl, h1⟩ := h
  exact ⟨g, c, rfl, hF, hl, ho.row h1 hn⟩
theorem DOk.key {d : Dk} (h : DOk d) {n : Int} (hn : d.there n = true) : 0 ≤ n ∧ n < d.n ∧ I64 n := by
  unfold Dk.there at hn
  have := h.n1
  simp at hn
  unfold I64
  omega
theorem bu_len {d : Dk} (h : DOk d) : d.bu.length ≤ 4096 := by
  have := asc_len (lo := 0) (hi := d.n) h.bu (fun p hp => ⟨(h.buR p hp).1, (h.buR p hp).2.1⟩) (by have := h.n0; omega)
  have := h.n1
  omega
theorem on_len {d : Dk} (h : DOk d) : d.on.length ≤ 4096 := by
  have := asc_len (lo := 0) (hi := d.n) h.on (fun p hp => ⟨(h.onR p hp).1, (h.onR p hp).2.1⟩) (by have := h.n0; omega)
  have := h.n1
  omega
theorem mapV.upd {w : World} {p : Nat} {vs : AM Value} (hmv : mapV w p vs) (hl : vs.length ≤ 5000) {k : Int} (hk : I64 k) (val : Value) : ∃ w', (Instr.mapUpdate 57 (.map (some p)) (.int .i64 k) val).run Try.prog w = .ok () w' ∧ mapV w' p (insm k val vs) ∧ w.grownBy w' (some p) := by
  obtain ⟨w', hrun, r1, r2⟩ := hmv.2.update A.keyed A.underM (by unfold maxLen; omega) (key_of hk) (show heldE val = some (.held val, []) from rfl)
  exact ⟨w', hrun, mapV.put hmv.1 r1, r2⟩
theorem wp_mapUpdate {w : World} {o : Oper} {a : Act} {K : Act → World → Prop} {Q : Exit → Act → World → Prop} (m x v : Operand) (hop : o.op = Op.mapUpdate 57 m x v) (p : Nat) (vs : AM Value) (hm : a.eval m = .map (some p)) (hmv : mapV w p vs) (hl : vs.length ≤ 5000)
    (k : Int) (hk : I64 k) (val : Value) (hx : a.eval x = .int .i64 k) (hv : a.eval v = val) (hK : ∀ w', mapV w' p (insm k val vs) → w.grownBy w' (some p) → K (a.put o.dst undef) w') : o.wp Try.prog a w K Q := by
  obtain ⟨w', hrun, r1, r2⟩ := hmv.2.update A.keyed A.underM (by unfold maxLen; omega) (key_of hk) (show heldE val = some (.held val, []) from rfl)
  unfold Oper.wp
  simp [execOp, hop, hm, hx, hv, hrun, Result.andThen]
  exact hK w' (mapV.put hmv.1 r1) r2
theorem wpList_mapUpdate {w : World} {ops : Array Oper} {rest : List Oper} {o : Oper} {a : Act} {Q : Exit → Act → World → Prop} (hg : o.guard = none) (m x v : Operand) (hop : o.op = Op.mapUpdate 57 m x v) (p : Nat) (vs : AM Value) (hm : a.eval m = .map (some p)) (hmv : mapV w p vs) (hl : vs.length ≤ 5000)
    (k : Int) (hk : I64 k) (val : Value) (hx : a.eval x = .int .i64 k) (hv : a.eval v = val) (hK : ∀ w', mapV w' p (insm k val vs) → w.grownBy w' (some p) → wpList Try.prog ops Q rest (a.put o.dst undef) w') : wpList Try.prog ops Q (o :: rest) a w :=
  wpList_plain hg fun K' hK' => wp_mapUpdate m x v hop p vs hm hmv hl k hk val hx hv fun w' h1 h2 => hK' _ _ (hK w' h1 h2)

/-! ### the functions -/
theorem A.sliceEqB (a : Addr) (n cap : Nat) (w : World) : (binOp .eql 22 (.slice (some a) n cap) (.slice none 0 0)).run Try.prog w = .ok (.bool false) w := by kernel_rfl
theorem c_CloneB (w : World) (v : Value) (b : Sec) (h : BtAt w v b) (hl : b.length = 128) : Calls Try.prog 27 #[v] w fun e w' => ∃ v', e = .returned v' ∧ RowB w' w.heap.size v' b ∧ Below w.heap.size w w' := by
  obtain ⟨g, o, c, rfl, h1⟩ := h.some (by omega)
  obtain ⟨a, ha⟩ : ∃ a, (⟨g, o, none⟩ : Addr) = a := ⟨_, rfl⟩
  rw [ha] at h1 ⊢
  have he := A.sliceEqB a b.length c
  obtain ⟨i0, hin, hz0, hz1, hz2⟩ := info_parts A.infoB
  have own0 : Hid ((w.alloc (.cells #[] 5)).ownsRow w.heap.size 5 1 (.slice (some ⟨w.heap.size, 0, none⟩) 0 0) 0 []) := by
    have h := World.ownsRow_made (base := w.heap.size) (size := 1) (e := 5) w #[] 0 (by simp) (by decide) (by simp)
    exact (by simpa using h : (w.alloc (.cells #[] 5)).ownsRow w.heap.size 5 1 (.slice (some ⟨w.heap.size, 0, none⟩) 0 0) 0 [])
  have HB := Lib.hid hl
  have HA := Lib.hid (below_al0 w (.cells #[] 5))
  have H1 : Hid (∀ j u, (bys b)[j]? = some u → (w.alloc (.cells #[] 5)).cell? (a.add j) = some u) := Lib.hid (fun j u hj => off_cell (ex := fun _ => False) (.of_below HA.out) (h1 j u hj) id)
  clear h1 hl ha
  go_enter Try.func27, Try.ntmps27
  go_wp2_with (first | (at_builtin; refine wpList_append_own _ rfl (.tmp 5) (.tmp 6) 22 rfl w.heap.size 5 i0 _ 1 1 A.underB hin hz0 hz1 hz2 rfl (by decide) _ 0 [] rfl own0.out a b.length c (bys b) rfl (by rw [bys_len, Nat.mul_one]) H1.out (bys_one b) (by have := HB.out; unfold maxLen; omega) (by have := HB.out; omega) (by simp) ?_; intro v' w4 hown hgrow hnil; rw [Nat.zero_add, List.nil_append] at hown; obtain ⟨ad', cap', hv', _, _⟩ := row_shape hown; subst hv'))
  go_ret
  exact ⟨_, rfl, hown, (below_al0 w _).grown hgrow (by simp) (fun k hk => by have := Option.some.inj hk; simp at this; omega)⟩
theorem A.mk128 (w : World) : (Instr.makeSlice 22 (.int .i64 128) (.int .i64 128)).run Try.prog w = .ok (.slice (some ⟨w.heap.size, 0, none⟩) 128 128) (w.alloc (.cells (bys zeros).toArray 5)) := by kernel_rfl
theorem row_zeros (w : World) (B : Nat) (hB : B ≤ w.heap.size) : (w.alloc (.cells (bys zeros).toArray 5)).ownsRow B 5 1 (.slice (some ⟨w.heap.size, 0, none⟩) 128 128) 128 (bys zeros) :=
  ⟨by simp [bys, zeros], .inr ⟨w.heap.size, 128, (bys zeros).toArray, rfl, hB, heap_alloc_new w _, Nat.le_refl _, by decide, by simp [bys, zeros], by simp [bys, zeros]⟩⟩
theorem c_there {F : Nat → Prop} (w : World) (B : Nat) (d : Dk) (n : Int) (h : DiskAt F w B d) : Calls Try.prog 25 #[.pointer (some ⟨B, 0, none⟩), .int .i64 n] w fun e w' => e = .returned (.bool (d.there n)) ∧ w = w' := by
  obtain ⟨p, q, vp, vq, h⟩ := h
  have c0 : w.cell? ⟨B, 0, none⟩ = some (.int .i64 d.n) := h.cell 0
  clear h
  unfold Dk.there
  by_cases h0 : 0 ≤ n
  · rw [decide_eq_true h0, Bool.true_and]
    go_enter Try.func25, Try.ntmps25
    go_wp2
    go_ret
    exact ⟨rfl, rfl⟩
  · rw [decide_eq_false h0, Bool.false_and]
    go_enter Try.func25, Try.ntmps25
    go_wp2
    go_ret
    exact ⟨rfl, rfl⟩
theorem c_Dead {F : Nat → Prop} (w : World) (B : Nat) (d : Dk) (h : DiskAt F w B d) : Calls Try.prog 24 #[.pointer (some ⟨B, 0, none⟩)] w fun e w' => e = .returned (.bool d.dead) ∧ w = w' := by
  obtain ⟨p, q, vp, vq, h⟩ := h
  have c0 : w.cell? ⟨B, 4, none⟩ = some (.bool d.dead) := h.cell 4
  clear h
  go_enter Try.func24, Try.ntmps24
  go_wp2
  go_ret
  exact ⟨rfl, rfl⟩
theorem c_on {F : Nat → Prop} (w : World) (B : Nat) (d : Dk) (n : Int) (h : DiskAt F w B d) (hn : I64 n) : Calls Try.prog 29 #[.pointer (some ⟨B, 0, none⟩), .int .i64 n] w fun e w' => ∃ v, e = .returned v ∧ RowB w' 0 v (d.onp n) ∧ Below w.heap.size w w' := by
  obtain ⟨p, q, vp, vq, h⟩ := h
  have c0 : w.cell? ⟨B, 1, none⟩ = some (.map (some p)) := h.cell 1
  have hl := h.mp.look hn true
  have hr := h.rp.get n
  unfold Dk.onp onOf
  clear h
  rcases hr with ⟨e1, e2⟩ | ⟨v, b, e1, e2, e3⟩
  · rw [e1] at hl
    rw [e2]
    clear e1 e2
    simp only [Option.getD_none, Option.isSome_none, if_true] at hl ⊢
    have hmk := A.mk128
    go_enter Try.func29, Try.ntmps29
    go_wp2
    go_ret
    exact ⟨_, rfl, row_zeros w 0 (Nat.zero_le _), below_al0 w _⟩
  · rw [e1] at hl
    rw [e2]
    have e3 := Lib.hid e3.row
    clear e1 e2
    simp only [Option.getD_some, Option.isSome_some, if_true] at hl ⊢
    go_enter Try.func29, Try.ntmps29
    go_wp2
    go_ret
    exact ⟨_, rfl, e3.out, Below.refl _ _⟩
theorem c_Ops {F : Nat → Prop} (w : World) (B : Nat) (d : Dk) (h : DiskAt F w B d) : Calls Try.prog 15 #[.pointer (some ⟨B, 0, none⟩)] w fun e w' => e = .returned (.int .i64 d.ops) ∧ w = w' := by
  obtain ⟨p, q, vp, vq, h⟩ := h
  have c0 : w.cell? ⟨B, 5, none⟩ = some (.int .i64 d.ops) := h.cell 5
  clear h
  go_enter Try.func15, Try.ntmps15
  go_wp2
  go_ret
  exact ⟨rfl, rfl⟩
theorem c_New_no (n : Int) (w : World) (h : ¬ (1 ≤ n ∧ n ≤ 4096)) : Calls Try.prog 9 #[.int .i64 n] w fun e w' => e = .returned (.tuple #[.pointer none, .int .i64 1]) ∧ w = w' := by
  by_cases h1 : 1 ≤ n
  · have h2 : ¬ n ≤ 4096 := fun x => h ⟨h1, x⟩
    clear h
    go_enter Try.func9, Try.ntmps9
    go_wp2
    go_ret2
    exact ⟨rfl, rfl⟩
  · clear h
    go_enter Try.func9, Try.ntmps9
    go_wp2
    go_ret2
    exact ⟨rfl, rfl⟩
theorem c_New (n : Int) (w : World) (h1 : 1 ≤ n) (h2 : n ≤ 4096) : Calls Try.prog 9 #[.int .i64 n] w fun e w' => ∃ B F, e = .returned (.tuple #[.pointer (some ⟨B, 0, none⟩), .int .i64 0]) ∧ DiskAt F w' B (Dk.new n) ∧ (∀ g, F g → w.heap.size ≤ g) ∧ Below w.heap.size w w' := by
  have hmm := @run_makeMap Try.prog
  go_enter Try.func9, Try.ntmps9
  go_wp2
  refine bodyPost_ret (v := .tuple #[.pointer (some ⟨w.heap.size + 1 + 1, 0, none⟩), .int .i64 0]) (by simp [results, Try.results9, go_sem]) rfl ⟨w.heap.size + 1 + 1, fun g => w.heap.size ≤ g ∧ g < w.heap.size + 3, rfl, ⟨w.heap.size, w.heap.size + 1, [], [], ?_⟩, fun g hg => hg.1, below_al (below_al (below_al0 w _) _) _⟩
  have m0 : mapV (w.alloc (.map #[] 0)) w.heap.size [] := mapV.new w
  have m1 : mapV ((w.alloc (.map #[] 0)).alloc (.map #[] 0)) (w.heap.size + 1) [] := by have h := mapV.new (w.alloc (.map #[] 0)); rw [World.size_alloc] at h; exact h
  have o2 := (Off.refl (fun _ => False) ((w.alloc (.map #[] 0)).alloc (.map #[] 0))).alloc (.cells #[.int .i64 n, .map (some w.heap.size), .map (some (w.heap.size + 1)), .int .i64 0, .bool false, .int .i64 0] 59)
  have o1 := (Off.refl (fun _ => False) (w.alloc (.map #[] 0))).alloc (.map #[] 0)
  refine ⟨?_, ⟨by omega, by omega⟩, ⟨by omega, by omega⟩, ⟨by omega, by omega⟩, by omega, (m0.eq (o1.block _ m0.lt id)).eq (o2.block _ (Nat.lt_of_lt_of_le m0.lt o1.size) id), m1.eq (o2.block _ m1.lt id), trivial, trivial, DOk.new h1 h2, (show I64 0 from ⟨by decide, by decide⟩), (show (0 : Int) ≤ 9223372036854775807 by decide), fun g hg => by simp; omega⟩
  have h := heap_alloc_new ((w.alloc (.map #[] 0)).alloc (.map #[] 0)) (.cells #[.int .i64 n, .map (some w.heap.size), .map (some (w.heap.size + 1)), .int .i64 0, .bool false, .int .i64 0] 59)
  rw [World.size_alloc, World.size_alloc] at h
  exact h
/-- the disk's own block turns -/
theorem DiskIn.set {F : Nat → Prop} {w w' : World} {B p q : Nat} {vp vq : AM Value} {d : Dk} (h : DiskIn F w B p q vp vq d) (ho : Off (· = B) w w') (l o : Int) (dd : Bool) (hl : 0 ≤ l) (hl2 : l ≤ 9223372036854775807) (h2 : I64 o)
    (hb : w'.heap[B]? = some (.cells (diskC { d with left := l, dead := dd, ops := o } p q) 59 (0, 0))) : DiskIn F w' B p q vp vq { d with left := l, dead := dd, ops := o } :=
  ⟨hb, h.fB, h.fp, h.fq, h.ne, h.mp.eq (ho.block p h.mp.lt h.neP), h.mq.eq (ho.block q h.mq.lt h.neQ),
    h.rp.map (fun _ _ x => x.off ho (by rintro g rfl cs hc; rw [h.blk] at hc; simp at hc)), h.rq.map (fun _ _ x => x.off ho (by rintro g rfl cs hc; rw [h.blk] at hc; simp at hc)),
    ⟨h.ok.n0, h.ok.n1, h.ok.on, h.ok.bu, h.ok.onR, h.ok.buR, hl⟩, h2, hl2, fun g hg => Nat.lt_of_lt_of_le (h.lt g hg) ho.size⟩
theorem wr64_in (n : Int) : I64 (wr64 n) := by unfold I64 wr64; omega
theorem c_spend {F : Nat → Prop} (w : World) (B p q : Nat) (vp vq : AM Value) (d : Dk) (h : DiskIn F w B p q vp vq d) (hd : d.dead = false) : Calls Try.prog 26 #[.pointer (some ⟨B, 0, none⟩)] w fun e w' => e = .returned (.int .i64 (if d.spend.2 then 0 else 12)) ∧ DiskIn F w' B p q vp vq d.spend.1 ∧ Off (· = B) w w' := by
  have c3 : w.cell? ⟨B, 3, none⟩ = some (.int .i64 d.left) := h.cell 3
  have c4 : w.cell? ⟨B, 4, none⟩ = some (.bool false) := by rw [← hd]; exact h.cell 4
  have c5 : w.cell? ⟨B, 5, none⟩ = some (.int .i64 d.ops) := h.cell 5
  have cf := fun j => h.free j
  have hl0 := h.ok.left
  have hl1 := h.left
  have H := Lib.hid h
  have HD := Lib.hid hd
  unfold Dk.spend
  clear h hd
  by_cases e1 : d.left = 1
  · rw [if_pos e1]
    rw [e1] at c3
    go_enter Try.func26, Try.ntmps26
    go_wp2
    go_ret
    have ho := (off1 w B 3 (.int .i64 0)).trans (off1 _ B 4 (.bool true))
    exact ⟨rfl, H.out.set ho 0 d.ops true (Int.le_refl _) (by omega) H.out.ops (by simp [World.setCell, Array.getElem?_modify, H.out.blk, diskC]), ho⟩
  · rw [if_neg e1]
    by_cases e0 : 0 < d.left
    · rw [if_pos e0]
      go_enter Try.func26, Try.ntmps26
      go_wp2
      go_ret
      have ho := ((off1 w B 3 (.int .i64 (d.left - 1))).trans (off1 _ B 4 (.bool false))).trans (off1 _ B 5 (.int .i64 (wrap64 (d.ops + 1))))
      exact ⟨rfl, H.out.set ho _ _ _ (by omega) (by omega) (wr64_in _) (by simp [World.setCell, Array.getElem?_modify, H.out.blk, diskC, HD.out, wr64, wrap64]), ho⟩
    · rw [if_neg e0]
      go_enter Try.func26, Try.ntmps26
      go_wp2
      go_ret
      have ho := off1 w B 5 (.int .i64 (wrap64 (d.ops + 1)))
      exact ⟨rfl, H.out.set ho _ _ _ hl0 hl1 (wr64_in _) (by simp [World.setCell, Array.getElem?_modify, H.out.blk, diskC, wr64, wrap64]), ho⟩
theorem c_Stop {F : Nat → Prop} (w : World) (B : Nat) (d : Dk) (n : Int) (h : DiskAt F w B d) (hn : I64 n) : Calls Try.prog 21 #[.pointer (some ⟨B, 0, none⟩), .int .i64 n] w fun e w' => e = .returned (.tuple #[]) ∧ Turn F B (d.stop n) w w' := by
  obtain ⟨p, q, vp, vq, h⟩ := h
  have c3 : w.cell? ⟨B, 3, none⟩ = some (.int .i64 d.left) := h.cell 3
  have cf := fun j => h.free j
  have H := Lib.hid h
  clear h
  have hL := H.out.ok
  have key : ∀ m, m = max n 0 → Turn F B (d.stop n) w (w.setCell ⟨B, 3, none⟩ (.int .i64 m)) := by
    rintro m rfl
    have ho := off1 w B 3 (.int .i64 (max n 0))
    have hn2 := hn.2
    exact ⟨F, ⟨p, q, vp, vq, H.out.set ho (max n 0) d.ops d.dead (by omega) (by omega) H.out.ops (by simp [World.setCell, Array.getElem?_modify, H.out.blk, diskC])⟩, fun g hg => .inl hg, fun g hg => hg, ho.mono (fun k _ hk => hk ▸ H.out.fB)⟩
  clear hL
  replace key := Lib.hid key
  go_enter Try.func21, Try.ntmps21
  go_wp2
  all_goals
    go_end0
    exact ⟨rfl, key.out _ (by omega)⟩
/-- what reading answers -/
def Rd (d : Dk) (n : Int) (w : World) (e : Ending) (w' : World) : Prop := ∃ v, e = .returned (.tuple #[v, .int .i64 (readE d n)]) ∧ (readE d n = 0 → RowB w' w.heap.size v (d.at n)) ∧ (readE d n ≠ 0 → v = .slice none 0 0) ∧ Below w.heap.size w w'
theorem Rd.no {d : Dk} {n k : Int} {w w' : World} (h : readE d n = k) (hk : k ≠ 0) (hb : Below w.heap.size w w') : Rd d n w (.returned (.tuple #[.slice none 0 0, .int .i64 k])) w' :=
  ⟨_, by rw [h], fun h0 => absurd (h.symm.trans h0) hk, fun _ => rfl, hb⟩
theorem Rd.yes {d : Dk} {n : Int} {v : Value} {w w' : World} (h : readE d n = 0) (hr : RowB w' w.heap.size v (d.at n)) (hb : Below w.heap.size w w') : Rd d n w (.returned (.tuple #[v, .int .i64 0])) w' :=
  ⟨_, by rw [h], fun _ => hr, fun h0 => absurd h h0, hb⟩
theorem c_Read {F : Nat → Prop} (w : World) (B : Nat) (d : Dk) (n : Int) (h : DiskAt F w B d) (hn : I64 n) : Calls Try.prog 12 #[.pointer (some ⟨B, 0, none⟩), .int .i64 n] w (Rd d n w) := by
  have h' := Lib.hid h
  obtain ⟨p, q, vp, vq, h⟩ := h
  have c4 : w.cell? ⟨B, 4, none⟩ = some (.bool d.dead) := h.cell 4
  have c2 : w.cell? ⟨B, 2, none⟩ = some (.map (some q)) := h.cell 2
  have hl := h.mq.look hn true
  have hr := h.rq.get n
  have ht : Hid (d.at n = (getm d.bu n).getD (d.onp n)) := Lib.hid rfl
  have h128 : Hid ((d.at n).length = 128) := Lib.hid (h.ok.atLen n)
  clear h
  cases hd : d.dead with
  | true =>
    have hE : Hid (readE d n = 12) := Lib.hid (by unfold readE; rw [hd]; rfl)
    rw [hd] at c4
    clear hd hl hr
    go_enter Try.func12, Try.ntmps12
    go_wp2
    go_ret2
    exact Rd.no hE.out (by decide) (Below.refl _ _)
  | false =>
    rw [hd] at c4
    cases hT : d.there n with
    | false =>
      have hE : Hid (readE d n = 1) := Lib.hid (by unfold readE; rw [hd, hT]; rfl)
      replace hT := Lib.hid hT
      clear hl hr hd
      go_enter Try.func12, Try.ntmps12
      go_wp2_with (first | (go_at_call 25; refine (c_there _ B d n h'.out).mono ?_; rintro e w1 ⟨rfl, rfl⟩; rw [hT.out]))
      go_ret2
      exact Rd.no hE.out (by decide) (Below.refl _ _)
    | true =>
      have hE : Hid (readE d n = 0) := Lib.hid (by unfold readE; rw [hd, hT]; rfl)
      replace hT := Lib.hid hT
      clear hd
      rcases hr with ⟨e1, e2⟩ | ⟨v, b, e1, e2, e3⟩
      · rw [e1] at hl
        have ht2 := ht.out
        rw [e2, Option.getD_none] at ht2
        have ht2 := Lib.hid ht2
        clear e1 e2 ht
        simp only [Option.getD_none, Option.isSome_none, if_true] at hl
        go_enter Try.func12, Try.ntmps12
        go_wp2_with (first | (go_at_call 25; refine (c_there _ B d n h'.out).mono ?_; rintro e w1 ⟨rfl, rfl⟩; rw [hT.out]) | (go_at_call 29; refine (c_on _ B d n h'.out hn).mono ?_; rintro e w1 ⟨v1, rfl, hv1, hb1⟩; have hv1 := Lib.hid hv1; have hb1 := Lib.hid hb1) | (go_at_call 27; refine (c_CloneB _ _ (d.onp n) hv1.out.bt (by rw [← ht2.out]; exact h128.out)).mono ?_; rintro e w2 ⟨v2, rfl, hv2, hb2⟩; have hv2 := Lib.hid hv2; have hb2 := Lib.hid hb2))
        go_ret2
        exact Rd.yes hE.out (by rw [ht2.out]; exact row_base hv2.out hb1.out.size) (below2 hb1.out hb2.out)
      · rw [e1] at hl
        have ht2 := ht.out
        rw [e2, Option.getD_some] at ht2
        have ht2 := Lib.hid ht2
        have e3 := Lib.hid e3
        clear e1 e2 ht
        simp only [Option.getD_some, Option.isSome_some, if_true] at hl
        go_enter Try.func12, Try.ntmps12
        go_wp2_with (first | (go_at_call 25; refine (c_there _ B d n h'.out).mono ?_; rintro e w1 ⟨rfl, rfl⟩; rw [hT.out]) | (go_at_call 27; refine (c_CloneB _ _ b e3.out.row.bt (by rw [← ht2.out]; exact h128.out)).mono ?_; rintro e w2 ⟨v2, rfl, hv2, hb2⟩; have hv2 := Lib.hid hv2; have hb2 := Lib.hid hb2))
        go_ret2
        exact Rd.yes hE.out (by rw [ht2.out]; exact hv2.out) hb2.out
end Go.Proofs.Ytnlemjjigiphcaa
