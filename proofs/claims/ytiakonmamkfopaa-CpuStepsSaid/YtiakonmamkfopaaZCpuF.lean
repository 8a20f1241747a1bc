/- The processor's run: a word is read, a word is written. -/
import Derived.Test.YtiakonmamkfopaaZCpuE
namespace Go.Proofs.Ytiakonmamkfopaa
open Go.RowKit Go.ChangeShapes
set_option linter.unusedVariables false
set_option maxRecDepth 100000
/-- a segment's mode -/
def Sg.has (g : Sg) (m : Int) : Bool := bits .and .i64 g.md m != 0
theorem row_ne {w : World} {B : Nat} {e ty : TypeId} {size n g N cap : Nat} {xs : List Value} {a0 a1 a2 a3 a4 a5 : Value} (h : w.ownsRow B e size (.slice (some ⟨g, 0, none⟩) n cap) n xs) (hb : blk6 w N ty a0 a1 a2 a3 a4 a5) (ht : e ≠ ty) : ¬ g = N := by
  rintro rfl
  rcases h.2 with ⟨hv, _⟩ | ⟨g', cap', cur, hv, _, hg, _⟩
  · cases hv
  · cases hv
    have h1 := (show w.heap[g]? = _ from hb).symm.trans hg
    simp only [Option.some.injEq, Obj.cells.injEq] at h1
    exact ht h1.2.1.symm
theorem off_cell {ex : Nat → Prop} {w w' : World} {a : Addr} {v : Value} (h : Off ex w w') (hc : w.cell? a = some v) (hn : ¬ ex a.block) : w'.cell? a = some v :=
  (World.cell?_of_block (h.block a.block (World.block_lt_of_cell? w a hc) hn)).trans hc
set_option maxHeartbeats 2000000 in
theorem c_read_none (w : World) (B R Y : Nat) (s : St) (stk : Value) (told : Bool) (out : Int) (M : List Sg) (op p n : Int) (hp0 : 0 ≤ p) (hp1 : p < 4) (hr : runAt w R s stk (memV Y) told out) (hm : MemOk w B Y M) (hk : seg? M (s.pt p.toNat).seg = none) :
    Calls Try.prog 55 #[.pointer (some ⟨R, 0, none⟩), .agg #[.int .i64 op, .int .i64 p, .int .i64 n]] w fun e w' => e = .panicked (flt 35) ∧ Below w.heap.size w w' := by
  go_enter Try.func55, Try.ntmps55
  go_wp2_with fail
  obtain ⟨W0, hW, b0, b1, hb, hsz⟩ := at_start w op p n
  rw [hW]
  have hr0 := hr.below hb
  have hm0 := hm.below hb
  have HB := Lib.hid hb
  have C1 := Lib.hid b1
  clear hW hr hm hb b1
  refine (c_at_none W0 B R Y s stk told out M op p n hp0 hp1 hr0 hm0 hk).mono ?_
  rintro e w1 ⟨rfl, hb⟩
  exact ⟨rfl, rfl, below2 HB.out hb⟩
set_option maxHeartbeats 2000000 in
theorem c_read_mode (w : World) (B R Y : Nat) (s : St) (stk : Value) (told : Bool) (out : Int) (M : List Sg) (op p n : Int) (hp0 : 0 ≤ p) (hp1 : p < 4) (hr : runAt w R s stk (memV Y) told out) (hm : MemOk w B Y M) (g : Sg) (off by_ : Int) (hk : seg? M (s.pt p.toNat).seg = some g) (hoff : IntKind.i64.wrap ((s.pt p.toNat).off + n) = off) (hby : max (s.pt p.toNat).ring s.ring = by_) (hq : (g.has 1 && mayRead g.r2 by_) = false) :
    Calls Try.prog 55 #[.pointer (some ⟨R, 0, none⟩), .agg #[.int .i64 op, .int .i64 p, .int .i64 n]] w fun e w' => e = .panicked (flt 31) ∧ Below w.heap.size w w' := by
  go_enter Try.func55, Try.ntmps55
  go_wp2_with fail
  obtain ⟨W0, hW, b0, b1, hb, hsz⟩ := at_start w op p n
  rw [hW]
  have hr0 := hr.below hb
  have hm0 := hm.below hb
  have HB := Lib.hid hb
  have C1 := Lib.hid b1
  clear hW hr hm hb b1
  refine (c_at_some W0 B R Y s stk told out M op p n g hp0 hp1 hr0 hm0 hk).mono ?_
  rintro e w1 ⟨u', rfl, ho, hb⟩
  obtain ⟨ad, cap, hv, had, hda⟩ := row_shape ho
  subst hv
  rw [hoff, hby]
  have HO := Lib.hid ho
  have C1 := Lib.hid (C1.out.below hb)
  have HB := Lib.hid (below2 HB.out hb)
  clear hb ho hr0 hm0 hk hp0 hp1 hsz b0 hoff hby
  unfold sgV
  have HA := fun o => Lib.hid (below_al0 w1 o)
  cases hq1 : g.has 1
  · unfold Sg.has at hq1
    clear hq
    go_wp2_with (first | (go_at_call 59; refine (c_must_no _ _).mono ?_; rintro e w2 ⟨rfl, rfl⟩))
    exact ⟨rfl, rfl, below_al HB.out _⟩
  · rw [hq1, Bool.true_and] at hq
    unfold Sg.has at hq1
    go_wp2_with (first | (go_at_call 79; refine (c_MayRead _ _ _ _ _ _).mono ?_; rintro e w2 ⟨rfl, hb2⟩; have hb2 := Lib.hid hb2; rw [hq]) | (go_at_call 59; refine (c_must_no _ _).mono ?_; rintro e w2 ⟨rfl, rfl⟩))
    exact ⟨rfl, rfl, below2 (below_al HB.out _) hb2.out⟩
set_option maxHeartbeats 2000000 in
theorem c_read_off (w : World) (B R Y : Nat) (s : St) (stk : Value) (told : Bool) (out : Int) (M : List Sg) (op p n : Int) (hp0 : 0 ≤ p) (hp1 : p < 4) (hr : runAt w R s stk (memV Y) told out) (hm : MemOk w B Y M) (g : Sg) (off by_ : Int) (hk : seg? M (s.pt p.toNat).seg = some g) (hoff : IntKind.i64.wrap ((s.pt p.toNat).off + n) = off) (hby : max (s.pt p.toNat).ring s.ring = by_) (hq0 : g.has 1 = true) (hq : mayRead g.r2 by_ = true) (hi : ¬ (0 ≤ off ∧ off < g.ws.length)) :
    Calls Try.prog 55 #[.pointer (some ⟨R, 0, none⟩), .agg #[.int .i64 op, .int .i64 p, .int .i64 n]] w fun e w' => e = .panicked (flt 35) ∧ Below w.heap.size w w' := by
  go_enter Try.func55, Try.ntmps55
  go_wp2_with fail
  obtain ⟨W0, hW, b0, b1, hb, hsz⟩ := at_start w op p n
  rw [hW]
  have hr0 := hr.below hb
  have hm0 := hm.below hb
  have HB := Lib.hid hb
  have C1 := Lib.hid b1
  clear hW hr hm hb b1
  refine (c_at_some W0 B R Y s stk told out M op p n g hp0 hp1 hr0 hm0 hk).mono ?_
  rintro e w1 ⟨u', rfl, ho, hb⟩
  obtain ⟨ad, cap, hv, had, hda⟩ := row_shape ho
  subst hv
  rw [hoff, hby]
  have HO := Lib.hid ho
  have C1 := Lib.hid (C1.out.below hb)
  have HB := Lib.hid (below2 HB.out hb)
  clear hb ho hr0 hm0 hk hp0 hp1 hsz b0 hoff hby
  unfold sgV
  have HA := fun o => Lib.hid (below_al0 w1 o)
  have hi : decide (0 ≤ off ∧ off < (g.ws.length : Int)) = false := decide_eq_false hi
  unfold Sg.has at hq0
  have x0 := Lib.hid (blk6.new w1 60 (.slice ad g.ws.length cap) (.int .i64 g.md) (.int .i64 g.r1) (.int .i64 g.r2) (.int .i64 g.r3) (.int .i64 g.g))
  go_wp2_with (first | (go_at_call 79; refine (c_MayRead _ _ _ _ _ _).mono ?_; rintro e w2 ⟨rfl, hb2⟩; have x1 := Lib.hid (x0.out.below hb2); obtain ⟨⟨r0, r1, r2, r3, r4, r5⟩, rf⟩ := x1.out.facts; have hb2 := Lib.hid hb2; rw [hq]) | (go_at_call 69; refine (c_in _ _ _ _ _ _ _ _ _ _).mono ?_; rintro e w3 ⟨rfl, hb3⟩; have hb3 := Lib.hid hb3; rw [hi]) | (go_at_call 59; refine (c_must _ _ _).mono ?_; rintro e w9 ⟨rfl, rfl⟩; simp only [if_true, Bool.false_eq_true, if_false]))
  exact ⟨rfl, rfl, below2 (below2 (below_al HB.out _) hb2.out) hb3.out⟩
set_option maxHeartbeats 2000000 in
theorem c_read_ok (w : World) (B R Y : Nat) (s : St) (stk : Value) (told : Bool) (out : Int) (M : List Sg) (op p n : Int) (hp0 : 0 ≤ p) (hp1 : p < 4) (hr : runAt w R s stk (memV Y) told out) (hm : MemOk w B Y M) (g : Sg) (K : Nat) (x by_ : Int) (hk : seg? M (s.pt p.toNat).seg = some g) (hoff : IntKind.i64.wrap ((s.pt p.toNat).off + n) = (K : Int)) (hby : max (s.pt p.toNat).ring s.ring = by_) (hq0 : g.has 1 = true) (hq : mayRead g.r2 by_ = true) (hx : g.ws[K]? = some x) :
    Calls Try.prog 55 #[.pointer (some ⟨R, 0, none⟩), .agg #[.int .i64 op, .int .i64 p, .int .i64 n]] w fun e w' => ∃ u', e = .returned (.tuple #[.int .i64 x, sgV u' g, .int .i64 by_]) ∧ w'.ownsRow B 2 1 u' g.ws.length (g.ws.map (Value.int .i64)) ∧ Below w.heap.size w w' := by
  go_enter Try.func55, Try.ntmps55
  go_wp2_with fail
  obtain ⟨W0, hW, b0, b1, hb, hsz⟩ := at_start w op p n
  rw [hW]
  have hr0 := hr.below hb
  have hm0 := hm.below hb
  have HB := Lib.hid hb
  have C1 := Lib.hid b1
  clear hW hr hm hb b1
  have hKl : K < g.ws.length := (List.getElem?_eq_some_iff.1 hx).1
  have hlen : 0 < g.ws.length := by omega
  refine (c_at_some W0 B R Y s stk told out M op p n g hp0 hp1 hr0 hm0 hk).mono ?_
  rintro e w1 ⟨u', rfl, ho, hb⟩
  obtain ⟨gu, cap, hv⟩ := row_some ho hlen
  subst hv
  rw [hoff, hby]
  have HO := Lib.hid ho
  have C1 := Lib.hid (C1.out.below hb)
  have HB := Lib.hid (below2 HB.out hb)
  clear hb ho hr0 hm0 hk hp0 hp1 hsz b0 hoff hby
  unfold sgV
  have hi : decide (0 ≤ (K : Int) ∧ (K : Int) < (g.ws.length : Int)) = true := decide_eq_true ⟨by omega, by omega⟩
  unfold Sg.has at hq0
  have x0 := Lib.hid (blk6.new w1 60 (.slice (some ⟨gu, 0, none⟩) g.ws.length cap) (.int .i64 g.md) (.int .i64 g.r1) (.int .i64 g.r2) (.int .i64 g.r3) (.int .i64 g.g))
  have hx := Lib.hid hx
  go_wp2_with (first | (go_at_call 79; refine (c_MayRead _ _ _ _ _ _).mono ?_; rintro e w2 ⟨rfl, hb2⟩; have x1 := Lib.hid (x0.out.below hb2); obtain ⟨⟨r0, r1, r2, r3, r4, r5⟩, rf⟩ := x1.out.facts; have hb2 := Lib.hid hb2; rw [hq]) | (go_at_call 69; refine (c_in _ _ _ _ _ _ _ _ _ _).mono ?_; rintro e w3 ⟨rfl, hb3⟩; have x2 := Lib.hid (x1.out.below hb3); have hb3 := Lib.hid hb3; rw [hi]) | (go_at_call 59; refine (c_must _ _ _).mono ?_; rintro e w9 ⟨rfl, rfl⟩; simp only [if_true]))
  have hB9 : Below w1.heap.size w1 w9 := below2 (below2 (below_al0 _ _) hb2.out) hb3.out
  have c1 := C1.out.below hB9
  have ho9 := Off.row (ex := fun _ => False) (.of_below hB9) HO.out (fun _ h => h.elim)
  have hN1 : w.heap.size + 1 < w1.heap.size := C1.out.lt
  have hgN := row_ne ho9 c1 (by decide)
  have hx9 := x2.out
  obtain ⟨_, hcell⟩ := row_cell ho9 K (x := .int .i64 x) (by rw [List.getElem?_map, hx.out]; rfl)
  have kg : ∀ w', Off (· = w.heap.size + 1) w9 w' → w'.cell? ⟨gu, K, none⟩ = some (.int .i64 x) := fun w' h => off_cell h hcell hgN
  have k0 : ∀ w', Off (· = w.heap.size + 1) w9 w' → w'.cell? ⟨w1.heap.size, 0, none⟩ = some (.slice (some ⟨gu, 0, none⟩) g.ws.length cap) := fun w' h => (hx9.off h (by omega)).facts.1.1
  have k1 : ∀ w', Off (· = w.heap.size + 1) w9 w' → w'.cell? ⟨w1.heap.size, 1, none⟩ = some (.int .i64 g.md) := fun w' h => (hx9.off h (by omega)).facts.1.2.1
  have k2 : ∀ w', Off (· = w.heap.size + 1) w9 w' → w'.cell? ⟨w1.heap.size, 2, none⟩ = some (.int .i64 g.r1) := fun w' h => (hx9.off h (by omega)).facts.1.2.2.1
  have k3 : ∀ w', Off (· = w.heap.size + 1) w9 w' → w'.cell? ⟨w1.heap.size, 3, none⟩ = some (.int .i64 g.r2) := fun w' h => (hx9.off h (by omega)).facts.1.2.2.2.1
  have k4 : ∀ w', Off (· = w.heap.size + 1) w9 w' → w'.cell? ⟨w1.heap.size, 4, none⟩ = some (.int .i64 g.r3) := fun w' h => (hx9.off h (by omega)).facts.1.2.2.2.2.1
  have k5 : ∀ w', Off (· = w.heap.size + 1) w9 w' → w'.cell? ⟨w1.heap.size, 5, none⟩ = some (.int .i64 g.g) := fun w' h => (hx9.off h (by omega)).facts.1.2.2.2.2.2
  have hres := Lib.hid c1
  have ho9 := Lib.hid ho9
  have hB9 := Lib.hid (below2 HB.out hB9)
  obtain ⟨⟨d0, d1, d2, d3, d4, d5⟩, df⟩ := hres.out.facts
  clear r0 r1 r2 r3 r4 r5 rf x0 x1 x2 hb2 hb3 hx9 c1 hcell hq0 hq hi C1 hgN
  go_region_held3 (fun w' => Off (· = w.heap.size + 1) w9 w')
    ((repeat (with_reducible first | refine Off.setCell ?_ (by simp) _ | refine Off.alloc ?_ _ | refine Off.drew ?_ | exact Off.refl _ _)))
    ((first | fail))
  all_goals
    go_wp2
    have hs := set6 hres.out (.slice (some ⟨gu, 0, none⟩) g.ws.length cap) (.int .i64 g.md) (.int .i64 g.r1) (.int .i64 g.r2) (.int .i64 g.r3) (.int .i64 g.g)
    have hof := off6 (w1 := w9) (N := w.heap.size + 1) (.slice (some ⟨gu, 0, none⟩) g.ws.length cap) (.int .i64 g.md) (.int .i64 g.r1) (.int .i64 g.r2) (.int .i64 g.r3) (.int .i64 g.g)
    clear d0 d1 d2 d3 d4 d5 df kg k0 k1 k2 k3 k4 k5
    generalize ((((((w9.setCell ⟨w.heap.size + 1, 0, none⟩ (.slice (some ⟨gu, 0, none⟩) g.ws.length cap)).setCell ⟨w.heap.size + 1, 1, none⟩ (.int .i64 g.md)).setCell ⟨w.heap.size + 1, 2, none⟩ (.int .i64 g.r1)).setCell ⟨w.heap.size + 1, 3, none⟩ (.int .i64 g.r2)).setCell ⟨w.heap.size + 1, 4, none⟩ (.int .i64 g.r3)).setCell ⟨w.heap.size + 1, 5, none⟩ (.int .i64 g.g)) = W2 at hs hof ⊢
    obtain ⟨⟨q0, q1, q2, q3, q4, q5⟩, _⟩ := blk6.facts (w := W2.drew) hs
    refine bodyPost_ret (v := .tuple #[.int .i64 x, sgV (.slice (some ⟨gu, 0, none⟩) g.ws.length cap) g, .int .i64 by_]) (by simp [sgV, results, Try.results55, go_sem, q0, q1, q2, q3, q4, q5]) rfl ⟨_, rfl, ?_, ?_⟩
    · exact hof.row ho9.out (by rintro k rfl cs h; have h := (show w9.heap[w.heap.size + 1]? = _ from hres.out).symm.trans h; simp at h)
    · exact below_drew (hof.below hB9.out hB9.out.size (fun k hk => by omega))
end Go.Proofs.Ytiakonmamkfopaa
