/- The processor's run: where an instruction's pointer leads. -/
import Derived.Test.YtiakonmamkfopaaZTk
import Derived.Test.YtiakonmamkfopaaZCpuD
namespace Go.Proofs.Ytiakonmamkfopaa
open Go.RowKit Go.ChangeShapes
set_option linter.unusedVariables false
set_option maxRecDepth 100000
/-- block N holds three cells -/
def blk3 (w : World) (N : Nat) (ty : TypeId) (a0 a1 a2 : Value) : Prop := w.heap[N]? = some (.cells #[a0, a1, a2] ty (0, 0))
theorem blk3.facts {w : World} {N : Nat} {ty : TypeId} {a0 a1 a2 : Value} (h : blk3 w N ty a0 a1 a2) : (w.cell? ⟨N, 0, none⟩ = some a0 ∧ w.cell? ⟨N, 1, none⟩ = some a1 ∧ w.cell? ⟨N, 2, none⟩ = some a2) ∧ ∀ j, w.frozen? ⟨N, j, none⟩ = false :=
  ⟨⟨cell_of_row w N 0 _ _ _ h, cell_of_row w N 1 _ _ _ h, cell_of_row w N 2 _ _ _ h⟩, fun j => by simp [World.frozen?, show w.heap[N]? = _ from h]⟩
theorem blk3.lt {w : World} {N : Nat} {ty : TypeId} {a0 a1 a2 : Value} (h : blk3 w N ty a0 a1 a2) : N < w.heap.size := by
  rcases Nat.lt_or_ge N w.heap.size with hlt | hge
  · exact hlt
  · unfold blk3 at h; rw [Array.getElem?_eq_none hge] at h; cases h
theorem blk3.off {w w' : World} {ex : Nat → Prop} {N : Nat} {ty : TypeId} {a0 a1 a2 : Value} (h : blk3 w N ty a0 a1 a2) (hb : Off ex w w') (hn : ¬ ex N) : blk3 w' N ty a0 a1 a2 := hb.keeps h hn
theorem blk6.off {w w' : World} {ex : Nat → Prop} {N : Nat} {ty : TypeId} {a0 a1 a2 a3 a4 a5 : Value} (h : blk6 w N ty a0 a1 a2 a3 a4 a5) (hb : Off ex w w') (hn : ¬ ex N) : blk6 w' N ty a0 a1 a2 a3 a4 a5 := hb.keeps h hn
theorem blk3.new (w : World) (ty : TypeId) (a0 a1 a2 : Value) : blk3 (w.alloc (.cells #[a0, a1, a2] ty)) w.heap.size ty a0 a1 a2 := heap_alloc_new w _
/-- where an instruction's pointer leads -/
def St.pt (s : St) : Nat → Pt
  | 0 => s.p0
  | 1 => s.p1
  | 2 => s.p2
  | _ => s.p3
theorem at_start (w : World) (op p n : Int) : ∃ W, ((w.alloc (.cells #[.int .i64 op, .int .i64 p, .int .i64 n] 64)).alloc (.cells #[.slice none 0 0, .int .i64 0, .int .i64 0, .int .i64 0, .int .i64 0, .int .i64 0] 60)) = W ∧
    blk3 W w.heap.size 64 (.int .i64 op) (.int .i64 p) (.int .i64 n) ∧ blk6 W (w.heap.size + 1) 60 (.slice none 0 0) (.int .i64 0) (.int .i64 0) (.int .i64 0) (.int .i64 0) (.int .i64 0) ∧ Below w.heap.size w W ∧ W.heap.size = w.heap.size + 2 := by
  refine ⟨_, rfl, ?_, ?_, below_al (below_al0 _ _) _, by simp⟩
  · exact blk3.off (ex := fun _ => False) (blk3.new _ _ _ _ _) (.of_below (below_al0 _ _)) id
  · have h := blk6.new (w.alloc (.cells #[.int .i64 op, .int .i64 p, .int .i64 n] 64)) 60 (.slice none 0 0) (.int .i64 0) (.int .i64 0) (.int .i64 0) (.int .i64 0) (.int .i64 0)
    simpa using h
theorem at_mid {w W0 : World} {op p n : Int} (N : Nat) (hN : N < W0.heap.size) (q : Pt) (b0 : blk3 W0 N 64 (.int .i64 op) (.int .i64 p) (.int .i64 n)) (b1 : blk6 W0 (N + 1) 60 (.slice none 0 0) (.int .i64 0) (.int .i64 0) (.int .i64 0) (.int .i64 0) (.int .i64 0)) (hsz : W0.heap.size = N + 2) (hb : Below w.heap.size w W0) :
    ∃ W, (W0.alloc (.cells #[.int .i64 q.seg, .int .i64 q.off, .int .i64 q.ring] 24)).drew = W ∧ blk3 W N 64 (.int .i64 op) (.int .i64 p) (.int .i64 n) ∧ blk6 W (N + 1) 60 (.slice none 0 0) (.int .i64 0) (.int .i64 0) (.int .i64 0) (.int .i64 0) (.int .i64 0) ∧ blk3 W (N + 2) 24 (.int .i64 q.seg) (.int .i64 q.off) (.int .i64 q.ring) ∧ Below w.heap.size w W ∧ Below W0.heap.size W0 W ∧ W.heap.size = N + 3 := by
  have h : Off (fun _ => False) W0 (W0.alloc (.cells #[.int .i64 q.seg, .int .i64 q.off, .int .i64 q.ring] 24)).drew := ((Off.refl _ _).alloc _).drew
  refine ⟨_, rfl, b0.off h id, b1.off h id, ?_, below_drew (below_al hb _), below_drew (below_al0 _ _), by simpa using hsz⟩
  have h3 := blk3.new W0 24 (.int .i64 q.seg) (.int .i64 q.off) (.int .i64 q.ring)
  rw [hsz] at h3
  exact h3
theorem six_max (a b : Int) : (if b < a then a else b) = max a b := by omega
theorem c_at_some0 (w : World) (B R Y : Nat) (s : St) (stk : Value) (told : Bool) (out : Int) (M : List Sg) (op n : Int) (g : Sg) (hr : runAt w R s stk (memV Y) told out) (hm : MemOk w B Y M) (hk : seg? M s.p0.seg = some g) :
    Calls Try.prog 78 #[.pointer (some ⟨R, 0, none⟩), .agg #[.int .i64 op, .int .i64 0, .int .i64 n]] w fun e w' => ∃ u', e = .returned (.tuple #[sgV u' g, .int .i64 (IntKind.i64.wrap (s.p0.off + n)), .int .i64 (max s.p0.ring s.ring)]) ∧ w'.ownsRow B 2 1 u' g.ws.length (g.ws.map (Value.int .i64)) ∧ Below w.heap.size w w' := by
  go_enter Try.func78, Try.ntmps78
  go_wp2
  obtain ⟨W0, hW, b0, b1, hb, hsz⟩ := at_start w op 0 n
  rw [hW]
  have hr0 := hr.below hb
  have hm0 := Lib.hid (hm.below hb)
  have HB := Lib.hid hb
  have hR0 := hr0.lt
  have HK := Lib.hid hk
  have kop : ∀ w', Off (fun _ => False) W0 w' → w'.cell? ⟨w.heap.size, 1, none⟩ = some (.int .i64 0) := fun w' h => (b0.off h id).facts.1.2.1
  have k4 : ∀ w', Off (fun _ => False) W0 w' → w'.cell? ⟨R, 4, none⟩ = some (.int .i64 s.p0.seg) := fun w' h => (show runAt w' R s stk (memV Y) told out from h.keeps hr0 id).cell 4
  have k5 : ∀ w', Off (fun _ => False) W0 w' → w'.cell? ⟨R, 5, none⟩ = some (.int .i64 s.p0.off) := fun w' h => (show runAt w' R s stk (memV Y) told out from h.keeps hr0 id).cell 5
  have k6 : ∀ w', Off (fun _ => False) W0 w' → w'.cell? ⟨R, 6, none⟩ = some (.int .i64 s.p0.ring) := fun w' h => (show runAt w' R s stk (memV Y) told out from h.keeps hr0 id).cell 6
  have HR := Lib.hid hr0
  clear hW hr hm hb hr0 hk
  go_region_held3 (fun w' => Off (fun _ => False) W0 w')
    ((repeat (with_reducible first | refine Off.setCell ?_ (Or.inr (by simp)) _ | refine Off.alloc ?_ _ | refine Off.drew ?_ | exact Off.refl _ _)))
    ((first | fail))
  go_wp2
  obtain ⟨W, hW, c0, c1, c2, hb, hb0, hsz⟩ := at_mid (op := op) (p := 0) (n := n) w.heap.size (by omega) s.p0 b0 b1 hsz HB.out
  rw [hW]
  have hr0 := HR.out.below hb0
  have hm0 := Lib.hid (hm0.out.below hb0)
  clear kop k4 k5 k6 hW hR0
  have hR0 := hr0.lt
  have hRN : R ≠ w.heap.size + 1 := fun h => by
    have h1 := show W.heap[w.heap.size + 1]? = _ from c1
    rw [← h, show W.heap[R]? = _ from hr0] at h1
    simp [runC] at h1
  have j1 : ∀ w', Off (· = w.heap.size + 1) W w' → w'.cell? ⟨w.heap.size + 2, 0, none⟩ = some (.int .i64 s.p0.seg) := fun w' h => (c2.off h (by omega)).facts.1.1
  have j2 : ∀ w', Off (· = w.heap.size + 1) W w' → w'.cell? ⟨w.heap.size + 2, 1, none⟩ = some (.int .i64 s.p0.off) := fun w' h => (c2.off h (by omega)).facts.1.2.1
  have j3 : ∀ w', Off (· = w.heap.size + 1) W w' → w'.cell? ⟨w.heap.size + 2, 2, none⟩ = some (.int .i64 s.p0.ring) := fun w' h => (c2.off h (by omega)).facts.1.2.2
  have j4 : ∀ w', Off (· = w.heap.size + 1) W w' → w'.cell? ⟨w.heap.size, 2, none⟩ = some (.int .i64 n) := fun w' h => (c0.off h (by omega)).facts.1.2.2
  have j5 : ∀ w', Off (· = w.heap.size + 1) W w' → w'.cell? ⟨R, 2, none⟩ = some (.int .i64 s.ring) := fun w' h => (show runAt w' R s stk (memV Y) told out from h.keeps hr0 hRN).cell 2
  have HB := Lib.hid hb
  have HR := Lib.hid hr0
  have C1 := Lib.hid c1
  clear hb hb0 hr0 c0 c2 b0 b1 c1 hRN
  have jm := six_max
  go_region_held3 (fun w' => Off (· = w.heap.size + 1) W w')
    ((repeat (with_reducible first | refine Off.setCell ?_ (by simp) _ | refine Off.alloc ?_ _ | refine Off.drew ?_ | exact HO.out | exact Off.refl _ _)))
    ((first
      | (go_at_call 67; refine (c_segment_some W.drew B R Y s stk told out M _ g HR.out (MemOk.below hm0.out (below_drew (Below.refl _ _))) HK.out).mono ?_; rintro e w1 ⟨u', rfl, ho, hb⟩; obtain ⟨ad, cap, hv, _, _⟩ := row_shape ho; subst hv; have ho := Lib.hid ho; have HO : Hid (Off (· = w.heap.size + 1) W w1) := (Off.refl _ W).drew.trans (Off.of_below hb); have hres := Lib.hid (blk6.below (w := W.drew) C1.out hb); have hb := Lib.hid hb; unfold sgV; obtain ⟨⟨r0, r1, r2, r3, r4, r5⟩, rf⟩ := hres.out.facts)))
  all_goals
    go_wp2
    have hs := set6 hres.out (.slice ad g.ws.length cap) (.int .i64 g.md) (.int .i64 g.r1) (.int .i64 g.r2) (.int .i64 g.r3) (.int .i64 g.g)
    have hof := off6 (w1 := w1) (N := w.heap.size + 1) (.slice ad g.ws.length cap) (.int .i64 g.md) (.int .i64 g.r1) (.int .i64 g.r2) (.int .i64 g.r3) (.int .i64 g.g)
    clear r0 r1 r2 r3 r4 r5 rf
    generalize ((((((w1.setCell ⟨w.heap.size + 1, 0, none⟩ (.slice ad g.ws.length cap)).setCell ⟨w.heap.size + 1, 1, none⟩ (.int .i64 g.md)).setCell ⟨w.heap.size + 1, 2, none⟩ (.int .i64 g.r1)).setCell ⟨w.heap.size + 1, 3, none⟩ (.int .i64 g.r2)).setCell ⟨w.heap.size + 1, 4, none⟩ (.int .i64 g.r3)).setCell ⟨w.heap.size + 1, 5, none⟩ (.int .i64 g.g)) = W2 at hs hof ⊢
    obtain ⟨⟨q0, q1, q2, q3, q4, q5⟩, _⟩ := blk6.facts hs
    refine bodyPost_ret (v := .tuple #[sgV (.slice ad g.ws.length cap) g, .int .i64 (IntKind.i64.wrap (s.p0.off + n)), .int .i64 (max s.p0.ring s.ring)]) (by simp [sgV, results, Try.results78, go_sem, q0, q1, q2, q3, q4, q5]) rfl ⟨_, rfl, ?_, ?_⟩
    · exact hof.row ho.out (by rintro k rfl cs h; have h := (show w1.heap[w.heap.size + 1]? = _ from hres.out).symm.trans h; simp at h)
    · exact hof.below (below2 (below_drew HB.out) hb.out) (below2 (below_drew HB.out) hb.out).size (fun k hk => by omega)
theorem c_at_none0 (w : World) (B R Y : Nat) (s : St) (stk : Value) (told : Bool) (out : Int) (M : List Sg) (op n : Int) (hr : runAt w R s stk (memV Y) told out) (hm : MemOk w B Y M) (hk : seg? M s.p0.seg = none) :
    Calls Try.prog 78 #[.pointer (some ⟨R, 0, none⟩), .agg #[.int .i64 op, .int .i64 0, .int .i64 n]] w fun e w' => e = .panicked (flt 35) ∧ Below w.heap.size w w' := by
  go_enter Try.func78, Try.ntmps78
  go_wp2
  obtain ⟨W0, hW, b0, b1, hb, hsz⟩ := at_start w op 0 n
  rw [hW]
  have hr0 := hr.below hb
  have hm0 := Lib.hid (hm.below hb)
  have HB := Lib.hid hb
  have hR0 := hr0.lt
  have HK := Lib.hid hk
  have kop : ∀ w', Off (fun _ => False) W0 w' → w'.cell? ⟨w.heap.size, 1, none⟩ = some (.int .i64 0) := fun w' h => (b0.off h id).facts.1.2.1
  have k4 : ∀ w', Off (fun _ => False) W0 w' → w'.cell? ⟨R, 4, none⟩ = some (.int .i64 s.p0.seg) := fun w' h => (show runAt w' R s stk (memV Y) told out from h.keeps hr0 id).cell 4
  have k5 : ∀ w', Off (fun _ => False) W0 w' → w'.cell? ⟨R, 5, none⟩ = some (.int .i64 s.p0.off) := fun w' h => (show runAt w' R s stk (memV Y) told out from h.keeps hr0 id).cell 5
  have k6 : ∀ w', Off (fun _ => False) W0 w' → w'.cell? ⟨R, 6, none⟩ = some (.int .i64 s.p0.ring) := fun w' h => (show runAt w' R s stk (memV Y) told out from h.keeps hr0 id).cell 6
  have HR := Lib.hid hr0
  clear hW hr hm hb hr0 hk
  go_region_held3 (fun w' => Off (fun _ => False) W0 w')
    ((repeat (with_reducible first | refine Off.setCell ?_ (Or.inr (by simp)) _ | refine Off.alloc ?_ _ | refine Off.drew ?_ | exact Off.refl _ _)))
    ((first | fail))
  go_wp2
  obtain ⟨W, hW, c0, c1, c2, hb, hb0, hsz⟩ := at_mid (op := op) (p := 0) (n := n) w.heap.size (by omega) s.p0 b0 b1 hsz HB.out
  rw [hW]
  have hr0 := HR.out.below hb0
  have hm0 := Lib.hid (hm0.out.below hb0)
  clear kop k4 k5 k6 hW hR0
  have hR0 := hr0.lt
  have hRN : R ≠ w.heap.size + 1 := fun h => by
    have h1 := show W.heap[w.heap.size + 1]? = _ from c1
    rw [← h, show W.heap[R]? = _ from hr0] at h1
    simp [runC] at h1
  have j1 : ∀ w', Off (· = w.heap.size + 1) W w' → w'.cell? ⟨w.heap.size + 2, 0, none⟩ = some (.int .i64 s.p0.seg) := fun w' h => (c2.off h (by omega)).facts.1.1
  have j2 : ∀ w', Off (· = w.heap.size + 1) W w' → w'.cell? ⟨w.heap.size + 2, 1, none⟩ = some (.int .i64 s.p0.off) := fun w' h => (c2.off h (by omega)).facts.1.2.1
  have j3 : ∀ w', Off (· = w.heap.size + 1) W w' → w'.cell? ⟨w.heap.size + 2, 2, none⟩ = some (.int .i64 s.p0.ring) := fun w' h => (c2.off h (by omega)).facts.1.2.2
  have j4 : ∀ w', Off (· = w.heap.size + 1) W w' → w'.cell? ⟨w.heap.size, 2, none⟩ = some (.int .i64 n) := fun w' h => (c0.off h (by omega)).facts.1.2.2
  have j5 : ∀ w', Off (· = w.heap.size + 1) W w' → w'.cell? ⟨R, 2, none⟩ = some (.int .i64 s.ring) := fun w' h => (show runAt w' R s stk (memV Y) told out from h.keeps hr0 hRN).cell 2
  have HB := Lib.hid hb
  have HR := Lib.hid hr0
  have C1 := Lib.hid c1
  clear hb hb0 hr0 c0 c2 b0 b1 c1 hRN
  have jm := six_max
  refine wp_region_held_drew (S := fun w' => Off (· = w.heap.size + 1) W w') (by kernel_rfl) (Off.drew (Off.refl _ _)) (fun hHeld => ?_)
  refine tkA 0 ?_
  try simp only [Act.put, sA, sB, sC]
  refine tkA 1 ?_
  try simp only [Act.put, sA, sB, sC]
  refine tkA 2 ?_
  try simp only [Act.put, sA, sB, sC]
  refine tkA 4 ?_
  try simp only [Act.put, sA, sB, sC]
  refine tkA 5 ?_
  try simp only [Act.put, sA, sB, sC]
  refine tkA 6 ?_
  try simp only [Act.put, sA, sB, sC]
  refine tkA 7 ?_
  try simp only [Act.put, sA, sB, sC]
  refine tkA 8 ?_
  try simp only [Act.put, sA, sB, sC]
  refine tkA 9 ?_
  try simp only [Act.put, sA, sB, sC]
  refine tkA 10 ?_
  try simp only [Act.put, sA, sB, sC]
  refine tkA 11 ?_
  try simp only [Act.put, sA, sB, sC]
  refine tkA 12 ?_
  try simp only [Act.put, sA, sB, sC]
  refine tkA 13 ?_
  try simp only [Act.put, sA, sB, sC]
  refine tkA 14 ?_
  try simp only [Act.put, sA, sB, sC]
  refine tkA 15 ?_
  try simp only [Act.put, sA, sB, sC]
  refine tkA 16 ?_
  try simp only [Act.put, sA, sB, sC]
  refine rdA 3 (fun K hK => ?_)
  go_simp
  refine (c_segment_none W.drew B R Y s stk told out M _ HR.out (MemOk.below hm0.out (below_drew (Below.refl _ _))) HK.out).mono ?_
  rintro e w1 ⟨rfl, hb⟩
  exact ⟨rfl, rfl, below2 (below_drew HB.out) hb⟩
theorem c_at_some1 (w : World) (B R Y : Nat) (s : St) (stk : Value) (told : Bool) (out : Int) (M : List Sg) (op n : Int) (g : Sg) (hr : runAt w R s stk (memV Y) told out) (hm : MemOk w B Y M) (hk : seg? M s.p1.seg = some g) :
    Calls Try.prog 78 #[.pointer (some ⟨R, 0, none⟩), .agg #[.int .i64 op, .int .i64 1, .int .i64 n]] w fun e w' => ∃ u', e = .returned (.tuple #[sgV u' g, .int .i64 (IntKind.i64.wrap (s.p1.off + n)), .int .i64 (max s.p1.ring s.ring)]) ∧ w'.ownsRow B 2 1 u' g.ws.length (g.ws.map (Value.int .i64)) ∧ Below w.heap.size w w' := by
  go_enter Try.func78, Try.ntmps78
  go_wp2
  obtain ⟨W0, hW, b0, b1, hb, hsz⟩ := at_start w op 1 n
  rw [hW]
  have hr0 := hr.below hb
  have hm0 := Lib.hid (hm.below hb)
  have HB := Lib.hid hb
  have hR0 := hr0.lt
  have HK := Lib.hid hk
  have kop : ∀ w', Off (fun _ => False) W0 w' → w'.cell? ⟨w.heap.size, 1, none⟩ = some (.int .i64 1) := fun w' h => (b0.off h id).facts.1.2.1
  have k4 : ∀ w', Off (fun _ => False) W0 w' → w'.cell? ⟨R, 7, none⟩ = some (.int .i64 s.p1.seg) := fun w' h => (show runAt w' R s stk (memV Y) told out from h.keeps hr0 id).cell 7
  have k5 : ∀ w', Off (fun _ => False) W0 w' → w'.cell? ⟨R, 8, none⟩ = some (.int .i64 s.p1.off) := fun w' h => (show runAt w' R s stk (memV Y) told out from h.keeps hr0 id).cell 8
  have k6 : ∀ w', Off (fun _ => False) W0 w' → w'.cell? ⟨R, 9, none⟩ = some (.int .i64 s.p1.ring) := fun w' h => (show runAt w' R s stk (memV Y) told out from h.keeps hr0 id).cell 9
  have HR := Lib.hid hr0
  clear hW hr hm hb hr0 hk
  go_region_held3 (fun w' => Off (fun _ => False) W0 w')
    ((repeat (with_reducible first | refine Off.setCell ?_ (Or.inr (by simp)) _ | refine Off.alloc ?_ _ | refine Off.drew ?_ | exact Off.refl _ _)))
    ((first | fail))
  go_wp2
  obtain ⟨W, hW, c0, c1, c2, hb, hb0, hsz⟩ := at_mid (op := op) (p := 1) (n := n) w.heap.size (by omega) s.p1 b0 b1 hsz HB.out
  rw [hW]
  have hr0 := HR.out.below hb0
  have hm0 := Lib.hid (hm0.out.below hb0)
  clear kop k4 k5 k6 hW hR0
  have hR0 := hr0.lt
  have hRN : R ≠ w.heap.size + 1 := fun h => by
    have h1 := show W.heap[w.heap.size + 1]? = _ from c1
    rw [← h, show W.heap[R]? = _ from hr0] at h1
    simp [runC] at h1
  have j1 : ∀ w', Off (· = w.heap.size + 1) W w' → w'.cell? ⟨w.heap.size + 2, 0, none⟩ = some (.int .i64 s.p1.seg) := fun w' h => (c2.off h (by omega)).facts.1.1
  have j2 : ∀ w', Off (· = w.heap.size + 1) W w' → w'.cell? ⟨w.heap.size + 2, 1, none⟩ = some (.int .i64 s.p1.off) := fun w' h => (c2.off h (by omega)).facts.1.2.1
  have j3 : ∀ w', Off (· = w.heap.size + 1) W w' → w'.cell? ⟨w.heap.size + 2, 2, none⟩ = some (.int .i64 s.p1.ring) := fun w' h => (c2.off h (by omega)).facts.1.2.2
  have j4 : ∀ w', Off (· = w.heap.size + 1) W w' → w'.cell? ⟨w.heap.size, 2, none⟩ = some (.int .i64 n) := fun w' h => (c0.off h (by omega)).facts.1.2.2
  have j5 : ∀ w', Off (· = w.heap.size + 1) W w' → w'.cell? ⟨R, 2, none⟩ = some (.int .i64 s.ring) := fun w' h => (show runAt w' R s stk (memV Y) told out from h.keeps hr0 hRN).cell 2
  have HB := Lib.hid hb
  have HR := Lib.hid hr0
  have C1 := Lib.hid c1
  clear hb hb0 hr0 c0 c2 b0 b1 c1 hRN
  have jm := six_max
  go_region_held3 (fun w' => Off (· = w.heap.size + 1) W w')
    ((repeat (with_reducible first | refine Off.setCell ?_ (by simp) _ | refine Off.alloc ?_ _ | refine Off.drew ?_ | exact HO.out | exact Off.refl _ _)))
    ((first
      | (go_at_call 67; refine (c_segment_some W.drew B R Y s stk told out M _ g HR.out (MemOk.below hm0.out (below_drew (Below.refl _ _))) HK.out).mono ?_; rintro e w1 ⟨u', rfl, ho, hb⟩; obtain ⟨ad, cap, hv, _, _⟩ := row_shape ho; subst hv; have ho := Lib.hid ho; have HO : Hid (Off (· = w.heap.size + 1) W w1) := (Off.refl _ W).drew.trans (Off.of_below hb); have hres := Lib.hid (blk6.below (w := W.drew) C1.out hb); have hb := Lib.hid hb; unfold sgV; obtain ⟨⟨r0, r1, r2, r3, r4, r5⟩, rf⟩ := hres.out.facts)))
  all_goals
    go_wp2
    have hs := set6 hres.out (.slice ad g.ws.length cap) (.int .i64 g.md) (.int .i64 g.r1) (.int .i64 g.r2) (.int .i64 g.r3) (.int .i64 g.g)
    have hof := off6 (w1 := w1) (N := w.heap.size + 1) (.slice ad g.ws.length cap) (.int .i64 g.md) (.int .i64 g.r1) (.int .i64 g.r2) (.int .i64 g.r3) (.int .i64 g.g)
    clear r0 r1 r2 r3 r4 r5 rf
    generalize ((((((w1.setCell ⟨w.heap.size + 1, 0, none⟩ (.slice ad g.ws.length cap)).setCell ⟨w.heap.size + 1, 1, none⟩ (.int .i64 g.md)).setCell ⟨w.heap.size + 1, 2, none⟩ (.int .i64 g.r1)).setCell ⟨w.heap.size + 1, 3, none⟩ (.int .i64 g.r2)).setCell ⟨w.heap.size + 1, 4, none⟩ (.int .i64 g.r3)).setCell ⟨w.heap.size + 1, 5, none⟩ (.int .i64 g.g)) = W2 at hs hof ⊢
    obtain ⟨⟨q0, q1, q2, q3, q4, q5⟩, _⟩ := blk6.facts hs
    refine bodyPost_ret (v := .tuple #[sgV (.slice ad g.ws.length cap) g, .int .i64 (IntKind.i64.wrap (s.p1.off + n)), .int .i64 (max s.p1.ring s.ring)]) (by simp [sgV, results, Try.results78, go_sem, q0, q1, q2, q3, q4, q5]) rfl ⟨_, rfl, ?_, ?_⟩
    · exact hof.row ho.out (by rintro k rfl cs h; have h := (show w1.heap[w.heap.size + 1]? = _ from hres.out).symm.trans h; simp at h)
    · exact hof.below (below2 (below_drew HB.out) hb.out) (below2 (below_drew HB.out) hb.out).size (fun k hk => by omega)
theorem c_at_none1 (w : World) (B R Y : Nat) (s : St) (stk : Value) (told : Bool) (out : Int) (M : List Sg) (op n : Int) (hr : runAt w R s stk (memV Y) told out) (hm : MemOk w B Y M) (hk : seg? M s.p1.seg = none) :
    Calls Try.prog 78 #[.pointer (some ⟨R, 0, none⟩), .agg #[.int .i64 op, .int .i64 1, .int .i64 n]] w fun e w' => e = .panicked (flt 35) ∧ Below w.heap.size w w' := by
  go_enter Try.func78, Try.ntmps78
  go_wp2
  obtain ⟨W0, hW, b0, b1, hb, hsz⟩ := at_start w op 1 n
  rw [hW]
  have hr0 := hr.below hb
  have hm0 := Lib.hid (hm.below hb)
  have HB := Lib.hid hb
  have hR0 := hr0.lt
  have HK := Lib.hid hk
  have kop : ∀ w', Off (fun _ => False) W0 w' → w'.cell? ⟨w.heap.size, 1, none⟩ = some (.int .i64 1) := fun w' h => (b0.off h id).facts.1.2.1
  have k4 : ∀ w', Off (fun _ => False) W0 w' → w'.cell? ⟨R, 7, none⟩ = some (.int .i64 s.p1.seg) := fun w' h => (show runAt w' R s stk (memV Y) told out from h.keeps hr0 id).cell 7
  have k5 : ∀ w', Off (fun _ => False) W0 w' → w'.cell? ⟨R, 8, none⟩ = some (.int .i64 s.p1.off) := fun w' h => (show runAt w' R s stk (memV Y) told out from h.keeps hr0 id).cell 8
  have k6 : ∀ w', Off (fun _ => False) W0 w' → w'.cell? ⟨R, 9, none⟩ = some (.int .i64 s.p1.ring) := fun w' h => (show runAt w' R s stk (memV Y) told out from h.keeps hr0 id).cell 9
  have HR := Lib.hid hr0
  clear hW hr hm hb hr0 hk
  go_region_held3 (fun w' => Off (fun _ => False) W0 w')
    ((repeat (with_reducible first | refine Off.setCell ?_ (Or.inr (by simp)) _ | refine Off.alloc ?_ _ | refine Off.drew ?_ | exact Off.refl _ _)))
    ((first | fail))
  go_wp2
  obtain ⟨W, hW, c0, c1, c2, hb, hb0, hsz⟩ := at_mid (op := op) (p := 1) (n := n) w.heap.size (by omega) s.p1 b0 b1 hsz HB.out
  rw [hW]
  have hr0 := HR.out.below hb0
  have hm0 := Lib.hid (hm0.out.below hb0)
  clear kop k4 k5 k6 hW hR0
  have hR0 := hr0.lt
  have hRN : R ≠ w.heap.size + 1 := fun h => by
    have h1 := show W.heap[w.heap.size + 1]? = _ from c1
    rw [← h, show W.heap[R]? = _ from hr0] at h1
    simp [runC] at h1
  have j1 : ∀ w', Off (· = w.heap.size + 1) W w' → w'.cell? ⟨w.heap.size + 2, 0, none⟩ = some (.int .i64 s.p1.seg) := fun w' h => (c2.off h (by omega)).facts.1.1
  have j2 : ∀ w', Off (· = w.heap.size + 1) W w' → w'.cell? ⟨w.heap.size + 2, 1, none⟩ = some (.int .i64 s.p1.off) := fun w' h => (c2.off h (by omega)).facts.1.2.1
  have j3 : ∀ w', Off (· = w.heap.size + 1) W w' → w'.cell? ⟨w.heap.size + 2, 2, none⟩ = some (.int .i64 s.p1.ring) := fun w' h => (c2.off h (by omega)).facts.1.2.2
  have j4 : ∀ w', Off (· = w.heap.size + 1) W w' → w'.cell? ⟨w.heap.size, 2, none⟩ = some (.int .i64 n) := fun w' h => (c0.off h (by omega)).facts.1.2.2
  have j5 : ∀ w', Off (· = w.heap.size + 1) W w' → w'.cell? ⟨R, 2, none⟩ = some (.int .i64 s.ring) := fun w' h => (show runAt w' R s stk (memV Y) told out from h.keeps hr0 hRN).cell 2
  have HB := Lib.hid hb
  have HR := Lib.hid hr0
  have C1 := Lib.hid c1
  clear hb hb0 hr0 c0 c2 b0 b1 c1 hRN
  have jm := six_max
  refine wp_region_held_drew (S := fun w' => Off (· = w.heap.size + 1) W w') (by kernel_rfl) (Off.drew (Off.refl _ _)) (fun hHeld => ?_)
  refine tkA 0 ?_
  try simp only [Act.put, sA, sB, sC]
  refine tkA 1 ?_
  try simp only [Act.put, sA, sB, sC]
  refine tkA 2 ?_
  try simp only [Act.put, sA, sB, sC]
  refine tkA 4 ?_
  try simp only [Act.put, sA, sB, sC]
  refine tkA 5 ?_
  try simp only [Act.put, sA, sB, sC]
  refine tkA 6 ?_
  try simp only [Act.put, sA, sB, sC]
  refine tkA 7 ?_
  try simp only [Act.put, sA, sB, sC]
  refine tkA 8 ?_
  try simp only [Act.put, sA, sB, sC]
  refine tkA 9 ?_
  try simp only [Act.put, sA, sB, sC]
  refine tkA 10 ?_
  try simp only [Act.put, sA, sB, sC]
  refine tkA 11 ?_
  try simp only [Act.put, sA, sB, sC]
  refine tkA 12 ?_
  try simp only [Act.put, sA, sB, sC]
  refine tkA 13 ?_
  try simp only [Act.put, sA, sB, sC]
  refine tkA 14 ?_
  try simp only [Act.put, sA, sB, sC]
  refine tkA 15 ?_
  try simp only [Act.put, sA, sB, sC]
  refine tkA 16 ?_
  try simp only [Act.put, sA, sB, sC]
  refine rdA 3 (fun K hK => ?_)
  go_simp
  refine (c_segment_none W.drew B R Y s stk told out M _ HR.out (MemOk.below hm0.out (below_drew (Below.refl _ _))) HK.out).mono ?_
  rintro e w1 ⟨rfl, hb⟩
  exact ⟨rfl, rfl, below2 (below_drew HB.out) hb⟩
theorem c_at_some2 (w : World) (B R Y : Nat) (s : St) (stk : Value) (told : Bool) (out : Int) (M : List Sg) (op n : Int) (g : Sg) (hr : runAt w R s stk (memV Y) told out) (hm : MemOk w B Y M) (hk : seg? M s.p2.seg = some g) :
    Calls Try.prog 78 #[.pointer (some ⟨R, 0, none⟩), .agg #[.int .i64 op, .int .i64 2, .int .i64 n]] w fun e w' => ∃ u', e = .returned (.tuple #[sgV u' g, .int .i64 (IntKind.i64.wrap (s.p2.off + n)), .int .i64 (max s.p2.ring s.ring)]) ∧ w'.ownsRow B 2 1 u' g.ws.length (g.ws.map (Value.int .i64)) ∧ Below w.heap.size w w' := by
  go_enter Try.func78, Try.ntmps78
  go_wp2
  obtain ⟨W0, hW, b0, b1, hb, hsz⟩ := at_start w op 2 n
  rw [hW]
  have hr0 := hr.below hb
  have hm0 := Lib.hid (hm.below hb)
  have HB := Lib.hid hb
  have hR0 := hr0.lt
  have HK := Lib.hid hk
  have kop : ∀ w', Off (fun _ => False) W0 w' → w'.cell? ⟨w.heap.size, 1, none⟩ = some (.int .i64 2) := fun w' h => (b0.off h id).facts.1.2.1
  have k4 : ∀ w', Off (fun _ => False) W0 w' → w'.cell? ⟨R, 10, none⟩ = some (.int .i64 s.p2.seg) := fun w' h => (show runAt w' R s stk (memV Y) told out from h.keeps hr0 id).cell 10
  have k5 : ∀ w', Off (fun _ => False) W0 w' → w'.cell? ⟨R, 11, none⟩ = some (.int .i64 s.p2.off) := fun w' h => (show runAt w' R s stk (memV Y) told out from h.keeps hr0 id).cell 11
  have k6 : ∀ w', Off (fun _ => False) W0 w' → w'.cell? ⟨R, 12, none⟩ = some (.int .i64 s.p2.ring) := fun w' h => (show runAt w' R s stk (memV Y) told out from h.keeps hr0 id).cell 12
  have HR := Lib.hid hr0
  clear hW hr hm hb hr0 hk
  go_region_held3 (fun w' => Off (fun _ => False) W0 w')
    ((repeat (with_reducible first | refine Off.setCell ?_ (Or.inr (by simp)) _ | refine Off.alloc ?_ _ | refine Off.drew ?_ | exact Off.refl _ _)))
    ((first | fail))
  go_wp2
  obtain ⟨W, hW, c0, c1, c2, hb, hb0, hsz⟩ := at_mid (op := op) (p := 2) (n := n) w.heap.size (by omega) s.p2 b0 b1 hsz HB.out
  rw [hW]
  have hr0 := HR.out.below hb0
  have hm0 := Lib.hid (hm0.out.below hb0)
  clear kop k4 k5 k6 hW hR0
  have hR0 := hr0.lt
  have hRN : R ≠ w.heap.size + 1 := fun h => by
    have h1 := show W.heap[w.heap.size + 1]? = _ from c1
    rw [← h, show W.heap[R]? = _ from hr0] at h1
    simp [runC] at h1
  have j1 : ∀ w', Off (· = w.heap.size + 1) W w' → w'.cell? ⟨w.heap.size + 2, 0, none⟩ = some (.int .i64 s.p2.seg) := fun w' h => (c2.off h (by omega)).facts.1.1
  have j2 : ∀ w', Off (· = w.heap.size + 1) W w' → w'.cell? ⟨w.heap.size + 2, 1, none⟩ = some (.int .i64 s.p2.off) := fun w' h => (c2.off h (by omega)).facts.1.2.1
  have j3 : ∀ w', Off (· = w.heap.size + 1) W w' → w'.cell? ⟨w.heap.size + 2, 2, none⟩ = some (.int .i64 s.p2.ring) := fun w' h => (c2.off h (by omega)).facts.1.2.2
  have j4 : ∀ w', Off (· = w.heap.size + 1) W w' → w'.cell? ⟨w.heap.size, 2, none⟩ = some (.int .i64 n) := fun w' h => (c0.off h (by omega)).facts.1.2.2
  have j5 : ∀ w', Off (· = w.heap.size + 1) W w' → w'.cell? ⟨R, 2, none⟩ = some (.int .i64 s.ring) := fun w' h => (show runAt w' R s stk (memV Y) told out from h.keeps hr0 hRN).cell 2
  have HB := Lib.hid hb
  have HR := Lib.hid hr0
  have C1 := Lib.hid c1
  clear hb hb0 hr0 c0 c2 b0 b1 c1 hRN
  have jm := six_max
  go_region_held3 (fun w' => Off (· = w.heap.size + 1) W w')
    ((repeat (with_reducible first | refine Off.setCell ?_ (by simp) _ | refine Off.alloc ?_ _ | refine Off.drew ?_ | exact HO.out | exact Off.refl _ _)))
    ((first
      | (go_at_call 67; refine (c_segment_some W.drew B R Y s stk told out M _ g HR.out (MemOk.below hm0.out (below_drew (Below.refl _ _))) HK.out).mono ?_; rintro e w1 ⟨u', rfl, ho, hb⟩; obtain ⟨ad, cap, hv, _, _⟩ := row_shape ho; subst hv; have ho := Lib.hid ho; have HO : Hid (Off (· = w.heap.size + 1) W w1) := (Off.refl _ W).drew.trans (Off.of_below hb); have hres := Lib.hid (blk6.below (w := W.drew) C1.out hb); have hb := Lib.hid hb; unfold sgV; obtain ⟨⟨r0, r1, r2, r3, r4, r5⟩, rf⟩ := hres.out.facts)))
  all_goals
    go_wp2
    have hs := set6 hres.out (.slice ad g.ws.length cap) (.int .i64 g.md) (.int .i64 g.r1) (.int .i64 g.r2) (.int .i64 g.r3) (.int .i64 g.g)
    have hof := off6 (w1 := w1) (N := w.heap.size + 1) (.slice ad g.ws.length cap) (.int .i64 g.md) (.int .i64 g.r1) (.int .i64 g.r2) (.int .i64 g.r3) (.int .i64 g.g)
    clear r0 r1 r2 r3 r4 r5 rf
    generalize ((((((w1.setCell ⟨w.heap.size + 1, 0, none⟩ (.slice ad g.ws.length cap)).setCell ⟨w.heap.size + 1, 1, none⟩ (.int .i64 g.md)).setCell ⟨w.heap.size + 1, 2, none⟩ (.int .i64 g.r1)).setCell ⟨w.heap.size + 1, 3, none⟩ (.int .i64 g.r2)).setCell ⟨w.heap.size + 1, 4, none⟩ (.int .i64 g.r3)).setCell ⟨w.heap.size + 1, 5, none⟩ (.int .i64 g.g)) = W2 at hs hof ⊢
    obtain ⟨⟨q0, q1, q2, q3, q4, q5⟩, _⟩ := blk6.facts hs
    refine bodyPost_ret (v := .tuple #[sgV (.slice ad g.ws.length cap) g, .int .i64 (IntKind.i64.wrap (s.p2.off + n)), .int .i64 (max s.p2.ring s.ring)]) (by simp [sgV, results, Try.results78, go_sem, q0, q1, q2, q3, q4, q5]) rfl ⟨_, rfl, ?_, ?_⟩
    · exact hof.row ho.out (by rintro k rfl cs h; have h := (show w1.heap[w.heap.size + 1]? = _ from hres.out).symm.trans h; simp at h)
    · exact hof.below (below2 (below_drew HB.out) hb.out) (below2 (below_drew HB.out) hb.out).size (fun k hk => by omega)
theorem c_at_none2 (w : World) (B R Y : Nat) (s : St) (stk : Value) (told : Bool) (out : Int) (M : List Sg) (op n : Int) (hr : runAt w R s stk (memV Y) told out) (hm : MemOk w B Y M) (hk : seg? M s.p2.seg = none) :
    Calls Try.prog 78 #[.pointer (some ⟨R, 0, none⟩), .agg #[.int .i64 op, .int .i64 2, .int .i64 n]] w fun e w' => e = .panicked (flt 35) ∧ Below w.heap.size w w' := by
  go_enter Try.func78, Try.ntmps78
  go_wp2
  obtain ⟨W0, hW, b0, b1, hb, hsz⟩ := at_start w op 2 n
  rw [hW]
  have hr0 := hr.below hb
  have hm0 := Lib.hid (hm.below hb)
  have HB := Lib.hid hb
  have hR0 := hr0.lt
  have HK := Lib.hid hk
  have kop : ∀ w', Off (fun _ => False) W0 w' → w'.cell? ⟨w.heap.size, 1, none⟩ = some (.int .i64 2) := fun w' h => (b0.off h id).facts.1.2.1
  have k4 : ∀ w', Off (fun _ => False) W0 w' → w'.cell? ⟨R, 10, none⟩ = some (.int .i64 s.p2.seg) := fun w' h => (show runAt w' R s stk (memV Y) told out from h.keeps hr0 id).cell 10
  have k5 : ∀ w', Off (fun _ => False) W0 w' → w'.cell? ⟨R, 11, none⟩ = some (.int .i64 s.p2.off) := fun w' h => (show runAt w' R s stk (memV Y) told out from h.keeps hr0 id).cell 11
  have k6 : ∀ w', Off (fun _ => False) W0 w' → w'.cell? ⟨R, 12, none⟩ = some (.int .i64 s.p2.ring) := fun w' h => (show runAt w' R s stk (memV Y) told out from h.keeps hr0 id).cell 12
  have HR := Lib.hid hr0
  clear hW hr hm hb hr0 hk
  go_region_held3 (fun w' => Off (fun _ => False) W0 w')
    ((repeat (with_reducible first | refine Off.setCell ?_ (Or.inr (by simp)) _ | refine Off.alloc ?_ _ | refine Off.drew ?_ | exact Off.refl _ _)))
    ((first | fail))
  go_wp2
  obtain ⟨W, hW, c0, c1, c2, hb, hb0, hsz⟩ := at_mid (op := op) (p := 2) (n := n) w.heap.size (by omega) s.p2 b0 b1 hsz HB.out
  rw [hW]
  have hr0 := HR.out.below hb0
  have hm0 := Lib.hid (hm0.out.below hb0)
  clear kop k4 k5 k6 hW hR0
  have hR0 := hr0.lt
  have hRN : R ≠ w.heap.size + 1 := fun h => by
    have h1 := show W.heap[w.heap.size + 1]? = _ from c1
    rw [← h, show W.heap[R]? = _ from hr0] at h1
    simp [runC] at h1
  have j1 : ∀ w', Off (· = w.heap.size + 1) W w' → w'.cell? ⟨w.heap.size + 2, 0, none⟩ = some (.int .i64 s.p2.seg) := fun w' h => (c2.off h (by omega)).facts.1.1
  have j2 : ∀ w', Off (· = w.heap.size + 1) W w' → w'.cell? ⟨w.heap.size + 2, 1, none⟩ = some (.int .i64 s.p2.off) := fun w' h => (c2.off h (by omega)).facts.1.2.1
  have j3 : ∀ w', Off (· = w.heap.size + 1) W w' → w'.cell? ⟨w.heap.size + 2, 2, none⟩ = some (.int .i64 s.p2.ring) := fun w' h => (c2.off h (by omega)).facts.1.2.2
  have j4 : ∀ w', Off (· = w.heap.size + 1) W w' → w'.cell? ⟨w.heap.size, 2, none⟩ = some (.int .i64 n) := fun w' h => (c0.off h (by omega)).facts.1.2.2
  have j5 : ∀ w', Off (· = w.heap.size + 1) W w' → w'.cell? ⟨R, 2, none⟩ = some (.int .i64 s.ring) := fun w' h => (show runAt w' R s stk (memV Y) told out from h.keeps hr0 hRN).cell 2
  have HB := Lib.hid hb
  have HR := Lib.hid hr0
  have C1 := Lib.hid c1
  clear hb hb0 hr0 c0 c2 b0 b1 c1 hRN
  have jm := six_max
  refine wp_region_held_drew (S := fun w' => Off (· = w.heap.size + 1) W w') (by kernel_rfl) (Off.drew (Off.refl _ _)) (fun hHeld => ?_)
  refine tkA 0 ?_
  try simp only [Act.put, sA, sB, sC]
  refine tkA 1 ?_
  try simp only [Act.put, sA, sB, sC]
  refine tkA 2 ?_
  try simp only [Act.put, sA, sB, sC]
  refine tkA 4 ?_
  try simp only [Act.put, sA, sB, sC]
  refine tkA 5 ?_
  try simp only [Act.put, sA, sB, sC]
  refine tkA 6 ?_
  try simp only [Act.put, sA, sB, sC]
  refine tkA 7 ?_
  try simp only [Act.put, sA, sB, sC]
  refine tkA 8 ?_
  try simp only [Act.put, sA, sB, sC]
  refine tkA 9 ?_
  try simp only [Act.put, sA, sB, sC]
  refine tkA 10 ?_
  try simp only [Act.put, sA, sB, sC]
  refine tkA 11 ?_
  try simp only [Act.put, sA, sB, sC]
  refine tkA 12 ?_
  try simp only [Act.put, sA, sB, sC]
  refine tkA 13 ?_
  try simp only [Act.put, sA, sB, sC]
  refine tkA 14 ?_
  try simp only [Act.put, sA, sB, sC]
  refine tkA 15 ?_
  try simp only [Act.put, sA, sB, sC]
  refine tkA 16 ?_
  try simp only [Act.put, sA, sB, sC]
  refine rdA 3 (fun K hK => ?_)
  go_simp
  refine (c_segment_none W.drew B R Y s stk told out M _ HR.out (MemOk.below hm0.out (below_drew (Below.refl _ _))) HK.out).mono ?_
  rintro e w1 ⟨rfl, hb⟩
  exact ⟨rfl, rfl, below2 (below_drew HB.out) hb⟩
theorem c_at_some3 (w : World) (B R Y : Nat) (s : St) (stk : Value) (told : Bool) (out : Int) (M : List Sg) (op n : Int) (g : Sg) (hr : runAt w R s stk (memV Y) told out) (hm : MemOk w B Y M) (hk : seg? M s.p3.seg = some g) :
    Calls Try.prog 78 #[.pointer (some ⟨R, 0, none⟩), .agg #[.int .i64 op, .int .i64 3, .int .i64 n]] w fun e w' => ∃ u', e = .returned (.tuple #[sgV u' g, .int .i64 (IntKind.i64.wrap (s.p3.off + n)), .int .i64 (max s.p3.ring s.ring)]) ∧ w'.ownsRow B 2 1 u' g.ws.length (g.ws.map (Value.int .i64)) ∧ Below w.heap.size w w' := by
  go_enter Try.func78, Try.ntmps78
  go_wp2
  obtain ⟨W0, hW, b0, b1, hb, hsz⟩ := at_start w op 3 n
  rw [hW]
  have hr0 := hr.below hb
  have hm0 := Lib.hid (hm.below hb)
  have HB := Lib.hid hb
  have hR0 := hr0.lt
  have HK := Lib.hid hk
  have kop : ∀ w', Off (fun _ => False) W0 w' → w'.cell? ⟨w.heap.size, 1, none⟩ = some (.int .i64 3) := fun w' h => (b0.off h id).facts.1.2.1
  have k4 : ∀ w', Off (fun _ => False) W0 w' → w'.cell? ⟨R, 13, none⟩ = some (.int .i64 s.p3.seg) := fun w' h => (show runAt w' R s stk (memV Y) told out from h.keeps hr0 id).cell 13
  have k5 : ∀ w', Off (fun _ => False) W0 w' → w'.cell? ⟨R, 14, none⟩ = some (.int .i64 s.p3.off) := fun w' h => (show runAt w' R s stk (memV Y) told out from h.keeps hr0 id).cell 14
  have k6 : ∀ w', Off (fun _ => False) W0 w' → w'.cell? ⟨R, 15, none⟩ = some (.int .i64 s.p3.ring) := fun w' h => (show runAt w' R s stk (memV Y) told out from h.keeps hr0 id).cell 15
  have HR := Lib.hid hr0
  clear hW hr hm hb hr0 hk
  go_region_held3 (fun w' => Off (fun _ => False) W0 w')
    ((repeat (with_reducible first | refine Off.setCell ?_ (Or.inr (by simp)) _ | refine Off.alloc ?_ _ | refine Off.drew ?_ | exact Off.refl _ _)))
    ((first | fail))
  go_wp2
  obtain ⟨W, hW, c0, c1, c2, hb, hb0, hsz⟩ := at_mid (op := op) (p := 3) (n := n) w.heap.size (by omega) s.p3 b0 b1 hsz HB.out
  rw [hW]
  have hr0 := HR.out.below hb0
  have hm0 := Lib.hid (hm0.out.below hb0)
  clear kop k4 k5 k6 hW hR0
  have hR0 := hr0.lt
  have hRN : R ≠ w.heap.size + 1 := fun h => by
    have h1 := show W.heap[w.heap.size + 1]? = _ from c1
    rw [← h, show W.heap[R]? = _ from hr0] at h1
    simp [runC] at h1
  have j1 : ∀ w', Off (· = w.heap.size + 1) W w' → w'.cell? ⟨w.heap.size + 2, 0, none⟩ = some (.int .i64 s.p3.seg) := fun w' h => (c2.off h (by omega)).facts.1.1
  have j2 : ∀ w', Off (· = w.heap.size + 1) W w' → w'.cell? ⟨w.heap.size + 2, 1, none⟩ = some (.int .i64 s.p3.off) := fun w' h => (c2.off h (by omega)).facts.1.2.1
  have j3 : ∀ w', Off (· = w.heap.size + 1) W w' → w'.cell? ⟨w.heap.size + 2, 2, none⟩ = some (.int .i64 s.p3.ring) := fun w' h => (c2.off h (by omega)).facts.1.2.2
  have j4 : ∀ w', Off (· = w.heap.size + 1) W w' → w'.cell? ⟨w.heap.size, 2, none⟩ = some (.int .i64 n) := fun w' h => (c0.off h (by omega)).facts.1.2.2
  have j5 : ∀ w', Off (· = w.heap.size + 1) W w' → w'.cell? ⟨R, 2, none⟩ = some (.int .i64 s.ring) := fun w' h => (show runAt w' R s stk (memV Y) told out from h.keeps hr0 hRN).cell 2
  have HB := Lib.hid hb
  have HR := Lib.hid hr0
  have C1 := Lib.hid c1
  clear hb hb0 hr0 c0 c2 b0 b1 c1 hRN
  have jm := six_max
  go_region_held3 (fun w' => Off (· = w.heap.size + 1) W w')
    ((repeat (with_reducible first | refine Off.setCell ?_ (by simp) _ | refine Off.alloc ?_ _ | refine Off.drew ?_ | exact HO.out | exact Off.refl _ _)))
    ((first
      | (go_at_call 67; refine (c_segment_some W.drew B R Y s stk told out M _ g HR.out (MemOk.below hm0.out (below_drew (Below.refl _ _))) HK.out).mono ?_; rintro e w1 ⟨u', rfl, ho, hb⟩; obtain ⟨ad, cap, hv, _, _⟩ := row_shape ho; subst hv; have ho := Lib.hid ho; have HO : Hid (Off (· = w.heap.size + 1) W w1) := (Off.refl _ W).drew.trans (Off.of_below hb); have hres := Lib.hid (blk6.below (w := W.drew) C1.out hb); have hb := Lib.hid hb; unfold sgV; obtain ⟨⟨r0, r1, r2, r3, r4, r5⟩, rf⟩ := hres.out.facts)))
  all_goals
    go_wp2
    have hs := set6 hres.out (.slice ad g.ws.length cap) (.int .i64 g.md) (.int .i64 g.r1) (.int .i64 g.r2) (.int .i64 g.r3) (.int .i64 g.g)
    have hof := off6 (w1 := w1) (N := w.heap.size + 1) (.slice ad g.ws.length cap) (.int .i64 g.md) (.int .i64 g.r1) (.int .i64 g.r2) (.int .i64 g.r3) (.int .i64 g.g)
    clear r0 r1 r2 r3 r4 r5 rf
    generalize ((((((w1.setCell ⟨w.heap.size + 1, 0, none⟩ (.slice ad g.ws.length cap)).setCell ⟨w.heap.size + 1, 1, none⟩ (.int .i64 g.md)).setCell ⟨w.heap.size + 1, 2, none⟩ (.int .i64 g.r1)).setCell ⟨w.heap.size + 1, 3, none⟩ (.int .i64 g.r2)).setCell ⟨w.heap.size + 1, 4, none⟩ (.int .i64 g.r3)).setCell ⟨w.heap.size + 1, 5, none⟩ (.int .i64 g.g)) = W2 at hs hof ⊢
    obtain ⟨⟨q0, q1, q2, q3, q4, q5⟩, _⟩ := blk6.facts hs
    refine bodyPost_ret (v := .tuple #[sgV (.slice ad g.ws.length cap) g, .int .i64 (IntKind.i64.wrap (s.p3.off + n)), .int .i64 (max s.p3.ring s.ring)]) (by simp [sgV, results, Try.results78, go_sem, q0, q1, q2, q3, q4, q5]) rfl ⟨_, rfl, ?_, ?_⟩
    · exact hof.row ho.out (by rintro k rfl cs h; have h := (show w1.heap[w.heap.size + 1]? = _ from hres.out).symm.trans h; simp at h)
    · exact hof.below (below2 (below_drew HB.out) hb.out) (below2 (below_drew HB.out) hb.out).size (fun k hk => by omega)
theorem c_at_none3 (w : World) (B R Y : Nat) (s : St) (stk : Value) (told : Bool) (out : Int) (M : List Sg) (op n : Int) (hr : runAt w R s stk (memV Y) told out) (hm : MemOk w B Y M) (hk : seg? M s.p3.seg = none) :
    Calls Try.prog 78 #[.pointer (some ⟨R, 0, none⟩), .agg #[.int .i64 op, .int .i64 3, .int .i64 n]] w fun e w' => e = .panicked (flt 35) ∧ Below w.heap.size w w' := by
  go_enter Try.func78, Try.ntmps78
  go_wp2
  obtain ⟨W0, hW, b0, b1, hb, hsz⟩ := at_start w op 3 n
  rw [hW]
  have hr0 := hr.below hb
  have hm0 := Lib.hid (hm.below hb)
  have HB := Lib.hid hb
  have hR0 := hr0.lt
  have HK := Lib.hid hk
  have kop : ∀ w', Off (fun _ => False) W0 w' → w'.cell? ⟨w.heap.size, 1, none⟩ = some (.int .i64 3) := fun w' h => (b0.off h id).facts.1.2.1
  have k4 : ∀ w', Off (fun _ => False) W0 w' → w'.cell? ⟨R, 13, none⟩ = some (.int .i64 s.p3.seg) := fun w' h => (show runAt w' R s stk (memV Y) told out from h.keeps hr0 id).cell 13
  have k5 : ∀ w', Off (fun _ => False) W0 w' → w'.cell? ⟨R, 14, none⟩ = some (.int .i64 s.p3.off) := fun w' h => (show runAt w' R s stk (memV Y) told out from h.keeps hr0 id).cell 14
  have k6 : ∀ w', Off (fun _ => False) W0 w' → w'.cell? ⟨R, 15, none⟩ = some (.int .i64 s.p3.ring) := fun w' h => (show runAt w' R s stk (memV Y) told out from h.keeps hr0 id).cell 15
  have HR := Lib.hid hr0
  clear hW hr hm hb hr0 hk
  go_region_held3 (fun w' => Off (fun _ => False) W0 w')
    ((repeat (with_reducible first | refine Off.setCell ?_ (Or.inr (by simp)) _ | refine Off.alloc ?_ _ | refine Off.drew ?_ | exact Off.refl _ _)))
    ((first | fail))
  go_wp2
  obtain ⟨W, hW, c0, c1, c2, hb, hb0, hsz⟩ := at_mid (op := op) (p := 3) (n := n) w.heap.size (by omega) s.p3 b0 b1 hsz HB.out
  rw [hW]
  have hr0 := HR.out.below hb0
  have hm0 := Lib.hid (hm0.out.below hb0)
  clear kop k4 k5 k6 hW hR0
  have hR0 := hr0.lt
  have hRN : R ≠ w.heap.size + 1 := fun h => by
    have h1 := show W.heap[w.heap.size + 1]? = _ from c1
    rw [← h, show W.heap[R]? = _ from hr0] at h1
    simp [runC] at h1
  have j1 : ∀ w', Off (· = w.heap.size + 1) W w' → w'.cell? ⟨w.heap.size + 2, 0, none⟩ = some (.int .i64 s.p3.seg) := fun w' h => (c2.off h (by omega)).facts.1.1
  have j2 : ∀ w', Off (· = w.heap.size + 1) W w' → w'.cell? ⟨w.heap.size + 2, 1, none⟩ = some (.int .i64 s.p3.off) := fun w' h => (c2.off h (by omega)).facts.1.2.1
  have j3 : ∀ w', Off (· = w.heap.size + 1) W w' → w'.cell? ⟨w.heap.size + 2, 2, none⟩ = some (.int .i64 s.p3.ring) := fun w' h => (c2.off h (by omega)).facts.1.2.2
  have j4 : ∀ w', Off (· = w.heap.size + 1) W w' → w'.cell? ⟨w.heap.size, 2, none⟩ = some (.int .i64 n) := fun w' h => (c0.off h (by omega)).facts.1.2.2
  have j5 : ∀ w', Off (· = w.heap.size + 1) W w' → w'.cell? ⟨R, 2, none⟩ = some (.int .i64 s.ring) := fun w' h => (show runAt w' R s stk (memV Y) told out from h.keeps hr0 hRN).cell 2
  have HB := Lib.hid hb
  have HR := Lib.hid hr0
  have C1 := Lib.hid c1
  clear hb hb0 hr0 c0 c2 b0 b1 c1 hRN
  have jm := six_max
  refine wp_region_held_drew (S := fun w' => Off (· = w.heap.size + 1) W w') (by kernel_rfl) (Off.drew (Off.refl _ _)) (fun hHeld => ?_)
  refine tkA 0 ?_
  try simp only [Act.put, sA, sB, sC]
  refine tkA 1 ?_
  try simp only [Act.put, sA, sB, sC]
  refine tkA 2 ?_
  try simp only [Act.put, sA, sB, sC]
  refine tkA 4 ?_
  try simp only [Act.put, sA, sB, sC]
  refine tkA 5 ?_
  try simp only [Act.put, sA, sB, sC]
  refine tkA 6 ?_
  try simp only [Act.put, sA, sB, sC]
  refine tkA 7 ?_
  try simp only [Act.put, sA, sB, sC]
  refine tkA 8 ?_
  try simp only [Act.put, sA, sB, sC]
  refine tkA 9 ?_
  try simp only [Act.put, sA, sB, sC]
  refine tkA 10 ?_
  try simp only [Act.put, sA, sB, sC]
  refine tkA 11 ?_
  try simp only [Act.put, sA, sB, sC]
  refine tkA 12 ?_
  try simp only [Act.put, sA, sB, sC]
  refine tkA 13 ?_
  try simp only [Act.put, sA, sB, sC]
  refine tkA 14 ?_
  try simp only [Act.put, sA, sB, sC]
  refine tkA 15 ?_
  try simp only [Act.put, sA, sB, sC]
  refine tkA 16 ?_
  try simp only [Act.put, sA, sB, sC]
  refine rdA 3 (fun K hK => ?_)
  go_simp
  refine (c_segment_none W.drew B R Y s stk told out M _ HR.out (MemOk.below hm0.out (below_drew (Below.refl _ _))) HK.out).mono ?_
  rintro e w1 ⟨rfl, hb⟩
  exact ⟨rfl, rfl, below2 (below_drew HB.out) hb⟩
theorem c_at_some (w : World) (B R Y : Nat) (s : St) (stk : Value) (told : Bool) (out : Int) (M : List Sg) (op p n : Int) (g : Sg) (hp0 : 0 ≤ p) (hp1 : p < 4) (hr : runAt w R s stk (memV Y) told out) (hm : MemOk w B Y M) (hk : seg? M (s.pt p.toNat).seg = some g) :
    Calls Try.prog 78 #[.pointer (some ⟨R, 0, none⟩), .agg #[.int .i64 op, .int .i64 p, .int .i64 n]] w fun e w' => ∃ u', e = .returned (.tuple #[sgV u' g, .int .i64 (IntKind.i64.wrap ((s.pt p.toNat).off + n)), .int .i64 (max (s.pt p.toNat).ring s.ring)]) ∧ w'.ownsRow B 2 1 u' g.ws.length (g.ws.map (Value.int .i64)) ∧ Below w.heap.size w w' := by
  rcases (show p = 0 ∨ p = 1 ∨ p = 2 ∨ p = 3 by omega) with rfl | rfl | rfl | rfl
  · exact c_at_some0 w B R Y s stk told out M op n g hr hm hk
  · exact c_at_some1 w B R Y s stk told out M op n g hr hm hk
  · exact c_at_some2 w B R Y s stk told out M op n g hr hm hk
  · exact c_at_some3 w B R Y s stk told out M op n g hr hm hk
theorem c_at_none (w : World) (B R Y : Nat) (s : St) (stk : Value) (told : Bool) (out : Int) (M : List Sg) (op p n : Int) (hp0 : 0 ≤ p) (hp1 : p < 4) (hr : runAt w R s stk (memV Y) told out) (hm : MemOk w B Y M) (hk : seg? M (s.pt p.toNat).seg = none) :
    Calls Try.prog 78 #[.pointer (some ⟨R, 0, none⟩), .agg #[.int .i64 op, .int .i64 p, .int .i64 n]] w fun e w' => e = .panicked (flt 35) ∧ Below w.heap.size w w' := by
  rcases (show p = 0 ∨ p = 1 ∨ p = 2 ∨ p = 3 by omega) with rfl | rfl | rfl | rfl
  · exact c_at_none0 w B R Y s stk told out M op n hr hm hk
  · exact c_at_none1 w B R Y s stk told out M op n hr hm hk
  · exact c_at_none2 w B R Y s stk told out M op n hr hm hk
  · exact c_at_none3 w B R Y s stk told out M op n hr hm hk
end Go.Proofs.Ytiakonmamkfopaa
