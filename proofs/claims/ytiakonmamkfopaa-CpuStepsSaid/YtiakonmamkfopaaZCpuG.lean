/- The processor's run: a word is written; the memory's note of it. -/
import Derived.Test.YtiakonmamkfopaaZCpuF
namespace Go.Proofs.Ytiakonmamkfopaa
open Go.RowKit Go.ChangeShapes
set_option linter.unusedVariables false
set_option maxRecDepth 100000
theorem c_MemWrite (w : World) (B Y : Nat) (v : Value) (is : Bool) (sg off x n k o y : Int) (hm : memAt w B Y v is sg off x n) :
    Calls Try.prog 111 #[.pointer (some ⟨Y, 0, none⟩), .int .i64 k, .int .i64 o, .int .i64 y] w fun e w' => e = .returned (.tuple #[]) ∧ memAt w' B Y v true k o y (wrap64 (n + 1)) ∧ Off (· = Y) w w' := by
  have h1 : blk6 w Y 47 v (.bool is) (.int .i64 sg) (.int .i64 off) (.int .i64 x) (.int .i64 n) := hm
  obtain ⟨⟨c0, c1, c2, c3, c4, c5⟩, cf⟩ := h1.facts
  have H1 := Lib.hid h1
  clear hm h1 c0
  go_enter Try.func111, Try.ntmps111
  go_wp2
  go_end0
  refine ⟨rfl, ?_, ?_⟩
  · unfold memAt
    simp [World.setCell, Array.getElem?_modify, show w.heap[Y]? = _ from H1.out]
  · refine Off.setCell (ex := (· = Y)) (Off.setCell (ex := (· = Y)) (Off.setCell (ex := (· = Y)) (Off.setCell (ex := (· = Y)) (Off.setCell (ex := (· = Y)) (Off.refl (· = Y) w) ?_ _) ?_ _) ?_ _) ?_ _) ?_ _
    all_goals exact Or.inl rfl
-- GENERATED BELOW
theorem A.method2 (v : Value) (w : World) : (method 256 43 v "Write").run Try.prog w = .ok (111, v) w := by kernel_rfl
theorem w_start (w : World) (op p n : Int) : ∃ W, w.alloc (.cells #[.int .i64 op, .int .i64 p, .int .i64 n] 64) = W ∧ blk3 W w.heap.size 64 (.int .i64 op) (.int .i64 p) (.int .i64 n) ∧ Below w.heap.size w W ∧ W.heap.size = w.heap.size + 1 :=
  ⟨_, rfl, blk3.new _ _ _ _ _, below_al0 _ _, by simp⟩
set_option maxHeartbeats 2000000 in
theorem c_write_none (w : World) (B R Y : Nat) (s : St) (stk : Value) (told : Bool) (out : Int) (M : List Sg) (op p n : Int) (hp0 : 0 ≤ p) (hp1 : p < 4) (hr : runAt w R s stk (memV Y) told out) (hm : MemOk w B Y M) (hk : seg? M (s.pt p.toNat).seg = none) :
    Calls Try.prog 56 #[.pointer (some ⟨R, 0, none⟩), .agg #[.int .i64 op, .int .i64 p, .int .i64 n]] w fun e w' => e = .panicked (flt 35) ∧ Below w.heap.size w w' := by
  go_enter Try.func56, Try.ntmps56
  go_wp2_with fail
  obtain ⟨W0, hW, b0, hb, hsz⟩ := w_start w op p n
  rw [hW]
  have hr0 := hr.below hb
  have hm0 := hm.below hb
  have HB := Lib.hid hb
  have C0 := Lib.hid b0
  clear hW hr hm hb b0
  refine (c_at_none W0 B R Y s stk told out M op p n hp0 hp1 hr0 hm0 hk).mono ?_
  rintro e w1 ⟨rfl, hb⟩
  exact ⟨rfl, rfl, below2 HB.out hb⟩
set_option maxHeartbeats 2000000 in
theorem c_write_mode (w : World) (B R Y : Nat) (s : St) (stk : Value) (told : Bool) (out : Int) (M : List Sg) (op p n : Int) (hp0 : 0 ≤ p) (hp1 : p < 4) (hr : runAt w R s stk (memV Y) told out) (hm : MemOk w B Y M) (g : Sg) (off by_ : Int) (hk : seg? M (s.pt p.toNat).seg = some g) (hoff : IntKind.i64.wrap ((s.pt p.toNat).off + n) = off) (hby : max (s.pt p.toNat).ring s.ring = by_) (hq : (g.has 2 && mayRead g.r1 by_) = false) :
    Calls Try.prog 56 #[.pointer (some ⟨R, 0, none⟩), .agg #[.int .i64 op, .int .i64 p, .int .i64 n]] w fun e w' => e = .panicked (flt 32) ∧ Below w.heap.size w w' := by
  go_enter Try.func56, Try.ntmps56
  go_wp2_with fail
  obtain ⟨W0, hW, b0, hb, hsz⟩ := w_start w op p n
  rw [hW]
  have hr0 := hr.below hb
  have hm0 := hm.below hb
  have HB := Lib.hid hb
  have C0 := Lib.hid b0
  clear hW hr hm hb b0
  have hr1 := Lib.hid hr0
  have hm1 := Lib.hid hm0
  refine (c_at_some W0 B R Y s stk told out M op p n g hp0 hp1 hr0 hm0 hk).mono ?_
  rintro e w1 ⟨u', rfl, ho, hb⟩
  obtain ⟨ad, cap, hv, had, hda⟩ := row_shape ho
  subst hv
  rw [hoff, hby]
  have C0 := Lib.hid (C0.out.off (Off.of_below (ex := fun _ => False) hb) id)
  have hr1 := Lib.hid (hr1.out.below hb)
  have hm1 := Lib.hid (hm1.out.below hb)
  have HB := Lib.hid (below2 HB.out hb)
  clear hb ho hr0 hm0 hk hsz hoff hby
  unfold sgV
  have HA := fun o => Lib.hid (below_al0 w1 o)
  cases hq1 : g.has 2
  · unfold Sg.has at hq1
    clear hq
    go_wp2_with (first | (go_at_call 59; refine (c_must_no _ _).mono ?_; rintro e w2 ⟨rfl, rfl⟩))
    exact ⟨rfl, rfl, below_al HB.out _⟩
  · rw [hq1, Bool.true_and] at hq
    unfold Sg.has at hq1
    go_wp2_with (first | (go_at_call 80; refine (c_MayWrite _ _ _ _ _ _).mono ?_; rintro e w2 ⟨rfl, hb2⟩; have hb2 := Lib.hid hb2; rw [hq]) | (go_at_call 59; refine (c_must_no _ _).mono ?_; rintro e w2 ⟨rfl, rfl⟩))
    exact ⟨rfl, rfl, below2 (below_al HB.out _) hb2.out⟩
set_option maxHeartbeats 2000000 in
theorem c_write_off (w : World) (B R Y : Nat) (s : St) (stk : Value) (told : Bool) (out : Int) (M : List Sg) (op p n : Int) (hp0 : 0 ≤ p) (hp1 : p < 4) (hr : runAt w R s stk (memV Y) told out) (hm : MemOk w B Y M) (g : Sg) (off by_ : Int) (hk : seg? M (s.pt p.toNat).seg = some g) (hoff : IntKind.i64.wrap ((s.pt p.toNat).off + n) = off) (hby : max (s.pt p.toNat).ring s.ring = by_) (hq0 : g.has 2 = true) (hq : mayRead g.r1 by_ = true) (hi : ¬ (0 ≤ off ∧ off < g.ws.length)) :
    Calls Try.prog 56 #[.pointer (some ⟨R, 0, none⟩), .agg #[.int .i64 op, .int .i64 p, .int .i64 n]] w fun e w' => e = .panicked (flt 35) ∧ Below w.heap.size w w' := by
  go_enter Try.func56, Try.ntmps56
  go_wp2_with fail
  obtain ⟨W0, hW, b0, hb, hsz⟩ := w_start w op p n
  rw [hW]
  have hr0 := hr.below hb
  have hm0 := hm.below hb
  have HB := Lib.hid hb
  have C0 := Lib.hid b0
  clear hW hr hm hb b0
  have hr1 := Lib.hid hr0
  have hm1 := Lib.hid hm0
  refine (c_at_some W0 B R Y s stk told out M op p n g hp0 hp1 hr0 hm0 hk).mono ?_
  rintro e w1 ⟨u', rfl, ho, hb⟩
  obtain ⟨ad, cap, hv, had, hda⟩ := row_shape ho
  subst hv
  rw [hoff, hby]
  have C0 := Lib.hid (C0.out.off (Off.of_below (ex := fun _ => False) hb) id)
  have hr1 := Lib.hid (hr1.out.below hb)
  have hm1 := Lib.hid (hm1.out.below hb)
  have HB := Lib.hid (below2 HB.out hb)
  clear hb ho hr0 hm0 hk hsz hoff hby
  unfold sgV
  have hi : decide (0 ≤ off ∧ off < (g.ws.length : Int)) = false := decide_eq_false hi
  unfold Sg.has at hq0
  have x0 := Lib.hid (blk6.new w1 60 (.slice ad g.ws.length cap) (.int .i64 g.md) (.int .i64 g.r1) (.int .i64 g.r2) (.int .i64 g.r3) (.int .i64 g.g))
  go_wp2_with (first | (go_at_call 80; refine (c_MayWrite _ _ _ _ _ _).mono ?_; rintro e w2 ⟨rfl, hb2⟩; have x1 := Lib.hid (x0.out.below hb2); obtain ⟨⟨r0, r1, r2, r3, r4, r5⟩, rf⟩ := x1.out.facts; have hb2 := Lib.hid hb2; rw [hq]) | (go_at_call 69; refine (c_in _ _ _ _ _ _ _ _ _ _).mono ?_; rintro e w3 ⟨rfl, hb3⟩; have hb3 := Lib.hid hb3; rw [hi]) | (go_at_call 59; refine (c_must _ _ _).mono ?_; rintro e w9 ⟨rfl, rfl⟩; simp only [if_true, Bool.false_eq_true, if_false]))
  exact ⟨rfl, rfl, below2 (below2 (below_al HB.out _) hb2.out) hb3.out⟩
set_option maxHeartbeats 2000000 in
theorem c_write_ok0 (w : World) (B R Y : Nat) (s : St) (stk : Value) (told : Bool) (out : Int) (M : List Sg) (op n : Int) (hr : runAt w R s stk (memV Y) told out) (hm : MemOk w B Y M) (g : Sg) (off by_ : Int) (hk : seg? M (s.pt (0 : Int).toNat).seg = some g) (hoff : IntKind.i64.wrap ((s.pt (0 : Int).toNat).off + n) = off) (hby : max (s.pt (0 : Int).toNat).ring s.ring = by_) (v : Value) (is : Bool) (sg of_ x n0 : Int) (hma : memAt w B Y v is sg of_ x n0) (hq0 : g.has 2 = true) (hq : mayRead g.r1 by_ = true) (hi : 0 ≤ off ∧ off < g.ws.length) :
    Calls Try.prog 56 #[.pointer (some ⟨R, 0, none⟩), .agg #[.int .i64 op, .int .i64 0, .int .i64 n]] w fun e w' => e = .returned (.tuple #[]) ∧ memAt w' B Y v true (s.pt (0 : Int).toNat).seg off s.a (wrap64 (n0 + 1)) ∧ Off (· = Y) w w' := by
  go_enter Try.func56, Try.ntmps56
  go_wp2_with fail
  obtain ⟨W0, hW, b0, hb, hsz⟩ := w_start w op 0 n
  rw [hW]
  have hr0 := hr.below hb
  have hm0 := hm.below hb
  have HB := Lib.hid hb
  have C0 := Lib.hid b0
  clear hW hr hm hb b0
  have hY := World.block_lt_of_cell? w _ hma.facts.1
  have hma := Lib.hid hma
  have hr1 := Lib.hid hr0
  have hm1 := Lib.hid hm0
  refine (c_at_some W0 B R Y s stk told out M op 0 n g (by decide) (by decide) hr0 hm0 hk).mono ?_
  rintro e w1 ⟨u', rfl, ho, hb⟩
  obtain ⟨ad, cap, hv, had, hda⟩ := row_shape ho
  subst hv
  rw [hoff, hby]
  have C0 := Lib.hid (C0.out.off (Off.of_below (ex := fun _ => False) hb) id)
  have hr1 := Lib.hid (hr1.out.below hb)
  have hm1 := Lib.hid (hm1.out.below hb)
  have HB := Lib.hid (below2 HB.out hb)
  clear hb ho hr0 hm0 hk hsz hoff hby
  unfold sgV
  have hi : decide (0 ≤ off ∧ off < (g.ws.length : Int)) = true := decide_eq_true hi
  unfold Sg.has at hq0
  have x0 := Lib.hid (blk6.new w1 60 (.slice ad g.ws.length cap) (.int .i64 g.md) (.int .i64 g.r1) (.int .i64 g.r2) (.int .i64 g.r3) (.int .i64 g.g))
  go_wp2_with (first | (go_at_call 80; refine (c_MayWrite _ _ _ _ _ _).mono ?_; rintro e w2 ⟨rfl, hb2⟩; have x1 := Lib.hid (x0.out.below hb2); obtain ⟨⟨r0, r1, r2, r3, r4, r5⟩, rf⟩ := x1.out.facts; have hb2 := Lib.hid hb2; rw [hq]) | (go_at_call 69; refine (c_in _ _ _ _ _ _ _ _ _ _).mono ?_; rintro e w3 ⟨rfl, hb3⟩; have hb3 := Lib.hid hb3; rw [hi]) | (go_at_call 59; refine (c_must _ _ _).mono ?_; rintro e w9 ⟨rfl, rfl⟩; simp only [if_true]))
  have hB9 : Below w1.heap.size w1 w9 := below2 (below2 (below_al0 _ _) hb2.out) hb3.out
  have hr9 := hr1.out.below hB9
  have c9 := C0.out.off (Off.of_below (ex := fun _ => False) hB9) id
  have hB9 := Lib.hid (below2 HB.out hB9)
  have hma9 : memAt w9 B Y v is sg of_ x n0 := (hB9.out.block Y hY).trans hma.out
  have hYN : w.heap.size ≠ Y := by omega
  have hRY : R ≠ Y := fun h => by
    have h1 := show w9.heap[Y]? = _ from hma9
    rw [← h, show w9.heap[R]? = _ from hr9] at h1
    simp [runC] at h1
  have k1 : ∀ w', Off (· = Y) w9 w' → w'.cell? ⟨w.heap.size, 1, none⟩ = some (.int .i64 0) := fun w' h => (c9.off h hYN).facts.1.2.1
  have k2 : ∀ w', Off (· = Y) w9 w' → w'.cell? ⟨R, 3, none⟩ = some (.int .i64 s.a) := fun w' h => (show runAt w' R s stk (memV Y) told out from h.keeps hr9 hRY).cell 3
  have k3 : ∀ w', Off (· = Y) w9 w' → w'.cell? ⟨R, 18, none⟩ = some (.iface 43 (.pointer (some ⟨Y, 0, none⟩))) := fun w' h => (show runAt w' R s stk (memV Y) told out from h.keeps hr9 hRY).cell 18
  have k4 : ∀ w', Off (· = Y) w9 w' → w'.cell? ⟨R, 4, none⟩ = some (.int .i64 (s.pt (0 : Int).toNat).seg) := fun w' h => (show runAt w' R s stk (memV Y) told out from h.keeps hr9 hRY).cell 4
  have hm2 := A.method2
  have HM := Lib.hid hma9
  clear r0 r1 r2 r3 r4 r5 rf x0 x1 hb2 hb3 hr9 c9 hq0 hq hi C0 hr1 hm1 hma hma9
  go_region_held3 (fun w' => Off (· = Y) w9 w')
    ((repeat (with_reducible first | exact HO.out | refine Off.drew ?_ | exact Off.refl _ _)))
    ((first | (go_at_call 111; refine (c_MemWrite w9.drew B Y v is sg of_ x n0 _ _ _ HM.out).mono ?_; rintro e w4 ⟨rfl, hm4, ho4⟩; have HO : Hid (Off (· = Y) w9 w4) := (Off.refl _ w9).drew.trans ho4; have HM4 := Lib.hid hm4; clear hm4 ho4)))
  all_goals
    go_wp2
    go_end0
    exact ⟨rfl, HM4.out, (Off.of_below hB9.out).trans HO.out⟩
set_option maxHeartbeats 2000000 in
theorem c_write_ok1 (w : World) (B R Y : Nat) (s : St) (stk : Value) (told : Bool) (out : Int) (M : List Sg) (op n : Int) (hr : runAt w R s stk (memV Y) told out) (hm : MemOk w B Y M) (g : Sg) (off by_ : Int) (hk : seg? M (s.pt (1 : Int).toNat).seg = some g) (hoff : IntKind.i64.wrap ((s.pt (1 : Int).toNat).off + n) = off) (hby : max (s.pt (1 : Int).toNat).ring s.ring = by_) (v : Value) (is : Bool) (sg of_ x n0 : Int) (hma : memAt w B Y v is sg of_ x n0) (hq0 : g.has 2 = true) (hq : mayRead g.r1 by_ = true) (hi : 0 ≤ off ∧ off < g.ws.length) :
    Calls Try.prog 56 #[.pointer (some ⟨R, 0, none⟩), .agg #[.int .i64 op, .int .i64 1, .int .i64 n]] w fun e w' => e = .returned (.tuple #[]) ∧ memAt w' B Y v true (s.pt (1 : Int).toNat).seg off s.a (wrap64 (n0 + 1)) ∧ Off (· = Y) w w' := by
  go_enter Try.func56, Try.ntmps56
  go_wp2_with fail
  obtain ⟨W0, hW, b0, hb, hsz⟩ := w_start w op 1 n
  rw [hW]
  have hr0 := hr.below hb
  have hm0 := hm.below hb
  have HB := Lib.hid hb
  have C0 := Lib.hid b0
  clear hW hr hm hb b0
  have hY := World.block_lt_of_cell? w _ hma.facts.1
  have hma := Lib.hid hma
  have hr1 := Lib.hid hr0
  have hm1 := Lib.hid hm0
  refine (c_at_some W0 B R Y s stk told out M op 1 n g (by decide) (by decide) hr0 hm0 hk).mono ?_
  rintro e w1 ⟨u', rfl, ho, hb⟩
  obtain ⟨ad, cap, hv, had, hda⟩ := row_shape ho
  subst hv
  rw [hoff, hby]
  have C0 := Lib.hid (C0.out.off (Off.of_below (ex := fun _ => False) hb) id)
  have hr1 := Lib.hid (hr1.out.below hb)
  have hm1 := Lib.hid (hm1.out.below hb)
  have HB := Lib.hid (below2 HB.out hb)
  clear hb ho hr0 hm0 hk hsz hoff hby
  unfold sgV
  have hi : decide (0 ≤ off ∧ off < (g.ws.length : Int)) = true := decide_eq_true hi
  unfold Sg.has at hq0
  have x0 := Lib.hid (blk6.new w1 60 (.slice ad g.ws.length cap) (.int .i64 g.md) (.int .i64 g.r1) (.int .i64 g.r2) (.int .i64 g.r3) (.int .i64 g.g))
  go_wp2_with (first | (go_at_call 80; refine (c_MayWrite _ _ _ _ _ _).mono ?_; rintro e w2 ⟨rfl, hb2⟩; have x1 := Lib.hid (x0.out.below hb2); obtain ⟨⟨r0, r1, r2, r3, r4, r5⟩, rf⟩ := x1.out.facts; have hb2 := Lib.hid hb2; rw [hq]) | (go_at_call 69; refine (c_in _ _ _ _ _ _ _ _ _ _).mono ?_; rintro e w3 ⟨rfl, hb3⟩; have hb3 := Lib.hid hb3; rw [hi]) | (go_at_call 59; refine (c_must _ _ _).mono ?_; rintro e w9 ⟨rfl, rfl⟩; simp only [if_true]))
  have hB9 : Below w1.heap.size w1 w9 := below2 (below2 (below_al0 _ _) hb2.out) hb3.out
  have hr9 := hr1.out.below hB9
  have c9 := C0.out.off (Off.of_below (ex := fun _ => False) hB9) id
  have hB9 := Lib.hid (below2 HB.out hB9)
  have hma9 : memAt w9 B Y v is sg of_ x n0 := (hB9.out.block Y hY).trans hma.out
  have hYN : w.heap.size ≠ Y := by omega
  have hRY : R ≠ Y := fun h => by
    have h1 := show w9.heap[Y]? = _ from hma9
    rw [← h, show w9.heap[R]? = _ from hr9] at h1
    simp [runC] at h1
  have k1 : ∀ w', Off (· = Y) w9 w' → w'.cell? ⟨w.heap.size, 1, none⟩ = some (.int .i64 1) := fun w' h => (c9.off h hYN).facts.1.2.1
  have k2 : ∀ w', Off (· = Y) w9 w' → w'.cell? ⟨R, 3, none⟩ = some (.int .i64 s.a) := fun w' h => (show runAt w' R s stk (memV Y) told out from h.keeps hr9 hRY).cell 3
  have k3 : ∀ w', Off (· = Y) w9 w' → w'.cell? ⟨R, 18, none⟩ = some (.iface 43 (.pointer (some ⟨Y, 0, none⟩))) := fun w' h => (show runAt w' R s stk (memV Y) told out from h.keeps hr9 hRY).cell 18
  have k4 : ∀ w', Off (· = Y) w9 w' → w'.cell? ⟨R, 7, none⟩ = some (.int .i64 (s.pt (1 : Int).toNat).seg) := fun w' h => (show runAt w' R s stk (memV Y) told out from h.keeps hr9 hRY).cell 7
  have hm2 := A.method2
  have HM := Lib.hid hma9
  clear r0 r1 r2 r3 r4 r5 rf x0 x1 hb2 hb3 hr9 c9 hq0 hq hi C0 hr1 hm1 hma hma9
  go_region_held3 (fun w' => Off (· = Y) w9 w')
    ((repeat (with_reducible first | exact HO.out | refine Off.drew ?_ | exact Off.refl _ _)))
    ((first | (go_at_call 111; refine (c_MemWrite w9.drew B Y v is sg of_ x n0 _ _ _ HM.out).mono ?_; rintro e w4 ⟨rfl, hm4, ho4⟩; have HO : Hid (Off (· = Y) w9 w4) := (Off.refl _ w9).drew.trans ho4; have HM4 := Lib.hid hm4; clear hm4 ho4)))
  all_goals
    go_wp2
    go_end0
    exact ⟨rfl, HM4.out, (Off.of_below hB9.out).trans HO.out⟩
set_option maxHeartbeats 2000000 in
theorem c_write_ok2 (w : World) (B R Y : Nat) (s : St) (stk : Value) (told : Bool) (out : Int) (M : List Sg) (op n : Int) (hr : runAt w R s stk (memV Y) told out) (hm : MemOk w B Y M) (g : Sg) (off by_ : Int) (hk : seg? M (s.pt (2 : Int).toNat).seg = some g) (hoff : IntKind.i64.wrap ((s.pt (2 : Int).toNat).off + n) = off) (hby : max (s.pt (2 : Int).toNat).ring s.ring = by_) (v : Value) (is : Bool) (sg of_ x n0 : Int) (hma : memAt w B Y v is sg of_ x n0) (hq0 : g.has 2 = true) (hq : mayRead g.r1 by_ = true) (hi : 0 ≤ off ∧ off < g.ws.length) :
    Calls Try.prog 56 #[.pointer (some ⟨R, 0, none⟩), .agg #[.int .i64 op, .int .i64 2, .int .i64 n]] w fun e w' => e = .returned (.tuple #[]) ∧ memAt w' B Y v true (s.pt (2 : Int).toNat).seg off s.a (wrap64 (n0 + 1)) ∧ Off (· = Y) w w' := by
  go_enter Try.func56, Try.ntmps56
  go_wp2_with fail
  obtain ⟨W0, hW, b0, hb, hsz⟩ := w_start w op 2 n
  rw [hW]
  have hr0 := hr.below hb
  have hm0 := hm.below hb
  have HB := Lib.hid hb
  have C0 := Lib.hid b0
  clear hW hr hm hb b0
  have hY := World.block_lt_of_cell? w _ hma.facts.1
  have hma := Lib.hid hma
  have hr1 := Lib.hid hr0
  have hm1 := Lib.hid hm0
  refine (c_at_some W0 B R Y s stk told out M op 2 n g (by decide) (by decide) hr0 hm0 hk).mono ?_
  rintro e w1 ⟨u', rfl, ho, hb⟩
  obtain ⟨ad, cap, hv, had, hda⟩ := row_shape ho
  subst hv
  rw [hoff, hby]
  have C0 := Lib.hid (C0.out.off (Off.of_below (ex := fun _ => False) hb) id)
  have hr1 := Lib.hid (hr1.out.below hb)
  have hm1 := Lib.hid (hm1.out.below hb)
  have HB := Lib.hid (below2 HB.out hb)
  clear hb ho hr0 hm0 hk hsz hoff hby
  unfold sgV
  have hi : decide (0 ≤ off ∧ off < (g.ws.length : Int)) = true := decide_eq_true hi
  unfold Sg.has at hq0
  have x0 := Lib.hid (blk6.new w1 60 (.slice ad g.ws.length cap) (.int .i64 g.md) (.int .i64 g.r1) (.int .i64 g.r2) (.int .i64 g.r3) (.int .i64 g.g))
  go_wp2_with (first | (go_at_call 80; refine (c_MayWrite _ _ _ _ _ _).mono ?_; rintro e w2 ⟨rfl, hb2⟩; have x1 := Lib.hid (x0.out.below hb2); obtain ⟨⟨r0, r1, r2, r3, r4, r5⟩, rf⟩ := x1.out.facts; have hb2 := Lib.hid hb2; rw [hq]) | (go_at_call 69; refine (c_in _ _ _ _ _ _ _ _ _ _).mono ?_; rintro e w3 ⟨rfl, hb3⟩; have hb3 := Lib.hid hb3; rw [hi]) | (go_at_call 59; refine (c_must _ _ _).mono ?_; rintro e w9 ⟨rfl, rfl⟩; simp only [if_true]))
  have hB9 : Below w1.heap.size w1 w9 := below2 (below2 (below_al0 _ _) hb2.out) hb3.out
  have hr9 := hr1.out.below hB9
  have c9 := C0.out.off (Off.of_below (ex := fun _ => False) hB9) id
  have hB9 := Lib.hid (below2 HB.out hB9)
  have hma9 : memAt w9 B Y v is sg of_ x n0 := (hB9.out.block Y hY).trans hma.out
  have hYN : w.heap.size ≠ Y := by omega
  have hRY : R ≠ Y := fun h => by
    have h1 := show w9.heap[Y]? = _ from hma9
    rw [← h, show w9.heap[R]? = _ from hr9] at h1
    simp [runC] at h1
  have k1 : ∀ w', Off (· = Y) w9 w' → w'.cell? ⟨w.heap.size, 1, none⟩ = some (.int .i64 2) := fun w' h => (c9.off h hYN).facts.1.2.1
  have k2 : ∀ w', Off (· = Y) w9 w' → w'.cell? ⟨R, 3, none⟩ = some (.int .i64 s.a) := fun w' h => (show runAt w' R s stk (memV Y) told out from h.keeps hr9 hRY).cell 3
  have k3 : ∀ w', Off (· = Y) w9 w' → w'.cell? ⟨R, 18, none⟩ = some (.iface 43 (.pointer (some ⟨Y, 0, none⟩))) := fun w' h => (show runAt w' R s stk (memV Y) told out from h.keeps hr9 hRY).cell 18
  have k4 : ∀ w', Off (· = Y) w9 w' → w'.cell? ⟨R, 10, none⟩ = some (.int .i64 (s.pt (2 : Int).toNat).seg) := fun w' h => (show runAt w' R s stk (memV Y) told out from h.keeps hr9 hRY).cell 10
  have hm2 := A.method2
  have HM := Lib.hid hma9
  clear r0 r1 r2 r3 r4 r5 rf x0 x1 hb2 hb3 hr9 c9 hq0 hq hi C0 hr1 hm1 hma hma9
  go_region_held3 (fun w' => Off (· = Y) w9 w')
    ((repeat (with_reducible first | exact HO.out | refine Off.drew ?_ | exact Off.refl _ _)))
    ((first | (go_at_call 111; refine (c_MemWrite w9.drew B Y v is sg of_ x n0 _ _ _ HM.out).mono ?_; rintro e w4 ⟨rfl, hm4, ho4⟩; have HO : Hid (Off (· = Y) w9 w4) := (Off.refl _ w9).drew.trans ho4; have HM4 := Lib.hid hm4; clear hm4 ho4)))
  all_goals
    go_wp2
    go_end0
    exact ⟨rfl, HM4.out, (Off.of_below hB9.out).trans HO.out⟩
set_option maxHeartbeats 2000000 in
theorem c_write_ok3 (w : World) (B R Y : Nat) (s : St) (stk : Value) (told : Bool) (out : Int) (M : List Sg) (op n : Int) (hr : runAt w R s stk (memV Y) told out) (hm : MemOk w B Y M) (g : Sg) (off by_ : Int) (hk : seg? M (s.pt (3 : Int).toNat).seg = some g) (hoff : IntKind.i64.wrap ((s.pt (3 : Int).toNat).off + n) = off) (hby : max (s.pt (3 : Int).toNat).ring s.ring = by_) (v : Value) (is : Bool) (sg of_ x n0 : Int) (hma : memAt w B Y v is sg of_ x n0) (hq0 : g.has 2 = true) (hq : mayRead g.r1 by_ = true) (hi : 0 ≤ off ∧ off < g.ws.length) :
    Calls Try.prog 56 #[.pointer (some ⟨R, 0, none⟩), .agg #[.int .i64 op, .int .i64 3, .int .i64 n]] w fun e w' => e = .returned (.tuple #[]) ∧ memAt w' B Y v true (s.pt (3 : Int).toNat).seg off s.a (wrap64 (n0 + 1)) ∧ Off (· = Y) w w' := by
  go_enter Try.func56, Try.ntmps56
  go_wp2_with fail
  obtain ⟨W0, hW, b0, hb, hsz⟩ := w_start w op 3 n
  rw [hW]
  have hr0 := hr.below hb
  have hm0 := hm.below hb
  have HB := Lib.hid hb
  have C0 := Lib.hid b0
  clear hW hr hm hb b0
  have hY := World.block_lt_of_cell? w _ hma.facts.1
  have hma := Lib.hid hma
  have hr1 := Lib.hid hr0
  have hm1 := Lib.hid hm0
  refine (c_at_some W0 B R Y s stk told out M op 3 n g (by decide) (by decide) hr0 hm0 hk).mono ?_
  rintro e w1 ⟨u', rfl, ho, hb⟩
  obtain ⟨ad, cap, hv, had, hda⟩ := row_shape ho
  subst hv
  rw [hoff, hby]
  have C0 := Lib.hid (C0.out.off (Off.of_below (ex := fun _ => False) hb) id)
  have hr1 := Lib.hid (hr1.out.below hb)
  have hm1 := Lib.hid (hm1.out.below hb)
  have HB := Lib.hid (below2 HB.out hb)
  clear hb ho hr0 hm0 hk hsz hoff hby
  unfold sgV
  have hi : decide (0 ≤ off ∧ off < (g.ws.length : Int)) = true := decide_eq_true hi
  unfold Sg.has at hq0
  have x0 := Lib.hid (blk6.new w1 60 (.slice ad g.ws.length cap) (.int .i64 g.md) (.int .i64 g.r1) (.int .i64 g.r2) (.int .i64 g.r3) (.int .i64 g.g))
  go_wp2_with (first | (go_at_call 80; refine (c_MayWrite _ _ _ _ _ _).mono ?_; rintro e w2 ⟨rfl, hb2⟩; have x1 := Lib.hid (x0.out.below hb2); obtain ⟨⟨r0, r1, r2, r3, r4, r5⟩, rf⟩ := x1.out.facts; have hb2 := Lib.hid hb2; rw [hq]) | (go_at_call 69; refine (c_in _ _ _ _ _ _ _ _ _ _).mono ?_; rintro e w3 ⟨rfl, hb3⟩; have hb3 := Lib.hid hb3; rw [hi]) | (go_at_call 59; refine (c_must _ _ _).mono ?_; rintro e w9 ⟨rfl, rfl⟩; simp only [if_true]))
  have hB9 : Below w1.heap.size w1 w9 := below2 (below2 (below_al0 _ _) hb2.out) hb3.out
  have hr9 := hr1.out.below hB9
  have c9 := C0.out.off (Off.of_below (ex := fun _ => False) hB9) id
  have hB9 := Lib.hid (below2 HB.out hB9)
  have hma9 : memAt w9 B Y v is sg of_ x n0 := (hB9.out.block Y hY).trans hma.out
  have hYN : w.heap.size ≠ Y := by omega
  have hRY : R ≠ Y := fun h => by
    have h1 := show w9.heap[Y]? = _ from hma9
    rw [← h, show w9.heap[R]? = _ from hr9] at h1
    simp [runC] at h1
  have k1 : ∀ w', Off (· = Y) w9 w' → w'.cell? ⟨w.heap.size, 1, none⟩ = some (.int .i64 3) := fun w' h => (c9.off h hYN).facts.1.2.1
  have k2 : ∀ w', Off (· = Y) w9 w' → w'.cell? ⟨R, 3, none⟩ = some (.int .i64 s.a) := fun w' h => (show runAt w' R s stk (memV Y) told out from h.keeps hr9 hRY).cell 3
  have k3 : ∀ w', Off (· = Y) w9 w' → w'.cell? ⟨R, 18, none⟩ = some (.iface 43 (.pointer (some ⟨Y, 0, none⟩))) := fun w' h => (show runAt w' R s stk (memV Y) told out from h.keeps hr9 hRY).cell 18
  have k4 : ∀ w', Off (· = Y) w9 w' → w'.cell? ⟨R, 13, none⟩ = some (.int .i64 (s.pt (3 : Int).toNat).seg) := fun w' h => (show runAt w' R s stk (memV Y) told out from h.keeps hr9 hRY).cell 13
  have hm2 := A.method2
  have HM := Lib.hid hma9
  clear r0 r1 r2 r3 r4 r5 rf x0 x1 hb2 hb3 hr9 c9 hq0 hq hi C0 hr1 hm1 hma hma9
  go_region_held3 (fun w' => Off (· = Y) w9 w')
    ((repeat (with_reducible first | exact HO.out | refine Off.drew ?_ | exact Off.refl _ _)))
    ((first | (go_at_call 111; refine (c_MemWrite w9.drew B Y v is sg of_ x n0 _ _ _ HM.out).mono ?_; rintro e w4 ⟨rfl, hm4, ho4⟩; have HO : Hid (Off (· = Y) w9 w4) := (Off.refl _ w9).drew.trans ho4; have HM4 := Lib.hid hm4; clear hm4 ho4)))
  all_goals
    go_wp2
    go_end0
    exact ⟨rfl, HM4.out, (Off.of_below hB9.out).trans HO.out⟩
theorem c_write_ok (w : World) (B R Y : Nat) (s : St) (stk : Value) (told : Bool) (out : Int) (M : List Sg) (op p n : Int) (hp0 : 0 ≤ p) (hp1 : p < 4) (hr : runAt w R s stk (memV Y) told out) (hm : MemOk w B Y M) (g : Sg) (off by_ : Int) (hk : seg? M (s.pt p.toNat).seg = some g) (hoff : IntKind.i64.wrap ((s.pt p.toNat).off + n) = off) (hby : max (s.pt p.toNat).ring s.ring = by_) (v : Value) (is : Bool) (sg of_ x n0 : Int) (hma : memAt w B Y v is sg of_ x n0) (hq0 : g.has 2 = true) (hq : mayRead g.r1 by_ = true) (hi : 0 ≤ off ∧ off < g.ws.length) :
    Calls Try.prog 56 #[.pointer (some ⟨R, 0, none⟩), .agg #[.int .i64 op, .int .i64 p, .int .i64 n]] w fun e w' => e = .returned (.tuple #[]) ∧ memAt w' B Y v true (s.pt p.toNat).seg off s.a (wrap64 (n0 + 1)) ∧ Off (· = Y) w w' := by
  rcases (show p = 0 ∨ p = 1 ∨ p = 2 ∨ p = 3 by omega) with rfl | rfl | rfl | rfl
  · exact c_write_ok0 w B R Y s stk told out M op n hr hm g off by_ hk hoff hby v is sg of_ x n0 hma hq0 hq hi
  · exact c_write_ok1 w B R Y s stk told out M op n hr hm g off by_ hk hoff hby v is sg of_ x n0 hma hq0 hq hi
  · exact c_write_ok2 w B R Y s stk told out M op n hr hm g off by_ hk hoff hby v is sg of_ x n0 hma hq0 hq hi
  · exact c_write_ok3 w B R Y s stk told out M op n hr hm g off by_ hk hoff hby v is sg of_ x n0 hma hq0 hq hi
end Go.Proofs.Ytiakonmamkfopaa
