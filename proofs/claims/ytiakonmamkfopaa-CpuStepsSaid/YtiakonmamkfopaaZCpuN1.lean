/- The processor's run: instructions 6 and 7. -/
import Derived.Test.YtiakonmamkfopaaZTk
import Derived.Test.YtiakonmamkfopaaZCpuN
namespace Go.Proofs.Ytiakonmamkfopaa
open Go.RowKit Go.ChangeShapes
set_option linter.unusedVariables false
set_option maxRecDepth 100000
set_option maxHeartbeats 2000000 in
theorem c_do6_er (w : World) (B R Y : Nat) (s : St) (stk : Value) (told : Bool) (out : Int) (M : List Sg) (p n : Int) (hr : runAt w R s stk (memV Y) told out) (hm : MemOk w B Y M) (hp0 : 0 ≤ p) (hp1 : p < 4) (er : Int) (h : rdR M s p n = .error er) :
    Calls Try.prog 41 #[.pointer (some ⟨R, 0, none⟩), .agg #[.int .i64 6, .int .i64 p, .int .i64 n]] w fun e w' => e = .panicked (flt er) ∧ Below w.heap.size w w' := by
  have HH := Lib.hid h
  clear h
  have hal := below_al0 w (.cells #[.int .i64 6, .int .i64 p, .int .i64 n] 64)
  have HR0 := Lib.hid hr
  have hr1 := Lib.hid (hr.below hal)
  have hm1 := Lib.hid (hm.below hal)
  have HB := Lib.hid hal
  have hR := hr.lt
  have rf : ∀ j, w.frozen? ⟨R, j, none⟩ = false := fun j => hr.free j
  have r3 : w.cell? ⟨R, 3, none⟩ = some (.int .i64 s.a) := hr.cell 3
  have r17 : w.cell? ⟨R, 17, none⟩ = some (.bool s.hal) := hr.cell 17
  have r19 : w.cell? ⟨R, 19, none⟩ = some (.bool told) := hr.cell 19
  have r20 : w.cell? ⟨R, 20, none⟩ = some (.int .i64 out) := hr.cell 20
  have r1 : w.cell? ⟨R, 1, none⟩ = some (.int .i64 s.off) := hr.cell 1
  clear hal hr hm
  go_enter Try.func41, Try.ntmps41
  go_wp2_with (first | (go_at_call 55; refine (c_read_er _ B R Y s stk told out M _ p n hp0 hp1 hr1.out hm1.out er HH.out).mono ?_; rintro e w2 ⟨rfl, hb2⟩))
  exact ⟨rfl, rfl, below2 HB.out hb2⟩
set_option maxHeartbeats 2000000 in
theorem c_do6 (w : World) (B R Y : Nat) (s : St) (stk : Value) (told : Bool) (out : Int) (M : List Sg) (p n : Int) (hr : runAt w R s stk (memV Y) told out) (hm : MemOk w B Y M) (hp0 : 0 ≤ p) (hp1 : p < 4) (x : Int) (g : Sg) (h : rdR M s p n = .ok (x, g)) :
    Calls Try.prog 41 #[.pointer (some ⟨R, 0, none⟩), .agg #[.int .i64 6, .int .i64 p, .int .i64 n]] w fun e w' => e = .returned (.tuple #[]) ∧ runAt w' R { s with a := arR 6 s.a x } stk (memV Y) told out ∧ Off (· = R) w w' := by
  have HH := Lib.hid h
  clear h
  have hal := below_al0 w (.cells #[.int .i64 6, .int .i64 p, .int .i64 n] 64)
  have hr1 := Lib.hid (hr.below hal)
  have hm1 := Lib.hid (hm.below hal)
  have B0 := Lib.hid (blk3.new w 64 (.int .i64 6) (.int .i64 p) (.int .i64 n))
  have HB := Lib.hid hal
  have hRw := hr.lt
  clear hal hr hm
  go_enter Try.func41, Try.ntmps41
  go_wp2_with (first | (go_at_call 55; refine (c_read_go _ B R Y s stk told out M _ p n hp0 hp1 hr1.out hm1.out x g HH.out).mono ?_; rintro e w2 ⟨ad, cap, rfl, hb2⟩; unfold sgV; have hr2 := Lib.hid (hr1.out.below hb2); have B2 := Lib.hid (B0.out.below hb2); have hb2 := Lib.hid hb2))
  have HR := Lib.hid (hr2.out.below (below_al0 w2 (.cells #[.slice ad g.ws.length cap, .int .i64 g.md, .int .i64 g.r1, .int .i64 g.r2, .int .i64 g.r3, .int .i64 g.g] 60)))
  have B2 := Lib.hid (B2.out.below (below_al0 w2 (.cells #[.slice ad g.ws.length cap, .int .i64 g.md, .int .i64 g.r1, .int .i64 g.r2, .int .i64 g.r3, .int .i64 g.g] 60)))
  have HB := Lib.hid (below_al (below2 HB.out hb2.out) (.cells #[.slice ad g.ws.length cap, .int .i64 g.md, .int .i64 g.r1, .int .i64 g.r2, .int .i64 g.r3, .int .i64 g.g] 60))
  clear hr1 hr2 hb2 hm1 B0
  generalize w2.alloc (.cells #[.slice ad g.ws.length cap, .int .i64 g.md, .int .i64 g.r1, .int .i64 g.r2, .int .i64 g.r3, .int .i64 g.g] 60) = W at HR B2 HB ⊢
  have hNR : ¬ w.heap.size = R := by omega
  have hR : R < W.heap.size := HR.out.lt
  have k0 : ∀ w', RA R s stk (memV Y) told out W w' → w'.cell? ⟨w.heap.size, 0, none⟩ = some (.int .i64 6) := fun w' h => (B2.out.off h.1 hNR).facts.1.1
  have r3 : W.cell? ⟨R, 3, none⟩ = some (.int .i64 s.a) := HR.out.cell 3
  have r3' : W.drew.cell? ⟨R, 3, none⟩ = some (.int .i64 s.a) := HR.out.cell 3
  have hl := map_look ((W.alloc (.map sumsE 8)).drew) W.heap.size sumsE 8 6 2 (.func (.func 89) #[] #[]) (heap_alloc_new W _) (by rfl) (by rfl)
  refine wp_region_held_drew (S := fun w' => RA R s stk (memV Y) told out W w') (by kernel_rfl) (RA.drew (RA.refl HR.out)) (fun hHeld => ?_)
  refine tkA 0 ?_
  try simp only [Act.put, sA, sB, sC]
  refine tkA 2 ?_
  try simp only [Act.put, sA, sB, sC]
  refine tkA 3 ?_
  try simp only [Act.put, sA, sB, sC]
  refine tkA 5 ?_
  try simp only [Act.put, sA, sB, sC]
  refine tkA 6 ?_
  try simp only [Act.put, sA, sB, sC]
  refine tkA 7 ?_
  try simp only [Act.put, sA, sB, sC]
  refine tkA 8 ?_
  try simp only [Act.put, sA, sB, sC]
  refine tkA 10 ?_
  try simp only [Act.put, sA, sB, sC]
  refine rdB 1 9 (fun K hK => ?_) (fun K hK => ?_)
  · go_simp
    refine (c_sums W.drew).mono ?_
    rintro e w4 ⟨rfl, hw4⟩
    replace hw4 : w4 = (W.alloc (.map sumsE 8)).drew := hw4
    subst hw4
    dsimp only
    refine hK.out _ _ ?_ (fun hHeld => ?_)
    · (repeat (with_reducible first | exact HO.out | refine RA.set3 ?_ _ | refine RA.alloc ?_ _ | refine RA.drew ?_ | exact RA.refl HR.out))
    clear hK K
    try simp only [Act.put, sA, sB, sC]
    refine rdB 4 9 (fun K hK => ?_) (fun K hK => ?_)
    · rw [if_pos (by rfl)]
      refine wp_lookup (.tmp 23) (.tmp 25) 123 rfl _ _ _ rfl rfl hl ?_
      refine hK.out _ _ ?_ (fun hHeld => ?_)
      · (repeat (with_reducible first | exact HO.out | refine RA.set3 ?_ _ | refine RA.alloc ?_ _ | refine RA.drew ?_ | exact RA.refl HR.out))
      clear hK K
      try simp only [Act.put, sA, sB, sC]
      refine rdA 9 (fun K hK => ?_)
      go_simp
      refine hK.out _ _ ?_ (fun hHeld => ?_)
      · (repeat (with_reducible first | exact HO.out | refine RA.set3 ?_ _ | refine RA.alloc ?_ _ | refine RA.drew ?_ | exact RA.refl HR.out))
      clear hK K
      try simp only [Act.put, sA, sB, sC]
      refine rdA 11 (fun K hK => ?_)
      go_simp
      refine (c_ar6 _ _ _).mono ?_
      rintro e w5 ⟨rfl, nd, hw5⟩
      have HR5 : Hid (runAt w5 R s stk (memV Y) told out) := by subst hw5; have h := HR.out.below (below_al0 W (.map sumsE 8)); exact h
      have HO5 : Hid (Off (fun _ => False) W w5) := by subst hw5; exact (((Off.refl _ W).alloc (.map sumsE 8)).drew).drewN nd
      have HO : Hid (RA R s stk (memV Y) told out W w5) := ⟨HO5.out.mono (fun _ _ h => h.elim), s.a, HR5.out⟩
      have q3 : w5.cell? ⟨R, 3, none⟩ = some (.int .i64 s.a) := HR5.out.cell 3
      have qf : ∀ j, w5.frozen? ⟨R, j, none⟩ = false := fun j => HR5.out.free j
      have qR : R < w5.heap.size := HR5.out.lt
      clear hw5
      dsimp only
      refine hK.out _ _ ?_ (fun hHeld => ?_)
      · (repeat (with_reducible first | exact HO.out | refine RA.set3 ?_ _ | refine RA.alloc ?_ _ | refine RA.drew ?_ | exact RA.refl HR.out))
      clear hK K
      try simp only [Act.put, sA, sB, sC]
      refine tkA 12 ?_
      try simp only [Act.put, sA, sB, sC]
      refine tkA 13 ?_
      try simp only [Act.put, sA, sB, sC]
      refine tkA 14 ?_
      try simp only [Act.put, sA, sB, sC]
      refine rdA 15 (fun K hK => ?_)
      go_simp
      refine hK.out _ _ ?_ (fun hHeld => ?_)
      · (repeat (with_reducible first | exact HO.out | refine RA.set3 ?_ _ | refine RA.alloc ?_ _ | refine RA.drew ?_ | exact RA.refl HR.out))
      clear hK K
      try simp only [Act.put, sA, sB, sC]
      refine wpAnyH_done (by kernel_rfl) ?_ _
      go_wp2_with fail
      go_end0
      exact ⟨rfl, HR5.out.set 3 _, (Off.of_below HB.out).trans ((HO5.out.mono (fun _ _ h => h.elim)).trans (off1 _ _ _ _))⟩
    · go_simp
      refine hK.out _ _ ?_ (fun hHeld => ?_)
      · (repeat (with_reducible first | exact HO.out | refine RA.set3 ?_ _ | refine RA.alloc ?_ _ | refine RA.drew ?_ | exact RA.refl HR.out))
      clear hK K
      try simp only [Act.put, sA, sB, sC]
      refine rdA 4 (fun K hK => ?_)
      rw [if_pos (by rfl)]
      refine wp_lookup (.tmp 23) (.tmp 25) 123 rfl _ _ _ rfl rfl hl ?_
      refine hK.out _ _ ?_ (fun hHeld => ?_)
      · (repeat (with_reducible first | exact HO.out | refine RA.set3 ?_ _ | refine RA.alloc ?_ _ | refine RA.drew ?_ | exact RA.refl HR.out))
      clear hK K
      try simp only [Act.put, sA, sB, sC]
      refine rdA 11 (fun K hK => ?_)
      go_simp
      refine (c_ar6 _ _ _).mono ?_
      rintro e w5 ⟨rfl, nd, hw5⟩
      have HR5 : Hid (runAt w5 R s stk (memV Y) told out) := by subst hw5; have h := HR.out.below (below_al0 W (.map sumsE 8)); exact h
      have HO5 : Hid (Off (fun _ => False) W w5) := by subst hw5; exact (((Off.refl _ W).alloc (.map sumsE 8)).drew).drewN nd
      have HO : Hid (RA R s stk (memV Y) told out W w5) := ⟨HO5.out.mono (fun _ _ h => h.elim), s.a, HR5.out⟩
      have q3 : w5.cell? ⟨R, 3, none⟩ = some (.int .i64 s.a) := HR5.out.cell 3
      have qf : ∀ j, w5.frozen? ⟨R, j, none⟩ = false := fun j => HR5.out.free j
      have qR : R < w5.heap.size := HR5.out.lt
      clear hw5
      dsimp only
      refine hK.out _ _ ?_ (fun hHeld => ?_)
      · (repeat (with_reducible first | exact HO.out | refine RA.set3 ?_ _ | refine RA.alloc ?_ _ | refine RA.drew ?_ | exact RA.refl HR.out))
      clear hK K
      try simp only [Act.put, sA, sB, sC]
      refine tkA 12 ?_
      try simp only [Act.put, sA, sB, sC]
      refine tkA 13 ?_
      try simp only [Act.put, sA, sB, sC]
      refine tkA 14 ?_
      try simp only [Act.put, sA, sB, sC]
      refine rdA 15 (fun K hK => ?_)
      go_simp
      refine hK.out _ _ ?_ (fun hHeld => ?_)
      · (repeat (with_reducible first | exact HO.out | refine RA.set3 ?_ _ | refine RA.alloc ?_ _ | refine RA.drew ?_ | exact RA.refl HR.out))
      clear hK K
      try simp only [Act.put, sA, sB, sC]
      refine wpAnyH_done (by kernel_rfl) ?_ _
      go_wp2_with fail
      go_end0
      exact ⟨rfl, HR5.out.set 3 _, (Off.of_below HB.out).trans ((HO5.out.mono (fun _ _ h => h.elim)).trans (off1 _ _ _ _))⟩
  · go_simp
    refine hK.out _ _ ?_ (fun hHeld => ?_)
    · (repeat (with_reducible first | exact HO.out | refine RA.set3 ?_ _ | refine RA.alloc ?_ _ | refine RA.drew ?_ | exact RA.refl HR.out))
    clear hK K
    try simp only [Act.put, sA, sB, sC]
    refine rdA 1 (fun K hK => ?_)
    go_simp
    refine (c_sums W.drew).mono ?_
    rintro e w4 ⟨rfl, hw4⟩
    replace hw4 : w4 = (W.alloc (.map sumsE 8)).drew := hw4
    subst hw4
    dsimp only
    refine hK.out _ _ ?_ (fun hHeld => ?_)
    · (repeat (with_reducible first | exact HO.out | refine RA.set3 ?_ _ | refine RA.alloc ?_ _ | refine RA.drew ?_ | exact RA.refl HR.out))
    clear hK K
    try simp only [Act.put, sA, sB, sC]
    refine rdA 4 (fun K hK => ?_)
    rw [if_pos (by rfl)]
    refine wp_lookup (.tmp 23) (.tmp 25) 123 rfl _ _ _ rfl rfl hl ?_
    refine hK.out _ _ ?_ (fun hHeld => ?_)
    · (repeat (with_reducible first | exact HO.out | refine RA.set3 ?_ _ | refine RA.alloc ?_ _ | refine RA.drew ?_ | exact RA.refl HR.out))
    clear hK K
    try simp only [Act.put, sA, sB, sC]
    refine rdA 11 (fun K hK => ?_)
    go_simp
    refine (c_ar6 _ _ _).mono ?_
    rintro e w5 ⟨rfl, nd, hw5⟩
    have HR5 : Hid (runAt w5 R s stk (memV Y) told out) := by subst hw5; have h := HR.out.below (below_al0 W (.map sumsE 8)); exact h
    have HO5 : Hid (Off (fun _ => False) W w5) := by subst hw5; exact (((Off.refl _ W).alloc (.map sumsE 8)).drew).drewN nd
    have HO : Hid (RA R s stk (memV Y) told out W w5) := ⟨HO5.out.mono (fun _ _ h => h.elim), s.a, HR5.out⟩
    have q3 : w5.cell? ⟨R, 3, none⟩ = some (.int .i64 s.a) := HR5.out.cell 3
    have qf : ∀ j, w5.frozen? ⟨R, j, none⟩ = false := fun j => HR5.out.free j
    have qR : R < w5.heap.size := HR5.out.lt
    clear hw5
    dsimp only
    refine hK.out _ _ ?_ (fun hHeld => ?_)
    · (repeat (with_reducible first | exact HO.out | refine RA.set3 ?_ _ | refine RA.alloc ?_ _ | refine RA.drew ?_ | exact RA.refl HR.out))
    clear hK K
    try simp only [Act.put, sA, sB, sC]
    refine tkA 12 ?_
    try simp only [Act.put, sA, sB, sC]
    refine tkA 13 ?_
    try simp only [Act.put, sA, sB, sC]
    refine tkA 14 ?_
    try simp only [Act.put, sA, sB, sC]
    refine rdA 15 (fun K hK => ?_)
    go_simp
    refine hK.out _ _ ?_ (fun hHeld => ?_)
    · (repeat (with_reducible first | exact HO.out | refine RA.set3 ?_ _ | refine RA.alloc ?_ _ | refine RA.drew ?_ | exact RA.refl HR.out))
    clear hK K
    try simp only [Act.put, sA, sB, sC]
    refine wpAnyH_done (by kernel_rfl) ?_ _
    go_wp2_with fail
    go_end0
    exact ⟨rfl, HR5.out.set 3 _, (Off.of_below HB.out).trans ((HO5.out.mono (fun _ _ h => h.elim)).trans (off1 _ _ _ _))⟩
set_option maxHeartbeats 2000000 in
theorem c_do7_er (w : World) (B R Y : Nat) (s : St) (stk : Value) (told : Bool) (out : Int) (M : List Sg) (p n : Int) (hr : runAt w R s stk (memV Y) told out) (hm : MemOk w B Y M) (hp0 : 0 ≤ p) (hp1 : p < 4) (er : Int) (h : rdR M s p n = .error er) :
    Calls Try.prog 41 #[.pointer (some ⟨R, 0, none⟩), .agg #[.int .i64 7, .int .i64 p, .int .i64 n]] w fun e w' => e = .panicked (flt er) ∧ Below w.heap.size w w' := by
  have HH := Lib.hid h
  clear h
  have hal := below_al0 w (.cells #[.int .i64 7, .int .i64 p, .int .i64 n] 64)
  have HR0 := Lib.hid hr
  have hr1 := Lib.hid (hr.below hal)
  have hm1 := Lib.hid (hm.below hal)
  have HB := Lib.hid hal
  have hR := hr.lt
  have rf : ∀ j, w.frozen? ⟨R, j, none⟩ = false := fun j => hr.free j
  have r3 : w.cell? ⟨R, 3, none⟩ = some (.int .i64 s.a) := hr.cell 3
  have r17 : w.cell? ⟨R, 17, none⟩ = some (.bool s.hal) := hr.cell 17
  have r19 : w.cell? ⟨R, 19, none⟩ = some (.bool told) := hr.cell 19
  have r20 : w.cell? ⟨R, 20, none⟩ = some (.int .i64 out) := hr.cell 20
  have r1 : w.cell? ⟨R, 1, none⟩ = some (.int .i64 s.off) := hr.cell 1
  clear hal hr hm
  go_enter Try.func41, Try.ntmps41
  go_wp2_with (first | (go_at_call 55; refine (c_read_er _ B R Y s stk told out M _ p n hp0 hp1 hr1.out hm1.out er HH.out).mono ?_; rintro e w2 ⟨rfl, hb2⟩))
  exact ⟨rfl, rfl, below2 HB.out hb2⟩
set_option maxHeartbeats 2000000 in
theorem c_do7 (w : World) (B R Y : Nat) (s : St) (stk : Value) (told : Bool) (out : Int) (M : List Sg) (p n : Int) (hr : runAt w R s stk (memV Y) told out) (hm : MemOk w B Y M) (hp0 : 0 ≤ p) (hp1 : p < 4) (x : Int) (g : Sg) (h : rdR M s p n = .ok (x, g)) :
    Calls Try.prog 41 #[.pointer (some ⟨R, 0, none⟩), .agg #[.int .i64 7, .int .i64 p, .int .i64 n]] w fun e w' => e = .returned (.tuple #[]) ∧ runAt w' R { s with a := arR 7 s.a x } stk (memV Y) told out ∧ Off (· = R) w w' := by
  have HH := Lib.hid h
  clear h
  have hal := below_al0 w (.cells #[.int .i64 7, .int .i64 p, .int .i64 n] 64)
  have hr1 := Lib.hid (hr.below hal)
  have hm1 := Lib.hid (hm.below hal)
  have B0 := Lib.hid (blk3.new w 64 (.int .i64 7) (.int .i64 p) (.int .i64 n))
  have HB := Lib.hid hal
  have hRw := hr.lt
  clear hal hr hm
  go_enter Try.func41, Try.ntmps41
  go_wp2_with (first | (go_at_call 55; refine (c_read_go _ B R Y s stk told out M _ p n hp0 hp1 hr1.out hm1.out x g HH.out).mono ?_; rintro e w2 ⟨ad, cap, rfl, hb2⟩; unfold sgV; have hr2 := Lib.hid (hr1.out.below hb2); have B2 := Lib.hid (B0.out.below hb2); have hb2 := Lib.hid hb2))
  have HR := Lib.hid (hr2.out.below (below_al0 w2 (.cells #[.slice ad g.ws.length cap, .int .i64 g.md, .int .i64 g.r1, .int .i64 g.r2, .int .i64 g.r3, .int .i64 g.g] 60)))
  have B2 := Lib.hid (B2.out.below (below_al0 w2 (.cells #[.slice ad g.ws.length cap, .int .i64 g.md, .int .i64 g.r1, .int .i64 g.r2, .int .i64 g.r3, .int .i64 g.g] 60)))
  have HB := Lib.hid (below_al (below2 HB.out hb2.out) (.cells #[.slice ad g.ws.length cap, .int .i64 g.md, .int .i64 g.r1, .int .i64 g.r2, .int .i64 g.r3, .int .i64 g.g] 60))
  clear hr1 hr2 hb2 hm1 B0
  generalize w2.alloc (.cells #[.slice ad g.ws.length cap, .int .i64 g.md, .int .i64 g.r1, .int .i64 g.r2, .int .i64 g.r3, .int .i64 g.g] 60) = W at HR B2 HB ⊢
  have hNR : ¬ w.heap.size = R := by omega
  have hR : R < W.heap.size := HR.out.lt
  have k0 : ∀ w', RA R s stk (memV Y) told out W w' → w'.cell? ⟨w.heap.size, 0, none⟩ = some (.int .i64 7) := fun w' h => (B2.out.off h.1 hNR).facts.1.1
  have r3 : W.cell? ⟨R, 3, none⟩ = some (.int .i64 s.a) := HR.out.cell 3
  have r3' : W.drew.cell? ⟨R, 3, none⟩ = some (.int .i64 s.a) := HR.out.cell 3
  have hl := map_look ((W.alloc (.map sumsE 8)).drew) W.heap.size sumsE 8 7 3 (.func (.func 90) #[] #[]) (heap_alloc_new W _) (by rfl) (by rfl)
  refine wp_region_held_drew (S := fun w' => RA R s stk (memV Y) told out W w') (by kernel_rfl) (RA.drew (RA.refl HR.out)) (fun hHeld => ?_)
  refine tkA 0 ?_
  try simp only [Act.put, sA, sB, sC]
  refine tkA 2 ?_
  try simp only [Act.put, sA, sB, sC]
  refine tkA 3 ?_
  try simp only [Act.put, sA, sB, sC]
  refine tkA 5 ?_
  try simp only [Act.put, sA, sB, sC]
  refine tkA 6 ?_
  try simp only [Act.put, sA, sB, sC]
  refine tkA 7 ?_
  try simp only [Act.put, sA, sB, sC]
  refine tkA 8 ?_
  try simp only [Act.put, sA, sB, sC]
  refine tkA 10 ?_
  try simp only [Act.put, sA, sB, sC]
  refine rdB 1 9 (fun K hK => ?_) (fun K hK => ?_)
  · go_simp
    refine (c_sums W.drew).mono ?_
    rintro e w4 ⟨rfl, hw4⟩
    replace hw4 : w4 = (W.alloc (.map sumsE 8)).drew := hw4
    subst hw4
    dsimp only
    refine hK.out _ _ ?_ (fun hHeld => ?_)
    · (repeat (with_reducible first | exact HO.out | refine RA.set3 ?_ _ | refine RA.alloc ?_ _ | refine RA.drew ?_ | exact RA.refl HR.out))
    clear hK K
    try simp only [Act.put, sA, sB, sC]
    refine rdB 4 9 (fun K hK => ?_) (fun K hK => ?_)
    · rw [if_pos (by rfl)]
      refine wp_lookup (.tmp 23) (.tmp 25) 123 rfl _ _ _ rfl rfl hl ?_
      refine hK.out _ _ ?_ (fun hHeld => ?_)
      · (repeat (with_reducible first | exact HO.out | refine RA.set3 ?_ _ | refine RA.alloc ?_ _ | refine RA.drew ?_ | exact RA.refl HR.out))
      clear hK K
      try simp only [Act.put, sA, sB, sC]
      refine rdA 9 (fun K hK => ?_)
      go_simp
      refine hK.out _ _ ?_ (fun hHeld => ?_)
      · (repeat (with_reducible first | exact HO.out | refine RA.set3 ?_ _ | refine RA.alloc ?_ _ | refine RA.drew ?_ | exact RA.refl HR.out))
      clear hK K
      try simp only [Act.put, sA, sB, sC]
      refine rdA 11 (fun K hK => ?_)
      go_simp
      refine (c_ar7 _ _ _).mono ?_
      rintro e w5 ⟨rfl, nd, hw5⟩
      have HR5 : Hid (runAt w5 R s stk (memV Y) told out) := by subst hw5; have h := HR.out.below (below_al0 W (.map sumsE 8)); exact h
      have HO5 : Hid (Off (fun _ => False) W w5) := by subst hw5; exact (((Off.refl _ W).alloc (.map sumsE 8)).drew).drewN nd
      have HO : Hid (RA R s stk (memV Y) told out W w5) := ⟨HO5.out.mono (fun _ _ h => h.elim), s.a, HR5.out⟩
      have q3 : w5.cell? ⟨R, 3, none⟩ = some (.int .i64 s.a) := HR5.out.cell 3
      have qf : ∀ j, w5.frozen? ⟨R, j, none⟩ = false := fun j => HR5.out.free j
      have qR : R < w5.heap.size := HR5.out.lt
      clear hw5
      dsimp only
      refine hK.out _ _ ?_ (fun hHeld => ?_)
      · (repeat (with_reducible first | exact HO.out | refine RA.set3 ?_ _ | refine RA.alloc ?_ _ | refine RA.drew ?_ | exact RA.refl HR.out))
      clear hK K
      try simp only [Act.put, sA, sB, sC]
      refine tkA 12 ?_
      try simp only [Act.put, sA, sB, sC]
      refine tkA 13 ?_
      try simp only [Act.put, sA, sB, sC]
      refine tkA 14 ?_
      try simp only [Act.put, sA, sB, sC]
      refine rdA 15 (fun K hK => ?_)
      go_simp
      refine hK.out _ _ ?_ (fun hHeld => ?_)
      · (repeat (with_reducible first | exact HO.out | refine RA.set3 ?_ _ | refine RA.alloc ?_ _ | refine RA.drew ?_ | exact RA.refl HR.out))
      clear hK K
      try simp only [Act.put, sA, sB, sC]
      refine wpAnyH_done (by kernel_rfl) ?_ _
      go_wp2_with fail
      go_end0
      exact ⟨rfl, HR5.out.set 3 _, (Off.of_below HB.out).trans ((HO5.out.mono (fun _ _ h => h.elim)).trans (off1 _ _ _ _))⟩
    · go_simp
      refine hK.out _ _ ?_ (fun hHeld => ?_)
      · (repeat (with_reducible first | exact HO.out | refine RA.set3 ?_ _ | refine RA.alloc ?_ _ | refine RA.drew ?_ | exact RA.refl HR.out))
      clear hK K
      try simp only [Act.put, sA, sB, sC]
      refine rdA 4 (fun K hK => ?_)
      rw [if_pos (by rfl)]
      refine wp_lookup (.tmp 23) (.tmp 25) 123 rfl _ _ _ rfl rfl hl ?_
      refine hK.out _ _ ?_ (fun hHeld => ?_)
      · (repeat (with_reducible first | exact HO.out | refine RA.set3 ?_ _ | refine RA.alloc ?_ _ | refine RA.drew ?_ | exact RA.refl HR.out))
      clear hK K
      try simp only [Act.put, sA, sB, sC]
      refine rdA 11 (fun K hK => ?_)
      go_simp
      refine (c_ar7 _ _ _).mono ?_
      rintro e w5 ⟨rfl, nd, hw5⟩
      have HR5 : Hid (runAt w5 R s stk (memV Y) told out) := by subst hw5; have h := HR.out.below (below_al0 W (.map sumsE 8)); exact h
      have HO5 : Hid (Off (fun _ => False) W w5) := by subst hw5; exact (((Off.refl _ W).alloc (.map sumsE 8)).drew).drewN nd
      have HO : Hid (RA R s stk (memV Y) told out W w5) := ⟨HO5.out.mono (fun _ _ h => h.elim), s.a, HR5.out⟩
      have q3 : w5.cell? ⟨R, 3, none⟩ = some (.int .i64 s.a) := HR5.out.cell 3
      have qf : ∀ j, w5.frozen? ⟨R, j, none⟩ = false := fun j => HR5.out.free j
      have qR : R < w5.heap.size := HR5.out.lt
      clear hw5
      dsimp only
      refine hK.out _ _ ?_ (fun hHeld => ?_)
      · (repeat (with_reducible first | exact HO.out | refine RA.set3 ?_ _ | refine RA.alloc ?_ _ | refine RA.drew ?_ | exact RA.refl HR.out))
      clear hK K
      try simp only [Act.put, sA, sB, sC]
      refine tkA 12 ?_
      try simp only [Act.put, sA, sB, sC]
      refine tkA 13 ?_
      try simp only [Act.put, sA, sB, sC]
      refine tkA 14 ?_
      try simp only [Act.put, sA, sB, sC]
      refine rdA 15 (fun K hK => ?_)
      go_simp
      refine hK.out _ _ ?_ (fun hHeld => ?_)
      · (repeat (with_reducible first | exact HO.out | refine RA.set3 ?_ _ | refine RA.alloc ?_ _ | refine RA.drew ?_ | exact RA.refl HR.out))
      clear hK K
      try simp only [Act.put, sA, sB, sC]
      refine wpAnyH_done (by kernel_rfl) ?_ _
      go_wp2_with fail
      go_end0
      exact ⟨rfl, HR5.out.set 3 _, (Off.of_below HB.out).trans ((HO5.out.mono (fun _ _ h => h.elim)).trans (off1 _ _ _ _))⟩
  · go_simp
    refine hK.out _ _ ?_ (fun hHeld => ?_)
    · (repeat (with_reducible first | exact HO.out | refine RA.set3 ?_ _ | refine RA.alloc ?_ _ | refine RA.drew ?_ | exact RA.refl HR.out))
    clear hK K
    try simp only [Act.put, sA, sB, sC]
    refine rdA 1 (fun K hK => ?_)
    go_simp
    refine (c_sums W.drew).mono ?_
    rintro e w4 ⟨rfl, hw4⟩
    replace hw4 : w4 = (W.alloc (.map sumsE 8)).drew := hw4
    subst hw4
    dsimp only
    refine hK.out _ _ ?_ (fun hHeld => ?_)
    · (repeat (with_reducible first | exact HO.out | refine RA.set3 ?_ _ | refine RA.alloc ?_ _ | refine RA.drew ?_ | exact RA.refl HR.out))
    clear hK K
    try simp only [Act.put, sA, sB, sC]
    refine rdA 4 (fun K hK => ?_)
    rw [if_pos (by rfl)]
    refine wp_lookup (.tmp 23) (.tmp 25) 123 rfl _ _ _ rfl rfl hl ?_
    refine hK.out _ _ ?_ (fun hHeld => ?_)
    · (repeat (with_reducible first | exact HO.out | refine RA.set3 ?_ _ | refine RA.alloc ?_ _ | refine RA.drew ?_ | exact RA.refl HR.out))
    clear hK K
    try simp only [Act.put, sA, sB, sC]
    refine rdA 11 (fun K hK => ?_)
    go_simp
    refine (c_ar7 _ _ _).mono ?_
    rintro e w5 ⟨rfl, nd, hw5⟩
    have HR5 : Hid (runAt w5 R s stk (memV Y) told out) := by subst hw5; have h := HR.out.below (below_al0 W (.map sumsE 8)); exact h
    have HO5 : Hid (Off (fun _ => False) W w5) := by subst hw5; exact (((Off.refl _ W).alloc (.map sumsE 8)).drew).drewN nd
    have HO : Hid (RA R s stk (memV Y) told out W w5) := ⟨HO5.out.mono (fun _ _ h => h.elim), s.a, HR5.out⟩
    have q3 : w5.cell? ⟨R, 3, none⟩ = some (.int .i64 s.a) := HR5.out.cell 3
    have qf : ∀ j, w5.frozen? ⟨R, j, none⟩ = false := fun j => HR5.out.free j
    have qR : R < w5.heap.size := HR5.out.lt
    clear hw5
    dsimp only
    refine hK.out _ _ ?_ (fun hHeld => ?_)
    · (repeat (with_reducible first | exact HO.out | refine RA.set3 ?_ _ | refine RA.alloc ?_ _ | refine RA.drew ?_ | exact RA.refl HR.out))
    clear hK K
    try simp only [Act.put, sA, sB, sC]
    refine tkA 12 ?_
    try simp only [Act.put, sA, sB, sC]
    refine tkA 13 ?_
    try simp only [Act.put, sA, sB, sC]
    refine tkA 14 ?_
    try simp only [Act.put, sA, sB, sC]
    refine rdA 15 (fun K hK => ?_)
    go_simp
    refine hK.out _ _ ?_ (fun hHeld => ?_)
    · (repeat (with_reducible first | exact HO.out | refine RA.set3 ?_ _ | refine RA.alloc ?_ _ | refine RA.drew ?_ | exact RA.refl HR.out))
    clear hK K
    try simp only [Act.put, sA, sB, sC]
    refine wpAnyH_done (by kernel_rfl) ?_ _
    go_wp2_with fail
    go_end0
    exact ⟨rfl, HR5.out.set 3 _, (Off.of_below HB.out).trans ((HO5.out.mono (fun _ _ h => h.elim)).trans (off1 _ _ _ _))⟩
end Go.Proofs.Ytiakonmamkfopaa
