/- The processor's run: a pointer is read. -/
import Derived.Test.YtiakonmamkfopaaZCpuN
namespace Go.Proofs.Ytiakonmamkfopaa
open Go.RowKit Go.ChangeShapes
set_option linter.unusedVariables false
set_option maxRecDepth 100000
set_option maxHeartbeats 2000000 in
theorem c_do18_0 (w : World) (B R Y : Nat) (s : St) (stk : Value) (told : Bool) (out : Int) (M : List Sg) (p n : Int) (hr : runAt w R s stk (memV Y) told out) (hm : MemOk w B Y M) (x : Int) (g : Sg) (h : rdR M s 0 n = .ok (x, g)) :
    Calls Try.prog 41 #[.pointer (some ⟨R, 0, none⟩), .agg #[.int .i64 18, .int .i64 0, .int .i64 n]] w fun e w' => e = .returned (.tuple #[]) ∧ runAt w' R (s.setP 0 ⟨pSeg x, pOff x, max (pRing x) (max g.r1 (s.eb 0))⟩) stk (memV Y) told out ∧ Off (· = R) w w' := by
  have HH := Lib.hid h
  clear h
  have hal := below_al0 w (.cells #[.int .i64 18, .int .i64 0, .int .i64 n] 64)
  have hr1 := Lib.hid (hr.below hal)
  have hm1 := Lib.hid (hm.below hal)
  have B0 := Lib.hid (blk3.new w 64 (.int .i64 18) (.int .i64 0) (.int .i64 n))
  have HB := Lib.hid hal
  have hRw := hr.lt
  have hNR : ¬ w.heap.size = R := by omega
  clear hal hr hm
  go_enter Try.func41, Try.ntmps41
  go_wp2_with (first | (go_at_call 55; refine (c_read_go _ B R Y s stk told out M _ 0 n (by decide) (by decide) hr1.out hm1.out x g HH.out).mono ?_; rintro e w2 ⟨ad, cap, rfl, hb2⟩; unfold sgV; have hr2 := Lib.hid (hr1.out.below hb2); have B2 := Lib.hid (B0.out.below hb2); have hb2 := Lib.hid hb2))
  have HR := Lib.hid (hr2.out.below (below_al0 w2 (.cells #[.slice ad g.ws.length cap, .int .i64 g.md, .int .i64 g.r1, .int .i64 g.r2, .int .i64 g.r3, .int .i64 g.g] 60)))
  have B2 := Lib.hid (B2.out.below (below_al0 w2 (.cells #[.slice ad g.ws.length cap, .int .i64 g.md, .int .i64 g.r1, .int .i64 g.r2, .int .i64 g.r3, .int .i64 g.g] 60)))
  have HB := Lib.hid (below_al (below2 HB.out hb2.out) (.cells #[.slice ad g.ws.length cap, .int .i64 g.md, .int .i64 g.r1, .int .i64 g.r2, .int .i64 g.r3, .int .i64 g.g] 60))
  have X2 := Lib.hid (blk6.new w2 60 (.slice ad g.ws.length cap) (.int .i64 g.md) (.int .i64 g.r1) (.int .i64 g.r2) (.int .i64 g.r3) (.int .i64 g.g))
  have hQR : ¬ w2.heap.size = R := by have := hr2.out.lt; omega
  clear hr1 hr2 hb2 hm1 B0
  generalize w2.alloc (.cells #[.slice ad g.ws.length cap, .int .i64 g.md, .int .i64 g.r1, .int .i64 g.r2, .int .i64 g.r3, .int .i64 g.g] 60) = W at HR B2 HB X2 ⊢
  generalize w2.heap.size = Q at X2 hQR ⊢
  have k0 : ∀ w', Off (· = R) W w' → w'.cell? ⟨w.heap.size, 1, none⟩ = some (.int .i64 0) := fun w' h => (B2.out.off h hNR).facts.1.2.1
  have k1 : ∀ w', Off (· = R) W w' → w'.cell? ⟨Q, 2, none⟩ = some (.int .i64 g.r1) := fun w' h => (X2.out.off h hQR).facts.1.2.2.1
  have k2 : ∀ w', Off (· = R) W w' → w'.cell? ⟨Q, 3, none⟩ = some (.int .i64 g.r2) := fun w' h => (X2.out.off h hQR).facts.1.2.2.2.1
  have k3 : ∀ w', Off (· = R) W w' → w'.cell? ⟨Q, 4, none⟩ = some (.int .i64 g.r3) := fun w' h => (X2.out.off h hQR).facts.1.2.2.2.2.1
  have k4 : ∀ w', Off (· = R) W w' → w'.cell? ⟨Q, 5, none⟩ = some (.int .i64 g.g) := fun w' h => (X2.out.off h hQR).facts.1.2.2.2.2.2
  go_region_held3 (fun w' => Off (· = R) W w')
    ((repeat (with_reducible first | exact HO.out | refine Off.setCell ?_ (by simp) _ | refine Off.drew ?_ | exact Off.refl _ _)))
    ((first
      | (go_at_call 61; refine (c_DecodePointer _ W.drew).mono ?_; rintro e w4 ⟨rfl, hb4⟩; have HO4 : Hid (Off (fun _ => False) W w4) := (Off.refl _ W).drew.trans (.of_below hb4); have HO : Hid (Off (· = R) W w4) := HO4.out.mono (fun _ _ h => h.elim); clear hb4)
      | (go_at_call 62; refine (c_Follow _ _ _ _ _ _ _ _ _).mono ?_; rintro e w5 ⟨rfl, hb5⟩; have HO5 : Hid (Off (fun _ => False) W w5) := HO4.out.trans (.of_below hb5); have HO : Hid (Off (· = R) W w5) := HO5.out.mono (fun _ _ h => h.elim); have HR5 := Lib.hid (HR.out.off HO5.out id); have q4 : w5.cell? ⟨R, 4, none⟩ = some (.int .i64 s.p0.seg) := HR5.out.cell 4; have q5 : w5.cell? ⟨R, 5, none⟩ = some (.int .i64 s.p0.off) := HR5.out.cell 5; have q6 : w5.cell? ⟨R, 6, none⟩ = some (.int .i64 s.p0.ring) := HR5.out.cell 6; have qf : ∀ j, w5.frozen? ⟨R, j, none⟩ = false := (fun j => HR5.out.free j); have qR : R < w5.heap.size := HR5.out.lt; clear hb5)))
  all_goals
    go_wp2_with fail
    go_end0
    exact ⟨rfl, set3w HR5.out 4 (by decide) _ _ _, (Off.of_below HB.out).trans ((HO5.out.mono (fun _ _ h => h.elim)).trans (off3P _ _ _ _ _ _ _ _))⟩
set_option maxHeartbeats 2000000 in
theorem c_do18_1 (w : World) (B R Y : Nat) (s : St) (stk : Value) (told : Bool) (out : Int) (M : List Sg) (p n : Int) (hr : runAt w R s stk (memV Y) told out) (hm : MemOk w B Y M) (x : Int) (g : Sg) (h : rdR M s 1 n = .ok (x, g)) :
    Calls Try.prog 41 #[.pointer (some ⟨R, 0, none⟩), .agg #[.int .i64 18, .int .i64 1, .int .i64 n]] w fun e w' => e = .returned (.tuple #[]) ∧ runAt w' R (s.setP 1 ⟨pSeg x, pOff x, max (pRing x) (max g.r1 (s.eb 1))⟩) stk (memV Y) told out ∧ Off (· = R) w w' := by
  have HH := Lib.hid h
  clear h
  have hal := below_al0 w (.cells #[.int .i64 18, .int .i64 1, .int .i64 n] 64)
  have hr1 := Lib.hid (hr.below hal)
  have hm1 := Lib.hid (hm.below hal)
  have B0 := Lib.hid (blk3.new w 64 (.int .i64 18) (.int .i64 1) (.int .i64 n))
  have HB := Lib.hid hal
  have hRw := hr.lt
  have hNR : ¬ w.heap.size = R := by omega
  clear hal hr hm
  go_enter Try.func41, Try.ntmps41
  go_wp2_with (first | (go_at_call 55; refine (c_read_go _ B R Y s stk told out M _ 1 n (by decide) (by decide) hr1.out hm1.out x g HH.out).mono ?_; rintro e w2 ⟨ad, cap, rfl, hb2⟩; unfold sgV; have hr2 := Lib.hid (hr1.out.below hb2); have B2 := Lib.hid (B0.out.below hb2); have hb2 := Lib.hid hb2))
  have HR := Lib.hid (hr2.out.below (below_al0 w2 (.cells #[.slice ad g.ws.length cap, .int .i64 g.md, .int .i64 g.r1, .int .i64 g.r2, .int .i64 g.r3, .int .i64 g.g] 60)))
  have B2 := Lib.hid (B2.out.below (below_al0 w2 (.cells #[.slice ad g.ws.length cap, .int .i64 g.md, .int .i64 g.r1, .int .i64 g.r2, .int .i64 g.r3, .int .i64 g.g] 60)))
  have HB := Lib.hid (below_al (below2 HB.out hb2.out) (.cells #[.slice ad g.ws.length cap, .int .i64 g.md, .int .i64 g.r1, .int .i64 g.r2, .int .i64 g.r3, .int .i64 g.g] 60))
  have X2 := Lib.hid (blk6.new w2 60 (.slice ad g.ws.length cap) (.int .i64 g.md) (.int .i64 g.r1) (.int .i64 g.r2) (.int .i64 g.r3) (.int .i64 g.g))
  have hQR : ¬ w2.heap.size = R := by have := hr2.out.lt; omega
  clear hr1 hr2 hb2 hm1 B0
  generalize w2.alloc (.cells #[.slice ad g.ws.length cap, .int .i64 g.md, .int .i64 g.r1, .int .i64 g.r2, .int .i64 g.r3, .int .i64 g.g] 60) = W at HR B2 HB X2 ⊢
  generalize w2.heap.size = Q at X2 hQR ⊢
  have k0 : ∀ w', Off (· = R) W w' → w'.cell? ⟨w.heap.size, 1, none⟩ = some (.int .i64 1) := fun w' h => (B2.out.off h hNR).facts.1.2.1
  have k1 : ∀ w', Off (· = R) W w' → w'.cell? ⟨Q, 2, none⟩ = some (.int .i64 g.r1) := fun w' h => (X2.out.off h hQR).facts.1.2.2.1
  have k2 : ∀ w', Off (· = R) W w' → w'.cell? ⟨Q, 3, none⟩ = some (.int .i64 g.r2) := fun w' h => (X2.out.off h hQR).facts.1.2.2.2.1
  have k3 : ∀ w', Off (· = R) W w' → w'.cell? ⟨Q, 4, none⟩ = some (.int .i64 g.r3) := fun w' h => (X2.out.off h hQR).facts.1.2.2.2.2.1
  have k4 : ∀ w', Off (· = R) W w' → w'.cell? ⟨Q, 5, none⟩ = some (.int .i64 g.g) := fun w' h => (X2.out.off h hQR).facts.1.2.2.2.2.2
  go_region_held3 (fun w' => Off (· = R) W w')
    ((repeat (with_reducible first | exact HO.out | refine Off.setCell ?_ (by simp) _ | refine Off.drew ?_ | exact Off.refl _ _)))
    ((first
      | (go_at_call 61; refine (c_DecodePointer _ W.drew).mono ?_; rintro e w4 ⟨rfl, hb4⟩; have HO4 : Hid (Off (fun _ => False) W w4) := (Off.refl _ W).drew.trans (.of_below hb4); have HO : Hid (Off (· = R) W w4) := HO4.out.mono (fun _ _ h => h.elim); clear hb4)
      | (go_at_call 62; refine (c_Follow _ _ _ _ _ _ _ _ _).mono ?_; rintro e w5 ⟨rfl, hb5⟩; have HO5 : Hid (Off (fun _ => False) W w5) := HO4.out.trans (.of_below hb5); have HO : Hid (Off (· = R) W w5) := HO5.out.mono (fun _ _ h => h.elim); have HR5 := Lib.hid (HR.out.off HO5.out id); have q4 : w5.cell? ⟨R, 7, none⟩ = some (.int .i64 s.p1.seg) := HR5.out.cell 7; have q5 : w5.cell? ⟨R, 8, none⟩ = some (.int .i64 s.p1.off) := HR5.out.cell 8; have q6 : w5.cell? ⟨R, 9, none⟩ = some (.int .i64 s.p1.ring) := HR5.out.cell 9; have qf : ∀ j, w5.frozen? ⟨R, j, none⟩ = false := (fun j => HR5.out.free j); have qR : R < w5.heap.size := HR5.out.lt; clear hb5)))
  all_goals
    go_wp2_with fail
    go_end0
    exact ⟨rfl, set3w HR5.out 7 (by decide) _ _ _, (Off.of_below HB.out).trans ((HO5.out.mono (fun _ _ h => h.elim)).trans (off3P _ _ _ _ _ _ _ _))⟩
set_option maxHeartbeats 2000000 in
theorem c_do18_2 (w : World) (B R Y : Nat) (s : St) (stk : Value) (told : Bool) (out : Int) (M : List Sg) (p n : Int) (hr : runAt w R s stk (memV Y) told out) (hm : MemOk w B Y M) (x : Int) (g : Sg) (h : rdR M s 2 n = .ok (x, g)) :
    Calls Try.prog 41 #[.pointer (some ⟨R, 0, none⟩), .agg #[.int .i64 18, .int .i64 2, .int .i64 n]] w fun e w' => e = .returned (.tuple #[]) ∧ runAt w' R (s.setP 2 ⟨pSeg x, pOff x, max (pRing x) (max g.r1 (s.eb 2))⟩) stk (memV Y) told out ∧ Off (· = R) w w' := by
  have HH := Lib.hid h
  clear h
  have hal := below_al0 w (.cells #[.int .i64 18, .int .i64 2, .int .i64 n] 64)
  have hr1 := Lib.hid (hr.below hal)
  have hm1 := Lib.hid (hm.below hal)
  have B0 := Lib.hid (blk3.new w 64 (.int .i64 18) (.int .i64 2) (.int .i64 n))
  have HB := Lib.hid hal
  have hRw := hr.lt
  have hNR : ¬ w.heap.size = R := by omega
  clear hal hr hm
  go_enter Try.func41, Try.ntmps41
  go_wp2_with (first | (go_at_call 55; refine (c_read_go _ B R Y s stk told out M _ 2 n (by decide) (by decide) hr1.out hm1.out x g HH.out).mono ?_; rintro e w2 ⟨ad, cap, rfl, hb2⟩; unfold sgV; have hr2 := Lib.hid (hr1.out.below hb2); have B2 := Lib.hid (B0.out.below hb2); have hb2 := Lib.hid hb2))
  have HR := Lib.hid (hr2.out.below (below_al0 w2 (.cells #[.slice ad g.ws.length cap, .int .i64 g.md, .int .i64 g.r1, .int .i64 g.r2, .int .i64 g.r3, .int .i64 g.g] 60)))
  have B2 := Lib.hid (B2.out.below (below_al0 w2 (.cells #[.slice ad g.ws.length cap, .int .i64 g.md, .int .i64 g.r1, .int .i64 g.r2, .int .i64 g.r3, .int .i64 g.g] 60)))
  have HB := Lib.hid (below_al (below2 HB.out hb2.out) (.cells #[.slice ad g.ws.length cap, .int .i64 g.md, .int .i64 g.r1, .int .i64 g.r2, .int .i64 g.r3, .int .i64 g.g] 60))
  have X2 := Lib.hid (blk6.new w2 60 (.slice ad g.ws.length cap) (.int .i64 g.md) (.int .i64 g.r1) (.int .i64 g.r2) (.int .i64 g.r3) (.int .i64 g.g))
  have hQR : ¬ w2.heap.size = R := by have := hr2.out.lt; omega
  clear hr1 hr2 hb2 hm1 B0
  generalize w2.alloc (.cells #[.slice ad g.ws.length cap, .int .i64 g.md, .int .i64 g.r1, .int .i64 g.r2, .int .i64 g.r3, .int .i64 g.g] 60) = W at HR B2 HB X2 ⊢
  generalize w2.heap.size = Q at X2 hQR ⊢
  have k0 : ∀ w', Off (· = R) W w' → w'.cell? ⟨w.heap.size, 1, none⟩ = some (.int .i64 2) := fun w' h => (B2.out.off h hNR).facts.1.2.1
  have k1 : ∀ w', Off (· = R) W w' → w'.cell? ⟨Q, 2, none⟩ = some (.int .i64 g.r1) := fun w' h => (X2.out.off h hQR).facts.1.2.2.1
  have k2 : ∀ w', Off (· = R) W w' → w'.cell? ⟨Q, 3, none⟩ = some (.int .i64 g.r2) := fun w' h => (X2.out.off h hQR).facts.1.2.2.2.1
  have k3 : ∀ w', Off (· = R) W w' → w'.cell? ⟨Q, 4, none⟩ = some (.int .i64 g.r3) := fun w' h => (X2.out.off h hQR).facts.1.2.2.2.2.1
  have k4 : ∀ w', Off (· = R) W w' → w'.cell? ⟨Q, 5, none⟩ = some (.int .i64 g.g) := fun w' h => (X2.out.off h hQR).facts.1.2.2.2.2.2
  go_region_held3 (fun w' => Off (· = R) W w')
    ((repeat (with_reducible first | exact HO.out | refine Off.setCell ?_ (by simp) _ | refine Off.drew ?_ | exact Off.refl _ _)))
    ((first
      | (go_at_call 61; refine (c_DecodePointer _ W.drew).mono ?_; rintro e w4 ⟨rfl, hb4⟩; have HO4 : Hid (Off (fun _ => False) W w4) := (Off.refl _ W).drew.trans (.of_below hb4); have HO : Hid (Off (· = R) W w4) := HO4.out.mono (fun _ _ h => h.elim); clear hb4)
      | (go_at_call 62; refine (c_Follow _ _ _ _ _ _ _ _ _).mono ?_; rintro e w5 ⟨rfl, hb5⟩; have HO5 : Hid (Off (fun _ => False) W w5) := HO4.out.trans (.of_below hb5); have HO : Hid (Off (· = R) W w5) := HO5.out.mono (fun _ _ h => h.elim); have HR5 := Lib.hid (HR.out.off HO5.out id); have q4 : w5.cell? ⟨R, 10, none⟩ = some (.int .i64 s.p2.seg) := HR5.out.cell 10; have q5 : w5.cell? ⟨R, 11, none⟩ = some (.int .i64 s.p2.off) := HR5.out.cell 11; have q6 : w5.cell? ⟨R, 12, none⟩ = some (.int .i64 s.p2.ring) := HR5.out.cell 12; have qf : ∀ j, w5.frozen? ⟨R, j, none⟩ = false := (fun j => HR5.out.free j); have qR : R < w5.heap.size := HR5.out.lt; clear hb5)))
  all_goals
    go_wp2_with fail
    go_end0
    exact ⟨rfl, set3w HR5.out 10 (by decide) _ _ _, (Off.of_below HB.out).trans ((HO5.out.mono (fun _ _ h => h.elim)).trans (off3P _ _ _ _ _ _ _ _))⟩
set_option maxHeartbeats 2000000 in
theorem c_do18_3 (w : World) (B R Y : Nat) (s : St) (stk : Value) (told : Bool) (out : Int) (M : List Sg) (p n : Int) (hr : runAt w R s stk (memV Y) told out) (hm : MemOk w B Y M) (x : Int) (g : Sg) (h : rdR M s 3 n = .ok (x, g)) :
    Calls Try.prog 41 #[.pointer (some ⟨R, 0, none⟩), .agg #[.int .i64 18, .int .i64 3, .int .i64 n]] w fun e w' => e = .returned (.tuple #[]) ∧ runAt w' R (s.setP 3 ⟨pSeg x, pOff x, max (pRing x) (max g.r1 (s.eb 3))⟩) stk (memV Y) told out ∧ Off (· = R) w w' := by
  have HH := Lib.hid h
  clear h
  have hal := below_al0 w (.cells #[.int .i64 18, .int .i64 3, .int .i64 n] 64)
  have hr1 := Lib.hid (hr.below hal)
  have hm1 := Lib.hid (hm.below hal)
  have B0 := Lib.hid (blk3.new w 64 (.int .i64 18) (.int .i64 3) (.int .i64 n))
  have HB := Lib.hid hal
  have hRw := hr.lt
  have hNR : ¬ w.heap.size = R := by omega
  clear hal hr hm
  go_enter Try.func41, Try.ntmps41
  go_wp2_with (first | (go_at_call 55; refine (c_read_go _ B R Y s stk told out M _ 3 n (by decide) (by decide) hr1.out hm1.out x g HH.out).mono ?_; rintro e w2 ⟨ad, cap, rfl, hb2⟩; unfold sgV; have hr2 := Lib.hid (hr1.out.below hb2); have B2 := Lib.hid (B0.out.below hb2); have hb2 := Lib.hid hb2))
  have HR := Lib.hid (hr2.out.below (below_al0 w2 (.cells #[.slice ad g.ws.length cap, .int .i64 g.md, .int .i64 g.r1, .int .i64 g.r2, .int .i64 g.r3, .int .i64 g.g] 60)))
  have B2 := Lib.hid (B2.out.below (below_al0 w2 (.cells #[.slice ad g.ws.length cap, .int .i64 g.md, .int .i64 g.r1, .int .i64 g.r2, .int .i64 g.r3, .int .i64 g.g] 60)))
  have HB := Lib.hid (below_al (below2 HB.out hb2.out) (.cells #[.slice ad g.ws.length cap, .int .i64 g.md, .int .i64 g.r1, .int .i64 g.r2, .int .i64 g.r3, .int .i64 g.g] 60))
  have X2 := Lib.hid (blk6.new w2 60 (.slice ad g.ws.length cap) (.int .i64 g.md) (.int .i64 g.r1) (.int .i64 g.r2) (.int .i64 g.r3) (.int .i64 g.g))
  have hQR : ¬ w2.heap.size = R := by have := hr2.out.lt; omega
  clear hr1 hr2 hb2 hm1 B0
  generalize w2.alloc (.cells #[.slice ad g.ws.length cap, .int .i64 g.md, .int .i64 g.r1, .int .i64 g.r2, .int .i64 g.r3, .int .i64 g.g] 60) = W at HR B2 HB X2 ⊢
  generalize w2.heap.size = Q at X2 hQR ⊢
  have k0 : ∀ w', Off (· = R) W w' → w'.cell? ⟨w.heap.size, 1, none⟩ = some (.int .i64 3) := fun w' h => (B2.out.off h hNR).facts.1.2.1
  have k1 : ∀ w', Off (· = R) W w' → w'.cell? ⟨Q, 2, none⟩ = some (.int .i64 g.r1) := fun w' h => (X2.out.off h hQR).facts.1.2.2.1
  have k2 : ∀ w', Off (· = R) W w' → w'.cell? ⟨Q, 3, none⟩ = some (.int .i64 g.r2) := fun w' h => (X2.out.off h hQR).facts.1.2.2.2.1
  have k3 : ∀ w', Off (· = R) W w' → w'.cell? ⟨Q, 4, none⟩ = some (.int .i64 g.r3) := fun w' h => (X2.out.off h hQR).facts.1.2.2.2.2.1
  have k4 : ∀ w', Off (· = R) W w' → w'.cell? ⟨Q, 5, none⟩ = some (.int .i64 g.g) := fun w' h => (X2.out.off h hQR).facts.1.2.2.2.2.2
  go_region_held3 (fun w' => Off (· = R) W w')
    ((repeat (with_reducible first | exact HO.out | refine Off.setCell ?_ (by simp) _ | refine Off.drew ?_ | exact Off.refl _ _)))
    ((first
      | (go_at_call 61; refine (c_DecodePointer _ W.drew).mono ?_; rintro e w4 ⟨rfl, hb4⟩; have HO4 : Hid (Off (fun _ => False) W w4) := (Off.refl _ W).drew.trans (.of_below hb4); have HO : Hid (Off (· = R) W w4) := HO4.out.mono (fun _ _ h => h.elim); clear hb4)
      | (go_at_call 62; refine (c_Follow _ _ _ _ _ _ _ _ _).mono ?_; rintro e w5 ⟨rfl, hb5⟩; have HO5 : Hid (Off (fun _ => False) W w5) := HO4.out.trans (.of_below hb5); have HO : Hid (Off (· = R) W w5) := HO5.out.mono (fun _ _ h => h.elim); have HR5 := Lib.hid (HR.out.off HO5.out id); have q4 : w5.cell? ⟨R, 13, none⟩ = some (.int .i64 s.p3.seg) := HR5.out.cell 13; have q5 : w5.cell? ⟨R, 14, none⟩ = some (.int .i64 s.p3.off) := HR5.out.cell 14; have q6 : w5.cell? ⟨R, 15, none⟩ = some (.int .i64 s.p3.ring) := HR5.out.cell 15; have qf : ∀ j, w5.frozen? ⟨R, j, none⟩ = false := (fun j => HR5.out.free j); have qR : R < w5.heap.size := HR5.out.lt; clear hb5)))
  all_goals
    go_wp2_with fail
    go_end0
    exact ⟨rfl, set3w HR5.out 13 (by decide) _ _ _, (Off.of_below HB.out).trans ((HO5.out.mono (fun _ _ h => h.elim)).trans (off3P _ _ _ _ _ _ _ _))⟩
end Go.Proofs.Ytiakonmamkfopaa
