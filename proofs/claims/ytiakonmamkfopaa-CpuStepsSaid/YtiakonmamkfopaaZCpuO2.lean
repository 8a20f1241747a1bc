/- The processor's run: a pointer is got. -/
import Derived.Test.YtiakonmamkfopaaZCpuN
namespace Go.Proofs.Ytiakonmamkfopaa
open Go.RowKit Go.ChangeShapes
set_option linter.unusedVariables false
set_option maxRecDepth 100000
set_option maxHeartbeats 2000000 in
theorem c_do19_0 (w : World) (B R Y : Nat) (s : St) (stk : Value) (told : Bool) (out : Int) (M : List Sg) (p n : Int) (hr : runAt w R s stk (memV Y) told out) (hm : MemOk w B Y M)  :
    Calls Try.prog 41 #[.pointer (some ⟨R, 0, none⟩), .agg #[.int .i64 19, .int .i64 0, .int .i64 n]] w fun e w' => e = .returned (.tuple #[]) ∧ runAt w' R { s with a := encP s.p0.seg s.p0.off s.p0.ring } stk (memV Y) told out ∧ Off (· = R) w w' := by
  have hal := below_al0 w (.cells #[.int .i64 19, .int .i64 0, .int .i64 n] 64)
  have hr1 := Lib.hid (hr.below hal)
  have hm1 := Lib.hid (hm.below hal)
  have B0 := Lib.hid (blk3.new w 64 (.int .i64 19) (.int .i64 0) (.int .i64 n))
  have HB := Lib.hid hal
  have hRw := hr.lt
  have hNR : ¬ w.heap.size = R := by omega
  generalize hW : w.alloc (.cells #[.int .i64 19, .int .i64 0, .int .i64 n] 64) = W at *
  have hX := Lib.hid hW
  have k0 : ∀ w', RA R s stk (memV Y) told out W w' → w'.cell? ⟨w.heap.size, 1, none⟩ = some (.int .i64 0) := fun w' h => (B0.out.off h.1 hNR).facts.1.2.1
  have k4 : ∀ w', RA R s stk (memV Y) told out W w' → w'.cell? ⟨R, 4, none⟩ = some (.int .i64 s.p0.seg) := fun w' h => by obtain ⟨_, k, h⟩ := h; exact h.cell 4
  have k5 : ∀ w', RA R s stk (memV Y) told out W w' → w'.cell? ⟨R, 5, none⟩ = some (.int .i64 s.p0.off) := fun w' h => by obtain ⟨_, k, h⟩ := h; exact h.cell 5
  have k6 : ∀ w', RA R s stk (memV Y) told out W w' → w'.cell? ⟨R, 6, none⟩ = some (.int .i64 s.p0.ring) := fun w' h => by obtain ⟨_, k, h⟩ := h; exact h.cell 6
  clear hal hr hm hm1 hW
  go_enter Try.func41, Try.ntmps41
  go_wp2_with fail
  rw [hX.out]
  go_region_held3 (fun w' => RA R s stk (memV Y) told out W w')
    ((repeat (with_reducible first | exact HO.out | refine RA.set3 ?_ _ | refine RA.drew ?_ | exact RA.refl hr1.out)))
    ((first | (go_at_call 63; refine (c_EncodePointer _ _ _ W.drew).mono ?_; rintro e w5 ⟨rfl, hb5⟩; have HR5 : Hid (runAt w5 R s stk (memV Y) told out) := runAt.below (w := W.drew) hr1.out hb5; have HO5 : Hid (Off (fun _ => False) W w5) := (Off.refl _ W).drew.trans (.of_below hb5); have HO : Hid (RA R s stk (memV Y) told out W w5) := ⟨HO5.out.mono (fun _ _ h => h.elim), s.a, HR5.out⟩; have q3 : w5.cell? ⟨R, 3, none⟩ = some (.int .i64 s.a) := HR5.out.cell 3; have qf : ∀ j, w5.frozen? ⟨R, j, none⟩ = false := (fun j => HR5.out.free j); have qR : R < w5.heap.size := HR5.out.lt; clear hb5)))
  all_goals
    go_wp2_with fail
    go_end0
    exact ⟨rfl, HR5.out.set 3 _, (Off.of_below HB.out).trans ((HO5.out.mono (fun _ _ h => h.elim)).trans (off1 _ _ _ _))⟩
set_option maxHeartbeats 2000000 in
theorem c_do19_1 (w : World) (B R Y : Nat) (s : St) (stk : Value) (told : Bool) (out : Int) (M : List Sg) (p n : Int) (hr : runAt w R s stk (memV Y) told out) (hm : MemOk w B Y M)  :
    Calls Try.prog 41 #[.pointer (some ⟨R, 0, none⟩), .agg #[.int .i64 19, .int .i64 1, .int .i64 n]] w fun e w' => e = .returned (.tuple #[]) ∧ runAt w' R { s with a := encP s.p1.seg s.p1.off s.p1.ring } stk (memV Y) told out ∧ Off (· = R) w w' := by
  have hal := below_al0 w (.cells #[.int .i64 19, .int .i64 1, .int .i64 n] 64)
  have hr1 := Lib.hid (hr.below hal)
  have hm1 := Lib.hid (hm.below hal)
  have B0 := Lib.hid (blk3.new w 64 (.int .i64 19) (.int .i64 1) (.int .i64 n))
  have HB := Lib.hid hal
  have hRw := hr.lt
  have hNR : ¬ w.heap.size = R := by omega
  generalize hW : w.alloc (.cells #[.int .i64 19, .int .i64 1, .int .i64 n] 64) = W at *
  have hX := Lib.hid hW
  have k0 : ∀ w', RA R s stk (memV Y) told out W w' → w'.cell? ⟨w.heap.size, 1, none⟩ = some (.int .i64 1) := fun w' h => (B0.out.off h.1 hNR).facts.1.2.1
  have k4 : ∀ w', RA R s stk (memV Y) told out W w' → w'.cell? ⟨R, 7, none⟩ = some (.int .i64 s.p1.seg) := fun w' h => by obtain ⟨_, k, h⟩ := h; exact h.cell 7
  have k5 : ∀ w', RA R s stk (memV Y) told out W w' → w'.cell? ⟨R, 8, none⟩ = some (.int .i64 s.p1.off) := fun w' h => by obtain ⟨_, k, h⟩ := h; exact h.cell 8
  have k6 : ∀ w', RA R s stk (memV Y) told out W w' → w'.cell? ⟨R, 9, none⟩ = some (.int .i64 s.p1.ring) := fun w' h => by obtain ⟨_, k, h⟩ := h; exact h.cell 9
  clear hal hr hm hm1 hW
  go_enter Try.func41, Try.ntmps41
  go_wp2_with fail
  rw [hX.out]
  go_region_held3 (fun w' => RA R s stk (memV Y) told out W w')
    ((repeat (with_reducible first | exact HO.out | refine RA.set3 ?_ _ | refine RA.drew ?_ | exact RA.refl hr1.out)))
    ((first | (go_at_call 63; refine (c_EncodePointer _ _ _ W.drew).mono ?_; rintro e w5 ⟨rfl, hb5⟩; have HR5 : Hid (runAt w5 R s stk (memV Y) told out) := runAt.below (w := W.drew) hr1.out hb5; have HO5 : Hid (Off (fun _ => False) W w5) := (Off.refl _ W).drew.trans (.of_below hb5); have HO : Hid (RA R s stk (memV Y) told out W w5) := ⟨HO5.out.mono (fun _ _ h => h.elim), s.a, HR5.out⟩; have q3 : w5.cell? ⟨R, 3, none⟩ = some (.int .i64 s.a) := HR5.out.cell 3; have qf : ∀ j, w5.frozen? ⟨R, j, none⟩ = false := (fun j => HR5.out.free j); have qR : R < w5.heap.size := HR5.out.lt; clear hb5)))
  all_goals
    go_wp2_with fail
    go_end0
    exact ⟨rfl, HR5.out.set 3 _, (Off.of_below HB.out).trans ((HO5.out.mono (fun _ _ h => h.elim)).trans (off1 _ _ _ _))⟩
set_option maxHeartbeats 2000000 in
theorem c_do19_2 (w : World) (B R Y : Nat) (s : St) (stk : Value) (told : Bool) (out : Int) (M : List Sg) (p n : Int) (hr : runAt w R s stk (memV Y) told out) (hm : MemOk w B Y M)  :
    Calls Try.prog 41 #[.pointer (some ⟨R, 0, none⟩), .agg #[.int .i64 19, .int .i64 2, .int .i64 n]] w fun e w' => e = .returned (.tuple #[]) ∧ runAt w' R { s with a := encP s.p2.seg s.p2.off s.p2.ring } stk (memV Y) told out ∧ Off (· = R) w w' := by
  have hal := below_al0 w (.cells #[.int .i64 19, .int .i64 2, .int .i64 n] 64)
  have hr1 := Lib.hid (hr.below hal)
  have hm1 := Lib.hid (hm.below hal)
  have B0 := Lib.hid (blk3.new w 64 (.int .i64 19) (.int .i64 2) (.int .i64 n))
  have HB := Lib.hid hal
  have hRw := hr.lt
  have hNR : ¬ w.heap.size = R := by omega
  generalize hW : w.alloc (.cells #[.int .i64 19, .int .i64 2, .int .i64 n] 64) = W at *
  have hX := Lib.hid hW
  have k0 : ∀ w', RA R s stk (memV Y) told out W w' → w'.cell? ⟨w.heap.size, 1, none⟩ = some (.int .i64 2) := fun w' h => (B0.out.off h.1 hNR).facts.1.2.1
  have k4 : ∀ w', RA R s stk (memV Y) told out W w' → w'.cell? ⟨R, 10, none⟩ = some (.int .i64 s.p2.seg) := fun w' h => by obtain ⟨_, k, h⟩ := h; exact h.cell 10
  have k5 : ∀ w', RA R s stk (memV Y) told out W w' → w'.cell? ⟨R, 11, none⟩ = some (.int .i64 s.p2.off) := fun w' h => by obtain ⟨_, k, h⟩ := h; exact h.cell 11
  have k6 : ∀ w', RA R s stk (memV Y) told out W w' → w'.cell? ⟨R, 12, none⟩ = some (.int .i64 s.p2.ring) := fun w' h => by obtain ⟨_, k, h⟩ := h; exact h.cell 12
  clear hal hr hm hm1 hW
  go_enter Try.func41, Try.ntmps41
  go_wp2_with fail
  rw [hX.out]
  go_region_held3 (fun w' => RA R s stk (memV Y) told out W w')
    ((repeat (with_reducible first | exact HO.out | refine RA.set3 ?_ _ | refine RA.drew ?_ | exact RA.refl hr1.out)))
    ((first | (go_at_call 63; refine (c_EncodePointer _ _ _ W.drew).mono ?_; rintro e w5 ⟨rfl, hb5⟩; have HR5 : Hid (runAt w5 R s stk (memV Y) told out) := runAt.below (w := W.drew) hr1.out hb5; have HO5 : Hid (Off (fun _ => False) W w5) := (Off.refl _ W).drew.trans (.of_below hb5); have HO : Hid (RA R s stk (memV Y) told out W w5) := ⟨HO5.out.mono (fun _ _ h => h.elim), s.a, HR5.out⟩; have q3 : w5.cell? ⟨R, 3, none⟩ = some (.int .i64 s.a) := HR5.out.cell 3; have qf : ∀ j, w5.frozen? ⟨R, j, none⟩ = false := (fun j => HR5.out.free j); have qR : R < w5.heap.size := HR5.out.lt; clear hb5)))
  all_goals
    go_wp2_with fail
    go_end0
    exact ⟨rfl, HR5.out.set 3 _, (Off.of_below HB.out).trans ((HO5.out.mono (fun _ _ h => h.elim)).trans (off1 _ _ _ _))⟩
set_option maxHeartbeats 2000000 in
theorem c_do19_3 (w : World) (B R Y : Nat) (s : St) (stk : Value) (told : Bool) (out : Int) (M : List Sg) (p n : Int) (hr : runAt w R s stk (memV Y) told out) (hm : MemOk w B Y M)  :
    Calls Try.prog 41 #[.pointer (some ⟨R, 0, none⟩), .agg #[.int .i64 19, .int .i64 3, .int .i64 n]] w fun e w' => e = .returned (.tuple #[]) ∧ runAt w' R { s with a := encP s.p3.seg s.p3.off s.p3.ring } stk (memV Y) told out ∧ Off (· = R) w w' := by
  have hal := below_al0 w (.cells #[.int .i64 19, .int .i64 3, .int .i64 n] 64)
  have hr1 := Lib.hid (hr.below hal)
  have hm1 := Lib.hid (hm.below hal)
  have B0 := Lib.hid (blk3.new w 64 (.int .i64 19) (.int .i64 3) (.int .i64 n))
  have HB := Lib.hid hal
  have hRw := hr.lt
  have hNR : ¬ w.heap.size = R := by omega
  generalize hW : w.alloc (.cells #[.int .i64 19, .int .i64 3, .int .i64 n] 64) = W at *
  have hX := Lib.hid hW
  have k0 : ∀ w', RA R s stk (memV Y) told out W w' → w'.cell? ⟨w.heap.size, 1, none⟩ = some (.int .i64 3) := fun w' h => (B0.out.off h.1 hNR).facts.1.2.1
  have k4 : ∀ w', RA R s stk (memV Y) told out W w' → w'.cell? ⟨R, 13, none⟩ = some (.int .i64 s.p3.seg) := fun w' h => by obtain ⟨_, k, h⟩ := h; exact h.cell 13
  have k5 : ∀ w', RA R s stk (memV Y) told out W w' → w'.cell? ⟨R, 14, none⟩ = some (.int .i64 s.p3.off) := fun w' h => by obtain ⟨_, k, h⟩ := h; exact h.cell 14
  have k6 : ∀ w', RA R s stk (memV Y) told out W w' → w'.cell? ⟨R, 15, none⟩ = some (.int .i64 s.p3.ring) := fun w' h => by obtain ⟨_, k, h⟩ := h; exact h.cell 15
  clear hal hr hm hm1 hW
  go_enter Try.func41, Try.ntmps41
  go_wp2_with fail
  rw [hX.out]
  go_region_held3 (fun w' => RA R s stk (memV Y) told out W w')
    ((repeat (with_reducible first | exact HO.out | refine RA.set3 ?_ _ | refine RA.drew ?_ | exact RA.refl hr1.out)))
    ((first | (go_at_call 63; refine (c_EncodePointer _ _ _ W.drew).mono ?_; rintro e w5 ⟨rfl, hb5⟩; have HR5 : Hid (runAt w5 R s stk (memV Y) told out) := runAt.below (w := W.drew) hr1.out hb5; have HO5 : Hid (Off (fun _ => False) W w5) := (Off.refl _ W).drew.trans (.of_below hb5); have HO : Hid (RA R s stk (memV Y) told out W w5) := ⟨HO5.out.mono (fun _ _ h => h.elim), s.a, HR5.out⟩; have q3 : w5.cell? ⟨R, 3, none⟩ = some (.int .i64 s.a) := HR5.out.cell 3; have qf : ∀ j, w5.frozen? ⟨R, j, none⟩ = false := (fun j => HR5.out.free j); have qR : R < w5.heap.size := HR5.out.lt; clear hb5)))
  all_goals
    go_wp2_with fail
    go_end0
    exact ⟨rfl, HR5.out.set 3 _, (Off.of_below HB.out).trans ((HO5.out.mono (fun _ _ h => h.elim)).trans (off1 _ _ _ _))⟩
end Go.Proofs.Ytiakonmamkfopaa
