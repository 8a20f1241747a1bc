/- The processor's run: what an instruction does, but for sums, pointers and jumps. -/
import Derived.Test.YtiakonmamkfopaaZCpuL
namespace Go.Proofs.Ytiakonmamkfopaa
open Go.RowKit Go.ChangeShapes
set_option linter.unusedVariables false
set_option maxRecDepth 100000
set_option maxHeartbeats 2000000 in
theorem c_do0 (w : World) (B R Y : Nat) (s : St) (stk : Value) (told : Bool) (out : Int) (M : List Sg) (p n : Int) (hr : runAt w R s stk (memV Y) told out) (hm : MemOk w B Y M)  :
    Calls Try.prog 41 #[.pointer (some ⟨R, 0, none⟩), .agg #[.int .i64 0, .int .i64 p, .int .i64 n]] w fun e w' => e = .returned (.tuple #[]) ∧ runAt w' R { s with hal := true } stk (memV Y) told out ∧ Off (· = R) w w' := by
  have hal := below_al0 w (.cells #[.int .i64 0, .int .i64 p, .int .i64 n] 64)
  have HR0 := Lib.hid hr
  have hr1 := Lib.hid (hr.below hal)
  have hm1 := Lib.hid (hm.below hal)
  have HB := Lib.hid hal
  have hR := hr.lt
  have rf : ∀ j, w.frozen? ⟨R, j, none⟩ = false := fun j => hr.free j
  have r3 : w.cell? ⟨R, 3, none⟩ = some (.int .i64 s.a) := hr.cell 3
  have r17 : w.cell? ⟨R, 17, none⟩ = some (.bool s.hal) := hr.cell 17
  have r19 : w.cell? ⟨R, 19, none⟩ = some (.bool told) := hr.cell 19
  have r20 : w.cell? ⟨R, 20, none⟩ = some (.int .i64 out) := hr.cell 20
  have r1 : w.cell? ⟨R, 1, none⟩ = some (.int .i64 s.off) := hr.cell 1
  clear hal hr hm
  go_enter Try.func41, Try.ntmps41
  go_wp2
  go_end0
  first
    | exact ⟨rfl, Off.keeps (Off.alloc (Off.refl (fun _ => False) _) _) (HR0.out.set 17 _) id, (off1 _ _ _ _).alloc _⟩
    | exact ⟨rfl, hr1.out.set 17 _, (Off.of_below HB.out).trans (off1 _ _ _ _)⟩
set_option maxHeartbeats 2000000 in
theorem c_do3 (w : World) (B R Y : Nat) (s : St) (stk : Value) (told : Bool) (out : Int) (M : List Sg) (p n : Int) (hr : runAt w R s stk (memV Y) told out) (hm : MemOk w B Y M)  :
    Calls Try.prog 41 #[.pointer (some ⟨R, 0, none⟩), .agg #[.int .i64 3, .int .i64 p, .int .i64 n]] w fun e w' => e = .returned (.tuple #[]) ∧ runAt w' R { s with a := n } stk (memV Y) told out ∧ Off (· = R) w w' := by
  have hal := below_al0 w (.cells #[.int .i64 3, .int .i64 p, .int .i64 n] 64)
  have HR0 := Lib.hid hr
  have hr1 := Lib.hid (hr.below hal)
  have hm1 := Lib.hid (hm.below hal)
  have HB := Lib.hid hal
  have hR := hr.lt
  have rf : ∀ j, w.frozen? ⟨R, j, none⟩ = false := fun j => hr.free j
  have r3 : w.cell? ⟨R, 3, none⟩ = some (.int .i64 s.a) := hr.cell 3
  have r17 : w.cell? ⟨R, 17, none⟩ = some (.bool s.hal) := hr.cell 17
  have r19 : w.cell? ⟨R, 19, none⟩ = some (.bool told) := hr.cell 19
  have r20 : w.cell? ⟨R, 20, none⟩ = some (.int .i64 out) := hr.cell 20
  have r1 : w.cell? ⟨R, 1, none⟩ = some (.int .i64 s.off) := hr.cell 1
  clear hal hr hm
  go_enter Try.func41, Try.ntmps41
  go_wp2
  go_end0
  first
    | exact ⟨rfl, Off.keeps (Off.alloc (Off.refl (fun _ => False) _) _) (HR0.out.set 3 _) id, (off1 _ _ _ _).alloc _⟩
    | exact ⟨rfl, hr1.out.set 3 _, (Off.of_below HB.out).trans (off1 _ _ _ _)⟩
set_option maxHeartbeats 2000000 in
theorem c_do22 (w : World) (B R Y : Nat) (s : St) (stk : Value) (told : Bool) (out : Int) (M : List Sg) (p n : Int) (hr : runAt w R s stk (memV Y) told out) (hm : MemOk w B Y M)  :
    Calls Try.prog 41 #[.pointer (some ⟨R, 0, none⟩), .agg #[.int .i64 22, .int .i64 p, .int .i64 n]] w fun e w' => e = .returned (.tuple #[]) ∧ runAt w' R s stk (memV Y) true s.a ∧ Off (· = R) w w' := by
  have hal := below_al0 w (.cells #[.int .i64 22, .int .i64 p, .int .i64 n] 64)
  have HR0 := Lib.hid hr
  have hr1 := Lib.hid (hr.below hal)
  have hm1 := Lib.hid (hm.below hal)
  have HB := Lib.hid hal
  have hR := hr.lt
  have rf : ∀ j, w.frozen? ⟨R, j, none⟩ = false := fun j => hr.free j
  have r3 : w.cell? ⟨R, 3, none⟩ = some (.int .i64 s.a) := hr.cell 3
  have r17 : w.cell? ⟨R, 17, none⟩ = some (.bool s.hal) := hr.cell 17
  have r19 : w.cell? ⟨R, 19, none⟩ = some (.bool told) := hr.cell 19
  have r20 : w.cell? ⟨R, 20, none⟩ = some (.int .i64 out) := hr.cell 20
  have r1 : w.cell? ⟨R, 1, none⟩ = some (.int .i64 s.off) := hr.cell 1
  clear hal hr hm
  go_enter Try.func41, Try.ntmps41
  go_wp2
  go_end0
  have h1 : runAt _ R s stk (memV Y) true out := HR0.out.set 19 (.bool true)
  exact ⟨rfl, Off.keeps (Off.alloc (Off.refl (fun _ => False) _) _) (h1.set 20 _) id, ((off1 _ _ _ _).trans (off1 _ _ _ _)).alloc _⟩
set_option maxHeartbeats 2000000 in
theorem c_do12 (w : World) (B R Y : Nat) (s : St) (stk : Value) (told : Bool) (out : Int) (M : List Sg) (p n : Int) (hr : runAt w R s stk (memV Y) told out) (hm : MemOk w B Y M)  :
    Calls Try.prog 41 #[.pointer (some ⟨R, 0, none⟩), .agg #[.int .i64 12, .int .i64 p, .int .i64 n]] w fun e w' => e = .returned (.tuple #[]) ∧ runAt w' R { s with a := fromInt s.a } stk (memV Y) told out ∧ Off (· = R) w w' := by
  have hal := below_al0 w (.cells #[.int .i64 12, .int .i64 p, .int .i64 n] 64)
  have HR0 := Lib.hid hr
  have hr1 := Lib.hid (hr.below hal)
  have hm1 := Lib.hid (hm.below hal)
  have HB := Lib.hid hal
  have hR := hr.lt
  have rf : ∀ j, w.frozen? ⟨R, j, none⟩ = false := fun j => hr.free j
  have r3 : w.cell? ⟨R, 3, none⟩ = some (.int .i64 s.a) := hr.cell 3
  have r17 : w.cell? ⟨R, 17, none⟩ = some (.bool s.hal) := hr.cell 17
  have r19 : w.cell? ⟨R, 19, none⟩ = some (.bool told) := hr.cell 19
  have r20 : w.cell? ⟨R, 20, none⟩ = some (.int .i64 out) := hr.cell 20
  have r1 : w.cell? ⟨R, 1, none⟩ = some (.int .i64 s.off) := hr.cell 1
  clear hal hr hm
  go_enter Try.func41, Try.ntmps41
  go_wp2_with (first | (go_at_call 57; refine (c_FromInt _ _).mono ?_; rintro e w2 ⟨rfl, rfl⟩))
  go_end0
  first
    | exact ⟨rfl, Off.keeps (Off.alloc (Off.refl (fun _ => False) _) _) (HR0.out.set 3 _) id, (off1 _ _ _ _).alloc _⟩
    | exact ⟨rfl, hr1.out.set 3 _, (Off.of_below HB.out).trans (off1 _ _ _ _)⟩
set_option maxHeartbeats 2000000 in
theorem c_do13 (w : World) (B R Y : Nat) (s : St) (stk : Value) (told : Bool) (out : Int) (M : List Sg) (p n : Int) (hr : runAt w R s stk (memV Y) told out) (hm : MemOk w B Y M) (h : toIntE s.a = 0) :
    Calls Try.prog 41 #[.pointer (some ⟨R, 0, none⟩), .agg #[.int .i64 13, .int .i64 p, .int .i64 n]] w fun e w' => e = .returned (.tuple #[]) ∧ runAt w' R { s with a := toInt s.a } stk (memV Y) told out ∧ Off (· = R) w w' := by
  have hal := below_al0 w (.cells #[.int .i64 13, .int .i64 p, .int .i64 n] 64)
  have HR0 := Lib.hid hr
  have hr1 := Lib.hid (hr.below hal)
  have hm1 := Lib.hid (hm.below hal)
  have HB := Lib.hid hal
  have hR := hr.lt
  have rf : ∀ j, w.frozen? ⟨R, j, none⟩ = false := fun j => hr.free j
  have r3 : w.cell? ⟨R, 3, none⟩ = some (.int .i64 s.a) := hr.cell 3
  have r17 : w.cell? ⟨R, 17, none⟩ = some (.bool s.hal) := hr.cell 17
  have r19 : w.cell? ⟨R, 19, none⟩ = some (.bool told) := hr.cell 19
  have r20 : w.cell? ⟨R, 20, none⟩ = some (.int .i64 out) := hr.cell 20
  have r1 : w.cell? ⟨R, 1, none⟩ = some (.int .i64 s.off) := hr.cell 1
  clear hal hr hm
  go_enter Try.func41, Try.ntmps41
  go_wp2_with (first | (go_at_call 58; refine (c_ToInt _ _).mono ?_; rintro e w2 ⟨rfl, rfl⟩; rw [h]) | (go_at_call 59; refine (c_must _ _ _).mono ?_; rintro e w9 ⟨rfl, hw9⟩; subst hw9; simp only [if_true]))
  go_end0
  first
    | exact ⟨rfl, Off.keeps (Off.alloc (Off.refl (fun _ => False) _) _) (HR0.out.set 3 _) id, (off1 _ _ _ _).alloc _⟩
    | exact ⟨rfl, hr1.out.set 3 _, (Off.of_below HB.out).trans (off1 _ _ _ _)⟩
set_option maxHeartbeats 2000000 in
theorem c_do13_er (w : World) (B R Y : Nat) (s : St) (stk : Value) (told : Bool) (out : Int) (M : List Sg) (p n : Int) (hr : runAt w R s stk (memV Y) told out) (hm : MemOk w B Y M) (h : toIntE s.a ≠ 0) :
    Calls Try.prog 41 #[.pointer (some ⟨R, 0, none⟩), .agg #[.int .i64 13, .int .i64 p, .int .i64 n]] w fun e w' => e = .panicked (flt 36) ∧ Below w.heap.size w w' := by
  obtain ⟨te, hte⟩ : ∃ t, toIntE s.a = t := ⟨_, rfl⟩
  rw [hte] at h
  have h1 : (te == 0) = false := by simpa using h
  have hal := below_al0 w (.cells #[.int .i64 13, .int .i64 p, .int .i64 n] 64)
  have HR0 := Lib.hid hr
  have hr1 := Lib.hid (hr.below hal)
  have hm1 := Lib.hid (hm.below hal)
  have HB := Lib.hid hal
  have hR := hr.lt
  have rf : ∀ j, w.frozen? ⟨R, j, none⟩ = false := fun j => hr.free j
  have r3 : w.cell? ⟨R, 3, none⟩ = some (.int .i64 s.a) := hr.cell 3
  have r17 : w.cell? ⟨R, 17, none⟩ = some (.bool s.hal) := hr.cell 17
  have r19 : w.cell? ⟨R, 19, none⟩ = some (.bool told) := hr.cell 19
  have r20 : w.cell? ⟨R, 20, none⟩ = some (.int .i64 out) := hr.cell 20
  have r1 : w.cell? ⟨R, 1, none⟩ = some (.int .i64 s.off) := hr.cell 1
  clear hal hr hm
  go_enter Try.func41, Try.ntmps41
  go_wp2_with (first | (go_at_call 58; refine (c_ToInt _ _).mono ?_; rintro e w2 ⟨rfl, rfl⟩; rw [hte]) | (go_at_call 59; refine (c_must _ _ _).mono ?_; rintro e w9 ⟨rfl, hw9⟩; subst hw9; simp only [Bool.false_eq_true, if_false]))
  exact ⟨rfl, rfl, HB.out⟩
set_option maxHeartbeats 2000000 in
theorem c_do14 (w : World) (B R Y : Nat) (s : St) (stk : Value) (told : Bool) (out : Int) (M : List Sg) (p n : Int) (hr : runAt w R s stk (memV Y) told out) (hm : MemOk w B Y M)  :
    Calls Try.prog 41 #[.pointer (some ⟨R, 0, none⟩), .agg #[.int .i64 14, .int .i64 p, .int .i64 n]] w fun e w' => e = .returned (.tuple #[]) ∧ runAt w' R { s with off := n } stk (memV Y) told out ∧ Off (· = R) w w' := by
  have hal := below_al0 w (.cells #[.int .i64 14, .int .i64 p, .int .i64 n] 64)
  have HR0 := Lib.hid hr
  have hr1 := Lib.hid (hr.below hal)
  have hm1 := Lib.hid (hm.below hal)
  have HB := Lib.hid hal
  have hR := hr.lt
  have rf : ∀ j, w.frozen? ⟨R, j, none⟩ = false := fun j => hr.free j
  have r3 : w.cell? ⟨R, 3, none⟩ = some (.int .i64 s.a) := hr.cell 3
  have r17 : w.cell? ⟨R, 17, none⟩ = some (.bool s.hal) := hr.cell 17
  have r19 : w.cell? ⟨R, 19, none⟩ = some (.bool told) := hr.cell 19
  have r20 : w.cell? ⟨R, 20, none⟩ = some (.int .i64 out) := hr.cell 20
  have r1 : w.cell? ⟨R, 1, none⟩ = some (.int .i64 s.off) := hr.cell 1
  clear hal hr hm
  go_enter Try.func41, Try.ntmps41
  go_wp2_with (first | (go_at_call 60; refine (c_jumps14 _ R s stk (memV Y) told out hr1.out).mono ?_; rintro e w2 ⟨rfl, hw2⟩; subst hw2))
  go_end0
  first
    | exact ⟨rfl, Off.keeps (Off.alloc (Off.refl (fun _ => False) _) _) (HR0.out.set 1 _) id, (off1 _ _ _ _).alloc _⟩
    | exact ⟨rfl, hr1.out.set 1 _, (Off.of_below HB.out).trans (off1 _ _ _ _)⟩
set_option maxHeartbeats 2000000 in
theorem c_do15_go (w : World) (B R Y : Nat) (s : St) (stk : Value) (told : Bool) (out : Int) (M : List Sg) (p n : Int) (hr : runAt w R s stk (memV Y) told out) (hm : MemOk w B Y M) (h : s.a = 0) :
    Calls Try.prog 41 #[.pointer (some ⟨R, 0, none⟩), .agg #[.int .i64 15, .int .i64 p, .int .i64 n]] w fun e w' => e = .returned (.tuple #[]) ∧ runAt w' R { s with off := n } stk (memV Y) told out ∧ Off (· = R) w w' := by
  have hb : (s.a == 0) = true := by simpa using h
  have hal := below_al0 w (.cells #[.int .i64 15, .int .i64 p, .int .i64 n] 64)
  have HR0 := Lib.hid hr
  have hr1 := Lib.hid (hr.below hal)
  have hm1 := Lib.hid (hm.below hal)
  have HB := Lib.hid hal
  have hR := hr.lt
  have rf : ∀ j, w.frozen? ⟨R, j, none⟩ = false := fun j => hr.free j
  have r3 : w.cell? ⟨R, 3, none⟩ = some (.int .i64 s.a) := hr.cell 3
  have r17 : w.cell? ⟨R, 17, none⟩ = some (.bool s.hal) := hr.cell 17
  have r19 : w.cell? ⟨R, 19, none⟩ = some (.bool told) := hr.cell 19
  have r20 : w.cell? ⟨R, 20, none⟩ = some (.int .i64 out) := hr.cell 20
  have r1 : w.cell? ⟨R, 1, none⟩ = some (.int .i64 s.off) := hr.cell 1
  clear hal hr hm
  go_enter Try.func41, Try.ntmps41
  go_wp2_with (first | (go_at_call 60; refine (c_jumps15 _ R s stk (memV Y) told out hr1.out).mono ?_; rintro e w2 ⟨rfl, hw2⟩; subst hw2; rw [hb]))
  go_end0
  first
    | exact ⟨rfl, Off.keeps (Off.alloc (Off.refl (fun _ => False) _) _) (HR0.out.set 1 _) id, (off1 _ _ _ _).alloc _⟩
    | exact ⟨rfl, hr1.out.set 1 _, (Off.of_below HB.out).trans (off1 _ _ _ _)⟩
set_option maxHeartbeats 2000000 in
theorem c_do15_no (w : World) (B R Y : Nat) (s : St) (stk : Value) (told : Bool) (out : Int) (M : List Sg) (p n : Int) (hr : runAt w R s stk (memV Y) told out) (hm : MemOk w B Y M) (h : ¬ s.a = 0) :
    Calls Try.prog 41 #[.pointer (some ⟨R, 0, none⟩), .agg #[.int .i64 15, .int .i64 p, .int .i64 n]] w fun e w' => e = .returned (.tuple #[]) ∧ runAt w' R s stk (memV Y) told out ∧ Off (· = R) w w' := by
  have hb : (s.a == 0) = false := by simpa using h
  have hal := below_al0 w (.cells #[.int .i64 15, .int .i64 p, .int .i64 n] 64)
  have HR0 := Lib.hid hr
  have hr1 := Lib.hid (hr.below hal)
  have hm1 := Lib.hid (hm.below hal)
  have HB := Lib.hid hal
  have hR := hr.lt
  have rf : ∀ j, w.frozen? ⟨R, j, none⟩ = false := fun j => hr.free j
  have r3 : w.cell? ⟨R, 3, none⟩ = some (.int .i64 s.a) := hr.cell 3
  have r17 : w.cell? ⟨R, 17, none⟩ = some (.bool s.hal) := hr.cell 17
  have r19 : w.cell? ⟨R, 19, none⟩ = some (.bool told) := hr.cell 19
  have r20 : w.cell? ⟨R, 20, none⟩ = some (.int .i64 out) := hr.cell 20
  have r1 : w.cell? ⟨R, 1, none⟩ = some (.int .i64 s.off) := hr.cell 1
  clear hal hr hm
  go_enter Try.func41, Try.ntmps41
  go_wp2_with (first | (go_at_call 60; refine (c_jumps15 _ R s stk (memV Y) told out hr1.out).mono ?_; rintro e w2 ⟨rfl, hw2⟩; subst hw2; rw [hb]))
  go_end0
  exact ⟨rfl, hr1.out, Off.of_below HB.out⟩
set_option maxHeartbeats 2000000 in
theorem c_do16_go (w : World) (B R Y : Nat) (s : St) (stk : Value) (told : Bool) (out : Int) (M : List Sg) (p n : Int) (hr : runAt w R s stk (memV Y) told out) (hm : MemOk w B Y M) (h : s.a < 0) :
    Calls Try.prog 41 #[.pointer (some ⟨R, 0, none⟩), .agg #[.int .i64 16, .int .i64 p, .int .i64 n]] w fun e w' => e = .returned (.tuple #[]) ∧ runAt w' R { s with off := n } stk (memV Y) told out ∧ Off (· = R) w w' := by
  have hb : decide (s.a < 0) = true := by simpa using h
  have hal := below_al0 w (.cells #[.int .i64 16, .int .i64 p, .int .i64 n] 64)
  have HR0 := Lib.hid hr
  have hr1 := Lib.hid (hr.below hal)
  have hm1 := Lib.hid (hm.below hal)
  have HB := Lib.hid hal
  have hR := hr.lt
  have rf : ∀ j, w.frozen? ⟨R, j, none⟩ = false := fun j => hr.free j
  have r3 : w.cell? ⟨R, 3, none⟩ = some (.int .i64 s.a) := hr.cell 3
  have r17 : w.cell? ⟨R, 17, none⟩ = some (.bool s.hal) := hr.cell 17
  have r19 : w.cell? ⟨R, 19, none⟩ = some (.bool told) := hr.cell 19
  have r20 : w.cell? ⟨R, 20, none⟩ = some (.int .i64 out) := hr.cell 20
  have r1 : w.cell? ⟨R, 1, none⟩ = some (.int .i64 s.off) := hr.cell 1
  clear hal hr hm
  go_enter Try.func41, Try.ntmps41
  go_wp2_with (first | (go_at_call 60; refine (c_jumps16 _ R s stk (memV Y) told out hr1.out).mono ?_; rintro e w2 ⟨rfl, hw2⟩; subst hw2; rw [hb]))
  go_end0
  first
    | exact ⟨rfl, Off.keeps (Off.alloc (Off.refl (fun _ => False) _) _) (HR0.out.set 1 _) id, (off1 _ _ _ _).alloc _⟩
    | exact ⟨rfl, hr1.out.set 1 _, (Off.of_below HB.out).trans (off1 _ _ _ _)⟩
set_option maxHeartbeats 2000000 in
theorem c_do16_no (w : World) (B R Y : Nat) (s : St) (stk : Value) (told : Bool) (out : Int) (M : List Sg) (p n : Int) (hr : runAt w R s stk (memV Y) told out) (hm : MemOk w B Y M) (h : ¬ s.a < 0) :
    Calls Try.prog 41 #[.pointer (some ⟨R, 0, none⟩), .agg #[.int .i64 16, .int .i64 p, .int .i64 n]] w fun e w' => e = .returned (.tuple #[]) ∧ runAt w' R s stk (memV Y) told out ∧ Off (· = R) w w' := by
  have hb : decide (s.a < 0) = false := by simpa using h
  have hal := below_al0 w (.cells #[.int .i64 16, .int .i64 p, .int .i64 n] 64)
  have HR0 := Lib.hid hr
  have hr1 := Lib.hid (hr.below hal)
  have hm1 := Lib.hid (hm.below hal)
  have HB := Lib.hid hal
  have hR := hr.lt
  have rf : ∀ j, w.frozen? ⟨R, j, none⟩ = false := fun j => hr.free j
  have r3 : w.cell? ⟨R, 3, none⟩ = some (.int .i64 s.a) := hr.cell 3
  have r17 : w.cell? ⟨R, 17, none⟩ = some (.bool s.hal) := hr.cell 17
  have r19 : w.cell? ⟨R, 19, none⟩ = some (.bool told) := hr.cell 19
  have r20 : w.cell? ⟨R, 20, none⟩ = some (.int .i64 out) := hr.cell 20
  have r1 : w.cell? ⟨R, 1, none⟩ = some (.int .i64 s.off) := hr.cell 1
  clear hal hr hm
  go_enter Try.func41, Try.ntmps41
  go_wp2_with (first | (go_at_call 60; refine (c_jumps16 _ R s stk (memV Y) told out hr1.out).mono ?_; rintro e w2 ⟨rfl, hw2⟩; subst hw2; rw [hb]))
  go_end0
  exact ⟨rfl, hr1.out, Off.of_below HB.out⟩
set_option maxHeartbeats 2000000 in
theorem c_do1_er (w : World) (B R Y : Nat) (s : St) (stk : Value) (told : Bool) (out : Int) (M : List Sg) (p n : Int) (hr : runAt w R s stk (memV Y) told out) (hm : MemOk w B Y M) (hp0 : 0 ≤ p) (hp1 : p < 4) (er : Int) (h : rdR M s p n = .error er) :
    Calls Try.prog 41 #[.pointer (some ⟨R, 0, none⟩), .agg #[.int .i64 1, .int .i64 p, .int .i64 n]] w fun e w' => e = .panicked (flt er) ∧ Below w.heap.size w w' := by
  have HH := Lib.hid h
  clear h
  have hal := below_al0 w (.cells #[.int .i64 1, .int .i64 p, .int .i64 n] 64)
  have HR0 := Lib.hid hr
  have hr1 := Lib.hid (hr.below hal)
  have hm1 := Lib.hid (hm.below hal)
  have HB := Lib.hid hal
  have hR := hr.lt
  have rf : ∀ j, w.frozen? ⟨R, j, none⟩ = false := fun j => hr.free j
  have r3 : w.cell? ⟨R, 3, none⟩ = some (.int .i64 s.a) := hr.cell 3
  have r17 : w.cell? ⟨R, 17, none⟩ = some (.bool s.hal) := hr.cell 17
  have r19 : w.cell? ⟨R, 19, none⟩ = some (.bool told) := hr.cell 19
  have r20 : w.cell? ⟨R, 20, none⟩ = some (.int .i64 out) := hr.cell 20
  have r1 : w.cell? ⟨R, 1, none⟩ = some (.int .i64 s.off) := hr.cell 1
  clear hal hr hm
  go_enter Try.func41, Try.ntmps41
  go_wp2_with (first | (go_at_call 55; refine (c_read_er _ B R Y s stk told out M _ p n hp0 hp1 hr1.out hm1.out er HH.out).mono ?_; rintro e w2 ⟨rfl, hb2⟩))
  exact ⟨rfl, rfl, below2 HB.out hb2⟩
set_option maxHeartbeats 2000000 in
theorem c_do1 (w : World) (B R Y : Nat) (s : St) (stk : Value) (told : Bool) (out : Int) (M : List Sg) (p n : Int) (hr : runAt w R s stk (memV Y) told out) (hm : MemOk w B Y M) (hp0 : 0 ≤ p) (hp1 : p < 4) (x : Int) (g : Sg) (h : rdR M s p n = .ok (x, g)) :
    Calls Try.prog 41 #[.pointer (some ⟨R, 0, none⟩), .agg #[.int .i64 1, .int .i64 p, .int .i64 n]] w fun e w' => e = .returned (.tuple #[]) ∧ runAt w' R { s with a := x } stk (memV Y) told out ∧ Off (· = R) w w' := by
  have HH := Lib.hid h
  clear h
  have hal := below_al0 w (.cells #[.int .i64 1, .int .i64 p, .int .i64 n] 64)
  have HR0 := Lib.hid hr
  have hr1 := Lib.hid (hr.below hal)
  have hm1 := Lib.hid (hm.below hal)
  have HB := Lib.hid hal
  have hR := hr.lt
  have rf : ∀ j, w.frozen? ⟨R, j, none⟩ = false := fun j => hr.free j
  have r3 : w.cell? ⟨R, 3, none⟩ = some (.int .i64 s.a) := hr.cell 3
  have r17 : w.cell? ⟨R, 17, none⟩ = some (.bool s.hal) := hr.cell 17
  have r19 : w.cell? ⟨R, 19, none⟩ = some (.bool told) := hr.cell 19
  have r20 : w.cell? ⟨R, 20, none⟩ = some (.int .i64 out) := hr.cell 20
  have r1 : w.cell? ⟨R, 1, none⟩ = some (.int .i64 s.off) := hr.cell 1
  clear hal hr hm
  go_enter Try.func41, Try.ntmps41
  clear r3 r17 r19 r20 r1 rf
  go_wp2_with (first | (go_at_call 55; refine (c_read_go _ B R Y s stk told out M _ p n hp0 hp1 hr1.out hm1.out x g HH.out).mono ?_; rintro e w2 ⟨ad, cap, rfl, hb2⟩; unfold sgV; have hr2 := Lib.hid (hr1.out.below hb2); have hb2 := Lib.hid hb2; have r3 : w2.cell? ⟨R, 3, none⟩ = some (.int .i64 s.a) := hr2.out.cell 3; have rf : ∀ j, w2.frozen? ⟨R, j, none⟩ = false := (fun j => hr2.out.free j)))
  go_end0
  exact ⟨rfl, hr2.out.set 3 _, (Off.of_below (below2 HB.out hb2.out)).trans (off1 _ _ _ _)⟩
set_option maxHeartbeats 2000000 in
theorem c_do2_er (w : World) (B R Y : Nat) (s : St) (stk : Value) (told : Bool) (out : Int) (M : List Sg) (p n : Int) (hr : runAt w R s stk (memV Y) told out) (hm : MemOk w B Y M) (hp0 : 0 ≤ p) (hp1 : p < 4) (er : Int) (h : wrR M s p n = .error er) :
    Calls Try.prog 41 #[.pointer (some ⟨R, 0, none⟩), .agg #[.int .i64 2, .int .i64 p, .int .i64 n]] w fun e w' => e = .panicked (flt er) ∧ Below w.heap.size w w' := by
  have HH := Lib.hid h
  clear h
  have hal := below_al0 w (.cells #[.int .i64 2, .int .i64 p, .int .i64 n] 64)
  have HR0 := Lib.hid hr
  have hr1 := Lib.hid (hr.below hal)
  have hm1 := Lib.hid (hm.below hal)
  have HB := Lib.hid hal
  have hR := hr.lt
  have rf : ∀ j, w.frozen? ⟨R, j, none⟩ = false := fun j => hr.free j
  have r3 : w.cell? ⟨R, 3, none⟩ = some (.int .i64 s.a) := hr.cell 3
  have r17 : w.cell? ⟨R, 17, none⟩ = some (.bool s.hal) := hr.cell 17
  have r19 : w.cell? ⟨R, 19, none⟩ = some (.bool told) := hr.cell 19
  have r20 : w.cell? ⟨R, 20, none⟩ = some (.int .i64 out) := hr.cell 20
  have r1 : w.cell? ⟨R, 1, none⟩ = some (.int .i64 s.off) := hr.cell 1
  clear hal hr hm
  go_enter Try.func41, Try.ntmps41
  go_wp2_with (first | (go_at_call 56; refine (c_write_er _ B R Y s stk told out M _ p n hp0 hp1 hr1.out hm1.out er HH.out).mono ?_; rintro e w2 ⟨rfl, hb2⟩))
  exact ⟨rfl, rfl, below2 HB.out hb2⟩
set_option maxHeartbeats 2000000 in
theorem c_do2 (w : World) (B R Y : Nat) (s : St) (stk : Value) (told : Bool) (out : Int) (M : List Sg) (p n : Int) (hr : runAt w R s stk (memV Y) told out) (hm : MemOk w B Y M) (hp0 : 0 ≤ p) (hp1 : p < 4) (v : Value) (is : Bool) (sg of_ x n0 : Int) (hma : memAt w B Y v is sg of_ x n0) (k o : Int) (h : wrR M s p n = .ok (k, o)) :
    Calls Try.prog 41 #[.pointer (some ⟨R, 0, none⟩), .agg #[.int .i64 2, .int .i64 p, .int .i64 n]] w fun e w' => e = .returned (.tuple #[]) ∧ memAt w' B Y v true k o s.a (wrap64 (n0 + 1)) ∧ Off (· = Y) w w' := by
  have HH := Lib.hid h
  clear h
  have hY := World.block_lt_of_cell? w _ hma.facts.1
  have HMA := Lib.hid hma
  clear hma
  have hal := below_al0 w (.cells #[.int .i64 2, .int .i64 p, .int .i64 n] 64)
  have HR0 := Lib.hid hr
  have hr1 := Lib.hid (hr.below hal)
  have hm1 := Lib.hid (hm.below hal)
  have HB := Lib.hid hal
  have hR := hr.lt
  have rf : ∀ j, w.frozen? ⟨R, j, none⟩ = false := fun j => hr.free j
  have r3 : w.cell? ⟨R, 3, none⟩ = some (.int .i64 s.a) := hr.cell 3
  have r17 : w.cell? ⟨R, 17, none⟩ = some (.bool s.hal) := hr.cell 17
  have r19 : w.cell? ⟨R, 19, none⟩ = some (.bool told) := hr.cell 19
  have r20 : w.cell? ⟨R, 20, none⟩ = some (.int .i64 out) := hr.cell 20
  have r1 : w.cell? ⟨R, 1, none⟩ = some (.int .i64 s.off) := hr.cell 1
  clear hal hr hm
  go_enter Try.func41, Try.ntmps41
  have HM1 : Hid (memAt _ B Y v is sg of_ x n0) := (HB.out.block Y hY).trans HMA.out
  go_wp2_with (first | (go_at_call 56; refine (c_write_go _ B R Y s stk told out M _ p n hp0 hp1 hr1.out hm1.out v is sg of_ x n0 HM1.out k o HH.out).mono ?_; rintro e w2 ⟨rfl, hm2, ho2⟩))
  go_end0
  exact ⟨rfl, hm2, (Off.of_below HB.out).trans ho2⟩
set_option maxHeartbeats 2000000 in
theorem c_do20_er (w : World) (B R Y : Nat) (s : St) (stk : Value) (told : Bool) (out : Int) (M : List Sg) (p n : Int) (hr : runAt w R s stk (memV Y) told out) (hm : MemOk w B Y M) (hp0 : 0 ≤ p) (hp1 : p < 4) (l : List Fr) (hs : stkAt w stk l) (er : Int) (h : caR M s l p n = .error er) :
    Calls Try.prog 41 #[.pointer (some ⟨R, 0, none⟩), .agg #[.int .i64 20, .int .i64 p, .int .i64 n]] w fun e w' => e = .panicked (flt er) ∧ Below w.heap.size w w' := by
  have HH := Lib.hid h
  have hs0 := Lib.hid hs
  clear h hs
  have hal := below_al0 w (.cells #[.int .i64 20, .int .i64 p, .int .i64 n] 64)
  have HR0 := Lib.hid hr
  have hr1 := Lib.hid (hr.below hal)
  have hm1 := Lib.hid (hm.below hal)
  have HB := Lib.hid hal
  have hR := hr.lt
  have rf : ∀ j, w.frozen? ⟨R, j, none⟩ = false := fun j => hr.free j
  have r3 : w.cell? ⟨R, 3, none⟩ = some (.int .i64 s.a) := hr.cell 3
  have r17 : w.cell? ⟨R, 17, none⟩ = some (.bool s.hal) := hr.cell 17
  have r19 : w.cell? ⟨R, 19, none⟩ = some (.bool told) := hr.cell 19
  have r20 : w.cell? ⟨R, 20, none⟩ = some (.int .i64 out) := hr.cell 20
  have r1 : w.cell? ⟨R, 1, none⟩ = some (.int .i64 s.off) := hr.cell 1
  clear hal hr hm
  have hs1 : Hid (stkAt _ stk l) := stkAt.off (ex := fun _ => False) hs0.out (.of_below HB.out) (fun _ h => h.elim)
  go_enter Try.func41, Try.ntmps41
  go_wp2_with (first | (go_at_call 64; refine (c_call_er _ B R Y s stk told out M l _ p n hp0 hp1 hr1.out hm1.out hs1.out er HH.out).mono ?_; rintro e w2 ⟨rfl, hb2⟩))
  exact ⟨rfl, rfl, below2 HB.out hb2⟩
set_option maxHeartbeats 2000000 in
theorem c_do20 (w : World) (B R Y : Nat) (s : St) (stk : Value) (told : Bool) (out : Int) (M : List Sg) (p n : Int) (hr : runAt w R s stk (memV Y) told out) (hm : MemOk w B Y M) (hp0 : 0 ≤ p) (hp1 : p < 4) (l : List Fr) (hs : stkAt w stk l) (s' : St) (l' : List Fr) (h : caR M s l p n = .ok (s', l')) :
    Calls Try.prog 41 #[.pointer (some ⟨R, 0, none⟩), .agg #[.int .i64 20, .int .i64 p, .int .i64 n]] w fun e w' => ∃ stk', e = .returned (.tuple #[]) ∧ runAt w' R s' stk' (memV Y) told out ∧ stkAt w' stk' l' ∧ Off (· = R) w w' := by
  have HH := Lib.hid h
  have hs0 := Lib.hid hs
  clear h hs
  have hal := below_al0 w (.cells #[.int .i64 20, .int .i64 p, .int .i64 n] 64)
  have HR0 := Lib.hid hr
  have hr1 := Lib.hid (hr.below hal)
  have hm1 := Lib.hid (hm.below hal)
  have HB := Lib.hid hal
  have hR := hr.lt
  have rf : ∀ j, w.frozen? ⟨R, j, none⟩ = false := fun j => hr.free j
  have r3 : w.cell? ⟨R, 3, none⟩ = some (.int .i64 s.a) := hr.cell 3
  have r17 : w.cell? ⟨R, 17, none⟩ = some (.bool s.hal) := hr.cell 17
  have r19 : w.cell? ⟨R, 19, none⟩ = some (.bool told) := hr.cell 19
  have r20 : w.cell? ⟨R, 20, none⟩ = some (.int .i64 out) := hr.cell 20
  have r1 : w.cell? ⟨R, 1, none⟩ = some (.int .i64 s.off) := hr.cell 1
  clear hal hr hm
  have hs1 : Hid (stkAt _ stk l) := stkAt.off (ex := fun _ => False) hs0.out (.of_below HB.out) (fun _ h => h.elim)
  go_enter Try.func41, Try.ntmps41
  go_wp2_with (first | (go_at_call 64; refine (c_call_go _ B R Y s stk told out M l _ p n hp0 hp1 hr1.out hm1.out hs1.out s' l' HH.out).mono ?_; rintro e w2 ⟨stk', rfl, hr2, hs2, ho2⟩))
  go_end0
  exact ⟨stk', rfl, hr2, hs2, (Off.of_below HB.out).trans ho2⟩
set_option maxHeartbeats 2000000 in
theorem c_do21_er (w : World) (B R Y : Nat) (s : St) (stk : Value) (told : Bool) (out : Int) (M : List Sg) (p n : Int) (hr : runAt w R s stk (memV Y) told out) (hm : MemOk w B Y M) (l : List Fr) (hs : stkAt w stk l) (hbig : l.length < 140737488355328) (er : Int) (h : reR s l = .error er) :
    Calls Try.prog 41 #[.pointer (some ⟨R, 0, none⟩), .agg #[.int .i64 21, .int .i64 p, .int .i64 n]] w fun e w' => e = .panicked (flt er) ∧ Below w.heap.size w w' := by
  have HH := Lib.hid h
  have hs0 := Lib.hid hs
  clear h hs
  have hal := below_al0 w (.cells #[.int .i64 21, .int .i64 p, .int .i64 n] 64)
  have HR0 := Lib.hid hr
  have hr1 := Lib.hid (hr.below hal)
  have hm1 := Lib.hid (hm.below hal)
  have HB := Lib.hid hal
  have hR := hr.lt
  have rf : ∀ j, w.frozen? ⟨R, j, none⟩ = false := fun j => hr.free j
  have r3 : w.cell? ⟨R, 3, none⟩ = some (.int .i64 s.a) := hr.cell 3
  have r17 : w.cell? ⟨R, 17, none⟩ = some (.bool s.hal) := hr.cell 17
  have r19 : w.cell? ⟨R, 19, none⟩ = some (.bool told) := hr.cell 19
  have r20 : w.cell? ⟨R, 20, none⟩ = some (.int .i64 out) := hr.cell 20
  have r1 : w.cell? ⟨R, 1, none⟩ = some (.int .i64 s.off) := hr.cell 1
  clear hal hr hm
  have hs1 : Hid (stkAt _ stk l) := stkAt.off (ex := fun _ => False) hs0.out (.of_below HB.out) (fun _ h => h.elim)
  go_enter Try.func41, Try.ntmps41
  go_wp2_with (first | (go_at_call 65; refine (c_ret_er _ R s stk (memV Y) told out l hr1.out hs1.out hbig er HH.out).mono ?_; rintro e w2 ⟨rfl, hb2⟩))
  exact ⟨rfl, rfl, below2 HB.out hb2⟩
set_option maxHeartbeats 2000000 in
theorem c_do21 (w : World) (B R Y : Nat) (s : St) (stk : Value) (told : Bool) (out : Int) (M : List Sg) (p n : Int) (hr : runAt w R s stk (memV Y) told out) (hm : MemOk w B Y M) (l : List Fr) (hs : stkAt w stk l) (hbig : l.length < 140737488355328) (s' : St) (l' : List Fr) (h : reR s l = .ok (s', l')) :
    Calls Try.prog 41 #[.pointer (some ⟨R, 0, none⟩), .agg #[.int .i64 21, .int .i64 p, .int .i64 n]] w fun e w' => ∃ stk', e = .returned (.tuple #[]) ∧ runAt w' R s' stk' (memV Y) told out ∧ stkAt w' stk' l' ∧ Off (· = R) w w' := by
  have HH := Lib.hid h
  have hs0 := Lib.hid hs
  clear h hs
  have hal := below_al0 w (.cells #[.int .i64 21, .int .i64 p, .int .i64 n] 64)
  have HR0 := Lib.hid hr
  have hr1 := Lib.hid (hr.below hal)
  have hm1 := Lib.hid (hm.below hal)
  have HB := Lib.hid hal
  have hR := hr.lt
  have rf : ∀ j, w.frozen? ⟨R, j, none⟩ = false := fun j => hr.free j
  have r3 : w.cell? ⟨R, 3, none⟩ = some (.int .i64 s.a) := hr.cell 3
  have r17 : w.cell? ⟨R, 17, none⟩ = some (.bool s.hal) := hr.cell 17
  have r19 : w.cell? ⟨R, 19, none⟩ = some (.bool told) := hr.cell 19
  have r20 : w.cell? ⟨R, 20, none⟩ = some (.int .i64 out) := hr.cell 20
  have r1 : w.cell? ⟨R, 1, none⟩ = some (.int .i64 s.off) := hr.cell 1
  clear hal hr hm
  have hs1 : Hid (stkAt _ stk l) := stkAt.off (ex := fun _ => False) hs0.out (.of_below HB.out) (fun _ h => h.elim)
  go_enter Try.func41, Try.ntmps41
  go_wp2_with (first | (go_at_call 65; refine (c_ret_go _ R s stk (memV Y) told out l hr1.out hs1.out hbig s' l' HH.out).mono ?_; rintro e w2 ⟨stk', rfl, hr2, hs2, ho2⟩))
  go_end0
  exact ⟨stk', rfl, hr2, hs2, (Off.of_below HB.out).trans ho2⟩
end Go.Proofs.Ytiakonmamkfopaa
