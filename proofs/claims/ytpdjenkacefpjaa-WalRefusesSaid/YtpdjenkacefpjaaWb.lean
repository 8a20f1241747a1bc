/- Contracts of package wal: its small ones. -/
import Derived.Test.YtpdjenkacefpjaaWa
import Derived.Test.YtpdjenkacefpjaaWq
namespace Go.Proofs.Ytpdjenkacefpjaa
open Go.RowKit Go.ChangeShapes
set_option linter.unusedVariables false
set_option maxRecDepth 100000

theorem sg_nat (q : Nat) : 1 + (q : Int) % 250 = ((sg q).toNat : Int) := by
  unfold sg
  rw [UInt8.toNat_ofNat']
  omega
theorem c_sign (w : World) (q : Nat) (hq : q < 4611686018427387904) : Calls Try.prog 41 #[.int .i64 (q : Int)] w fun e w' => e = .returned (.int .u8 ((sg q).toNat : Int)) ∧ w = w' := by
  have hS := Lib.hid (sg_nat q)
  go_enter Try.func41, Try.ntmps41
  go_wp2
  go_ret
  refine ⟨?_, rfl⟩
  rw [← hS.out]
  rfl
/-- what must panics with -/
def died : List PanicEntry := [{ v := .iface 26 (.int .i64 12), recovered := false }]
theorem c_must_ok (w : World) : Calls Try.prog 32 #[.int .i64 0] w fun e w' => e = .returned (.tuple #[]) ∧ w = w' := by
  go_enter Try.func32, Try.ntmps32
  go_wp2
  go_end0
  exact ⟨rfl, rfl⟩
theorem c_must_no (w : World) : Calls Try.prog 32 #[.int .i64 12] w fun e w' => e = .panicked died ∧ w = w' := by
  go_enter Try.func32, Try.ntmps32
  go_wp2
  exact ⟨rfl, rfl, rfl⟩
/-- a log lies in block L, its disk in block B -/
def LgAt (w : World) (L B : Nat) (q : Int) (dd : Bool) : Prop := w.heap[L]? = some (.cells #[.pointer (some ⟨B, 0, none⟩), .int .i64 q, .bool dd] 63 (0, 0))
theorem LgAt.cell {w : World} {L B : Nat} {q : Int} {dd : Bool} (h : LgAt w L B q dd) : w.cell? ⟨L, 0, none⟩ = some (.pointer (some ⟨B, 0, none⟩)) ∧ w.cell? ⟨L, 1, none⟩ = some (.int .i64 q) ∧ w.cell? ⟨L, 2, none⟩ = some (.bool dd) ∧ ∀ j, w.frozen? ⟨L, j, none⟩ = false := by
  unfold LgAt at h
  refine ⟨?_, ?_, ?_, fun j => ?_⟩
  · simp [World.cell?, h]
  · simp [World.cell?, h]
  · simp [World.cell?, h]
  · simp [World.frozen?, h]
theorem LgAt.lt {w : World} {L B : Nat} {q : Int} {dd : Bool} (h : LgAt w L B q dd) : L < w.heap.size := (Array.getElem?_eq_some_iff.1 h).1
theorem c_take {F : Nat → Prop} (w : World) (L B : Nat) (q : Int) (dd : Bool) (d : Dk) (n : Int) (hl : LgAt w L B q dd) (h : DiskAt F w B d) (hn : I64 n) (h0 : readE d n = 0) : Calls Try.prog 28 #[.pointer (some ⟨L, 0, none⟩), .int .i64 n] w fun e w' => ∃ g c, e = .returned (.slice (some ⟨g, 0, none⟩) 128 c) ∧ w'.ownsRow w.heap.size 5 1 (.slice (some ⟨g, 0, none⟩) 128 c) 128 (bys (d.at n)) ∧ Below w.heap.size w w' := by
  have c0 := hl.cell.1
  have h' := Lib.hid h
  have hn' := Lib.hid hn
  have hE := Lib.hid h0
  have hA := Lib.hid (h.choose_spec.choose_spec.choose_spec.choose_spec.ok.atLen n)
  clear hl h hn h0
  go_enter Try.func28, Try.ntmps28
  go_wp2_with (first
    | (go_at_call 23; refine (c_Read w B d n h'.out hn'.out).mono ?_; rintro e w1 hrd; obtain ⟨g, c, rfl, hx, hb⟩ := hrd.ok hE.out rfl hA.out; replace hx := Lib.hid hx; replace hb := Lib.hid hb; clear hrd)
    | (go_at_call 32; refine (c_must_ok w1).mono ?_; rintro e w2 ⟨rfl, rfl⟩))
  go_ret
  exact ⟨g, c, rfl, hx.out, hb.out⟩
theorem c_Seq (w : World) (L B : Nat) (q : Int) (dd : Bool) (hl : LgAt w L B q dd) : Calls Try.prog 15 #[.pointer (some ⟨L, 0, none⟩)] w fun e w' => e = .returned (.int .i64 q) ∧ w = w' := by
  have c0 := hl.cell.2.1
  clear hl
  go_enter Try.func15, Try.ntmps15
  go_wp2
  go_ret
  exact ⟨rfl, rfl⟩
end Go.Proofs.Ytpdjenkacefpjaa
