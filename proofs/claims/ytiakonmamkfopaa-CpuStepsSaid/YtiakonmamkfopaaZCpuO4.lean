/- The processor's run: a pointer cannot be read. -/
import Derived.Test.YtiakonmamkfopaaZCpuN
namespace Go.Proofs.Ytiakonmamkfopaa
open Go.RowKit Go.ChangeShapes
set_option linter.unusedVariables false
set_option maxRecDepth 100000
set_option maxHeartbeats 2000000 in
theorem c_do18_er (w : World) (B R Y : Nat) (s : St) (stk : Value) (told : Bool) (out : Int) (M : List Sg) (p n : Int) (hr : runAt w R s stk (memV Y) told out) (hm : MemOk w B Y M) (hp0 : 0 ≤ p) (hp1 : p < 4) (er : Int) (h : rdR M s p n = .error er) :
    Calls Try.prog 41 #[.pointer (some ⟨R, 0, none⟩), .agg #[.int .i64 18, .int .i64 p, .int .i64 n]] w fun e w' => e = .panicked (flt er) ∧ Below w.heap.size w w' := by
  have HH := Lib.hid h
  clear h
  have hal := below_al0 w (.cells #[.int .i64 18, .int .i64 p, .int .i64 n] 64)
  have HR0 := Lib.hid hr
  have hr1 := Lib.hid (hr.below hal)
  have hm1 := Lib.hid (hm.below hal)
  have HB := Lib.hid hal
  have hR := hr.lt
  have rf : ∀ j, w.frozen? ⟨R, j, none⟩ = false := fun j => hr.free j
  have r3 : w.cell? ⟨R, 3, none⟩ = some (.int .i64 s.a) := hr.cell 3
  have r17 : w.cell? ⟨R, 17, none⟩ = some (.bool s.hal) := hr.cell 17
  have r19 : w.cell? ⟨R, 19, none⟩ = some (.bool told) := hr.cell 19
  have r20 : w.cell? ⟨R, 20, none⟩ = some (.int .i64 out) := hr.cell 20
  have r1 : w.cell? ⟨R, 1, none⟩ = some (.int .i64 s.off) := hr.cell 1
  clear hal hr hm
  go_enter Try.func41, Try.ntmps41
  go_wp2_with (first | (go_at_call 55; refine (c_read_er _ B R Y s stk told out M _ p n hp0 hp1 hr1.out hm1.out er HH.out).mono ?_; rintro e w2 ⟨rfl, hb2⟩))
  exact ⟨rfl, rfl, below2 HB.out hb2⟩
end Go.Proofs.Ytiakonmamkfopaa
