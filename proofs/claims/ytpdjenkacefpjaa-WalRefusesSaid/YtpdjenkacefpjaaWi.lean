/- Contracts of package wal: guard. -/
import Derived.Test.YtpdjenkacefpjaaWh
import Derived.Defers
import Derived.Recover
namespace Go.Proofs.Ytpdjenkacefpjaa
open Go.RowKit Go.ChangeShapes Go.Extern.Stop Go.Stop Go.Extern
set_option linter.unusedVariables false
set_option maxRecDepth 100000

theorem gd_idle (p q : Addr) (w : World) :
    CallsD Try.prog 40 #[.pointer (some p), .pointer (some q)] .returning w fun e u' w' => e = .returned (.tuple #[]) ∧ u' = .returning ∧ w' = w := by
  refine callsD_of_wpS Try.func40 rfl fun c₀ cs hu => ?_
  apply wpS_seq
  apply wpS_region
  simp [wpOpsS, go_sem, recoverD, hu, Try.ntmps40, Exit.thenS]
  apply wpS_seq
  apply wpS_region
  simp [wpOpsS, go_sem, Exit.thenS]
  refine wpS_cond (t := false) (by simp [Act.eval, Array.replicate]) ?_
  rw [if_neg Bool.false_ne_true]
  refine wpS_of_wp ?_
  go_wp2
  cases c₀
  simp_all [bodyPostS, results, Try.results40]
theorem gd_catch (L pa qa : Nat) (dd : Bool) (z : Int) (v : Value) (older : List PanicEntry) (w : World) (hp : w.cell? ⟨pa, 0, none⟩ = some (.pointer (some ⟨L, 0, none⟩))) (hv : ∃ t x, v = .iface t x) (h1 : w.cell? ⟨L, 2, none⟩ = some (.bool dd)) (f1 : w.frozen? ⟨L, 2, none⟩ = false) (h2 : w.cell? ⟨qa, 0, none⟩ = some (.int .i64 z)) (f2 : w.frozen? ⟨qa, 0, none⟩ = false) (hne : L ≠ qa) (hne2 : qa ≠ L) :
    CallsD Try.prog 40 #[.pointer (some ⟨pa, 0, none⟩), .pointer (some ⟨qa, 0, none⟩)] (.panicking ({ v, recovered := false } :: older)) w fun e u' w' => e = .returned (.tuple #[]) ∧ u' = .panicking ({ v, recovered := true } :: older) ∧ w' = (w.setCell ⟨L, 2, none⟩ (.bool true)).setCell ⟨qa, 0, none⟩ (.int .i64 12) := by
  obtain ⟨t, x, rfl⟩ := hv
  refine callsD_of_wpS Try.func40 rfl fun c₀ cs hu => ?_
  apply wpS_seq
  apply wpS_region
  simp [wpOpsS, go_sem, recoverD, hu, Try.ntmps40, Exit.thenS]
  apply wpS_seq
  apply wpS_region
  simp [wpOpsS, go_sem, Exit.thenS]
  refine wpS_cond (t := true) (by simp [Act.eval, Array.replicate]) ?_
  rw [if_pos rfl]
  refine wpS_of_wp ?_
  go_wp2
  cases c₀
  simp_all [bodyPostS, results, Try.results40]
/-- what guard leaves of its own two variables, and of the log -/
def Gd (w : World) (L B : Nat) (w1 : World) : Prop := ∃ q dd, LgAt w1 L B q dd ∧ w1.heap[w.heap.size]? = some (.cells #[.pointer (some ⟨L, 0, none⟩)] 29 (0, 0)) ∧ w1.heap[w.heap.size + 1]? = some (.cells #[.int .i64 0] 26 (0, 0))
theorem c_guard (w : World) (L B : Nat) (hL : L < w.heap.size) (ca : Array Value) (R : Ending → World → Prop) (hdo : Calls Try.prog 26 ca ((w.alloc (.cells #[.pointer (some ⟨L, 0, none⟩)] 29)).alloc (.cells #[.int .i64 0] 26)) R) (hcs : ∀ e w1, R e w1 → (e = .returned (.tuple #[]) ∨ e = .panicked died) ∧ Gd w L B w1) : Calls Try.prog 25 #[.pointer (some ⟨L, 0, none⟩), .func (.func 26) #[] ca] w fun e w' => ∃ w1, (R (.returned (.tuple #[])) w1 ∧ e = .returned (.int .i64 0) ∧ w' = w1.setCell ⟨w.heap.size + 1, 0, none⟩ (.int .i64 0)) ∨ (R (.panicked died) w1 ∧ e = .returned (.int .i64 12) ∧ w' = (w1.setCell ⟨L, 2, none⟩ (.bool true)).setCell ⟨w.heap.size + 1, 0, none⟩ (.int .i64 12)) := by
  have hmf : ∀ (fn : Fn) (first cap : Array Value) (w : World), (Instr.makeFunc fn first cap).run Try.prog w = .ok (.func fn first cap) w := fun _ _ _ _ => rfl
  go_enter_defers Try.func25, Try.ntmps25
  go_wp2_with (first | (go_at_call 26; refine hdo.mono ?_; rintro e w1 hR; obtain ⟨he, q, dd, g1, g2, g3⟩ := hcs e w1 hR; have c2 : w1.cell? ⟨w.heap.size + 1, 0, none⟩ = some (.int .i64 0) := (by simp [World.cell?, g3]); have f2 : w1.frozen? ⟨w.heap.size + 1, 0, none⟩ = false := (by simp [World.frozen?, g3]); have c1 : w1.cell? ⟨w.heap.size, 0, none⟩ = some (.pointer (some ⟨L, 0, none⟩)) := (by simp [World.cell?, g2]); rcases he with rfl | rfl))
  · refine leaves_cons (f := 40) (args := #[.pointer (some ⟨w.heap.size, 0, none⟩), .pointer (some ⟨w.heap.size + 1, 0, none⟩)]) (by simp) (by simp [go_sem]) ?_
    refine (gd_idle ⟨w.heap.size, 0, none⟩ ⟨w.heap.size + 1, 0, none⟩ _).mono ?_
    rintro e u' w'' ⟨rfl, rfl, rfl⟩
    have d2 : (w1.setCell ⟨w.heap.size + 1, 0, none⟩ (.int .i64 0)).cell? ⟨w.heap.size + 1, 0, none⟩ = some (.int .i64 0) := by simp [World.cell?, World.setCell, Array.getElem?_modify, g3]
    simp [Leaves, settle, results, Try.results25, go_sem, d2]
    exact ⟨w1, hR, rfl⟩
  · refine leaves_cons (f := 40) (args := #[.pointer (some ⟨w.heap.size, 0, none⟩), .pointer (some ⟨w.heap.size + 1, 0, none⟩)]) (by simp) (by simp [go_sem]) ?_
    refine (gd_catch L w.heap.size (w.heap.size + 1) dd 0 _ [] w1 c1 ⟨_, _, rfl⟩ g1.cell.2.2.1 (g1.cell.2.2.2 2) c2 f2 (by omega) (by omega)).mono ?_
    rintro e u' w'' ⟨rfl, rfl, rfl⟩
    have d2 : ((w1.setCell ⟨L, 2, none⟩ (.bool true)).setCell ⟨w.heap.size + 1, 0, none⟩ (.int .i64 12)).cell? ⟨w.heap.size + 1, 0, none⟩ = some (.int .i64 12) := by
      have hne : L ≠ w.heap.size + 1 := by omega
      simp [World.cell?, World.setCell, Array.getElem?_modify, g3, hne]
    simp [Leaves, settle, results, Try.results25, go_sem, d2]
    exact ⟨w1, hR, rfl⟩
theorem c_guard2 (w : World) (L B : Nat) (hL : L < w.heap.size) (ca : Array Value) (R : Ending → World → Prop) (hdo : Calls Try.prog 31 ca ((w.alloc (.cells #[.pointer (some ⟨L, 0, none⟩)] 29)).alloc (.cells #[.int .i64 0] 26)) R) (hcs : ∀ e w1, R e w1 → (e = .returned (.tuple #[]) ∨ e = .panicked died) ∧ Gd w L B w1) : Calls Try.prog 25 #[.pointer (some ⟨L, 0, none⟩), .func (.func 31) #[] ca] w fun e w' => ∃ w1, (R (.returned (.tuple #[])) w1 ∧ e = .returned (.int .i64 0) ∧ w' = w1.setCell ⟨w.heap.size + 1, 0, none⟩ (.int .i64 0)) ∨ (R (.panicked died) w1 ∧ e = .returned (.int .i64 12) ∧ w' = (w1.setCell ⟨L, 2, none⟩ (.bool true)).setCell ⟨w.heap.size + 1, 0, none⟩ (.int .i64 12)) := by
  have hmf : ∀ (fn : Fn) (first cap : Array Value) (w : World), (Instr.makeFunc fn first cap).run Try.prog w = .ok (.func fn first cap) w := fun _ _ _ _ => rfl
  go_enter_defers Try.func25, Try.ntmps25
  go_wp2_with (first | (go_at_call 31; refine hdo.mono ?_; rintro e w1 hR; obtain ⟨he, q, dd, g1, g2, g3⟩ := hcs e w1 hR; have c2 : w1.cell? ⟨w.heap.size + 1, 0, none⟩ = some (.int .i64 0) := (by simp [World.cell?, g3]); have f2 : w1.frozen? ⟨w.heap.size + 1, 0, none⟩ = false := (by simp [World.frozen?, g3]); have c1 : w1.cell? ⟨w.heap.size, 0, none⟩ = some (.pointer (some ⟨L, 0, none⟩)) := (by simp [World.cell?, g2]); rcases he with rfl | rfl))
  · refine leaves_cons (f := 40) (args := #[.pointer (some ⟨w.heap.size, 0, none⟩), .pointer (some ⟨w.heap.size + 1, 0, none⟩)]) (by simp) (by simp [go_sem]) ?_
    refine (gd_idle ⟨w.heap.size, 0, none⟩ ⟨w.heap.size + 1, 0, none⟩ _).mono ?_
    rintro e u' w'' ⟨rfl, rfl, rfl⟩
    have d2 : (w1.setCell ⟨w.heap.size + 1, 0, none⟩ (.int .i64 0)).cell? ⟨w.heap.size + 1, 0, none⟩ = some (.int .i64 0) := by simp [World.cell?, World.setCell, Array.getElem?_modify, g3]
    simp [Leaves, settle, results, Try.results25, go_sem, d2]
    exact ⟨w1, hR, rfl⟩
  · refine leaves_cons (f := 40) (args := #[.pointer (some ⟨w.heap.size, 0, none⟩), .pointer (some ⟨w.heap.size + 1, 0, none⟩)]) (by simp) (by simp [go_sem]) ?_
    refine (gd_catch L w.heap.size (w.heap.size + 1) dd 0 _ [] w1 c1 ⟨_, _, rfl⟩ g1.cell.2.2.1 (g1.cell.2.2.2 2) c2 f2 (by omega) (by omega)).mono ?_
    rintro e u' w'' ⟨rfl, rfl, rfl⟩
    have d2 : ((w1.setCell ⟨L, 2, none⟩ (.bool true)).setCell ⟨w.heap.size + 1, 0, none⟩ (.int .i64 12)).cell? ⟨w.heap.size + 1, 0, none⟩ = some (.int .i64 12) := by
      have hne : L ≠ w.heap.size + 1 := by omega
      simp [World.cell?, World.setCell, Array.getElem?_modify, g3, hne]
    simp [Leaves, settle, results, Try.results25, go_sem, d2]
    exact ⟨w1, hR, rfl⟩
end Go.Proofs.Ytpdjenkacefpjaa
