/- The processor's run: the instructions that reckon with A and a word. The processor's run: the instructions of pointers. -/
import Derived.Test.YtiakonmamkfopaaZCpuL
namespace Go.Proofs.Ytiakonmamkfopaa
open Go.RowKit Go.ChangeShapes
set_option linter.unusedVariables false
set_option maxRecDepth 100000
/-- A and a word -/
def arR (op a b : Int) : Int := if op = 4 then wrap64 (a + b) else if op = 5 then wrap64 (a - b) else if op = 6 then wrap64 (a * b) else if op = 7 then fbin .add a b else if op = 8 then fbin .sub a b else if op = 9 then fbin .mul a b else if op = 10 then fbin .quo a b else fless a b
theorem wp_lookup {P : Program} {o : Oper} {a : Act} {w : World} {K : Act → World → Prop} {Q : Exit → Act → World → Prop} (m k : Operand) (t : TypeId) (ho : o.op = .lookup t m k false) (mv kv v : Value) (hm : a.eval m = mv) (hk : a.eval k = kv)
    (hrun : (Instr.lookup t mv kv false).run P w = .ok v w) (h : K (a.put o.dst v) w) : o.wp P a w K Q := by
  unfold Oper.wp
  simp [execOp, ho, hm, hk, hrun, Result.andThen]
  exact h
/-- the run is what it was, but for A -/
def RA (R : Nat) (s : St) (stk mv : Value) (told : Bool) (out : Int) (W w' : World) : Prop := Off (· = R) W w' ∧ ∃ a, runAt w' R { s with a := a } stk mv told out
theorem RA.refl {R : Nat} {s : St} {stk mv : Value} {told : Bool} {out : Int} {W : World} (h : runAt W R s stk mv told out) : RA R s stk mv told out W W := ⟨Off.refl _ _, s.a, h⟩
theorem RA.drew {R : Nat} {s : St} {stk mv : Value} {told : Bool} {out : Int} {W w' : World} (h : RA R s stk mv told out W w') : RA R s stk mv told out W w'.drew := ⟨h.1.drew, h.2⟩
theorem RA.alloc {R : Nat} {s : St} {stk mv : Value} {told : Bool} {out : Int} {W w' : World} (h : RA R s stk mv told out W w') (o : Obj) : RA R s stk mv told out W (w'.alloc o) := by
  obtain ⟨h1, k, h2⟩ := h
  exact ⟨h1.alloc o, k, h2.below (below_al0 _ _)⟩
theorem RA.set3 {R : Nat} {s : St} {stk mv : Value} {told : Bool} {out : Int} {W w' : World} (h : RA R s stk mv told out W w') (a : Int) : RA R s stk mv told out W (w'.setCell ⟨R, 3, none⟩ (.int .i64 a)) := by
  obtain ⟨h1, k, h2⟩ := h
  exact ⟨h1.trans (off1 _ _ _ _), a, h2.set 3 _⟩
theorem c_ar4 (a b : Int) (w : World) : Calls Try.prog 87 #[.int .i64 a, .int .i64 b] w fun e w' => e = .returned (.int .i64 (arR 4 a b)) ∧ ∃ n, w' = w.drewN n := by
  go_enter Try.func87, Try.ntmps87
  go_wp2
  go_ret
  exact ⟨rfl, 0, rfl⟩
theorem c_ar5 (a b : Int) (w : World) : Calls Try.prog 88 #[.int .i64 a, .int .i64 b] w fun e w' => e = .returned (.int .i64 (arR 5 a b)) ∧ ∃ n, w' = w.drewN n := by
  go_enter Try.func88, Try.ntmps88
  go_wp2
  go_ret
  exact ⟨rfl, 0, rfl⟩
theorem c_ar6 (a b : Int) (w : World) : Calls Try.prog 89 #[.int .i64 a, .int .i64 b] w fun e w' => e = .returned (.int .i64 (arR 6 a b)) ∧ ∃ n, w' = w.drewN n := by
  go_enter Try.func89, Try.ntmps89
  go_wp2
  go_ret
  exact ⟨rfl, 0, rfl⟩
theorem c_ar7 (a b : Int) (w : World) : Calls Try.prog 90 #[.int .i64 a, .int .i64 b] w fun e w' => e = .returned (.int .i64 (arR 7 a b)) ∧ ∃ n, w' = w.drewN n := c_FAdd a b w
theorem c_ar8 (a b : Int) (w : World) : Calls Try.prog 91 #[.int .i64 a, .int .i64 b] w fun e w' => e = .returned (.int .i64 (arR 8 a b)) ∧ ∃ n, w' = w.drewN n := c_FSub a b w
theorem c_ar9 (a b : Int) (w : World) : Calls Try.prog 92 #[.int .i64 a, .int .i64 b] w fun e w' => e = .returned (.int .i64 (arR 9 a b)) ∧ ∃ n, w' = w.drewN n := c_FMul a b w
theorem c_ar10 (a b : Int) (w : World) : Calls Try.prog 93 #[.int .i64 a, .int .i64 b] w fun e w' => e = .returned (.int .i64 (arR 10 a b)) ∧ ∃ n, w' = w.drewN n := c_FDiv a b w
theorem c_ar11 (a b : Int) (w : World) : Calls Try.prog 94 #[.int .i64 a, .int .i64 b] w fun e w' => e = .returned (.int .i64 (arR 11 a b)) ∧ ∃ n, w' = w.drewN n := (c_FLess a b w).mono fun _ _ h => ⟨h.1, 0, h.2.symm⟩
end Go.Proofs.Ytiakonmamkfopaa
namespace Go.Proofs.Ytiakonmamkfopaa
open Go.RowKit Go.ChangeShapes
set_option linter.unusedVariables false
set_option maxRecDepth 100000
/-- a state with a pointer laid anew -/
def St.setP (s : St) (k : Nat) (q : Pt) : St := match k with
  | 0 => { s with p0 := q }
  | 1 => { s with p1 := q }
  | 2 => { s with p2 := q }
  | _ => { s with p3 := q }
theorem set3w {w : World} {R : Nat} {s : St} {stk mv : Value} {told : Bool} {out : Int} (h : runAt w R s stk mv told out) (o : Nat) (ho : o + 2 < 21) (a b c : Value) : (((w.setCell ⟨R, o, none⟩ a).setCell ⟨R, o + 1, none⟩ b).setCell ⟨R, o + 2, none⟩ c).heap[R]? = some (.cells ((((runC s stk mv told out).setIfInBounds o a).setIfInBounds (o + 1) b).setIfInBounds (o + 2) c) 99 (0, 0)) := by
  simp [World.setCell, Array.getElem?_modify, show w.heap[R]? = _ from h]
theorem off3P (w : World) (R a b c : Nat) (x y z : Value) : Off (· = R) w (((w.setCell ⟨R, a, none⟩ x).setCell ⟨R, b, none⟩ y).setCell ⟨R, c, none⟩ z) := ((off1 _ _ _ _).trans (off1 _ _ _ _)).trans (off1 _ _ _ _)
end Go.Proofs.Ytiakonmamkfopaa
