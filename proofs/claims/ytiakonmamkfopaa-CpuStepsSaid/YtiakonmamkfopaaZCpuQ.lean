/- The processor's run: what any instruction does. -/
import Derived.Test.YtiakonmamkfopaaZCpuM
import Derived.Test.YtiakonmamkfopaaZCpuN0
import Derived.Test.YtiakonmamkfopaaZCpuN1
import Derived.Test.YtiakonmamkfopaaZCpuN2
import Derived.Test.YtiakonmamkfopaaZCpuN3
import Derived.Test.YtiakonmamkfopaaZCpuO1
import Derived.Test.YtiakonmamkfopaaZCpuO2
import Derived.Test.YtiakonmamkfopaaZCpuO3
import Derived.Test.YtiakonmamkfopaaZCpuO4
namespace Go.Proofs.Ytiakonmamkfopaa
open Go.RowKit Go.ChangeShapes
set_option linter.unusedVariables false
set_option maxRecDepth 100000
/-- what a step makes: the state, its callers, whether it tells, what, and what it writes -/
structure Res where
  s : St
  l : List Fr
  told : Bool
  out : Int
  st : Option (Int × Int × Int)
/-- a jump is made -/
def jmpR (op a : Int) : Prop := op = 14 ∨ op = 15 ∧ a = 0 ∨ op = 16 ∧ a < 0
instance (op a : Int) : Decidable (jmpR op a) := by unfold jmpR; infer_instance
/-- an instruction -/
def doR (M : List Sg) (s : St) (l : List Fr) (op p n : Int) : Except Int Res :=
  if op = 0 then .ok ⟨{ s with hal := true }, l, false, 0, none⟩
  else if op = 1 then match rdR M s p n with
    | .error e => .error e
    | .ok (x, _) => .ok ⟨{ s with a := x }, l, false, 0, none⟩
  else if 4 ≤ op ∧ op ≤ 11 then match rdR M s p n with
    | .error e => .error e
    | .ok (x, _) => .ok ⟨{ s with a := arR op s.a x }, l, false, 0, none⟩
  else if op = 2 then match wrR M s p n with
    | .error e => .error e
    | .ok (k, o) => .ok ⟨s, l, false, 0, some (k, o, s.a)⟩
  else if op = 3 then .ok ⟨{ s with a := n }, l, false, 0, none⟩
  else if op = 12 then .ok ⟨{ s with a := fromInt s.a }, l, false, 0, none⟩
  else if op = 13 then if toIntE s.a = 0 then .ok ⟨{ s with a := toInt s.a }, l, false, 0, none⟩ else .error 36
  else if jmpR op s.a then .ok ⟨{ s with off := n }, l, false, 0, none⟩
  else if op = 17 then .ok ⟨s.setP p.toNat ⟨pSeg s.a, pOff s.a, max s.ring (pRing s.a)⟩, l, false, 0, none⟩
  else if op = 18 then match rdR M s p n with
    | .error e => .error e
    | .ok (x, g) => .ok ⟨s.setP p.toNat ⟨pSeg x, pOff x, max (pRing x) (max g.r1 (s.eb p))⟩, l, false, 0, none⟩
  else if op = 19 then .ok ⟨{ s with a := encP (s.pt p.toNat).seg (s.pt p.toNat).off (s.pt p.toNat).ring }, l, false, 0, none⟩
  else if op = 20 then match caR M s l p n with
    | .error e => .error e
    | .ok (s', l') => .ok ⟨s', l', false, 0, none⟩
  else if op = 21 then match reR s l with
    | .error e => .error e
    | .ok (s', l') => .ok ⟨s', l', false, 0, none⟩
  else if op = 22 then .ok ⟨s, l, true, s.a, none⟩
  else .ok ⟨s, l, false, 0, none⟩
/-- the memory, behind what a step writes -/
def memThen (w : World) (B Y : Nat) (v : Value) (is : Bool) (sg of_ x n0 : Int) : Option (Int × Int × Int) → Prop
  | none => memAt w B Y v is sg of_ x n0
  | some (k, o, y) => memAt w B Y v true k o y (wrap64 (n0 + 1))
theorem run_mem {w : World} {R B Y : Nat} {s : St} {stk mv v : Value} {told is : Bool} {out sg of_ x n0 : Int} (hr : runAt w R s stk mv told out) (hma : memAt w B Y v is sg of_ x n0) : ¬ Y = R := by
  rintro rfl
  have h := (show w.heap[Y]? = _ from hr).symm.trans hma
  simp [runC] at h
theorem mem_frame {w : World} {B Y : Nat} {v : Value} {is : Bool} {sg of_ x n0 : Int} (h : memAt w B Y v is sg of_ x n0) : ∀ k, k = Y → ∀ cs, w.heap[k]? ≠ some (.cells cs 79 (0, 0)) := by
  rintro k rfl cs h1
  have h2 := (show w.heap[k]? = _ from h).symm.trans h1
  simp at h2
theorem lift_do {F : FuncId} {args : Array Value} {w : World} {B R Y : Nat} {s s' : St} {stk : Value} {l : List Fr} {v : Value} {is t : Bool} {sg of_ x n0 o : Int} (hr : runAt w R s stk (memV Y) false 0) (hs : stkAt w stk l) (hma : memAt w B Y v is sg of_ x n0)
    (h : Calls Try.prog F args w fun e w' => e = .returned (.tuple #[]) ∧ runAt w' R s' stk (memV Y) t o ∧ Off (· = R) w w') :
    Calls Try.prog F args w fun e w' => ∃ stk', e = .returned (.tuple #[]) ∧ runAt w' R s' stk' (memV Y) t o ∧ stkAt w' stk' l ∧ memThen w' B Y v is sg of_ x n0 none ∧ Off (fun k => k = R ∨ k = Y) w w' :=
  h.mono fun e w' ⟨h1, h2, h3⟩ => ⟨stk, h1, h2, hs.off h3 (run_frame hr), h3.keeps hma (run_mem hr hma), h3.mono fun _ _ h => .inl h⟩
set_option maxHeartbeats 1000000 in
theorem c_do_go (w : World) (B R Y : Nat) (s : St) (stk : Value) (M : List Sg) (l : List Fr) (op p n : Int) (h0 : 0 ≤ op) (h1 : op < 23) (hp0 : 0 ≤ p) (hp1 : p < 4) (hr : runAt w R s stk (memV Y) false 0) (hm : MemOk w B Y M) (hs : stkAt w stk l) (hbig : l.length < 140737488355328) (v : Value) (is : Bool) (sg of_ x n0 : Int) (hma : memAt w B Y v is sg of_ x n0) (r : Res) (h : doR M s l op p n = .ok r) :
    Calls Try.prog 41 #[.pointer (some ⟨R, 0, none⟩), .agg #[.int .i64 op, .int .i64 p, .int .i64 n]] w fun e w' => ∃ stk', e = .returned (.tuple #[]) ∧ runAt w' R r.s stk' (memV Y) r.told r.out ∧ stkAt w' stk' r.l ∧ memThen w' B Y v is sg of_ x n0 r.st ∧ Off (fun k => k = R ∨ k = Y) w w' := by
  unfold doR at h
  rcases (show op = 0 ∨ op = 1 ∨ op = 2 ∨ op = 3 ∨ op = 4 ∨ op = 5 ∨ op = 6 ∨ op = 7 ∨ op = 8 ∨ op = 9 ∨ op = 10 ∨ op = 11 ∨ op = 12 ∨ op = 13 ∨ op = 14 ∨ op = 15 ∨ op = 16 ∨ op = 17 ∨ op = 18 ∨ op = 19 ∨ op = 20 ∨ op = 21 ∨ op = 22 by omega) with rfl | rfl | rfl | rfl | rfl | rfl | rfl | rfl | rfl | rfl | rfl | rfl | rfl | rfl | rfl | rfl | rfl | rfl | rfl | rfl | rfl | rfl | rfl
  · rw [if_pos (by decide)] at h
    cases h
    exact lift_do hr hs hma (c_do0 w B R Y s stk false 0 M p n hr hm)
  · rw [if_neg (by decide), if_pos (by decide)] at h
    cases hx : rdR M s p n with
    | error e => rw [hx] at h; cases h
    | ok y =>
      obtain ⟨x', g⟩ := y
      rw [hx] at h
      cases h
      exact lift_do hr hs hma (c_do1 w B R Y s stk false 0 M p n hr hm hp0 hp1 x' g hx)
  · rw [if_neg (by decide), if_neg (by decide), if_neg (by decide), if_pos (by decide)] at h
    cases hx : wrR M s p n with
    | error e => rw [hx] at h; cases h
    | ok y =>
      obtain ⟨k, o⟩ := y
      rw [hx] at h
      cases h
      refine (c_do2 w B R Y s stk false 0 M p n hr hm hp0 hp1 v is sg of_ x n0 hma k o hx).mono fun e w' ⟨a1, a2, a3⟩ => ⟨stk, a1, hr.off a3 (fun hh => run_mem hr hma hh.symm), hs.off a3 (mem_frame hma), a2, a3.mono fun _ _ h => .inr h⟩
  · rw [if_neg (by decide), if_neg (by decide), if_neg (by decide), if_neg (by decide), if_pos (by decide)] at h
    cases h
    exact lift_do hr hs hma (c_do3 w B R Y s stk false 0 M p n hr hm)
  · rw [if_neg (by decide), if_neg (by decide), if_pos (by decide)] at h
    cases hx : rdR M s p n with
    | error e => rw [hx] at h; cases h
    | ok y =>
      obtain ⟨x', g⟩ := y
      rw [hx] at h
      cases h
      exact lift_do hr hs hma (c_do4 w B R Y s stk false 0 M p n hr hm hp0 hp1 x' g hx)
  · rw [if_neg (by decide), if_neg (by decide), if_pos (by decide)] at h
    cases hx : rdR M s p n with
    | error e => rw [hx] at h; cases h
    | ok y =>
      obtain ⟨x', g⟩ := y
      rw [hx] at h
      cases h
      exact lift_do hr hs hma (c_do5 w B R Y s stk false 0 M p n hr hm hp0 hp1 x' g hx)
  · rw [if_neg (by decide), if_neg (by decide), if_pos (by decide)] at h
    cases hx : rdR M s p n with
    | error e => rw [hx] at h; cases h
    | ok y =>
      obtain ⟨x', g⟩ := y
      rw [hx] at h
      cases h
      exact lift_do hr hs hma (c_do6 w B R Y s stk false 0 M p n hr hm hp0 hp1 x' g hx)
  · rw [if_neg (by decide), if_neg (by decide), if_pos (by decide)] at h
    cases hx : rdR M s p n with
    | error e => rw [hx] at h; cases h
    | ok y =>
      obtain ⟨x', g⟩ := y
      rw [hx] at h
      cases h
      exact lift_do hr hs hma (c_do7 w B R Y s stk false 0 M p n hr hm hp0 hp1 x' g hx)
  · rw [if_neg (by decide), if_neg (by decide), if_pos (by decide)] at h
    cases hx : rdR M s p n with
    | error e => rw [hx] at h; cases h
    | ok y =>
      obtain ⟨x', g⟩ := y
      rw [hx] at h
      cases h
      exact lift_do hr hs hma (c_do8 w B R Y s stk false 0 M p n hr hm hp0 hp1 x' g hx)
  · rw [if_neg (by decide), if_neg (by decide), if_pos (by decide)] at h
    cases hx : rdR M s p n with
    | error e => rw [hx] at h; cases h
    | ok y =>
      obtain ⟨x', g⟩ := y
      rw [hx] at h
      cases h
      exact lift_do hr hs hma (c_do9 w B R Y s stk false 0 M p n hr hm hp0 hp1 x' g hx)
  · rw [if_neg (by decide), if_neg (by decide), if_pos (by decide)] at h
    cases hx : rdR M s p n with
    | error e => rw [hx] at h; cases h
    | ok y =>
      obtain ⟨x', g⟩ := y
      rw [hx] at h
      cases h
      exact lift_do hr hs hma (c_do10 w B R Y s stk false 0 M p n hr hm hp0 hp1 x' g hx)
  · rw [if_neg (by decide), if_neg (by decide), if_pos (by decide)] at h
    cases hx : rdR M s p n with
    | error e => rw [hx] at h; cases h
    | ok y =>
      obtain ⟨x', g⟩ := y
      rw [hx] at h
      cases h
      exact lift_do hr hs hma (c_do11 w B R Y s stk false 0 M p n hr hm hp0 hp1 x' g hx)
  · rw [if_neg (by decide), if_neg (by decide), if_neg (by decide), if_neg (by decide), if_neg (by decide), if_pos (by decide)] at h
    cases h
    exact lift_do hr hs hma (c_do12 w B R Y s stk false 0 M p n hr hm)
  · rw [if_neg (by decide), if_neg (by decide), if_neg (by decide), if_neg (by decide), if_neg (by decide), if_neg (by decide), if_pos (by decide)] at h
    split at h
    · cases h
      exact lift_do hr hs hma (c_do13 w B R Y s stk false 0 M p n hr hm (by assumption))
    · cases h
  · rw [if_neg (by decide), if_neg (by decide), if_neg (by decide), if_neg (by decide), if_neg (by decide), if_neg (by decide), if_neg (by decide), if_pos (by unfold jmpR; omega)] at h
    cases h
    exact lift_do hr hs hma (c_do14 w B R Y s stk false 0 M p n hr hm)
  · rw [if_neg (by decide), if_neg (by decide), if_neg (by decide), if_neg (by decide), if_neg (by decide), if_neg (by decide), if_neg (by decide)] at h
    by_cases hj : s.a = 0
    · rw [if_pos (by unfold jmpR; omega)] at h
      cases h
      exact lift_do hr hs hma (c_do15_go w B R Y s stk false 0 M p n hr hm hj)
    · rw [if_neg (by unfold jmpR; omega)] at h
      cases h
      exact lift_do hr hs hma (c_do15_no w B R Y s stk false 0 M p n hr hm hj)
  · rw [if_neg (by decide), if_neg (by decide), if_neg (by decide), if_neg (by decide), if_neg (by decide), if_neg (by decide), if_neg (by decide)] at h
    by_cases hj : s.a < 0
    · rw [if_pos (by unfold jmpR; omega)] at h
      cases h
      exact lift_do hr hs hma (c_do16_go w B R Y s stk false 0 M p n hr hm hj)
    · rw [if_neg (by unfold jmpR; omega)] at h
      cases h
      exact lift_do hr hs hma (c_do16_no w B R Y s stk false 0 M p n hr hm hj)
  · rw [if_neg (by decide), if_neg (by decide), if_neg (by decide), if_neg (by decide), if_neg (by decide), if_neg (by decide), if_neg (by decide), if_neg (by unfold jmpR; omega), if_pos (by decide)] at h
    cases h
    rcases (show p = 0 ∨ p = 1 ∨ p = 2 ∨ p = 3 by omega) with rfl | rfl | rfl | rfl
    · exact lift_do hr hs hma (c_do17_0 w B R Y s stk false 0 M 0 n hr hm)
    · exact lift_do hr hs hma (c_do17_1 w B R Y s stk false 0 M 1 n hr hm)
    · exact lift_do hr hs hma (c_do17_2 w B R Y s stk false 0 M 2 n hr hm)
    · exact lift_do hr hs hma (c_do17_3 w B R Y s stk false 0 M 3 n hr hm)
  · rw [if_neg (by decide), if_neg (by decide), if_neg (by decide), if_neg (by decide), if_neg (by decide), if_neg (by decide), if_neg (by decide), if_neg (by unfold jmpR; omega), if_neg (by decide), if_pos (by decide)] at h
    cases hx : rdR M s p n with
    | error e => rw [hx] at h; cases h
    | ok y =>
      obtain ⟨x', g⟩ := y
      rw [hx] at h
      cases h
      rcases (show p = 0 ∨ p = 1 ∨ p = 2 ∨ p = 3 by omega) with rfl | rfl | rfl | rfl
      · exact lift_do hr hs hma (c_do18_0 w B R Y s stk false 0 M 0 n hr hm x' g hx)
      · exact lift_do hr hs hma (c_do18_1 w B R Y s stk false 0 M 1 n hr hm x' g hx)
      · exact lift_do hr hs hma (c_do18_2 w B R Y s stk false 0 M 2 n hr hm x' g hx)
      · exact lift_do hr hs hma (c_do18_3 w B R Y s stk false 0 M 3 n hr hm x' g hx)
  · rw [if_neg (by decide), if_neg (by decide), if_neg (by decide), if_neg (by decide), if_neg (by decide), if_neg (by decide), if_neg (by decide), if_neg (by unfold jmpR; omega), if_neg (by decide), if_neg (by decide), if_pos (by decide)] at h
    cases h
    rcases (show p = 0 ∨ p = 1 ∨ p = 2 ∨ p = 3 by omega) with rfl | rfl | rfl | rfl
    · exact lift_do hr hs hma (c_do19_0 w B R Y s stk false 0 M 0 n hr hm)
    · exact lift_do hr hs hma (c_do19_1 w B R Y s stk false 0 M 1 n hr hm)
    · exact lift_do hr hs hma (c_do19_2 w B R Y s stk false 0 M 2 n hr hm)
    · exact lift_do hr hs hma (c_do19_3 w B R Y s stk false 0 M 3 n hr hm)
  · rw [if_neg (by decide), if_neg (by decide), if_neg (by decide), if_neg (by decide), if_neg (by decide), if_neg (by decide), if_neg (by decide), if_neg (by unfold jmpR; omega), if_neg (by decide), if_neg (by decide), if_neg (by decide), if_pos (by decide)] at h
    cases hx : caR M s l p n with
    | error e => rw [hx] at h; cases h
    | ok y =>
      obtain ⟨s', l'⟩ := y
      rw [hx] at h
      cases h
      exact (c_do20 w B R Y s stk false 0 M p n hr hm hp0 hp1 l hs s' l' hx).mono fun e w' ⟨stk', a1, a2, a3, a4⟩ => ⟨stk', a1, a2, a3, a4.keeps hma (run_mem hr hma), a4.mono fun _ _ h => .inl h⟩
  · rw [if_neg (by decide), if_neg (by decide), if_neg (by decide), if_neg (by decide), if_neg (by decide), if_neg (by decide), if_neg (by decide), if_neg (by unfold jmpR; omega), if_neg (by decide), if_neg (by decide), if_neg (by decide), if_neg (by decide), if_pos (by decide)] at h
    cases hx : reR s l with
    | error e => rw [hx] at h; cases h
    | ok y =>
      obtain ⟨s', l'⟩ := y
      rw [hx] at h
      cases h
      exact (c_do21 w B R Y s stk false 0 M p n hr hm l hs hbig s' l' hx).mono fun e w' ⟨stk', a1, a2, a3, a4⟩ => ⟨stk', a1, a2, a3, a4.keeps hma (run_mem hr hma), a4.mono fun _ _ h => .inl h⟩
  · rw [if_neg (by decide), if_neg (by decide), if_neg (by decide), if_neg (by decide), if_neg (by decide), if_neg (by decide), if_neg (by decide), if_neg (by unfold jmpR; omega), if_neg (by decide), if_neg (by decide), if_neg (by decide), if_neg (by decide), if_neg (by decide), if_pos (by decide)] at h
    cases h
    exact lift_do hr hs hma (c_do22 w B R Y s stk false 0 M p n hr hm)
set_option maxHeartbeats 1000000 in
theorem c_do_er (w : World) (B R Y : Nat) (s : St) (stk : Value) (M : List Sg) (l : List Fr) (op p n : Int) (h0 : 0 ≤ op) (h1 : op < 23) (hp0 : 0 ≤ p) (hp1 : p < 4) (hr : runAt w R s stk (memV Y) false 0) (hm : MemOk w B Y M) (hs : stkAt w stk l) (hbig : l.length < 140737488355328) (er : Int) (h : doR M s l op p n = .error er) :
    Calls Try.prog 41 #[.pointer (some ⟨R, 0, none⟩), .agg #[.int .i64 op, .int .i64 p, .int .i64 n]] w fun e w' => e = .panicked (flt er) ∧ Below w.heap.size w w' := by
  unfold doR at h
  rcases (show op = 0 ∨ op = 1 ∨ op = 2 ∨ op = 3 ∨ op = 4 ∨ op = 5 ∨ op = 6 ∨ op = 7 ∨ op = 8 ∨ op = 9 ∨ op = 10 ∨ op = 11 ∨ op = 12 ∨ op = 13 ∨ op = 14 ∨ op = 15 ∨ op = 16 ∨ op = 17 ∨ op = 18 ∨ op = 19 ∨ op = 20 ∨ op = 21 ∨ op = 22 by omega) with rfl | rfl | rfl | rfl | rfl | rfl | rfl | rfl | rfl | rfl | rfl | rfl | rfl | rfl | rfl | rfl | rfl | rfl | rfl | rfl | rfl | rfl | rfl
  · rw [if_pos (by decide)] at h
    cases h
  · rw [if_neg (by decide), if_pos (by decide)] at h
    cases hx : rdR M s p n with
    | error e => rw [hx] at h; cases h; exact c_do1_er w B R Y s stk false 0 M p n hr hm hp0 hp1 _ hx
    | ok y => rw [hx] at h; cases h
  · rw [if_neg (by decide), if_neg (by decide), if_neg (by decide), if_pos (by decide)] at h
    cases hx : wrR M s p n with
    | error e => rw [hx] at h; cases h; exact c_do2_er w B R Y s stk false 0 M p n hr hm hp0 hp1 _ hx
    | ok y => rw [hx] at h; cases h
  · rw [if_neg (by decide), if_neg (by decide), if_neg (by decide), if_neg (by decide), if_pos (by decide)] at h
    cases h
  · rw [if_neg (by decide), if_neg (by decide), if_pos (by decide)] at h
    cases hx : rdR M s p n with
    | error e => rw [hx] at h; cases h; exact c_do4_er w B R Y s stk false 0 M p n hr hm hp0 hp1 _ hx
    | ok y => rw [hx] at h; cases h
  · rw [if_neg (by decide), if_neg (by decide), if_pos (by decide)] at h
    cases hx : rdR M s p n with
    | error e => rw [hx] at h; cases h; exact c_do5_er w B R Y s stk false 0 M p n hr hm hp0 hp1 _ hx
    | ok y => rw [hx] at h; cases h
  · rw [if_neg (by decide), if_neg (by decide), if_pos (by decide)] at h
    cases hx : rdR M s p n with
    | error e => rw [hx] at h; cases h; exact c_do6_er w B R Y s stk false 0 M p n hr hm hp0 hp1 _ hx
    | ok y => rw [hx] at h; cases h
  · rw [if_neg (by decide), if_neg (by decide), if_pos (by decide)] at h
    cases hx : rdR M s p n with
    | error e => rw [hx] at h; cases h; exact c_do7_er w B R Y s stk false 0 M p n hr hm hp0 hp1 _ hx
    | ok y => rw [hx] at h; cases h
  · rw [if_neg (by decide), if_neg (by decide), if_pos (by decide)] at h
    cases hx : rdR M s p n with
    | error e => rw [hx] at h; cases h; exact c_do8_er w B R Y s stk false 0 M p n hr hm hp0 hp1 _ hx
    | ok y => rw [hx] at h; cases h
  · rw [if_neg (by decide), if_neg (by decide), if_pos (by decide)] at h
    cases hx : rdR M s p n with
    | error e => rw [hx] at h; cases h; exact c_do9_er w B R Y s stk false 0 M p n hr hm hp0 hp1 _ hx
    | ok y => rw [hx] at h; cases h
  · rw [if_neg (by decide), if_neg (by decide), if_pos (by decide)] at h
    cases hx : rdR M s p n with
    | error e => rw [hx] at h; cases h; exact c_do10_er w B R Y s stk false 0 M p n hr hm hp0 hp1 _ hx
    | ok y => rw [hx] at h; cases h
  · rw [if_neg (by decide), if_neg (by decide), if_pos (by decide)] at h
    cases hx : rdR M s p n with
    | error e => rw [hx] at h; cases h; exact c_do11_er w B R Y s stk false 0 M p n hr hm hp0 hp1 _ hx
    | ok y => rw [hx] at h; cases h
  · rw [if_neg (by decide), if_neg (by decide), if_neg (by decide), if_neg (by decide), if_neg (by decide), if_pos (by decide)] at h
    cases h
  · rw [if_neg (by decide), if_neg (by decide), if_neg (by decide), if_neg (by decide), if_neg (by decide), if_neg (by decide), if_pos (by decide)] at h
    split at h
    · cases h
    · cases h; exact c_do13_er w B R Y s stk false 0 M p n hr hm (by assumption)
  · rw [if_neg (by decide), if_neg (by decide), if_neg (by decide), if_neg (by decide), if_neg (by decide), if_neg (by decide), if_neg (by decide), if_pos (by unfold jmpR; omega)] at h
    cases h
  · rw [if_neg (by decide), if_neg (by decide), if_neg (by decide), if_neg (by decide), if_neg (by decide), if_neg (by decide), if_neg (by decide)] at h
    split at h <;> cases h
  · rw [if_neg (by decide), if_neg (by decide), if_neg (by decide), if_neg (by decide), if_neg (by decide), if_neg (by decide), if_neg (by decide)] at h
    split at h <;> cases h
  · rw [if_neg (by decide), if_neg (by decide), if_neg (by decide), if_neg (by decide), if_neg (by decide), if_neg (by decide), if_neg (by decide), if_neg (by unfold jmpR; omega), if_pos (by decide)] at h
    cases h
  · rw [if_neg (by decide), if_neg (by decide), if_neg (by decide), if_neg (by decide), if_neg (by decide), if_neg (by decide), if_neg (by decide), if_neg (by unfold jmpR; omega), if_neg (by decide), if_pos (by decide)] at h
    cases hx : rdR M s p n with
    | error e => rw [hx] at h; cases h; exact c_do18_er w B R Y s stk false 0 M p n hr hm hp0 hp1 _ hx
    | ok y => rw [hx] at h; cases h
  · rw [if_neg (by decide), if_neg (by decide), if_neg (by decide), if_neg (by decide), if_neg (by decide), if_neg (by decide), if_neg (by decide), if_neg (by unfold jmpR; omega), if_neg (by decide), if_neg (by decide), if_pos (by decide)] at h
    cases h
  · rw [if_neg (by decide), if_neg (by decide), if_neg (by decide), if_neg (by decide), if_neg (by decide), if_neg (by decide), if_neg (by decide), if_neg (by unfold jmpR; omega), if_neg (by decide), if_neg (by decide), if_neg (by decide), if_pos (by decide)] at h
    cases hx : caR M s l p n with
    | error e => rw [hx] at h; cases h; exact c_do20_er w B R Y s stk false 0 M p n hr hm hp0 hp1 l hs _ hx
    | ok y => rw [hx] at h; cases h
  · rw [if_neg (by decide), if_neg (by decide), if_neg (by decide), if_neg (by decide), if_neg (by decide), if_neg (by decide), if_neg (by decide), if_neg (by unfold jmpR; omega), if_neg (by decide), if_neg (by decide), if_neg (by decide), if_neg (by decide), if_pos (by decide)] at h
    cases hx : reR s l with
    | error e => rw [hx] at h; cases h; exact c_do21_er w B R Y s stk false 0 M p n hr hm l hs hbig _ hx
    | ok y => rw [hx] at h; cases h
  · rw [if_neg (by decide), if_neg (by decide), if_neg (by decide), if_neg (by decide), if_neg (by decide), if_neg (by decide), if_neg (by decide), if_neg (by unfold jmpR; omega), if_neg (by decide), if_neg (by decide), if_neg (by decide), if_neg (by decide), if_neg (by decide), if_pos (by decide)] at h
    cases h
end Go.Proofs.Ytiakonmamkfopaa
