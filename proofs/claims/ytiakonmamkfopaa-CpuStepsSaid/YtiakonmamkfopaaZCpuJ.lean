/- The processor's run: jumps, sums. -/
import Derived.Test.YtiakonmamkfopaaZCpuH
namespace Go.Proofs.Ytiakonmamkfopaa
open Go.RowKit Go.ChangeShapes
set_option linter.unusedVariables false
set_option maxRecDepth 100000
theorem c_jumps14 (w : World) (R : Nat) (s : St) (stk mv : Value) (told : Bool) (out : Int) (hr : runAt w R s stk mv told out) :
    Calls Try.prog 60 #[.pointer (some ⟨R, 0, none⟩), .int .i64 14] w fun e w' => e = .returned (.bool true) ∧ w' = w := by
  go_enter Try.func60, Try.ntmps60
  go_wp2
  go_ret
  exact ⟨rfl, rfl⟩
theorem c_jumps15 (w : World) (R : Nat) (s : St) (stk mv : Value) (told : Bool) (out : Int) (hr : runAt w R s stk mv told out) :
    Calls Try.prog 60 #[.pointer (some ⟨R, 0, none⟩), .int .i64 15] w fun e w' => e = .returned (.bool (s.a == 0)) ∧ w' = w := by
  have r3 : w.cell? ⟨R, 3, none⟩ = some (.int .i64 s.a) := hr.cell 3
  clear hr
  go_enter Try.func60, Try.ntmps60
  cases h : s.a == 0
  all_goals
    go_wp2
    go_ret
    exact ⟨rfl, rfl⟩
theorem c_jumps16 (w : World) (R : Nat) (s : St) (stk mv : Value) (told : Bool) (out : Int) (hr : runAt w R s stk mv told out) :
    Calls Try.prog 60 #[.pointer (some ⟨R, 0, none⟩), .int .i64 16] w fun e w' => e = .returned (.bool (decide (s.a < 0))) ∧ w' = w := by
  have r3 : w.cell? ⟨R, 3, none⟩ = some (.int .i64 s.a) := hr.cell 3
  clear hr
  go_enter Try.func60, Try.ntmps60
  go_wp2
  go_ret
  exact ⟨rfl, rfl⟩
/-- the entries of sums' map -/
def sumsE : Array MapEntry := #[{ key := .int .i64 4, val := (.func (.func 87) #[] #[]), born := 0 }, { key := .int .i64 5, val := (.func (.func 88) #[] #[]), born := 1 }, { key := .int .i64 6, val := (.func (.func 89) #[] #[]), born := 2 }, { key := .int .i64 7, val := (.func (.func 90) #[] #[]), born := 3 }, { key := .int .i64 8, val := (.func (.func 91) #[] #[]), born := 4 }, { key := .int .i64 9, val := (.func (.func 92) #[] #[]), born := 5 }, { key := .int .i64 10, val := (.func (.func 93) #[] #[]), born := 6 }, { key := .int .i64 11, val := (.func (.func 94) #[] #[]), born := 7 }]
theorem A.sumsU : Try.prog.underlying 123 = some (.map 3 70) := by kernel_rfl
theorem A.intU : Try.prog.underlying 3 = some (.int .i64) := by kernel_rfl
theorem map_ins (w : World) (es : Array MapEntry) (c : Nat) (k : Int) (v : Value) (hf : Instr.findNow (.int .i64) (.int .i64 k) es.toList 0 = some none) :
    (Instr.mapUpdate 123 (.map (some w.heap.size)) (.int .i64 k) v).run Try.prog (w.alloc (.map es c)) = .ok () (w.alloc (.map (es.push { key := .int .i64 k, val := v, born := c }) (c + 1))) := by
  have hb : (w.alloc (.map es c)).heap[w.heap.size]? = some (.map es c) := heap_alloc_new w _
  have hc : (Instr.checkKey false 10000 3 (.int .i64 k)).run Try.prog (w.alloc (.map es c)) = .ok () (w.alloc (.map es c)) := MapKept.run_checkKey (k := .int .i64 k) A.intU (by simp [MapKept.IsKey]) false 9999
  have hs : ({ (w.alloc (.map es c)) with heap := (w.alloc (.map es c)).heap.setIfInBounds w.heap.size (.map (es.push { key := .int .i64 k, val := v, born := c }) (c + 1)) } : World) = w.alloc (.map (es.push { key := .int .i64 k, val := v, born := c }) (c + 1)) := by
    have h2 : (w.heap.push (.map es c)).setIfInBounds w.heap.size (.map (es.push { key := .int .i64 k, val := v, born := c }) (c + 1)) = w.heap.push (.map (es.push { key := .int .i64 k, val := v, born := c }) (c + 1)) := by
      refine Array.ext_getElem? fun i => ?_
      rw [Array.getElem?_setIfInBounds, Array.getElem?_push, Array.getElem?_push, Array.size_push]
      by_cases hi : i = w.heap.size
      · subst hi; simp
      · rw [if_neg (fun h => hi h.symm), if_neg hi, if_neg hi]
    unfold World.alloc
    simp only [h2]
  simp [Instr.mapUpdate, run_underlying A.sumsU, MapKept.run_getObj_map hb, hc, MapKept.run_findKey A.intU hf, MapKept.run_setObj_map _ hb, Result.andThen]
  exact hs
theorem map_look (w : World) (r : Nat) (es : Array MapEntry) (c : Nat) (k : Int) (i : Nat) (v : Value) (hb : w.heap[r]? = some (.map es c)) (he : es.isEmpty = false) (hf : Instr.findNow (.int .i64) (.int .i64 k) es.toList 0 = some (some (i, v))) :
    (Instr.lookup 123 (.map (some r)) (.int .i64 k) false).run Try.prog w = .ok v w := by
  have hc : (Instr.checkKey es.isEmpty 10000 3 (.int .i64 k)).run Try.prog w = .ok () w := MapKept.run_checkKey (k := .int .i64 k) A.intU (by simp [MapKept.IsKey]) _ 9999
  simp [Instr.lookup, run_underlying A.sumsU, MapKept.run_getObj_map hb, hc, MapKept.run_findKey A.intU hf, Result.andThen]
theorem c_sums (w : World) :
    Calls Try.prog 66 #[] w fun e w' => e = .returned (.map (some w.heap.size)) ∧ w' = w.alloc (.map sumsE 8) := by
  have hmm := @run_makeMap Try.prog
  have e0 := map_ins w #[] 0 4 (.func (.func 87) #[] #[]) (by rfl)
  have e1 := map_ins w #[{ key := .int .i64 4, val := (.func (.func 87) #[] #[]), born := 0 }] 1 5 (.func (.func 88) #[] #[]) (by rfl)
  have e2 := map_ins w #[{ key := .int .i64 4, val := (.func (.func 87) #[] #[]), born := 0 }, { key := .int .i64 5, val := (.func (.func 88) #[] #[]), born := 1 }] 2 6 (.func (.func 89) #[] #[]) (by rfl)
  have e3 := map_ins w #[{ key := .int .i64 4, val := (.func (.func 87) #[] #[]), born := 0 }, { key := .int .i64 5, val := (.func (.func 88) #[] #[]), born := 1 }, { key := .int .i64 6, val := (.func (.func 89) #[] #[]), born := 2 }] 3 7 (.func (.func 90) #[] #[]) (by rfl)
  have e4 := map_ins w #[{ key := .int .i64 4, val := (.func (.func 87) #[] #[]), born := 0 }, { key := .int .i64 5, val := (.func (.func 88) #[] #[]), born := 1 }, { key := .int .i64 6, val := (.func (.func 89) #[] #[]), born := 2 }, { key := .int .i64 7, val := (.func (.func 90) #[] #[]), born := 3 }] 4 8 (.func (.func 91) #[] #[]) (by rfl)
  have e5 := map_ins w #[{ key := .int .i64 4, val := (.func (.func 87) #[] #[]), born := 0 }, { key := .int .i64 5, val := (.func (.func 88) #[] #[]), born := 1 }, { key := .int .i64 6, val := (.func (.func 89) #[] #[]), born := 2 }, { key := .int .i64 7, val := (.func (.func 90) #[] #[]), born := 3 }, { key := .int .i64 8, val := (.func (.func 91) #[] #[]), born := 4 }] 5 9 (.func (.func 92) #[] #[]) (by rfl)
  have e6 := map_ins w #[{ key := .int .i64 4, val := (.func (.func 87) #[] #[]), born := 0 }, { key := .int .i64 5, val := (.func (.func 88) #[] #[]), born := 1 }, { key := .int .i64 6, val := (.func (.func 89) #[] #[]), born := 2 }, { key := .int .i64 7, val := (.func (.func 90) #[] #[]), born := 3 }, { key := .int .i64 8, val := (.func (.func 91) #[] #[]), born := 4 }, { key := .int .i64 9, val := (.func (.func 92) #[] #[]), born := 5 }] 6 10 (.func (.func 93) #[] #[]) (by rfl)
  have e7 := map_ins w #[{ key := .int .i64 4, val := (.func (.func 87) #[] #[]), born := 0 }, { key := .int .i64 5, val := (.func (.func 88) #[] #[]), born := 1 }, { key := .int .i64 6, val := (.func (.func 89) #[] #[]), born := 2 }, { key := .int .i64 7, val := (.func (.func 90) #[] #[]), born := 3 }, { key := .int .i64 8, val := (.func (.func 91) #[] #[]), born := 4 }, { key := .int .i64 9, val := (.func (.func 92) #[] #[]), born := 5 }, { key := .int .i64 10, val := (.func (.func 93) #[] #[]), born := 6 }] 7 11 (.func (.func 94) #[] #[]) (by rfl)
  simp only [List.push_toArray, List.nil_append, List.cons_append, Nat.zero_add, Nat.reduceAdd] at e0 e1 e2 e3 e4 e5 e6 e7
  go_enter Try.func66, Try.ntmps66
  go_wp2
  go_ret
  exact ⟨rfl, rfl⟩
end Go.Proofs.Ytiakonmamkfopaa
