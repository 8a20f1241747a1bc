/- holds, done. -/
import Derived.Test.YtpdjenkacefpjaaWv
import Derived.Deep.MidRow
namespace Go.Proofs.Ytpdjenkacefpjaa
open Go.RowKit Go.ChangeShapes
set_option linter.unusedVariables false
set_option maxRecDepth 100000

def stC (ss : List Sec) : Array Value := (ss.map fun s => Value.string ⟨s.toArray⟩).toArray
theorem stC_size (ss : List Sec) : (stC ss).size = ss.length := by unfold stC; simp
theorem stC_one (ss : List Sec) : (stC ss).all (·.oneCell') = true := by
  unfold stC
  simp [Value.oneCell']
def StAt (w : World) (N : Nat) (ss : List Sec) : Prop := w.heap[N]? = some (.cells (stC ss) 34 (0, 0))
theorem StAt.cell {w : World} {N : Nat} {ss : List Sec} (h : StAt w N ss) {k : Nat} {s : Sec} (hk : ss[k]? = some s) : w.cell? ⟨N, k, none⟩ = some (.string ⟨s.toArray⟩) := by
  rw [cell_of_row w N k _ _ _ h]
  unfold stC
  simp [hk]
theorem StAt.free {w : World} {N : Nat} {ss : List Sec} (h : StAt w N ss) (j : Nat) : w.frozen? ⟨N, j, none⟩ = false := by
  unfold StAt at h
  simp [World.frozen?, h]
/-- what a state wants in a sector -/
def want (s : Sec) : Sec := if s = [] then zeros else s
theorem ba_ext {a b : Sec} (h : (⟨a.toArray⟩ : ByteArray) = ⟨b.toArray⟩) : a = b := by
  have := congrArg (fun x => x.data.toList) h
  simpa using this
/-- what holds tells -/
structure HoldsIs (σ : Int → Sec) (ss : List Sec) (b : Bool) : Prop where
  is : b = true ↔ ∀ (k : Nat) (s : Sec), ss[k]? = some s → want s = σ (42 + (k : Int))
def HoldsE (σ : Int → Sec) (ss : List Sec) (e : Ending) : Prop := ∃ b : Bool, e = .returned (.bool b) ∧ HoldsIs σ ss b
set_option maxHeartbeats 4000000 in
theorem c_holds {N : Int} {q : Nat} {σ : Int → Sec} {w0 w : World} {F : Nat → Prop} {L B : Nat} {d : Dk} (S : Sys N q σ w0 w F L B d) (h1 : 60 ≤ N) (h2 : N ≤ 4096) (ss : List Sec) (hl : ss.length = 18) : Calls Try.prog 16 #[.pointer (some ⟨L, 0, none⟩), .agg (stC ss)] w fun e w' => HoldsE σ ss e ∧ Below w.heap.size w w' := by
  have hmk := A.mk128
  have S0 := Lib.hid S
  have H1 := Lib.hid (And.intro h1 h2)
  have HL := Lib.hid hl
  clear S h1 h2 hl
  go_enter Try.func16, Try.ntmps16
  go_wp2_with fail
  obtain ⟨W, hW, T0, B0⟩ : ∃ W, w.alloc (.cells (stC ss) 34) = W ∧ Hid (StAt W w.heap.size ss) ∧ Hid (Below w.heap.size w W) := ⟨_, rfl, Lib.hid (heap_alloc_new w _), Lib.hid (below_al0 _ _)⟩
  rw [hW]
  clear hW
  have R0 : Hid (∀ (j : Nat) (s : Sec), j < 0 → ss[j]? = some s → want s = σ (42 + (j : Int))) := Lib.hid (fun j s h => by omega)
  go_loopw [5] (fun kv wr => ∃ k : Nat, kv = .int .i64 k ∧ k ≤ 18 ∧ Hid (StAt wr w.heap.size ss) ∧ Hid (Below w.heap.size w wr) ∧ Hid (∀ (j : Nat) (s : Sec), j < k → ss[j]? = some s → want s = σ (42 + (j : Int)))) (fun kv _ => 18 - (intOf kv).toNat)
  case atStart => exact ⟨0, rfl, by omega, T0, B0, R0⟩
  case round =>
    clear T0 B0 R0
    obtain ⟨k, rfl, hk, T, HB, HR⟩ := hrel
    by_cases hlt : k < 18
    · have hlt' : (k : Int) < 18 := by omega
      obtain ⟨s, hs⟩ : ∃ s, ss[k]? = some s := ⟨_, List.getElem?_eq_getElem (by rw [HL.out]; exact hlt)⟩
      have hsk := Lib.hid hs
      clear hs
      have hza : IntKind.i64.wrap (42 + (k : Int)) = 42 + (k : Int) := IntWalk.i64_in _ (by omega)
      have hlen : Hid ((σ (42 + (k : Int))).length = 128) := Lib.hid (by rw [← S0.out.lg.at_ (by omega)]; exact S0.out.lg.ok.atLen _)
      go_upto_region 6 with (first
        | (go_at_call 18; refine (s_read (S0.out.below HB.out) (42 + (k : Int)) (by omega) (by have := H1.out; omega) H1.out.2).mono ?_; rintro e w3 ⟨g3, c3, rfl, hr3, hb3⟩; have B3 := Lib.hid (below2 HB.out hb3); have T3 : Hid (StAt w3 w.heap.size ss) := Lib.hid ((Off.of_below (ex := fun _ => False) hb3).keeps T.out (fun h => h)); have c3s := T3.out.cell hsk.out; replace hr3 := Lib.hid hr3; clear hb3))
      obtain ⟨X, hX⟩ : ∃ X, σ (42 + (k : Int)) = X := ⟨_, rfl⟩
      rw [hX] at hlen hr3
      have hXh := Lib.hid hX
      clear hX
      have hbad : ∀ w' : World, Below w.heap.size w w' → want s ≠ X → (HoldsE σ ss (.returned (.bool false)) ∧ Below w.heap.size w w') := fun w' hb hne => ⟨⟨false, rfl, ⟨⟨fun h => (by cases h), fun h => absurd ((h k s hsk.out).trans hXh.out) hne⟩⟩⟩, hb⟩
      have hgood : want s = X → Hid (∀ (j : Nat) (s : Sec), j < k + 1 → ss[j]? = some s → want s = σ (42 + (j : Int))) := fun he => Lib.hid (fun j s' hj hs' => by
        rcases Nat.lt_or_ge j k with h | h
        · exact HR.out j s' h hs'
        · obtain rfl : j = k := by omega
          rw [hsk.out] at hs'
          cases hs'
          rw [hXh.out]
          exact he)
      replace hbad := Lib.hid hbad
      replace hgood := Lib.hid hgood
      by_cases hemp : s = []
      · subst hemp
        have hw0 : want [] = zeros := by unfold want; rw [if_pos rfl]
        have BZ := below_al0 w3 (.cells (bys zeros).toArray 5)
        have hz1 := str_at (row_bt (FillR.done (a := zeros) (by have := FillR.start (w := w3) zeros; unfold FillR at this ⊢; rw [torn_self] at this ⊢; exact this) zeros_len zeros_len) zeros_len)
        have hz2 := str_at (row_bt (Off.rowAt (.of_below (ex := fun _ => False) BZ) hr3.out (fun h => h)) hlen.out)
        have TZ : Hid (StAt (w3.alloc (.cells (bys zeros).toArray 5)) w.heap.size ss) := Lib.hid ((Off.of_below (ex := fun _ => False) BZ).keeps T3.out (fun h => h))
        have B4 := Lib.hid (below2 B3.out BZ)
        clear BZ
        by_cases he : X = zeros
        · subst he
          have hg := hgood.out hw0
          go_wp2_with fail
          clear hza c3s hz1 hz2 hw0
          go_roundw
          case rel => exact ⟨k + 1, by go_num, by omega, TZ, B4, hg⟩
          case measure => simp [intOf]; omega
        · have hne : want [] ≠ X := fun h => he (by rw [← h, hw0])
          have HNE := Lib.hid hne
          have hxe : (X == zeros) = false := beq_eq_false_iff_ne.2 he
          clear hne hw0
          go_wp2_with fail
          go_ret
          exact hbad.out _ B4.out HNE.out
      · have hs1 := str_at (row_bt hr3.out hlen.out)
        have hie : List.isEmpty s = false := by cases s with | nil => exact absurd rfl hemp | cons a b => rfl
        have hw1 : want s = s := by unfold want; rw [if_neg hemp]
        replace hemp := Lib.hid hemp
        by_cases he : X = s
        · subst he
          have hg := hgood.out hw1
          go_wp2_with fail
          clear hza c3s hs1 hw1 hie
          go_roundw
          case rel => exact ⟨k + 1, by go_num, by omega, T3, B3, hg⟩
          case measure => simp [intOf]; omega
        · have HNE : Hid (want s ≠ X) := Lib.hid (fun h => he (by rw [← h, hw1]))
          have hxe : (X == s) = false := beq_eq_false_iff_ne.2 he
          clear hw1
          go_wp2_with fail
          go_ret
          exact hbad.out _ B3.out HNE.out
    · have hlt' : ¬ (k : Int) < 18 := by omega
      obtain rfl : k = 18 := by omega
      go_wp2_with fail
      go_ret
      exact ⟨⟨true, rfl, ⟨⟨fun _ j s hs => HR.out j s (by have := (List.getElem?_eq_some_iff.1 hs).1; have := HL.out; omega) hs, fun _ => rfl⟩⟩⟩, HB.out⟩
end Go.Proofs.Ytpdjenkacefpjaa
