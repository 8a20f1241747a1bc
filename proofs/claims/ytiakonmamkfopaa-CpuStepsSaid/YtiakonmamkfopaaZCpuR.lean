/- The callers are copied; what a step makes. -/
import Derived.Test.YtiakonmamkfopaaZCpuQ
import Derived.Test.YtiakonmamkfopaaZCpuP
import Derived.Laws.AppendOwn
namespace Go.Proofs.Ytiakonmamkfopaa
open Go.RowKit Go.ChangeShapes
set_option linter.unusedVariables false
set_option maxRecDepth 100000
theorem feR_range {M : List Sg} {s : St} {op p n : Int} (h : feR M s = .ok (op, p, n)) : 0 ≤ op ∧ op < 23 ∧ 0 ≤ p ∧ p < 4 := by
  unfold feR at h
  split at h
  · cases h
  · split at h
    · cases h
    · split at h
      · cases h
      · simp only at h
        rename_i g _ _ _
        generalize g.ws.getD s.off.toNat 0 = x at h
        split at h
        · rename_i hd
          cases h
          have hu := uw_lt x
          unfold decE at hd
          split at hd
          · cases hd
          · split at hd
            · cases hd
            · have h1 : 0 ≤ dOp x := Int.ediv_nonneg hu.1 (by decide)
              have h2 : 0 ≤ dP x := Int.emod_nonneg _ (by decide)
              exact ⟨h1, by omega, h2, by omega⟩
        · cases h
theorem frC_one : ∀ (l : List Fr) (u : Value), u ∈ frC l → u.oneCell' = true
  | f :: l, u, h => by
    simp only [frC, List.mem_cons] at h
    rcases h with rfl | rfl | rfl | h
    · rfl
    · rfl
    · rfl
    · exact frC_one l u h
/-- a step -/
def stR (M : List Sg) (s : St) (l : List Fr) : Except Int Res :=
  if s.hal then .ok ⟨s, l, false, 0, none⟩ else match feR M s with
    | .error e => .error e
    | .ok (op, p, n) => doR M { s with off := s.off + 1 } l op p n
theorem A.sliceEq (a : Addr) (n cap : Nat) (w : World) : (binOp .eql 26 (.slice (some a) n cap) (.slice none 0 0)).run Try.prog w = .ok (.bool false) w := by kernel_rfl
theorem A.sliceEq0 (w : World) : (binOp .eql 26 (.slice none 0 0) (.slice none 0 0)).run Try.prog w = .ok (.bool true) w := by kernel_rfl
theorem c_Clone (w : World) (v : Value) (l : List Fr) (hs : stkAt w v l) (hbig : l.length < 1000000) :
    Calls Try.prog 39 #[v] w fun e w' => ∃ v', e = .returned v' ∧ stkAt w' v' l ∧ Below w.heap.size w w' ∧ ∃ ad c, v' = .slice ad l.length c := by
  obtain ⟨ad, cap, hv, h0, h1⟩ := row_shape hs
  subst hv
  cases ad with
  | none =>
    obtain ⟨hn, rfl⟩ := h0 rfl
    obtain rfl : l = [] := List.length_eq_zero_iff.1 hn
    have he := A.sliceEq0
    go_enter Try.func39, Try.ntmps39
    go_wp2
    go_ret
    exact ⟨_, rfl, hs, Below.refl _ _, none, 0, rfl⟩
  | some a =>
    obtain ⟨g, rfl⟩ := h1 a rfl
    have he := A.sliceEq ⟨g, 0, none⟩ l.length cap
    obtain ⟨i0, hin, hz0, hz1, hz2⟩ := info_parts A.infoF
    have own0 : Hid ((w.alloc (.cells #[] 79)).ownsRow 0 79 3 (.slice (some ⟨w.heap.size, 0, none⟩) 0 0) 0 []) := by
      have h := World.ownsRow_made (base := 0) (size := 3) (e := 79) w #[] 0 (by simp) (by decide) (by simp)
      have h' : (w.alloc (.cells #[] 79)).ownsRow 0 79 3 (.slice (some ⟨w.heap.size, 0, none⟩) 0 0) 0 [] := by simpa using h
      exact h'
    have HS := Lib.hid hs
    have HB := Lib.hid hbig
    have HA := Lib.hid (below_al0 w (.cells #[] 79))
    clear hs h0 h1 hbig
    go_enter Try.func39, Try.ntmps39
    go_wp2_with (first | (at_builtin; refine wpList_append_own _ rfl (.tmp 5) (.tmp 6) 26 rfl 0 79 i0 _ 3 24 A.underF hin hz0 hz1 hz2 rfl (by decide) _ 0 [] rfl own0.out ⟨g, 0, none⟩ l.length cap (frC l) rfl (frC_length l) (row_cells (Off.row (ex := fun _ => False) (.of_below HA.out) HS.out (fun _ h => h.elim)) _ rfl) (by intro u hu; exact frC_one l u hu) (by have := HB.out; unfold maxLen; omega) (by have := HB.out; omega) (Nat.zero_le _) ?_; intro v' w4 hown hgrow hnil; rw [Nat.zero_add, List.nil_append] at hown; obtain ⟨ad', cap', hv', _, _⟩ := row_shape hown; subst hv'))
    go_ret
    refine ⟨_, rfl, hown, ?_, _, _, rfl⟩
    exact (below_al0 w _).grown hgrow (by simp) (fun k hk => by have := Option.some.inj hk; simp at this; omega)
end Go.Proofs.Ytiakonmamkfopaa
