/- CpuRings: what a step does to rings. The document's decoding; what a step does to rings. A memory in which a word is written. A segment is asked for, whether there is one or none. Pieces of CpuRings' code. A region of CpuRings by itself: what was written may be written. -/
import Derived.Test.YtiakonmamkfopaaZCpuMc
import Derived.Deep.QuietTactic
import Derived.BigQuiet
namespace Go.Proofs.Ytiakonmamkfopaa
open Go.RowKit Go.ChangeShapes
set_option linter.unusedVariables false
set_option maxRecDepth 100000
/-- what an instruction does to rings, and where it writes -/
structure RFt (M : List Sg) (s : St) (op p : Int) (r : Res) : Prop where
  fall : r.s.ring < s.ring → op = 20 ∧ ∃ tg, seg? M r.s.seg = some tg ∧ r.s.ring = tg.r2 ∧ s.ring ≤ tg.r3 ∧ r.s.off < tg.g
  rise : s.ring < r.s.ring → op = 20 ∨ op = 21
  ptc : op = 20 → ∀ j, j < 4 → s.ring ≤ (r.s.pt j).ring
  ptr : op = 21 → ∀ j, j < 4 → r.s.ring ≤ (r.s.pt j).ring
  pto : op ≠ 17 → op ≠ 18 → ∀ j, j < 4 → (s.pt j).ring ≤ (r.s.pt j).ring
  pts : op = 17 ∨ op = 18 → s.ring ≤ (r.s.pt p.toNat).ring
  ptn : op = 17 ∨ op = 18 → ∀ j, j < 4 → j ≠ p.toNat → (r.s.pt j).ring = (s.pt j).ring
  sto : ∀ k o x, r.st = some (k, o, x) → op = 2 ∧ k = (s.pt p.toNat).seg ∧ x = s.a ∧ ∃ g, seg? M k = some g ∧ max (s.pt p.toNat).ring s.ring ≤ g.r1 ∧ g.has 2 = true ∧ 0 ≤ o ∧ o < g.ws.length
theorem rf_same {M : List Sg} {s : St} {op p : Int} {r : Res} (h1 : r.s.ring = s.ring) (h2 : ∀ j, j < 4 → (r.s.pt j) = (s.pt j)) (h3 : r.st = none) (h4 : op ≠ 20 ∧ op ≠ 21) (h5 : op ≠ 17 ∧ op ≠ 18) : RFt M s op p r :=
  ⟨fun h => by omega, fun h => by omega, fun h => absurd h h4.1, fun h => absurd h h4.2, fun _ _ j hj => by rw [h2 j hj]; exact Int.le_refl _, fun h => by rcases h with h | h; exact absurd h h5.1; exact absurd h h5.2, fun h => by rcases h with h | h; exact absurd h h5.1; exact absurd h h5.2, fun k o x h => by rw [h3] at h; cases h⟩
theorem setP_pt (s : St) (k : Nat) (q : Pt) (hk : k < 4) (j : Nat) (hj : j < 4) : (s.setP k q).pt j = if j = k then q else s.pt j := by
  rcases (show k = 0 ∨ k = 1 ∨ k = 2 ∨ k = 3 by omega) with rfl | rfl | rfl | rfl <;> rcases (show j = 0 ∨ j = 1 ∨ j = 2 ∨ j = 3 by omega) with rfl | rfl | rfl | rfl <;> rfl
theorem setP_ring (s : St) (k : Nat) (q : Pt) : (s.setP k q).ring = s.ring := by
  match k with
  | 0 => rfl
  | 1 => rfl
  | 2 => rfl
  | (_ + 3) => rfl
theorem rf_set {M : List Sg} {s : St} {l : List Fr} {op p : Int} {q : Pt} (h0 : 0 ≤ p) (h1 : p < 4) (ho : op = 17 ∨ op = 18) (hq : s.ring ≤ q.ring) : RFt M s op p ⟨s.setP p.toNat q, l, false, 0, none⟩ := by
  have hk : p.toNat < 4 := by omega
  have hr : (s.setP p.toNat q).ring = s.ring := setP_ring _ _ _
  refine ⟨fun h => ?_, fun h => ?_, fun h => by omega, fun h => by omega, fun h2 h3 => by omega, fun _ => ?_, fun _ j hj hne => ?_, fun k o x h => by cases h⟩
  · have h' : (s.setP p.toNat q).ring < s.ring := h
    omega
  · have h' : s.ring < (s.setP p.toNat q).ring := h
    omega
  · show s.ring ≤ ((s.setP p.toNat q).pt p.toNat).ring
    rw [setP_pt s _ q hk _ hk, if_pos rfl]
    exact hq
  · show ((s.setP p.toNat q).pt j).ring = _
    rw [setP_pt s _ q hk _ hj, if_neg hne]
theorem rf_store {M : List Sg} {s : St} {l : List Fr} {op p n k o : Int} (ho : op = 2) (h : wrR M s p n = .ok (k, o)) : RFt M s op p ⟨s, l, false, 0, some (k, o, s.a)⟩ := by
  refine ⟨fun h => absurd h (Int.lt_irrefl _), fun h => absurd h (Int.lt_irrefl _), fun h => by omega, fun h => by omega, fun _ _ j _ => Int.le_refl _, fun h => by omega, fun h => by omega, fun k' o' x' he => ?_⟩
  cases he
  unfold wrR at h
  split at h
  · cases h
  · rename_i g hg
    split at h
    · cases h
    · rename_i hq
      rw [Bool.not_eq_false, Bool.and_eq_true] at hq
      split at h
      · rename_i hi
        cases h
        have hm := of_decide_eq_true hq.2
        exact ⟨ho, rfl, rfl, g, hg, hm.2.2, hq.1, hi.1, hi.2⟩
      · cases h
theorem raise_pt (s : St) (b : Int) (j : Nat) (hj : j < 4) : ((s.raise b).pt j).ring = max b (s.pt j).ring := by
  rcases (show j = 0 ∨ j = 1 ∨ j = 2 ∨ j = 3 by omega) with rfl | rfl | rfl | rfl <;> rfl
theorem rf_call {M : List Sg} {s s' : St} {l l' : List Fr} {op p n : Int} (ho : op = 20) (h : caR M s l p n = .ok (s', l')) : RFt M s op p ⟨s', l', false, 0, none⟩ := by
  unfold caR at h
  split at h
  · cases h
  · rename_i g hg
    split at h
    · cases h
    · split at h
      · cases h
      · rename_i hE
        rw [ne_eq, Decidable.not_not] at hE
        split at h
        · cases h
        · split at h
          · cases h
          · cases h
            have hb : s.eb p = max (s.pt p.toNat).ring s.ring := rfl
            have hpt : ∀ j, j < 4 → ((s.raise s.ring).pt j).ring = max s.ring (s.pt j).ring := fun j hj => raise_pt s s.ring j hj
            refine ⟨fun hf => ⟨ho, g, hg, ?_⟩, fun _ => .inl ho, fun _ j hj => ?_, fun h => by omega, fun _ _ j hj => ?_, fun h => by omega, fun h => by omega, fun k o x h => by cases h⟩
            · have hf' : callTo g.r1 g.r2 g.r3 g.g (s.eo p n) (s.eb p) < s.ring := hf
              show callTo g.r1 g.r2 g.r3 g.g (s.eo p n) (s.eb p) = g.r2 ∧ _
              unfold callE at hE
              unfold callTo at hf' ⊢
              split at hE
              · cases hE
              · rename_i hx
                rw [if_neg hx] at hf' ⊢
                split at hE
                · rename_i hy
                  rw [if_pos hy] at hf'
                  omega
                · rename_i hy
                  rw [if_neg hy] at hf' ⊢
                  split at hE
                  · rename_i hz
                    rw [if_pos hz] at hf'
                    omega
                  · rename_i hz
                    rw [if_neg hz] at hf' ⊢
                    split at hE
                    · cases hE
                    · rename_i hw
                      rw [if_neg hw]
                      exact ⟨rfl, by omega, by show s.eo p n < g.g; omega⟩
            · show s.ring ≤ ((s.raise s.ring).pt j).ring
              rw [hpt j hj]
              omega
            · show (s.pt j).ring ≤ ((s.raise s.ring).pt j).ring
              rw [hpt j hj]
              omega
theorem rf_ret {M : List Sg} {s s' : St} {l l' : List Fr} {op p : Int} (ho : op = 21) (h : reR s l = .ok (s', l')) : RFt M s op p ⟨s', l', false, 0, none⟩ := by
  unfold reR at h
  split at h
  · cases h
  · rename_i f hf
    split at h
    · cases h
    · rename_i hq
      cases h
      have hpt : ∀ j, j < 4 → ((St.raise { s with seg := f.seg, off := f.off, ring := f.ring } f.ring).pt j).ring = max f.ring (s.pt j).ring := fun j hj => raise_pt { s with seg := f.seg, off := f.off, ring := f.ring } f.ring j hj
      refine ⟨fun h => ?_, fun _ => .inr ho, fun h => by omega, fun _ j hj => ?_, fun _ _ j hj => ?_, fun h => by omega, fun h => by omega, fun k o x h => by cases h⟩
      · have h' : f.ring < s.ring := h
        omega
      · show f.ring ≤ ((St.raise { s with seg := f.seg, off := f.off, ring := f.ring } f.ring).pt j).ring
        rw [hpt j hj]
        omega
      · show (s.pt j).ring ≤ ((St.raise { s with seg := f.seg, off := f.off, ring := f.ring } f.ring).pt j).ring
        rw [hpt j hj]
        omega
theorem doR_rf {M : List Sg} {s : St} {l : List Fr} {op p n : Int} {r : Res} (hp0 : 0 ≤ p) (hp1 : p < 4) (h : doR M s l op p n = .ok r) : RFt M s op p r := by
  unfold doR at h
  by_cases c0 : op = 0
  · rw [if_pos c0] at h
    cases h
    exact rf_same rfl (fun j _ => rfl) rfl ⟨by omega, by omega⟩ ⟨by omega, by omega⟩
  rw [if_neg c0] at h
  by_cases c1 : op = 1
  · rw [if_pos c1] at h
    cases hq : rdR M s p n with
    | error e' =>
      rw [hq] at h
      cases h
    | ok y =>
      obtain ⟨y1, y2⟩ := y
      rw [hq] at h
      cases h
      exact rf_same rfl (fun j _ => rfl) rfl ⟨by omega, by omega⟩ ⟨by omega, by omega⟩
  rw [if_neg c1] at h
  by_cases c2 : 4 ≤ op ∧ op ≤ 11
  · rw [if_pos c2] at h
    cases hq : rdR M s p n with
    | error e' =>
      rw [hq] at h
      cases h
    | ok y =>
      obtain ⟨y1, y2⟩ := y
      rw [hq] at h
      cases h
      exact rf_same rfl (fun j _ => rfl) rfl ⟨by omega, by omega⟩ ⟨by omega, by omega⟩
  rw [if_neg c2] at h
  by_cases c3 : op = 2
  · rw [if_pos c3] at h
    cases hq : wrR M s p n with
    | error e' =>
      rw [hq] at h
      cases h
    | ok y =>
      obtain ⟨y1, y2⟩ := y
      rw [hq] at h
      cases h
      exact rf_store c3 hq
  rw [if_neg c3] at h
  by_cases c4 : op = 3
  · rw [if_pos c4] at h
    cases h
    exact rf_same rfl (fun j _ => rfl) rfl ⟨by omega, by omega⟩ ⟨by omega, by omega⟩
  rw [if_neg c4] at h
  by_cases c5 : op = 12
  · rw [if_pos c5] at h
    cases h
    exact rf_same rfl (fun j _ => rfl) rfl ⟨by omega, by omega⟩ ⟨by omega, by omega⟩
  rw [if_neg c5] at h
  by_cases c6 : op = 13
  · rw [if_pos c6] at h
    by_cases cf : toIntE s.a = 0
    · rw [if_pos cf] at h
      cases h
      exact rf_same rfl (fun j _ => rfl) rfl ⟨by omega, by omega⟩ ⟨by omega, by omega⟩
    · rw [if_neg cf] at h
      cases h
  rw [if_neg c6] at h
  by_cases c7 : jmpR op s.a
  · rw [if_pos c7] at h
    cases h
    exact rf_same rfl (fun j _ => rfl) rfl ⟨by unfold jmpR at c7; omega, by unfold jmpR at c7; omega⟩ ⟨by unfold jmpR at c7; omega, by unfold jmpR at c7; omega⟩
  rw [if_neg c7] at h
  by_cases c8 : op = 17
  · rw [if_pos c8] at h
    cases h
    exact rf_set hp0 hp1 (.inl c8) (by show s.ring ≤ max s.ring _; omega)
  rw [if_neg c8] at h
  by_cases c9 : op = 18
  · rw [if_pos c9] at h
    cases hq : rdR M s p n with
    | error e' =>
      rw [hq] at h
      cases h
    | ok y =>
      obtain ⟨y1, y2⟩ := y
      rw [hq] at h
      cases h
      exact rf_set hp0 hp1 (.inr c9) (by show s.ring ≤ max _ (max _ (max _ s.ring)); omega)
  rw [if_neg c9] at h
  by_cases c10 : op = 19
  · rw [if_pos c10] at h
    cases h
    exact rf_same rfl (fun j _ => rfl) rfl ⟨by omega, by omega⟩ ⟨by omega, by omega⟩
  rw [if_neg c10] at h
  by_cases c11 : op = 20
  · rw [if_pos c11] at h
    cases hq : caR M s l p n with
    | error e' =>
      rw [hq] at h
      cases h
    | ok y =>
      obtain ⟨y1, y2⟩ := y
      rw [hq] at h
      cases h
      exact rf_call c11 hq
  rw [if_neg c11] at h
  by_cases c12 : op = 21
  · rw [if_pos c12] at h
    cases hq : reR s l with
    | error e' =>
      rw [hq] at h
      cases h
    | ok y =>
      obtain ⟨y1, y2⟩ := y
      rw [hq] at h
      cases h
      exact rf_ret c12 hq
  rw [if_neg c12] at h
  by_cases c13 : op = 22
  · rw [if_pos c13] at h
    cases h
    exact rf_same rfl (fun j _ => rfl) rfl ⟨by omega, by omega⟩ ⟨by omega, by omega⟩
  rw [if_neg c13] at h
  cases h
  exact rf_same rfl (fun j _ => rfl) rfl ⟨by omega, by omega⟩ ⟨by omega, by omega⟩
end Go.Proofs.Ytiakonmamkfopaa
namespace Go.Proofs.Ytiakonmamkfopaa
open Go.RowKit Go.ChangeShapes
set_option linter.unusedVariables false
set_option maxRecDepth 100000
theorem r_Decode (a : Int) (w : World) : Calls Try.prog 25 #[.int .i64 a] w fun x w' => x = .returned (.tuple #[if decE a = 0 then .agg #[.int .i64 (dOp a), .int .i64 (dP a), .int .i64 (dN a)] else .agg #[.int .i64 0, .int .i64 0, .int .i64 0], .int .i64 (decE a)]) ∧ Below w.heap.size w w' := by
  obtain ⟨u0, u1⟩ := uw_lt a
  have f1 : wrap64 (IntKind.u64.wrap a / 72057594037927936) = dOp a := by rw [uw_eq]; unfold wrap64 dOp; omega
  have f2 : wrap64 (bits .and .u64 (IntKind.u64.wrap a / 281474976710656) 255) = dP a := by rw [uw_eq, u64_mask 8 255 (by decide) (by decide) _ (by omega) (by omega)]; unfold wrap64 dP; omega
  have f3 : bits .and .u64 (IntKind.u64.wrap a / 4294967296) 65535 = dMid a := by rw [uw_eq, u64_mask 16 65535 (by decide) (by decide) _ (by omega) (by omega)]; unfold dMid; omega
  have f4 : wrap64 (wrap32 (a % 4294967296)) = dN a := by unfold wrap64 wrap32 dN uw; split <;> omega
  have e := rfl (a := decE a)
  conv at e => rhs; unfold decE
  clear u0 u1
  by_cases h1 : 23 ≤ dOp a
  · rw [if_pos h1] at e
    rw [e, if_neg (by decide)]
    clear e
    go_enter Try.func25, Try.ntmps25
    go_wp2
    exact bodyPost_ret (v := .tuple #[.agg #[.int .i64 0, .int .i64 0, .int .i64 0], .int .i64 3]) (by simp [results, Try.results25, go_sem]) rfl ⟨rfl, by repeat (first | exact Below.refl _ _ | refine Below.alloc ?_ (by simp <;> omega) _)⟩
  rw [if_neg h1] at e
  by_cases h2 : 4 ≤ dP a
  · rw [if_pos h2] at e
    rw [e, if_neg (by decide)]
    clear e
    go_enter Try.func25, Try.ntmps25
    go_wp2
    exact bodyPost_ret (v := .tuple #[.agg #[.int .i64 0, .int .i64 0, .int .i64 0], .int .i64 1]) (by simp [results, Try.results25, go_sem]) rfl ⟨rfl, by repeat (first | exact Below.refl _ _ | refine Below.alloc ?_ (by simp <;> omega) _)⟩
  rw [if_neg h2] at e
  by_cases h3 : dMid a ≠ 0
  · rw [if_pos h3] at e
    rw [e, if_neg (by decide)]
    clear e
    have h3' : (dMid a != 0) = true := by simp [h3]
    go_enter Try.func25, Try.ntmps25
    go_wp2
    exact bodyPost_ret (v := .tuple #[.agg #[.int .i64 0, .int .i64 0, .int .i64 0], .int .i64 11]) (by simp [results, Try.results25, go_sem]) rfl ⟨rfl, by repeat (first | exact Below.refl _ _ | refine Below.alloc ?_ (by simp <;> omega) _)⟩
  rw [if_neg h3] at e
  rw [e, if_pos rfl]
  clear e
  have h3' : (dMid a != 0) = false := by simp; omega
  go_enter Try.func25, Try.ntmps25
  go_wp2
  exact bodyPost_ret (v := .tuple #[.agg #[.int .i64 (dOp a), .int .i64 (dP a), .int .i64 (dN a)], .int .i64 0]) (by simp [results, Try.results25, go_sem]) rfl ⟨rfl, by repeat (first | exact Below.refl _ _ | refine Below.alloc ?_ (by simp <;> omega) _)⟩
theorem pt_off (s : St) (o : Int) (j : Nat) : ({ s with off := o } : St).pt j = s.pt j := by
  match j with
  | 0 => rfl
  | 1 => rfl
  | 2 => rfl
  | (_ + 3) => rfl
/-- a step that goes: where it is, what it does, and its rings -/
theorem stR_rf {M : List Sg} {s : St} {l : List Fr} {r : Res} (h : stR M s l = .ok r) (hh : s.hal = false) : ∃ g x, seg? M s.seg = some g ∧ 0 ≤ s.off ∧ s.off < g.ws.length ∧ g.ws[s.off.toNat]? = some x ∧ decE x = 0 ∧ 0 ≤ dP x ∧ dP x < 4 ∧ RFt M s (dOp x) (dP x) r := by
  unfold stR at h
  rw [if_neg (by rw [hh]; decide)] at h
  cases hf : feR M s with
  | error e =>
    rw [hf] at h
    cases h
  | ok y =>
    obtain ⟨op, p, n⟩ := y
    rw [hf] at h
    have hr := feR_range hf
    unfold feR at hf
    split at hf
    · cases hf
    · rename_i g hg
      split at hf
      · cases hf
      · split at hf
        · cases hf
        · rename_i hi
          rw [Decidable.not_not] at hi
          simp only at hf
          split at hf
          · rename_i hd
            cases hf
            have h2 := doR_rf hr.2.2.1 hr.2.2.2 h
            refine ⟨g, g.ws.getD s.off.toNat 0, hg, hi.1, hi.2, getD_at hi, hd, hr.2.2.1, hr.2.2.2, ?_⟩
            exact ⟨h2.fall, h2.rise, h2.ptc, h2.ptr, fun a b j hj => by have h3 := h2.pto a b j hj; rw [pt_off] at h3; exact h3, h2.pts, fun a j hj hne => by have h3 := h2.ptn a j hj hne; rw [pt_off] at h3; exact h3, fun k o x hk => by have h3 := h2.sto k o x hk; rw [pt_off] at h3; exact h3⟩
          · cases hf
end Go.Proofs.Ytiakonmamkfopaa
namespace Go.Proofs.Ytiakonmamkfopaa
open Go.RowKit Go.ChangeShapes
set_option linter.unusedVariables false
set_option maxRecDepth 100000
/-- a store into an owned row -/
theorem row_store {w : World} {B : Nat} {e : TypeId} {size n g cap : Nat} {xs : List Value} (h : w.ownsRow B e size (.slice (some ⟨g, 0, none⟩) n cap) n xs) (j : Nat) (hj : j < xs.length) (v : Value) : (w.setCell ⟨g, j, none⟩ v).ownsRow B e size (.slice (some ⟨g, 0, none⟩) n cap) n (xs.set j v) := by
  obtain ⟨hl, hr⟩ := h
  refine ⟨by rw [List.length_set]; exact hl, ?_⟩
  rcases hr with ⟨hv, _⟩ | ⟨g', cap', cur, hv, hb, hg, h1, h2, h3, h4⟩
  · cases hv
  · cases hv
    refine .inr ⟨g, cap, cur.setIfInBounds j v, rfl, hb, ?_, h1, h2, by simpa using h3, ?_⟩
    · simp [World.setCell, Array.getElem?_modify, hg]
    · rw [Array.toList_setIfInBounds, ← h4, List.take_set]
theorem rows_set : ∀ (M : List Sg) (vs : List Value) (k : Nat) (s : Sg) (gv : Value) (ws : List Int), vs.length = M.length → M[k]? = some s → rows (M.set k { s with ws := ws }) (vs.set k gv) = (rows M vs).set (k * 7 + 1) gv
  | s' :: M, v :: vs, 0, s, gv, ws, hl, h => by
    simp only [List.getElem?_cons_zero, Option.some.injEq] at h
    subst h
    rfl
  | s' :: M, v :: vs, k + 1, s, gv, ws, hl, h => by
    have ih := rows_set M vs k s gv ws (by simpa using hl) (by simpa using h)
    have e : (k + 1) * 7 + 1 = (k * 7 + 1) + 7 := by omega
    simp only [List.set_cons_succ, rows, ih, e]
    rfl
  | [], _, k, s, gv, ws, hl, h => by simp at h
  | s' :: M, [], k, s, gv, ws, hl, h => by simp at hl
/-- the memory, a word changed: the new slice of segments, the new words -/
theorem Segs.change {w : World} {mv mv' gv : Value} {vs : List Value} {M : List Sg} {k g' cap' : Nat} {s : Sg} {ws : List Int} (h : Segs w 0 mv vs M) (hk : M[k]? = some s) (hlen : ws.length = s.ws.length) (hm : mv' = .slice (some ⟨g', 0, none⟩) M.length cap')
    (hrow : w.ownsRow 0 57 7 mv' M.length (rows M vs)) (hgv : w.ownsRow 0 2 1 gv ws.length (ws.map (Value.int .i64))) :
    Segs (w.setCell ⟨g', k * 7 + 1, none⟩ gv) 0 mv' (vs.set k gv) (M.set k { s with ws := ws }) := by
  subst hm
  have hkl : k < M.length := (List.getElem?_eq_some_iff.1 hk).1
  have hrl : (rows M vs).length = M.length * 7 := rows_length M vs h.len
  obtain ⟨cs, hcs⟩ := row_blk hrow
  have o : Off (· = g') w (w.setCell ⟨g', k * 7 + 1, none⟩ gv) := off1 _ _ _ _
  have hne : ∀ j, j = g' → ∀ cs, w.heap[j]? ≠ some (.cells cs 2 (0, 0)) := by
    rintro j rfl cs' hc
    rw [hcs] at hc
    simp only [Option.some.injEq, Obj.cells.injEq] at hc
    exact absurd hc.2.1 (by decide)
  refine ⟨by simp [h.len], ?_, ?_⟩
  · rw [List.length_set, rows_set M vs k s gv ws h.len hk]
    exact row_store hrow (k * 7 + 1) (by rw [hrl]; omega) gv
  · intro i t u ht hu
    by_cases hi : i = k
    · subst hi
      rw [List.getElem?_set_self hkl] at ht
      rw [List.getElem?_set_self (by rw [h.len]; exact hkl)] at hu
      cases ht
      cases hu
      exact Off.row o hgv hne
    · rw [List.getElem?_set_ne (fun e => hi e.symm)] at ht hu
      exact Off.row o (h.words i t u ht hu) hne
theorem good_set {M : List Sg} {k : Nat} {s : Sg} {ws : List Int} (hg : ∀ g ∈ M, GoodSg g) (hk : M[k]? = some s) (hlen : ws.length = s.ws.length) : ∀ g ∈ M.set k { s with ws := ws }, GoodSg g := by
  intro g hm
  rcases List.mem_or_eq_of_mem_set hm with h | h
  · exact hg g h
  · subst h
    have h1 := hg s (List.mem_of_getElem? hk)
    exact ⟨by show ws.length ≤ 16; rw [hlen]; exact h1.ws, h1.a, h1.b, h1.c, h1.d, h1.e, h1.f, h1.m, h1.n⟩
theorem map_set_int (l : List Int) (j : Nat) (x : Int) : (l.map (Value.int .i64)).set j (.int .i64 x) = (l.set j x).map (Value.int .i64) := by
  rw [List.map_set]
theorem seg_nat {M : List Sg} {k : Int} {g : Sg} (h : seg? M k = some g) : ∃ K : Nat, k = K ∧ M[K]? = some g ∧ g.is = true := by
  unfold seg? at h
  split at h
  · cases h
  · rename_i hk
    split at h
    · rename_i s hs
      split at h
      · rename_i his
        cases h
        exact ⟨k.toNat, by omega, hs, his⟩
      · cases h
    · cases h
end Go.Proofs.Ytiakonmamkfopaa
namespace Go.Proofs.Ytiakonmamkfopaa
open Go.RowKit Go.ChangeShapes
set_option linter.unusedVariables false
set_option maxRecDepth 100000
end Go.Proofs.Ytiakonmamkfopaa
namespace Go.Proofs.Ytiakonmamkfopaa
open Go.RowKit Go.ChangeShapes
set_option linter.unusedVariables false
set_option maxRecDepth 1000000
def regionOf (k : Nat) : Code → Option Code
  | .region id ops d => if id = k then some (.region id ops d) else none
  | .seq a b => match regionOf k a with
    | some c => some c
    | none => regionOf k b
  | .block _ c => regionOf k c
  | .scope c => regionOf k c
  | .loop c => regionOf k c
  | .cond _ a b => match regionOf k a with
    | some c => some c
    | none => regionOf k b
  | _ => none
def headR : Code → Nat
  | .region id _ _ => id
  | .seq a _ => headR a
  | _ => 1000000
/-- what begins with a region and is itself no longer a sequence's left end: the least sequence that begins with it -/
def partOf (k : Nat) : Code → Option Code
  | .seq a b => if headR a = k then some a else match partOf k a with
    | some c => some c
    | none => partOf k b
  | .block _ c => partOf k c
  | .scope c => partOf k c
  | .loop c => partOf k c
  | .cond _ a b => match partOf k a with
    | some c => some c
    | none => partOf k b
  | _ => none
/-- what follows that -/
def restOf (k : Nat) : Code → Option Code
  | .seq a b => if headR a = k then some b else match restOf k a with
    | some c => some c
    | none => restOf k b
  | .block _ c => restOf k c
  | .scope c => restOf k c
  | .loop c => restOf k c
  | .cond _ a b => match restOf k a with
    | some c => some c
    | none => restOf k b
  | _ => none
end Go.Proofs.Ytiakonmamkfopaa
namespace Go.Proofs.Ytiakonmamkfopaa
open Go.RowKit Go.ChangeShapes
set_option linter.unusedVariables false
set_option maxRecDepth 1000000
end Go.Proofs.Ytiakonmamkfopaa
