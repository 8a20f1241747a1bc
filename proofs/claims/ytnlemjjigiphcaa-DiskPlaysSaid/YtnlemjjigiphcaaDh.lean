/- Disks: the laws' sector. -/
import Derived.Test.YtnlemjjigiphcaaDk
namespace Go.Proofs.Ytnlemjjigiphcaa
open Go.RowKit Go.ChangeShapes
set_option linter.unusedVariables false
set_option maxRecDepth 100000

/-- bytes of a sector, of these -/
def secB (b : Sec) : Sec := if b.length = 0 ∨ 127 < b.length then b else (List.range 128).map fun i => b.getD (i % b.length) 0
theorem secB_get {b : Sec} (h0 : ¬ b.length = 0) (h1 : ¬ 127 < b.length) {k : Nat} (hk : k < 128) : ((List.range 128).map fun i => b.getD (i % b.length) 0)[k]? = some (b.getD (k % b.length) 0) := by
  rw [List.getElem?_map, List.getElem?_range hk]
  rfl
theorem bt_at {w : World} {v : Value} {b : Sec} (h : BtAt w v b) {g o n c : Nat} (hv : v = .slice (some ⟨g, o, none⟩) n c) {j : Nat} (hj : j < b.length) : w.cell? ⟨g, o + j, none⟩ = some (.int .u8 ((b.getD j 0).toNat : Int)) := by
  obtain ⟨ad, c', rfl, _, _, _, h1⟩ := h
  obtain ⟨g', o', e, hc⟩ := h1 j _ (List.getElem?_eq_getElem hj)
  cases e
  cases hv
  rw [hc, List.getD_eq_getElem?_getD, List.getElem?_eq_getElem hj]
  rfl
/-- bytes appended to a row of the call's own -/
theorem wpList_append_bytes {w : World} {ops : Array Oper} {rest : List Oper} {o : Oper} {a : Act} {Q : Exit → Act → World → Prop} (hgd : o.guard = none) (s x : Operand) (ho : o.op = .call { callee := .builtin .append, args := #[s, x], argTypes := #[22, 22] })
    (base : Nat) (v0 : Value) (xs : Sec) (hs : a.eval s = v0) (hown : w.ownsRow base 5 1 v0 xs.length (bys xs)) (v : Value) (b : Sec) (hx : a.eval x = v) (hv : BtAt w v b) (hb : xs.length + b.length ≤ 140737488355328) (hbase : base ≤ w.heap.size)
    (h : ∀ v' w', RowB w' base v' (xs ++ b) → Off (fun k => v0.ownBlock = some k) w w' → (0 < xs.length + b.length → ∃ g c, v' = .slice (some ⟨g, 0, none⟩) (xs.length + b.length) c) → wpList Try.prog ops Q rest (a.put o.dst v') w') : wpList Try.prog ops Q (o :: rest) a w := by
  obtain ⟨i0, hin, hz0, hz1, hz2⟩ := info_parts A.infoB
  obtain ⟨ad, c, rfl, h1, h2, h3, h4⟩ := hv
  cases ad with
  | none =>
    have hbn : b = [] := by
      cases b with
      | nil => rfl
      | cons y r => obtain ⟨g, o', e, _⟩ := h4 0 y rfl; cases e
    subst hbn
    obtain rfl := h3 rfl
    refine wpList_append_own_none hgd s x 22 ho base 5 i0 1 A.underB hin v0 xs.length (bys xs) hs hown hx ?_
    refine h v0 w ?_ (Off.refl _ _) (fun hp => row_some hown (by simpa using hp))
    unfold RowB
    rw [List.append_nil]
    exact hown
  | some ad =>
    refine wpList_append_own _ hgd s x 22 ho base 5 i0 _ 1 1 A.underB hin hz0 hz1 hz2 rfl (by decide) v0 xs.length (bys xs) hs hown ad b.length c (bys b) hx (by rw [bys_len, Nat.mul_one]) (fun j u hj => ?_) (bys_one b) (by unfold maxLen; omega) (by omega) hbase (fun v' w' r1 r2 _ => ?_)
    · unfold bys at hj
      rw [List.getElem?_map] at hj
      cases hx' : b[j]? with
      | none => rw [hx'] at hj; cases hj
      | some y =>
        rw [hx'] at hj
        cases hj
        obtain ⟨g, o', e, hc⟩ := h4 j y hx'
        cases e
        rw [Addr.add_lit]
        exact hc
    · refine h v' w' ?_ ((Off.refl _ _).grown r2 (fun k hk => .inl hk)) (fun hp => row_some r1 hp)
      unfold RowB
      rw [List.length_append]
      unfold bys at r1 ⊢
      rw [List.map_append]
      exact r1
set_option maxHeartbeats 1000000 in
theorem c_sector (w : World) (v : Value) (b : Sec) (hv : BtAt w v b) : Calls Try.prog 14 #[v] w fun e w' => (e = .returned v ∧ w = w' ∧ secB b = b) ∨ (∃ g c, e = .returned (.slice (some ⟨g, 0, none⟩) 128 c) ∧ w'.ownsRow w.heap.size 5 1 (.slice (some ⟨g, 0, none⟩) 128 c) 128 (bys (secB b)) ∧ (secB b).length = 128 ∧ Below w.heap.size w w') := by
  have HV := Lib.hid hv
  obtain ⟨ad, c, rfl, hbc, hcm, _, hv1⟩ := hv
  have hbm : b.length ≤ 9223372036854775807 := by unfold maxLen at hcm; omega
  replace hv1 := Lib.hid hv1
  clear hbc hcm
  by_cases h0 : b.length = 0
  · have hE : Hid (secB b = b) := Lib.hid (if_pos (.inl h0))
    have h0' : ((b.length : Int) == 0) = true := by rw [h0]; rfl
    replace h0 := Lib.hid h0
    go_enter Try.func14, Try.ntmps14
    go_wp2
    go_ret
    exact .inl ⟨rfl, rfl, hE.out⟩
  · have h0' : ((b.length : Int) == 0) = false := by rw [beq_eq_false_iff_ne]; omega
    by_cases h1 : 127 < b.length
    · have hE : Hid (secB b = b) := Lib.hid (if_pos (.inr h1))
      have h1' : (127 : Int) < (b.length : Int) := by omega
      go_enter Try.func14, Try.ntmps14
      go_wp2
      go_ret
      exact .inl ⟨rfl, rfl, hE.out⟩
    · have hE : Hid (secB b = (List.range 128).map fun i => b.getD (i % b.length) 0) := Lib.hid (if_neg (fun h => h.elim h0 h1))
      have h1' : ¬ (127 : Int) < (b.length : Int) := by omega
      obtain ⟨S, hS⟩ : ∃ S : Sec, ((List.range 128).map fun i => b.getD (i % b.length) 0) = S := ⟨_, rfl⟩
      have hSl : Hid (S.length = 128) := Lib.hid (by rw [← hS]; simp)
      have hSg : Hid (∀ k, k < 128 → S[k]? = some (b.getD (k % b.length) 0)) := Lib.hid (by rw [← hS]; exact fun k hk => secB_get h0 h1 hk)
      rw [hS] at hE
      obtain ⟨g, o, hga, hgc⟩ := hv1.out 0 _ (List.getElem?_eq_getElem (by omega))
      subst hga
      have hgl : Hid (g < w.heap.size) := Lib.hid (by
        rcases Nat.lt_or_ge g w.heap.size with h | h
        · exact h
        · simp [World.cell?, Array.getElem?_eq_none h] at hgc)
      have hb0 : 1 ≤ b.length := by omega
      clear hS hgc h0
      have hmk := A.mk128
      go_enter Try.func14, Try.ntmps14
      go_wp2_with fail
      obtain ⟨W, hW, R0, OW⟩ : ∃ W, w.alloc (.cells (bys zeros).toArray 5) = W ∧ Hid (FillR W w.heap.size w.heap.size 128 0 S zeros) ∧ Hid (Below w.heap.size w W) := ⟨_, rfl, Lib.hid (FillR.start S), Lib.hid (below_al0 _ _)⟩
      rw [hW]
      clear hW
      go_loopw [4] (fun kv wr => ∃ k : Nat, kv = .int .i64 k ∧ k ≤ 128 ∧ Hid (FillR wr w.heap.size w.heap.size 128 k S zeros) ∧ Hid (Below w.heap.size w wr)) (fun kv _ => 128 - (intOf kv).toNat)
      case atStart => exact ⟨0, rfl, by omega, R0, OW⟩
      case round =>
        clear R0 OW
        obtain ⟨k, rfl, hk, R, O⟩ := hrel
        by_cases hlt : k < 128
        · have hlt' : (k : Int) < 128 := by omega
          obtain ⟨u, hu⟩ := R.out.cell zeros_len hSl.out hlt
          have hf := R.out.free k
          have hml : k % b.length < b.length := Nat.mod_lt _ (by omega)
          have hz : ((b.length : Int) == 0) = false := h0'
          have hm0 : (k : Int) % (b.length : Int) = ((k % b.length : Nat) : Int) := by simp
          have hcv : wr.cell? ⟨g, o + k % b.length, none⟩ = some (.int .u8 ((b.getD (k % b.length) 0).toNat : Int)) := (O.out.cell (p := ⟨g, o + k % b.length, none⟩) hgl.out).trans (bt_at HV.out rfl hml)
          obtain ⟨y, hy⟩ : ∃ y, b.getD (k % b.length) 0 = y := ⟨_, rfl⟩
          have hSk := Lib.hid (hSg.out k hlt)
          rw [hy] at hcv hSk
          clear hy
          generalize k % b.length = j at hml hm0 hcv
          have hml' : (j : Int) < (b.length : Int) := by omega
          go_wp2
          have R2 := Lib.hid (R.out.step hSl.out zeros_len hSk.out)
          have O2 := Lib.hid (off_below (j := k) (v := .int .u8 (y.toNat : Int)) O.out (Nat.le_refl _))
          clear hu hf hcv hm0
          go_roundw
          case rel => exact ⟨k + 1, by go_num, by omega, R2, O2⟩
          case measure => simp [intOf]; omega
        · have hlt' : ¬ (k : Int) < 128 := by omega
          obtain rfl : k = 128 := by omega
          go_wp2
          go_ret
          exact .inr ⟨_, _, rfl, by rw [hE.out]; exact R.out.done hSl.out zeros_len, by rw [hE.out]; exact hSl.out, O.out⟩
theorem c_sector_own (w : World) (A : Nat) (v : Value) (b : Sec) (hv : RowB w A v b) (hb : 0 < b.length) (hA : A ≤ w.heap.size) : Calls Try.prog 14 #[v] w fun e w' => ∃ g c, e = .returned (.slice (some ⟨g, 0, none⟩) (secB b).length c) ∧ w'.ownsRow A 5 1 (.slice (some ⟨g, 0, none⟩) (secB b).length c) (secB b).length (bys (secB b)) ∧ Below w.heap.size w w' := by
  refine (c_sector w v b hv.bt).mono ?_
  rintro e w' (⟨rfl, rfl, h⟩ | ⟨g, c, rfl, h1, h2, h3⟩)
  · obtain ⟨g, c, rfl⟩ := row_some hv hb
    refine ⟨g, c, by rw [h], ?_, Below.refl _ _⟩
    rw [h]
    exact hv
  · refine ⟨g, c, by rw [h2], ?_, h3⟩
    rw [h2]
    exact row_base h1 hA
end Go.Proofs.Ytnlemjjigiphcaa
