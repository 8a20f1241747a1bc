/- Calls, as handed in. -/
import Derived.Test.YtnlemjjigiphcaaDg
namespace Go.Proofs.Ytnlemjjigiphcaa
open Go.RowKit Go.ChangeShapes Go.WideShapes Go.Deep
set_option linter.unusedVariables false
set_option maxRecDepth 100000

section
variable {H : Type} {enc : TypeId × Value → H} {w : World} {base : Nat} {sp : Nat → Bool} {held : Bool}
theorem A.u_cls : Try.prog.underlying 37 = some (.slice 41) := by kernel_rfl
theorem A.u_call : Try.prog.underlying 41 = some (.struct (Try.prog.fieldsOf 41)) := by kernel_rfl
theorem A.c_call : Try.prog.cellsOf 41 = 4 := by kernel_rfl
theorem A.c_bts : Try.prog.cellsOf 22 = 1 := by kernel_rfl
theorem A.c_its : Try.prog.cellsOf 39 = 1 := by kernel_rfl
theorem A.u_its : Try.prog.underlying 39 = some (.slice 3) := by kernel_rfl
theorem A.f_call0 : ((Try.prog.fieldsOf 41)[0]?).map (fun f => (f.type, f.offset)) = some (3, 0) := by kernel_rfl
theorem A.f_call1 : ((Try.prog.fieldsOf 41)[1]?).map (fun f => (f.type, f.offset)) = some (3, 1) := by kernel_rfl
theorem A.f_call2 : ((Try.prog.fieldsOf 41)[2]?).map (fun f => (f.type, f.offset)) = some (22, 2) := by kernel_rfl
theorem A.f_call3 : ((Try.prog.fieldsOf 41)[3]?).map (fun f => (f.type, f.offset)) = some (39, 3) := by kernel_rfl
theorem fldS {t ty : TypeId} {fs : Array Field} {fuel i off c : Nat} {cs : List Value} {x : DataW H × List MemPlace} (ht : Try.prog.underlying t = some (.struct fs)) (h : DataW.trod enc Try.prog w base sp held fuel t cs = some x) (hf : (fs[i]?).map (fun f => (f.type, f.offset)) = some (ty, off)) (hc : Try.prog.cellsOf ty = c) :
    ∃ n y, DataW.trod enc Try.prog w base sp held n ty ((cs.drop off).take c) = some y ∧ (Sm t x.1 → Sm ty y.1) := by
  obtain ⟨xs, n, _, hx, _, hl, hall⟩ := DataW.trod_struct ht h
  obtain ⟨f, hf1, hf2⟩ := Option.map_eq_some_iff.1 hf
  simp only [Prod.mk.injEq] at hf2
  obtain ⟨rfl, rfl⟩ := hf2
  have h1 := hall i f hf1
  have h2 : i < xs.length := by rw [hl]; exact (Array.getElem?_eq_some_iff.1 hf1).1
  rw [List.getElem?_eq_getElem h2, hc] at h1
  refine ⟨n, _, h1, fun hs => ?_⟩
  rw [hx] at hs
  exact Sm.field ht hs (i := i) (by rw [hf1]; rfl) (by rw [List.getElem?_map, List.getElem?_eq_getElem h2]; rfl)
theorem list4 {l : List Value} (h : l.length = 4) : ∃ a b c d, l = [a, b, c, d] := by
  match l, h with
  | [a, b, c, d], _ => exact ⟨a, b, c, d, rfl⟩
theorem its_at {fuel : Nat} {u : Value} {x : DataW H × List MemPlace} (h : DataW.trod enc Try.prog w base sp held fuel 39 [u] = some x) : ∃ ps, ItAt w u ps ∧ ∀ y ∈ ps, I64 y := by
  rcases open_ints A.u_its A.underInt A.c_int h with ⟨hc, _⟩ | ⟨a, len, cap, zs, hc, hb, hl, hm, hz, hx, hcell, hwf⟩
  · simp only [List.cons.injEq, and_true] at hc
    subst hc
    exact ⟨[], ⟨none, 0, rfl, fun j x hj => by simp at hj⟩, fun y hy => by simp at hy⟩
  · simp only [List.cons.injEq, and_true] at hc
    subst hc
    have hzl : len ≤ zs.length := by rw [hz]; split <;> omega
    have hlen : (zs.take len).length = len := by simp; omega
    refine ⟨zs.take len, ⟨some a, cap, by rw [hlen], fun j y hj => ?_⟩, fun y hy => i64_wf (hwf y (List.mem_of_mem_take hy))⟩
    have hj' : j < len := by rw [← hlen]; exact (List.getElem?_eq_some_iff.1 hj).1
    have h0 := hcell 0 (by omega)
    have hs : a = ⟨a.block, a.off, none⟩ := by
      have : a.add 0 = a := by simp [Addr.add]
      rw [this] at h0
      exact spot_of h0
    refine ⟨a.block, a.off, by rw [← hs], ?_⟩
    have h1 := hcell j (by omega)
    rw [hs, add_plain] at h1
    rw [h1]
    rw [List.getElem?_take_of_lt hj', List.getElem?_eq_getElem (by omega)] at hj
    rw [List.getD_eq_getElem?_getD, List.getElem?_eq_getElem (by omega)]
    cases hj
    rfl
end
/-- calls, wherever they lie -/
def CaAt (w : World) (v : Value) : Prop := ∃ (ad : Option Addr) (n c : Nat), v = .slice ad n c ∧ n ≤ c ∧ c ≤ maxLen ∧ ∀ k, k < n → ∃ g o, ∃ (kd nn : Int) (vb vp : Value) (b : Sec) (ps : List Int), ad = some ⟨g, o, none⟩ ∧ g < w.heap.size ∧ I64 kd ∧ I64 nn ∧ BtAt w vb b ∧ b.length ≤ 140737488351232 ∧ ItAt w vp ps ∧ (∀ y ∈ ps, I64 y) ∧ w.cell? ⟨g, o + k * 4 + 0, none⟩ = some (.int .i64 kd) ∧ w.cell? ⟨g, o + k * 4 + 1, none⟩ = some (.int .i64 nn) ∧ w.cell? ⟨g, o + k * 4 + 2, none⟩ = some vb ∧ w.cell? ⟨g, o + k * 4 + 3, none⟩ = some vp
section
variable {H : Type} {enc : TypeId × Value → H} {w : World} {base : Nat} {held : Bool}
theorem calls_at {fuel : Nat} {u : Value} {x : DataW H × List MemPlace} (h : DataW.trod enc Try.prog w base (fun _ => true) held fuel 37 [u] = some x) : ∃ _ : Unit, True ∧ (Sm 37 x.1 → CaAt w u) ∧ True := by
  rcases open_slice A.u_cls h with ⟨hc, _⟩ | ⟨a, len, cap, m, n, D, Pl, hc, hb, hl, hm, hmm, hx, hall⟩
  · simp only [List.cons.injEq, and_true] at hc
    exact ⟨(), trivial, fun _ => ⟨none, 0, 0, hc, Nat.le_refl _, Nat.zero_le _, fun k hk => absurd hk (Nat.not_lt_zero _)⟩, trivial⟩
  · simp only [List.cons.injEq, and_true] at hc
    refine ⟨(), trivial, fun hs => ⟨some a, len, cap, hc, hl, hm, fun k hk => ?_⟩, trivial⟩
    rw [if_pos rfl] at hmm
    obtain ⟨cs0, g0, _⟩ := hall 0 (by omega)
    obtain ⟨cs, g1, g2⟩ := hall k (by omega)
    rw [A.c_call] at g0 g1
    have hD : Sm 41 (D k) := by
      rw [hx] at hs
      exact (Sm.slice A.u_cls hs).2 _ (List.mem_map.2 ⟨k, List.mem_range.2 hk, rfl⟩)
    obtain ⟨hs, hlt, hcell⟩ := row_at (k := k) (len := len) (by decide) g0 g1
    have hl4 : cs.length = 4 := by
      obtain ⟨xs, n, _, _, hl, _, _⟩ := DataW.trod_struct A.u_call g2
      rw [hl, A.c_call]
    obtain ⟨c0, c1, c2, c3, rfl⟩ := list4 hl4
    obtain ⟨_, _, h0, _⟩ := fldS A.u_call g2 A.f_call0 A.c_int
    obtain ⟨_, _, h1, _⟩ := fldS A.u_call g2 A.f_call1 A.c_int
    obtain ⟨_, _, h2, s2⟩ := fldS A.u_call g2 A.f_call2 A.c_bts
    obtain ⟨_, _, h3, _⟩ := fldS A.u_call g2 A.f_call3 A.c_its
    obtain ⟨kd, e0, _, w0⟩ := DataW.trod_int A.underInt h0
    obtain ⟨nn, e1, _, w1⟩ := DataW.trod_int A.underInt h1
    simp only [List.drop_zero, List.drop_succ_cons, List.take_succ_cons, List.take_zero, List.cons.injEq, and_true] at e0 e1
    subst e0
    subst e1
    obtain ⟨b, hb1, hb2, _⟩ := bytes_at h2
    obtain ⟨ps, hp1, hp2⟩ := its_at h3
    exact ⟨a.block, a.off, kd, nn, c2, c3, b, ps, by rw [← hs], hlt, i64_wf w0, i64_wf w1, hb1, hb2 (s2 hD), hp1, hp2, hcell 0 (by decide), hcell 1 (by decide), hcell 2 (by decide), hcell 3 (by decide)⟩
end
end Go.Proofs.Ytnlemjjigiphcaa
