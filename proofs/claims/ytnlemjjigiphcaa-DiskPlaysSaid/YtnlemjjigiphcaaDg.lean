/- What is handed in, as cells. -/
import Derived.Test.YtnlemjjigiphcaaDk
import Derived.Deep.Slices
import Derived.OpenShut
import Derived.SizedLaws
import Derived.Lib.SmallJoins
import Derived.Deep.Grids
namespace Go.Proofs.Ytnlemjjigiphcaa
open Go.RowKit Go.ChangeShapes Go.WideShapes Go.Deep
set_option linter.unusedVariables false
set_option maxRecDepth 100000

section
variable {H : Type} {enc : TypeId × Value → H} {w : World} {base : Nat} {sp : Nat → Bool} {held : Bool}
theorem A.u_u8 : Try.prog.underlying 5 = some (.int .u8) := by kernel_rfl
theorem A.c_u8 : Try.prog.cellsOf 5 = 1 := by kernel_rfl
theorem A.c_int : Try.prog.cellsOf 3 = 1 := by kernel_rfl
theorem A.b_u8 : Try.prog.bytesOf 5 = 1 := by kernel_rfl
theorem A.b_int : Try.prog.bytesOf 3 = 8 := by kernel_rfl
theorem fld {t ty : TypeId} {fs : Array Field} {fuel i off c : Nat} {cs : List Value} {x : DataW H × List MemPlace} (ht : Try.prog.underlying t = some (.struct fs)) (h : DataW.trod enc Try.prog w base sp held fuel t cs = some x) (hf : (fs[i]?).map (fun f => (f.type, f.offset)) = some (ty, off)) (hc : Try.prog.cellsOf ty = c) :
    ∃ n y, DataW.trod enc Try.prog w base sp held n ty ((cs.drop off).take c) = some y := by
  obtain ⟨xs, n, _, _, _, hl, hall⟩ := DataW.trod_struct ht h
  obtain ⟨f, hf1, hf2⟩ := Option.map_eq_some_iff.1 hf
  simp only [Prod.mk.injEq] at hf2
  obtain ⟨rfl, rfl⟩ := hf2
  have h1 := hall i f hf1
  have h2 : i < xs.length := by rw [hl]; exact (Array.getElem?_eq_some_iff.1 hf1).1
  rw [List.getElem?_eq_getElem h2, hc] at h1
  exact ⟨n, _, h1⟩
theorem len_of {t : TypeId} {fs : Array Field} {fuel c : Nat} {cs : List Value} {x : DataW H × List MemPlace} (ht : Try.prog.underlying t = some (.struct fs)) (h : DataW.trod enc Try.prog w base sp held fuel t cs = some x) (hc : Try.prog.cellsOf t = c) : cs.length = c := by
  obtain ⟨xs, n, _, _, hl, _, _⟩ := DataW.trod_struct ht h
  rw [hl, hc]
theorem one_int {t : TypeId} {n : Nat} {c : Value} {y : DataW H × List MemPlace} (ht : Try.prog.underlying t = some (.int .i64)) (h : DataW.trod enc Try.prog w base sp held n t [c] = some y) : ∃ a, c = .int .i64 a := by
  obtain ⟨a, e, _, _⟩ := DataW.trod_int ht h
  exact ⟨a, by simpa using e⟩
theorem add_plain (b o n : Nat) : (⟨b, o, none⟩ : Addr).add n = ⟨b, o + n, none⟩ := by
  unfold Addr.add
  by_cases h : n = 0
  · subst h; rfl
  · rw [if_neg h]
theorem spot_of {a : Addr} {v : Value} (h : w.cell? a = some v) : a = ⟨a.block, a.off, none⟩ := by
  unfold World.cell? at h
  split at h
  · split at h
    · cases h
    · rename_i hs
      obtain ⟨b, o, s⟩ := a
      cases s with
      | none => rfl
      | some k => exact absurd rfl hs
  · cases h
theorem row_at {base C k len : Nat} {a : Addr} {cs0 cs : List Value} (hC : 0 < C) (h0 : w.cells? base (a.add (0 * C)) C = some cs0) (h : w.cells? base (a.add (k * C)) C = some cs) : a = ⟨a.block, a.off, none⟩ ∧ a.block < w.heap.size ∧ ∀ j, j < C → w.cell? ⟨a.block, a.off + k * C + j, none⟩ = cs[j]? := by
  obtain ⟨_, l0, e0⟩ := World.cells?_some h0
  obtain ⟨_, l1, e1⟩ := World.cells?_some h
  have hz : ∃ v, w.cell? a = some v := by
    have h1 := e0 0 hC
    rw [Nat.zero_mul] at h1
    have h2 : (a.add 0).add 0 = a := by simp [Addr.add]
    rw [h2] at h1
    exact ⟨_, h1.trans (List.getElem?_eq_getElem (by omega))⟩
  obtain ⟨v, hv⟩ := hz
  have hs := spot_of hv
  refine ⟨hs, World.block_lt_of_cell? w _ hv, fun j hj => ?_⟩
  have h1 := e1 j hj
  rw [hs, add_plain, add_plain] at h1
  exact h1

/-- no slice of it takes more than the reach -/
def Sm (t : TypeId) (d : DataW H) : Prop := ∀ n ∈ d.weights Try.prog t, n ≤ reachBytes
theorem Sm.slice {t e : TypeId} {es rs : List (DataW H)} (hu : Try.prog.underlying t = some (.slice e)) (h : Sm t (.slice es rs)) : (es.length + rs.length) * Try.prog.bytesOf e ≤ reachBytes ∧ ∀ x ∈ es, Sm e x := by
  unfold Sm at h
  simp only [DataW.weights, hu] at h
  refine ⟨h _ (by simp), fun x hx n hn => h n ?_⟩
  have : n ∈ DataW.weightsAll Try.prog e es := by
    clear h
    induction es with
    | nil => simp at hx
    | cons y r ih =>
      unfold DataW.weightsAll
      rcases List.mem_cons.1 hx with rfl | hx
      · exact List.mem_append.2 (.inl hn)
      · exact List.mem_append.2 (.inr (ih hx))
  simp [this]
theorem Sm.field {t ty : TypeId} {fs : Array Field} {ps : List (DataW H)} {i : Nat} {x : DataW H} (hu : Try.prog.underlying t = some (.struct fs)) (h : Sm t (.agg ps)) (hf : (fs[i]?).map (·.type) = some ty) (hx : ps[i]? = some x) : Sm ty x := by
  unfold Sm at h
  simp only [DataW.weights, hu] at h
  intro n hn
  refine h n (DataW.weights_mem_each (j := i) ?_ hx n hn)
  rw [List.getElem?_map, Array.getElem?_toList]
  exact hf
theorem i64_wf {x : Int} (h : (Lit.int .i64 x).wf = true) : I64 x := by
  unfold I64
  simp [Lit.wf, IntKind.min, IntKind.max, IntKind.signed, IntKind.bits] at h
  omega
/-- bytes -/
theorem bytes_at {fuel : Nat} {u : Value} {x : DataW H × List MemPlace} (h : DataW.trod enc Try.prog w base sp held fuel 22 [u] = some x) : ∃ b, BtAt w u b ∧ (Sm 22 x.1 → b.length ≤ 140737488351232) ∧ ∀ a n c, u = .slice (some a) n c → b ≠ [] → a.block < w.heap.size := by
  rcases open_ints A.underB A.u_u8 A.c_u8 h with ⟨hc, _⟩ | ⟨a, len, cap, zs, hc, hb, hl, hm, hz, hx, hcell, hwf⟩
  · simp only [List.cons.injEq, and_true] at hc
    subst hc
    exact ⟨[], ⟨none, 0, rfl, Nat.le_refl _, Nat.zero_le _, fun _ => rfl, fun j x hj => by simp at hj⟩, fun _ => by simp, fun a n c e => by cases e⟩
  · simp only [List.cons.injEq, and_true] at hc
    subst hc
    have hzl : len ≤ zs.length := by rw [hz]; split <;> omega
    have hlen : ((zs.take len).map fun z => UInt8.ofNat z.toNat).length = len := by simp; omega
    have hget : ∀ j, j < len → w.cell? (a.add j) = some (.int .u8 ((UInt8.ofNat (zs.getD j 0).toNat).toNat : Int)) := by
      intro j hj
      rw [hcell j (by omega)]
      have h1 := hwf (zs.getD j 0) (by rw [List.getD_eq_getElem?_getD, List.getElem?_eq_getElem (by omega)]; exact List.getElem_mem _)
      generalize zs.getD j 0 = z at h1 ⊢
      simp [Lit.wf, IntKind.min, IntKind.max, IntKind.signed, IntKind.bits] at h1
      rw [UInt8.toNat_ofNat']
      congr 2
      omega
    refine ⟨(zs.take len).map fun z => UInt8.ofNat z.toNat, ⟨some a, cap, by rw [hlen], by rw [hlen]; exact hl, hm, fun h => (by cases h), fun j y hj => ?_⟩, fun hs => ?_, fun a' n c e hne => ?_⟩
    · have hj' : j < len := by rw [← hlen]; exact (List.getElem?_eq_some_iff.1 hj).1
      have h0 := hget 0 (by omega)
      have hs : a = ⟨a.block, a.off, none⟩ := by
        have : a.add 0 = a := by simp [Addr.add]
        rw [this] at h0
        exact spot_of h0
      refine ⟨a.block, a.off, by rw [← hs], ?_⟩
      have h1 := hget j hj'
      rw [hs, add_plain] at h1
      rw [h1]
      rw [List.getElem?_map, List.getElem?_take_of_lt hj', List.getElem?_eq_getElem (by omega)] at hj
      simp only [Option.map_some, Option.some.injEq] at hj
      rw [← hj, List.getD_eq_getElem?_getD, List.getElem?_eq_getElem (by omega)]
      rfl
    · rw [hx] at hs
      have h1 := (Sm.slice A.underB hs).1
      rw [A.b_u8] at h1
      unfold lits reachBytes at h1
      simp only [List.length_map, List.length_take, List.length_drop] at h1
      rw [hlen]
      omega
    · cases e
      have hpos : 0 < len := by
        rcases Nat.eq_zero_or_pos len with h0 | h0
        · exfalso
          subst h0
          simp at hne
        · exact h0
      have h0 := hget 0 hpos
      have : a.add 0 = a := by simp [Addr.add]
      rw [this] at h0
      exact World.block_lt_of_cell? w _ h0
theorem A.u_bool : Try.prog.underlying 4 = some .bool := by kernel_rfl
theorem A.c_bool : Try.prog.cellsOf 4 = 1 := by kernel_rfl
theorem A.u_bools : Try.prog.underlying 55 = some (.slice 4) := by kernel_rfl
/-- truths -/
theorem bools_at {fuel : Nat} {u : Value} {x : DataW H × List MemPlace} (h : DataW.trod enc Try.prog w base (fun _ => true) held fuel 55 [u] = some x) : ∃ _ : Unit, BoAt w u ∧ (Sm 55 x.1 → True) ∧ True := by
  rcases open_bools A.u_bools A.u_bool A.c_bool h with ⟨hc, _⟩ | ⟨a, len, cap, C, hc, hb, hl, hm, _, hcell⟩
  · simp only [List.cons.injEq, and_true] at hc
    subst hc
    exact ⟨(), ⟨none, 0, 0, rfl, Nat.le_refl _, Nat.zero_le _, fun k hk => absurd hk (Nat.not_lt_zero _)⟩, fun _ => trivial, trivial⟩
  · simp only [List.cons.injEq, and_true] at hc
    subst hc
    refine ⟨(), ⟨some a, len, cap, rfl, hl, hm, fun k hk => ?_⟩, fun _ => trivial, trivial⟩
    have h0 := hcell 0 (by omega)
    have hs : a = ⟨a.block, a.off, none⟩ := by
      have : a.add 0 = a := by simp [Addr.add]
      rw [this] at h0
      exact spot_of h0
    have h1 := hcell k (by omega)
    rw [hs, add_plain] at h1
    have e0 : a.add 0 = a := by simp [Addr.add]
    rw [e0] at h0
    exact ⟨a.block, a.off, C k, by rw [← hs], World.block_lt_of_cell? w _ h0, h1⟩
end
end Go.Proofs.Ytnlemjjigiphcaa
