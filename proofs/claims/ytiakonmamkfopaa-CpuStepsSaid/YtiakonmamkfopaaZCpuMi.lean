/- What is handed in, as cells. -/
import Derived.Test.YtiakonmamkfopaaZCpuMc
import Derived.Deep.Slices
import Derived.OpenShut
import Derived.Lib.SmallJoins
namespace Go.Proofs.Ytiakonmamkfopaa
open Go.RowKit Go.ChangeShapes Go.WideShapes Go.Deep
set_option linter.unusedVariables false
set_option maxRecDepth 100000
section
variable {H : Type} {enc : TypeId × Value → H} {w : World} {base : Nat} {sp : Nat → Bool} {held : Bool}
theorem A.u_int : Try.prog.underlying 3 = some (.int .i64) := by kernel_rfl
theorem A.u_i64 : Try.prog.underlying 2 = some (.int .i64) := by kernel_rfl
theorem A.u_bool : Try.prog.underlying 4 = some .bool := by kernel_rfl
theorem A.c_int : Try.prog.cellsOf 3 = 1 := by kernel_rfl
theorem A.c_i64 : Try.prog.cellsOf 2 = 1 := by kernel_rfl
theorem A.c_bool : Try.prog.cellsOf 4 = 1 := by kernel_rfl
theorem A.u_pcs : Try.prog.underlying 22 = some (.slice 87) := by kernel_rfl
theorem A.u_wds : Try.prog.underlying 85 = some (.slice 91) := by kernel_rfl
theorem A.u_frs : Try.prog.underlying 26 = some (.slice 79) := by kernel_rfl
theorem A.c_wds : Try.prog.cellsOf 85 = 1 := by kernel_rfl
theorem A.c_frs : Try.prog.cellsOf 26 = 1 := by kernel_rfl
theorem A.u_arr : Try.prog.underlying 25 = some (.array 4 24) := by kernel_rfl
theorem A.c_arr : Try.prog.cellsOf 25 = 12 := by kernel_rfl
theorem A.u_ins : Try.prog.underlying 64 = some (.struct (Try.prog.fieldsOf 64)) := by kernel_rfl
theorem A.c_ins : Try.prog.cellsOf 64 = 3 := by kernel_rfl
theorem A.f_ins0 : ((Try.prog.fieldsOf 64)[0]?).map (fun f => (f.type, f.offset)) = some (3, 0) := by kernel_rfl
theorem A.f_ins1 : ((Try.prog.fieldsOf 64)[1]?).map (fun f => (f.type, f.offset)) = some (3, 1) := by kernel_rfl
theorem A.f_ins2 : ((Try.prog.fieldsOf 64)[2]?).map (fun f => (f.type, f.offset)) = some (3, 2) := by kernel_rfl
theorem A.u_pt : Try.prog.underlying 24 = some (.struct (Try.prog.fieldsOf 24)) := by kernel_rfl
theorem A.c_pt : Try.prog.cellsOf 24 = 3 := by kernel_rfl
theorem A.f_pt0 : ((Try.prog.fieldsOf 24)[0]?).map (fun f => (f.type, f.offset)) = some (3, 0) := by kernel_rfl
theorem A.f_pt1 : ((Try.prog.fieldsOf 24)[1]?).map (fun f => (f.type, f.offset)) = some (3, 1) := by kernel_rfl
theorem A.f_pt2 : ((Try.prog.fieldsOf 24)[2]?).map (fun f => (f.type, f.offset)) = some (3, 2) := by kernel_rfl
theorem A.u_fr : Try.prog.underlying 79 = some (.struct (Try.prog.fieldsOf 79)) := by kernel_rfl
theorem A.c_fr : Try.prog.cellsOf 79 = 3 := by kernel_rfl
theorem A.f_fr0 : ((Try.prog.fieldsOf 79)[0]?).map (fun f => (f.type, f.offset)) = some (3, 0) := by kernel_rfl
theorem A.f_fr1 : ((Try.prog.fieldsOf 79)[1]?).map (fun f => (f.type, f.offset)) = some (3, 1) := by kernel_rfl
theorem A.f_fr2 : ((Try.prog.fieldsOf 79)[2]?).map (fun f => (f.type, f.offset)) = some (3, 2) := by kernel_rfl
theorem A.u_rg : Try.prog.underlying 55 = some (.struct (Try.prog.fieldsOf 55)) := by kernel_rfl
theorem A.c_rg : Try.prog.cellsOf 55 = 4 := by kernel_rfl
theorem A.f_rg0 : ((Try.prog.fieldsOf 55)[0]?).map (fun f => (f.type, f.offset)) = some (3, 0) := by kernel_rfl
theorem A.f_rg1 : ((Try.prog.fieldsOf 55)[1]?).map (fun f => (f.type, f.offset)) = some (3, 1) := by kernel_rfl
theorem A.f_rg2 : ((Try.prog.fieldsOf 55)[2]?).map (fun f => (f.type, f.offset)) = some (3, 2) := by kernel_rfl
theorem A.f_rg3 : ((Try.prog.fieldsOf 55)[3]?).map (fun f => (f.type, f.offset)) = some (3, 3) := by kernel_rfl
theorem A.u_wd : Try.prog.underlying 91 = some (.struct (Try.prog.fieldsOf 91)) := by kernel_rfl
theorem A.c_wd : Try.prog.cellsOf 91 = 8 := by kernel_rfl
theorem A.f_wd0 : ((Try.prog.fieldsOf 91)[0]?).map (fun f => (f.type, f.offset)) = some (3, 0) := by kernel_rfl
theorem A.f_wd1 : ((Try.prog.fieldsOf 91)[1]?).map (fun f => (f.type, f.offset)) = some (64, 1) := by kernel_rfl
theorem A.f_wd2 : ((Try.prog.fieldsOf 91)[2]?).map (fun f => (f.type, f.offset)) = some (24, 4) := by kernel_rfl
theorem A.f_wd3 : ((Try.prog.fieldsOf 91)[3]?).map (fun f => (f.type, f.offset)) = some (2, 7) := by kernel_rfl
theorem A.u_pc : Try.prog.underlying 87 = some (.struct (Try.prog.fieldsOf 87)) := by kernel_rfl
theorem A.c_pc : Try.prog.cellsOf 87 = 7 := by kernel_rfl
theorem A.f_pc0 : ((Try.prog.fieldsOf 87)[0]?).map (fun f => (f.type, f.offset)) = some (4, 0) := by kernel_rfl
theorem A.f_pc1 : ((Try.prog.fieldsOf 87)[1]?).map (fun f => (f.type, f.offset)) = some (3, 1) := by kernel_rfl
theorem A.f_pc2 : ((Try.prog.fieldsOf 87)[2]?).map (fun f => (f.type, f.offset)) = some (55, 2) := by kernel_rfl
theorem A.f_pc3 : ((Try.prog.fieldsOf 87)[3]?).map (fun f => (f.type, f.offset)) = some (85, 6) := by kernel_rfl
theorem A.u_st : Try.prog.underlying 28 = some (.struct (Try.prog.fieldsOf 28)) := by kernel_rfl
theorem A.c_st : Try.prog.cellsOf 28 = 17 := by kernel_rfl
theorem A.f_st0 : ((Try.prog.fieldsOf 28)[0]?).map (fun f => (f.type, f.offset)) = some (3, 0) := by kernel_rfl
theorem A.f_st1 : ((Try.prog.fieldsOf 28)[1]?).map (fun f => (f.type, f.offset)) = some (3, 1) := by kernel_rfl
theorem A.f_st2 : ((Try.prog.fieldsOf 28)[2]?).map (fun f => (f.type, f.offset)) = some (3, 2) := by kernel_rfl
theorem A.f_st3 : ((Try.prog.fieldsOf 28)[3]?).map (fun f => (f.type, f.offset)) = some (2, 3) := by kernel_rfl
theorem A.f_st4 : ((Try.prog.fieldsOf 28)[4]?).map (fun f => (f.type, f.offset)) = some (25, 4) := by kernel_rfl
theorem A.f_st5 : ((Try.prog.fieldsOf 28)[5]?).map (fun f => (f.type, f.offset)) = some (26, 16) := by kernel_rfl
theorem fld {t ty : TypeId} {fs : Array Field} {fuel i off c : Nat} {cs : List Value} {x : DataW H × List MemPlace} (ht : Try.prog.underlying t = some (.struct fs)) (h : DataW.trod enc Try.prog w base sp held fuel t cs = some x) (hf : (fs[i]?).map (fun f => (f.type, f.offset)) = some (ty, off)) (hc : Try.prog.cellsOf ty = c) :
    ∃ n y, DataW.trod enc Try.prog w base sp held n ty ((cs.drop off).take c) = some y := by
  obtain ⟨xs, n, _, _, _, hl, hall⟩ := DataW.trod_struct ht h
  obtain ⟨f, hf1, hf2⟩ := Option.map_eq_some_iff.1 hf
  simp only [Prod.mk.injEq] at hf2
  obtain ⟨rfl, rfl⟩ := hf2
  have h1 := hall i f hf1
  have h2 : i < xs.length := by rw [hl]; exact (Array.getElem?_eq_some_iff.1 hf1).1
  rw [List.getElem?_eq_getElem h2, hc] at h1
  exact ⟨n, _, h1⟩
theorem len_of {t : TypeId} {fs : Array Field} {fuel c : Nat} {cs : List Value} {x : DataW H × List MemPlace} (ht : Try.prog.underlying t = some (.struct fs)) (h : DataW.trod enc Try.prog w base sp held fuel t cs = some x) (hc : Try.prog.cellsOf t = c) : cs.length = c := by
  obtain ⟨xs, n, _, _, hl, _, _⟩ := DataW.trod_struct ht h
  rw [hl, hc]
theorem one_int {t : TypeId} {n : Nat} {c : Value} {y : DataW H × List MemPlace} (ht : Try.prog.underlying t = some (.int .i64)) (h : DataW.trod enc Try.prog w base sp held n t [c] = some y) : ∃ a, c = .int .i64 a := by
  obtain ⟨a, e, _, _⟩ := DataW.trod_int ht h
  exact ⟨a, by simpa using e⟩
theorem one_wf {t : TypeId} {n : Nat} {c : Value} {y : DataW H × List MemPlace} (ht : Try.prog.underlying t = some (.int .i64)) (h : DataW.trod enc Try.prog w base sp held n t [c] = some y) : ∃ a, c = .int .i64 a ∧ WfI a := by
  obtain ⟨a, e, _, hw⟩ := DataW.trod_int ht h
  exact ⟨a, by simpa using e, hw⟩
theorem three_ints {t : TypeId} {fs : Array Field} {n : Nat} {c0 c1 c2 : Value} {y : DataW H × List MemPlace} (ht : Try.prog.underlying t = some (.struct fs)) (f0 : (fs[0]?).map (fun f => (f.type, f.offset)) = some (3, 0)) (f1 : (fs[1]?).map (fun f => (f.type, f.offset)) = some (3, 1)) (f2 : (fs[2]?).map (fun f => (f.type, f.offset)) = some (3, 2))
    (h : DataW.trod enc Try.prog w base sp held n t [c0, c1, c2] = some y) : ∃ a b c, c0 = .int .i64 a ∧ c1 = .int .i64 b ∧ c2 = .int .i64 c := by
  obtain ⟨_, _, h0⟩ := fld ht h f0 A.c_int
  obtain ⟨_, _, h1⟩ := fld ht h f1 A.c_int
  obtain ⟨_, _, h2⟩ := fld ht h f2 A.c_int
  obtain ⟨a, ha⟩ := one_int A.u_int h0
  obtain ⟨b, hb⟩ := one_int A.u_int h1
  obtain ⟨c, hc⟩ := one_int A.u_int h2
  exact ⟨a, b, c, ha, hb, hc⟩
theorem list8 {l : List Value} (h : l.length = 8) : ∃ a b c d e f g i, l = [a, b, c, d, e, f, g, i] := by
  match l, h with
  | [a, b, c, d, e, f, g, i], _ => exact ⟨a, b, c, d, e, f, g, i, rfl⟩
theorem list7 {l : List Value} (h : l.length = 7) : ∃ a b c d e f g, l = [a, b, c, d, e, f, g] := by
  match l, h with
  | [a, b, c, d, e, f, g], _ => exact ⟨a, b, c, d, e, f, g, rfl⟩
theorem list3 {l : List Value} (h : l.length = 3) : ∃ a b c, l = [a, b, c] := by
  match l, h with
  | [a, b, c], _ => exact ⟨a, b, c, rfl⟩
theorem list17 {l : List Value} (h : l.length = 17) : ∃ a b c d e f g i j k m n o p q r u, l = [a, b, c, d, e, f, g, i, j, k, m, n, o, p, q, r, u] := by
  match l, h with
  | [a, b, c, d, e, f, g, i, j, k, m, n, o, p, q, r, u], _ => exact ⟨a, b, c, d, e, f, g, i, j, k, m, n, o, p, q, r, u, rfl⟩
theorem add_plain (b o n : Nat) : (⟨b, o, none⟩ : Addr).add n = ⟨b, o + n, none⟩ := by
  unfold Addr.add
  by_cases h : n = 0
  · subst h; rfl
  · rw [if_neg h]
theorem spot_of {a : Addr} {v : Value} (h : w.cell? a = some v) : a = ⟨a.block, a.off, none⟩ := by
  unfold World.cell? at h
  split at h
  · split at h
    · cases h
    · rename_i hs
      obtain ⟨b, o, s⟩ := a
      cases s with
      | none => rfl
      | some k => exact absurd rfl hs
  · cases h
theorem wd_cells {fuel : Nat} {cs : List Value} {x : DataW H × List MemPlace} (h : DataW.trod enc Try.prog w base sp held fuel 91 cs = some x) : ∃ a0 a1 a2 a3 a4 a5 a6 a7 : Int, cs = [.int .i64 a0, .int .i64 a1, .int .i64 a2, .int .i64 a3, .int .i64 a4, .int .i64 a5, .int .i64 a6, .int .i64 a7] ∧ WfI a7 := by
  obtain ⟨c0, c1, c2, c3, c4, c5, c6, c7, rfl⟩ := list8 (len_of A.u_wd h A.c_wd)
  obtain ⟨_, _, h0⟩ := fld A.u_wd h A.f_wd0 A.c_int
  obtain ⟨_, _, h1⟩ := fld A.u_wd h A.f_wd1 A.c_ins
  obtain ⟨_, _, h2⟩ := fld A.u_wd h A.f_wd2 A.c_pt
  obtain ⟨_, _, h3⟩ := fld A.u_wd h A.f_wd3 A.c_i64
  obtain ⟨a0, rfl⟩ := one_int A.u_int h0
  obtain ⟨a1, a2, a3, rfl, rfl, rfl⟩ := three_ints A.u_ins A.f_ins0 A.f_ins1 A.f_ins2 h1
  obtain ⟨a4, a5, a6, rfl, rfl, rfl⟩ := three_ints A.u_pt A.f_pt0 A.f_pt1 A.f_pt2 h2
  obtain ⟨a7, rfl, hw⟩ := one_wf A.u_i64 h3
  exact ⟨a0, a1, a2, a3, a4, a5, a6, a7, rfl, hw⟩
theorem row_at {base C k len : Nat} {a : Addr} {cs0 cs : List Value} (hC : 0 < C) (h0 : w.cells? base (a.add (0 * C)) C = some cs0) (h : w.cells? base (a.add (k * C)) C = some cs) : a = ⟨a.block, a.off, none⟩ ∧ a.block < w.heap.size ∧ ∀ j, j < C → w.cell? ⟨a.block, a.off + k * C + j, none⟩ = cs[j]? := by
  obtain ⟨_, l0, e0⟩ := World.cells?_some h0
  obtain ⟨_, l1, e1⟩ := World.cells?_some h
  have hz : ∃ v, w.cell? a = some v := by
    have h1 := e0 0 hC
    rw [Nat.zero_mul] at h1
    have h2 : (a.add 0).add 0 = a := by simp [Addr.add]
    rw [h2] at h1
    exact ⟨_, h1.trans (List.getElem?_eq_getElem (by omega))⟩
  obtain ⟨v, hv⟩ := hz
  have hs := spot_of hv
  refine ⟨hs, World.block_lt_of_cell? w _ hv, fun j hj => ?_⟩
  have h1 := e1 j hj
  rw [hs, add_plain, add_plain] at h1
  exact h1
theorem wds_at {fuel : Nat} {u : Value} {x : DataW H × List MemPlace} (hsp : ∀ b, sp b = true) (h : DataW.trod enc Try.prog w base sp held fuel 85 [u] = some x) : WdAt w u := by
  rcases open_slice A.u_wds h with ⟨hc, _⟩ | ⟨a, len, cap, m, n, D, Pl, hc, hb, hl, hm, hmm, _, hall⟩
  · simp only [List.cons.injEq, and_true] at hc
    exact ⟨none, 0, 0, hc, Nat.le_refl _, Nat.zero_le _, fun k hk => absurd hk (Nat.not_lt_zero _)⟩
  · simp only [List.cons.injEq, and_true] at hc
    refine ⟨some a, len, cap, hc, hl, hm, fun k hk => ?_⟩
    rw [hsp, if_pos rfl] at hmm
    obtain ⟨cs0, g0, _⟩ := hall 0 (by omega)
    obtain ⟨cs, g1, g2⟩ := hall k (by omega)
    rw [A.c_wd] at g0 g1
    obtain ⟨hs, hlt, hcell⟩ := row_at (k := k) (len := len) (by decide) g0 g1
    obtain ⟨a0, a1, a2, a3, a4, a5, a6, a7, rfl, hw⟩ := wd_cells g2
    exact ⟨a.block, a.off, by rw [← hs], hlt, a0, a1, a2, a3, a4, a5, a6, a7, hcell 0 (by decide), hcell 1 (by decide), hcell 2 (by decide), hcell 3 (by decide), hcell 4 (by decide), hcell 5 (by decide), hcell 6 (by decide), hcell 7 (by decide), hw⟩
theorem frs_at {fuel : Nat} {u : Value} {x : DataW H × List MemPlace} (hsp : ∀ b, sp b = true) (h : DataW.trod enc Try.prog w base sp held fuel 26 [u] = some x) : FrIn w u := by
  rcases open_slice A.u_frs h with ⟨hc, _⟩ | ⟨a, len, cap, m, n, D, Pl, hc, hb, hl, hm, hmm, _, hall⟩
  · simp only [List.cons.injEq, and_true] at hc
    exact ⟨none, 0, 0, hc, Nat.le_refl _, Nat.zero_le _, fun k hk => absurd hk (Nat.not_lt_zero _)⟩
  · simp only [List.cons.injEq, and_true] at hc
    refine ⟨some a, len, cap, hc, hl, hm, fun k hk => ?_⟩
    rw [hsp, if_pos rfl] at hmm
    obtain ⟨cs0, g0, _⟩ := hall 0 (by omega)
    obtain ⟨cs, g1, g2⟩ := hall k (by omega)
    rw [A.c_fr] at g0 g1
    obtain ⟨hs, hlt, hcell⟩ := row_at (k := k) (len := len) (by decide) g0 g1
    obtain ⟨c0, c1, c2, rfl⟩ := list3 (len_of A.u_fr g2 A.c_fr)
    obtain ⟨a0, a1, a2, rfl, rfl, rfl⟩ := three_ints A.u_fr A.f_fr0 A.f_fr1 A.f_fr2 g2
    exact ⟨a.block, a.off, by rw [← hs], hlt, a0, a1, a2, hcell 0 (by decide), hcell 1 (by decide), hcell 2 (by decide)⟩
theorem pcs_at {fuel : Nat} {u : Value} {x : DataW H × List MemPlace} (hsp : ∀ b, sp b = true) (h : DataW.trod enc Try.prog w base sp held fuel 22 [u] = some x) : PcAt w u := by
  rcases open_slice A.u_pcs h with ⟨hc, _⟩ | ⟨a, len, cap, m, n, D, Pl, hc, hb, hl, hm, hmm, _, hall⟩
  · simp only [List.cons.injEq, and_true] at hc
    exact ⟨none, 0, 0, hc, Nat.le_refl _, Nat.zero_le _, fun k hk => absurd hk (Nat.not_lt_zero _)⟩
  · simp only [List.cons.injEq, and_true] at hc
    refine ⟨some a, len, cap, hc, hl, hm, fun k hk => ?_⟩
    rw [hsp, if_pos rfl] at hmm
    obtain ⟨cs0, g0, _⟩ := hall 0 (by omega)
    obtain ⟨cs, g1, g2⟩ := hall k (by omega)
    rw [A.c_pc] at g0 g1
    obtain ⟨hs, hlt, hcell⟩ := row_at (k := k) (len := len) (by decide) g0 g1
    obtain ⟨c0, c1, c2, c3, c4, c5, c6, rfl⟩ := list7 (len_of A.u_pc g2 A.c_pc)
    obtain ⟨_, _, h0⟩ := fld A.u_pc g2 A.f_pc0 A.c_bool
    obtain ⟨_, _, h1⟩ := fld A.u_pc g2 A.f_pc1 A.c_int
    obtain ⟨_, _, h2⟩ := fld A.u_pc g2 A.f_pc2 A.c_rg
    obtain ⟨_, _, h3⟩ := fld A.u_pc g2 A.f_pc3 A.c_wds
    obtain ⟨b0, e0, _⟩ := DataW.trod_bool A.u_bool h0
    simp only [List.drop_zero, List.take_succ_cons, List.take_zero, List.cons.injEq, and_true] at e0
    subst e0
    obtain ⟨md, rfl⟩ := one_int A.u_int h1
    obtain ⟨_, _, r0⟩ := fld A.u_rg h2 A.f_rg0 A.c_int
    obtain ⟨_, _, r1⟩ := fld A.u_rg h2 A.f_rg1 A.c_int
    obtain ⟨_, _, r2⟩ := fld A.u_rg h2 A.f_rg2 A.c_int
    obtain ⟨_, _, r3⟩ := fld A.u_rg h2 A.f_rg3 A.c_int
    obtain ⟨x1, rfl⟩ := one_int A.u_int r0
    obtain ⟨x2, rfl⟩ := one_int A.u_int r1
    obtain ⟨x3, rfl⟩ := one_int A.u_int r2
    obtain ⟨x4, rfl⟩ := one_int A.u_int r3
    exact ⟨a.block, a.off, by rw [← hs], hlt, b0, md, x1, x2, x3, x4, c6, wds_at hsp h3, hcell 0 (by decide), hcell 1 (by decide), hcell 2 (by decide), hcell 3 (by decide), hcell 4 (by decide), hcell 5 (by decide), hcell 6 (by decide)⟩
theorem beg_at2 {fuel : Nat} {cs : List Value} {x : DataW H × List MemPlace} (hsp : ∀ b, sp b = true) (h : DataW.trod enc Try.prog w base sp held fuel 28 cs = some x) : ∃ (s : St) (u : Value), cs = (begC s u).toList ∧ FrIn w u ∧ WfI s.a := by
  obtain ⟨c0, c1, c2, c3, c4, c5, c6, c7, c8, c9, c10, c11, c12, c13, c14, c15, c16, rfl⟩ := list17 (len_of A.u_st h A.c_st)
  obtain ⟨_, _, h0⟩ := fld A.u_st h A.f_st0 A.c_int
  obtain ⟨_, _, h1⟩ := fld A.u_st h A.f_st1 A.c_int
  obtain ⟨_, _, h2⟩ := fld A.u_st h A.f_st2 A.c_int
  obtain ⟨_, _, h3⟩ := fld A.u_st h A.f_st3 A.c_i64
  obtain ⟨_, _, h4⟩ := fld A.u_st h A.f_st4 A.c_arr
  obtain ⟨_, _, h5⟩ := fld A.u_st h A.f_st5 A.c_frs
  obtain ⟨s0, rfl⟩ := one_int A.u_int h0
  obtain ⟨s1, rfl⟩ := one_int A.u_int h1
  obtain ⟨s2, rfl⟩ := one_int A.u_int h2
  obtain ⟨s3, rfl, hw⟩ := one_wf A.u_i64 h3
  obtain ⟨xs, m, _, _, _, hl, hall⟩ := DataW.trod_array A.u_arr h4
  rw [A.c_pt] at hall
  have g0 := hall 0 (by decide)
  have g1 := hall 1 (by decide)
  have g2 := hall 2 (by decide)
  have g3 := hall 3 (by decide)
  rw [List.getElem?_eq_getElem (by omega)] at g0 g1 g2 g3
  obtain ⟨p0, p1, p2, rfl, rfl, rfl⟩ := three_ints A.u_pt A.f_pt0 A.f_pt1 A.f_pt2 g0
  obtain ⟨p3, p4, p5, rfl, rfl, rfl⟩ := three_ints A.u_pt A.f_pt0 A.f_pt1 A.f_pt2 g1
  obtain ⟨p6, p7, p8, rfl, rfl, rfl⟩ := three_ints A.u_pt A.f_pt0 A.f_pt1 A.f_pt2 g2
  obtain ⟨p9, p10, p11, rfl, rfl, rfl⟩ := three_ints A.u_pt A.f_pt0 A.f_pt1 A.f_pt2 g3
  exact ⟨⟨s0, s1, s2, s3, ⟨p0, p1, p2⟩, ⟨p3, p4, p5⟩, ⟨p6, p7, p8⟩, ⟨p9, p10, p11⟩, false⟩, c16, rfl, frs_at hsp h5, hw⟩
theorem beg_at {fuel : Nat} {cs : List Value} {x : DataW H × List MemPlace} (hsp : ∀ b, sp b = true) (h : DataW.trod enc Try.prog w base sp held fuel 28 cs = some x) : ∃ (s : St) (u : Value), cs = (begC s u).toList ∧ FrIn w u := by
  obtain ⟨s, u, a, b, _⟩ := beg_at2 hsp h
  exact ⟨s, u, a, b⟩
end
end Go.Proofs.Ytiakonmamkfopaa
