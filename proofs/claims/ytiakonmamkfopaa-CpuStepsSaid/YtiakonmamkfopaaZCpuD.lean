/- The processor's run: its block; the segment that it asks for. -/
import Derived.Test.YtiakonmamkfopaaZCpuC
namespace Go.Proofs.Ytiakonmamkfopaa
open Go.RowKit Go.ChangeShapes
set_option linter.unusedVariables false
set_option maxRecDepth 100000
/-- a pointer -/
structure Pt where
  seg : Int
  off : Int
  ring : Int
/-- a processor's state but for its stack -/
structure St where
  seg : Int
  off : Int
  ring : Int
  a : Int
  p0 : Pt
  p1 : Pt
  p2 : Pt
  p3 : Pt
  hal : Bool
/-- the cells of a run -/
def runC (s : St) (stk mv : Value) (told : Bool) (out : Int) : Array Value :=
  #[.int .i64 s.seg, .int .i64 s.off, .int .i64 s.ring, .int .i64 s.a, .int .i64 s.p0.seg, .int .i64 s.p0.off, .int .i64 s.p0.ring, .int .i64 s.p1.seg, .int .i64 s.p1.off, .int .i64 s.p1.ring,
    .int .i64 s.p2.seg, .int .i64 s.p2.off, .int .i64 s.p2.ring, .int .i64 s.p3.seg, .int .i64 s.p3.off, .int .i64 s.p3.ring, stk, .bool s.hal, mv, .bool told, .int .i64 out]
def runAt (w : World) (R : Nat) (s : St) (stk mv : Value) (told : Bool) (out : Int) : Prop := w.heap[R]? = some (.cells (runC s stk mv told out) 99 (0, 0))
/-- a memory behind an interface -/
def memV (Y : Nat) : Value := .iface 43 (.pointer (some ⟨Y, 0, none⟩))
theorem runAt.cell {w : World} {R : Nat} {s : St} {stk mv : Value} {told : Bool} {out : Int} (h : runAt w R s stk mv told out) (j : Nat) : w.cell? ⟨R, j, none⟩ = (runC s stk mv told out)[j]? := cell_of_row w R j _ _ _ h
theorem runAt.free {w : World} {R : Nat} {s : St} {stk mv : Value} {told : Bool} {out : Int} (h : runAt w R s stk mv told out) (j : Nat) : w.frozen? ⟨R, j, none⟩ = false := by
  simp [World.frozen?, show w.heap[R]? = _ from h]
theorem runAt.lt {w : World} {R : Nat} {s : St} {stk mv : Value} {told : Bool} {out : Int} (h : runAt w R s stk mv told out) : R < w.heap.size := by
  rcases Nat.lt_or_ge R w.heap.size with hlt | hge
  · exact hlt
  · unfold runAt at h; rw [Array.getElem?_eq_none hge] at h; cases h
/-- the memory, as the processor has it: block Y, the segments M -/
structure MemOk (w : World) (B Y : Nat) (M : List Sg) : Prop where
  ex : ∃ v vs is sg off x n, memAt w B Y v is sg off x n ∧ Segs w B v vs M
  len : M.length < 1000000
  ws : ∀ s ∈ M, s.ws.length < 1000000
  base : B ≤ w.heap.size
/-- the segment of a number, if there is one -/
def seg? (M : List Sg) (k : Int) : Option Sg := if k < 0 then none else match M[k.toNat]? with
  | some s => if s.is then some s else none
  | none => none
theorem MemOk.below {w w' : World} {B Y : Nat} {M : List Sg} (h : MemOk w B Y M) (hb : Below w.heap.size w w') : MemOk w' B Y M := by
  obtain ⟨⟨v, vs, is, sg, off, x, n, hm1, hm2⟩, hlen, hws, hB⟩ := h
  have ho : Off (fun _ => False) w w' := .of_below hb
  exact ⟨⟨v, vs, is, sg, off, x, n, ho.keeps hm1 id, hm2.off ho (fun _ h => h.elim) (fun _ h => h.elim)⟩, hlen, hws, Nat.le_trans hB hb.size⟩
theorem MemOk.off {w w' : World} {B Y : Nat} {M : List Sg} {ex : Nat → Prop} (h : MemOk w B Y M) (ho : Off ex w w') (h0 : ¬ ex Y) (h1 : ∀ k, ex k → ∀ cs, w.heap[k]? ≠ some (.cells cs 57 (0, 0))) (h2 : ∀ k, ex k → ∀ cs, w.heap[k]? ≠ some (.cells cs 2 (0, 0))) : MemOk w' B Y M := by
  obtain ⟨⟨v, vs, is, sg, off, x, n, hm1, hm2⟩, hlen, hws, hB⟩ := h
  exact ⟨⟨v, vs, is, sg, off, x, n, ho.keeps hm1 h0, hm2.off ho h1 h2⟩, hlen, hws, Nat.le_trans hB ho.size⟩
theorem runAt.below {w w' : World} {R : Nat} {s : St} {stk mv : Value} {told : Bool} {out : Int} (h : runAt w R s stk mv told out) (hb : Below w.heap.size w w') : runAt w' R s stk mv told out := (hb.block R h.lt).trans h
theorem seg?_none {M : List Sg} {k : Int} (hk : seg? M k = none) : k < 0 ∨ M.length ≤ k ∨ ∃ s, M[k.toNat]? = some s ∧ s.is = false := by
  unfold seg? at hk
  split at hk
  · exact .inl (by assumption)
  · split at hk
    · rename_i s hs
      refine .inr (.inr ⟨s, hs, ?_⟩)
      cases h : s.is
      · rfl
      · rw [h] at hk; simp at hk
    · rename_i hs
      refine .inr (.inl ?_)
      have := List.getElem?_eq_none_iff.1 hs
      omega
theorem seg?_some {M : List Sg} {k : Int} {s : Sg} (hk : seg? M k = some s) : ∃ K : Nat, k = K ∧ M[K]? = some s ∧ s.is = true := by
  unfold seg? at hk
  split at hk
  · cases hk
  · split at hk
    · rename_i h0 s' hs
      split at hk
      · cases hk
        refine ⟨k.toNat, by omega, hs, by assumption⟩
      · cases hk
    · cases hk
theorem m_none {w : World} {B Y : Nat} {M : List Sg} {k : Int} (hm : MemOk w B Y M) (hk : seg? M k = none) : Calls Try.prog 24 #[.pointer (some ⟨Y, 0, none⟩), .int .i64 k] w fun e w' => e = .returned (.tuple #[noV, .bool false]) ∧ Below w.heap.size w w' := by
  obtain ⟨⟨v, vs, is, sg, off, x, n, hm1, hm2⟩, hlen, hws, hB⟩ := hm
  exact c_MemSegment_none w B Y v vs M is sg off x n k hm1 hm2 hlen (seg?_none hk)
theorem m_some {w : World} {B Y : Nat} {M : List Sg} {k : Int} {s : Sg} (hm : MemOk w B Y M) (hk : seg? M k = some s) : Calls Try.prog 24 #[.pointer (some ⟨Y, 0, none⟩), .int .i64 k] w fun e w' => ∃ u', e = .returned (.tuple #[sgV u' s, .bool true]) ∧ w'.ownsRow B 2 1 u' s.ws.length (s.ws.map (Value.int .i64)) ∧ Below w.heap.size w w' := by
  obtain ⟨K, rfl, hK, hs⟩ := seg?_some hk
  obtain ⟨⟨v, vs, is, sg, off, x, n, hm1, hm2⟩, hlen, hws, hB⟩ := hm
  exact c_MemSegment_some w B Y v vs M is sg off x n K s hm1 hm2 hlen hK hs (hws s (List.mem_of_getElem? hK)) hB
theorem A.method1 (v : Value) (w : World) : (method 256 43 v "Segment").run Try.prog w = .ok (24, v) w := by kernel_rfl
theorem below2 {a b c : World} (h1 : Below a.heap.size a b) (h2 : Below b.heap.size b c) : Below a.heap.size a c := h1.trans (h2.mono h1.size)
theorem below_al {a b : World} (h : Below a.heap.size a b) (o : Obj) : Below a.heap.size a (b.alloc o) := h.alloc h.size o
theorem below_al0 (a : World) (o : Obj) : Below a.heap.size a (a.alloc o) := (Below.refl _ _).alloc (Nat.le_refl _) o
/-- block N holds six cells -/
def blk6 (w : World) (N : Nat) (ty : TypeId) (a0 a1 a2 a3 a4 a5 : Value) : Prop := w.heap[N]? = some (.cells #[a0, a1, a2, a3, a4, a5] ty (0, 0))
theorem blk6.facts {w : World} {N : Nat} {ty : TypeId} {a0 a1 a2 a3 a4 a5 : Value} (h : blk6 w N ty a0 a1 a2 a3 a4 a5) : (w.cell? ⟨N, 0, none⟩ = some a0 ∧ w.cell? ⟨N, 1, none⟩ = some a1 ∧ w.cell? ⟨N, 2, none⟩ = some a2 ∧ w.cell? ⟨N, 3, none⟩ = some a3 ∧ w.cell? ⟨N, 4, none⟩ = some a4 ∧ w.cell? ⟨N, 5, none⟩ = some a5) ∧ ∀ j, w.frozen? ⟨N, j, none⟩ = false :=
  ⟨⟨cell_of_row w N 0 _ _ _ h, cell_of_row w N 1 _ _ _ h, cell_of_row w N 2 _ _ _ h, cell_of_row w N 3 _ _ _ h, cell_of_row w N 4 _ _ _ h, cell_of_row w N 5 _ _ _ h⟩, fun j => by simp [World.frozen?, show w.heap[N]? = _ from h]⟩
theorem blk6.lt {w : World} {N : Nat} {ty : TypeId} {a0 a1 a2 a3 a4 a5 : Value} (h : blk6 w N ty a0 a1 a2 a3 a4 a5) : N < w.heap.size := by
  rcases Nat.lt_or_ge N w.heap.size with hlt | hge
  · exact hlt
  · unfold blk6 at h; rw [Array.getElem?_eq_none hge] at h; cases h
theorem blk6.below {w w' : World} {N : Nat} {ty : TypeId} {a0 a1 a2 a3 a4 a5 : Value} (h : blk6 w N ty a0 a1 a2 a3 a4 a5) (hb : Below w.heap.size w w') : blk6 w' N ty a0 a1 a2 a3 a4 a5 := (hb.block N h.lt).trans h
theorem blk6.new (w : World) (ty : TypeId) (a0 a1 a2 a3 a4 a5 : Value) : blk6 (w.alloc (.cells #[a0, a1, a2, a3, a4, a5] ty)) w.heap.size ty a0 a1 a2 a3 a4 a5 := heap_alloc_new w _
theorem fin6 {w1 : World} {N : Nat} {ty : TypeId} {a0 a1 a2 a3 a4 a5 : Value} (h : blk6 w1 N ty a0 a1 a2 a3 a4 a5) (b0 b1 b2 b3 b4 b5 : Value) (o : Obj) : ∃ W, ((((((w1.setCell ⟨N, 0, none⟩ b0).setCell ⟨N, 1, none⟩ b1).setCell ⟨N, 2, none⟩ b2).setCell ⟨N, 3, none⟩ b3).setCell ⟨N, 4, none⟩ b4).setCell ⟨N, 5, none⟩ b5).alloc o = W ∧ blk6 W N ty b0 b1 b2 b3 b4 b5 ∧ Off (· = N) w1 W := by
  have hs := set6 h b0 b1 b2 b3 b4 b5
  have ho := off6 (w1 := w1) (N := N) b0 b1 b2 b3 b4 b5
  exact ⟨_, rfl, (Below.heap_alloc _ _ _ (blk6.lt hs)).trans hs, ho.alloc o⟩
theorem c_segment_none (w : World) (B R Y : Nat) (s : St) (stk : Value) (told : Bool) (out : Int) (M : List Sg) (k : Int) (hr : runAt w R s stk (memV Y) told out) (hm : MemOk w B Y M) (hk : seg? M k = none) :
    Calls Try.prog 67 #[.pointer (some ⟨R, 0, none⟩), .int .i64 k] w fun e w' => e = .panicked (flt 35) ∧ Below w.heap.size w w' := by
  have r18 : w.cell? ⟨R, 18, none⟩ = some (.iface 43 (.pointer (some ⟨Y, 0, none⟩))) := hr.cell 18
  have hR := hr.lt
  have hm1 := A.method1
  have HM := Lib.hid hm
  have HK := Lib.hid hk
  have HA := fun o => Lib.hid ((Below.refl w.heap.size w).alloc (Nat.le_refl _) o)
  clear hm hk hr
  go_enter Try.func67, Try.ntmps67
  go_wp2_with (first | (go_at_call 24; refine (m_none (MemOk.below HM.out (HA _).out) HK.out).mono ?_; rintro e w1 ⟨rfl, hb⟩; have hb := Lib.hid hb; unfold noV) | (go_at_call 59; refine (c_must_no _ _).mono ?_; rintro e w2 ⟨rfl, rfl⟩))
  exact ⟨rfl, rfl, below_al (below2 (HA _).out hb.out) _⟩
theorem c_segment_some (w : World) (B R Y : Nat) (s : St) (stk : Value) (told : Bool) (out : Int) (M : List Sg) (k : Int) (g : Sg) (hr : runAt w R s stk (memV Y) told out) (hm : MemOk w B Y M) (hk : seg? M k = some g) :
    Calls Try.prog 67 #[.pointer (some ⟨R, 0, none⟩), .int .i64 k] w fun e w' => ∃ u', e = .returned (sgV u' g) ∧ w'.ownsRow B 2 1 u' g.ws.length (g.ws.map (Value.int .i64)) ∧ Below w.heap.size w w' := by
  have r18 : w.cell? ⟨R, 18, none⟩ = some (.iface 43 (.pointer (some ⟨Y, 0, none⟩))) := hr.cell 18
  have hR := hr.lt
  have hm1 := A.method1
  have HM := Lib.hid hm
  have HK := Lib.hid hk
  have HA := fun o => Lib.hid ((Below.refl w.heap.size w).alloc (Nat.le_refl _) o)
  clear hm hk hr
  go_enter Try.func67, Try.ntmps67
  go_wp2_with (first | (go_at_call 24; refine (m_some (MemOk.below HM.out (HA _).out) HK.out).mono ?_; rintro e w1 ⟨u', rfl, ho, hb⟩; obtain ⟨ad, cap, hv, _, _⟩ := row_shape ho; subst hv; have ho := Lib.hid ho; have hres := Lib.hid (blk6.below (blk6.new w 60 (.slice none 0 0) (.int .i64 0) (.int .i64 0) (.int .i64 0) (.int .i64 0) (.int .i64 0)) hb); have hb := Lib.hid hb; unfold sgV; obtain ⟨⟨r0, r1, r2, r3, r4, r5⟩, rf⟩ := hres.out.facts; have hN := hres.out.lt) | (go_at_call 59; refine (c_must_ok _ _).mono ?_; rintro e w2 ⟨rfl, rfl⟩))
  obtain ⟨W, hW, hf, hof⟩ := fin6 hres.out (.slice ad g.ws.length cap) (.int .i64 g.md) (.int .i64 g.r1) (.int .i64 g.r2) (.int .i64 g.r3) (.int .i64 g.g) (.cells #[.slice ad g.ws.length cap, .int .i64 g.md, .int .i64 g.r1, .int .i64 g.r2, .int .i64 g.r3, .int .i64 g.g] 60)
  rw [hW]
  clear hW r0 r1 r2 r3 r4 r5 rf
  obtain ⟨⟨q0, q1, q2, q3, q4, q5⟩, _⟩ := hf.facts
  refine bodyPost_ret (v := sgV (.slice ad g.ws.length cap) g) (by simp [sgV, results, Try.results67, go_sem, q0, q1, q2, q3, q4, q5]) rfl ⟨_, rfl, ?_, ?_⟩
  · exact hof.row ho.out (by rintro k rfl cs h; have h := (show w1.heap[w.heap.size]? = _ from hres.out).symm.trans h; simp at h)
  · exact hof.below (below2 (HA _).out hb.out) (below2 (HA _).out hb.out).size (fun k hk => by omega)
end Go.Proofs.Ytiakonmamkfopaa
