/- A segment of instructions; a memory of segments. A memory of one segment; that 5 is told. -/
import Derived.Test.YtiakonmamkfopaaZCpuU
namespace Go.Proofs.Ytiakonmamkfopaa
open Go.RowKit Go.ChangeShapes
set_option linter.unusedVariables false
set_option maxRecDepth 100000
/-- block N holds seven cells -/
def blk7 (w : World) (N : Nat) (ty : TypeId) (a0 a1 a2 a3 a4 a5 a6 : Value) : Prop := w.heap[N]? = some (.cells #[a0, a1, a2, a3, a4, a5, a6] ty (0, 0))
theorem blk7.cell {w : World} {N : Nat} {ty : TypeId} {a0 a1 a2 a3 a4 a5 a6 : Value} (h : blk7 w N ty a0 a1 a2 a3 a4 a5 a6) (j : Nat) : w.cell? ⟨N, j, none⟩ = (#[a0, a1, a2, a3, a4, a5, a6] : Array Value)[j]? := cell_of_row w N j _ _ _ h
theorem blk7.free {w : World} {N : Nat} {ty : TypeId} {a0 a1 a2 a3 a4 a5 a6 : Value} (h : blk7 w N ty a0 a1 a2 a3 a4 a5 a6) (j : Nat) : w.frozen? ⟨N, j, none⟩ = false := by
  simp [World.frozen?, show w.heap[N]? = _ from h]
theorem blk7.lt {w : World} {N : Nat} {ty : TypeId} {a0 a1 a2 a3 a4 a5 a6 : Value} (h : blk7 w N ty a0 a1 a2 a3 a4 a5 a6) : N < w.heap.size := by
  rcases Nat.lt_or_ge N w.heap.size with hlt | hge
  · exact hlt
  · unfold blk7 at h; rw [Array.getElem?_eq_none hge] at h; cases h
theorem blk7.set1 {w : World} {N : Nat} {ty : TypeId} {a0 a1 a2 a3 a4 a5 a6 : Value} (h : blk7 w N ty a0 a1 a2 a3 a4 a5 a6) (b : Value) : blk7 (w.setCell ⟨N, 1, none⟩ b) N ty a0 b a2 a3 a4 a5 a6 := by
  unfold blk7 at h ⊢
  simp [World.setCell, Array.getElem?_modify, h]
theorem set7 {w1 : World} {N : Nat} {ty : TypeId} {a0 a1 a2 a3 a4 a5 a6 : Value} (h : blk7 w1 N ty a0 a1 a2 a3 a4 a5 a6) (b0 b1 b2 b3 b4 b5 b6 : Value) :
    blk7 (((((((w1.setCell ⟨N, 0, none⟩ b0).setCell ⟨N, 1, none⟩ b1).setCell ⟨N, 2, none⟩ b2).setCell ⟨N, 3, none⟩ b3).setCell ⟨N, 4, none⟩ b4).setCell ⟨N, 5, none⟩ b5).setCell ⟨N, 6, none⟩ b6) N ty b0 b1 b2 b3 b4 b5 b6 := by
  unfold blk7 at h ⊢
  simp [World.setCell, Array.getElem?_modify, h]
theorem off7 (w1 : World) (N : Nat) (b0 b1 b2 b3 b4 b5 b6 : Value) : Off (· = N) w1 (((((((w1.setCell ⟨N, 0, none⟩ b0).setCell ⟨N, 1, none⟩ b1).setCell ⟨N, 2, none⟩ b2).setCell ⟨N, 3, none⟩ b3).setCell ⟨N, 4, none⟩ b4).setCell ⟨N, 5, none⟩ b5).setCell ⟨N, 6, none⟩ b6) :=
  (((((( off1 w1 N 0 b0).trans (off1 _ N 1 b1)).trans (off1 _ N 2 b2)).trans (off1 _ N 3 b3)).trans (off1 _ N 4 b4)).trans (off1 _ N 5 b5)).trans (off1 _ N 6 b6)
theorem row_blk {w : World} {B : Nat} {e : TypeId} {size n g cap : Nat} {xs : List Value} (h : w.ownsRow B e size (.slice (some ⟨g, 0, none⟩) n cap) n xs) : ∃ cs, w.heap[g]? = some (.cells cs e (0, 0)) := by
  rcases h.2 with ⟨hv, _⟩ | ⟨g', cap', cur, hv, hb, hg, _⟩
  · cases hv
  · cases hv; exact ⟨cur, hg⟩
end Go.Proofs.Ytiakonmamkfopaa
namespace Go.Proofs.Ytiakonmamkfopaa
open Go.RowKit Go.ChangeShapes
set_option linter.unusedVariables false
set_option maxRecDepth 100000
theorem mem_new (W : World) (B : Nat) (g : Sg) (u : Value) (hu : W.ownsRow B 2 1 u g.ws.length (g.ws.map (Value.int .i64))) (hlen : g.ws.length < 1000000) (hB : B ≤ W.heap.size) :
    MemOk ((W.alloc (.cells #[.bool g.is, u, .int .i64 g.md, .int .i64 g.r1, .int .i64 g.r2, .int .i64 g.r3, .int .i64 g.g] 57)).alloc (.cells #[.slice (some ⟨W.heap.size, 0, none⟩) 1 1, .bool false, .int .i64 0, .int .i64 0, .int .i64 0, .int .i64 0] 47)) B (W.heap.size + 1) [g] ∧
    memAt ((W.alloc (.cells #[.bool g.is, u, .int .i64 g.md, .int .i64 g.r1, .int .i64 g.r2, .int .i64 g.r3, .int .i64 g.g] 57)).alloc (.cells #[.slice (some ⟨W.heap.size, 0, none⟩) 1 1, .bool false, .int .i64 0, .int .i64 0, .int .i64 0, .int .i64 0] 47)) B (W.heap.size + 1) (.slice (some ⟨W.heap.size, 0, none⟩) 1 1) false 0 0 0 0 := by
  have hm : memAt ((W.alloc (.cells #[.bool g.is, u, .int .i64 g.md, .int .i64 g.r1, .int .i64 g.r2, .int .i64 g.r3, .int .i64 g.g] 57)).alloc (.cells #[.slice (some ⟨W.heap.size, 0, none⟩) 1 1, .bool false, .int .i64 0, .int .i64 0, .int .i64 0, .int .i64 0] 47)) B (W.heap.size + 1) (.slice (some ⟨W.heap.size, 0, none⟩) 1 1) false 0 0 0 0 := by
    have h := heap_alloc_new (W.alloc (.cells #[.bool g.is, u, .int .i64 g.md, .int .i64 g.r1, .int .i64 g.r2, .int .i64 g.r3, .int .i64 g.g] 57)) (.cells #[.slice (some ⟨W.heap.size, 0, none⟩) 1 1, .bool false, .int .i64 0, .int .i64 0, .int .i64 0, .int .i64 0] 47)
    rw [World.size_alloc] at h
    exact h
  have hO : Off (fun _ => False) W ((W.alloc (.cells #[.bool g.is, u, .int .i64 g.md, .int .i64 g.r1, .int .i64 g.r2, .int .i64 g.r3, .int .i64 g.g] 57)).alloc (.cells #[.slice (some ⟨W.heap.size, 0, none⟩) 1 1, .bool false, .int .i64 0, .int .i64 0, .int .i64 0, .int .i64 0] 47)) := ((Off.refl _ _).alloc _).alloc _
  have h7 := Off.keeps (ex := fun _ => False) ((Off.refl _ _).alloc (.cells #[.slice (some ⟨W.heap.size, 0, none⟩) 1 1, .bool false, .int .i64 0, .int .i64 0, .int .i64 0, .int .i64 0] 47)) (heap_alloc_new W (.cells #[.bool g.is, u, .int .i64 g.md, .int .i64 g.r1, .int .i64 g.r2, .int .i64 g.r3, .int .i64 g.g] 57)) id
  refine ⟨⟨⟨_, [u], false, 0, 0, 0, 0, hm, ⟨rfl, ?_, ?_⟩⟩, by simp, ?_, Nat.le_trans hB hO.size⟩, hm⟩
  · exact ⟨rfl, .inr ⟨W.heap.size, 1, _, rfl, hB, h7, Nat.le_refl _, by decide, rfl, rfl⟩⟩
  · intro i s v hs hv
    match i with
    | 0 =>
      simp only [List.getElem?_cons_zero, Option.some.injEq] at hs hv
      subst hs; subst hv
      exact Off.row hO hu (fun _ h => h.elim)
    | (k + 1) => simp at hs
  · intro s hs
    simp only [List.mem_singleton] at hs
    subst hs
    exact hlen
theorem MemOk.step {w w' : World} {B Y : Nat} {M : List Sg} {v : Value} {is is' : Bool} {sg off x n sg' off' x' n' : Int} (h : MemOk w B Y M) (hma : memAt w B Y v is sg off x n) (ho : Off (· = Y) w w') (hma' : memAt w' B Y v is' sg' off' x' n') : MemOk w' B Y M := by
  obtain ⟨⟨v0, vs, is0, sg0, off0, x0, n0, hm1, hm2⟩, hlen, hws, hB⟩ := h
  have he := (show w.heap[Y]? = _ from hm1).symm.trans hma
  simp only [Option.some.injEq, Obj.cells.injEq, Array.mk.injEq, List.cons.injEq] at he
  obtain ⟨⟨rfl, _⟩, _⟩ := he
  exact ⟨⟨v0, vs, is', sg', off', x', n', hma', hm2.off ho (by rintro k rfl cs h1; have h2 := (show w.heap[k]? = _ from hm1).symm.trans h1; simp at h2) (by rintro k rfl cs h1; have h2 := (show w.heap[k]? = _ from hm1).symm.trans h1; simp at h2)⟩, hlen, hws, Nat.le_trans hB ho.size⟩
theorem fe_at (M : List Sg) (s : St) (g : Sg) (S K : Nat) (op p n : Int) (hM : M[S]? = some g) (hi : g.is = true) (hm : g.has 4 = true) (he : mayExec g.r1 g.r2 s.ring = true) (hs : s.seg = S) (hK : s.off = K) (hw : g.ws[K]? = some (encI op p n))
    (h0 : 0 ≤ op) (h1 : op < 23) (h2 : 0 ≤ p) (h3 : p < 4) (h4 : -2147483648 ≤ n) (h5 : n ≤ 2147483647) : feR M s = .ok (op, p, n) := by
  have hg : seg? M s.seg = some g := by
    unfold seg?
    rw [hs, if_neg (by omega), Int.toNat_natCast, hM]
    simp [hi]
  have hk : K < g.ws.length := (List.getElem?_eq_some_iff.1 hw).1
  have hd : g.ws.getD s.off.toNat 0 = encI op p n := by rw [hK, Int.toNat_natCast, List.getD_eq_getElem?_getD, hw]; rfl
  obtain ⟨e1, e2, e3, e4⟩ := encI_dec op p n h0 h1 h2 h3 h4 h5
  unfold feR
  simp only [hg, hm, he, hd, e1, e2, e3, e4, Bool.and_self, Bool.true_eq_false, if_false, if_true]
  rw [if_neg (by omega)]
/-- a segment of ring 4, all modes -/
def Sg.plain (ws : List Int) : Sg := ⟨true, ws, 7, 4, 4, 4, 0⟩
theorem plain_has (ws : List Int) (m : Int) (h : m = 1 ∨ m = 2 ∨ m = 4) : (Sg.plain ws).has m = true := by
  have h1 : bits .and .i64 7 1 = 1 := by decide +kernel
  have h2 : bits .and .i64 7 2 = 2 := by decide +kernel
  have h4 : bits .and .i64 7 4 = 4 := by decide +kernel
  unfold Sg.has Sg.plain
  rcases h with rfl | rfl | rfl
  · rw [h1]; rfl
  · rw [h2]; rfl
  · rw [h4]; rfl
theorem stk_nil (w : World) : stkAt w (.slice none 0 0) [] := ⟨rfl, .inl ⟨rfl, rfl⟩⟩
theorem known_st1 : stR [Sg.plain [encI 3 0 5, encI 22 0 0]] St.new [] = .ok ⟨{ St.new with off := 1, a := 5 }, [], false, 0, none⟩ := by
  have h := fe_at [Sg.plain [encI 3 0 5, encI 22 0 0]] St.new (Sg.plain [encI 3 0 5, encI 22 0 0]) 0 0 3 0 5 rfl rfl (plain_has _ _ (by simp)) (by decide) rfl rfl rfl (by decide) (by decide) (by decide) (by decide) (by decide) (by decide)
  unfold stR
  rw [if_neg (by decide), h]
  rfl
theorem known_st2 : stR [Sg.plain [encI 3 0 5, encI 22 0 0]] { St.new with off := 1, a := 5 } [] = .ok ⟨{ St.new with off := 2, a := 5 }, [], true, 5, none⟩ := by
  have h := fe_at [Sg.plain [encI 3 0 5, encI 22 0 0]] { St.new with off := 1, a := 5 } (Sg.plain [encI 3 0 5, encI 22 0 0]) 0 1 22 0 0 rfl rfl (plain_has _ _ (by simp)) (by decide) rfl rfl rfl (by decide) (by decide) (by decide) (by decide) (by decide) (by decide)
  unfold stR
  rw [if_neg (by decide), h]
  rfl
theorem MemOk.below2 {w w' : World} {B Y : Nat} {M : List Sg} (h : MemOk w B Y M) (hb : Below w.heap.size w w') : MemOk w' B Y M := h.below hb
theorem st_alloc (w : World) : ∃ W, w.alloc (.cells (stC St.zero (.slice none 0 0)) 33) = W ∧ stAt W w.heap.size St.zero (.slice none 0 0) ∧ Below w.heap.size w W := ⟨_, rfl, heap_alloc_new w (.cells (stC St.zero (.slice none 0 0)) 33), below_al0 w _⟩
set_option maxHeartbeats 4000000 in
theorem c_known (w : World) : Calls Try.prog 14 #[] w fun e w' => e = .returned (.bool true) ∧ Below w.heap.size w w' := by
  have hk1 := Lib.hid known_st1
  have hk2 := Lib.hid known_st2
  have HB := Lib.hid (Below.refl w.heap.size w)
  go_enter Try.func14, Try.ntmps14
  go_wp2_with (first | (go_at_call 36; refine (r_Encode _ _ _ (by decide) (by decide) (by decide) (by decide) (by decide) (by decide) _).mono ?_; rintro e w1 ⟨rfl, hb1⟩; have HB := Lib.hid (below2 HB.out hb1); clear hb1))
  obtain ⟨W2, hW2, HM, HA, HB2⟩ : ∃ W, ((w1.alloc (.cells #[.int .i64 (encI 3 0 5), .int .i64 (encI 22 0 0)] 2)).alloc (.cells #[.bool true, .slice (some ⟨w1.heap.size, 0, none⟩) 2 2, .int .i64 7, .int .i64 4, .int .i64 4, .int .i64 4, .int .i64 0] 57)).alloc (.cells #[.slice (some ⟨w1.heap.size + 1, 0, none⟩) 1 1, .bool false, .int .i64 0, .int .i64 0, .int .i64 0, .int .i64 0] 47) = W ∧ Hid (MemOk W 0 (w1.heap.size + 1 + 1) [(Sg.plain [encI 3 0 5, encI 22 0 0])]) ∧ Hid (memAt W 0 (w1.heap.size + 1 + 1) (.slice (some ⟨w1.heap.size + 1, 0, none⟩) 1 1) false 0 0 0 0) ∧ Hid (Below w.heap.size w W) := by
    have hu : (w1.alloc (.cells #[.int .i64 (encI 3 0 5), .int .i64 (encI 22 0 0)] 2)).ownsRow 0 2 1 (.slice (some ⟨w1.heap.size, 0, none⟩) 2 2) 2 [.int .i64 (encI 3 0 5), .int .i64 (encI 22 0 0)] := ⟨rfl, .inr ⟨_, 2, _, rfl, Nat.zero_le _, heap_alloc_new _ _, Nat.le_refl _, by decide, rfl, rfl⟩⟩
    have hm := mem_new _ 0 (Sg.plain [encI 3 0 5, encI 22 0 0]) _ hu (by decide) (Nat.zero_le _)
    rw [World.size_alloc] at hm
    exact ⟨_, rfl, hm.1, hm.2, below_al (below_al (below_al HB.out _) _) _⟩
  rw [hW2]
  clear hW2
  refine (c_New W2).mono ?_
  rintro e w3 ⟨rfl, hb3⟩
  have HM3 := Lib.hid (HM.out.below hb3)
  have HA3 : Hid (memAt w3 0 (w1.heap.size + 1 + 1) (.slice (some ⟨w1.heap.size + 1, 0, none⟩) 1 1) false 0 0 0 0) := Off.keeps (.of_below (ex := fun _ => False) hb3) HA.out id
  have HB3 := Lib.hid (below2 HB2.out hb3)
  have hY : w.heap.size ≤ w1.heap.size + 1 + 1 := by have := HB.out.size; omega
  clear hb3
  go_wp2_with fail
  refine (c_Step_ok w3 0 _ St.new _ [(Sg.plain [encI 3 0 5, encI 22 0 0])] [] HM3.out (stk_nil _) (by decide) _ _ _ _ _ _ HA3.out _ hk1.out).mono ?_
  rintro e w4 ⟨stk1, rfl, hs1, hmt1, ho1⟩
  obtain ⟨ad1, cp1, hv1, _, _⟩ := row_shape hs1
  subst hv1
  have HM4 := Lib.hid (HM3.out.step HA3.out ho1 hmt1)
  have HB4 := Lib.hid (Off.below HB3.out ho1 HB3.out.size (fun k hk => by omega))
  have HS4 := Lib.hid hs1
  have HA4 := Lib.hid hmt1
  clear hs1 hmt1 ho1
  obtain ⟨V4, hV4, Z4, Y4⟩ := st_alloc w4
  have hV4 : Hid _ := Lib.hid hV4
  go_wp2_with (first | (refine wpList_store_st (s' := { St.new with off := 1, a := 5 }) (stk' := .slice ad1 0 cp1) rfl (.tmp 6) (.tmp 37) rfl rfl rfl (show stAt _ w4.heap.size St.zero (.slice none 0 0) from heap_alloc_new w4 (.cells (stC St.zero (.slice none 0 0)) 33)) rfl ?_; intro w5 S5 F5; have HB5 : Hid (Below w4.heap.size w4 w5) := Off.below (below_al0 w4 (.cells (stC St.zero (.slice none 0 0)) 33)) F5 (by simp) (fun k hk => by omega); have S5 := Lib.hid S5; clear F5) | (refine wpList_load_st rfl (.tmp 6) rfl rfl (st_range S5.out) ?_))
  have HM5 := Lib.hid (HM4.out.below HB5.out)
  have HA5 : Hid (memAt w5 0 (w1.heap.size + 1 + 1) (.slice (some ⟨w1.heap.size + 1, 0, none⟩) 1 1) false 0 0 0 0) := Off.keeps (.of_below (ex := fun _ => False) HB5.out) HA4.out id
  have HS5 := Lib.hid (stkAt.off (ex := fun _ => False) HS4.out (.of_below HB5.out) (fun _ h => h.elim))
  have HBx := Lib.hid (below2 HB4.out HB5.out)
  refine (c_Step_ok w5 0 _ { St.new with off := 1, a := 5 } (.slice ad1 0 cp1) [(Sg.plain [encI 3 0 5, encI 22 0 0])] [] HM5.out HS5.out (by decide) _ _ _ _ _ _ HA5.out _ hk2.out).mono ?_
  rintro e w6 ⟨stk2, rfl, hs2, hmt2, ho2⟩
  obtain ⟨ad2, cp2, hv2, _, _⟩ := row_shape hs2
  subst hv2
  have HB6 := Lib.hid (Off.below HBx.out ho2 HBx.out.size (fun k hk => by omega))
  clear hs2 hmt2 ho2
  go_wp2_with (first | (refine wpList_store_st (s' := { St.new with off := 2, a := 5 }) (stk' := .slice ad2 0 cp2) rfl (.tmp 10) (.tmp 46) rfl rfl rfl (show stAt _ w6.heap.size St.zero (.slice none 0 0) from heap_alloc_new w6 (.cells (stC St.zero (.slice none 0 0)) 33)) rfl ?_; intro w7 S7 F7; have HB7 : Hid (Below w6.heap.size w6 w7) := Off.below (below_al0 w6 (.cells (stC St.zero (.slice none 0 0)) 33)) F7 (by simp) (fun k hk => by omega); clear S7 F7))
  go_ret
  exact ⟨rfl, below2 HB6.out HB7.out⟩
end Go.Proofs.Ytiakonmamkfopaa
