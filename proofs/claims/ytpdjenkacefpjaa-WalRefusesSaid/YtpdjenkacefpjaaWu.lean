/- Rows of puts; fill. -/
import Derived.Test.YtpdjenkacefpjaaWs
namespace Go.Proofs.Ytpdjenkacefpjaa
open Go.RowKit Go.ChangeShapes
set_option linter.unusedVariables false
set_option maxRecDepth 100000

theorem A.uLP : Try.prog.underlying 39 = some (.slice 47) := by kernel_rfl
theorem A.infoP : (Try.prog.info? 47).map (fun i => (i.zero, i.size, i.bytes)) = some (some (.agg #[.int .i64 0, .slice none 0 0]), 2, 32) := by kernel_rfl
abbrev PE := (Int × Sec) × Value
/-- the cells of puts -/
def flat (es : List PE) : List Value := es.flatMap fun e => [.int .i64 e.1.1, e.2]
theorem flat_length (es : List PE) : (flat es).length = es.length * 2 := by
  unfold flat
  induction es with
  | nil => rfl
  | cons e r ih => rw [List.flatMap_cons, List.length_append, ih]; simp; omega
theorem flat_get : ∀ (es : List PE) (j : Nat) (e : PE), es[j]? = some e → (flat es)[j * 2]? = some (.int .i64 e.1.1) ∧ (flat es)[j * 2 + 1]? = some e.2
  | [], j, e, h => by simp at h
  | x :: r, 0, e, h => by
    cases h
    exact ⟨rfl, rfl⟩
  | x :: r, j + 1, e, h => by
    have ih := flat_get r j e h
    have e1 : flat (x :: r) = .int .i64 x.1.1 :: x.2 :: flat r := rfl
    rw [e1]
    have e2 : (j + 1) * 2 = j * 2 + 1 + 1 := by omega
    rw [e2]
    exact ih
theorem flat_app (es : List PE) (e : PE) : flat (es ++ [e]) = flat es ++ [.int .i64 e.1.1, e.2] := by unfold flat; rw [List.flatMap_append]; rfl
/-- a put's data -/
structure PutD (w : World) (F : Nat → Prop) (e : PE) : Prop where
  bt : BtAt w e.2 e.1.2
  nF : ∀ a n c, e.2 = .slice (some a) n c → ¬ F a.block ∧ a.block < w.heap.size
  i64 : I64 e.1.1
  len : e.1.2.length ≤ 140737488351232
theorem PutD.off {F ex : Nat → Prop} {w w' : World} {e : PE} (h : PutD w F e) (ho : Off ex w w') (hn : ∀ a n c, e.2 = .slice (some a) n c → ¬ ex a.block) : PutD w' F e :=
  ⟨h.bt.off ho hn, fun a n c e => ⟨(h.nF a n c e).1, Nat.lt_of_lt_of_le (h.nF a n c e).2 ho.size⟩, h.i64, h.len⟩
/-- puts in a row of the call's own -/
structure PutRow (w : World) (A : Nat) (F : Nat → Prop) (v : Value) (es : List PE) : Prop where
  row : w.ownsRow A 47 2 v es.length (flat es)
  data : ∀ e ∈ es, PutD w F e
theorem PutRow.nil (w : World) (A : Nat) (F : Nat → Prop) : PutRow w A F (.slice none 0 0) [] := ⟨World.ownsRow_nil _ _ _ _, fun e he => by simp at he⟩
theorem own_blk {w : World} {A size n : Nat} {e : TypeId} {v : Value} {xs : List Value} (h : w.ownsRow A e size v n xs) {k : Nat} (hk : v.ownBlock = some k) : A ≤ k ∧ ∃ cs, w.heap[k]? = some (.cells cs e (0, 0)) := by
  rcases h.2 with ⟨e, _⟩ | ⟨g, cap, cur, e, hb, hx, _⟩
  · subst e; cases hk
  · subst e; cases hk; exact ⟨hb, _, hx⟩
theorem PutRow.at_ {w : World} {A : Nat} {F : Nat → Prop} {v : Value} {es : List PE} (h : PutRow w A F v es) (hF : ∀ g, v.ownBlock = some g → ¬ F g) : PutAt w F v (es.map (·.1)) := by
  rcases h.row.2 with ⟨e, h0⟩ | ⟨g, cap, cur, e, hb, hx, h1, h2, h3, h4⟩
  · have he : es = [] := List.length_eq_zero_iff.1 h0
    subst he e
    exact ⟨none, 0, rfl, Nat.le_refl _, Nat.zero_le _, fun _ => rfl, fun j p hj => by simp at hj⟩
  · subst e
    refine ⟨_, cap, by rw [List.length_map], by rw [List.length_map]; exact h1, h2, fun e => (by cases e), fun j p hj => ?_⟩
    rw [List.getElem?_map] at hj
    cases hje : es[j]? with
    | none => rw [hje] at hj; cases hj
    | some e =>
      rw [hje] at hj
      cases hj
      have hd := h.data e (List.mem_of_getElem? hje)
      obtain ⟨g1, g2⟩ := flat_get es j e hje
      have c1 := (row_cell h.row (j * 2) g1).2
      have c2 := (row_cell h.row (j * 2 + 1) g2).2
      refine ⟨g, 0, e.2, rfl, ?_⟩
      rw [Nat.zero_add]
      exact ⟨(Array.getElem?_eq_some_iff.1 hx).1, c1, c2, hd.bt, hF g rfl, fun a n c e => (hd.nF a n c e).1, fun a n c e => (hd.nF a n c e).2, hd.i64, hd.len⟩
theorem PutRow.off {w w' : World} {A : Nat} {F ex : Nat → Prop} {v : Value} {es : List PE} (h : PutRow w A F v es) (ho : Off ex w w') (h1 : ∀ g, v.ownBlock = some g → ¬ ex g) (h2 : ∀ e ∈ es, ∀ a n c, e.2 = .slice (some a) n c → ¬ ex a.block) : PutRow w' A F v es := by
  refine ⟨⟨h.row.1, ?_⟩, fun e he => (h.data e he).off ho (h2 e he)⟩
  rcases h.row.2 with h | ⟨g, cap, cur, e, hb, hx, h3⟩
  · exact .inl h
  · exact .inr ⟨g, cap, cur, e, hb, ho.keeps hx (h1 g (by rw [e]; rfl)), h3⟩
theorem PutRow.below {w w' : World} {A : Nat} {F : Nat → Prop} {v : Value} {es : List PE} (h : PutRow w A F v es) (hb : Below w.heap.size w w') : PutRow w' A F v es := h.off (.of_below (ex := fun _ => False) hb) (fun _ _ h => h) (fun _ _ _ _ _ _ h => h)
/-- one put appended to a row of the call's own -/
theorem wp_append_put {w : World} {o : Oper} {a : Act} {K : Act → World → Prop} {Q : Exit → Act → World → Prop} (s x : Operand) (ho : o.op = .call { callee := .builtin .append, args := #[s, x], argTypes := #[39, 39] })
    (base : Nat) (v0 : Value) (es : List PE) (hs : a.eval s = v0) (hown : w.ownsRow base 47 2 v0 es.length (flat es)) (g : Nat) (n : Int) (vd : Option Addr) (m cc : Nat) (b : Sec) (hx : a.eval x = .slice (some ⟨g, 0, none⟩) 1 1) (hc0 : w.cell? ⟨g, 0, none⟩ = some (.int .i64 n)) (hc1 : w.cell? ⟨g, 1, none⟩ = some (.slice vd m cc)) (hb : es.length ≤ 1000) (hbase : base ≤ w.heap.size)
    (h : ∀ ga gc w', w'.ownsRow base 47 2 (.slice (some ⟨ga, 0, none⟩) (es.length + 1) gc) (es.length + 1) (flat (es ++ [((n, b), .slice vd m cc)])) → Off (fun k => v0.ownBlock = some k) w w' → K (a.put o.dst (.slice (some ⟨ga, 0, none⟩) (es.length + 1) gc)) w') : o.wp Try.prog a w K Q := by
  obtain ⟨i0, hin0, hz0, hz1, hz2⟩ := info_parts A.infoP
  refine wp_append_own _ s x 39 ho base 47 i0 _ 2 32 A.uLP hin0 hz0 hz1 hz2 rfl (by decide) v0 es.length (flat es) hs hown ⟨g, 0, none⟩ 1 1 [.int .i64 n, .slice vd m cc] hx rfl (fun j u hj => ?_) (by simp [Value.oneCell']) (by unfold maxLen; omega) (by omega) hbase (fun v' w' r1 r2 _ => ?_)
  · match j, hj with
    | 0, hj => cases hj; exact hc0
    | 1, hj => cases hj; exact hc1
    | z + 2, hj => simp at hj
  · obtain ⟨ga, gc, hv'⟩ := row_some r1 (by omega)
    subst hv'
    refine h ga gc w' ?_ ((Off.refl _ _).grown r2 (fun k hk => .inl hk))
    rw [flat_app]
    exact r1
theorem wpList_append_put {w : World} {ops : Array Oper} {rest : List Oper} {o : Oper} {a : Act} {Q : Exit → Act → World → Prop} (hgd : o.guard = none) (s x : Operand) (ho : o.op = .call { callee := .builtin .append, args := #[s, x], argTypes := #[39, 39] })
    (base : Nat) (v0 : Value) (es : List PE) (hs : a.eval s = v0) (hown : w.ownsRow base 47 2 v0 es.length (flat es)) (g : Nat) (n : Int) (vd : Option Addr) (m cc : Nat) (b : Sec) (hx : a.eval x = .slice (some ⟨g, 0, none⟩) 1 1) (hc0 : w.cell? ⟨g, 0, none⟩ = some (.int .i64 n)) (hc1 : w.cell? ⟨g, 1, none⟩ = some (.slice vd m cc)) (hb : es.length ≤ 1000) (hbase : base ≤ w.heap.size)
    (h : ∀ ga gc w', w'.ownsRow base 47 2 (.slice (some ⟨ga, 0, none⟩) (es.length + 1) gc) (es.length + 1) (flat (es ++ [((n, b), .slice vd m cc)])) → Off (fun k => v0.ownBlock = some k) w w' → wpList Try.prog ops Q rest (a.put o.dst (.slice (some ⟨ga, 0, none⟩) (es.length + 1) gc)) w') : wpList Try.prog ops Q (o :: rest) a w :=
  wpList_plain hgd fun _ hK => wp_append_put s x ho base v0 es hs hown g n vd m cc b hx hc0 hc1 hb hbase fun ga gc w' h2 h3 => hK _ _ (h ga gc w' h2 h3)
/-- a sector of a byte, the first bytes as raw says -/
def fillB (y : UInt8) (raw : Sec) : Sec := raw.take 128 ++ List.replicate (128 - raw.length) y
theorem fillB_len (y : UInt8) (raw : Sec) : (fillB y raw).length = 128 := by unfold fillB; simp; omega
theorem fillB_lo {y : UInt8} {raw : Sec} {k : Nat} (h : k < 128) {x : UInt8} (hx : raw[k]? = some x) : (fillB y raw)[k]? = some x := by
  unfold fillB
  have hk : k < raw.length := (List.getElem?_eq_some_iff.1 hx).1
  rw [List.getElem?_append_left (by simp; omega), List.getElem?_take_of_lt h, hx]
theorem fillB_hi {y : UInt8} {raw : Sec} {k : Nat} (h : k < 128) (hx : raw.length ≤ k) : (fillB y raw)[k]? = some y := by
  unfold fillB
  rw [List.getElem?_append_right (by simp; omega), List.getElem?_replicate, if_pos (by simp; omega)]
theorem FillR.step2 {w : World} {A g c k : Nat} {a b : Sec} {x : UInt8} (h : FillR w A g c k a b) (ha : a.length = 128) (hb : b.length = 128) (hk : a[k]? = some x) (u : Value) : FillR ((w.setCell ⟨g, k, none⟩ u).setCell ⟨g, k, none⟩ (.int .u8 (x.toNat : Int))) A g c (k + 1) a b := by
  have h1 := row_store (row_store h k u) k (.int .u8 (x.toNat : Int))
  rw [List.set_set, torn_set ha hb hk] at h1
  exact h1
set_option maxHeartbeats 2000000 in
theorem c_fill (w : World) (y : UInt8) (vr : Value) (raw : Sec) (hv : BtAt w vr raw) : Calls Try.prog 22 #[.int .u8 (y.toNat : Int), vr] w fun e w' => e = .returned (.string ⟨(fillB y raw).toArray⟩) ∧ Below w.heap.size w w' := by
  have hmk := A.mk128
  have HV := Lib.hid hv
  obtain ⟨ad, c, hq, hc1, hcm, _⟩ := hv
  subst hq
  have hrl : raw.length ≤ 9223372036854775807 := by unfold maxLen at hcm; omega
  clear hc1 hcm
  go_enter Try.func22, Try.ntmps22
  go_wp2_with fail
  obtain ⟨W, hW, R0, BW⟩ : ∃ W, w.alloc (.cells (bys zeros).toArray 5) = W ∧ Hid (FillR W w.heap.size w.heap.size 128 0 (fillB y raw) zeros) ∧ Hid (Below w.heap.size w W) := ⟨_, rfl, Lib.hid (FillR.start _), Lib.hid (below_al0 _ _)⟩
  rw [hW]
  clear hW
  go_loopw [6] (fun kv wr => ∃ k : Nat, kv = .int .i64 k ∧ k ≤ 128 ∧ Hid (FillR wr w.heap.size w.heap.size 128 k (fillB y raw) zeros) ∧ Hid (Below w.heap.size w wr)) (fun kv _ => 128 - (intOf kv).toNat)
  case atStart => exact ⟨0, rfl, by omega, R0, BW⟩
  case round =>
    clear R0 BW
    obtain ⟨k, rfl, hk, R, BB⟩ := hrel
    by_cases hlt : k < 128
    · have hlt' : (k : Int) < 128 := by omega
      obtain ⟨u, hu⟩ := R.out.cell zeros_len (fillB_len y raw) hlt
      have hf := R.out.free k
      have B1 := Lib.hid (off_below BB.out (g := w.heap.size) (j := k) (v := .int .u8 (y.toNat : Int)) (Nat.le_refl _))
      by_cases hr : k < raw.length
      · have hr' : (k : Int) < (raw.length : Int) := by omega
        obtain ⟨x, hx⟩ : ∃ x, raw[k]? = some x := ⟨_, List.getElem?_eq_getElem hr⟩
        have hxt := Lib.hid (fillB_lo (y := y) hlt hx)
        have hvr := HV.out.below BB.out
        obtain ⟨_, _, e, _, _, _, hvc⟩ := hvr
        cases e
        obtain ⟨g2, o2, rfl, hcx⟩ := hvc k x hx
        have hg2 : g2 ≠ w.heap.size := by
          obtain ⟨_, _, e, _, _, _, hvc0⟩ := HV.out
          cases e
          obtain ⟨g3, o3, e3, hc3⟩ := hvc0 k x hx
          cases e3
          intro e
          subst e
          simp [World.cell?] at hc3
        have hg3 : w.heap.size ≠ g2 := fun e => hg2 e.symm
        have cx2 : (wr.setCell ⟨w.heap.size, k, none⟩ (.int .u8 (y.toNat : Int))).cell? ⟨g2, o2 + k, none⟩ = some (.int .u8 (x.toNat : Int)) := off_cell (off1 wr w.heap.size k _) hcx hg2
        have R2 := Lib.hid (R.out.step2 (fillB_len y raw) zeros_len hxt.out (.int .u8 (y.toNat : Int)))
        have B2 := Lib.hid (off_below B1.out (g := w.heap.size) (j := k) (v := .int .u8 (x.toNat : Int)) (Nat.le_refl _))
        clear hvc hx
        go_wp2
        clear hu hf cx2 hcx hg2 hg3
        go_roundw
        case rel => exact ⟨k + 1, by go_num, by omega, R2, B2⟩
        case measure => simp [intOf]; omega
      · have hr' : ¬ (k : Int) < (raw.length : Int) := by omega
        have R2 := Lib.hid (R.out.step (fillB_len y raw) zeros_len (fillB_hi (y := y) (raw := raw) hlt (by omega)))
        go_wp2
        clear hu hf
        go_roundw
        case rel => exact ⟨k + 1, by go_num, by omega, R2, B1⟩
        case measure => simp [intOf]; omega
    · have hlt' : ¬ (k : Int) < 128 := by omega
      obtain rfl : k = 128 := by omega
      have RD := Lib.hid (R.out.done (fillB_len y raw) zeros_len)
      have hs := str_at (row_bt RD.out (fillB_len y raw))
      go_wp2_with fail
      go_ret
      exact ⟨rfl, BB.out⟩
end Go.Proofs.Ytpdjenkacefpjaa
