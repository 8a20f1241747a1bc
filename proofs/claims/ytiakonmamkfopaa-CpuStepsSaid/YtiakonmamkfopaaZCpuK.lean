/- The processor's run: calls. -/
import Derived.Test.YtiakonmamkfopaaZCpuI
namespace Go.Proofs.Ytiakonmamkfopaa
open Go.RowKit Go.ChangeShapes
set_option linter.unusedVariables false
set_option maxRecDepth 100000
theorem c_Clip (ad : Option Addr) (n cap : Nat) (w : World) (hn : n ≤ cap) (h0 : ad = none → n = 0 ∧ cap = 0) :
    Calls Try.prog 85 #[.slice ad n cap] w fun e w' => e = .returned (.slice ad n n) ∧ w' = w := by
  cases ad with
  | none =>
    obtain ⟨rfl, rfl⟩ := h0 rfl
    go_enter Try.func85, Try.ntmps85
    go_wp2
    go_ret
    exact ⟨rfl, rfl⟩
  | some ad =>
    clear h0
    have h1 : (n : Int) ≤ cap := by omega
    go_enter Try.func85, Try.ntmps85
    go_wp2
    go_ret
    exact ⟨rfl, rfl⟩
theorem A.infoF : (Try.prog.info? 79).map (fun i => (i.zero, i.size, i.bytes)) = some (some (.agg #[.int .i64 0, .int .i64 0, .int .i64 0]), 3, 24) := by kernel_rfl
theorem A.underF : Try.prog.underlying 26 = some (.slice 79) := by kernel_rfl
theorem wp_append_grows {P : Program} (w : World) {o : Oper} {a : Act} {K : Act → World → Prop} {Q : Exit → Act → World → Prop}
    (s x : Operand) (t : TypeId) (hop : o.op = Op.call { callee := Callee.builtin Builtin.append, args := #[s, x], argTypes := #[t, t] })
    (e : TypeId) (i : TypeInfo) (z : Value) (size bytes : Nat) (h1 : P.underlying t = some (.slice e)) (h2 : P.info? e = some i) (h3 : i.zero = some z) (h4 : i.size = size) (h5 : i.bytes = bytes) (h6 : z.cells.size = size) (h7 : 0 < size)
    (ao : Option Addr) (n cap : Nat) (olds : List Value) (hs : a.eval s = .slice ao n cap) (hnone : ao = none → n = 0 ∧ cap = 0) (hlo : olds.length = n * size) (holds : ∀ b, ao = some b → ∀ j u, olds[j]? = some u → w.cell? (b.add j) = some u)
    (ad : Addr) (m c : Nat) (news : List Value) (hx : a.eval x = .slice (some ad) m c) (hn : news.length = m * size) (hc : ∀ j u, news[j]? = some u → w.cell? (ad.add j) = some u) (h1c : ∀ u ∈ news, u.oneCell' = true)
    (hfull : cap < n + m) (b1 : n + m ≤ maxLen) (b2 : (n + m) * bytes ≤ 140737488355328)
    (hK : ∀ v' w', w'.ownsRow w.heap.size e size v' (n + m) (olds ++ news) → w.grownBy w' none → K (a.put o.dst v') w') : o.wp P a w K Q := by
  cases ao with
  | some b =>
    obtain ⟨v', w', hrun, r1, r2⟩ := run_append_arg_grows (P := P) w t o.type e i z size bytes h1 h2 h3 h4 h5 h6 h7 b n cap olds hlo (holds b rfl) ad m c news hn hc hfull b1 b2
    unfold Oper.wp
    simp [execOp, hop, resolve, invoke, builtin, hs, hx, hrun, Result.andThen]
    exact hK v' w' r1 r2
  | none =>
    obtain ⟨rfl, rfl⟩ := hnone rfl
    obtain rfl : olds = [] := List.eq_nil_of_length_eq_zero (by simpa using hlo)
    obtain ⟨v', w', hrun, r1, r2, _⟩ := run_append_own (P := P) w w.heap.size t o.type e i z size bytes h1 h2 h3 h4 h5 h6 h7 (.slice none 0 0) 0 [] (World.ownsRow_nil w _ e size) ad m c news hn hc h1c b1 b2 (Nat.le_refl _)
    unfold Oper.wp
    simp [execOp, hop, resolve, invoke, builtin, hs, hx, hrun, Result.andThen]
    exact hK v' w' r1 r2
theorem row_cells {w : World} {B : Nat} {e : TypeId} {size n cap : Nat} {ao : Option Addr} {xs : List Value} (h : w.ownsRow B e size (.slice ao n cap) n xs) : ∀ b, ao = some b → ∀ j u, xs[j]? = some u → w.cell? (b.add j) = some u := by
  rintro b rfl j u hj
  obtain ⟨g, cap', hv⟩ : ∃ g cap', Value.slice (some b) n cap = .slice (some ⟨g, 0, none⟩) n cap' := by
    rcases h.2 with ⟨hv, _⟩ | ⟨g, cap', cur, hv, _⟩
    · cases hv
    · exact ⟨g, cap', hv⟩
  cases hv
  obtain ⟨_, hc⟩ := row_cell h j hj
  rw [Addr.add_lit, Nat.zero_add]
  exact hc
theorem row_base {w : World} {B B' : Nat} {e : TypeId} {size n : Nat} {v : Value} {xs : List Value} (h : w.ownsRow B e size v n xs) (hb : B' ≤ B) : w.ownsRow B' e size v n xs := by
  refine ⟨h.1, ?_⟩
  rcases h.2 with h0 | ⟨g, cap, cur, hv, hbg, rest⟩
  · exact .inl h0
  · exact .inr ⟨g, cap, cur, hv, Nat.le_trans hb hbg, rest⟩
theorem new3_cells (w : World) (ty : TypeId) (a b c : Value) : ∀ j u, ([a, b, c] : List Value)[j]? = some u → ((w.alloc (.cells #[a, b, c] ty)).drew).cell? ((⟨w.heap.size, 0, none⟩ : Addr).add j) = some u := fun j u hj => by
  obtain ⟨⟨h0, h1, h2⟩, _⟩ := (blk3.new w ty a b c).facts
  match j, hj with
  | 0, hj => cases hj; exact h0
  | 1, hj => cases hj; exact h1
  | 2, hj => cases hj; exact h2
  | (k + 3), hj => simp at hj
theorem off3R (w : World) (R : Nat) (a b c : Value) : Off (· = R) w (((w.setCell ⟨R, 0, none⟩ a).setCell ⟨R, 1, none⟩ b).setCell ⟨R, 2, none⟩ c).drew := (((off1 _ _ _ _).trans (off1 _ _ _ _)).trans (off1 _ _ _ _)).drew
/-- the run is what it was, but for its stack -/
def RS (R : Nat) (s : St) (mv : Value) (told : Bool) (out : Int) (W w' : World) : Prop := Off (· = R) W w' ∧ ∃ k, runAt w' R s k mv told out
theorem RS.refl {R : Nat} {s : St} {k mv : Value} {told : Bool} {out : Int} {W : World} (h : runAt W R s k mv told out) : RS R s mv told out W W := ⟨Off.refl _ _, _, h⟩
theorem RS.drew {R : Nat} {s : St} {mv : Value} {told : Bool} {out : Int} {W w' : World} (h : RS R s mv told out W w') : RS R s mv told out W w'.drew := ⟨h.1.drew, h.2⟩
theorem RS.alloc {R : Nat} {s : St} {mv : Value} {told : Bool} {out : Int} {W w' : World} (h : RS R s mv told out W w') (o : Obj) : RS R s mv told out W (w'.alloc o) := by
  obtain ⟨h1, k, h2⟩ := h
  exact ⟨h1.alloc o, k, h2.below (below_al0 _ _)⟩
theorem RS.set16 {R : Nat} {s : St} {mv : Value} {told : Bool} {out : Int} {W w' : World} (h : RS R s mv told out W w') (v : Value) : RS R s mv told out W (w'.setCell ⟨R, 16, none⟩ v) := by
  obtain ⟨h1, k, h2⟩ := h
  exact ⟨h1.trans (off1 _ _ _ _), v, h2.set 16 v⟩
/-- a cell of the run's is what it was -/
def RQ (R o : Nat) (v : Value) (W w' : World) : Prop := Off (· = R) W w' ∧ w'.cell? ⟨R, o, none⟩ = some v
theorem RQ.drew {R o : Nat} {v : Value} {W w' : World} (h : RQ R o v W w') : RQ R o v W w'.drew := ⟨h.1.drew, h.2⟩
theorem RQ.set {R o : Nat} {v : Value} {W w' : World} (h : RQ R o v W w') (j : Nat) (hj : j ≠ o) (u : Value) : RQ R o v W (w'.setCell ⟨R, j, none⟩ u) := ⟨h.1.trans (off1 _ _ _ _), (World.cell?_setCell_other _ ⟨R, j, none⟩ ⟨R, o, none⟩ u (by intro h; cases h; exact hj rfl)).trans h.2⟩
set_option maxHeartbeats 2000000 in
theorem c_call_none (w : World) (B R Y : Nat) (s : St) (stk : Value) (told : Bool) (out : Int) (M : List Sg) (op p n : Int) (hp0 : 0 ≤ p) (hp1 : p < 4) (hr : runAt w R s stk (memV Y) told out) (hm : MemOk w B Y M) (hk : seg? M (s.pt p.toNat).seg = none) :
    Calls Try.prog 64 #[.pointer (some ⟨R, 0, none⟩), .agg #[.int .i64 op, .int .i64 p, .int .i64 n]] w fun e w' => e = .panicked (flt 35) ∧ Below w.heap.size w w' := by
  go_enter Try.func64, Try.ntmps64
  go_wp2_with fail
  obtain ⟨W0, hW, b0, hb, hsz⟩ := w_start w op p n
  rw [hW]
  have hr0 := hr.below hb
  have hm0 := hm.below hb
  have HB := Lib.hid hb
  have C0 := Lib.hid b0
  clear hW hr hm hb b0
  refine (c_at_none W0 B R Y s stk told out M op p n hp0 hp1 hr0 hm0 hk).mono ?_
  rintro e w1 ⟨rfl, hb⟩
  exact ⟨rfl, rfl, below2 HB.out hb⟩
set_option maxHeartbeats 2000000 in
theorem c_call_exec (w : World) (B R Y : Nat) (s : St) (stk : Value) (told : Bool) (out : Int) (M : List Sg) (op p n : Int) (hp0 : 0 ≤ p) (hp1 : p < 4) (hr : runAt w R s stk (memV Y) told out) (hm : MemOk w B Y M) (g : Sg) (off by_ : Int) (hk : seg? M (s.pt p.toNat).seg = some g) (hoff : IntKind.i64.wrap ((s.pt p.toNat).off + n) = off) (hby : max (s.pt p.toNat).ring s.ring = by_) (hq : g.has 4 = false) :
    Calls Try.prog 64 #[.pointer (some ⟨R, 0, none⟩), .agg #[.int .i64 op, .int .i64 p, .int .i64 n]] w fun e w' => e = .panicked (flt 33) ∧ Below w.heap.size w w' := by
  go_enter Try.func64, Try.ntmps64
  go_wp2_with fail
  obtain ⟨W0, hW, b0, hb, hsz⟩ := w_start w op p n
  rw [hW]
  have hr0 := hr.below hb
  have hm0 := hm.below hb
  have HB := Lib.hid hb
  have C0 := Lib.hid b0
  clear hW hr hm hb b0
  have hr1 := Lib.hid hr0
  have hm1 := Lib.hid hm0
  refine (c_at_some W0 B R Y s _ told out M op p n g hp0 hp1 hr0 hm0 hk).mono ?_
  rintro e w1 ⟨u', rfl, ho, hb⟩
  obtain ⟨ad, cap, hv, had, hda⟩ := row_shape ho
  subst hv
  rw [hoff, hby]
  have C0 := Lib.hid (C0.out.off (Off.of_below (ex := fun _ => False) hb) id)
  have hr1 := Lib.hid (hr1.out.below hb)
  have hm1 := Lib.hid (hm1.out.below hb)
  have HB := Lib.hid (below2 HB.out hb)
  clear hb ho hr0 hm0 hk hsz hoff hby had hda
  unfold sgV
  unfold Sg.has at hq
  go_wp2_with (first | (go_at_call 59; refine (c_must _ _ _).mono ?_; rintro e w9 ⟨rfl, rfl⟩; simp only [Bool.false_eq_true, if_false]))
  exact ⟨rfl, rfl, below_al HB.out _⟩
set_option maxHeartbeats 2000000 in
theorem c_call_gate (w : World) (B R Y : Nat) (s : St) (stk : Value) (told : Bool) (out : Int) (M : List Sg) (op p n : Int) (hp0 : 0 ≤ p) (hp1 : p < 4) (hr : runAt w R s stk (memV Y) told out) (hm : MemOk w B Y M) (g : Sg) (off by_ : Int) (hk : seg? M (s.pt p.toNat).seg = some g) (hoff : IntKind.i64.wrap ((s.pt p.toNat).off + n) = off) (hby : max (s.pt p.toNat).ring s.ring = by_) (hq : g.has 4 = true) (hE : callE g.r1 g.r2 g.r3 g.g off by_ ≠ 0) :
    Calls Try.prog 64 #[.pointer (some ⟨R, 0, none⟩), .agg #[.int .i64 op, .int .i64 p, .int .i64 n]] w fun e w' => e = .panicked (flt 34) ∧ Below w.heap.size w w' := by
  obtain ⟨ce, hE1⟩ : ∃ c, callE g.r1 g.r2 g.r3 g.g off by_ = c := ⟨_, rfl⟩
  rw [hE1] at hE
  have hE2 : (ce == 0) = false := by simpa using hE
  go_enter Try.func64, Try.ntmps64
  go_wp2_with fail
  obtain ⟨W0, hW, b0, hb, hsz⟩ := w_start w op p n
  rw [hW]
  have hr0 := hr.below hb
  have hm0 := hm.below hb
  have HB := Lib.hid hb
  have C0 := Lib.hid b0
  clear hW hr hm hb b0
  have hr1 := Lib.hid hr0
  have hm1 := Lib.hid hm0
  refine (c_at_some W0 B R Y s _ told out M op p n g hp0 hp1 hr0 hm0 hk).mono ?_
  rintro e w1 ⟨u', rfl, ho, hb⟩
  obtain ⟨ad, cap, hv, had, hda⟩ := row_shape ho
  subst hv
  rw [hoff, hby]
  have C0 := Lib.hid (C0.out.off (Off.of_below (ex := fun _ => False) hb) id)
  have hr1 := Lib.hid (hr1.out.below hb)
  have hm1 := Lib.hid (hm1.out.below hb)
  have HB := Lib.hid (below2 HB.out hb)
  clear hb ho hr0 hm0 hk hsz hoff hby had hda
  unfold sgV
  unfold Sg.has at hq
  have x0 := Lib.hid (blk6.new w1 60 (.slice ad g.ws.length cap) (.int .i64 g.md) (.int .i64 g.r1) (.int .i64 g.r2) (.int .i64 g.r3) (.int .i64 g.g))
  have HA := Lib.hid (below_al0 w1 (.cells #[.slice ad g.ws.length cap, .int .i64 g.md, .int .i64 g.r1, .int .i64 g.r2, .int .i64 g.r3, .int .i64 g.g] 60))
  go_wp2_with (first | (go_at_call 84; refine (c_Call _ _ _ _ _ _ _).mono ?_; rintro e w2 ⟨rfl, hb2⟩; rw [hE1]; have x1 := Lib.hid (x0.out.below hb2); obtain ⟨⟨r0, r1, r2, r3, r4, r5⟩, rf⟩ := x1.out.facts; have hr2 := Lib.hid ((hr1.out.below HA.out).below hb2); have hb2 := Lib.hid (below2 HA.out hb2)) | (go_at_call 59; refine (c_must _ _ _).mono ?_; rintro e w9 ⟨rfl, rfl⟩; simp only [if_true, Bool.false_eq_true, if_false]))
  exact ⟨rfl, rfl, below2 HB.out hb2.out⟩
set_option maxHeartbeats 2000000 in
theorem c_call_off (w : World) (B R Y : Nat) (s : St) (stk : Value) (told : Bool) (out : Int) (M : List Sg) (op p n : Int) (hp0 : 0 ≤ p) (hp1 : p < 4) (hr : runAt w R s stk (memV Y) told out) (hm : MemOk w B Y M) (g : Sg) (off by_ : Int) (hk : seg? M (s.pt p.toNat).seg = some g) (hoff : IntKind.i64.wrap ((s.pt p.toNat).off + n) = off) (hby : max (s.pt p.toNat).ring s.ring = by_) (hq : g.has 4 = true) (hE1 : callE g.r1 g.r2 g.r3 g.g off by_ = 0) (hi : ¬ (0 ≤ off ∧ off < g.ws.length)) :
    Calls Try.prog 64 #[.pointer (some ⟨R, 0, none⟩), .agg #[.int .i64 op, .int .i64 p, .int .i64 n]] w fun e w' => e = .panicked (flt 35) ∧ Below w.heap.size w w' := by
  have hi : decide (0 ≤ off ∧ off < (g.ws.length : Int)) = false := decide_eq_false hi
  go_enter Try.func64, Try.ntmps64
  go_wp2_with fail
  obtain ⟨W0, hW, b0, hb, hsz⟩ := w_start w op p n
  rw [hW]
  have hr0 := hr.below hb
  have hm0 := hm.below hb
  have HB := Lib.hid hb
  have C0 := Lib.hid b0
  clear hW hr hm hb b0
  have hr1 := Lib.hid hr0
  have hm1 := Lib.hid hm0
  refine (c_at_some W0 B R Y s _ told out M op p n g hp0 hp1 hr0 hm0 hk).mono ?_
  rintro e w1 ⟨u', rfl, ho, hb⟩
  obtain ⟨ad, cap, hv, had, hda⟩ := row_shape ho
  subst hv
  rw [hoff, hby]
  have C0 := Lib.hid (C0.out.off (Off.of_below (ex := fun _ => False) hb) id)
  have hr1 := Lib.hid (hr1.out.below hb)
  have hm1 := Lib.hid (hm1.out.below hb)
  have HB := Lib.hid (below2 HB.out hb)
  clear hb ho hr0 hm0 hk hsz hoff hby had hda
  unfold sgV
  unfold Sg.has at hq
  have x0 := Lib.hid (blk6.new w1 60 (.slice ad g.ws.length cap) (.int .i64 g.md) (.int .i64 g.r1) (.int .i64 g.r2) (.int .i64 g.r3) (.int .i64 g.g))
  have HA := Lib.hid (below_al0 w1 (.cells #[.slice ad g.ws.length cap, .int .i64 g.md, .int .i64 g.r1, .int .i64 g.r2, .int .i64 g.r3, .int .i64 g.g] 60))
  go_wp2_with (first | (go_at_call 84; refine (c_Call _ _ _ _ _ _ _).mono ?_; rintro e w2 ⟨rfl, hb2⟩; rw [hE1]; have x1 := Lib.hid (x0.out.below hb2); obtain ⟨⟨r0, r1, r2, r3, r4, r5⟩, rf⟩ := x1.out.facts; have hr2 := Lib.hid ((hr1.out.below HA.out).below hb2); have hb2 := Lib.hid (below2 HA.out hb2)) | (go_at_call 69; refine (c_in _ _ _ _ _ _ _ _ _ _).mono ?_; rintro e w3 ⟨rfl, hb3⟩; rw [hi]; have hr3 := Lib.hid (hr2.out.below hb3); have hb3 := Lib.hid (below2 hb2.out hb3)) | (go_at_call 59; refine (c_must _ _ _).mono ?_; rintro e w9 ⟨rfl, rfl⟩; simp only [if_true, Bool.false_eq_true, if_false]))
  exact ⟨rfl, rfl, below2 HB.out hb3.out⟩
set_option maxHeartbeats 2000000 in
theorem c_call_stk (w : World) (B R Y : Nat) (s : St) (stk : Value) (told : Bool) (out : Int) (M : List Sg) (op p n : Int) (hp0 : 0 ≤ p) (hp1 : p < 4) (hr : runAt w R s stk (memV Y) told out) (hm : MemOk w B Y M) (g : Sg) (off by_ : Int) (hk : seg? M (s.pt p.toNat).seg = some g) (hoff : IntKind.i64.wrap ((s.pt p.toNat).off + n) = off) (hby : max (s.pt p.toNat).ring s.ring = by_) (l : List Fr) (hs : stkAt w stk l) (hq : g.has 4 = true) (hE1 : callE g.r1 g.r2 g.r3 g.g off by_ = 0) (hi : 0 ≤ off ∧ off < g.ws.length) (hl : 8 ≤ l.length) :
    Calls Try.prog 64 #[.pointer (some ⟨R, 0, none⟩), .agg #[.int .i64 op, .int .i64 p, .int .i64 n]] w fun e w' => e = .panicked (flt 37) ∧ Below w.heap.size w w' := by
  have hi : decide (0 ≤ off ∧ off < (g.ws.length : Int)) = true := decide_eq_true hi
  have hl0 : ¬ l.length < 8 := by omega
  have hl1 : ¬ (l.length : Int) < 8 := by omega
  obtain ⟨ads, ncap, hv, _, _⟩ := row_shape hs
  subst hv
  clear hs
  go_enter Try.func64, Try.ntmps64
  go_wp2_with fail
  obtain ⟨W0, hW, b0, hb, hsz⟩ := w_start w op p n
  rw [hW]
  have hr0 := hr.below hb
  have hm0 := hm.below hb
  have HB := Lib.hid hb
  have C0 := Lib.hid b0
  clear hW hr hm hb b0
  have hr1 := Lib.hid hr0
  have hm1 := Lib.hid hm0
  refine (c_at_some W0 B R Y s _ told out M op p n g hp0 hp1 hr0 hm0 hk).mono ?_
  rintro e w1 ⟨u', rfl, ho, hb⟩
  obtain ⟨ad, cap, hv, had, hda⟩ := row_shape ho
  subst hv
  rw [hoff, hby]
  have C0 := Lib.hid (C0.out.off (Off.of_below (ex := fun _ => False) hb) id)
  have hr1 := Lib.hid (hr1.out.below hb)
  have hm1 := Lib.hid (hm1.out.below hb)
  have HB := Lib.hid (below2 HB.out hb)
  clear hb ho hr0 hm0 hk hsz hoff hby had hda
  unfold sgV
  unfold Sg.has at hq
  have x0 := Lib.hid (blk6.new w1 60 (.slice ad g.ws.length cap) (.int .i64 g.md) (.int .i64 g.r1) (.int .i64 g.r2) (.int .i64 g.r3) (.int .i64 g.g))
  have HA := Lib.hid (below_al0 w1 (.cells #[.slice ad g.ws.length cap, .int .i64 g.md, .int .i64 g.r1, .int .i64 g.r2, .int .i64 g.r3, .int .i64 g.g] 60))
  go_wp2_with (first | (go_at_call 84; refine (c_Call _ _ _ _ _ _ _).mono ?_; rintro e w2 ⟨rfl, hb2⟩; rw [hE1]; have x1 := Lib.hid (x0.out.below hb2); obtain ⟨⟨r0, r1, r2, r3, r4, r5⟩, rf⟩ := x1.out.facts; have hr2 := Lib.hid ((hr1.out.below HA.out).below hb2); have hb2 := Lib.hid (below2 HA.out hb2)) | (go_at_call 69; refine (c_in _ _ _ _ _ _ _ _ _ _).mono ?_; rintro e w3 ⟨rfl, hb3⟩; rw [hi]; have hr3 := Lib.hid (hr2.out.below hb3); have r16 : w3.cell? ⟨R, 16, none⟩ = some (.slice ads l.length ncap) := hr3.out.cell 16; have hb3 := Lib.hid (below2 hb2.out hb3)) | (go_at_call 59; refine (c_must _ _ _).mono ?_; rintro e w9 ⟨rfl, rfl⟩; (first | simp only [if_true] | rw [if_neg (fun h => (by have h := of_decide_eq_true h; omega))])))
  exact ⟨rfl, rfl, below2 HB.out hb3.out⟩
end Go.Proofs.Ytiakonmamkfopaa
