/- The document's call: its faults. The document's call that is done. The document's Step: calls; a return's faults. The document's Step: calls. The document's Step: a return that is refused. -/
import Derived.Test.YtiakonmamkfopaaZTk
import Derived.Test.YtiakonmamkfopaaZCpuTc
namespace Go.Proofs.Ytiakonmamkfopaa
open Go.RowKit Go.ChangeShapes
set_option linter.unusedVariables false
set_option maxRecDepth 1000000
/-- what a call finds -/
structure CaE (w W : World) (s t : St) (stk : Value) (g : Sg) (u : Value) (q : Pt) (op p n : Int) : Prop where
  s6 : rsAt W w.heap.size s stk
  t7 : rsAt W (w.heap.size + 1) t stk
  g8 : blk7 W (w.heap.size + 1 + 1) 57 (.bool g.is) u (.int .i64 g.md) (.int .i64 g.r1) (.int .i64 g.r2) (.int .i64 g.r3) (.int .i64 g.g)
  p9 : blk3 W (w.heap.size + 1 + 1 + 1) 24 (.int .i64 q.seg) (.int .i64 q.off) (.int .i64 q.ring)
  i10 : blk3 W (w.heap.size + 1 + 1 + 1 + 1) 64 (.int .i64 op) (.int .i64 p) (.int .i64 n)
  z12 : rsAt W (w.heap.size + 1 + 1 + 1 + 1 + 1) St.zero (.slice none 0 0)
  bl : Below w.heap.size w W
theorem al_keep {w : World} {k : Nat} {o o' : Obj} (h : w.heap[k]? = some o) : (w.alloc o').heap[k]? = some o := Off.keeps (ex := fun _ => False) ((Off.refl _ _).alloc _) h id
theorem al_new {w : World} {k : Nat} (o : Obj) (h : w.heap.size = k) : (w.alloc o).heap[k]? = some o := h ▸ heap_alloc_new w o
theorem CaE.new (w : World) (s t : St) (stk : Value) (g : Sg) (u : Value) (q : Pt) (op p n : Int) : CaE w ((((((w.alloc (.cells (stC s stk) 39)).alloc (.cells (stC t stk) 39)).alloc (.cells #[.bool g.is, u, .int .i64 g.md, .int .i64 g.r1, .int .i64 g.r2, .int .i64 g.r3, .int .i64 g.g] 57)).alloc (.cells #[.int .i64 q.seg, .int .i64 q.off, .int .i64 q.ring] 24)).alloc (.cells #[.int .i64 op, .int .i64 p, .int .i64 n] 64)).alloc (.cells (stC St.zero (.slice none 0 0)) 39)) s t stk g u q op p n :=
  ⟨al_keep (al_keep (al_keep (al_keep (al_keep (al_new _ rfl))))), al_keep (al_keep (al_keep (al_keep (al_new _ (by simp))))), al_keep (al_keep (al_keep (al_new _ (by simp)))), al_keep (al_keep (al_new _ (by simp))), al_keep (al_new _ (by simp)), al_new _ (by simp), below_al (below_al (below_al (below_al (below_al (below_al0 _ _) _) _) _) _) _⟩
theorem call_results {W : World} {N : Nat} {s : St} {stk : Value} {er : Int} (h : rsAt W N s stk) (tmps : Array Value) (h4 : tmps[12]? = some (.pointer (some ⟨N, 0, none⟩))) (h5 : tmps[13]? = some (.int .i64 er)) :
    (results Try.f49 tmps).run Try.prog W = .ok (.tuple #[.agg (stC s stk), .int .i64 er]) W := by
  have l0 := rrange_loadVar (rs_range h)
  simp [results, Try.results49, h4, h5, l0, asAddr]
set_option maxHeartbeats 4000000 in
theorem c_rcall_35 (w : World) (s t : St) (ad : Option Addr) (n' c : Nat) (g : Sg) (au : Option Addr) (cu : Nat) (q : Pt) (op p n r : Int) (his : g.is = false) : Calls Try.prog 49 #[.agg (stC s (.slice ad n' c)), .agg (stC t (.slice ad n' c)), sgA (.slice au g.ws.length cu) g, .agg #[.int .i64 q.seg, .int .i64 q.off, .int .i64 q.ring], .agg #[.int .i64 op, .int .i64 p, .int .i64 n], .int .i64 r] w fun e w' => e = .returned (.tuple #[.agg (stC St.zero (.slice none 0 0)), .int .i64 35]) ∧ Below w.heap.size w w' := by
  replace his := Lib.hid his
  obtain ⟨W0, hW0, C⟩ : ∃ W, ((((((w.alloc (.cells (stC s (.slice ad n' c)) 39)).alloc (.cells (stC t (.slice ad n' c)) 39)).alloc (.cells #[.bool g.is, .slice au g.ws.length cu, .int .i64 g.md, .int .i64 g.r1, .int .i64 g.r2, .int .i64 g.r3, .int .i64 g.g] 57)).alloc (.cells #[.int .i64 q.seg, .int .i64 q.off, .int .i64 q.ring] 24)).alloc (.cells #[.int .i64 op, .int .i64 p, .int .i64 n] 64)).alloc (.cells (stC St.zero (.slice none 0 0)) 39)) = W ∧ Hid (CaE w W s t (.slice ad n' c) g (.slice au g.ws.length cu) q op p n) := ⟨_, rfl, Lib.hid (CaE.new _ _ _ _ _ _ _ _ _ _)⟩
  replace hW0 := Lib.hid hW0
  unfold sgA
  go_enter Try.func49, Try.ntmps49
  go_upto_region 1 with fail
  rw [show ((((((w.alloc (.cells (stC s (.slice ad n' c)) 39)).alloc (.cells (stC t (.slice ad n' c)) 39)).alloc (.cells #[.bool g.is, .slice au g.ws.length cu, .int .i64 g.md, .int .i64 g.r1, .int .i64 g.r2, .int .i64 g.r3, .int .i64 g.g] 57)).alloc (.cells #[.int .i64 q.seg, .int .i64 q.off, .int .i64 q.ring] 24)).alloc (.cells #[.int .i64 op, .int .i64 p, .int .i64 n] 64)).alloc (.cells #[.int .i64 0, .int .i64 0, .int .i64 0, .int .i64 0, .int .i64 0, .int .i64 0, .int .i64 0, .int .i64 0, .int .i64 0, .int .i64 0, .int .i64 0, .int .i64 0, .int .i64 0, .int .i64 0, .int .i64 0, .int .i64 0, .slice none 0 0, .bool false] 39)) = W0 from hW0.out]
  clear hW0
  have q1 : W0.cell? ⟨w.heap.size + 1 + 1 + 1, 1, none⟩ = some (.int .i64 q.off) := C.out.p9.facts.1.2.1
  have n2 : W0.cell? ⟨w.heap.size + 1 + 1 + 1 + 1, 2, none⟩ = some (.int .i64 n) := C.out.i10.facts.1.2.2
  have g0 : W0.cell? ⟨w.heap.size + 1 + 1, 0, none⟩ = some (.bool g.is) := C.out.g8.cell 0
  have g2 : W0.cell? ⟨w.heap.size + 1 + 1, 2, none⟩ = some (.int .i64 g.md) := C.out.g8.cell 2
  have g3 : W0.cell? ⟨w.heap.size + 1 + 1, 3, none⟩ = some (.int .i64 g.r1) := C.out.g8.cell 3
  have g4 : W0.cell? ⟨w.heap.size + 1 + 1, 4, none⟩ = some (.int .i64 g.r2) := C.out.g8.cell 4
  have g5 : W0.cell? ⟨w.heap.size + 1 + 1, 5, none⟩ = some (.int .i64 g.r3) := C.out.g8.cell 5
  have g6 : W0.cell? ⟨w.heap.size + 1 + 1, 6, none⟩ = some (.int .i64 g.g) := C.out.g8.cell 6
  rw [his.out] at g0
  go_wp2_with (first | ((with_reducible refine wpList_store_rs (op := ⟨none, .store 39 (.tmp 12) (.tmp 25), _, _, _, _⟩) (N := (w.heap.size + 1 + 1 + 1 + 1 + 1)) (s := St.zero) (stk := (.slice none 0 0)) (s' := St.zero) (stk' := (.slice none 0 0)) ?_ (.tmp 12) (.tmp 25) ?_ ?_ ?_ ?_ ?_ ?_); exact rfl; exact rfl; exact rfl; exact rfl; exact C.out.z12; exact rfl; intro w9 S1 F1; replace S1 := Lib.hid S1; replace F1 := Lib.hid F1))
  exact bodyPost_ret (call_results S1.out _ rfl rfl) rfl ⟨rfl, Off.below C.out.bl F1.out (C.out.bl).size (fun j hj => by omega)⟩
set_option maxHeartbeats 4000000 in
theorem c_rcall_33 (w : World) (s t : St) (ad : Option Addr) (n' c : Nat) (g : Sg) (au : Option Addr) (cu : Nat) (q : Pt) (op p n r : Int) (his : g.is = true) (hh : g.has 4 = false) : Calls Try.prog 49 #[.agg (stC s (.slice ad n' c)), .agg (stC t (.slice ad n' c)), sgA (.slice au g.ws.length cu) g, .agg #[.int .i64 q.seg, .int .i64 q.off, .int .i64 q.ring], .agg #[.int .i64 op, .int .i64 p, .int .i64 n], .int .i64 r] w fun e w' => e = .returned (.tuple #[.agg (stC St.zero (.slice none 0 0)), .int .i64 33]) ∧ Below w.heap.size w w' := by
  have hm : (bits .and .i64 g.md 4 == 0) = true := by unfold Sg.has at hh; simpa using hh
  replace his := Lib.hid his
  clear hh
  obtain ⟨W0, hW0, C⟩ : ∃ W, ((((((w.alloc (.cells (stC s (.slice ad n' c)) 39)).alloc (.cells (stC t (.slice ad n' c)) 39)).alloc (.cells #[.bool g.is, .slice au g.ws.length cu, .int .i64 g.md, .int .i64 g.r1, .int .i64 g.r2, .int .i64 g.r3, .int .i64 g.g] 57)).alloc (.cells #[.int .i64 q.seg, .int .i64 q.off, .int .i64 q.ring] 24)).alloc (.cells #[.int .i64 op, .int .i64 p, .int .i64 n] 64)).alloc (.cells (stC St.zero (.slice none 0 0)) 39)) = W ∧ Hid (CaE w W s t (.slice ad n' c) g (.slice au g.ws.length cu) q op p n) := ⟨_, rfl, Lib.hid (CaE.new _ _ _ _ _ _ _ _ _ _)⟩
  replace hW0 := Lib.hid hW0
  unfold sgA
  go_enter Try.func49, Try.ntmps49
  go_upto_region 1 with fail
  rw [show ((((((w.alloc (.cells (stC s (.slice ad n' c)) 39)).alloc (.cells (stC t (.slice ad n' c)) 39)).alloc (.cells #[.bool g.is, .slice au g.ws.length cu, .int .i64 g.md, .int .i64 g.r1, .int .i64 g.r2, .int .i64 g.r3, .int .i64 g.g] 57)).alloc (.cells #[.int .i64 q.seg, .int .i64 q.off, .int .i64 q.ring] 24)).alloc (.cells #[.int .i64 op, .int .i64 p, .int .i64 n] 64)).alloc (.cells #[.int .i64 0, .int .i64 0, .int .i64 0, .int .i64 0, .int .i64 0, .int .i64 0, .int .i64 0, .int .i64 0, .int .i64 0, .int .i64 0, .int .i64 0, .int .i64 0, .int .i64 0, .int .i64 0, .int .i64 0, .int .i64 0, .slice none 0 0, .bool false] 39)) = W0 from hW0.out]
  clear hW0
  have q1 : W0.cell? ⟨w.heap.size + 1 + 1 + 1, 1, none⟩ = some (.int .i64 q.off) := C.out.p9.facts.1.2.1
  have n2 : W0.cell? ⟨w.heap.size + 1 + 1 + 1 + 1, 2, none⟩ = some (.int .i64 n) := C.out.i10.facts.1.2.2
  have g0 : W0.cell? ⟨w.heap.size + 1 + 1, 0, none⟩ = some (.bool g.is) := C.out.g8.cell 0
  have g2 : W0.cell? ⟨w.heap.size + 1 + 1, 2, none⟩ = some (.int .i64 g.md) := C.out.g8.cell 2
  have g3 : W0.cell? ⟨w.heap.size + 1 + 1, 3, none⟩ = some (.int .i64 g.r1) := C.out.g8.cell 3
  have g4 : W0.cell? ⟨w.heap.size + 1 + 1, 4, none⟩ = some (.int .i64 g.r2) := C.out.g8.cell 4
  have g5 : W0.cell? ⟨w.heap.size + 1 + 1, 5, none⟩ = some (.int .i64 g.r3) := C.out.g8.cell 5
  have g6 : W0.cell? ⟨w.heap.size + 1 + 1, 6, none⟩ = some (.int .i64 g.g) := C.out.g8.cell 6
  rw [his.out] at g0
  go_wp2_with (first | ((with_reducible refine wpList_store_rs (op := ⟨none, .store 39 (.tmp 12) (.tmp 30), _, _, _, _⟩) (N := (w.heap.size + 1 + 1 + 1 + 1 + 1)) (s := St.zero) (stk := (.slice none 0 0)) (s' := St.zero) (stk' := (.slice none 0 0)) ?_ (.tmp 12) (.tmp 30) ?_ ?_ ?_ ?_ ?_ ?_); exact rfl; exact rfl; exact rfl; exact rfl; exact C.out.z12; exact rfl; intro w9 S1 F1; replace S1 := Lib.hid S1; replace F1 := Lib.hid F1))
  exact bodyPost_ret (call_results S1.out _ rfl rfl) rfl ⟨rfl, Off.below C.out.bl F1.out (C.out.bl).size (fun j hj => by omega)⟩
set_option maxHeartbeats 4000000 in
theorem c_rcall_34 (w : World) (s t : St) (ad : Option Addr) (n' c : Nat) (g : Sg) (au : Option Addr) (cu : Nat) (q : Pt) (op p n r : Int) (his : g.is = true) (hh : g.has 4 = true) (h12 : g.r1 ≤ g.r2) (h23 : g.r2 ≤ g.r3) (he : ¬ callE g.r1 g.r2 g.r3 g.g (wrap64 (q.off + n)) r = 0) : Calls Try.prog 49 #[.agg (stC s (.slice ad n' c)), .agg (stC t (.slice ad n' c)), sgA (.slice au g.ws.length cu) g, .agg #[.int .i64 q.seg, .int .i64 q.off, .int .i64 q.ring], .agg #[.int .i64 op, .int .i64 p, .int .i64 n], .int .i64 r] w fun e w' => e = .returned (.tuple #[.agg (stC St.zero (.slice none 0 0)), .int .i64 34]) ∧ Below w.heap.size w w' := by
  have hm : (bits .and .i64 g.md 4 == 0) = false := by unfold Sg.has at hh; simpa using hh
  replace his := Lib.hid his
  clear hh
  replace h12 := Lib.hid h12
  replace h23 := Lib.hid h23
  obtain ⟨ce, hce⟩ : ∃ ce, callE g.r1 g.r2 g.r3 g.g (wrap64 (q.off + n)) r = ce := ⟨_, rfl⟩
  have he2 : (ce != 0) = true := by rw [← hce]; simpa using he
  clear he
  replace hce := Lib.hid hce
  obtain ⟨W0, hW0, C⟩ : ∃ W, ((((((w.alloc (.cells (stC s (.slice ad n' c)) 39)).alloc (.cells (stC t (.slice ad n' c)) 39)).alloc (.cells #[.bool g.is, .slice au g.ws.length cu, .int .i64 g.md, .int .i64 g.r1, .int .i64 g.r2, .int .i64 g.r3, .int .i64 g.g] 57)).alloc (.cells #[.int .i64 q.seg, .int .i64 q.off, .int .i64 q.ring] 24)).alloc (.cells #[.int .i64 op, .int .i64 p, .int .i64 n] 64)).alloc (.cells (stC St.zero (.slice none 0 0)) 39)) = W ∧ Hid (CaE w W s t (.slice ad n' c) g (.slice au g.ws.length cu) q op p n) := ⟨_, rfl, Lib.hid (CaE.new _ _ _ _ _ _ _ _ _ _)⟩
  replace hW0 := Lib.hid hW0
  unfold sgA
  go_enter Try.func49, Try.ntmps49
  go_upto_region 1 with fail
  rw [show ((((((w.alloc (.cells (stC s (.slice ad n' c)) 39)).alloc (.cells (stC t (.slice ad n' c)) 39)).alloc (.cells #[.bool g.is, .slice au g.ws.length cu, .int .i64 g.md, .int .i64 g.r1, .int .i64 g.r2, .int .i64 g.r3, .int .i64 g.g] 57)).alloc (.cells #[.int .i64 q.seg, .int .i64 q.off, .int .i64 q.ring] 24)).alloc (.cells #[.int .i64 op, .int .i64 p, .int .i64 n] 64)).alloc (.cells #[.int .i64 0, .int .i64 0, .int .i64 0, .int .i64 0, .int .i64 0, .int .i64 0, .int .i64 0, .int .i64 0, .int .i64 0, .int .i64 0, .int .i64 0, .int .i64 0, .int .i64 0, .int .i64 0, .int .i64 0, .int .i64 0, .slice none 0 0, .bool false] 39)) = W0 from hW0.out]
  clear hW0
  have q1 : W0.cell? ⟨w.heap.size + 1 + 1 + 1, 1, none⟩ = some (.int .i64 q.off) := C.out.p9.facts.1.2.1
  have n2 : W0.cell? ⟨w.heap.size + 1 + 1 + 1 + 1, 2, none⟩ = some (.int .i64 n) := C.out.i10.facts.1.2.2
  have g0 : W0.cell? ⟨w.heap.size + 1 + 1, 0, none⟩ = some (.bool g.is) := C.out.g8.cell 0
  have g2 : W0.cell? ⟨w.heap.size + 1 + 1, 2, none⟩ = some (.int .i64 g.md) := C.out.g8.cell 2
  have g3 : W0.cell? ⟨w.heap.size + 1 + 1, 3, none⟩ = some (.int .i64 g.r1) := C.out.g8.cell 3
  have g4 : W0.cell? ⟨w.heap.size + 1 + 1, 4, none⟩ = some (.int .i64 g.r2) := C.out.g8.cell 4
  have g5 : W0.cell? ⟨w.heap.size + 1 + 1, 5, none⟩ = some (.int .i64 g.r3) := C.out.g8.cell 5
  have g6 : W0.cell? ⟨w.heap.size + 1 + 1, 6, none⟩ = some (.int .i64 g.g) := C.out.g8.cell 6
  rw [his.out] at g0
  go_wp2_with (first | (go_at_call 74; refine (r_Call _ _ _ _ _ _ h12.out h23.out _).mono ?_; rintro e w1 ⟨rfl, hb1⟩; rw [hce.out]; have Z1 : Hid (rsAt w1 (w.heap.size + 1 + 1 + 1 + 1 + 1) St.zero (.slice none 0 0)) := Off.keeps (.of_below (ex := fun _ => False) hb1) C.out.z12 id; have L1 := Lib.hid (below2 C.out.bl hb1); have g11 : w1.cell? ⟨w.heap.size + 1 + 1, 1, none⟩ = some (.slice au g.ws.length cu) := (show blk7 w1 (w.heap.size + 1 + 1) 57 (.bool g.is) (.slice au g.ws.length cu) (.int .i64 g.md) (.int .i64 g.r1) (.int .i64 g.r2) (.int .i64 g.r3) (.int .i64 g.g) from Off.keeps (.of_below (ex := fun _ => False) hb1) C.out.g8 id).cell 1; have s16 : w1.cell? ⟨w.heap.size, 16, none⟩ = some (.slice ad n' c) := (show rsAt w1 w.heap.size s (.slice ad n' c) from Off.keeps (.of_below (ex := fun _ => False) hb1) C.out.s6 id).cell 16; clear hb1; (try dsimp only)) | ((with_reducible refine wpList_store_rs (op := ⟨none, .store 39 (.tmp 12) (.tmp 41), _, _, _, _⟩) (N := (w.heap.size + 1 + 1 + 1 + 1 + 1)) (s := St.zero) (stk := (.slice none 0 0)) (s' := St.zero) (stk' := (.slice none 0 0)) ?_ (.tmp 12) (.tmp 41) ?_ ?_ ?_ ?_ ?_ ?_); exact rfl; exact rfl; exact rfl; exact rfl; exact Z1.out; exact rfl; intro w9 S1 F1; replace S1 := Lib.hid S1; replace F1 := Lib.hid F1))
  exact bodyPost_ret (call_results S1.out _ rfl rfl) rfl ⟨rfl, Off.below L1.out F1.out (L1.out).size (fun j hj => by omega)⟩
set_option maxHeartbeats 4000000 in
theorem c_rcall_35b (w : World) (s t : St) (ad : Option Addr) (n' c : Nat) (g : Sg) (au : Option Addr) (cu : Nat) (q : Pt) (op p n r : Int) (his : g.is = true) (hh : g.has 4 = true) (h12 : g.r1 ≤ g.r2) (h23 : g.r2 ≤ g.r3) (he : callE g.r1 g.r2 g.r3 g.g (wrap64 (q.off + n)) r = 0) (hle : (g.ws.length : Int) ≤ wrap64 (q.off + n)) : Calls Try.prog 49 #[.agg (stC s (.slice ad n' c)), .agg (stC t (.slice ad n' c)), sgA (.slice au g.ws.length cu) g, .agg #[.int .i64 q.seg, .int .i64 q.off, .int .i64 q.ring], .agg #[.int .i64 op, .int .i64 p, .int .i64 n], .int .i64 r] w fun e w' => e = .returned (.tuple #[.agg (stC St.zero (.slice none 0 0)), .int .i64 35]) ∧ Below w.heap.size w w' := by
  have hm : (bits .and .i64 g.md 4 == 0) = false := by unfold Sg.has at hh; simpa using hh
  replace his := Lib.hid his
  clear hh
  replace h12 := Lib.hid h12
  replace h23 := Lib.hid h23
  obtain ⟨ct, hct⟩ : ∃ ct, callTo g.r1 g.r2 g.r3 g.g (wrap64 (q.off + n)) r = ct := ⟨_, rfl⟩
  replace hct := Lib.hid hct
  replace he := Lib.hid he
  obtain ⟨W0, hW0, C⟩ : ∃ W, ((((((w.alloc (.cells (stC s (.slice ad n' c)) 39)).alloc (.cells (stC t (.slice ad n' c)) 39)).alloc (.cells #[.bool g.is, .slice au g.ws.length cu, .int .i64 g.md, .int .i64 g.r1, .int .i64 g.r2, .int .i64 g.r3, .int .i64 g.g] 57)).alloc (.cells #[.int .i64 q.seg, .int .i64 q.off, .int .i64 q.ring] 24)).alloc (.cells #[.int .i64 op, .int .i64 p, .int .i64 n] 64)).alloc (.cells (stC St.zero (.slice none 0 0)) 39)) = W ∧ Hid (CaE w W s t (.slice ad n' c) g (.slice au g.ws.length cu) q op p n) := ⟨_, rfl, Lib.hid (CaE.new _ _ _ _ _ _ _ _ _ _)⟩
  replace hW0 := Lib.hid hW0
  unfold sgA
  go_enter Try.func49, Try.ntmps49
  go_upto_region 1 with fail
  rw [show ((((((w.alloc (.cells (stC s (.slice ad n' c)) 39)).alloc (.cells (stC t (.slice ad n' c)) 39)).alloc (.cells #[.bool g.is, .slice au g.ws.length cu, .int .i64 g.md, .int .i64 g.r1, .int .i64 g.r2, .int .i64 g.r3, .int .i64 g.g] 57)).alloc (.cells #[.int .i64 q.seg, .int .i64 q.off, .int .i64 q.ring] 24)).alloc (.cells #[.int .i64 op, .int .i64 p, .int .i64 n] 64)).alloc (.cells #[.int .i64 0, .int .i64 0, .int .i64 0, .int .i64 0, .int .i64 0, .int .i64 0, .int .i64 0, .int .i64 0, .int .i64 0, .int .i64 0, .int .i64 0, .int .i64 0, .int .i64 0, .int .i64 0, .int .i64 0, .int .i64 0, .slice none 0 0, .bool false] 39)) = W0 from hW0.out]
  clear hW0
  have q1 : W0.cell? ⟨w.heap.size + 1 + 1 + 1, 1, none⟩ = some (.int .i64 q.off) := C.out.p9.facts.1.2.1
  have n2 : W0.cell? ⟨w.heap.size + 1 + 1 + 1 + 1, 2, none⟩ = some (.int .i64 n) := C.out.i10.facts.1.2.2
  have g0 : W0.cell? ⟨w.heap.size + 1 + 1, 0, none⟩ = some (.bool g.is) := C.out.g8.cell 0
  have g2 : W0.cell? ⟨w.heap.size + 1 + 1, 2, none⟩ = some (.int .i64 g.md) := C.out.g8.cell 2
  have g3 : W0.cell? ⟨w.heap.size + 1 + 1, 3, none⟩ = some (.int .i64 g.r1) := C.out.g8.cell 3
  have g4 : W0.cell? ⟨w.heap.size + 1 + 1, 4, none⟩ = some (.int .i64 g.r2) := C.out.g8.cell 4
  have g5 : W0.cell? ⟨w.heap.size + 1 + 1, 5, none⟩ = some (.int .i64 g.r3) := C.out.g8.cell 5
  have g6 : W0.cell? ⟨w.heap.size + 1 + 1, 6, none⟩ = some (.int .i64 g.g) := C.out.g8.cell 6
  rw [his.out] at g0
  go_wp2_with (first | (go_at_call 74; refine (r_Call _ _ _ _ _ _ h12.out h23.out _).mono ?_; rintro e w1 ⟨rfl, hb1⟩; rw [he.out, hct.out]; have Z1 : Hid (rsAt w1 (w.heap.size + 1 + 1 + 1 + 1 + 1) St.zero (.slice none 0 0)) := Off.keeps (.of_below (ex := fun _ => False) hb1) C.out.z12 id; have L1 := Lib.hid (below2 C.out.bl hb1); have g11 : w1.cell? ⟨w.heap.size + 1 + 1, 1, none⟩ = some (.slice au g.ws.length cu) := (show blk7 w1 (w.heap.size + 1 + 1) 57 (.bool g.is) (.slice au g.ws.length cu) (.int .i64 g.md) (.int .i64 g.r1) (.int .i64 g.r2) (.int .i64 g.r3) (.int .i64 g.g) from Off.keeps (.of_below (ex := fun _ => False) hb1) C.out.g8 id).cell 1; have s16 : w1.cell? ⟨w.heap.size, 16, none⟩ = some (.slice ad n' c) := (show rsAt w1 w.heap.size s (.slice ad n' c) from Off.keeps (.of_below (ex := fun _ => False) hb1) C.out.s6 id).cell 16; clear hb1; (try dsimp only)) | ((with_reducible refine wpList_store_rs (op := ⟨none, .store 39 (.tmp 12) (.tmp 47), _, _, _, _⟩) (N := (w.heap.size + 1 + 1 + 1 + 1 + 1)) (s := St.zero) (stk := (.slice none 0 0)) (s' := St.zero) (stk' := (.slice none 0 0)) ?_ (.tmp 12) (.tmp 47) ?_ ?_ ?_ ?_ ?_ ?_); exact rfl; exact rfl; exact rfl; exact rfl; exact Z1.out; exact rfl; intro w9 S1 F1; replace S1 := Lib.hid S1; replace F1 := Lib.hid F1))
  exact bodyPost_ret (call_results S1.out _ rfl rfl) rfl ⟨rfl, Off.below L1.out F1.out (L1.out).size (fun j hj => by omega)⟩
set_option maxHeartbeats 4000000 in
theorem c_rcall_37 (w : World) (s t : St) (ad : Option Addr) (n' c : Nat) (g : Sg) (au : Option Addr) (cu : Nat) (q : Pt) (op p n r : Int) (his : g.is = true) (hh : g.has 4 = true) (h12 : g.r1 ≤ g.r2) (h23 : g.r2 ≤ g.r3) (he : callE g.r1 g.r2 g.r3 g.g (wrap64 (q.off + n)) r = 0) (hle : ¬ (g.ws.length : Int) ≤ wrap64 (q.off + n)) (h8 : ¬ (n' : Int) < 8) : Calls Try.prog 49 #[.agg (stC s (.slice ad n' c)), .agg (stC t (.slice ad n' c)), sgA (.slice au g.ws.length cu) g, .agg #[.int .i64 q.seg, .int .i64 q.off, .int .i64 q.ring], .agg #[.int .i64 op, .int .i64 p, .int .i64 n], .int .i64 r] w fun e w' => e = .returned (.tuple #[.agg (stC St.zero (.slice none 0 0)), .int .i64 37]) ∧ Below w.heap.size w w' := by
  have hm : (bits .and .i64 g.md 4 == 0) = false := by unfold Sg.has at hh; simpa using hh
  replace his := Lib.hid his
  clear hh
  replace h12 := Lib.hid h12
  replace h23 := Lib.hid h23
  obtain ⟨ct, hct⟩ : ∃ ct, callTo g.r1 g.r2 g.r3 g.g (wrap64 (q.off + n)) r = ct := ⟨_, rfl⟩
  replace hct := Lib.hid hct
  replace he := Lib.hid he
  obtain ⟨W0, hW0, C⟩ : ∃ W, ((((((w.alloc (.cells (stC s (.slice ad n' c)) 39)).alloc (.cells (stC t (.slice ad n' c)) 39)).alloc (.cells #[.bool g.is, .slice au g.ws.length cu, .int .i64 g.md, .int .i64 g.r1, .int .i64 g.r2, .int .i64 g.r3, .int .i64 g.g] 57)).alloc (.cells #[.int .i64 q.seg, .int .i64 q.off, .int .i64 q.ring] 24)).alloc (.cells #[.int .i64 op, .int .i64 p, .int .i64 n] 64)).alloc (.cells (stC St.zero (.slice none 0 0)) 39)) = W ∧ Hid (CaE w W s t (.slice ad n' c) g (.slice au g.ws.length cu) q op p n) := ⟨_, rfl, Lib.hid (CaE.new _ _ _ _ _ _ _ _ _ _)⟩
  replace hW0 := Lib.hid hW0
  unfold sgA
  go_enter Try.func49, Try.ntmps49
  go_upto_region 1 with fail
  rw [show ((((((w.alloc (.cells (stC s (.slice ad n' c)) 39)).alloc (.cells (stC t (.slice ad n' c)) 39)).alloc (.cells #[.bool g.is, .slice au g.ws.length cu, .int .i64 g.md, .int .i64 g.r1, .int .i64 g.r2, .int .i64 g.r3, .int .i64 g.g] 57)).alloc (.cells #[.int .i64 q.seg, .int .i64 q.off, .int .i64 q.ring] 24)).alloc (.cells #[.int .i64 op, .int .i64 p, .int .i64 n] 64)).alloc (.cells #[.int .i64 0, .int .i64 0, .int .i64 0, .int .i64 0, .int .i64 0, .int .i64 0, .int .i64 0, .int .i64 0, .int .i64 0, .int .i64 0, .int .i64 0, .int .i64 0, .int .i64 0, .int .i64 0, .int .i64 0, .int .i64 0, .slice none 0 0, .bool false] 39)) = W0 from hW0.out]
  clear hW0
  have q1 : W0.cell? ⟨w.heap.size + 1 + 1 + 1, 1, none⟩ = some (.int .i64 q.off) := C.out.p9.facts.1.2.1
  have n2 : W0.cell? ⟨w.heap.size + 1 + 1 + 1 + 1, 2, none⟩ = some (.int .i64 n) := C.out.i10.facts.1.2.2
  have g0 : W0.cell? ⟨w.heap.size + 1 + 1, 0, none⟩ = some (.bool g.is) := C.out.g8.cell 0
  have g2 : W0.cell? ⟨w.heap.size + 1 + 1, 2, none⟩ = some (.int .i64 g.md) := C.out.g8.cell 2
  have g3 : W0.cell? ⟨w.heap.size + 1 + 1, 3, none⟩ = some (.int .i64 g.r1) := C.out.g8.cell 3
  have g4 : W0.cell? ⟨w.heap.size + 1 + 1, 4, none⟩ = some (.int .i64 g.r2) := C.out.g8.cell 4
  have g5 : W0.cell? ⟨w.heap.size + 1 + 1, 5, none⟩ = some (.int .i64 g.r3) := C.out.g8.cell 5
  have g6 : W0.cell? ⟨w.heap.size + 1 + 1, 6, none⟩ = some (.int .i64 g.g) := C.out.g8.cell 6
  rw [his.out] at g0
  go_wp2_with (first | (go_at_call 74; refine (r_Call _ _ _ _ _ _ h12.out h23.out _).mono ?_; rintro e w1 ⟨rfl, hb1⟩; rw [he.out, hct.out]; have Z1 : Hid (rsAt w1 (w.heap.size + 1 + 1 + 1 + 1 + 1) St.zero (.slice none 0 0)) := Off.keeps (.of_below (ex := fun _ => False) hb1) C.out.z12 id; have L1 := Lib.hid (below2 C.out.bl hb1); have g11 : w1.cell? ⟨w.heap.size + 1 + 1, 1, none⟩ = some (.slice au g.ws.length cu) := (show blk7 w1 (w.heap.size + 1 + 1) 57 (.bool g.is) (.slice au g.ws.length cu) (.int .i64 g.md) (.int .i64 g.r1) (.int .i64 g.r2) (.int .i64 g.r3) (.int .i64 g.g) from Off.keeps (.of_below (ex := fun _ => False) hb1) C.out.g8 id).cell 1; have s16 : w1.cell? ⟨w.heap.size, 16, none⟩ = some (.slice ad n' c) := (show rsAt w1 w.heap.size s (.slice ad n' c) from Off.keeps (.of_below (ex := fun _ => False) hb1) C.out.s6 id).cell 16; clear hb1; (try dsimp only)) | ((with_reducible refine wpList_store_rs (op := ⟨none, .store 39 (.tmp 12) (.tmp 52), _, _, _, _⟩) (N := (w.heap.size + 1 + 1 + 1 + 1 + 1)) (s := St.zero) (stk := (.slice none 0 0)) (s' := St.zero) (stk' := (.slice none 0 0)) ?_ (.tmp 12) (.tmp 52) ?_ ?_ ?_ ?_ ?_ ?_); exact rfl; exact rfl; exact rfl; exact rfl; exact Z1.out; exact rfl; intro w9 S1 F1; replace S1 := Lib.hid S1; replace F1 := Lib.hid F1))
  exact bodyPost_ret (call_results S1.out _ rfl rfl) rfl ⟨rfl, Off.below L1.out F1.out (L1.out).size (fun j hj => by omega)⟩
end Go.Proofs.Ytiakonmamkfopaa
namespace Go.Proofs.Ytiakonmamkfopaa
open Go.RowKit Go.ChangeShapes
set_option linter.unusedVariables false
set_option maxRecDepth 1000000
/-- what the great region holds to -/
def S7 (D : World) (b : Nat) (x : Int) (w' : World) : Prop := Off (· = b) D w' ∧ w'.cell? ⟨b, 1, none⟩ = some (.int .i64 x)
theorem S7.off {D w : World} {b : Nat} {x : Int} (h : S7 D b x w) : Off (· = b) D w := h.1
theorem S7.size {D w : World} {b : Nat} {x : Int} (h : S7 D b x w) : D.heap.size ≤ w.heap.size := h.1.size
theorem S7.below {D w w' : World} {b : Nat} {x : Int} (h : S7 D b x w) (hb : Below w.heap.size w w') : S7 D b x w' :=
  ⟨h.1.trans (.of_below hb), (hb.cell (p := ⟨b, 1, none⟩) (World.block_lt_of_cell? w _ h.2)).trans h.2⟩
theorem S7.grown {D w w' : World} {b : Nat} {x : Int} {row : Option Nat} (h : S7 D b x w) (hg : w.grownBy w' row) (hr : ∀ k, row = some k → D.heap.size ≤ k) (hb : b < D.heap.size) : S7 D b x w' := by
  have o : Off (fun k => row = some k) w w' := (Off.refl _ _).grown hg (fun k hk => .inl hk)
  exact ⟨h.1.grown hg (fun k hk => .inr (hr k hk)), off_cell o h.2 (fun e => by have := hr _ e; simp at this; omega)⟩
theorem empty_row2 (w : World) (B : Nat) (ty : TypeId) (size : Nat) (hB : B ≤ w.heap.size) : (w.alloc (.cells #[] ty)).ownsRow B ty size (.slice (some ⟨w.heap.size, 0, none⟩) 0 0) 0 [] :=
  ⟨by simp, .inr ⟨w.heap.size, 0, #[], rfl, hB, heap_alloc_new w _, Nat.le_refl _, by decide, by simp, by simp⟩⟩
theorem own_lo2 {w : World} {B n size : Nat} {e : TypeId} {v : Value} {xs : List Value} (h : w.ownsRow B e size v n xs) : ∀ k, v.ownBlock = some k → B ≤ k := by
  intro k hk
  rcases h.2 with ⟨e, _⟩ | ⟨g, cap, cur, e, hb, hg, _⟩
  · rw [e] at hk; cases hk
  · rw [e] at hk; cases hk; exact hb
theorem S7.set {D w : World} {b : Nat} {x : Int} (h : S7 D b x w) (v : Value) : S7 D b x (w.setCell ⟨b, 16, none⟩ v) := by
  refine ⟨h.1.setCell (.inl rfl) _, ?_⟩
  rw [← h.2]
  simp only [World.cell?, World.setCell, Array.getElem?_modify]
  cases hb : w.heap[b]? with
  | none => simp
  | some o => cases o <;> simp
theorem rs_stk {w : World} {N : Nat} {s : St} {stk : Value} (h : rsAt w N s stk) (v : Value) : rsAt (w.setCell ⟨N, 16, none⟩ v) N s v := by
  unfold rsAt stC at h ⊢
  simp [World.setCell, Array.getElem?_modify, h]
theorem rs_place {w : World} {N : Nat} {s : St} {stk : Value} (h : rsAt w N s stk) (a b c : Int) : rsAt (((w.setCell ⟨N, 0, none⟩ (.int .i64 a)).setCell ⟨N, 1, none⟩ (.int .i64 b)).setCell ⟨N, 2, none⟩ (.int .i64 c)) N { s with seg := a, off := b, ring := c } stk := by
  unfold rsAt stC at h ⊢
  simp [World.setCell, Array.getElem?_modify, h]
set_option maxHeartbeats 8000000 in
theorem c_rcall_ok1 (w : World) (s t : St) (gs c : Nat) (g : Sg) (au : Option Addr) (cu : Nat) (q : Pt) (op p n r : Int) (l : List Fr) (hk : rstkAt w (.slice (some ⟨gs, 0, none⟩) l.length c) l) (h8 : l.length < 8) (his : g.is = true) (hh : g.has 4 = true) (h12 : g.r1 ≤ g.r2) (h23 : g.r2 ≤ g.r3) (he : callE g.r1 g.r2 g.r3 g.g (wrap64 (q.off + n)) r = 0) (hle : ¬ (g.ws.length : Int) ≤ wrap64 (q.off + n)) : Calls Try.prog 49 #[.agg (stC s (.slice (some ⟨gs, 0, none⟩) l.length c)), .agg (stC t (.slice (some ⟨gs, 0, none⟩) l.length c)), sgA (.slice au g.ws.length cu) g, .agg #[.int .i64 q.seg, .int .i64 q.off, .int .i64 q.ring], .agg #[.int .i64 op, .int .i64 p, .int .i64 n], .int .i64 r] w fun e w' => ∃ v, e = .returned (.tuple #[.agg (stC ({ t with seg := q.seg, off := wrap64 (q.off + n), ring := callTo g.r1 g.r2 g.r3 g.g (wrap64 (q.off + n)) r }.raise s.ring) v), .int .i64 0]) ∧ rstkAt w' v (l ++ [⟨s.seg, t.off, s.ring⟩]) ∧ Below w.heap.size w w' := by
  have hm : (bits .and .i64 g.md 4 == 0) = false := by unfold Sg.has at hh; simpa using hh
  replace his := Lib.hid his
  clear hh
  replace h12 := Lib.hid h12
  replace h23 := Lib.hid h23
  obtain ⟨ct, hct⟩ : ∃ ct, callTo g.r1 g.r2 g.r3 g.g (wrap64 (q.off + n)) r = ct := ⟨_, rfl⟩
  replace hct := Lib.hid hct
  replace he := Lib.hid he
  have h8i : (l.length : Int) < 8 := by omega
  replace h8 := Lib.hid h8
  replace hk := Lib.hid hk
  obtain ⟨W0, hW0, C⟩ : ∃ W, ((((((w.alloc (.cells (stC s (.slice (some ⟨gs, 0, none⟩) l.length c)) 39)).alloc (.cells (stC t (.slice (some ⟨gs, 0, none⟩) l.length c)) 39)).alloc (.cells #[.bool g.is, .slice au g.ws.length cu, .int .i64 g.md, .int .i64 g.r1, .int .i64 g.r2, .int .i64 g.r3, .int .i64 g.g] 57)).alloc (.cells #[.int .i64 q.seg, .int .i64 q.off, .int .i64 q.ring] 24)).alloc (.cells #[.int .i64 op, .int .i64 p, .int .i64 n] 64)).alloc (.cells (stC St.zero (.slice none 0 0)) 39)) = W ∧ Hid (CaE w W s t (.slice (some ⟨gs, 0, none⟩) l.length c) g (.slice au g.ws.length cu) q op p n) := ⟨_, rfl, Lib.hid (CaE.new _ _ _ _ _ _ _ _ _ _)⟩
  replace hW0 := Lib.hid hW0
  unfold sgA
  go_enter Try.func49, Try.ntmps49
  go_upto_region 1 with fail
  rw [show ((((((w.alloc (.cells (stC s (.slice (some ⟨gs, 0, none⟩) l.length c)) 39)).alloc (.cells (stC t (.slice (some ⟨gs, 0, none⟩) l.length c)) 39)).alloc (.cells #[.bool g.is, .slice au g.ws.length cu, .int .i64 g.md, .int .i64 g.r1, .int .i64 g.r2, .int .i64 g.r3, .int .i64 g.g] 57)).alloc (.cells #[.int .i64 q.seg, .int .i64 q.off, .int .i64 q.ring] 24)).alloc (.cells #[.int .i64 op, .int .i64 p, .int .i64 n] 64)).alloc (.cells #[.int .i64 0, .int .i64 0, .int .i64 0, .int .i64 0, .int .i64 0, .int .i64 0, .int .i64 0, .int .i64 0, .int .i64 0, .int .i64 0, .int .i64 0, .int .i64 0, .int .i64 0, .int .i64 0, .int .i64 0, .int .i64 0, .slice none 0 0, .bool false] 39)) = W0 from hW0.out]
  clear hW0
  have q1 : W0.cell? ⟨w.heap.size + 1 + 1 + 1, 1, none⟩ = some (.int .i64 q.off) := C.out.p9.facts.1.2.1
  have n2 : W0.cell? ⟨w.heap.size + 1 + 1 + 1 + 1, 2, none⟩ = some (.int .i64 n) := C.out.i10.facts.1.2.2
  have g0 : W0.cell? ⟨w.heap.size + 1 + 1, 0, none⟩ = some (.bool g.is) := C.out.g8.cell 0
  have g2 : W0.cell? ⟨w.heap.size + 1 + 1, 2, none⟩ = some (.int .i64 g.md) := C.out.g8.cell 2
  have g3 : W0.cell? ⟨w.heap.size + 1 + 1, 3, none⟩ = some (.int .i64 g.r1) := C.out.g8.cell 3
  have g4 : W0.cell? ⟨w.heap.size + 1 + 1, 4, none⟩ = some (.int .i64 g.r2) := C.out.g8.cell 4
  have g5 : W0.cell? ⟨w.heap.size + 1 + 1, 5, none⟩ = some (.int .i64 g.r3) := C.out.g8.cell 5
  have g6 : W0.cell? ⟨w.heap.size + 1 + 1, 6, none⟩ = some (.int .i64 g.g) := C.out.g8.cell 6
  rw [his.out] at g0
  go_upto_region 13 with (first | (go_at_call 74; refine (r_Call _ _ _ _ _ _ h12.out h23.out _).mono ?_; rintro e w1 ⟨rfl, hb1⟩; rw [he.out, hct.out]; have Z1 : Hid (rsAt w1 (w.heap.size + 1 + 1 + 1 + 1 + 1) St.zero (.slice none 0 0)) := Off.keeps (.of_below (ex := fun _ => False) hb1) C.out.z12 id; have L1 := Lib.hid (below2 C.out.bl hb1); have g11 : w1.cell? ⟨w.heap.size + 1 + 1, 1, none⟩ = some (.slice au g.ws.length cu) := (show blk7 w1 (w.heap.size + 1 + 1) 57 (.bool g.is) (.slice au g.ws.length cu) (.int .i64 g.md) (.int .i64 g.r1) (.int .i64 g.r2) (.int .i64 g.r3) (.int .i64 g.g) from Off.keeps (.of_below (ex := fun _ => False) hb1) C.out.g8 id).cell 1; have s16 : w1.cell? ⟨w.heap.size, 16, none⟩ = some (.slice (some ⟨gs, 0, none⟩) l.length c) := (show rsAt w1 w.heap.size s (.slice (some ⟨gs, 0, none⟩) l.length c) from Off.keeps (.of_below (ex := fun _ => False) hb1) C.out.s6 id).cell 16; have S1 : Hid (rsAt w1 w.heap.size s (.slice (some ⟨gs, 0, none⟩) l.length c)) := Off.keeps (.of_below (ex := fun _ => False) hb1) C.out.s6 id; have T1 : Hid (rsAt w1 (w.heap.size + 1) t (.slice (some ⟨gs, 0, none⟩) l.length c)) := Off.keeps (.of_below (ex := fun _ => False) hb1) C.out.t7 id; have P1 : Hid (blk3 w1 (w.heap.size + 1 + 1 + 1) 24 (.int .i64 q.seg) (.int .i64 q.off) (.int .i64 q.ring)) := Off.keeps (.of_below (ex := fun _ => False) hb1) C.out.p9 id; clear hb1; (try dsimp only)))
  obtain ⟨iF, hiF, hz0, hz1, hz2⟩ := info_parts A.infoRF
  refine wp_region_noPanic ?_
  refine wp_region_held_drew (S := fun w' => S7 w1.drew (w.heap.size + 1) t.off w') (by kernel_rfl) ⟨Off.refl _ _, T1.out.cell 1⟩ (fun hHeld => ?_)
  have LD0 : Hid (True) := trivial
  have FD : Hid (S7 w1.drew (w.heap.size + 1) t.off w1.drew) := ⟨Off.refl _ _, T1.out.cell 1⟩
  have SD : Hid (rsAt w1.drew w.heap.size s (.slice (some ⟨gs, 0, none⟩) l.length c)) := S1
  have TD : Hid (rsAt w1.drew (w.heap.size + 1) t (.slice (some ⟨gs, 0, none⟩) l.length c)) := T1
  have LD : Hid (Below w.heap.size w w1.drew) := below_drew L1.out
  have KD : Hid (w1.drew.ownsRow 0 92 3 (.slice (some ⟨gs, 0, none⟩) l.length c) l.length (frC l)) := Off.row (ex := fun _ => False) (.of_below (below_drew L1.out)) hk.out (fun _ h => h.elim)
  have BD : Hid ((w.heap.size + 1) < w1.drew.heap.size) := TD.out.lt
  have PD : Hid (blk3 w1.drew (w.heap.size + 1 + 1 + 1) 24 (.int .i64 q.seg) (.int .i64 q.off) (.int .i64 q.ring)) := P1
  have ZD : Hid (rsAt w1.drew (w.heap.size + 1 + 1 + 1 + 1 + 1) St.zero (.slice none 0 0)) := Z1
  have LW : Hid (Below w.heap.size w w1.drew) := LD
  clear S1 T1 P1 Z1 L1 LD
  generalize w1.drew = D at FD SD TD LW KD BD PD ZD hHeld ⊢
  have LD : Hid (Below D.heap.size D D) := Below.refl _ _
  have k5 : ∀ w', S7 D (w.heap.size + 1) t.off w' → w'.cell? ⟨w.heap.size, 16, none⟩ = some (.slice (some ⟨gs, 0, none⟩) l.length c) := fun w' h => (show rsAt w' w.heap.size s (.slice (some ⟨gs, 0, none⟩) l.length c) from Off.keeps h.1 SD.out (by omega)).cell 16
  have k0 : ∀ w', S7 D (w.heap.size + 1) t.off w' → w'.cell? ⟨w.heap.size, 0, none⟩ = some (.int .i64 s.seg) := fun w' h => (show rsAt w' w.heap.size s (.slice (some ⟨gs, 0, none⟩) l.length c) from Off.keeps h.1 SD.out (by omega)).cell 0
  have k2 : ∀ w', S7 D (w.heap.size + 1) t.off w' → w'.cell? ⟨w.heap.size, 2, none⟩ = some (.int .i64 s.ring) := fun w' h => (show rsAt w' w.heap.size s (.slice (some ⟨gs, 0, none⟩) l.length c) from Off.keeps h.1 SD.out (by omega)).cell 2
  have k1 : ∀ w', S7 D (w.heap.size + 1) t.off w' → w'.cell? ⟨(w.heap.size + 1), 1, none⟩ = some (.int .i64 t.off) := fun w' h => h.2
  try simp only [Act.put, sA, sB, sC]
  refine tkA 1 ?_
  try simp only [Act.put, sA, sB, sC]
  refine tkA 2 ?_
  try simp only [Act.put, sA, sB, sC]
  refine tkA 4 ?_
  try simp only [Act.put, sA, sB, sC]
  refine tkA 5 ?_
  try simp only [Act.put, sA, sB, sC]
  refine tkA 6 ?_
  try simp only [Act.put, sA, sB, sC]
  refine tkA 7 ?_
  try simp only [Act.put, sA, sB, sC]
  refine tkA 8 ?_
  try simp only [Act.put, sA, sB, sC]
  refine tkA 9 ?_
  try simp only [Act.put, sA, sB, sC]
  refine tkA 10 ?_
  try simp only [Act.put, sA, sB, sC]
  clear k5 k0 k2 k1
  refine rdB 0 11 (fun K hK => ?_) (fun K hK => ?_)
  · go_simp
    refine hK.out _ _ ?_ (fun hHeld => ?_)
    · exact S7.below FD.out (below_al0 D _)
    clear hK K
    try simp only [Act.put, sA, sB, sC]
    obtain ⟨x1, hx1, Bx1⟩ : ∃ X, D.alloc (.cells #[] 92) = X ∧ Hid (Below D.heap.size D X) := ⟨_, rfl, below_al0 _ _⟩
    obtain ⟨eb, heb⟩ : ∃ e, D.heap.size = e := ⟨_, rfl⟩
    have Ex1 : Hid (x1.ownsRow D.heap.size 92 3 (.slice (some ⟨eb, 0, none⟩) 0 0) 0 []) := by rw [← hx1, ← heb]; exact empty_row2 D D.heap.size 92 3 (S7.size FD.out)
    have hEx1 : Hid (D.heap.size ≤ eb) := by rw [← heb]; exact S7.size FD.out
    rw [hx1]
    rw [heb]
    have Fx1 := Lib.hid (S7.below FD.out Bx1.out)
    have Lx1 := Lib.hid (below2 LD.out Bx1.out)
    clear hx1
    refine rdB 3 11 (fun K hK => ?_) (fun K hK => ?_)
    · have Kx1 : x1.ownsRow 0 92 3 (.slice (some ⟨gs, 0, none⟩) l.length c) l.length (frC l) := Off.row (S7.off Fx1.out) KD.out (rs_not TD.out _ (by decide))
      (try rw [if_pos (by rfl)])
      refine wp_append_own _ (.tmp 53) (.tmp 55) 37 rfl D.heap.size 92 iF (.agg #[.int .i64 0, .int .i64 0, .int .i64 0]) 3 24 A.underRF hiF hz0 hz1 hz2 rfl (by decide) (.slice (some ⟨eb, 0, none⟩) 0 0) 0 [] rfl Ex1.out ⟨gs, 0, none⟩ l.length c (frC l) rfl (frC_length l) (fun j u hj => row_cells Kx1 _ rfl j u hj) (frC_one l) (by have := h8.out; unfold maxLen; omega) (by have := h8.out; omega) (S7.size Fx1.out) ?_
      intro v1 x2 hown hgrow _
      rw [Nat.zero_add, List.nil_append] at hown
      have Vx2 := Lib.hid hown
      have Fx2 := Lib.hid (S7.grown Fx1.out hgrow (fun k hk => own_lo2 Ex1.out k hk) BD.out)
      have Lx2 : Hid (Below D.heap.size D x2) := ((Off.of_below (ex := fun _ => False) Lx1.out).grown hgrow (fun k hk => .inr (own_lo2 Ex1.out k hk))).to_below
      clear hown hgrow Kx1
      refine hK.out _ _ ?_ (fun hHeld => ?_)
      · exact Fx2.out
      clear hK K
      try simp only [Act.put, sA, sB, sC]
      refine rdA 11 (fun K hK => ?_)
      go_simp
      refine hK.out _ _ ?_ (fun hHeld => ?_)
      · exact S7.below Fx2.out (below_al0 x2 _)
      clear hK K
      try simp only [Act.put, sA, sB, sC]
      obtain ⟨x3, hx3, Bx3⟩ : ∃ X, x2.alloc (.cells #[.int .i64 s.seg, .int .i64 t.off, .int .i64 s.ring] 92) = X ∧ Hid (Below x2.heap.size x2 X) := ⟨_, rfl, below_al0 _ _⟩
      obtain ⟨nb, hnb⟩ : ∃ e, x2.heap.size = e := ⟨_, rfl⟩
      have Nx3 : Hid (x3.heap[nb]? = some (.cells #[.int .i64 s.seg, .int .i64 t.off, .int .i64 s.ring] 92 (0, 0))) := by rw [← hx3, ← hnb]; exact heap_alloc_new _ _
      rw [hx3]
      rw [hnb]
      have Vx3 : Hid (x3.ownsRow D.heap.size 92 3 v1 l.length (frC l)) := Off.row (ex := fun _ => False) (.of_below Bx3.out) Vx2.out (fun _ h => h.elim)
      have Fx3 := Lib.hid (S7.below Fx2.out Bx3.out)
      have Lx3 := Lib.hid (below2 Lx2.out Bx3.out)
      clear hx3
      refine rdA 12 (fun K hK => ?_)
      (try rw [if_pos (by rfl)])
      refine wp_append_own _ (.tmp 56) (.tmp 64) 37 rfl D.heap.size 92 iF (.agg #[.int .i64 0, .int .i64 0, .int .i64 0]) 3 24 A.underRF hiF hz0 hz1 hz2 rfl (by decide) v1 l.length (frC l) rfl Vx3.out ⟨nb, 0, none⟩ 1 1 [.int .i64 s.seg, .int .i64 t.off, .int .i64 s.ring] rfl rfl (fun j u hj => (by rw [Addr.add_lit, Nat.zero_add]; exact (cell_of_row x3 nb j _ _ _ Nx3.out).trans (by simpa using hj))) (by intro u hu; simp at hu; rcases hu with rfl | rfl | rfl <;> rfl) (by have := h8.out; unfold maxLen; omega) (by have := h8.out; omega) (S7.size Fx3.out) ?_
      intro v2 x4 hown hgrow _
      have Fx4 := Lib.hid (S7.grown Fx3.out hgrow (fun k hk => own_lo2 Vx3.out k hk) BD.out)
      have Lx4 : Hid (Below D.heap.size D x4) := ((Off.of_below (ex := fun _ => False) Lx3.out).grown hgrow (fun k hk => .inr (own_lo2 Vx3.out k hk))).to_below
      clear hgrow
      obtain ⟨g2, c2, hq⟩ := row_some hown (by omega)
      subst hq
      replace hown := Lib.hid hown
      refine hK.out _ _ ?_ (fun hHeld => ?_)
      · exact Fx4.out
      clear hK K
      try simp only [Act.put, sA, sB, sC]
      refine tkA 13 ?_
      try simp only [Act.put, sA, sB, sC]
      have Tx4 : Hid (rsAt x4 (w.heap.size + 1) t (.slice (some ⟨gs, 0, none⟩) l.length c)) := Off.keeps (.of_below (ex := fun _ => False) Lx4.out) TD.out id
      have c16 : x4.cell? ⟨(w.heap.size + 1), 16, none⟩ = some (.slice (some ⟨gs, 0, none⟩) l.length c) := Tx4.out.cell 16
      have cf : ∀ j, x4.frozen? ⟨(w.heap.size + 1), j, none⟩ = false := fun j => Tx4.out.free j
      refine rdA 14 (fun K hK => ?_)
      go_simp
      refine hK.out _ _ ?_ (fun hHeld => ?_)
      · exact S7.set Fx4.out _
      clear hK K
      try simp only [Act.put, sA, sB, sC]
      obtain ⟨Y, hY, TY, KY, LY⟩ : ∃ Y, x4.setCell ⟨(w.heap.size + 1), 16, none⟩ (.slice (some ⟨g2, 0, none⟩) (l.length + 1) c2) = Y ∧ Hid (rsAt Y (w.heap.size + 1) t (.slice (some ⟨g2, 0, none⟩) (l.length + 1) c2)) ∧ Hid (Y.ownsRow 0 92 3 (.slice (some ⟨g2, 0, none⟩) (l.length + 1) c2) (l.length + 1) (frC (l ++ [⟨s.seg, t.off, s.ring⟩]))) ∧ Hid (Off (· = (w.heap.size + 1)) D Y) := ⟨_, rfl, rs_stk Tx4.out _, by rw [frC_append]; exact row_base (Off.row (off1 _ _ _ _) hown.out (rs_not Tx4.out _ (by decide))) (Nat.zero_le _), Off.setCell (ex := (· = (w.heap.size + 1))) (Off.of_below Lx4.out) (.inl rfl) _⟩
      rw [hY]
      clear hY c16 cf Tx4 hown Fx4 Lx4
      refine wpAnyH_done (by kernel_rfl) ?_ _
      refine NoPanic.normal ?_
      have y0 : Y.cell? ⟨(w.heap.size + 1), 0, none⟩ = some (.int .i64 t.seg) := TY.out.cell 0
      have y1 : Y.cell? ⟨(w.heap.size + 1), 1, none⟩ = some (.int .i64 t.off) := TY.out.cell 1
      have y2 : Y.cell? ⟨(w.heap.size + 1), 2, none⟩ = some (.int .i64 t.ring) := TY.out.cell 2
      have yf : ∀ j, Y.frozen? ⟨(w.heap.size + 1), j, none⟩ = false := fun j => TY.out.free j
      have p0 : Y.cell? ⟨w.heap.size + 1 + 1 + 1, 0, none⟩ = some (.int .i64 q.seg) := (show blk3 Y (w.heap.size + 1 + 1 + 1) 24 (.int .i64 q.seg) (.int .i64 q.off) (.int .i64 q.ring) from Off.keeps LY.out PD.out (by omega)).facts.1.1
      go_upto_region 15 with fail
      obtain ⟨Z, hZ, TZ, KZ, LZ⟩ : ∃ Z, ((Y.setCell ⟨(w.heap.size + 1), 0, none⟩ (.int .i64 q.seg)).setCell ⟨(w.heap.size + 1), 1, none⟩ (.int .i64 (wrap64 (q.off + n)))).setCell ⟨(w.heap.size + 1), 2, none⟩ (.int .i64 ct) = Z ∧ Hid (rsAt Z (w.heap.size + 1) { t with seg := q.seg, off := wrap64 (q.off + n), ring := ct } (.slice (some ⟨g2, 0, none⟩) (l.length + 1) c2)) ∧ Hid (Z.ownsRow 0 92 3 (.slice (some ⟨g2, 0, none⟩) (l.length + 1) c2) (l.length + 1) (frC (l ++ [⟨s.seg, t.off, s.ring⟩]))) ∧ Hid (Off (· = (w.heap.size + 1)) D Z) := ⟨_, rfl, rs_place TY.out _ _ _, Off.row (((off1 _ _ _ _).trans (off1 _ _ _ _)).trans (off1 _ _ _ _)) KY.out (rs_not TY.out _ (by decide)), Off.setCell (ex := (· = (w.heap.size + 1))) (Off.setCell (ex := (· = (w.heap.size + 1))) (Off.setCell (ex := (· = (w.heap.size + 1))) LY.out (.inl rfl) _) (.inl rfl) _) (.inl rfl) _⟩
      rw [hZ]
      clear hZ y0 y1 y2 yf p0 TY KY LY
      have x2 : Z.cell? ⟨w.heap.size, 2, none⟩ = some (.int .i64 s.ring) := (show rsAt Z w.heap.size s (.slice (some ⟨gs, 0, none⟩) l.length c) from Off.keeps LZ.out SD.out (by omega)).cell 2
      have ZZ : Hid (rsAt Z (w.heap.size + 1 + 1 + 1 + 1 + 1) St.zero (.slice none 0 0)) := Off.keeps LZ.out ZD.out (by omega)
      obtain ⟨t2, ht2⟩ : ∃ t2 : St, { t with seg := q.seg, off := wrap64 (q.off + n), ring := ct } = t2 := ⟨_, rfl⟩
      rw [ht2] at TZ
      replace ht2 := Lib.hid ht2
      go_wp2_with (first | ((with_reducible refine wpList_load_rs (op := ⟨some 74, .load 39 (.tmp 7), _, _, _, _⟩) (N := (w.heap.size + 1)) (s := t2) (stk := (.slice (some ⟨g2, 0, none⟩) (l.length + 1) c2)) ?_ (.tmp 7) ?_ ?_ ?_ ?_); exact rfl; exact rfl; exact rfl; exact rs_range TZ.out) | (go_at_call 50; refine (c_rraise Z t2 (some ⟨g2, 0, none⟩) (l.length + 1) c2 s.ring).mono ?_; rintro e z1 ⟨rfl, hb9⟩; have ZZ1 : Hid (rsAt z1 (w.heap.size + 1 + 1 + 1 + 1 + 1) St.zero (.slice none 0 0)) := Off.keeps (.of_below (ex := fun _ => False) hb9) ZZ.out id; have B9 := Lib.hid hb9; clear hb9; (try dsimp only)) | ((with_reducible refine wpList_store_rs (op := ⟨none, .store 39 (.tmp 12) (.tmp 77), _, _, _, _⟩) (N := (w.heap.size + 1 + 1 + 1 + 1 + 1)) (s := St.zero) (stk := (.slice none 0 0)) (s' := (t2.raise s.ring)) (stk' := (.slice (some ⟨g2, 0, none⟩) (l.length + 1) c2)) ?_ (.tmp 12) (.tmp 77) ?_ ?_ ?_ ?_ ?_ ?_); exact rfl; exact rfl; exact rfl; exact rfl; exact ZZ1.out; exact rfl; intro w9 S1 F1; replace S1 := Lib.hid S1; replace F1 := Lib.hid F1))
      refine bodyPost_ret (call_results S1.out _ rfl rfl) rfl ⟨_, by rw [hct.out, ht2.out], ?_, ?_⟩
      · have h := Off.row F1.out (Off.row (ex := fun _ => False) (.of_below B9.out) KZ.out (fun _ h => h.elim)) (rs_not ZZ1.out _ (by decide))
        unfold rstkAt
        rw [List.length_append]
        exact h
      · have b1 : Below w.heap.size w Z := Off.below LW.out LZ.out LW.out.size (fun j hj => by omega)
        have b2 := below2 b1 B9.out
        exact Off.below b2 F1.out b2.size (fun j hj => by omega)
    · go_simp
      refine hK.out _ _ ?_ (fun hHeld => ?_)
      · exact S7.below Fx1.out (below_al0 x1 _)
      clear hK K
      try simp only [Act.put, sA, sB, sC]
      obtain ⟨x5, hx5, Bx5⟩ : ∃ X, x1.alloc (.cells #[.int .i64 s.seg, .int .i64 t.off, .int .i64 s.ring] 92) = X ∧ Hid (Below x1.heap.size x1 X) := ⟨_, rfl, below_al0 _ _⟩
      obtain ⟨nb, hnb⟩ : ∃ e, x1.heap.size = e := ⟨_, rfl⟩
      have Nx5 : Hid (x5.heap[nb]? = some (.cells #[.int .i64 s.seg, .int .i64 t.off, .int .i64 s.ring] 92 (0, 0))) := by rw [← hx5, ← hnb]; exact heap_alloc_new _ _
      rw [hx5]
      rw [hnb]
      have Ex5 : Hid (x5.ownsRow D.heap.size 92 3 (.slice (some ⟨eb, 0, none⟩) 0 0) 0 []) := Off.row (ex := fun _ => False) (.of_below Bx5.out) Ex1.out (fun _ h => h.elim)
      have Fx5 := Lib.hid (S7.below Fx1.out Bx5.out)
      have Lx5 := Lib.hid (below2 Lx1.out Bx5.out)
      clear hx5
      have hnex5 : Hid (¬ eb = nb) := Lib.hid (fun h => by
        subst h
        rcases Ex5.out.2 with ⟨e, _⟩ | ⟨g', c', cur, e, _, hx, hh⟩
        · cases e
        · cases e
          have h2 := hx.symm.trans Nx5.out
          simp only [Option.some.injEq, Obj.cells.injEq] at h2
          have h3 := hh.2.2.1
          rw [h2.1] at h3
          simp at h3)
      refine rdA 3 (fun K hK => ?_)
      have Kx5 : x5.ownsRow 0 92 3 (.slice (some ⟨gs, 0, none⟩) l.length c) l.length (frC l) := Off.row (S7.off Fx5.out) KD.out (rs_not TD.out _ (by decide))
      (try rw [if_pos (by rfl)])
      refine wp_append_own _ (.tmp 53) (.tmp 55) 37 rfl D.heap.size 92 iF (.agg #[.int .i64 0, .int .i64 0, .int .i64 0]) 3 24 A.underRF hiF hz0 hz1 hz2 rfl (by decide) (.slice (some ⟨eb, 0, none⟩) 0 0) 0 [] rfl Ex5.out ⟨gs, 0, none⟩ l.length c (frC l) rfl (frC_length l) (fun j u hj => row_cells Kx5 _ rfl j u hj) (frC_one l) (by have := h8.out; unfold maxLen; omega) (by have := h8.out; omega) (S7.size Fx5.out) ?_
      intro v1 x6 hown hgrow _
      rw [Nat.zero_add, List.nil_append] at hown
      have Vx6 := Lib.hid hown
      have Fx6 := Lib.hid (S7.grown Fx5.out hgrow (fun k hk => own_lo2 Ex5.out k hk) BD.out)
      have Lx6 : Hid (Below D.heap.size D x6) := ((Off.of_below (ex := fun _ => False) Lx5.out).grown hgrow (fun k hk => .inr (own_lo2 Ex5.out k hk))).to_below
      have Nx6 : Hid (x6.heap[nb]? = some (.cells #[.int .i64 s.seg, .int .i64 t.off, .int .i64 s.ring] 92 (0, 0))) := by
        have hne : ¬ eb = nb := hnex5.out
        exact (Off.refl (fun k => k = eb) x5).grown hgrow (fun k hk => .inl (by cases hk; rfl)) |>.keeps Nx5.out (fun h => hne h.symm)
      clear hown hgrow Kx5
      refine hK.out _ _ ?_ (fun hHeld => ?_)
      · exact Fx6.out
      clear hK K
      try simp only [Act.put, sA, sB, sC]
      refine rdA 12 (fun K hK => ?_)
      (try rw [if_pos (by rfl)])
      refine wp_append_own _ (.tmp 56) (.tmp 64) 37 rfl D.heap.size 92 iF (.agg #[.int .i64 0, .int .i64 0, .int .i64 0]) 3 24 A.underRF hiF hz0 hz1 hz2 rfl (by decide) v1 l.length (frC l) rfl Vx6.out ⟨nb, 0, none⟩ 1 1 [.int .i64 s.seg, .int .i64 t.off, .int .i64 s.ring] rfl rfl (fun j u hj => (by rw [Addr.add_lit, Nat.zero_add]; exact (cell_of_row x6 nb j _ _ _ Nx6.out).trans (by simpa using hj))) (by intro u hu; simp at hu; rcases hu with rfl | rfl | rfl <;> rfl) (by have := h8.out; unfold maxLen; omega) (by have := h8.out; omega) (S7.size Fx6.out) ?_
      intro v2 x7 hown hgrow _
      have Fx7 := Lib.hid (S7.grown Fx6.out hgrow (fun k hk => own_lo2 Vx6.out k hk) BD.out)
      have Lx7 : Hid (Below D.heap.size D x7) := ((Off.of_below (ex := fun _ => False) Lx6.out).grown hgrow (fun k hk => .inr (own_lo2 Vx6.out k hk))).to_below
      clear hgrow
      obtain ⟨g2, c2, hq⟩ := row_some hown (by omega)
      subst hq
      replace hown := Lib.hid hown
      refine hK.out _ _ ?_ (fun hHeld => ?_)
      · exact Fx7.out
      clear hK K
      try simp only [Act.put, sA, sB, sC]
      refine tkA 13 ?_
      try simp only [Act.put, sA, sB, sC]
      have Tx7 : Hid (rsAt x7 (w.heap.size + 1) t (.slice (some ⟨gs, 0, none⟩) l.length c)) := Off.keeps (.of_below (ex := fun _ => False) Lx7.out) TD.out id
      have c16 : x7.cell? ⟨(w.heap.size + 1), 16, none⟩ = some (.slice (some ⟨gs, 0, none⟩) l.length c) := Tx7.out.cell 16
      have cf : ∀ j, x7.frozen? ⟨(w.heap.size + 1), j, none⟩ = false := fun j => Tx7.out.free j
      refine rdA 14 (fun K hK => ?_)
      go_simp
      refine hK.out _ _ ?_ (fun hHeld => ?_)
      · exact S7.set Fx7.out _
      clear hK K
      try simp only [Act.put, sA, sB, sC]
      obtain ⟨Y, hY, TY, KY, LY⟩ : ∃ Y, x7.setCell ⟨(w.heap.size + 1), 16, none⟩ (.slice (some ⟨g2, 0, none⟩) (l.length + 1) c2) = Y ∧ Hid (rsAt Y (w.heap.size + 1) t (.slice (some ⟨g2, 0, none⟩) (l.length + 1) c2)) ∧ Hid (Y.ownsRow 0 92 3 (.slice (some ⟨g2, 0, none⟩) (l.length + 1) c2) (l.length + 1) (frC (l ++ [⟨s.seg, t.off, s.ring⟩]))) ∧ Hid (Off (· = (w.heap.size + 1)) D Y) := ⟨_, rfl, rs_stk Tx7.out _, by rw [frC_append]; exact row_base (Off.row (off1 _ _ _ _) hown.out (rs_not Tx7.out _ (by decide))) (Nat.zero_le _), Off.setCell (ex := (· = (w.heap.size + 1))) (Off.of_below Lx7.out) (.inl rfl) _⟩
      rw [hY]
      clear hY c16 cf Tx7 hown Fx7 Lx7
      refine wpAnyH_done (by kernel_rfl) ?_ _
      refine NoPanic.normal ?_
      have y0 : Y.cell? ⟨(w.heap.size + 1), 0, none⟩ = some (.int .i64 t.seg) := TY.out.cell 0
      have y1 : Y.cell? ⟨(w.heap.size + 1), 1, none⟩ = some (.int .i64 t.off) := TY.out.cell 1
      have y2 : Y.cell? ⟨(w.heap.size + 1), 2, none⟩ = some (.int .i64 t.ring) := TY.out.cell 2
      have yf : ∀ j, Y.frozen? ⟨(w.heap.size + 1), j, none⟩ = false := fun j => TY.out.free j
      have p0 : Y.cell? ⟨w.heap.size + 1 + 1 + 1, 0, none⟩ = some (.int .i64 q.seg) := (show blk3 Y (w.heap.size + 1 + 1 + 1) 24 (.int .i64 q.seg) (.int .i64 q.off) (.int .i64 q.ring) from Off.keeps LY.out PD.out (by omega)).facts.1.1
      go_upto_region 15 with fail
      obtain ⟨Z, hZ, TZ, KZ, LZ⟩ : ∃ Z, ((Y.setCell ⟨(w.heap.size + 1), 0, none⟩ (.int .i64 q.seg)).setCell ⟨(w.heap.size + 1), 1, none⟩ (.int .i64 (wrap64 (q.off + n)))).setCell ⟨(w.heap.size + 1), 2, none⟩ (.int .i64 ct) = Z ∧ Hid (rsAt Z (w.heap.size + 1) { t with seg := q.seg, off := wrap64 (q.off + n), ring := ct } (.slice (some ⟨g2, 0, none⟩) (l.length + 1) c2)) ∧ Hid (Z.ownsRow 0 92 3 (.slice (some ⟨g2, 0, none⟩) (l.length + 1) c2) (l.length + 1) (frC (l ++ [⟨s.seg, t.off, s.ring⟩]))) ∧ Hid (Off (· = (w.heap.size + 1)) D Z) := ⟨_, rfl, rs_place TY.out _ _ _, Off.row (((off1 _ _ _ _).trans (off1 _ _ _ _)).trans (off1 _ _ _ _)) KY.out (rs_not TY.out _ (by decide)), Off.setCell (ex := (· = (w.heap.size + 1))) (Off.setCell (ex := (· = (w.heap.size + 1))) (Off.setCell (ex := (· = (w.heap.size + 1))) LY.out (.inl rfl) _) (.inl rfl) _) (.inl rfl) _⟩
      rw [hZ]
      clear hZ y0 y1 y2 yf p0 TY KY LY
      have x2 : Z.cell? ⟨w.heap.size, 2, none⟩ = some (.int .i64 s.ring) := (show rsAt Z w.heap.size s (.slice (some ⟨gs, 0, none⟩) l.length c) from Off.keeps LZ.out SD.out (by omega)).cell 2
      have ZZ : Hid (rsAt Z (w.heap.size + 1 + 1 + 1 + 1 + 1) St.zero (.slice none 0 0)) := Off.keeps LZ.out ZD.out (by omega)
      obtain ⟨t2, ht2⟩ : ∃ t2 : St, { t with seg := q.seg, off := wrap64 (q.off + n), ring := ct } = t2 := ⟨_, rfl⟩
      rw [ht2] at TZ
      replace ht2 := Lib.hid ht2
      go_wp2_with (first | ((with_reducible refine wpList_load_rs (op := ⟨some 74, .load 39 (.tmp 7), _, _, _, _⟩) (N := (w.heap.size + 1)) (s := t2) (stk := (.slice (some ⟨g2, 0, none⟩) (l.length + 1) c2)) ?_ (.tmp 7) ?_ ?_ ?_ ?_); exact rfl; exact rfl; exact rfl; exact rs_range TZ.out) | (go_at_call 50; refine (c_rraise Z t2 (some ⟨g2, 0, none⟩) (l.length + 1) c2 s.ring).mono ?_; rintro e z1 ⟨rfl, hb9⟩; have ZZ1 : Hid (rsAt z1 (w.heap.size + 1 + 1 + 1 + 1 + 1) St.zero (.slice none 0 0)) := Off.keeps (.of_below (ex := fun _ => False) hb9) ZZ.out id; have B9 := Lib.hid hb9; clear hb9; (try dsimp only)) | ((with_reducible refine wpList_store_rs (op := ⟨none, .store 39 (.tmp 12) (.tmp 77), _, _, _, _⟩) (N := (w.heap.size + 1 + 1 + 1 + 1 + 1)) (s := St.zero) (stk := (.slice none 0 0)) (s' := (t2.raise s.ring)) (stk' := (.slice (some ⟨g2, 0, none⟩) (l.length + 1) c2)) ?_ (.tmp 12) (.tmp 77) ?_ ?_ ?_ ?_ ?_ ?_); exact rfl; exact rfl; exact rfl; exact rfl; exact ZZ1.out; exact rfl; intro w9 S1 F1; replace S1 := Lib.hid S1; replace F1 := Lib.hid F1))
      refine bodyPost_ret (call_results S1.out _ rfl rfl) rfl ⟨_, by rw [hct.out, ht2.out], ?_, ?_⟩
      · have h := Off.row F1.out (Off.row (ex := fun _ => False) (.of_below B9.out) KZ.out (fun _ h => h.elim)) (rs_not ZZ1.out _ (by decide))
        unfold rstkAt
        rw [List.length_append]
        exact h
      · have b1 : Below w.heap.size w Z := Off.below LW.out LZ.out LW.out.size (fun j hj => by omega)
        have b2 := below2 b1 B9.out
        exact Off.below b2 F1.out b2.size (fun j hj => by omega)
  · go_simp
    refine hK.out _ _ ?_ (fun hHeld => ?_)
    · exact S7.below FD.out (below_al0 D _)
    clear hK K
    try simp only [Act.put, sA, sB, sC]
    obtain ⟨x8, hx8, Bx8⟩ : ∃ X, D.alloc (.cells #[.int .i64 s.seg, .int .i64 t.off, .int .i64 s.ring] 92) = X ∧ Hid (Below D.heap.size D X) := ⟨_, rfl, below_al0 _ _⟩
    obtain ⟨nb, hnb⟩ : ∃ e, D.heap.size = e := ⟨_, rfl⟩
    have Nx8 : Hid (x8.heap[nb]? = some (.cells #[.int .i64 s.seg, .int .i64 t.off, .int .i64 s.ring] 92 (0, 0))) := by rw [← hx8, ← hnb]; exact heap_alloc_new _ _
    rw [hx8]
    rw [hnb]
    have Fx8 := Lib.hid (S7.below FD.out Bx8.out)
    have Lx8 := Lib.hid (below2 LD.out Bx8.out)
    clear hx8
    refine rdA 0 (fun K hK => ?_)
    go_simp
    refine hK.out _ _ ?_ (fun hHeld => ?_)
    · exact S7.below Fx8.out (below_al0 x8 _)
    clear hK K
    try simp only [Act.put, sA, sB, sC]
    obtain ⟨x9, hx9, Bx9⟩ : ∃ X, x8.alloc (.cells #[] 92) = X ∧ Hid (Below x8.heap.size x8 X) := ⟨_, rfl, below_al0 _ _⟩
    obtain ⟨eb, heb⟩ : ∃ e, x8.heap.size = e := ⟨_, rfl⟩
    have Ex9 : Hid (x9.ownsRow D.heap.size 92 3 (.slice (some ⟨eb, 0, none⟩) 0 0) 0 []) := by rw [← hx9, ← heb]; exact empty_row2 x8 D.heap.size 92 3 (S7.size Fx8.out)
    have hEx9 : Hid (D.heap.size ≤ eb) := by rw [← heb]; exact S7.size Fx8.out
    rw [hx9]
    rw [heb]
    have Nx9 : Hid (x9.heap[nb]? = some (.cells #[.int .i64 s.seg, .int .i64 t.off, .int .i64 s.ring] 92 (0, 0))) := Off.keeps (ex := fun _ => False) (.of_below Bx9.out) Nx8.out id
    have Fx9 := Lib.hid (S7.below Fx8.out Bx9.out)
    have Lx9 := Lib.hid (below2 Lx8.out Bx9.out)
    clear hx9
    have hnex9 : Hid (¬ eb = nb) := Lib.hid (fun h => by
      subst h
      rcases Ex9.out.2 with ⟨e, _⟩ | ⟨g', c', cur, e, _, hx, hh⟩
      · cases e
      · cases e
        have h2 := hx.symm.trans Nx9.out
        simp only [Option.some.injEq, Obj.cells.injEq] at h2
        have h3 := hh.2.2.1
        rw [h2.1] at h3
        simp at h3)
    refine rdA 3 (fun K hK => ?_)
    have Kx9 : x9.ownsRow 0 92 3 (.slice (some ⟨gs, 0, none⟩) l.length c) l.length (frC l) := Off.row (S7.off Fx9.out) KD.out (rs_not TD.out _ (by decide))
    (try rw [if_pos (by rfl)])
    refine wp_append_own _ (.tmp 53) (.tmp 55) 37 rfl D.heap.size 92 iF (.agg #[.int .i64 0, .int .i64 0, .int .i64 0]) 3 24 A.underRF hiF hz0 hz1 hz2 rfl (by decide) (.slice (some ⟨eb, 0, none⟩) 0 0) 0 [] rfl Ex9.out ⟨gs, 0, none⟩ l.length c (frC l) rfl (frC_length l) (fun j u hj => row_cells Kx9 _ rfl j u hj) (frC_one l) (by have := h8.out; unfold maxLen; omega) (by have := h8.out; omega) (S7.size Fx9.out) ?_
    intro v1 x10 hown hgrow _
    rw [Nat.zero_add, List.nil_append] at hown
    have Vx10 := Lib.hid hown
    have Fx10 := Lib.hid (S7.grown Fx9.out hgrow (fun k hk => own_lo2 Ex9.out k hk) BD.out)
    have Lx10 : Hid (Below D.heap.size D x10) := ((Off.of_below (ex := fun _ => False) Lx9.out).grown hgrow (fun k hk => .inr (own_lo2 Ex9.out k hk))).to_below
    have Nx10 : Hid (x10.heap[nb]? = some (.cells #[.int .i64 s.seg, .int .i64 t.off, .int .i64 s.ring] 92 (0, 0))) := by
      have hne : ¬ eb = nb := hnex9.out
      exact (Off.refl (fun k => k = eb) x9).grown hgrow (fun k hk => .inl (by cases hk; rfl)) |>.keeps Nx9.out (fun h => hne h.symm)
    clear hown hgrow Kx9
    refine hK.out _ _ ?_ (fun hHeld => ?_)
    · exact Fx10.out
    clear hK K
    try simp only [Act.put, sA, sB, sC]
    refine rdA 12 (fun K hK => ?_)
    (try rw [if_pos (by rfl)])
    refine wp_append_own _ (.tmp 56) (.tmp 64) 37 rfl D.heap.size 92 iF (.agg #[.int .i64 0, .int .i64 0, .int .i64 0]) 3 24 A.underRF hiF hz0 hz1 hz2 rfl (by decide) v1 l.length (frC l) rfl Vx10.out ⟨nb, 0, none⟩ 1 1 [.int .i64 s.seg, .int .i64 t.off, .int .i64 s.ring] rfl rfl (fun j u hj => (by rw [Addr.add_lit, Nat.zero_add]; exact (cell_of_row x10 nb j _ _ _ Nx10.out).trans (by simpa using hj))) (by intro u hu; simp at hu; rcases hu with rfl | rfl | rfl <;> rfl) (by have := h8.out; unfold maxLen; omega) (by have := h8.out; omega) (S7.size Fx10.out) ?_
    intro v2 x11 hown hgrow _
    have Fx11 := Lib.hid (S7.grown Fx10.out hgrow (fun k hk => own_lo2 Vx10.out k hk) BD.out)
    have Lx11 : Hid (Below D.heap.size D x11) := ((Off.of_below (ex := fun _ => False) Lx10.out).grown hgrow (fun k hk => .inr (own_lo2 Vx10.out k hk))).to_below
    clear hgrow
    obtain ⟨g2, c2, hq⟩ := row_some hown (by omega)
    subst hq
    replace hown := Lib.hid hown
    refine hK.out _ _ ?_ (fun hHeld => ?_)
    · exact Fx11.out
    clear hK K
    try simp only [Act.put, sA, sB, sC]
    refine tkA 13 ?_
    try simp only [Act.put, sA, sB, sC]
    have Tx11 : Hid (rsAt x11 (w.heap.size + 1) t (.slice (some ⟨gs, 0, none⟩) l.length c)) := Off.keeps (.of_below (ex := fun _ => False) Lx11.out) TD.out id
    have c16 : x11.cell? ⟨(w.heap.size + 1), 16, none⟩ = some (.slice (some ⟨gs, 0, none⟩) l.length c) := Tx11.out.cell 16
    have cf : ∀ j, x11.frozen? ⟨(w.heap.size + 1), j, none⟩ = false := fun j => Tx11.out.free j
    refine rdA 14 (fun K hK => ?_)
    go_simp
    refine hK.out _ _ ?_ (fun hHeld => ?_)
    · exact S7.set Fx11.out _
    clear hK K
    try simp only [Act.put, sA, sB, sC]
    obtain ⟨Y, hY, TY, KY, LY⟩ : ∃ Y, x11.setCell ⟨(w.heap.size + 1), 16, none⟩ (.slice (some ⟨g2, 0, none⟩) (l.length + 1) c2) = Y ∧ Hid (rsAt Y (w.heap.size + 1) t (.slice (some ⟨g2, 0, none⟩) (l.length + 1) c2)) ∧ Hid (Y.ownsRow 0 92 3 (.slice (some ⟨g2, 0, none⟩) (l.length + 1) c2) (l.length + 1) (frC (l ++ [⟨s.seg, t.off, s.ring⟩]))) ∧ Hid (Off (· = (w.heap.size + 1)) D Y) := ⟨_, rfl, rs_stk Tx11.out _, by rw [frC_append]; exact row_base (Off.row (off1 _ _ _ _) hown.out (rs_not Tx11.out _ (by decide))) (Nat.zero_le _), Off.setCell (ex := (· = (w.heap.size + 1))) (Off.of_below Lx11.out) (.inl rfl) _⟩
    rw [hY]
    clear hY c16 cf Tx11 hown Fx11 Lx11
    refine wpAnyH_done (by kernel_rfl) ?_ _
    refine NoPanic.normal ?_
    have y0 : Y.cell? ⟨(w.heap.size + 1), 0, none⟩ = some (.int .i64 t.seg) := TY.out.cell 0
    have y1 : Y.cell? ⟨(w.heap.size + 1), 1, none⟩ = some (.int .i64 t.off) := TY.out.cell 1
    have y2 : Y.cell? ⟨(w.heap.size + 1), 2, none⟩ = some (.int .i64 t.ring) := TY.out.cell 2
    have yf : ∀ j, Y.frozen? ⟨(w.heap.size + 1), j, none⟩ = false := fun j => TY.out.free j
    have p0 : Y.cell? ⟨w.heap.size + 1 + 1 + 1, 0, none⟩ = some (.int .i64 q.seg) := (show blk3 Y (w.heap.size + 1 + 1 + 1) 24 (.int .i64 q.seg) (.int .i64 q.off) (.int .i64 q.ring) from Off.keeps LY.out PD.out (by omega)).facts.1.1
    go_upto_region 15 with fail
    obtain ⟨Z, hZ, TZ, KZ, LZ⟩ : ∃ Z, ((Y.setCell ⟨(w.heap.size + 1), 0, none⟩ (.int .i64 q.seg)).setCell ⟨(w.heap.size + 1), 1, none⟩ (.int .i64 (wrap64 (q.off + n)))).setCell ⟨(w.heap.size + 1), 2, none⟩ (.int .i64 ct) = Z ∧ Hid (rsAt Z (w.heap.size + 1) { t with seg := q.seg, off := wrap64 (q.off + n), ring := ct } (.slice (some ⟨g2, 0, none⟩) (l.length + 1) c2)) ∧ Hid (Z.ownsRow 0 92 3 (.slice (some ⟨g2, 0, none⟩) (l.length + 1) c2) (l.length + 1) (frC (l ++ [⟨s.seg, t.off, s.ring⟩]))) ∧ Hid (Off (· = (w.heap.size + 1)) D Z) := ⟨_, rfl, rs_place TY.out _ _ _, Off.row (((off1 _ _ _ _).trans (off1 _ _ _ _)).trans (off1 _ _ _ _)) KY.out (rs_not TY.out _ (by decide)), Off.setCell (ex := (· = (w.heap.size + 1))) (Off.setCell (ex := (· = (w.heap.size + 1))) (Off.setCell (ex := (· = (w.heap.size + 1))) LY.out (.inl rfl) _) (.inl rfl) _) (.inl rfl) _⟩
    rw [hZ]
    clear hZ y0 y1 y2 yf p0 TY KY LY
    have x2 : Z.cell? ⟨w.heap.size, 2, none⟩ = some (.int .i64 s.ring) := (show rsAt Z w.heap.size s (.slice (some ⟨gs, 0, none⟩) l.length c) from Off.keeps LZ.out SD.out (by omega)).cell 2
    have ZZ : Hid (rsAt Z (w.heap.size + 1 + 1 + 1 + 1 + 1) St.zero (.slice none 0 0)) := Off.keeps LZ.out ZD.out (by omega)
    obtain ⟨t2, ht2⟩ : ∃ t2 : St, { t with seg := q.seg, off := wrap64 (q.off + n), ring := ct } = t2 := ⟨_, rfl⟩
    rw [ht2] at TZ
    replace ht2 := Lib.hid ht2
    go_wp2_with (first | ((with_reducible refine wpList_load_rs (op := ⟨some 74, .load 39 (.tmp 7), _, _, _, _⟩) (N := (w.heap.size + 1)) (s := t2) (stk := (.slice (some ⟨g2, 0, none⟩) (l.length + 1) c2)) ?_ (.tmp 7) ?_ ?_ ?_ ?_); exact rfl; exact rfl; exact rfl; exact rs_range TZ.out) | (go_at_call 50; refine (c_rraise Z t2 (some ⟨g2, 0, none⟩) (l.length + 1) c2 s.ring).mono ?_; rintro e z1 ⟨rfl, hb9⟩; have ZZ1 : Hid (rsAt z1 (w.heap.size + 1 + 1 + 1 + 1 + 1) St.zero (.slice none 0 0)) := Off.keeps (.of_below (ex := fun _ => False) hb9) ZZ.out id; have B9 := Lib.hid hb9; clear hb9; (try dsimp only)) | ((with_reducible refine wpList_store_rs (op := ⟨none, .store 39 (.tmp 12) (.tmp 77), _, _, _, _⟩) (N := (w.heap.size + 1 + 1 + 1 + 1 + 1)) (s := St.zero) (stk := (.slice none 0 0)) (s' := (t2.raise s.ring)) (stk' := (.slice (some ⟨g2, 0, none⟩) (l.length + 1) c2)) ?_ (.tmp 12) (.tmp 77) ?_ ?_ ?_ ?_ ?_ ?_); exact rfl; exact rfl; exact rfl; exact rfl; exact ZZ1.out; exact rfl; intro w9 S1 F1; replace S1 := Lib.hid S1; replace F1 := Lib.hid F1))
    refine bodyPost_ret (call_results S1.out _ rfl rfl) rfl ⟨_, by rw [hct.out, ht2.out], ?_, ?_⟩
    · have h := Off.row F1.out (Off.row (ex := fun _ => False) (.of_below B9.out) KZ.out (fun _ h => h.elim)) (rs_not ZZ1.out _ (by decide))
      unfold rstkAt
      rw [List.length_append]
      exact h
    · have b1 : Below w.heap.size w Z := Off.below LW.out LZ.out LW.out.size (fun j hj => by omega)
      have b2 := below2 b1 B9.out
      exact Off.below b2 F1.out b2.size (fun j hj => by omega)
set_option maxHeartbeats 8000000 in
theorem c_rcall_ok0 (w : World) (s t : St)  (g : Sg) (au : Option Addr) (cu : Nat) (q : Pt) (op p n r : Int) (l : List Fr) (hk : rstkAt w (.slice none 0 0) l) (hl0 : l = []) (h8 : l.length < 8) (his : g.is = true) (hh : g.has 4 = true) (h12 : g.r1 ≤ g.r2) (h23 : g.r2 ≤ g.r3) (he : callE g.r1 g.r2 g.r3 g.g (wrap64 (q.off + n)) r = 0) (hle : ¬ (g.ws.length : Int) ≤ wrap64 (q.off + n)) : Calls Try.prog 49 #[.agg (stC s (.slice none 0 0)), .agg (stC t (.slice none 0 0)), sgA (.slice au g.ws.length cu) g, .agg #[.int .i64 q.seg, .int .i64 q.off, .int .i64 q.ring], .agg #[.int .i64 op, .int .i64 p, .int .i64 n], .int .i64 r] w fun e w' => ∃ v, e = .returned (.tuple #[.agg (stC ({ t with seg := q.seg, off := wrap64 (q.off + n), ring := callTo g.r1 g.r2 g.r3 g.g (wrap64 (q.off + n)) r }.raise s.ring) v), .int .i64 0]) ∧ rstkAt w' v (l ++ [⟨s.seg, t.off, s.ring⟩]) ∧ Below w.heap.size w w' := by
  have hm : (bits .and .i64 g.md 4 == 0) = false := by unfold Sg.has at hh; simpa using hh
  replace his := Lib.hid his
  clear hh
  replace h12 := Lib.hid h12
  replace h23 := Lib.hid h23
  obtain ⟨ct, hct⟩ : ∃ ct, callTo g.r1 g.r2 g.r3 g.g (wrap64 (q.off + n)) r = ct := ⟨_, rfl⟩
  replace hct := Lib.hid hct
  replace he := Lib.hid he
  have h8i : (l.length : Int) < 8 := by omega
  replace h8 := Lib.hid h8
  replace hk := Lib.hid hk
  replace hl0 := Lib.hid hl0
  obtain ⟨W0, hW0, C⟩ : ∃ W, ((((((w.alloc (.cells (stC s (.slice none 0 0)) 39)).alloc (.cells (stC t (.slice none 0 0)) 39)).alloc (.cells #[.bool g.is, .slice au g.ws.length cu, .int .i64 g.md, .int .i64 g.r1, .int .i64 g.r2, .int .i64 g.r3, .int .i64 g.g] 57)).alloc (.cells #[.int .i64 q.seg, .int .i64 q.off, .int .i64 q.ring] 24)).alloc (.cells #[.int .i64 op, .int .i64 p, .int .i64 n] 64)).alloc (.cells (stC St.zero (.slice none 0 0)) 39)) = W ∧ Hid (CaE w W s t (.slice none 0 0) g (.slice au g.ws.length cu) q op p n) := ⟨_, rfl, Lib.hid (CaE.new _ _ _ _ _ _ _ _ _ _)⟩
  replace hW0 := Lib.hid hW0
  unfold sgA
  go_enter Try.func49, Try.ntmps49
  go_upto_region 1 with fail
  rw [show ((((((w.alloc (.cells (stC s (.slice none 0 0)) 39)).alloc (.cells (stC t (.slice none 0 0)) 39)).alloc (.cells #[.bool g.is, .slice au g.ws.length cu, .int .i64 g.md, .int .i64 g.r1, .int .i64 g.r2, .int .i64 g.r3, .int .i64 g.g] 57)).alloc (.cells #[.int .i64 q.seg, .int .i64 q.off, .int .i64 q.ring] 24)).alloc (.cells #[.int .i64 op, .int .i64 p, .int .i64 n] 64)).alloc (.cells #[.int .i64 0, .int .i64 0, .int .i64 0, .int .i64 0, .int .i64 0, .int .i64 0, .int .i64 0, .int .i64 0, .int .i64 0, .int .i64 0, .int .i64 0, .int .i64 0, .int .i64 0, .int .i64 0, .int .i64 0, .int .i64 0, .slice none 0 0, .bool false] 39)) = W0 from hW0.out]
  clear hW0
  have q1 : W0.cell? ⟨w.heap.size + 1 + 1 + 1, 1, none⟩ = some (.int .i64 q.off) := C.out.p9.facts.1.2.1
  have n2 : W0.cell? ⟨w.heap.size + 1 + 1 + 1 + 1, 2, none⟩ = some (.int .i64 n) := C.out.i10.facts.1.2.2
  have g0 : W0.cell? ⟨w.heap.size + 1 + 1, 0, none⟩ = some (.bool g.is) := C.out.g8.cell 0
  have g2 : W0.cell? ⟨w.heap.size + 1 + 1, 2, none⟩ = some (.int .i64 g.md) := C.out.g8.cell 2
  have g3 : W0.cell? ⟨w.heap.size + 1 + 1, 3, none⟩ = some (.int .i64 g.r1) := C.out.g8.cell 3
  have g4 : W0.cell? ⟨w.heap.size + 1 + 1, 4, none⟩ = some (.int .i64 g.r2) := C.out.g8.cell 4
  have g5 : W0.cell? ⟨w.heap.size + 1 + 1, 5, none⟩ = some (.int .i64 g.r3) := C.out.g8.cell 5
  have g6 : W0.cell? ⟨w.heap.size + 1 + 1, 6, none⟩ = some (.int .i64 g.g) := C.out.g8.cell 6
  rw [his.out] at g0
  go_upto_region 13 with (first | (go_at_call 74; refine (r_Call _ _ _ _ _ _ h12.out h23.out _).mono ?_; rintro e w1 ⟨rfl, hb1⟩; rw [he.out, hct.out]; have Z1 : Hid (rsAt w1 (w.heap.size + 1 + 1 + 1 + 1 + 1) St.zero (.slice none 0 0)) := Off.keeps (.of_below (ex := fun _ => False) hb1) C.out.z12 id; have L1 := Lib.hid (below2 C.out.bl hb1); have g11 : w1.cell? ⟨w.heap.size + 1 + 1, 1, none⟩ = some (.slice au g.ws.length cu) := (show blk7 w1 (w.heap.size + 1 + 1) 57 (.bool g.is) (.slice au g.ws.length cu) (.int .i64 g.md) (.int .i64 g.r1) (.int .i64 g.r2) (.int .i64 g.r3) (.int .i64 g.g) from Off.keeps (.of_below (ex := fun _ => False) hb1) C.out.g8 id).cell 1; have s16 : w1.cell? ⟨w.heap.size, 16, none⟩ = some (.slice none 0 0) := (show rsAt w1 w.heap.size s (.slice none 0 0) from Off.keeps (.of_below (ex := fun _ => False) hb1) C.out.s6 id).cell 16; have S1 : Hid (rsAt w1 w.heap.size s (.slice none 0 0)) := Off.keeps (.of_below (ex := fun _ => False) hb1) C.out.s6 id; have T1 : Hid (rsAt w1 (w.heap.size + 1) t (.slice none 0 0)) := Off.keeps (.of_below (ex := fun _ => False) hb1) C.out.t7 id; have P1 : Hid (blk3 w1 (w.heap.size + 1 + 1 + 1) 24 (.int .i64 q.seg) (.int .i64 q.off) (.int .i64 q.ring)) := Off.keeps (.of_below (ex := fun _ => False) hb1) C.out.p9 id; clear hb1; (try dsimp only)))
  obtain ⟨iF, hiF, hz0, hz1, hz2⟩ := info_parts A.infoRF
  refine wp_region_noPanic ?_
  refine wp_region_held_drew (S := fun w' => S7 w1.drew (w.heap.size + 1) t.off w') (by kernel_rfl) ⟨Off.refl _ _, T1.out.cell 1⟩ (fun hHeld => ?_)
  have LD0 : Hid (True) := trivial
  have FD : Hid (S7 w1.drew (w.heap.size + 1) t.off w1.drew) := ⟨Off.refl _ _, T1.out.cell 1⟩
  have SD : Hid (rsAt w1.drew w.heap.size s (.slice none 0 0)) := S1
  have TD : Hid (rsAt w1.drew (w.heap.size + 1) t (.slice none 0 0)) := T1
  have LD : Hid (Below w.heap.size w w1.drew) := below_drew L1.out
  have KD : Hid (w1.drew.ownsRow 0 92 3 (.slice none 0 0) l.length (frC l)) := Off.row (ex := fun _ => False) (.of_below (below_drew L1.out)) hk.out (fun _ h => h.elim)
  have BD : Hid ((w.heap.size + 1) < w1.drew.heap.size) := TD.out.lt
  have PD : Hid (blk3 w1.drew (w.heap.size + 1 + 1 + 1) 24 (.int .i64 q.seg) (.int .i64 q.off) (.int .i64 q.ring)) := P1
  have ZD : Hid (rsAt w1.drew (w.heap.size + 1 + 1 + 1 + 1 + 1) St.zero (.slice none 0 0)) := Z1
  have LW : Hid (Below w.heap.size w w1.drew) := LD
  clear S1 T1 P1 Z1 L1 LD
  generalize w1.drew = D at FD SD TD LW KD BD PD ZD hHeld ⊢
  have LD : Hid (Below D.heap.size D D) := Below.refl _ _
  have k5 : ∀ w', S7 D (w.heap.size + 1) t.off w' → w'.cell? ⟨w.heap.size, 16, none⟩ = some (.slice none 0 0) := fun w' h => (show rsAt w' w.heap.size s (.slice none 0 0) from Off.keeps h.1 SD.out (by omega)).cell 16
  have k0 : ∀ w', S7 D (w.heap.size + 1) t.off w' → w'.cell? ⟨w.heap.size, 0, none⟩ = some (.int .i64 s.seg) := fun w' h => (show rsAt w' w.heap.size s (.slice none 0 0) from Off.keeps h.1 SD.out (by omega)).cell 0
  have k2 : ∀ w', S7 D (w.heap.size + 1) t.off w' → w'.cell? ⟨w.heap.size, 2, none⟩ = some (.int .i64 s.ring) := fun w' h => (show rsAt w' w.heap.size s (.slice none 0 0) from Off.keeps h.1 SD.out (by omega)).cell 2
  have k1 : ∀ w', S7 D (w.heap.size + 1) t.off w' → w'.cell? ⟨(w.heap.size + 1), 1, none⟩ = some (.int .i64 t.off) := fun w' h => h.2
  try simp only [Act.put, sA, sB, sC]
  refine tkA 1 ?_
  try simp only [Act.put, sA, sB, sC]
  refine tkA 2 ?_
  try simp only [Act.put, sA, sB, sC]
  refine tkA 4 ?_
  try simp only [Act.put, sA, sB, sC]
  refine tkA 5 ?_
  try simp only [Act.put, sA, sB, sC]
  refine tkA 6 ?_
  try simp only [Act.put, sA, sB, sC]
  refine tkA 7 ?_
  try simp only [Act.put, sA, sB, sC]
  refine tkA 8 ?_
  try simp only [Act.put, sA, sB, sC]
  refine tkA 9 ?_
  try simp only [Act.put, sA, sB, sC]
  refine tkA 10 ?_
  try simp only [Act.put, sA, sB, sC]
  clear k5 k0 k2 k1
  refine rdB 0 11 (fun K hK => ?_) (fun K hK => ?_)
  · go_simp
    refine hK.out _ _ ?_ (fun hHeld => ?_)
    · exact S7.below FD.out (below_al0 D _)
    clear hK K
    try simp only [Act.put, sA, sB, sC]
    obtain ⟨x1, hx1, Bx1⟩ : ∃ X, D.alloc (.cells #[] 92) = X ∧ Hid (Below D.heap.size D X) := ⟨_, rfl, below_al0 _ _⟩
    obtain ⟨eb, heb⟩ : ∃ e, D.heap.size = e := ⟨_, rfl⟩
    have Ex1 : Hid (x1.ownsRow D.heap.size 92 3 (.slice (some ⟨eb, 0, none⟩) 0 0) 0 []) := by rw [← hx1, ← heb]; exact empty_row2 D D.heap.size 92 3 (S7.size FD.out)
    have hEx1 : Hid (D.heap.size ≤ eb) := by rw [← heb]; exact S7.size FD.out
    rw [hx1]
    rw [heb]
    have Fx1 := Lib.hid (S7.below FD.out Bx1.out)
    have Lx1 := Lib.hid (below2 LD.out Bx1.out)
    clear hx1
    refine rdB 3 11 (fun K hK => ?_) (fun K hK => ?_)
    · (try rw [if_pos (by rfl)])
      refine wp_append_none (.tmp 53) (.tmp 55) 37 rfl D.heap.size 92 iF 3 A.underRF hiF _ 0 [] rfl Ex1.out rfl ?_
      refine hK.out _ _ ?_ (fun hHeld => ?_)
      · exact Fx1.out
      clear hK K
      try simp only [Act.put, sA, sB, sC]
      obtain ⟨v1, hv1⟩ : ∃ v, Value.slice (some ⟨eb, 0, none⟩) 0 0 = v := ⟨_, rfl⟩
      have Vx1 : Hid (x1.ownsRow D.heap.size 92 3 v1 l.length (frC l)) := by rw [← hv1, hl0.out]; exact Ex1.out
      rw [hv1]
      refine rdA 11 (fun K hK => ?_)
      go_simp
      refine hK.out _ _ ?_ (fun hHeld => ?_)
      · exact S7.below Fx1.out (below_al0 x1 _)
      clear hK K
      try simp only [Act.put, sA, sB, sC]
      obtain ⟨x3, hx3, Bx3⟩ : ∃ X, x1.alloc (.cells #[.int .i64 s.seg, .int .i64 t.off, .int .i64 s.ring] 92) = X ∧ Hid (Below x1.heap.size x1 X) := ⟨_, rfl, below_al0 _ _⟩
      obtain ⟨nb, hnb⟩ : ∃ e, x1.heap.size = e := ⟨_, rfl⟩
      have Nx3 : Hid (x3.heap[nb]? = some (.cells #[.int .i64 s.seg, .int .i64 t.off, .int .i64 s.ring] 92 (0, 0))) := by rw [← hx3, ← hnb]; exact heap_alloc_new _ _
      rw [hx3]
      rw [hnb]
      have Vx3 : Hid (x3.ownsRow D.heap.size 92 3 v1 l.length (frC l)) := Off.row (ex := fun _ => False) (.of_below Bx3.out) Vx1.out (fun _ h => h.elim)
      have Fx3 := Lib.hid (S7.below Fx1.out Bx3.out)
      have Lx3 := Lib.hid (below2 Lx1.out Bx3.out)
      clear hx3
      refine rdA 12 (fun K hK => ?_)
      (try rw [if_pos (by rfl)])
      refine wp_append_own _ (.tmp 56) (.tmp 64) 37 rfl D.heap.size 92 iF (.agg #[.int .i64 0, .int .i64 0, .int .i64 0]) 3 24 A.underRF hiF hz0 hz1 hz2 rfl (by decide) v1 l.length (frC l) rfl Vx3.out ⟨nb, 0, none⟩ 1 1 [.int .i64 s.seg, .int .i64 t.off, .int .i64 s.ring] rfl rfl (fun j u hj => (by rw [Addr.add_lit, Nat.zero_add]; exact (cell_of_row x3 nb j _ _ _ Nx3.out).trans (by simpa using hj))) (by intro u hu; simp at hu; rcases hu with rfl | rfl | rfl <;> rfl) (by have := h8.out; unfold maxLen; omega) (by have := h8.out; omega) (S7.size Fx3.out) ?_
      intro v2 x4 hown hgrow _
      have Fx4 := Lib.hid (S7.grown Fx3.out hgrow (fun k hk => own_lo2 Vx3.out k hk) BD.out)
      have Lx4 : Hid (Below D.heap.size D x4) := ((Off.of_below (ex := fun _ => False) Lx3.out).grown hgrow (fun k hk => .inr (own_lo2 Vx3.out k hk))).to_below
      clear hgrow
      obtain ⟨g2, c2, hq⟩ := row_some hown (by omega)
      subst hq
      replace hown := Lib.hid hown
      refine hK.out _ _ ?_ (fun hHeld => ?_)
      · exact Fx4.out
      clear hK K
      try simp only [Act.put, sA, sB, sC]
      refine tkA 13 ?_
      try simp only [Act.put, sA, sB, sC]
      have Tx4 : Hid (rsAt x4 (w.heap.size + 1) t (.slice none 0 0)) := Off.keeps (.of_below (ex := fun _ => False) Lx4.out) TD.out id
      have c16 : x4.cell? ⟨(w.heap.size + 1), 16, none⟩ = some (.slice none 0 0) := Tx4.out.cell 16
      have cf : ∀ j, x4.frozen? ⟨(w.heap.size + 1), j, none⟩ = false := fun j => Tx4.out.free j
      refine rdA 14 (fun K hK => ?_)
      go_simp
      refine hK.out _ _ ?_ (fun hHeld => ?_)
      · exact S7.set Fx4.out _
      clear hK K
      try simp only [Act.put, sA, sB, sC]
      obtain ⟨Y, hY, TY, KY, LY⟩ : ∃ Y, x4.setCell ⟨(w.heap.size + 1), 16, none⟩ (.slice (some ⟨g2, 0, none⟩) (l.length + 1) c2) = Y ∧ Hid (rsAt Y (w.heap.size + 1) t (.slice (some ⟨g2, 0, none⟩) (l.length + 1) c2)) ∧ Hid (Y.ownsRow 0 92 3 (.slice (some ⟨g2, 0, none⟩) (l.length + 1) c2) (l.length + 1) (frC (l ++ [⟨s.seg, t.off, s.ring⟩]))) ∧ Hid (Off (· = (w.heap.size + 1)) D Y) := ⟨_, rfl, rs_stk Tx4.out _, by rw [frC_append]; exact row_base (Off.row (off1 _ _ _ _) hown.out (rs_not Tx4.out _ (by decide))) (Nat.zero_le _), Off.setCell (ex := (· = (w.heap.size + 1))) (Off.of_below Lx4.out) (.inl rfl) _⟩
      rw [hY]
      clear hY c16 cf Tx4 hown Fx4 Lx4
      refine wpAnyH_done (by kernel_rfl) ?_ _
      refine NoPanic.normal ?_
      have y0 : Y.cell? ⟨(w.heap.size + 1), 0, none⟩ = some (.int .i64 t.seg) := TY.out.cell 0
      have y1 : Y.cell? ⟨(w.heap.size + 1), 1, none⟩ = some (.int .i64 t.off) := TY.out.cell 1
      have y2 : Y.cell? ⟨(w.heap.size + 1), 2, none⟩ = some (.int .i64 t.ring) := TY.out.cell 2
      have yf : ∀ j, Y.frozen? ⟨(w.heap.size + 1), j, none⟩ = false := fun j => TY.out.free j
      have p0 : Y.cell? ⟨w.heap.size + 1 + 1 + 1, 0, none⟩ = some (.int .i64 q.seg) := (show blk3 Y (w.heap.size + 1 + 1 + 1) 24 (.int .i64 q.seg) (.int .i64 q.off) (.int .i64 q.ring) from Off.keeps LY.out PD.out (by omega)).facts.1.1
      go_upto_region 15 with fail
      obtain ⟨Z, hZ, TZ, KZ, LZ⟩ : ∃ Z, ((Y.setCell ⟨(w.heap.size + 1), 0, none⟩ (.int .i64 q.seg)).setCell ⟨(w.heap.size + 1), 1, none⟩ (.int .i64 (wrap64 (q.off + n)))).setCell ⟨(w.heap.size + 1), 2, none⟩ (.int .i64 ct) = Z ∧ Hid (rsAt Z (w.heap.size + 1) { t with seg := q.seg, off := wrap64 (q.off + n), ring := ct } (.slice (some ⟨g2, 0, none⟩) (l.length + 1) c2)) ∧ Hid (Z.ownsRow 0 92 3 (.slice (some ⟨g2, 0, none⟩) (l.length + 1) c2) (l.length + 1) (frC (l ++ [⟨s.seg, t.off, s.ring⟩]))) ∧ Hid (Off (· = (w.heap.size + 1)) D Z) := ⟨_, rfl, rs_place TY.out _ _ _, Off.row (((off1 _ _ _ _).trans (off1 _ _ _ _)).trans (off1 _ _ _ _)) KY.out (rs_not TY.out _ (by decide)), Off.setCell (ex := (· = (w.heap.size + 1))) (Off.setCell (ex := (· = (w.heap.size + 1))) (Off.setCell (ex := (· = (w.heap.size + 1))) LY.out (.inl rfl) _) (.inl rfl) _) (.inl rfl) _⟩
      rw [hZ]
      clear hZ y0 y1 y2 yf p0 TY KY LY
      have x2 : Z.cell? ⟨w.heap.size, 2, none⟩ = some (.int .i64 s.ring) := (show rsAt Z w.heap.size s (.slice none 0 0) from Off.keeps LZ.out SD.out (by omega)).cell 2
      have ZZ : Hid (rsAt Z (w.heap.size + 1 + 1 + 1 + 1 + 1) St.zero (.slice none 0 0)) := Off.keeps LZ.out ZD.out (by omega)
      obtain ⟨t2, ht2⟩ : ∃ t2 : St, { t with seg := q.seg, off := wrap64 (q.off + n), ring := ct } = t2 := ⟨_, rfl⟩
      rw [ht2] at TZ
      replace ht2 := Lib.hid ht2
      go_wp2_with (first | ((with_reducible refine wpList_load_rs (op := ⟨some 74, .load 39 (.tmp 7), _, _, _, _⟩) (N := (w.heap.size + 1)) (s := t2) (stk := (.slice (some ⟨g2, 0, none⟩) (l.length + 1) c2)) ?_ (.tmp 7) ?_ ?_ ?_ ?_); exact rfl; exact rfl; exact rfl; exact rs_range TZ.out) | (go_at_call 50; refine (c_rraise Z t2 (some ⟨g2, 0, none⟩) (l.length + 1) c2 s.ring).mono ?_; rintro e z1 ⟨rfl, hb9⟩; have ZZ1 : Hid (rsAt z1 (w.heap.size + 1 + 1 + 1 + 1 + 1) St.zero (.slice none 0 0)) := Off.keeps (.of_below (ex := fun _ => False) hb9) ZZ.out id; have B9 := Lib.hid hb9; clear hb9; (try dsimp only)) | ((with_reducible refine wpList_store_rs (op := ⟨none, .store 39 (.tmp 12) (.tmp 77), _, _, _, _⟩) (N := (w.heap.size + 1 + 1 + 1 + 1 + 1)) (s := St.zero) (stk := (.slice none 0 0)) (s' := (t2.raise s.ring)) (stk' := (.slice (some ⟨g2, 0, none⟩) (l.length + 1) c2)) ?_ (.tmp 12) (.tmp 77) ?_ ?_ ?_ ?_ ?_ ?_); exact rfl; exact rfl; exact rfl; exact rfl; exact ZZ1.out; exact rfl; intro w9 S1 F1; replace S1 := Lib.hid S1; replace F1 := Lib.hid F1))
      refine bodyPost_ret (call_results S1.out _ rfl rfl) rfl ⟨_, by rw [hct.out, ht2.out], ?_, ?_⟩
      · have h := Off.row F1.out (Off.row (ex := fun _ => False) (.of_below B9.out) KZ.out (fun _ h => h.elim)) (rs_not ZZ1.out _ (by decide))
        unfold rstkAt
        rw [List.length_append]
        exact h
      · have b1 : Below w.heap.size w Z := Off.below LW.out LZ.out LW.out.size (fun j hj => by omega)
        have b2 := below2 b1 B9.out
        exact Off.below b2 F1.out b2.size (fun j hj => by omega)
    · go_simp
      refine hK.out _ _ ?_ (fun hHeld => ?_)
      · exact S7.below Fx1.out (below_al0 x1 _)
      clear hK K
      try simp only [Act.put, sA, sB, sC]
      obtain ⟨x5, hx5, Bx5⟩ : ∃ X, x1.alloc (.cells #[.int .i64 s.seg, .int .i64 t.off, .int .i64 s.ring] 92) = X ∧ Hid (Below x1.heap.size x1 X) := ⟨_, rfl, below_al0 _ _⟩
      obtain ⟨nb, hnb⟩ : ∃ e, x1.heap.size = e := ⟨_, rfl⟩
      have Nx5 : Hid (x5.heap[nb]? = some (.cells #[.int .i64 s.seg, .int .i64 t.off, .int .i64 s.ring] 92 (0, 0))) := by rw [← hx5, ← hnb]; exact heap_alloc_new _ _
      rw [hx5]
      rw [hnb]
      have Ex5 : Hid (x5.ownsRow D.heap.size 92 3 (.slice (some ⟨eb, 0, none⟩) 0 0) 0 []) := Off.row (ex := fun _ => False) (.of_below Bx5.out) Ex1.out (fun _ h => h.elim)
      have Fx5 := Lib.hid (S7.below Fx1.out Bx5.out)
      have Lx5 := Lib.hid (below2 Lx1.out Bx5.out)
      clear hx5
      have hnex5 : Hid (¬ eb = nb) := Lib.hid (fun h => by
        subst h
        rcases Ex5.out.2 with ⟨e, _⟩ | ⟨g', c', cur, e, _, hx, hh⟩
        · cases e
        · cases e
          have h2 := hx.symm.trans Nx5.out
          simp only [Option.some.injEq, Obj.cells.injEq] at h2
          have h3 := hh.2.2.1
          rw [h2.1] at h3
          simp at h3)
      refine rdA 3 (fun K hK => ?_)
      (try rw [if_pos (by rfl)])
      refine wp_append_none (.tmp 53) (.tmp 55) 37 rfl D.heap.size 92 iF 3 A.underRF hiF _ 0 [] rfl Ex5.out rfl ?_
      refine hK.out _ _ ?_ (fun hHeld => ?_)
      · exact Fx5.out
      clear hK K
      try simp only [Act.put, sA, sB, sC]
      obtain ⟨v1, hv1⟩ : ∃ v, Value.slice (some ⟨eb, 0, none⟩) 0 0 = v := ⟨_, rfl⟩
      have Vx5 : Hid (x5.ownsRow D.heap.size 92 3 v1 l.length (frC l)) := by rw [← hv1, hl0.out]; exact Ex5.out
      rw [hv1]
      refine rdA 12 (fun K hK => ?_)
      (try rw [if_pos (by rfl)])
      refine wp_append_own _ (.tmp 56) (.tmp 64) 37 rfl D.heap.size 92 iF (.agg #[.int .i64 0, .int .i64 0, .int .i64 0]) 3 24 A.underRF hiF hz0 hz1 hz2 rfl (by decide) v1 l.length (frC l) rfl Vx5.out ⟨nb, 0, none⟩ 1 1 [.int .i64 s.seg, .int .i64 t.off, .int .i64 s.ring] rfl rfl (fun j u hj => (by rw [Addr.add_lit, Nat.zero_add]; exact (cell_of_row x5 nb j _ _ _ Nx5.out).trans (by simpa using hj))) (by intro u hu; simp at hu; rcases hu with rfl | rfl | rfl <;> rfl) (by have := h8.out; unfold maxLen; omega) (by have := h8.out; omega) (S7.size Fx5.out) ?_
      intro v2 x7 hown hgrow _
      have Fx7 := Lib.hid (S7.grown Fx5.out hgrow (fun k hk => own_lo2 Vx5.out k hk) BD.out)
      have Lx7 : Hid (Below D.heap.size D x7) := ((Off.of_below (ex := fun _ => False) Lx5.out).grown hgrow (fun k hk => .inr (own_lo2 Vx5.out k hk))).to_below
      clear hgrow
      obtain ⟨g2, c2, hq⟩ := row_some hown (by omega)
      subst hq
      replace hown := Lib.hid hown
      refine hK.out _ _ ?_ (fun hHeld => ?_)
      · exact Fx7.out
      clear hK K
      try simp only [Act.put, sA, sB, sC]
      refine tkA 13 ?_
      try simp only [Act.put, sA, sB, sC]
      have Tx7 : Hid (rsAt x7 (w.heap.size + 1) t (.slice none 0 0)) := Off.keeps (.of_below (ex := fun _ => False) Lx7.out) TD.out id
      have c16 : x7.cell? ⟨(w.heap.size + 1), 16, none⟩ = some (.slice none 0 0) := Tx7.out.cell 16
      have cf : ∀ j, x7.frozen? ⟨(w.heap.size + 1), j, none⟩ = false := fun j => Tx7.out.free j
      refine rdA 14 (fun K hK => ?_)
      go_simp
      refine hK.out _ _ ?_ (fun hHeld => ?_)
      · exact S7.set Fx7.out _
      clear hK K
      try simp only [Act.put, sA, sB, sC]
      obtain ⟨Y, hY, TY, KY, LY⟩ : ∃ Y, x7.setCell ⟨(w.heap.size + 1), 16, none⟩ (.slice (some ⟨g2, 0, none⟩) (l.length + 1) c2) = Y ∧ Hid (rsAt Y (w.heap.size + 1) t (.slice (some ⟨g2, 0, none⟩) (l.length + 1) c2)) ∧ Hid (Y.ownsRow 0 92 3 (.slice (some ⟨g2, 0, none⟩) (l.length + 1) c2) (l.length + 1) (frC (l ++ [⟨s.seg, t.off, s.ring⟩]))) ∧ Hid (Off (· = (w.heap.size + 1)) D Y) := ⟨_, rfl, rs_stk Tx7.out _, by rw [frC_append]; exact row_base (Off.row (off1 _ _ _ _) hown.out (rs_not Tx7.out _ (by decide))) (Nat.zero_le _), Off.setCell (ex := (· = (w.heap.size + 1))) (Off.of_below Lx7.out) (.inl rfl) _⟩
      rw [hY]
      clear hY c16 cf Tx7 hown Fx7 Lx7
      refine wpAnyH_done (by kernel_rfl) ?_ _
      refine NoPanic.normal ?_
      have y0 : Y.cell? ⟨(w.heap.size + 1), 0, none⟩ = some (.int .i64 t.seg) := TY.out.cell 0
      have y1 : Y.cell? ⟨(w.heap.size + 1), 1, none⟩ = some (.int .i64 t.off) := TY.out.cell 1
      have y2 : Y.cell? ⟨(w.heap.size + 1), 2, none⟩ = some (.int .i64 t.ring) := TY.out.cell 2
      have yf : ∀ j, Y.frozen? ⟨(w.heap.size + 1), j, none⟩ = false := fun j => TY.out.free j
      have p0 : Y.cell? ⟨w.heap.size + 1 + 1 + 1, 0, none⟩ = some (.int .i64 q.seg) := (show blk3 Y (w.heap.size + 1 + 1 + 1) 24 (.int .i64 q.seg) (.int .i64 q.off) (.int .i64 q.ring) from Off.keeps LY.out PD.out (by omega)).facts.1.1
      go_upto_region 15 with fail
      obtain ⟨Z, hZ, TZ, KZ, LZ⟩ : ∃ Z, ((Y.setCell ⟨(w.heap.size + 1), 0, none⟩ (.int .i64 q.seg)).setCell ⟨(w.heap.size + 1), 1, none⟩ (.int .i64 (wrap64 (q.off + n)))).setCell ⟨(w.heap.size + 1), 2, none⟩ (.int .i64 ct) = Z ∧ Hid (rsAt Z (w.heap.size + 1) { t with seg := q.seg, off := wrap64 (q.off + n), ring := ct } (.slice (some ⟨g2, 0, none⟩) (l.length + 1) c2)) ∧ Hid (Z.ownsRow 0 92 3 (.slice (some ⟨g2, 0, none⟩) (l.length + 1) c2) (l.length + 1) (frC (l ++ [⟨s.seg, t.off, s.ring⟩]))) ∧ Hid (Off (· = (w.heap.size + 1)) D Z) := ⟨_, rfl, rs_place TY.out _ _ _, Off.row (((off1 _ _ _ _).trans (off1 _ _ _ _)).trans (off1 _ _ _ _)) KY.out (rs_not TY.out _ (by decide)), Off.setCell (ex := (· = (w.heap.size + 1))) (Off.setCell (ex := (· = (w.heap.size + 1))) (Off.setCell (ex := (· = (w.heap.size + 1))) LY.out (.inl rfl) _) (.inl rfl) _) (.inl rfl) _⟩
      rw [hZ]
      clear hZ y0 y1 y2 yf p0 TY KY LY
      have x2 : Z.cell? ⟨w.heap.size, 2, none⟩ = some (.int .i64 s.ring) := (show rsAt Z w.heap.size s (.slice none 0 0) from Off.keeps LZ.out SD.out (by omega)).cell 2
      have ZZ : Hid (rsAt Z (w.heap.size + 1 + 1 + 1 + 1 + 1) St.zero (.slice none 0 0)) := Off.keeps LZ.out ZD.out (by omega)
      obtain ⟨t2, ht2⟩ : ∃ t2 : St, { t with seg := q.seg, off := wrap64 (q.off + n), ring := ct } = t2 := ⟨_, rfl⟩
      rw [ht2] at TZ
      replace ht2 := Lib.hid ht2
      go_wp2_with (first | ((with_reducible refine wpList_load_rs (op := ⟨some 74, .load 39 (.tmp 7), _, _, _, _⟩) (N := (w.heap.size + 1)) (s := t2) (stk := (.slice (some ⟨g2, 0, none⟩) (l.length + 1) c2)) ?_ (.tmp 7) ?_ ?_ ?_ ?_); exact rfl; exact rfl; exact rfl; exact rs_range TZ.out) | (go_at_call 50; refine (c_rraise Z t2 (some ⟨g2, 0, none⟩) (l.length + 1) c2 s.ring).mono ?_; rintro e z1 ⟨rfl, hb9⟩; have ZZ1 : Hid (rsAt z1 (w.heap.size + 1 + 1 + 1 + 1 + 1) St.zero (.slice none 0 0)) := Off.keeps (.of_below (ex := fun _ => False) hb9) ZZ.out id; have B9 := Lib.hid hb9; clear hb9; (try dsimp only)) | ((with_reducible refine wpList_store_rs (op := ⟨none, .store 39 (.tmp 12) (.tmp 77), _, _, _, _⟩) (N := (w.heap.size + 1 + 1 + 1 + 1 + 1)) (s := St.zero) (stk := (.slice none 0 0)) (s' := (t2.raise s.ring)) (stk' := (.slice (some ⟨g2, 0, none⟩) (l.length + 1) c2)) ?_ (.tmp 12) (.tmp 77) ?_ ?_ ?_ ?_ ?_ ?_); exact rfl; exact rfl; exact rfl; exact rfl; exact ZZ1.out; exact rfl; intro w9 S1 F1; replace S1 := Lib.hid S1; replace F1 := Lib.hid F1))
      refine bodyPost_ret (call_results S1.out _ rfl rfl) rfl ⟨_, by rw [hct.out, ht2.out], ?_, ?_⟩
      · have h := Off.row F1.out (Off.row (ex := fun _ => False) (.of_below B9.out) KZ.out (fun _ h => h.elim)) (rs_not ZZ1.out _ (by decide))
        unfold rstkAt
        rw [List.length_append]
        exact h
      · have b1 : Below w.heap.size w Z := Off.below LW.out LZ.out LW.out.size (fun j hj => by omega)
        have b2 := below2 b1 B9.out
        exact Off.below b2 F1.out b2.size (fun j hj => by omega)
  · go_simp
    refine hK.out _ _ ?_ (fun hHeld => ?_)
    · exact S7.below FD.out (below_al0 D _)
    clear hK K
    try simp only [Act.put, sA, sB, sC]
    obtain ⟨x8, hx8, Bx8⟩ : ∃ X, D.alloc (.cells #[.int .i64 s.seg, .int .i64 t.off, .int .i64 s.ring] 92) = X ∧ Hid (Below D.heap.size D X) := ⟨_, rfl, below_al0 _ _⟩
    obtain ⟨nb, hnb⟩ : ∃ e, D.heap.size = e := ⟨_, rfl⟩
    have Nx8 : Hid (x8.heap[nb]? = some (.cells #[.int .i64 s.seg, .int .i64 t.off, .int .i64 s.ring] 92 (0, 0))) := by rw [← hx8, ← hnb]; exact heap_alloc_new _ _
    rw [hx8]
    rw [hnb]
    have Fx8 := Lib.hid (S7.below FD.out Bx8.out)
    have Lx8 := Lib.hid (below2 LD.out Bx8.out)
    clear hx8
    refine rdA 0 (fun K hK => ?_)
    go_simp
    refine hK.out _ _ ?_ (fun hHeld => ?_)
    · exact S7.below Fx8.out (below_al0 x8 _)
    clear hK K
    try simp only [Act.put, sA, sB, sC]
    obtain ⟨x9, hx9, Bx9⟩ : ∃ X, x8.alloc (.cells #[] 92) = X ∧ Hid (Below x8.heap.size x8 X) := ⟨_, rfl, below_al0 _ _⟩
    obtain ⟨eb, heb⟩ : ∃ e, x8.heap.size = e := ⟨_, rfl⟩
    have Ex9 : Hid (x9.ownsRow D.heap.size 92 3 (.slice (some ⟨eb, 0, none⟩) 0 0) 0 []) := by rw [← hx9, ← heb]; exact empty_row2 x8 D.heap.size 92 3 (S7.size Fx8.out)
    have hEx9 : Hid (D.heap.size ≤ eb) := by rw [← heb]; exact S7.size Fx8.out
    rw [hx9]
    rw [heb]
    have Nx9 : Hid (x9.heap[nb]? = some (.cells #[.int .i64 s.seg, .int .i64 t.off, .int .i64 s.ring] 92 (0, 0))) := Off.keeps (ex := fun _ => False) (.of_below Bx9.out) Nx8.out id
    have Fx9 := Lib.hid (S7.below Fx8.out Bx9.out)
    have Lx9 := Lib.hid (below2 Lx8.out Bx9.out)
    clear hx9
    have hnex9 : Hid (¬ eb = nb) := Lib.hid (fun h => by
      subst h
      rcases Ex9.out.2 with ⟨e, _⟩ | ⟨g', c', cur, e, _, hx, hh⟩
      · cases e
      · cases e
        have h2 := hx.symm.trans Nx9.out
        simp only [Option.some.injEq, Obj.cells.injEq] at h2
        have h3 := hh.2.2.1
        rw [h2.1] at h3
        simp at h3)
    refine rdA 3 (fun K hK => ?_)
    (try rw [if_pos (by rfl)])
    refine wp_append_none (.tmp 53) (.tmp 55) 37 rfl D.heap.size 92 iF 3 A.underRF hiF _ 0 [] rfl Ex9.out rfl ?_
    refine hK.out _ _ ?_ (fun hHeld => ?_)
    · exact Fx9.out
    clear hK K
    try simp only [Act.put, sA, sB, sC]
    obtain ⟨v1, hv1⟩ : ∃ v, Value.slice (some ⟨eb, 0, none⟩) 0 0 = v := ⟨_, rfl⟩
    have Vx9 : Hid (x9.ownsRow D.heap.size 92 3 v1 l.length (frC l)) := by rw [← hv1, hl0.out]; exact Ex9.out
    rw [hv1]
    refine rdA 12 (fun K hK => ?_)
    (try rw [if_pos (by rfl)])
    refine wp_append_own _ (.tmp 56) (.tmp 64) 37 rfl D.heap.size 92 iF (.agg #[.int .i64 0, .int .i64 0, .int .i64 0]) 3 24 A.underRF hiF hz0 hz1 hz2 rfl (by decide) v1 l.length (frC l) rfl Vx9.out ⟨nb, 0, none⟩ 1 1 [.int .i64 s.seg, .int .i64 t.off, .int .i64 s.ring] rfl rfl (fun j u hj => (by rw [Addr.add_lit, Nat.zero_add]; exact (cell_of_row x9 nb j _ _ _ Nx9.out).trans (by simpa using hj))) (by intro u hu; simp at hu; rcases hu with rfl | rfl | rfl <;> rfl) (by have := h8.out; unfold maxLen; omega) (by have := h8.out; omega) (S7.size Fx9.out) ?_
    intro v2 x11 hown hgrow _
    have Fx11 := Lib.hid (S7.grown Fx9.out hgrow (fun k hk => own_lo2 Vx9.out k hk) BD.out)
    have Lx11 : Hid (Below D.heap.size D x11) := ((Off.of_below (ex := fun _ => False) Lx9.out).grown hgrow (fun k hk => .inr (own_lo2 Vx9.out k hk))).to_below
    clear hgrow
    obtain ⟨g2, c2, hq⟩ := row_some hown (by omega)
    subst hq
    replace hown := Lib.hid hown
    refine hK.out _ _ ?_ (fun hHeld => ?_)
    · exact Fx11.out
    clear hK K
    try simp only [Act.put, sA, sB, sC]
    refine tkA 13 ?_
    try simp only [Act.put, sA, sB, sC]
    have Tx11 : Hid (rsAt x11 (w.heap.size + 1) t (.slice none 0 0)) := Off.keeps (.of_below (ex := fun _ => False) Lx11.out) TD.out id
    have c16 : x11.cell? ⟨(w.heap.size + 1), 16, none⟩ = some (.slice none 0 0) := Tx11.out.cell 16
    have cf : ∀ j, x11.frozen? ⟨(w.heap.size + 1), j, none⟩ = false := fun j => Tx11.out.free j
    refine rdA 14 (fun K hK => ?_)
    go_simp
    refine hK.out _ _ ?_ (fun hHeld => ?_)
    · exact S7.set Fx11.out _
    clear hK K
    try simp only [Act.put, sA, sB, sC]
    obtain ⟨Y, hY, TY, KY, LY⟩ : ∃ Y, x11.setCell ⟨(w.heap.size + 1), 16, none⟩ (.slice (some ⟨g2, 0, none⟩) (l.length + 1) c2) = Y ∧ Hid (rsAt Y (w.heap.size + 1) t (.slice (some ⟨g2, 0, none⟩) (l.length + 1) c2)) ∧ Hid (Y.ownsRow 0 92 3 (.slice (some ⟨g2, 0, none⟩) (l.length + 1) c2) (l.length + 1) (frC (l ++ [⟨s.seg, t.off, s.ring⟩]))) ∧ Hid (Off (· = (w.heap.size + 1)) D Y) := ⟨_, rfl, rs_stk Tx11.out _, by rw [frC_append]; exact row_base (Off.row (off1 _ _ _ _) hown.out (rs_not Tx11.out _ (by decide))) (Nat.zero_le _), Off.setCell (ex := (· = (w.heap.size + 1))) (Off.of_below Lx11.out) (.inl rfl) _⟩
    rw [hY]
    clear hY c16 cf Tx11 hown Fx11 Lx11
    refine wpAnyH_done (by kernel_rfl) ?_ _
    refine NoPanic.normal ?_
    have y0 : Y.cell? ⟨(w.heap.size + 1), 0, none⟩ = some (.int .i64 t.seg) := TY.out.cell 0
    have y1 : Y.cell? ⟨(w.heap.size + 1), 1, none⟩ = some (.int .i64 t.off) := TY.out.cell 1
    have y2 : Y.cell? ⟨(w.heap.size + 1), 2, none⟩ = some (.int .i64 t.ring) := TY.out.cell 2
    have yf : ∀ j, Y.frozen? ⟨(w.heap.size + 1), j, none⟩ = false := fun j => TY.out.free j
    have p0 : Y.cell? ⟨w.heap.size + 1 + 1 + 1, 0, none⟩ = some (.int .i64 q.seg) := (show blk3 Y (w.heap.size + 1 + 1 + 1) 24 (.int .i64 q.seg) (.int .i64 q.off) (.int .i64 q.ring) from Off.keeps LY.out PD.out (by omega)).facts.1.1
    go_upto_region 15 with fail
    obtain ⟨Z, hZ, TZ, KZ, LZ⟩ : ∃ Z, ((Y.setCell ⟨(w.heap.size + 1), 0, none⟩ (.int .i64 q.seg)).setCell ⟨(w.heap.size + 1), 1, none⟩ (.int .i64 (wrap64 (q.off + n)))).setCell ⟨(w.heap.size + 1), 2, none⟩ (.int .i64 ct) = Z ∧ Hid (rsAt Z (w.heap.size + 1) { t with seg := q.seg, off := wrap64 (q.off + n), ring := ct } (.slice (some ⟨g2, 0, none⟩) (l.length + 1) c2)) ∧ Hid (Z.ownsRow 0 92 3 (.slice (some ⟨g2, 0, none⟩) (l.length + 1) c2) (l.length + 1) (frC (l ++ [⟨s.seg, t.off, s.ring⟩]))) ∧ Hid (Off (· = (w.heap.size + 1)) D Z) := ⟨_, rfl, rs_place TY.out _ _ _, Off.row (((off1 _ _ _ _).trans (off1 _ _ _ _)).trans (off1 _ _ _ _)) KY.out (rs_not TY.out _ (by decide)), Off.setCell (ex := (· = (w.heap.size + 1))) (Off.setCell (ex := (· = (w.heap.size + 1))) (Off.setCell (ex := (· = (w.heap.size + 1))) LY.out (.inl rfl) _) (.inl rfl) _) (.inl rfl) _⟩
    rw [hZ]
    clear hZ y0 y1 y2 yf p0 TY KY LY
    have x2 : Z.cell? ⟨w.heap.size, 2, none⟩ = some (.int .i64 s.ring) := (show rsAt Z w.heap.size s (.slice none 0 0) from Off.keeps LZ.out SD.out (by omega)).cell 2
    have ZZ : Hid (rsAt Z (w.heap.size + 1 + 1 + 1 + 1 + 1) St.zero (.slice none 0 0)) := Off.keeps LZ.out ZD.out (by omega)
    obtain ⟨t2, ht2⟩ : ∃ t2 : St, { t with seg := q.seg, off := wrap64 (q.off + n), ring := ct } = t2 := ⟨_, rfl⟩
    rw [ht2] at TZ
    replace ht2 := Lib.hid ht2
    go_wp2_with (first | ((with_reducible refine wpList_load_rs (op := ⟨some 74, .load 39 (.tmp 7), _, _, _, _⟩) (N := (w.heap.size + 1)) (s := t2) (stk := (.slice (some ⟨g2, 0, none⟩) (l.length + 1) c2)) ?_ (.tmp 7) ?_ ?_ ?_ ?_); exact rfl; exact rfl; exact rfl; exact rs_range TZ.out) | (go_at_call 50; refine (c_rraise Z t2 (some ⟨g2, 0, none⟩) (l.length + 1) c2 s.ring).mono ?_; rintro e z1 ⟨rfl, hb9⟩; have ZZ1 : Hid (rsAt z1 (w.heap.size + 1 + 1 + 1 + 1 + 1) St.zero (.slice none 0 0)) := Off.keeps (.of_below (ex := fun _ => False) hb9) ZZ.out id; have B9 := Lib.hid hb9; clear hb9; (try dsimp only)) | ((with_reducible refine wpList_store_rs (op := ⟨none, .store 39 (.tmp 12) (.tmp 77), _, _, _, _⟩) (N := (w.heap.size + 1 + 1 + 1 + 1 + 1)) (s := St.zero) (stk := (.slice none 0 0)) (s' := (t2.raise s.ring)) (stk' := (.slice (some ⟨g2, 0, none⟩) (l.length + 1) c2)) ?_ (.tmp 12) (.tmp 77) ?_ ?_ ?_ ?_ ?_ ?_); exact rfl; exact rfl; exact rfl; exact rfl; exact ZZ1.out; exact rfl; intro w9 S1 F1; replace S1 := Lib.hid S1; replace F1 := Lib.hid F1))
    refine bodyPost_ret (call_results S1.out _ rfl rfl) rfl ⟨_, by rw [hct.out, ht2.out], ?_, ?_⟩
    · have h := Off.row F1.out (Off.row (ex := fun _ => False) (.of_below B9.out) KZ.out (fun _ h => h.elim)) (rs_not ZZ1.out _ (by decide))
      unfold rstkAt
      rw [List.length_append]
      exact h
    · have b1 : Below w.heap.size w Z := Off.below LW.out LZ.out LW.out.size (fun j hj => by omega)
      have b2 := below2 b1 B9.out
      exact Off.below b2 F1.out b2.size (fun j hj => by omega)
end Go.Proofs.Ytiakonmamkfopaa
namespace Go.Proofs.Ytiakonmamkfopaa
open Go.RowKit Go.ChangeShapes
set_option linter.unusedVariables false
set_option maxRecDepth 1000000
/-- the state has turned, with callers of its own -/
def T20 (W W' : World) (b11 : Nat) (t : St) (v : Value) (l : List Fr) : Prop := rsAt W' b11 t v ∧ Off (· = b11) W W' ∧ rstkAt W' v l
/-- what a call's fault leaves: the state's copy is lost, too -/
structure OutQ (W W' : World) (b4 b5 b11 : Nat) (s' : St) (v : Value) (is : Bool) (k o x : Int) : Prop where
  z : rsAt W' b4 s' v
  y : blk4 W' b5 45 (.bool is) (.int .i64 k) (.int .i64 o) (.int .i64 x)
  o : Off (fun j => j = b4 ∨ j = b5 ∨ j = b11) W W'
theorem OutP.q {W W1 W2 W' : World} {b4 b5 b11 : Nat} {s' : St} {v : Value} {is : Bool} {k o x : Int} (h : OutP W2 W' b4 b5 s' v is k o x) (hb : Below W.heap.size W W1) (hF : Off (· = b11) W1 W2) : OutQ W W' b4 b5 b11 s' v is k o x :=
  ⟨h.z, h.y, ((Off.of_below hb).trans (hF.mono (fun _ _ e => .inr (.inr e)))).trans (h.o.mono (fun _ _ e => e.elim .inl (fun e => .inr (.inl e))))⟩
set_option maxHeartbeats 8000000 in
theorem sw21a {W : World} {b2 b4 b5 b9 b11 b12 b14 n' c P : Nat} {ad : Option Addr} {s t : St} {n : Int} {g : Sg} {u mv : Value} {v0 v3 aO aP aQ aR aS aT aU aV aW aX aa ab ac ae af ag ah ai aj ak al am an ao ap aq ar av aw ax ay az aA aB aC aD aE aF aG aH aI aJ aK aL aY aZ a0 a1 a3 a4 a5 a6 a7 a8 a9 ba bb bc bd be bf bg bh bi bj bk bm bn bo bp bq br bs bt bu bv bw bx bz bA bB bC bD bE bF bG bH bI bJ bK bL bM bN bO bP bQ bR bS bT bU bV bW bX bY bZ b0 b3 b6 b7 b8 ca cb cc cd cg ch ci cj ck cl cm cn co cq cr cv cw cx cy cz cA cB cC cD cE cF cG cH cI cJ cK cL cM cN cO cP cQ cR cS cT cU cV cW cX cY cZ c0 c1 c3 c4 c5 c6 c7 c8 c9 da db dc dd de df dg dh di dj dk dl dm dn dp dq dr ds dt du dv dw dx dy dz dA dB dC dD dE dF dG dH dI dJ dK dL dM dN dO dP dQ dR dS dT dU dV dW dX dY dZ d0 d1 d2 d3 d4 d5 d6 d7 d8 d9 ea ec ed ee ef eg eh ei ej ek el em en eo ep eq es et eu ev ew ey ez eA eB eC eD eE eF eG eH eI eJ eK eL eM eN eO eP eQ eR eS eT eU eV eW eX eY eZ e0 e1 e2 e3 e4 e5 e6 e7 e8 e9 fa fb fc fd fe ff fg fh fi fj fk fl fm fn fo fp fq fr fs ft fu fv fw fx fy fz fA fB fC fD fE fF fG fH fI aM aN : Value} {Q : Exit → Act → World → Prop} (E : SE W b2 b4 b5 b9 b11 b12 b14 s t (.slice ad n' c) 21 n P g u) (h0 : n' = 0)
    (hQ : ∀ (fJ fK fL fM fN fO fP fQ fR fS fT fU fV fW fX fY fZ f3 f4 f5 f6 f7 f8 f9 ga gb gc gd ge gf gg gh gi gj gk gl gm gn gp gq gr gt gu gv gw gx gy gz gA gB gC gD gE gF gG gH gI gJ gK gL gM gN gO gP gQ gR gS gT gU gV gW gX gY gZ g7 g9 ha hd hi ho hp hs ht hv hw hy hA hC hD hE hG hH hI hJ hL hM hN hO hP hR hS hT hU hV hW hX h1 h6 h7 h9 ia ib ic ie ig ih ii ij ik il im io ip iq ir it iu iv iw ix iy iz iA iB iC iD iE iG iH iI iJ iK iL iM iN iO iP iQ iR iS iT iU iV iW iX iY iZ i3 i4 i5 i6 i7 i8 ja jb jc jd je jf jg jh ji jj jk jl jm jn jo jp jq jr js jt ju jv jw jx jy jz jA jB jC jD jE jF jG jH jI jJ jK jL jM jN jO jP jQ jR jS jT jU jV jW jX jY jZ j0 j1 j2 j3 j4 j5 j6 j7 j8 j9 ka kb kc kd ke kf kg kh ki kj kk kl km kn ko kp kq kr ks kt ku kv kw kx ky kz kA kB kC kD kE kF kG kH kI kJ kK kL kM kN kO kP kQ kR kS kT kU kV kW kX kY kZ k3 k4 k6 k7 k8 k9 la lb lc : Value) (W' : World), OutP W W' b4 b5 St.zero (.slice none 0 0) false 0 0 0 → Q .ret ⟨(v0::mv::(.pointer (some ⟨b2, 0, none⟩))::v3::(.pointer (some ⟨b4, 0, none⟩))::(.pointer (some ⟨b5, 0, none⟩))::(.int .i64 0)::(.bool false)::(.int .i64 37)::(.pointer (some ⟨b9, 0, none⟩))::fJ::(.pointer (some ⟨b11, 0, none⟩))::(.pointer (some ⟨b12, 0, none⟩))::(.int .i64 (s.eb (P : Int)))::(.pointer (some ⟨b14, 0, none⟩))::fK::fL::fM::fN::fO::fP::fQ::fR::fS::aa::ab::ac::ae::af::ag::ah::ai::aj::ak::al::am::an::ao::ap::aq::ar::av::aw::ax::ay::az::aA::aB::aC::aD::aE::aF::aG::aH::aI::aJ::aK::aL::fT::fU::fV::fW::fX::fY::fZ::f3::f4::f5::f6::f7::f8::f9::ga::gb::gc::gd::ge::gf::gg::gh::gi::gj::gk::gl::gm::gn::gp::gq::gr::gt::gu::gv::gw::gx::gy::gz::gA::gB::gC::gD::gE::gF::gG::gH::gI::gJ::gK::gL::gM::gN::gO::gP::gQ::gR::gS::gT::gU::gV::gW::gX::gY::gZ::g7::g9::ha::hd::hi::ho::hp::hs::ht::hv::hw::hy::hA::hC::hD::hE::hG::hH::hI::hJ::hL::hM::hN::hO::hP::hR::hS::hT::hU::hV::hW::hX::h1::h6::h7::h9::ia::ib::ic::ie::ig::ih::ii::ij::ik::il::im::io::ip::iq::ir::it::iu::iv::iw::ix::iy::iz::iA::iB::iC::iD::iE::iG::iH::iI::iJ::iK::iL::iM::iN::iO::iP::iQ::iR::iS::iT::iU::iV::iW::iX::iY::iZ::i3::i4::i5::i6::i7::i8::ja::jb::jc::jd::je::jf::jg::jh::ji::jj::jk::jl::jm::jn::jo::jp::jq::jr::js::jt::ju::jv::jw::jx::jy::jz::jA::jB::jC::jD::jE::jF::jG::jH::jI::jJ::jK::jL::jM::jN::jO::jP::jQ::jR::jS::jT::jU::jV::jW::jX::jY::jZ::j0::j1::j2::j3::j4::j5::j6::j7::j8::j9::ka::kb::kc::kd::ke::kf::kg::kh::ki::kj::kk::kl::km::kn::ko::kp::kq::kr::ks::kt::ku::kv::kw::kx::ky::kz::kA::kB::kC::kD::kE::kF::kG::kH::kI::kJ::kK::kL::kM::kN::kO::kP::kQ::kR::kS::kT::kU::kV::kW::kX::kY::kZ::k3::k4::k6::k7::k8::k9::la::lb::lc::aM::aN::[]).toArray, []⟩ W') : Code.wp Try.prog sw Q ⟨(v0::mv::(.pointer (some ⟨b2, 0, none⟩))::v3::(.pointer (some ⟨b4, 0, none⟩))::(.pointer (some ⟨b5, 0, none⟩))::(.int .i64 0)::(.bool false)::(.int .i64 0)::(.pointer (some ⟨b9, 0, none⟩))::aO::(.pointer (some ⟨b11, 0, none⟩))::(.pointer (some ⟨b12, 0, none⟩))::(.int .i64 (s.eb (P : Int)))::(.pointer (some ⟨b14, 0, none⟩))::aP::aQ::aR::aS::aT::aU::aV::aW::aX::aa::ab::ac::ae::af::ag::ah::ai::aj::ak::al::am::an::ao::ap::aq::ar::av::aw::ax::ay::az::aA::aB::aC::aD::aE::aF::aG::aH::aI::aJ::aK::aL::aY::aZ::a0::a1::a3::a4::a5::a6::a7::a8::a9::ba::bb::bc::bd::be::bf::bg::bh::bi::bj::bk::bm::bn::bo::bp::bq::br::bs::bt::bu::bv::bw::bx::bz::bA::bB::bC::bD::bE::bF::bG::bH::bI::bJ::bK::bL::bM::bN::bO::bP::bQ::bR::bS::bT::bU::bV::bW::bX::bY::bZ::b0::b3::b6::b7::b8::ca::cb::cc::cd::cg::ch::ci::cj::ck::cl::cm::cn::co::cq::cr::cv::cw::cx::cy::cz::cA::cB::cC::cD::cE::cF::cG::cH::cI::cJ::cK::cL::cM::cN::cO::cP::cQ::cR::cS::cT::cU::cV::cW::cX::cY::cZ::c0::c1::c3::c4::c5::c6::c7::c8::c9::da::db::dc::dd::de::df::dg::dh::di::dj::dk::dl::dm::dn::dp::dq::dr::ds::dt::du::dv::dw::dx::dy::dz::dA::dB::dC::dD::dE::dF::dG::dH::dI::dJ::dK::dL::dM::dN::dO::dP::dQ::dR::dS::dT::dU::dV::dW::dX::dY::dZ::d0::d1::d2::d3::d4::d5::d6::d7::d8::d9::ea::ec::ed::ee::ef::eg::eh::ei::ej::ek::el::em::en::eo::ep::eq::es::et::eu::ev::ew::ey::ez::eA::eB::eC::eD::eE::eF::eG::eH::eI::eJ::eK::eL::eM::eN::eO::eP::eQ::eR::eS::eT::eU::eV::eW::eX::eY::eZ::e0::e1::e2::e3::e4::e5::e6::e7::e8::e9::fa::fb::fc::fd::fe::ff::fg::fh::fi::fj::fk::fl::fm::fn::fo::fp::fq::fr::fs::ft::fu::fv::fw::fx::fy::fz::fA::fB::fC::fD::fE::fF::fG::fH::fI::aM::aN::[]).toArray, []⟩ W := by
  have i0 : W.cell? ⟨b9, 0, none⟩ = some (.int .i64 21) := E.i9.facts.1.1
  have s16 : W.cell? ⟨b2, 16, none⟩ = some (.slice ad n' c) := E.s2.cell 16
  have hz : ((n' : Int) == 0) = true := by rw [h0]; rfl
  clear h0
  have HY : Hid (blk4 W b5 45 (.bool false) (.int .i64 0) (.int .i64 0) (.int .i64 0)) := E.z5
  have HZ : Hid (rsAt W b4 St.zero (.slice none 0 0)) := E.z4
  have HD := Lib.hid E.d
  replace E := Lib.hid E
  conv => arg 2; whnf
  go_wp2_with (first | ((with_reducible refine wpList_store_rs (op := ⟨none, .store 39 (.tmp 4) (.tmp 286), _, _, _, _⟩) (N := b4) (s := St.zero) (stk := (.slice none 0 0)) (s' := St.zero) (stk' := (.slice none 0 0)) ?_ (.tmp 4) (.tmp 286) ?_ ?_ ?_ ?_ ?_ ?_); exact rfl; exact rfl; exact rfl; exact rfl; exact HZ.out; exact rfl; intro w9 S1 F1; have Y1 : Hid (blk4 w9 b5 45 (.bool false) (.int .i64 0) (.int .i64 0) (.int .i64 0)) := Off.keeps F1 HY.out (by have := HD.out; omega); have y0 : w9.cell? ⟨b5, 0, none⟩ = some (.bool false) := Y1.out.cell 0; have y1 : w9.cell? ⟨b5, 1, none⟩ = some (.int .i64 0) := Y1.out.cell 1; have y2 : w9.cell? ⟨b5, 2, none⟩ = some (.int .i64 0) := Y1.out.cell 2; have y3 : w9.cell? ⟨b5, 3, none⟩ = some (.int .i64 0) := Y1.out.cell 3; have yf : ∀ j, w9.frozen? ⟨b5, j, none⟩ = false := fun j => Y1.out.free j; replace S1 := Lib.hid S1; replace F1 := Lib.hid F1))
  exact (out4 S1.out F1.out Y1.out HD.out.2.1 false 0 0 0)
end Go.Proofs.Ytiakonmamkfopaa
namespace Go.Proofs.Ytiakonmamkfopaa
open Go.RowKit Go.ChangeShapes
set_option linter.unusedVariables false
set_option maxRecDepth 1000000
set_option maxHeartbeats 8000000 in
theorem sw20e {W : World} {b2 b4 b5 b9 b11 b12 b14 n' c P : Nat} {ad : Option Addr} {s t : St} {n : Int} {g : Sg} {u mv : Value} {v0 v3 aO aP aQ aR aS aT aU aV aW aX aa ab ac ae af ag ah ai aj ak al am an ao ap aq ar av aw ax ay az aA aB aC aD aE aF aG aH aI aJ aK aL aY aZ a0 a1 a3 a4 a5 a6 a7 a8 a9 ba bb bc bd be bf bg bh bi bj bk bm bn bo bp bq br bs bt bu bv bw bx bz bA bB bC bD bE bF bG bH bI bJ bK bL bM bN bO bP bQ bR bS bT bU bV bW bX bY bZ b0 b3 b6 b7 b8 ca cb cc cd cg ch ci cj ck cl cm cn co cq cr cv cw cx cy cz cA cB cC cD cE cF cG cH cI cJ cK cL cM cN cO cP cQ cR cS cT cU cV cW cX cY cZ c0 c1 c3 c4 c5 c6 c7 c8 c9 da db dc dd de df dg dh di dj dk dl dm dn dp dq dr ds dt du dv dw dx dy dz dA dB dC dD dE dF dG dH dI dJ dK dL dM dN dO dP dQ dR dS dT dU dV dW dX dY dZ d0 d1 d2 d3 d4 d5 d6 d7 d8 d9 ea ec ed ee ef eg eh ei ej ek el em en eo ep eq es et eu ev ew ey ez eA eB eC eD eE eF eG eH eI eJ eK eL eM eN eO eP eQ eR eS eT eU eV eW eX eY eZ e0 e1 e2 e3 e4 e5 e6 e7 e8 e9 fa fb fc fd fe ff fg fh fi fj fk fl fm fn fo fp fq fr fs ft fu fv fw fx fy fz fA fB fC fD fE fF fG fH fI aM aN : Value} {Q : Exit → Act → World → Prop} (len cp : Nat) (au : Option Addr) (hu : u = .slice au len cp) (er : Int) (E : SE W b2 b4 b5 b9 b11 b12 b14 s t (.slice ad n' c) 20 n P g u) (her : ¬ er = 0) (hc : Calls Try.prog 49 #[.agg (stC s (.slice ad n' c)), .agg (stC t (.slice ad n' c)), .agg #[.bool g.is, u, .int .i64 g.md, .int .i64 g.r1, .int .i64 g.r2, .int .i64 g.r3, .int .i64 g.g], .agg #[.int .i64 (s.pt P).seg, .int .i64 (s.pt P).off, .int .i64 (s.pt P).ring], .agg #[.int .i64 20, .int .i64 (P : Int), .int .i64 n], .int .i64 (s.eb (P : Int))] W fun e w' => e = .returned (.tuple #[.agg (stC St.zero (.slice none 0 0)), .int .i64 er]) ∧ Below W.heap.size W w')
    (hQ : ∀ (fJ fK fL fM fN fO fP fQ fR fS fT fU fV fW fX fY fZ f3 f4 f5 f6 f7 f8 f9 ga gb gc gd ge gf gg gh gi gj gk gl gm gn gp gq gr gt gu gv gw gx gy gz gA gB gC gD gE gF gG gH gI gJ gK gL gM gN gO gP gQ gR gS gT gU gV gW gX gY gZ g7 g9 ha hd hi ho hp hs ht hv hw hy hA hC hD hE hG hH hI hJ hL hM hN hO hP hR hS hT hU hV hW hX h1 h6 h7 h9 ia ib ic ie ig ih ii ij ik il im io ip iq ir it iu iv iw ix iy iz iA iB iC iD iE iG iH iI iJ iK iL iM iN iO iP iQ iR iS iT iU iV iW iX iY iZ i3 i4 i5 i6 i7 i8 ja jb jc jd je jf jg jh ji jj jk jl jm jn jo jp jq jr js jt ju jv jw jx jy jz jA jB jC jD jE jF jG jH jI jJ jK jL jM jN jO jP jQ jR jS jT jU jV jW jX jY jZ j0 j1 j2 j3 j4 j5 j6 j7 j8 j9 ka kb kc kd ke kf kg kh ki kj kk kl km kn ko kp kq kr ks kt ku kv kw kx ky kz kA kB kC kD kE kF kG kH kI kJ kK kL kM kN kO kP kQ kR kS kT kU kV kW kX kY kZ k3 k4 k6 k7 k8 k9 la lb lc : Value) (W' : World), OutQ W W' b4 b5 b11 St.zero (.slice none 0 0) false 0 0 0 → Q .ret ⟨(v0::mv::(.pointer (some ⟨b2, 0, none⟩))::v3::(.pointer (some ⟨b4, 0, none⟩))::(.pointer (some ⟨b5, 0, none⟩))::(.int .i64 0)::(.bool false)::(.int .i64 er)::(.pointer (some ⟨b9, 0, none⟩))::fJ::(.pointer (some ⟨b11, 0, none⟩))::(.pointer (some ⟨b12, 0, none⟩))::(.int .i64 (s.eb (P : Int)))::(.pointer (some ⟨b14, 0, none⟩))::fK::fL::fM::fN::fO::fP::fQ::fR::fS::aa::ab::ac::ae::af::ag::ah::ai::aj::ak::al::am::an::ao::ap::aq::ar::av::aw::ax::ay::az::aA::aB::aC::aD::aE::aF::aG::aH::aI::aJ::aK::aL::fT::fU::fV::fW::fX::fY::fZ::f3::f4::f5::f6::f7::f8::f9::ga::gb::gc::gd::ge::gf::gg::gh::gi::gj::gk::gl::gm::gn::gp::gq::gr::gt::gu::gv::gw::gx::gy::gz::gA::gB::gC::gD::gE::gF::gG::gH::gI::gJ::gK::gL::gM::gN::gO::gP::gQ::gR::gS::gT::gU::gV::gW::gX::gY::gZ::g7::g9::ha::hd::hi::ho::hp::hs::ht::hv::hw::hy::hA::hC::hD::hE::hG::hH::hI::hJ::hL::hM::hN::hO::hP::hR::hS::hT::hU::hV::hW::hX::h1::h6::h7::h9::ia::ib::ic::ie::ig::ih::ii::ij::ik::il::im::io::ip::iq::ir::it::iu::iv::iw::ix::iy::iz::iA::iB::iC::iD::iE::iG::iH::iI::iJ::iK::iL::iM::iN::iO::iP::iQ::iR::iS::iT::iU::iV::iW::iX::iY::iZ::i3::i4::i5::i6::i7::i8::ja::jb::jc::jd::je::jf::jg::jh::ji::jj::jk::jl::jm::jn::jo::jp::jq::jr::js::jt::ju::jv::jw::jx::jy::jz::jA::jB::jC::jD::jE::jF::jG::jH::jI::jJ::jK::jL::jM::jN::jO::jP::jQ::jR::jS::jT::jU::jV::jW::jX::jY::jZ::j0::j1::j2::j3::j4::j5::j6::j7::j8::j9::ka::kb::kc::kd::ke::kf::kg::kh::ki::kj::kk::kl::km::kn::ko::kp::kq::kr::ks::kt::ku::kv::kw::kx::ky::kz::kA::kB::kC::kD::kE::kF::kG::kH::kI::kJ::kK::kL::kM::kN::kO::kP::kQ::kR::kS::kT::kU::kV::kW::kX::kY::kZ::k3::k4::k6::k7::k8::k9::la::lb::lc::aM::aN::[]).toArray, []⟩ W') : Code.wp Try.prog sw Q ⟨(v0::mv::(.pointer (some ⟨b2, 0, none⟩))::v3::(.pointer (some ⟨b4, 0, none⟩))::(.pointer (some ⟨b5, 0, none⟩))::(.int .i64 0)::(.bool false)::(.int .i64 0)::(.pointer (some ⟨b9, 0, none⟩))::aO::(.pointer (some ⟨b11, 0, none⟩))::(.pointer (some ⟨b12, 0, none⟩))::(.int .i64 (s.eb (P : Int)))::(.pointer (some ⟨b14, 0, none⟩))::aP::aQ::aR::aS::aT::aU::aV::aW::aX::aa::ab::ac::ae::af::ag::ah::ai::aj::ak::al::am::an::ao::ap::aq::ar::av::aw::ax::ay::az::aA::aB::aC::aD::aE::aF::aG::aH::aI::aJ::aK::aL::aY::aZ::a0::a1::a3::a4::a5::a6::a7::a8::a9::ba::bb::bc::bd::be::bf::bg::bh::bi::bj::bk::bm::bn::bo::bp::bq::br::bs::bt::bu::bv::bw::bx::bz::bA::bB::bC::bD::bE::bF::bG::bH::bI::bJ::bK::bL::bM::bN::bO::bP::bQ::bR::bS::bT::bU::bV::bW::bX::bY::bZ::b0::b3::b6::b7::b8::ca::cb::cc::cd::cg::ch::ci::cj::ck::cl::cm::cn::co::cq::cr::cv::cw::cx::cy::cz::cA::cB::cC::cD::cE::cF::cG::cH::cI::cJ::cK::cL::cM::cN::cO::cP::cQ::cR::cS::cT::cU::cV::cW::cX::cY::cZ::c0::c1::c3::c4::c5::c6::c7::c8::c9::da::db::dc::dd::de::df::dg::dh::di::dj::dk::dl::dm::dn::dp::dq::dr::ds::dt::du::dv::dw::dx::dy::dz::dA::dB::dC::dD::dE::dF::dG::dH::dI::dJ::dK::dL::dM::dN::dO::dP::dQ::dR::dS::dT::dU::dV::dW::dX::dY::dZ::d0::d1::d2::d3::d4::d5::d6::d7::d8::d9::ea::ec::ed::ee::ef::eg::eh::ei::ej::ek::el::em::en::eo::ep::eq::es::et::eu::ev::ew::ey::ez::eA::eB::eC::eD::eE::eF::eG::eH::eI::eJ::eK::eL::eM::eN::eO::eP::eQ::eR::eS::eT::eU::eV::eW::eX::eY::eZ::e0::e1::e2::e3::e4::e5::e6::e7::e8::e9::fa::fb::fc::fd::fe::ff::fg::fh::fi::fj::fk::fl::fm::fn::fo::fp::fq::fr::fs::ft::fu::fv::fw::fx::fy::fz::fA::fB::fC::fD::fE::fF::fG::fH::fI::aM::aN::[]).toArray, []⟩ W := by
  have i0 : W.cell? ⟨b9, 0, none⟩ = some (.int .i64 20) := E.i9.facts.1.1
  subst hu
  replace hc := Lib.hid hc
  have her2 : (er != 0) = true := by simpa using her
  have i1 : W.cell? ⟨b9, 1, none⟩ = some (.int .i64 (P : Int)) := E.i9.facts.1.2.1
  have i2 : W.cell? ⟨b9, 2, none⟩ = some (.int .i64 n) := E.i9.facts.1.2.2
  have q0 : W.cell? ⟨b12, 0, none⟩ = some (.int .i64 (s.pt P).seg) := E.p12.facts.1.1
  have q1 : W.cell? ⟨b12, 1, none⟩ = some (.int .i64 (s.pt P).off) := E.p12.facts.1.2.1
  have q2 : W.cell? ⟨b12, 2, none⟩ = some (.int .i64 (s.pt P).ring) := E.p12.facts.1.2.2
  have g0 : W.cell? ⟨b14, 0, none⟩ = some (.bool g.is) := E.g14.cell 0
  have g1 : W.cell? ⟨b14, 1, none⟩ = some (.slice au len cp) := E.g14.cell 1
  have g2 : W.cell? ⟨b14, 2, none⟩ = some (.int .i64 g.md) := E.g14.cell 2
  have g3 : W.cell? ⟨b14, 3, none⟩ = some (.int .i64 g.r1) := E.g14.cell 3
  have g4 : W.cell? ⟨b14, 4, none⟩ = some (.int .i64 g.r2) := E.g14.cell 4
  have g5 : W.cell? ⟨b14, 5, none⟩ = some (.int .i64 g.r3) := E.g14.cell 5
  have g6 : W.cell? ⟨b14, 6, none⟩ = some (.int .i64 g.g) := E.g14.cell 6
  have HY : Hid (blk4 W b5 45 (.bool false) (.int .i64 0) (.int .i64 0) (.int .i64 0)) := E.z5
  have HZ : Hid (rsAt W b4 St.zero (.slice none 0 0)) := E.z4
  have HD := Lib.hid E.d
  replace E := Lib.hid E
  conv => arg 2; whnf
  go_wp2_with (first | ((with_reducible refine wpList_load_rs (op := ⟨some 264, .load 39 (.tmp 2), _, _, _, _⟩) (N := b2) (s := s) (stk := (.slice ad n' c)) ?_ (.tmp 2) ?_ ?_ ?_ ?_); exact rfl; exact rfl; exact rfl; exact rs_range E.out.s2) | ((with_reducible refine wpList_load_rs (op := ⟨some 265, .load 39 (.tmp 11), _, _, _, _⟩) (N := b11) (s := t) (stk := (.slice ad n' c)) ?_ (.tmp 11) ?_ ?_ ?_ ?_); exact rfl; exact rfl; exact rfl; exact rs_range E.out.t11) | (go_at_call 49; refine hc.out.mono ?_; rintro e w1 ⟨rfl, hb1⟩; have HB := Lib.hid hb1; replace HY : Hid (blk4 w1 b5 45 (.bool false) (.int .i64 0) (.int .i64 0) (.int .i64 0)) := Off.keeps (.of_below (ex := fun _ => False) hb1) HY.out id; replace HZ : Hid (rsAt w1 b4 St.zero (.slice none 0 0)) := Off.keeps (.of_below (ex := fun _ => False) hb1) HZ.out id; have HT : Hid (rsAt w1 b11 t (.slice ad n' c)) := Off.keeps (.of_below (ex := fun _ => False) hb1) E.out.t11 id; clear hb1; (try dsimp only)) | ((with_reducible refine wpList_store_rs (op := ⟨none, .store 39 (.tmp 11) (.tmp 271), _, _, _, _⟩) (N := b11) (s := t) (stk := (.slice ad n' c)) (s' := St.zero) (stk' := (.slice none 0 0)) ?_ (.tmp 11) (.tmp 271) ?_ ?_ ?_ ?_ ?_ ?_); exact rfl; exact rfl; exact rfl; exact rfl; exact HT.out; exact rfl; intro w2 S2 F2; replace HY : Hid (blk4 w2 b5 45 (.bool false) (.int .i64 0) (.int .i64 0) (.int .i64 0)) := Off.keeps F2 HY.out (by have := HD.out; omega); replace HZ : Hid (rsAt w2 b4 St.zero (.slice none 0 0)) := Off.keeps F2 HZ.out (by have := HD.out; omega); replace F2 := Lib.hid F2; clear S2) | ((with_reducible refine wpList_store_rs (op := ⟨none, .store 39 (.tmp 4) (.tmp 275), _, _, _, _⟩) (N := b4) (s := St.zero) (stk := (.slice none 0 0)) (s' := St.zero) (stk' := (.slice none 0 0)) ?_ (.tmp 4) (.tmp 275) ?_ ?_ ?_ ?_ ?_ ?_); exact rfl; exact rfl; exact rfl; exact rfl; exact HZ.out; exact rfl; intro w9 S1 F1; have Y1 : Hid (blk4 w9 b5 45 (.bool false) (.int .i64 0) (.int .i64 0) (.int .i64 0)) := Off.keeps F1 HY.out (by have := HD.out; omega); have y0 : w9.cell? ⟨b5, 0, none⟩ = some (.bool false) := Y1.out.cell 0; have y1 : w9.cell? ⟨b5, 1, none⟩ = some (.int .i64 0) := Y1.out.cell 1; have y2 : w9.cell? ⟨b5, 2, none⟩ = some (.int .i64 0) := Y1.out.cell 2; have y3 : w9.cell? ⟨b5, 3, none⟩ = some (.int .i64 0) := Y1.out.cell 3; have yf : ∀ j, w9.frozen? ⟨b5, j, none⟩ = false := fun j => Y1.out.free j; replace S1 := Lib.hid S1; replace F1 := Lib.hid F1))
  exact (out4 S1.out F1.out Y1.out HD.out.2.1 false 0 0 0).q HB.out F2.out
set_option maxHeartbeats 8000000 in
theorem sw20 {W : World} {b2 b4 b5 b9 b11 b12 b14 n' c P : Nat} {ad : Option Addr} {s t : St} {n : Int} {g : Sg} {u mv : Value} {v0 v3 aO aP aQ aR aS aT aU aV aW aX aa ab ac ae af ag ah ai aj ak al am an ao ap aq ar av aw ax ay az aA aB aC aD aE aF aG aH aI aJ aK aL aY aZ a0 a1 a3 a4 a5 a6 a7 a8 a9 ba bb bc bd be bf bg bh bi bj bk bm bn bo bp bq br bs bt bu bv bw bx bz bA bB bC bD bE bF bG bH bI bJ bK bL bM bN bO bP bQ bR bS bT bU bV bW bX bY bZ b0 b3 b6 b7 b8 ca cb cc cd cg ch ci cj ck cl cm cn co cq cr cv cw cx cy cz cA cB cC cD cE cF cG cH cI cJ cK cL cM cN cO cP cQ cR cS cT cU cV cW cX cY cZ c0 c1 c3 c4 c5 c6 c7 c8 c9 da db dc dd de df dg dh di dj dk dl dm dn dp dq dr ds dt du dv dw dx dy dz dA dB dC dD dE dF dG dH dI dJ dK dL dM dN dO dP dQ dR dS dT dU dV dW dX dY dZ d0 d1 d2 d3 d4 d5 d6 d7 d8 d9 ea ec ed ee ef eg eh ei ej ek el em en eo ep eq es et eu ev ew ey ez eA eB eC eD eE eF eG eH eI eJ eK eL eM eN eO eP eQ eR eS eT eU eV eW eX eY eZ e0 e1 e2 e3 e4 e5 e6 e7 e8 e9 fa fb fc fd fe ff fg fh fi fj fk fl fm fn fo fp fq fr fs ft fu fv fw fx fy fz fA fB fC fD fE fF fG fH fI aM aN : Value} {Q : Exit → Act → World → Prop} (len cp : Nat) (au : Option Addr) (hu : u = .slice au len cp) (t2 : St) (l2 : List Fr) (E : SE W b2 b4 b5 b9 b11 b12 b14 s t (.slice ad n' c) 20 n P g u) (hc : Calls Try.prog 49 #[.agg (stC s (.slice ad n' c)), .agg (stC t (.slice ad n' c)), .agg #[.bool g.is, u, .int .i64 g.md, .int .i64 g.r1, .int .i64 g.r2, .int .i64 g.r3, .int .i64 g.g], .agg #[.int .i64 (s.pt P).seg, .int .i64 (s.pt P).off, .int .i64 (s.pt P).ring], .agg #[.int .i64 20, .int .i64 (P : Int), .int .i64 n], .int .i64 (s.eb (P : Int))] W fun e w' => ∃ v, e = .returned (.tuple #[.agg (stC t2 v), .int .i64 0]) ∧ rstkAt w' v l2 ∧ Below W.heap.size W w')
    (hQ : ∀ (fJ fK fL fM fN fO fP fQ fR fS fT fU fV fW fX fY fZ f3 f4 f5 f6 f7 f8 f9 ga gb gc gd ge gf gg gh gi gj gk gl gm gn gp gq gr gt gu gv gw gx gy gz gA gB gC gD gE gF gG gH gI gJ gK gL gM gN gO gP gQ gR gS gT gU gV gW gX gY gZ g7 g9 ha hd hi ho hp hs ht hv hw hy hA hC hD hE hG hH hI hJ hL hM hN hO hP hR hS hT hU hV hW hX h1 h6 h7 h9 ia ib ic ie ig ih ii ij ik il im io ip iq ir it iu iv iw ix iy iz iA iB iC iD iE iG iH iI iJ iK iL iM iN iO iP iQ iR iS iT iU iV iW iX iY iZ i3 i4 i5 i6 i7 i8 ja jb jc jd je jf jg jh ji jj jk jl jm jn jo jp jq jr js jt ju jv jw jx jy jz jA jB jC jD jE jF jG jH jI jJ jK jL jM jN jO jP jQ jR jS jT jU jV jW jX jY jZ j0 j1 j2 j3 j4 j5 j6 j7 j8 j9 ka kb kc kd ke kf kg kh ki kj kk kl km kn ko kp kq kr ks kt ku kv kw kx ky kz kA kB kC kD kE kF kG kH kI kJ kK kL kM kN kO kP kQ kR kS kT kU kV kW kX kY kZ k3 k4 k6 k7 k8 k9 la lb lc : Value) (W' : World) (v : Value), T20 W W' b11 t2 v l2 → (∃ ad n c, v = .slice ad n c) → Q .normal ⟨(v0::mv::(.pointer (some ⟨b2, 0, none⟩))::v3::(.pointer (some ⟨b4, 0, none⟩))::(.pointer (some ⟨b5, 0, none⟩))::(.int .i64 0)::(.bool false)::(.int .i64 0)::(.pointer (some ⟨b9, 0, none⟩))::fJ::(.pointer (some ⟨b11, 0, none⟩))::(.pointer (some ⟨b12, 0, none⟩))::(.int .i64 (s.eb (P : Int)))::(.pointer (some ⟨b14, 0, none⟩))::fK::fL::fM::fN::fO::fP::fQ::fR::fS::aa::ab::ac::ae::af::ag::ah::ai::aj::ak::al::am::an::ao::ap::aq::ar::av::aw::ax::ay::az::aA::aB::aC::aD::aE::aF::aG::aH::aI::aJ::aK::aL::fT::fU::fV::fW::fX::fY::fZ::f3::f4::f5::f6::f7::f8::f9::ga::gb::gc::gd::ge::gf::gg::gh::gi::gj::gk::gl::gm::gn::gp::gq::gr::gt::gu::gv::gw::gx::gy::gz::gA::gB::gC::gD::gE::gF::gG::gH::gI::gJ::gK::gL::gM::gN::gO::gP::gQ::gR::gS::gT::gU::gV::gW::gX::gY::gZ::g7::g9::ha::hd::hi::ho::hp::hs::ht::hv::hw::hy::hA::hC::hD::hE::hG::hH::hI::hJ::hL::hM::hN::hO::hP::hR::hS::hT::hU::hV::hW::hX::h1::h6::h7::h9::ia::ib::ic::ie::ig::ih::ii::ij::ik::il::im::io::ip::iq::ir::it::iu::iv::iw::ix::iy::iz::iA::iB::iC::iD::iE::iG::iH::iI::iJ::iK::iL::iM::iN::iO::iP::iQ::iR::iS::iT::iU::iV::iW::iX::iY::iZ::i3::i4::i5::i6::i7::i8::ja::jb::jc::jd::je::jf::jg::jh::ji::jj::jk::jl::jm::jn::jo::jp::jq::jr::js::jt::ju::jv::jw::jx::jy::jz::jA::jB::jC::jD::jE::jF::jG::jH::jI::jJ::jK::jL::jM::jN::jO::jP::jQ::jR::jS::jT::jU::jV::jW::jX::jY::jZ::j0::j1::j2::j3::j4::j5::j6::j7::j8::j9::ka::kb::kc::kd::ke::kf::kg::kh::ki::kj::kk::kl::km::kn::ko::kp::kq::kr::ks::kt::ku::kv::kw::kx::ky::kz::kA::kB::kC::kD::kE::kF::kG::kH::kI::kJ::kK::kL::kM::kN::kO::kP::kQ::kR::kS::kT::kU::kV::kW::kX::kY::kZ::k3::k4::k6::k7::k8::k9::la::lb::lc::aM::aN::[]).toArray, []⟩ W') : Code.wp Try.prog sw Q ⟨(v0::mv::(.pointer (some ⟨b2, 0, none⟩))::v3::(.pointer (some ⟨b4, 0, none⟩))::(.pointer (some ⟨b5, 0, none⟩))::(.int .i64 0)::(.bool false)::(.int .i64 0)::(.pointer (some ⟨b9, 0, none⟩))::aO::(.pointer (some ⟨b11, 0, none⟩))::(.pointer (some ⟨b12, 0, none⟩))::(.int .i64 (s.eb (P : Int)))::(.pointer (some ⟨b14, 0, none⟩))::aP::aQ::aR::aS::aT::aU::aV::aW::aX::aa::ab::ac::ae::af::ag::ah::ai::aj::ak::al::am::an::ao::ap::aq::ar::av::aw::ax::ay::az::aA::aB::aC::aD::aE::aF::aG::aH::aI::aJ::aK::aL::aY::aZ::a0::a1::a3::a4::a5::a6::a7::a8::a9::ba::bb::bc::bd::be::bf::bg::bh::bi::bj::bk::bm::bn::bo::bp::bq::br::bs::bt::bu::bv::bw::bx::bz::bA::bB::bC::bD::bE::bF::bG::bH::bI::bJ::bK::bL::bM::bN::bO::bP::bQ::bR::bS::bT::bU::bV::bW::bX::bY::bZ::b0::b3::b6::b7::b8::ca::cb::cc::cd::cg::ch::ci::cj::ck::cl::cm::cn::co::cq::cr::cv::cw::cx::cy::cz::cA::cB::cC::cD::cE::cF::cG::cH::cI::cJ::cK::cL::cM::cN::cO::cP::cQ::cR::cS::cT::cU::cV::cW::cX::cY::cZ::c0::c1::c3::c4::c5::c6::c7::c8::c9::da::db::dc::dd::de::df::dg::dh::di::dj::dk::dl::dm::dn::dp::dq::dr::ds::dt::du::dv::dw::dx::dy::dz::dA::dB::dC::dD::dE::dF::dG::dH::dI::dJ::dK::dL::dM::dN::dO::dP::dQ::dR::dS::dT::dU::dV::dW::dX::dY::dZ::d0::d1::d2::d3::d4::d5::d6::d7::d8::d9::ea::ec::ed::ee::ef::eg::eh::ei::ej::ek::el::em::en::eo::ep::eq::es::et::eu::ev::ew::ey::ez::eA::eB::eC::eD::eE::eF::eG::eH::eI::eJ::eK::eL::eM::eN::eO::eP::eQ::eR::eS::eT::eU::eV::eW::eX::eY::eZ::e0::e1::e2::e3::e4::e5::e6::e7::e8::e9::fa::fb::fc::fd::fe::ff::fg::fh::fi::fj::fk::fl::fm::fn::fo::fp::fq::fr::fs::ft::fu::fv::fw::fx::fy::fz::fA::fB::fC::fD::fE::fF::fG::fH::fI::aM::aN::[]).toArray, []⟩ W := by
  have i0 : W.cell? ⟨b9, 0, none⟩ = some (.int .i64 20) := E.i9.facts.1.1
  subst hu
  replace hc := Lib.hid hc
  have i1 : W.cell? ⟨b9, 1, none⟩ = some (.int .i64 (P : Int)) := E.i9.facts.1.2.1
  have i2 : W.cell? ⟨b9, 2, none⟩ = some (.int .i64 n) := E.i9.facts.1.2.2
  have q0 : W.cell? ⟨b12, 0, none⟩ = some (.int .i64 (s.pt P).seg) := E.p12.facts.1.1
  have q1 : W.cell? ⟨b12, 1, none⟩ = some (.int .i64 (s.pt P).off) := E.p12.facts.1.2.1
  have q2 : W.cell? ⟨b12, 2, none⟩ = some (.int .i64 (s.pt P).ring) := E.p12.facts.1.2.2
  have g0 : W.cell? ⟨b14, 0, none⟩ = some (.bool g.is) := E.g14.cell 0
  have g1 : W.cell? ⟨b14, 1, none⟩ = some (.slice au len cp) := E.g14.cell 1
  have g2 : W.cell? ⟨b14, 2, none⟩ = some (.int .i64 g.md) := E.g14.cell 2
  have g3 : W.cell? ⟨b14, 3, none⟩ = some (.int .i64 g.r1) := E.g14.cell 3
  have g4 : W.cell? ⟨b14, 4, none⟩ = some (.int .i64 g.r2) := E.g14.cell 4
  have g5 : W.cell? ⟨b14, 5, none⟩ = some (.int .i64 g.r3) := E.g14.cell 5
  have g6 : W.cell? ⟨b14, 6, none⟩ = some (.int .i64 g.g) := E.g14.cell 6
  have HY : Hid (blk4 W b5 45 (.bool false) (.int .i64 0) (.int .i64 0) (.int .i64 0)) := E.z5
  have HZ : Hid (rsAt W b4 St.zero (.slice none 0 0)) := E.z4
  have HD := Lib.hid E.d
  replace E := Lib.hid E
  conv => arg 2; whnf
  go_wp2_with (first | ((with_reducible refine wpList_load_rs (op := ⟨some 264, .load 39 (.tmp 2), _, _, _, _⟩) (N := b2) (s := s) (stk := (.slice ad n' c)) ?_ (.tmp 2) ?_ ?_ ?_ ?_); exact rfl; exact rfl; exact rfl; exact rs_range E.out.s2) | ((with_reducible refine wpList_load_rs (op := ⟨some 265, .load 39 (.tmp 11), _, _, _, _⟩) (N := b11) (s := t) (stk := (.slice ad n' c)) ?_ (.tmp 11) ?_ ?_ ?_ ?_); exact rfl; exact rfl; exact rfl; exact rs_range E.out.t11) | (go_at_call 49; refine hc.out.mono ?_; rintro e w1 ⟨v, rfl, hk2, hb1⟩; obtain ⟨a2, c2, hq, _, _⟩ := row_shape hk2; subst hq; have HK := Lib.hid hk2; have HB := Lib.hid hb1; have HT : Hid (rsAt w1 b11 t (.slice ad n' c)) := Off.keeps (.of_below (ex := fun _ => False) hb1) E.out.t11 id; clear hb1 hk2; (try dsimp only)) | ((with_reducible refine wpList_store_rs (op := ⟨none, .store 39 (.tmp 11) (.tmp 271), _, _, _, _⟩) (N := b11) (s := t) (stk := (.slice ad n' c)) (s' := t2) (stk' := (.slice a2 l2.length c2)) ?_ (.tmp 11) (.tmp 271) ?_ ?_ ?_ ?_ ?_ ?_); exact rfl; exact rfl; exact rfl; exact rfl; exact HT.out; exact rfl; intro w2 S2 F2; have HK2 : Hid (rstkAt w2 (.slice a2 l2.length c2) l2) := Off.row F2 HK.out (rs_not HT.out _ (by decide)); replace F2 := Lib.hid F2; replace S2 := Lib.hid S2))
  exact hQ _ _ _ _ _ _ _ _ _ _ _ _ _ _ _ _ _ _ _ _ _ _ _ _ _ _ _ _ _ _ _ _ _ _ _ _ _ _ _ _ _ _ _ _ _ _ _ _ _ _ _ _ _ _ _ _ _ _ _ _ _ _ _ _ _ _ _ _ _ _ _ _ _ _ _ _ _ _ _ _ _ _ _ _ _ _ _ _ _ _ _ _ _ _ _ _ _ _ _ _ _ _ _ _ _ _ _ _ _ _ _ _ _ _ _ _ _ _ _ _ _ _ _ _ _ _ _ _ _ _ _ _ _ _ _ _ _ _ _ _ _ _ _ _ _ _ _ _ _ _ _ _ _ _ _ _ _ _ _ _ _ _ _ _ _ _ _ _ _ _ _ _ _ _ _ _ _ _ _ _ _ _ _ _ _ _ _ _ _ _ _ _ _ _ _ _ _ _ _ _ _ _ _ _ _ _ _ _ _ _ _ _ _ _ _ _ _ _ _ _ _ _ _ _ _ _ _ _ _ _ _ _ _ _ _ _ _ _ _ _ _ _ _ _ _ _ _ _ _ _ _ _ _ _ _ _ _ _ _ _ _ _ _ _ _ _ _ _ _ _ _ _ _ _ _ _ _ _ _ _ _ _ _ _ _ _ _ _ ⟨S2.out, (Off.of_below HB.out).trans F2.out, HK2.out⟩ ⟨_, _, _, rfl⟩
end Go.Proofs.Ytiakonmamkfopaa
namespace Go.Proofs.Ytiakonmamkfopaa
open Go.RowKit Go.ChangeShapes
set_option linter.unusedVariables false
set_option maxRecDepth 1000000
set_option maxHeartbeats 8000000 in
theorem sw21b {W : World} {b2 b4 b5 b9 b11 b12 b14 n' c P : Nat} {ad : Option Addr} {s t : St} {n : Int} {g : Sg} {u mv : Value} {v0 v3 aO aP aQ aR aS aT aU aV aW aX aa ab ac ae af ag ah ai aj ak al am an ao ap aq ar av aw ax ay az aA aB aC aD aE aF aG aH aI aJ aK aL aY aZ a0 a1 a3 a4 a5 a6 a7 a8 a9 ba bb bc bd be bf bg bh bi bj bk bm bn bo bp bq br bs bt bu bv bw bx bz bA bB bC bD bE bF bG bH bI bJ bK bL bM bN bO bP bQ bR bS bT bU bV bW bX bY bZ b0 b3 b6 b7 b8 ca cb cc cd cg ch ci cj ck cl cm cn co cq cr cv cw cx cy cz cA cB cC cD cE cF cG cH cI cJ cK cL cM cN cO cP cQ cR cS cT cU cV cW cX cY cZ c0 c1 c3 c4 c5 c6 c7 c8 c9 da db dc dd de df dg dh di dj dk dl dm dn dp dq dr ds dt du dv dw dx dy dz dA dB dC dD dE dF dG dH dI dJ dK dL dM dN dO dP dQ dR dS dT dU dV dW dX dY dZ d0 d1 d2 d3 d4 d5 d6 d7 d8 d9 ea ec ed ee ef eg eh ei ej ek el em en eo ep eq es et eu ev ew ey ez eA eB eC eD eE eF eG eH eI eJ eK eL eM eN eO eP eQ eR eS eT eU eV eW eX eY eZ e0 e1 e2 e3 e4 e5 e6 e7 e8 e9 fa fb fc fd fe ff fg fh fi fj fk fl fm fn fo fp fq fr fs ft fu fv fw fx fy fz fA fB fC fD fE fF fG fH fI aM aN : Value} {Q : Exit → Act → World → Prop} (l : List Fr) (f : Fr) (k : Nat) (E : SE W b2 b4 b5 b9 b11 b12 b14 s t (.slice ad n' c) 21 n P g u) (hk : rstkAt W (.slice ad n' c) l) (hn : n' = k + 1) (hl : l.length = k + 1) (hf : l[k]? = some f) (hkb : k < 100000) (hr : f.ring < s.ring)
    (hQ : ∀ (fJ fK fL fM fN fO fP fQ fR fS fT fU fV fW fX fY fZ f3 f4 f5 f6 f7 f8 f9 ga gb gc gd ge gf gg gh gi gj gk gl gm gn gp gq gr gt gu gv gw gx gy gz gA gB gC gD gE gF gG gH gI gJ gK gL gM gN gO gP gQ gR gS gT gU gV gW gX gY gZ g7 g9 ha hd hi ho hp hs ht hv hw hy hA hC hD hE hG hH hI hJ hL hM hN hO hP hR hS hT hU hV hW hX h1 h6 h7 h9 ia ib ic ie ig ih ii ij ik il im io ip iq ir it iu iv iw ix iy iz iA iB iC iD iE iG iH iI iJ iK iL iM iN iO iP iQ iR iS iT iU iV iW iX iY iZ i3 i4 i5 i6 i7 i8 ja jb jc jd je jf jg jh ji jj jk jl jm jn jo jp jq jr js jt ju jv jw jx jy jz jA jB jC jD jE jF jG jH jI jJ jK jL jM jN jO jP jQ jR jS jT jU jV jW jX jY jZ j0 j1 j2 j3 j4 j5 j6 j7 j8 j9 ka kb kc kd ke kf kg kh ki kj kk kl km kn ko kp kq kr ks kt ku kv kw kx ky kz kA kB kC kD kE kF kG kH kI kJ kK kL kM kN kO kP kQ kR kS kT kU kV kW kX kY kZ k3 k4 k6 k7 k8 k9 la lb lc : Value) (W' : World), OutP W W' b4 b5 St.zero (.slice none 0 0) false 0 0 0 → Q .ret ⟨(v0::mv::(.pointer (some ⟨b2, 0, none⟩))::v3::(.pointer (some ⟨b4, 0, none⟩))::(.pointer (some ⟨b5, 0, none⟩))::(.int .i64 0)::(.bool false)::(.int .i64 34)::(.pointer (some ⟨b9, 0, none⟩))::fJ::(.pointer (some ⟨b11, 0, none⟩))::(.pointer (some ⟨b12, 0, none⟩))::(.int .i64 (s.eb (P : Int)))::(.pointer (some ⟨b14, 0, none⟩))::fK::fL::fM::fN::fO::fP::fQ::fR::fS::aa::ab::ac::ae::af::ag::ah::ai::aj::ak::al::am::an::ao::ap::aq::ar::av::aw::ax::ay::az::aA::aB::aC::aD::aE::aF::aG::aH::aI::aJ::aK::aL::fT::fU::fV::fW::fX::fY::fZ::f3::f4::f5::f6::f7::f8::f9::ga::gb::gc::gd::ge::gf::gg::gh::gi::gj::gk::gl::gm::gn::gp::gq::gr::gt::gu::gv::gw::gx::gy::gz::gA::gB::gC::gD::gE::gF::gG::gH::gI::gJ::gK::gL::gM::gN::gO::gP::gQ::gR::gS::gT::gU::gV::gW::gX::gY::gZ::g7::g9::ha::hd::hi::ho::hp::hs::ht::hv::hw::hy::hA::hC::hD::hE::hG::hH::hI::hJ::hL::hM::hN::hO::hP::hR::hS::hT::hU::hV::hW::hX::h1::h6::h7::h9::ia::ib::ic::ie::ig::ih::ii::ij::ik::il::im::io::ip::iq::ir::it::iu::iv::iw::ix::iy::iz::iA::iB::iC::iD::iE::iG::iH::iI::iJ::iK::iL::iM::iN::iO::iP::iQ::iR::iS::iT::iU::iV::iW::iX::iY::iZ::i3::i4::i5::i6::i7::i8::ja::jb::jc::jd::je::jf::jg::jh::ji::jj::jk::jl::jm::jn::jo::jp::jq::jr::js::jt::ju::jv::jw::jx::jy::jz::jA::jB::jC::jD::jE::jF::jG::jH::jI::jJ::jK::jL::jM::jN::jO::jP::jQ::jR::jS::jT::jU::jV::jW::jX::jY::jZ::j0::j1::j2::j3::j4::j5::j6::j7::j8::j9::ka::kb::kc::kd::ke::kf::kg::kh::ki::kj::kk::kl::km::kn::ko::kp::kq::kr::ks::kt::ku::kv::kw::kx::ky::kz::kA::kB::kC::kD::kE::kF::kG::kH::kI::kJ::kK::kL::kM::kN::kO::kP::kQ::kR::kS::kT::kU::kV::kW::kX::kY::kZ::k3::k4::k6::k7::k8::k9::la::lb::lc::aM::aN::[]).toArray, []⟩ W') : Code.wp Try.prog sw Q ⟨(v0::mv::(.pointer (some ⟨b2, 0, none⟩))::v3::(.pointer (some ⟨b4, 0, none⟩))::(.pointer (some ⟨b5, 0, none⟩))::(.int .i64 0)::(.bool false)::(.int .i64 0)::(.pointer (some ⟨b9, 0, none⟩))::aO::(.pointer (some ⟨b11, 0, none⟩))::(.pointer (some ⟨b12, 0, none⟩))::(.int .i64 (s.eb (P : Int)))::(.pointer (some ⟨b14, 0, none⟩))::aP::aQ::aR::aS::aT::aU::aV::aW::aX::aa::ab::ac::ae::af::ag::ah::ai::aj::ak::al::am::an::ao::ap::aq::ar::av::aw::ax::ay::az::aA::aB::aC::aD::aE::aF::aG::aH::aI::aJ::aK::aL::aY::aZ::a0::a1::a3::a4::a5::a6::a7::a8::a9::ba::bb::bc::bd::be::bf::bg::bh::bi::bj::bk::bm::bn::bo::bp::bq::br::bs::bt::bu::bv::bw::bx::bz::bA::bB::bC::bD::bE::bF::bG::bH::bI::bJ::bK::bL::bM::bN::bO::bP::bQ::bR::bS::bT::bU::bV::bW::bX::bY::bZ::b0::b3::b6::b7::b8::ca::cb::cc::cd::cg::ch::ci::cj::ck::cl::cm::cn::co::cq::cr::cv::cw::cx::cy::cz::cA::cB::cC::cD::cE::cF::cG::cH::cI::cJ::cK::cL::cM::cN::cO::cP::cQ::cR::cS::cT::cU::cV::cW::cX::cY::cZ::c0::c1::c3::c4::c5::c6::c7::c8::c9::da::db::dc::dd::de::df::dg::dh::di::dj::dk::dl::dm::dn::dp::dq::dr::ds::dt::du::dv::dw::dx::dy::dz::dA::dB::dC::dD::dE::dF::dG::dH::dI::dJ::dK::dL::dM::dN::dO::dP::dQ::dR::dS::dT::dU::dV::dW::dX::dY::dZ::d0::d1::d2::d3::d4::d5::d6::d7::d8::d9::ea::ec::ed::ee::ef::eg::eh::ei::ej::ek::el::em::en::eo::ep::eq::es::et::eu::ev::ew::ey::ez::eA::eB::eC::eD::eE::eF::eG::eH::eI::eJ::eK::eL::eM::eN::eO::eP::eQ::eR::eS::eT::eU::eV::eW::eX::eY::eZ::e0::e1::e2::e3::e4::e5::e6::e7::e8::e9::fa::fb::fc::fd::fe::ff::fg::fh::fi::fj::fk::fl::fm::fn::fo::fp::fq::fr::fs::ft::fu::fv::fw::fx::fy::fz::fA::fB::fC::fD::fE::fF::fG::fH::fI::aM::aN::[]).toArray, []⟩ W := by
  have i0 : W.cell? ⟨b9, 0, none⟩ = some (.int .i64 21) := E.i9.facts.1.1
  subst hn
  have hkm : k < 100000 := hkb
  have hk2 : W.ownsRow 0 92 3 (.slice ad (k + 1) c) (k + 1) (frC l) := by have h := hk; unfold rstkAt at h; rw [hl] at h; exact h
  obtain ⟨gs, cs, hq⟩ := row_some hk2 (by omega)
  have hq2 : ad = some ⟨gs, 0, none⟩ := by injection hq
  subst hq2
  have f0 : W.cell? ⟨gs, k * 3, none⟩ = some (.int .i64 f.seg) := (row_cell hk2 (k * 3 + 0) (by rw [frC_get l k f hf 0 (by decide)]; rfl)).2
  have f1 : W.cell? ⟨gs, k * 3 + 1, none⟩ = some (.int .i64 f.off) := (row_cell hk2 (k * 3 + 1) (by rw [frC_get l k f hf 1 (by decide)]; rfl)).2
  have f2 : W.cell? ⟨gs, k * 3 + 2, none⟩ = some (.int .i64 f.ring) := (row_cell hk2 (k * 3 + 2) (by rw [frC_get l k f hf 2 (by decide)]; rfl)).2
  have s16 : W.cell? ⟨b2, 16, none⟩ = some (.slice (some ⟨gs, 0, none⟩) (k + 1) c) := E.s2.cell 16
  have s2r : W.cell? ⟨b2, 2, none⟩ = some (.int .i64 s.ring) := E.s2.cell 2
  have hz : ((k : Int) + 1 == 0) = false := by simp; omega
  have hb2 : b2 < W.heap.size := E.s2.lt
  have hb4 : b4 < W.heap.size := E.z4.lt
  have hb5 : b5 < W.heap.size := E.z5.lt
  clear hk hk2 hf
  have HY : Hid (blk4 W b5 45 (.bool false) (.int .i64 0) (.int .i64 0) (.int .i64 0)) := E.z5
  have HZ : Hid (rsAt W b4 St.zero (.slice none 0 0)) := E.z4
  have HD := Lib.hid E.d
  replace E := Lib.hid E
  conv => arg 2; whnf
  go_upto_region 60 with fail
  obtain ⟨w1, hw1, HB⟩ : ∃ X, W.alloc (.cells #[.int .i64 f.seg, .int .i64 f.off, .int .i64 f.ring] 92) = X ∧ Hid (Below W.heap.size W X) := ⟨_, rfl, below_al0 _ _⟩
  rw [hw1]
  clear hw1
  replace HY : Hid (blk4 w1 b5 45 (.bool false) (.int .i64 0) (.int .i64 0) (.int .i64 0)) := Off.keeps (.of_below (ex := fun _ => False) HB.out) HY.out id
  replace HZ : Hid (rsAt w1 b4 St.zero (.slice none 0 0)) := Off.keeps (.of_below (ex := fun _ => False) HB.out) HZ.out id
  go_wp2_with (first | ((with_reducible refine wpList_store_rs (op := ⟨none, .store 39 (.tmp 4) (.tmp 301), _, _, _, _⟩) (N := b4) (s := St.zero) (stk := (.slice none 0 0)) (s' := St.zero) (stk' := (.slice none 0 0)) ?_ (.tmp 4) (.tmp 301) ?_ ?_ ?_ ?_ ?_ ?_); exact rfl; exact rfl; exact rfl; exact rfl; exact HZ.out; exact rfl; intro w9 S1 F1; have Y1 : Hid (blk4 w9 b5 45 (.bool false) (.int .i64 0) (.int .i64 0) (.int .i64 0)) := Off.keeps F1 HY.out (by have := HD.out; omega); have y0 : w9.cell? ⟨b5, 0, none⟩ = some (.bool false) := Y1.out.cell 0; have y1 : w9.cell? ⟨b5, 1, none⟩ = some (.int .i64 0) := Y1.out.cell 1; have y2 : w9.cell? ⟨b5, 2, none⟩ = some (.int .i64 0) := Y1.out.cell 2; have y3 : w9.cell? ⟨b5, 3, none⟩ = some (.int .i64 0) := Y1.out.cell 3; have yf : ∀ j, w9.frozen? ⟨b5, j, none⟩ = false := fun j => Y1.out.free j; replace S1 := Lib.hid S1; replace F1 := Lib.hid F1))
  exact (out4 S1.out F1.out Y1.out HD.out.2.1 false 0 0 0).pre HB.out
end Go.Proofs.Ytiakonmamkfopaa
