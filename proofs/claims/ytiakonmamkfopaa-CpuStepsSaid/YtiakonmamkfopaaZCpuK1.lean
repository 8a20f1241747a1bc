/- The processor's run: a call goes through, by pointer 1. -/
import Derived.Test.YtiakonmamkfopaaZTk
import Derived.Test.YtiakonmamkfopaaZCpuK
namespace Go.Proofs.Ytiakonmamkfopaa
open Go.RowKit Go.ChangeShapes
set_option linter.unusedVariables false
set_option maxRecDepth 100000
set_option maxHeartbeats 2000000 in
theorem c_call_ok1 (w : World) (B R Y : Nat) (s : St) (stk : Value) (told : Bool) (out : Int) (M : List Sg) (op n : Int) (hr : runAt w R s stk (memV Y) told out) (hm : MemOk w B Y M) (g : Sg) (off by_ : Int) (hk : seg? M (s.pt (1 : Int).toNat).seg = some g) (hoff : IntKind.i64.wrap ((s.pt (1 : Int).toNat).off + n) = off) (hby : max (s.pt (1 : Int).toNat).ring s.ring = by_) (l : List Fr) (hs : stkAt w stk l) (hq : g.has 4 = true) (hE1 : callE g.r1 g.r2 g.r3 g.g off by_ = 0) (hi : 0 ≤ off ∧ off < g.ws.length) (hl : l.length < 8) :
    Calls Try.prog 64 #[.pointer (some ⟨R, 0, none⟩), .agg #[.int .i64 op, .int .i64 1, .int .i64 n]] w fun e w' => ∃ stk', e = .returned (.tuple #[]) ∧ runAt w' R { (s.raise s.ring) with seg := (s.pt (1 : Int).toNat).seg, off := off, ring := callTo g.r1 g.r2 g.r3 g.g off by_ } stk' (memV Y) told out ∧ stkAt w' stk' (l ++ [⟨s.seg, s.off, s.ring⟩]) ∧ Off (· = R) w w' := by
  have hi : decide (0 ≤ off ∧ off < (g.ws.length : Int)) = true := decide_eq_true hi
  have hl1 : (l.length : Int) < 8 := by omega
  obtain ⟨ads, ncap, hv, h0n, _⟩ := row_shape hs
  subst hv
  have hcap : l.length ≤ ncap := by
    cases ads with
    | none => have := h0n rfl; omega
    | some a => obtain ⟨g1, _, hv1⟩ : ∃ g1 c, Value.slice (some a) l.length ncap = .slice (some ⟨g1, 0, none⟩) l.length c := by
                  rcases hs.2 with ⟨hv, _⟩ | ⟨g1, c1, _, hv, _⟩
                  · cases hv
                  · exact ⟨g1, c1, hv⟩
                cases hv1
                exact row_cap hs
  have HC := Lib.hid hcap
  have HN := Lib.hid h0n
  have HS := Lib.hid hs
  have hRw := hr.lt
  clear hcap h0n hs
  go_enter Try.func64, Try.ntmps64
  go_wp2_with fail
  obtain ⟨W0, hW, b0, hb, hsz⟩ := w_start w op 1 n
  rw [hW]
  have hr0 := hr.below hb
  have hm0 := hm.below hb
  have HB := Lib.hid hb
  have C0 := Lib.hid b0
  clear hW hr hm hb b0
  have hr1 := Lib.hid hr0
  have hm1 := Lib.hid hm0
  refine (c_at_some W0 B R Y s _ told out M op 1 n g (by decide) (by decide) hr0 hm0 hk).mono ?_
  rintro e w1 ⟨u', rfl, ho, hb⟩
  obtain ⟨ad, cap, hv, had, hda⟩ := row_shape ho
  subst hv
  rw [hoff, hby]
  have C0 := Lib.hid (C0.out.off (Off.of_below (ex := fun _ => False) hb) id)
  have hr1 := Lib.hid (hr1.out.below hb)
  have hm1 := Lib.hid (hm1.out.below hb)
  have HB := Lib.hid (below2 HB.out hb)
  clear hb ho hr0 hm0 hk hsz hoff hby had hda
  unfold sgV
  unfold Sg.has at hq
  have x0 := Lib.hid (blk6.new w1 60 (.slice ad g.ws.length cap) (.int .i64 g.md) (.int .i64 g.r1) (.int .i64 g.r2) (.int .i64 g.r3) (.int .i64 g.g))
  have HA := Lib.hid (below_al0 w1 (.cells #[.slice ad g.ws.length cap, .int .i64 g.md, .int .i64 g.r1, .int .i64 g.r2, .int .i64 g.r3, .int .i64 g.g] 60))
  go_wp2_with (first | (go_at_call 84; refine (c_Call _ _ _ _ _ _ _).mono ?_; rintro e w2 ⟨rfl, hb2⟩; rw [hE1]; have x1 := Lib.hid (x0.out.below hb2); obtain ⟨⟨r0, r1, r2, r3, r4, r5⟩, rf⟩ := x1.out.facts; have hr2 := Lib.hid ((hr1.out.below HA.out).below hb2); have hb2 := Lib.hid (below2 HA.out hb2)) | (go_at_call 69; refine (c_in _ _ _ _ _ _ _ _ _ _).mono ?_; rintro e w3 ⟨rfl, hb3⟩; rw [hi]; have hr3 := Lib.hid (hr2.out.below hb3); have r16 : w3.cell? ⟨R, 16, none⟩ = some (.slice ads l.length ncap) := hr3.out.cell 16; have hb3 := Lib.hid (below2 hb2.out hb3)) | (go_at_call 59; refine (c_must _ _ _).mono ?_; rintro e w9 ⟨rfl, rfl⟩; (first | simp only [if_true] | rw [if_pos (decide_eq_true hl1)])))
  have HR := Lib.hid hr3.out
  have C9 := Lib.hid (C0.out.below hb3.out)
  have HB9 := Lib.hid (below2 HB.out hb3.out)
  have HS9 := Lib.hid (Off.row (ex := fun _ => False) (.of_below HB9.out) HS.out (fun _ h => h.elim))
  have hR9 : R < w9.heap.size := HR.out.lt
  have hRN : ¬ w.heap.size = R := by omega
  clear hr1 hr2 hr3 hb2 hb3 x0 x1 HA hq hE1 hi hl1 r0 r1 r2 r3 r4 r5 rf HS C0 HB
  have r16' : w9.drew.cell? ⟨R, 16, none⟩ = some (.slice ads l.length ncap) := r16
  have k0 : ∀ w', RS R s (memV Y) told out w9 w' → w'.cell? ⟨R, 0, none⟩ = some (.int .i64 s.seg) := fun w' h => by obtain ⟨_, k, h⟩ := h; exact h.cell 0
  have k1 : ∀ w', RS R s (memV Y) told out w9 w' → w'.cell? ⟨R, 1, none⟩ = some (.int .i64 s.off) := fun w' h => by obtain ⟨_, k, h⟩ := h; exact h.cell 1
  have k2 : ∀ w', RS R s (memV Y) told out w9 w' → w'.cell? ⟨R, 2, none⟩ = some (.int .i64 s.ring) := fun w' h => by obtain ⟨_, k, h⟩ := h; exact h.cell 2
  obtain ⟨i0, hin, hz0, hz1, hz2⟩ := info_parts A.infoF
  refine wp_region_held_drew (S := fun w' => RS R s (memV Y) told out w9 w') (by kernel_rfl) (RS.drew (RS.refl HR.out)) (fun hHeld => ?_)
  refine tkA 0 ?_
  try simp only [Act.put, sA, sB, sC]
  refine tkA 1 ?_
  try simp only [Act.put, sA, sB, sC]
  refine tkA 2 ?_
  try simp only [Act.put, sA, sB, sC]
  refine tkA 3 ?_
  try simp only [Act.put, sA, sB, sC]
  refine tkA 4 ?_
  try simp only [Act.put, sA, sB, sC]
  refine tkA 7 ?_
  try simp only [Act.put, sA, sB, sC]
  refine tkA 8 ?_
  try simp only [Act.put, sA, sB, sC]
  refine tkA 9 ?_
  try simp only [Act.put, sA, sB, sC]
  refine tkA 10 ?_
  try simp only [Act.put, sA, sB, sC]
  refine tkA 11 ?_
  try simp only [Act.put, sA, sB, sC]
  refine tkA 12 ?_
  try simp only [Act.put, sA, sB, sC]
  refine tkA 13 ?_
  try simp only [Act.put, sA, sB, sC]
  refine tkA 14 ?_
  try simp only [Act.put, sA, sB, sC]
  refine tkA 15 ?_
  try simp only [Act.put, sA, sB, sC]
  refine tkA 16 ?_
  try simp only [Act.put, sA, sB, sC]
  refine tkA 17 ?_
  try simp only [Act.put, sA, sB, sC]
  refine tkA 18 ?_
  try simp only [Act.put, sA, sB, sC]
  refine tkA 19 ?_
  try simp only [Act.put, sA, sB, sC]
  refine tkA 20 ?_
  try simp only [Act.put, sA, sB, sC]
  refine tkA 21 ?_
  try simp only [Act.put, sA, sB, sC]
  refine tkA 22 ?_
  try simp only [Act.put, sA, sB, sC]
  refine rdB 5 23 (fun K hK => ?_) (fun K hK => ?_)
  · go_simp
    refine hK.out _ _ ?_ (fun hHeld => ?_)
    · (repeat (with_reducible first | exact HO.out | refine RS.set16 ?_ _ | refine RS.alloc ?_ _ | refine RS.drew ?_ | exact RS.refl HR.out))
    clear hK K
    try simp only [Act.put, sA, sB, sC]
    refine rdB 6 23 (fun K hK => ?_) (fun K hK => ?_)
    · go_simp
      refine (c_Clip _ _ _ _ HC.out HN.out).mono ?_
      rintro e w4 ⟨rfl, hw4⟩
      subst hw4
      go_wp2_with fail
      refine hK.out _ _ ?_ (fun hHeld => ?_)
      · (repeat (with_reducible first | exact HO.out | refine RS.set16 ?_ _ | refine RS.alloc ?_ _ | refine RS.drew ?_ | exact RS.refl HR.out))
      clear hK K
      try simp only [Act.put, sA, sB, sC]
      refine rdA 23 (fun K hK => ?_)
      go_simp
      refine hK.out _ _ ?_ (fun hHeld => ?_)
      · (repeat (with_reducible first | exact HO.out | refine RS.set16 ?_ _ | refine RS.alloc ?_ _ | refine RS.drew ?_ | exact RS.refl HR.out))
      clear hK K
      try simp only [Act.put, sA, sB, sC]
      refine rdA 24 (fun K hK => ?_)
      rw [if_pos (by rfl)]; refine wp_append_grows (w9.alloc (.cells #[.int .i64 s.seg, .int .i64 s.off, .int .i64 s.ring] 79)).drew (.tmp 50) (.tmp 67) 26 rfl 79 i0 _ 3 24 A.underF hin hz0 hz1 hz2 rfl (by decide) ads l.length l.length (frC l) rfl (fun h => ⟨(HN.out h).1, (HN.out h).1⟩) (frC_length l) (row_cells (Off.row (ex := fun _ => False) ((Off.refl _ w9).alloc _).drew HS9.out (fun _ h => h.elim))) ⟨w9.heap.size, 0, none⟩ 1 1 [.int .i64 s.seg, .int .i64 s.off, .int .i64 s.ring] rfl rfl (new3_cells w9 79 _ _ _) (by simp [Value.oneCell']) (by omega) (by unfold maxLen; omega) (by omega) ?_; intro v' w4 hown hgrow; obtain ⟨g4, cap4, hv4⟩ := row_some hown (by omega); subst hv4; have HO4 : Hid (Off (fun _ => False) w9 w4) := Off.grown (((Off.refl _ w9).alloc _).drew) hgrow (by simp); have HO : Hid (RS R s (memV Y) told out w9 w4) := ⟨HO4.out.mono (fun _ _ h => h.elim), _, HR.out.off HO4.out id⟩; have HR4 := Lib.hid (HR.out.off HO4.out id); have hown := Lib.hid (row_base hown (Nat.zero_le _)); have q16 : w4.cell? ⟨R, 16, none⟩ = some (.slice ads l.length ncap) := HR4.out.cell 16; have qf : ∀ j, w4.frozen? ⟨R, j, none⟩ = false := (fun j => HR4.out.free j); have qR : R < w4.heap.size := HR4.out.lt; clear hgrow
      refine hK.out _ _ ?_ (fun hHeld => ?_)
      · (repeat (with_reducible first | exact HO.out | refine RS.set16 ?_ _ | refine RS.alloc ?_ _ | refine RS.drew ?_ | exact RS.refl HR.out))
      clear hK K
      try simp only [Act.put, List.setIfInBounds_toArray]
      refine tkA 25 ?_
      try dsimp only
      refine tkA 26 ?_
      try dsimp only
      refine tkA 27 ?_
      try dsimp only
      refine rdA 28 (fun K hK => ?_)
      go_simp
      refine hK.out _ _ ?_ (fun hHeld => ?_)
      · (repeat (with_reducible first | exact HO.out | refine RS.set16 ?_ _ | refine RS.alloc ?_ _ | refine RS.drew ?_ | exact RS.refl HR.out))
      clear hK K
      try simp only [Act.put, sA, sB, sC]
      refine wpAnyH_done (by kernel_rfl) ?_ _
      go_wp2_with fail
      clear k0 k1 k2 q16 qf qR r16 r16' hR9
      obtain ⟨W5, hW5, HR5, HO5⟩ : ∃ W, w4.setCell ⟨R, 16, none⟩ (.slice (some ⟨g4, 0, none⟩) (l.length + 1) cap4) = W ∧ Hid (runAt W R s (.slice (some ⟨g4, 0, none⟩) (l.length + 1) cap4) (memV Y) told out) ∧ Hid (Off (· = R) w4 W) := ⟨_, rfl, HR4.out.set 16 _, off1 _ _ _ _⟩
      rw [hW5]
      clear hW5
      refine (c_raise _ _ _ _ _ _ _ _ HR5.out).mono ?_
      rintro e w6 ⟨rfl, hr6, ho6⟩
      have HS6 := Lib.hid (Off.row (HO5.out.trans ho6) hown.out (run_frame HR4.out))
      have H46 := Lib.hid (((HO4.out.mono (ex' := (· = R)) (fun _ _ h => h.elim)).trans HO5.out).trans ho6)
      have C6 := Lib.hid (C9.out.off H46.out hRN)
      have HR6 := Lib.hid hr6
      have k1 : ∀ w', RQ R 7 (.int .i64 s.p1.seg) w6 w' → w'.cell? ⟨w.heap.size, 1, none⟩ = some (.int .i64 1) := fun w' h => (C6.out.off h.1 hRN).facts.1.2.1
      have k2 : ∀ w', RQ R 7 (.int .i64 s.p1.seg) w6 w' → w'.cell? ⟨R, 7, none⟩ = some (.int .i64 s.p1.seg) := fun w' h => h.2
      have r0 : w6.drew.cell? ⟨R, 0, none⟩ = some (.int .i64 s.seg) := HR6.out.cell 0
      have r1 : w6.drew.cell? ⟨R, 1, none⟩ = some (.int .i64 s.off) := HR6.out.cell 1
      have r2 : w6.drew.cell? ⟨R, 2, none⟩ = some (.int .i64 s.ring) := HR6.out.cell 2
      have t0 : w6.cell? ⟨R, 0, none⟩ = some (.int .i64 s.seg) := HR6.out.cell 0
      have t1 : w6.cell? ⟨R, 1, none⟩ = some (.int .i64 s.off) := HR6.out.cell 1
      have t2 : w6.cell? ⟨R, 2, none⟩ = some (.int .i64 s.ring) := HR6.out.cell 2
      have rf : ∀ j, w6.drew.frozen? ⟨R, j, none⟩ = false := fun j => HR6.out.free j
      have tf : ∀ j, w6.frozen? ⟨R, j, none⟩ = false := fun j => HR6.out.free j
      have hR : R < w6.heap.size := HR6.out.lt
      have RQ0 : Hid (RQ R 7 (.int .i64 s.p1.seg) w6 w6) := ⟨Off.refl _ _, HR6.out.cell 7⟩
      clear hr6 ho6 HO
      go_wp2_with fail
      go_region_held3 (fun w' => RQ R 7 (.int .i64 s.p1.seg) w6 w')
        ((repeat (with_reducible first | refine RQ.set ?_ _ (by decide) _ | refine RQ.drew ?_ | exact RQ0.out)))
        ((first | fail))
      all_goals
        go_wp2_with fail
        go_end0
        refine ⟨_, rfl, run3 HR6.out _ _ _, ?_, ?_⟩
        · unfold stkAt
          rw [frC_append, List.length_append]
          exact Off.row (off3R _ _ _ _ _) HS6.out (run_frame HR6.out)
        · exact (Off.of_below HB9.out).trans (H46.out.trans (off3R _ _ _ _ _))
    · go_simp
      refine hK.out _ _ ?_ (fun hHeld => ?_)
      · (repeat (with_reducible first | exact HO.out | refine RS.set16 ?_ _ | refine RS.alloc ?_ _ | refine RS.drew ?_ | exact RS.refl HR.out))
      clear hK K
      try simp only [Act.put, sA, sB, sC]
      refine rdA 6 (fun K hK => ?_)
      go_simp
      refine (c_Clip _ _ _ _ HC.out HN.out).mono ?_
      rintro e w4 ⟨rfl, hw4⟩
      subst hw4
      go_wp2_with fail
      refine hK.out _ _ ?_ (fun hHeld => ?_)
      · (repeat (with_reducible first | exact HO.out | refine RS.set16 ?_ _ | refine RS.alloc ?_ _ | refine RS.drew ?_ | exact RS.refl HR.out))
      clear hK K
      try simp only [Act.put, sA, sB, sC]
      refine rdA 24 (fun K hK => ?_)
      rw [if_pos (by rfl)]; refine wp_append_grows (w9.alloc (.cells #[.int .i64 s.seg, .int .i64 s.off, .int .i64 s.ring] 79)).drew (.tmp 50) (.tmp 67) 26 rfl 79 i0 _ 3 24 A.underF hin hz0 hz1 hz2 rfl (by decide) ads l.length l.length (frC l) rfl (fun h => ⟨(HN.out h).1, (HN.out h).1⟩) (frC_length l) (row_cells (Off.row (ex := fun _ => False) ((Off.refl _ w9).alloc _).drew HS9.out (fun _ h => h.elim))) ⟨w9.heap.size, 0, none⟩ 1 1 [.int .i64 s.seg, .int .i64 s.off, .int .i64 s.ring] rfl rfl (new3_cells w9 79 _ _ _) (by simp [Value.oneCell']) (by omega) (by unfold maxLen; omega) (by omega) ?_; intro v' w4 hown hgrow; obtain ⟨g4, cap4, hv4⟩ := row_some hown (by omega); subst hv4; have HO4 : Hid (Off (fun _ => False) w9 w4) := Off.grown (((Off.refl _ w9).alloc _).drew) hgrow (by simp); have HO : Hid (RS R s (memV Y) told out w9 w4) := ⟨HO4.out.mono (fun _ _ h => h.elim), _, HR.out.off HO4.out id⟩; have HR4 := Lib.hid (HR.out.off HO4.out id); have hown := Lib.hid (row_base hown (Nat.zero_le _)); have q16 : w4.cell? ⟨R, 16, none⟩ = some (.slice ads l.length ncap) := HR4.out.cell 16; have qf : ∀ j, w4.frozen? ⟨R, j, none⟩ = false := (fun j => HR4.out.free j); have qR : R < w4.heap.size := HR4.out.lt; clear hgrow
      refine hK.out _ _ ?_ (fun hHeld => ?_)
      · (repeat (with_reducible first | exact HO.out | refine RS.set16 ?_ _ | refine RS.alloc ?_ _ | refine RS.drew ?_ | exact RS.refl HR.out))
      clear hK K
      try simp only [Act.put, List.setIfInBounds_toArray]
      refine tkA 25 ?_
      try dsimp only
      refine tkA 26 ?_
      try dsimp only
      refine tkA 27 ?_
      try dsimp only
      refine rdA 28 (fun K hK => ?_)
      go_simp
      refine hK.out _ _ ?_ (fun hHeld => ?_)
      · (repeat (with_reducible first | exact HO.out | refine RS.set16 ?_ _ | refine RS.alloc ?_ _ | refine RS.drew ?_ | exact RS.refl HR.out))
      clear hK K
      try simp only [Act.put, sA, sB, sC]
      refine wpAnyH_done (by kernel_rfl) ?_ _
      go_wp2_with fail
      clear k0 k1 k2 q16 qf qR r16 r16' hR9
      obtain ⟨W5, hW5, HR5, HO5⟩ : ∃ W, w4.setCell ⟨R, 16, none⟩ (.slice (some ⟨g4, 0, none⟩) (l.length + 1) cap4) = W ∧ Hid (runAt W R s (.slice (some ⟨g4, 0, none⟩) (l.length + 1) cap4) (memV Y) told out) ∧ Hid (Off (· = R) w4 W) := ⟨_, rfl, HR4.out.set 16 _, off1 _ _ _ _⟩
      rw [hW5]
      clear hW5
      refine (c_raise _ _ _ _ _ _ _ _ HR5.out).mono ?_
      rintro e w6 ⟨rfl, hr6, ho6⟩
      have HS6 := Lib.hid (Off.row (HO5.out.trans ho6) hown.out (run_frame HR4.out))
      have H46 := Lib.hid (((HO4.out.mono (ex' := (· = R)) (fun _ _ h => h.elim)).trans HO5.out).trans ho6)
      have C6 := Lib.hid (C9.out.off H46.out hRN)
      have HR6 := Lib.hid hr6
      have k1 : ∀ w', RQ R 7 (.int .i64 s.p1.seg) w6 w' → w'.cell? ⟨w.heap.size, 1, none⟩ = some (.int .i64 1) := fun w' h => (C6.out.off h.1 hRN).facts.1.2.1
      have k2 : ∀ w', RQ R 7 (.int .i64 s.p1.seg) w6 w' → w'.cell? ⟨R, 7, none⟩ = some (.int .i64 s.p1.seg) := fun w' h => h.2
      have r0 : w6.drew.cell? ⟨R, 0, none⟩ = some (.int .i64 s.seg) := HR6.out.cell 0
      have r1 : w6.drew.cell? ⟨R, 1, none⟩ = some (.int .i64 s.off) := HR6.out.cell 1
      have r2 : w6.drew.cell? ⟨R, 2, none⟩ = some (.int .i64 s.ring) := HR6.out.cell 2
      have t0 : w6.cell? ⟨R, 0, none⟩ = some (.int .i64 s.seg) := HR6.out.cell 0
      have t1 : w6.cell? ⟨R, 1, none⟩ = some (.int .i64 s.off) := HR6.out.cell 1
      have t2 : w6.cell? ⟨R, 2, none⟩ = some (.int .i64 s.ring) := HR6.out.cell 2
      have rf : ∀ j, w6.drew.frozen? ⟨R, j, none⟩ = false := fun j => HR6.out.free j
      have tf : ∀ j, w6.frozen? ⟨R, j, none⟩ = false := fun j => HR6.out.free j
      have hR : R < w6.heap.size := HR6.out.lt
      have RQ0 : Hid (RQ R 7 (.int .i64 s.p1.seg) w6 w6) := ⟨Off.refl _ _, HR6.out.cell 7⟩
      clear hr6 ho6 HO
      go_wp2_with fail
      go_region_held3 (fun w' => RQ R 7 (.int .i64 s.p1.seg) w6 w')
        ((repeat (with_reducible first | refine RQ.set ?_ _ (by decide) _ | refine RQ.drew ?_ | exact RQ0.out)))
        ((first | fail))
      all_goals
        go_wp2_with fail
        go_end0
        refine ⟨_, rfl, run3 HR6.out _ _ _, ?_, ?_⟩
        · unfold stkAt
          rw [frC_append, List.length_append]
          exact Off.row (off3R _ _ _ _ _) HS6.out (run_frame HR6.out)
        · exact (Off.of_below HB9.out).trans (H46.out.trans (off3R _ _ _ _ _))
  · go_simp
    refine hK.out _ _ ?_ (fun hHeld => ?_)
    · (repeat (with_reducible first | exact HO.out | refine RS.set16 ?_ _ | refine RS.alloc ?_ _ | refine RS.drew ?_ | exact RS.refl HR.out))
    clear hK K
    try simp only [Act.put, sA, sB, sC]
    refine rdA 5 (fun K hK => ?_)
    go_simp
    refine hK.out _ _ ?_ (fun hHeld => ?_)
    · (repeat (with_reducible first | exact HO.out | refine RS.set16 ?_ _ | refine RS.alloc ?_ _ | refine RS.drew ?_ | exact RS.refl HR.out))
    clear hK K
    try simp only [Act.put, sA, sB, sC]
    refine rdA 6 (fun K hK => ?_)
    go_simp
    refine (c_Clip _ _ _ _ HC.out HN.out).mono ?_
    rintro e w4 ⟨rfl, hw4⟩
    subst hw4
    go_wp2_with fail
    refine hK.out _ _ ?_ (fun hHeld => ?_)
    · (repeat (with_reducible first | exact HO.out | refine RS.set16 ?_ _ | refine RS.alloc ?_ _ | refine RS.drew ?_ | exact RS.refl HR.out))
    clear hK K
    try simp only [Act.put, sA, sB, sC]
    refine rdA 24 (fun K hK => ?_)
    rw [if_pos (by rfl)]; refine wp_append_grows (w9.alloc (.cells #[.int .i64 s.seg, .int .i64 s.off, .int .i64 s.ring] 79)).drew (.tmp 50) (.tmp 67) 26 rfl 79 i0 _ 3 24 A.underF hin hz0 hz1 hz2 rfl (by decide) ads l.length l.length (frC l) rfl (fun h => ⟨(HN.out h).1, (HN.out h).1⟩) (frC_length l) (row_cells (Off.row (ex := fun _ => False) ((Off.refl _ w9).alloc _).drew HS9.out (fun _ h => h.elim))) ⟨w9.heap.size, 0, none⟩ 1 1 [.int .i64 s.seg, .int .i64 s.off, .int .i64 s.ring] rfl rfl (new3_cells w9 79 _ _ _) (by simp [Value.oneCell']) (by omega) (by unfold maxLen; omega) (by omega) ?_; intro v' w4 hown hgrow; obtain ⟨g4, cap4, hv4⟩ := row_some hown (by omega); subst hv4; have HO4 : Hid (Off (fun _ => False) w9 w4) := Off.grown (((Off.refl _ w9).alloc _).drew) hgrow (by simp); have HO : Hid (RS R s (memV Y) told out w9 w4) := ⟨HO4.out.mono (fun _ _ h => h.elim), _, HR.out.off HO4.out id⟩; have HR4 := Lib.hid (HR.out.off HO4.out id); have hown := Lib.hid (row_base hown (Nat.zero_le _)); have q16 : w4.cell? ⟨R, 16, none⟩ = some (.slice ads l.length ncap) := HR4.out.cell 16; have qf : ∀ j, w4.frozen? ⟨R, j, none⟩ = false := (fun j => HR4.out.free j); have qR : R < w4.heap.size := HR4.out.lt; clear hgrow
    refine hK.out _ _ ?_ (fun hHeld => ?_)
    · (repeat (with_reducible first | exact HO.out | refine RS.set16 ?_ _ | refine RS.alloc ?_ _ | refine RS.drew ?_ | exact RS.refl HR.out))
    clear hK K
    try simp only [Act.put, List.setIfInBounds_toArray]
    refine tkA 25 ?_
    try dsimp only
    refine tkA 26 ?_
    try dsimp only
    refine tkA 27 ?_
    try dsimp only
    refine rdA 28 (fun K hK => ?_)
    go_simp
    refine hK.out _ _ ?_ (fun hHeld => ?_)
    · (repeat (with_reducible first | exact HO.out | refine RS.set16 ?_ _ | refine RS.alloc ?_ _ | refine RS.drew ?_ | exact RS.refl HR.out))
    clear hK K
    try simp only [Act.put, sA, sB, sC]
    refine wpAnyH_done (by kernel_rfl) ?_ _
    go_wp2_with fail
    clear k0 k1 k2 q16 qf qR r16 r16' hR9
    obtain ⟨W5, hW5, HR5, HO5⟩ : ∃ W, w4.setCell ⟨R, 16, none⟩ (.slice (some ⟨g4, 0, none⟩) (l.length + 1) cap4) = W ∧ Hid (runAt W R s (.slice (some ⟨g4, 0, none⟩) (l.length + 1) cap4) (memV Y) told out) ∧ Hid (Off (· = R) w4 W) := ⟨_, rfl, HR4.out.set 16 _, off1 _ _ _ _⟩
    rw [hW5]
    clear hW5
    refine (c_raise _ _ _ _ _ _ _ _ HR5.out).mono ?_
    rintro e w6 ⟨rfl, hr6, ho6⟩
    have HS6 := Lib.hid (Off.row (HO5.out.trans ho6) hown.out (run_frame HR4.out))
    have H46 := Lib.hid (((HO4.out.mono (ex' := (· = R)) (fun _ _ h => h.elim)).trans HO5.out).trans ho6)
    have C6 := Lib.hid (C9.out.off H46.out hRN)
    have HR6 := Lib.hid hr6
    have k1 : ∀ w', RQ R 7 (.int .i64 s.p1.seg) w6 w' → w'.cell? ⟨w.heap.size, 1, none⟩ = some (.int .i64 1) := fun w' h => (C6.out.off h.1 hRN).facts.1.2.1
    have k2 : ∀ w', RQ R 7 (.int .i64 s.p1.seg) w6 w' → w'.cell? ⟨R, 7, none⟩ = some (.int .i64 s.p1.seg) := fun w' h => h.2
    have r0 : w6.drew.cell? ⟨R, 0, none⟩ = some (.int .i64 s.seg) := HR6.out.cell 0
    have r1 : w6.drew.cell? ⟨R, 1, none⟩ = some (.int .i64 s.off) := HR6.out.cell 1
    have r2 : w6.drew.cell? ⟨R, 2, none⟩ = some (.int .i64 s.ring) := HR6.out.cell 2
    have t0 : w6.cell? ⟨R, 0, none⟩ = some (.int .i64 s.seg) := HR6.out.cell 0
    have t1 : w6.cell? ⟨R, 1, none⟩ = some (.int .i64 s.off) := HR6.out.cell 1
    have t2 : w6.cell? ⟨R, 2, none⟩ = some (.int .i64 s.ring) := HR6.out.cell 2
    have rf : ∀ j, w6.drew.frozen? ⟨R, j, none⟩ = false := fun j => HR6.out.free j
    have tf : ∀ j, w6.frozen? ⟨R, j, none⟩ = false := fun j => HR6.out.free j
    have hR : R < w6.heap.size := HR6.out.lt
    have RQ0 : Hid (RQ R 7 (.int .i64 s.p1.seg) w6 w6) := ⟨Off.refl _ _, HR6.out.cell 7⟩
    clear hr6 ho6 HO
    go_wp2_with fail
    go_region_held3 (fun w' => RQ R 7 (.int .i64 s.p1.seg) w6 w')
      ((repeat (with_reducible first | refine RQ.set ?_ _ (by decide) _ | refine RQ.drew ?_ | exact RQ0.out)))
      ((first | fail))
    all_goals
      go_wp2_with fail
      go_end0
      refine ⟨_, rfl, run3 HR6.out _ _ _, ?_, ?_⟩
      · unfold stkAt
        rw [frC_append, List.length_append]
        exact Off.row (off3R _ _ _ _ _) HS6.out (run_frame HR6.out)
      · exact (Off.of_below HB9.out).trans (H46.out.trans (off3R _ _ _ _ _))
end Go.Proofs.Ytiakonmamkfopaa
