/- The processor's step: a fault; what it makes. -/
import Derived.Test.YtiakonmamkfopaaZTk
import Derived.Test.YtiakonmamkfopaaZCpuS
import Derived.Deep.RegionHeld3
namespace Go.Proofs.Ytiakonmamkfopaa
open Go.RowKit Go.ChangeShapes
set_option linter.unusedVariables false
set_option maxRecDepth 100000
theorem memThen.keep {w w' : World} {ex : Nat → Prop} {B Y : Nat} {v : Value} {is : Bool} {sg of_ x n0 : Int} {st : Option (Int × Int × Int)} (h : memThen w B Y v is sg of_ x n0 st) (ho : Off ex w w') (hn : ¬ ex Y) : memThen w' B Y v is sg of_ x n0 st := by
  cases st with
  | none => exact ho.keeps (show memAt w B Y v is sg of_ x n0 from h) hn
  | some y =>
    obtain ⟨k, o, y⟩ := y
    exact ho.keeps (show memAt w B Y v true k o y (wrap64 (n0 + 1)) from h) hn
set_option maxHeartbeats 4000000 in
theorem c_Step_er1 (w : World) (B Y : Nat) (s : St) (stk : Value) (M : List Sg) (l : List Fr) (hm : MemOk w B Y M) (hs : stkAt w stk l) (hbig : l.length < 1000000) (hh : s.hal = false) (er : Int) (h : feR M s = .error er) :
    Calls Try.prog 22 #[stV s stk, memV Y] w fun e w' => e = .returned (.tuple #[stV St.zero (.slice none 0 0), .int .i64 0, .bool false, .int .i64 er]) ∧ Below w.heap.size w w' := by
  have hmf : ∀ (fn : Fn) (first cap : Array Value) (w : World), (Instr.makeFunc fn first cap).run Try.prog w = .ok (.func fn first cap) w := fun _ _ _ _ => rfl
  obtain ⟨W1, hW1, S1, O1, HB1, hz1⟩ := step_start w s stk
  have hW1 : Hid _ := Lib.hid hW1
  have HS1 := Lib.hid (stkAt.off (ex := fun _ => False) hs (.of_below HB1) (fun _ h => h.elim))
  have HM1 := Lib.hid (hm.below HB1)
  have S1 := Lib.hid S1
  have O1 := Lib.hid O1
  have HB1 := Lib.hid HB1
  have hbig := Lib.hid hbig
  have hh' := Lib.hid hh
  clear hh hs hm
  have hh := hh'
  unfold stV stC memV
  unfold stC St.zero at hW1
  go_enter_defers Try.func22, Try.ntmps22
  go_wp2_with fail
  rw [hW1.out]
  refine (c_Clone _ _ l HS1.out hbig.out).mono ?_
  rintro e w6 ⟨v', rfl, hs6, hb6, ad6, cp6, rfl⟩
  have S6 : Hid (stAt w6 w.heap.size s stk) := Off.keeps (.of_below (ex := fun _ => False) hb6) S1.out id
  have O6 : Hid (Outs w6 (w.heap.size + 1) St.zero (.slice none 0 0) 0 false 0) := O1.out.off (.of_below (ex := fun _ => False) hb6) (fun _ _ _ h => h)
  have HB6 := Lib.hid (below2 HB1.out hb6)
  have HS6 := Lib.hid hs6
  have hz6 : w.heap.size + 5 ≤ w6.heap.size := by rw [← hz1]; exact hb6.size
  have HM6 := Lib.hid (HM1.out.below hb6)
  clear hb6 hs6 hz1
  have c16 : w6.cell? ⟨w.heap.size, 16, none⟩ = some stk := S6.out.cell 16
  have c17 : w6.cell? ⟨w.heap.size, 17, none⟩ = some (.bool false) := by rw [← hh.out]; exact S6.out.cell 17
  have cf : ∀ j, w6.frozen? ⟨w.heap.size, j, none⟩ = false := fun j => S6.out.free j
  have hN6 : w.heap.size < w6.heap.size := S6.out.lt
  have S7 : Hid (stAt (w6.setCell ⟨w.heap.size, 16, none⟩ (.slice ad6 l.length cp6)) w.heap.size s (.slice ad6 l.length cp6)) := by
    have h := S6.out
    unfold stAt stC at h
    show _ = _
    simp [World.setCell, Array.getElem?_modify, h, stC]
  go_wp2_with (first | (refine wpList_load_st rfl (.tmp 2) rfl rfl (st_range S7.out) ?_))
  obtain ⟨W7, hW7, HR7, F7, hz7⟩ : ∃ W, (w6.setCell ⟨w.heap.size, 16, none⟩ (.slice ad6 l.length cp6)).alloc (.cells #[.int .i64 s.seg, .int .i64 s.off, .int .i64 s.ring, .int .i64 s.a, .int .i64 s.p0.seg, .int .i64 s.p0.off, .int .i64 s.p0.ring, .int .i64 s.p1.seg, .int .i64 s.p1.off, .int .i64 s.p1.ring, .int .i64 s.p2.seg, .int .i64 s.p2.off, .int .i64 s.p2.ring, .int .i64 s.p3.seg, .int .i64 s.p3.off, .int .i64 s.p3.ring, .slice ad6 l.length cp6, .bool s.hal, .iface 43 (.pointer (some ⟨Y, 0, none⟩)), .bool false, .int .i64 0] 99) = W ∧ Hid (runAt W w6.heap.size s (.slice ad6 l.length cp6) (memV Y) false 0) ∧ Hid (Off (· = w.heap.size) w6 W) ∧ W.heap.size = w6.heap.size + 1 := by
    refine ⟨_, rfl, ?_, (off1 _ _ _ _).alloc _, by simp⟩
    have h := heap_alloc_new (w6.setCell ⟨w.heap.size, 16, none⟩ (.slice ad6 l.length cp6)) (.cells #[.int .i64 s.seg, .int .i64 s.off, .int .i64 s.ring, .int .i64 s.a, .int .i64 s.p0.seg, .int .i64 s.p0.off, .int .i64 s.p0.ring, .int .i64 s.p1.seg, .int .i64 s.p1.off, .int .i64 s.p1.ring, .int .i64 s.p2.seg, .int .i64 s.p2.off, .int .i64 s.p2.ring, .int .i64 s.p3.seg, .int .i64 s.p3.off, .int .i64 s.p3.ring, .slice ad6 l.length cp6, .bool s.hal, .iface 43 (.pointer (some ⟨Y, 0, none⟩)), .bool false, .int .i64 0] 99)
    rw [World.size_setCell] at h
    exact h
  rw [hW7]
  clear hW7
  have B7 := Lib.hid (Off.below HB6.out F7.out HB6.out.size (fun k hk => by omega))
  have O7 := Lib.hid (O6.out.off F7.out (fun k h1 h2 h3 => by omega))
  have HS7 := Lib.hid (Off.row F7.out HS6.out (by rintro k rfl cs h; have h1 := (show w6.heap[w.heap.size]? = _ from S6.out).symm.trans h; simp at h1))
  have HM7 := Lib.hid (HM6.out.off F7.out (by rintro rfl; obtain ⟨⟨v, vs, is, sg, off, x, n, h1, _⟩, _⟩ := HM6.out; have h2 := (show w6.heap[w.heap.size]? = _ from S6.out).symm.trans h1; simp at h2) (by rintro k rfl cs h; have h1 := (show w6.heap[w.heap.size]? = _ from S6.out).symm.trans h; simp at h1) (by rintro k rfl cs h; have h1 := (show w6.heap[w.heap.size]? = _ from S6.out).symm.trans h; simp at h1))
  clear c16 c17 cf S7
  refine (c_fetch_er W7 B w6.heap.size Y s _ false 0 M HR7.out HM7.out er h).mono ?_
  rintro e w8 ⟨rfl, hb8⟩
  go_wp2_with fail
  refine leaves_cons (f := 40) (args := #[.pointer (some ⟨w.heap.size + 1, 0, none⟩), .pointer (some ⟨w.heap.size + 1 + 1, 0, none⟩), .pointer (some ⟨w.heap.size + 1 + 1 + 1, 0, none⟩), .pointer (some ⟨w.heap.size + 1 + 1 + 1 + 1, 0, none⟩)]) (by simp) (by simp [go_sem]) ?_
  refine (catch_panicking (w.heap.size + 1) St.zero (.slice none 0 0) 0 false 0 er [] w8 (O7.out.off (.of_below (ex := fun _ => False) hb8) (fun _ _ _ h => h))).mono ?_
  rintro e u' w9 ⟨rfl, rfl, ho9, hf9⟩
  simp only [settle]
  exact ⟨_, outs_results ho9 _ rfl rfl rfl rfl, rfl, Off.below (below2 B7.out hb8) hf9 (below2 B7.out hb8).size (fun k hk => by omega)⟩
set_option maxHeartbeats 4000000 in
theorem c_Step_er2 (w : World) (B Y : Nat) (s : St) (stk : Value) (M : List Sg) (l : List Fr) (hm : MemOk w B Y M) (hs : stkAt w stk l) (hbig : l.length < 1000000) (hh : s.hal = false) (op p n : Int) (hf : feR M s = .ok (op, p, n)) (er : Int) (h : doR M { s with off := s.off + 1 } l op p n = .error er) :
    Calls Try.prog 22 #[stV s stk, memV Y] w fun e w' => e = .returned (.tuple #[stV St.zero (.slice none 0 0), .int .i64 0, .bool false, .int .i64 er]) ∧ Below w.heap.size w w' := by
  have hmf : ∀ (fn : Fn) (first cap : Array Value) (w : World), (Instr.makeFunc fn first cap).run Try.prog w = .ok (.func fn first cap) w := fun _ _ _ _ => rfl
  obtain ⟨W1, hW1, S1, O1, HB1, hz1⟩ := step_start w s stk
  have hW1 : Hid _ := Lib.hid hW1
  have HS1 := Lib.hid (stkAt.off (ex := fun _ => False) hs (.of_below HB1) (fun _ h => h.elim))
  have HM1 := Lib.hid (hm.below HB1)
  have S1 := Lib.hid S1
  have O1 := Lib.hid O1
  have HB1 := Lib.hid HB1
  have hbig := Lib.hid hbig
  have hh' := Lib.hid hh
  clear hh hs hm
  have hh := hh'
  unfold stV stC memV
  unfold stC St.zero at hW1
  go_enter_defers Try.func22, Try.ntmps22
  go_wp2_with fail
  rw [hW1.out]
  refine (c_Clone _ _ l HS1.out hbig.out).mono ?_
  rintro e w6 ⟨v', rfl, hs6, hb6, ad6, cp6, rfl⟩
  have S6 : Hid (stAt w6 w.heap.size s stk) := Off.keeps (.of_below (ex := fun _ => False) hb6) S1.out id
  have O6 : Hid (Outs w6 (w.heap.size + 1) St.zero (.slice none 0 0) 0 false 0) := O1.out.off (.of_below (ex := fun _ => False) hb6) (fun _ _ _ h => h)
  have HB6 := Lib.hid (below2 HB1.out hb6)
  have HS6 := Lib.hid hs6
  have hz6 : w.heap.size + 5 ≤ w6.heap.size := by rw [← hz1]; exact hb6.size
  have HM6 := Lib.hid (HM1.out.below hb6)
  clear hb6 hs6 hz1
  have c16 : w6.cell? ⟨w.heap.size, 16, none⟩ = some stk := S6.out.cell 16
  have c17 : w6.cell? ⟨w.heap.size, 17, none⟩ = some (.bool false) := by rw [← hh.out]; exact S6.out.cell 17
  have cf : ∀ j, w6.frozen? ⟨w.heap.size, j, none⟩ = false := fun j => S6.out.free j
  have hN6 : w.heap.size < w6.heap.size := S6.out.lt
  have S7 : Hid (stAt (w6.setCell ⟨w.heap.size, 16, none⟩ (.slice ad6 l.length cp6)) w.heap.size s (.slice ad6 l.length cp6)) := by
    have h := S6.out
    unfold stAt stC at h
    show _ = _
    simp [World.setCell, Array.getElem?_modify, h, stC]
  go_wp2_with (first | (refine wpList_load_st rfl (.tmp 2) rfl rfl (st_range S7.out) ?_))
  obtain ⟨W7, hW7, HR7, F7, hz7⟩ : ∃ W, (w6.setCell ⟨w.heap.size, 16, none⟩ (.slice ad6 l.length cp6)).alloc (.cells #[.int .i64 s.seg, .int .i64 s.off, .int .i64 s.ring, .int .i64 s.a, .int .i64 s.p0.seg, .int .i64 s.p0.off, .int .i64 s.p0.ring, .int .i64 s.p1.seg, .int .i64 s.p1.off, .int .i64 s.p1.ring, .int .i64 s.p2.seg, .int .i64 s.p2.off, .int .i64 s.p2.ring, .int .i64 s.p3.seg, .int .i64 s.p3.off, .int .i64 s.p3.ring, .slice ad6 l.length cp6, .bool s.hal, .iface 43 (.pointer (some ⟨Y, 0, none⟩)), .bool false, .int .i64 0] 99) = W ∧ Hid (runAt W w6.heap.size s (.slice ad6 l.length cp6) (memV Y) false 0) ∧ Hid (Off (· = w.heap.size) w6 W) ∧ W.heap.size = w6.heap.size + 1 := by
    refine ⟨_, rfl, ?_, (off1 _ _ _ _).alloc _, by simp⟩
    have h := heap_alloc_new (w6.setCell ⟨w.heap.size, 16, none⟩ (.slice ad6 l.length cp6)) (.cells #[.int .i64 s.seg, .int .i64 s.off, .int .i64 s.ring, .int .i64 s.a, .int .i64 s.p0.seg, .int .i64 s.p0.off, .int .i64 s.p0.ring, .int .i64 s.p1.seg, .int .i64 s.p1.off, .int .i64 s.p1.ring, .int .i64 s.p2.seg, .int .i64 s.p2.off, .int .i64 s.p2.ring, .int .i64 s.p3.seg, .int .i64 s.p3.off, .int .i64 s.p3.ring, .slice ad6 l.length cp6, .bool s.hal, .iface 43 (.pointer (some ⟨Y, 0, none⟩)), .bool false, .int .i64 0] 99)
    rw [World.size_setCell] at h
    exact h
  rw [hW7]
  clear hW7
  have B7 := Lib.hid (Off.below HB6.out F7.out HB6.out.size (fun k hk => by omega))
  have O7 := Lib.hid (O6.out.off F7.out (fun k h1 h2 h3 => by omega))
  have HS7 := Lib.hid (Off.row F7.out HS6.out (by rintro k rfl cs h; have h1 := (show w6.heap[w.heap.size]? = _ from S6.out).symm.trans h; simp at h1))
  have HM7 := Lib.hid (HM6.out.off F7.out (by rintro rfl; obtain ⟨⟨v, vs, is, sg, off, x, n, h1, _⟩, _⟩ := HM6.out; have h2 := (show w6.heap[w.heap.size]? = _ from S6.out).symm.trans h1; simp at h2) (by rintro k rfl cs h; have h1 := (show w6.heap[w.heap.size]? = _ from S6.out).symm.trans h; simp at h1) (by rintro k rfl cs h; have h1 := (show w6.heap[w.heap.size]? = _ from S6.out).symm.trans h; simp at h1))
  clear c16 c17 cf S7
  refine (c_fetch_go W7 B w6.heap.size Y s _ false 0 M HR7.out HM7.out op p n hf).mono ?_
  rintro e w8 ⟨rfl, hr8, ho8⟩
  have hrange := feR_range hf
  have B8 := Lib.hid (Off.below B7.out ho8 B7.out.size (fun k hk => by omega))
  have O8 := Lib.hid (O7.out.off ho8 (fun k h1 h2 h3 => by omega))
  have HS8 : Hid (stkAt w8 (.slice ad6 l.length cp6) l) := stkAt.off HS7.out ho8 (run_frame HR7.out)
  have HYR : Hid (¬ Y = w6.heap.size) := by
    obtain ⟨⟨v, vs, is, sg, off, x, n, h1, _⟩, _⟩ := HM7.out
    exact run_mem HR7.out h1
  have HM8 := Lib.hid (HM7.out.off ho8 HYR.out (by rintro k rfl cs h; have h1 := (show W7.heap[w6.heap.size]? = _ from HR7.out).symm.trans h; simp at h1) (by rintro k rfl cs h; have h1 := (show W7.heap[w6.heap.size]? = _ from HR7.out).symm.trans h; simp at h1))
  have HR8 := Lib.hid hr8
  have HO8 := Lib.hid ho8
  clear hr8 ho8
  go_wp2_with fail
  refine (c_do_er w8 B w6.heap.size Y _ _ M l op p n hrange.1 hrange.2.1 hrange.2.2.1 hrange.2.2.2 HR8.out HM8.out HS8.out (by have := hbig.out; omega) er h).mono ?_
  rintro e w9 ⟨rfl, hb9⟩
  go_wp2_with fail
  refine leaves_cons (f := 40) (args := #[.pointer (some ⟨w.heap.size + 1, 0, none⟩), .pointer (some ⟨w.heap.size + 1 + 1, 0, none⟩), .pointer (some ⟨w.heap.size + 1 + 1 + 1, 0, none⟩), .pointer (some ⟨w.heap.size + 1 + 1 + 1 + 1, 0, none⟩)]) (by simp) (by simp [go_sem]) ?_
  refine (catch_panicking (w.heap.size + 1) St.zero (.slice none 0 0) 0 false 0 er [] w9 (O8.out.off (.of_below (ex := fun _ => False) hb9) (fun _ _ _ h => h))).mono ?_
  rintro e u' w10 ⟨rfl, rfl, ho10, hf10⟩
  simp only [settle]
  exact ⟨_, outs_results ho10 _ rfl rfl rfl rfl, rfl, Off.below (below2 B8.out hb9) hf10 (below2 B8.out hb9).size (fun k hk => by omega)⟩
set_option maxHeartbeats 4000000 in
theorem c_Step_go (w : World) (B Y : Nat) (s : St) (stk : Value) (M : List Sg) (l : List Fr) (hm : MemOk w B Y M) (hs : stkAt w stk l) (hbig : l.length < 1000000) (v : Value) (is : Bool) (sg of_ x n0 : Int) (hma : memAt w B Y v is sg of_ x n0) (hh : s.hal = false) (op p n : Int) (hf : feR M s = .ok (op, p, n)) (r : Res) (h : doR M { s with off := s.off + 1 } l op p n = .ok r) :
    Calls Try.prog 22 #[stV s stk, memV Y] w fun e w' => ∃ stk', e = .returned (.tuple #[stV r.s stk', .int .i64 r.out, .bool r.told, .int .i64 0]) ∧ stkAt w' stk' r.l ∧ memThen w' B Y v is sg of_ x n0 r.st ∧ Off (· = Y) w w' := by
  have hYw := World.block_lt_of_cell? w _ hma.facts.1
  have hma := Lib.hid hma
  have hmf : ∀ (fn : Fn) (first cap : Array Value) (w : World), (Instr.makeFunc fn first cap).run Try.prog w = .ok (.func fn first cap) w := fun _ _ _ _ => rfl
  obtain ⟨W1, hW1, S1, O1, HB1, hz1⟩ := step_start w s stk
  have hW1 : Hid _ := Lib.hid hW1
  have HS1 := Lib.hid (stkAt.off (ex := fun _ => False) hs (.of_below HB1) (fun _ h => h.elim))
  have HM1 := Lib.hid (hm.below HB1)
  have S1 := Lib.hid S1
  have O1 := Lib.hid O1
  have HB1 := Lib.hid HB1
  have hbig := Lib.hid hbig
  have hh' := Lib.hid hh
  clear hh hs hm
  have hh := hh'
  unfold stV stC memV
  unfold stC St.zero at hW1
  go_enter_defers Try.func22, Try.ntmps22
  go_wp2_with fail
  rw [hW1.out]
  refine (c_Clone _ _ l HS1.out hbig.out).mono ?_
  rintro e w6 ⟨v', rfl, hs6, hb6, ad6, cp6, rfl⟩
  have S6 : Hid (stAt w6 w.heap.size s stk) := Off.keeps (.of_below (ex := fun _ => False) hb6) S1.out id
  have O6 : Hid (Outs w6 (w.heap.size + 1) St.zero (.slice none 0 0) 0 false 0) := O1.out.off (.of_below (ex := fun _ => False) hb6) (fun _ _ _ h => h)
  have HB6 := Lib.hid (below2 HB1.out hb6)
  have HS6 := Lib.hid hs6
  have hz6 : w.heap.size + 5 ≤ w6.heap.size := by rw [← hz1]; exact hb6.size
  have HM6 := Lib.hid (HM1.out.below hb6)
  clear hb6 hs6 hz1
  have c16 : w6.cell? ⟨w.heap.size, 16, none⟩ = some stk := S6.out.cell 16
  have c17 : w6.cell? ⟨w.heap.size, 17, none⟩ = some (.bool false) := by rw [← hh.out]; exact S6.out.cell 17
  have cf : ∀ j, w6.frozen? ⟨w.heap.size, j, none⟩ = false := fun j => S6.out.free j
  have hN6 : w.heap.size < w6.heap.size := S6.out.lt
  have S7 : Hid (stAt (w6.setCell ⟨w.heap.size, 16, none⟩ (.slice ad6 l.length cp6)) w.heap.size s (.slice ad6 l.length cp6)) := by
    have h := S6.out
    unfold stAt stC at h
    show _ = _
    simp [World.setCell, Array.getElem?_modify, h, stC]
  go_wp2_with (first | (refine wpList_load_st rfl (.tmp 2) rfl rfl (st_range S7.out) ?_))
  obtain ⟨W7, hW7, HR7, F7, hz7⟩ : ∃ W, (w6.setCell ⟨w.heap.size, 16, none⟩ (.slice ad6 l.length cp6)).alloc (.cells #[.int .i64 s.seg, .int .i64 s.off, .int .i64 s.ring, .int .i64 s.a, .int .i64 s.p0.seg, .int .i64 s.p0.off, .int .i64 s.p0.ring, .int .i64 s.p1.seg, .int .i64 s.p1.off, .int .i64 s.p1.ring, .int .i64 s.p2.seg, .int .i64 s.p2.off, .int .i64 s.p2.ring, .int .i64 s.p3.seg, .int .i64 s.p3.off, .int .i64 s.p3.ring, .slice ad6 l.length cp6, .bool s.hal, .iface 43 (.pointer (some ⟨Y, 0, none⟩)), .bool false, .int .i64 0] 99) = W ∧ Hid (runAt W w6.heap.size s (.slice ad6 l.length cp6) (memV Y) false 0) ∧ Hid (Off (· = w.heap.size) w6 W) ∧ W.heap.size = w6.heap.size + 1 := by
    refine ⟨_, rfl, ?_, (off1 _ _ _ _).alloc _, by simp⟩
    have h := heap_alloc_new (w6.setCell ⟨w.heap.size, 16, none⟩ (.slice ad6 l.length cp6)) (.cells #[.int .i64 s.seg, .int .i64 s.off, .int .i64 s.ring, .int .i64 s.a, .int .i64 s.p0.seg, .int .i64 s.p0.off, .int .i64 s.p0.ring, .int .i64 s.p1.seg, .int .i64 s.p1.off, .int .i64 s.p1.ring, .int .i64 s.p2.seg, .int .i64 s.p2.off, .int .i64 s.p2.ring, .int .i64 s.p3.seg, .int .i64 s.p3.off, .int .i64 s.p3.ring, .slice ad6 l.length cp6, .bool s.hal, .iface 43 (.pointer (some ⟨Y, 0, none⟩)), .bool false, .int .i64 0] 99)
    rw [World.size_setCell] at h
    exact h
  rw [hW7]
  clear hW7
  have B7 := Lib.hid (Off.below HB6.out F7.out HB6.out.size (fun k hk => by omega))
  have O7 := Lib.hid (O6.out.off F7.out (fun k h1 h2 h3 => by omega))
  have HS7 := Lib.hid (Off.row F7.out HS6.out (by rintro k rfl cs h; have h1 := (show w6.heap[w.heap.size]? = _ from S6.out).symm.trans h; simp at h1))
  have HM7 := Lib.hid (HM6.out.off F7.out (by rintro rfl; obtain ⟨⟨v, vs, is, sg, off, x, n, h1, _⟩, _⟩ := HM6.out; have h2 := (show w6.heap[w.heap.size]? = _ from S6.out).symm.trans h1; simp at h2) (by rintro k rfl cs h; have h1 := (show w6.heap[w.heap.size]? = _ from S6.out).symm.trans h; simp at h1) (by rintro k rfl cs h; have h1 := (show w6.heap[w.heap.size]? = _ from S6.out).symm.trans h; simp at h1))
  clear c16 c17 cf S7
  refine (c_fetch_go W7 B w6.heap.size Y s _ false 0 M HR7.out HM7.out op p n hf).mono ?_
  rintro e w8 ⟨rfl, hr8, ho8⟩
  have hrange := feR_range hf
  have B8 := Lib.hid (Off.below B7.out ho8 B7.out.size (fun k hk => by omega))
  have O8 := Lib.hid (O7.out.off ho8 (fun k h1 h2 h3 => by omega))
  have HS8 : Hid (stkAt w8 (.slice ad6 l.length cp6) l) := stkAt.off HS7.out ho8 (run_frame HR7.out)
  have HYR : Hid (¬ Y = w6.heap.size) := by
    obtain ⟨⟨v, vs, is, sg, off, x, n, h1, _⟩, _⟩ := HM7.out
    exact run_mem HR7.out h1
  have HM8 := Lib.hid (HM7.out.off ho8 HYR.out (by rintro k rfl cs h; have h1 := (show W7.heap[w6.heap.size]? = _ from HR7.out).symm.trans h; simp at h1) (by rintro k rfl cs h; have h1 := (show W7.heap[w6.heap.size]? = _ from HR7.out).symm.trans h; simp at h1))
  have HR8 := Lib.hid hr8
  have HO8 := Lib.hid ho8
  clear hr8 ho8
  go_wp2_with fail
  have hma8 : memAt w8 B Y v is sg of_ x n0 := (B8.out.block Y hYw).trans hma.out
  refine (c_do_go w8 B w6.heap.size Y _ _ M l op p n hrange.1 hrange.2.1 hrange.2.2.1 hrange.2.2.2 HR8.out HM8.out HS8.out (by have := hbig.out; omega) v is sg of_ x n0 hma8 r h).mono ?_
  rintro e w9 ⟨stk', rfl, hr9, hs9, hm9, ho9⟩
  obtain ⟨ad9, cp9, hv9, _, _⟩ := row_shape hs9
  subst hv9
  have hYN : ¬ (w.heap.size ≤ Y ∧ Y < w.heap.size + 5) := by omega
  have O9 := Lib.hid (O8.out.off ho9 (fun k h1 h2 h3 => by omega))
  have B9 : Hid (Off (· = Y) w w9) := (Off.of_below B8.out).trans2 ho9 (fun k hk h => by omega)
  have HR9 := Lib.hid hr9
  have HS9 := Lib.hid hs9
  have HM9 := Lib.hid hm9
  have F9 : Hid (∀ k, (w.heap.size + 1 ≤ k ∧ k < w.heap.size + 5) → ∀ cs, w9.heap[k]? ≠ some (.cells cs 79 (0, 0))) := by
    rintro k ⟨h1, h2⟩ cs hc
    rcases (show k = w.heap.size + 1 ∨ k = w.heap.size + 1 + 1 ∨ k = w.heap.size + 1 + 2 ∨ k = w.heap.size + 1 + 3 by omega) with rfl | rfl | rfl | rfl
    · have h := (show w9.heap[w.heap.size + 1]? = _ from O9.out.st).symm.trans hc; simp at h
    · have h := (show w9.heap[w.heap.size + 1 + 1]? = _ from O9.out.w1).symm.trans hc; simp at h
    · have h := (show w9.heap[w.heap.size + 1 + 2]? = _ from O9.out.w2).symm.trans hc; simp at h
    · have h := (show w9.heap[w.heap.size + 1 + 3]? = _ from O9.out.w3).symm.trans hc; simp at h
  have hz9 : w6.heap.size < w9.heap.size := hr9.lt
  clear hma8 hr9 hs9 hm9 ho9 HR8 HM8 HS8 O8 B8 HO8 HYR HR7 HM7 HS7 O7 B7 F7
  go_wp2_with fail
  have hRn : ¬ (w.heap.size + 1 ≤ w6.heap.size ∧ w6.heap.size < w.heap.size + 5) := by omega
  generalize w6.heap.size = R at *
  have k19 : ∀ w', Off (fun k => w.heap.size + 1 ≤ k ∧ k < w.heap.size + 5) w9 w' → w'.cell? ⟨R, 19, none⟩ = some (.bool r.told) := fun w' h => (HR9.out.off h hRn).cell 19
  have k20 : ∀ w', Off (fun k => w.heap.size + 1 ≤ k ∧ k < w.heap.size + 5) w9 w' → w'.cell? ⟨R, 20, none⟩ = some (.int .i64 r.out) := fun w' h => (HR9.out.off h hRn).cell 20
  refine wp_region_noPanic ?_
  refine wp_region_held_drew (S := fun w' => Off (fun k => w.heap.size + 1 ≤ k ∧ k < w.heap.size + 5) w9 w') (by kernel_rfl) (Off.refl _ _).drew (fun hHeld => ?_)
  refine tkA 0 ?_
  try simp only [Act.put, sA, sB, sC]
  refine tkA 1 ?_
  try simp only [Act.put, sA, sB, sC]
  refine tkA 2 ?_
  try simp only [Act.put, sA, sB, sC]
  refine wpAnyH_take (i := 3) (oi := ⟨_, _, _, _, _, _⟩) (v := .agg #[.int .i64 r.s.seg, .int .i64 r.s.off, .int .i64 r.s.ring, .int .i64 r.s.a, .int .i64 r.s.p0.seg, .int .i64 r.s.p0.off, .int .i64 r.s.p0.ring, .int .i64 r.s.p1.seg, .int .i64 r.s.p1.off, .int .i64 r.s.p1.ring, .int .i64 r.s.p2.seg, .int .i64 r.s.p2.off, .int .i64 r.s.p2.ring, .int .i64 r.s.p3.seg, .int .i64 r.s.p3.off, .int .i64 r.s.p3.ring, .slice ad9 r.l.length cp9, .bool r.s.hal]) rfl (by kernel_rfl) (by kernel_rfl) (by kernel_rfl) (fun _ _ _ h => h) (yieldsIf_load_mid (by rfl) 33 (.tmp 27) rfl R 0 rfl (stC r.s (.slice ad9 r.l.length cp9)).toList _ (fun w hS => run_range (HR9.out.off hS hRn)) A.stateU A.stateR A.stateI) (by assumption) ?_
  try simp only [Act.put, sA, sB, sC]
  refine tkA 4 ?_
  try simp only [Act.put, sA, sB, sC]
  refine tkA 5 ?_
  try simp only [Act.put, sA, sB, sC]
  refine tkA 6 ?_
  try simp only [Act.put, sA, sB, sC]
  refine tkA 7 ?_
  try simp only [Act.put, sA, sB, sC]
  refine tkA 8 ?_
  try simp only [Act.put, sA, sB, sC]
  refine tkA 9 ?_
  try simp only [Act.put, sA, sB, sC]
  refine tkA 10 ?_
  try simp only [Act.put, sA, sB, sC]
  refine tkA 11 ?_
  try simp only [Act.put, sA, sB, sC]
  refine rdA 12 (fun K hK => ?_)
  rw [if_pos (by rfl)]
  refine wp_store_st (.tmp 4) (.tmp 28) rfl rfl rfl (show stAt w9.drew (w.heap.size + 1) _ _ from O9.out.st) rfl ?_
  intro W8 S8 F8
  have P1 := F8.keeps O9.out.w1 (by omega)
  have P2 := F8.keeps O9.out.w2 (by omega)
  have P3 := F8.keeps O9.out.w3 (by omega)
  have p1 : W8.cell? ⟨w.heap.size + 1 + 1, 0, none⟩ = some (.int .i64 0) := (blk1.facts P1).1
  have p2 : W8.cell? ⟨w.heap.size + 1 + 1 + 1, 0, none⟩ = some (.bool false) := (blk1.facts P2).1
  have p3 : W8.cell? ⟨w.heap.size + 1 + 1 + 1 + 1, 0, none⟩ = some (.int .i64 0) := (blk1.facts P3).1
  have pf1 : ∀ j, W8.frozen? ⟨w.heap.size + 1 + 1, j, none⟩ = false := (blk1.facts P1).2
  have pf2 : ∀ j, W8.frozen? ⟨w.heap.size + 1 + 1 + 1, j, none⟩ = false := (blk1.facts P2).2
  have pf3 : ∀ j, W8.frozen? ⟨w.heap.size + 1 + 1 + 1 + 1, j, none⟩ = false := (blk1.facts P3).2
  have S8 := Lib.hid S8
  have P1 := Lib.hid P1
  have P2 := Lib.hid P2
  have P3 := Lib.hid P3
  have HO : Hid (Off (fun k => w.heap.size + 1 ≤ k ∧ k < w.heap.size + 5) w9 W8) := (Off.refl _ w9).drew.trans (F8.mono (fun k _ hk => by omega))
  clear F8
  refine hK.out _ _ ?_ (fun hHeld => ?_)
  · exact HO.out
  clear hK K
  try simp only [Act.put]
  refine rdA 13 (fun K hK => ?_)
  go_simp
  refine hK.out _ _ ?_ (fun hHeld => ?_)
  · (repeat (with_reducible first | exact HO.out | refine Off.setCell ?_ (Or.inl (by dsimp only; omega)) _))
  clear hK K
  try simp only [Act.put, sA, sB, sC]
  refine rdA 14 (fun K hK => ?_)
  go_simp
  refine hK.out _ _ ?_ (fun hHeld => ?_)
  · (repeat (with_reducible first | exact HO.out | refine Off.setCell ?_ (Or.inl (by dsimp only; omega)) _))
  clear hK K
  try simp only [Act.put, sA, sB, sC]
  refine rdA 15 (fun K hK => ?_)
  go_simp
  refine hK.out _ _ ?_ (fun hHeld => ?_)
  · (repeat (with_reducible first | exact HO.out | refine Off.setCell ?_ (Or.inl (by dsimp only; omega)) _))
  clear hK K
  try simp only [Act.put, sA, sB, sC]
  refine wpAnyH_done (by kernel_rfl) ?_ _
  refine NoPanic.normal ?_
  go_wp2_with fail
  have h3 := outs3 (v' := r.out) (t' := r.told) (e' := 0) S8.out P1.out P2.out P3.out
  have hO : Off (fun k => w.heap.size + 1 ≤ k ∧ k < w.heap.size + 5) w9 _ := HO.out.trans (h3.2.mono (fun k _ hk => by omega))
  refine leaves_cons (f := 40) (args := #[.pointer (some ⟨w.heap.size + 1, 0, none⟩), .pointer (some ⟨w.heap.size + 1 + 1, 0, none⟩), .pointer (some ⟨w.heap.size + 1 + 1 + 1, 0, none⟩), .pointer (some ⟨w.heap.size + 1 + 1 + 1 + 1, 0, none⟩)]) (by simp) (by simp [go_sem]) ?_
  refine (catch_idle ⟨w.heap.size + 1, 0, none⟩ ⟨w.heap.size + 1 + 1, 0, none⟩ ⟨w.heap.size + 1 + 1 + 1, 0, none⟩ ⟨w.heap.size + 1 + 1 + 1 + 1, 0, none⟩ _).mono ?_
  rintro e u' w10 ⟨rfl, rfl, hw10⟩
  subst hw10
  simp only [settle]
  refine ⟨_, outs_results h3.1 _ rfl rfl rfl rfl, _, rfl, Off.row hO HS9.out F9.out, HM9.out.keep hO (fun hk => hYN (by omega)), B9.out.trans2 hO (fun k hk hx => by omega)⟩
theorem c_Step_er (w : World) (B Y : Nat) (s : St) (stk : Value) (M : List Sg) (l : List Fr) (hm : MemOk w B Y M) (hs : stkAt w stk l) (hbig : l.length < 1000000) (er : Int) (h : stR M s l = .error er) :
    Calls Try.prog 22 #[stV s stk, memV Y] w fun e w' => e = .returned (.tuple #[stV St.zero (.slice none 0 0), .int .i64 0, .bool false, .int .i64 er]) ∧ Below w.heap.size w w' := by
  unfold stR at h
  cases hh : s.hal with
  | true => rw [if_pos hh] at h; cases h
  | false =>
    rw [if_neg (by simp [hh])] at h
    cases hf : feR M s with
    | error e => rw [hf] at h; cases h; exact c_Step_er1 w B Y s stk M l hm hs hbig hh _ hf
    | ok y =>
      obtain ⟨op, p, n⟩ := y
      rw [hf] at h
      exact c_Step_er2 w B Y s stk M l hm hs hbig hh op p n hf er h
theorem c_Step_ok (w : World) (B Y : Nat) (s : St) (stk : Value) (M : List Sg) (l : List Fr) (hm : MemOk w B Y M) (hs : stkAt w stk l) (hbig : l.length < 1000000) (v : Value) (is : Bool) (sg of_ x n0 : Int) (hma : memAt w B Y v is sg of_ x n0) (r : Res) (h : stR M s l = .ok r) :
    Calls Try.prog 22 #[stV s stk, memV Y] w fun e w' => ∃ stk', e = .returned (.tuple #[stV r.s stk', .int .i64 r.out, .bool r.told, .int .i64 0]) ∧ stkAt w' stk' r.l ∧ memThen w' B Y v is sg of_ x n0 r.st ∧ Off (· = Y) w w' := by
  unfold stR at h
  cases hh : s.hal with
  | true =>
    rw [if_pos hh] at h
    cases h
    refine (c_Step_hal w B Y s stk M l hm hs hbig hh).mono ?_
    rintro e w' ⟨stk', rfl, hs', hb⟩
    exact ⟨stk', rfl, hs', (hb.block Y (World.block_lt_of_cell? w _ hma.facts.1)).trans hma, .of_below hb⟩
  | false =>
    rw [if_neg (by simp [hh])] at h
    cases hf : feR M s with
    | error e => rw [hf] at h; cases h
    | ok y =>
      obtain ⟨op, p, n⟩ := y
      rw [hf] at h
      exact c_Step_go w B Y s stk M l hm hs hbig v is sg of_ x n0 hma hh op p n hf r h
end Go.Proofs.Ytiakonmamkfopaa
