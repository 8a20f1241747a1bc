/- Contracts of package wal: bytes as a head. -/
import Derived.Test.YtpdjenkacefpjaaWf
import Derived.Laws.BitsAllLaws
namespace Go.Proofs.Ytpdjenkacefpjaa
open Go.RowKit Go.ChangeShapes
set_option linter.unusedVariables false
set_option maxRecDepth 100000

/-- the number, of the first k of its bytes -/
def sq (b : Sec) (k : Nat) : Nat := ((b.drop 1).take k).foldl (fun a x => a * 256 + x.toNat) 0
theorem sq_step (b : Sec) (k : Nat) (h : 1 + k < b.length) : sq b (k + 1) = sq b k * 256 + (bt b (1 + k)).toNat := by
  unfold sq bt
  rw [List.take_add_one, List.getElem?_drop, List.getElem?_eq_getElem h, List.foldl_append]
  simp only [Option.toList_some, List.foldl_cons, List.foldl_nil, List.getD_eq_getElem?_getD]
  rw [List.getElem?_eq_getElem h]
  rfl
theorem sq_lt (b : Sec) (hb : b.length = 128) (h1 : bt b 1 = 0) : ∀ k, k ≤ 8 → sq b k < 72057594037927936 ∧ (k < 8 → sq b k * 256 + 255 < 72057594037927936) := by
  have e : ∀ k, k < 8 → sq b (k + 1) = sq b k * 256 + (bt b (1 + k)).toNat := fun k hk => sq_step b k (by omega)
  have l : ∀ k, (bt b (1 + k)).toNat < 256 := fun k => (bt b (1 + k)).toNat_lt
  have a0 : sq b 0 = 0 := rfl
  have a1 : sq b 1 = sq b 0 * 256 + (bt b (1 + 0)).toNat := e 0 (by omega)
  have a2 : sq b 2 = sq b 1 * 256 + (bt b (1 + 1)).toNat := e 1 (by omega)
  have a3 : sq b 3 = sq b 2 * 256 + (bt b (1 + 2)).toNat := e 2 (by omega)
  have a4 : sq b 4 = sq b 3 * 256 + (bt b (1 + 3)).toNat := e 3 (by omega)
  have a5 : sq b 5 = sq b 4 * 256 + (bt b (1 + 4)).toNat := e 4 (by omega)
  have a6 : sq b 6 = sq b 5 * 256 + (bt b (1 + 5)).toNat := e 5 (by omega)
  have a7 : sq b 7 = sq b 6 * 256 + (bt b (1 + 6)).toNat := e 6 (by omega)
  have a8 : sq b 8 = sq b 7 * 256 + (bt b (1 + 7)).toNat := e 7 (by omega)
  have z : (bt b (1 + 0)).toNat = 0 := by rw [h1]; rfl
  have l1 := l 1
  have l2 := l 2
  have l3 := l 3
  have l4 := l 4
  have l5 := l 5
  have l6 := l 6
  have l7 := l 7
  intro k hk
  rcases (show k = 0 ∨ k = 1 ∨ k = 2 ∨ k = 3 ∨ k = 4 ∨ k = 5 ∨ k = 6 ∨ k = 7 ∨ k = 8 by omega) with rfl | rfl | rfl | rfl | rfl | rfl | rfl | rfl | rfl <;> exact ⟨by omega, fun _ => by omega⟩
theorem sq_seq (b : Sec) : sq b 8 = seqOf b := rfl
theorem bt_at1 {w : World} {g o n c : Nat} {b : Sec} (h : BtAt w (.slice (some ⟨g, o, none⟩) n c) b) {j : Nat} (hj : j < b.length) : w.cell? ⟨g, o + j, none⟩ = some (.int .u8 ((bt b j).toNat : Int)) := by
  obtain ⟨ad, c', e, _, _, _, h1⟩ := h
  obtain ⟨g', o', e2, hc⟩ := h1 j _ (List.getElem?_eq_getElem hj)
  have e' : ad = some ⟨g, o, none⟩ := by injection e with a b c; exact a.symm
  rw [e'] at e2
  cases e2
  rw [hc]
  unfold bt
  rw [List.getD_eq_getElem?_getD, List.getElem?_eq_getElem hj]
  rfl
theorem or_byte (a : Nat) (x : UInt8) (h : a * 256 + 255 < 72057594037927936) : bits .or .i64 ((a : Int) * 256) (x.toNat : Int) = ((a * 256 + x.toNat : Nat) : Int) := by
  have hx := x.toNat_lt
  have e1 : (a * 256) ||| x.toNat = a * 256 + x.toNat := by
    have := Nat.shiftLeft_add_eq_or_of_lt (a := a) (b := x.toNat) (i := 8) hx
    rw [Nat.shiftLeft_eq] at this
    exact this.symm
  show IntKind.i64.wrap ((BitVec.ofInt 64 ((a : Int) * 256) ||| BitVec.ofInt 64 (x.toNat : Int)).toNat : Int) = _
  have e2 : ((a : Int) * 256) = ((a * 256 : Nat) : Int) := by simp
  rw [e2, BitVec.ofInt_natCast, BitVec.ofInt_natCast, BitVec.toNat_or, BitVec.toNat_ofNat, BitVec.toNat_ofNat, Nat.mod_eq_of_lt (by omega), Nat.mod_eq_of_lt (by omega), e1]
  exact IntWalk.i64_in _ (by omega)
theorem A.uLI : Try.prog.underlying 35 = some (.slice 3) := by kernel_rfl
/-- the two heads of the reading -/
structure Gr (w wr : World) (acc : Int) (vl : Value) : Prop where
  a : wr.heap[w.heap.size]? = some (.cells #[.int .i64 0, .slice none 0 0] 67 (0, 0))
  h : wr.heap[w.heap.size + 1]? = some (.cells #[.int .i64 acc, vl] 67 (0, 0))
  bl : Below w.heap.size w wr
theorem Gr.cell {w wr : World} {acc : Int} {vl : Value} (h : Gr w wr acc vl) : wr.cell? ⟨w.heap.size + 1, 0, none⟩ = some (.int .i64 acc) ∧ wr.cell? ⟨w.heap.size + 1, 1, none⟩ = some vl ∧ ∀ j, wr.frozen? ⟨w.heap.size + 1, j, none⟩ = false := by
  have := h.h
  refine ⟨?_, ?_, fun j => ?_⟩ <;> simp [World.cell?, World.frozen?, this]
theorem Gr.set {w wr : World} {acc : Int} {vl : Value} (h : Gr w wr acc vl) (n : Int) : Gr w (wr.setCell ⟨w.heap.size + 1, 0, none⟩ (.int .i64 n)) n vl :=
  ⟨by simp [World.setCell, Array.getElem?_modify, h.a], by simp [World.setCell, Array.getElem?_modify, h.h], off_below h.bl (by omega)⟩
theorem zero_ret {w wr : World} {acc : Int} {vl : Value} {n : Nat} (h : Gr w wr acc vl) : (((wr.drewN n).setCell ⟨w.heap.size, 0, none⟩ (.int .i64 0)).setCell ⟨w.heap.size, 1, none⟩ (.slice none 0 0)).cell? ⟨w.heap.size, 0, none⟩ = some (.int .i64 0) ∧ (((wr.drewN n).setCell ⟨w.heap.size, 0, none⟩ (.int .i64 0)).setCell ⟨w.heap.size, 1, none⟩ (.slice none 0 0)).cell? ⟨w.heap.size, 1, none⟩ = some (.slice none 0 0) ∧ Below w.heap.size w (((wr.drewN n).setCell ⟨w.heap.size, 0, none⟩ (.int .i64 0)).setCell ⟨w.heap.size, 1, none⟩ (.slice none 0 0)) := by
  have ha := h.a
  refine ⟨?_, ?_, off_below (off_below (Off.below h.bl (Off.drewN (ex := fun _ => False) (Off.refl _ wr) n) h.bl.size (fun _ h => h.elim)) (Nat.le_refl _)) (Nat.le_refl _)⟩
  · simp [World.cell?, World.setCell, Array.getElem?_modify, ha]
  · simp [World.cell?, World.setCell, Array.getElem?_modify, ha]
theorem Gr.drewN {w wr : World} {acc : Int} {vl : Value} (h : Gr w wr acc vl) (n : Nat) : Gr w (wr.drewN n) acc vl :=
  ⟨h.a, h.h, Off.below h.bl (Off.drewN (ex := fun _ => False) (Off.refl _ wr) n) h.bl.size (fun _ h => h.elim)⟩
theorem it_row {w : World} {A k lc : Nat} {la : Option Addr} {l : List Int} (h : w.ownsRow A 3 1 (.slice la k lc) k (l.map (Value.int .i64))) : ItAt w (.slice la k lc) l ∧ ∀ a n c, Value.slice la k lc = .slice (some a) n c → A ≤ a.block := by
  have hl : l.length = k := by simpa using h.1
  have h0 := h
  rcases h.2 with ⟨e, _⟩ | ⟨g, cap, cur, e, hb, _⟩
  · injection e with e1 e2 e3
    subst e1
    refine ⟨⟨none, lc, by rw [hl], fun j x hj => ?_⟩, fun a n c e => by cases e⟩
    have := (List.getElem?_eq_some_iff.1 hj).1
    omega
  · injection e with e1 e2 e3
    subst e1
    refine ⟨⟨_, lc, by rw [hl], fun j x hj => ⟨g, 0, rfl, ?_⟩⟩, fun a n c e => by injection e with e1 _ _; cases e1; exact hb⟩
    rw [Nat.zero_add]
    exact (row_cell h0 j (by rw [List.getElem?_map, hj]; rfl)).2
theorem some_ret {w wr : World} {q : Int} {la : Option Addr} {k lc : Nat} {xs : List Value} (h : Gr w wr q (.slice la k lc)) (hr : wr.ownsRow (w.heap.size + 2) 3 1 (.slice la k lc) k xs) : ((wr.setCell ⟨w.heap.size, 0, none⟩ (.int .i64 q)).setCell ⟨w.heap.size, 1, none⟩ (.slice la k lc)).cell? ⟨w.heap.size, 0, none⟩ = some (.int .i64 q) ∧ ((wr.setCell ⟨w.heap.size, 0, none⟩ (.int .i64 q)).setCell ⟨w.heap.size, 1, none⟩ (.slice la k lc)).cell? ⟨w.heap.size, 1, none⟩ = some (.slice la k lc) ∧ Below w.heap.size w ((wr.setCell ⟨w.heap.size, 0, none⟩ (.int .i64 q)).setCell ⟨w.heap.size, 1, none⟩ (.slice la k lc)) ∧ ((wr.setCell ⟨w.heap.size, 0, none⟩ (.int .i64 q)).setCell ⟨w.heap.size, 1, none⟩ (.slice la k lc)).ownsRow (w.heap.size + 2) 3 1 (.slice la k lc) k xs := by
  have ha := h.a
  have ho : Off (· = w.heap.size) wr ((wr.setCell ⟨w.heap.size, 0, none⟩ (.int .i64 q)).setCell ⟨w.heap.size, 1, none⟩ (.slice la k lc)) := (off1 wr w.heap.size 0 _).trans (off1 _ w.heap.size 1 _)
  refine ⟨?_, ?_, off_below (off_below h.bl (Nat.le_refl _)) (Nat.le_refl _), ?_⟩
  · simp [World.cell?, World.setCell, Array.getElem?_modify, ha]
  · simp [World.cell?, World.setCell, Array.getElem?_modify, ha]
  · refine ⟨hr.1, ?_⟩
    rcases hr.2 with h | ⟨g, cap, cur, e, hb, hg, h3⟩
    · exact .inl h
    · exact .inr ⟨g, cap, cur, e, hb, ho.keeps hg (fun e => by omega), h3⟩
theorem Gr.off {ex : Nat → Prop} {w wr w' : World} {acc : Int} {vl : Value} (h : Gr w wr acc vl) (ho : Off ex wr w') (h0 : ¬ ex w.heap.size) (h1 : ¬ ex (w.heap.size + 1)) (hex : ∀ i, ex i → w.heap.size ≤ i) : Gr w w' acc vl := ⟨ho.keeps h.a h0, ho.keeps h.h h1, Off.below h.bl ho h.bl.size hex⟩
theorem Gr.set1 {w wr : World} {acc : Int} {vl : Value} (h : Gr w wr acc vl) (v : Value) : Gr w (wr.setCell ⟨w.heap.size + 1, 1, none⟩ v) acc v :=
  ⟨by simp [World.setCell, Array.getElem?_modify, h.a], by simp [World.setCell, Array.getElem?_modify, h.h], off_below h.bl (by omega)⟩
/-- the list, so far -/
def Ls (w wr : World) (b : Sec) (q : Int) (k : Nat) : Prop := ∃ vl, Gr w wr q vl ∧ wr.ownsRow (w.heap.size + 2) 3 1 vl k (((listOf b).take k).map (Value.int .i64)) ∧ w.heap.size + 2 ≤ wr.heap.size
/-- what read answers -/
def Rh (b : Sec) (w : World) (e : Ending) (w' : World) : Prop := (isHead b = false → e = .returned (.tuple #[.agg #[.int .i64 0, .slice none 0 0], .bool false])) ∧ (isHead b = true → ∃ vl, e = .returned (.tuple #[.agg #[.int .i64 (seqOf b : Nat), vl], .bool true]) ∧ ItAt w' vl (listOf b) ∧ ∀ a n c, vl = .slice (some a) n c → w.heap.size ≤ a.block) ∧ Below w.heap.size w w'
set_option maxHeartbeats 2000000 in
theorem c_read (w : World) (v : Value) (b : Sec) (hv : BtAt w v b) (hb : b.length = 128) (h1 : bt b 1 = 0) (h9 : isHead b = true → (bt b 9).toNat ≤ 40) : Calls Try.prog 27 #[v] w (Rh b w) := by
  have HV := Lib.hid hv
  obtain ⟨ad, c, e, hc1, hc2, _, h4⟩ := hv
  rw [hb] at e hc1
  obtain ⟨g, o, rfl, hg0⟩ := h4 0 _ (List.getElem?_eq_getElem (by omega))
  subst e
  have hgl : Hid (g < w.heap.size) := Lib.hid (by
    rcases Nat.lt_or_ge g w.heap.size with h | h
    · exact h
    · simp [World.cell?, Array.getElem?_eq_none h] at hg0)
  have HB := Lib.hid hb
  have HS := Lib.hid (sq_lt b hb h1)
  have H9 := Lib.hid h9
  clear h4 hg0 h1 hc2 hb h9
  obtain ⟨i0, hin0, hz0, hz1, hz2'⟩ := info_parts A.infoI
  have k1 : (9 : Int) ≤ (c : Int) := by omega
  have k2 : ¬ (c = 1) := by omega
  go_enter Try.func27, Try.ntmps27
  go_wp2_with fail
  obtain ⟨W, hW, hG⟩ : ∃ W, (w.alloc (.cells #[.int .i64 0, .slice none 0 0] 67)).alloc (.cells #[.int .i64 0, .slice none 0 0] 67) = W ∧ Hid (Gr w W ((sq b 0 : Nat) : Int) (.slice none 0 0)) := ⟨_, rfl, Lib.hid (by
    have h0 : ((sq b 0 : Nat) : Int) = 0 := rfl
    rw [h0]
    exact ⟨(heap_alloc_old _ _ (by simp)).trans (heap_alloc_new w _), by have := heap_alloc_new (w.alloc (.cells #[.int .i64 0, .slice none 0 0] 67)) (.cells #[.int .i64 0, .slice none 0 0] 67); simpa using this, below_al (below_al0 _ _) _⟩)⟩
  rw [hW]
  clear hW k1 k2
  go_loopw [12] (fun kv wr => ∃ k : Nat, kv = .int .i64 k ∧ k ≤ 8 ∧ Hid (Gr w wr ((sq b k : Nat) : Int) (.slice none 0 0))) (fun kv _ => 8 - (intOf kv).toNat)
  case atStart => exact ⟨0, rfl, by omega, hG⟩
  case round =>
    clear hG
    obtain ⟨k, rfl, hk, G⟩ := hrel
    by_cases hlt : k < 8
    · have hlt' : (k : Int) < 8 := by omega
      have hbt := HV.out.off (.of_below (ex := fun _ => False) G.out.bl) (fun _ _ _ _ h => h)
      have cx := bt_at1 hbt (j := 1 + k) (by rw [HB.out]; omega)
      rw [← Nat.add_assoc] at cx
      have c0 := G.out.cell.1
      have f0 := G.out.cell.2.2 0
      obtain ⟨x, hx⟩ : ∃ x, bt b (1 + k) = x := ⟨_, rfl⟩
      have hst := sq_step b k (by rw [HB.out]; omega)
      have hlb := (HS.out k hk).2 hlt
      rw [hx] at cx hst
      obtain ⟨a, ha⟩ : ∃ a, sq b k = a := ⟨_, rfl⟩
      rw [ha] at c0 hst hlb
      have hor := or_byte a x hlb
      have hlt2 : a * 256 < 72057594037927936 := by omega
      have hwx : wrap64 ((x.toNat : Nat) : Int) = (x.toNat : Int) := by have := x.toNat_lt; unfold wrap64; omega
      have hsi : (a : Int) * 256 + (x.toNat : Int) = ((sq b (k + 1) : Nat) : Int) := by omega
      replace hst := Lib.hid hst
      clear hbt hlb
      go_wp2_with fail
      have G2 := Lib.hid (G.out.set ((sq b (k + 1) : Nat) : Int))
      clear c0 f0 hor hwx cx hlt2 hsi
      go_roundw
      case rel => exact ⟨k + 1, by go_num, by omega, G2⟩
      case measure => simp [intOf]; omega
    · have hlt' : ¬ (k : Int) < 8 := by omega
      obtain rfl : k = 8 := by omega
      have hq := Lib.hid (HS.out 8 (by omega)).1
      rw [sq_seq] at G hq
      obtain ⟨q, hqq⟩ : ∃ q, seqOf b = q := ⟨_, rfl⟩
      have hbt := HV.out.off (.of_below (ex := fun _ => False) G.out.bl) (fun _ _ _ _ h => h)
      have cz := bt_at1 hbt (j := 0) (by rw [HB.out]; omega)
      have cy := bt_at1 hbt (j := 127) (by rw [HB.out]; omega)
      rw [Nat.add_zero] at cz
      obtain ⟨x, hx⟩ : ∃ x, bt b 0 = x := ⟨_, rfl⟩
      obtain ⟨y, hy⟩ : ∃ x, bt b 127 = x := ⟨_, rfl⟩
      rw [hqq] at G hq
      rw [hx] at cz
      rw [hy] at cy
      have c0 := G.out.cell.1
      clear hbt
      have a0 : wr.cell? ⟨w.heap.size, 0, none⟩ = some (.int .i64 0) := by have := G.out.a; simp [World.cell?, this]
      have a1 : wr.cell? ⟨w.heap.size, 1, none⟩ = some (.slice none 0 0) := by have := G.out.a; simp [World.cell?, this]
      have f0 : ∀ j, wr.frozen? ⟨w.heap.size, j, none⟩ = false := by have := G.out.a; intro j; simp [World.frozen?, this]
      have f00 := f0 0
      have f01 := f0 1
      by_cases hx0 : x = 0
      · subst hx0
        have hF : Hid (isHead b = false) := Lib.hid (by unfold isHead; rw [hx, hy, hqq]; rfl)
        go_wp2_with fail
        go_quiet ((go_at_call 41; refine Calls.quiet_of_same ((c_sign _ q (by have := hq.out; omega)).mono (fun e w' h => ⟨h.1, h.2.symm⟩))))
        go_wp2
        obtain ⟨b0, b1, bb⟩ := zero_ret (n := nq) G.out
        exact bodyPost_ret (v := .tuple #[.agg #[.int .i64 0, .slice none 0 0], .bool false]) (by simp [results, Try.results27, go_sem, b0, b1]) rfl ⟨fun _ => rfl, fun h => absurd h (by rw [hF.out]; exact Bool.false_ne_true), bb⟩
      · have t0 : ((x.toNat : Int) == 0) = false := by rw [beq_eq_false_iff_ne]; intro h; exact hx0 (UInt8.toNat_inj.1 (by simpa using h))
        by_cases hxy : x = y
        · subst hxy
          by_cases hxs : x = sg q
          · have hT : Hid (isHead b = true) := Lib.hid (by unfold isHead; rw [hx, hy, hqq, ← hxs]; simp [hx0])
            obtain ⟨z, hz⟩ : ∃ z, sg q = z := ⟨_, rfl⟩
            have hxz : x = z := hxs.trans hz
            subst hxz
            have hsg : Hid (∀ w' : World, Calls Try.prog 41 #[.int .i64 (q : Int)] w' fun e w'' => e = .returned (.int .u8 (x.toNat : Int)) ∧ w'' = w') := Lib.hid (fun w' => by have h := c_sign w' q (by have := hq.out; omega); rw [hz] at h; exact h.mono (fun e w'' h => ⟨h.1, h.2.symm⟩))
            replace hz := Lib.hid hz
            clear hxs
            have h9 := H9.out hT.out
            have hbt := HV.out.off (.of_below (ex := fun _ => False) G.out.bl) (fun _ _ _ _ h => h)
            have c9 := bt_at1 hbt (j := 9) (by rw [HB.out]; omega)
            obtain ⟨n9, hn9⟩ : ∃ n, (bt b 9).toNat = n := ⟨_, rfl⟩
            have hn9' := Lib.hid hn9
            rw [hn9] at c9 h9
            clear hbt hn9
            go_wp2_with fail
            go_quiet ((go_at_call 41; refine Calls.quiet_of_same (hsg.out _)))
            have c9' : (wr.drewN nq).cell? ⟨g, o + 9, none⟩ = some (.int .u8 (n9 : Int)) := c9
            go_wp2_with fail
            have hw9 : wrap64 (n9 : Int) = (n9 : Int) := by unfold wrap64; omega
            have L0 : Hid (Ls w (wr.drewN nq) b q 0) := Lib.hid ⟨_, G.out.drewN nq, World.ownsRow_nil _ _ _ _, by have := (Array.getElem?_eq_some_iff.1 G.out.h).1; show _ ≤ wr.heap.size; omega⟩
            obtain ⟨W2, hW2⟩ : ∃ W2, wr.drewN nq = W2 := ⟨_, rfl⟩
            rw [hW2] at L0 ⊢
            clear hW2 c9' c9 G cz cy c0 a0 a1 f0 f00 f01 hw9 hsg
            go_loopw [51] (fun kv wr => ∃ k : Nat, kv = .int .i64 k ∧ k ≤ n9 ∧ Hid (Ls w wr b q k)) (fun kv _ => n9 - (intOf kv).toNat)
            case atStart => exact ⟨0, rfl, by omega, L0⟩
            case round =>
              clear L0
              obtain ⟨k, rfl, hk, L⟩ := hrel
              obtain ⟨vl, G, R, hz2⟩ := L.out
              obtain ⟨la, lc, hlv, _, _⟩ := row_shape R
              subst hlv
              replace hz2 := Lib.hid hz2
              replace G := Lib.hid G
              replace R := Lib.hid R
              by_cases hlt : k < n9
              · have hlt' : (k : Int) < (n9 : Int) := by omega
                have hbt := HV.out.off (.of_below (ex := fun _ => False) G.out.bl) (fun _ _ _ _ h => h)
                have ca := bt_at1 hbt (j := 10 + 2 * k) (by rw [HB.out]; omega)
                have cb := bt_at1 hbt (j := 11 + 2 * k) (by rw [HB.out]; omega)
                obtain ⟨xa, hxa⟩ : ∃ x, bt b (10 + 2 * k) = x := ⟨_, rfl⟩
                obtain ⟨xb, hxb⟩ : ∃ x, bt b (11 + 2 * k) = x := ⟨_, rfl⟩
                rw [hxa] at ca
                rw [hxb] at cb
                obtain ⟨pa, hpa⟩ : ∃ p, 10 + 2 * k = p := ⟨_, rfl⟩
                obtain ⟨pb, hpb⟩ : ∃ p, 11 + 2 * k = p := ⟨_, rfl⟩
                rw [hpa] at ca
                rw [hpb] at cb
                have cl := G.out.cell.2.1
                have fl := G.out.cell.2.2 1
                clear hbt
                have wa1 : IntKind.i64.wrap (2 * (k : Int)) = 2 * (k : Int) := IntWalk.i64_in _ (by omega)
                have wa2 : IntKind.i64.wrap (10 + 2 * (k : Int)) = (pa : Int) := by rw [IntWalk.i64_in _ (by omega)]; omega
                have wa3 : IntKind.i64.wrap ((pa : Int) + 1) = (pb : Int) := by rw [IntWalk.i64_in _ (by omega)]; omega
                have wb1 : (0 : Int) ≤ (pa : Int) := by omega
                have wb2 : (pa : Int) < 128 := by omega
                have wb3 : (0 : Int) ≤ (pb : Int) := by omega
                have wb4 : (pb : Int) < 128 := by omega
                have wo : bits .or .i64 ((xa.toNat : Int) * 256) (xb.toNat : Int) = ((xa.toNat * 256 + xb.toNat : Nat) : Int) := or_byte xa.toNat xb (by have := xa.toNat_lt; omega)
                go_wp2_with fail
                refine wp_region_held_drew (S := fun w' => w'.cell? ⟨g, o + pa, none⟩ = some (.int .u8 (xa.toNat : Int)) ∧ w'.cell? ⟨g, o + pb, none⟩ = some (.int .u8 (xb.toNat : Int))) (by kernel_rfl) ?_ (fun hHeld => ?_)
                · exact ⟨ca, cb⟩
                refine wpAnyH_take (i := 0) (oi := ⟨_, _, _, _, _, _⟩) (v := ?_) rfl (by kernel_rfl) (by kernel_rfl) (by kernel_rfl) (fun _ _ _ h => h) (Or.inl ⟨by rfl, ?_⟩) (by assumption) ?_
                rotate_left
                · intro w hSw; (try dsimp only at hSw); go_split_ands; go_simp; (try with_reducible rfl)
                try simp only [Act.put, List.setIfInBounds_toArray, List.set_cons_zero, List.set_cons_succ]
                refine wpAnyH_take (i := 2) (oi := ⟨_, _, _, _, _, _⟩) (v := ?_) rfl (by kernel_rfl) (by kernel_rfl) (by kernel_rfl) (fun _ _ _ h => h) (Or.inl ⟨by rfl, ?_⟩) (by assumption) ?_
                rotate_left
                · intro w hSw; (try dsimp only at hSw); go_split_ands; go_simp; (try with_reducible rfl)
                try simp only [Act.put, List.setIfInBounds_toArray, List.set_cons_zero, List.set_cons_succ]
                refine wpAnyH_take (i := 3) (oi := ⟨_, _, _, _, _, _⟩) (v := ?_) rfl (by kernel_rfl) (by kernel_rfl) (by kernel_rfl) (fun _ _ _ h => h) (Or.inl ⟨by rfl, ?_⟩) (by assumption) ?_
                rotate_left
                · intro w hSw; (try dsimp only at hSw); go_split_ands; go_simp; (try with_reducible rfl)
                try simp only [Act.put, List.setIfInBounds_toArray, List.set_cons_zero, List.set_cons_succ]
                refine wpAnyH_take (i := 4) (oi := ⟨_, _, _, _, _, _⟩) (v := ?_) rfl (by kernel_rfl) (by kernel_rfl) (by kernel_rfl) (fun _ _ _ h => h) (Or.inl ⟨by rfl, ?_⟩) (by assumption) ?_
                rotate_left
                · intro w hSw; (try dsimp only at hSw); go_split_ands; go_simp; (try with_reducible rfl)
                try simp only [Act.put, List.setIfInBounds_toArray, List.set_cons_zero, List.set_cons_succ]
                refine wpAnyH_take (i := 5) (oi := ⟨_, _, _, _, _, _⟩) (v := ?_) rfl (by kernel_rfl) (by kernel_rfl) (by kernel_rfl) (fun _ _ _ h => h) (Or.inl ⟨by rfl, ?_⟩) (by assumption) ?_
                rotate_left
                · intro w hSw; (try dsimp only at hSw); go_split_ands; go_simp; (try with_reducible rfl)
                try simp only [Act.put, List.setIfInBounds_toArray, List.set_cons_zero, List.set_cons_succ]
                refine wpAnyH_take (i := 6) (oi := ⟨_, _, _, _, _, _⟩) (v := ?_) rfl (by kernel_rfl) (by kernel_rfl) (by kernel_rfl) (fun _ _ _ h => h) (Or.inl ⟨by rfl, ?_⟩) (by assumption) ?_
                rotate_left
                · intro w hSw; (try dsimp only at hSw); go_split_ands; go_simp; (try with_reducible rfl)
                try simp only [Act.put, List.setIfInBounds_toArray, List.set_cons_zero, List.set_cons_succ]
                refine wpAnyH_take (i := 7) (oi := ⟨_, _, _, _, _, _⟩) (v := ?_) rfl (by kernel_rfl) (by kernel_rfl) (by kernel_rfl) (fun _ _ _ h => h) (Or.inl ⟨by rfl, ?_⟩) (by assumption) ?_
                rotate_left
                · intro w hSw; (try dsimp only at hSw); go_split_ands; go_simp; (try with_reducible rfl)
                try simp only [Act.put, List.setIfInBounds_toArray, List.set_cons_zero, List.set_cons_succ]
                refine wpAnyH_take (i := 8) (oi := ⟨_, _, _, _, _, _⟩) (v := ?_) rfl (by kernel_rfl) (by kernel_rfl) (by kernel_rfl) (fun _ _ _ h => h) (Or.inl ⟨by rfl, ?_⟩) (by assumption) ?_
                rotate_left
                · intro w hSw; (try dsimp only at hSw); go_split_ands; go_simp; (try with_reducible rfl)
                try simp only [Act.put, List.setIfInBounds_toArray, List.set_cons_zero, List.set_cons_succ]
                refine wpAnyH_take (i := 9) (oi := ⟨_, _, _, _, _, _⟩) (v := ?_) rfl (by kernel_rfl) (by kernel_rfl) (by kernel_rfl) (fun _ _ _ h => h) (Or.inl ⟨by rfl, ?_⟩) (by assumption) ?_
                rotate_left
                · intro w hSw; (try dsimp only at hSw); go_split_ands; go_simp; (try with_reducible rfl)
                try simp only [Act.put, List.setIfInBounds_toArray, List.set_cons_zero, List.set_cons_succ]
                refine wpAnyH_take (i := 10) (oi := ⟨_, _, _, _, _, _⟩) (v := ?_) rfl (by kernel_rfl) (by kernel_rfl) (by kernel_rfl) (fun _ _ _ h => h) (Or.inl ⟨by rfl, ?_⟩) (by assumption) ?_
                rotate_left
                · intro w hSw; (try dsimp only at hSw); go_split_ands; go_simp; (try with_reducible rfl)
                try simp only [Act.put, List.setIfInBounds_toArray, List.set_cons_zero, List.set_cons_succ]
                refine wpAnyH_take (i := 11) (oi := ⟨_, _, _, _, _, _⟩) (v := ?_) rfl (by kernel_rfl) (by kernel_rfl) (by kernel_rfl) (fun _ _ _ h => h) (Or.inl ⟨by rfl, ?_⟩) (by assumption) ?_
                rotate_left
                · intro w hSw; (try dsimp only at hSw); go_split_ands; go_simp; (try with_reducible rfl)
                try simp only [Act.put, List.setIfInBounds_toArray, List.set_cons_zero, List.set_cons_succ]
                refine wpAnyH_take (i := 12) (oi := ⟨_, _, _, _, _, _⟩) (v := ?_) rfl (by kernel_rfl) (by kernel_rfl) (by kernel_rfl) (fun _ _ _ h => h) (Or.inl ⟨by rfl, ?_⟩) (by assumption) ?_
                rotate_left
                · intro w hSw; (try dsimp only at hSw); go_split_ands; go_simp; (try with_reducible rfl)
                try simp only [Act.put, List.setIfInBounds_toArray, List.set_cons_zero, List.set_cons_succ]
                refine wpAnyH_take (i := 13) (oi := ⟨_, _, _, _, _, _⟩) (v := ?_) rfl (by kernel_rfl) (by kernel_rfl) (by kernel_rfl) (fun _ _ _ h => h) (Or.inl ⟨by rfl, ?_⟩) (by assumption) ?_
                rotate_left
                · intro w hSw; (try dsimp only at hSw); go_split_ands; go_simp; (try with_reducible rfl)
                try simp only [Act.put, List.setIfInBounds_toArray, List.set_cons_zero, List.set_cons_succ]
                refine wpAnyH_take (i := 14) (oi := ⟨_, _, _, _, _, _⟩) (v := ?_) rfl (by kernel_rfl) (by kernel_rfl) (by kernel_rfl) (fun _ _ _ h => h) (Or.inl ⟨by rfl, ?_⟩) (by assumption) ?_
                rotate_left
                · intro w hSw; (try dsimp only at hSw); go_split_ands; go_simp; (try with_reducible rfl)
                try simp only [Act.put, List.setIfInBounds_toArray, List.set_cons_zero, List.set_cons_succ]
                refine wpAnyH_take (i := 15) (oi := ⟨_, _, _, _, _, _⟩) (v := ?_) rfl (by kernel_rfl) (by kernel_rfl) (by kernel_rfl) (fun _ _ _ h => h) (Or.inl ⟨by rfl, ?_⟩) (by assumption) ?_
                rotate_left
                · intro w hSw; (try dsimp only at hSw); go_split_ands; go_simp; (try with_reducible rfl)
                try simp only [Act.put, List.setIfInBounds_toArray, List.set_cons_zero, List.set_cons_succ]
                refine wpAnyH_take (i := 16) (oi := ⟨_, _, _, _, _, _⟩) (v := ?_) rfl (by kernel_rfl) (by kernel_rfl) (by kernel_rfl) (fun _ _ _ h => h) (Or.inl ⟨by rfl, ?_⟩) (by assumption) ?_
                rotate_left
                · intro w hSw; (try dsimp only at hSw); go_split_ands; go_simp; (try with_reducible rfl)
                try simp only [Act.put, List.setIfInBounds_toArray, List.set_cons_zero, List.set_cons_succ]
                refine wpAnyH_take (i := 17) (oi := ⟨_, _, _, _, _, _⟩) (v := ?_) rfl (by kernel_rfl) (by kernel_rfl) (by kernel_rfl) (fun _ _ _ h => h) (Or.inl ⟨by rfl, ?_⟩) (by assumption) ?_
                rotate_left
                · intro w hSw; (try dsimp only at hSw); go_split_ands; go_simp; (try with_reducible rfl)
                try simp only [Act.put, List.setIfInBounds_toArray, List.set_cons_zero, List.set_cons_succ]
                refine wpAnyH_take (i := 18) (oi := ⟨_, _, _, _, _, _⟩) (v := ?_) rfl (by kernel_rfl) (by kernel_rfl) (by kernel_rfl) (fun _ _ _ h => h) (Or.inl ⟨by rfl, ?_⟩) (by assumption) ?_
                rotate_left
                · intro w hSw; (try dsimp only at hSw); go_split_ands; go_simp; (try with_reducible rfl)
                try simp only [Act.put, List.setIfInBounds_toArray, List.set_cons_zero, List.set_cons_succ]
                have hval : Hid (bits .or .i64 (IntKind.i64.wrap (IntKind.i64.wrap (xa.toNat : Int) * 256)) (IntKind.i64.wrap (xb.toNat : Int)) = ((xa.toNat * 256 + xb.toNat : Nat) : Int)) := Lib.hid (by
                  have h1 := xa.toNat_lt
                  have h2 := xb.toNat_lt
                  rw [IntWalk.i64_in (xa.toNat : Int) (by omega), IntWalk.i64_in ((xa.toNat : Int) * 256) (by omega), IntWalk.i64_in (xb.toNat : Int) (by omega)]
                  exact wo)
                have hgw : Hid (g < wr.heap.size) := Lib.hid (by have := hgl.out; have := G.out.bl.size; omega)
                have htk : Hid (((listOf b).take (k + 1)).map (Value.int .i64) = ((listOf b).take k).map (Value.int .i64) ++ [.int .i64 ((xa.toNat * 256 + xb.toNat : Nat) : Int)]) := Lib.hid (by
                  have e : (listOf b)[k]? = some ((xa.toNat * 256 + xb.toNat : Nat) : Int) := by
                    unfold listOf
                    rw [List.getElem?_map, List.getElem?_range (by rw [hn9'.out]; exact hlt), Option.map_some, hxa, hxb]
                    simp
                  rw [List.take_add_one, e, List.map_append]
                  rfl)
                refine wpAnyH_ready (rs := [1, 19]) (by kernel_rfl) (by simp) (AllReadyH.cons (o := ⟨_, _, _, _, _, _⟩) rfl (fun K hK => ?_) (AllReadyH.cons (o := ⟨_, _, _, _, _, _⟩) rfl (fun K hK => ?_) AllReadyH.nil))
                · go_simp
                  refine hK.out _ _ ?_ (fun hHeld => ?_)
                  · (constructor <;> first | (refine (Below.cell (w := wr) (p := ⟨g, o + pa, none⟩) ?_ hgw.out).trans ca; (repeat (first | exact Below.refl _ _ | refine below_drew ?_ | refine below_al ?_ _)); done) | (refine (Below.cell (w := wr) (p := ⟨g, o + pb, none⟩) ?_ hgw.out).trans cb; (repeat (first | exact Below.refl _ _ | refine below_drew ?_ | refine below_al ?_ _)); done))
                  clear hK K
                  try simp only [Act.put, List.setIfInBounds_toArray, List.set_cons_zero, List.set_cons_succ]
                  refine wpAnyH_ready (rs := [19]) (by kernel_rfl) (by simp) (AllReadyH.cons (o := ⟨_, _, _, _, _, _⟩) rfl (fun K hK => ?_) AllReadyH.nil)
                  go_simp
                  rw [hval.out]
                  refine hK.out _ _ ?_ (fun hHeld => ?_)
                  · (constructor <;> first | (refine (Below.cell (w := wr) (p := ⟨g, o + pa, none⟩) ?_ hgw.out).trans ca; (repeat (first | exact Below.refl _ _ | refine below_drew ?_ | refine below_al ?_ _)); done) | (refine (Below.cell (w := wr) (p := ⟨g, o + pb, none⟩) ?_ hgw.out).trans cb; (repeat (first | exact Below.refl _ _ | refine below_drew ?_ | refine below_al ?_ _)); done))
                  clear hK K
                  try simp only [Act.put, List.setIfInBounds_toArray, List.set_cons_zero, List.set_cons_succ]
                  obtain ⟨D, hD, BD⟩ : ∃ D, (wr.alloc (.cells #[.int .i64 ((xa.toNat * 256 + xb.toNat : Nat) : Int)] 3)).drew = D ∧ Hid (Below wr.heap.size wr D) := ⟨_, rfl, Lib.hid (below_drew (below_al0 _ _))⟩
                  rw [hD]
                  have GD : Hid (Gr w D q (.slice la k lc)) := Lib.hid (G.out.off (.of_below (ex := fun _ => False) BD.out) (fun h => h) (fun h => h) (fun _ h => h.elim))
                  have RD : Hid (D.ownsRow (w.heap.size + 2) 3 1 (.slice la k lc) k (((listOf b).take k).map (Value.int .i64))) := Lib.hid (Off.row (.of_below (ex := fun _ => False) BD.out) R.out (fun _ h => h.elim))
                  have ID : Hid (D.heap[wr.heap.size]? = some (.cells #[.int .i64 ((xa.toNat * 256 + xb.toNat : Nat) : Int)] 3 (0, 0))) := Lib.hid (by rw [← hD]; exact heap_alloc_new wr _)
                  clear hD
                  refine wpAnyH_ready (rs := [20]) (by kernel_rfl) (by simp) (AllReadyH.cons (o := ⟨_, _, _, _, _, _⟩) rfl (fun K hK => ?_) AllReadyH.nil)
                  rw [if_pos (by rfl)]
                  refine wp_append_own _ (.tmp 55) (.tmp 73) 35 rfl (w.heap.size + 2) 3 i0 (.int .i64 0) 1 8 A.uLI hin0 hz0 hz1 hz2' rfl (by decide) (.slice la k lc) k (((listOf b).take k).map (Value.int .i64)) rfl (RD.out) ⟨wr.heap.size, 0, none⟩ 1 1 [.int .i64 ((xa.toNat * 256 + xb.toNat : Nat) : Int)] rfl rfl (fun j u hj => (by match j, hj with | 0, hj => (cases hj; exact cell_of_row _ _ 0 _ _ _ ID.out) | (z + 1), hj => simp at hj)) (by simp [Value.oneCell']) (by unfold maxLen; omega) (by omega) (by have := hz2.out; have := BD.out.size; omega) ?_
                  intro v' X hown hgrow _
                  have OX : Hid (Off (fun i => w.heap.size + 2 ≤ i) D X) := Lib.hid ((Off.refl _ _).grown hgrow (fun i hi => .inl (own_ge RD.out hi)))
                  have GX : Hid (Gr w X q (.slice la k lc)) := Lib.hid (GD.out.off OX.out (fun h => by omega) (fun h => by omega) (fun i h => by omega))
                  have cX := GX.out.cell.2.1
                  have fX := GX.out.cell.2.2 1
                  have caX : Hid (X.cell? ⟨g, o + pa, none⟩ = some (.int .u8 (xa.toNat : Int))) := Lib.hid (off_cell OX.out ((BD.out.cell (p := ⟨g, o + pa, none⟩) hgw.out).trans ca) (by have := hgl.out; show ¬ (w.heap.size + 2 ≤ g); omega))
                  have cbX : Hid (X.cell? ⟨g, o + pb, none⟩ = some (.int .u8 (xb.toNat : Int))) := Lib.hid (off_cell OX.out ((BD.out.cell (p := ⟨g, o + pb, none⟩) hgw.out).trans cb) (by have := hgl.out; show ¬ (w.heap.size + 2 ≤ g); omega))
                  obtain ⟨ga, gc, hv'⟩ := row_some hown (by omega)
                  subst hv'
                  replace hown := Lib.hid hown
                  refine hK.out _ _ ?_ (fun hHeld => ?_)
                  · exact ⟨caX.out, cbX.out⟩
                  clear hK K
                  try simp only [Act.put, List.setIfInBounds_toArray, List.set_cons_zero, List.set_cons_succ]
                  refine wpAnyH_take (i := 21) (oi := ⟨_, _, _, _, _, _⟩) (v := ?_) rfl (by kernel_rfl) (by kernel_rfl) (by kernel_rfl) (fun _ _ _ h => h) (Or.inl ⟨by rfl, ?_⟩) (by assumption) ?_
                  rotate_left
                  · intro w hSw; (try dsimp only at hSw); go_split_ands; go_simp; (try with_reducible rfl)
                  try simp only [Act.put, List.setIfInBounds_toArray, List.set_cons_zero, List.set_cons_succ]
                  refine wpAnyH_ready (rs := [22]) (by kernel_rfl) (by simp) (AllReadyH.cons (o := ⟨_, _, _, _, _, _⟩) rfl (fun K hK => ?_) AllReadyH.nil)
                  go_simp
                  refine hK.out _ _ ?_ (fun hHeld => ?_)
                  · exact ⟨off_cell (off1 X (w.heap.size + 1) 1 _) caX.out (by have := hgl.out; show ¬ (g = w.heap.size + 1); omega), off_cell (off1 X (w.heap.size + 1) 1 _) cbX.out (by have := hgl.out; show ¬ (g = w.heap.size + 1); omega)⟩
                  clear hK K
                  try simp only [Act.put, List.setIfInBounds_toArray, List.set_cons_zero, List.set_cons_succ]
                  refine wpAnyH_done (by kernel_rfl) ?_ _
                  have LL : Hid (Ls w (X.setCell ⟨w.heap.size + 1, 1, none⟩ (.slice (some ⟨ga, 0, none⟩) (k + 1) gc)) b q (k + 1)) := Lib.hid ⟨_, GX.out.set1 _, by rw [htk.out]; exact Off.rowAt (off1 X (w.heap.size + 1) 1 _) hown.out (by have := (row_blk hown.out).1; show ¬ (ga = w.heap.size + 1); omega), by have := hz2.out; have := BD.out.size; have := OX.out.size; show _ ≤ (X.setCell _ _).heap.size; simp; omega⟩
                  clear cX fX wa1 wa2 wa3 wb1 wb2 wb3 wb4 wo ca cb cl fl
                  go_wp2
                  go_roundw
                  case rel => exact ⟨k + 1, by go_num, by omega, LL⟩
                  case measure => simp [intOf]; omega
                · go_simp
                  rw [hval.out]
                  refine hK.out _ _ ?_ (fun hHeld => ?_)
                  · (constructor <;> first | (refine (Below.cell (w := wr) (p := ⟨g, o + pa, none⟩) ?_ hgw.out).trans ca; (repeat (first | exact Below.refl _ _ | refine below_drew ?_ | refine below_al ?_ _)); done) | (refine (Below.cell (w := wr) (p := ⟨g, o + pb, none⟩) ?_ hgw.out).trans cb; (repeat (first | exact Below.refl _ _ | refine below_drew ?_ | refine below_al ?_ _)); done))
                  clear hK K
                  try simp only [Act.put, List.setIfInBounds_toArray, List.set_cons_zero, List.set_cons_succ]
                  obtain ⟨D, hD, BD⟩ : ∃ D, (wr.alloc (.cells #[.int .i64 ((xa.toNat * 256 + xb.toNat : Nat) : Int)] 3)).drew = D ∧ Hid (Below wr.heap.size wr D) := ⟨_, rfl, Lib.hid (below_drew (below_al0 _ _))⟩
                  rw [hD]
                  have GD : Hid (Gr w D q (.slice la k lc)) := Lib.hid (G.out.off (.of_below (ex := fun _ => False) BD.out) (fun h => h) (fun h => h) (fun _ h => h.elim))
                  have RD : Hid (D.ownsRow (w.heap.size + 2) 3 1 (.slice la k lc) k (((listOf b).take k).map (Value.int .i64))) := Lib.hid (Off.row (.of_below (ex := fun _ => False) BD.out) R.out (fun _ h => h.elim))
                  have ID : Hid (D.heap[wr.heap.size]? = some (.cells #[.int .i64 ((xa.toNat * 256 + xb.toNat : Nat) : Int)] 3 (0, 0))) := Lib.hid (by rw [← hD]; exact heap_alloc_new wr _)
                  clear hD
                  have cD := GD.out.cell.2.1
                  refine wpAnyH_ready (rs := [1]) (by kernel_rfl) (by simp) (AllReadyH.cons (o := ⟨_, _, _, _, _, _⟩) rfl (fun K hK => ?_) AllReadyH.nil)
                  go_simp
                  refine hK.out _ _ ?_ (fun hHeld => ?_)
                  · exact ⟨(BD.out.cell (p := ⟨g, o + pa, none⟩) hgw.out).trans ca, (BD.out.cell (p := ⟨g, o + pb, none⟩) hgw.out).trans cb⟩
                  clear hK K
                  try simp only [Act.put, List.setIfInBounds_toArray, List.set_cons_zero, List.set_cons_succ]
                  clear cD
                  refine wpAnyH_ready (rs := [20]) (by kernel_rfl) (by simp) (AllReadyH.cons (o := ⟨_, _, _, _, _, _⟩) rfl (fun K hK => ?_) AllReadyH.nil)
                  rw [if_pos (by rfl)]
                  refine wp_append_own _ (.tmp 55) (.tmp 73) 35 rfl (w.heap.size + 2) 3 i0 (.int .i64 0) 1 8 A.uLI hin0 hz0 hz1 hz2' rfl (by decide) (.slice la k lc) k (((listOf b).take k).map (Value.int .i64)) rfl (RD.out) ⟨wr.heap.size, 0, none⟩ 1 1 [.int .i64 ((xa.toNat * 256 + xb.toNat : Nat) : Int)] rfl rfl (fun j u hj => (by match j, hj with | 0, hj => (cases hj; exact cell_of_row _ _ 0 _ _ _ ID.out) | (z + 1), hj => simp at hj)) (by simp [Value.oneCell']) (by unfold maxLen; omega) (by omega) (by have := hz2.out; have := BD.out.size; omega) ?_
                  intro v' X hown hgrow _
                  have OX : Hid (Off (fun i => w.heap.size + 2 ≤ i) D X) := Lib.hid ((Off.refl _ _).grown hgrow (fun i hi => .inl (own_ge RD.out hi)))
                  have GX : Hid (Gr w X q (.slice la k lc)) := Lib.hid (GD.out.off OX.out (fun h => by omega) (fun h => by omega) (fun i h => by omega))
                  have cX := GX.out.cell.2.1
                  have fX := GX.out.cell.2.2 1
                  have caX : Hid (X.cell? ⟨g, o + pa, none⟩ = some (.int .u8 (xa.toNat : Int))) := Lib.hid (off_cell OX.out ((BD.out.cell (p := ⟨g, o + pa, none⟩) hgw.out).trans ca) (by have := hgl.out; show ¬ (w.heap.size + 2 ≤ g); omega))
                  have cbX : Hid (X.cell? ⟨g, o + pb, none⟩ = some (.int .u8 (xb.toNat : Int))) := Lib.hid (off_cell OX.out ((BD.out.cell (p := ⟨g, o + pb, none⟩) hgw.out).trans cb) (by have := hgl.out; show ¬ (w.heap.size + 2 ≤ g); omega))
                  obtain ⟨ga, gc, hv'⟩ := row_some hown (by omega)
                  subst hv'
                  replace hown := Lib.hid hown
                  refine hK.out _ _ ?_ (fun hHeld => ?_)
                  · exact ⟨caX.out, cbX.out⟩
                  clear hK K
                  try simp only [Act.put, List.setIfInBounds_toArray, List.set_cons_zero, List.set_cons_succ]
                  refine wpAnyH_take (i := 21) (oi := ⟨_, _, _, _, _, _⟩) (v := ?_) rfl (by kernel_rfl) (by kernel_rfl) (by kernel_rfl) (fun _ _ _ h => h) (Or.inl ⟨by rfl, ?_⟩) (by assumption) ?_
                  rotate_left
                  · intro w hSw; (try dsimp only at hSw); go_split_ands; go_simp; (try with_reducible rfl)
                  try simp only [Act.put, List.setIfInBounds_toArray, List.set_cons_zero, List.set_cons_succ]
                  refine wpAnyH_ready (rs := [22]) (by kernel_rfl) (by simp) (AllReadyH.cons (o := ⟨_, _, _, _, _, _⟩) rfl (fun K hK => ?_) AllReadyH.nil)
                  go_simp
                  refine hK.out _ _ ?_ (fun hHeld => ?_)
                  · exact ⟨off_cell (off1 X (w.heap.size + 1) 1 _) caX.out (by have := hgl.out; show ¬ (g = w.heap.size + 1); omega), off_cell (off1 X (w.heap.size + 1) 1 _) cbX.out (by have := hgl.out; show ¬ (g = w.heap.size + 1); omega)⟩
                  clear hK K
                  try simp only [Act.put, List.setIfInBounds_toArray, List.set_cons_zero, List.set_cons_succ]
                  refine wpAnyH_done (by kernel_rfl) ?_ _
                  have LL : Hid (Ls w (X.setCell ⟨w.heap.size + 1, 1, none⟩ (.slice (some ⟨ga, 0, none⟩) (k + 1) gc)) b q (k + 1)) := Lib.hid ⟨_, GX.out.set1 _, by rw [htk.out]; exact Off.rowAt (off1 X (w.heap.size + 1) 1 _) hown.out (by have := (row_blk hown.out).1; show ¬ (ga = w.heap.size + 1); omega), by have := hz2.out; have := BD.out.size; have := OX.out.size; show _ ≤ (X.setCell _ _).heap.size; simp; omega⟩
                  clear cX fX wa1 wa2 wa3 wb1 wb2 wb3 wb4 wo ca cb cl fl
                  go_wp2
                  go_roundw
                  case rel => exact ⟨k + 1, by go_num, by omega, LL⟩
                  case measure => simp [intOf]; omega
              · have hlt' : ¬ (k : Int) < (n9 : Int) := by omega
                obtain rfl : k = n9 := by omega
                have c0 := G.out.cell.1
                have c1 := G.out.cell.2.1
                have a0 : wr.cell? ⟨w.heap.size, 0, none⟩ = some (.int .i64 0) := by have := G.out.a; simp [World.cell?, this]
                have a1 : wr.cell? ⟨w.heap.size, 1, none⟩ = some (.slice none 0 0) := by have := G.out.a; simp [World.cell?, this]
                have f00 : wr.frozen? ⟨w.heap.size, 0, none⟩ = false := by have := G.out.a; simp [World.frozen?, this]
                have f01 : wr.frozen? ⟨w.heap.size, 1, none⟩ = false := by have := G.out.a; simp [World.frozen?, this]
                have hll : (listOf b).length = k := by unfold listOf; rw [List.length_map, List.length_range]; exact hn9'.out
                have R2 := R.out
                rw [List.take_of_length_le (by omega)] at R2
                go_wp2_with fail
                obtain ⟨b0, b1, bb, R3⟩ := some_ret G.out R2
                obtain ⟨h3, h4⟩ := it_row R3
                exact bodyPost_ret (v := .tuple #[.agg #[.int .i64 q, .slice la k lc], .bool true]) (by simp [results, Try.results27, go_sem, b0, b1]) rfl ⟨fun h => absurd hT.out (by rw [h]; exact Bool.false_ne_true), fun _ => ⟨_, by rw [hqq], h3, fun a n c e => Nat.le_trans (by omega) (h4 a n c e)⟩, bb⟩
          · have t2 : ((x.toNat : Int) != ((sg q).toNat : Int)) = true := by simp only [bne_iff_ne, ne_eq]; intro h; exact hxs (UInt8.toNat_inj.1 (by omega))
            have hF : Hid (isHead b = false) := Lib.hid (by unfold isHead; rw [hx, hy, hqq]; simp [hxs])
            go_wp2_with fail
            go_quiet ((go_at_call 41; refine Calls.quiet_of_same ((c_sign _ q (by have := hq.out; omega)).mono (fun e w' h => ⟨h.1, h.2.symm⟩))))
            go_wp2
            obtain ⟨b0, b1, bb⟩ := zero_ret (n := nq) G.out
            exact bodyPost_ret (v := .tuple #[.agg #[.int .i64 0, .slice none 0 0], .bool false]) (by simp [results, Try.results27, go_sem, b0, b1]) rfl ⟨fun _ => rfl, fun h => absurd h (by rw [hF.out]; exact Bool.false_ne_true), bb⟩
        · have t1 : ((x.toNat : Int) != (y.toNat : Int)) = true := by simp only [bne_iff_ne, ne_eq]; intro h; exact hxy (UInt8.toNat_inj.1 (by omega))
          have hF : Hid (isHead b = false) := Lib.hid (by unfold isHead; rw [hx, hy, hqq]; simp [hxy])
          go_wp2_with fail
          go_quiet ((go_at_call 41; refine Calls.quiet_of_same ((c_sign _ q (by have := hq.out; omega)).mono (fun e w' h => ⟨h.1, h.2.symm⟩))))
          go_wp2
          obtain ⟨b0, b1, bb⟩ := zero_ret (n := nq) G.out
          exact bodyPost_ret (v := .tuple #[.agg #[.int .i64 0, .slice none 0 0], .bool false]) (by simp [results, Try.results27, go_sem, b0, b1]) rfl ⟨fun _ => rfl, fun h => absurd h (by rw [hF.out]; exact Bool.false_ne_true), bb⟩
end Go.Proofs.Ytpdjenkacefpjaa
