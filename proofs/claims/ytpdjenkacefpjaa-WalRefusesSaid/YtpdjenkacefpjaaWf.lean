/- Contracts of package wal: a head as bytes. -/
import Derived.Test.YtpdjenkacefpjaaWe
namespace Go.Proofs.Ytpdjenkacefpjaa
open Go.RowKit Go.ChangeShapes
set_option linter.unusedVariables false
set_option maxRecDepth 100000

theorem bt_one (w : World) (z : Int) (x : UInt8) (hz : z = (x.toNat : Int)) : BtAt (w.alloc (.cells #[.int .u8 z] 5)) (.slice (some ⟨w.heap.size, 0, none⟩) 1 1) [x] := by
  rw [hz]
  exact RowB.bt (B := w.heap.size) (row_one w x)
theorem bt_two (w : World) (z y : Int) (a b : UInt8) (hz : z = (a.toNat : Int)) (hy : y = (b.toNat : Int)) : BtAt (w.alloc (.cells #[.int .u8 z, .int .u8 y] 5)) (.slice (some ⟨w.heap.size, 0, none⟩) 2 2) [a, b] := by
  rw [hz, hy]
  refine RowB.bt (B := w.heap.size) (b := [a, b]) ?_
  exact ⟨rfl, .inr ⟨w.heap.size, 2, _, rfl, Nat.le_refl _, heap_alloc_new w _, Nat.le_refl _, by decide, rfl, rfl⟩⟩
def hd9 (q : Nat) (l : List Int) : Sec := (sg q :: be8 q) ++ [UInt8.ofNat l.length]
theorem hd9_len (q : Nat) (l : List Int) : (hd9 q l).length = 10 := rfl
theorem hd_set (q : Nat) (l : List Int) (N : Nat) (h : N + (10 + 2 * l.length) = 128) (h40 : l.length ≤ 40) : (hd9 q l ++ (l.take l.length).flatMap pl2 ++ List.replicate N 0).set 127 (sg q) = headB q l := by
  obtain ⟨n, rfl⟩ : ∃ n, N = n + 1 := ⟨N - 1, by omega⟩
  have hn : n = 117 - 2 * l.length := by omega
  rw [List.take_length, List.replicate_succ', ← List.append_assoc]
  have hl : (hd9 q l ++ l.flatMap pl2 ++ List.replicate n 0).length = 127 := by
    rw [List.length_append, List.length_append, flat_len, hd9_len, List.length_replicate]
    omega
  rw [List.set_append_right _ _ (Nat.le_of_eq hl), hl]
  unfold headB hd9
  rw [← hn]
  simp
theorem row_free {w : World} {A g c n : Nat} {xs : List Value} (h : w.ownsRow A 5 1 (.slice (some ⟨g, 0, none⟩) n c) n xs) (j : Nat) : w.frozen? ⟨g, j, none⟩ = false := by
  obtain ⟨_, _, _, cs, hc⟩ := row_blk h
  simp [World.frozen?, hc]
theorem own_base {w : World} {A A' : Nat} {e : TypeId} {size n : Nat} {v : Value} {xs : List Value} (h : w.ownsRow A e size v n xs) (hA : A' ≤ A) : w.ownsRow A' e size v n xs := by
  refine ⟨h.1, ?_⟩
  rcases h.2 with h | ⟨g, cap, cur, h1, h2, h3⟩
  · exact .inl h
  · exact .inr ⟨g, cap, cur, h1, Nat.le_trans hA h2, h3⟩
/-- a row of the call's own, and a head in a box -/
structure Gw (w wr : World) (hc : Array Value) (A : Nat) (v : Value) (b : Sec) : Prop where
  r : wr.ownsRow A 5 1 v b.length (bys b)
  bl : Below w.heap.size w wr
  hA : w.heap.size < A ∧ A ≤ wr.heap.size
  hd : wr.heap[w.heap.size]? = some (.cells hc 67 (0, 0))
theorem Gw.cell {w wr : World} {x y : Value} {A : Nat} {v : Value} {b : Sec} (h : Gw w wr #[x, y] A v b) : wr.cell? ⟨w.heap.size, 0, none⟩ = some x ∧ wr.cell? ⟨w.heap.size, 1, none⟩ = some y := by
  have := h.hd
  constructor <;> simp [World.cell?, this]
theorem own_ge {w : World} {A : Nat} {e : TypeId} {size n : Nat} {v : Value} {xs : List Value} (h : w.ownsRow A e size v n xs) {k : Nat} (hk : v.ownBlock = some k) : A ≤ k := by
  rcases h.2 with ⟨rfl, _⟩ | ⟨g, cap, cur, rfl, hb, _⟩
  · cases hk
  · cases hk
    exact hb
theorem Gw.grow {w wr wr' : World} {hc : Array Value} {A : Nat} {v v' : Value} {b b' : Sec} (h : Gw w wr hc A v b) (hr : RowB wr' A v' b') (ho : Off (fun k => v.ownBlock = some k) wr wr') : Gw w wr' hc A v' b' :=
  ⟨hr, Off.below h.bl ho h.bl.size (fun k hk => by have := own_ge h.r hk; have := h.hA; omega), ⟨h.hA.1, Nat.le_trans h.hA.2 ho.size⟩, ho.keeps h.hd (fun hk => by have := own_ge h.r hk; have := h.hA; omega)⟩
theorem Gw.bel {w wr wr' : World} {hc : Array Value} {A : Nat} {v : Value} {b : Sec} (h : Gw w wr hc A v b) (hb : Below wr.heap.size wr wr') : Gw w wr' hc A v b :=
  ⟨Off.row (.of_below (ex := fun _ => False) hb) h.r (fun _ h => h.elim), below2 h.bl hb, ⟨h.hA.1, Nat.le_trans h.hA.2 hb.size⟩, (Off.of_below (ex := fun _ => False) hb).keeps h.hd (fun h => h)⟩
set_option maxHeartbeats 2000000 in
theorem c_hwrite (w : World) (q : Nat) (vl : Value) (l : List Int) (hq : q < 72057594037927936) (hv : ItAt w vl l) (hll : l.length ≤ 40) (hin : ∀ x ∈ l, 0 ≤ x ∧ x < 65536) : Calls Try.prog 34 #[.agg #[.int .i64 q, vl]] w fun e w' => ∃ g c, e = .returned (.slice (some ⟨g, 0, none⟩) 128 c) ∧ w'.ownsRow w.heap.size 5 1 (.slice (some ⟨g, 0, none⟩) 128 c) 128 (bys (headB q l)) ∧ Below w.heap.size w w' := by
  obtain ⟨ad, n, c, hvq⟩ : ∃ ad n c, vl = .slice ad n c := by obtain ⟨ad, c, e, _⟩ := hv; exact ⟨ad, _, c, e⟩
  subst hvq
  obtain ⟨hnl, hcl⟩ := it_cell hv rfl
  subst hnl
  have HC := Lib.hid hcl
  have HI := Lib.hid hin
  have HQ := Lib.hid hq
  clear hcl hin hv hq
  go_enter Try.func34, Try.ntmps34
  go_wp2_with (first
    | (go_at_call 41; refine (c_sign _ q (by have := HQ.out; omega)).mono ?_; rintro e w1 ⟨rfl, rfl⟩))
  have hb0 : Hid (w.heap.size < w.heap.size + 1) := Lib.hid (Nat.lt_succ_self _)
  obtain ⟨hc, hhc⟩ : ∃ hc : Array Value, #[.int .i64 (q : Int), .slice ad l.length c] = hc := ⟨_, rfl⟩
  obtain ⟨W, hW, hG⟩ : ∃ W, (w.alloc (.cells #[.int .i64 q, .slice ad l.length c] 67)).alloc (.cells #[.int .u8 ((sg q).toNat : Int)] 5) = W ∧ Hid (Gw w W #[.int .i64 q, .slice ad l.length c] (w.heap.size + 1) (.slice (some ⟨w.heap.size + 1, 0, none⟩) 1 1) [sg q]) := by
    refine ⟨_, rfl, Lib.hid ⟨?_, below_al (below_al0 _ _) _, ⟨Nat.lt_succ_self _, by simp⟩, (heap_alloc_old _ _ (by simp)).trans (heap_alloc_new w _)⟩⟩
    have h := row_one (w.alloc (.cells #[.int .i64 q, .slice ad l.length c] 67)) (sg q)
    simpa using h
  rw [hW]
  clear hW hb0 hhc
  have HG0 : Hid (∃ v, Value.slice (some ⟨w.heap.size + 1, 0, none⟩) 1 1 = v ∧ Gw w W #[.int .i64 q, .slice ad l.length c] (w.heap.size + 1) v (sg q :: (be8 q).take 0)) := Lib.hid ⟨_, rfl, hG.out⟩
  go_loopw [3, 4] (fun sv iv wr => ∃ j : Nat, iv = .int .i64 (7 - (j : Int)) ∧ j ≤ 8 ∧ Hid (Gw w wr #[.int .i64 q, .slice ad l.length c] (w.heap.size + 1) sv (sg q :: (be8 q).take j))) (fun _ iv _ => (intOf iv + 1).toNat)
  case atStart => exact ⟨0, rfl, by omega, hG⟩
  case round =>
    clear HG0 hG
    obtain ⟨j, rfl, hj, G⟩ := hrel
    have c0 := G.out.cell.1
    have c1 := G.out.cell.2
    rcases (show j = 0 ∨ j = 1 ∨ j = 2 ∨ j = 3 ∨ j = 4 ∨ j = 5 ∨ j = 6 ∨ j = 7 ∨ j = 8 by omega) with rfl | rfl | rfl | rfl | rfl | rfl | rfl | rfl | rfl
    · go_wp2_with (first
        | (at_builtin; refine wpList_append_bytes (o := ⟨some 23, _, _, _, _, _⟩) ?_ (.tmp 15) (.tmp 22) ?_ (w.heap.size + 1) u3 (sg q :: (be8 q).take 0) ?_ (G.out.bel (below_al0 _ _)).r (.slice (some ⟨wr.heap.size, 0, none⟩) 1 1) [UInt8.ofNat (q / 72057594037927936)] ?_ (bt_one wr _ _ (by rw [UInt8.toNat_ofNat']; omega)) (by simp [be8]) (G.out.bel (below_al0 _ _)).hA.2 ?_; exact rfl; exact rfl; exact rfl; exact rfl; intro v' w2 hr2 ho2 hq2; have G2 := Lib.hid ((G.out.bel (below_al0 _ _)).grow hr2 ho2); clear hr2 ho2 hq2))
      clear c0 c1
      go_roundw
      case rel => exact ⟨1, rfl, by omega, G2⟩
      case measure => simp [intOf]
    · go_wp2_with (first
        | (at_builtin; refine wpList_append_bytes (o := ⟨some 23, _, _, _, _, _⟩) ?_ (.tmp 15) (.tmp 22) ?_ (w.heap.size + 1) u3 (sg q :: (be8 q).take 1) ?_ (G.out.bel (below_al0 _ _)).r (.slice (some ⟨wr.heap.size, 0, none⟩) 1 1) [UInt8.ofNat (q / 281474976710656)] ?_ (bt_one wr _ _ (by rw [UInt8.toNat_ofNat']; omega)) (by simp [be8]) (G.out.bel (below_al0 _ _)).hA.2 ?_; exact rfl; exact rfl; exact rfl; exact rfl; intro v' w2 hr2 ho2 hq2; have G2 := Lib.hid ((G.out.bel (below_al0 _ _)).grow hr2 ho2); clear hr2 ho2 hq2))
      clear c0 c1
      go_roundw
      case rel => exact ⟨2, rfl, by omega, G2⟩
      case measure => simp [intOf]
    · go_wp2_with (first
        | (at_builtin; refine wpList_append_bytes (o := ⟨some 23, _, _, _, _, _⟩) ?_ (.tmp 15) (.tmp 22) ?_ (w.heap.size + 1) u3 (sg q :: (be8 q).take 2) ?_ (G.out.bel (below_al0 _ _)).r (.slice (some ⟨wr.heap.size, 0, none⟩) 1 1) [UInt8.ofNat (q / 1099511627776)] ?_ (bt_one wr _ _ (by rw [UInt8.toNat_ofNat']; omega)) (by simp [be8]) (G.out.bel (below_al0 _ _)).hA.2 ?_; exact rfl; exact rfl; exact rfl; exact rfl; intro v' w2 hr2 ho2 hq2; have G2 := Lib.hid ((G.out.bel (below_al0 _ _)).grow hr2 ho2); clear hr2 ho2 hq2))
      clear c0 c1
      go_roundw
      case rel => exact ⟨3, rfl, by omega, G2⟩
      case measure => simp [intOf]
    · go_wp2_with (first
        | (at_builtin; refine wpList_append_bytes (o := ⟨some 23, _, _, _, _, _⟩) ?_ (.tmp 15) (.tmp 22) ?_ (w.heap.size + 1) u3 (sg q :: (be8 q).take 3) ?_ (G.out.bel (below_al0 _ _)).r (.slice (some ⟨wr.heap.size, 0, none⟩) 1 1) [UInt8.ofNat (q / 4294967296)] ?_ (bt_one wr _ _ (by rw [UInt8.toNat_ofNat']; omega)) (by simp [be8]) (G.out.bel (below_al0 _ _)).hA.2 ?_; exact rfl; exact rfl; exact rfl; exact rfl; intro v' w2 hr2 ho2 hq2; have G2 := Lib.hid ((G.out.bel (below_al0 _ _)).grow hr2 ho2); clear hr2 ho2 hq2))
      clear c0 c1
      go_roundw
      case rel => exact ⟨4, rfl, by omega, G2⟩
      case measure => simp [intOf]
    · go_wp2_with (first
        | (at_builtin; refine wpList_append_bytes (o := ⟨some 23, _, _, _, _, _⟩) ?_ (.tmp 15) (.tmp 22) ?_ (w.heap.size + 1) u3 (sg q :: (be8 q).take 4) ?_ (G.out.bel (below_al0 _ _)).r (.slice (some ⟨wr.heap.size, 0, none⟩) 1 1) [UInt8.ofNat (q / 16777216)] ?_ (bt_one wr _ _ (by rw [UInt8.toNat_ofNat']; omega)) (by simp [be8]) (G.out.bel (below_al0 _ _)).hA.2 ?_; exact rfl; exact rfl; exact rfl; exact rfl; intro v' w2 hr2 ho2 hq2; have G2 := Lib.hid ((G.out.bel (below_al0 _ _)).grow hr2 ho2); clear hr2 ho2 hq2))
      clear c0 c1
      go_roundw
      case rel => exact ⟨5, rfl, by omega, G2⟩
      case measure => simp [intOf]
    · go_wp2_with (first
        | (at_builtin; refine wpList_append_bytes (o := ⟨some 23, _, _, _, _, _⟩) ?_ (.tmp 15) (.tmp 22) ?_ (w.heap.size + 1) u3 (sg q :: (be8 q).take 5) ?_ (G.out.bel (below_al0 _ _)).r (.slice (some ⟨wr.heap.size, 0, none⟩) 1 1) [UInt8.ofNat (q / 65536)] ?_ (bt_one wr _ _ (by rw [UInt8.toNat_ofNat']; omega)) (by simp [be8]) (G.out.bel (below_al0 _ _)).hA.2 ?_; exact rfl; exact rfl; exact rfl; exact rfl; intro v' w2 hr2 ho2 hq2; have G2 := Lib.hid ((G.out.bel (below_al0 _ _)).grow hr2 ho2); clear hr2 ho2 hq2))
      clear c0 c1
      go_roundw
      case rel => exact ⟨6, rfl, by omega, G2⟩
      case measure => simp [intOf]
    · go_wp2_with (first
        | (at_builtin; refine wpList_append_bytes (o := ⟨some 23, _, _, _, _, _⟩) ?_ (.tmp 15) (.tmp 22) ?_ (w.heap.size + 1) u3 (sg q :: (be8 q).take 6) ?_ (G.out.bel (below_al0 _ _)).r (.slice (some ⟨wr.heap.size, 0, none⟩) 1 1) [UInt8.ofNat (q / 256)] ?_ (bt_one wr _ _ (by rw [UInt8.toNat_ofNat']; omega)) (by simp [be8]) (G.out.bel (below_al0 _ _)).hA.2 ?_; exact rfl; exact rfl; exact rfl; exact rfl; intro v' w2 hr2 ho2 hq2; have G2 := Lib.hid ((G.out.bel (below_al0 _ _)).grow hr2 ho2); clear hr2 ho2 hq2))
      clear c0 c1
      go_roundw
      case rel => exact ⟨7, rfl, by omega, G2⟩
      case measure => simp [intOf]
    · go_wp2_with (first
        | (at_builtin; refine wpList_append_bytes (o := ⟨some 23, _, _, _, _, _⟩) ?_ (.tmp 15) (.tmp 22) ?_ (w.heap.size + 1) u3 (sg q :: (be8 q).take 7) ?_ (G.out.bel (below_al0 _ _)).r (.slice (some ⟨wr.heap.size, 0, none⟩) 1 1) [UInt8.ofNat (q)] ?_ (bt_one wr _ _ (by rw [UInt8.toNat_ofNat']; omega)) (by simp [be8]) (G.out.bel (below_al0 _ _)).hA.2 ?_; exact rfl; exact rfl; exact rfl; exact rfl; intro v' w2 hr2 ho2 hq2; have G2 := Lib.hid ((G.out.bel (below_al0 _ _)).grow hr2 ho2); clear hr2 ho2 hq2))
      clear c0 c1
      go_roundw
      case rel => exact ⟨8, rfl, by omega, G2⟩
      case measure => simp [intOf]
    · go_wp2_with (first
        | (at_builtin; refine wpList_append_bytes (o := ⟨some 30, _, _, _, _, _⟩) ?_ (.tmp 24) (.tmp 29) ?_ (w.heap.size + 1) u3 (sg q :: (be8 q).take 8) ?_ (G.out.bel (below_al0 _ _)).r (.slice (some ⟨wr.heap.size, 0, none⟩) 1 1) [UInt8.ofNat l.length] ?_ (bt_one wr _ _ (by rw [UInt8.toNat_ofNat']; omega)) (by simp [be8]) (G.out.bel (below_al0 _ _)).hA.2 ?_; exact rfl; exact rfl; exact rfl; exact rfl; intro v' w2 hr2 ho2 hq2; have G2 : Hid (Gw w w2 #[.int .i64 q, .slice ad l.length c] (w.heap.size + 1) v' (hd9 q l ++ (l.take 0).flatMap pl2)) := Lib.hid ((G.out.bel (below_al0 _ _)).grow hr2 ho2); clear hr2 ho2 hq2; have d0 := G2.out.cell.1; have d1 := G2.out.cell.2))
      clear c0 c1 d0 d1 G
      go_loopw [3, 34] (fun sv kv wr => ∃ k : Nat, kv = .int .i64 k ∧ k ≤ l.length ∧ Hid (Gw w wr #[.int .i64 q, .slice ad l.length c] (w.heap.size + 1) sv (hd9 q l ++ (l.take k).flatMap pl2))) (fun _ kv _ => l.length - (intOf kv).toNat)
      case atStart => exact ⟨0, rfl, by omega, G2⟩
      case round =>
        clear G2
        obtain ⟨k, rfl, hk, G⟩ := hrel
        by_cases hlt : k < l.length
        · have hlt' : (k : Int) < (l.length : Int) := by omega
          obtain ⟨x, hx⟩ : ∃ x, l[k]? = some x := ⟨_, List.getElem?_eq_getElem hlt⟩
          obtain ⟨g, o, rfl, hg, hcx⟩ := HC.out k x hx
          have cx := (G.out.bl.cell (p := ⟨g, o + k, none⟩) hg).trans hcx
          have hxr := HI.out x (List.mem_of_getElem? hx)
          obtain ⟨m, rfl⟩ : ∃ m : Nat, x = m := ⟨x.toNat, by omega⟩
          have hm : m < 65536 := by omega
          have hfl : Hid ((l.take (k + 1)).flatMap pl2 = (l.take k).flatMap pl2 ++ [UInt8.ofNat (m / 256), UInt8.ofNat m]) := Lib.hid (by rw [List.take_add_one, hx, List.flatMap_append]; rfl)
          have hl9 : Hid ((hd9 q l ++ (l.take k).flatMap pl2).length ≤ 1000) := Lib.hid (by rw [List.length_append, flat_len, List.length_take, hd9_len]; omega)
          clear hcx hxr hx
          go_wp2_with (first
            | (at_builtin; refine wpList_append_bytes (o := ⟨some 45, _, _, _, _, _⟩) ?_ (.tmp 38) (.tmp 44) ?_ (w.heap.size + 1) u3 (hd9 q l ++ (l.take k).flatMap pl2) ?_ (G.out.bel (below_al0 _ _)).r (.slice (some ⟨wr.heap.size, 0, none⟩) 2 2) [UInt8.ofNat (m / 256), UInt8.ofNat m] ?_ (bt_two wr _ _ _ _ (by rw [UInt8.toNat_ofNat']; omega) (by rw [UInt8.toNat_ofNat']; omega)) (by have := hl9.out; simp only [List.length_cons, List.length_nil]; omega) (G.out.bel (below_al0 _ _)).hA.2 ?_; exact rfl; exact rfl; exact rfl; exact rfl; intro v' w2 hr2 ho2 hq2; have G2 : Hid (Gw w w2 #[.int .i64 q, .slice (some ⟨g, o, none⟩) l.length c] (w.heap.size + 1) v' (hd9 q l ++ (l.take (k + 1)).flatMap pl2)) := Lib.hid (by rw [hfl.out, ← List.append_assoc]; exact (G.out.bel (below_al0 _ _)).grow hr2 ho2); clear hr2 ho2 hq2))
          clear cx
          go_roundw
          case rel => exact ⟨k + 1, by go_num, by omega, G2⟩
          case measure => simp [intOf]; omega
        · have hlt' : ¬ (k : Int) < (l.length : Int) := by omega
          obtain rfl : k = l.length := by omega
          have c0 := G.out.cell.1
          have c1 := G.out.cell.2
          obtain ⟨N, hN⟩ : ∃ N : Nat, N + (10 + 2 * l.length) = 128 := ⟨128 - (10 + 2 * l.length), by omega⟩
          obtain ⟨M, hM⟩ : ∃ M, 10 + 2 * l.length = M := ⟨_, rfl⟩
          rw [hM] at hN
          have hml : Hid ((hd9 q l ++ (l.take l.length).flatMap pl2).length = M) := Lib.hid (by rw [List.length_append, flat_len, List.length_take, hd9_len]; omega)
          obtain ⟨gd, cd, hgd⟩ : ∃ g c, u3 = .slice g M c := by obtain ⟨g, c, e, _⟩ := row_shape G.out.r; rw [hml.out] at e; exact ⟨_, _, e⟩
          subst hgd
          have hNi : (128 : Int) - (M : Int) = (N : Int) := by omega
          clear hM
          have hNM : Hid (N + (10 + 2 * l.length) = 128) := Lib.hid (by have := hml.out; rw [List.length_append, flat_len, List.length_take, hd9_len] at this; omega)
          go_wp2_with (first
            | (at_builtin; refine wpList_append_made (o := ⟨some 51, _, _, _, _, _⟩) ?_ (.tmp 47) (.tmp 50) ?_ (w.heap.size + 1) (.slice gd M cd) (hd9 q l ++ (l.take l.length).flatMap pl2) ?_ G.out.r N ?_ (by rw [hml.out]; omega) G.out.hA.2 ?_; exact rfl; exact rfl; exact rfl; (first | exact rfl | (rw [← hNi]; exact rfl)); intro v' w3 hr3 ho3; have G3 := Lib.hid (G.out.grow hr3 ho3); clear hr3 ho3; obtain ⟨Bz, hBz⟩ : ∃ Bz, hd9 q l ++ (l.take l.length).flatMap pl2 ++ List.replicate N 0 = Bz := ⟨_, rfl⟩; have hBl : Hid (Bz.length = 128) := (Lib.hid (by rw [← hBz, List.length_append, hml.out, List.length_replicate]; omega)); have hBs : Hid (Bz.set 127 (sg q) = headB q l) := (Lib.hid (by rw [← hBz]; exact hd_set q l N hNM.out hll)); rw [hBz] at G3; clear hBz; have hr3 := G3.out.r; rw [hBl.out] at hr3; obtain ⟨g3, c3, hq3⟩ := row_some hr3 (by decide); subst hq3; have d0 := G3.out.cell.1; have e0 := row_u8 hr3 (j := 127) (List.getElem?_eq_getElem (by rw [hBl.out]; decide)); have f0 := row_free hr3 127; replace hr3 := Lib.hid hr3; clear c0 c1 hNi)
            | (go_at_call 41; refine (c_sign _ q (by have := HQ.out; omega)).mono ?_; rintro e w4 ⟨rfl, rfl⟩))
          go_ret
          have hs := row_store hr3.out 127 (.int .u8 ((sg q).toNat : Int))
          have he : (bys Bz).set 127 (.int .u8 ((sg q).toNat : Int)) = bys (headB q l) := by rw [← hBs.out]; unfold bys; rw [List.map_set]
          rw [he] at hs
          exact ⟨g3, c3, rfl, own_base hs (by omega), off_below G3.out.bl (by have := (row_blk hr3.out).1; omega)⟩
end Go.Proofs.Ytpdjenkacefpjaa
