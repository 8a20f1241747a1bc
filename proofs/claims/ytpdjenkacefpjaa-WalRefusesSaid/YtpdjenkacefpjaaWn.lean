/- Contracts of package wal: Commit. -/
import Derived.Test.YtpdjenkacefpjaaWm
namespace Go.Proofs.Ytpdjenkacefpjaa
open Go.RowKit Go.ChangeShapes
set_option linter.unusedVariables false
set_option maxRecDepth 100000

/-- sectors that may be committed -/
structure GoodC (d : Dk) (ps : List (Int × Sec)) : Prop where
  len : ps.length ≤ 40
  good : ∀ j x, ps[j]? = some x → ¬ badP d x (ps.take j)
theorem GoodC.p {d : Dk} {ps : List (Int × Sec)} (h : GoodC d ps) (ha : d.dead = false) : GoodP d.n ps := by
  have key : ∀ x ∈ ps, 42 ≤ x.1 ∧ x.1 < d.n ∧ x.2.length = 128 := by
    intro x hx
    obtain ⟨j, hj, e⟩ := List.getElem_of_mem hx
    have hb := h.good j x (by rw [List.getElem?_eq_getElem hj, e])
    unfold badP at hb
    have h1 : ¬ x.1 < 42 := fun h => hb (.inl h)
    have h2 : ¬ readE d x.1 = 1 := fun h => hb (.inr (.inl h))
    have h3 : x.2.length = 128 := by
      rcases Nat.decEq x.2.length 128 with h | h
      · exact absurd (.inr (.inr (.inl h))) hb
      · exact h
    have ht : d.there x.1 = true := by
      unfold readE at h2
      rw [if_neg (by rw [ha]; exact Bool.false_ne_true)] at h2
      by_cases ht : d.there x.1 = true
      · exact ht
      · rw [if_neg ht] at h2; exact absurd rfl h2
    unfold Dk.there at ht
    simp at ht
    exact ⟨by omega, ht.2, h3⟩
  refine ⟨⟨by simpa using h.len, fun x hx => ?_⟩, fun p hp => (key p hp).2.2⟩
  obtain ⟨p, hp, rfl⟩ := List.mem_map.1 hx
  have := key p hp
  exact ⟨this.1, this.2.1⟩
set_option maxHeartbeats 1000000 in
theorem c_Commit_bad {F : Nat → Prop} (w : World) (L B : Nat) (q : Int) (dd : Bool) (d : Dk) (v : Value) (ps : List (Int × Sec)) (hl : LgAt w L B q dd) (h : DiskAt F w B d) (ha : d.dead = false) (hv : PutAt w F v ps) (hps : ps.length < 1000) (hbad : ps.length ≤ 40 → ∃ j x, ps[j]? = some x ∧ badP d x (ps.take j)) : Calls Try.prog 13 #[.pointer (some ⟨L, 0, none⟩), v] w fun e w' => e = .returned (.int .i64 (if 40 < ps.length then 4 else 1)) ∧ Below w.heap.size w w' := by
  have hmf : ∀ (fn : Fn) (first cap : Array Value) (w : World), (Instr.makeFunc fn first cap).run Try.prog w = .ok (.func fn first cap) w := fun _ _ _ _ => rfl
  obtain ⟨ad, vc, hvq, hvl, _⟩ := id hv
  subst hvq
  have HL := Lib.hid hl
  have D0 := Lib.hid h
  have HA := Lib.hid ha
  have HV := Lib.hid hv
  have HP := Lib.hid hps
  have HB := Lib.hid hbad
  clear hl h ha hv hbad
  obtain ⟨r, hr⟩ : ∃ r : Int, (if 40 < ps.length then 4 else 1) = r := ⟨_, rfl⟩
  rw [hr]
  have hr0 : ¬ r = 0 := by rw [← hr]; by_cases h : 40 < ps.length <;> simp [h]
  have HR : Hid (∀ r' : Int, (40 < ps.length → r' = 4) ∧ (ps.length ≤ 40 → (∃ j x, ps[j]? = some x ∧ badP d x (ps.take j)) → r' = 1) → r' = r) := Lib.hid (fun r' h => by
    rw [← hr]
    by_cases h40 : 40 < ps.length
    · rw [if_pos h40]; exact h.1 h40
    · rw [if_neg h40]; exact h.2 (by omega) (HB.out (by omega)))
  clear hr
  go_enter Try.func13, Try.ntmps13
  go_upto_region 1 with fail
  have a3 : Hid (Below w.heap.size w ((w.alloc (.cells #[.pointer (some ⟨L, 0, none⟩)] 29)).alloc (.cells #[.slice ad ps.length vc] 39))) := Lib.hid (below2 (below_al0 _ _) (below_al0 _ _))
  have aN : Hid (((w.alloc (.cells #[.pointer (some ⟨L, 0, none⟩)] 29)).alloc (.cells #[.slice ad ps.length vc] 39)).heap.size = w.heap.size + 2) := Lib.hid (by unfold World.alloc; simp)
  have a1 : Hid (((w.alloc (.cells #[.pointer (some ⟨L, 0, none⟩)] 29)).alloc (.cells #[.slice ad ps.length vc] 39)).heap[w.heap.size]? = some (.cells #[.pointer (some ⟨L, 0, none⟩)] 29 (0, 0))) := Lib.hid (by
    unfold World.alloc
    simp [Array.getElem?_push])
  have a2 : Hid (((w.alloc (.cells #[.pointer (some ⟨L, 0, none⟩)] 29)).alloc (.cells #[.slice ad ps.length vc] 39)).heap[w.heap.size + 1]? = some (.cells #[.slice ad ps.length vc] 39 (0, 0))) := Lib.hid (by
    unfold World.alloc
    simp only [Array.getElem?_push, Array.size_push]
    simp)
  generalize ((w.alloc (.cells #[.pointer (some ⟨L, 0, none⟩)] 29)).alloc (.cells #[.slice ad ps.length vc] 39)) = W at *
  have e1 : W.cell? ⟨w.heap.size, 0, none⟩ = some (.pointer (some ⟨L, 0, none⟩)) := (by have := a1.out; simp [World.cell?, this])
  have e2 : W.cell? ⟨w.heap.size + 1, 0, none⟩ = some (.slice ad ps.length vc) := (by have := a2.out; simp [World.cell?, this])
  have LW : Hid (LgAt W L B q dd) := Lib.hid (HL.out.off (.of_below (ex := fun _ => False) a3.out) (fun h => h))
  have DW : Hid (DiskAt F W B d) := Lib.hid (D0.out.below a3.out)
  have VW := Lib.hid (HV.out.below a3.out)
  go_wp2_with (first
    | (go_at_call 30; refine (c_wrong W L B q dd d (.slice ad ps.length vc) ps LW.out DW.out HA.out VW.out HP.out).mono ?_; rintro e w2 ⟨r', rfl, h1, _, h3, hb2⟩; rw [HR.out r' ⟨h1, h3⟩]; replace hb2 := Lib.hid hb2; clear h1 h3))
  go_ret
  exact ⟨rfl, below2 a3.out hb2.out⟩
set_option maxHeartbeats 1000000 in
theorem c_Commit_none {F : Nat → Prop} (w : World) (L B : Nat) (q : Int) (d : Dk) (v : Value) (hl : LgAt w L B q false) (h : DiskAt F w B d) (ha : d.dead = false) (hv : PutAt w F v []) : Calls Try.prog 13 #[.pointer (some ⟨L, 0, none⟩), v] w fun e w' => e = .returned (.int .i64 0) ∧ Below w.heap.size w w' := by
  obtain ⟨ps, hps0⟩ : ∃ ps : List (Int × Sec), ps = [] := ⟨_, rfl⟩
  rw [← hps0] at hv
  have hps : ps.length < 1000 := by rw [hps0]; decide
  have hlen : Hid (ps.length = 0) := Lib.hid (by rw [hps0]; rfl)
  have hmf : ∀ (fn : Fn) (first cap : Array Value) (w : World), (Instr.makeFunc fn first cap).run Try.prog w = .ok (.func fn first cap) w := fun _ _ _ _ => rfl
  obtain ⟨ad, vc, hvq, hvl, _⟩ := id hv
  subst hvq
  have HL := Lib.hid hl
  have D0 := Lib.hid h
  have HA := Lib.hid ha
  have HV := Lib.hid hv
  have HP := Lib.hid hps
  have HE := Lib.hid hps0
  clear hl h ha hv hps0
  go_enter Try.func13, Try.ntmps13
  go_upto_region 1 with fail
  have a3 : Hid (Below w.heap.size w ((w.alloc (.cells #[.pointer (some ⟨L, 0, none⟩)] 29)).alloc (.cells #[.slice ad ps.length vc] 39))) := Lib.hid (below2 (below_al0 _ _) (below_al0 _ _))
  have aN : Hid (((w.alloc (.cells #[.pointer (some ⟨L, 0, none⟩)] 29)).alloc (.cells #[.slice ad ps.length vc] 39)).heap.size = w.heap.size + 2) := Lib.hid (by unfold World.alloc; simp)
  have a1 : Hid (((w.alloc (.cells #[.pointer (some ⟨L, 0, none⟩)] 29)).alloc (.cells #[.slice ad ps.length vc] 39)).heap[w.heap.size]? = some (.cells #[.pointer (some ⟨L, 0, none⟩)] 29 (0, 0))) := Lib.hid (by
    unfold World.alloc
    simp [Array.getElem?_push])
  have a2 : Hid (((w.alloc (.cells #[.pointer (some ⟨L, 0, none⟩)] 29)).alloc (.cells #[.slice ad ps.length vc] 39)).heap[w.heap.size + 1]? = some (.cells #[.slice ad ps.length vc] 39 (0, 0))) := Lib.hid (by
    unfold World.alloc
    simp only [Array.getElem?_push, Array.size_push]
    simp)
  generalize ((w.alloc (.cells #[.pointer (some ⟨L, 0, none⟩)] 29)).alloc (.cells #[.slice ad ps.length vc] 39)) = W at *
  have e1 : W.cell? ⟨w.heap.size, 0, none⟩ = some (.pointer (some ⟨L, 0, none⟩)) := (by have := a1.out; simp [World.cell?, this])
  have e2 : W.cell? ⟨w.heap.size + 1, 0, none⟩ = some (.slice ad ps.length vc) := (by have := a2.out; simp [World.cell?, this])
  have LW : Hid (LgAt W L B q false) := Lib.hid (HL.out.off (.of_below (ex := fun _ => False) a3.out) (fun h => h))
  have DW : Hid (DiskAt F W B d) := Lib.hid (D0.out.below a3.out)
  have VW := Lib.hid (HV.out.below a3.out)
  have e3 := LW.out.cell.2.2.1
  have e4 := LW.out.cell.1
  go_upto_region 2 with (first
    | (go_at_call 30; refine (c_wrong W L B q false d (.slice ad ps.length vc) ps LW.out DW.out HA.out VW.out HP.out).mono ?_; rintro e w2 ⟨r', rfl, h1, h2, h3, hb2⟩; obtain rfl := h2 (by have := hlen.out; omega) (fun j x hj => by rw [HE.out] at hj; simp at hj); replace hb2 := Lib.hid hb2; clear h1 h2 h3))
  have L2 : Hid (LgAt w2 L B q false) := Lib.hid (LW.out.off (.of_below (ex := fun _ => False) hb2.out) (fun h => h))
  have f1 := off_cell (.of_below (ex := fun _ => False) hb2.out) e1 (fun h => h)
  have f2 := off_cell (.of_below (ex := fun _ => False) hb2.out) e2 (fun h => h)
  have f3 := L2.out.cell.2.2.1
  have f4 := L2.out.cell.1
  have D2 := Lib.hid (DW.out.below hb2.out)
  clear e1 e2 e3 e4
  have hlen' : ((ps.length : Int) == 0) = true := by have := hlen.out; simp [this]
  go_wp2_with (first
    | (go_at_call 20; refine (c_Dead w2 B d D2.out).mono ?_; rintro e w' ⟨rfl, rfl⟩; rw [HA.out]))
  go_ret
  exact ⟨rfl, below2 a3.out hb2.out⟩
/-- what a commit leaves -/
def CommitP (F : Nat → Prop) (L B q : Nat) (ps : List (Int × Sec)) (d : Dk) (w : World) (e : Ending) (w' : World) : Prop := ∃ d' F', DiskAt F' w' B d' ∧ InL L F F' w w' ∧ ((commitW q ps d = (d', true) ∧ e = .returned (.int .i64 0) ∧ LgAt w' L B ((q + 1 : Nat) : Int) false) ∨ (commitW q ps d = (d', false) ∧ e = .returned (.int .i64 12)))
theorem cm_out {F : Nat → Prop} {w3 w5 : World} {ph L B q : Nat} {ps : List (Int × Sec)} {d : Dk} {e : Ending} (hL : L < w3.heap.size) (hF : ∀ g, (F g ∨ g = ph) → g < w3.heap.size) (hX : ¬ (F L ∨ L = ph)) (hp : ph ≠ w3.heap.size + 1) (hg : ∃ w1, (CmR F ph L B q false ps d ((w3.alloc (.cells #[.pointer (some ⟨L, 0, none⟩)] 29)).alloc (.cells #[.int .i64 0] 26)) (.returned (.tuple #[])) w1 ∧ e = .returned (.int .i64 0) ∧ w5 = w1.setCell ⟨w3.heap.size + 1, 0, none⟩ (.int .i64 0)) ∨ (CmR F ph L B q false ps d ((w3.alloc (.cells #[.pointer (some ⟨L, 0, none⟩)] 29)).alloc (.cells #[.int .i64 0] 26)) (.panicked died) w1 ∧ e = .returned (.int .i64 12) ∧ w5 = (w1.setCell ⟨L, 2, none⟩ (.bool true)).setCell ⟨w3.heap.size + 1, 0, none⟩ (.int .i64 12))) : ∃ d' F', DiskAt F' w5 B d' ∧ InL L (fun g => F g ∨ g = ph) F' w3 w5 ∧ ((commitW q ps d = (d', true) ∧ e = .returned (.int .i64 0) ∧ LgAt w5 L B q false ∧ w5.cell? ⟨ph, 0, none⟩ = some (.int .i64 ((q + 1 : Nat) : Int)) ∧ w5.cell? ⟨L, 1, none⟩ = some (.int .i64 q) ∧ w5.frozen? ⟨L, 1, none⟩ = false) ∨ (commitW q ps d = (d', false) ∧ e = .returned (.int .i64 12))) := by
  obtain ⟨w1, ⟨hr, rfl, rfl⟩ | ⟨hr, rfl, rfl⟩⟩ := hg
  · obtain ⟨d', F', hd, hi, h⟩ := clr_ok hL hF hr.1
    refine ⟨d', F', hd, hi, ?_⟩
    rcases h with ⟨n, hP, _, hl⟩ | ⟨hP, he⟩
    · rcases hP with ⟨hc, hn⟩ | ⟨_, hn⟩
      · cases hn
        exact .inl ⟨hc, rfl, hl, off_cell (off1 w1 (w3.heap.size + 1) 0 _) (hr.2 rfl) hp, hl.cell.2.1, hl.cell.2.2.2 1⟩
      · cases hn
    · cases he
  · obtain ⟨d', F', hd, hi, h⟩ := clr_no hL hF hr.1 hX
    refine ⟨d', F', hd, hi, ?_⟩
    rcases h with ⟨n, hP, he, hl⟩ | ⟨hP, he⟩
    · cases he
    · rcases hP with ⟨_, hn⟩ | ⟨hc, _⟩
      · cases hn
      · exact .inr ⟨hc, rfl⟩
theorem cm_from {F F' : Nat → Prop} {w w3 w5 : World} {ph L : Nat} (hb : Below w.heap.size w w3) (h3 : w3.heap.size = ph + 1) (h2 : w.heap.size + 2 ≤ ph) (hi : InL L (fun g => F g ∨ g = ph) F' w3 w5) : InL L F F' w w5 := by
  refine ⟨fun g hg => ?_, fun g hg => hi.up g (.inl hg), (Off.of_below hb).trans2 hi.off (fun i hi hx => ?_)⟩
  · rcases hi.out g hg with (h | h) | h
    · exact .inl h
    · exact .inr (by omega)
    · exact .inr (by omega)
  · rcases hx with (h | h) | h
    · exact .inl h
    · omega
    · exact .inr h
set_option maxHeartbeats 2000000 in
theorem c_Commit {F : Nat → Prop} (w : World) (L B q : Nat) (d : Dk) (v : Value) (ps : List (Int × Sec)) (hl : LgAt w L B q false) (hLF : ¬ F L) (h : DiskAt F w B d) (ha : d.dead = false) (hn : 42 ≤ d.n) (hq : q + 1 < 250) (hv : PutAt w F v ps) (hg : GoodC d ps) (hne : ps ≠ []) : Calls Try.prog 13 #[.pointer (some ⟨L, 0, none⟩), v] w (CommitP F L B q ps d w) := by
  have hps : ps.length < 1000 := by have := hg.len; omega
  have hmf : ∀ (fn : Fn) (first cap : Array Value) (w : World), (Instr.makeFunc fn first cap).run Try.prog w = .ok (.func fn first cap) w := fun _ _ _ _ => rfl
  obtain ⟨ad, vc, hvq, hvl, _⟩ := id hv
  subst hvq
  have HL := Lib.hid hl
  have D0 := Lib.hid h
  have HA := Lib.hid ha
  have HV := Lib.hid hv
  have HP := Lib.hid hps
  have HG := Lib.hid hg
  have HN := Lib.hid hn
  have HLF := Lib.hid hLF
  have hlen : ¬ ps.length = 0 := fun h => hne (List.length_eq_zero_iff.1 h)
  clear hl h ha hv hg hn hLF hne
  go_enter Try.func13, Try.ntmps13
  go_upto_region 1 with fail
  have a3 : Hid (Below w.heap.size w ((w.alloc (.cells #[.pointer (some ⟨L, 0, none⟩)] 29)).alloc (.cells #[.slice ad ps.length vc] 39))) := Lib.hid (below2 (below_al0 _ _) (below_al0 _ _))
  have aN : Hid (((w.alloc (.cells #[.pointer (some ⟨L, 0, none⟩)] 29)).alloc (.cells #[.slice ad ps.length vc] 39)).heap.size = w.heap.size + 2) := Lib.hid (by unfold World.alloc; simp)
  have a1 : Hid (((w.alloc (.cells #[.pointer (some ⟨L, 0, none⟩)] 29)).alloc (.cells #[.slice ad ps.length vc] 39)).heap[w.heap.size]? = some (.cells #[.pointer (some ⟨L, 0, none⟩)] 29 (0, 0))) := Lib.hid (by
    unfold World.alloc
    simp [Array.getElem?_push])
  have a2 : Hid (((w.alloc (.cells #[.pointer (some ⟨L, 0, none⟩)] 29)).alloc (.cells #[.slice ad ps.length vc] 39)).heap[w.heap.size + 1]? = some (.cells #[.slice ad ps.length vc] 39 (0, 0))) := Lib.hid (by
    unfold World.alloc
    simp only [Array.getElem?_push, Array.size_push]
    simp)
  generalize ((w.alloc (.cells #[.pointer (some ⟨L, 0, none⟩)] 29)).alloc (.cells #[.slice ad ps.length vc] 39)) = W at *
  have e1 : W.cell? ⟨w.heap.size, 0, none⟩ = some (.pointer (some ⟨L, 0, none⟩)) := (by have := a1.out; simp [World.cell?, this])
  have e2 : W.cell? ⟨w.heap.size + 1, 0, none⟩ = some (.slice ad ps.length vc) := (by have := a2.out; simp [World.cell?, this])
  have LW : Hid (LgAt W L B q false) := Lib.hid (HL.out.off (.of_below (ex := fun _ => False) a3.out) (fun h => h))
  have DW : Hid (DiskAt F W B d) := Lib.hid (D0.out.below a3.out)
  have VW := Lib.hid (HV.out.below a3.out)
  go_upto_region 2 with (first
    | (go_at_call 30; refine (c_wrong W L B q false d (.slice ad ps.length vc) ps LW.out DW.out HA.out VW.out HP.out).mono ?_; rintro e w2 ⟨r', rfl, h1, h2, h3, hb2⟩; obtain rfl := h2 HG.out.len HG.out.good; replace hb2 := Lib.hid hb2; clear h1 h2 h3))
  have L2 : Hid (LgAt w2 L B q false) := Lib.hid (LW.out.off (.of_below (ex := fun _ => False) hb2.out) (fun h => h))
  have f1 := off_cell (.of_below (ex := fun _ => False) hb2.out) e1 (fun h => h)
  have f2 := off_cell (.of_below (ex := fun _ => False) hb2.out) e2 (fun h => h)
  have f3 := L2.out.cell.2.2.1
  have f4 := L2.out.cell.1
  have f5 := L2.out.cell.2.1
  have D2 := Lib.hid (DW.out.below hb2.out)
  clear e1 e2
  have hlen' : ¬ (ps.length : Int) = 0 := by omega
  go_upto_region 9 with (first
    | (go_at_call 20; refine (c_Dead w2 B d D2.out).mono ?_; rintro e w' ⟨rfl, rfl⟩; rw [HA.out]))
  have b3 : Hid (Below W.heap.size W (w2.alloc (.cells #[.int .i64 ((q : Int) + 1), .slice none 0 0] 67))) := Lib.hid (below2 hb2.out (below_al0 _ _))
  have bw : Hid (Below w.heap.size w (w2.alloc (.cells #[.int .i64 ((q : Int) + 1), .slice none 0 0] 67))) := Lib.hid (below2 a3.out b3.out)
  have s2 : Hid (w.heap.size + 2 ≤ w2.heap.size) := Lib.hid (by have := aN.out; have := hb2.out.size; omega)
  have s3 : Hid ((w2.alloc (.cells #[.int .i64 ((q : Int) + 1), .slice none 0 0] 67)).heap.size = w2.heap.size + 1) := Lib.hid (by unfold World.alloc; simp)
  have h3 : Hid ((w2.alloc (.cells #[.int .i64 ((q : Int) + 1), .slice none 0 0] 67)).heap[w2.heap.size]? = some (.cells #[.int .i64 ((q + 1 : Nat) : Int), .slice none 0 0] 67 (0, 0))) := Lib.hid (heap_alloc_new w2 _)
  have g1 : Hid ((w2.alloc (.cells #[.int .i64 ((q : Int) + 1), .slice none 0 0] 67)).heap[w.heap.size]? = some (.cells #[.pointer (some ⟨L, 0, none⟩)] 29 (0, 0))) := Lib.hid ((Off.of_below (ex := fun _ => False) b3.out).keeps a1.out (fun h => h))
  have g2 : Hid ((w2.alloc (.cells #[.int .i64 ((q : Int) + 1), .slice none 0 0] 67)).heap[w.heap.size + 1]? = some (.cells #[.slice ad ps.length vc] 39 (0, 0))) := Lib.hid ((Off.of_below (ex := fun _ => False) b3.out).keeps a2.out (fun h => h))
  have L3 : Hid (LgAt (w2.alloc (.cells #[.int .i64 ((q : Int) + 1), .slice none 0 0] 67)) L B q false) := Lib.hid (HL.out.off (.of_below (ex := fun _ => False) bw.out) (fun h => h))
  have D3 : Hid (DiskAt F (w2.alloc (.cells #[.int .i64 ((q : Int) + 1), .slice none 0 0] 67)) B d) := Lib.hid (D0.out.below bw.out)
  have V3 : Hid (PutAt (w2.alloc (.cells #[.int .i64 ((q : Int) + 1), .slice none 0 0] 67)) (fun g => F g ∨ g = w2.heap.size) (.slice ad ps.length vc) ps) := Lib.hid ((HV.out.more (F' := fun g => F g ∨ g = w2.heap.size) (fun g hg => hg.imp id (fun e => by have := s2.out; omega))).below bw.out)
  have FL := Lib.hid (D0.out.lt)
  have HLl := Lib.hid HL.out.lt
  clear f1 f2 f3 f4 f5 L2 D2 LW DW VW a1 a2
  generalize w2.alloc (.cells #[.int .i64 ((q : Int) + 1), .slice none 0 0] 67) = w3 at *
  generalize w2.heap.size = ph at *
  have nF : Hid (∀ j, ¬ F (w.heap.size + j)) := Lib.hid (fun j hg => by have := FL.out _ hg; omega)
  have nph : Hid (¬ F ph) := Lib.hid (fun hg => by have := FL.out _ hg; have := s2.out; omega)
  have hX : Hid (¬ (F w.heap.size ∨ w.heap.size = ph) ∧ ¬ (F (w.heap.size + 1) ∨ w.heap.size + 1 = ph) ∧ ¬ (F L ∨ L = ph)) := Lib.hid (by
    have := s2.out
    have := HLl.out
    refine ⟨fun h => h.elim (nF.out 0) (by omega), fun h => h.elim (nF.out 1) (by omega), fun h => h.elim HLF.out (by omega)⟩)
  have G := gw_at w3 L
  have hdo := Lib.hid (c_commit1 (F := F) ((w3.alloc (.cells #[.pointer (some ⟨L, 0, none⟩)] 29)).alloc (.cells #[.int .i64 0] 26)) w.heap.size (w.heap.size + 1) ph L B q false d ad vc ps ((Off.of_below (ex := fun _ => False) G.2.2.1).keeps g1.out (fun h => h)) ((Off.of_below (ex := fun _ => False) G.2.2.1).keeps g2.out (fun h => h)) ((Off.of_below (ex := fun _ => False) G.2.2.1).keeps h3.out (fun h => h)) (L3.out.off (.of_below (ex := fun _ => False) G.2.2.1) (fun h => h)) (D3.out.below G.2.2.1) (V3.out.below G.2.2.1) (HG.out.p HA.out) HA.out HN.out hq hX.out nph.out)
  clear G
  have hF3 : Hid (∀ g, (F g ∨ g = ph) → g < w3.heap.size) := Lib.hid (fun g hg => by
    have := bw.out.size
    have := s3.out
    rcases hg with hg | hg
    · have := FL.out g hg; omega
    · omega)
  have hL3 := Lib.hid L3.out.lt
  have c1 : w3.cell? ⟨w.heap.size, 0, none⟩ = some (.pointer (some ⟨L, 0, none⟩)) := (by have := g1.out; simp [World.cell?, this])
  go_wp2_with (first
    | (go_at_call 25; refine (c_guard2 w3 L B hL3.out _ _ hdo.out (fun e w1 h => clr_gd hL3.out hF3.out e w1 h.1)).mono ?_; rintro e w5 hg; obtain ⟨d', F', hd5, hi5, he5⟩ := cm_out hL3.out hF3.out hX.out.2.2 (by have := s3.out; omega) hg; clear hg; replace hd5 := Lib.hid hd5; replace hi5 := Lib.hid hi5; have cv5 : w5.cell? ⟨w.heap.size, 0, none⟩ = some (.pointer (some ⟨L, 0, none⟩)) := off_cell hi5.out.off c1 (fun hx => by rcases hx with hx | hx; exact hX.out.1 hx; exact absurd hx (by have := HLl.out; show ¬ w.heap.size = _; omega)); rcases he5 with ⟨hc5, rfl, hl5, ch5, cl5, fl5⟩ | ⟨hc5, rfl⟩ <;> replace hc5 := Lib.hid hc5))
  · replace hl5 := Lib.hid hl5
    go_ret
    have o5 := off1 w5 L 1 (.int .i64 ((q + 1 : Nat) : Int))
    refine ⟨d', F', hd5.out.off o5 (fun g hg e => ?_), cm_from bw.out s3.out s2.out (hi5.out.set 1 _), .inl ⟨hc5.out, rfl, lg_set hl5.out⟩⟩
    subst e
    rcases hi5.out.out _ hg with h | h
    · exact hX.out.2.2 h
    · have := hL3.out; omega
  · go_ret
    exact ⟨d', F', hd5.out, cm_from bw.out s3.out s2.out hi5.out, .inr ⟨hc5.out, rfl⟩⟩
end Go.Proofs.Ytpdjenkacefpjaa
