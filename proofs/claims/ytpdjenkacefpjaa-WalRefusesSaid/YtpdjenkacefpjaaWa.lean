/- What the laws on logs share with those on disks. -/
import Derived.Test.YtpdjenkacefpjaaDv
import Derived.Laws.IdiomStrings
namespace Go.Proofs.Ytpdjenkacefpjaa
open Go.RowKit Go.ChangeShapes
set_option linter.unusedVariables false
set_option maxRecDepth 100000

/-- a disk of the call's own -/
structure Own (w0 w : World) (F : Nat → Prop) (B : Nat) (d : Dk) : Prop where
  dk : DiskAt F w B d
  lo : ∀ g, F g → w0.heap.size ≤ g
  bl : Below w0.heap.size w0 w
theorem Own.below {w0 w w' : World} {F : Nat → Prop} {B : Nat} {d : Dk} (h : Own w0 w F B d) (hb : Below w.heap.size w w') : Own w0 w' F B d := ⟨h.dk.below hb, h.lo, below2 h.bl hb⟩
theorem Own.off {w0 w w' : World} {F ex : Nat → Prop} {B : Nat} {d : Dk} (h : Own w0 w F B d) (ho : Off ex w w') (hn : ∀ g, F g → ¬ ex g) (he : ∀ g, ex g → w0.heap.size ≤ g) : Own w0 w' F B d := ⟨h.dk.off ho hn, h.lo, Off.below h.bl ho h.bl.size he⟩
theorem Own.turn {w0 w w' : World} {F : Nat → Prop} {B : Nat} {d d' : Dk} (h : Own w0 w F B d) (ht : Turn F B d' w w') : ∃ F', Own w0 w' F' B d' ∧ (∀ g, F' g → F g ∨ w.heap.size ≤ g) ∧ Off F w w' := by
  obtain ⟨F', h1, h2, h3, h4⟩ := ht
  refine ⟨F', ⟨h1, fun g hg => ?_, Off.below h.bl h4 h.bl.size h.lo⟩, h2, h4⟩
  rcases h2 g hg with h5 | h5
  · exact h.lo g h5
  · exact Nat.le_trans h.bl.size h5
/-! ### filling a row -/
theorem torn_set {a b : Sec} {k : Nat} {x : UInt8} (ha : a.length = 128) (hb : b.length = 128) (hk : a[k]? = some x) : (bys (torn k a b)).set k (.int .u8 (x.toNat : Int)) = bys (torn (k + 1) a b) := by
  have hkl : k < 128 := by rw [← ha]; exact (List.getElem?_eq_some_iff.1 hk).1
  unfold bys
  rw [← List.map_set]
  congr 1
  unfold torn
  have h1 : (a.take k).length = k := by simp; omega
  have h2 : b.drop k = b[k]'(by omega) :: b.drop (k + 1) := List.drop_eq_getElem_cons (by omega)
  rw [List.set_append_right _ _ (by omega), h1, Nat.sub_self, h2, List.set_cons_zero, List.take_add_one, hk]
  simp
/-- a row whose first k bytes are a's, the rest b's -/
def FillR (w : World) (A g c k : Nat) (a b : Sec) : Prop := w.ownsRow A 5 1 (.slice (some ⟨g, 0, none⟩) 128 c) 128 (bys (torn k a b))
theorem FillR.step {w : World} {A g c k : Nat} {a b : Sec} {x : UInt8} (h : FillR w A g c k a b) (ha : a.length = 128) (hb : b.length = 128) (hk : a[k]? = some x) : FillR (w.setCell ⟨g, k, none⟩ (.int .u8 (x.toNat : Int))) A g c (k + 1) a b := by
  have h1 := row_store h k (.int .u8 (x.toNat : Int))
  rw [torn_set ha hb hk] at h1
  exact h1
theorem FillR.start {w : World} (a : Sec) : FillR (w.alloc (.cells (bys zeros).toArray 5)) w.heap.size w.heap.size 128 0 a zeros := row_zeros w w.heap.size (Nat.le_refl _)
theorem FillR.done {w : World} {A g c : Nat} {a b : Sec} (h : FillR w A g c 128 a b) (ha : a.length = 128) (hb : b.length = 128) : w.ownsRow A 5 1 (.slice (some ⟨g, 0, none⟩) 128 c) 128 (bys a) := by
  unfold FillR at h
  rw [torn_all (by omega) (by omega)] at h
  exact h
theorem FillR.free {w : World} {A g c k : Nat} {a b : Sec} (h : FillR w A g c k a b) (j : Nat) : w.frozen? ⟨g, j, none⟩ = false := by
  obtain ⟨_, _, _, cs, hc⟩ := row_blk h
  simp [World.frozen?, hc]
theorem FillR.cell {w : World} {A g c k : Nat} {a b : Sec} (h : FillR w A g c k a b) (hb : b.length = 128) (ha : a.length = 128) (hk : k < 128) : ∃ v, w.cell? ⟨g, k, none⟩ = some v := by
  have h1 := h.1
  obtain ⟨x, hx⟩ : ∃ x, (bys (torn k a b))[k]? = some x := ⟨_, List.getElem?_eq_getElem (by omega)⟩
  exact ⟨x, (row_cell h k hx).2⟩
def rep (x : UInt8) : Sec := List.replicate 128 x
theorem rep_len (x : UInt8) : (rep x).length = 128 := by simp [rep]
theorem rep_get (x : UInt8) {k : Nat} (h : k < 128) : (rep x)[k]? = some x := by unfold rep; rw [List.getElem?_replicate, if_pos h]
theorem pick_eq (p : Int) : (pick p : Int) = p % 129 := by
  obtain ⟨f1, f2, f3, f4⟩ := tmod_facts p 129 (by decide)
  unfold pick
  omega
theorem off_below {w0 w : World} {g j : Nat} {v : Value} (h : Below w0.heap.size w0 w) (hg : w0.heap.size ≤ g) : Below w0.heap.size w0 (w.setCell ⟨g, j, none⟩ v) := Off.below h (off1 w g j v) h.size (fun k hk => by omega)
/-- a slice of truths, wherever it lies -/
def BoAt (w : World) (v : Value) : Prop := ∃ (ad : Option Addr) (n c : Nat), v = .slice ad n c ∧ n ≤ c ∧ c ≤ maxLen ∧ ∀ k, k < n → ∃ g o, ∃ x : Bool, ad = some ⟨g, o, none⟩ ∧ g < w.heap.size ∧ w.cell? ⟨g, o + k, none⟩ = some (.bool x)
theorem one_it (w : World) (x : Int) : ItAt (w.alloc (.cells #[.int .i64 x] 3)) (.slice (some ⟨w.heap.size, 0, none⟩) 1 1) [x] :=
  ⟨_, 1, rfl, fun j y hj => by
    match j, hj with
    | 0, hj => cases hj; exact ⟨_, 0, rfl, cell_of_row _ _ 0 _ _ _ (heap_alloc_new w (.cells #[.int .i64 x] 3))⟩
    | (k + 1), hj => simp at hj⟩
theorem Wd.to {F : Nat → Prop} {B : Nat} {d d' : Dk} {n k : Int} {b : Sec} {w w' : World} {e : Ending} (h : Wd F B d n b w e w') (hE : writeR d n b = (d', k)) : e = .returned (.int .i64 k) ∧ Turn F B d' w w' := by
  unfold Wd at h
  rw [hE] at h
  exact h
theorem Fd.to {F : Nat → Prop} {B : Nat} {d d' : Dk} {k : Int} {w w' : World} {e : Ending} (h : Fd F B d w e w') (hE : flushR d = (d', k)) : e = .returned (.int .i64 k) ∧ Turn F B d' w w' := by
  unfold Fd at h
  rw [hE] at h
  exact h
theorem Rd.ok {d : Dk} {n : Int} {w w' : World} {e : Ending} {b : Sec} (h : Rd d n w e w') (hE : readE d n = 0) (hb : d.at n = b) (hl : b.length = 128) : ∃ g c, e = .returned (.tuple #[.slice (some ⟨g, 0, none⟩) 128 c, .int .i64 0]) ∧ w'.ownsRow w.heap.size 5 1 (.slice (some ⟨g, 0, none⟩) 128 c) 128 (bys b) ∧ Below w.heap.size w w' := by
  obtain ⟨v, rfl, h1, _, h3⟩ := h
  have h4 := h1 hE
  unfold RowB at h4
  rw [hb, hl] at h4
  obtain ⟨g, c, rfl⟩ := row_some h4 (by decide)
  exact ⟨g, c, by rw [hE], h4, h3⟩
theorem Rd.err {d : Dk} {n k : Int} {w w' : World} {e : Ending} (h : Rd d n w e w') (hE : readE d n = k) (hk : k ≠ 0) : e = .returned (.tuple #[.slice none 0 0, .int .i64 k]) ∧ Below w.heap.size w w' := by
  obtain ⟨v, rfl, _, h2, h3⟩ := h
  rw [h2 (by rw [hE]; exact hk), hE]
  exact ⟨rfl, h3⟩
theorem row_bt {w : World} {A g c : Nat} {b : Sec} (h : w.ownsRow A 5 1 (.slice (some ⟨g, 0, none⟩) 128 c) 128 (bys b)) (hb : b.length = 128) : BtAt w (.slice (some ⟨g, 0, none⟩) 128 c) b := by
  have h1 : RowB w A (.slice (some ⟨g, 0, none⟩) 128 c) b := by unfold RowB; rw [hb]; exact h
  exact h1.bt
theorem row_u8 {w : World} {A g c j : Nat} {b : Sec} {x : UInt8} (h : w.ownsRow A 5 1 (.slice (some ⟨g, 0, none⟩) 128 c) 128 (bys b)) (hj : b[j]? = some x) : w.cell? ⟨g, j, none⟩ = some (.int .u8 (x.toNat : Int)) := (row_cell h j (bys_get hj)).2
theorem c_within (x n : Int) (h1 : 0 < n) (h2 : n ≤ 1073741824) (w : World) : Calls Try.prog 17 #[.int .i64 x, .int .i64 n] w fun e w' => e = .returned (.int .i64 (x % n)) ∧ w = w' := by
  have hz : (n == 0) = false := by simp; omega
  obtain ⟨f1, f2, f3, f4⟩ := tmod_facts x n h1
  obtain ⟨t, ht⟩ : ∃ t, x.tmod n = t := ⟨_, rfl⟩
  rw [ht] at f1 f2 f3 f4
  by_cases h : t < 0
  · have H := Lib.hid (f3 h)
    clear f3 f4
    go_enter Try.func17, Try.ntmps17
    go_wp2
    go_ret
    exact ⟨by rw [H.out]; rfl, rfl⟩
  · have H := Lib.hid (f4 (by omega))
    clear f3 f4
    go_enter Try.func17, Try.ntmps17
    go_wp2
    go_ret
    exact ⟨by rw [H.out]; rfl, rfl⟩
/-- bytes appended to a row of the call's own -/
theorem wpList_append_bytes {w : World} {ops : Array Oper} {rest : List Oper} {o : Oper} {a : Act} {Q : Exit → Act → World → Prop} (hgd : o.guard = none) (s x : Operand) (ho : o.op = .call { callee := .builtin .append, args := #[s, x], argTypes := #[36, 36] })
    (base : Nat) (v0 : Value) (xs : Sec) (hs : a.eval s = v0) (hown : w.ownsRow base 5 1 v0 xs.length (bys xs)) (v : Value) (b : Sec) (hx : a.eval x = v) (hv : BtAt w v b) (hb : xs.length + b.length ≤ 140737488355328) (hbase : base ≤ w.heap.size)
    (h : ∀ v' w', RowB w' base v' (xs ++ b) → Off (fun k => v0.ownBlock = some k) w w' → (0 < xs.length + b.length → ∃ g c, v' = .slice (some ⟨g, 0, none⟩) (xs.length + b.length) c) → wpList Try.prog ops Q rest (a.put o.dst v') w') : wpList Try.prog ops Q (o :: rest) a w := by
  obtain ⟨i0, hin, hz0, hz1, hz2⟩ := info_parts A.infoB
  obtain ⟨ad, c, rfl, h1, h2, h3, h4⟩ := hv
  cases ad with
  | none =>
    have hbn : b = [] := by
      cases b with
      | nil => rfl
      | cons y r => obtain ⟨g, o', e, _⟩ := h4 0 y rfl; cases e
    subst hbn
    obtain rfl := h3 rfl
    refine wpList_append_own_none hgd s x 36 ho base 5 i0 1 A.underB hin v0 xs.length (bys xs) hs hown hx ?_
    refine h v0 w ?_ (Off.refl _ _) (fun hp => row_some hown (by simpa using hp))
    unfold RowB
    rw [List.append_nil]
    exact hown
  | some ad =>
    refine wpList_append_own _ hgd s x 36 ho base 5 i0 _ 1 1 A.underB hin hz0 hz1 hz2 rfl (by decide) v0 xs.length (bys xs) hs hown ad b.length c (bys b) hx (by rw [bys_len, Nat.mul_one]) (fun j u hj => ?_) (bys_one b) (by unfold maxLen; omega) (by omega) hbase (fun v' w' r1 r2 _ => ?_)
    · unfold bys at hj
      rw [List.getElem?_map] at hj
      cases hx' : b[j]? with
      | none => rw [hx'] at hj; cases hj
      | some y =>
        rw [hx'] at hj
        cases hj
        obtain ⟨g, o', e, hc⟩ := h4 j y hx'
        cases e
        rw [Addr.add_lit]
        exact hc
    · refine h v' w' ?_ ((Off.refl _ _).grown r2 (fun k hk => .inl hk)) (fun hp => row_some r1 hp)
      unfold RowB
      rw [List.length_append]
      unfold bys at r1 ⊢
      rw [List.map_append]
      exact r1
theorem row_one (w : World) (x : UInt8) : (w.alloc (.cells #[.int .u8 (x.toNat : Int)] 5)).ownsRow w.heap.size 5 1 (.slice (some ⟨w.heap.size, 0, none⟩) 1 1) [x].length (bys [x]) :=
  ⟨rfl, .inr ⟨w.heap.size, 1, _, rfl, Nat.le_refl _, heap_alloc_new w _, Nat.le_refl _, by decide, rfl, rfl⟩⟩
theorem A.underS : Try.prog.underlying 9 = some .string := by kernel_rfl
theorem A.underU : Try.prog.underlying 5 = some (.int .u8) := by kernel_rfl
theorem str_at {w : World} {ad : Addr} {n c : Nat} {b : Sec} (h : BtAt w (.slice (some ad) n c) b) : Sem.run Try.prog (convert 36 9 (.slice (some ad) n c)) w = .ok (.string ⟨b.toArray⟩) w := by
  obtain ⟨ad', c', e, h1, h2, h3, h4⟩ := h
  cases e
  refine run_convert_bytes_back w _ _ 5 ad _ b A.underB A.underU A.underS (fun j hj => ?_)
  obtain ⟨g, o, e, hc⟩ := h4 j _ (List.getElem?_eq_getElem hj)
  cases e
  rw [Addr.add_lit]
  exact hc
theorem row_empty (w : World) : (w.alloc (.cells #[] 5)).ownsRow w.heap.size 5 1 (.slice (some ⟨w.heap.size, 0, none⟩) 0 0) ([] : Sec).length (bys []) :=
  ⟨rfl, .inr ⟨w.heap.size, 0, _, rfl, Nat.le_refl _, heap_alloc_new w _, Nat.le_refl _, by decide, rfl, rfl⟩⟩
end Go.Proofs.Ytpdjenkacefpjaa
