/- What the processor's parts do, each in one word. -/
import Derived.Test.YtiakonmamkfopaaZCpuJ
import Derived.Test.YtiakonmamkfopaaZCWord3
import Derived.Test.YtiakonmamkfopaaZCpuK0
import Derived.Test.YtiakonmamkfopaaZCpuK1
import Derived.Test.YtiakonmamkfopaaZCpuK2
import Derived.Test.YtiakonmamkfopaaZCpuK3
namespace Go.Proofs.Ytiakonmamkfopaa
open Go.RowKit Go.ChangeShapes
set_option linter.unusedVariables false
set_option maxRecDepth 100000
/-- where an instruction's pointer leads -/
def St.eo (s : St) (p n : Int) : Int := IntKind.i64.wrap ((s.pt p.toNat).off + n)
def St.eb (s : St) (p : Int) : Int := max (s.pt p.toNat).ring s.ring
/-- a read: the word, its segment; or the fault -/
def rdR (M : List Sg) (s : St) (p n : Int) : Except Int (Int × Sg) :=
  match seg? M (s.pt p.toNat).seg with
  | none => .error 35
  | some g => if (g.has 1 && mayRead g.r2 (s.eb p)) = false then .error 31 else if 0 ≤ s.eo p n ∧ s.eo p n < g.ws.length then .ok (g.ws.getD (s.eo p n).toNat 0, g) else .error 35
/-- a write: the segment, the offset; or the fault -/
def wrR (M : List Sg) (s : St) (p n : Int) : Except Int (Int × Int) :=
  match seg? M (s.pt p.toNat).seg with
  | none => .error 35
  | some g => if (g.has 2 && mayRead g.r1 (s.eb p)) = false then .error 32 else if 0 ≤ s.eo p n ∧ s.eo p n < g.ws.length then .ok ((s.pt p.toNat).seg, s.eo p n) else .error 35
/-- a call: the state; or the fault -/
def caR (M : List Sg) (s : St) (l : List Fr) (p n : Int) : Except Int (St × List Fr) :=
  match seg? M (s.pt p.toNat).seg with
  | none => .error 35
  | some g => if g.has 4 = false then .error 33 else if callE g.r1 g.r2 g.r3 g.g (s.eo p n) (s.eb p) ≠ 0 then .error 34 else if ¬ (0 ≤ s.eo p n ∧ s.eo p n < g.ws.length) then .error 35 else if 8 ≤ l.length then .error 37 else
      .ok ({ (s.raise s.ring) with seg := (s.pt p.toNat).seg, off := s.eo p n, ring := callTo g.r1 g.r2 g.r3 g.g (s.eo p n) (s.eb p) }, l ++ [⟨s.seg, s.off, s.ring⟩])
/-- a return: the state; or the fault -/
def reR (s : St) (l : List Fr) : Except Int (St × List Fr) :=
  match l.getLast? with
  | none => .error 37
  | some f => if f.ring < s.ring then .error 34 else .ok ({ s with seg := f.seg, off := f.off, ring := f.ring }.raise f.ring, l.dropLast)
/-- the fetch: the instruction; or the fault -/
def feR (M : List Sg) (s : St) : Except Int (Int × Int × Int) :=
  match seg? M s.seg with
  | none => .error 35
  | some g => if (g.has 4 && mayExec g.r1 g.r2 s.ring) = false then .error 33 else if ¬ (0 ≤ s.off ∧ s.off < g.ws.length) then .error 35 else
      let x := g.ws.getD s.off.toNat 0
      if decE x = 0 then .ok (dOp x, dP x, dN x) else .error 36
theorem getD_at {l : List Int} {o : Int} (h : 0 ≤ o ∧ o < l.length) : l[o.toNat]? = some (l.getD o.toNat 0) := by
  have h1 : o.toNat < l.length := by omega
  simp [h1]
theorem c_read_er (w : World) (B R Y : Nat) (s : St) (stk : Value) (told : Bool) (out : Int) (M : List Sg) (op p n : Int) (hp0 : 0 ≤ p) (hp1 : p < 4) (hr : runAt w R s stk (memV Y) told out) (hm : MemOk w B Y M) (e : Int) (h : rdR M s p n = .error e) :
    Calls Try.prog 55 #[.pointer (some ⟨R, 0, none⟩), .agg #[.int .i64 op, .int .i64 p, .int .i64 n]] w fun x w' => x = .panicked (flt e) ∧ Below w.heap.size w w' := by
  unfold rdR at h
  split at h
  · cases h; exact c_read_none w B R Y s stk told out M op p n hp0 hp1 hr hm (by assumption)
  · rename_i g hg
    split at h
    · cases h; exact c_read_mode w B R Y s stk told out M op p n hp0 hp1 hr hm g _ _ hg rfl rfl (by assumption)
    · rename_i hq
      rw [Bool.not_eq_false, Bool.and_eq_true] at hq
      split at h
      · cases h
      · cases h; exact c_read_off w B R Y s stk told out M op p n hp0 hp1 hr hm g _ _ hg rfl rfl hq.1 hq.2 (by assumption)
theorem c_read_go (w : World) (B R Y : Nat) (s : St) (stk : Value) (told : Bool) (out : Int) (M : List Sg) (op p n : Int) (hp0 : 0 ≤ p) (hp1 : p < 4) (hr : runAt w R s stk (memV Y) told out) (hm : MemOk w B Y M) (x : Int) (g : Sg) (h : rdR M s p n = .ok (x, g)) :
    Calls Try.prog 55 #[.pointer (some ⟨R, 0, none⟩), .agg #[.int .i64 op, .int .i64 p, .int .i64 n]] w fun e w' => ∃ ad cap, e = .returned (.tuple #[.int .i64 x, sgV (.slice ad g.ws.length cap) g, .int .i64 (s.eb p)]) ∧ Below w.heap.size w w' := by
  unfold rdR at h
  split at h
  · cases h
  · rename_i g' hg
    split at h
    · cases h
    · rename_i hq
      rw [Bool.not_eq_false, Bool.and_eq_true] at hq
      split at h
      · rename_i hi
        cases h
        refine (c_read_ok w B R Y s stk told out M op p n hp0 hp1 hr hm _ (s.eo p n).toNat _ _ hg (by show s.eo p n = _; omega) rfl hq.1 hq.2 (getD_at hi)).mono ?_
        rintro e w' ⟨u', rfl, ho, hb⟩
        obtain ⟨ad, cap, rfl, _, _⟩ := row_shape ho
        exact ⟨ad, cap, rfl, hb⟩
      · cases h
theorem c_write_er (w : World) (B R Y : Nat) (s : St) (stk : Value) (told : Bool) (out : Int) (M : List Sg) (op p n : Int) (hp0 : 0 ≤ p) (hp1 : p < 4) (hr : runAt w R s stk (memV Y) told out) (hm : MemOk w B Y M) (e : Int) (h : wrR M s p n = .error e) :
    Calls Try.prog 56 #[.pointer (some ⟨R, 0, none⟩), .agg #[.int .i64 op, .int .i64 p, .int .i64 n]] w fun x w' => x = .panicked (flt e) ∧ Below w.heap.size w w' := by
  unfold wrR at h
  split at h
  · cases h; exact c_write_none w B R Y s stk told out M op p n hp0 hp1 hr hm (by assumption)
  · rename_i g hg
    split at h
    · cases h; exact c_write_mode w B R Y s stk told out M op p n hp0 hp1 hr hm g _ _ hg rfl rfl (by assumption)
    · rename_i hq
      rw [Bool.not_eq_false, Bool.and_eq_true] at hq
      split at h
      · cases h
      · cases h; exact c_write_off w B R Y s stk told out M op p n hp0 hp1 hr hm g _ _ hg rfl rfl hq.1 hq.2 (by assumption)
theorem c_write_go (w : World) (B R Y : Nat) (s : St) (stk : Value) (told : Bool) (out : Int) (M : List Sg) (op p n : Int) (hp0 : 0 ≤ p) (hp1 : p < 4) (hr : runAt w R s stk (memV Y) told out) (hm : MemOk w B Y M) (v : Value) (is : Bool) (sg of_ x n0 : Int) (hma : memAt w B Y v is sg of_ x n0) (k o : Int) (h : wrR M s p n = .ok (k, o)) :
    Calls Try.prog 56 #[.pointer (some ⟨R, 0, none⟩), .agg #[.int .i64 op, .int .i64 p, .int .i64 n]] w fun e w' => e = .returned (.tuple #[]) ∧ memAt w' B Y v true k o s.a (wrap64 (n0 + 1)) ∧ Off (· = Y) w w' := by
  unfold wrR at h
  split at h
  · cases h
  · rename_i g' hg
    split at h
    · cases h
    · rename_i hq
      rw [Bool.not_eq_false, Bool.and_eq_true] at hq
      split at h
      · rename_i hi
        cases h
        exact c_write_ok w B R Y s stk told out M op p n hp0 hp1 hr hm _ _ _ hg rfl rfl v is sg of_ x n0 hma hq.1 hq.2 hi
      · cases h
theorem c_call_er (w : World) (B R Y : Nat) (s : St) (stk : Value) (told : Bool) (out : Int) (M : List Sg) (l : List Fr) (op p n : Int) (hp0 : 0 ≤ p) (hp1 : p < 4) (hr : runAt w R s stk (memV Y) told out) (hm : MemOk w B Y M) (hs : stkAt w stk l) (e : Int) (h : caR M s l p n = .error e) :
    Calls Try.prog 64 #[.pointer (some ⟨R, 0, none⟩), .agg #[.int .i64 op, .int .i64 p, .int .i64 n]] w fun x w' => x = .panicked (flt e) ∧ Below w.heap.size w w' := by
  unfold caR at h
  split at h
  · cases h; exact c_call_none w B R Y s stk told out M op p n hp0 hp1 hr hm (by assumption)
  · rename_i g hg
    split at h
    · cases h; exact c_call_exec w B R Y s stk told out M op p n hp0 hp1 hr hm g _ _ hg rfl rfl (by assumption)
    · rename_i hq
      rw [Bool.not_eq_false] at hq
      split at h
      · cases h; exact c_call_gate w B R Y s stk told out M op p n hp0 hp1 hr hm g _ _ hg rfl rfl hq (by assumption)
      · rename_i hE
        have hE : callE g.r1 g.r2 g.r3 g.g (s.eo p n) (s.eb p) = 0 := by omega
        split at h
        · cases h; exact c_call_off w B R Y s stk told out M op p n hp0 hp1 hr hm g _ _ hg rfl rfl hq hE (by assumption)
        · rename_i hi
          have hi : 0 ≤ s.eo p n ∧ s.eo p n < g.ws.length := by omega
          split at h
          · cases h; exact c_call_stk w B R Y s stk told out M op p n hp0 hp1 hr hm g _ _ hg rfl rfl l hs hq hE hi (by assumption)
          · cases h
theorem c_call_go (w : World) (B R Y : Nat) (s : St) (stk : Value) (told : Bool) (out : Int) (M : List Sg) (l : List Fr) (op p n : Int) (hp0 : 0 ≤ p) (hp1 : p < 4) (hr : runAt w R s stk (memV Y) told out) (hm : MemOk w B Y M) (hs : stkAt w stk l) (s' : St) (l' : List Fr) (h : caR M s l p n = .ok (s', l')) :
    Calls Try.prog 64 #[.pointer (some ⟨R, 0, none⟩), .agg #[.int .i64 op, .int .i64 p, .int .i64 n]] w fun e w' => ∃ stk', e = .returned (.tuple #[]) ∧ runAt w' R s' stk' (memV Y) told out ∧ stkAt w' stk' l' ∧ Off (· = R) w w' := by
  unfold caR at h
  split at h
  · cases h
  · rename_i g hg
    split at h
    · cases h
    · rename_i hq
      rw [Bool.not_eq_false] at hq
      split at h
      · cases h
      · rename_i hE
        have hE : callE g.r1 g.r2 g.r3 g.g (s.eo p n) (s.eb p) = 0 := by omega
        split at h
        · cases h
        · rename_i hi
          have hi : 0 ≤ s.eo p n ∧ s.eo p n < g.ws.length := by omega
          split at h
          · cases h
          · have hl : l.length < 8 := by omega
            cases h
            rcases (show p = 0 ∨ p = 1 ∨ p = 2 ∨ p = 3 by omega) with rfl | rfl | rfl | rfl
            · exact c_call_ok0 w B R Y s stk told out M op n hr hm g _ _ hg rfl rfl l hs hq hE hi hl
            · exact c_call_ok1 w B R Y s stk told out M op n hr hm g _ _ hg rfl rfl l hs hq hE hi hl
            · exact c_call_ok2 w B R Y s stk told out M op n hr hm g _ _ hg rfl rfl l hs hq hE hi hl
            · exact c_call_ok3 w B R Y s stk told out M op n hr hm g _ _ hg rfl rfl l hs hq hE hi hl
theorem last_split {l : List Fr} {f : Fr} (h : l.getLast? = some f) : l = l.dropLast ++ [f] := by
  have hne : l ≠ [] := by rintro rfl; cases h
  rw [List.getLast?_eq_some_getLast hne] at h
  rw [← Option.some.inj h]
  exact (List.dropLast_concat_getLast hne).symm
theorem c_ret_er (w : World) (R : Nat) (s : St) (stk mv : Value) (told : Bool) (out : Int) (l : List Fr) (hr : runAt w R s stk mv told out) (hs : stkAt w stk l) (hbig : l.length < 140737488355328) (e : Int) (h : reR s l = .error e) :
    Calls Try.prog 65 #[.pointer (some ⟨R, 0, none⟩)] w fun x w' => x = .panicked (flt e) ∧ Below w.heap.size w w' := by
  unfold reR at h
  split at h
  · rename_i hl
    cases h
    have : l = [] := by simpa using hl
    subst this
    exact c_ret_none w R s stk mv told out hr hs
  · rename_i f hl
    split at h
    · cases h
      rw [last_split hl] at hs hbig
      exact c_ret_gate w R s stk mv told out hr _ f hs (by omega) (by assumption)
    · cases h
theorem c_ret_go (w : World) (R : Nat) (s : St) (stk mv : Value) (told : Bool) (out : Int) (l : List Fr) (hr : runAt w R s stk mv told out) (hs : stkAt w stk l) (hbig : l.length < 140737488355328) (s' : St) (l' : List Fr) (h : reR s l = .ok (s', l')) :
    Calls Try.prog 65 #[.pointer (some ⟨R, 0, none⟩)] w fun e w' => ∃ stk', e = .returned (.tuple #[]) ∧ runAt w' R s' stk' mv told out ∧ stkAt w' stk' l' ∧ Off (· = R) w w' := by
  unfold reR at h
  split at h
  · cases h
  · rename_i f hl
    split at h
    · cases h
    · cases h
      rw [last_split hl] at hs hbig
      exact c_ret_ok w R s stk mv told out hr _ f hs (by omega) (by omega)
theorem c_fetch_er (w : World) (B R Y : Nat) (s : St) (stk : Value) (told : Bool) (out : Int) (M : List Sg) (hr : runAt w R s stk (memV Y) told out) (hm : MemOk w B Y M) (e : Int) (h : feR M s = .error e) :
    Calls Try.prog 42 #[.pointer (some ⟨R, 0, none⟩)] w fun x w' => x = .panicked (flt e) ∧ Below w.heap.size w w' := by
  unfold feR at h
  split at h
  · cases h; exact c_fetch_none w B R Y s stk told out M hr hm (by assumption)
  · rename_i g hg
    split at h
    · cases h; exact c_fetch_exec w B R Y s stk told out M hr hm g hg (by assumption)
    · rename_i hq
      rw [Bool.not_eq_false, Bool.and_eq_true] at hq
      split at h
      · cases h; exact c_fetch_off w B R Y s stk told out M hr hm g hg hq.1 hq.2 (by assumption)
      · rename_i hi
        have hi : 0 ≤ s.off ∧ s.off < g.ws.length := by omega
        simp only at h
        split at h
        · cases h
        · cases h; exact c_fetch_op w B R Y s stk told out M hr hm g hg hq.1 hq.2 s.off.toNat _ (by omega) (getD_at hi) (by assumption)
theorem c_fetch_go (w : World) (B R Y : Nat) (s : St) (stk : Value) (told : Bool) (out : Int) (M : List Sg) (hr : runAt w R s stk (memV Y) told out) (hm : MemOk w B Y M) (op p n : Int) (h : feR M s = .ok (op, p, n)) :
    Calls Try.prog 42 #[.pointer (some ⟨R, 0, none⟩)] w fun e w' => e = .returned (.agg #[.int .i64 op, .int .i64 p, .int .i64 n]) ∧ runAt w' R { s with off := s.off + 1 } stk (memV Y) told out ∧ Off (· = R) w w' := by
  unfold feR at h
  split at h
  · cases h
  · rename_i g hg
    split at h
    · cases h
    · rename_i hq
      rw [Bool.not_eq_false, Bool.and_eq_true] at hq
      split at h
      · cases h
      · rename_i hi
        have hi : 0 ≤ s.off ∧ s.off < g.ws.length := by omega
        simp only at h
        split at h
        · rename_i hd
          cases h
          exact c_fetch_ok w B R Y s stk told out M hr hm g hg hq.1 hq.2 s.off.toNat _ (by omega) (getD_at hi) hd
        · cases h
end Go.Proofs.Ytiakonmamkfopaa
