/- CpuBounds, CpuModes: what the step answers. -/
import Derived.Test.YtiakonmamkfopaaCpuX
namespace Go.Proofs.Ytiakonmamkfopaa
open Go.RowKit Go.ChangeShapes
set_option linter.unusedVariables false
set_option maxRecDepth 100000

/-- the fault of a step; none: 0 -/
def errOf : Except Int Res → Int
  | .error e => e
  | .ok _ => 0
theorem do_read {M : List Sg} {s : St} {l : List Fr} {p n : Int} {op : Int} (ho : op = 1 ∨ op = 18) : errOf (doR M s l op p n) = match rdR M s p n with | .error e => e | .ok _ => 0 := by
  rcases ho with rfl | rfl
  · unfold doR
    rw [if_neg (by decide), if_pos (by decide)]
    cases rdR M s p n with
    | error e => rfl
    | ok y => rfl
  · unfold doR
    rw [if_neg (by decide), if_neg (by decide), if_neg (by decide), if_neg (by decide), if_neg (by decide), if_neg (by decide), if_neg (by decide), if_neg (show ¬ jmpR 18 _ by unfold jmpR; omega), if_neg (by decide), if_pos (by decide)]
    cases rdR M s p n with
    | error e => rfl
    | ok y => rfl
theorem do_write {M : List Sg} {s : St} {l : List Fr} {p n : Int} : errOf (doR M s l 2 p n) = match wrR M s p n with | .error e => e | .ok _ => 0 := by
  unfold doR
  rw [if_neg (by decide), if_neg (by decide), if_neg (by decide), if_pos (by decide)]
  cases wrR M s p n with
  | error e => rfl
  | ok y => rfl
theorem do_call (M : List Sg) (s : St) (l : List Fr) (p n : Int) : doR M s l 20 p n = match caR M s l p n with | .error e => .error e | .ok (s', l') => .ok ⟨s', l', false, 0, none⟩ := by
  unfold doR
  rw [if_neg (by decide), if_neg (by decide), if_neg (by decide), if_neg (by decide), if_neg (by decide), if_neg (by decide), if_neg (by decide), if_neg (show ¬ jmpR 20 _ by unfold jmpR; omega), if_neg (by decide), if_neg (by decide), if_neg (by decide), if_pos (by decide)]
  cases caR M s l p n with
  | error e => rfl
  | ok y => rfl
theorem err_call {M : List Sg} {s : St} {l : List Fr} {p n : Int} : errOf (doR M s l 20 p n) = match caR M s l p n with | .error e => e | .ok _ => 0 := by
  rw [do_call]
  cases caR M s l p n with
  | error e => rfl
  | ok y => rfl
theorem st_fetched {M : List Sg} {s : St} {l : List Fr} {op p n : Int} (hh : s.hal = false) (h : feR M s = .ok (op, p, n)) : stR M s l = doR M { s with off := s.off + 1 } l op p n := by
  unfold stR
  rw [if_neg (by rw [hh]; decide), h]

/-- CpuBounds: the memory, the state -/
def bouM (o : Int) (size : Nat) : List Sg := [Sg.plain [encI o 1 0], Sg.plain (List.replicate size 0)]
def bouS (seg off : Int) : St := { St.new with p1 := ⟨seg, off, 4⟩ }
theorem bou_st (o seg off : Int) (size : Nat) (h0 : 0 ≤ o) (h1 : o < 23) : stR (bouM o size) (bouS seg off) [] = doR (bouM o size) { bouS seg off with off := 1 } [] o 1 0 :=
  st_fetched rfl (fe_at (bouM o size) (bouS seg off) (Sg.plain [encI o 1 0]) 0 0 o 1 0 rfl rfl (plain_has _ 4 (by simp)) (by show mayExec 4 4 4 = true; decide) rfl rfl rfl h0 h1 (by decide) (by decide) (by decide) (by decide))
theorem bou_eo (seg off : Int) (h0 : -4 ≤ off) (h1 : off < 20) : ({ bouS seg off with off := 1 } : St).eo 1 0 = off := by
  show IntKind.i64.wrap (off + 0) = off
  rw [IntKind.wrap_i64]
  omega
theorem bou_eb (seg off : Int) : ({ bouS seg off with off := 1 } : St).eb 1 = 4 := by
  show max (4 : Int) 4 = 4
  decide
theorem bou_some (o seg off : Int) (size : Nat) (ws : List Int) (ho : o = 1 ∨ o = 2 ∨ o = 18 ∨ o = 20) (h0 : -4 ≤ off) (h1 : off < 20) (hs : seg? (bouM o size) seg = some (Sg.plain ws)) :
    errOf (stR (bouM o size) (bouS seg off) []) = if o = 20 ∧ (off < 0 ∨ 16 ≤ off) then 34 else if off < 0 ∨ (ws.length : Int) ≤ off then 35 else 0 := by
  have e0 := bou_eo seg off h0 h1
  have e1 := bou_eb seg off
  have hs' : seg? (bouM o size) (({ bouS seg off with off := 1 } : St).pt (1 : Int).toNat).seg = some (Sg.plain ws) := hs
  rw [bou_st o seg off size (by omega) (by omega)]
  have hr : o ≠ 20 → (match rdR (bouM o size) { bouS seg off with off := 1 } 1 0 with | .error e => e | .ok _ => 0) = if o = 20 ∧ (off < 0 ∨ 16 ≤ off) then 34 else if off < 0 ∨ (ws.length : Int) ≤ off then 35 else 0 := by
    intro hne
    rw [if_neg (by omega)]
    unfold rdR
    simp only [hs', e0, e1, plain_has ws 1 (by simp), show mayRead (Sg.plain ws).r2 4 = true from by show mayRead 4 4 = true; decide, Bool.and_self, Bool.true_eq_false, if_false]
    show (match (if 0 ≤ off ∧ off < (ws.length : Int) then _ else _ : Except Int (Int × Sg)) with | .error e => e | .ok _ => 0) = _
    by_cases hc : 0 ≤ off ∧ off < (ws.length : Int)
    · rw [if_pos hc, if_neg (by omega)]
    · rw [if_neg hc, if_pos (by omega)]
  rcases ho with rfl | rfl | rfl | rfl
  · rw [do_read (.inl rfl)]; exact hr (by decide)
  · rw [do_write, if_neg (by omega)]
    unfold wrR
    simp only [hs', e0, e1, plain_has ws 2 (by simp), show mayRead (Sg.plain ws).r1 4 = true from by show mayRead 4 4 = true; decide, Bool.and_self, Bool.true_eq_false, if_false]
    show (match (if 0 ≤ off ∧ off < (ws.length : Int) then _ else _ : Except Int (Int × Int)) with | .error e => e | .ok _ => 0) = _
    by_cases hc : 0 ≤ off ∧ off < (ws.length : Int)
    · rw [if_pos hc, if_neg (by omega)]
    · rw [if_neg hc, if_pos (by omega)]
  · rw [do_read (.inr rfl)]; exact hr (by decide)
  · rw [err_call]
    unfold caR
    simp only [hs', e0, e1, plain_has ws 4 (by simp), Bool.true_eq_false, if_false]
    have hcE : callE (Sg.plain ws).r1 (Sg.plain ws).r2 (Sg.plain ws).r3 (Sg.plain ws).g off 4 = if off < 0 ∨ 16 ≤ off then 34 else 0 := by
      show callE 4 4 4 0 off 4 = _
      unfold callE
      by_cases hc : off < 0 ∨ 16 ≤ off
      · rw [if_pos hc, if_pos (by omega)]
      · rw [if_neg hc, if_neg (by omega), if_neg (by decide), if_pos (by decide)]
    rw [hcE]
    by_cases hc : off < 0 ∨ 16 ≤ off
    · rw [if_pos hc, if_pos (by decide), if_pos ⟨trivial, hc⟩]
    · rw [if_neg hc, if_neg (by decide)]
      by_cases hd : 0 ≤ off ∧ off < (ws.length : Int)
      · rw [if_neg (show ¬ ¬ (0 ≤ off ∧ off < ((Sg.plain ws).ws.length : Int)) from not_not_intro hd), if_neg (show ¬ 8 ≤ ([] : List Fr).length by decide)]
        show (0 : Int) = _
        rw [if_neg (by rintro ⟨_, h⟩; exact hc h), if_neg (by omega)]
      · rw [if_pos (show ¬ (0 ≤ off ∧ off < ((Sg.plain ws).ws.length : Int)) from hd)]
        show (35 : Int) = _
        rw [if_neg (by rintro ⟨_, h⟩; exact hc h), if_pos (by omega)]
theorem bou_none (o seg off : Int) (size : Nat) (ho : o = 1 ∨ o = 2 ∨ o = 18 ∨ o = 20) (hs : seg? (bouM o size) seg = none) :
    errOf (stR (bouM o size) (bouS seg off) []) = 35 := by
  have hs' : seg? (bouM o size) (({ bouS seg off with off := 1 } : St).pt (1 : Int).toNat).seg = none := hs
  rw [bou_st o seg off size (by omega) (by omega)]
  rcases ho with rfl | rfl | rfl | rfl
  · rw [do_read (.inl rfl)]; unfold rdR; simp only [hs']
  · rw [do_write]; unfold wrR; simp only [hs']
  · rw [do_read (.inr rfl)]; unfold rdR; simp only [hs']
  · rw [err_call]; unfold caR; simp only [hs']
theorem bou_off (o seg off f : Int) (size : Nat) (h0 : 1 ≤ f) : stR (bouM o size) { bouS seg off with off := f } [] = .error 35 := by
  unfold stR
  rw [if_neg (by show ¬ (false = true); decide)]
  unfold feR
  have hs : seg? (bouM o size) ({ bouS seg off with off := f } : St).seg = some (Sg.plain [encI o 1 0]) := rfl
  simp only [hs, plain_has [encI o 1 0] 4 (by simp), show mayExec (Sg.plain [encI o 1 0]).r1 (Sg.plain [encI o 1 0]).r2 ({ bouS seg off with off := f } : St).ring = true from by show mayExec 4 4 4 = true; decide, Bool.and_self, Bool.true_eq_false, if_false]
  rw [if_pos (by show ¬ (0 ≤ f ∧ f < 1); omega)]

/-- CpuModes: the memory, the state -/
def modM (o r md b : Int) : List Sg := [⟨true, [encI o 1 0], 7, r, r, r, 0⟩, ⟨true, [0, 0, 0], md, b, 7, 7, 0⟩]
def modS (r : Int) : St := { St.new with ring := r, p1 := ⟨1, 0, 0⟩ }
theorem mod_st (o r md b : Int) (h0 : 0 ≤ o) (h1 : o < 23) (r0 : 0 ≤ r) (r1 : r < 8) : stR (modM o r md b) (modS r) [] = doR (modM o r md b) { modS r with off := 1 } [] o 1 0 := by
  refine st_fetched rfl (fe_at (modM o r md b) (modS r) ⟨true, [encI o 1 0], 7, r, r, r, 0⟩ 0 0 o 1 0 rfl rfl (plain_has [] 4 (by simp)) ?_ rfl rfl rfl h0 h1 (by decide) (by decide) (by decide) (by decide))
  show decide _ = true
  exact decide_eq_true ⟨r0, by show r ≤ 7; omega, Int.le_refl _, Int.le_refl _⟩
theorem mod_eo (r : Int) : ({ modS r with off := 1 } : St).eo 1 0 = 0 := by
  show IntKind.i64.wrap (0 + 0) = 0
  decide +kernel
theorem mod_eb (r : Int) (r0 : 0 ≤ r) : ({ modS r with off := 1 } : St).eb 1 = r := by
  show max 0 r = r
  omega
theorem mod_seg (o r md b : Int) : seg? (modM o r md b) (({ modS r with off := 1 } : St).pt (1 : Int).toNat).seg = some ⟨true, [0, 0, 0], md, b, 7, 7, 0⟩ := rfl
theorem mod_read (r md b : Int) (r0 : 0 ≤ r) (r1 : r < 8) : errOf (stR (modM 1 r md b) (modS r) []) = if (bits .and .i64 md 1 != 0) = true then 0 else 31 := by
  rw [mod_st 1 r md b (by decide) (by decide) r0 r1, do_read (.inl rfl)]
  unfold rdR
  simp only [mod_seg, mod_eo, mod_eb r r0]
  have hm : mayRead 7 r = true := decide_eq_true ⟨r0, by omega, by omega⟩
  simp only [hm, Bool.and_true]
  show (match (if (bits .and .i64 md 1 != 0) = false then _ else if 0 ≤ (0 : Int) ∧ (0 : Int) < 3 then _ else _ : Except Int (Int × Sg)) with | .error e => e | .ok _ => 0) = _
  cases (bits .and .i64 md 1 != 0) with
  | false => rw [if_pos rfl, if_neg (by decide)]
  | true => rw [if_neg (by decide), if_pos (by decide), if_pos rfl]
theorem mod_write (r md b : Int) (r0 : 0 ≤ r) (r1 : r < 8) : errOf (stR (modM 2 r md b) (modS r) []) = if (bits .and .i64 md 2 != 0) = true ∧ r ≤ b then 0 else 32 := by
  rw [mod_st 2 r md b (by decide) (by decide) r0 r1, do_write]
  unfold wrR
  simp only [mod_seg, mod_eo, mod_eb r r0]
  show (match (if (bits .and .i64 md 2 != 0 && mayRead b r) = false then _ else if 0 ≤ (0 : Int) ∧ (0 : Int) < 3 then _ else _ : Except Int (Int × Int)) with | .error e => e | .ok _ => 0) = _
  by_cases hb : r ≤ b
  · have hm : mayRead b r = true := decide_eq_true ⟨r0, by omega, hb⟩
    rw [hm, Bool.and_true]
    cases (bits .and .i64 md 2 != 0) with
    | false => rw [if_pos rfl, if_neg (by rintro ⟨h, _⟩; cases h)]
    | true => rw [if_neg (by decide), if_pos (by decide), if_pos ⟨rfl, hb⟩]
  · have hm : mayRead b r = false := decide_eq_false (by rintro ⟨_, _, h⟩; exact hb h)
    rw [hm, Bool.and_false, if_pos rfl, if_neg (by rintro ⟨_, h⟩; exact hb h)]
theorem mod_call0 (r md b : Int) (r0 : 0 ≤ r) (r1 : r < 8) (hm : (bits .and .i64 md 4 != 0) = false) : stR (modM 20 r md b) (modS r) [] = .error 33 := by
  rw [mod_st 20 r md b (by decide) (by decide) r0 r1, do_call]
  unfold caR
  simp only [mod_seg]
  rw [if_pos (show Sg.has ⟨true, [0, 0, 0], md, b, 7, 7, 0⟩ 4 = false from hm)]
theorem mod_call1 (r md b : Int) (r0 : 0 ≤ r) (r1 : r < 8) (b0 : 0 ≤ b) (b1 : b < 8) (hm : (bits .and .i64 md 4 != 0) = true) : stR (modM 20 r md b) (modS r) [] = .ok ⟨{ (modS r).raise r with seg := 1, off := 0, ring := max r b }, [⟨0, 1, r⟩], false, 0, none⟩ := by
  rw [mod_st 20 r md b (by decide) (by decide) r0 r1, do_call]
  have hc : caR (modM 20 r md b) { modS r with off := 1 } [] 1 0 = .ok ({ (modS r).raise r with seg := 1, off := 0, ring := max r b }, [⟨0, 1, r⟩]) := by
    unfold caR
    simp only [mod_seg, mod_eo, mod_eb r r0]
    have hE : callE b 7 7 0 0 r = 0 := by
      unfold callE
      rw [if_neg (by omega)]
      by_cases h : r < b
      · rw [if_pos h]
      · rw [if_neg h, if_pos (by omega)]
    have hT : callTo b 7 7 0 0 r = max r b := by
      unfold callTo
      rw [if_neg (by omega)]
      by_cases h : r < b
      · rw [if_pos h]; omega
      · rw [if_neg h, if_pos (by omega)]; omega
    rw [if_neg (show ¬ Sg.has ⟨true, [0, 0, 0], md, b, 7, 7, 0⟩ 4 = false by show ¬ (bits .and .i64 md 4 != 0) = false; rw [hm]; decide), hE, hT, if_neg (by decide), if_neg (by show ¬ ¬ (0 ≤ (0 : Int) ∧ (0 : Int) < 3); decide), if_neg (by show ¬ 8 ≤ 0; decide)]
    rfl
  rw [hc]
/-- a memory of two segments, lying anywhere -/
theorem mem_at2 (W : World) (SB Y : Nat) (g h : Sg) (u v : Value) (h14 : W.heap[SB]? = some (.cells #[.bool g.is, u, .int .i64 g.md, .int .i64 g.r1, .int .i64 g.r2, .int .i64 g.r3, .int .i64 g.g, .bool h.is, v, .int .i64 h.md, .int .i64 h.r1, .int .i64 h.r2, .int .i64 h.r3, .int .i64 h.g] 57 (0, 0))) (hY : memAt W 0 Y (.slice (some ⟨SB, 0, none⟩) 2 2) false 0 0 0 0)
    (hu : W.ownsRow 0 2 1 u g.ws.length (g.ws.map (Value.int .i64))) (hv : W.ownsRow 0 2 1 v h.ws.length (h.ws.map (Value.int .i64))) (hg : g.ws.length < 1000000) (hh : h.ws.length < 1000000) : MemOk W 0 Y [g, h] := by
  refine ⟨⟨_, [u, v], false, 0, 0, 0, 0, hY, ⟨rfl, ?_, ?_⟩⟩, by simp, ?_, Nat.zero_le _⟩
  · exact ⟨rfl, .inr ⟨SB, 2, _, rfl, Nat.zero_le _, h14, Nat.le_refl _, by decide, rfl, rfl⟩⟩
  · intro i s x hs hx
    match i with
    | 0 =>
      simp only [List.getElem?_cons_zero, Option.some.injEq] at hs hx
      subst hs; subst hx
      exact hu
    | 1 =>
      simp only [List.getElem?_cons_succ, List.getElem?_cons_zero, Option.some.injEq] at hs hx
      subst hs; subst hx
      exact hv
    | (k + 2) => simp at hs
  · intro s hs
    simp only [List.mem_cons, List.not_mem_nil, or_false] at hs
    rcases hs with rfl | rfl
    · exact hg
    · exact hh
/-- a step, whatever it answers -/
theorem c_Step_any (w : World) (Y : Nat) (s : St) (stk : Value) (M : List Sg) (l : List Fr) (hm : MemOk w 0 Y M) (hs : stkAt w stk l) (hbig : l.length < 1000000) (v : Value) (is : Bool) (sg of_ x n0 : Int) (hma : memAt w 0 Y v is sg of_ x n0) :
    Calls Try.prog 22 #[stV s stk, memV Y] w fun e w' => ∃ (s' : St) (ad : Option Addr) (n cp : Nat) (out : Int) (told : Bool), e = .returned (.tuple #[stV s' (.slice ad n cp), .int .i64 out, .bool told, .int .i64 (errOf (stR M s l))]) ∧ MemOk w' 0 Y M ∧ (∃ is sg of_ x n0, memAt w' 0 Y v is sg of_ x n0) ∧ Off (· = Y) w w' := by
  cases h : stR M s l with
  | error er =>
    refine (c_Step_er w 0 Y s stk M l hm hs hbig er h).mono ?_
    rintro e w' ⟨rfl, hb⟩
    exact ⟨St.zero, none, 0, 0, 0, false, rfl, hm.below hb, ⟨_, _, _, _, _, Off.keeps (.of_below (ex := fun _ => False) hb) hma id⟩, .of_below hb⟩
  | ok r =>
    refine (c_Step_ok w 0 Y s stk M l hm hs hbig v is sg of_ x n0 hma r h).mono ?_
    rintro e w' ⟨stk', rfl, hr, hmt, ho⟩
    obtain ⟨ad, cp, rfl, _, _⟩ := row_shape hr
    have hm' : ∃ is sg of_ x n0, memAt w' 0 Y v is sg of_ x n0 := by
      cases hst : r.st with
      | none => rw [hst] at hmt; exact ⟨_, _, _, _, _, hmt⟩
      | some y =>
        obtain ⟨a, b, c⟩ := y
        rw [hst] at hmt
        exact ⟨_, _, _, _, _, hmt⟩
    obtain ⟨is', sg', of', x', n', hm'⟩ := hm'
    exact ⟨r.s, ad, _, cp, r.out, r.told, rfl, hm.step hma ho hm', ⟨_, _, _, _, _, hm'⟩, ho⟩
end Go.Proofs.Ytiakonmamkfopaa
