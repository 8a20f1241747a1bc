/- The small functions of the processor's chapter: faults, words as instructions and as pointers. -/
import Derived.Test.YtiakonmamkfopaaZCRingB
import Derived.Laws.BitsAllLaws
namespace Go.Proofs.Ytiakonmamkfopaa
open Go.RowKit Go.ChangeShapes
set_option linter.unusedVariables false
set_option maxRecDepth 100000
/-- what a fault panics with -/
def flt (e : Int) : List PanicEntry := [{ v := .iface 48 (.int .i64 e), recovered := false }]
theorem c_fault (e : Int) (w : World) : Calls Try.prog 83 #[.int .i64 e] w fun x w' => x = .panicked (flt e) ∧ w' = w := by
  go_enter Try.func83, Try.ntmps83
  go_wp2
  exact ⟨rfl, rfl, rfl⟩
theorem c_must (b : Bool) (e : Int) (w : World) : Calls Try.prog 59 #[.bool b, .int .i64 e] w fun x w' => x = (if b then .returned (.tuple #[]) else .panicked (flt e)) ∧ w' = w := by
  cases b
  · go_enter Try.func59, Try.ntmps59
    go_wp2_with (go_at_call 83; refine (c_fault _ _).mono ?_; rintro e w' ⟨rfl, rfl⟩)
    exact ⟨rfl, rfl, rfl⟩
  · go_enter Try.func59, Try.ntmps59
    go_wp2
    go_end0
    exact ⟨rfl, rfl⟩
theorem c_must_ok (e : Int) (w : World) : Calls Try.prog 59 #[.bool true, .int .i64 e] w fun x w' => x = .returned (.tuple #[]) ∧ w' = w := c_must true e w
theorem c_must_no (e : Int) (w : World) : Calls Try.prog 59 #[.bool false, .int .i64 e] w fun x w' => x = .panicked (flt e) ∧ w' = w := c_must false e w
theorem c_in (m r1 r2 r3 g : Int) (off : Int) (ad : Option Addr) (len cap : Nat) (w : World) : Calls Try.prog 69 #[.agg #[.slice ad len cap, .int .i64 m, .int .i64 r1, .int .i64 r2, .int .i64 r3, .int .i64 g], .int .i64 off] w fun x w' => x = .returned (.bool (decide (0 ≤ off ∧ off < len))) ∧ Below w.heap.size w w' := by
  have hb := (Below.refl w.heap.size w).alloc (Nat.le_refl _) (.cells #[.slice ad len cap, .int .i64 m, .int .i64 r1, .int .i64 r2, .int .i64 r3, .int .i64 g] 60)
  have HB := Lib.hid hb
  clear hb
  by_cases h0 : 0 ≤ off
  · have e : decide (0 ≤ off ∧ off < (len : Int)) = decide (off < (len : Int)) := by simp [h0]
    rw [e]; clear e
    go_enter Try.func69, Try.ntmps69
    go_wp2
    go_ret
    exact ⟨rfl, HB.out⟩
  · have e : decide (0 ≤ off ∧ off < (len : Int)) = false := by simp; omega
    rw [e]; clear e
    go_enter Try.func69, Try.ntmps69
    go_wp2
    go_ret
    exact ⟨rfl, HB.out⟩
/-- a word's bits, as a number that is not below nought -/
def uw (a : Int) : Int := a % 18446744073709551616
def dOp (a : Int) : Int := uw a / 72057594037927936
def dP (a : Int) : Int := uw a / 281474976710656 % 256
def dMid (a : Int) : Int := uw a / 4294967296 % 65536
def dN (a : Int) : Int := if uw a % 4294967296 < 2147483648 then uw a % 4294967296 else uw a % 4294967296 - 4294967296
def decE (a : Int) : Int := if 23 ≤ dOp a then 3 else if 4 ≤ dP a then 1 else if dMid a ≠ 0 then 11 else 0
def pSeg (a : Int) : Int := a / 4294967296 % 65536
def pOff (a : Int) : Int := a % 4294967296
def pRing (a : Int) : Int := a / 281474976710656 % 8
def encP (s o r : Int) : Int := r % 8 * 281474976710656 + s % 65536 * 4294967296 + o % 4294967296
def encI (op p n : Int) : Int := op * 72057594037927936 + p * 281474976710656 + n % 4294967296
theorem u64_mask (k : Nat) (m : Int) (hm : m = (2 ^ k - 1 : Nat)) (hk : k ≤ 63) (x : Int) (h1 : 0 ≤ x) (h2 : x < 18446744073709551616) : bits .and .u64 x m = x % 2 ^ k := by
  obtain ⟨X, rfl⟩ := Int.eq_ofNat_of_zero_le h1
  have hp : 2 ^ k ≤ 2 ^ 63 := Nat.pow_le_pow_right (by decide) hk
  subst hm
  rw [u64_and_nat X (2 ^ k - 1) (by omega) (by omega), Nat.and_two_pow_sub_one_eq_mod]
  simp
theorem i64_mask (k : Nat) (m : Int) (hm : m = (2 ^ k - 1 : Nat)) (hk : k ≤ 62) (x : Int) : bits .and .i64 x m = x % 2 ^ k := by
  have hp : 2 ^ k ≤ 2 ^ 62 := Nat.pow_le_pow_right (by decide) hk
  subst hm
  show IntKind.i64.wrap ((BitVec.ofInt 64 x &&& BitVec.ofInt 64 ((2 ^ k - 1 : Nat) : Int)).toNat : Int) = _
  rw [BitVec.toNat_and, BitVec.toNat_ofInt, ofInt_u64 _ (by omega), Nat.and_two_pow_sub_one_eq_mod, IntKind.wrap_i64]
  obtain ⟨X, hX⟩ : ∃ X : Nat, (x % ((2 ^ 64 : Nat) : Int)).toNat = X := ⟨_, rfl⟩
  rw [hX]
  have h0 : 0 ≤ x % ((2 ^ 64 : Nat) : Int) := Int.emod_nonneg _ (by decide)
  have h1 : ((X : Nat) : Int) = x % ((2 ^ 64 : Nat) : Int) := by omega
  have h2 : X % 2 ^ k < 2 ^ k := Nat.mod_lt _ (Nat.pos_of_ne_zero (by simp))
  have h3 : ((X % 2 ^ k : Nat) : Int) = x % 2 ^ k := by
    rw [Int.natCast_emod, h1]
    have : ((2 ^ k : Nat) : Int) = (2 : Int) ^ k := by simp
    rw [this]
    refine Int.emod_emod_of_dvd x ?_
    have : (((2 ^ 64 : Nat) : Int)) = (2 : Int) ^ 64 := by decide
    rw [this]
    exact ⟨(2 : Int) ^ (64 - k), by rw [← Int.pow_add]; congr 1; omega⟩
  rw [h3] 
  have h4 : 0 ≤ x % 2 ^ k := by rw [← h3]; omega
  have h5 : x % 2 ^ k < 2 ^ 62 := by rw [← h3]; omega
  omega
theorem i64_join (i : Nat) (x y : Int) (h0 : 0 ≤ x) (h1 : x < 9223372036854775808) (hx : x % 2 ^ i = 0) (hy0 : 0 ≤ y) (hy : y < 2 ^ i) (hi : i ≤ 62) : bits .or .i64 x y = x + y := by
  obtain ⟨X, rfl⟩ := Int.eq_ofNat_of_zero_le h0
  obtain ⟨Y, rfl⟩ := Int.eq_ofNat_of_zero_le hy0
  have hp : 2 ^ i ≤ 2 ^ 62 := Nat.pow_le_pow_right (by decide) hi
  have hp' : ((2 ^ i : Nat) : Int) = (2 : Int) ^ i := by simp
  rw [← hp'] at hx hy
  have hY : Y < 2 ^ i := by omega
  have hX : X % 2 ^ i = 0 := by omega
  have hj := nat_join i X Y hX hY
  show IntKind.i64.wrap ((BitVec.ofInt 64 (X : Int) ||| BitVec.ofInt 64 (Y : Int)).toNat : Int) = _
  rw [BitVec.toNat_or, ofInt_u64 _ (by omega), ofInt_u64 _ (by omega), hj, IntKind.wrap_i64]
  have hs : X + Y < 9223372036854775808 := by
    have hd : X = 2 ^ i * (X / 2 ^ i) := by have := Nat.div_add_mod X (2 ^ i); omega
    have h63 : 2 ^ i * 2 ^ (63 - i) = 9223372036854775808 := by
      rw [← Nat.pow_add]
      have h63' : i + (63 - i) = 63 := by omega
      rw [h63']
    have hlt : X / 2 ^ i < 2 ^ (63 - i) := by
      refine Nat.div_lt_of_lt_mul ?_
      omega
    have : 2 ^ i * (X / 2 ^ i + 1) ≤ 2 ^ i * 2 ^ (63 - i) := Nat.mul_le_mul_left _ (by omega)
    rw [Nat.mul_add] at this
    omega
  omega
theorem uw_lt (a : Int) : 0 ≤ uw a ∧ uw a < 18446744073709551616 := ⟨Int.emod_nonneg _ (by decide), Int.emod_lt_of_pos _ (by decide)⟩
theorem uw_eq (a : Int) : IntKind.u64.wrap a = uw a := by rw [IntKind.wrap_u64]; rfl
theorem c_Decode (a : Int) (w : World) : Calls Try.prog 70 #[.int .i64 a] w fun x w' => x = .returned (.tuple #[if decE a = 0 then .agg #[.int .i64 (dOp a), .int .i64 (dP a), .int .i64 (dN a)] else .agg #[.int .i64 0, .int .i64 0, .int .i64 0], .int .i64 (decE a)]) ∧ Below w.heap.size w w' := by
  obtain ⟨u0, u1⟩ := uw_lt a
  have f1 : wrap64 (IntKind.u64.wrap a / 72057594037927936) = dOp a := by rw [uw_eq]; unfold wrap64 dOp; omega
  have f2 : wrap64 (bits .and .u64 (IntKind.u64.wrap a / 281474976710656) 255) = dP a := by rw [uw_eq, u64_mask 8 255 (by decide) (by decide) _ (by omega) (by omega)]; unfold wrap64 dP; omega
  have f3 : bits .and .u64 (IntKind.u64.wrap a / 4294967296) 65535 = dMid a := by rw [uw_eq, u64_mask 16 65535 (by decide) (by decide) _ (by omega) (by omega)]; unfold dMid; omega
  have f4 : wrap64 (wrap32 (IntKind.u64.wrap a % 4294967296)) = dN a := by rw [uw_eq]; unfold wrap64 wrap32 dN; split <;> omega
  have e := rfl (a := decE a)
  conv at e => rhs; unfold decE
  clear u0 u1
  by_cases h1 : 23 ≤ dOp a
  · rw [if_pos h1] at e
    rw [e, if_neg (by decide)]
    clear e
    go_enter Try.func70, Try.ntmps70
    go_wp2
    exact bodyPost_ret (v := .tuple #[.agg #[.int .i64 0, .int .i64 0, .int .i64 0], .int .i64 3]) (by simp [results, Try.results70, go_sem]) rfl ⟨rfl, by repeat (first | exact Below.refl _ _ | refine Below.alloc ?_ (by simp <;> omega) _)⟩
  rw [if_neg h1] at e
  by_cases h2 : 4 ≤ dP a
  · rw [if_pos h2] at e
    rw [e, if_neg (by decide)]
    clear e
    go_enter Try.func70, Try.ntmps70
    go_wp2
    exact bodyPost_ret (v := .tuple #[.agg #[.int .i64 0, .int .i64 0, .int .i64 0], .int .i64 1]) (by simp [results, Try.results70, go_sem]) rfl ⟨rfl, by repeat (first | exact Below.refl _ _ | refine Below.alloc ?_ (by simp <;> omega) _)⟩
  rw [if_neg h2] at e
  by_cases h3 : dMid a ≠ 0
  · rw [if_pos h3] at e
    rw [e, if_neg (by decide)]
    clear e
    have h3' : (dMid a != 0) = true := by simp [h3]
    go_enter Try.func70, Try.ntmps70
    go_wp2
    exact bodyPost_ret (v := .tuple #[.agg #[.int .i64 0, .int .i64 0, .int .i64 0], .int .i64 11]) (by simp [results, Try.results70, go_sem]) rfl ⟨rfl, by repeat (first | exact Below.refl _ _ | refine Below.alloc ?_ (by simp <;> omega) _)⟩
  rw [if_neg h3] at e
  rw [e, if_pos rfl]
  clear e
  have h3' : (dMid a != 0) = false := by simp; omega
  go_enter Try.func70, Try.ntmps70
  go_wp2
  exact bodyPost_ret (v := .tuple #[.agg #[.int .i64 (dOp a), .int .i64 (dP a), .int .i64 (dN a)], .int .i64 0]) (by simp [results, Try.results70, go_sem]) rfl ⟨rfl, by repeat (first | exact Below.refl _ _ | refine Below.alloc ?_ (by simp <;> omega) _)⟩
theorem c_DecodePointer (a : Int) (w : World) : Calls Try.prog 61 #[.int .i64 a] w fun x w' => x = .returned (.agg #[.int .i64 (pSeg a), .int .i64 (pOff a), .int .i64 (pRing a)]) ∧ Below w.heap.size w w' := by
  have f1 : bits .and .i64 (a / 281474976710656) 7 = pRing a := i64_mask 3 7 (by decide) (by decide) _
  have f2 : bits .and .i64 (a / 4294967296) 65535 = pSeg a := i64_mask 16 65535 (by decide) (by decide) _
  have f3 : bits .and .i64 a 4294967295 = pOff a := i64_mask 32 4294967295 (by decide) (by decide) _
  go_enter Try.func61, Try.ntmps61
  go_wp2
  exact bodyPost_ret (v := .agg #[.int .i64 (pSeg a), .int .i64 (pOff a), .int .i64 (pRing a)]) (by simp [results, Try.results61, go_sem]) rfl ⟨rfl, (Below.refl _ _).alloc (Nat.le_refl _) _⟩
theorem c_EncodePointer (a b c : Int) (w : World) : Calls Try.prog 63 #[.agg #[.int .i64 a, .int .i64 b, .int .i64 c]] w fun x w' => x = .returned (.int .i64 (encP a b c)) ∧ Below w.heap.size w w' := by
  have f0 : bits .or .i64 (bits .or .i64 (wrap64 (bits .and .i64 c 7 * 281474976710656)) (wrap64 (bits .and .i64 a 65535 * 4294967296))) (bits .and .i64 b 4294967295) = encP a b c := by
    rw [i64_mask 3 7 (by decide) (by decide), i64_mask 16 65535 (by decide) (by decide), i64_mask 32 4294967295 (by decide) (by decide)]
    have e1 : wrap64 (c % 2 ^ 3 * 281474976710656) = c % 8 * 281474976710656 := by unfold wrap64; omega
    have e2 : wrap64 (a % 2 ^ 16 * 4294967296) = a % 65536 * 4294967296 := by unfold wrap64; omega
    rw [e1, e2, i64_join 48 (c % 8 * 281474976710656) (a % 65536 * 4294967296) (by omega) (by omega) (by omega) (by omega) (by omega) (by decide), i64_join 32 _ _ (by omega) (by omega) (by omega) (by omega) (by omega) (by decide)]
    rfl
  go_enter Try.func63, Try.ntmps63
  go_wp2
  go_ret
  exact ⟨rfl, (Below.refl _ _).alloc (Nat.le_refl _) _⟩
theorem r_DecodePointer (a : Int) (w : World) : Calls Try.prog 34 #[.int .i64 a] w fun x w' => x = .returned (.agg #[.int .i64 (pSeg a), .int .i64 (pOff a), .int .i64 (pRing a)]) ∧ Below w.heap.size w w' := by
  obtain ⟨u0, u1⟩ := uw_lt a
  have f1 : wrap64 (bits .and .u64 (IntKind.u64.wrap a / 281474976710656) 7) = pRing a := by rw [uw_eq, u64_mask 3 7 (by decide) (by decide) _ (by omega) (by omega)]; unfold wrap64 pRing uw; omega
  have f2 : wrap64 (bits .and .u64 (IntKind.u64.wrap a / 4294967296) 65535) = pSeg a := by rw [uw_eq, u64_mask 16 65535 (by decide) (by decide) _ (by omega) (by omega)]; unfold wrap64 pSeg uw; omega
  have f3 : a % 4294967296 = pOff a := rfl
  clear u0 u1
  go_enter Try.func34, Try.ntmps34
  go_wp2
  exact bodyPost_ret (v := .agg #[.int .i64 (pSeg a), .int .i64 (pOff a), .int .i64 (pRing a)]) (by simp [results, Try.results34, go_sem]) rfl ⟨rfl, (Below.refl _ _).alloc (Nat.le_refl _) _⟩
theorem r_EncodePointer (a b c : Int) (w : World) : Calls Try.prog 35 #[.agg #[.int .i64 a, .int .i64 b, .int .i64 c]] w fun x w' => x = .returned (.int .i64 (encP a b c)) ∧ Below w.heap.size w w' := by
  have f0 : bits .or .i64 (bits .or .i64 (wrap64 (bits .and .i64 c 7 * 281474976710656)) (wrap64 (bits .and .i64 a 65535 * 4294967296))) (b % 4294967296) = encP a b c := by
    rw [i64_mask 3 7 (by decide) (by decide), i64_mask 16 65535 (by decide) (by decide)]
    have e1 : wrap64 (c % 2 ^ 3 * 281474976710656) = c % 8 * 281474976710656 := by unfold wrap64; omega
    have e2 : wrap64 (a % 2 ^ 16 * 4294967296) = a % 65536 * 4294967296 := by unfold wrap64; omega
    rw [e1, e2, i64_join 48 (c % 8 * 281474976710656) (a % 65536 * 4294967296) (by omega) (by omega) (by omega) (by omega) (by omega) (by decide), i64_join 32 _ _ (by omega) (by omega) (by omega) (by omega) (by omega) (by decide)]
    rfl
  go_enter Try.func35, Try.ntmps35
  go_wp2
  go_ret
  exact ⟨rfl, (Below.refl _ _).alloc (Nat.le_refl _) _⟩
end Go.Proofs.Ytiakonmamkfopaa
