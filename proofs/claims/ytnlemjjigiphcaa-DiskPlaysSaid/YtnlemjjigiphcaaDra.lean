/- The document's disk: at, Read. -/
import Derived.Test.YtnlemjjigiphcaaDr
import Derived.Test.YtnlemjjigiphcaaDk
import Derived.Test.YtnlemjjigiphcaaDh
import Derived.Deep.CutBlock
namespace Go.Proofs.Ytnlemjjigiphcaa
open Go.RowKit Go.ChangeShapes
set_option linter.unusedVariables false
set_option maxRecDepth 100000

theorem RefIn.form {G : Nat → Prop} {w : World} {X : Nat} {d : Dk} {s : List Sx} {v : Value} {es : List Se} (h : RefIn G w X d s v es) : ∃ ao cap, v = .slice ao es.length cap ∧ es.length ≤ maxLen ∧ (0 < es.length → ∃ g, ao = some ⟨g, 0, none⟩) ∧ (es.length = 0 → (ao = none ∧ cap = 0) ∨ ∃ g, ao = some ⟨g, 0, none⟩) := by
  rcases h.row.2 with ⟨e, e0⟩ | ⟨g, cap, cur, e, _, _, hc, hm, _⟩
  · exact ⟨none, 0, by rw [e0]; exact e, by rw [e0]; exact Nat.zero_le _, fun h => by omega, fun _ => .inl ⟨rfl, rfl⟩⟩
  · exact ⟨_, cap, e, Nat.le_trans hc hm, fun _ => ⟨g, rfl⟩, fun _ => .inr ⟨g, rfl⟩⟩
theorem RefIn.rowc {G : Nat → Prop} {w : World} {X : Nat} {d : Dk} {s : List Sx} {g c : Nat} {es : List Se} (h : RefIn G w X d s (.slice (some ⟨g, 0, none⟩) es.length c) es) {j : Nat} {e : Se} (he : es[j]? = some e) : w.cell? ⟨g, j * 4, none⟩ = some (.int .i64 e.x.n) ∧ w.cell? ⟨g, j * 4 + 1, none⟩ = some e.vo ∧ w.cell? ⟨g, j * 4 + 2, none⟩ = some e.vl ∧ w.cell? ⟨g, j * 4 + 3, none⟩ = some (.bool e.x.dirty) := by
  obtain ⟨h0, h1, h2, h3⟩ := cells4_get es j e he
  exact ⟨(row_cell h.row _ h0).2, (row_cell h.row _ h1).2, (row_cell h.row _ h2).2, (row_cell h.row _ h3).2⟩
theorem RefIn.at_k {G : Nat → Prop} {w : World} {X : Nat} {d : Dk} {s : List Sx} {v : Value} {es : List Se} (h : RefIn G w X d s v es) {j : Nat} {x : Sx} (hx : s[j]? = some x) : ∃ e, es[j]? = some e ∧ e.x = x := by
  rw [← h.xs, List.getElem?_map] at hx
  cases he : es[j]? with
  | none => rw [he] at hx; cases hx
  | some e => rw [he] at hx; exact ⟨e, rfl, by simpa using hx⟩
theorem RefIn.get {G : Nat → Prop} {w : World} {X : Nat} {d : Dk} {s : List Sx} {v : Value} {es : List Se} (h : RefIn G w X d s v es) {j : Nat} {e : Se} (he : es[j]? = some e) : s[j]? = some e.x := by
  rw [← h.xs, List.getElem?_map, he]
  rfl
set_option maxHeartbeats 2000000 in
theorem c_at {G : Nat → Prop} (w : World) (X : Nat) (d : Dk) (s : List Sx) (v : Value) (es : List Se) (h : RefIn G w X d s v es) (n : Int) : Calls Try.prog 31 #[.pointer (some ⟨X, 0, none⟩), .int .i64 n] w fun e w' => e = .returned (.int .i64 (atX s n)) ∧ w = w' := by
  obtain ⟨ao, cap, rfl, hm, hp, _⟩ := h.form
  have c1 : w.cell? ⟨X, 1, none⟩ = some (.slice ao es.length cap) := h.cell 1
  have cf := fun j => h.free j
  have H := Lib.hid h
  have HM : Hid (es.length ≤ maxLen) := Lib.hid hm
  have HP := Lib.hid hp
  clear h hm hp
  go_enter Try.func31, Try.ntmps31
  go_wp2_with fail
  go_loopw [5] (fun kv wr => ∃ k : Nat, kv = .int .i64 k ∧ k ≤ es.length ∧ wr = w ∧ Hid (∀ (j : Nat) (x : Sx), j < k → s[j]? = some x → x.n < n)) (fun kv _ => es.length - (intOf kv).toNat)
  case atStart => exact ⟨0, rfl, by omega, rfl, Lib.hid (fun j x h => by omega)⟩
  case round =>
    obtain ⟨k, rfl, hk, rfl, hR⟩ := hrel
    by_cases hlt : k < es.length
    · have hlt' : (k : Int) < (es.length : Int) := by omega
      obtain ⟨g, rfl⟩ := HP.out (by omega)
      obtain ⟨e, he⟩ : ∃ e, es[k]? = some e := ⟨_, List.getElem?_eq_getElem hlt⟩
      obtain ⟨cn, _⟩ := H.out.rowc he
      have hz := Lib.hid (H.out.get he)
      by_cases hen : e.x.n < n
      · have hR2 : Hid (∀ (j : Nat) (x : Sx), j < k + 1 → s[j]? = some x → x.n < n) := Lib.hid (fun j x hj hx => by
          rcases Nat.lt_or_ge j k with h1 | h1
          · exact hR.out j x h1 hx
          · obtain rfl : j = k := by omega
            rw [hz.out] at hx
            cases hx
            exact hen)
        have hwr : wrap64 ((k : Int) + 1) = ((k + 1 : Nat) : Int) := by
          have := HM.out
          unfold maxLen at this
          unfold wrap64
          omega
        have hwr := Lib.hid hwr
        go_wp2_with fail
        go_roundw
        case rel => exact ⟨k + 1, by rw [hwr.out], by omega, trivial, hR2⟩
        case measure => rw [hwr.out]; simp [intOf]; omega
      · have hA : Hid (atX s n = k) := Lib.hid (atX_eq s n k (by rw [H.out.len]; exact hk) hR.out (fun x hx => by rw [hz.out] at hx; cases hx; exact hen))
        go_wp2_with fail
        go_ret
        exact ⟨by rw [hA.out]; rfl, rfl⟩
    · have hlt' : ¬ (k : Int) < (es.length : Int) := by omega
      have hA : Hid (atX s n = k) := Lib.hid (atX_eq s n k (by rw [H.out.len]; exact hk) hR.out (fun x hx => by
        have : k < s.length := (List.getElem?_eq_some_iff.1 hx).1
        rw [H.out.len] at this
        omega))
      go_wp2_with fail
      go_ret
      exact ⟨by rw [hA.out]; rfl, rfl⟩
end Go.Proofs.Ytnlemjjigiphcaa
