/- Contracts of membership in a list of texts. -/
import Derived.Test.YtejgpghcahinhaaH2
namespace Go.Proofs.Ytejgpghcahinhaa
open Go.RowKit
set_option linter.unusedVariables false
/-- Membership of a text. -/
def hasB (xs : List ByteArray) (s : ByteArray) : Bool := xs.any fun y => y.toList == s.toList
theorem hasB_no {xs : List ByteArray} {s y : ByteArray} {k : Nat} (h : hasB (xs.take k) s = false) (hy : xs[k]? = some y) (hn : (y.toList == s.toList) = false) : hasB (xs.take (k + 1)) s = false := by
  rw [take_snoc hy]; unfold hasB at h ⊢; rw [List.any_append, h]; simp [hn]
theorem hasB_yes {xs : List ByteArray} {s y : ByteArray} {k : Nat} (hy : xs[k]? = some y) (hn : (y.toList == s.toList) = true) : hasB xs s = true := by
  unfold hasB; rw [List.any_eq_true]; exact ⟨y, List.mem_of_getElem? hy, hn⟩
set_option maxRecDepth 100000 in
set_option maxHeartbeats 400000 in
theorem l12Has (va : Value) (n : Nat) (xs : List ByteArray) (s : ByteArray) (w : World) (ha : Rd w va 1 n (strs xs)) (hx : n ≤ 4000000) :
    Calls Try.prog 178 #[va, .string s] w fun e w' => e = .returned (.bool (hasB xs s)) ∧ w = w' := by
  obtain ⟨a, ca, rfl, hca, hra⟩ := ha
  have HX := Lib.hid hra.len_map
  go_enter Try.func178, Try.ntmps178
  go_wp2
  go_loop [5] (fun i => ∃ k : Nat, k ≤ n ∧ i = .int .i64 k ∧ Hid (hasB (xs.take k) s = false)) (fun i => n - (intOf i).toNat)
  case atStart => exact ⟨0, Nat.zero_le _, rfl, Lib.hid (by simp [hasB])⟩
  case round =>
    obtain ⟨k, hk, rfl, hsame⟩ := hrel
    by_cases hlt : k < n
    · obtain ⟨b1, o1, y, rfl, hxk, e1⟩ := hra.one hlt
      have hcs : (y.toList == s.toList) = true ∨ (y.toList == s.toList) = false := by cases y.toList == s.toList <;> simp
      rcases hcs with hn | hn
      · go_wp2
        go_ret
        exact ⟨ret_bool (hasB_yes hxk.out hn).symm, rfl⟩
      · go_wp2
        go_round
        case rel => exact ⟨k + 1, by omega, by go_num, Lib.hid (hasB_no hsame.out hxk.out hn)⟩
        case measure => simp [intOf]; omega
    · go_wp2
      go_ret
      obtain rfl : k = n := by omega
      exact ⟨ret_bool (by have := hsame.out; rw [take_all HX.out] at this; exact this.symm), rfl⟩
/-- Where slices.Index finds a text: its place, or -1. -/
def idxS (xs : List ByteArray) (s : ByteArray) (i : Int) : Prop := (i = -1 ∧ hasB xs s = false) ∨ (0 ≤ i ∧ hasB xs s = true)
theorem beq_swap (a b : List UInt8) : (a == b) = (b == a) := by
  by_cases h : a = b
  · subst h; rfl
  · rw [beq_eq_false_iff_ne.2 h, beq_eq_false_iff_ne.2 (fun e => h e.symm)]
set_option maxRecDepth 100000 in
set_option maxHeartbeats 400000 in
theorem slIndexStr (va : Value) (n : Nat) (xs : List ByteArray) (s : ByteArray) (w : World) (ha : Rd w va 1 n (strs xs)) (hx : n ≤ 4000000) :
    Calls Try.prog 228 #[va, .string s] w fun e w' => ∃ i : Int, e = .returned (.int .i64 i) ∧ idxS xs s i ∧ w = w' := by
  obtain ⟨a, ca, rfl, hca, hra⟩ := ha
  have HX := Lib.hid hra.len_map
  go_enter Try.func228, Try.ntmps228
  go_wp2
  go_loop [5, 8] (fun _ i => ∃ k : Nat, k ≤ n ∧ i = .int .i64 k ∧ Hid (hasB (xs.take k) s = false)) (fun _ i => n - (intOf i).toNat)
  case atStart => exact ⟨0, Nat.zero_le _, rfl, Lib.hid (by simp [hasB])⟩
  case round =>
    obtain ⟨k, hk, rfl, hsame⟩ := hrel
    by_cases hlt : k < n
    · obtain ⟨b1, o1, y, rfl, hxk, e1⟩ := hra.one hlt
      have hcs : (y.toList == s.toList) = true ∨ (y.toList == s.toList) = false := by cases y.toList == s.toList <;> simp
      rcases hcs with hn | hn
      · have hn2 : (s.toList == y.toList) = true := by rw [beq_swap]; exact hn
        go_wp2
        go_ret
        exact ⟨_, rfl, .inr ⟨by omega, hasB_yes hxk.out hn⟩, rfl⟩
      · have hn2 : (s.toList == y.toList) = false := by rw [beq_swap]; exact hn
        go_wp2
        go_round
        case rel => exact ⟨k + 1, by omega, by go_num, Lib.hid (hasB_no hsame.out hxk.out hn)⟩
        case measure => simp [intOf]; omega
    · go_wp2
      go_ret
      obtain rfl : k = n := by omega
      exact ⟨_, rfl, .inl ⟨rfl, by have := hsame.out; rw [take_all HX.out] at this; exact this⟩, rfl⟩
set_option maxRecDepth 100000 in
set_option maxHeartbeats 400000 in
theorem slContainsStr (va : Value) (n : Nat) (xs : List ByteArray) (s : ByteArray) (w : World) (ha : Rd w va 1 n (strs xs)) (hx : n ≤ 4000000) :
    Calls Try.prog 176 #[va, .string s] w fun e w' => e = .returned (.bool (hasB xs s)) ∧ w = w' := by
  go_enter Try.func176, Try.ntmps176
  go_wp2_with (go_at_call 228; refine (slIndexStr va n xs s _ ha hx).mono ?_; rintro e w' ⟨i, rfl, hi, rfl⟩)
  go_ret
  refine ⟨ret_bool ?_, rfl⟩
  rcases hi with ⟨rfl, h⟩ | ⟨h0, h⟩
  · simp [h]
  · simp [h, h0]
end Go.Proofs.Ytejgpghcahinhaa
