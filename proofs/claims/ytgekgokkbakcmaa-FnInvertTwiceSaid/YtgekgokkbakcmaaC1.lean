/- Contracts of the small functions: ranges, keywords, membership. -/
import Derived.Test.YtgekgokkbakcmaaH2
namespace Go.Proofs.Ytgekgokkbakcmaa
open Go.RowKit
set_option linter.unusedVariables false
def inB (x a b : Int) : Bool := decide (a ≤ x) && decide (x ≤ b)
set_option maxHeartbeats 400000 in
theorem l01In (x a b : Int) (w : World) :
    Calls Try.prog 90 #[.int .i64 x, .int .i64 a, .int .i64 b] w fun e w' => e = .returned (.bool (inB x a b)) ∧ w = w' := by
  go_enter Try.func90, Try.ntmps90
  go_wp2
  all_goals go_ret
  all_goals simp [inB, *]
  all_goals omega
set_option maxHeartbeats 400000 in
theorem within (x a b : Int) (w : World) :
    Calls Try.prog 133 #[.int .i64 x, .int .i64 a, .int .i64 b] w fun e w' => e = .returned (.bool (inB x a b)) ∧ w = w' := by
  go_enter Try.func133, Try.ntmps133
  go_wp2
  all_goals go_ret
  all_goals simp [inB, *]
  all_goals omega
/-- The keyword of an operator. -/
def kw (x : Int) : ByteArray :=
  if x = 1 then ⟨#[97, 108, 108]⟩ else if x = 2 then ⟨#[104, 97, 115]⟩ else if x = 3 then ⟨#[101, 113]⟩ else if x = 4 then ⟨#[108, 116]⟩ else
  if x = 5 then ⟨#[110, 111, 116]⟩ else if x = 6 then ⟨#[97, 110, 100]⟩ else if x = 7 then ⟨#[111, 114]⟩ else if x = 8 then ⟨#[105, 110]⟩ else
  if x = 9 then ⟨#[108, 105, 110, 107, 101, 100]⟩ else ⟨#[63]⟩
/-- Membership, as a bool. -/
def has {α : Type} [DecidableEq α] (xs : List α) (x : α) : Bool := decide (x ∈ xs)
theorem has_no {xs : List Int} {x y : Int} {k : Nat} (h : has (xs.take k) x = false) (hy : xs[k]? = some y) (hn : y ≠ x) : has (xs.take (k + 1)) x = false := by
  rw [take_snoc hy]
  simp [has] at h ⊢
  exact ⟨h, fun h => hn h.symm⟩
theorem has_yes {xs : List Int} {x : Int} {k : Nat} (hy : xs[k]? = some x) : has xs x = true := by
  simp [has]; exact List.mem_of_getElem? hy
set_option maxHeartbeats 400000 in
theorem specContainsID (va : Value) (n : Nat) (xs : List Int) (x : Int) (w : World) (ha : Rd w va 1 n (ints xs)) (hx : n ≤ 4000000) :
    Calls Try.prog 138 #[va, .int .i64 x] w fun e w' => e = .returned (.bool (has xs x)) ∧ w = w' := by
  obtain ⟨a, ca, rfl, hca, hra⟩ := ha
  have HX := Lib.hid hra.len_map
  go_enter Try.func138, Try.ntmps138
  go_wp2
  go_loop [5] (fun i => ∃ k : Nat, k ≤ n ∧ i = .int .i64 k ∧ Hid (has (xs.take k) x = false)) (fun i => n - (intOf i).toNat)
  case atStart => exact ⟨0, Nat.zero_le _, rfl, Lib.hid (by simp [has])⟩
  case round =>
    obtain ⟨k, hk, rfl, hsame⟩ := hrel
    by_cases hlt : k < n
    · obtain ⟨b1, o1, y, rfl, hxk, e1⟩ := hra.one hlt
      by_cases he : y = x
      · subst he
        go_wp2
        go_ret
        exact ⟨ret_bool (has_yes hxk.out).symm, rfl⟩
      · have hq : (y == x) = false := by simp [he]
        have HE := Lib.hid he
        clear he
        go_wp2
        go_round
        case rel => exact ⟨k + 1, by omega, by go_num, Lib.hid (has_no hsame.out hxk.out HE.out)⟩
        case measure => simp [intOf]; omega
    · go_wp2
      go_ret
      obtain rfl : k = n := by omega
      exact ⟨ret_bool (by have := hsame.out; rw [take_all HX.out] at this; exact this.symm), rfl⟩
/-- Where slices.Index finds a number: its place, or -1. -/
def idxB (xs : List Int) (x i : Int) : Prop := (i = -1 ∧ has xs x = false) ∨ (0 ≤ i ∧ has xs x = true)
set_option maxHeartbeats 400000 in
theorem slIndexInt (va : Value) (n : Nat) (xs : List Int) (x : Int) (w : World) (ha : Rd w va 1 n (ints xs)) (hx : n ≤ 4000000) :
    Calls Try.prog 142 #[va, .int .i64 x] w fun e w' => ∃ i : Int, e = .returned (.int .i64 i) ∧ idxB xs x i ∧ w = w' := by
  obtain ⟨a, ca, rfl, hca, hra⟩ := ha
  have HX := Lib.hid hra.len_map
  go_enter Try.func142, Try.ntmps142
  go_wp2
  go_loop [5, 8] (fun _ i => ∃ k : Nat, k ≤ n ∧ i = .int .i64 k ∧ Hid (has (xs.take k) x = false)) (fun _ i => n - (intOf i).toNat)
  case atStart => exact ⟨0, Nat.zero_le _, rfl, Lib.hid (by simp [has])⟩
  case round =>
    obtain ⟨k, hk, rfl, hsame⟩ := hrel
    by_cases hlt : k < n
    · obtain ⟨b1, o1, y, rfl, hxk, e1⟩ := hra.one hlt
      by_cases he : y = x
      · subst he
        go_wp2
        go_ret
        exact ⟨_, rfl, .inr ⟨by omega, has_yes hxk.out⟩, rfl⟩
      · have hq : (x == y) = false := by simp; exact fun h => he h.symm
        have HE := Lib.hid he
        clear he
        go_wp2
        go_round
        case rel => exact ⟨k + 1, by omega, by go_num, Lib.hid (has_no hsame.out hxk.out HE.out)⟩
        case measure => simp [intOf]; omega
    · go_wp2
      go_ret
      obtain rfl : k = n := by omega
      exact ⟨_, rfl, .inl ⟨rfl, by have := hsame.out; rw [take_all HX.out] at this; exact this⟩, rfl⟩
set_option maxHeartbeats 400000 in
theorem slContainsInt (va : Value) (n : Nat) (xs : List Int) (x : Int) (w : World) (ha : Rd w va 1 n (ints xs)) (hx : n ≤ 4000000) :
    Calls Try.prog 91 #[va, .int .i64 x] w fun e w' => e = .returned (.bool (has xs x)) ∧ w = w' := by
  go_enter Try.func91, Try.ntmps91
  go_wp2_with (go_at_call 142; refine (slIndexInt va n xs x _ ha hx).mono ?_; rintro e w' ⟨i, rfl, hi, rfl⟩)
  go_ret
  refine ⟨ret_bool ?_, rfl⟩
  rcases hi with ⟨rfl, h⟩ | ⟨h0, h⟩
  · simp [h]
  · simp [h, h0]
set_option maxHeartbeats 400000 in
theorem implContainsID (va : Value) (n : Nat) (xs : List Int) (x : Int) (w : World) (ha : Rd w va 1 n (ints xs)) (hx : n ≤ 4000000) :
    Calls Try.prog 40 #[va, .int .i64 x] w fun e w' => e = .returned (.bool (has xs x)) ∧ w = w' := by
  go_enter Try.func40, Try.ntmps40
  go_wp2_with (go_at_call 91; refine (slContainsInt va n xs x _ ha hx).mono ?_; rintro e w' ⟨rfl, rfl⟩)
  go_ret
  exact ⟨rfl, rfl⟩
end Go.Proofs.Ytgekgokkbakcmaa
