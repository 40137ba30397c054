/- Contracts of the small functions: ranges, keywords, membership. -/
import Derived.Test.YtodbohmbdgbheaaGreatDoorH2
namespace Go.Proofs.YtodbohmbdgbheaaGreatDoor
open Go.RowKit
set_option linter.unusedVariables false
def inB (x a b : Int) : Bool := decide (a ≤ x) && decide (x ≤ b)
set_option maxHeartbeats 400000 in
theorem l01In (x a b : Int) (w : World) :
    Calls Tryz.prog 38 #[.int .i64 x, .int .i64 a, .int .i64 b] w fun e w' => e = .returned (.bool (inB x a b)) ∧ w = w' := by
  go_enter Tryz.func38, Tryz.ntmps38
  go_wp2
  all_goals go_ret
  all_goals simp [inB, *]
  all_goals omega
set_option maxHeartbeats 400000 in
theorem within (x a b : Int) (w : World) :
    Calls Tryz.prog 37 #[.int .i64 x, .int .i64 a, .int .i64 b] w fun e w' => e = .returned (.bool (inB x a b)) ∧ w = w' := by
  go_enter Tryz.func37, Tryz.ntmps37
  go_wp2
  all_goals go_ret
  all_goals simp [inB, *]
  all_goals omega
/-- The keyword of an operator. -/
def kw (x : Int) : ByteArray :=
  if x = 1 then ⟨#[97, 108, 108]⟩ else if x = 2 then ⟨#[104, 97, 115]⟩ else if x = 3 then ⟨#[101, 113]⟩ else if x = 4 then ⟨#[108, 116]⟩ else
  if x = 5 then ⟨#[110, 111, 116]⟩ else if x = 6 then ⟨#[97, 110, 100]⟩ else if x = 7 then ⟨#[111, 114]⟩ else if x = 8 then ⟨#[105, 110]⟩ else
  if x = 9 then ⟨#[108, 105, 110, 107, 101, 100]⟩ else ⟨#[63]⟩
set_option maxHeartbeats 1000000 in
theorem specOpKeyword (x : Int) (w : World) :
    Calls Tryz.prog 16 #[.int .i64 x] w fun e w' => e = .returned (.string (kw x)) ∧ Grew w w' := by
  by_cases h1 : 1 ≤ x ∧ x ≤ 9
  · have : x = 1 ∨ x = 2 ∨ x = 3 ∨ x = 4 ∨ x = 5 ∨ x = 6 ∨ x = 7 ∨ x = 8 ∨ x = 9 := by omega
    clear h1
    rcases this with rfl | rfl | rfl | rfl | rfl | rfl | rfl | rfl | rfl
    all_goals
      go_enter Tryz.func16, Tryz.ntmps16
      go_wp2_with (go_at_call 38; refine (l01In _ _ _ _).mono ?_; rintro e w' ⟨rfl, rfl⟩)
      go_ret
      exact ⟨rfl, (Grew.refl _).alloc _⟩
  · have hb : inB x 1 9 = false := by simp [inB]; omega
    have HK := Lib.hid (show kw x = ⟨#[63]⟩ by unfold kw; repeat rw [if_neg (by omega)])
    clear h1
    go_enter Tryz.func16, Tryz.ntmps16
    go_wp2_with (go_at_call 38; refine (l01In _ _ _ _).mono ?_; rintro e w' ⟨rfl, rfl⟩)
    go_ret
    exact ⟨ret_str HK.out.symm, Grew.refl _⟩
set_option maxHeartbeats 1000000 in
theorem implOpKeyword (x : Int) (w : World) :
    Calls Tryz.prog 15 #[.int .i64 x] w fun e w' => e = .returned (.string (kw x)) ∧ Grew w w' := by
  by_cases h1 : 1 ≤ x ∧ x ≤ 9
  · have : x = 1 ∨ x = 2 ∨ x = 3 ∨ x = 4 ∨ x = 5 ∨ x = 6 ∨ x = 7 ∨ x = 8 ∨ x = 9 := by omega
    clear h1
    rcases this with rfl | rfl | rfl | rfl | rfl | rfl | rfl | rfl | rfl
    all_goals
      go_enter Tryz.func15, Tryz.ntmps15
      go_wp2_with (go_at_call 37; refine (within _ _ _ _).mono ?_; rintro e w' ⟨rfl, rfl⟩)
      go_ret
      exact ⟨rfl, (Grew.refl _).alloc _⟩
  · have hb : inB x 1 9 = false := by simp [inB]; omega
    have HK := Lib.hid (show kw x = ⟨#[63]⟩ by unfold kw; repeat rw [if_neg (by omega)])
    clear h1
    go_enter Tryz.func15, Tryz.ntmps15
    go_wp2_with (go_at_call 37; refine (within _ _ _ _).mono ?_; rintro e w' ⟨rfl, rfl⟩)
    go_ret
    exact ⟨ret_str HK.out.symm, (Grew.refl _).alloc _⟩
/-- Membership, as a bool. -/
def has {α : Type} [DecidableEq α] (xs : List α) (x : α) : Bool := decide (x ∈ xs)
theorem has_no {xs : List Int} {x y : Int} {k : Nat} (h : has (xs.take k) x = false) (hy : xs[k]? = some y) (hn : y ≠ x) : has (xs.take (k + 1)) x = false := by
  rw [take_snoc hy]
  simp [has] at h ⊢
  exact ⟨h, fun h => hn h.symm⟩
theorem has_yes {xs : List Int} {x : Int} {k : Nat} (hy : xs[k]? = some x) : has xs x = true := by
  simp [has]; exact List.mem_of_getElem? hy
end Go.Proofs.YtodbohmbdgbheaaGreatDoor
