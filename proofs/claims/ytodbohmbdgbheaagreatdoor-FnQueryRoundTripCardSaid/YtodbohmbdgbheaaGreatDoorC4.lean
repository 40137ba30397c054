/- Contracts of CountReferences and IsValidQuery. -/
import Derived.Test.YtodbohmbdgbheaaGreatDoorC3
namespace Go.Proofs.YtodbohmbdgbheaaGreatDoor
open Go.RowKit
set_option linter.unusedVariables false
/-- How often one node refers to a place. -/
def ref1 (n : N) (at_ : Int) : Int := (if (n.op == 6 || (n.op == 7 || n.op == 5)) && n.left == at_ then 1 else 0) + (if (n.op == 6 || n.op == 7) && n.right == at_ then 1 else 0)
def refs (q : List N) (at_ : Int) : Int := (q.map (ref1 · at_)).sum
theorem refs_snoc (q : List N) (n : N) (at_ : Int) : refs (q ++ [n]) at_ = refs q at_ + ref1 n at_ := by simp [refs]
theorem ref1_b (n : N) (at_ : Int) : 0 ≤ ref1 n at_ ∧ ref1 n at_ ≤ 2 := by unfold ref1; split <;> split <;> omega
theorem refs_b (q : List N) (at_ : Int) : 0 ≤ refs q at_ ∧ refs q at_ ≤ 2 * q.length := by
  induction q with
  | nil => simp [refs]
  | cons n q ih => have := ref1_b n at_; simp only [refs, List.map_cons, List.sum_cons, List.length_cons] at ih ⊢; omega
theorem ref1_cases (n : N) (at_ : Int) : (n.op = 5 ∨ n.op = 6 ∨ n.op = 7 ∨ ((n.op == 5) = false ∧ (n.op == 6) = false ∧ (n.op == 7) = false)) ∧ ((n.left == at_) = true ∨ (n.left == at_) = false) ∧ ((n.right == at_) = true ∨ (n.right == at_) = false) := by
  refine ⟨?_, ?_, ?_⟩
  · simp only [beq_eq_false_iff_ne]; omega
  · cases n.left == at_ <;> simp
  · cases n.right == at_ <;> simp
set_option maxRecDepth 100000 in
set_option maxHeartbeats 4000000 in
theorem specCountReferences (va : Value) (n : Nat) (xs : List N) (at_ : Int) (w : World) (ha : Rd w va 7 n (rows N.c xs)) (hx : n ≤ 4000000) :
    Calls Tryz.prog 58 #[va, .int .i64 at_] w fun e w' => e = .returned (.int .i64 (refs xs at_)) ∧ Grew w w' := by
  obtain ⟨a, ca, rfl, hca, hra⟩ := ha
  have HX := Lib.hid (hra.len_rows N.len (by decide))
  go_enter Tryz.func58, Tryz.ntmps58
  go_wp2
  go_loopw [5, 6, 7] (fun c i _ wr => ∃ (k : Nat) (r : Int), k ≤ n ∧ i = .int .i64 k ∧ c = .int .i64 r ∧ 0 ≤ r ∧ r ≤ 2 * k ∧ Hid (r = refs (xs.take k) at_) ∧ Grew w wr) (fun _ i _ _ => n - (intOf i).toNat)
  case atStart => exact ⟨0, 0, Nat.zero_le _, rfl, rfl, by omega, by omega, Lib.hid (by simp [refs]), Grew.refl _⟩
  case round =>
    obtain ⟨k, r, hk, rfl, rfl, h0, h1, hr, hbel⟩ := hrel
    by_cases hlt : k < n
    · obtain ⟨b1, o1, x, rfl, hxk, c0, c1, c2, c3, c4, c5, c6⟩ := (hra.grew hbel).getN hlt
      have hstep : ∀ d, ref1 x at_ = d → r + d = refs (xs.take (k + 1)) at_ := fun d h => by rw [take_snoc hxk.out, refs_snoc, ← hr.out, h]
      have HS := Lib.hid hstep
      clear hstep
      obtain ⟨op, l, rr, nm, v⟩ := x
      have hcs := ref1_cases ⟨op, l, rr, nm, v⟩ at_
      simp only at hcs
      obtain ⟨hop, hl, hr2⟩ := hcs
      rcases hop with rfl | rfl | rfl | ⟨p5, p6, p7⟩ <;> rcases hl with hl | hl <;> rcases hr2 with hr2 | hr2
      all_goals
        go_wp2
        go_roundw
        case rel =>
          have hd := HS.out _ rfl
          clear HS
          go_light
          simp [ref1, *] at hd
          exact ⟨k + 1, _, by omega, by go_num, rfl, by omega, by omega, Lib.hid (by omega), hbel⟩
        case measure => simp [intOf]; omega
    · go_wp2
      go_ret
      obtain rfl : k = n := by omega
      exact ⟨ret_int (by rw [hr.out, take_all HX.out]), hbel⟩
set_option maxRecDepth 100000 in
set_option maxHeartbeats 4000000 in
theorem implCountReferences (va : Value) (n : Nat) (xs : List N) (at_ : Int) (w : World) (ha : Rd w va 7 n (rows N.c xs)) (hx : n ≤ 4000000) :
    Calls Tryz.prog 40 #[va, .int .i64 at_] w fun e w' => e = .returned (.int .i64 (refs xs at_)) ∧ Grew w w' := by
  obtain ⟨a, ca, rfl, hca, hra⟩ := ha
  have HX := Lib.hid (hra.len_rows N.len (by decide))
  go_enter Tryz.func40, Tryz.ntmps40
  go_wp2
  go_loopw [5, 8, 11] (fun c _ i wr => ∃ (k : Nat) (r : Int), k ≤ n ∧ i = .int .i64 k ∧ c = .int .i64 r ∧ 0 ≤ r ∧ r ≤ 2 * k ∧ Hid (r = refs (xs.take k) at_) ∧ Grew w wr) (fun _ _ i _ => n - (intOf i).toNat)
  case atStart => exact ⟨0, 0, Nat.zero_le _, rfl, rfl, by omega, by omega, Lib.hid (by simp [refs]), Grew.refl _⟩
  case round =>
    obtain ⟨k, r, hk, rfl, rfl, h0, h1, hr, hbel⟩ := hrel
    by_cases hlt : k < n
    · obtain ⟨b1, o1, x, rfl, hxk, c0, c1, c2, c3, c4, c5, c6⟩ := (hra.grew hbel).getN hlt
      have hstep : ∀ d, ref1 x at_ = d → r + d = refs (xs.take (k + 1)) at_ := fun d h => by rw [take_snoc hxk.out, refs_snoc, ← hr.out, h]
      have HS := Lib.hid hstep
      clear hstep
      obtain ⟨op, l, rr, nm, v⟩ := x
      have hcs := ref1_cases ⟨op, l, rr, nm, v⟩ at_
      simp only at hcs
      obtain ⟨hop, hl, hr2⟩ := hcs
      rcases hop with rfl | rfl | rfl | ⟨p5, p6, p7⟩ <;> rcases hl with hl | hl <;> rcases hr2 with hr2 | hr2
      all_goals
        go_wp2
        go_roundw
        case rel =>
          have hd := HS.out _ rfl
          clear HS
          go_light
          simp [ref1, *] at hd
          exact ⟨k + 1, _, by omega, by go_num, rfl, by omega, by omega, Lib.hid (by omega), hbel.alloc _⟩
        case measure => simp [intOf]; omega
    · go_wp2
      go_ret
      obtain rfl : k = n := by omega
      exact ⟨ret_int (by rw [hr.out, take_all HX.out]), hbel⟩
end Go.Proofs.YtodbohmbdgbheaaGreatDoor
