/- Contracts of the laws' own comparisons. -/
import Derived.Test.YtodbohmbdgbheaaGreatDoorE2
import Derived.Test.YtodbohmbdgbheaaGreatDoorG
namespace Go.Proofs.YtodbohmbdgbheaaGreatDoor
open Go.RowKit
set_option linter.unusedVariables false
set_option maxHeartbeats 1000000 in
theorem big (v : Value) (n : Nat) (cs : List Value) (w : World) (hr : Rd w v 1 n cs) (hn : n ≤ maxLen) :
    Calls Tryz.prog 5 #[v] w fun e w' => e = .returned (.bool (decide ((1048576 : Int) < (n : Int)))) ∧ w = w' := by
  obtain ⟨a, ca, rfl, hca, hra⟩ := hr
  go_enter Tryz.func5, Tryz.ntmps5
  go_wp2
  go_ret
  exact ⟨rfl, rfl⟩
theorem bytes_eq {x y : ByteArray} (h : (x.toList == y.toList) = true) : x = y := Go.WideShapes.bytes_inj (by rw [← ByteArray.toList_eq, ← ByteArray.toList_eq]; simpa using h)
set_option maxRecDepth 100000 in
set_option maxHeartbeats 1000000 in
theorem sameNodes (va vb : Value) (n m : Nat) (xs ys : List N) (w : World) (ha : Rd w va 7 n (rows N.c xs)) (hb : Rd w vb 7 m (rows N.c ys)) (hx : n ≤ 4000000) (hy : m ≤ 4000000) :
    Calls Tryz.prog 14 #[va, vb] w fun e w' => e = .returned (.bool (eqL eqN xs ys)) ∧ Grew w w' := by
  obtain ⟨a, ca, rfl, hca, hra⟩ := ha
  obtain ⟨b, cb, rfl, hcb, hrb⟩ := hb
  have HX := Lib.hid (hra.len_rows N.len (by decide))
  have HY := Lib.hid (hrb.len_rows N.len (by decide))
  by_cases hnm : n = m
  · subst hnm
    go_enter Tryz.func14, Tryz.ntmps14
    go_wp2
    go_loopw [5] (fun i wr => ∃ k : Nat, k ≤ n ∧ i = .int .i64 k ∧ Hid (∀ (j : Nat) x y, j < k → xs[j]? = some x → ys[j]? = some y → eqN x y = true) ∧ Grew w wr) (fun i _ => n - (intOf i).toNat)
    case atStart => exact ⟨0, Nat.zero_le _, rfl, Lib.hid (fun j x y h => absurd h (Nat.not_lt_zero j)), Grew.refl _⟩
    case round =>
      obtain ⟨k, hk, rfl, hsame, hbel⟩ := hrel
      by_cases hlt : k < n
      · obtain ⟨b1, o1, x, rfl, hxk, c0, c1, c2, c3, c4, c5, c6⟩ := (hra.grew hbel).getN hlt
        obtain ⟨b2, o2, y, rfl, hyk, d0, d1, d2, d3, d4, d5, d6⟩ := (hrb.grew hbel).getN hlt
        obtain ⟨q, hq⟩ : ∃ q, q = eqN x y := ⟨_, rfl⟩
        have hE : ∀ w, (binOp .eql 38 x.v y.v).run Tryz.prog w = .ok (.bool q) w := fun w => by rw [runEqN, hq]
        have hF : ∀ w, (binOp .neq 38 x.v y.v).run Tryz.prog w = .ok (.bool (!q)) w := fun w => by rw [runNeN, hq]
        have HQ := Lib.hid hq
        clear hq
        cases q <;> simp only [Bool.not_false, Bool.not_true] at hF
        · go_wp2
          go_quiet (fail)
          go_wp2
          go_ret
          exact ⟨ret_bool (eqL_at hxk.out hyk.out HQ.out.symm).symm, hbel.drewN _⟩
        · go_wp2
          go_quiet (fail)
          go_wp2
          go_roundw
          case rel => exact ⟨k + 1, by omega, by go_num, Lib.hid (eqL_snoc hsame.out hxk.out hyk.out HQ.out.symm), hbel.drewN _⟩
          case measure => simp [intOf]; omega
      · go_wp2
        go_ret
        obtain rfl : k = n := by omega
        exact ⟨ret_bool (eqL_all HX.out HY.out hsame.out).symm, hbel⟩
  · go_enter Tryz.func14, Tryz.ntmps14
    go_wp2
    go_ret
    exact ⟨ret_bool (eqL_len (by rw [HX.out, HY.out]; exact hnm)).symm, Grew.refl _⟩
noncomputable def sameDf (x y : Df) : Bool := x.name.toList == y.name.toList && sameB x.added y.added && sameB x.removed y.removed
end Go.Proofs.YtodbohmbdgbheaaGreatDoor
