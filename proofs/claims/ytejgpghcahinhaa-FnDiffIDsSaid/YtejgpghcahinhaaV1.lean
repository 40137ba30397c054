/- Contracts of IsValidDiff. -/
import Derived.Test.YtejgpghcahinhaaD1
import Derived.Test.YtejgpghcahinhaaC2
import Derived.Test.YtejgpghcahinhaaH5
namespace Go.Proofs.Ytejgpghcahinhaa
open Go.RowKit
set_option linter.unusedVariables false
/-- Rising strictly. -/
noncomputable def risB (xs : List Int) : Bool := @decide (∀ (j : Nat) x y, xs[j]? = some x → xs[j + 1]? = some y → x < y) (Classical.propDecidable _)
theorem risB_no {xs : List Int} {j : Nat} {x y : Int} (hx : xs[j]? = some x) (hy : xs[j + 1]? = some y) (h : y ≤ x) : risB xs = false :=
  @decide_eq_false _ (Classical.propDecidable _) (fun e => by have := e j x y hx hy; omega)
theorem risB_yes {xs : List Int} {n : Nat} (hn : xs.length ≤ n) (h : ∀ (j : Nat) x y, j + 1 < n → xs[j]? = some x → xs[j + 1]? = some y → x < y) : risB xs = true :=
  @decide_eq_true _ (Classical.propDecidable _) (fun j x y hx hy => h j x y (by have := (List.getElem?_eq_some_iff.1 hy).1; omega) hx hy)
theorem grew_quiet {w wr : World} (h : ∃ d, wr = w.drewN d) : Grew w wr := by obtain ⟨d, rfl⟩ := h; exact (Grew.refl w).drewN d
theorem drew2 {w wr : World} (h : ∃ d, wr = w.drewN d) (n : Nat) : ∃ d, wr.drewN n = w.drewN d := by obtain ⟨d, rfl⟩ := h; exact ⟨d + n, by simp⟩
set_option maxRecDepth 100000 in
set_option maxHeartbeats 1000000 in
theorem l17Rise (va : Value) (n : Nat) (xs : List Int) (w : World) (ha : Rd w va 1 n (ints xs)) (hx : n ≤ 4000000) :
    Calls Try.prog 162 #[va] w fun e w' => e = .returned (.bool (risB xs)) ∧ ∃ d, w' = w.drewN d := by
  obtain ⟨a, ca, rfl, hca, hra⟩ := ha
  have HX := Lib.hid hra.len_map
  go_enter Try.func162, Try.ntmps162
  go_wp2
  go_loopw [3] (fun i wr => ∃ k : Nat, 1 ≤ k ∧ (k ≤ n ∨ k = 1) ∧ i = .int .i64 k ∧ Hid (∀ (j : Nat) x y, j + 1 < k → xs[j]? = some x → xs[j + 1]? = some y → x < y) ∧ Hid (∃ d, wr = w.drewN d)) (fun i _ => n - (intOf i).toNat)
  case atStart => exact ⟨1, Nat.le_refl _, .inr rfl, rfl, Lib.hid (fun j x y h => by omega), Lib.hid ⟨0, rfl⟩⟩
  case round =>
    obtain ⟨k, h1, hk, rfl, hsame, hd⟩ := hrel
    have hbel : Grew w wr := grew_quiet hd.out
    by_cases hlt : k < n
    · obtain ⟨p, rfl⟩ : ∃ p, k = p + 1 := ⟨k - 1, by omega⟩
      obtain ⟨b1, o1, x, rfl, hxk, e1⟩ := (hra.grew hbel).one (show p < n by omega)
      obtain ⟨b2, o2, y, hab, hyk, e2⟩ := (hra.grew hbel).one hlt
      obtain ⟨rfl, rfl⟩ : b1 = b2 ∧ o1 = o2 := by cases hab; exact ⟨rfl, rfl⟩
      clear hab
      have hpp : ((p + 1 : Nat) : Int) - 1 = (p : Int) := by omega
      by_cases he : y ≤ x
      · go_wp2
        go_quiet (fail)
        go_wp2
        go_ret
        exact ⟨ret_bool (risB_no hxk.out hyk.out he).symm, drew2 hd.out _⟩
      · have HE := Lib.hid he
        go_wp2
        go_quiet (fail)
        go_wp2
        go_roundw
        case rel => exact ⟨p + 1 + 1, by omega, by omega, by go_num, Lib.hid (fun j u v hj hu hv => by
          rcases Nat.lt_succ_iff_lt_or_eq.1 hj with h | h
          · exact hsame.out j u v h hu hv
          · obtain rfl : j = p := by omega
            obtain rfl := Option.some.inj (hxk.out.symm.trans hu)
            obtain rfl := Option.some.inj (hyk.out.symm.trans hv)
            have := HE.out; omega), Lib.hid (drew2 hd.out _)⟩
        case measure => simp [intOf]; omega
    · go_wp2
      go_ret
      exact ⟨ret_bool (risB_yes (n := k) (by rw [HX.out]; omega) hsame.out).symm, hd.out⟩
set_option maxRecDepth 100000 in
set_option maxHeartbeats 1000000 in
theorem isAscending (va : Value) (n : Nat) (xs : List Int) (w : World) (ha : Rd w va 1 n (ints xs)) (hx : n ≤ 4000000) :
    Calls Try.prog 160 #[va] w fun e w' => e = .returned (.bool (risB xs)) ∧ ∃ d, w' = w.drewN d := by
  obtain ⟨a, ca, rfl, hca, hra⟩ := ha
  have HX := Lib.hid hra.len_map
  go_enter Try.func160, Try.ntmps160
  go_wp2
  go_loopw [3] (fun i wr => ∃ k : Nat, 1 ≤ k ∧ (k ≤ n ∨ k = 1) ∧ i = .int .i64 k ∧ Hid (∀ (j : Nat) x y, j + 1 < k → xs[j]? = some x → xs[j + 1]? = some y → x < y) ∧ Hid (∃ d, wr = w.drewN d)) (fun i _ => n - (intOf i).toNat)
  case atStart => exact ⟨1, Nat.le_refl _, .inr rfl, rfl, Lib.hid (fun j x y h => by omega), Lib.hid ⟨0, rfl⟩⟩
  case round =>
    obtain ⟨k, h1, hk, rfl, hsame, hd⟩ := hrel
    have hbel : Grew w wr := grew_quiet hd.out
    by_cases hlt : k < n
    · obtain ⟨p, rfl⟩ : ∃ p, k = p + 1 := ⟨k - 1, by omega⟩
      obtain ⟨b1, o1, x, rfl, hxk, e1⟩ := (hra.grew hbel).one (show p < n by omega)
      obtain ⟨b2, o2, y, hab, hyk, e2⟩ := (hra.grew hbel).one hlt
      obtain ⟨rfl, rfl⟩ : b1 = b2 ∧ o1 = o2 := by cases hab; exact ⟨rfl, rfl⟩
      clear hab
      have hpp : ((p + 1 : Nat) : Int) - 1 = (p : Int) := by omega
      by_cases he : y ≤ x
      · go_wp2
        go_quiet (fail)
        go_wp2
        go_ret
        exact ⟨ret_bool (risB_no hxk.out hyk.out he).symm, drew2 hd.out _⟩
      · have HE := Lib.hid he
        go_wp2
        go_quiet (fail)
        go_wp2
        go_roundw
        case rel => exact ⟨p + 1 + 1, by omega, by omega, by go_num, Lib.hid (fun j u v hj hu hv => by
          rcases Nat.lt_succ_iff_lt_or_eq.1 hj with h | h
          · exact hsame.out j u v h hu hv
          · obtain rfl : j = p := by omega
            obtain rfl := Option.some.inj (hxk.out.symm.trans hu)
            obtain rfl := Option.some.inj (hyk.out.symm.trans hv)
            have := HE.out; omega), Lib.hid (drew2 hd.out _)⟩
        case measure => simp [intOf]; omega
    · go_wp2
      go_ret
      exact ⟨ret_bool (risB_yes (n := k) (by rw [HX.out]; omega) hsame.out).symm, hd.out⟩
end Go.Proofs.Ytejgpghcahinhaa
