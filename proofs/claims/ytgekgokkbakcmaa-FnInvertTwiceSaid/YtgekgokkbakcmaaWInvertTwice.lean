/- The walk of laws.FnInvertTwice. -/
import Derived.Test.YtgekgokkbakcmaaW0
import Derived.Test.YtgekgokkbakcmaaZ12
import Derived.Test.YtgekgokkbakcmaaX8
import Derived.Test.YtgekgokkbakcmaaG
namespace Go.Proofs.Ytgekgokkbakcmaa.fnInvertTwice
open Go.RowKit
set_option linter.unusedVariables false
theorem sameFs_self (xs : List Df) : eqL sameDf xs xs = true := by
  unfold eqL
  exact @decide_eq_true _ (Classical.propDecidable _) ⟨rfl, fun j x y hx hy => by obtain rfl := Option.some.inj (hx.symm.trans hy); unfold sameDf; simp [sameB_yes (rfl : x.added = x.added), sameB_yes (rfl : x.removed = x.removed)]⟩
set_option maxRecDepth 100000 in
set_option maxHeartbeats 4000000 in
theorem walkLaw (w : World) (v : Value) (n : Nat) (xs : List Int) (hr : Rd w v 1 n (xs.map (Value.int .u8))) (hn : n ≤ maxLen) (ho : ∀ a : Int, a ∈ xs → 0 ≤ a ∧ a ≤ 255) :
    Calls Try.prog 3 #[v] w fun e w' => e = .returned (.bool true) ∧ Grew w w' := by
  clear ho
  by_cases hbig : (1048576 : Int) < (n : Int)
  · have hd : decide ((1048576 : Int) < (n : Int)) = true := by simp [hbig]
    go_enter Try.func3, Try.ntmps3
    go_wp2_with fail
    refine (big v n _ _ hr hn).mono ?_
    rintro e w1 ⟨rfl, rfl⟩
    go_wp2
    go_ret
    exact ⟨rfl, Grew.refl _⟩
  have hd : decide ((1048576 : Int) < (n : Int)) = false := by simp [hbig]
  have hcd : Cd w v := ⟨n, xs, hr, by omega⟩
  have G0 := Grew.refl w
  go_enter Try.func3, Try.ntmps3
  go_wp2_with fail
  refine (big v n _ _ hr hn).mono ?_
  rintro e w1 ⟨rfl, rfl⟩
  go_wp2_with fail
  refine (drawInvertDiffs v _ hcd).mono ?_
  rintro e w1 ⟨u0, rfl, d, hok, rd1, ⟨a_d, c_d, rfl⟩, g1⟩
  have G1 := G0.trans g1
  have S_d := Lib.hid (dfs_small hok)
  have n_d := hok.1
  have R_d := Lib.hid rd1
  clear hok rd1
  obtain ⟨y, hy⟩ : ∃ y, invL d = y := ⟨_, rfl⟩
  have HY := Lib.hid hy
  have LY := Lib.hid (show y.length = d.length by rw [← hy]; exact invL_len d)
  have SY := Lib.hid (show ∀ x, x ∈ y → x.small by rw [← hy]; exact invL_small S_d.out)
  have HTW := Lib.hid (show invL y = d by rw [← hy]; exact invL_twice d)
  clear hy
  go_wp2_with fail
  refine (implInvertDiffs _ d _ R_d.out (by omega) S_d.out).mono ?_
  rintro e w2 ⟨v_y, rfl, hG, g2⟩
  have G2 := G1.trans g2
  rw [HY.out] at hG
  have R_y := Lib.hid hG.own.rd
  obtain ⟨a_y, c_y, rfl⟩ : ∃ a c, v_y = .slice a (y).length c := by obtain ⟨ps, h1, _⟩ := hG; exact own_slice h1
  clear hG
  go_wp2_with fail
  refine (implInvertDiffs _ y _ R_y.out (by have := LY.out; omega) SY.out).mono ?_
  rintro e w3 ⟨v_z, rfl, hG, g3⟩
  have G3 := G2.trans g3
  rw [HTW.out] at hG
  have R_z := Lib.hid hG.own.rd
  obtain ⟨a_z, c_z, rfl⟩ : ∃ a c, v_z = .slice a (d).length c := by obtain ⟨ps, h1, _⟩ := hG; exact own_slice h1
  clear hG
  have hs := sameFs_self d
  go_wp2_with fail
  refine (sameDiffs _ _ d d _ R_z.out (RdFs.grew R_d.out ((g2.trans g3))) (by omega) (by omega) S_d.out S_d.out).mono ?_
  rintro e w4 ⟨he, g4⟩
  have G4 := G3.trans g4
  rw [hs] at he
  subst he
  clear hs
  go_wp2_with fail
  refine (implInvertDiffs _ d _ (RdFs.grew R_d.out (((g2.trans g3).trans g4))) (by omega) S_d.out).mono ?_
  rintro e w5 ⟨v_t, rfl, hG, g5⟩
  have G5 := G4.trans g5
  rw [HY.out] at hG
  have R_t := Lib.hid hG.own.rd
  obtain ⟨a_t, c_t, rfl⟩ : ∃ a c, v_t = .slice a (y).length c := by obtain ⟨ps, h1, _⟩ := hG; exact own_slice h1
  clear hG
  rw [LY.out]
  go_wp2
  go_ret
  exact ⟨by first | rfl | simp, G5⟩
end Go.Proofs.Ytgekgokkbakcmaa.fnInvertTwice
