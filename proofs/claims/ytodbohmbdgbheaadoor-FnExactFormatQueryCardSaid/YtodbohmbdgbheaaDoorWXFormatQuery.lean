/- The walk of laws.FnExactFormatQuery, out of the contracts of the two functions. -/
import Derived.Test.YtodbohmbdgbheaaDoorTx8
import Derived.Test.YtodbohmbdgbheaaDoorTx10
import Derived.Test.YtodbohmbdgbheaaDoorS
import Derived.Test.YtodbohmbdgbheaaDoorTx11
import Derived.Test.YtodbohmbdgbheaaDoorO
namespace Go.Proofs.YtodbohmbdgbheaaDoor.fnExactFormatQuery
open Go.RowKit
set_option linter.unusedVariables false
set_option maxRecDepth 100000 in
set_option maxHeartbeats 1000000 in
theorem walkLaw (w : World) (u0 : Value) (n0 : Nat) (x0 : List N) (hr0 : Rd w u0 7 n0 (rows N.c x0)) (hn0 : n0 ≤ maxLen) (ho0 : ∀ a : N, a ∈ x0 → a.ok) (ht : TabP w) :
    Calls Tryd.prog 3 #[u0] w fun e w' => e = .returned (.bool true) ∧ Grew w w' := by
  have HT := Lib.hid ht
  clear ht
  have R0 := Lib.hid hr0
  have O0 : Hid (∀ a : N, a ∈ x0 → a.ok0) := fun a h => ⟨(ho0 a h).2.2.2.1, (ho0 a h).2.2.2.2.2.2⟩
  obtain ⟨sa0, sc0, rfl, hc0, hra0⟩ := hr0
  clear ho0 hra0
  go_enter Tryd.func3, Tryd.ntmps3
  go_wp2_with fail
  refine (szNodeS _ n0 x0 _ _ (R0.out.grew (Grew.refl w)) hn0 O0.out (by omega) (by omega)).mono ?_
  rintro e w1 ⟨r0, rfl, hl0, s1⟩
  have g1 : Grew w w1 := (Grew.refl w).trans s1
  rcases hl0 with rfl | ⟨hl0, hp0⟩
  · go_wp2
    go_ret
    exact ⟨rfl, g1⟩
  · have hle0 : r0 ≤ 1048576 := by omega
    have hsm0 : n0 ≤ 4000000 := by omega
    have hzz0 : szAll N.sz x0 ≤ 4000000 := by omega
    have HL0 := Lib.hid hl0
    clear hl0
    go_wp2_with fail
    refine (toNodeS _ n0 x0 _ (R0.out.grew g1) (by omega)).mono ?_
    rintro e w2 ⟨c0, rfl, o_c0, s2⟩
    have g2 : Grew w w2 := g1.trans s2
    have o_c0 := Own.of o_c0
    go_wp2_with fail
    refine (specFormatQuery x0 c0 _ (Rd.fix7 o_c0.rd) (by have := Rd.fix7n o_c0.rd; omega) hzz0).mono ?_
    rintro e w3 ⟨rfl, s3⟩
    have g3 : Grew w w3 := g2.trans s3
    replace o_c0 := o_c0.grew s3
    go_wp2_with fail
    refine (toNodeS _ n0 x0 _ (R0.out.grew g3) (by omega)).mono ?_
    rintro e w4 ⟨y0, rfl, o_y0, s4⟩
    have g4 : Grew w w4 := g3.trans s4
    have o_y0 := Own.of o_y0
    go_wp2_with fail
    refine (implFormatQuery x0 y0 _ (Rd.fix7 o_y0.rd) (by have := Rd.fix7n o_y0.rd; omega) hzz0 (HT.out.grew g4)).mono ?_
    rintro e w5 ⟨rfl, s5⟩
    have g5 : Grew w w5 := g4.trans s5
    replace o_y0 := o_y0.grew s5
    go_wp2_with fail
    refine (toNodeS _ n0 x0 _ (R0.out.grew g5) (by omega)).mono ?_
    rintro e w6 ⟨z0, rfl, o_z0, s6⟩
    have g6 : Grew w w6 := g5.trans s6
    replace o_y0 := o_y0.grew s6
    have o_z0 := Own.of o_z0
    go_wp2_with fail
    refine (eqNodeS _ _ n0 x0 _ o_y0.rd o_z0.rd (by omega)).mono ?_
    rintro e w7 ⟨rfl, s7⟩
    have g7 : Grew w w7 := g6.trans s7
    replace o_y0 := o_y0.grew s7
    replace o_z0 := o_z0.grew s7
    go_wp2
    go_ret
    exact ⟨rfl, g7⟩
end Go.Proofs.YtodbohmbdgbheaaDoor.fnExactFormatQuery
