/- The walk of laws.FnExactMaxStratum, out of the contracts of the two functions. -/
import Derived.Test.YtopcdojekjlijaaK6
import Derived.Test.YtopcdojekjlijaaS
import Derived.Test.YtopcdojekjlijaaO2
namespace Go.Proofs.Ytopcdojekjlijaa.fnExactMaxStratum
open Go.RowKit
set_option linter.unusedVariables false
set_option maxRecDepth 100000 in
set_option maxHeartbeats 1000000 in
theorem walkLaw (w : World) (u0 : Value) (x0 : List Dr) (hr0 : RdDs w u0 x0) (hn0 : x0.length ≤ maxLen) (ho0 : ∀ x, x ∈ x0 → x.ok0) :
    Calls Try.prog 10 #[u0] w fun e w' => e = .returned (.bool true) ∧ Grew w w' := by
  have R0 := Lib.hid hr0
  have O0 := Lib.hid ho0
  obtain ⟨ps0, ⟨sa0, sc0, rfl, hc0, hra0⟩, hall0⟩ := hr0
  clear ho0 hra0 hall0
  go_enter Try.func10, Try.ntmps10
  go_wp2_with fail
  refine (szDirS _ x0 _ _ (R0.out.grew (Grew.refl w)) hn0 O0.out (by omega) (by omega)).mono ?_
  rintro e w1 ⟨r0, rfl, hl0, s1⟩
  have g1 : Grew w w1 := (Grew.refl w).trans s1
  rcases hl0 with rfl | ⟨hl0, hp0⟩
  · go_wp2
    go_ret
    exact ⟨rfl, g1⟩
  · have hle0 : r0 ≤ 1048576 := by omega
    have hst0 : x0.length ≤ 1048576 := by omega
    have hsm0 : x0.length ≤ 4000000 := by omega
    have hzz0 : szAll Dr.sz x0 ≤ 4000000 := by omega
    have hms0 := Lib.hid (fun x (hx : x ∈ x0) => Dr.small_of (Nat.le_trans (mem_szAll hx) hzz0))
    have HL0 := Lib.hid hl0
    clear hl0
    go_wp2_with fail
    refine (toDirS _ x0 _ (R0.out.grew g1) (by omega) hms0.out).mono ?_
    rintro e w2 ⟨c0, rfl, o_c0, s2⟩
    have g2 : Grew w w2 := g1.trans s2
    go_wp2_with fail
    refine (specMaxStratum c0 x0 _ o_c0.rd (by omega) hzz0).mono ?_
    rintro e w3 ⟨rfl, s3⟩
    have g3 : Grew w w3 := g2.trans s3
    replace o_c0 := o_c0.grew s3
    go_wp2_with fail
    refine (toDirS _ x0 _ (R0.out.grew g3) (by omega) hms0.out).mono ?_
    rintro e w4 ⟨y0, rfl, o_y0, s4⟩
    have g4 : Grew w w4 := g3.trans s4
    go_wp2_with fail
    refine (implMaxStratum y0 x0 _ o_y0.rd (by omega) hzz0).mono ?_
    rintro e w5 ⟨rfl, s5⟩
    have g5 : Grew w w5 := g4.trans s5
    replace o_y0 := o_y0.grew s5
    go_wp2_with fail
    refine (toDirS _ x0 _ (R0.out.grew g5) (by omega) hms0.out).mono ?_
    rintro e w6 ⟨z0, rfl, o_z0, s6⟩
    have g6 : Grew w w6 := g5.trans s6
    replace o_y0 := o_y0.grew s6
    go_wp2_with fail
    refine (eqDirS _ _ x0 _ o_y0.rd o_z0.rd (by omega) hms0.out).mono ?_
    rintro e w7 ⟨rfl, s7⟩
    have g7 : Grew w w7 := g6.trans s7
    replace o_y0 := o_y0.grew s7
    replace o_z0 := o_z0.grew s7
    go_wp2
    go_ret
    exact ⟨rfl, g7⟩
end Go.Proofs.Ytopcdojekjlijaa.fnExactMaxStratum
