/- The walk of laws.FnExactEqualDirs, out of the contracts of the two functions. -/
import Derived.Test.YtbbdeajfjconcaaE2
import Derived.Test.YtbbdeajfjconcaaS
import Derived.Test.YtbbdeajfjconcaaO2
namespace Go.Proofs.Ytbbdeajfjconcaa.fnExactEqualDirs
open Go.RowKit
set_option linter.unusedVariables false
set_option maxRecDepth 100000 in
set_option maxHeartbeats 4000000 in
theorem walkLaw (w : World) (u0 : Value) (x0 : List Dr) (hr0 : RdDs w u0 x0) (hn0 : x0.length ≤ maxLen) (ho0 : ∀ x, x ∈ x0 → x.ok0) (u1 : Value) (x1 : List Dr) (hr1 : RdDs w u1 x1) (hn1 : x1.length ≤ maxLen) (ho1 : ∀ x, x ∈ x1 → x.ok0) :
    Calls Try.prog 12 #[u0, u1] w fun e w' => e = .returned (.bool true) ∧ Grew w w' := by
  have R0 := Lib.hid hr0
  have O0 := Lib.hid ho0
  obtain ⟨ps0, ⟨sa0, sc0, rfl, hc0, hra0⟩, hall0⟩ := hr0
  clear ho0 hra0 hall0
  have R1 := Lib.hid hr1
  have O1 := Lib.hid ho1
  obtain ⟨ps1, ⟨sa1, sc1, rfl, hc1, hra1⟩, hall1⟩ := hr1
  clear ho1 hra1 hall1
  go_enter Try.func12, Try.ntmps12
  go_wp2_with fail
  refine (szDirS _ x0 _ _ (R0.out.grew (Grew.refl w)) hn0 O0.out (by omega) (by omega)).mono ?_
  rintro e w1 ⟨r0, rfl, hl0, s1⟩
  have g1 : Grew w w1 := (Grew.refl w).trans s1
  rcases hl0 with rfl | ⟨hl0, hp0⟩
  · go_wp2
    go_ret
    exact ⟨rfl, g1⟩
  · have hle0 : r0 ≤ 1048576 := by omega
    have hsm0 : x0.length ≤ 4000000 := by omega
    have hzz0 : szAll Dr.sz x0 ≤ 4000000 := by omega
    have hms0 := Lib.hid (fun x (hx : x ∈ x0) => Dr.small_of (Nat.le_trans (mem_szAll hx) hzz0))
    have HL0 := Lib.hid hl0
    clear hl0
    go_wp2_with fail
    refine (szDirS _ x1 _ _ (R1.out.grew g1) hn1 O1.out (by omega) (by omega)).mono ?_
    rintro e w2 ⟨r1, rfl, hl1, s2⟩
    have g2 : Grew w w2 := g1.trans s2
    rcases hl1 with rfl | ⟨hl1, hp1⟩
    · go_wp2
      go_ret
      exact ⟨rfl, g2⟩
    · have hle1 : r1 ≤ 1048576 := by omega
      have hsm1 : x1.length ≤ 4000000 := by omega
      have hzz1 : szAll Dr.sz x1 ≤ 4000000 := by omega
      have hms1 := Lib.hid (fun x (hx : x ∈ x1) => Dr.small_of (Nat.le_trans (mem_szAll hx) hzz1))
      have HL1 := Lib.hid hl1
      clear hl1
      go_wp2_with fail
      refine (toDirS _ x0 _ (R0.out.grew g2) (by omega) hms0.out).mono ?_
      rintro e w3 ⟨c0, rfl, o_c0, s3⟩
      have g3 : Grew w w3 := g2.trans s3
      go_wp2_with fail
      refine (toDirS _ x1 _ (R1.out.grew g3) (by omega) hms1.out).mono ?_
      rintro e w4 ⟨c1, rfl, o_c1, s4⟩
      have g4 : Grew w w4 := g3.trans s4
      replace o_c0 := o_c0.grew s4
      go_wp2_with fail
      refine (specEqualDirs c0 c1 x0 x1 _ o_c0.rd o_c1.rd (by omega) (by omega) hms0.out hms1.out).mono ?_
      rintro e w5 ⟨rfl, s5⟩
      have g5 : Grew w w5 := g4.trans s5
      replace o_c0 := o_c0.grew s5
      replace o_c1 := o_c1.grew s5
      go_wp2_with fail
      refine (toDirS _ x0 _ (R0.out.grew g5) (by omega) hms0.out).mono ?_
      rintro e w6 ⟨y0, rfl, o_y0, s6⟩
      have g6 : Grew w w6 := g5.trans s6
      go_wp2_with fail
      refine (toDirS _ x1 _ (R1.out.grew g6) (by omega) hms1.out).mono ?_
      rintro e w7 ⟨y1, rfl, o_y1, s7⟩
      have g7 : Grew w w7 := g6.trans s7
      replace o_y0 := o_y0.grew s7
      go_wp2_with fail
      refine (implEqualDirs y0 y1 x0 x1 _ o_y0.rd o_y1.rd (by omega) (by omega) hms0.out hms1.out).mono ?_
      rintro e w8 ⟨rfl, s8⟩
      have g8 : Grew w w8 := g7.trans s8
      replace o_y0 := o_y0.grew s8
      replace o_y1 := o_y1.grew s8
      go_wp2_with fail
      refine (toDirS _ x0 _ (R0.out.grew g8) (by omega) hms0.out).mono ?_
      rintro e w9 ⟨z0, rfl, o_z0, s9⟩
      have g9 : Grew w w9 := g8.trans s9
      replace o_y0 := o_y0.grew s9
      replace o_y1 := o_y1.grew s9
      go_wp2_with fail
      refine (eqDirS _ _ x0 _ o_y0.rd o_z0.rd (by omega) hms0.out).mono ?_
      rintro e w10 ⟨rfl, s10⟩
      have g10 : Grew w w10 := g9.trans s10
      replace o_y0 := o_y0.grew s10
      replace o_y1 := o_y1.grew s10
      replace o_z0 := o_z0.grew s10
      go_wp2_with fail
      refine (toDirS _ x1 _ (R1.out.grew g10) (by omega) hms1.out).mono ?_
      rintro e w11 ⟨z1, rfl, o_z1, s11⟩
      have g11 : Grew w w11 := g10.trans s11
      replace o_y0 := o_y0.grew s11
      replace o_y1 := o_y1.grew s11
      replace o_z0 := o_z0.grew s11
      go_wp2_with fail
      refine (eqDirS _ _ x1 _ o_y1.rd o_z1.rd (by omega) hms1.out).mono ?_
      rintro e w12 ⟨rfl, s12⟩
      have g12 : Grew w w12 := g11.trans s12
      replace o_y0 := o_y0.grew s12
      replace o_y1 := o_y1.grew s12
      replace o_z0 := o_z0.grew s12
      replace o_z1 := o_z1.grew s12
      go_wp2
      go_ret
      exact ⟨rfl, g12⟩
end Go.Proofs.Ytbbdeajfjconcaa.fnExactEqualDirs
