/- The walk of laws.FnExactDiffResults, out of the contracts of the two functions. -/
import Derived.Test.YtgchpdmkphagnaaN3
import Derived.Test.YtgchpdmkphagnaaH6
import Derived.Test.YtgchpdmkphagnaaO2
namespace Go.Proofs.Ytgchpdmkphagnaa.fnExactDiffResults
open Go.RowKit
set_option linter.unusedVariables false
set_option maxRecDepth 100000 in
set_option maxHeartbeats 1000000 in
theorem walkLaw (w : World) (u0 : Value) (x0 : List Rs) (hr0 : RdRs w u0 x0) (hn0 : x0.length ≤ maxLen) (ho0 : ∀ x, x ∈ x0 → x.ok0) (u1 : Value) (x1 : List Rs) (hr1 : RdRs w u1 x1) (hn1 : x1.length ≤ maxLen) (ho1 : ∀ x, x ∈ x1 → x.ok0) :
    Calls Try.prog 5 #[u0, u1] w fun e w' => e = .returned (.bool true) ∧ Grew w w' := by
  have R0 := Lib.hid hr0
  have O0 := Lib.hid ho0
  obtain ⟨ps0, ⟨sa0, sc0, rfl, hc0, hra0⟩, hall0⟩ := hr0
  clear ho0 hra0 hall0
  have R1 := Lib.hid hr1
  have O1 := Lib.hid ho1
  obtain ⟨ps1, ⟨sa1, sc1, rfl, hc1, hra1⟩, hall1⟩ := hr1
  clear ho1 hra1 hall1
  go_enter Try.func5, Try.ntmps5
  go_wp2_with fail
  refine (szResultS _ x0 _ _ (R0.out.grew (Grew.refl w)) hn0 O0.out (by omega) (by omega)).mono ?_
  rintro e w1 ⟨r0, rfl, hl0, s1⟩
  have g1 : Grew w w1 := (Grew.refl w).trans s1
  have pz1 := Lib.hid s1.size
  rcases hl0 with rfl | ⟨hl0, hp0⟩
  · go_wp2
    go_ret
    exact ⟨rfl, g1⟩
  · have hle0 : r0 ≤ 1048576 := by omega
    have hsm0 : x0.length ≤ 4000000 := by omega
    have hzz0 : szAll Rs.sz x0 ≤ 4000000 := by omega
    have hms0 := Lib.hid (fun x (hx : x ∈ x0) => Rs.small_of (Nat.le_trans (mem_szAll hx) hzz0))
    have HL0 := Lib.hid hl0
    clear hl0
    go_wp2_with fail
    refine (szResultS _ x1 _ _ (R1.out.grew g1) hn1 O1.out (by omega) (by omega)).mono ?_
    rintro e w2 ⟨r1, rfl, hl1, s2⟩
    have g2 : Grew w w2 := g1.trans s2
    have pz2 := Lib.hid s2.size
    rcases hl1 with rfl | ⟨hl1, hp1⟩
    · go_wp2
      go_ret
      exact ⟨rfl, g2⟩
    · have hle1 : r1 ≤ 1048576 := by omega
      have hsm1 : x1.length ≤ 4000000 := by omega
      have hzz1 : szAll Rs.sz x1 ≤ 4000000 := by omega
      have hms1 := Lib.hid (fun x (hx : x ∈ x1) => Rs.small_of (Nat.le_trans (mem_szAll hx) hzz1))
      have HL1 := Lib.hid hl1
      clear hl1
      have BD0 : (difRes x0 x1).length ≤ 4000000 := Nat.le_trans (difRes_le x0 x1) (by omega)
      have SM0 : ∀ x, x ∈ difRes x0 x1 → x.small := difRes_small hms0.out hms1.out
      have CN0 : 0 ≤ cntL cntDf (difRes x0 x1) ∧ cntL cntDf (difRes x0 x1) ≤ 40000000000000 := by have h1 := cnt_small _ (difRes_small hms0.out hms1.out); have h2 := difRes_le x0 x1; omega
      have SP := fun (w : World) (v0 : Value) (h0 : RdRs w v0 x0) (v1 : Value) (h1 : RdRs w v1 x1) => specDiffResults v0 v1 x0 x1 w h0 h1 (by omega) (by omega) hms0.out hms1.out
      have IM := fun (w : World) (v0 : Value) (h0 : RdRs w v0 x0) (v1 : Value) (h1 : RdRs w v1 x1) => implDiffResults v0 v1 x0 x1 w h0 h1 (by omega) (by omega) hms0.out hms1.out
      generalize difRes x0 x1 = rv0 at SP IM BD0 SM0 CN0
      replace SM0 := Lib.hid SM0
      replace SP := Lib.hid SP
      replace IM := Lib.hid IM
      go_wp2_with fail
      refine (toResultS _ x0 _ (R0.out.grew g2) (by omega) hms0.out).mono ?_
      rintro e w3 ⟨c0, rfl, o_c0, s3⟩
      have g3 : Grew w w3 := g2.trans s3
      have pz3 := Lib.hid s3.size
      go_wp2_with fail
      refine (toResultS _ x1 _ (R1.out.grew g3) (by omega) hms1.out).mono ?_
      rintro e w4 ⟨c1, rfl, o_c1, s4⟩
      have g4 : Grew w w4 := g3.trans s4
      have pz4 := Lib.hid s4.size
      replace o_c0 := o_c0.grew s4
      go_wp2_with fail
      refine (SP.out _ c0 o_c0.rd c1 o_c1.rd).mono ?_
      rintro e w5 ⟨rw0, rfl, o_rw0, s5⟩
      have g5 : Grew w w5 := g4.trans s5
      have pz5 := Lib.hid s5.size
      replace o_c0 := o_c0.grew s5
      replace o_c1 := o_c1.grew s5
      go_wp2_with fail
      refine (toResultS _ x0 _ (R0.out.grew g5) (by omega) hms0.out).mono ?_
      rintro e w6 ⟨y0, rfl, o_y0, s6⟩
      have g6 : Grew w w6 := g5.trans s6
      have pz6 := Lib.hid s6.size
      replace o_rw0 := o_rw0.grew s6
      go_wp2_with fail
      refine (toResultS _ x1 _ (R1.out.grew g6) (by omega) hms1.out).mono ?_
      rintro e w7 ⟨y1, rfl, o_y1, s7⟩
      have g7 : Grew w w7 := g6.trans s7
      have pz7 := Lib.hid s7.size
      replace o_rw0 := o_rw0.grew s7
      replace o_y0 := o_y0.grew s7
      go_wp2_with fail
      refine (IM.out _ y0 o_y0.rd y1 o_y1.rd).mono ?_
      rintro e w8 ⟨rg0, rfl, o_rg0, s8⟩
      have g8 : Grew w w8 := g7.trans s8
      have pz8 := Lib.hid s8.size
      replace o_rw0 := o_rw0.grew s8
      replace o_y0 := o_y0.grew s8
      replace o_y1 := o_y1.grew s8
      go_wp2_with fail
      refine (eqDiffS _ _ rv0 _ o_rg0.rd o_rw0.rd (by omega) SM0.out).mono ?_
      rintro e w9 ⟨rfl, s9⟩
      have g9 : Grew w w9 := g8.trans s9
      have pz9 := Lib.hid s9.size
      replace o_rw0 := o_rw0.grew s9
      replace o_y0 := o_y0.grew s9
      replace o_y1 := o_y1.grew s9
      replace o_rg0 := o_rg0.grew s9
      go_wp2_with fail
      refine (toResultS _ x0 _ (R0.out.grew g9) (by omega) hms0.out).mono ?_
      rintro e w10 ⟨z0, rfl, o_z0, s10⟩
      have g10 : Grew w w10 := g9.trans s10
      have pz10 := Lib.hid s10.size
      replace o_rw0 := o_rw0.grew s10
      replace o_y0 := o_y0.grew s10
      replace o_y1 := o_y1.grew s10
      replace o_rg0 := o_rg0.grew s10
      go_wp2_with fail
      refine (eqResultS _ _ x0 _ o_y0.rd o_z0.rd (by omega) hms0.out).mono ?_
      rintro e w11 ⟨rfl, s11⟩
      have g11 : Grew w w11 := g10.trans s11
      have pz11 := Lib.hid s11.size
      replace o_rw0 := o_rw0.grew s11
      replace o_y0 := o_y0.grew s11
      replace o_y1 := o_y1.grew s11
      replace o_rg0 := o_rg0.grew s11
      replace o_z0 := o_z0.grew s11
      go_wp2_with fail
      refine (toResultS _ x1 _ (R1.out.grew g11) (by omega) hms1.out).mono ?_
      rintro e w12 ⟨z1, rfl, o_z1, s12⟩
      have g12 : Grew w w12 := g11.trans s12
      have pz12 := Lib.hid s12.size
      replace o_rw0 := o_rw0.grew s12
      replace o_y0 := o_y0.grew s12
      replace o_y1 := o_y1.grew s12
      replace o_rg0 := o_rg0.grew s12
      go_wp2_with fail
      refine (eqResultS _ _ x1 _ o_y1.rd o_z1.rd (by omega) hms1.out).mono ?_
      rintro e w13 ⟨rfl, s13⟩
      have g13 : Grew w w13 := g12.trans s13
      have pz13 := Lib.hid s13.size
      replace o_rw0 := o_rw0.grew s13
      replace o_y0 := o_y0.grew s13
      replace o_y1 := o_y1.grew s13
      replace o_rg0 := o_rg0.grew s13
      replace o_z1 := o_z1.grew s13
      go_wp2_with fail
      refine (markResultS _ x0 1 _ _ _ o_y0 (by omega) hms0.out (by omega) (by have := Rs.cnt_ok (xs := x0) (by omega) hzz0; omega)).mono ?_
      rintro e w14 ⟨he, om, s14⟩
      clear om
      obtain ⟨kk0, ka0, kb0, rfl⟩ : ∃ k : Int, 0 ≤ k ∧ k ≤ 56000001 ∧ e = .returned (.int .i64 k) := ⟨_, by have := Rs.cnt_ok (xs := x0) (by omega) hzz0; omega, by have := Rs.cnt_ok (xs := x0) (by omega) hzz0; omega, he⟩
      have pz14 := Lib.hid s14.size
      have g14 : Grew w w14 := Touch.new g13 s14 (Nat.le_trans (Nat.le_trans (Nat.le_trans (Nat.le_trans (pz1.out) pz2.out) pz3.out) pz4.out) pz5.out)
      replace o_rw0 := o_rw0.touch s14 (.inl (Nat.le_refl _))
      replace o_y1 := o_y1.touch s14 (.inr (Nat.le_refl _))
      replace o_rg0 := o_rg0.touch s14 (.inr (pz7.out))
      go_wp2_with fail
      refine (markResultS _ x1 kk0 _ _ _ o_y1 (by omega) hms1.out (by omega) (by have := Rs.cnt_ok (xs := x1) (by omega) hzz1; omega)).mono ?_
      rintro e w15 ⟨he, om, s15⟩
      clear om
      obtain ⟨kk1, ka1, kb1, rfl⟩ : ∃ k : Int, 0 ≤ k ∧ k ≤ 112000001 ∧ e = .returned (.int .i64 k) := ⟨_, by have := Rs.cnt_ok (xs := x1) (by omega) hzz1; omega, by have := Rs.cnt_ok (xs := x1) (by omega) hzz1; omega, he⟩
      have pz15 := Lib.hid s15.size
      have g15 : Grew w w15 := Touch.new g14 s15 (Nat.le_trans (Nat.le_trans (Nat.le_trans (Nat.le_trans (Nat.le_trans (pz1.out) pz2.out) pz3.out) pz4.out) pz5.out) pz6.out)
      replace o_rw0 := o_rw0.touch s15 (.inl (pz6.out))
      replace o_rg0 := o_rg0.touch s15 (.inr (Nat.le_refl _))
      go_wp2_with fail
      refine (eqDiffS _ _ rv0 _ o_rg0.rd o_rw0.rd (by omega) SM0.out).mono ?_
      rintro e w16 ⟨rfl, s16⟩
      have g16 : Grew w w16 := g15.trans s16
      have pz16 := Lib.hid s16.size
      replace o_rw0 := o_rw0.grew s16
      replace o_rg0 := o_rg0.grew s16
      go_wp2_with fail
      refine (markDiffS _ rv0 (1) _ _ _ o_rg0 (by omega) SM0.out (by omega) (by omega)).mono ?_
      rintro e w17 ⟨rfl, om_rg0, s17⟩
      have pz17 := Lib.hid s17.size
      have g17 : Grew w w17 := Touch.new g16 s17 (Nat.le_trans (Nat.le_trans (Nat.le_trans (Nat.le_trans (Nat.le_trans (Nat.le_trans (pz1.out) pz2.out) pz3.out) pz4.out) pz5.out) pz6.out) pz7.out)
      replace o_rw0 := o_rw0.touch s17 (.inl (Nat.le_trans (pz6.out) pz7.out))
      go_wp2_with fail
      refine (heldDiffS _ rv0 (1) _ om_rg0.rd (by omega) SM0.out (by omega) (by omega)).mono ?_
      rintro e w18 ⟨rfl, s18⟩
      have g18 : Grew w w18 := g17.trans s18
      have pz18 := Lib.hid s18.size
      replace o_rw0 := o_rw0.grew s18
      replace om_rg0 := om_rg0.grew s18
      go_wp2_with fail
      refine (toResultS _ x0 _ (R0.out.grew g18) (by omega) hms0.out).mono ?_
      rintro e w19 ⟨v0, rfl, o_v0, s19⟩
      have g19 : Grew w w19 := g18.trans s19
      have pz19 := Lib.hid s19.size
      replace o_rw0 := o_rw0.grew s19
      replace om_rg0 := om_rg0.grew s19
      go_wp2_with fail
      refine (toResultS _ x1 _ (R1.out.grew g19) (by omega) hms1.out).mono ?_
      rintro e w20 ⟨v1, rfl, o_v1, s20⟩
      have g20 : Grew w w20 := g19.trans s20
      have pz20 := Lib.hid s20.size
      replace o_rw0 := o_rw0.grew s20
      replace om_rg0 := om_rg0.grew s20
      replace o_v0 := o_v0.grew s20
      go_wp2_with fail
      refine (IM.out _ v0 o_v0.rd v1 o_v1.rd).mono ?_
      rintro e w21 ⟨rh0, rfl, o_rh0, s21⟩
      have g21 : Grew w w21 := g20.trans s21
      have pz21 := Lib.hid s21.size
      replace o_rw0 := o_rw0.grew s21
      replace om_rg0 := om_rg0.grew s21
      replace o_v0 := o_v0.grew s21
      replace o_v1 := o_v1.grew s21
      go_wp2_with fail
      refine (eqDiffS _ _ rv0 _ o_rh0.rd o_rw0.rd (by omega) SM0.out).mono ?_
      rintro e w22 ⟨rfl, s22⟩
      have g22 : Grew w w22 := g21.trans s22
      have pz22 := Lib.hid s22.size
      replace o_rw0 := o_rw0.grew s22
      replace om_rg0 := om_rg0.grew s22
      replace o_v0 := o_v0.grew s22
      replace o_v1 := o_v1.grew s22
      replace o_rh0 := o_rh0.grew s22
      go_wp2_with fail
      refine (heldDiffS _ rv0 (1) _ om_rg0.rd (by omega) SM0.out (by omega) (by omega)).mono ?_
      rintro e w23 ⟨rfl, s23⟩
      have g23 : Grew w w23 := g22.trans s23
      have pz23 := Lib.hid s23.size
      replace o_rw0 := o_rw0.grew s23
      replace om_rg0 := om_rg0.grew s23
      replace o_v0 := o_v0.grew s23
      replace o_v1 := o_v1.grew s23
      replace o_rh0 := o_rh0.grew s23
      go_wp2
      go_ret
      exact ⟨rfl, g23⟩
end Go.Proofs.Ytgchpdmkphagnaa.fnExactDiffResults
