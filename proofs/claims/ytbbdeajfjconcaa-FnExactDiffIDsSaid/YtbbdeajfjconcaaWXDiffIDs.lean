/- The walk of laws.FnExactDiffIDs, out of the contracts of the two functions. -/
import Derived.Test.YtbbdeajfjconcaaD2
import Derived.Test.YtbbdeajfjconcaaO
namespace Go.Proofs.Ytbbdeajfjconcaa.fnExactDiffIDs
open Go.RowKit
set_option linter.unusedVariables false
set_option maxRecDepth 100000 in
set_option maxHeartbeats 4000000 in
theorem walkLaw (w : World) (u0 : Value) (n0 : Nat) (x0 : List Int) (hr0 : Rd w u0 1 n0 (ints x0)) (hn0 : n0 ≤ maxLen) (ho0 : ∀ a, a ∈ x0 → I64 a) (u1 : Value) (n1 : Nat) (x1 : List Int) (hr1 : Rd w u1 1 n1 (ints x1)) (hn1 : n1 ≤ maxLen) (ho1 : ∀ a, a ∈ x1 → I64 a) :
    Calls Try.prog 5 #[u0, u1] w fun e w' => e = .returned (.bool true) ∧ Grew w w' := by
  have R0 := Lib.hid hr0
  have O0 := Lib.hid ho0
  obtain ⟨sa0, sc0, rfl, hc0, hra0⟩ := hr0
  clear ho0 hra0
  have R1 := Lib.hid hr1
  have O1 := Lib.hid ho1
  obtain ⟨sa1, sc1, rfl, hc1, hra1⟩ := hr1
  clear ho1 hra1
  by_cases hbig0 : (1048576 : Int) < (n0 : Int)
  · go_enter Try.func5, Try.ntmps5
    go_wp2
    go_ret
    exact ⟨rfl, by repeat' (first | with_reducible exact Grew.refl _ | with_reducible apply Grew.alloc)⟩
  · have hsm0 : (n0 : Int) ≤ 4000000 := by omega
    by_cases hbig1 : (1048576 : Int) < (n1 : Int)
    · go_enter Try.func5, Try.ntmps5
      go_wp2
      go_ret
      exact ⟨rfl, by repeat' (first | with_reducible exact Grew.refl _ | with_reducible apply Grew.alloc)⟩
    · have hsm1 : (n1 : Int) ≤ 4000000 := by omega
      go_enter Try.func5, Try.ntmps5
      have BD0 : (wo x1 x0).length ≤ 4000000 := Nat.le_trans (wo_le x1 x0) (by have := Rd.len1 R1.out; omega)
      have BD1 : (wo x0 x1).length ≤ 4000000 := Nat.le_trans (wo_le x0 x1) (by have := Rd.len1 R0.out; omega)
      have SP := fun (w : World) (v0 : Value) (h0 : Rd w v0 1 n0 (ints x0)) (v1 : Value) (h1 : Rd w v1 1 n1 (ints x1)) => specDiffIDs v0 v1 n0 n1 x0 x1 w h0 h1 (by omega) (by omega)
      have IM := fun (w : World) (v0 : Value) (h0 : Rd w v0 1 n0 (ints x0)) (v1 : Value) (h1 : Rd w v1 1 n1 (ints x1)) => implDiffIDs v0 v1 n0 n1 x0 x1 w h0 h1 (by omega) (by omega)
      generalize wo x1 x0 = rv0 at SP IM BD0
      generalize wo x0 x1 = rv1 at SP IM BD1
      replace SP := Lib.hid SP
      replace IM := Lib.hid IM
      go_wp2_with fail
      refine (toIntS _ n0 x0 _ (R0.out.grew (Grew.refl w)) (by omega)).mono ?_
      rintro e w1 ⟨c0, rfl, o_c0, s1⟩
      have g1 : Grew w w1 := (Grew.refl w).trans s1
      have pz1 := Lib.hid s1.size
      have o_c0 := Own.of o_c0
      go_wp2_with fail
      refine (toIntS _ n1 x1 _ (R1.out.grew g1) (by omega)).mono ?_
      rintro e w2 ⟨c1, rfl, o_c1, s2⟩
      have g2 : Grew w w2 := g1.trans s2
      have pz2 := Lib.hid s2.size
      replace o_c0 := o_c0.grew s2
      have o_c1 := Own.of o_c1
      go_wp2_with fail
      refine (SP.out _ c0 o_c0.rd c1 o_c1.rd).mono ?_
      rintro e w3 ⟨rw0, rw1, rfl, o_rw0, o_rw1, s3⟩
      have g3 : Grew w w3 := g2.trans s3
      have pz3 := Lib.hid s3.size
      replace o_c0 := o_c0.grew s3
      replace o_c1 := o_c1.grew s3
      have o_rw0 := Own.of o_rw0
      have o_rw1 := Own.of o_rw1
      go_wp2_with fail
      refine (toIntS _ n0 x0 _ (R0.out.grew g3) (by omega)).mono ?_
      rintro e w4 ⟨y0, rfl, o_y0, s4⟩
      have g4 : Grew w w4 := g3.trans s4
      have pz4 := Lib.hid s4.size
      replace o_rw0 := o_rw0.grew s4
      replace o_rw1 := o_rw1.grew s4
      have o_y0 := Own.of o_y0
      go_wp2_with fail
      refine (toIntS _ n1 x1 _ (R1.out.grew g4) (by omega)).mono ?_
      rintro e w5 ⟨y1, rfl, o_y1, s5⟩
      have g5 : Grew w w5 := g4.trans s5
      have pz5 := Lib.hid s5.size
      replace o_rw0 := o_rw0.grew s5
      replace o_rw1 := o_rw1.grew s5
      replace o_y0 := o_y0.grew s5
      have o_y1 := Own.of o_y1
      go_wp2_with fail
      refine (IM.out _ y0 o_y0.rd y1 o_y1.rd).mono ?_
      rintro e w6 ⟨rg0, rg1, midrg, rfl, ⟨hm1rg, hm2rg⟩, o_rg0, o_rg1, s6⟩
      have g6 : Grew w w6 := g5.trans s6
      have pz6 := Lib.hid hm1rg
      have pz7 := Lib.hid hm2rg
      replace o_rw0 := o_rw0.grew s6
      replace o_rw1 := o_rw1.grew s6
      replace o_y0 := o_y0.grew s6
      replace o_y1 := o_y1.grew s6
      go_wp2_with fail
      refine (eqIntS _ _ rv0.length rv0 _ o_rg0.rd o_rw0.rd (by omega)).mono ?_
      rintro e w7 ⟨rfl, s7⟩
      have g7 : Grew w w7 := g6.trans s7
      have pz8 := Lib.hid s7.size
      replace o_rw0 := o_rw0.grew s7
      replace o_rw1 := o_rw1.grew s7
      replace o_y0 := o_y0.grew s7
      replace o_y1 := o_y1.grew s7
      replace o_rg0 := o_rg0.grew s7
      replace o_rg1 := o_rg1.grew s7
      go_wp2_with fail
      refine (eqIntS _ _ rv1.length rv1 _ o_rg1.rd o_rw1.rd (by omega)).mono ?_
      rintro e w8 ⟨rfl, s8⟩
      have g8 : Grew w w8 := g7.trans s8
      have pz9 := Lib.hid s8.size
      replace o_rw0 := o_rw0.grew s8
      replace o_rw1 := o_rw1.grew s8
      replace o_y0 := o_y0.grew s8
      replace o_y1 := o_y1.grew s8
      replace o_rg0 := o_rg0.grew s8
      replace o_rg1 := o_rg1.grew s8
      go_wp2_with fail
      refine (toIntS _ n0 x0 _ (R0.out.grew g8) (by omega)).mono ?_
      rintro e w9 ⟨z0, rfl, o_z0, s9⟩
      have g9 : Grew w w9 := g8.trans s9
      have pz10 := Lib.hid s9.size
      replace o_rw0 := o_rw0.grew s9
      replace o_rw1 := o_rw1.grew s9
      replace o_y0 := o_y0.grew s9
      replace o_y1 := o_y1.grew s9
      replace o_rg0 := o_rg0.grew s9
      replace o_rg1 := o_rg1.grew s9
      have o_z0 := Own.of o_z0
      go_wp2_with fail
      refine (eqIntS _ _ n0 x0 _ o_y0.rd o_z0.rd (by omega)).mono ?_
      rintro e w10 ⟨rfl, s10⟩
      have g10 : Grew w w10 := g9.trans s10
      have pz11 := Lib.hid s10.size
      replace o_rw0 := o_rw0.grew s10
      replace o_rw1 := o_rw1.grew s10
      replace o_y0 := o_y0.grew s10
      replace o_y1 := o_y1.grew s10
      replace o_rg0 := o_rg0.grew s10
      replace o_rg1 := o_rg1.grew s10
      replace o_z0 := o_z0.grew s10
      go_wp2_with fail
      refine (toIntS _ n1 x1 _ (R1.out.grew g10) (by omega)).mono ?_
      rintro e w11 ⟨z1, rfl, o_z1, s11⟩
      have g11 : Grew w w11 := g10.trans s11
      have pz12 := Lib.hid s11.size
      replace o_rw0 := o_rw0.grew s11
      replace o_rw1 := o_rw1.grew s11
      replace o_y0 := o_y0.grew s11
      replace o_y1 := o_y1.grew s11
      replace o_rg0 := o_rg0.grew s11
      replace o_rg1 := o_rg1.grew s11
      have o_z1 := Own.of o_z1
      go_wp2_with fail
      refine (eqIntS _ _ n1 x1 _ o_y1.rd o_z1.rd (by omega)).mono ?_
      rintro e w12 ⟨rfl, s12⟩
      have g12 : Grew w w12 := g11.trans s12
      have pz13 := Lib.hid s12.size
      replace o_rw0 := o_rw0.grew s12
      replace o_rw1 := o_rw1.grew s12
      replace o_y0 := o_y0.grew s12
      replace o_y1 := o_y1.grew s12
      replace o_rg0 := o_rg0.grew s12
      replace o_rg1 := o_rg1.grew s12
      replace o_z1 := o_z1.grew s12
      go_wp2_with fail
      refine (markIntS _ n0 x0 1 _ _ _ o_y0 (by omega) (by omega) (by omega)).mono ?_
      rintro e w13 ⟨he, om, s13⟩
      clear om
      obtain ⟨kk0, ka0, kb0, rfl⟩ : ∃ k : Int, 0 ≤ k ∧ k ≤ 4000001 ∧ e = .returned (.int .i64 k) := ⟨_, by omega, by omega, he⟩
      have pz14 := Lib.hid s13.size
      have g13 : Grew w w13 := Touch.new g12 s13 (Nat.le_trans (Nat.le_trans (pz1.out) pz2.out) pz3.out)
      replace o_rw0 := o_rw0.touch s13 (.inl (Nat.le_refl _))
      replace o_rw1 := o_rw1.touch s13 (.inl (Nat.le_refl _))
      replace o_y1 := o_y1.touch s13 (.inr (Nat.le_refl _))
      replace o_rg0 := o_rg0.touch s13 (.inr (pz5.out))
      replace o_rg1 := o_rg1.touch s13 (.inr (Nat.le_trans (pz5.out) pz6.out))
      go_wp2_with fail
      refine (markIntS _ n1 x1 kk0 _ _ _ o_y1 (by omega) (by omega) (by omega)).mono ?_
      rintro e w14 ⟨he, om, s14⟩
      clear om
      obtain ⟨kk1, ka1, kb1, rfl⟩ : ∃ k : Int, 0 ≤ k ∧ k ≤ 8000001 ∧ e = .returned (.int .i64 k) := ⟨_, by omega, by omega, he⟩
      have pz15 := Lib.hid s14.size
      have g14 : Grew w w14 := Touch.new g13 s14 (Nat.le_trans (Nat.le_trans (Nat.le_trans (pz1.out) pz2.out) pz3.out) pz4.out)
      replace o_rw0 := o_rw0.touch s14 (.inl (pz4.out))
      replace o_rw1 := o_rw1.touch s14 (.inl (pz4.out))
      replace o_rg0 := o_rg0.touch s14 (.inr (Nat.le_refl _))
      replace o_rg1 := o_rg1.touch s14 (.inr (pz6.out))
      go_wp2_with fail
      refine (eqIntS _ _ rv0.length rv0 _ o_rg0.rd o_rw0.rd (by omega)).mono ?_
      rintro e w15 ⟨rfl, s15⟩
      have g15 : Grew w w15 := g14.trans s15
      have pz16 := Lib.hid s15.size
      replace o_rw0 := o_rw0.grew s15
      replace o_rw1 := o_rw1.grew s15
      replace o_rg0 := o_rg0.grew s15
      replace o_rg1 := o_rg1.grew s15
      go_wp2_with fail
      refine (eqIntS _ _ rv1.length rv1 _ o_rg1.rd o_rw1.rd (by omega)).mono ?_
      rintro e w16 ⟨rfl, s16⟩
      have g16 : Grew w w16 := g15.trans s16
      have pz17 := Lib.hid s16.size
      replace o_rw0 := o_rw0.grew s16
      replace o_rw1 := o_rw1.grew s16
      replace o_rg0 := o_rg0.grew s16
      replace o_rg1 := o_rg1.grew s16
      go_wp2_with fail
      refine (markIntS _ rv0.length rv0 (1) _ _ _ o_rg0 (by omega) (by omega) (by omega)).mono ?_
      rintro e w17 ⟨rfl, om_rg0, s17⟩
      have pz18 := Lib.hid s17.size
      have g17 : Grew w w17 := Touch.new g16 s17 (Nat.le_trans (Nat.le_trans (Nat.le_trans (Nat.le_trans (pz1.out) pz2.out) pz3.out) pz4.out) pz5.out)
      replace o_rw0 := o_rw0.touch s17 (.inl (Nat.le_trans (pz4.out) pz5.out))
      replace o_rw1 := o_rw1.touch s17 (.inl (Nat.le_trans (pz4.out) pz5.out))
      replace o_rg1 := o_rg1.touch s17 (.inr (Nat.le_refl _))
      go_wp2_with fail
      refine (markIntS _ rv1.length rv1 (1 + (rv0.length : Int)) _ _ _ o_rg1 (by omega) (by omega) (by omega)).mono ?_
      rintro e w18 ⟨rfl, om_rg1, s18⟩
      have pz19 := Lib.hid s18.size
      have g18 : Grew w w18 := Touch.new g17 s18 (Nat.le_trans (Nat.le_trans (Nat.le_trans (Nat.le_trans (Nat.le_trans (pz1.out) pz2.out) pz3.out) pz4.out) pz5.out) pz6.out)
      replace o_rw0 := o_rw0.touch s18 (.inl (Nat.le_trans (Nat.le_trans (pz4.out) pz5.out) pz6.out))
      replace o_rw1 := o_rw1.touch s18 (.inl (Nat.le_trans (Nat.le_trans (pz4.out) pz5.out) pz6.out))
      replace om_rg0 := om_rg0.touch s18 (.inl (Nat.le_refl _))
      go_wp2_with fail
      refine (heldIntS _ rv0.length (1) _ om_rg0.rd (by omega) (by omega) (by omega)).mono ?_
      rintro e w19 ⟨rfl, s19⟩
      have g19 : Grew w w19 := g18.trans s19
      have pz20 := Lib.hid s19.size
      replace o_rw0 := o_rw0.grew s19
      replace o_rw1 := o_rw1.grew s19
      replace om_rg0 := om_rg0.grew s19
      replace om_rg1 := om_rg1.grew s19
      go_wp2_with fail
      refine (heldIntS _ rv1.length (1 + (rv0.length : Int)) _ om_rg1.rd (by omega) (by omega) (by omega)).mono ?_
      rintro e w20 ⟨rfl, s20⟩
      have g20 : Grew w w20 := g19.trans s20
      have pz21 := Lib.hid s20.size
      replace o_rw0 := o_rw0.grew s20
      replace o_rw1 := o_rw1.grew s20
      replace om_rg0 := om_rg0.grew s20
      replace om_rg1 := om_rg1.grew s20
      go_wp2_with fail
      refine (toIntS _ n0 x0 _ (R0.out.grew g20) (by omega)).mono ?_
      rintro e w21 ⟨v0, rfl, o_v0, s21⟩
      have g21 : Grew w w21 := g20.trans s21
      have pz22 := Lib.hid s21.size
      replace o_rw0 := o_rw0.grew s21
      replace o_rw1 := o_rw1.grew s21
      replace om_rg0 := om_rg0.grew s21
      replace om_rg1 := om_rg1.grew s21
      have o_v0 := Own.of o_v0
      go_wp2_with fail
      refine (toIntS _ n1 x1 _ (R1.out.grew g21) (by omega)).mono ?_
      rintro e w22 ⟨v1, rfl, o_v1, s22⟩
      have g22 : Grew w w22 := g21.trans s22
      have pz23 := Lib.hid s22.size
      replace o_rw0 := o_rw0.grew s22
      replace o_rw1 := o_rw1.grew s22
      replace om_rg0 := om_rg0.grew s22
      replace om_rg1 := om_rg1.grew s22
      replace o_v0 := o_v0.grew s22
      have o_v1 := Own.of o_v1
      go_wp2_with fail
      refine (IM.out _ v0 o_v0.rd v1 o_v1.rd).mono ?_
      rintro e w23 ⟨rh0, rh1, midrh, rfl, ⟨hm1rh, hm2rh⟩, o_rh0, o_rh1, s23⟩
      have g23 : Grew w w23 := g22.trans s23
      have pz24 := Lib.hid hm1rh
      have pz25 := Lib.hid hm2rh
      replace o_rw0 := o_rw0.grew s23
      replace o_rw1 := o_rw1.grew s23
      replace om_rg0 := om_rg0.grew s23
      replace om_rg1 := om_rg1.grew s23
      replace o_v0 := o_v0.grew s23
      replace o_v1 := o_v1.grew s23
      go_wp2_with fail
      refine (eqIntS _ _ rv0.length rv0 _ o_rh0.rd o_rw0.rd (by omega)).mono ?_
      rintro e w24 ⟨rfl, s24⟩
      have g24 : Grew w w24 := g23.trans s24
      have pz26 := Lib.hid s24.size
      replace o_rw0 := o_rw0.grew s24
      replace o_rw1 := o_rw1.grew s24
      replace om_rg0 := om_rg0.grew s24
      replace om_rg1 := om_rg1.grew s24
      replace o_v0 := o_v0.grew s24
      replace o_v1 := o_v1.grew s24
      replace o_rh0 := o_rh0.grew s24
      replace o_rh1 := o_rh1.grew s24
      go_wp2_with fail
      refine (eqIntS _ _ rv1.length rv1 _ o_rh1.rd o_rw1.rd (by omega)).mono ?_
      rintro e w25 ⟨rfl, s25⟩
      have g25 : Grew w w25 := g24.trans s25
      have pz27 := Lib.hid s25.size
      replace o_rw0 := o_rw0.grew s25
      replace o_rw1 := o_rw1.grew s25
      replace om_rg0 := om_rg0.grew s25
      replace om_rg1 := om_rg1.grew s25
      replace o_v0 := o_v0.grew s25
      replace o_v1 := o_v1.grew s25
      replace o_rh0 := o_rh0.grew s25
      replace o_rh1 := o_rh1.grew s25
      go_wp2_with fail
      refine (heldIntS _ rv0.length (1) _ om_rg0.rd (by omega) (by omega) (by omega)).mono ?_
      rintro e w26 ⟨rfl, s26⟩
      have g26 : Grew w w26 := g25.trans s26
      have pz28 := Lib.hid s26.size
      replace o_rw0 := o_rw0.grew s26
      replace o_rw1 := o_rw1.grew s26
      replace om_rg0 := om_rg0.grew s26
      replace om_rg1 := om_rg1.grew s26
      replace o_v0 := o_v0.grew s26
      replace o_v1 := o_v1.grew s26
      replace o_rh0 := o_rh0.grew s26
      replace o_rh1 := o_rh1.grew s26
      go_wp2_with fail
      refine (heldIntS _ rv1.length (1 + (rv0.length : Int)) _ om_rg1.rd (by omega) (by omega) (by omega)).mono ?_
      rintro e w27 ⟨rfl, s27⟩
      have g27 : Grew w w27 := g26.trans s27
      have pz29 := Lib.hid s27.size
      replace o_rw0 := o_rw0.grew s27
      replace o_rw1 := o_rw1.grew s27
      replace om_rg0 := om_rg0.grew s27
      replace om_rg1 := om_rg1.grew s27
      replace o_v0 := o_v0.grew s27
      replace o_v1 := o_v1.grew s27
      replace o_rh0 := o_rh0.grew s27
      replace o_rh1 := o_rh1.grew s27
      go_wp2
      go_ret
      exact ⟨rfl, g27⟩
end Go.Proofs.Ytbbdeajfjconcaa.fnExactDiffIDs
