/- The walk of laws.FnExactTransitiveDependents, out of the contracts of the two functions. -/
import Derived.Test.YtggopodnmepojaaK4
import Derived.Test.YtggopodnmepojaaS
import Derived.Test.YtggopodnmepojaaH2
import Derived.Test.YtggopodnmepojaaH6
import Derived.Test.YtggopodnmepojaaO2
namespace Go.Proofs.Ytggopodnmepojaa.fnExactTransitiveDependents
open Go.RowKit
set_option linter.unusedVariables false
set_option maxRecDepth 100000 in
set_option maxHeartbeats 1000000 in
theorem walkLaw (w : World) (u0 : Value) (x0 : List Dr) (hr0 : RdDs w u0 x0) (hn0 : x0.length ≤ maxLen) (ho0 : ∀ x, x ∈ x0 → x.ok0) (u1 : Value) (n1 : Nat) (x1 : List ByteArray) (hr1 : Rd w u1 1 n1 (strs x1)) (hn1 : n1 ≤ maxLen) (ho1 : ∀ a : ByteArray, a ∈ x1 → a.size ≤ maxLen) :
    Calls Try.prog 9 #[u0, u1] w fun e w' => e = .returned (.bool true) ∧ Grew w w' := by
  have R0 := Lib.hid hr0
  have O0 := Lib.hid ho0
  obtain ⟨ps0, ⟨sa0, sc0, rfl, hc0, hra0⟩, hall0⟩ := hr0
  clear ho0 hra0 hall0
  have R1 := Lib.hid hr1
  have O1 := Lib.hid ho1
  obtain ⟨sa1, sc1, rfl, hc1, hra1⟩ := hr1
  clear ho1 hra1
  go_enter Try.func9, Try.ntmps9
  go_wp2_with fail
  refine (szDirS _ x0 _ _ (R0.out.grew (Grew.refl w)) hn0 O0.out (by omega) (by omega)).mono ?_
  rintro e w1 ⟨r0, rfl, hl0, s1⟩
  have g1 : Grew w w1 := (Grew.refl w).trans s1
  have pz1 := Lib.hid s1.size
  rcases hl0 with rfl | ⟨hl0, hp0⟩
  · go_wp2
    go_ret
    exact ⟨rfl, g1⟩
  · have hle0 : r0 ≤ 1048576 := by omega
    have hst0 : x0.length ≤ 1048576 := by omega
    have hsm0 : x0.length ≤ 4000000 := by omega
    have hzz0 : szAll Dr.sz x0 ≤ 4000000 := by omega
    have hms0 := Lib.hid (fun x (hx : x ∈ x0) => Dr.small_of (Nat.le_trans (mem_szAll hx) hzz0))
    have HL0 := Lib.hid hl0
    clear hl0
    go_wp2_with fail
    refine (szStringS _ n1 x1 _ _ (R1.out.grew g1) hn1 O1.out (by omega) (by omega)).mono ?_
    rintro e w2 ⟨r1, rfl, hl1, s2⟩
    have g2 : Grew w w2 := g1.trans s2
    have pz2 := Lib.hid s2.size
    rcases hl1 with rfl | ⟨hl1, hp1⟩
    · go_wp2
      go_ret
      exact ⟨rfl, g2⟩
    · have hle1 : r1 ≤ 1048576 := by omega
      have hst1 : n1 ≤ 1048576 := by omega
      have hsm1 : n1 ≤ 4000000 := by omega
      have HL1 := Lib.hid hl1
      clear hl1
      have BD0 : (clo x0 x1).length ≤ 4000000 := Nat.le_trans (clo_len x0 x1) (by have := Rd.len1 R1.out; omega)
      have SP := fun (w : World) (v0 : Value) (h0 : RdDs w v0 x0) (v1 : Value) (h1 : Rd w v1 1 n1 (strs x1)) => specTransDep v0 v1 x0 x1 w h0 (Rd.fix1 h1) (by have := Rd.len1 R1.out; omega) hms0.out
      have IM := fun (w : World) (v0 : Value) (h0 : RdDs w v0 x0) (v1 : Value) (h1 : Rd w v1 1 n1 (strs x1)) => implTransDep v0 v1 x0 x1 w h0 (Rd.fix1 h1) (by have := Rd.len1 R1.out; omega) hms0.out
      generalize clo x0 x1 = rv0 at SP IM BD0
      replace SP := Lib.hid SP
      replace IM := Lib.hid IM
      go_wp2_with fail
      refine (toDirS _ x0 _ (R0.out.grew g2) (by omega) hms0.out).mono ?_
      rintro e w3 ⟨c0, rfl, o_c0, s3⟩
      have g3 : Grew w w3 := g2.trans s3
      have pz3 := Lib.hid s3.size
      go_wp2_with fail
      refine (toStringS _ n1 x1 _ (R1.out.grew g3) (by omega)).mono ?_
      rintro e w4 ⟨c1, rfl, o_c1, s4⟩
      have g4 : Grew w w4 := g3.trans s4
      have pz4 := Lib.hid s4.size
      replace o_c0 := o_c0.grew s4
      have o_c1 := Own.of o_c1
      go_wp2_with fail
      refine (SP.out _ c0 o_c0.rd c1 o_c1.rd).mono ?_
      rintro e w5 ⟨rw0, rfl, o_rw0, s5⟩
      have g5 : Grew w w5 := g4.trans s5
      have pz5 := Lib.hid s5.size
      replace o_c0 := o_c0.grew s5
      replace o_c1 := o_c1.grew s5
      have o_rw0 := Own.of o_rw0
      go_wp2_with fail
      refine (toDirS _ x0 _ (R0.out.grew g5) (by omega) hms0.out).mono ?_
      rintro e w6 ⟨y0, rfl, o_y0, s6⟩
      have g6 : Grew w w6 := g5.trans s6
      have pz6 := Lib.hid s6.size
      replace o_rw0 := o_rw0.grew s6
      go_wp2_with fail
      refine (toStringS _ n1 x1 _ (R1.out.grew g6) (by omega)).mono ?_
      rintro e w7 ⟨y1, rfl, o_y1, s7⟩
      have g7 : Grew w w7 := g6.trans s7
      have pz7 := Lib.hid s7.size
      replace o_rw0 := o_rw0.grew s7
      replace o_y0 := o_y0.grew s7
      have o_y1 := Own.of o_y1
      go_wp2_with fail
      refine (IM.out _ y0 o_y0.rd y1 o_y1.rd).mono ?_
      rintro e w8 ⟨rg0, rfl, o_rg0, s8⟩
      have g8 : Grew w w8 := g7.trans s8
      have pz8 := Lib.hid s8.size
      replace o_rw0 := o_rw0.grew s8
      replace o_y0 := o_y0.grew s8
      replace o_y1 := o_y1.grew s8
      have o_rg0 := Own.of o_rg0
      go_wp2_with fail
      refine (eqStringS _ _ rv0.length rv0 _ o_rg0.rd o_rw0.rd (by omega)).mono ?_
      rintro e w9 ⟨rfl, s9⟩
      have g9 : Grew w w9 := g8.trans s9
      have pz9 := Lib.hid s9.size
      replace o_rw0 := o_rw0.grew s9
      replace o_y0 := o_y0.grew s9
      replace o_y1 := o_y1.grew s9
      replace o_rg0 := o_rg0.grew s9
      go_wp2_with fail
      refine (toDirS _ x0 _ (R0.out.grew g9) (by omega) hms0.out).mono ?_
      rintro e w10 ⟨z0, rfl, o_z0, s10⟩
      have g10 : Grew w w10 := g9.trans s10
      have pz10 := Lib.hid s10.size
      replace o_rw0 := o_rw0.grew s10
      replace o_y0 := o_y0.grew s10
      replace o_y1 := o_y1.grew s10
      replace o_rg0 := o_rg0.grew s10
      go_wp2_with fail
      refine (eqDirS _ _ x0 _ o_y0.rd o_z0.rd (by omega) hms0.out).mono ?_
      rintro e w11 ⟨rfl, s11⟩
      have g11 : Grew w w11 := g10.trans s11
      have pz11 := Lib.hid s11.size
      replace o_rw0 := o_rw0.grew s11
      replace o_y0 := o_y0.grew s11
      replace o_y1 := o_y1.grew s11
      replace o_rg0 := o_rg0.grew s11
      replace o_z0 := o_z0.grew s11
      go_wp2_with fail
      refine (toStringS _ n1 x1 _ (R1.out.grew g11) (by omega)).mono ?_
      rintro e w12 ⟨z1, rfl, o_z1, s12⟩
      have g12 : Grew w w12 := g11.trans s12
      have pz12 := Lib.hid s12.size
      replace o_rw0 := o_rw0.grew s12
      replace o_y0 := o_y0.grew s12
      replace o_y1 := o_y1.grew s12
      replace o_rg0 := o_rg0.grew s12
      have o_z1 := Own.of o_z1
      go_wp2_with fail
      refine (eqStringS _ _ n1 x1 _ o_y1.rd o_z1.rd (by omega)).mono ?_
      rintro e w13 ⟨rfl, s13⟩
      have g13 : Grew w w13 := g12.trans s13
      have pz13 := Lib.hid s13.size
      replace o_rw0 := o_rw0.grew s13
      replace o_y0 := o_y0.grew s13
      replace o_y1 := o_y1.grew s13
      replace o_rg0 := o_rg0.grew s13
      replace o_z1 := o_z1.grew s13
      go_wp2_with fail
      refine (markDirS _ x0 1 _ _ _ o_y0 (by omega) hms0.out (by omega) (by have := Dr.cnt_ok (xs := x0) (by omega) hzz0; omega)).mono ?_
      rintro e w14 ⟨he, om, s14⟩
      clear om
      obtain ⟨kk0, ka0, kb0, rfl⟩ : ∃ k : Int, 0 ≤ k ∧ k ≤ 56000001 ∧ e = .returned (.int .i64 k) := ⟨_, by have := Dr.cnt_ok (xs := x0) (by omega) hzz0; omega, by have := Dr.cnt_ok (xs := x0) (by omega) hzz0; omega, he⟩
      have pz14 := Lib.hid s14.size
      have g14 : Grew w w14 := Touch.new g13 s14 (Nat.le_trans (Nat.le_trans (Nat.le_trans (Nat.le_trans (pz1.out) pz2.out) pz3.out) pz4.out) pz5.out)
      replace o_rw0 := o_rw0.touch s14 (.inl (Nat.le_refl _))
      replace o_y1 := o_y1.touch s14 (.inr (Nat.le_refl _))
      replace o_rg0 := o_rg0.touch s14 (.inr (pz7.out))
      go_wp2_with fail
      refine (markStringS _ n1 x1 kk0 _ _ _ o_y1 (by omega) (by omega) (by omega)).mono ?_
      rintro e w15 ⟨he, om, s15⟩
      clear om
      obtain ⟨kk1, ka1, kb1, rfl⟩ : ∃ k : Int, 0 ≤ k ∧ k ≤ 60000001 ∧ e = .returned (.int .i64 k) := ⟨_, by omega, by omega, he⟩
      have pz15 := Lib.hid s15.size
      have g15 : Grew w w15 := Touch.new g14 s15 (Nat.le_trans (Nat.le_trans (Nat.le_trans (Nat.le_trans (Nat.le_trans (pz1.out) pz2.out) pz3.out) pz4.out) pz5.out) pz6.out)
      replace o_rw0 := o_rw0.touch s15 (.inl (pz6.out))
      replace o_rg0 := o_rg0.touch s15 (.inr (Nat.le_refl _))
      go_wp2_with fail
      refine (eqStringS _ _ rv0.length rv0 _ o_rg0.rd o_rw0.rd (by omega)).mono ?_
      rintro e w16 ⟨rfl, s16⟩
      have g16 : Grew w w16 := g15.trans s16
      have pz16 := Lib.hid s16.size
      replace o_rw0 := o_rw0.grew s16
      replace o_rg0 := o_rg0.grew s16
      go_wp2_with fail
      refine (markStringS _ rv0.length rv0 (1) _ _ _ o_rg0 (by omega) (by omega) (by omega)).mono ?_
      rintro e w17 ⟨rfl, om_rg0, s17⟩
      have pz17 := Lib.hid s17.size
      have g17 : Grew w w17 := Touch.new g16 s17 (Nat.le_trans (Nat.le_trans (Nat.le_trans (Nat.le_trans (Nat.le_trans (Nat.le_trans (pz1.out) pz2.out) pz3.out) pz4.out) pz5.out) pz6.out) pz7.out)
      replace o_rw0 := o_rw0.touch s17 (.inl (Nat.le_trans (pz6.out) pz7.out))
      go_wp2_with fail
      refine (heldStringS _ rv0.length (1) _ om_rg0.rd (by omega) (by omega) (by omega)).mono ?_
      rintro e w18 ⟨rfl, s18⟩
      have g18 : Grew w w18 := g17.trans s18
      have pz18 := Lib.hid s18.size
      replace o_rw0 := o_rw0.grew s18
      replace om_rg0 := om_rg0.grew s18
      go_wp2_with fail
      refine (toDirS _ x0 _ (R0.out.grew g18) (by omega) hms0.out).mono ?_
      rintro e w19 ⟨v0, rfl, o_v0, s19⟩
      have g19 : Grew w w19 := g18.trans s19
      have pz19 := Lib.hid s19.size
      replace o_rw0 := o_rw0.grew s19
      replace om_rg0 := om_rg0.grew s19
      go_wp2_with fail
      refine (toStringS _ n1 x1 _ (R1.out.grew g19) (by omega)).mono ?_
      rintro e w20 ⟨v1, rfl, o_v1, s20⟩
      have g20 : Grew w w20 := g19.trans s20
      have pz20 := Lib.hid s20.size
      replace o_rw0 := o_rw0.grew s20
      replace om_rg0 := om_rg0.grew s20
      replace o_v0 := o_v0.grew s20
      have o_v1 := Own.of o_v1
      go_wp2_with fail
      refine (IM.out _ v0 o_v0.rd v1 o_v1.rd).mono ?_
      rintro e w21 ⟨rh0, rfl, o_rh0, s21⟩
      have g21 : Grew w w21 := g20.trans s21
      have pz21 := Lib.hid s21.size
      replace o_rw0 := o_rw0.grew s21
      replace om_rg0 := om_rg0.grew s21
      replace o_v0 := o_v0.grew s21
      replace o_v1 := o_v1.grew s21
      have o_rh0 := Own.of o_rh0
      go_wp2_with fail
      refine (eqStringS _ _ rv0.length rv0 _ o_rh0.rd o_rw0.rd (by omega)).mono ?_
      rintro e w22 ⟨rfl, s22⟩
      have g22 : Grew w w22 := g21.trans s22
      have pz22 := Lib.hid s22.size
      replace o_rw0 := o_rw0.grew s22
      replace om_rg0 := om_rg0.grew s22
      replace o_v0 := o_v0.grew s22
      replace o_v1 := o_v1.grew s22
      replace o_rh0 := o_rh0.grew s22
      go_wp2_with fail
      refine (heldStringS _ rv0.length (1) _ om_rg0.rd (by omega) (by omega) (by omega)).mono ?_
      rintro e w23 ⟨rfl, s23⟩
      have g23 : Grew w w23 := g22.trans s23
      have pz23 := Lib.hid s23.size
      replace o_rw0 := o_rw0.grew s23
      replace om_rg0 := om_rg0.grew s23
      replace o_v0 := o_v0.grew s23
      replace o_v1 := o_v1.grew s23
      replace o_rh0 := o_rh0.grew s23
      go_wp2
      go_ret
      exact ⟨rfl, g23⟩
end Go.Proofs.Ytggopodnmepojaa.fnExactTransitiveDependents
