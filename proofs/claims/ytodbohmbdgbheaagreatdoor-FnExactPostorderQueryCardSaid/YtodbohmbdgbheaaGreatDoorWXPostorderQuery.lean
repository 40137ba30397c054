/- The walk of laws.FnExactPostorderQuery, out of the contracts of the two functions. -/
import Derived.Test.YtodbohmbdgbheaaGreatDoorTx26
import Derived.Test.YtodbohmbdgbheaaGreatDoorTx24
import Derived.Test.YtodbohmbdgbheaaGreatDoorS
import Derived.Test.YtodbohmbdgbheaaGreatDoorH2
import Derived.Test.YtodbohmbdgbheaaGreatDoorH3
import Derived.Test.YtodbohmbdgbheaaGreatDoorO
namespace Go.Proofs.YtodbohmbdgbheaaGreatDoor.fnExactPostorderQuery
open Go.RowKit
set_option linter.unusedVariables false
set_option maxRecDepth 100000 in
set_option maxHeartbeats 1000000 in
theorem walkLaw (w : World) (u0 : Value) (n0 : Nat) (x0 : List N) (hr0 : Rd w u0 7 n0 (rows N.c x0)) (hn0 : n0 ≤ maxLen) (ho0 : ∀ a : N, a ∈ x0 → a.ok) (ht : TabP w) (hE : ErrS w) (hA : TabA w) :
    Calls Tryz.prog 4 #[u0] w fun e w' => e = .returned (.bool true) ∧ Grew w w' := by
  have HT := Lib.hid (fun (u : World) (g : Grew w u) => (⟨ht.grew g, hE.grew g, hA.grew g⟩ : TabP u ∧ ErrS u ∧ TabA u))
  clear ht hE hA
  have R0 := Lib.hid hr0
  have O0 : Hid (∀ a : N, a ∈ x0 → a.ok0) := fun a h => ⟨(ho0 a h).2.2.2.1, (ho0 a h).2.2.2.2.2.2⟩
  obtain ⟨sa0, sc0, rfl, hc0, hra0⟩ := hr0
  clear ho0 hra0
  go_enter Tryz.func4, Tryz.ntmps4
  go_wp2_with fail
  refine (szNodeS _ n0 x0 _ _ (R0.out.grew (Grew.refl w)) hn0 O0.out (by omega) (by omega)).mono ?_
  rintro e w1 ⟨r0, rfl, hl0, s1⟩
  have g1 : Grew w w1 := (Grew.refl w).trans s1
  have pz1 := Lib.hid s1.size
  rcases hl0 with rfl | ⟨hl0, hp0⟩
  · go_wp2
    go_ret
    exact ⟨rfl, g1⟩
  · have hle0 : r0 ≤ 1048576 := by omega
    have hsm0 : n0 ≤ 4000000 := by omega
    have hzz0 : szAll N.sz x0 ≤ 4000000 := by omega
    have HL0 := Lib.hid hl0
    clear hl0
    have BD0 : (pqN (txB x0)).length ≤ 4000000 := pq_le _
    have SP := fun (w : World) (v0 : Value) (h0 : Rd w v0 7 n0 (rows N.c x0)) => specPostorderQuery x0 v0 w (Rd.fix7 h0) (by have := Rd.fix7n h0; omega) hzz0
    have IM := fun (w : World) (v0 : Value) (h0 : Rd w v0 7 n0 (rows N.c x0)) (h : TabP w ∧ ErrS w ∧ TabA w) => implPostorderQuery x0 v0 w (Rd.fix7 h0) (by have := Rd.fix7n h0; omega) hzz0 h.1 h.2.1 h.2.2
    generalize pqN (txB x0) = rv0 at SP IM BD0
    replace SP := Lib.hid SP
    replace IM := Lib.hid IM
    go_wp2_with fail
    refine (toNodeS _ n0 x0 _ (R0.out.grew g1) (by omega)).mono ?_
    rintro e w2 ⟨c0, rfl, o_c0, s2⟩
    have g2 : Grew w w2 := g1.trans s2
    have pz2 := Lib.hid s2.size
    have o_c0 := Own.of o_c0
    go_wp2_with fail
    refine (SP.out _ c0 o_c0.rd).mono ?_
    rintro e w3 ⟨rw0, rfl, o_rw0, s3⟩
    have g3 : Grew w w3 := g2.trans s3
    have pz3 := Lib.hid s3.size
    replace o_c0 := o_c0.grew s3
    have o_rw0 := Own.of o_rw0
    go_wp2_with fail
    refine (toNodeS _ n0 x0 _ (R0.out.grew g3) (by omega)).mono ?_
    rintro e w4 ⟨y0, rfl, o_y0, s4⟩
    have g4 : Grew w w4 := g3.trans s4
    have pz4 := Lib.hid s4.size
    replace o_rw0 := o_rw0.grew s4
    have o_y0 := Own.of o_y0
    go_wp2_with fail
    refine (IM.out _ y0 o_y0.rd (HT.out _ g4)).mono ?_
    rintro e w5 ⟨rg0, rfl, o_rg0, s5⟩
    have g5 : Grew w w5 := g4.trans s5
    have pz5 := Lib.hid s5.size
    replace o_rw0 := o_rw0.grew s5
    replace o_y0 := o_y0.grew s5
    have o_rg0 := Own.of o_rg0
    go_wp2_with fail
    refine (eqNodeS _ _ rv0.length rv0 _ o_rg0.rd o_rw0.rd (by omega)).mono ?_
    rintro e w6 ⟨rfl, s6⟩
    have g6 : Grew w w6 := g5.trans s6
    have pz6 := Lib.hid s6.size
    replace o_rw0 := o_rw0.grew s6
    replace o_y0 := o_y0.grew s6
    replace o_rg0 := o_rg0.grew s6
    go_wp2_with fail
    refine (toNodeS _ n0 x0 _ (R0.out.grew g6) (by omega)).mono ?_
    rintro e w7 ⟨z0, rfl, o_z0, s7⟩
    have g7 : Grew w w7 := g6.trans s7
    have pz7 := Lib.hid s7.size
    replace o_rw0 := o_rw0.grew s7
    replace o_y0 := o_y0.grew s7
    replace o_rg0 := o_rg0.grew s7
    have o_z0 := Own.of o_z0
    go_wp2_with fail
    refine (eqNodeS _ _ n0 x0 _ o_y0.rd o_z0.rd (by omega)).mono ?_
    rintro e w8 ⟨rfl, s8⟩
    have g8 : Grew w w8 := g7.trans s8
    have pz8 := Lib.hid s8.size
    replace o_rw0 := o_rw0.grew s8
    replace o_y0 := o_y0.grew s8
    replace o_rg0 := o_rg0.grew s8
    replace o_z0 := o_z0.grew s8
    go_wp2_with fail
    refine (markNodeS _ n0 x0 1 _ _ _ o_y0 (by omega) (by omega) (by omega)).mono ?_
    rintro e w9 ⟨he, om, s9⟩
    clear om
    obtain ⟨kk0, ka0, kb0, rfl⟩ : ∃ k : Int, 0 ≤ k ∧ k ≤ 28000001 ∧ e = .returned (.int .i64 k) := ⟨_, by omega, by omega, he⟩
    have pz9 := Lib.hid s9.size
    have g9 : Grew w w9 := Touch.new g8 s9 (Nat.le_trans (Nat.le_trans (pz1.out) pz2.out) pz3.out)
    replace o_rw0 := o_rw0.touch s9 (.inl (Nat.le_refl _))
    replace o_rg0 := o_rg0.touch s9 (.inr (Nat.le_refl _))
    go_wp2_with fail
    refine (eqNodeS _ _ rv0.length rv0 _ o_rg0.rd o_rw0.rd (by omega)).mono ?_
    rintro e w10 ⟨rfl, s10⟩
    have g10 : Grew w w10 := g9.trans s10
    have pz10 := Lib.hid s10.size
    replace o_rw0 := o_rw0.grew s10
    replace o_rg0 := o_rg0.grew s10
    go_wp2_with fail
    refine (markNodeS _ rv0.length rv0 (1) _ _ _ o_rg0 (by omega) (by omega) (by omega)).mono ?_
    rintro e w11 ⟨rfl, om_rg0, s11⟩
    have pz11 := Lib.hid s11.size
    have g11 : Grew w w11 := Touch.new g10 s11 (Nat.le_trans (Nat.le_trans (Nat.le_trans (pz1.out) pz2.out) pz3.out) pz4.out)
    replace o_rw0 := o_rw0.touch s11 (.inl (pz4.out))
    go_wp2_with fail
    refine (heldNodeS _ rv0.length (1) _ om_rg0.rd (by omega) (by omega) (by omega)).mono ?_
    rintro e w12 ⟨rfl, s12⟩
    have g12 : Grew w w12 := g11.trans s12
    have pz12 := Lib.hid s12.size
    replace o_rw0 := o_rw0.grew s12
    replace om_rg0 := om_rg0.grew s12
    go_wp2_with fail
    refine (toNodeS _ n0 x0 _ (R0.out.grew g12) (by omega)).mono ?_
    rintro e w13 ⟨v0, rfl, o_v0, s13⟩
    have g13 : Grew w w13 := g12.trans s13
    have pz13 := Lib.hid s13.size
    replace o_rw0 := o_rw0.grew s13
    replace om_rg0 := om_rg0.grew s13
    have o_v0 := Own.of o_v0
    go_wp2_with fail
    refine (IM.out _ v0 o_v0.rd (HT.out _ g13)).mono ?_
    rintro e w14 ⟨rh0, rfl, o_rh0, s14⟩
    have g14 : Grew w w14 := g13.trans s14
    have pz14 := Lib.hid s14.size
    replace o_rw0 := o_rw0.grew s14
    replace om_rg0 := om_rg0.grew s14
    replace o_v0 := o_v0.grew s14
    have o_rh0 := Own.of o_rh0
    go_wp2_with fail
    refine (eqNodeS _ _ rv0.length rv0 _ o_rh0.rd o_rw0.rd (by omega)).mono ?_
    rintro e w15 ⟨rfl, s15⟩
    have g15 : Grew w w15 := g14.trans s15
    have pz15 := Lib.hid s15.size
    replace o_rw0 := o_rw0.grew s15
    replace om_rg0 := om_rg0.grew s15
    replace o_v0 := o_v0.grew s15
    replace o_rh0 := o_rh0.grew s15
    go_wp2_with fail
    refine (heldNodeS _ rv0.length (1) _ om_rg0.rd (by omega) (by omega) (by omega)).mono ?_
    rintro e w16 ⟨rfl, s16⟩
    have g16 : Grew w w16 := g15.trans s16
    have pz16 := Lib.hid s16.size
    replace o_rw0 := o_rw0.grew s16
    replace om_rg0 := om_rg0.grew s16
    replace o_v0 := o_v0.grew s16
    replace o_rh0 := o_rh0.grew s16
    go_wp2
    go_ret
    exact ⟨rfl, g16⟩
end Go.Proofs.YtodbohmbdgbheaaGreatDoor.fnExactPostorderQuery
