/- The walk of laws.FnExactParseQuery, out of the contracts of the two functions. -/
import Derived.Test.YtodbohmbdgbheaaDoorTx23
import Derived.Test.YtodbohmbdgbheaaDoorTx24
import Derived.Test.YtodbohmbdgbheaaDoorS
import Derived.Test.YtodbohmbdgbheaaDoorH2
import Derived.Test.YtodbohmbdgbheaaDoorH3
import Derived.Test.YtodbohmbdgbheaaDoorO
namespace Go.Proofs.YtodbohmbdgbheaaDoor.fnExactParseQuery
open Go.RowKit
set_option linter.unusedVariables false
set_option maxRecDepth 100000 in
set_option maxHeartbeats 1000000 in
theorem walkLaw (w : World) (a0 : ByteArray) (h0 : a0.size ≤ maxLen) (ht : TabP w) (hE : ErrS w) (hA : TabA w) :
    Calls Tryd.prog 5 #[.string a0] w fun e w' => e = .returned (.bool true) ∧ Grew w w' := by
  have HT := Lib.hid (fun (u : World) (g : Grew w u) => (⟨ht.grew g, hE.grew g, hA.grew g⟩ : TabP u ∧ ErrS u ∧ TabA u))
  clear ht hE hA
  unfold maxLen at h0
  by_cases hbig0 : (1048576 : Int) < (a0.size : Int)
  · go_enter Tryd.func5, Tryd.ntmps5
    go_wp2
    go_ret
    exact ⟨rfl, by repeat' (first | with_reducible exact Grew.refl _ | with_reducible apply Grew.alloc)⟩
  · have hsm0 : (a0.size : Int) ≤ 4000000 := by omega
    go_enter Tryd.func5, Tryd.ntmps5
    have BD0 : (pqN a0).length ≤ 4000000 := pq_le a0
    have SP := fun (w : World)  => specParseQuery a0 (by omega) w
    have IM := fun (w : World) (h : TabP w ∧ ErrS w ∧ TabA w) => implParseQuery a0 (by omega) w h.1 h.2.1 h.2.2
    generalize pqN a0 = rv0 at SP IM BD0
    generalize pqB a0 = rv1 at SP IM
    replace SP := Lib.hid SP
    replace IM := Lib.hid IM
    go_wp2_with fail
    refine (SP.out _ ).mono ?_
    rintro e w1 ⟨rw0, rfl, o_rw0, s1⟩
    have g1 : Grew w w1 := (Grew.refl w).trans s1
    have pz1 := Lib.hid s1.size
    have o_rw0 := Own.of o_rw0
    go_wp2_with fail
    refine (IM.out _ (HT.out _ g1)).mono ?_
    rintro e w2 ⟨rg0, rfl, o_rg0, s2⟩
    have g2 : Grew w w2 := g1.trans s2
    have pz2 := Lib.hid s2.size
    replace o_rw0 := o_rw0.grew s2
    have o_rg0 := Own.of o_rg0
    go_wp2_with fail
    refine (eqNodeS _ _ rv0.length rv0 _ o_rg0.rd o_rw0.rd (by omega)).mono ?_
    rintro e w3 ⟨rfl, s3⟩
    have g3 : Grew w w3 := g2.trans s3
    have pz3 := Lib.hid s3.size
    replace o_rw0 := o_rw0.grew s3
    replace o_rg0 := o_rg0.grew s3
    go_wp2_with fail
    refine (markNodeS _ rv0.length rv0 (1) _ _ _ o_rg0 (by omega) (by omega) (by omega)).mono ?_
    rintro e w4 ⟨rfl, om_rg0, s4⟩
    have pz4 := Lib.hid s4.size
    have g4 : Grew w w4 := Touch.new g3 s4 (pz1.out)
    replace o_rw0 := o_rw0.touch s4 (.inl (Nat.le_refl _))
    go_wp2_with fail
    refine (heldNodeS _ rv0.length (1) _ om_rg0.rd (by omega) (by omega) (by omega)).mono ?_
    rintro e w5 ⟨rfl, s5⟩
    have g5 : Grew w w5 := g4.trans s5
    have pz5 := Lib.hid s5.size
    replace o_rw0 := o_rw0.grew s5
    replace om_rg0 := om_rg0.grew s5
    go_wp2_with fail
    refine (IM.out _ (HT.out _ g5)).mono ?_
    rintro e w6 ⟨rh0, rfl, o_rh0, s6⟩
    have g6 : Grew w w6 := g5.trans s6
    have pz6 := Lib.hid s6.size
    replace o_rw0 := o_rw0.grew s6
    replace om_rg0 := om_rg0.grew s6
    have o_rh0 := Own.of o_rh0
    go_wp2_with fail
    refine (eqNodeS _ _ rv0.length rv0 _ o_rh0.rd o_rw0.rd (by omega)).mono ?_
    rintro e w7 ⟨rfl, s7⟩
    have g7 : Grew w w7 := g6.trans s7
    have pz7 := Lib.hid s7.size
    replace o_rw0 := o_rw0.grew s7
    replace om_rg0 := om_rg0.grew s7
    replace o_rh0 := o_rh0.grew s7
    go_wp2_with fail
    refine (heldNodeS _ rv0.length (1) _ om_rg0.rd (by omega) (by omega) (by omega)).mono ?_
    rintro e w8 ⟨rfl, s8⟩
    have g8 : Grew w w8 := g7.trans s8
    have pz8 := Lib.hid s8.size
    replace o_rw0 := o_rw0.grew s8
    replace om_rg0 := om_rg0.grew s8
    replace o_rh0 := o_rh0.grew s8
    go_wp2
    go_ret
    exact ⟨rfl, g8⟩
end Go.Proofs.YtodbohmbdgbheaaDoor.fnExactParseQuery
