/- Contracts: PostorderQuery. -/
import Derived.Test.YtodbohmbdgbheaaGreatDoorTx23
import Derived.Test.YtodbohmbdgbheaaGreatDoorTx10
namespace Go.Proofs.YtodbohmbdgbheaaGreatDoor
open Go.RowKit
set_option linter.unusedVariables false
/-- A query's text. -/
noncomputable def txB (q : List N) : By := ⟨(txq q).toArray⟩
theorem txB_sz (q : List N) : (txB q).size ≤ 133 := by
  show (txq q).toArray.size ≤ 133
  rw [List.size_toArray]
  cases h : qryB q with
  | false => rw [txq_no h]; exact Nat.zero_le _
  | true => obtain ⟨_, _, _, _, _, _, _, _, _, h⟩ := trip2 h; exact h
set_option maxRecDepth 100000 in
set_option maxHeartbeats 1000000 in
theorem specPostorderQuery (q : List N) (va : Value) (w : World) (hq : Rd w va 7 q.length (rows N.c q)) (hql : q.length ≤ 4000000) (hz : szAll N.sz q ≤ 4000000) :
    Calls Tryz.prog 17 #[va] w fun e w' => ∃ v, e = .returned v ∧ w'.ownsRow w.heap.size 38 7 v (pqN (txB q)).length (rows N.c (pqN (txB q))) ∧ Grew w w' := by
  have HQ := Lib.hid hq
  have hs := txB_sz q
  have HF := Lib.hid (specFormatQuery q va w hq hql hz)
  clear hq hz
  obtain ⟨T, hT_⟩ : ∃ y, txB q = y := ⟨_, rfl⟩
  have HT := Lib.hid (show (⟨(txq q).toArray⟩ : By) = T from hT_)
  rw [hT_] at hs ⊢
  clear hT_
  go_enter Tryz.func17, Tryz.ntmps17
  go_wp2_with fail
  refine HF.out.mono ?_
  rintro e w1 ⟨he, g1⟩
  rw [HT.out] at he
  subst he
  go_wp2_with fail
  refine (specParseQuery T (by omega) _).mono ?_
  rintro e w2 ⟨v, rfl, o2, g2⟩
  obtain ⟨a, c, rfl⟩ := own_slice o2
  go_wp2
  go_ret
  exact ⟨_, rfl, ownsRow_base o2 g1.size, g1.trans g2⟩
set_option maxRecDepth 100000 in
set_option maxHeartbeats 1000000 in
theorem implPostorderQuery (q : List N) (va : Value) (w : World) (hq : Rd w va 7 q.length (rows N.c q)) (hql : q.length ≤ 4000000) (hz : szAll N.sz q ≤ 4000000) (ht : TabP w) (hE : ErrS w) (hA : TabA w) :
    Calls Tryz.prog 12 #[va] w fun e w' => ∃ v, e = .returned v ∧ w'.ownsRow w.heap.size 38 7 v (pqN (txB q)).length (rows N.c (pqN (txB q))) ∧ Grew w w' := by
  have HQ := Lib.hid hq
  have hs := txB_sz q
  have HF := Lib.hid (implFormatQuery q va w hq hql hz ht)
  have HW := Lib.hid (fun (u : World) (g : Grew w u) => (⟨ht.grew g, hE.grew g, hA.grew g⟩ : TabP u ∧ ErrS u ∧ TabA u))
  clear hq hz ht hE hA
  obtain ⟨T, hT_⟩ : ∃ y, txB q = y := ⟨_, rfl⟩
  have HT := Lib.hid (show (⟨(txq q).toArray⟩ : By) = T from hT_)
  rw [hT_] at hs ⊢
  clear hT_
  go_enter Tryz.func12, Tryz.ntmps12
  go_wp2_with fail
  refine HF.out.mono ?_
  rintro e w1 ⟨he, g1⟩
  rw [HT.out] at he
  subst he
  go_wp2_with fail
  refine (implParseQuery T (by omega) _ (HW.out _ g1).1 (HW.out _ g1).2.1 (HW.out _ g1).2.2).mono ?_
  rintro e w2 ⟨v, rfl, o2, g2⟩
  obtain ⟨a, c, rfl⟩ := own_slice o2
  go_wp2
  go_ret
  exact ⟨_, rfl, ownsRow_base o2 g1.size, g1.trans g2⟩
end Go.Proofs.YtodbohmbdgbheaaGreatDoor
