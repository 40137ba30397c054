/- Equality of results and of directories. -/
import Derived.Test.YtodbohmbdgbheaaGreatDoorE1
import Derived.Test.YtodbohmbdgbheaaGreatDoorH4
namespace Go.Proofs.YtodbohmbdgbheaaGreatDoor
open Go.RowKit
set_option linter.unusedVariables false
theorem held4 {wr w' w1 : World} {a b c d : Addr} {u v x y : Value} (h : w'.cell? a = some u ∧ w'.cell? b = some v ∧ w'.cell? c = some x ∧ w'.cell? d = some y ∧ Grew wr w') (hb : Grew w' w1) : w1.cell? a = some u ∧ w1.cell? b = some v ∧ w1.cell? c = some x ∧ w1.cell? d = some y ∧ Grew wr w1 :=
  ⟨grew_cell hb h.1, grew_cell hb h.2.1, grew_cell hb h.2.2.1, grew_cell hb h.2.2.2.1, h.2.2.2.2.trans hb⟩
theorem last4 {p q r s t : Prop} (h : p ∧ q ∧ r ∧ s ∧ t) : t := h.2.2.2.2
theorem All2.len {α β : Type} {O : α → β → Prop} {xs : List α} {ps : List β} (h : All2 O xs ps) : xs.length = ps.length := h.1
noncomputable def sameRs (x y : Rs) : Bool := x.name.toList == y.name.toList && sameB x.ids y.ids
noncomputable def sameDr (x y : Dr) : Bool := x.name.toList == y.name.toList && eqL eqN x.query y.query
end Go.Proofs.YtodbohmbdgbheaaGreatDoor
