/- Contracts: ParseValue. -/
import Derived.Test.YtodbohmbdgbheaaGreatDoorTx12
import Derived.Test.YtodbohmbdgbheaaGreatDoorTx7
namespace Go.Proofs.YtodbohmbdgbheaaGreatDoor
open Go.RowKit
set_option linter.unusedVariables false
/-- A box that holds a value and may be written. -/
def VBox (w : World) (g : Nat) (v : V) : Prop := w.cell? ⟨g, 0, none⟩ = some (.int .i64 v.kind) ∧ w.cell? ⟨g, 1, none⟩ = some (.int .i64 v.int) ∧ w.cell? ⟨g, 2, none⟩ = some (.string v.str) ∧
  w.frozen? ⟨g, 0, none⟩ = false ∧ w.frozen? ⟨g, 1, none⟩ = false ∧ w.frozen? ⟨g, 2, none⟩ = false
theorem VBox.grew {w w' : World} {g : Nat} {v : V} (h : VBox w g v) (hg : Grew w w') : VBox w' g v := by
  obtain ⟨h0, h1, h2, h3, h4, h5⟩ := h
  exact ⟨grew_cell hg h0, grew_cell hg h1, grew_cell hg h2, grew_frozen hg (lt_of_cell h0) h3, grew_frozen hg (lt_of_cell h1) h4, grew_frozen hg (lt_of_cell h2) h5⟩
theorem VBox.new (w : World) (v : V) (T : TypeId) : VBox (w.alloc (.cells #[.int .i64 v.kind, .int .i64 v.int, .string v.str] T)) w.heap.size v := by
  refine ⟨by simp, by simp, by simp, ?_, ?_, ?_⟩ <;> simp [go_sem]
theorem VBox.set {w : World} {g : Nat} {v : V} (h : VBox w g v) (u : V) : VBox (((w.setCell ⟨g, 0, none⟩ (.int .i64 u.kind)).setCell ⟨g, 1, none⟩ (.int .i64 u.int)).setCell ⟨g, 2, none⟩ (.string u.str)) g u := by
  obtain ⟨h0, h1, h2, h3, h4, h5⟩ := h
  refine ⟨?_, ?_, ?_, ?_, ?_, ?_⟩ <;> simp [go_sem, h0, h1, h2, h3, h4, h5]
theorem Grew.set3 {a w : World} {g : Nat} {u0 u1 u2 : Value} (h : Grew a w) (hg : a.heap.size ≤ g) : Grew a (((w.setCell ⟨g, 0, none⟩ u0).setCell ⟨g, 1, none⟩ u1).setCell ⟨g, 2, none⟩ u2) := ((h.setCell hg _).setCell hg _).setCell hg _
theorem pv_int {s : By} {n : Nat} (h : puN s.data.toList = some n) : pvV s = ⟨1, n, ⟨#[]⟩⟩ := by unfold pvV; rw [h]
theorem pv_dash : pvV ⟨#[45]⟩ = V.z ∧ pvB ⟨#[45]⟩ = true ∧ pvR ⟨#[45]⟩ = V.z := by
  have h : puN (⟨#[45]⟩ : By).data.toList = none := by decide
  have h1 : pvV ⟨#[45]⟩ = V.z := by unfold pvV; rw [h]; rfl
  have h2 : pvB ⟨#[45]⟩ = true := by unfold pvB; rw [h1]; exact valB_z
  refine ⟨h1, h2, ?_⟩
  unfold pvR
  rw [if_pos h2, h1]
theorem dash_ne {s : By} (h : s ≠ ⟨#[45]⟩) : (s.toList == [45]) = false := by
  have h1 := str_ne h
  have h2 : (⟨#[45]⟩ : By).toList = [45] := by rw [Lib.toList_data]
  rw [h2] at h1
  exact h1
theorem pv_str {s : By} (h : puN s.data.toList = none) (hd : s ≠ ⟨#[45]⟩) : pvV s = ⟨2, 0, s⟩ := by unfold pvV; rw [h]; exact if_neg hd
theorem pvR_yes {s : By} (h : pvB s = true) : pvR s = pvV s := by unfold pvR; rw [if_pos h]
theorem pvR_no {s : By} (h : pvB s = false) : pvR s = V.z := by unfold pvR; rw [h]; rfl
set_option maxHeartbeats 1000000 in
theorem specpIntValue (n : Int) (w : World) : Calls Tryz.prog 66 #[.int .i64 n] w fun e w' => e = .returned (V.v ⟨1, n, ⟨#[]⟩⟩) ∧ Grew w w' := by
  go_enter Tryz.func66, Tryz.ntmps66
  go_wp2
  refine bodyPost_ret (v := V.v ⟨1, n, ⟨#[]⟩⟩) (by simp [results, Tryz.results66, go_sem]) rfl ⟨rfl, ?_⟩
  repeat' (first | with_reducible exact Grew.refl _ | with_reducible refine Grew.alloc ?_ _ | with_reducible refine Grew.setCell ?_ ?_ _ | (dsimp only; omega))
set_option maxHeartbeats 1000000 in
theorem specpStringValue (s : By) (w : World) : Calls Tryz.prog 67 #[.string s] w fun e w' => e = .returned (V.v ⟨2, 0, s⟩) ∧ Grew w w' := by
  go_enter Tryz.func67, Tryz.ntmps67
  go_wp2
  refine bodyPost_ret (v := V.v ⟨2, 0, s⟩) (by simp [results, Tryz.results67, go_sem]) rfl ⟨rfl, ?_⟩
  repeat' (first | with_reducible exact Grew.refl _ | with_reducible refine Grew.alloc ?_ _ | with_reducible refine Grew.setCell ?_ ?_ _ | (dsimp only; omega))
set_option maxRecDepth 100000 in
set_option maxHeartbeats 4000000 in
theorem specParseValue (s : By) (hs : s.size ≤ 4000000) (w : World) :
    Calls Tryz.prog 56 #[.string s] w fun e w' => e = .returned (.tuple #[(pvR s).v, .bool (pvB s)]) ∧ Grew w w' := by
  have gw0 := (Grew.refl w).alloc (.cells #[.int .i64 0, .int .i64 0, .string ⟨#[]⟩] 36)
  have X0 : VBox (w.alloc (.cells #[.int .i64 0, .int .i64 0, .string ⟨#[]⟩] 36)) w.heap.size V.z := VBox.new w V.z 36
  have X0h := Lib.hid X0
  obtain ⟨x0, x1, x2, y0, y1, y2⟩ := X0
  dsimp only [V.z] at x0 x1 x2
  by_cases hd : s = ⟨#[45]⟩
  · subst hd
    have HD := Lib.hid pv_dash
    go_enter Tryz.func56, Tryz.ntmps56
    go_wp2
    refine bodyPost_ret (v := .tuple #[V.v V.z, .bool true]) (by simp [results, Tryz.results56, go_sem, V.z]) rfl ⟨by rw [HD.out.2.1, HD.out.2.2], ?_⟩
    repeat' (first | with_reducible exact Grew.refl _ | with_reducible apply Grew.alloc | with_reducible refine Grew.setCell ?_ ?_ _ | (dsimp only; omega))
  have hne := dash_ne hd
  cases hp : puN s.data.toList with
  | some n =>
    have HV := Lib.hid (pv_int hp)
    have HU := Lib.hid (pu_yes hp)
    clear hp
    obtain ⟨b, hb_⟩ : ∃ b, pvB s = b := ⟨_, rfl⟩
    have HB := Lib.hid hb_
    have HVB := Lib.hid (show valB ⟨1, n, ⟨#[]⟩⟩ = b by rw [← HV.out]; exact hb_)
    clear hb_
    cases b
    · skip
      have HR := Lib.hid (pvR_no HB.out)
      go_enter Tryz.func56, Tryz.ntmps56
      go_wp2_with (first | (go_at_call 80; refine (specParseUint s hs _).mono ?_; rintro e w1 ⟨he, g1⟩; rw [HU.out.1, HU.out.2] at he; subst he; have G1 := gw0.trans g1) | (go_at_call 67; refine (specpStringValue s _).mono ?_; rintro e w2 ⟨rfl, g2⟩) | (go_at_call 66; refine (specpIntValue n _).mono ?_; rintro e w3 ⟨rfl, g3⟩; obtain ⟨v0, v1, v2, v3, v4, v5⟩ := (VBox.new w2 ⟨2, 0, s⟩ 36).grew g3; dsimp only at v0 v1 v2) | (go_at_call 81; refine (specIsValidValue ⟨1, n, ⟨#[]⟩⟩ _ (show (⟨#[]⟩ : By).size ≤ 4000000 by decide)).mono ?_; rintro e w5 ⟨he, g5⟩; rw [HVB.out] at he; subst he; have G5 : Grew w w5 := Grew.trans (Grew.set3 (((G1.trans g2).alloc (.cells #[.int .i64 2, .int .i64 0, .string s] 36)).trans g3) (by have := (G1.trans g2).size; omega)) g5; have X5 := Lib.hid (((VBox.set ((VBox.new w2 ⟨2, 0, s⟩ 36).grew g3) ⟨1, n, ⟨#[]⟩⟩) : VBox _ _ _).grew g5); have R5 := Lib.hid (X0h.out.grew (Grew.trans ((Grew.set3 (((g1.trans g2).alloc (.cells #[.int .i64 2, .int .i64 0, .string s] 36)).trans g3) (by have := (g1.trans g2).size; omega))) g5)); obtain ⟨t0, t1, t2, t3, t4, t5⟩ := X5.out; obtain ⟨r0, r1, r2, r3, r4, r5⟩ := R5.out; dsimp only [V.z] at t0 t1 t2 r0 r1 r2))
      refine bodyPost_ret (v := .tuple #[V.v V.z, .bool false]) (by simp [results, Tryz.results56, go_sem, V.z, *]) rfl ⟨by rw [HB.out, HR.out], ?_⟩
      exact Grew.set3 G5 (Nat.le_refl _)
    · skip
      have HR := Lib.hid ((pvR_yes HB.out).trans HV.out)
      have HFV := Lib.hid (show fvB ⟨1, n, ⟨#[]⟩⟩ = s by rw [← HV.out]; exact fv_pv HB.out)
      go_enter Tryz.func56, Tryz.ntmps56
      go_wp2_with (first | (go_at_call 80; refine (specParseUint s hs _).mono ?_; rintro e w1 ⟨he, g1⟩; rw [HU.out.1, HU.out.2] at he; subst he; have G1 := gw0.trans g1) | (go_at_call 67; refine (specpStringValue s _).mono ?_; rintro e w2 ⟨rfl, g2⟩) | (go_at_call 66; refine (specpIntValue n _).mono ?_; rintro e w3 ⟨rfl, g3⟩; obtain ⟨v0, v1, v2, v3, v4, v5⟩ := (VBox.new w2 ⟨2, 0, s⟩ 36).grew g3; dsimp only at v0 v1 v2) | (go_at_call 81; refine (specIsValidValue ⟨1, n, ⟨#[]⟩⟩ _ (show (⟨#[]⟩ : By).size ≤ 4000000 by decide)).mono ?_; rintro e w5 ⟨he, g5⟩; rw [HVB.out] at he; subst he; have G5 : Grew w w5 := Grew.trans (Grew.set3 (((G1.trans g2).alloc (.cells #[.int .i64 2, .int .i64 0, .string s] 36)).trans g3) (by have := (G1.trans g2).size; omega)) g5; have X5 := Lib.hid (((VBox.set ((VBox.new w2 ⟨2, 0, s⟩ 36).grew g3) ⟨1, n, ⟨#[]⟩⟩) : VBox _ _ _).grew g5); have R5 := Lib.hid (X0h.out.grew (Grew.trans ((Grew.set3 (((g1.trans g2).alloc (.cells #[.int .i64 2, .int .i64 0, .string s] 36)).trans g3) (by have := (g1.trans g2).size; omega))) g5)); obtain ⟨t0, t1, t2, t3, t4, t5⟩ := X5.out; obtain ⟨r0, r1, r2, r3, r4, r5⟩ := R5.out; dsimp only [V.z] at t0 t1 t2 r0 r1 r2) | (go_at_call 59; refine (specFormatValue ⟨1, n, ⟨#[]⟩⟩ _ (show (⟨#[]⟩ : By).size ≤ 4000000 by decide)).mono ?_; rintro e w6 ⟨he, g6⟩; rw [HFV.out] at he; subst he; have G6 := G5.trans g6; obtain ⟨a0, a1, a2, a3, a4, a5⟩ := X5.out.grew g6; obtain ⟨q0, q1, q2, q3, q4, q5⟩ := R5.out.grew g6; dsimp only [V.z] at a0 a1 a2 q0 q1 q2))
      refine bodyPost_ret (v := .tuple #[V.v ⟨1, n, ⟨#[]⟩⟩, .bool true]) (by simp [results, Tryz.results56, go_sem, *]) rfl ⟨by rw [HB.out, HR.out], ?_⟩
      exact Grew.set3 G6 (Nat.le_refl _)
  | none =>
    have HU := Lib.hid (pu_no hp)
    have HV := Lib.hid (pv_str hp hd)
    clear hp
    obtain ⟨b, hb_⟩ : ∃ b, pvB s = b := ⟨_, rfl⟩
    have HB := Lib.hid hb_
    have HVB := Lib.hid (show valB ⟨2, 0, s⟩ = b by rw [← HV.out]; exact hb_)
    clear hb_
    cases b
    · skip
      have HR := Lib.hid (pvR_no HB.out)
      go_enter Tryz.func56, Tryz.ntmps56
      go_wp2_with (first | (go_at_call 80; refine (specParseUint s hs _).mono ?_; rintro e w1 ⟨he, g1⟩; rw [HU.out.1, HU.out.2] at he; subst he; have G1 := gw0.trans g1) | (go_at_call 67; refine (specpStringValue s _).mono ?_; rintro e w2 ⟨rfl, g2⟩) | (go_at_call 81; refine (specIsValidValue ⟨2, 0, s⟩ _ (by dsimp only; omega)).mono ?_; rintro e w5 ⟨he, g5⟩; rw [HVB.out] at he; subst he; have G5 : Grew w w5 := Grew.trans ((G1.trans g2).alloc (.cells #[.int .i64 2, .int .i64 0, .string s] 36)) g5; have X5 := Lib.hid (((VBox.new w2 ⟨2, 0, s⟩ 36) : VBox _ _ _).grew g5); have R5 := Lib.hid (X0h.out.grew (Grew.trans (((g1.trans g2).alloc (.cells #[.int .i64 2, .int .i64 0, .string s] 36))) g5)); obtain ⟨t0, t1, t2, t3, t4, t5⟩ := X5.out; obtain ⟨r0, r1, r2, r3, r4, r5⟩ := R5.out; dsimp only [V.z] at t0 t1 t2 r0 r1 r2))
      refine bodyPost_ret (v := .tuple #[V.v V.z, .bool false]) (by simp [results, Tryz.results56, go_sem, V.z, *]) rfl ⟨by rw [HB.out, HR.out], ?_⟩
      exact Grew.set3 G5 (Nat.le_refl _)
    · skip
      have HR := Lib.hid ((pvR_yes HB.out).trans HV.out)
      have HFV := Lib.hid (show fvB ⟨2, 0, s⟩ = s by rw [← HV.out]; exact fv_pv HB.out)
      go_enter Tryz.func56, Tryz.ntmps56
      go_wp2_with (first | (go_at_call 80; refine (specParseUint s hs _).mono ?_; rintro e w1 ⟨he, g1⟩; rw [HU.out.1, HU.out.2] at he; subst he; have G1 := gw0.trans g1) | (go_at_call 67; refine (specpStringValue s _).mono ?_; rintro e w2 ⟨rfl, g2⟩) | (go_at_call 81; refine (specIsValidValue ⟨2, 0, s⟩ _ (by dsimp only; omega)).mono ?_; rintro e w5 ⟨he, g5⟩; rw [HVB.out] at he; subst he; have G5 : Grew w w5 := Grew.trans ((G1.trans g2).alloc (.cells #[.int .i64 2, .int .i64 0, .string s] 36)) g5; have X5 := Lib.hid (((VBox.new w2 ⟨2, 0, s⟩ 36) : VBox _ _ _).grew g5); have R5 := Lib.hid (X0h.out.grew (Grew.trans (((g1.trans g2).alloc (.cells #[.int .i64 2, .int .i64 0, .string s] 36))) g5)); obtain ⟨t0, t1, t2, t3, t4, t5⟩ := X5.out; obtain ⟨r0, r1, r2, r3, r4, r5⟩ := R5.out; dsimp only [V.z] at t0 t1 t2 r0 r1 r2) | (go_at_call 59; refine (specFormatValue ⟨2, 0, s⟩ _ (by dsimp only; omega)).mono ?_; rintro e w6 ⟨he, g6⟩; rw [HFV.out] at he; subst he; have G6 := G5.trans g6; obtain ⟨a0, a1, a2, a3, a4, a5⟩ := X5.out.grew g6; obtain ⟨q0, q1, q2, q3, q4, q5⟩ := R5.out.grew g6; dsimp only [V.z] at a0 a1 a2 q0 q1 q2))
      refine bodyPost_ret (v := .tuple #[V.v ⟨2, 0, s⟩, .bool true]) (by simp [results, Tryz.results56, go_sem, *]) rfl ⟨by rw [HB.out, HR.out], ?_⟩
      exact Grew.set3 G6 (Nat.le_refl _)
set_option maxHeartbeats 1000000 in
theorem implpIntValue (n : Int) (w : World) : Calls Tryz.prog 77 #[.int .i64 n] w fun e w' => e = .returned (V.v ⟨1, n, ⟨#[]⟩⟩) ∧ Grew w w' := by
  go_enter Tryz.func77, Tryz.ntmps77
  go_wp2
  refine bodyPost_ret (v := V.v ⟨1, n, ⟨#[]⟩⟩) (by simp [results, Tryz.results77, go_sem]) rfl ⟨rfl, ?_⟩
  repeat' (first | with_reducible exact Grew.refl _ | with_reducible refine Grew.alloc ?_ _ | with_reducible refine Grew.setCell ?_ ?_ _ | (dsimp only; omega))
set_option maxHeartbeats 1000000 in
theorem implpStringValue (s : By) (w : World) : Calls Tryz.prog 78 #[.string s] w fun e w' => e = .returned (V.v ⟨2, 0, s⟩) ∧ Grew w w' := by
  go_enter Tryz.func78, Tryz.ntmps78
  go_wp2
  refine bodyPost_ret (v := V.v ⟨2, 0, s⟩) (by simp [results, Tryz.results78, go_sem]) rfl ⟨rfl, ?_⟩
  repeat' (first | with_reducible exact Grew.refl _ | with_reducible refine Grew.alloc ?_ _ | with_reducible refine Grew.setCell ?_ ?_ _ | (dsimp only; omega))
set_option maxRecDepth 100000 in
set_option maxHeartbeats 4000000 in
theorem implParseValue (s : By) (hs : s.size ≤ 4000000) (w : World) (ht : TabP w) (hE : ErrS w) :
    Calls Tryz.prog 52 #[.string s] w fun e w' => e = .returned (.tuple #[(pvR s).v, .bool (pvB s)]) ∧ Grew w w' := by
  have HTP := Lib.hid ht
  have HES := Lib.hid hE
  clear ht hE
  have gw0 := (Grew.refl w).alloc (.cells #[.int .i64 0, .int .i64 0, .string ⟨#[]⟩] 36)
  have X0 : VBox (w.alloc (.cells #[.int .i64 0, .int .i64 0, .string ⟨#[]⟩] 36)) w.heap.size V.z := VBox.new w V.z 36
  have X0h := Lib.hid X0
  obtain ⟨x0, x1, x2, y0, y1, y2⟩ := X0
  dsimp only [V.z] at x0 x1 x2
  cases hp : puN s.data.toList with
  | some n =>
    have HV := Lib.hid (pv_int hp)
    have HU := Lib.hid (pu_yes hp)
    clear hp
    obtain ⟨b, hb_⟩ : ∃ b, pvB s = b := ⟨_, rfl⟩
    have HB := Lib.hid hb_
    have HVB := Lib.hid (show valB ⟨1, n, ⟨#[]⟩⟩ = b by rw [← HV.out]; exact hb_)
    clear hb_
    cases b
    · skip
      have HR := Lib.hid (pvR_no HB.out)
      go_enter Tryz.func52, Tryz.ntmps52
      go_wp2_with (first | (go_at_call 76; refine (implParseUint s hs _ (HTP.out.grew gw0) (HES.out.grew gw0)).mono ?_; rintro e w1 ⟨he, g1⟩; rw [HU.out.1, HU.out.2] at he; subst he; have G1 := gw0.trans g1; obtain ⟨v0, v1, v2, v3, v4, v5⟩ := VBox.new w1 V.z 36; dsimp only [V.z] at v0 v1 v2) | (go_at_call 77; refine (implpIntValue n _).mono ?_; rintro e w3 ⟨rfl, g3⟩; obtain ⟨v0, v1, v2, v3, v4, v5⟩ := (VBox.new w1 V.z 36).grew g3; dsimp only [V.z] at v0 v1 v2) | (go_at_call 61; refine (implIsValidValue ⟨1, n, ⟨#[]⟩⟩ _ (show (⟨#[]⟩ : By).size ≤ 4000000 by decide)).mono ?_; rintro e w5 ⟨he, g5⟩; rw [HVB.out] at he; subst he; have G5 : Grew w w5 := Grew.trans (Grew.set3 ((G1.alloc (.cells #[.int .i64 0, .int .i64 0, .string ⟨#[]⟩] 36)).trans g3) (by have := G1.size; omega)) g5; have X5 := Lib.hid (((VBox.set ((VBox.new w1 V.z 36).grew g3) ⟨1, n, ⟨#[]⟩⟩) : VBox _ _ _).grew g5); have R5 := Lib.hid (X0h.out.grew (Grew.trans ((Grew.set3 ((g1.alloc (.cells #[.int .i64 0, .int .i64 0, .string ⟨#[]⟩] 36)).trans g3) (by have := g1.size; omega))) g5)); obtain ⟨t0, t1, t2, t3, t4, t5⟩ := X5.out; obtain ⟨r0, r1, r2, r3, r4, r5⟩ := R5.out; dsimp only [V.z] at t0 t1 t2 r0 r1 r2))
      refine bodyPost_ret (v := .tuple #[V.v V.z, .bool false]) (by simp [results, Tryz.results52, go_sem, V.z, *]) rfl ⟨by rw [HB.out, HR.out], ?_⟩
      exact Grew.set3 G5 (Nat.le_refl _)
    · skip
      have HR := Lib.hid ((pvR_yes HB.out).trans HV.out)
      have HFV := Lib.hid (show fvB ⟨1, n, ⟨#[]⟩⟩ = s by rw [← HV.out]; exact fv_pv HB.out)
      go_enter Tryz.func52, Tryz.ntmps52
      go_wp2_with (first | (go_at_call 76; refine (implParseUint s hs _ (HTP.out.grew gw0) (HES.out.grew gw0)).mono ?_; rintro e w1 ⟨he, g1⟩; rw [HU.out.1, HU.out.2] at he; subst he; have G1 := gw0.trans g1; obtain ⟨v0, v1, v2, v3, v4, v5⟩ := VBox.new w1 V.z 36; dsimp only [V.z] at v0 v1 v2) | (go_at_call 77; refine (implpIntValue n _).mono ?_; rintro e w3 ⟨rfl, g3⟩; obtain ⟨v0, v1, v2, v3, v4, v5⟩ := (VBox.new w1 V.z 36).grew g3; dsimp only [V.z] at v0 v1 v2) | (go_at_call 61; refine (implIsValidValue ⟨1, n, ⟨#[]⟩⟩ _ (show (⟨#[]⟩ : By).size ≤ 4000000 by decide)).mono ?_; rintro e w5 ⟨he, g5⟩; rw [HVB.out] at he; subst he; have G5 : Grew w w5 := Grew.trans (Grew.set3 ((G1.alloc (.cells #[.int .i64 0, .int .i64 0, .string ⟨#[]⟩] 36)).trans g3) (by have := G1.size; omega)) g5; have X5 := Lib.hid (((VBox.set ((VBox.new w1 V.z 36).grew g3) ⟨1, n, ⟨#[]⟩⟩) : VBox _ _ _).grew g5); have R5 := Lib.hid (X0h.out.grew (Grew.trans ((Grew.set3 ((g1.alloc (.cells #[.int .i64 0, .int .i64 0, .string ⟨#[]⟩] 36)).trans g3) (by have := g1.size; omega))) g5)); obtain ⟨t0, t1, t2, t3, t4, t5⟩ := X5.out; obtain ⟨r0, r1, r2, r3, r4, r5⟩ := R5.out; dsimp only [V.z] at t0 t1 t2 r0 r1 r2))
      refine bodyPost_ret (v := .tuple #[V.v ⟨1, n, ⟨#[]⟩⟩, .bool true]) (by simp [results, Tryz.results52, go_sem, *]) rfl ⟨by rw [HB.out, HR.out], ?_⟩
      exact Grew.set3 G5 (Nat.le_refl _)
  | none =>
    have HU := Lib.hid (pu_no hp)
    by_cases hd : s = ⟨#[45]⟩
    · subst hd
      have HD := Lib.hid pv_dash
      clear hp
      have HVZ := Lib.hid valB_z
      go_enter Tryz.func52, Tryz.ntmps52
      go_wp2_with (first | (go_at_call 76; refine (implParseUint _ hs _ (HTP.out.grew gw0) (HES.out.grew gw0)).mono ?_; rintro e w1 ⟨he, g1⟩; rw [HU.out.1, HU.out.2] at he; subst he; have G1 := gw0.trans g1; obtain ⟨v0, v1, v2, v3, v4, v5⟩ := VBox.new w1 V.z 36; dsimp only [V.z] at v0 v1 v2) | (go_at_call 61; refine (implIsValidValue V.z _ (by decide)).mono ?_; rintro e w5 ⟨he, g5⟩; rw [HVZ.out] at he; subst he; have G5 : Grew w w5 := Grew.trans (G1.alloc (.cells #[.int .i64 0, .int .i64 0, .string ⟨#[]⟩] 36)) g5; have X5 := Lib.hid ((VBox.new w1 V.z 36).grew g5); have R5 := Lib.hid (X0h.out.grew (Grew.trans (g1.alloc (.cells #[.int .i64 0, .int .i64 0, .string ⟨#[]⟩] 36)) g5)); obtain ⟨t0, t1, t2, t3, t4, t5⟩ := X5.out; obtain ⟨r0, r1, r2, r3, r4, r5⟩ := R5.out; dsimp only [V.z] at t0 t1 t2 r0 r1 r2))
      refine bodyPost_ret (v := .tuple #[V.v V.z, .bool true]) (by simp [results, Tryz.results52, go_sem, V.z, *]) rfl ⟨by rw [HD.out.2.1, HD.out.2.2], ?_⟩
      exact Grew.set3 G5 (Nat.le_refl _)
    have hne := dash_ne hd
    have HV := Lib.hid (pv_str hp hd)
    clear hp
    obtain ⟨b, hb_⟩ : ∃ b, pvB s = b := ⟨_, rfl⟩
    have HB := Lib.hid hb_
    have HVB := Lib.hid (show valB ⟨2, 0, s⟩ = b by rw [← HV.out]; exact hb_)
    clear hb_
    cases b
    · skip
      have HR := Lib.hid (pvR_no HB.out)
      go_enter Tryz.func52, Tryz.ntmps52
      go_wp2_with (first | (go_at_call 76; refine (implParseUint s hs _ (HTP.out.grew gw0) (HES.out.grew gw0)).mono ?_; rintro e w1 ⟨he, g1⟩; rw [HU.out.1, HU.out.2] at he; subst he; have G1 := gw0.trans g1; obtain ⟨v0, v1, v2, v3, v4, v5⟩ := VBox.new w1 V.z 36; dsimp only [V.z] at v0 v1 v2) | (go_at_call 78; refine (implpStringValue s _).mono ?_; rintro e w3 ⟨rfl, g3⟩; obtain ⟨v0, v1, v2, v3, v4, v5⟩ := (VBox.new w1 V.z 36).grew g3; dsimp only [V.z] at v0 v1 v2) | (go_at_call 61; refine (implIsValidValue ⟨2, 0, s⟩ _ (by dsimp only; omega)).mono ?_; rintro e w5 ⟨he, g5⟩; rw [HVB.out] at he; subst he; have G5 : Grew w w5 := Grew.trans (Grew.set3 ((G1.alloc (.cells #[.int .i64 0, .int .i64 0, .string ⟨#[]⟩] 36)).trans g3) (by have := G1.size; omega)) g5; have X5 := Lib.hid (((VBox.set ((VBox.new w1 V.z 36).grew g3) ⟨2, 0, s⟩) : VBox _ _ _).grew g5); have R5 := Lib.hid (X0h.out.grew (Grew.trans ((Grew.set3 ((g1.alloc (.cells #[.int .i64 0, .int .i64 0, .string ⟨#[]⟩] 36)).trans g3) (by have := g1.size; omega))) g5)); obtain ⟨t0, t1, t2, t3, t4, t5⟩ := X5.out; obtain ⟨r0, r1, r2, r3, r4, r5⟩ := R5.out; dsimp only [V.z] at t0 t1 t2 r0 r1 r2))
      refine bodyPost_ret (v := .tuple #[V.v V.z, .bool false]) (by simp [results, Tryz.results52, go_sem, V.z, *]) rfl ⟨by rw [HB.out, HR.out], ?_⟩
      exact Grew.set3 G5 (Nat.le_refl _)
    · skip
      have HR := Lib.hid ((pvR_yes HB.out).trans HV.out)
      have HFV := Lib.hid (show fvB ⟨2, 0, s⟩ = s by rw [← HV.out]; exact fv_pv HB.out)
      go_enter Tryz.func52, Tryz.ntmps52
      go_wp2_with (first | (go_at_call 76; refine (implParseUint s hs _ (HTP.out.grew gw0) (HES.out.grew gw0)).mono ?_; rintro e w1 ⟨he, g1⟩; rw [HU.out.1, HU.out.2] at he; subst he; have G1 := gw0.trans g1; obtain ⟨v0, v1, v2, v3, v4, v5⟩ := VBox.new w1 V.z 36; dsimp only [V.z] at v0 v1 v2) | (go_at_call 78; refine (implpStringValue s _).mono ?_; rintro e w3 ⟨rfl, g3⟩; obtain ⟨v0, v1, v2, v3, v4, v5⟩ := (VBox.new w1 V.z 36).grew g3; dsimp only [V.z] at v0 v1 v2) | (go_at_call 61; refine (implIsValidValue ⟨2, 0, s⟩ _ (by dsimp only; omega)).mono ?_; rintro e w5 ⟨he, g5⟩; rw [HVB.out] at he; subst he; have G5 : Grew w w5 := Grew.trans (Grew.set3 ((G1.alloc (.cells #[.int .i64 0, .int .i64 0, .string ⟨#[]⟩] 36)).trans g3) (by have := G1.size; omega)) g5; have X5 := Lib.hid (((VBox.set ((VBox.new w1 V.z 36).grew g3) ⟨2, 0, s⟩) : VBox _ _ _).grew g5); have R5 := Lib.hid (X0h.out.grew (Grew.trans ((Grew.set3 ((g1.alloc (.cells #[.int .i64 0, .int .i64 0, .string ⟨#[]⟩] 36)).trans g3) (by have := g1.size; omega))) g5)); obtain ⟨t0, t1, t2, t3, t4, t5⟩ := X5.out; obtain ⟨r0, r1, r2, r3, r4, r5⟩ := R5.out; dsimp only [V.z] at t0 t1 t2 r0 r1 r2))
      refine bodyPost_ret (v := .tuple #[V.v ⟨2, 0, s⟩, .bool true]) (by simp [results, Tryz.results52, go_sem, *]) rfl ⟨by rw [HB.out, HR.out], ?_⟩
      exact Grew.set3 G5 (Nat.le_refl _)
end Go.Proofs.YtodbohmbdgbheaaGreatDoor
