/- Contracts: FormatValue. -/
import Derived.Test.YtodbohmbdgbheaaGreatDoorTx6
import Derived.Test.YtodbohmbdgbheaaGreatDoorC2
namespace Go.Proofs.YtodbohmbdgbheaaGreatDoor
open Go.RowKit
set_option linter.unusedVariables false
theorem val_kinds {v : V} (h : valB v = true) : v.kind = 0 ∨ (v.kind = 1 ∧ ∃ n : Nat, v.int = n ∧ n ≤ 999) ∨ v.kind = 2 := by
  unfold valB at h
  simp only [beq_iff_eq] at h
  by_cases h0 : v.kind = 0
  · exact .inl h0
  rw [if_neg h0] at h
  by_cases h1 : v.kind = 1
  · rw [if_pos h1] at h
    simp only [Bool.and_eq_true, inB, decide_eq_true_eq] at h
    exact .inr (.inl ⟨h1, v.int.toNat, by omega, by omega⟩)
  rw [if_neg h1] at h
  by_cases h2 : v.kind = 2
  · exact .inr (.inr h2)
  rw [if_neg h2] at h
  cases h
set_option maxHeartbeats 2000000 in
theorem specFormatValue (v : V) (w : World) (hs : v.str.size ≤ 4000000) :
    Calls Tryz.prog 59 #[v.v] w fun e w' => e = .returned (.string (fvB v)) ∧ Grew w w' := by
  obtain ⟨b, hb_⟩ : ∃ b, valB v = b := ⟨_, rfl⟩
  have HB := Lib.hid hb_
  have HF := Lib.hid (show fvB v = if !b then ⟨#[63]⟩ else if v.kind == 1 then ⟨(Lib.itoa v.int).toArray⟩ else if v.kind == 2 then v.str else ⟨#[45]⟩ by rw [← hb_]; rfl)
  clear hb_
  cases b with
  | false =>
    go_enter Tryz.func59, Tryz.ntmps59
    go_wp2_with (go_at_call 81; refine (specIsValidValue v _ hs).mono ?_; rintro e w1 ⟨he, g1⟩; rw [HB.out] at he; subst he)
    go_ret
    exact ⟨ret_str HF.out.symm, ((Grew.refl _).alloc _).trans g1⟩
  | true =>
    obtain ⟨k, n, s⟩ := v
    have hk := val_kinds HB.out
    simp only at hk
    rcases hk with rfl | ⟨rfl, m, rfl, hm⟩ | rfl
    · go_enter Tryz.func59, Tryz.ntmps59
      go_wp2_with (first | (go_at_call 81; refine (specIsValidValue _ _ hs).mono ?_; rintro e w1 ⟨he, g1⟩; rw [HB.out] at he; subst he; have k0 := grew_cell g1 (a := ⟨w.heap.size, 0, none⟩) (u := .int .i64 0) (by simp); have k1 := grew_cell g1 (a := ⟨w.heap.size, 1, none⟩) (u := .int .i64 n) (by simp); have k2 := grew_cell g1 (a := ⟨w.heap.size, 2, none⟩) (u := .string s) (by simp)))
      go_ret
      exact ⟨ret_str (by rw [HF.out]; rfl), ((Grew.refl _).alloc _).trans g1⟩
    · go_enter Tryz.func59, Tryz.ntmps59
      go_wp2_with (first | (go_at_call 81; refine (specIsValidValue _ _ hs).mono ?_; rintro e w1 ⟨he, g1⟩; rw [HB.out] at he; subst he; have k0 := grew_cell g1 (a := ⟨w.heap.size, 0, none⟩) (u := .int .i64 1) (by simp); have k1 := grew_cell g1 (a := ⟨w.heap.size, 1, none⟩) (u := .int .i64 m) (by simp); have k2 := grew_cell g1 (a := ⟨w.heap.size, 2, none⟩) (u := .string s) (by simp)) | (go_at_call 84; refine (specFormatInt m (by omega) _).mono ?_; rintro e w2 ⟨rfl, g2⟩))
      go_ret
      exact ⟨ret_str (by rw [HF.out]; show _ = (⟨(Lib.itoa (m : Int)).toArray⟩ : ByteArray); rw [itoa_nat]), ((Grew.refl _).alloc _).trans (g1.trans g2)⟩
    · go_enter Tryz.func59, Tryz.ntmps59
      go_wp2_with (first | (go_at_call 81; refine (specIsValidValue _ _ hs).mono ?_; rintro e w1 ⟨he, g1⟩; rw [HB.out] at he; subst he; have k0 := grew_cell g1 (a := ⟨w.heap.size, 0, none⟩) (u := .int .i64 2) (by simp); have k1 := grew_cell g1 (a := ⟨w.heap.size, 1, none⟩) (u := .int .i64 n) (by simp); have k2 := grew_cell g1 (a := ⟨w.heap.size, 2, none⟩) (u := .string s) (by simp)))
      go_ret
      exact ⟨ret_str (by rw [HF.out]; rfl), ((Grew.refl _).alloc _).trans g1⟩
set_option maxHeartbeats 2000000 in
theorem implFormatValue (v : V) (w : World) (hs : v.str.size ≤ 4000000) (ht : TabP w) :
    Calls Tryz.prog 48 #[v.v] w fun e w' => e = .returned (.string (fvB v)) ∧ Grew w w' := by
  obtain ⟨b, hb_⟩ : ∃ b, valB v = b := ⟨_, rfl⟩
  have HB := Lib.hid hb_
  have HF := Lib.hid (show fvB v = if !b then ⟨#[63]⟩ else if v.kind == 1 then ⟨(Lib.itoa v.int).toArray⟩ else if v.kind == 2 then v.str else ⟨#[45]⟩ by rw [← hb_]; rfl)
  clear hb_
  have HT := Lib.hid ht
  clear ht
  cases b with
  | false =>
    go_enter Tryz.func48, Tryz.ntmps48
    go_wp2_with (go_at_call 61; refine (implIsValidValue v _ hs).mono ?_; rintro e w1 ⟨he, g1⟩; rw [HB.out] at he; subst he)
    go_ret
    exact ⟨ret_str HF.out.symm, ((Grew.refl _).alloc _).trans g1⟩
  | true =>
    obtain ⟨k, n, s⟩ := v
    have hk := val_kinds HB.out
    simp only at hk
    rcases hk with rfl | ⟨rfl, m, rfl, hm⟩ | rfl
    · go_enter Tryz.func48, Tryz.ntmps48
      go_wp2_with (first | (go_at_call 61; refine (implIsValidValue _ _ hs).mono ?_; rintro e w1 ⟨he, g1⟩; rw [HB.out] at he; subst he; have k0 := grew_cell g1 (a := ⟨w.heap.size, 0, none⟩) (u := .int .i64 0) (by simp); have k1 := grew_cell g1 (a := ⟨w.heap.size, 1, none⟩) (u := .int .i64 n) (by simp); have k2 := grew_cell g1 (a := ⟨w.heap.size, 2, none⟩) (u := .string s) (by simp)))
      go_ret
      exact ⟨ret_str (by rw [HF.out]; rfl), ((Grew.refl _).alloc _).trans g1⟩
    · go_enter Tryz.func48, Tryz.ntmps48
      go_wp2_with (first | (go_at_call 61; refine (implIsValidValue _ _ hs).mono ?_; rintro e w1 ⟨he, g1⟩; rw [HB.out] at he; subst he; have k0 := grew_cell g1 (a := ⟨w.heap.size, 0, none⟩) (u := .int .i64 1) (by simp); have k1 := grew_cell g1 (a := ⟨w.heap.size, 1, none⟩) (u := .int .i64 m) (by simp); have k2 := grew_cell g1 (a := ⟨w.heap.size, 2, none⟩) (u := .string s) (by simp)) | (go_at_call 70; refine (implFormatInt m (by omega) _ ((HT.out.grew ((Grew.refl _).alloc _)).grew g1)).mono ?_; rintro e w2 ⟨rfl, g2⟩))
      go_ret
      exact ⟨ret_str (by rw [HF.out]; show _ = (⟨(Lib.itoa (m : Int)).toArray⟩ : ByteArray); rw [itoa_nat]), ((Grew.refl _).alloc _).trans (g1.trans g2)⟩
    · go_enter Tryz.func48, Tryz.ntmps48
      go_wp2_with (first | (go_at_call 61; refine (implIsValidValue _ _ hs).mono ?_; rintro e w1 ⟨he, g1⟩; rw [HB.out] at he; subst he; have k0 := grew_cell g1 (a := ⟨w.heap.size, 0, none⟩) (u := .int .i64 2) (by simp); have k1 := grew_cell g1 (a := ⟨w.heap.size, 1, none⟩) (u := .int .i64 n) (by simp); have k2 := grew_cell g1 (a := ⟨w.heap.size, 2, none⟩) (u := .string s) (by simp)))
      go_ret
      exact ⟨ret_str (by rw [HF.out]; rfl), ((Grew.refl _).alloc _).trans g1⟩
end Go.Proofs.YtodbohmbdgbheaaGreatDoor
