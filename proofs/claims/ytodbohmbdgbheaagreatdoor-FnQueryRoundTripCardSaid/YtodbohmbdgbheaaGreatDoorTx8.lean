/- Contracts: the text of a query's node (spec). -/
import Derived.Test.YtodbohmbdgbheaaGreatDoorTx7
import Derived.Test.YtodbohmbdgbheaaGreatDoorTx9
import Derived.Test.YtodbohmbdgbheaaGreatDoorC5
import Derived.Test.YtodbohmbdgbheaaGreatDoorG
namespace Go.Proofs.YtodbohmbdgbheaaGreatDoor
open Go.RowKit
set_option linter.unusedVariables false
set_option maxRecDepth 100000 in
set_option maxHeartbeats 4000000 in
theorem specL10Text (q : List N) (va : Value) (W0 : World) (hq : Rd W0 va 7 q.length (rows N.c q)) (hv : qryB q = true) :
    ∀ (d i : Nat) (w : World), d ≤ 9 → Grew W0 w → i < d → i < q.length → Calls Tryz.prog 36 #[va, .int .i64 i] w fun e w' => e = .returned (.string (txA q d i)) ∧ Grew w w' := by
  have HV := Lib.hid hv
  obtain ⟨a, ca, rfl, hca, hra⟩ := hq
  clear hv
  intro d
  induction d with
  | zero => intro i w _ _ h; omega
  | succ d ih =>
    intro i w hd9 hg hid hlt
    have IH := Lib.hid ih
    clear ih
    obtain ⟨b1, o1, x, rfl, hxk, c0, c1, c2, c3, c4, c5, c6⟩ := (hra.grew hg).getN hlt
    have HN := Lib.hid (nod_cases (by have := txq_len HV.out; omega) (qry_vf HV.out i x (Nat.zero_le _) hxk.out))
    have HM := Lib.hid (txA_at (d := d) HV.out hxk.out (by omega))
    have HL := Lib.hid (fun (j : Nat) (h1 : j < d) (h2 : j < q.length) => txA_len HV.out (by omega : d ≤ 9) h2 h1)
    have hns := nod_sizes HV.out hxk.out
    obtain ⟨hnm, hvs, hfs⟩ := hns
    obtain ⟨op, l, r, nm, v⟩ := x
    simp only at c0 c1 c2 c3 c4 c5 c6 hnm hvs hfs
    have HN2 := HN.out
    simp only at HN2
    simp only at HM
    obtain ⟨fv, hfv_⟩ : ∃ y, fvB v = y := ⟨_, rfl⟩
    have HFV := Lib.hid hfv_
    rw [hfv_] at HM hfs
    clear hfv_
    have hcs : ∃ m : Nat, op = m ∧ 1 ≤ m ∧ m ≤ 9 := by
      rcases HN2 with h | ⟨h, _⟩ | ⟨h, _⟩ | ⟨h, _⟩ | ⟨h, _⟩ | ⟨h, _⟩ | ⟨h, _⟩
      · exact ⟨1, h, by decide, by decide⟩
      · exact ⟨2, h, by decide, by decide⟩
      · exact ⟨3, h, by decide, by decide⟩
      · exact ⟨4, h, by decide, by decide⟩
      · exact ⟨5, h, by decide, by decide⟩
      · rcases h with h | h
        · exact ⟨6, h, by decide, by decide⟩
        · exact ⟨7, h, by decide, by decide⟩
      · rcases h with h | h
        · exact ⟨8, h, by decide, by decide⟩
        · exact ⟨9, h, by decide, by decide⟩
    clear HN2
    obtain ⟨m, rfl, hm1, hm9⟩ := hcs
    obtain ⟨K, hK_⟩ : ∃ y, kw (m : Nat) = y := ⟨_, rfl⟩
    have HK := Lib.hid hK_
    have hks : K.size ≤ 6 := by rw [← hK_]; exact kw_size hm1 hm9
    rw [hK_] at HM
    clear hK_
    have hc9 : m = 1 ∨ m = 2 ∨ m = 3 ∨ m = 4 ∨ m = 5 ∨ m = 6 ∨ m = 7 ∨ m = 8 ∨ m = 9 := by omega
    clear hm1 hm9
    have hal := (Grew.refl w).alloc (.cells #[.int .i64 m, .int .i64 l, .int .i64 r, .string nm, .int .i64 v.kind, .int .i64 v.int, .string v.str] 38)
    rcases hc9 with rfl | rfl | rfl | rfl | rfl | rfl | rfl | rfl | rfl
    · go_enter Tryz.func36, Tryz.ntmps36
      go_wp2_with (first | (go_at_call 16; refine (specOpKeyword _ _).mono ?_; rintro e w1 ⟨he, g1⟩; rw [show kw (1 : Int) = K from HK.out] at he; subst he; have k0 := grew_cell g1 (a := ⟨w.heap.size, 0, none⟩) (u := .int .i64 1) (by simp); have k1 := grew_cell g1 (a := ⟨w.heap.size, 1, none⟩) (u := .int .i64 l) (by simp); have k2 := grew_cell g1 (a := ⟨w.heap.size, 2, none⟩) (u := .int .i64 r) (by simp); have k3 := grew_cell g1 (a := ⟨w.heap.size, 3, none⟩) (u := .string nm) (by simp); have k4 := grew_cell g1 (a := ⟨w.heap.size, 4, none⟩) (u := .int .i64 v.kind) (by simp); have k5 := grew_cell g1 (a := ⟨w.heap.size, 5, none⟩) (u := .int .i64 v.int) (by simp); have k6 := grew_cell g1 (a := ⟨w.heap.size, 6, none⟩) (u := .string v.str) (by simp)))
      go_ret
      exact ⟨ret_str HM.out.symm, hal.trans g1⟩
    · go_enter Tryz.func36, Tryz.ntmps36
      go_wp2_with (first | (go_at_call 16; refine (specOpKeyword _ _).mono ?_; rintro e w1 ⟨he, g1⟩; rw [show kw (2 : Int) = K from HK.out] at he; subst he; have k0 := grew_cell g1 (a := ⟨w.heap.size, 0, none⟩) (u := .int .i64 2) (by simp); have k1 := grew_cell g1 (a := ⟨w.heap.size, 1, none⟩) (u := .int .i64 l) (by simp); have k2 := grew_cell g1 (a := ⟨w.heap.size, 2, none⟩) (u := .int .i64 r) (by simp); have k3 := grew_cell g1 (a := ⟨w.heap.size, 3, none⟩) (u := .string nm) (by simp); have k4 := grew_cell g1 (a := ⟨w.heap.size, 4, none⟩) (u := .int .i64 v.kind) (by simp); have k5 := grew_cell g1 (a := ⟨w.heap.size, 5, none⟩) (u := .int .i64 v.int) (by simp); have k6 := grew_cell g1 (a := ⟨w.heap.size, 6, none⟩) (u := .string v.str) (by simp)))
      go_ret
      exact ⟨ret_str HM.out.symm, hal.trans g1⟩
    · go_enter Tryz.func36, Tryz.ntmps36
      go_wp2_with (first | (go_at_call 16; refine (specOpKeyword _ _).mono ?_; rintro e w1 ⟨he, g1⟩; rw [show kw (3 : Int) = K from HK.out] at he; subst he; have k0 := grew_cell g1 (a := ⟨w.heap.size, 0, none⟩) (u := .int .i64 3) (by simp); have k1 := grew_cell g1 (a := ⟨w.heap.size, 1, none⟩) (u := .int .i64 l) (by simp); have k2 := grew_cell g1 (a := ⟨w.heap.size, 2, none⟩) (u := .int .i64 r) (by simp); have k3 := grew_cell g1 (a := ⟨w.heap.size, 3, none⟩) (u := .string nm) (by simp); have k4 := grew_cell g1 (a := ⟨w.heap.size, 4, none⟩) (u := .int .i64 v.kind) (by simp); have k5 := grew_cell g1 (a := ⟨w.heap.size, 5, none⟩) (u := .int .i64 v.int) (by simp); have k6 := grew_cell g1 (a := ⟨w.heap.size, 6, none⟩) (u := .string v.str) (by simp)))
      refine wp_region_noPanic ?_
      refine wp_region_held_drew (S := (fun w' => (w'.cell? ⟨w.heap.size, 3, none⟩ = some (.string nm) ∧ w'.cell? ⟨w.heap.size, 4, none⟩ = some (.int .i64 v.kind) ∧ w'.cell? ⟨w.heap.size, 5, none⟩ = some (.int .i64 v.int) ∧ w'.cell? ⟨w.heap.size, 6, none⟩ = some (.string v.str) ∧ Grew w1 w'))) (by kernel_rfl) ?hq1S ?hq1r
      case hq1S => exact ⟨grew_cell (Grew.refl _).drew k3, grew_cell (Grew.refl _).drew k4, grew_cell (Grew.refl _).drew k5, grew_cell (Grew.refl _).drew k6, (Grew.refl _).drew⟩
      case hq1r =>
        intro HS
        first | refine sk' 0 HS ?_ | refine tk' 0 HS ?_
        refine tk' 1 HS ?_ (hy := by (intro w' hSw; (try dsimp only at hSw); go_simp; rw [if_neg (by omega)] <;> (with_reducible rfl)))
        first | refine sk' 2 HS ?_ | refine tk' 2 HS ?_
        first | refine sk' 3 HS ?_ | refine tk' 3 HS ?_
        refine tk' 4 HS ?_ (hy := by (intro w' hSw; (try dsimp only at hSw); go_simp; rw [if_neg (by omega)] <;> (with_reducible rfl)))
        refine tk' 5 HS ?_ (hy := by (intro w' hSw; (try dsimp only at hSw); go_simp; rw [if_neg (by omega)] <;> (with_reducible rfl)))
        first | refine sk' 6 HS ?_ | refine tk' 6 HS ?_
        first | refine sk' 7 HS ?_ | refine tk' 7 HS ?_
        refine cl' 8 fun K0 hK0 => ?_
        rw [if_pos (by rfl)]
        go_simp
        go_at_call 59
        refine (specFormatValue v _ hvs).mono ?_
        rintro e w2 ⟨he, hb⟩
        rw [HFV.out] at he
        subst he
        refine hK0.out _ _ ?sq1_8 ?rq1_8
        case sq1_8 => exact ⟨grew_cell hb HS.1, grew_cell hb HS.2.1, grew_cell hb HS.2.2.1, grew_cell hb HS.2.2.2.1, HS.2.2.2.2.trans hb⟩
        case rq1_8 =>
          clear HS hK0 K0; intro HS
          try simp only [Act.put, lpa, lpb, lpc]
          refine tk' 9 HS ?_ (hy := by (intro w' hSw; (try dsimp only at hSw); go_simp; rw [if_neg (by omega)] <;> (with_reducible rfl)))
          first | refine sk' 10 HS ?_ | refine tk' 10 HS ?_
          refine wpAnyH_done (by kernel_rfl) ?_ _
          refine NoPanic.normal ?_
          go_wp2
          go_ret
          exact ⟨ret_str HM.out.symm, (hal.trans g1).trans HS.2.2.2.2⟩
    · go_enter Tryz.func36, Tryz.ntmps36
      go_wp2_with (first | (go_at_call 16; refine (specOpKeyword _ _).mono ?_; rintro e w1 ⟨he, g1⟩; rw [show kw (4 : Int) = K from HK.out] at he; subst he; have k0 := grew_cell g1 (a := ⟨w.heap.size, 0, none⟩) (u := .int .i64 4) (by simp); have k1 := grew_cell g1 (a := ⟨w.heap.size, 1, none⟩) (u := .int .i64 l) (by simp); have k2 := grew_cell g1 (a := ⟨w.heap.size, 2, none⟩) (u := .int .i64 r) (by simp); have k3 := grew_cell g1 (a := ⟨w.heap.size, 3, none⟩) (u := .string nm) (by simp); have k4 := grew_cell g1 (a := ⟨w.heap.size, 4, none⟩) (u := .int .i64 v.kind) (by simp); have k5 := grew_cell g1 (a := ⟨w.heap.size, 5, none⟩) (u := .int .i64 v.int) (by simp); have k6 := grew_cell g1 (a := ⟨w.heap.size, 6, none⟩) (u := .string v.str) (by simp)))
      refine wp_region_noPanic ?_
      refine wp_region_held_drew (S := (fun w' => (w'.cell? ⟨w.heap.size, 3, none⟩ = some (.string nm) ∧ w'.cell? ⟨w.heap.size, 4, none⟩ = some (.int .i64 v.kind) ∧ w'.cell? ⟨w.heap.size, 5, none⟩ = some (.int .i64 v.int) ∧ w'.cell? ⟨w.heap.size, 6, none⟩ = some (.string v.str) ∧ Grew w1 w'))) (by kernel_rfl) ?hq2S ?hq2r
      case hq2S => exact ⟨grew_cell (Grew.refl _).drew k3, grew_cell (Grew.refl _).drew k4, grew_cell (Grew.refl _).drew k5, grew_cell (Grew.refl _).drew k6, (Grew.refl _).drew⟩
      case hq2r =>
        intro HS
        first | refine sk' 0 HS ?_ | refine tk' 0 HS ?_
        refine tk' 1 HS ?_ (hy := by (intro w' hSw; (try dsimp only at hSw); go_simp; rw [if_neg (by omega)] <;> (with_reducible rfl)))
        first | refine sk' 2 HS ?_ | refine tk' 2 HS ?_
        first | refine sk' 3 HS ?_ | refine tk' 3 HS ?_
        refine tk' 4 HS ?_ (hy := by (intro w' hSw; (try dsimp only at hSw); go_simp; rw [if_neg (by omega)] <;> (with_reducible rfl)))
        refine tk' 5 HS ?_ (hy := by (intro w' hSw; (try dsimp only at hSw); go_simp; rw [if_neg (by omega)] <;> (with_reducible rfl)))
        first | refine sk' 6 HS ?_ | refine tk' 6 HS ?_
        first | refine sk' 7 HS ?_ | refine tk' 7 HS ?_
        refine cl' 8 fun K0 hK0 => ?_
        rw [if_pos (by rfl)]
        go_simp
        go_at_call 59
        refine (specFormatValue v _ hvs).mono ?_
        rintro e w2 ⟨he, hb⟩
        rw [HFV.out] at he
        subst he
        refine hK0.out _ _ ?sq2_8 ?rq2_8
        case sq2_8 => exact ⟨grew_cell hb HS.1, grew_cell hb HS.2.1, grew_cell hb HS.2.2.1, grew_cell hb HS.2.2.2.1, HS.2.2.2.2.trans hb⟩
        case rq2_8 =>
          clear HS hK0 K0; intro HS
          try simp only [Act.put, lpa, lpb, lpc]
          refine tk' 9 HS ?_ (hy := by (intro w' hSw; (try dsimp only at hSw); go_simp; rw [if_neg (by omega)] <;> (with_reducible rfl)))
          first | refine sk' 10 HS ?_ | refine tk' 10 HS ?_
          refine wpAnyH_done (by kernel_rfl) ?_ _
          refine NoPanic.normal ?_
          go_wp2
          go_ret
          exact ⟨ret_str HM.out.symm, (hal.trans g1).trans HS.2.2.2.2⟩
    · have h5 := HN.out
      simp only at h5
      obtain ⟨j, rfl, hj⟩ := nc5 h5
      clear h5
      obtain ⟨X, hX_⟩ : ∃ y, txA q d j = y := ⟨_, rfl⟩
      have HX := Lib.hid hX_
      have hXs := HL.out j (by omega) (by omega)
      rw [hX_] at hXs
      rw [show ((j : Int)).toNat = j from rfl, hX_] at HM
      clear hX_
      go_enter Tryz.func36, Tryz.ntmps36
      go_wp2_with (first | (go_at_call 16; refine (specOpKeyword _ _).mono ?_; rintro e w1 ⟨he, g1⟩; rw [show kw (5 : Int) = K from HK.out] at he; subst he; have k0 := grew_cell g1 (a := ⟨w.heap.size, 0, none⟩) (u := .int .i64 5) (by simp); have k1 := grew_cell g1 (a := ⟨w.heap.size, 1, none⟩) (u := .int .i64 j) (by simp); have k2 := grew_cell g1 (a := ⟨w.heap.size, 2, none⟩) (u := .int .i64 r) (by simp); have k3 := grew_cell g1 (a := ⟨w.heap.size, 3, none⟩) (u := .string nm) (by simp); have k4 := grew_cell g1 (a := ⟨w.heap.size, 4, none⟩) (u := .int .i64 v.kind) (by simp); have k5 := grew_cell g1 (a := ⟨w.heap.size, 5, none⟩) (u := .int .i64 v.int) (by simp); have k6 := grew_cell g1 (a := ⟨w.heap.size, 6, none⟩) (u := .string v.str) (by simp)) | (go_at_call 36; refine (IH.out j _ (by omega) (hg.trans (hal.trans g1)) (by omega) (by omega)).mono ?_; rintro e w2 ⟨he, g2⟩; rw [HX.out] at he; subst he))
      go_ret
      exact ⟨ret_str HM.out.symm, (hal.trans g1).trans g2⟩
    · have h5 := HN.out
      simp only at h5
      obtain ⟨j, j2, rfl, rfl, hj, hj2⟩ := nc67 (by decide) h5
      clear h5
      obtain ⟨X, hX_⟩ : ∃ y, txA q d j = y := ⟨_, rfl⟩
      obtain ⟨Y, hY_⟩ : ∃ y, txA q d j2 = y := ⟨_, rfl⟩
      have HX := Lib.hid hX_
      have HY := Lib.hid hY_
      have hXs := HL.out j (by omega) (by omega)
      have hYs := HL.out j2 (by omega) (by omega)
      rw [hX_] at hXs
      rw [hY_] at hYs
      rw [show ((j : Int)).toNat = j from rfl, show ((j2 : Int)).toNat = j2 from rfl, hX_, hY_] at HM
      clear hX_ hY_
      go_enter Tryz.func36, Tryz.ntmps36
      go_wp2_with (first | (go_at_call 16; refine (specOpKeyword _ _).mono ?_; rintro e w1 ⟨he, g1⟩; rw [show kw (6 : Int) = K from HK.out] at he; subst he; have k0 := grew_cell g1 (a := ⟨w.heap.size, 0, none⟩) (u := .int .i64 6) (by simp); have k1 := grew_cell g1 (a := ⟨w.heap.size, 1, none⟩) (u := .int .i64 j) (by simp); have k2 := grew_cell g1 (a := ⟨w.heap.size, 2, none⟩) (u := .int .i64 j2) (by simp); have k3 := grew_cell g1 (a := ⟨w.heap.size, 3, none⟩) (u := .string nm) (by simp); have k4 := grew_cell g1 (a := ⟨w.heap.size, 4, none⟩) (u := .int .i64 v.kind) (by simp); have k5 := grew_cell g1 (a := ⟨w.heap.size, 5, none⟩) (u := .int .i64 v.int) (by simp); have k6 := grew_cell g1 (a := ⟨w.heap.size, 6, none⟩) (u := .string v.str) (by simp)))
      refine wp_region_noPanic ?_
      refine wp_region_held_drew (S := (fun w' => (w'.cell? ⟨w.heap.size, 1, none⟩ = some (.int .i64 j) ∧ w'.cell? ⟨w.heap.size, 2, none⟩ = some (.int .i64 j2) ∧ Grew w1 w'))) (by kernel_rfl) ?hq3S ?hq3r
      case hq3S => exact ⟨grew_cell (Grew.refl _).drew k1, grew_cell (Grew.refl _).drew k2, (Grew.refl _).drew⟩
      case hq3r =>
        intro HS
        first | refine sk' 0 HS ?_ | refine tk' 0 HS ?_
        refine tk' 1 HS ?_ (hy := by (intro w' hSw; (try dsimp only at hSw); go_simp; rw [if_neg (by omega)] <;> (with_reducible rfl)))
        first | refine sk' 2 HS ?_ | refine tk' 2 HS ?_
        first | refine sk' 3 HS ?_ | refine tk' 3 HS ?_
        first | refine sk' 4 HS ?_ | refine tk' 4 HS ?_
        first | refine sk' 8 HS ?_ | refine tk' 8 HS ?_
        first | refine sk' 9 HS ?_ | refine tk' 9 HS ?_
        first | refine sk' 10 HS ?_ | refine tk' 10 HS ?_
        refine cl' 5 fun K0 hK0 => ?_
        rw [if_pos (by rfl)]
        go_simp
        go_at_call 36
        refine (IH.out j _ (by omega) (hg.trans ((hal.trans g1).trans HS.2.2)) (by omega) (by omega)).mono ?_
        rintro e w2_5 ⟨he, hb⟩
        rw [HX.out] at he
        subst he
        refine hK0.out _ _ ?sq3_5 ?rq3_5
        case sq3_5 => exact ⟨grew_cell hb HS.1, grew_cell hb HS.2.1, HS.2.2.trans hb⟩
        case rq3_5 =>
          clear HS hK0 K0; intro HS
          try simp only [Act.put, lpa, lpb, lpc]
          refine tk' 6 HS ?_ (hy := by (intro w' hSw; (try dsimp only at hSw); go_simp; rw [if_neg (by omega)] <;> (with_reducible rfl)))
          refine tk' 7 HS ?_ (hy := by (intro w' hSw; (try dsimp only at hSw); go_simp; rw [if_neg (by omega)] <;> (with_reducible rfl)))
          refine cl' 11 fun K0 hK0 => ?_
          rw [if_pos (by rfl)]
          go_simp
          go_at_call 36
          refine (IH.out j2 _ (by omega) (hg.trans ((hal.trans g1).trans HS.2.2)) (by omega) (by omega)).mono ?_
          rintro e w2_11 ⟨he, hb⟩
          rw [HY.out] at he
          subst he
          refine hK0.out _ _ ?sq3_11 ?rq3_11
          case sq3_11 => exact ⟨grew_cell hb HS.1, grew_cell hb HS.2.1, HS.2.2.trans hb⟩
          case rq3_11 =>
            clear HS hK0 K0; intro HS
            try simp only [Act.put, lpa, lpb, lpc]
            refine tk' 12 HS ?_ (hy := by (intro w' hSw; (try dsimp only at hSw); go_simp; rw [if_neg (by omega)] <;> (with_reducible rfl)))
            first | refine sk' 13 HS ?_ | refine tk' 13 HS ?_
            refine wpAnyH_done (by kernel_rfl) ?_ _
            refine NoPanic.normal ?_
            go_wp2
            go_ret
            exact ⟨ret_str HM.out.symm, (hal.trans g1).trans HS.2.2⟩
    · have h5 := HN.out
      simp only at h5
      obtain ⟨j, j2, rfl, rfl, hj, hj2⟩ := nc67 (by decide) h5
      clear h5
      obtain ⟨X, hX_⟩ : ∃ y, txA q d j = y := ⟨_, rfl⟩
      obtain ⟨Y, hY_⟩ : ∃ y, txA q d j2 = y := ⟨_, rfl⟩
      have HX := Lib.hid hX_
      have HY := Lib.hid hY_
      have hXs := HL.out j (by omega) (by omega)
      have hYs := HL.out j2 (by omega) (by omega)
      rw [hX_] at hXs
      rw [hY_] at hYs
      rw [show ((j : Int)).toNat = j from rfl, show ((j2 : Int)).toNat = j2 from rfl, hX_, hY_] at HM
      clear hX_ hY_
      go_enter Tryz.func36, Tryz.ntmps36
      go_wp2_with (first | (go_at_call 16; refine (specOpKeyword _ _).mono ?_; rintro e w1 ⟨he, g1⟩; rw [show kw (7 : Int) = K from HK.out] at he; subst he; have k0 := grew_cell g1 (a := ⟨w.heap.size, 0, none⟩) (u := .int .i64 7) (by simp); have k1 := grew_cell g1 (a := ⟨w.heap.size, 1, none⟩) (u := .int .i64 j) (by simp); have k2 := grew_cell g1 (a := ⟨w.heap.size, 2, none⟩) (u := .int .i64 j2) (by simp); have k3 := grew_cell g1 (a := ⟨w.heap.size, 3, none⟩) (u := .string nm) (by simp); have k4 := grew_cell g1 (a := ⟨w.heap.size, 4, none⟩) (u := .int .i64 v.kind) (by simp); have k5 := grew_cell g1 (a := ⟨w.heap.size, 5, none⟩) (u := .int .i64 v.int) (by simp); have k6 := grew_cell g1 (a := ⟨w.heap.size, 6, none⟩) (u := .string v.str) (by simp)))
      refine wp_region_noPanic ?_
      refine wp_region_held_drew (S := (fun w' => (w'.cell? ⟨w.heap.size, 1, none⟩ = some (.int .i64 j) ∧ w'.cell? ⟨w.heap.size, 2, none⟩ = some (.int .i64 j2) ∧ Grew w1 w'))) (by kernel_rfl) ?hq4S ?hq4r
      case hq4S => exact ⟨grew_cell (Grew.refl _).drew k1, grew_cell (Grew.refl _).drew k2, (Grew.refl _).drew⟩
      case hq4r =>
        intro HS
        first | refine sk' 0 HS ?_ | refine tk' 0 HS ?_
        refine tk' 1 HS ?_ (hy := by (intro w' hSw; (try dsimp only at hSw); go_simp; rw [if_neg (by omega)] <;> (with_reducible rfl)))
        first | refine sk' 2 HS ?_ | refine tk' 2 HS ?_
        first | refine sk' 3 HS ?_ | refine tk' 3 HS ?_
        first | refine sk' 4 HS ?_ | refine tk' 4 HS ?_
        first | refine sk' 8 HS ?_ | refine tk' 8 HS ?_
        first | refine sk' 9 HS ?_ | refine tk' 9 HS ?_
        first | refine sk' 10 HS ?_ | refine tk' 10 HS ?_
        refine cl' 5 fun K0 hK0 => ?_
        rw [if_pos (by rfl)]
        go_simp
        go_at_call 36
        refine (IH.out j _ (by omega) (hg.trans ((hal.trans g1).trans HS.2.2)) (by omega) (by omega)).mono ?_
        rintro e w2_5 ⟨he, hb⟩
        rw [HX.out] at he
        subst he
        refine hK0.out _ _ ?sq4_5 ?rq4_5
        case sq4_5 => exact ⟨grew_cell hb HS.1, grew_cell hb HS.2.1, HS.2.2.trans hb⟩
        case rq4_5 =>
          clear HS hK0 K0; intro HS
          try simp only [Act.put, lpa, lpb, lpc]
          refine tk' 6 HS ?_ (hy := by (intro w' hSw; (try dsimp only at hSw); go_simp; rw [if_neg (by omega)] <;> (with_reducible rfl)))
          refine tk' 7 HS ?_ (hy := by (intro w' hSw; (try dsimp only at hSw); go_simp; rw [if_neg (by omega)] <;> (with_reducible rfl)))
          refine cl' 11 fun K0 hK0 => ?_
          rw [if_pos (by rfl)]
          go_simp
          go_at_call 36
          refine (IH.out j2 _ (by omega) (hg.trans ((hal.trans g1).trans HS.2.2)) (by omega) (by omega)).mono ?_
          rintro e w2_11 ⟨he, hb⟩
          rw [HY.out] at he
          subst he
          refine hK0.out _ _ ?sq4_11 ?rq4_11
          case sq4_11 => exact ⟨grew_cell hb HS.1, grew_cell hb HS.2.1, HS.2.2.trans hb⟩
          case rq4_11 =>
            clear HS hK0 K0; intro HS
            try simp only [Act.put, lpa, lpb, lpc]
            refine tk' 12 HS ?_ (hy := by (intro w' hSw; (try dsimp only at hSw); go_simp; rw [if_neg (by omega)] <;> (with_reducible rfl)))
            first | refine sk' 13 HS ?_ | refine tk' 13 HS ?_
            refine wpAnyH_done (by kernel_rfl) ?_ _
            refine NoPanic.normal ?_
            go_wp2
            go_ret
            exact ⟨ret_str HM.out.symm, (hal.trans g1).trans HS.2.2⟩
    · go_enter Tryz.func36, Tryz.ntmps36
      go_wp2_with (first | (go_at_call 16; refine (specOpKeyword _ _).mono ?_; rintro e w1 ⟨he, g1⟩; rw [show kw (8 : Int) = K from HK.out] at he; subst he; have k0 := grew_cell g1 (a := ⟨w.heap.size, 0, none⟩) (u := .int .i64 8) (by simp); have k1 := grew_cell g1 (a := ⟨w.heap.size, 1, none⟩) (u := .int .i64 l) (by simp); have k2 := grew_cell g1 (a := ⟨w.heap.size, 2, none⟩) (u := .int .i64 r) (by simp); have k3 := grew_cell g1 (a := ⟨w.heap.size, 3, none⟩) (u := .string nm) (by simp); have k4 := grew_cell g1 (a := ⟨w.heap.size, 4, none⟩) (u := .int .i64 v.kind) (by simp); have k5 := grew_cell g1 (a := ⟨w.heap.size, 5, none⟩) (u := .int .i64 v.int) (by simp); have k6 := grew_cell g1 (a := ⟨w.heap.size, 6, none⟩) (u := .string v.str) (by simp)))
      go_ret
      exact ⟨ret_str HM.out.symm, hal.trans g1⟩
    · go_enter Tryz.func36, Tryz.ntmps36
      go_wp2_with (first | (go_at_call 16; refine (specOpKeyword _ _).mono ?_; rintro e w1 ⟨he, g1⟩; rw [show kw (9 : Int) = K from HK.out] at he; subst he; have k0 := grew_cell g1 (a := ⟨w.heap.size, 0, none⟩) (u := .int .i64 9) (by simp); have k1 := grew_cell g1 (a := ⟨w.heap.size, 1, none⟩) (u := .int .i64 l) (by simp); have k2 := grew_cell g1 (a := ⟨w.heap.size, 2, none⟩) (u := .int .i64 r) (by simp); have k3 := grew_cell g1 (a := ⟨w.heap.size, 3, none⟩) (u := .string nm) (by simp); have k4 := grew_cell g1 (a := ⟨w.heap.size, 4, none⟩) (u := .int .i64 v.kind) (by simp); have k5 := grew_cell g1 (a := ⟨w.heap.size, 5, none⟩) (u := .int .i64 v.int) (by simp); have k6 := grew_cell g1 (a := ⟨w.heap.size, 6, none⟩) (u := .string v.str) (by simp)))
      go_ret
      exact ⟨ret_str HM.out.symm, hal.trans g1⟩
set_option maxRecDepth 100000 in
set_option maxHeartbeats 4000000 in
theorem specFormatQuery (q : List N) (va : Value) (w : World) (hq : Rd w va 7 q.length (rows N.c q)) (hql : q.length ≤ 4000000) (hz : szAll N.sz q ≤ 4000000) :
    Calls Tryz.prog 13 #[va] w fun e w' => e = .returned (.string ⟨(txq q).toArray⟩) ∧ Grew w w' := by
  obtain ⟨b, hb_⟩ : ∃ b, qryB q = b := ⟨_, rfl⟩
  have HB := Lib.hid hb_
  clear hb_
  have HQ := Lib.hid hq
  obtain ⟨a, ca, rfl, hca, hra⟩ := hq
  clear hra
  cases b with
  | false =>
    go_enter Tryz.func13, Tryz.ntmps13
    go_wp2_with (go_at_call 35; refine (specIsValidQuery _ q.length q _ HQ.out hql hz).mono ?_; rintro e w1 ⟨he, g1⟩; rw [HB.out] at he; subst he)
    go_ret
    exact ⟨ret_str (by rw [txq_none HB.out]), g1⟩
  | true =>
    have hl := txq_len HB.out
    obtain ⟨m, hm⟩ : ∃ m, q.length = m + 1 := ⟨q.length - 1, by omega⟩
    have HT := Lib.hid (txq_A HB.out)
    rw [hm] at hql hl ⊢
    have HM := Lib.hid hm
    clear hm hca
    have hpp : ((m + 1 : Nat) : Int) - 1 = m := by omega
    have hp0 : (0 : Int) ≤ m := by omega
    have hp9 : (m : Int) + 1 ≤ 9 := by omega
    go_enter Tryz.func13, Tryz.ntmps13
    go_wp2_with (first | (go_at_call 35; refine (specIsValidQuery _ q.length q _ (by have h := HQ.out; rw [HM.out] at h ⊢; exact h) (by rw [HM.out]; omega) hz).mono ?_; rintro e w1 ⟨he, g1⟩; rw [HB.out] at he; subst he) | (go_at_call 36; refine (specL10Text q _ w (by have h := HQ.out; rw [HM.out] at h ⊢; exact h) HB.out q.length m _ (by rw [HM.out]; omega) g1 (by rw [HM.out]; omega) (by rw [HM.out]; omega)).mono ?_; rintro e w2 ⟨he, g2⟩; subst he))
    go_ret
    exact ⟨ret_str (by rw [HT.out]; congr 1; rw [HM.out]; rfl), g1.trans g2⟩
end Go.Proofs.YtodbohmbdgbheaaGreatDoor
