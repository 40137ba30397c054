/- The laws' helpers: the look at marks over directories, results, diffs and files; one directory, one diff, one file; the store. -/
import Derived.Test.YtgekgokkbakcmaaH5
namespace Go.Proofs.Ytgekgokkbakcmaa
open Go.RowKit
set_option linter.unusedVariables false

set_option maxRecDepth 100000 in
set_option maxHeartbeats 4000000 in
/-- What holds the marks is found to hold them. -/
theorem heldDirS (va : Value) (xs : List Dr) (k0 : Int) (w : World) (ha : RdDs w va (mkDrs k0 xs)) (hx : xs.length ≤ 4000000) (hs : ∀ x, x ∈ xs → x.small) (h0 : 0 ≤ k0) (h1 : k0 + cntL cntDr xs ≤ 3000000000000000) :
    Calls Try.prog 25 #[va, .int .i64 k0] w fun e w' => e = .returned (.int .i64 (k0 + cntL cntDr xs)) ∧ Grew w w' := by
  obtain ⟨ps, ⟨a, ca, rfl, hca, hra⟩, hall⟩ := ha
  have hlm : (mkDrs k0 xs).length = xs.length := by unfold mkDrs; rw [mkL_length]
  rw [hlm] at hca hra
  rw [hlm]
  have HS := Lib.hid hs
  have HA := Lib.hid hall
  have HH := Lib.hid h1
  clear hlm hs hall h1
  generalize hnn : xs.length = n at *
  have HX := Lib.hid hnn
  clear hnn
  go_enter Try.func25, Try.ntmps25
  go_wp2
  go_loopw [1, 5] (fun c i wr => ∃ (k : Nat), k ≤ n ∧ i = .int .i64 k ∧ c = .int .i64 (k0 + cntL cntDr (xs.take k)) ∧ Grew w wr) (fun _ i _ => n - (intOf i).toNat)
  case atStart => exact ⟨0, Nat.zero_le _, rfl, by simp [cntL], Grew.refl _⟩
  case round =>
    obtain ⟨k, hk, rfl, rfl, hbel⟩ := hrel
    have hcb := cntL_le cntDr cntDr_0 xs k
    by_cases hlt : k < n
    · have hxk : xs[k]? = some (xs[k]'(by have := HX.out; omega)) := List.getElem?_eq_getElem _
      generalize (xs[k]'(by have := HX.out; omega)) = x at hxk
      have HXK := Lib.hid hxk
      have hcs := (cntL_le cntDr cntDr_0 xs (k + 1)).2
      rw [take_snoc hxk, cntL_snoc] at hcs
      clear hxk
      have hxs := HS.out x (List.mem_of_getElem? HXK.out)
      have hcx : cntL cntDr (xs.take k) + cntDr x ≤ 3000000000000000 - k0 := by have := HH.out; omega
      clear hcs
      obtain ⟨b1, o1, p, rfl, hpk, c0, c1⟩ := (hra.grew hbel).getP2 hlt
      have hxr := HA.out.2 k _ _ (by show (mkDrs k0 xs)[k]? = _; unfold mkDrs; rw [mkL_get, HXK.out]; rfl) hpk.out
      generalize hcc : cntL cntDr (xs.take k) = cc at *
      have HCC := Lib.hid hcc
      clear hcc
      unfold cntDr at hcx
      obtain ⟨r_name, r_q⟩ := p
      obtain ⟨hr_name, hr_q⟩ := hxr
      simp only [mkDr1, List.length_map, List.length_range] at hr_name hr_q
      subst hr_name
      obtain ⟨a_q, ca_q, hq_q, hca_q, hra_q⟩ := hr_q
      subst hq_q
      have HR_q := Lib.hid (show Rd w (.slice a_q x.query.length ca_q) 7 x.query.length _ from ⟨a_q, ca_q, rfl, hca_q, hra_q⟩)
      go_wp2_with fail
      go_region_held3 (fun w' => w'.cell? ⟨b1, o1 + k * 2, none⟩ = some (.string (mtext (k0 + cc))) ∧ Grew wr w') (first | exact ⟨c0, (Grew.refl _).drew⟩ | exact held1 (by assumption) (by assumption)) (first | (go_at_call 64; refine (markText _ _ (by omega) (by omega)).mono ?_; rintro e w1 ⟨rfl, hb1⟩))
      have g1 : Grew wr w1 := snd_of (by assumption)
      have e1_1 := grew_cell g1 c1
      go_wp2_with fail
      refine (heldNodeS _ x.query.length _ _ (HR_q.out.grew (hbel.trans g1)) hxs (by omega) (by omega)).mono ?_
      rintro e w2 ⟨rfl, hb2⟩
      have g2 : Grew wr w2 := g1.trans hb2
      have hpos2 : ¬ (k0 + cc + 1 + ((x.query.length : Nat) : Int) * 7 < 0) := by omega
      go_wp2
      go_roundw
      case rel =>
        refine ⟨k + 1, by omega, by go_num, ?_, hbel.trans g2⟩
        rw [take_snoc HXK.out, cntL_snoc, HCC.out]
        unfold cntDr
        congr 1
        omega
      case measure => simp [intOf]; omega
    · obtain rfl : k = n := by omega
      go_wp2
      go_ret
      rw [take_all HX.out]
      exact ⟨rfl, hbel⟩
set_option maxRecDepth 100000 in
set_option maxHeartbeats 4000000 in
/-- What holds the marks is found to hold them. -/
theorem heldDiffS (va : Value) (xs : List Df) (k0 : Int) (w : World) (ha : RdFs w va (mkDfs k0 xs)) (hx : xs.length ≤ 4000000) (hs : ∀ x, x ∈ xs → x.small) (h0 : 0 ≤ k0) (h1 : k0 + cntL cntDf xs ≤ 3000000000000000) :
    Calls Try.prog 18 #[va, .int .i64 k0] w fun e w' => e = .returned (.int .i64 (k0 + cntL cntDf xs)) ∧ Grew w w' := by
  obtain ⟨ps, ⟨a, ca, rfl, hca, hra⟩, hall⟩ := ha
  have hlm : (mkDfs k0 xs).length = xs.length := by unfold mkDfs; rw [mkL_length]
  rw [hlm] at hca hra
  rw [hlm]
  have HS := Lib.hid hs
  have HA := Lib.hid hall
  have HH := Lib.hid h1
  clear hlm hs hall h1
  generalize hnn : xs.length = n at *
  have HX := Lib.hid hnn
  clear hnn
  go_enter Try.func18, Try.ntmps18
  go_wp2
  go_loopw [1, 5] (fun c i wr => ∃ (k : Nat), k ≤ n ∧ i = .int .i64 k ∧ c = .int .i64 (k0 + cntL cntDf (xs.take k)) ∧ Grew w wr) (fun _ i _ => n - (intOf i).toNat)
  case atStart => exact ⟨0, Nat.zero_le _, rfl, by simp [cntL], Grew.refl _⟩
  case round =>
    obtain ⟨k, hk, rfl, rfl, hbel⟩ := hrel
    have hcb := cntL_le cntDf cntDf_0 xs k
    by_cases hlt : k < n
    · have hxk : xs[k]? = some (xs[k]'(by have := HX.out; omega)) := List.getElem?_eq_getElem _
      generalize (xs[k]'(by have := HX.out; omega)) = x at hxk
      have HXK := Lib.hid hxk
      have hcs := (cntL_le cntDf cntDf_0 xs (k + 1)).2
      rw [take_snoc hxk, cntL_snoc] at hcs
      clear hxk
      have hxs := HS.out x (List.mem_of_getElem? HXK.out)
      have hcx : cntL cntDf (xs.take k) + cntDf x ≤ 3000000000000000 - k0 := by have := HH.out; omega
      clear hcs
      obtain ⟨b1, o1, p, rfl, hpk, c0, c1, c2⟩ := (hra.grew hbel).getP3 hlt
      have hxr := HA.out.2 k _ _ (by show (mkDfs k0 xs)[k]? = _; unfold mkDfs; rw [mkL_get, HXK.out]; rfl) hpk.out
      generalize hcc : cntL cntDf (xs.take k) = cc at *
      have HCC := Lib.hid hcc
      clear hcc
      unfold cntDf at hcx
      obtain ⟨r_name, r_q, r_r⟩ := p
      obtain ⟨hr_name, hr_q, hr_r⟩ := hxr
      simp only [mkDf1, List.length_map, List.length_range] at hr_name hr_q hr_r
      subst hr_name
      obtain ⟨a_q, ca_q, hq_q, hca_q, hra_q⟩ := hr_q
      subst hq_q
      have HR_q := Lib.hid (show Rd w (.slice a_q x.added.length ca_q) 1 x.added.length _ from ⟨a_q, ca_q, rfl, hca_q, hra_q⟩)
      obtain ⟨a_r, ca_r, hq_r, hca_r, hra_r⟩ := hr_r
      subst hq_r
      have HR_r := Lib.hid (show Rd w (.slice a_r x.removed.length ca_r) 1 x.removed.length _ from ⟨a_r, ca_r, rfl, hca_r, hra_r⟩)
      go_wp2_with fail
      go_region_held3 (fun w' => w'.cell? ⟨b1, o1 + k * 3, none⟩ = some (.string (mtext (k0 + cc))) ∧ Grew wr w') (first | exact ⟨c0, (Grew.refl _).drew⟩ | exact held1 (by assumption) (by assumption)) (first | (go_at_call 64; refine (markText _ _ (by omega) (by omega)).mono ?_; rintro e w1 ⟨rfl, hb1⟩))
      have g1 : Grew wr w1 := snd_of (by assumption)
      have e1_1 := grew_cell g1 c1
      have e1_2 := grew_cell g1 c2
      go_wp2_with fail
      refine (heldIntS _ x.added.length _ _ (HR_q.out.grew (hbel.trans g1)) hxs.1 (by omega) (by omega)).mono ?_
      rintro e w2 ⟨rfl, hb2⟩
      have g2 : Grew wr w2 := g1.trans hb2
      have e2_2 := grew_cell g2 c2
      have hpos2 : ¬ (k0 + cc + 1 + ((x.added.length : Nat) : Int) < 0) := by omega
      go_wp2_with fail
      refine (heldIntS _ x.removed.length _ _ (HR_r.out.grew (hbel.trans g2)) hxs.2 (by omega) (by omega)).mono ?_
      rintro e w3 ⟨rfl, hb3⟩
      have g3 : Grew wr w3 := g2.trans hb3
      have hpos3 : ¬ (k0 + cc + 1 + ((x.added.length : Nat) : Int) + ((x.removed.length : Nat) : Int) < 0) := by omega
      go_wp2
      go_roundw
      case rel =>
        refine ⟨k + 1, by omega, by go_num, ?_, hbel.trans g3⟩
        rw [take_snoc HXK.out, cntL_snoc, HCC.out]
        unfold cntDf
        congr 1
        omega
      case measure => simp [intOf]; omega
    · obtain rfl : k = n := by omega
      go_wp2
      go_ret
      rw [take_all HX.out]
      exact ⟨rfl, hbel⟩
end Go.Proofs.Ytgekgokkbakcmaa
