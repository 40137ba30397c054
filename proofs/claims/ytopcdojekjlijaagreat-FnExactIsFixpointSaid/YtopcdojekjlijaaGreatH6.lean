/- The laws' helpers: the look at marks over directories, results, diffs and files; one directory, one diff, one file; the store. -/
import Derived.Test.YtopcdojekjlijaaGreatH5
namespace Go.Proofs.YtopcdojekjlijaaGreat
open Go.RowKit
set_option linter.unusedVariables false

set_option maxRecDepth 100000 in
set_option maxHeartbeats 4000000 in
/-- What holds the marks is found to hold them. -/
theorem heldResultS (va : Value) (xs : List Rs) (k0 : Int) (w : World) (ha : RdRs w va (mkRss k0 xs)) (hx : xs.length ≤ 4000000) (hs : ∀ x, x ∈ xs → x.small) (h0 : 0 ≤ k0) (h1 : k0 + cntL cntRs xs ≤ 3000000000000000) :
    Calls Tryz.prog 25 #[va, .int .i64 k0] w fun e w' => e = .returned (.int .i64 (k0 + cntL cntRs xs)) ∧ Grew w w' := by
  obtain ⟨ps, ⟨a, ca, rfl, hca, hra⟩, hall⟩ := ha
  have hlm : (mkRss k0 xs).length = xs.length := by unfold mkRss; rw [mkL_length]
  rw [hlm] at hca hra
  rw [hlm]
  have HS := Lib.hid hs
  have HA := Lib.hid hall
  have HH := Lib.hid h1
  clear hlm hs hall h1
  generalize hnn : xs.length = n at *
  have HX := Lib.hid hnn
  clear hnn
  go_enter Tryz.func25, Tryz.ntmps25
  go_wp2
  go_loopw [1, 5] (fun c i wr => ∃ (k : Nat), k ≤ n ∧ i = .int .i64 k ∧ c = .int .i64 (k0 + cntL cntRs (xs.take k)) ∧ Grew w wr) (fun _ i _ => n - (intOf i).toNat)
  case atStart => exact ⟨0, Nat.zero_le _, rfl, by simp [cntL], Grew.refl _⟩
  case round =>
    obtain ⟨k, hk, rfl, rfl, hbel⟩ := hrel
    have hcb := cntL_le cntRs cntRs_0 xs k
    by_cases hlt : k < n
    · have hxk : xs[k]? = some (xs[k]'(by have := HX.out; omega)) := List.getElem?_eq_getElem _
      generalize (xs[k]'(by have := HX.out; omega)) = x at hxk
      have HXK := Lib.hid hxk
      have hcs := (cntL_le cntRs cntRs_0 xs (k + 1)).2
      rw [take_snoc hxk, cntL_snoc] at hcs
      clear hxk
      have hxs := HS.out x (List.mem_of_getElem? HXK.out)
      have hcx : cntL cntRs (xs.take k) + cntRs x ≤ 3000000000000000 - k0 := by have := HH.out; omega
      clear hcs
      obtain ⟨b1, o1, p, rfl, hpk, c0, c1⟩ := (hra.grew hbel).getP2 hlt
      have hxr := HA.out.2 k _ _ (by show (mkRss k0 xs)[k]? = _; unfold mkRss; rw [mkL_get, HXK.out]; rfl) hpk.out
      generalize hcc : cntL cntRs (xs.take k) = cc at *
      have HCC := Lib.hid hcc
      clear hcc
      unfold cntRs at hcx
      obtain ⟨r_name, r_q⟩ := p
      obtain ⟨hr_name, hr_q⟩ := hxr
      simp only [mkRs1, List.length_map, List.length_range] at hr_name hr_q
      subst hr_name
      obtain ⟨a_q, ca_q, hq_q, hca_q, hra_q⟩ := hr_q
      subst hq_q
      have HR_q := Lib.hid (show Rd w (.slice a_q x.ids.length ca_q) 1 x.ids.length _ from ⟨a_q, ca_q, rfl, hca_q, hra_q⟩)
      go_wp2_with fail
      go_region_held3 (fun w' => w'.cell? ⟨b1, o1 + k * 2, none⟩ = some (.string (mtext (k0 + cc))) ∧ Grew wr w') (first | exact ⟨c0, (Grew.refl _).drew⟩ | exact held1 (by assumption) (by assumption)) (first | (go_at_call 57; refine (markText _ _ (by omega) (by omega)).mono ?_; rintro e w1 ⟨rfl, hb1⟩))
      have g1 : Grew wr w1 := snd_of (by assumption)
      have e1_1 := grew_cell g1 c1
      go_wp2_with fail
      refine (heldIntS _ x.ids.length _ _ (HR_q.out.grew (hbel.trans g1)) hxs (by omega) (by omega)).mono ?_
      rintro e w2 ⟨rfl, hb2⟩
      have g2 : Grew wr w2 := g1.trans hb2
      have hpos2 : ¬ (k0 + cc + 1 + ((x.ids.length : Nat) : Int) < 0) := by omega
      go_wp2
      go_roundw
      case rel =>
        refine ⟨k + 1, by omega, by go_num, ?_, hbel.trans g2⟩
        rw [take_snoc HXK.out, cntL_snoc, HCC.out]
        unfold cntRs
        congr 1
        omega
      case measure => simp [intOf]; omega
    · obtain rfl : k = n := by omega
      go_wp2
      go_ret
      rw [take_all HX.out]
      exact ⟨rfl, hbel⟩
end Go.Proofs.YtopcdojekjlijaaGreat
