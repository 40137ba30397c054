/- Texts M3, Y3, Y5, Y9, M4, J, O, O2, as far as they are needed. -/
import Derived.Test.YtodbohmbdgbheaaMb5
import Derived.Test.YtodbohmbdgbheaaMb3
import Derived.Test.YtodbohmbdgbheaaMb1
import Derived.Test.YtodbohmbdgbheaaChecked
import Derived.Test.YtodbohmbdgbheaaRows
import Derived.JoinedOf
import Derived.Test.YtodbohmbdgbheaaMb0
import Derived.ProofKit
import Derived.OpenShut
import Derived.ShutString
import Derived.ChangeOld
import Derived.Deep.Slices
namespace Go.Proofs.Ytodbohmbdgbheaa
open Go.RowKit
set_option linter.unusedVariables false
theorem nfCells (w : World) (a b c d e x0 x1 x2 x3 x4 x5 x6 : Value) :
    let W := (w.alloc (.cells #[a, b, c, d, e] 27)).alloc (.cells #[x0, x1, x2, x3, x4, x5, x6] 47)
    W.cell? ⟨w.heap.size, 0, none⟩ = some a ∧ W.cell? ⟨w.heap.size, 1, none⟩ = some b ∧ W.cell? ⟨w.heap.size, 2, none⟩ = some c ∧ W.cell? ⟨w.heap.size, 3, none⟩ = some d ∧ W.cell? ⟨w.heap.size, 4, none⟩ = some e ∧ W.cell? ⟨w.heap.size + 1, 0, none⟩ = some x0 ∧ W.cell? ⟨w.heap.size + 1, 1, none⟩ = some x1 ∧ W.cell? ⟨w.heap.size + 1, 2, none⟩ = some x2 ∧ W.cell? ⟨w.heap.size + 1, 3, none⟩ = some x3 ∧ W.cell? ⟨w.heap.size + 1, 4, none⟩ = some x4 ∧ W.cell? ⟨w.heap.size + 1, 5, none⟩ = some x5 ∧ W.cell? ⟨w.heap.size + 1, 6, none⟩ = some x6 := by
  refine ⟨?_, ?_, ?_, ?_, ?_, ?_, ?_, ?_, ?_, ?_, ?_, ?_⟩
  iterate 5 exact grew_cell ((Grew.refl _).alloc _) (by simp)
  all_goals simp [go_sem]
set_option maxRecDepth 100000 in
set_option maxHeartbeats 2000000 in
theorem implMatchesAt (q : List N) (f : Fl) (pf : P5) (rs : List Rs) (va vr : Value) (W0 : World) (hq : Rd W0 va 7 q.length (rows N.c q)) (hf : Fl.R W0 f pf) (hr : RdRs W0 vr rs) (hql : q.length ≤ 4000000) (hv : qryB q = true) (hfs : f.small) (hrl : rs.length ≤ 4000000) (hrs : ∀ x, x ∈ rs → x.small) :
    ∀ (d i : Nat) (w : World), Grew W0 w → i < d → i < q.length → Calls Try.prog 21 #[va, .int .i64 i, pf.v, vr] w fun e w' => e = .returned (.bool (matR q f rs d i)) ∧ Grew w w' := by
  have HQ := Lib.hid hq
  have HF := Lib.hid hf
  have HR := Lib.hid hr
  have HV := Lib.hid hv
  have HRS := Lib.hid hrs
  obtain ⟨a, ca, rfl, hca, hra⟩ := hq
  obtain ⟨_, ⟨ra, rca, rfl, _, hrr⟩, hall⟩ := hr
  obtain ⟨p1, p2, p3, p4, p5⟩ := pf
  obtain ⟨h1, h2, h3, h4, h5⟩ := hf
  simp only at h1 h2 h3 h4 h5
  subst h1; subst h2; subst h3; subst h4
  obtain ⟨fa, fc, rfl, hfc, hfr⟩ := h5
  clear hrr hall hfr hv hrs
  intro d
  induction d with
  | zero => intro i w _ h; omega
  | succ d ih =>
    intro i w hg hid hlt
    have IH := Lib.hid ih
    clear ih
    obtain ⟨b1, o1, x, rfl, hxk, c0, c1, c2, c3, c4, c5, c6⟩ := (hra.grew hg).getN hlt
    have hnode := qry_node HV.out hxk.out
    have hop := nod_op hnode
    have HN := Lib.hid hnode
    have HM := Lib.hid (matR_at (f := f) (r := rs) (d := d) hxk.out)
    clear hnode
    obtain ⟨op, l, r, nm, v⟩ := x
    simp only at c0 c1 c2 c3 c4 c5 c6 hop
    simp only at HM
    have hal1 := (Grew.refl w).alloc (.cells #[.int .i64 f.id, .int .i64 f.owner, .bool f.shared, .int .i64 f.link, .slice fa f.attrs.length fc] 27)
    have e0 := grew_cell hal1 c0
    have e1 := grew_cell hal1 c1
    have e2 := grew_cell hal1 c2
    have e3 := grew_cell hal1 c3
    have e4 := grew_cell hal1 c4
    have e5 := grew_cell hal1 c5
    have e6 := grew_cell hal1 c6
    obtain ⟨gv, hgv⟩ : ∃ g, getA f.attrs nm = g := ⟨_, rfl⟩
    have HG := Lib.hid hgv
    rw [hgv] at HM
    clear hgv
    have hal := ((Grew.refl w).alloc (.cells #[.int .i64 f.id, .int .i64 f.owner, .bool f.shared, .int .i64 f.link, .slice fa f.attrs.length fc] 27)).alloc (.cells #[.int .i64 op, .int .i64 l, .int .i64 r, .string nm, .int .i64 v.kind, .int .i64 v.int, .string v.str] 47)
    rcases hop with rfl | rfl | rfl | rfl | rfl | rfl | rfl | rfl | rfl
    · have hz0 := hid
      obtain ⟨kf0, kf1, kf2, kf3, kf4, k0, k1, k2, k3, k4, k5, k6⟩ := nfCells w (.int .i64 f.id) (.int .i64 f.owner) (.bool f.shared) (.int .i64 f.link) (.slice fa f.attrs.length fc) (.int .i64 1) (.int .i64 l) (.int .i64 r) (.string nm) (.int .i64 v.kind) (.int .i64 v.int) (.string v.str)
      go_enter Try.func21, Try.ntmps21
      go_wp2
      go_ret
      exact ⟨ret_bool (by rw [HM.out]; rfl), hal⟩
    · have hfd : ∀ (a b c : Value) (w : World), (Instr.field 45 (.agg #[a, b, c]) 0).run Try.prog w = .ok a w := fun _ _ _ _ => by with_unfolding_all rfl
      obtain ⟨kf0, kf1, kf2, kf3, kf4, k0, k1, k2, k3, k4, k5, k6⟩ := nfCells w (.int .i64 f.id) (.int .i64 f.owner) (.bool f.shared) (.int .i64 f.link) (.slice fa f.attrs.length fc) (.int .i64 2) (.int .i64 l) (.int .i64 r) (.string nm) (.int .i64 v.kind) (.int .i64 v.int) (.string v.str)
      go_enter Try.func21, Try.ntmps21
      go_wp2_with (go_at_call 46; refine (implGetAttr f ⟨f.id, f.owner, f.shared, f.link, .slice fa f.attrs.length fc⟩ nm _ (HF.out.grew (hg.trans hal)) hfs).mono ?_; rintro e w1 ⟨he, hb⟩; rw [HG.out] at he; have he2 : e = .returned (.agg #[.int .i64 gv.kind, .int .i64 gv.int, .string gv.str]) := he; subst he2)
      go_ret
      exact ⟨ret_bool (by rw [HM.out]; rfl), hal.trans hb⟩
    · have hE := fun w => runEqV gv v w
      obtain ⟨kf0, kf1, kf2, kf3, kf4, k0, k1, k2, k3, k4, k5, k6⟩ := nfCells w (.int .i64 f.id) (.int .i64 f.owner) (.bool f.shared) (.int .i64 f.link) (.slice fa f.attrs.length fc) (.int .i64 3) (.int .i64 l) (.int .i64 r) (.string nm) (.int .i64 v.kind) (.int .i64 v.int) (.string v.str)
      go_enter Try.func21, Try.ntmps21
      go_wp2_with fail
      refine wp_region_noPanic ?_
      refine wp_region_held_drew (S := (fun w' => (w'.cell? ⟨w.heap.size, 0, none⟩ = some (.int .i64 f.id) ∧ w'.cell? ⟨w.heap.size, 1, none⟩ = some (.int .i64 f.owner) ∧ w'.cell? ⟨w.heap.size, 2, none⟩ = some (.bool f.shared) ∧ w'.cell? ⟨w.heap.size, 3, none⟩ = some (.int .i64 f.link) ∧ w'.cell? ⟨w.heap.size, 4, none⟩ = some (.slice fa f.attrs.length fc) ∧ w'.cell? ⟨w.heap.size + 1, 3, none⟩ = some (.string nm) ∧ w'.cell? ⟨w.heap.size + 1, 4, none⟩ = some (.int .i64 v.kind) ∧ w'.cell? ⟨w.heap.size + 1, 5, none⟩ = some (.int .i64 v.int) ∧ w'.cell? ⟨w.heap.size + 1, 6, none⟩ = some (.string v.str) ∧ Grew ((w.alloc (.cells #[.int .i64 f.id, .int .i64 f.owner, .bool f.shared, .int .i64 f.link, .slice fa f.attrs.length fc] 27)).alloc (.cells #[.int .i64 3, .int .i64 l, .int .i64 r, .string nm, .int .i64 v.kind, .int .i64 v.int, .string v.str] 47)) w'))) (by kernel_rfl) ?h1_S ?h1_r
      case h1_S => exact ⟨kf0, kf1, kf2, kf3, kf4, k3, k4, k5, k6, (Grew.refl _).drew⟩
      case h1_r =>
        intro HS
        first | refine sk' 0 HS ?_ | refine tk' 0 HS ?_
        first | refine sk' 1 HS ?_ | refine tk' 1 HS ?_
        first | refine sk' 2 HS ?_ | refine tk' 2 HS ?_
        first | refine sk' 4 HS ?_ | refine tk' 4 HS ?_
        first | refine sk' 5 HS ?_ | refine tk' 5 HS ?_
        refine cl' 3 fun K hK => ?_
        go_simp
        go_at_call 46
        refine (implGetAttr f ⟨f.id, f.owner, f.shared, f.link, .slice fa f.attrs.length fc⟩ nm _ (HF.out.grew (hg.trans (hal.trans HS.2.2.2.2.2.2.2.2.2))) hfs).mono ?_
        rintro e w1 ⟨he, hb⟩
        rw [HG.out] at he
        subst he
        refine hK.out _ _ ?s1_3 ?r1_3
        case s1_3 => (try dsimp only); exact ⟨grew_cell hb HS.1, grew_cell hb HS.2.1, grew_cell hb HS.2.2.1, grew_cell hb HS.2.2.2.1, grew_cell hb HS.2.2.2.2.1, grew_cell hb HS.2.2.2.2.2.1, grew_cell hb HS.2.2.2.2.2.2.1, grew_cell hb HS.2.2.2.2.2.2.2.1, grew_cell hb HS.2.2.2.2.2.2.2.2.1, HS.2.2.2.2.2.2.2.2.2.trans hb⟩
        case r1_3 =>
          clear HS hK K; intro HS
          try simp only [Act.put, lpa, lpb, lpc]
          first | refine sk' 6 HS ?_ | refine tk' 6 HS ?_
          first | refine sk' 7 HS ?_ | refine tk' 7 HS ?_
          refine wpAnyH_done (by kernel_rfl) ?_ _
          refine NoPanic.normal ?_
          go_wp2
          go_ret
          refine ⟨ret_bool ?_, hal.trans HS.2.2.2.2.2.2.2.2.2⟩
          rw [HM.out]; rfl
    · obtain ⟨ti, hti⟩ : ∃ t, (if gv.kind = 1 then gv.int else 0) = t := ⟨_, rfl⟩
      obtain ⟨tb, htb⟩ : ∃ t, (gv.kind == 1) = t := ⟨_, rfl⟩
      have HTI := Lib.hid hti
      have HTB := Lib.hid htb
      clear hti htb
      have hcs : tb = true ∨ tb = false := by cases tb <;> simp
      rcases hcs with rfl | rfl
      · have hz0 := hid
        obtain ⟨kf0, kf1, kf2, kf3, kf4, k0, k1, k2, k3, k4, k5, k6⟩ := nfCells w (.int .i64 f.id) (.int .i64 f.owner) (.bool f.shared) (.int .i64 f.link) (.slice fa f.attrs.length fc) (.int .i64 4) (.int .i64 l) (.int .i64 r) (.string nm) (.int .i64 v.kind) (.int .i64 v.int) (.string v.str)
        go_enter Try.func21, Try.ntmps21
        go_wp2_with (go_at_call 47; refine (implIntAttr f ⟨f.id, f.owner, f.shared, f.link, .slice fa f.attrs.length fc⟩ nm _ (HF.out.grew (hg.trans hal)) hfs).mono ?_; rintro e w1 ⟨he, hb⟩; rw [HG.out, HTI.out, HTB.out] at he; subst he; have c9 := grew_cell hb k5)
        go_ret
        refine ⟨ret_bool ?_, hal.trans hb⟩
        have h1 := HTB.out
        have h2 := HTI.out
        rw [if_pos (by simpa using h1)] at h2; rw [HM.out]; simp [h1, h2]
      · have hz0 := hid
        obtain ⟨kf0, kf1, kf2, kf3, kf4, k0, k1, k2, k3, k4, k5, k6⟩ := nfCells w (.int .i64 f.id) (.int .i64 f.owner) (.bool f.shared) (.int .i64 f.link) (.slice fa f.attrs.length fc) (.int .i64 4) (.int .i64 l) (.int .i64 r) (.string nm) (.int .i64 v.kind) (.int .i64 v.int) (.string v.str)
        go_enter Try.func21, Try.ntmps21
        go_wp2_with (go_at_call 47; refine (implIntAttr f ⟨f.id, f.owner, f.shared, f.link, .slice fa f.attrs.length fc⟩ nm _ (HF.out.grew (hg.trans hal)) hfs).mono ?_; rintro e w1 ⟨he, hb⟩; rw [HG.out, HTI.out, HTB.out] at he; subst he; have c9 := grew_cell hb k5)
        go_ret
        refine ⟨ret_bool ?_, hal.trans hb⟩
        have h1 := HTB.out
        have h2 := HTI.out
        rw [HM.out]; simp [h1]
    · obtain ⟨j, rfl, hj⟩ := nod5 (by omega) HN.out
      obtain ⟨bl, hbl⟩ : ∃ b, matR q f rs d j = b := ⟨_, rfl⟩
      have HBL := Lib.hid hbl
      clear hbl
      obtain ⟨kf0, kf1, kf2, kf3, kf4, k0, k1, k2, k3, k4, k5, k6⟩ := nfCells w (.int .i64 f.id) (.int .i64 f.owner) (.bool f.shared) (.int .i64 f.link) (.slice fa f.attrs.length fc) (.int .i64 5) (.int .i64 j) (.int .i64 r) (.string nm) (.int .i64 v.kind) (.int .i64 v.int) (.string v.str)
      go_enter Try.func21, Try.ntmps21
      go_wp2_with (go_at_call 21; refine (IH.out j _ (hg.trans hal) (by omega) (by omega)).mono ?_; rintro e w2 ⟨he2, hb2⟩; rw [HBL.out] at he2; subst he2)
      go_ret
      refine ⟨ret_bool ?_, hal.trans hb2⟩
      rw [HM.out, ← HBL.out]; rfl
    · obtain ⟨j, i2, rfl, rfl, hj, hi2⟩ := nod67 (by omega) (by omega) HN.out
      obtain ⟨bl, hbl⟩ : ∃ b, matR q f rs d j = b := ⟨_, rfl⟩
      obtain ⟨br, hbr⟩ : ∃ b, matR q f rs d i2 = b := ⟨_, rfl⟩
      have HBL := Lib.hid hbl
      have HBR := Lib.hid hbr
      clear hbl hbr
      have hcs : bl = true ∨ bl = false := by cases bl <;> simp
      rcases hcs with rfl | rfl
      · have hk0 := hj
        obtain ⟨kf0, kf1, kf2, kf3, kf4, k0, k1, k2, k3, k4, k5, k6⟩ := nfCells w (.int .i64 f.id) (.int .i64 f.owner) (.bool f.shared) (.int .i64 f.link) (.slice fa f.attrs.length fc) (.int .i64 6) (.int .i64 j) (.int .i64 i2) (.string nm) (.int .i64 v.kind) (.int .i64 v.int) (.string v.str)
        go_enter Try.func21, Try.ntmps21
        go_wp2_with (first | (go_at_call 21; with_reducible refine (IH.out j _ (hg.trans hal) (by omega) (by omega)).mono ?_; rintro e w2 ⟨he2, hb2⟩; rw [HBL.out] at he2; subst he2; have m0 := grew_cell hb2 k0; have m1 := grew_cell hb2 k1; have m2 := grew_cell hb2 k2; have m3 := grew_cell hb2 k3; have m4 := grew_cell hb2 k4; have m5 := grew_cell hb2 k5; have m6 := grew_cell hb2 k6; have mf0 := grew_cell hb2 kf0; have mf1 := grew_cell hb2 kf1; have mf2 := grew_cell hb2 kf2; have mf3 := grew_cell hb2 kf3; have mf4 := grew_cell hb2 kf4) | (go_at_call 21; with_reducible refine (IH.out i2 _ (hg.trans (hal.trans hb2)) (by omega) (by omega)).mono ?_; rintro e w3 ⟨he3, hb3⟩; rw [HBR.out] at he3; subst he3))
        go_ret
        refine ⟨ret_bool ?_, hal.trans (hb2.trans hb3)⟩
        rw [HM.out]; simp [HBL.out, HBR.out]
      · have hk0 := hj
        obtain ⟨kf0, kf1, kf2, kf3, kf4, k0, k1, k2, k3, k4, k5, k6⟩ := nfCells w (.int .i64 f.id) (.int .i64 f.owner) (.bool f.shared) (.int .i64 f.link) (.slice fa f.attrs.length fc) (.int .i64 6) (.int .i64 j) (.int .i64 i2) (.string nm) (.int .i64 v.kind) (.int .i64 v.int) (.string v.str)
        go_enter Try.func21, Try.ntmps21
        go_wp2_with (first | (go_at_call 21; with_reducible refine (IH.out j _ (hg.trans hal) (by omega) (by omega)).mono ?_; rintro e w2 ⟨he2, hb2⟩; rw [HBL.out] at he2; subst he2; have m0 := grew_cell hb2 k0; have m1 := grew_cell hb2 k1; have m2 := grew_cell hb2 k2; have m3 := grew_cell hb2 k3; have m4 := grew_cell hb2 k4; have m5 := grew_cell hb2 k5; have m6 := grew_cell hb2 k6; have mf0 := grew_cell hb2 kf0; have mf1 := grew_cell hb2 kf1; have mf2 := grew_cell hb2 kf2; have mf3 := grew_cell hb2 kf3; have mf4 := grew_cell hb2 kf4) | fail)
        go_ret
        refine ⟨ret_bool ?_, hal.trans hb2⟩
        rw [HM.out]; simp [HBL.out]
    · obtain ⟨j, i2, rfl, rfl, hj, hi2⟩ := nod67 (by omega) (by omega) HN.out
      obtain ⟨bl, hbl⟩ : ∃ b, matR q f rs d j = b := ⟨_, rfl⟩
      obtain ⟨br, hbr⟩ : ∃ b, matR q f rs d i2 = b := ⟨_, rfl⟩
      have HBL := Lib.hid hbl
      have HBR := Lib.hid hbr
      clear hbl hbr
      have hcs : bl = true ∨ bl = false := by cases bl <;> simp
      rcases hcs with rfl | rfl
      · have hk0 := hj
        obtain ⟨kf0, kf1, kf2, kf3, kf4, k0, k1, k2, k3, k4, k5, k6⟩ := nfCells w (.int .i64 f.id) (.int .i64 f.owner) (.bool f.shared) (.int .i64 f.link) (.slice fa f.attrs.length fc) (.int .i64 7) (.int .i64 j) (.int .i64 i2) (.string nm) (.int .i64 v.kind) (.int .i64 v.int) (.string v.str)
        go_enter Try.func21, Try.ntmps21
        go_wp2_with (first | (go_at_call 21; with_reducible refine (IH.out j _ (hg.trans hal) (by omega) (by omega)).mono ?_; rintro e w2 ⟨he2, hb2⟩; rw [HBL.out] at he2; subst he2; have m0 := grew_cell hb2 k0; have m1 := grew_cell hb2 k1; have m2 := grew_cell hb2 k2; have m3 := grew_cell hb2 k3; have m4 := grew_cell hb2 k4; have m5 := grew_cell hb2 k5; have m6 := grew_cell hb2 k6; have mf0 := grew_cell hb2 kf0; have mf1 := grew_cell hb2 kf1; have mf2 := grew_cell hb2 kf2; have mf3 := grew_cell hb2 kf3; have mf4 := grew_cell hb2 kf4) | fail)
        go_ret
        refine ⟨ret_bool ?_, hal.trans hb2⟩
        rw [HM.out]; simp [HBL.out]
      · have hk0 := hj
        obtain ⟨kf0, kf1, kf2, kf3, kf4, k0, k1, k2, k3, k4, k5, k6⟩ := nfCells w (.int .i64 f.id) (.int .i64 f.owner) (.bool f.shared) (.int .i64 f.link) (.slice fa f.attrs.length fc) (.int .i64 7) (.int .i64 j) (.int .i64 i2) (.string nm) (.int .i64 v.kind) (.int .i64 v.int) (.string v.str)
        go_enter Try.func21, Try.ntmps21
        go_wp2_with (first | (go_at_call 21; with_reducible refine (IH.out j _ (hg.trans hal) (by omega) (by omega)).mono ?_; rintro e w2 ⟨he2, hb2⟩; rw [HBL.out] at he2; subst he2; have m0 := grew_cell hb2 k0; have m1 := grew_cell hb2 k1; have m2 := grew_cell hb2 k2; have m3 := grew_cell hb2 k3; have m4 := grew_cell hb2 k4; have m5 := grew_cell hb2 k5; have m6 := grew_cell hb2 k6; have mf0 := grew_cell hb2 kf0; have mf1 := grew_cell hb2 kf1; have mf2 := grew_cell hb2 kf2; have mf3 := grew_cell hb2 kf3; have mf4 := grew_cell hb2 kf4) | (go_at_call 21; with_reducible refine (IH.out i2 _ (hg.trans (hal.trans hb2)) (by omega) (by omega)).mono ?_; rintro e w3 ⟨he3, hb3⟩; rw [HBR.out] at he3; subst he3))
        go_ret
        refine ⟨ret_bool ?_, hal.trans (hb2.trans hb3)⟩
        rw [HM.out]; simp [HBL.out, HBR.out]
    · have hk0 := hid
      obtain ⟨kf0, kf1, kf2, kf3, kf4, k0, k1, k2, k3, k4, k5, k6⟩ := nfCells w (.int .i64 f.id) (.int .i64 f.owner) (.bool f.shared) (.int .i64 f.link) (.slice fa f.attrs.length fc) (.int .i64 8) (.int .i64 l) (.int .i64 r) (.string nm) (.int .i64 v.kind) (.int .i64 v.int) (.string v.str)
      go_enter Try.func21, Try.ntmps21
      go_wp2_with fail
      refine wp_region_noPanic ?_
      refine wp_region_held_drew (S := (fun w' => (w'.cell? ⟨w.heap.size + 1, 3, none⟩ = some (.string nm) ∧ w'.cell? ⟨w.heap.size, 0, none⟩ = some (.int .i64 f.id) ∧ Grew ((w.alloc (.cells #[.int .i64 f.id, .int .i64 f.owner, .bool f.shared, .int .i64 f.link, .slice fa f.attrs.length fc] 27)).alloc (.cells #[.int .i64 8, .int .i64 l, .int .i64 r, .string nm, .int .i64 v.kind, .int .i64 v.int, .string v.str] 47)) w'))) (by kernel_rfl) ?h2_S ?h2_r
      case h2_S => exact ⟨grew_cell (Grew.refl _).drew k3, grew_cell (Grew.refl _).drew kf0, (Grew.refl _).drew⟩
      case h2_r =>
        intro HS
        first | refine sk' 0 HS ?_ | refine tk' 0 HS ?_
        first | refine sk' 1 HS ?_ | refine tk' 1 HS ?_
        first | refine sk' 2 HS ?_ | refine tk' 2 HS ?_
        first | refine sk' 4 HS ?_ | refine tk' 4 HS ?_
        first | refine sk' 5 HS ?_ | refine tk' 5 HS ?_
        refine cl' 3 fun K hK => ?_
        go_simp
        go_at_call 48
        refine (implResultIDs _ rs nm _ (HR.out.grew (hg.trans (hal.trans HS.2.2))) hrl HRS.out).mono ?_
        rintro e w2 ⟨rv, rfl, hrv, hbq⟩
        have HRV := Lib.hid hrv
        obtain ⟨xa, xc, rfl⟩ := own_slice hrv
        clear hrv
        refine hK.out _ _ ?s2_3 ?r2_3
        case s2_3 => (try dsimp only); first | exact HS | exact held2 HS hbq
        case r2_3 =>
          clear HS hK K; intro HS
          try simp only [Act.put, lpa, lpb, lpc]
          refine cl' 6 fun K hK => ?_
          go_simp
          go_at_call 13
          refine (implContainsID _ _ (resIds rs nm) f.id _ (rd_of_own HRV.out) (resIds_small HRS.out)).mono ?_
          rintro e w3 ⟨rfl, rfl⟩
          refine hK.out _ _ ?s2_6 ?r2_6
          case s2_6 => (try dsimp only); first | exact HS | exact held2 HS hbq
          case r2_6 =>
            clear HS hK K; intro HS
            try simp only [Act.put, lpa, lpb, lpc]
            first | refine sk' 7 HS ?_ | refine tk' 7 HS ?_
            refine wpAnyH_done (by kernel_rfl) ?_ _
            refine NoPanic.normal ?_
            go_wp2
            go_ret
            refine ⟨ret_bool ?_, hal.trans HS.2.2⟩
            rw [HM.out]; rfl
    · have hcs : (f.link == 0) = true ∨ (f.link == 0) = false := by cases f.link == 0 <;> simp
      rcases hcs with hk | hk
      · have hk0 := hid
        have hk2 : (f.link != 0) = false := by unfold bne; rw [hk]; rfl
        obtain ⟨kf0, kf1, kf2, kf3, kf4, k0, k1, k2, k3, k4, k5, k6⟩ := nfCells w (.int .i64 f.id) (.int .i64 f.owner) (.bool f.shared) (.int .i64 f.link) (.slice fa f.attrs.length fc) (.int .i64 9) (.int .i64 l) (.int .i64 r) (.string nm) (.int .i64 v.kind) (.int .i64 v.int) (.string v.str)
        go_enter Try.func21, Try.ntmps21
        go_wp2_with fail
        refine wp_region_noPanic ?_
        refine wp_region_held_drew (S := (fun w' => (w'.cell? ⟨w.heap.size + 1, 3, none⟩ = some (.string nm) ∧ w'.cell? ⟨w.heap.size, 3, none⟩ = some (.int .i64 f.link) ∧ Grew ((w.alloc (.cells #[.int .i64 f.id, .int .i64 f.owner, .bool f.shared, .int .i64 f.link, .slice fa f.attrs.length fc] 27)).alloc (.cells #[.int .i64 9, .int .i64 l, .int .i64 r, .string nm, .int .i64 v.kind, .int .i64 v.int, .string v.str] 47)) w'))) (by kernel_rfl) ?h3_S ?h3_r
        case h3_S => exact ⟨grew_cell (Grew.refl _).drew k3, grew_cell (Grew.refl _).drew kf3, (Grew.refl _).drew⟩
        case h3_r =>
          intro HS
          first | refine sk' 0 HS ?_ | refine tk' 0 HS ?_
          first | refine sk' 1 HS ?_ | refine tk' 1 HS ?_
          first | refine sk' 2 HS ?_ | refine tk' 2 HS ?_
          first | refine sk' 3 HS ?_ | refine tk' 3 HS ?_
          first | refine sk' 4 HS ?_ | refine tk' 4 HS ?_
          first | refine sk' 5 HS ?_ | refine tk' 5 HS ?_
          first | refine sk' 6 HS ?_ | refine tk' 6 HS ?_
          first | refine sk' 8 HS ?_ | refine tk' 8 HS ?_
          first | refine sk' 9 HS ?_ | refine tk' 9 HS ?_
          refine cl' 7 fun K hK => ?_
          go_simp
          refine hK.out _ _ HS ?r3_7
          case r3_7 =>
            clear HS hK K; intro HS
            try simp only [Act.put, lpa, lpb, lpc]
            refine cl' 10 fun K hK => ?_
            go_simp
            refine hK.out _ _ HS ?r3_10
            case r3_10 =>
              clear HS hK K; intro HS
              try simp only [Act.put, lpa, lpb, lpc]
              first | refine sk' 11 HS ?_ | refine tk' 11 HS ?_
              first | refine sk' 12 HS ?_ | refine tk' 12 HS ?_
              refine wpAnyH_done (by kernel_rfl) ?_ _
              refine NoPanic.normal ?_
              go_wp2
              go_ret
              refine ⟨ret_bool ?_, hal.trans HS.2.2⟩
              rw [HM.out]; simp [hk]
      · have hk0 := hid
        have hk2 : (f.link != 0) = true := by unfold bne; rw [hk]; rfl
        have hk3 : ¬ (f.link = 0) := by simpa using hk
        obtain ⟨kf0, kf1, kf2, kf3, kf4, k0, k1, k2, k3, k4, k5, k6⟩ := nfCells w (.int .i64 f.id) (.int .i64 f.owner) (.bool f.shared) (.int .i64 f.link) (.slice fa f.attrs.length fc) (.int .i64 9) (.int .i64 l) (.int .i64 r) (.string nm) (.int .i64 v.kind) (.int .i64 v.int) (.string v.str)
        go_enter Try.func21, Try.ntmps21
        go_wp2_with fail
        refine wp_region_noPanic ?_
        refine wp_region_held_drew (S := (fun w' => (w'.cell? ⟨w.heap.size + 1, 3, none⟩ = some (.string nm) ∧ w'.cell? ⟨w.heap.size, 3, none⟩ = some (.int .i64 f.link) ∧ Grew ((w.alloc (.cells #[.int .i64 f.id, .int .i64 f.owner, .bool f.shared, .int .i64 f.link, .slice fa f.attrs.length fc] 27)).alloc (.cells #[.int .i64 9, .int .i64 l, .int .i64 r, .string nm, .int .i64 v.kind, .int .i64 v.int, .string v.str] 47)) w'))) (by kernel_rfl) ?h4_S ?h4_r
        case h4_S => exact ⟨grew_cell (Grew.refl _).drew k3, grew_cell (Grew.refl _).drew kf3, (Grew.refl _).drew⟩
        case h4_r =>
          intro HS
          first | refine sk' 0 HS ?_ | refine tk' 0 HS ?_
          first | refine sk' 1 HS ?_ | refine tk' 1 HS ?_
          first | refine sk' 2 HS ?_ | refine tk' 2 HS ?_
          first | refine sk' 3 HS ?_ | refine tk' 3 HS ?_
          first | refine sk' 4 HS ?_ | refine tk' 4 HS ?_
          first | refine sk' 5 HS ?_ | refine tk' 5 HS ?_
          first | refine sk' 6 HS ?_ | refine tk' 6 HS ?_
          first | refine sk' 8 HS ?_ | refine tk' 8 HS ?_
          first | refine sk' 9 HS ?_ | refine tk' 9 HS ?_
          refine cl' 7 fun K hK => ?_
          go_simp
          go_at_call 48
          refine (implResultIDs _ rs nm _ (HR.out.grew (hg.trans (hal.trans HS.2.2))) hrl HRS.out).mono ?_
          rintro e w2 ⟨rv, rfl, hrv, hbq⟩
          have HRV := Lib.hid hrv
          obtain ⟨xa, xc, rfl⟩ := own_slice hrv
          clear hrv
          refine hK.out _ _ ?s4_7 ?r4_7
          case s4_7 => (try dsimp only); first | exact HS | exact held2 HS hbq
          case r4_7 =>
            clear HS hK K; intro HS
            try simp only [Act.put, lpa, lpb, lpc]
            refine cl' 10 fun K hK => ?_
            go_simp
            go_at_call 13
            refine (implContainsID _ _ (resIds rs nm) f.link _ (rd_of_own HRV.out) (resIds_small HRS.out)).mono ?_
            rintro e w3 ⟨rfl, rfl⟩
            refine hK.out _ _ ?s4_10 ?r4_10
            case s4_10 => (try dsimp only); first | exact HS | exact held2 HS hbq
            case r4_10 =>
              clear HS hK K; intro HS
              try simp only [Act.put, lpa, lpb, lpc]
              first | refine sk' 11 HS ?_ | refine tk' 11 HS ?_
              first | refine sk' 12 HS ?_ | refine tk' 12 HS ?_
              refine wpAnyH_done (by kernel_rfl) ?_ _
              refine NoPanic.normal ?_
              go_wp2
              go_ret
              refine ⟨ret_bool ?_, hal.trans HS.2.2⟩
              rw [HM.out]; simp [hk]
noncomputable def matB (q : List N) (f : Fl) (rs : List Rs) : Bool := qryB q && matR q f rs q.length (q.length - 1)
theorem qry_pos {q : List N} (h : qryB q = true) : 0 < q.length := by
  unfold qryB at h
  simp only [Bool.and_eq_true] at h
  have := h.2
  unfold inB at this
  simp at this
  omega
set_option maxRecDepth 100000 in
set_option maxHeartbeats 1000000 in
theorem specMatches (va : Value) (q : List N) (f : Fl) (pf : P5) (vr : Value) (rs : List Rs) (w : World) (hq : Rd w va 7 q.length (rows N.c q)) (hf : Fl.R w f pf) (hr : RdRs w vr rs) (hql : q.length ≤ 4000000) (hz : szAll N.sz q ≤ 4000000) (hfs : f.small) (hrl : rs.length ≤ 4000000) (hrs : ∀ x, x ∈ rs → x.small) :
    Calls Try.prog 9 #[va, pf.v, vr] w fun e w' => e = .returned (.bool (matB q f rs)) ∧ Grew w w' := by
  have HQ := Lib.hid hq
  have HF := Lib.hid hf
  have HR := Lib.hid hr
  have HRS := Lib.hid hrs
  obtain ⟨a, ca, rfl, hca, hra⟩ := hq
  clear hra hrs
  obtain ⟨p1, p2, p3, p4, p5⟩ := pf
  clear hf
  obtain ⟨v, hv⟩ : ∃ v, qryB q = v := ⟨_, rfl⟩
  have HV := Lib.hid hv
  clear hv
  have hal := (Grew.refl w).alloc (.cells #[.int .i64 p1, .int .i64 p2, .bool p3, .int .i64 p4, p5] 27)
  have hcs : v = true ∨ v = false := by cases v <;> simp
  rcases hcs with rfl | rfl
  · have hp := Lib.hid (qry_pos HV.out)
    obtain ⟨k, hk⟩ : ∃ k, q.length = k + 1 := ⟨q.length - 1, by have := hp.out; omega⟩
    have HK := Lib.hid hk
    have e1 : ((q.length : Int) - 1) = ((k : Nat) : Int) := by omega
    have e2 : IntKind.i64.wrap (((k + 1 : Nat) : Int) - 1) = ((k : Nat) : Int) := by simp [IntKind.wrap, IntKind.bits, IntKind.signed]; omega
    have HM := Lib.hid (show matB q f rs = matR q f rs (k + 1) k by unfold matB; rw [HV.out, HK.out]; rfl)
    rw [hk] at hql
    have e3 : (((k + 1 : Nat) : Int) - 1) = ((k : Nat) : Int) := by omega
    obtain ⟨bm, hbm⟩ : ∃ b, matR q f rs (k + 1) k = b := ⟨_, rfl⟩
    have HBM := Lib.hid hbm
    have f0 : ∀ b : Value, (w.alloc (.cells #[.int .i64 p1, .int .i64 p2, .bool p3, .int .i64 p4, p5] 27)).cell? ⟨w.heap.size, 0, none⟩ = some (.int .i64 p1) := fun _ => by simp
    have f1 : (w.alloc (.cells #[.int .i64 p1, .int .i64 p2, .bool p3, .int .i64 p4, p5] 27)).cell? ⟨w.heap.size, 1, none⟩ = some (.int .i64 p2) := by simp
    have f2 : (w.alloc (.cells #[.int .i64 p1, .int .i64 p2, .bool p3, .int .i64 p4, p5] 27)).cell? ⟨w.heap.size, 2, none⟩ = some (.bool p3) := by simp
    have f3 : (w.alloc (.cells #[.int .i64 p1, .int .i64 p2, .bool p3, .int .i64 p4, p5] 27)).cell? ⟨w.heap.size, 3, none⟩ = some (.int .i64 p4) := by simp
    have f4 : (w.alloc (.cells #[.int .i64 p1, .int .i64 p2, .bool p3, .int .i64 p4, p5] 27)).cell? ⟨w.heap.size, 4, none⟩ = some p5 := by simp
    replace f0 := f0 (.bool true)
    have HQ2 := Lib.hid (show Rd w (.slice a (k + 1) ca) 7 (k + 1) (rows N.c q) by have := HQ.out; rw [hk] at this; exact this)
    rw [hk]
    clear hk e1 HQ hbm
    go_enter Try.func9, Try.ntmps9
    go_wp2_with (first | (go_at_call 14; refine (specIsValidQuery _ (k + 1) q _ (HQ2.out.grew hal) hql hz).mono ?_; rintro e w1 ⟨he, hb⟩; rw [HV.out] at he; subst he; have g0 := grew_cell hb f0; have g1 := grew_cell hb f1; have g2 := grew_cell hb f2; have g3 := grew_cell hb f3; have g4 := grew_cell hb f4) | (go_at_call 22; refine (specL14Node q f ⟨p1, p2, p3, p4, p5⟩ rs _ _ w (by rw [HK.out]; exact HQ2.out) HF.out HR.out (by rw [HK.out]; exact hql) HV.out hfs hrl HRS.out (k + 1) k _ (hal.trans hb) (Nat.lt_succ_self k) (by rw [HK.out]; exact Nat.lt_succ_self k)).mono ?_; rintro e w2 ⟨he, hb2⟩; rw [HBM.out] at he; subst he))
    go_ret
    exact ⟨ret_bool (by rw [HM.out, HBM.out]), (hal.trans hb).trans hb2⟩
  · have HM := Lib.hid (show matB q f rs = false by unfold matB; rw [HV.out]; rfl)
    go_enter Try.func9, Try.ntmps9
    go_wp2_with (go_at_call 14; refine (specIsValidQuery _ q.length q _ (HQ.out.grew hal) hql hz).mono ?_; rintro e w1 ⟨he, hb⟩; rw [HV.out] at he; subst he)
    go_ret
    exact ⟨ret_bool HM.out.symm, hal.trans hb⟩
set_option maxRecDepth 100000 in
set_option maxHeartbeats 1000000 in
theorem implMatches (va : Value) (q : List N) (f : Fl) (pf : P5) (vr : Value) (rs : List Rs) (w : World) (hq : Rd w va 7 q.length (rows N.c q)) (hf : Fl.R w f pf) (hr : RdRs w vr rs) (hql : q.length ≤ 4000000) (hz : szAll N.sz q ≤ 4000000) (hfs : f.small) (hrl : rs.length ≤ 4000000) (hrs : ∀ x, x ∈ rs → x.small) :
    Calls Try.prog 8 #[va, pf.v, vr] w fun e w' => e = .returned (.bool (matB q f rs)) ∧ Grew w w' := by
  have HQ := Lib.hid hq
  have HF := Lib.hid hf
  have HR := Lib.hid hr
  have HRS := Lib.hid hrs
  obtain ⟨a, ca, rfl, hca, hra⟩ := hq
  clear hra hrs
  obtain ⟨p1, p2, p3, p4, p5⟩ := pf
  clear hf
  obtain ⟨v, hv⟩ : ∃ v, qryB q = v := ⟨_, rfl⟩
  have HV := Lib.hid hv
  clear hv
  have hal := (Grew.refl w).alloc (.cells #[.int .i64 p1, .int .i64 p2, .bool p3, .int .i64 p4, p5] 27)
  have hcs : v = true ∨ v = false := by cases v <;> simp
  rcases hcs with rfl | rfl
  · have hp := Lib.hid (qry_pos HV.out)
    obtain ⟨k, hk⟩ : ∃ k, q.length = k + 1 := ⟨q.length - 1, by have := hp.out; omega⟩
    have HK := Lib.hid hk
    have e1 : ((q.length : Int) - 1) = ((k : Nat) : Int) := by omega
    have e2 : IntKind.i64.wrap (((k + 1 : Nat) : Int) - 1) = ((k : Nat) : Int) := by simp [IntKind.wrap, IntKind.bits, IntKind.signed]; omega
    have HM := Lib.hid (show matB q f rs = matR q f rs (k + 1) k by unfold matB; rw [HV.out, HK.out]; rfl)
    rw [hk] at hql
    have e3 : (((k + 1 : Nat) : Int) - 1) = ((k : Nat) : Int) := by omega
    obtain ⟨bm, hbm⟩ : ∃ b, matR q f rs (k + 1) k = b := ⟨_, rfl⟩
    have HBM := Lib.hid hbm
    have f0 : ∀ b : Value, (w.alloc (.cells #[.int .i64 p1, .int .i64 p2, .bool p3, .int .i64 p4, p5] 27)).cell? ⟨w.heap.size, 0, none⟩ = some (.int .i64 p1) := fun _ => by simp
    have f1 : (w.alloc (.cells #[.int .i64 p1, .int .i64 p2, .bool p3, .int .i64 p4, p5] 27)).cell? ⟨w.heap.size, 1, none⟩ = some (.int .i64 p2) := by simp
    have f2 : (w.alloc (.cells #[.int .i64 p1, .int .i64 p2, .bool p3, .int .i64 p4, p5] 27)).cell? ⟨w.heap.size, 2, none⟩ = some (.bool p3) := by simp
    have f3 : (w.alloc (.cells #[.int .i64 p1, .int .i64 p2, .bool p3, .int .i64 p4, p5] 27)).cell? ⟨w.heap.size, 3, none⟩ = some (.int .i64 p4) := by simp
    have f4 : (w.alloc (.cells #[.int .i64 p1, .int .i64 p2, .bool p3, .int .i64 p4, p5] 27)).cell? ⟨w.heap.size, 4, none⟩ = some p5 := by simp
    replace f0 := f0 (.bool true)
    have HQ2 := Lib.hid (show Rd w (.slice a (k + 1) ca) 7 (k + 1) (rows N.c q) by have := HQ.out; rw [hk] at this; exact this)
    rw [hk]
    clear hk e1 HQ hbm
    go_enter Try.func8, Try.ntmps8
    go_wp2_with (first | (go_at_call 20; refine (implIsValidQuery _ (k + 1) q _ (HQ2.out.grew hal) hql hz).mono ?_; rintro e w1 ⟨he, hb⟩; rw [HV.out] at he; subst he; have g0 := grew_cell hb f0; have g1 := grew_cell hb f1; have g2 := grew_cell hb f2; have g3 := grew_cell hb f3; have g4 := grew_cell hb f4) | (go_at_call 21; refine (implMatchesAt q f ⟨p1, p2, p3, p4, p5⟩ rs _ _ w (by rw [HK.out]; exact HQ2.out) HF.out HR.out (by rw [HK.out]; exact hql) HV.out hfs hrl HRS.out (k + 1) k _ (hal.trans hb) (Nat.lt_succ_self k) (by rw [HK.out]; exact Nat.lt_succ_self k)).mono ?_; rintro e w2 ⟨he, hb2⟩; rw [HBM.out] at he; subst he))
    go_ret
    exact ⟨ret_bool (by rw [HM.out, HBM.out]), (hal.trans hb).trans hb2⟩
  · have HM := Lib.hid (show matB q f rs = false by unfold matB; rw [HV.out]; rfl)
    go_enter Try.func8, Try.ntmps8
    go_wp2_with (go_at_call 20; refine (implIsValidQuery _ q.length q _ (HQ.out.grew hal) hql hz).mono ?_; rintro e w1 ⟨he, hb⟩; rw [HV.out] at he; subst he)
    go_ret
    exact ⟨ret_bool HM.out.symm, hal.trans hb⟩
end Go.Proofs.Ytodbohmbdgbheaa
namespace Go.Proofs.Ytodbohmbdgbheaa
open Go.RowKit Go.Sort
set_option linter.unusedVariables false
def refsTo (x : N) (j : Nat) : Prop := (x.op = 5 ∧ x.left.toNat = j) ∨ ((x.op = 6 ∨ x.op = 7) ∧ (x.left.toNat = j ∨ x.right.toNat = j))
theorem getD_set_ne {bs : List Bool} {i j : Nat} {b : Bool} (h : i ≠ j) : (bs.set i b).getD j false = bs.getD j false := by
  rw [List.getD_eq_getElem?_getD, List.getD_eq_getElem?_getD, List.getElem?_set_ne h]
theorem qry_len9 {q : List N} (h : qryB q = true) : q.length ≤ 9 := by
  unfold qryB at h
  simp only [Bool.and_eq_true] at h
  have h4 := h.2
  unfold inB at h4
  simp at h4
  omega
theorem kid {q : List N} (hq : qryB q = true) {p j : Nat} {x : N} (hx : q[p]? = some x) (hr : refsTo x j) : j < p ∧ 1 ≤ ref1 x j := by
  have h1 := qry_node hq hx
  have h2 := qry_len9 hq
  have h3 := (List.getElem?_eq_some_iff.1 hx).1
  obtain ⟨op, l, r, nm, v⟩ := x
  have hb := ref1_b ⟨op, l, r, nm, v⟩ j
  rcases hr with ⟨h5, hj⟩ | ⟨h67, hj⟩
  · simp only at h5 hj
    subst h5
    obtain ⟨a, rfl, ha⟩ := nod5 (by omega) h1
    simp at hj
    subst hj
    refine ⟨ha, ?_⟩
    unfold ref1; simp
  · simp only at h67 hj
    obtain ⟨a, b, rfl, rfl, ha, hb2⟩ := nod67 h67 (by omega) h1
    rcases hj with hj | hj
    · simp at hj
      subst hj
      refine ⟨ha, ?_⟩
      unfold ref1
      rcases h67 with rfl | rfl <;> simp <;> split <;> omega
    · simp at hj
      subst hj
      refine ⟨hb2, ?_⟩
      unfold ref1
      rcases h67 with rfl | rfl <;> simp <;> split <;> omega
end Go.Proofs.Ytodbohmbdgbheaa
namespace Go.Proofs.Ytodbohmbdgbheaa
open Go.RowKit
set_option linter.unusedVariables false
theorem qry_len {xs : List N} (h : qryB xs = true) : 1 ≤ xs.length ∧ xs.length ≤ 9 := by
  unfold qryB at h
  simp only [Bool.and_eq_true, inB, decide_eq_true_eq] at h
  omega
theorem nod5' {x : N} {p : Nat} (ho : x.op = 5) (hp : p < 4000000) (h : nodB x p (wrap64 ((p : Int) - 1)) = true) : ∃ j : Nat, x.left = j ∧ j < p := by
  obtain ⟨op, l, r, nm, v⟩ := x
  simp only at ho; subst ho
  exact nod5 hp h
theorem nod67' {x : N} {p : Nat} (ho : x.op = 6 ∨ x.op = 7) (hp : p < 4000000) (h : nodB x p (wrap64 ((p : Int) - 1)) = true) : ∃ j i : Nat, x.left = j ∧ x.right = i ∧ j < p ∧ i < p := by
  obtain ⟨op, l, r, nm, v⟩ := x
  exact nod67 ho hp h
theorem ref1_root {xs : List N} (h : qryB xs = true) {i : Nat} {x : N} (hx : xs[i]? = some x) : ref1 x ((xs.length : Int) - 1) = 0 := by
  have hn := qry_len h
  have hil := (List.getElem?_eq_some_iff.1 hx).1
  have hnod := qry_node h hx
  have hl : ∀ l : Int, (∃ j : Nat, l = j ∧ j < i) → (l == (xs.length : Int) - 1) = false := fun l ⟨j, h1, h2⟩ => by simp; omega
  unfold ref1
  by_cases h5 : x.op = 5
  · rw [hl _ (nod5' h5 (by omega) hnod), h5]; simp
  · by_cases h67 : x.op = 6 ∨ x.op = 7
    · obtain ⟨j, k, h1, h2, h3, h4⟩ := nod67' h67 (by omega) hnod
      rw [hl _ ⟨j, h1, h3⟩, hl _ ⟨k, h2, h4⟩]; simp
    · have e5 : (x.op == 5) = false := by simpa using h5
      have e6 : (x.op == 6) = false := by simp; omega
      have e7 : (x.op == 7) = false := by simp; omega
      rw [e5, e6, e7]; simp
theorem refs_zero (a : Int) : ∀ (xs : List N), (∀ x, x ∈ xs → ref1 x a = 0) → refs xs a = 0
  | [], _ => rfl
  | x :: xs, h => by
    have h1 := refs_zero a xs (fun y hy => h y (List.mem_cons_of_mem _ hy))
    unfold refs at h1 ⊢
    rw [List.map_cons, List.sum_cons, h x (List.mem_cons_self ..), h1]; rfl
theorem refs_root {xs : List N} (h : qryB xs = true) : refs xs ((xs.length : Int) - 1) = 0 :=
  refs_zero _ xs fun x hx => by
    obtain ⟨i, hi⟩ := List.getElem?_of_mem hx
    exact ref1_root h hi
theorem refs_one {xs : List N} (h : qryB xs = true) {i : Nat} (hi : i + 1 < xs.length) : refs xs (i : Int) = 1 := by
  have hx : xs[i]? = some xs[i] := List.getElem?_eq_getElem (by omega)
  have h1 := (qry_ex xs).choose_spec
  unfold qryB at h
  simp only [Bool.and_eq_true] at h
  have h2 := h1.1 h.1 i _ hx
  unfold qryAt at h2
  simp only [Bool.and_eq_true, Bool.or_eq_true, decide_eq_true_eq, beq_iff_eq] at h2
  rcases h2.2 with h3 | h3
  · omega
  · exact h3
end Go.Proofs.Ytodbohmbdgbheaa
namespace Go.Proofs.Ytodbohmbdgbheaa
open Go.RowKit
set_option linter.unusedVariables false
theorem refs_app (q l : List N) (a : Int) : refs (q ++ l) a = refs q a + refs l a := by
  induction l generalizing q with
  | nil => simp [refs]
  | cons x l ih =>
    rw [show q ++ x :: l = (q ++ [x]) ++ l by simp, ih, refs_snoc]
    unfold refs
    rw [List.map_cons, List.sum_cons]; omega
theorem qry_app {q l : List N} (h : qryB q = true) (hl : q.length + l.length ≤ 9) (ho : ∀ i : Nat, i + 1 < q.length → refs l i = 0) (hr : refs l ((q.length - 1 : Nat) : Int) = 1)
    (hn : ∀ (j : Nat) x, l[j]? = some x → nodB x ((q.length + j : Nat) : Int) (wrap64 (((q.length + j : Nat) : Int) - 1)) = true ∧ (j + 1 < l.length → refs q ((q.length + j : Nat) : Int) + refs l ((q.length + j : Nat) : Int) = 1)) : qryB (q ++ l) = true := by
  have hp := (qry_len h).1
  rw [qryB_yes]
  · unfold inB; simp only [List.length_append, Bool.and_eq_true, decide_eq_true_eq]; omega
  · intro i x hi hx
    rcases Nat.lt_or_ge i q.length with hlt | hge
    · rw [List.getElem?_append_left hlt] at hx
      have h1 := qry_node h hx
      unfold qryAt
      rw [h1, Bool.true_and, Bool.or_eq_true]
      right
      rw [refs_app, beq_iff_eq]
      rcases Nat.lt_or_ge (i + 1) q.length with h2 | h2
      · rw [refs_one h h2, ho i h2]; rfl
      · have e : i = q.length - 1 := by omega
        subst e
        rw [hr]
        have := refs_root h
        rw [show ((q.length - 1 : Nat) : Int) = (q.length : Int) - 1 by omega, this]; rfl
    · rw [List.getElem?_append_right hge] at hx
      have h1 := hn (i - q.length) x hx
      rw [show q.length + (i - q.length) = i by omega] at h1
      unfold qryAt
      rw [h1.1, Bool.true_and, Bool.or_eq_true]
      simp only [List.length_append] at hi ⊢
      rcases Nat.lt_or_ge (i + 1) (q.length + l.length) with h2 | h2
      · right
        rw [refs_app, beq_iff_eq]
        exact h1.2 (by omega)
      · left; simp only [decide_eq_true_eq]; omega
theorem mat_keep {q : List N} (h : qryB q = true) (l : List N) (f : Fl) (r : List Rs) : ∀ (d i e : Nat), i < q.length → i < d → i < e → matR (q ++ l) f r d i = matR q f r e i
  | 0, i, e, _, h0, _ => absurd h0 (Nat.not_lt_zero i)
  | d + 1, i, 0, _, _, h0 => absurd h0 (Nat.not_lt_zero i)
  | d + 1, i, e + 1, hi, hd, he => by
    have hx : q[i]? = some q[i] := List.getElem?_eq_getElem hi
    have hx2 : (q ++ l)[i]? = some q[i] := by rw [List.getElem?_append_left hi, hx]
    rw [matR_at hx, matR_at hx2]
    have K : ∀ j, refsTo q[i] j → matR (q ++ l) f r d j = matR q f r e j := fun j hj => by
      have := (kid h hx hj).1
      exact mat_keep h l f r d j e (by omega) (by omega) (by omega)
    by_cases h5 : q[i].op = 5
    · rw [K _ (.inl ⟨h5, rfl⟩)]; simp [h5]
    · by_cases h67 : q[i].op = 6 ∨ q[i].op = 7
      · rw [K _ (.inr ⟨h67, .inl rfl⟩), K _ (.inr ⟨h67, .inr rfl⟩)]
      · have h6 : ¬ q[i].op = 6 := fun e => h67 (.inl e)
        have h7 : ¬ q[i].op = 7 := fun e => h67 (.inr e)
        simp only [if_neg h5, if_neg h6, if_neg h7]
def nAll : N := ⟨1, 0, 0, ⟨#[]⟩, ⟨0, 0, ⟨#[]⟩⟩⟩
def nOne (op l r : Int) : N := ⟨op, l, r, ⟨#[]⟩, ⟨0, 0, ⟨#[]⟩⟩⟩
theorem mat_root {q : List N} {f : Fl} {r : List Rs} (h : qryB q = true) (l : List N) (d : Nat) (hd : q.length - 1 < d) : matR (q ++ l) f r d (q.length - 1) = matB q f r := by
  have hp := (qry_len h).1
  unfold matB
  rw [h, Bool.true_and]
  exact mat_keep h l f r d _ _ (by omega) hd (by omega)
theorem nod_not {n : Nat} (h : 1 ≤ n) (h9 : n ≤ 9) : nodB (nOne 5 ((n - 1 : Nat) : Int) 0) n (wrap64 ((n : Int) - 1)) = true := by
  have hw : wrap64 ((n : Int) - 1) = (n : Int) - 1 := by unfold wrap64; omega
  rw [hw]
  unfold nodB nOne inB eqV V.z
  simp
  omega
theorem nod_two {op : Int} (ho : op = 6 ∨ op = 7) {n : Nat} (h : 1 ≤ n) (h9 : n ≤ 8) : nodB (nOne op ((n - 1 : Nat) : Int) n) ((n + 1 : Nat) : Int) (wrap64 (((n + 1 : Nat) : Int) - 1)) = true := by
  have hw : wrap64 (((n + 1 : Nat) : Int) - 1) = (n : Int) := by unfold wrap64; omega
  rw [hw]
  unfold nodB nOne inB eqV V.z
  rcases ho with rfl | rfl <;> simp <;> omega
theorem nod_all (a m : Int) : nodB nAll a m = true := by
  unfold nodB nAll eqN eqV V.z; simp
theorem mat_not {q : List N} {f : Fl} {r : List Rs} (h : qryB q = true) (hl : q.length ≤ 7) : matB (q ++ [nOne 5 ((q.length - 1 : Nat) : Int) 0]) f r = !matB q f r := by
  have hp := (qry_len h).1
  have hq : qryB (q ++ [nOne 5 ((q.length - 1 : Nat) : Int) 0]) = true := by
    refine qry_app h (by simp; omega) (fun i hi => ?_) ?_ (fun j x hx => ?_)
    · unfold refs ref1 nOne; simp; omega
    · unfold refs ref1 nOne; simp
    · obtain rfl : j = 0 := by have := (List.getElem?_eq_some_iff.1 hx).1; simp at this; omega
      simp at hx; subst hx
      exact ⟨nod_not hp (by omega), fun h => absurd h (by simp)⟩
  conv => lhs; unfold matB
  rw [hq, Bool.true_and, List.length_append, List.length_singleton, Nat.add_sub_cancel]
  rw [matR_at (x := nOne 5 ((q.length - 1 : Nat) : Int) 0) (by simp)]
  rw [if_neg (by simp [nOne]), if_neg (by simp [nOne]), if_neg (by simp [nOne]), if_neg (by simp [nOne]), if_pos (show (nOne 5 ((q.length - 1 : Nat) : Int) 0).op = 5 from rfl)]
  rw [show (nOne 5 ((q.length - 1 : Nat) : Int) 0).left.toNat = q.length - 1 from Int.toNat_natCast _]
  rw [mat_root h _ _ (by omega)]
theorem mat_two {op : Int} (ho : op = 6 ∨ op = 7) {q : List N} {f : Fl} {r : List Rs} (h : qryB q = true) (hl : q.length ≤ 7) :
    matB (q ++ [nAll, nOne op ((q.length - 1 : Nat) : Int) q.length]) f r = (if op = 6 then matB q f r else true) := by
  have hp := (qry_len h).1
  have hq : qryB (q ++ [nAll, nOne op ((q.length - 1 : Nat) : Int) q.length]) = true := by
    refine qry_app h (by simp; omega) (fun i hi => ?_) ?_ (fun j x hx => ?_)
    · unfold refs ref1 nOne nAll; rcases ho with rfl | rfl <;> (simp; omega)
    · unfold refs ref1 nOne nAll; rcases ho with rfl | rfl <;> (simp; omega)
    · have hj : j = 0 ∨ j = 1 := by have := (List.getElem?_eq_some_iff.1 hx).1; simp at this; omega
      rcases hj with rfl | rfl
      · simp at hx; subst hx
        refine ⟨nod_all _ _, fun _ => ?_⟩
        have h0 : refs q ((q.length + 0 : Nat) : Int) = 0 := refs_zero _ q fun x hx => by
          obtain ⟨i, hi⟩ := List.getElem?_of_mem hx
          have hil := (List.getElem?_eq_some_iff.1 hi).1
          have hz := ref1_b x ((q.length + 0 : Nat) : Int)
          apply Classical.byContradiction
          intro hne
          have hr : refsTo x q.length := by
            unfold ref1 at hne
            unfold refsTo
            have hk : ∀ a : Int, (a == ((q.length + 0 : Nat) : Int)) = true → a.toNat = q.length := fun a ha => by simp at ha; omega
            by_cases h5 : x.op = 5
            · refine .inl ⟨h5, hk _ ?_⟩
              rw [h5] at hne
              cases he : (x.left == ((q.length + 0 : Nat) : Int)) with
              | true => rfl
              | false => rw [he] at hne; simp at hne
            · have h67 : x.op = 6 ∨ x.op = 7 := by
                apply Classical.byContradiction
                intro hc
                have a6 : (x.op == 6) = false := by simp; omega
                have a7 : (x.op == 7) = false := by simp; omega
                have a5 : (x.op == 5) = false := by simpa using h5
                rw [a5, a6, a7] at hne; simp at hne
              refine .inr ⟨h67, ?_⟩
              cases he : (x.left == ((q.length + 0 : Nat) : Int)) with
              | true => exact .inl (hk _ he)
              | false =>
                cases he2 : (x.right == ((q.length + 0 : Nat) : Int)) with
                | true => exact .inr (hk _ he2)
                | false => rw [he, he2] at hne; simp at hne
          have := (kid h hi hr).1
          omega
        rw [h0]
        unfold refs ref1 nOne nAll; rcases ho with rfl | rfl <;> (simp; try omega)
      · simp at hx; subst hx
        exact ⟨nod_two ho hp (by omega), fun h => absurd h (by simp)⟩
  conv => lhs; unfold matB
  rw [hq, Bool.true_and]
  have hlen : (q ++ [nAll, nOne op ((q.length - 1 : Nat) : Int) q.length]).length = q.length + 1 + 1 := by simp
  rw [hlen, Nat.add_sub_cancel]
  have hx1 : (q ++ [nAll, nOne op ((q.length - 1 : Nat) : Int) q.length])[q.length + 1]? = some (nOne op ((q.length - 1 : Nat) : Int) q.length) := by
    rw [List.getElem?_append_right (by omega), show q.length + 1 - q.length = 1 by omega]; rfl
  have hx0 : (q ++ [nAll, nOne op ((q.length - 1 : Nat) : Int) q.length])[q.length]? = some nAll := by
    rw [List.getElem?_append_right (by omega), Nat.sub_self]; rfl
  have e0 : matR (q ++ [nAll, nOne op ((q.length - 1 : Nat) : Int) q.length]) f r (q.length + 1) q.length = true := by
    rw [matR_at hx0]; rfl
  have er : matR (q ++ [nAll, nOne op ((q.length - 1 : Nat) : Int) q.length]) f r (q.length + 1) (q.length - 1) = matB q f r := mat_root h _ _ (by omega)
  rw [matR_at hx1]
  have el : (nOne op ((q.length - 1 : Nat) : Int) q.length).left.toNat = q.length - 1 := Int.toNat_natCast _
  have err : (nOne op ((q.length - 1 : Nat) : Int) q.length).right.toNat = q.length := Int.toNat_natCast _
  rw [el, err, e0, er]
  rcases ho with rfl | rfl
  · rw [if_neg (by simp [nOne]), if_neg (by simp [nOne]), if_neg (by simp [nOne]), if_neg (by simp [nOne]), if_neg (by simp [nOne]), if_pos (show (nOne 6 ((q.length - 1 : Nat) : Int) q.length).op = 6 from rfl), if_pos rfl, Bool.and_true]
  · rw [if_neg (by simp [nOne]), if_neg (by simp [nOne]), if_neg (by simp [nOne]), if_neg (by simp [nOne]), if_neg (by simp [nOne]), if_neg (by simp [nOne]), if_pos (show (nOne 7 ((q.length - 1 : Nat) : Int) q.length).op = 7 from rfl), if_neg (by decide), Bool.or_true]
theorem mat_and {q : List N} {f : Fl} {r : List Rs} (h : qryB q = true) (hl : q.length ≤ 7) : matB (q ++ [nAll, nOne 6 ((q.length - 1 : Nat) : Int) q.length]) f r = matB q f r := (mat_two (.inl rfl) h hl).trans (if_pos rfl)
theorem mat_or {q : List N} {f : Fl} {r : List Rs} (h : qryB q = true) (hl : q.length ≤ 7) : matB (q ++ [nAll, nOne 7 ((q.length - 1 : Nat) : Int) q.length]) f r = true := (mat_two (.inr rfl) h hl).trans (if_neg (by decide))
theorem mat_all (f : Fl) (r : List Rs) : matB [nAll] f r = true := by
  have hq : qryB [nAll] = true := by
    rw [qryB_yes]
    · rfl
    · intro i x hi hx
      obtain rfl : i = 0 := by simpa using hi
      simp at hx; subst hx
      unfold qryAt; rw [nod_all]; rfl
  unfold matB
  rw [hq, Bool.true_and]
  rw [show [nAll].length = 0 + 1 from rfl, matR_at (x := nAll) rfl]; rfl
end Go.Proofs.Ytodbohmbdgbheaa
namespace Go.Proofs.Ytodbohmbdgbheaa
open Go.RowKit
set_option linter.unusedVariables false
noncomputable def selL (q : List N) (fs : List Fl) (rs : List Rs) : List Int := (fs.filter fun f => matB q f rs).map Fl.id
theorem selL_len (q : List N) (fs : List Fl) (rs : List Rs) : (selL q fs rs).length ≤ fs.length := by unfold selL; rw [List.length_map]; exact List.length_filter_le _ _
theorem selL_tk (q : List N) (fs : List Fl) (rs : List Rs) (k : Nat) : (selL q (fs.take k) rs).length ≤ k := Nat.le_trans (selL_len _ _ _) (by rw [List.length_take]; omega)
theorem selL_yes {q : List N} {fs : List Fl} {rs : List Rs} {k : Nat} {f : Fl} (h : fs[k]? = some f) (hm : matB q f rs = true) : selL q (fs.take (k + 1)) rs = selL q (fs.take k) rs ++ [f.id] := by
  rw [take_snoc h]; unfold selL; rw [List.filter_append, List.map_append]; simp [hm]
theorem selL_no {q : List N} {fs : List Fl} {rs : List Rs} {k : Nat} {f : Fl} (h : fs[k]? = some f) (hm : matB q f rs = false) : selL q (fs.take (k + 1)) rs = selL q (fs.take k) rs := by
  rw [take_snoc h]; unfold selL; rw [List.filter_append, List.map_append]; simp [hm]
set_option maxRecDepth 100000 in
set_option maxHeartbeats 2000000 in
theorem specSelectFiles (s : St) (p : PS) (va : Value) (q : List N) (vr : Value) (rs : List Rs) (w : World) (hs : St.R w s p) (hq : Rd w va 7 q.length (rows N.c q)) (hr : RdRs w vr rs) (hfl : s.files.length ≤ 4000000) (hfm : ∀ y, y ∈ s.files → y.small) (hql : q.length ≤ 4000000) (hz : szAll N.sz q ≤ 4000000) (hrl : rs.length ≤ 4000000) (hrs : ∀ x, x ∈ rs → x.small) :
    Calls Try.prog 11 #[p.v, va, vr] w fun e w' => ∃ v, e = .returned v ∧ w'.ownsRow w.heap.size 3 1 v (selL q s.files rs).length (ints (selL q s.files rs)) ∧ Grew w w' := by
  obtain ⟨p_q, p_r, p_n⟩ := p
  obtain ⟨hsq, hsr, hsn⟩ := hs
  simp only at hsq hsr hsn
  subst hsn
  have HSR := Lib.hid hsq
  clear hsq
  have HQ := Lib.hid hq
  have HR := Lib.hid hr
  have HFM := Lib.hid hfm
  have HRS := Lib.hid hrs
  obtain ⟨ps, ⟨a, ca, rfl, hca, hra⟩, hall⟩ := hsr
  have HA := Lib.hid hall
  obtain ⟨qa, qc, rfl, hqc, hqr⟩ := hq
  obtain ⟨rps, ⟨ra, rca, rfl, hrc, hrr⟩, hrall⟩ := hr
  clear hall hqr hrr hrall hqc hrc hfm hrs
  generalize hn : s.files.length = n at hfl hra hca
  have HX := Lib.hid hn
  clear hn
  obtain ⟨i0, hi, hz0, hz1, hz2⟩ := info_parts Try.infoInt
  have hg0 := (Grew.refl w).alloc (.cells #[p_q, .slice a n ca, .int .i64 s.next] 34)
  have bx1 : (w.alloc (.cells #[p_q, .slice a n ca, .int .i64 s.next] 34)).cell? ⟨w.heap.size, 1, none⟩ = some (.slice a n ca) := by simp
  have hw0 : w.heap.size ≤ (w.alloc (.cells #[p_q, .slice a n ca, .int .i64 s.next] 34)).heap.size := by simp
  go_enter Try.func11, Try.ntmps11
  go_wp2
  go_loopw [7, 8] (fun v i wr => ∃ k : Nat, k ≤ n ∧ i = .int .i64 k ∧ Hid (wr.ownsRow (w.alloc (.cells #[p_q, .slice a n ca, .int .i64 s.next] 34)).heap.size 3 1 v (selL q (s.files.take k) rs).length (ints (selL q (s.files.take k) rs))) ∧ Grew (w.alloc (.cells #[p_q, .slice a n ca, .int .i64 s.next] 34)) wr) (fun _ i _ => n - (intOf i).toNat)
  case atStart => exact ⟨0, Nat.zero_le _, rfl, Lib.hid (by have h := lit_own (w.alloc (.cells #[p_q, .slice a n ca, .int .i64 s.next] 34)) 3 1; simpa [selL] using h), (Grew.refl _).alloc _⟩
  case round =>
    obtain ⟨k, hk, rfl, hown, hbel⟩ := hrel
    have e1 := grew_cell hbel bx1
    have hnl := selL_tk q s.files rs k
    by_cases hlt : k < n
    · obtain ⟨b1, o1, p5, rfl, hpk, c0, c1, c2, c3, c4⟩ := (hra.grew (hg0.trans hbel)).getP5 hlt
      obtain ⟨f, hfk, hfr⟩ := HA.out.get hpk.out
      have hfs := HFM.out f (List.mem_of_getElem? hfk.out)
      have HF := Lib.hid hfr
      obtain ⟨pi, po, psh, pl, pa⟩ := p5
      obtain ⟨h1, h2, h3, h4, h5⟩ := hfr
      simp only at h1 h2 h3 h4 h5 c0 c1 c2 c3 c4
      subst h1 h2 h3 h4
      obtain ⟨fa, fc, rfl, h6, h7⟩ := h5
      clear h6 h7
      have HFS := Lib.hid hfs
      obtain ⟨v, hv⟩ : ∃ v, matB q f rs = v := ⟨_, rfl⟩
      have HV := Lib.hid hv
      clear hv
      have hcs : v = true ∨ v = false := by cases v <;> simp
      rcases hcs with rfl | rfl
      · go_wp2_with (first | (go_at_call 9; refine (specMatches _ q f ⟨f.id, f.owner, f.shared, f.link, .slice fa f.attrs.length fc⟩ _ rs _ (HQ.out.grew (hg0.trans hbel)) (HF.out.grew (hg0.trans hbel)) (HR.out.grew (hg0.trans hbel)) hql hz hfs (by omega) HRS.out).mono ?_; rintro e w2 ⟨he, hb⟩; rw [HV.out] at he; subst he; have d0 := grew_cell hb c0; have d1 := grew_cell hb e1) | (at_builtin; refine wpList_append_own _ rfl _ _ 37 rfl _ 3 i0 (.int .i64 0) 1 8 Try.underlying37 hi hz0 hz1 hz2 rfl (by decide) _ _ _ rfl ((ownsRow_grew hown.out hb).alloc _) ⟨_, 0, none⟩ 1 1 [.int .i64 f.id] rfl rfl (cell_one_new _ _ _) (fun x hx => by simp at hx; subst hx; rfl) (by unfold maxLen; omega) (by omega) (by have := (hbel.trans hb).size; simp at this ⊢; omega) ?_; intro v' w' hown' hgr _))
        go_roundw
        case rel =>
          refine ⟨k + 1, by omega, by go_num, Lib.hid ?_, ((hbel.trans hb).alloc _).grown hgr (fun g h => (hown.out.lt g h).1)⟩
          rw [selL_yes hfk.out HV.out]; simpa using hown'
        case measure => simp [intOf]; omega
      · go_wp2_with (go_at_call 9; refine (specMatches _ q f ⟨f.id, f.owner, f.shared, f.link, .slice fa f.attrs.length fc⟩ _ rs _ (HQ.out.grew (hg0.trans hbel)) (HF.out.grew (hg0.trans hbel)) (HR.out.grew (hg0.trans hbel)) hql hz hfs (by omega) HRS.out).mono ?_; rintro e w2 ⟨he, hb⟩; rw [HV.out] at he; subst he; have d0 := grew_cell hb c0; have d1 := grew_cell hb e1)
        go_roundw
        case rel =>
          refine ⟨k + 1, by omega, by go_num, Lib.hid ?_, (hbel.trans hb)⟩
          rw [selL_no hfk.out HV.out]; exact (ownsRow_grew hown.out hb)
        case measure => simp [intOf]; omega
    · obtain rfl : k = n := by omega
      go_wp2
      go_ret
      refine ⟨_, rfl, ?_, hg0.trans hbel⟩
      have := hown.out
      rw [take_all HX.out] at this
      exact ownsRow_base this hw0
set_option maxRecDepth 100000 in
set_option maxHeartbeats 2000000 in
theorem implSelectFiles (s : St) (p : PS) (va : Value) (q : List N) (vr : Value) (rs : List Rs) (w : World) (hs : St.R w s p) (hq : Rd w va 7 q.length (rows N.c q)) (hr : RdRs w vr rs) (hfl : s.files.length ≤ 4000000) (hfm : ∀ y, y ∈ s.files → y.small) (hql : q.length ≤ 4000000) (hz : szAll N.sz q ≤ 4000000) (hrl : rs.length ≤ 4000000) (hrs : ∀ x, x ∈ rs → x.small) :
    Calls Try.prog 7 #[p.v, va, vr] w fun e w' => ∃ v, e = .returned v ∧ w'.ownsRow w.heap.size 3 1 v (selL q s.files rs).length (ints (selL q s.files rs)) ∧ Grew w w' := by
  obtain ⟨p_q, p_r, p_n⟩ := p
  obtain ⟨hsq, hsr, hsn⟩ := hs
  simp only at hsq hsr hsn
  subst hsn
  have HSR := Lib.hid hsq
  clear hsq
  have HQ := Lib.hid hq
  have HR := Lib.hid hr
  have HFM := Lib.hid hfm
  have HRS := Lib.hid hrs
  obtain ⟨ps, ⟨a, ca, rfl, hca, hra⟩, hall⟩ := hsr
  have HA := Lib.hid hall
  obtain ⟨qa, qc, rfl, hqc, hqr⟩ := hq
  obtain ⟨rps, ⟨ra, rca, rfl, hrc, hrr⟩, hrall⟩ := hr
  clear hall hqr hrr hrall hqc hrc hfm hrs
  generalize hn : s.files.length = n at hfl hra hca
  have HX := Lib.hid hn
  clear hn
  obtain ⟨i0, hi, hz0, hz1, hz2⟩ := info_parts Try.infoInt
  have hg0 := (Grew.refl w).alloc (.cells #[p_q, .slice a n ca, .int .i64 s.next] 34)
  have bx1 : (w.alloc (.cells #[p_q, .slice a n ca, .int .i64 s.next] 34)).cell? ⟨w.heap.size, 1, none⟩ = some (.slice a n ca) := by simp
  have hw0 : w.heap.size ≤ (w.alloc (.cells #[p_q, .slice a n ca, .int .i64 s.next] 34)).heap.size := by simp
  go_enter Try.func7, Try.ntmps7
  go_wp2
  go_loopw [7, 14] (fun v i wr => ∃ k : Nat, k ≤ n ∧ i = .int .i64 k ∧ Hid (wr.ownsRow (w.alloc (.cells #[p_q, .slice a n ca, .int .i64 s.next] 34)).heap.size 3 1 v (selL q (s.files.take k) rs).length (ints (selL q (s.files.take k) rs))) ∧ Grew (w.alloc (.cells #[p_q, .slice a n ca, .int .i64 s.next] 34)) wr) (fun _ i _ => n - (intOf i).toNat)
  case atStart => exact ⟨0, Nat.zero_le _, rfl, Lib.hid (by have h := lit_own (w.alloc (.cells #[p_q, .slice a n ca, .int .i64 s.next] 34)) 3 1; simpa [selL] using h), (Grew.refl _).alloc _⟩
  case round =>
    obtain ⟨k, hk, rfl, hown, hbel⟩ := hrel
    have e1 := grew_cell hbel bx1
    have hnl := selL_tk q s.files rs k
    by_cases hlt : k < n
    · obtain ⟨b1, o1, p5, rfl, hpk, c0, c1, c2, c3, c4⟩ := (hra.grew (hg0.trans hbel)).getP5 hlt
      obtain ⟨f, hfk, hfr⟩ := HA.out.get hpk.out
      have hfs := HFM.out f (List.mem_of_getElem? hfk.out)
      have HF := Lib.hid hfr
      obtain ⟨pi, po, psh, pl, pa⟩ := p5
      obtain ⟨h1, h2, h3, h4, h5⟩ := hfr
      simp only at h1 h2 h3 h4 h5 c0 c1 c2 c3 c4
      subst h1 h2 h3 h4
      obtain ⟨fa, fc, rfl, h6, h7⟩ := h5
      clear h6 h7
      have HFS := Lib.hid hfs
      have hal := (Grew.refl wr).alloc (.cells #[.int .i64 f.id, .int .i64 f.owner, .bool f.shared, .int .i64 f.link, .slice fa f.attrs.length fc] 27)
      have bf0 : (wr.alloc (.cells #[.int .i64 f.id, .int .i64 f.owner, .bool f.shared, .int .i64 f.link, .slice fa f.attrs.length fc] 27)).cell? ⟨wr.heap.size, 0, none⟩ = some (.int .i64 f.id) := by simp
      obtain ⟨v, hv⟩ : ∃ v, matB q f rs = v := ⟨_, rfl⟩
      have HV := Lib.hid hv
      clear hv
      have hcs : v = true ∨ v = false := by cases v <;> simp
      rcases hcs with rfl | rfl
      · go_wp2_with (first | (go_at_call 8; refine (implMatches _ q f ⟨f.id, f.owner, f.shared, f.link, .slice fa f.attrs.length fc⟩ _ rs _ (HQ.out.grew (hg0.trans (hbel.alloc (.cells #[.int .i64 f.id, .int .i64 f.owner, .bool f.shared, .int .i64 f.link, .slice fa f.attrs.length fc] 27)))) (HF.out.grew (hg0.trans (hbel.alloc (.cells #[.int .i64 f.id, .int .i64 f.owner, .bool f.shared, .int .i64 f.link, .slice fa f.attrs.length fc] 27)))) (HR.out.grew (hg0.trans (hbel.alloc (.cells #[.int .i64 f.id, .int .i64 f.owner, .bool f.shared, .int .i64 f.link, .slice fa f.attrs.length fc] 27)))) hql hz hfs (by omega) HRS.out).mono ?_; rintro e w2 ⟨he, hb⟩; rw [HV.out] at he; subst he; have d0 := grew_cell hb bf0) | (at_builtin; refine wpList_append_own _ rfl _ _ 37 rfl _ 3 i0 (.int .i64 0) 1 8 Try.underlying37 hi hz0 hz1 hz2 rfl (by decide) _ _ _ rfl ((ownsRow_grew hown.out ((Grew.refl wr).alloc (.cells #[.int .i64 f.id, .int .i64 f.owner, .bool f.shared, .int .i64 f.link, .slice fa f.attrs.length fc] 27) |>.trans hb)).alloc _) ⟨_, 0, none⟩ 1 1 [.int .i64 f.id] rfl rfl (cell_one_new _ _ _) (fun x hx => by simp at hx; subst hx; rfl) (by unfold maxLen; omega) (by omega) (by have := ((hbel.alloc (.cells #[.int .i64 f.id, .int .i64 f.owner, .bool f.shared, .int .i64 f.link, .slice fa f.attrs.length fc] 27)).trans hb).size; simp at this ⊢; omega) ?_; intro v' w' hown' hgr _))
        go_roundw
        case rel =>
          refine ⟨k + 1, by omega, by go_num, Lib.hid ?_, (((hbel.alloc (.cells #[.int .i64 f.id, .int .i64 f.owner, .bool f.shared, .int .i64 f.link, .slice fa f.attrs.length fc] 27)).trans hb).alloc _).grown hgr (fun g h => (hown.out.lt g h).1)⟩
          rw [selL_yes hfk.out HV.out]; simpa using hown'
        case measure => simp [intOf]; omega
      · go_wp2_with (go_at_call 8; refine (implMatches _ q f ⟨f.id, f.owner, f.shared, f.link, .slice fa f.attrs.length fc⟩ _ rs _ (HQ.out.grew (hg0.trans (hbel.alloc (.cells #[.int .i64 f.id, .int .i64 f.owner, .bool f.shared, .int .i64 f.link, .slice fa f.attrs.length fc] 27)))) (HF.out.grew (hg0.trans (hbel.alloc (.cells #[.int .i64 f.id, .int .i64 f.owner, .bool f.shared, .int .i64 f.link, .slice fa f.attrs.length fc] 27)))) (HR.out.grew (hg0.trans (hbel.alloc (.cells #[.int .i64 f.id, .int .i64 f.owner, .bool f.shared, .int .i64 f.link, .slice fa f.attrs.length fc] 27)))) hql hz hfs (by omega) HRS.out).mono ?_; rintro e w2 ⟨he, hb⟩; rw [HV.out] at he; subst he; have d0 := grew_cell hb bf0)
        go_roundw
        case rel =>
          refine ⟨k + 1, by omega, by go_num, Lib.hid ?_, ((hbel.alloc (.cells #[.int .i64 f.id, .int .i64 f.owner, .bool f.shared, .int .i64 f.link, .slice fa f.attrs.length fc] 27)).trans hb)⟩
          rw [selL_no hfk.out HV.out]; exact (ownsRow_grew hown.out ((Grew.refl wr).alloc (.cells #[.int .i64 f.id, .int .i64 f.owner, .bool f.shared, .int .i64 f.link, .slice fa f.attrs.length fc] 27) |>.trans hb))
        case measure => simp [intOf]; omega
    · obtain rfl : k = n := by omega
      go_wp2
      go_ret
      refine ⟨_, rfl, ?_, hg0.trans hbel⟩
      have := hown.out
      rw [take_all HX.out] at this
      exact ownsRow_base this hw0
end Go.Proofs.Ytodbohmbdgbheaa
namespace Go.Proofs.Ytodbohmbdgbheaa
theorem j3 : (Try.pinned.checked.prog.mayEnter && ((Rows.fnMatchBooleanRow.lifted == Try.pinned.checked.prog.liftsFinal) && (Try.pinned.checked.prog.make == some Rows.fnMatchBooleanRow.make))) = true := by kernel_rfl
theorem j_may : Try.pinned.checked.prog.mayEnter = true := (Bool.and_eq_true_iff.1 j3).1
theorem j_lift : Try.pinned.checked.prog.liftsFinal = Rows.fnMatchBooleanRow.lifted := (eq_of_beq (Bool.and_eq_true_iff.1 (Bool.and_eq_true_iff.1 j3).2).1).symm
theorem j_make : Try.pinned.checked.prog.make = some Rows.fnMatchBooleanRow.make := eq_of_beq (Bool.and_eq_true_iff.1 (Bool.and_eq_true_iff.1 j3).2).2
end Go.Proofs.Ytodbohmbdgbheaa
namespace Go.Proofs.Ytodbohmbdgbheaa
open Go.ChangeShapes Go.WideShapes Go.ChangeAt Go.RowKit
open Go.ChangeMaps (open_string shut_string)
set_option linter.unusedVariables false
theorem own : ownKnob Try.prog.godebug = none := by kernel_rfl
theorem laidOut : laidOutB Try.prog = true := by kernel_rfl
theorem list_of {α : Type} {Q : Nat → α → Prop} : ∀ (n : Nat), (∀ i, i < n → ∃ a, Q i a) → ∃ xs : List α, xs.length = n ∧ ∀ i a, xs[i]? = some a → Q i a := by
  intro n
  induction n with
  | zero => intro _; exact ⟨[], rfl, fun i a h => by simp at h⟩
  | succ n ih =>
    intro h
    obtain ⟨xs, hl, hx⟩ := ih (fun i hi => h i (by omega))
    obtain ⟨a, ha⟩ := h n (by omega)
    refine ⟨xs ++ [a], by simp [hl], fun i b hb => ?_⟩
    by_cases hi : i < n
    · rw [List.getElem?_append_left (by omega)] at hb; exact hx i b hb
    · rw [List.getElem?_append_right (by omega)] at hb
      have : i = n := by
        have := (List.getElem?_eq_some_iff.1 hb).1
        simp at this; omega
      subst this
      rw [hl, Nat.sub_self] at hb
      simp at hb; subst hb; exact ha
theorem mapM_get {α β : Type} (f : α → Option β) : ∀ (l : List α) (r : List β), l.mapM f = some r → r.length = l.length ∧ ∀ (i : Nat) (a : α), l[i]? = some a → f a = r[i]? := by
  intro l
  induction l with
  | nil => intro r h; simp at h; subst h; exact ⟨rfl, fun i a h => by simp at h⟩
  | cons x l ih =>
    intro r h
    rw [List.mapM_cons] at h
    cases hx : f x with
    | none => simp [hx] at h
    | some y =>
      cases hl : l.mapM f with
      | none => simp [hx, hl] at h
      | some ys =>
        simp [hx, hl] at h
        subst h
        obtain ⟨h1, h2⟩ := ih ys hl
        refine ⟨by simp [h1], fun i a ha => ?_⟩
        cases i with
        | zero => simp at ha; subst ha; simpa using hx
        | succ i => simpa using h2 i a (by simpa using ha)
section
variable {H : Type} {enc : TypeId × Value → H} {P : Program} {w : World} {base : Nat} {spare : Nat → Bool} {held : Bool}
theorem open_rows {α : Type} {f : α → List Value} {ok : α → Prop} {t e : TypeId} {k fuel : Nat} {v : Value} {x : DataW H × List MemPlace} (ht : P.underlying t = some (.slice e)) (hk : P.cellsOf e = k) (h0 : 0 < k) (hf : ∀ a, (f a).length = k)
    (hE : ∀ n cs y, DataW.trod enc P w base spare held n e cs = some y → ∃ a, cs = f a ∧ ok a) (h : DataW.trod enc P w base spare held fuel t [v] = some x) :
    ∃ n xs, Rd w v k n (rows f xs) ∧ n ≤ maxLen ∧ ∀ a, a ∈ xs → ok a := by
  rcases Deep.open_slice ht h with ⟨hv, _⟩ | ⟨a, len, cap, m, n, D, Pl, hv, _, hl, hm, rfl, _, hel⟩
  · simp at hv; subst hv
    exact ⟨0, [], ⟨none, 0, rfl, Nat.le_refl _, by simp [rows], fun h => absurd h (by omega)⟩, Nat.zero_le _, fun a h => by simp at h⟩
  · simp at hv; subst hv
    have hlm : len ≤ (if spare a.block then cap else len) := by split <;> omega
    have hx : ∀ i, i < len → ∃ z, (ok z ∧ w.cells? base (a.add (i * k)) k = some (f z)) := by
      intro i hi
      obtain ⟨cs, hc, ht'⟩ := hel i (by omega)
      obtain ⟨z, rfl, hz⟩ := hE _ _ _ ht'
      rw [hk] at hc
      exact ⟨z, hz, hc⟩
    obtain ⟨xs, hxl, hxs⟩ := list_of len hx
    refine ⟨len, xs, ⟨some a, cap, rfl, hl, by rw [rows_length hf, hxl], fun hn => ?_⟩, by omega, fun z hz => ?_⟩
    · have cell : ∀ i z, xs[i]? = some z → ∀ j u, (f z)[j]? = some u → w.cell? (a.add (i * k + j)) = some u := by
        intro i z hi j u hu
        have hc := (hxs i z hi).2
        unfold World.cells? at hc
        split at hc
        · obtain ⟨h1, h2⟩ := mapM_get _ _ _ hc
          have hj : j < k := by rw [← hf z]; exact (List.getElem?_eq_some_iff.1 hu).1
          have := h2 j j (by rw [List.getElem?_range hj])
          rw [hu] at this
          rw [← this]
          congr 1
          simp only [Addr.add]
          by_cases h3 : i * k = 0
          · by_cases h4 : j = 0
            · simp [h3, h4]
            · simp [h3]
          · by_cases h4 : j = 0
            · simp [h4]
            · simp [h3, h4]; omega
        · cases hc
      obtain ⟨b, o, s⟩ := a
      have hs : s = none := by
        have h1 := cell 0 xs[0] (List.getElem?_eq_getElem (by omega)) 0 _ (List.getElem?_eq_getElem (by rw [hf]; exact h0))
        simpa [Addr.add] using World.cell?_spot h1
      subst hs
      refine ⟨b, o, rfl, fun j hj => ?_⟩
      have hd : j / k < len := (Nat.div_lt_iff_lt_mul h0).2 hj
      have hmd := Nat.mod_lt j h0
      have he : j = j / k * k + j % k := by rw [Nat.mul_comm]; exact (Nat.div_add_mod j k).symm
      have hg : xs[j / k]? = some (xs[j / k]'(by omega)) := List.getElem?_eq_getElem (by omega)
      have hu : (f (xs[j / k]'(by omega)))[j % k]? = some ((f (xs[j / k]'(by omega)))[j % k]'(by rw [hf]; exact hmd)) := List.getElem?_eq_getElem (by rw [hf]; exact hmd)
      have h1 := cell _ _ hg _ _ hu
      have h2 := rows_at hf xs (j / k) (j % k) _ hg hmd
      rw [← he] at h1 h2
      rw [h2, hu, ← h1]
      congr 1
      simp only [Addr.add]
      by_cases hz : j = 0
      · simp [hz]
      · simp [hz]
    · obtain ⟨i, hi, rfl⟩ := List.getElem_of_mem hz
      exact (hxs i _ (List.getElem?_eq_getElem hi)).1
theorem rows_one {α : Type} (f : α → Value) (xs : List α) : rows (fun a => [f a]) xs = xs.map f := by
  induction xs with
  | nil => rfl
  | cons x xs ih => rw [rows_cons, ih]; rfl
end
def I64 (n : Int) : Prop := -9223372036854775808 ≤ n ∧ n ≤ 9223372036854775807
def V.ok (x : V) : Prop := I64 x.kind ∧ I64 x.int ∧ x.str.size ≤ maxLen
def N.ok (x : N) : Prop := I64 x.op ∧ I64 x.left ∧ I64 x.right ∧ x.name.size ≤ maxLen ∧ x.val.ok
def Fd.ok (x : Fd) : Prop := x.name.size ≤ maxLen ∧ I64 x.kind
def At.ok (x : At) : Prop := x.name.size ≤ maxLen ∧ x.val.ok
section
variable {H : Type} {enc : TypeId × Value → H} {w : World} {base : Nat} {spare : Nat → Bool} {held : Bool}
end
end Go.Proofs.Ytodbohmbdgbheaa
namespace Go.Proofs.Ytodbohmbdgbheaa
open Go.ChangeShapes Go.WideShapes Go.ChangeAt Go.RowKit
open Go.ChangeMaps (open_string shut_string)
set_option linter.unusedVariables false
section
variable {H : Type} {enc : TypeId × Value → H} {w : World} {base : Nat} {spare : Nat → Bool} {held : Bool}
theorem getU {n : Nat} {cs : List Value} {y : DataW H × List MemPlace} (h : DataW.trod enc Try.prog w base spare held n 5 cs = some y) : ∃ a : Int, cs = [.int .u8 a] ∧ 0 ≤ a ∧ a ≤ 255 := by
  obtain ⟨a, rfl, _, hw⟩ := DataW.trod_int Try.underlying5 h
  exact ⟨a, rfl, by simpa [Lit.wf, IntKind.min, IntKind.max, IntKind.signed, IntKind.bits] using hw⟩
theorem open_bytes {fuel : Nat} {v : Value} {x : DataW H × List MemPlace} (h : DataW.trod enc Try.prog w base spare held fuel 22 [v] = some x) :
    ∃ n, ∃ xs : List Int, Rd w v 1 n (xs.map (Value.int .u8)) ∧ n ≤ maxLen ∧ ∀ a : Int, a ∈ xs → 0 ≤ a ∧ a ≤ 255 := by
  obtain ⟨n, xs, h1, h2⟩ := open_rows (f := fun a => [Value.int .u8 a]) (ok := fun a : Int => 0 ≤ a ∧ a ≤ 255) Try.underlying22 (by kernel_rfl) (by decide) (fun _ => rfl) (fun n cs y h => getU h) h
  exact ⟨n, xs, by rw [rows_one] at h1; exact h1, h2⟩
end
end Go.Proofs.Ytodbohmbdgbheaa
