/- Texts M3, M4, Y3, Y4, as far as they are needed. -/
import Derived.Test.YtemikjbfjhebnaaGreatNi9
import Derived.Test.YtemikjbfjhebnaaGreatNi1
import Derived.Test.YtemikjbfjhebnaaGreatNi6
namespace Go.Proofs.YtemikjbfjhebnaaGreat
open Go.RowKit
set_option linter.unusedVariables false
theorem nfCells (w : World) (a b c d e x0 x1 x2 x3 x4 x5 x6 : Value) :
    let W := (w.alloc (.cells #[a, b, c, d, e] 55)).alloc (.cells #[x0, x1, x2, x3, x4, x5, x6] 70)
    W.cell? ⟨w.heap.size, 0, none⟩ = some a ∧ W.cell? ⟨w.heap.size, 1, none⟩ = some b ∧ W.cell? ⟨w.heap.size, 2, none⟩ = some c ∧ W.cell? ⟨w.heap.size, 3, none⟩ = some d ∧ W.cell? ⟨w.heap.size, 4, none⟩ = some e ∧ W.cell? ⟨w.heap.size + 1, 0, none⟩ = some x0 ∧ W.cell? ⟨w.heap.size + 1, 1, none⟩ = some x1 ∧ W.cell? ⟨w.heap.size + 1, 2, none⟩ = some x2 ∧ W.cell? ⟨w.heap.size + 1, 3, none⟩ = some x3 ∧ W.cell? ⟨w.heap.size + 1, 4, none⟩ = some x4 ∧ W.cell? ⟨w.heap.size + 1, 5, none⟩ = some x5 ∧ W.cell? ⟨w.heap.size + 1, 6, none⟩ = some x6 := by
  refine ⟨?_, ?_, ?_, ?_, ?_, ?_, ?_, ?_, ?_, ?_, ?_, ?_⟩
  iterate 5 exact grew_cell ((Grew.refl _).alloc _) (by simp)
  all_goals simp [go_sem]
set_option maxRecDepth 100000 in
set_option maxHeartbeats 2000000 in
theorem implMatchesAt (q : List N) (f : Fl) (pf : P5) (rs : List Rs) (va vr : Value) (W0 : World) (hq : Rd W0 va 7 q.length (rows N.c q)) (hf : Fl.R W0 f pf) (hr : RdRs W0 vr rs) (hql : q.length ≤ 4000000) (hv : qryB q = true) (hfs : f.small) (hrl : rs.length ≤ 4000000) (hrs : ∀ x, x ∈ rs → x.small) :
    ∀ (d i : Nat) (w : World), Grew W0 w → i < d → i < q.length → Calls Tryz.prog 122 #[va, .int .i64 i, pf.v, vr] w fun e w' => e = .returned (.bool (matR q f rs d i)) ∧ Grew w w' := by
  have HQ := Lib.hid hq
  have HF := Lib.hid hf
  have HR := Lib.hid hr
  have HV := Lib.hid hv
  have HRS := Lib.hid hrs
  obtain ⟨a, ca, rfl, hca, hra⟩ := hq
  obtain ⟨_, ⟨ra, rca, rfl, _, hrr⟩, hall⟩ := hr
  obtain ⟨p1, p2, p3, p4, p5⟩ := pf
  obtain ⟨h1, h2, h3, h4, h5⟩ := hf
  simp only at h1 h2 h3 h4 h5
  subst h1; subst h2; subst h3; subst h4
  obtain ⟨fa, fc, rfl, hfc, hfr⟩ := h5
  clear hrr hall hfr hv hrs
  intro d
  induction d with
  | zero => intro i w _ h; omega
  | succ d ih =>
    intro i w hg hid hlt
    have IH := Lib.hid ih
    clear ih
    obtain ⟨b1, o1, x, rfl, hxk, c0, c1, c2, c3, c4, c5, c6⟩ := (hra.grew hg).getN hlt
    have hnode := qry_node HV.out hxk.out
    have hop := nod_op hnode
    have HN := Lib.hid hnode
    have HM := Lib.hid (matR_at (f := f) (r := rs) (d := d) hxk.out)
    clear hnode
    obtain ⟨op, l, r, nm, v⟩ := x
    simp only at c0 c1 c2 c3 c4 c5 c6 hop
    simp only at HM
    have hal1 := (Grew.refl w).alloc (.cells #[.int .i64 f.id, .int .i64 f.owner, .bool f.shared, .int .i64 f.link, .slice fa f.attrs.length fc] 55)
    have e0 := grew_cell hal1 c0
    have e1 := grew_cell hal1 c1
    have e2 := grew_cell hal1 c2
    have e3 := grew_cell hal1 c3
    have e4 := grew_cell hal1 c4
    have e5 := grew_cell hal1 c5
    have e6 := grew_cell hal1 c6
    obtain ⟨gv, hgv⟩ : ∃ g, getA f.attrs nm = g := ⟨_, rfl⟩
    have HG := Lib.hid hgv
    rw [hgv] at HM
    clear hgv
    have hal := ((Grew.refl w).alloc (.cells #[.int .i64 f.id, .int .i64 f.owner, .bool f.shared, .int .i64 f.link, .slice fa f.attrs.length fc] 55)).alloc (.cells #[.int .i64 op, .int .i64 l, .int .i64 r, .string nm, .int .i64 v.kind, .int .i64 v.int, .string v.str] 70)
    rcases hop with rfl | rfl | rfl | rfl | rfl | rfl | rfl | rfl | rfl
    · have hz0 := hid
      obtain ⟨kf0, kf1, kf2, kf3, kf4, k0, k1, k2, k3, k4, k5, k6⟩ := nfCells w (.int .i64 f.id) (.int .i64 f.owner) (.bool f.shared) (.int .i64 f.link) (.slice fa f.attrs.length fc) (.int .i64 1) (.int .i64 l) (.int .i64 r) (.string nm) (.int .i64 v.kind) (.int .i64 v.int) (.string v.str)
      go_enter Tryz.func122, Tryz.ntmps122
      go_wp2
      go_ret
      exact ⟨ret_bool (by rw [HM.out]; rfl), hal⟩
    · have hfd : ∀ (a b c : Value) (w : World), (Instr.field 68 (.agg #[a, b, c]) 0).run Tryz.prog w = .ok a w := fun _ _ _ _ => by with_unfolding_all rfl
      obtain ⟨kf0, kf1, kf2, kf3, kf4, k0, k1, k2, k3, k4, k5, k6⟩ := nfCells w (.int .i64 f.id) (.int .i64 f.owner) (.bool f.shared) (.int .i64 f.link) (.slice fa f.attrs.length fc) (.int .i64 2) (.int .i64 l) (.int .i64 r) (.string nm) (.int .i64 v.kind) (.int .i64 v.int) (.string v.str)
      go_enter Tryz.func122, Tryz.ntmps122
      go_wp2_with (go_at_call 133; refine (implGetAttr f ⟨f.id, f.owner, f.shared, f.link, .slice fa f.attrs.length fc⟩ nm _ (HF.out.grew (hg.trans hal)) hfs).mono ?_; rintro e w1 ⟨he, hb⟩; rw [HG.out] at he; have he2 : e = .returned (.agg #[.int .i64 gv.kind, .int .i64 gv.int, .string gv.str]) := he; subst he2)
      go_ret
      exact ⟨ret_bool (by rw [HM.out]; rfl), hal.trans hb⟩
    · have hE := fun w => runEqV gv v w
      obtain ⟨kf0, kf1, kf2, kf3, kf4, k0, k1, k2, k3, k4, k5, k6⟩ := nfCells w (.int .i64 f.id) (.int .i64 f.owner) (.bool f.shared) (.int .i64 f.link) (.slice fa f.attrs.length fc) (.int .i64 3) (.int .i64 l) (.int .i64 r) (.string nm) (.int .i64 v.kind) (.int .i64 v.int) (.string v.str)
      go_enter Tryz.func122, Tryz.ntmps122
      go_wp2_with fail
      refine wp_region_noPanic ?_
      refine wp_region_held_drew (S := (fun w' => (w'.cell? ⟨w.heap.size, 0, none⟩ = some (.int .i64 f.id) ∧ w'.cell? ⟨w.heap.size, 1, none⟩ = some (.int .i64 f.owner) ∧ w'.cell? ⟨w.heap.size, 2, none⟩ = some (.bool f.shared) ∧ w'.cell? ⟨w.heap.size, 3, none⟩ = some (.int .i64 f.link) ∧ w'.cell? ⟨w.heap.size, 4, none⟩ = some (.slice fa f.attrs.length fc) ∧ w'.cell? ⟨w.heap.size + 1, 3, none⟩ = some (.string nm) ∧ w'.cell? ⟨w.heap.size + 1, 4, none⟩ = some (.int .i64 v.kind) ∧ w'.cell? ⟨w.heap.size + 1, 5, none⟩ = some (.int .i64 v.int) ∧ w'.cell? ⟨w.heap.size + 1, 6, none⟩ = some (.string v.str) ∧ Grew ((w.alloc (.cells #[.int .i64 f.id, .int .i64 f.owner, .bool f.shared, .int .i64 f.link, .slice fa f.attrs.length fc] 55)).alloc (.cells #[.int .i64 3, .int .i64 l, .int .i64 r, .string nm, .int .i64 v.kind, .int .i64 v.int, .string v.str] 70)) w'))) (by kernel_rfl) ?h1_S ?h1_r
      case h1_S => exact ⟨kf0, kf1, kf2, kf3, kf4, k3, k4, k5, k6, (Grew.refl _).drew⟩
      case h1_r =>
        intro HS
        first | refine sk' 0 HS ?_ | refine tk' 0 HS ?_
        first | refine sk' 1 HS ?_ | refine tk' 1 HS ?_
        first | refine sk' 2 HS ?_ | refine tk' 2 HS ?_
        first | refine sk' 4 HS ?_ | refine tk' 4 HS ?_
        first | refine sk' 5 HS ?_ | refine tk' 5 HS ?_
        refine cl' 3 fun K hK => ?_
        go_simp
        go_at_call 133
        refine (implGetAttr f ⟨f.id, f.owner, f.shared, f.link, .slice fa f.attrs.length fc⟩ nm _ (HF.out.grew (hg.trans (hal.trans HS.2.2.2.2.2.2.2.2.2))) hfs).mono ?_
        rintro e w1 ⟨he, hb⟩
        rw [HG.out] at he
        subst he
        refine hK.out _ _ ?s1_3 ?r1_3
        case s1_3 => (try dsimp only); exact ⟨grew_cell hb HS.1, grew_cell hb HS.2.1, grew_cell hb HS.2.2.1, grew_cell hb HS.2.2.2.1, grew_cell hb HS.2.2.2.2.1, grew_cell hb HS.2.2.2.2.2.1, grew_cell hb HS.2.2.2.2.2.2.1, grew_cell hb HS.2.2.2.2.2.2.2.1, grew_cell hb HS.2.2.2.2.2.2.2.2.1, HS.2.2.2.2.2.2.2.2.2.trans hb⟩
        case r1_3 =>
          clear HS hK K; intro HS
          try simp only [Act.put, lpa, lpb, lpc]
          first | refine sk' 6 HS ?_ | refine tk' 6 HS ?_
          first | refine sk' 7 HS ?_ | refine tk' 7 HS ?_
          refine wpAnyH_done (by kernel_rfl) ?_ _
          refine NoPanic.normal ?_
          go_wp2
          go_ret
          refine ⟨ret_bool ?_, hal.trans HS.2.2.2.2.2.2.2.2.2⟩
          rw [HM.out]; rfl
    · obtain ⟨ti, hti⟩ : ∃ t, (if gv.kind = 1 then gv.int else 0) = t := ⟨_, rfl⟩
      obtain ⟨tb, htb⟩ : ∃ t, (gv.kind == 1) = t := ⟨_, rfl⟩
      have HTI := Lib.hid hti
      have HTB := Lib.hid htb
      clear hti htb
      have hcs : tb = true ∨ tb = false := by cases tb <;> simp
      rcases hcs with rfl | rfl
      · have hz0 := hid
        obtain ⟨kf0, kf1, kf2, kf3, kf4, k0, k1, k2, k3, k4, k5, k6⟩ := nfCells w (.int .i64 f.id) (.int .i64 f.owner) (.bool f.shared) (.int .i64 f.link) (.slice fa f.attrs.length fc) (.int .i64 4) (.int .i64 l) (.int .i64 r) (.string nm) (.int .i64 v.kind) (.int .i64 v.int) (.string v.str)
        go_enter Tryz.func122, Tryz.ntmps122
        go_wp2_with (go_at_call 134; refine (implIntAttr f ⟨f.id, f.owner, f.shared, f.link, .slice fa f.attrs.length fc⟩ nm _ (HF.out.grew (hg.trans hal)) hfs).mono ?_; rintro e w1 ⟨he, hb⟩; rw [HG.out, HTI.out, HTB.out] at he; subst he; have c9 := grew_cell hb k5)
        go_ret
        refine ⟨ret_bool ?_, hal.trans hb⟩
        have h1 := HTB.out
        have h2 := HTI.out
        rw [if_pos (by simpa using h1)] at h2; rw [HM.out]; simp [h1, h2]
      · have hz0 := hid
        obtain ⟨kf0, kf1, kf2, kf3, kf4, k0, k1, k2, k3, k4, k5, k6⟩ := nfCells w (.int .i64 f.id) (.int .i64 f.owner) (.bool f.shared) (.int .i64 f.link) (.slice fa f.attrs.length fc) (.int .i64 4) (.int .i64 l) (.int .i64 r) (.string nm) (.int .i64 v.kind) (.int .i64 v.int) (.string v.str)
        go_enter Tryz.func122, Tryz.ntmps122
        go_wp2_with (go_at_call 134; refine (implIntAttr f ⟨f.id, f.owner, f.shared, f.link, .slice fa f.attrs.length fc⟩ nm _ (HF.out.grew (hg.trans hal)) hfs).mono ?_; rintro e w1 ⟨he, hb⟩; rw [HG.out, HTI.out, HTB.out] at he; subst he; have c9 := grew_cell hb k5)
        go_ret
        refine ⟨ret_bool ?_, hal.trans hb⟩
        have h1 := HTB.out
        have h2 := HTI.out
        rw [HM.out]; simp [h1]
    · obtain ⟨j, rfl, hj⟩ := nod5 (by omega) HN.out
      obtain ⟨bl, hbl⟩ : ∃ b, matR q f rs d j = b := ⟨_, rfl⟩
      have HBL := Lib.hid hbl
      clear hbl
      obtain ⟨kf0, kf1, kf2, kf3, kf4, k0, k1, k2, k3, k4, k5, k6⟩ := nfCells w (.int .i64 f.id) (.int .i64 f.owner) (.bool f.shared) (.int .i64 f.link) (.slice fa f.attrs.length fc) (.int .i64 5) (.int .i64 j) (.int .i64 r) (.string nm) (.int .i64 v.kind) (.int .i64 v.int) (.string v.str)
      go_enter Tryz.func122, Tryz.ntmps122
      go_wp2_with (go_at_call 122; refine (IH.out j _ (hg.trans hal) (by omega) (by omega)).mono ?_; rintro e w2 ⟨he2, hb2⟩; rw [HBL.out] at he2; subst he2)
      go_ret
      refine ⟨ret_bool ?_, hal.trans hb2⟩
      rw [HM.out, ← HBL.out]; rfl
    · obtain ⟨j, i2, rfl, rfl, hj, hi2⟩ := nod67 (by omega) (by omega) HN.out
      obtain ⟨bl, hbl⟩ : ∃ b, matR q f rs d j = b := ⟨_, rfl⟩
      obtain ⟨br, hbr⟩ : ∃ b, matR q f rs d i2 = b := ⟨_, rfl⟩
      have HBL := Lib.hid hbl
      have HBR := Lib.hid hbr
      clear hbl hbr
      have hcs : bl = true ∨ bl = false := by cases bl <;> simp
      rcases hcs with rfl | rfl
      · have hk0 := hj
        obtain ⟨kf0, kf1, kf2, kf3, kf4, k0, k1, k2, k3, k4, k5, k6⟩ := nfCells w (.int .i64 f.id) (.int .i64 f.owner) (.bool f.shared) (.int .i64 f.link) (.slice fa f.attrs.length fc) (.int .i64 6) (.int .i64 j) (.int .i64 i2) (.string nm) (.int .i64 v.kind) (.int .i64 v.int) (.string v.str)
        go_enter Tryz.func122, Tryz.ntmps122
        go_wp2_with (first | (go_at_call 122; with_reducible refine (IH.out j _ (hg.trans hal) (by omega) (by omega)).mono ?_; rintro e w2 ⟨he2, hb2⟩; rw [HBL.out] at he2; subst he2; have m0 := grew_cell hb2 k0; have m1 := grew_cell hb2 k1; have m2 := grew_cell hb2 k2; have m3 := grew_cell hb2 k3; have m4 := grew_cell hb2 k4; have m5 := grew_cell hb2 k5; have m6 := grew_cell hb2 k6; have mf0 := grew_cell hb2 kf0; have mf1 := grew_cell hb2 kf1; have mf2 := grew_cell hb2 kf2; have mf3 := grew_cell hb2 kf3; have mf4 := grew_cell hb2 kf4) | (go_at_call 122; with_reducible refine (IH.out i2 _ (hg.trans (hal.trans hb2)) (by omega) (by omega)).mono ?_; rintro e w3 ⟨he3, hb3⟩; rw [HBR.out] at he3; subst he3))
        go_ret
        refine ⟨ret_bool ?_, hal.trans (hb2.trans hb3)⟩
        rw [HM.out]; simp [HBL.out, HBR.out]
      · have hk0 := hj
        obtain ⟨kf0, kf1, kf2, kf3, kf4, k0, k1, k2, k3, k4, k5, k6⟩ := nfCells w (.int .i64 f.id) (.int .i64 f.owner) (.bool f.shared) (.int .i64 f.link) (.slice fa f.attrs.length fc) (.int .i64 6) (.int .i64 j) (.int .i64 i2) (.string nm) (.int .i64 v.kind) (.int .i64 v.int) (.string v.str)
        go_enter Tryz.func122, Tryz.ntmps122
        go_wp2_with (first | (go_at_call 122; with_reducible refine (IH.out j _ (hg.trans hal) (by omega) (by omega)).mono ?_; rintro e w2 ⟨he2, hb2⟩; rw [HBL.out] at he2; subst he2; have m0 := grew_cell hb2 k0; have m1 := grew_cell hb2 k1; have m2 := grew_cell hb2 k2; have m3 := grew_cell hb2 k3; have m4 := grew_cell hb2 k4; have m5 := grew_cell hb2 k5; have m6 := grew_cell hb2 k6; have mf0 := grew_cell hb2 kf0; have mf1 := grew_cell hb2 kf1; have mf2 := grew_cell hb2 kf2; have mf3 := grew_cell hb2 kf3; have mf4 := grew_cell hb2 kf4) | fail)
        go_ret
        refine ⟨ret_bool ?_, hal.trans hb2⟩
        rw [HM.out]; simp [HBL.out]
    · obtain ⟨j, i2, rfl, rfl, hj, hi2⟩ := nod67 (by omega) (by omega) HN.out
      obtain ⟨bl, hbl⟩ : ∃ b, matR q f rs d j = b := ⟨_, rfl⟩
      obtain ⟨br, hbr⟩ : ∃ b, matR q f rs d i2 = b := ⟨_, rfl⟩
      have HBL := Lib.hid hbl
      have HBR := Lib.hid hbr
      clear hbl hbr
      have hcs : bl = true ∨ bl = false := by cases bl <;> simp
      rcases hcs with rfl | rfl
      · have hk0 := hj
        obtain ⟨kf0, kf1, kf2, kf3, kf4, k0, k1, k2, k3, k4, k5, k6⟩ := nfCells w (.int .i64 f.id) (.int .i64 f.owner) (.bool f.shared) (.int .i64 f.link) (.slice fa f.attrs.length fc) (.int .i64 7) (.int .i64 j) (.int .i64 i2) (.string nm) (.int .i64 v.kind) (.int .i64 v.int) (.string v.str)
        go_enter Tryz.func122, Tryz.ntmps122
        go_wp2_with (first | (go_at_call 122; with_reducible refine (IH.out j _ (hg.trans hal) (by omega) (by omega)).mono ?_; rintro e w2 ⟨he2, hb2⟩; rw [HBL.out] at he2; subst he2; have m0 := grew_cell hb2 k0; have m1 := grew_cell hb2 k1; have m2 := grew_cell hb2 k2; have m3 := grew_cell hb2 k3; have m4 := grew_cell hb2 k4; have m5 := grew_cell hb2 k5; have m6 := grew_cell hb2 k6; have mf0 := grew_cell hb2 kf0; have mf1 := grew_cell hb2 kf1; have mf2 := grew_cell hb2 kf2; have mf3 := grew_cell hb2 kf3; have mf4 := grew_cell hb2 kf4) | fail)
        go_ret
        refine ⟨ret_bool ?_, hal.trans hb2⟩
        rw [HM.out]; simp [HBL.out]
      · have hk0 := hj
        obtain ⟨kf0, kf1, kf2, kf3, kf4, k0, k1, k2, k3, k4, k5, k6⟩ := nfCells w (.int .i64 f.id) (.int .i64 f.owner) (.bool f.shared) (.int .i64 f.link) (.slice fa f.attrs.length fc) (.int .i64 7) (.int .i64 j) (.int .i64 i2) (.string nm) (.int .i64 v.kind) (.int .i64 v.int) (.string v.str)
        go_enter Tryz.func122, Tryz.ntmps122
        go_wp2_with (first | (go_at_call 122; with_reducible refine (IH.out j _ (hg.trans hal) (by omega) (by omega)).mono ?_; rintro e w2 ⟨he2, hb2⟩; rw [HBL.out] at he2; subst he2; have m0 := grew_cell hb2 k0; have m1 := grew_cell hb2 k1; have m2 := grew_cell hb2 k2; have m3 := grew_cell hb2 k3; have m4 := grew_cell hb2 k4; have m5 := grew_cell hb2 k5; have m6 := grew_cell hb2 k6; have mf0 := grew_cell hb2 kf0; have mf1 := grew_cell hb2 kf1; have mf2 := grew_cell hb2 kf2; have mf3 := grew_cell hb2 kf3; have mf4 := grew_cell hb2 kf4) | (go_at_call 122; with_reducible refine (IH.out i2 _ (hg.trans (hal.trans hb2)) (by omega) (by omega)).mono ?_; rintro e w3 ⟨he3, hb3⟩; rw [HBR.out] at he3; subst he3))
        go_ret
        refine ⟨ret_bool ?_, hal.trans (hb2.trans hb3)⟩
        rw [HM.out]; simp [HBL.out, HBR.out]
    · have hk0 := hid
      obtain ⟨kf0, kf1, kf2, kf3, kf4, k0, k1, k2, k3, k4, k5, k6⟩ := nfCells w (.int .i64 f.id) (.int .i64 f.owner) (.bool f.shared) (.int .i64 f.link) (.slice fa f.attrs.length fc) (.int .i64 8) (.int .i64 l) (.int .i64 r) (.string nm) (.int .i64 v.kind) (.int .i64 v.int) (.string v.str)
      go_enter Tryz.func122, Tryz.ntmps122
      go_wp2_with fail
      refine wp_region_noPanic ?_
      refine wp_region_held_drew (S := (fun w' => (w'.cell? ⟨w.heap.size + 1, 3, none⟩ = some (.string nm) ∧ w'.cell? ⟨w.heap.size, 0, none⟩ = some (.int .i64 f.id) ∧ Grew ((w.alloc (.cells #[.int .i64 f.id, .int .i64 f.owner, .bool f.shared, .int .i64 f.link, .slice fa f.attrs.length fc] 55)).alloc (.cells #[.int .i64 8, .int .i64 l, .int .i64 r, .string nm, .int .i64 v.kind, .int .i64 v.int, .string v.str] 70)) w'))) (by kernel_rfl) ?h2_S ?h2_r
      case h2_S => exact ⟨grew_cell (Grew.refl _).drew k3, grew_cell (Grew.refl _).drew kf0, (Grew.refl _).drew⟩
      case h2_r =>
        intro HS
        first | refine sk' 0 HS ?_ | refine tk' 0 HS ?_
        first | refine sk' 1 HS ?_ | refine tk' 1 HS ?_
        first | refine sk' 2 HS ?_ | refine tk' 2 HS ?_
        first | refine sk' 4 HS ?_ | refine tk' 4 HS ?_
        first | refine sk' 5 HS ?_ | refine tk' 5 HS ?_
        refine cl' 3 fun K hK => ?_
        go_simp
        go_at_call 25
        refine (implResultIDs _ rs nm _ (HR.out.grew (hg.trans (hal.trans HS.2.2))) hrl HRS.out).mono ?_
        rintro e w2 ⟨rv, rfl, hrv, hbq⟩
        have HRV := Lib.hid hrv
        obtain ⟨xa, xc, rfl⟩ := own_slice hrv
        clear hrv
        refine hK.out _ _ ?s2_3 ?r2_3
        case s2_3 => (try dsimp only); first | exact HS | exact held2 HS hbq
        case r2_3 =>
          clear HS hK K; intro HS
          try simp only [Act.put, lpa, lpb, lpc]
          refine cl' 6 fun K hK => ?_
          go_simp
          go_at_call 135
          refine (implContainsID _ _ (resIds rs nm) f.id _ (rd_of_own HRV.out) (resIds_small HRS.out)).mono ?_
          rintro e w3 ⟨rfl, rfl⟩
          refine hK.out _ _ ?s2_6 ?r2_6
          case s2_6 => (try dsimp only); first | exact HS | exact held2 HS hbq
          case r2_6 =>
            clear HS hK K; intro HS
            try simp only [Act.put, lpa, lpb, lpc]
            first | refine sk' 7 HS ?_ | refine tk' 7 HS ?_
            refine wpAnyH_done (by kernel_rfl) ?_ _
            refine NoPanic.normal ?_
            go_wp2
            go_ret
            refine ⟨ret_bool ?_, hal.trans HS.2.2⟩
            rw [HM.out]; rfl
    · have hcs : (f.link == 0) = true ∨ (f.link == 0) = false := by cases f.link == 0 <;> simp
      rcases hcs with hk | hk
      · have hk0 := hid
        have hk2 : (f.link != 0) = false := by unfold bne; rw [hk]; rfl
        obtain ⟨kf0, kf1, kf2, kf3, kf4, k0, k1, k2, k3, k4, k5, k6⟩ := nfCells w (.int .i64 f.id) (.int .i64 f.owner) (.bool f.shared) (.int .i64 f.link) (.slice fa f.attrs.length fc) (.int .i64 9) (.int .i64 l) (.int .i64 r) (.string nm) (.int .i64 v.kind) (.int .i64 v.int) (.string v.str)
        go_enter Tryz.func122, Tryz.ntmps122
        go_wp2_with fail
        refine wp_region_noPanic ?_
        refine wp_region_held_drew (S := (fun w' => (w'.cell? ⟨w.heap.size + 1, 3, none⟩ = some (.string nm) ∧ w'.cell? ⟨w.heap.size, 3, none⟩ = some (.int .i64 f.link) ∧ Grew ((w.alloc (.cells #[.int .i64 f.id, .int .i64 f.owner, .bool f.shared, .int .i64 f.link, .slice fa f.attrs.length fc] 55)).alloc (.cells #[.int .i64 9, .int .i64 l, .int .i64 r, .string nm, .int .i64 v.kind, .int .i64 v.int, .string v.str] 70)) w'))) (by kernel_rfl) ?h3_S ?h3_r
        case h3_S => exact ⟨grew_cell (Grew.refl _).drew k3, grew_cell (Grew.refl _).drew kf3, (Grew.refl _).drew⟩
        case h3_r =>
          intro HS
          first | refine sk' 0 HS ?_ | refine tk' 0 HS ?_
          first | refine sk' 1 HS ?_ | refine tk' 1 HS ?_
          first | refine sk' 2 HS ?_ | refine tk' 2 HS ?_
          first | refine sk' 3 HS ?_ | refine tk' 3 HS ?_
          first | refine sk' 4 HS ?_ | refine tk' 4 HS ?_
          first | refine sk' 5 HS ?_ | refine tk' 5 HS ?_
          first | refine sk' 6 HS ?_ | refine tk' 6 HS ?_
          first | refine sk' 8 HS ?_ | refine tk' 8 HS ?_
          first | refine sk' 9 HS ?_ | refine tk' 9 HS ?_
          refine cl' 7 fun K hK => ?_
          go_simp
          refine hK.out _ _ HS ?r3_7
          case r3_7 =>
            clear HS hK K; intro HS
            try simp only [Act.put, lpa, lpb, lpc]
            refine cl' 10 fun K hK => ?_
            go_simp
            refine hK.out _ _ HS ?r3_10
            case r3_10 =>
              clear HS hK K; intro HS
              try simp only [Act.put, lpa, lpb, lpc]
              first | refine sk' 11 HS ?_ | refine tk' 11 HS ?_
              first | refine sk' 12 HS ?_ | refine tk' 12 HS ?_
              refine wpAnyH_done (by kernel_rfl) ?_ _
              refine NoPanic.normal ?_
              go_wp2
              go_ret
              refine ⟨ret_bool ?_, hal.trans HS.2.2⟩
              rw [HM.out]; simp [hk]
      · have hk0 := hid
        have hk2 : (f.link != 0) = true := by unfold bne; rw [hk]; rfl
        have hk3 : ¬ (f.link = 0) := by simpa using hk
        obtain ⟨kf0, kf1, kf2, kf3, kf4, k0, k1, k2, k3, k4, k5, k6⟩ := nfCells w (.int .i64 f.id) (.int .i64 f.owner) (.bool f.shared) (.int .i64 f.link) (.slice fa f.attrs.length fc) (.int .i64 9) (.int .i64 l) (.int .i64 r) (.string nm) (.int .i64 v.kind) (.int .i64 v.int) (.string v.str)
        go_enter Tryz.func122, Tryz.ntmps122
        go_wp2_with fail
        refine wp_region_noPanic ?_
        refine wp_region_held_drew (S := (fun w' => (w'.cell? ⟨w.heap.size + 1, 3, none⟩ = some (.string nm) ∧ w'.cell? ⟨w.heap.size, 3, none⟩ = some (.int .i64 f.link) ∧ Grew ((w.alloc (.cells #[.int .i64 f.id, .int .i64 f.owner, .bool f.shared, .int .i64 f.link, .slice fa f.attrs.length fc] 55)).alloc (.cells #[.int .i64 9, .int .i64 l, .int .i64 r, .string nm, .int .i64 v.kind, .int .i64 v.int, .string v.str] 70)) w'))) (by kernel_rfl) ?h4_S ?h4_r
        case h4_S => exact ⟨grew_cell (Grew.refl _).drew k3, grew_cell (Grew.refl _).drew kf3, (Grew.refl _).drew⟩
        case h4_r =>
          intro HS
          first | refine sk' 0 HS ?_ | refine tk' 0 HS ?_
          first | refine sk' 1 HS ?_ | refine tk' 1 HS ?_
          first | refine sk' 2 HS ?_ | refine tk' 2 HS ?_
          first | refine sk' 3 HS ?_ | refine tk' 3 HS ?_
          first | refine sk' 4 HS ?_ | refine tk' 4 HS ?_
          first | refine sk' 5 HS ?_ | refine tk' 5 HS ?_
          first | refine sk' 6 HS ?_ | refine tk' 6 HS ?_
          first | refine sk' 8 HS ?_ | refine tk' 8 HS ?_
          first | refine sk' 9 HS ?_ | refine tk' 9 HS ?_
          refine cl' 7 fun K hK => ?_
          go_simp
          go_at_call 25
          refine (implResultIDs _ rs nm _ (HR.out.grew (hg.trans (hal.trans HS.2.2))) hrl HRS.out).mono ?_
          rintro e w2 ⟨rv, rfl, hrv, hbq⟩
          have HRV := Lib.hid hrv
          obtain ⟨xa, xc, rfl⟩ := own_slice hrv
          clear hrv
          refine hK.out _ _ ?s4_7 ?r4_7
          case s4_7 => (try dsimp only); first | exact HS | exact held2 HS hbq
          case r4_7 =>
            clear HS hK K; intro HS
            try simp only [Act.put, lpa, lpb, lpc]
            refine cl' 10 fun K hK => ?_
            go_simp
            go_at_call 135
            refine (implContainsID _ _ (resIds rs nm) f.link _ (rd_of_own HRV.out) (resIds_small HRS.out)).mono ?_
            rintro e w3 ⟨rfl, rfl⟩
            refine hK.out _ _ ?s4_10 ?r4_10
            case s4_10 => (try dsimp only); first | exact HS | exact held2 HS hbq
            case r4_10 =>
              clear HS hK K; intro HS
              try simp only [Act.put, lpa, lpb, lpc]
              first | refine sk' 11 HS ?_ | refine tk' 11 HS ?_
              first | refine sk' 12 HS ?_ | refine tk' 12 HS ?_
              refine wpAnyH_done (by kernel_rfl) ?_ _
              refine NoPanic.normal ?_
              go_wp2
              go_ret
              refine ⟨ret_bool ?_, hal.trans HS.2.2⟩
              rw [HM.out]; simp [hk]
noncomputable def matB (q : List N) (f : Fl) (rs : List Rs) : Bool := qryB q && matR q f rs q.length (q.length - 1)
theorem qry_pos {q : List N} (h : qryB q = true) : 0 < q.length := by
  unfold qryB at h
  simp only [Bool.and_eq_true] at h
  have := h.2
  unfold inB at this
  simp at this
  omega
set_option maxRecDepth 100000 in
set_option maxHeartbeats 1000000 in
theorem specMatches (va : Value) (q : List N) (f : Fl) (pf : P5) (vr : Value) (rs : List Rs) (w : World) (hq : Rd w va 7 q.length (rows N.c q)) (hf : Fl.R w f pf) (hr : RdRs w vr rs) (hql : q.length ≤ 4000000) (hz : szAll N.sz q ≤ 4000000) (hfs : f.small) (hrl : rs.length ≤ 4000000) (hrs : ∀ x, x ∈ rs → x.small) :
    Calls Tryz.prog 113 #[va, pf.v, vr] w fun e w' => e = .returned (.bool (matB q f rs)) ∧ Grew w w' := by
  have HQ := Lib.hid hq
  have HF := Lib.hid hf
  have HR := Lib.hid hr
  have HRS := Lib.hid hrs
  obtain ⟨a, ca, rfl, hca, hra⟩ := hq
  clear hra hrs
  obtain ⟨p1, p2, p3, p4, p5⟩ := pf
  clear hf
  obtain ⟨v, hv⟩ : ∃ v, qryB q = v := ⟨_, rfl⟩
  have HV := Lib.hid hv
  clear hv
  have hal := (Grew.refl w).alloc (.cells #[.int .i64 p1, .int .i64 p2, .bool p3, .int .i64 p4, p5] 55)
  have hcs : v = true ∨ v = false := by cases v <;> simp
  rcases hcs with rfl | rfl
  · have hp := Lib.hid (qry_pos HV.out)
    obtain ⟨k, hk⟩ : ∃ k, q.length = k + 1 := ⟨q.length - 1, by have := hp.out; omega⟩
    have HK := Lib.hid hk
    have e1 : ((q.length : Int) - 1) = ((k : Nat) : Int) := by omega
    have e2 : IntKind.i64.wrap (((k + 1 : Nat) : Int) - 1) = ((k : Nat) : Int) := by simp [IntKind.wrap, IntKind.bits, IntKind.signed]; omega
    have HM := Lib.hid (show matB q f rs = matR q f rs (k + 1) k by unfold matB; rw [HV.out, HK.out]; rfl)
    rw [hk] at hql
    have e3 : (((k + 1 : Nat) : Int) - 1) = ((k : Nat) : Int) := by omega
    obtain ⟨bm, hbm⟩ : ∃ b, matR q f rs (k + 1) k = b := ⟨_, rfl⟩
    have HBM := Lib.hid hbm
    have f0 : ∀ b : Value, (w.alloc (.cells #[.int .i64 p1, .int .i64 p2, .bool p3, .int .i64 p4, p5] 55)).cell? ⟨w.heap.size, 0, none⟩ = some (.int .i64 p1) := fun _ => by simp
    have f1 : (w.alloc (.cells #[.int .i64 p1, .int .i64 p2, .bool p3, .int .i64 p4, p5] 55)).cell? ⟨w.heap.size, 1, none⟩ = some (.int .i64 p2) := by simp
    have f2 : (w.alloc (.cells #[.int .i64 p1, .int .i64 p2, .bool p3, .int .i64 p4, p5] 55)).cell? ⟨w.heap.size, 2, none⟩ = some (.bool p3) := by simp
    have f3 : (w.alloc (.cells #[.int .i64 p1, .int .i64 p2, .bool p3, .int .i64 p4, p5] 55)).cell? ⟨w.heap.size, 3, none⟩ = some (.int .i64 p4) := by simp
    have f4 : (w.alloc (.cells #[.int .i64 p1, .int .i64 p2, .bool p3, .int .i64 p4, p5] 55)).cell? ⟨w.heap.size, 4, none⟩ = some p5 := by simp
    replace f0 := f0 (.bool true)
    have HQ2 := Lib.hid (show Rd w (.slice a (k + 1) ca) 7 (k + 1) (rows N.c q) by have := HQ.out; rw [hk] at this; exact this)
    rw [hk]
    clear hk e1 HQ hbm
    go_enter Tryz.func113, Tryz.ntmps113
    go_wp2_with (first | (go_at_call 100; refine (specIsValidQuery _ (k + 1) q _ (HQ2.out.grew hal) hql hz).mono ?_; rintro e w1 ⟨he, hb⟩; rw [HV.out] at he; subst he; have g0 := grew_cell hb f0; have g1 := grew_cell hb f1; have g2 := grew_cell hb f2; have g3 := grew_cell hb f3; have g4 := grew_cell hb f4) | (go_at_call 123; refine (specL14Node q f ⟨p1, p2, p3, p4, p5⟩ rs _ _ w (by rw [HK.out]; exact HQ2.out) HF.out HR.out (by rw [HK.out]; exact hql) HV.out hfs hrl HRS.out (k + 1) k _ (hal.trans hb) (Nat.lt_succ_self k) (by rw [HK.out]; exact Nat.lt_succ_self k)).mono ?_; rintro e w2 ⟨he, hb2⟩; rw [HBM.out] at he; subst he))
    go_ret
    exact ⟨ret_bool (by rw [HM.out, HBM.out]), (hal.trans hb).trans hb2⟩
  · have HM := Lib.hid (show matB q f rs = false by unfold matB; rw [HV.out]; rfl)
    go_enter Tryz.func113, Tryz.ntmps113
    go_wp2_with (go_at_call 100; refine (specIsValidQuery _ q.length q _ (HQ.out.grew hal) hql hz).mono ?_; rintro e w1 ⟨he, hb⟩; rw [HV.out] at he; subst he)
    go_ret
    exact ⟨ret_bool HM.out.symm, hal.trans hb⟩
set_option maxRecDepth 100000 in
set_option maxHeartbeats 1000000 in
theorem implMatches (va : Value) (q : List N) (f : Fl) (pf : P5) (vr : Value) (rs : List Rs) (w : World) (hq : Rd w va 7 q.length (rows N.c q)) (hf : Fl.R w f pf) (hr : RdRs w vr rs) (hql : q.length ≤ 4000000) (hz : szAll N.sz q ≤ 4000000) (hfs : f.small) (hrl : rs.length ≤ 4000000) (hrs : ∀ x, x ∈ rs → x.small) :
    Calls Tryz.prog 112 #[va, pf.v, vr] w fun e w' => e = .returned (.bool (matB q f rs)) ∧ Grew w w' := by
  have HQ := Lib.hid hq
  have HF := Lib.hid hf
  have HR := Lib.hid hr
  have HRS := Lib.hid hrs
  obtain ⟨a, ca, rfl, hca, hra⟩ := hq
  clear hra hrs
  obtain ⟨p1, p2, p3, p4, p5⟩ := pf
  clear hf
  obtain ⟨v, hv⟩ : ∃ v, qryB q = v := ⟨_, rfl⟩
  have HV := Lib.hid hv
  clear hv
  have hal := (Grew.refl w).alloc (.cells #[.int .i64 p1, .int .i64 p2, .bool p3, .int .i64 p4, p5] 55)
  have hcs : v = true ∨ v = false := by cases v <;> simp
  rcases hcs with rfl | rfl
  · have hp := Lib.hid (qry_pos HV.out)
    obtain ⟨k, hk⟩ : ∃ k, q.length = k + 1 := ⟨q.length - 1, by have := hp.out; omega⟩
    have HK := Lib.hid hk
    have e1 : ((q.length : Int) - 1) = ((k : Nat) : Int) := by omega
    have e2 : IntKind.i64.wrap (((k + 1 : Nat) : Int) - 1) = ((k : Nat) : Int) := by simp [IntKind.wrap, IntKind.bits, IntKind.signed]; omega
    have HM := Lib.hid (show matB q f rs = matR q f rs (k + 1) k by unfold matB; rw [HV.out, HK.out]; rfl)
    rw [hk] at hql
    have e3 : (((k + 1 : Nat) : Int) - 1) = ((k : Nat) : Int) := by omega
    obtain ⟨bm, hbm⟩ : ∃ b, matR q f rs (k + 1) k = b := ⟨_, rfl⟩
    have HBM := Lib.hid hbm
    have f0 : ∀ b : Value, (w.alloc (.cells #[.int .i64 p1, .int .i64 p2, .bool p3, .int .i64 p4, p5] 55)).cell? ⟨w.heap.size, 0, none⟩ = some (.int .i64 p1) := fun _ => by simp
    have f1 : (w.alloc (.cells #[.int .i64 p1, .int .i64 p2, .bool p3, .int .i64 p4, p5] 55)).cell? ⟨w.heap.size, 1, none⟩ = some (.int .i64 p2) := by simp
    have f2 : (w.alloc (.cells #[.int .i64 p1, .int .i64 p2, .bool p3, .int .i64 p4, p5] 55)).cell? ⟨w.heap.size, 2, none⟩ = some (.bool p3) := by simp
    have f3 : (w.alloc (.cells #[.int .i64 p1, .int .i64 p2, .bool p3, .int .i64 p4, p5] 55)).cell? ⟨w.heap.size, 3, none⟩ = some (.int .i64 p4) := by simp
    have f4 : (w.alloc (.cells #[.int .i64 p1, .int .i64 p2, .bool p3, .int .i64 p4, p5] 55)).cell? ⟨w.heap.size, 4, none⟩ = some p5 := by simp
    replace f0 := f0 (.bool true)
    have HQ2 := Lib.hid (show Rd w (.slice a (k + 1) ca) 7 (k + 1) (rows N.c q) by have := HQ.out; rw [hk] at this; exact this)
    rw [hk]
    clear hk e1 HQ hbm
    go_enter Tryz.func112, Tryz.ntmps112
    go_wp2_with (first | (go_at_call 119; refine (implIsValidQuery _ (k + 1) q _ (HQ2.out.grew hal) hql hz).mono ?_; rintro e w1 ⟨he, hb⟩; rw [HV.out] at he; subst he; have g0 := grew_cell hb f0; have g1 := grew_cell hb f1; have g2 := grew_cell hb f2; have g3 := grew_cell hb f3; have g4 := grew_cell hb f4) | (go_at_call 122; refine (implMatchesAt q f ⟨p1, p2, p3, p4, p5⟩ rs _ _ w (by rw [HK.out]; exact HQ2.out) HF.out HR.out (by rw [HK.out]; exact hql) HV.out hfs hrl HRS.out (k + 1) k _ (hal.trans hb) (Nat.lt_succ_self k) (by rw [HK.out]; exact Nat.lt_succ_self k)).mono ?_; rintro e w2 ⟨he, hb2⟩; rw [HBM.out] at he; subst he))
    go_ret
    exact ⟨ret_bool (by rw [HM.out, HBM.out]), (hal.trans hb).trans hb2⟩
  · have HM := Lib.hid (show matB q f rs = false by unfold matB; rw [HV.out]; rfl)
    go_enter Tryz.func112, Tryz.ntmps112
    go_wp2_with (go_at_call 119; refine (implIsValidQuery _ q.length q _ (HQ.out.grew hal) hql hz).mono ?_; rintro e w1 ⟨he, hb⟩; rw [HV.out] at he; subst he)
    go_ret
    exact ⟨ret_bool HM.out.symm, hal.trans hb⟩
end Go.Proofs.YtemikjbfjhebnaaGreat
namespace Go.Proofs.YtemikjbfjhebnaaGreat
open Go.RowKit
set_option linter.unusedVariables false
noncomputable def selL (q : List N) (fs : List Fl) (rs : List Rs) : List Int := (fs.filter fun f => matB q f rs).map Fl.id
theorem selL_len (q : List N) (fs : List Fl) (rs : List Rs) : (selL q fs rs).length ≤ fs.length := by unfold selL; rw [List.length_map]; exact List.length_filter_le _ _
theorem selL_tk (q : List N) (fs : List Fl) (rs : List Rs) (k : Nat) : (selL q (fs.take k) rs).length ≤ k := Nat.le_trans (selL_len _ _ _) (by rw [List.length_take]; omega)
theorem selL_yes {q : List N} {fs : List Fl} {rs : List Rs} {k : Nat} {f : Fl} (h : fs[k]? = some f) (hm : matB q f rs = true) : selL q (fs.take (k + 1)) rs = selL q (fs.take k) rs ++ [f.id] := by
  rw [take_snoc h]; unfold selL; rw [List.filter_append, List.map_append]; simp [hm]
theorem selL_no {q : List N} {fs : List Fl} {rs : List Rs} {k : Nat} {f : Fl} (h : fs[k]? = some f) (hm : matB q f rs = false) : selL q (fs.take (k + 1)) rs = selL q (fs.take k) rs := by
  rw [take_snoc h]; unfold selL; rw [List.filter_append, List.map_append]; simp [hm]
set_option maxRecDepth 100000 in
set_option maxHeartbeats 2000000 in
theorem specSelectFiles (s : St) (p : PS) (va : Value) (q : List N) (vr : Value) (rs : List Rs) (w : World) (hs : St.R w s p) (hq : Rd w va 7 q.length (rows N.c q)) (hr : RdRs w vr rs) (hfl : s.files.length ≤ 4000000) (hfm : ∀ y, y ∈ s.files → y.small) (hql : q.length ≤ 4000000) (hz : szAll N.sz q ≤ 4000000) (hrl : rs.length ≤ 4000000) (hrs : ∀ x, x ∈ rs → x.small) :
    Calls Tryz.prog 96 #[p.v, va, vr] w fun e w' => ∃ v, e = .returned v ∧ w'.ownsRow w.heap.size 3 1 v (selL q s.files rs).length (ints (selL q s.files rs)) ∧ Grew w w' := by
  obtain ⟨p_q, p_r, p_n⟩ := p
  obtain ⟨hsq, hsr, hsn⟩ := hs
  simp only at hsq hsr hsn
  subst hsn
  have HSR := Lib.hid hsq
  clear hsq
  have HQ := Lib.hid hq
  have HR := Lib.hid hr
  have HFM := Lib.hid hfm
  have HRS := Lib.hid hrs
  obtain ⟨ps, ⟨a, ca, rfl, hca, hra⟩, hall⟩ := hsr
  have HA := Lib.hid hall
  obtain ⟨qa, qc, rfl, hqc, hqr⟩ := hq
  obtain ⟨rps, ⟨ra, rca, rfl, hrc, hrr⟩, hrall⟩ := hr
  clear hall hqr hrr hrall hqc hrc hfm hrs
  generalize hn : s.files.length = n at hfl hra hca
  have HX := Lib.hid hn
  clear hn
  obtain ⟨i0, hi, hz0, hz1, hz2⟩ := info_parts Tryz.infoInt
  have hg0 := (Grew.refl w).alloc (.cells #[p_q, .slice a n ca, .int .i64 s.next] 27)
  have bx1 : (w.alloc (.cells #[p_q, .slice a n ca, .int .i64 s.next] 27)).cell? ⟨w.heap.size, 1, none⟩ = some (.slice a n ca) := by simp
  have hw0 : w.heap.size ≤ (w.alloc (.cells #[p_q, .slice a n ca, .int .i64 s.next] 27)).heap.size := by simp
  go_enter Tryz.func96, Tryz.ntmps96
  go_wp2
  go_loopw [7, 8] (fun v i wr => ∃ k : Nat, k ≤ n ∧ i = .int .i64 k ∧ Hid (wr.ownsRow (w.alloc (.cells #[p_q, .slice a n ca, .int .i64 s.next] 27)).heap.size 3 1 v (selL q (s.files.take k) rs).length (ints (selL q (s.files.take k) rs))) ∧ Grew (w.alloc (.cells #[p_q, .slice a n ca, .int .i64 s.next] 27)) wr) (fun _ i _ => n - (intOf i).toNat)
  case atStart => exact ⟨0, Nat.zero_le _, rfl, Lib.hid (by have h := lit_own (w.alloc (.cells #[p_q, .slice a n ca, .int .i64 s.next] 27)) 3 1; simpa [selL] using h), (Grew.refl _).alloc _⟩
  case round =>
    obtain ⟨k, hk, rfl, hown, hbel⟩ := hrel
    have e1 := grew_cell hbel bx1
    have hnl := selL_tk q s.files rs k
    by_cases hlt : k < n
    · obtain ⟨b1, o1, p5, rfl, hpk, c0, c1, c2, c3, c4⟩ := (hra.grew (hg0.trans hbel)).getP5 hlt
      obtain ⟨f, hfk, hfr⟩ := HA.out.get hpk.out
      have hfs := HFM.out f (List.mem_of_getElem? hfk.out)
      have HF := Lib.hid hfr
      obtain ⟨pi, po, psh, pl, pa⟩ := p5
      obtain ⟨h1, h2, h3, h4, h5⟩ := hfr
      simp only at h1 h2 h3 h4 h5 c0 c1 c2 c3 c4
      subst h1 h2 h3 h4
      obtain ⟨fa, fc, rfl, h6, h7⟩ := h5
      clear h6 h7
      have HFS := Lib.hid hfs
      obtain ⟨v, hv⟩ : ∃ v, matB q f rs = v := ⟨_, rfl⟩
      have HV := Lib.hid hv
      clear hv
      have hcs : v = true ∨ v = false := by cases v <;> simp
      rcases hcs with rfl | rfl
      · go_wp2_with (first | (go_at_call 113; refine (specMatches _ q f ⟨f.id, f.owner, f.shared, f.link, .slice fa f.attrs.length fc⟩ _ rs _ (HQ.out.grew (hg0.trans hbel)) (HF.out.grew (hg0.trans hbel)) (HR.out.grew (hg0.trans hbel)) hql hz hfs (by omega) HRS.out).mono ?_; rintro e w2 ⟨he, hb⟩; rw [HV.out] at he; subst he; have d0 := grew_cell hb c0; have d1 := grew_cell hb e1) | (at_builtin; refine wpList_append_own _ rfl _ _ 35 rfl _ 3 i0 (.int .i64 0) 1 8 Tryz.underlying35 hi hz0 hz1 hz2 rfl (by decide) _ _ _ rfl ((ownsRow_grew hown.out hb).alloc _) ⟨_, 0, none⟩ 1 1 [.int .i64 f.id] rfl rfl (cell_one_new _ _ _) (fun x hx => by simp at hx; subst hx; rfl) (by unfold maxLen; omega) (by omega) (by have := (hbel.trans hb).size; simp at this ⊢; omega) ?_; intro v' w' hown' hgr _))
        go_roundw
        case rel =>
          refine ⟨k + 1, by omega, by go_num, Lib.hid ?_, ((hbel.trans hb).alloc _).grown hgr (fun g h => (hown.out.lt g h).1)⟩
          rw [selL_yes hfk.out HV.out]; simpa using hown'
        case measure => simp [intOf]; omega
      · go_wp2_with (go_at_call 113; refine (specMatches _ q f ⟨f.id, f.owner, f.shared, f.link, .slice fa f.attrs.length fc⟩ _ rs _ (HQ.out.grew (hg0.trans hbel)) (HF.out.grew (hg0.trans hbel)) (HR.out.grew (hg0.trans hbel)) hql hz hfs (by omega) HRS.out).mono ?_; rintro e w2 ⟨he, hb⟩; rw [HV.out] at he; subst he; have d0 := grew_cell hb c0; have d1 := grew_cell hb e1)
        go_roundw
        case rel =>
          refine ⟨k + 1, by omega, by go_num, Lib.hid ?_, (hbel.trans hb)⟩
          rw [selL_no hfk.out HV.out]; exact (ownsRow_grew hown.out hb)
        case measure => simp [intOf]; omega
    · obtain rfl : k = n := by omega
      go_wp2
      go_ret
      refine ⟨_, rfl, ?_, hg0.trans hbel⟩
      have := hown.out
      rw [take_all HX.out] at this
      exact ownsRow_base this hw0
set_option maxRecDepth 100000 in
set_option maxHeartbeats 2000000 in
theorem implSelectFiles (s : St) (p : PS) (va : Value) (q : List N) (vr : Value) (rs : List Rs) (w : World) (hs : St.R w s p) (hq : Rd w va 7 q.length (rows N.c q)) (hr : RdRs w vr rs) (hfl : s.files.length ≤ 4000000) (hfm : ∀ y, y ∈ s.files → y.small) (hql : q.length ≤ 4000000) (hz : szAll N.sz q ≤ 4000000) (hrl : rs.length ≤ 4000000) (hrs : ∀ x, x ∈ rs → x.small) :
    Calls Tryz.prog 91 #[p.v, va, vr] w fun e w' => ∃ v, e = .returned v ∧ w'.ownsRow w.heap.size 3 1 v (selL q s.files rs).length (ints (selL q s.files rs)) ∧ Grew w w' := by
  obtain ⟨p_q, p_r, p_n⟩ := p
  obtain ⟨hsq, hsr, hsn⟩ := hs
  simp only at hsq hsr hsn
  subst hsn
  have HSR := Lib.hid hsq
  clear hsq
  have HQ := Lib.hid hq
  have HR := Lib.hid hr
  have HFM := Lib.hid hfm
  have HRS := Lib.hid hrs
  obtain ⟨ps, ⟨a, ca, rfl, hca, hra⟩, hall⟩ := hsr
  have HA := Lib.hid hall
  obtain ⟨qa, qc, rfl, hqc, hqr⟩ := hq
  obtain ⟨rps, ⟨ra, rca, rfl, hrc, hrr⟩, hrall⟩ := hr
  clear hall hqr hrr hrall hqc hrc hfm hrs
  generalize hn : s.files.length = n at hfl hra hca
  have HX := Lib.hid hn
  clear hn
  obtain ⟨i0, hi, hz0, hz1, hz2⟩ := info_parts Tryz.infoInt
  have hg0 := (Grew.refl w).alloc (.cells #[p_q, .slice a n ca, .int .i64 s.next] 27)
  have bx1 : (w.alloc (.cells #[p_q, .slice a n ca, .int .i64 s.next] 27)).cell? ⟨w.heap.size, 1, none⟩ = some (.slice a n ca) := by simp
  have hw0 : w.heap.size ≤ (w.alloc (.cells #[p_q, .slice a n ca, .int .i64 s.next] 27)).heap.size := by simp
  go_enter Tryz.func91, Tryz.ntmps91
  go_wp2
  go_loopw [7, 14] (fun v i wr => ∃ k : Nat, k ≤ n ∧ i = .int .i64 k ∧ Hid (wr.ownsRow (w.alloc (.cells #[p_q, .slice a n ca, .int .i64 s.next] 27)).heap.size 3 1 v (selL q (s.files.take k) rs).length (ints (selL q (s.files.take k) rs))) ∧ Grew (w.alloc (.cells #[p_q, .slice a n ca, .int .i64 s.next] 27)) wr) (fun _ i _ => n - (intOf i).toNat)
  case atStart => exact ⟨0, Nat.zero_le _, rfl, Lib.hid (by have h := lit_own (w.alloc (.cells #[p_q, .slice a n ca, .int .i64 s.next] 27)) 3 1; simpa [selL] using h), (Grew.refl _).alloc _⟩
  case round =>
    obtain ⟨k, hk, rfl, hown, hbel⟩ := hrel
    have e1 := grew_cell hbel bx1
    have hnl := selL_tk q s.files rs k
    by_cases hlt : k < n
    · obtain ⟨b1, o1, p5, rfl, hpk, c0, c1, c2, c3, c4⟩ := (hra.grew (hg0.trans hbel)).getP5 hlt
      obtain ⟨f, hfk, hfr⟩ := HA.out.get hpk.out
      have hfs := HFM.out f (List.mem_of_getElem? hfk.out)
      have HF := Lib.hid hfr
      obtain ⟨pi, po, psh, pl, pa⟩ := p5
      obtain ⟨h1, h2, h3, h4, h5⟩ := hfr
      simp only at h1 h2 h3 h4 h5 c0 c1 c2 c3 c4
      subst h1 h2 h3 h4
      obtain ⟨fa, fc, rfl, h6, h7⟩ := h5
      clear h6 h7
      have HFS := Lib.hid hfs
      have hal := (Grew.refl wr).alloc (.cells #[.int .i64 f.id, .int .i64 f.owner, .bool f.shared, .int .i64 f.link, .slice fa f.attrs.length fc] 55)
      have bf0 : (wr.alloc (.cells #[.int .i64 f.id, .int .i64 f.owner, .bool f.shared, .int .i64 f.link, .slice fa f.attrs.length fc] 55)).cell? ⟨wr.heap.size, 0, none⟩ = some (.int .i64 f.id) := by simp
      obtain ⟨v, hv⟩ : ∃ v, matB q f rs = v := ⟨_, rfl⟩
      have HV := Lib.hid hv
      clear hv
      have hcs : v = true ∨ v = false := by cases v <;> simp
      rcases hcs with rfl | rfl
      · go_wp2_with (first | (go_at_call 112; refine (implMatches _ q f ⟨f.id, f.owner, f.shared, f.link, .slice fa f.attrs.length fc⟩ _ rs _ (HQ.out.grew (hg0.trans (hbel.alloc (.cells #[.int .i64 f.id, .int .i64 f.owner, .bool f.shared, .int .i64 f.link, .slice fa f.attrs.length fc] 55)))) (HF.out.grew (hg0.trans (hbel.alloc (.cells #[.int .i64 f.id, .int .i64 f.owner, .bool f.shared, .int .i64 f.link, .slice fa f.attrs.length fc] 55)))) (HR.out.grew (hg0.trans (hbel.alloc (.cells #[.int .i64 f.id, .int .i64 f.owner, .bool f.shared, .int .i64 f.link, .slice fa f.attrs.length fc] 55)))) hql hz hfs (by omega) HRS.out).mono ?_; rintro e w2 ⟨he, hb⟩; rw [HV.out] at he; subst he; have d0 := grew_cell hb bf0) | (at_builtin; refine wpList_append_own _ rfl _ _ 35 rfl _ 3 i0 (.int .i64 0) 1 8 Tryz.underlying35 hi hz0 hz1 hz2 rfl (by decide) _ _ _ rfl ((ownsRow_grew hown.out ((Grew.refl wr).alloc (.cells #[.int .i64 f.id, .int .i64 f.owner, .bool f.shared, .int .i64 f.link, .slice fa f.attrs.length fc] 55) |>.trans hb)).alloc _) ⟨_, 0, none⟩ 1 1 [.int .i64 f.id] rfl rfl (cell_one_new _ _ _) (fun x hx => by simp at hx; subst hx; rfl) (by unfold maxLen; omega) (by omega) (by have := ((hbel.alloc (.cells #[.int .i64 f.id, .int .i64 f.owner, .bool f.shared, .int .i64 f.link, .slice fa f.attrs.length fc] 55)).trans hb).size; simp at this ⊢; omega) ?_; intro v' w' hown' hgr _))
        go_roundw
        case rel =>
          refine ⟨k + 1, by omega, by go_num, Lib.hid ?_, (((hbel.alloc (.cells #[.int .i64 f.id, .int .i64 f.owner, .bool f.shared, .int .i64 f.link, .slice fa f.attrs.length fc] 55)).trans hb).alloc _).grown hgr (fun g h => (hown.out.lt g h).1)⟩
          rw [selL_yes hfk.out HV.out]; simpa using hown'
        case measure => simp [intOf]; omega
      · go_wp2_with (go_at_call 112; refine (implMatches _ q f ⟨f.id, f.owner, f.shared, f.link, .slice fa f.attrs.length fc⟩ _ rs _ (HQ.out.grew (hg0.trans (hbel.alloc (.cells #[.int .i64 f.id, .int .i64 f.owner, .bool f.shared, .int .i64 f.link, .slice fa f.attrs.length fc] 55)))) (HF.out.grew (hg0.trans (hbel.alloc (.cells #[.int .i64 f.id, .int .i64 f.owner, .bool f.shared, .int .i64 f.link, .slice fa f.attrs.length fc] 55)))) (HR.out.grew (hg0.trans (hbel.alloc (.cells #[.int .i64 f.id, .int .i64 f.owner, .bool f.shared, .int .i64 f.link, .slice fa f.attrs.length fc] 55)))) hql hz hfs (by omega) HRS.out).mono ?_; rintro e w2 ⟨he, hb⟩; rw [HV.out] at he; subst he; have d0 := grew_cell hb bf0)
        go_roundw
        case rel =>
          refine ⟨k + 1, by omega, by go_num, Lib.hid ?_, ((hbel.alloc (.cells #[.int .i64 f.id, .int .i64 f.owner, .bool f.shared, .int .i64 f.link, .slice fa f.attrs.length fc] 55)).trans hb)⟩
          rw [selL_no hfk.out HV.out]; exact (ownsRow_grew hown.out ((Grew.refl wr).alloc (.cells #[.int .i64 f.id, .int .i64 f.owner, .bool f.shared, .int .i64 f.link, .slice fa f.attrs.length fc] 55) |>.trans hb))
        case measure => simp [intOf]; omega
    · obtain rfl : k = n := by omega
      go_wp2
      go_ret
      refine ⟨_, rfl, ?_, hg0.trans hbel⟩
      have := hown.out
      rw [take_all HX.out] at this
      exact ownsRow_base this hw0
end Go.Proofs.YtemikjbfjhebnaaGreat
namespace Go.Proofs.YtemikjbfjhebnaaGreat
open Go.RowKit Go.Sort
set_option linter.unusedVariables false
def refsTo (x : N) (j : Nat) : Prop := (x.op = 5 ∧ x.left.toNat = j) ∨ ((x.op = 6 ∨ x.op = 7) ∧ (x.left.toNat = j ∨ x.right.toNat = j))
theorem getD_set_ne {bs : List Bool} {i j : Nat} {b : Bool} (h : i ≠ j) : (bs.set i b).getD j false = bs.getD j false := by
  rw [List.getD_eq_getElem?_getD, List.getD_eq_getElem?_getD, List.getElem?_set_ne h]
theorem getD_set_eq {bs : List Bool} {i : Nat} {b : Bool} (h : i < bs.length) : (bs.set i b).getD i false = b := by
  rw [List.getD_eq_getElem?_getD, List.getElem?_set_self h]; rfl
theorem negS_keep {bs : List Bool} {p : Nat} {x : N} {j : Nat} (h : ¬ refsTo x j) : (negS bs p x).getD j false = bs.getD j false := by
  unfold refsTo at h
  unfold negS
  split
  · rename_i h5
    exact getD_set_ne (fun e => h (.inl ⟨h5, e⟩))
  · split
    · rename_i h67
      rw [getD_set_ne (fun e => h (.inr ⟨h67, .inr e⟩)), getD_set_ne (fun e => h (.inr ⟨h67, .inl e⟩))]
    · rfl
theorem negR_keep {xs : List N} {j : Nat} : ∀ (k : Nat) (bs : List Bool), (∀ p x, p < k → xs[p]? = some x → ¬ refsTo x j) → (negR xs k bs).getD j false = bs.getD j false
  | 0, bs, _ => rfl
  | k + 1, bs, h => by
    unfold negR
    rw [negR_keep k _ (fun p x hp hx => h p x (by omega) hx)]
    split
    · rename_i x hx; exact negS_keep (h k x (by omega) hx)
    · rfl
theorem negR_split (xs : List N) {k : Nat} : ∀ (m : Nat) (bs : List Bool), k ≤ m → ∃ bs1, negR xs m bs = negR xs k bs1 ∧ bs1.length = bs.length
  | 0, bs, h => by obtain rfl : k = 0 := by omega
                   exact ⟨bs, rfl, rfl⟩
  | m + 1, bs, h => by
    by_cases hk : k = m + 1
    · subst hk; exact ⟨bs, rfl, rfl⟩
    · obtain ⟨b1, h1, h2⟩ := negR_split xs (k := k) m (match xs[m]? with | some x => negS bs m x | none => bs) (by omega)
      refine ⟨b1, h1, ?_⟩
      rw [h2]
      split
      · exact negS_length _ _ _
      · rfl
theorem sum_ge {f : N → Int} (hf : ∀ x, 0 ≤ f x) : ∀ {q : List N}, 0 ≤ (q.map f).sum
  | [] => by simp
  | y :: ys => by have := hf y; have := sum_ge hf (q := ys); simp; omega
theorem sum_ge_one {f : N → Int} (hf : ∀ x, 0 ≤ f x) : ∀ {q : List N} {i : Nat} {x : N}, q[i]? = some x → f x ≤ (q.map f).sum
  | [], i, x, h => by simp at h
  | y :: ys, 0, x, h => by
    obtain rfl : y = x := by simpa using h
    have := sum_ge hf (q := ys); simp; omega
  | y :: ys, i + 1, x, h => by
    have := hf y; have := sum_ge_one hf (q := ys) (i := i) (x := x) (by simpa using h); simp; omega
theorem sum_ge_two {f : N → Int} (hf : ∀ x, 0 ≤ f x) {q : List N} : ∀ {i k : Nat} {x y : N}, q[i]? = some x → q[k]? = some y → i < k → f x + f y ≤ (q.map f).sum := by
  induction q with
  | nil => intro i k x y h _ _; simp at h
  | cons z zs ih =>
    intro i k x y h h2 hk
    obtain ⟨k', rfl⟩ : ∃ k', k = k' + 1 := ⟨k - 1, by omega⟩
    have h3 : zs[k']? = some y := by simpa using h2
    cases i with
    | zero =>
      have h4 : z = x := by simpa using h
      subst h4
      have := sum_ge_one hf (q := zs) h3
      rw [List.map_cons, List.sum_cons]; omega
    | succ i' =>
      have := hf z
      have := ih (i := i') (k := k') (by simpa using h) h3 (by omega)
      rw [List.map_cons, List.sum_cons]; omega
theorem qry_len9 {q : List N} (h : qryB q = true) : q.length ≤ 9 := by
  unfold qryB at h
  simp only [Bool.and_eq_true] at h
  have h4 := h.2
  unfold inB at h4
  simp at h4
  omega
theorem kid {q : List N} (hq : qryB q = true) {p j : Nat} {x : N} (hx : q[p]? = some x) (hr : refsTo x j) : j < p ∧ 1 ≤ ref1 x j := by
  have h1 := qry_node hq hx
  have h2 := qry_len9 hq
  have h3 := (List.getElem?_eq_some_iff.1 hx).1
  obtain ⟨op, l, r, nm, v⟩ := x
  have hb := ref1_b ⟨op, l, r, nm, v⟩ j
  rcases hr with ⟨h5, hj⟩ | ⟨h67, hj⟩
  · simp only at h5 hj
    subst h5
    obtain ⟨a, rfl, ha⟩ := nod5 (by omega) h1
    simp at hj
    subst hj
    refine ⟨ha, ?_⟩
    unfold ref1; simp
  · simp only at h67 hj
    obtain ⟨a, b, rfl, rfl, ha, hb2⟩ := nod67 h67 (by omega) h1
    rcases hj with hj | hj
    · simp at hj
      subst hj
      refine ⟨ha, ?_⟩
      unfold ref1
      rcases h67 with rfl | rfl <;> simp <;> split <;> omega
    · simp at hj
      subst hj
      refine ⟨hb2, ?_⟩
      unfold ref1
      rcases h67 with rfl | rfl <;> simp <;> split <;> omega
theorem one_parent {q : List N} (hq : qryB q = true) {p1 p2 j : Nat} {x y : N} (hx : q[p1]? = some x) (hy : q[p2]? = some y) (h1 : refsTo x j) (h2 : refsTo y j) : p1 = p2 := by
  have k1 := kid hq hx h1
  have k2 := kid hq hy h2
  have l1 := (List.getElem?_eq_some_iff.1 hx).1
  have l2 := (List.getElem?_eq_some_iff.1 hy).1
  have hj : j < q.length := by omega
  have hr : refs q j = 1 := by
    have e1 := (qry_ex q).choose_spec
    have e2 := hq
    unfold qryB at e2
    simp only [Bool.and_eq_true] at e2
    have e3 := e1.1 e2.1 j q[j] (by simp [hj])
    unfold qryAt at e3
    simp only [Bool.and_eq_true, Bool.or_eq_true, decide_eq_true_eq, beq_iff_eq] at e3
    rcases e3.2 with e4 | e4
    · omega
    · exact e4
  unfold refs at hr
  rcases Nat.lt_trichotomy p1 p2 with h | h | h
  · have := sum_ge_two (f := fun n => ref1 n j) (fun n => (ref1_b n j).1) hx hy h; omega
  · exact h
  · have := sum_ge_two (f := fun n => ref1 n j) (fun n => (ref1_b n j).1) hy hx h; omega
theorem neg_kid {q : List N} (hq : qryB q = true) {p j : Nat} {x : N} (hx : q[p]? = some x) (hr : refsTo x j) : (negL q).getD j false = (if x.op = 5 then true else (negL q).getD p false) := by
  have hp := (List.getElem?_eq_some_iff.1 hx).1
  have hk := kid hq hx hr
  have e : negL q = negR q q.length (List.replicate q.length false) := by unfold negL; rw [if_pos hq]
  obtain ⟨bs, h1, h2⟩ := negR_split q (k := p + 1) q.length (List.replicate q.length false) hp
  rw [e, h1]
  simp at h2
  have hpp : (negR q (p + 1) bs).getD p false = bs.getD p false := negR_keep _ _ (fun p' y hp' hy hc => by have := kid hq hy hc; omega)
  rw [hpp, negR_step hx, negR_keep p _ (fun p' y hp' hy hc => by have := one_parent hq hx hy hr hc; omega)]
  unfold negS
  rcases hr with ⟨h5, hj⟩ | ⟨h67, hj⟩
  · rw [if_pos h5, if_pos h5, hj, getD_set_eq (by omega)]
  · have h5 : ¬ x.op = 5 := by omega
    rw [if_neg h5, if_neg h5, if_pos h67]
    rcases hj with hj | hj
    · by_cases hrr : x.right.toNat = j
      · rw [hrr, getD_set_eq (by simp; omega)]
      · rw [getD_set_ne hrr, hj, getD_set_eq (by omega)]
    · rw [hj, getD_set_eq (by simp; omega)]
theorem neg_dep {q : List N} (hq : qryB q = true) {p : Nat} {x : N} (hx : q[p]? = some x) (ho : x.op = 8 ∨ x.op = 9) {u : Bool} (hu : (negL q).getD p false = u) : x.name ∈ depsL q u := by
  have hp := (List.getElem?_eq_some_iff.1 hx).1
  have e : negL q = negR q q.length (List.replicate q.length false) := by unfold negL; rw [if_pos hq]
  have hl : (negL q).length = q.length := by rw [e, negR_length]; simp
  have hg : (negL q)[p]? = some u := by
    rw [List.getD_eq_getElem?_getD] at hu
    rw [List.getElem?_eq_getElem (by omega)] at hu ⊢
    simp at hu; rw [hu]
  unfold depsL
  rw [mem_so]
  unfold depsZ
  refine List.mem_map.2 ⟨(x, u), List.mem_filter.2 ⟨List.mem_of_getElem? (zipN_get hx hg), ?_⟩, rfl⟩
  simp only [inB, Bool.and_eq_true, decide_eq_true_eq]
  refine ⟨by omega, by simp⟩
theorem mat_mono {q : List N} (hq : qryB q = true) {f : Fl} {rs rt : List Rs} (HA : ∀ s, s ∈ depsL q true → resIds rs s = resIds rt s) (HB : ∀ s, s ∈ depsL q false → ∀ i, i ∈ resIds rs s → i ∈ resIds rt s) :
    ∀ d i, ((negL q).getD i false = true → matR q f rs d i = matR q f rt d i) ∧ ((negL q).getD i false = false → matR q f rs d i = true → matR q f rt d i = true)
  | 0, i => ⟨fun _ => rfl, fun _ h => h⟩
  | d + 1, i => by
    cases hx : q[i]? with
    | none =>
      have e : ∀ r, matR q f r (d + 1) i = true := fun r => by unfold matR; rw [hx]
      rw [e, e]; exact ⟨fun _ => rfl, fun _ h => h⟩
    | some x =>
      have e1 := matR_at (f := f) (r := rs) (d := d) hx
      have e2 := matR_at (f := f) (r := rt) (d := d) hx
      rw [e1, e2]
      have hop := nod_op (qry_node hq hx)
      have ih := mat_mono hq (f := f) HA HB d
      by_cases h1 : x.op = 1
      · rw [if_pos h1, if_pos h1]; exact ⟨fun _ => rfl, fun _ h => h⟩
      rw [if_neg h1, if_neg h1]
      by_cases h2 : x.op = 2
      · rw [if_pos h2, if_pos h2]; exact ⟨fun _ => rfl, fun _ h => h⟩
      rw [if_neg h2, if_neg h2]
      by_cases h3 : x.op = 3
      · rw [if_pos h3, if_pos h3]; exact ⟨fun _ => rfl, fun _ h => h⟩
      rw [if_neg h3, if_neg h3]
      by_cases h4 : x.op = 4
      · rw [if_pos h4, if_pos h4]; exact ⟨fun _ => rfl, fun _ h => h⟩
      rw [if_neg h4, if_neg h4]
      by_cases h5 : x.op = 5
      · rw [if_pos h5, if_pos h5]
        have hk := neg_kid hq hx (j := x.left.toNat) (.inl ⟨h5, rfl⟩)
        rw [if_pos h5] at hk
        rw [(ih x.left.toNat).1 hk]
        exact ⟨fun _ => rfl, fun _ h => h⟩
      rw [if_neg h5, if_neg h5]
      by_cases h6 : x.op = 6
      · rw [if_pos h6, if_pos h6]
        have hl := neg_kid hq hx (j := x.left.toNat) (.inr ⟨.inl h6, .inl rfl⟩)
        have hr := neg_kid hq hx (j := x.right.toNat) (.inr ⟨.inl h6, .inr rfl⟩)
        rw [if_neg h5] at hl hr
        refine ⟨fun hb => ?_, fun hb h => ?_⟩
        · rw [(ih _).1 (hl.trans hb), (ih _).1 (hr.trans hb)]
        · simp only [Bool.and_eq_true] at h ⊢
          exact ⟨(ih _).2 (hl.trans hb) h.1, (ih _).2 (hr.trans hb) h.2⟩
      rw [if_neg h6, if_neg h6]
      by_cases h7 : x.op = 7
      · rw [if_pos h7, if_pos h7]
        have hl := neg_kid hq hx (j := x.left.toNat) (.inr ⟨.inr h7, .inl rfl⟩)
        have hr := neg_kid hq hx (j := x.right.toNat) (.inr ⟨.inr h7, .inr rfl⟩)
        rw [if_neg h5] at hl hr
        refine ⟨fun hb => ?_, fun hb h => ?_⟩
        · rw [(ih _).1 (hl.trans hb), (ih _).1 (hr.trans hb)]
        · simp only [Bool.or_eq_true] at h ⊢
          rcases h with h | h
          · exact .inl ((ih _).2 (hl.trans hb) h)
          · exact .inr ((ih _).2 (hr.trans hb) h)
      rw [if_neg h7, if_neg h7]
      have h89 : x.op = 8 ∨ x.op = 9 := by omega
      have hm : ∀ a : Int, ((negL q).getD i false = true → has (resIds rs x.name) a = has (resIds rt x.name) a) ∧ ((negL q).getD i false = false → has (resIds rs x.name) a = true → has (resIds rt x.name) a = true) := fun a => by
        refine ⟨fun hb => ?_, fun hb h => ?_⟩
        · rw [HA _ (neg_dep hq hx h89 hb)]
        · unfold has at h ⊢
          simp only [decide_eq_true_eq] at h ⊢
          exact HB _ (neg_dep hq hx h89 hb) a h
      by_cases h8 : x.op = 8
      · rw [if_pos h8, if_pos h8]; exact hm f.id
      rw [if_neg h8, if_neg h8]
      refine ⟨fun hb => by rw [(hm f.link).1 hb], fun hb h => ?_⟩
      simp only [Bool.and_eq_true] at h ⊢
      exact ⟨h.1, (hm f.link).2 hb h.2⟩
theorem neg_root {q : List N} (hq : qryB q = true) : (negL q).getD (q.length - 1) false = false := by
  have e : negL q = negR q q.length (List.replicate q.length false) := by unfold negL; rw [if_pos hq]
  rw [e, negR_keep _ _ (fun p y hp hy hc => by have := kid hq hy hc; omega)]
  rw [List.getD_eq_getElem?_getD]
  by_cases h : q.length - 1 < q.length
  · simp [h]
  · simp [h]
theorem matB_mono {q : List N} {f : Fl} {rs rt : List Rs} (HA : ∀ s, s ∈ depsL q true → resIds rs s = resIds rt s) (HB : ∀ s, s ∈ depsL q false → ∀ i, i ∈ resIds rs s → i ∈ resIds rt s) (h : matB q f rs = true) : matB q f rt = true := by
  unfold matB at h ⊢
  simp only [Bool.and_eq_true] at h ⊢
  exact ⟨h.1, (mat_mono h.1 HA HB _ _).2 (neg_root h.1) h.2⟩
end Go.Proofs.YtemikjbfjhebnaaGreat
namespace Go.Proofs.YtemikjbfjhebnaaGreat
open Go.RowKit Go.Sort
set_option linter.unusedVariables false
def idsAt (rs : List Rs) (j : Nat) : List Int := match rs[j]? with | some r => r.ids | none => []
theorem idsAt_get {rs : List Rs} {j : Nat} {r : Rs} (h : rs[j]? = some r) : idsAt rs j = r.ids := by unfold idsAt; rw [h]
theorem idsAt_set_ne {rs : List Rs} {i j : Nat} {r : Rs} (h : i ≠ j) : idsAt (rs.set i r) j = idsAt rs j := by unfold idsAt; rw [List.getElem?_set_ne h]
theorem idsAt_set {rs : List Rs} {i : Nat} {r : Rs} (h : i < rs.length) : idsAt (rs.set i r) i = r.ids := by unfold idsAt; rw [List.getElem?_set_self h]
theorem resIds_pl : ∀ {xs : List Dr} {rs : List Rs} {s : ByteArray}, rs.map Rs.name = xs.map Dr.name → resIds rs s = (match plcF xs s with | some j => idsAt rs j | none => [])
  | [], [], s, _ => rfl
  | [], r :: rs, s, h => by simp at h
  | x :: xs, [], s, h => by simp at h
  | x :: xs, r :: rs, s, h => by
    simp at h
    have ih := resIds_pl (xs := xs) (rs := rs) (s := s) h.2
    unfold resIds plcF
    rw [h.1]
    cases hn : x.name.toList == s.toList with
    | true => rfl
    | false =>
      simp only [Bool.false_eq_true, if_false]
      rw [ih]
      cases plcF xs s with
      | none => rfl
      | some j => simp [idsAt]
noncomputable def st1 (xs : List Dr) (fs : List Fl) (k : Nat) (a : List Rs × Bool) (i : Nat) : List Rs × Bool :=
  match xs[i]? with
  | none => a
  | some x => if gt (stL xs) i = k then (if selL x.query fs a.1 = idsAt a.1 i then a else (a.1.set i ⟨x.name, selL x.query fs a.1⟩, true)) else a
noncomputable def passTo (xs : List Dr) (fs : List Fl) (k : Nat) (rs : List Rs) (i : Nat) : List Rs × Bool := (List.range i).foldl (st1 xs fs k) (rs, false)
theorem passTo_succ (xs : List Dr) (fs : List Fl) (k : Nat) (rs : List Rs) (i : Nat) : passTo xs fs k rs (i + 1) = st1 xs fs k (passTo xs fs k rs i) i := by
  unfold passTo; rw [List.range_succ, List.foldl_append]; rfl
theorem st1_skip {xs : List Dr} {fs : List Fl} {k i : Nat} {a : List Rs × Bool} (h : gt (stL xs) i ≠ k) : st1 xs fs k a i = a := by
  unfold st1; split
  · rfl
  · rw [if_neg h]
theorem st1_same {xs : List Dr} {fs : List Fl} {k i : Nat} {a : List Rs × Bool} {x : Dr} (hx : xs[i]? = some x) (h : selL x.query fs a.1 = idsAt a.1 i) : st1 xs fs k a i = a := by
  unfold st1; rw [hx]; simp only [h, if_true, ite_self]
theorem st1_new {xs : List Dr} {fs : List Fl} {k i : Nat} {a : List Rs × Bool} {x : Dr} (hx : xs[i]? = some x) (hk : gt (stL xs) i = k) (h : selL x.query fs a.1 ≠ idsAt a.1 i) : st1 xs fs k a i = (a.1.set i ⟨x.name, selL x.query fs a.1⟩, true) := by
  unfold st1; rw [hx]; simp only
  rw [if_pos hk, if_neg h]
structure LeK (xs : List Dr) (k : Nat) (r s : List Rs) : Prop where
  n1 : r.map Rs.name = xs.map Dr.name
  n2 : s.map Rs.name = xs.map Dr.name
  other : ∀ j, gt (stL xs) j ≠ k → idsAt r j = idsAt s j
  mine : ∀ j, gt (stL xs) j = k → ∀ i, i ∈ idsAt r j → i ∈ idsAt s j
theorem LeK.trans {xs : List Dr} {k : Nat} {r s t : List Rs} (h : LeK xs k r s) (g : LeK xs k s t) : LeK xs k r t :=
  ⟨h.n1, g.n2, fun j hj => (h.other j hj).trans (g.other j hj), fun j hj i hi => g.mine j hj i (h.mine j hj i hi)⟩
theorem edg_mem {xs : List Dr} {l : List ByteArray} {m j : Nat} {s : ByteArray} (h : s ∈ l) (hp : plcF xs s = some j) : (j, m) ∈ edg xs l m := by
  unfold edg; exact List.mem_filterMap.2 ⟨s, h, by rw [hp]; rfl⟩
theorem stB_sat {xs : List Dr} (h : stB xs = true) : SatN xs.length (dirE xs) (stL xs) := by
  unfold stL; rw [if_pos h]
  unfold stB at h
  simp only [Bool.and_eq_true] at h
  exact strB_sat h.2
theorem sel_mono {xs : List Dr} (hb : stB xs = true) {i k : Nat} {x : Dr} (hx : xs[i]? = some x) (hk : gt (stL xs) i = k) {r s : List Rs} (h : LeK xs k r s) {f : Fl} (hm : matB x.query f r = true) : matB x.query f s = true := by
  have hi := (List.getElem?_eq_some_iff.1 hx).1
  have hs := stB_sat hb i hi
  rw [dirE_at hx] at hs
  refine matB_mono (fun n hn => ?_) (fun n hn z hz => ?_) hm
  · rw [resIds_pl h.n1, resIds_pl h.n2]
    cases hp : plcF xs n with
    | none => rfl
    | some j =>
      have := hs (j, 1) (List.mem_append_right _ (edg_mem hn hp))
      exact h.other j (by simp only at this; omega)
  · rw [resIds_pl h.n1] at hz
    rw [resIds_pl h.n2]
    cases hp : plcF xs n with
    | none => rw [hp] at hz; exact hz
    | some j =>
      rw [hp] at hz
      by_cases hj : gt (stL xs) j = k
      · exact h.mine j hj z hz
      · have e := h.other j hj
        simp only at hz ⊢
        rw [← e]; exact hz
theorem selL_sub {xs : List Dr} (hb : stB xs = true) {i k : Nat} {x : Dr} (hx : xs[i]? = some x) (hk : gt (stL xs) i = k) {r s : List Rs} (h : LeK xs k r s) (fs : List Fl) {z : Int} (hz : z ∈ selL x.query fs r) : z ∈ selL x.query fs s := by
  unfold selL at hz ⊢
  obtain ⟨f, h1, h2⟩ := List.mem_map.1 hz
  obtain ⟨h3, h4⟩ := List.mem_filter.1 h1
  exact List.mem_map.2 ⟨f, List.mem_filter.2 ⟨h3, sel_mono hb hx hk h h4⟩, h2⟩
theorem selL_lt {xs : List Dr} (hb : stB xs = true) {i k : Nat} {x : Dr} (hx : xs[i]? = some x) (hk : gt (stL xs) i = k) {r s : List Rs} (h : LeK xs k r s) {fs : List Fl} (hne : selL x.query fs s ≠ selL x.query fs r) : (selL x.query fs r).length < (selL x.query fs s).length := by
  have hi : ∀ f, f ∈ fs → matB x.query f r = true → matB x.query f s = true := fun f _ hm => sel_mono hb hx hk h hm
  by_cases hc : ∃ f, f ∈ fs ∧ matB x.query f s = true ∧ matB x.query f r = false
  · obtain ⟨f, h1, h2, h3⟩ := hc
    unfold selL
    rw [List.length_map, List.length_map]
    exact filt_lt hi h1 h2 h3
  · exfalso
    apply hne
    unfold selL
    congr 1
    apply List.filter_congr
    intro f hf
    cases h2 : matB x.query f s with
    | false =>
      cases h3 : matB x.query f r with
      | false => rfl
      | true => rw [hi f hf h3] at h2; exact h2.symm
    | true =>
      cases h3 : matB x.query f r with
      | true => rfl
      | false => exact absurd ⟨f, hf, h2, h3⟩ hc
def tot (rs : List Rs) : Nat := sumN (rs.map fun r => r.ids.length)
theorem tot_set : ∀ {rs : List Rs} {i : Nat} {r : Rs}, i < rs.length → (idsAt rs i).length < r.ids.length → tot rs < tot (rs.set i r)
  | [], i, r, h, _ => by simp at h
  | y :: ys, 0, r, h, hg => by simp [idsAt] at hg; simp [tot, sumN]; omega
  | y :: ys, i + 1, r, h, hg => by
    have := tot_set (rs := ys) (i := i) (r := r) (by simpa using h) (by simpa [idsAt] using hg)
    simp [tot, sumN] at this ⊢; omega
theorem tot_le {b : Nat} : ∀ {rs : List Rs}, (∀ i, (idsAt rs i).length ≤ b) → tot rs ≤ rs.length * b
  | [], _ => by simp [tot, sumN]
  | y :: ys, h => by
    have h0 := h 0
    have ih := tot_le (rs := ys) (fun i => by have := h (i + 1); simpa [idsAt] using this)
    simp [idsAt] at h0
    simp [tot, sumN, Nat.succ_mul] at ih ⊢; omega
structure EvI (xs : List Dr) (fs : List Fl) (k : Nat) (rs : List Rs) : Prop where
  names : rs.map Rs.name = xs.map Dr.name
  len : ∀ i, (idsAt rs i).length ≤ fs.length
  later : ∀ i, k < gt (stL xs) i → idsAt rs i = []
  pre : ∀ i x, xs[i]? = some x → gt (stL xs) i = k → idsAt rs i = [] ∨ ∃ r0, LeK xs k r0 rs ∧ idsAt rs i = selL x.query fs r0
theorem EvI.next {xs : List Dr} {fs : List Fl} {k : Nat} {rs : List Rs} (h : EvI xs fs k rs) : EvI xs fs (k + 1) rs :=
  ⟨h.names, h.len, fun i hi => h.later i (by omega), fun i x hx hk => .inl (h.later i (by omega))⟩
theorem EvI.rlen {xs : List Dr} {fs : List Fl} {k : Nat} {rs : List Rs} (h : EvI xs fs k rs) : rs.length = xs.length := by
  have := congrArg List.length h.names; simpa using this
theorem EvI.le {xs : List Dr} {fs : List Fl} {k : Nat} {rs : List Rs} (h : EvI xs fs k rs) : LeK xs k rs rs := ⟨h.names, h.names, fun _ _ => rfl, fun _ _ _ hi => hi⟩
theorem EvI.step {xs : List Dr} {fs : List Fl} {k : Nat} {rs : List Rs} (hb : stB xs = true) (h : EvI xs fs k rs) {i : Nat} {x : Dr} (hx : xs[i]? = some x) (hk : gt (stL xs) i = k) (hne : selL x.query fs rs ≠ idsAt rs i) :
    EvI xs fs k (rs.set i ⟨x.name, selL x.query fs rs⟩) ∧ tot rs < tot (rs.set i ⟨x.name, selL x.query fs rs⟩) := by
  have hi := (List.getElem?_eq_some_iff.1 hx).1
  have hil : i < rs.length := by rw [h.rlen]; exact hi
  have hnm : (rs.set i ⟨x.name, selL x.query fs rs⟩).map Rs.name = xs.map Dr.name := by
    rw [List.map_set, h.names]
    apply List.ext_getElem?
    intro j
    by_cases hj : i = j
    · subst hj
      rw [List.getElem?_set_self (by simpa using hi), List.getElem?_map, hx]; rfl
    · rw [List.getElem?_set_ne hj]
  have hold : ∀ z, z ∈ idsAt rs i → z ∈ selL x.query fs rs := by
    rcases h.pre i x hx hk with e | ⟨r0, h1, h2⟩
    · intro z hz; rw [e] at hz; cases hz
    · intro z hz; rw [h2] at hz; exact selL_sub hb hx hk h1 fs hz
  have hlt : (idsAt rs i).length < (selL x.query fs rs).length := by
    rcases h.pre i x hx hk with e | ⟨r0, h1, h2⟩
    · rw [e] at hne ⊢
      cases hc : selL x.query fs rs with
      | nil => exact absurd hc hne
      | cons a l => simp
    · rw [h2] at hne ⊢
      exact selL_lt hb hx hk h1 hne
  have hle : LeK xs k rs (rs.set i ⟨x.name, selL x.query fs rs⟩) := by
    refine ⟨h.names, hnm, fun j hj => ?_, fun j hj z hz => ?_⟩
    · rw [idsAt_set_ne (fun e => hj (by rw [← e]; exact hk))]
    · by_cases hij : i = j
      · subst hij; rw [idsAt_set hil]; exact hold z hz
      · rw [idsAt_set_ne hij]; exact hz
  refine ⟨⟨hnm, fun j => ?_, fun j hj => ?_, fun j y hy hj => ?_⟩, tot_set hil hlt⟩
  · by_cases hij : i = j
    · subst hij; rw [idsAt_set hil]; exact selL_len _ _ _
    · rw [idsAt_set_ne hij]; exact h.len j
  · rw [idsAt_set_ne (fun e => by subst e; omega)]; exact h.later j hj
  · by_cases hij : i = j
    · subst hij
      obtain rfl := Option.some.inj (hx.symm.trans hy)
      rw [idsAt_set hil]
      exact .inr ⟨rs, hle, rfl⟩
    · rw [idsAt_set_ne hij]
      rcases h.pre j y hy hj with e | ⟨r0, h1, h2⟩
      · exact .inl e
      · exact .inr ⟨r0, h1.trans hle, h2⟩
noncomputable def passN (xs : List Dr) (fs : List Fl) (k : Nat) (rs : List Rs) : Nat → List Rs × Bool
  | 0 => (rs, true)
  | m + 1 => passTo xs fs k (passN xs fs k rs m).1 xs.length
def LvlEnd (xs : List Dr) (fs : List Fl) (k : Nat) (rs : List Rs) (m : Nat) : Prop := (∀ j, j ≤ m → (passN xs fs k rs j).2 = true) ∧ (passN xs fs k rs (m + 1)).2 = false
theorem LvlEnd.one {xs : List Dr} {fs : List Fl} {k : Nat} {rs : List Rs} {m p : Nat} (h : LvlEnd xs fs k rs m) (g : LvlEnd xs fs k rs p) : m = p := by
  rcases Nat.lt_trichotomy m p with hl | hl | hl
  · have := g.1 (m + 1) hl; rw [h.2] at this; cases this
  · exact hl
  · have := h.1 (p + 1) hl; rw [g.2] at this; cases this
def rs0 (xs : List Dr) : List Rs := xs.map fun x => ⟨x.name, []⟩
theorem rs0_ids (xs : List Dr) (i : Nat) : idsAt (rs0 xs) i = [] := by
  unfold idsAt rs0
  rw [List.getElem?_map]
  cases xs[i]? <;> rfl
theorem EvI.start (xs : List Dr) (fs : List Fl) : EvI xs fs 0 (rs0 xs) := by
  refine ⟨by unfold rs0; rw [List.map_map]; rfl, fun i => by rw [rs0_ids]; exact Nat.zero_le _, fun i _ => rs0_ids xs i, fun i x _ _ => .inl (rs0_ids xs i)⟩
inductive EvR (xs : List Dr) (fs : List Fl) : Nat → List Rs → Nat → Prop
  | zero : EvR xs fs 0 (rs0 xs) 0
  | succ {k : Nat} {rs : List Rs} {t m : Nat} : EvR xs fs k rs t → LvlEnd xs fs k rs m → EvR xs fs (k + 1) (passN xs fs k rs (m + 1)).1 (t + (m + 1))
theorem EvR.one {xs : List Dr} {fs : List Fl} : ∀ {k : Nat} {rs rt : List Rs} {t u : Nat}, EvR xs fs k rs t → EvR xs fs k rt u → rs = rt ∧ t = u := by
  intro k
  induction k with
  | zero => intro rs rt t u h g; cases h; cases g; exact ⟨rfl, rfl⟩
  | succ k ih =>
    intro rs rt t u h g
    cases h with
    | succ h1 h2 =>
      cases g with
      | succ g1 g2 =>
        obtain ⟨rfl, rfl⟩ := ih h1 g1
        obtain rfl := h2.one g2
        exact ⟨rfl, rfl⟩
noncomputable def lvls (xs : List Dr) : Nat := (mxS xs + 1).toNat
open Classical in
noncomputable def evP (xs : List Dr) (fs : List Fl) : List Rs × Nat := if h : ∃ p : List Rs × Nat, EvR xs fs (lvls xs) p.1 p.2 then h.choose else ([], 0)
theorem evP_of {xs : List Dr} {fs : List Fl} {rs : List Rs} {t : Nat} (h : EvR xs fs (lvls xs) rs t) : evP xs fs = (rs, t) := by
  have hx : ∃ p : List Rs × Nat, EvR xs fs (lvls xs) p.1 p.2 := ⟨(rs, t), h⟩
  unfold evP
  rw [dif_pos hx]
  have := EvR.one hx.choose_spec h
  exact Prod.ext this.1 this.2
end Go.Proofs.YtemikjbfjhebnaaGreat
