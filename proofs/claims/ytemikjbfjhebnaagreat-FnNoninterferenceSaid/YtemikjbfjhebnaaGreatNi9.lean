/- Texts M2, as far as they are needed. -/
import Derived.Test.YtemikjbfjhebnaaGreatNi8
import Derived.Test.YtemikjbfjhebnaaGreatNi5
import Derived.Test.YtemikjbfjhebnaaGreatNi1
namespace Go.Proofs.YtemikjbfjhebnaaGreat
open Go.RowKit
set_option linter.unusedVariables false
noncomputable def matR (q : List N) (f : Fl) (r : List Rs) : Nat → Nat → Bool
  | 0, _ => true
  | d + 1, i => match q[i]? with
    | none => true
    | some x =>
      if x.op = 1 then true
      else if x.op = 2 then !((getA f.attrs x.name).kind == 0)
      else if x.op = 3 then eqV (getA f.attrs x.name) x.val
      else if x.op = 4 then ((getA f.attrs x.name).kind == 1) && decide ((getA f.attrs x.name).int < x.val.int)
      else if x.op = 5 then !(matR q f r d x.left.toNat)
      else if x.op = 6 then matR q f r d x.left.toNat && matR q f r d x.right.toNat
      else if x.op = 7 then matR q f r d x.left.toNat || matR q f r d x.right.toNat
      else if x.op = 8 then has (resIds r x.name) f.id
      else !(f.link == 0) && has (resIds r x.name) f.link
theorem matR_at {q : List N} {f : Fl} {r : List Rs} {d i : Nat} {x : N} (h : q[i]? = some x) : matR q f r (d + 1) i =
    (if x.op = 1 then true
      else if x.op = 2 then !((getA f.attrs x.name).kind == 0)
      else if x.op = 3 then eqV (getA f.attrs x.name) x.val
      else if x.op = 4 then ((getA f.attrs x.name).kind == 1) && decide ((getA f.attrs x.name).int < x.val.int)
      else if x.op = 5 then !(matR q f r d x.left.toNat)
      else if x.op = 6 then matR q f r d x.left.toNat && matR q f r d x.right.toNat
      else if x.op = 7 then matR q f r d x.left.toNat || matR q f r d x.right.toNat
      else if x.op = 8 then has (resIds r x.name) f.id
      else !(f.link == 0) && has (resIds r x.name) f.link) := by
  conv => lhs; unfold matR
  rw [h]
theorem nod_op {x : N} {p : Nat} (h : nodB x p (wrap64 ((p : Int) - 1)) = true) : x.op = 1 ∨ x.op = 2 ∨ x.op = 3 ∨ x.op = 4 ∨ x.op = 5 ∨ x.op = 6 ∨ x.op = 7 ∨ x.op = 8 ∨ x.op = 9 := by
  unfold nodB at h
  by_cases h1 : x.op = 1; · exact .inl h1
  by_cases h2 : x.op = 2; · exact .inr (.inl h2)
  by_cases h3 : x.op = 3; · exact .inr (.inr (.inl h3))
  by_cases h4 : x.op = 4; · exact .inr (.inr (.inr (.inl h4)))
  by_cases h5 : x.op = 5; · omega
  by_cases h6 : x.op = 6; · omega
  by_cases h7 : x.op = 7; · omega
  by_cases h8 : x.op = 8; · omega
  by_cases h9 : x.op = 9; · omega
  simp [h1, h2, h3, h4, h5, h6, h7, h8, h9] at h
set_option maxRecDepth 100000 in
set_option maxHeartbeats 2000000 in
theorem specL14Node (q : List N) (f : Fl) (pf : P5) (rs : List Rs) (va vr : Value) (W0 : World) (hq : Rd W0 va 7 q.length (rows N.c q)) (hf : Fl.R W0 f pf) (hr : RdRs W0 vr rs) (hql : q.length ≤ 4000000) (hv : qryB q = true) (hfs : f.small) (hrl : rs.length ≤ 4000000) (hrs : ∀ x, x ∈ rs → x.small) :
    ∀ (d i : Nat) (w : World), Grew W0 w → i < d → i < q.length → Calls Tryz.prog 123 #[va, .int .i64 i, pf.v, vr] w fun e w' => e = .returned (.bool (matR q f rs d i)) ∧ Grew w w' := by
  have HQ := Lib.hid hq
  have HF := Lib.hid hf
  have HR := Lib.hid hr
  have HV := Lib.hid hv
  have HRS := Lib.hid hrs
  obtain ⟨a, ca, rfl, hca, hra⟩ := hq
  obtain ⟨_, ⟨ra, rca, rfl, _, hrr⟩, hall⟩ := hr
  obtain ⟨p1, p2, p3, p4, p5⟩ := pf
  obtain ⟨h1, h2, h3, h4, h5⟩ := hf
  simp only at h1 h2 h3 h4 h5
  subst h1; subst h2; subst h3; subst h4
  obtain ⟨fa, fc, rfl, hfc, hfr⟩ := h5
  clear hrr hall hfr hv hrs
  intro d
  induction d with
  | zero => intro i w _ h; omega
  | succ d ih =>
    intro i w hg hid hlt
    have IH := Lib.hid ih
    clear ih
    obtain ⟨b1, o1, x, rfl, hxk, c0, c1, c2, c3, c4, c5, c6⟩ := (hra.grew hg).getN hlt
    have hnode := qry_node HV.out hxk.out
    have hop := nod_op hnode
    have HN := Lib.hid hnode
    have HM := Lib.hid (matR_at (f := f) (r := rs) (d := d) hxk.out)
    clear hnode
    obtain ⟨op, l, r, nm, v⟩ := x
    simp only at c0 c1 c2 c3 c4 c5 c6 hop
    simp only at HM
    have hal1 := (Grew.refl w).alloc (.cells #[.int .i64 f.id, .int .i64 f.owner, .bool f.shared, .int .i64 f.link, .slice fa f.attrs.length fc] 55)
    have e0 := grew_cell hal1 c0
    have e1 := grew_cell hal1 c1
    have e2 := grew_cell hal1 c2
    have e3 := grew_cell hal1 c3
    have e4 := grew_cell hal1 c4
    have e5 := grew_cell hal1 c5
    have e6 := grew_cell hal1 c6
    obtain ⟨gv, hgv⟩ : ∃ g, getA f.attrs nm = g := ⟨_, rfl⟩
    have HG := Lib.hid hgv
    rw [hgv] at HM
    clear hgv
    have hal := ((Grew.refl w).alloc (.cells #[.int .i64 f.id, .int .i64 f.owner, .bool f.shared, .int .i64 f.link, .slice fa f.attrs.length fc] 55)).alloc (.cells #[.int .i64 op, .int .i64 l, .int .i64 r, .string nm, .int .i64 v.kind, .int .i64 v.int, .string v.str] 70)
    rcases hop with rfl | rfl | rfl | rfl | rfl | rfl | rfl | rfl | rfl
    · have hE : True := trivial
      go_enter Tryz.func123, Tryz.ntmps123
      go_wp2_with (go_at_call 136; refine (specGetAttr f ⟨f.id, f.owner, f.shared, f.link, .slice fa f.attrs.length fc⟩ nm _ (HF.out.grew (hg.trans hal)) hfs).mono ?_; rintro e w1 ⟨he, hb⟩; rw [HG.out] at he; subst he; have g1 := (Grew.refl w1).alloc (.cells #[.int .i64 gv.kind, .int .i64 gv.int, .string gv.str] 68); have k0 := grew_cell g1 (grew_cell (a := ⟨w.heap.size + 1, 0, none⟩) (u := .int .i64 1) hb (by simp [go_sem])); have k1 := grew_cell g1 (grew_cell (a := ⟨w.heap.size + 1, 1, none⟩) (u := .int .i64 l) hb (by simp [go_sem])); have k2 := grew_cell g1 (grew_cell (a := ⟨w.heap.size + 1, 2, none⟩) (u := .int .i64 r) hb (by simp [go_sem])); have k3 := grew_cell g1 (grew_cell (a := ⟨w.heap.size + 1, 3, none⟩) (u := .string nm) hb (by simp [go_sem])); have k4 := grew_cell g1 (grew_cell (a := ⟨w.heap.size + 1, 4, none⟩) (u := .int .i64 v.kind) hb (by simp [go_sem])); have k5 := grew_cell g1 (grew_cell (a := ⟨w.heap.size + 1, 5, none⟩) (u := .int .i64 v.int) hb (by simp [go_sem])); have k6 := grew_cell g1 (grew_cell (a := ⟨w.heap.size + 1, 6, none⟩) (u := .string v.str) hb (by simp [go_sem])); have kf0 := grew_cell g1 (grew_cell (a := ⟨w.heap.size, 0, none⟩) (u := .int .i64 f.id) hb (grew_cell ((Grew.refl _).alloc _) (by simp))); have kf1 := grew_cell g1 (grew_cell (a := ⟨w.heap.size, 1, none⟩) (u := .int .i64 f.owner) hb (grew_cell ((Grew.refl _).alloc _) (by simp))); have kf2 := grew_cell g1 (grew_cell (a := ⟨w.heap.size, 2, none⟩) (u := .bool f.shared) hb (grew_cell ((Grew.refl _).alloc _) (by simp))); have kf3 := grew_cell g1 (grew_cell (a := ⟨w.heap.size, 3, none⟩) (u := .int .i64 f.link) hb (grew_cell ((Grew.refl _).alloc _) (by simp))); have kf4 := grew_cell g1 (grew_cell (a := ⟨w.heap.size, 4, none⟩) (u := .slice fa f.attrs.length fc) hb (grew_cell ((Grew.refl _).alloc _) (by simp))))
      go_ret
      refine ⟨ret_bool ?_, (hal.trans hb).alloc _⟩
      rw [HM.out]; rfl
    · have hE : True := trivial
      go_enter Tryz.func123, Tryz.ntmps123
      go_wp2_with (go_at_call 136; refine (specGetAttr f ⟨f.id, f.owner, f.shared, f.link, .slice fa f.attrs.length fc⟩ nm _ (HF.out.grew (hg.trans hal)) hfs).mono ?_; rintro e w1 ⟨he, hb⟩; rw [HG.out] at he; subst he; have g1 := (Grew.refl w1).alloc (.cells #[.int .i64 gv.kind, .int .i64 gv.int, .string gv.str] 68); have k0 := grew_cell g1 (grew_cell (a := ⟨w.heap.size + 1, 0, none⟩) (u := .int .i64 2) hb (by simp [go_sem])); have k1 := grew_cell g1 (grew_cell (a := ⟨w.heap.size + 1, 1, none⟩) (u := .int .i64 l) hb (by simp [go_sem])); have k2 := grew_cell g1 (grew_cell (a := ⟨w.heap.size + 1, 2, none⟩) (u := .int .i64 r) hb (by simp [go_sem])); have k3 := grew_cell g1 (grew_cell (a := ⟨w.heap.size + 1, 3, none⟩) (u := .string nm) hb (by simp [go_sem])); have k4 := grew_cell g1 (grew_cell (a := ⟨w.heap.size + 1, 4, none⟩) (u := .int .i64 v.kind) hb (by simp [go_sem])); have k5 := grew_cell g1 (grew_cell (a := ⟨w.heap.size + 1, 5, none⟩) (u := .int .i64 v.int) hb (by simp [go_sem])); have k6 := grew_cell g1 (grew_cell (a := ⟨w.heap.size + 1, 6, none⟩) (u := .string v.str) hb (by simp [go_sem])); have kf0 := grew_cell g1 (grew_cell (a := ⟨w.heap.size, 0, none⟩) (u := .int .i64 f.id) hb (grew_cell ((Grew.refl _).alloc _) (by simp))); have kf1 := grew_cell g1 (grew_cell (a := ⟨w.heap.size, 1, none⟩) (u := .int .i64 f.owner) hb (grew_cell ((Grew.refl _).alloc _) (by simp))); have kf2 := grew_cell g1 (grew_cell (a := ⟨w.heap.size, 2, none⟩) (u := .bool f.shared) hb (grew_cell ((Grew.refl _).alloc _) (by simp))); have kf3 := grew_cell g1 (grew_cell (a := ⟨w.heap.size, 3, none⟩) (u := .int .i64 f.link) hb (grew_cell ((Grew.refl _).alloc _) (by simp))); have kf4 := grew_cell g1 (grew_cell (a := ⟨w.heap.size, 4, none⟩) (u := .slice fa f.attrs.length fc) hb (grew_cell ((Grew.refl _).alloc _) (by simp))))
      go_ret
      refine ⟨ret_bool ?_, (hal.trans hb).alloc _⟩
      rw [HM.out]; rfl
    · have hE := fun w => runEqV gv v w
      go_enter Tryz.func123, Tryz.ntmps123
      go_wp2_with (go_at_call 136; refine (specGetAttr f ⟨f.id, f.owner, f.shared, f.link, .slice fa f.attrs.length fc⟩ nm _ (HF.out.grew (hg.trans hal)) hfs).mono ?_; rintro e w1 ⟨he, hb⟩; rw [HG.out] at he; subst he; have g1 := (Grew.refl w1).alloc (.cells #[.int .i64 gv.kind, .int .i64 gv.int, .string gv.str] 68); have k0 := grew_cell g1 (grew_cell (a := ⟨w.heap.size + 1, 0, none⟩) (u := .int .i64 3) hb (by simp [go_sem])); have k1 := grew_cell g1 (grew_cell (a := ⟨w.heap.size + 1, 1, none⟩) (u := .int .i64 l) hb (by simp [go_sem])); have k2 := grew_cell g1 (grew_cell (a := ⟨w.heap.size + 1, 2, none⟩) (u := .int .i64 r) hb (by simp [go_sem])); have k3 := grew_cell g1 (grew_cell (a := ⟨w.heap.size + 1, 3, none⟩) (u := .string nm) hb (by simp [go_sem])); have k4 := grew_cell g1 (grew_cell (a := ⟨w.heap.size + 1, 4, none⟩) (u := .int .i64 v.kind) hb (by simp [go_sem])); have k5 := grew_cell g1 (grew_cell (a := ⟨w.heap.size + 1, 5, none⟩) (u := .int .i64 v.int) hb (by simp [go_sem])); have k6 := grew_cell g1 (grew_cell (a := ⟨w.heap.size + 1, 6, none⟩) (u := .string v.str) hb (by simp [go_sem])); have kf0 := grew_cell g1 (grew_cell (a := ⟨w.heap.size, 0, none⟩) (u := .int .i64 f.id) hb (grew_cell ((Grew.refl _).alloc _) (by simp))); have kf1 := grew_cell g1 (grew_cell (a := ⟨w.heap.size, 1, none⟩) (u := .int .i64 f.owner) hb (grew_cell ((Grew.refl _).alloc _) (by simp))); have kf2 := grew_cell g1 (grew_cell (a := ⟨w.heap.size, 2, none⟩) (u := .bool f.shared) hb (grew_cell ((Grew.refl _).alloc _) (by simp))); have kf3 := grew_cell g1 (grew_cell (a := ⟨w.heap.size, 3, none⟩) (u := .int .i64 f.link) hb (grew_cell ((Grew.refl _).alloc _) (by simp))); have kf4 := grew_cell g1 (grew_cell (a := ⟨w.heap.size, 4, none⟩) (u := .slice fa f.attrs.length fc) hb (grew_cell ((Grew.refl _).alloc _) (by simp))))
      go_ret
      refine ⟨ret_bool ?_, (hal.trans hb).alloc _⟩
      rw [HM.out]; rfl
    · have hE : True := trivial
      have hcs : (gv.kind == 1) = true ∨ (gv.kind == 1) = false := by cases gv.kind == 1 <;> simp
      rcases hcs with hk | hk
      all_goals
        go_enter Tryz.func123, Tryz.ntmps123
        go_wp2_with (go_at_call 136; refine (specGetAttr f ⟨f.id, f.owner, f.shared, f.link, .slice fa f.attrs.length fc⟩ nm _ (HF.out.grew (hg.trans hal)) hfs).mono ?_; rintro e w1 ⟨he, hb⟩; rw [HG.out] at he; subst he; have g1 := (Grew.refl w1).alloc (.cells #[.int .i64 gv.kind, .int .i64 gv.int, .string gv.str] 68); have k0 := grew_cell g1 (grew_cell (a := ⟨w.heap.size + 1, 0, none⟩) (u := .int .i64 4) hb (by simp [go_sem])); have k1 := grew_cell g1 (grew_cell (a := ⟨w.heap.size + 1, 1, none⟩) (u := .int .i64 l) hb (by simp [go_sem])); have k2 := grew_cell g1 (grew_cell (a := ⟨w.heap.size + 1, 2, none⟩) (u := .int .i64 r) hb (by simp [go_sem])); have k3 := grew_cell g1 (grew_cell (a := ⟨w.heap.size + 1, 3, none⟩) (u := .string nm) hb (by simp [go_sem])); have k4 := grew_cell g1 (grew_cell (a := ⟨w.heap.size + 1, 4, none⟩) (u := .int .i64 v.kind) hb (by simp [go_sem])); have k5 := grew_cell g1 (grew_cell (a := ⟨w.heap.size + 1, 5, none⟩) (u := .int .i64 v.int) hb (by simp [go_sem])); have k6 := grew_cell g1 (grew_cell (a := ⟨w.heap.size + 1, 6, none⟩) (u := .string v.str) hb (by simp [go_sem])); have kf0 := grew_cell g1 (grew_cell (a := ⟨w.heap.size, 0, none⟩) (u := .int .i64 f.id) hb (grew_cell ((Grew.refl _).alloc _) (by simp))); have kf1 := grew_cell g1 (grew_cell (a := ⟨w.heap.size, 1, none⟩) (u := .int .i64 f.owner) hb (grew_cell ((Grew.refl _).alloc _) (by simp))); have kf2 := grew_cell g1 (grew_cell (a := ⟨w.heap.size, 2, none⟩) (u := .bool f.shared) hb (grew_cell ((Grew.refl _).alloc _) (by simp))); have kf3 := grew_cell g1 (grew_cell (a := ⟨w.heap.size, 3, none⟩) (u := .int .i64 f.link) hb (grew_cell ((Grew.refl _).alloc _) (by simp))); have kf4 := grew_cell g1 (grew_cell (a := ⟨w.heap.size, 4, none⟩) (u := .slice fa f.attrs.length fc) hb (grew_cell ((Grew.refl _).alloc _) (by simp))))
        go_ret
        refine ⟨ret_bool ?_, (hal.trans hb).alloc _⟩
        rw [HM.out]
        simp [hk]
    · obtain ⟨j, rfl, hj⟩ := nod5 (by omega) HN.out
      obtain ⟨bl, hbl⟩ : ∃ b, matR q f rs d j = b := ⟨_, rfl⟩
      have HBL := Lib.hid hbl
      clear hbl
      go_enter Tryz.func123, Tryz.ntmps123
      go_wp2_with (first | (go_at_call 136; refine (specGetAttr f ⟨f.id, f.owner, f.shared, f.link, .slice fa f.attrs.length fc⟩ nm _ (HF.out.grew (hg.trans hal)) hfs).mono ?_; rintro e w1 ⟨he, hb⟩; rw [HG.out] at he; subst he; have g1 := (Grew.refl w1).alloc (.cells #[.int .i64 gv.kind, .int .i64 gv.int, .string gv.str] 68); have k0 := grew_cell g1 (grew_cell (a := ⟨w.heap.size + 1, 0, none⟩) (u := .int .i64 5) hb (by simp [go_sem])); have k1 := grew_cell g1 (grew_cell (a := ⟨w.heap.size + 1, 1, none⟩) (u := .int .i64 j) hb (by simp [go_sem])); have k2 := grew_cell g1 (grew_cell (a := ⟨w.heap.size + 1, 2, none⟩) (u := .int .i64 r) hb (by simp [go_sem])); have k3 := grew_cell g1 (grew_cell (a := ⟨w.heap.size + 1, 3, none⟩) (u := .string nm) hb (by simp [go_sem])); have k4 := grew_cell g1 (grew_cell (a := ⟨w.heap.size + 1, 4, none⟩) (u := .int .i64 v.kind) hb (by simp [go_sem])); have k5 := grew_cell g1 (grew_cell (a := ⟨w.heap.size + 1, 5, none⟩) (u := .int .i64 v.int) hb (by simp [go_sem])); have k6 := grew_cell g1 (grew_cell (a := ⟨w.heap.size + 1, 6, none⟩) (u := .string v.str) hb (by simp [go_sem])); have kf0 := grew_cell g1 (grew_cell (a := ⟨w.heap.size, 0, none⟩) (u := .int .i64 f.id) hb (grew_cell ((Grew.refl _).alloc _) (by simp))); have kf1 := grew_cell g1 (grew_cell (a := ⟨w.heap.size, 1, none⟩) (u := .int .i64 f.owner) hb (grew_cell ((Grew.refl _).alloc _) (by simp))); have kf2 := grew_cell g1 (grew_cell (a := ⟨w.heap.size, 2, none⟩) (u := .bool f.shared) hb (grew_cell ((Grew.refl _).alloc _) (by simp))); have kf3 := grew_cell g1 (grew_cell (a := ⟨w.heap.size, 3, none⟩) (u := .int .i64 f.link) hb (grew_cell ((Grew.refl _).alloc _) (by simp))); have kf4 := grew_cell g1 (grew_cell (a := ⟨w.heap.size, 4, none⟩) (u := .slice fa f.attrs.length fc) hb (grew_cell ((Grew.refl _).alloc _) (by simp)))) | (go_at_call 123; refine (IH.out j _ (hg.trans ((hal.trans hb).alloc _)) (by omega) (by omega)).mono ?_; rintro e w2 ⟨he2, hb2⟩; rw [HBL.out] at he2; subst he2))
      go_ret
      refine ⟨ret_bool ?_, ((hal.trans hb).alloc _).trans hb2⟩
      rw [HM.out, ← HBL.out]; rfl
    · obtain ⟨j, i2, rfl, rfl, hj, hi2⟩ := nod67 (by omega) (by omega) HN.out
      obtain ⟨bl, hbl⟩ : ∃ b, matR q f rs d j = b := ⟨_, rfl⟩
      obtain ⟨br, hbr⟩ : ∃ b, matR q f rs d i2 = b := ⟨_, rfl⟩
      have HBL := Lib.hid hbl
      have HBR := Lib.hid hbr
      clear hbl hbr
      have hcs : bl = true ∨ bl = false := by cases bl <;> simp
      rcases hcs with rfl | rfl
      · have hk0 := hj
        go_enter Tryz.func123, Tryz.ntmps123
        go_wp2_with (first | (go_at_call 136; refine (specGetAttr f ⟨f.id, f.owner, f.shared, f.link, .slice fa f.attrs.length fc⟩ nm _ (HF.out.grew (hg.trans hal)) hfs).mono ?_; rintro e w1 ⟨he, hb⟩; rw [HG.out] at he; subst he; have g1 := (Grew.refl w1).alloc (.cells #[.int .i64 gv.kind, .int .i64 gv.int, .string gv.str] 68); have k0 := grew_cell g1 (grew_cell (a := ⟨w.heap.size + 1, 0, none⟩) (u := .int .i64 6) hb (by simp [go_sem])); have k1 := grew_cell g1 (grew_cell (a := ⟨w.heap.size + 1, 1, none⟩) (u := .int .i64 j) hb (by simp [go_sem])); have k2 := grew_cell g1 (grew_cell (a := ⟨w.heap.size + 1, 2, none⟩) (u := .int .i64 i2) hb (by simp [go_sem])); have k3 := grew_cell g1 (grew_cell (a := ⟨w.heap.size + 1, 3, none⟩) (u := .string nm) hb (by simp [go_sem])); have k4 := grew_cell g1 (grew_cell (a := ⟨w.heap.size + 1, 4, none⟩) (u := .int .i64 v.kind) hb (by simp [go_sem])); have k5 := grew_cell g1 (grew_cell (a := ⟨w.heap.size + 1, 5, none⟩) (u := .int .i64 v.int) hb (by simp [go_sem])); have k6 := grew_cell g1 (grew_cell (a := ⟨w.heap.size + 1, 6, none⟩) (u := .string v.str) hb (by simp [go_sem])); have kf0 := grew_cell g1 (grew_cell (a := ⟨w.heap.size, 0, none⟩) (u := .int .i64 f.id) hb (grew_cell ((Grew.refl _).alloc _) (by simp))); have kf1 := grew_cell g1 (grew_cell (a := ⟨w.heap.size, 1, none⟩) (u := .int .i64 f.owner) hb (grew_cell ((Grew.refl _).alloc _) (by simp))); have kf2 := grew_cell g1 (grew_cell (a := ⟨w.heap.size, 2, none⟩) (u := .bool f.shared) hb (grew_cell ((Grew.refl _).alloc _) (by simp))); have kf3 := grew_cell g1 (grew_cell (a := ⟨w.heap.size, 3, none⟩) (u := .int .i64 f.link) hb (grew_cell ((Grew.refl _).alloc _) (by simp))); have kf4 := grew_cell g1 (grew_cell (a := ⟨w.heap.size, 4, none⟩) (u := .slice fa f.attrs.length fc) hb (grew_cell ((Grew.refl _).alloc _) (by simp)))) | (go_at_call 123; with_reducible refine (IH.out j _ (hg.trans ((hal.trans hb).alloc _)) (by omega) (by omega)).mono ?_; rintro e w2 ⟨he2, hb2⟩; rw [HBL.out] at he2; subst he2; have m0 := grew_cell hb2 k0; have m1 := grew_cell hb2 k1; have m2 := grew_cell hb2 k2; have m3 := grew_cell hb2 k3; have m4 := grew_cell hb2 k4; have m5 := grew_cell hb2 k5; have m6 := grew_cell hb2 k6; have mf0 := grew_cell hb2 kf0; have mf1 := grew_cell hb2 kf1; have mf2 := grew_cell hb2 kf2; have mf3 := grew_cell hb2 kf3; have mf4 := grew_cell hb2 kf4) | (go_at_call 123; with_reducible refine (IH.out i2 _ (hg.trans (((hal.trans hb).alloc _).trans hb2)) (by omega) (by omega)).mono ?_; rintro e w3 ⟨he3, hb3⟩; rw [HBR.out] at he3; subst he3))
        go_ret
        refine ⟨ret_bool ?_, ((hal.trans hb).alloc _).trans (hb2.trans hb3)⟩
        rw [HM.out]; simp [HBL.out, HBR.out]
      · have hk0 := hj
        go_enter Tryz.func123, Tryz.ntmps123
        go_wp2_with (first | (go_at_call 136; refine (specGetAttr f ⟨f.id, f.owner, f.shared, f.link, .slice fa f.attrs.length fc⟩ nm _ (HF.out.grew (hg.trans hal)) hfs).mono ?_; rintro e w1 ⟨he, hb⟩; rw [HG.out] at he; subst he; have g1 := (Grew.refl w1).alloc (.cells #[.int .i64 gv.kind, .int .i64 gv.int, .string gv.str] 68); have k0 := grew_cell g1 (grew_cell (a := ⟨w.heap.size + 1, 0, none⟩) (u := .int .i64 6) hb (by simp [go_sem])); have k1 := grew_cell g1 (grew_cell (a := ⟨w.heap.size + 1, 1, none⟩) (u := .int .i64 j) hb (by simp [go_sem])); have k2 := grew_cell g1 (grew_cell (a := ⟨w.heap.size + 1, 2, none⟩) (u := .int .i64 i2) hb (by simp [go_sem])); have k3 := grew_cell g1 (grew_cell (a := ⟨w.heap.size + 1, 3, none⟩) (u := .string nm) hb (by simp [go_sem])); have k4 := grew_cell g1 (grew_cell (a := ⟨w.heap.size + 1, 4, none⟩) (u := .int .i64 v.kind) hb (by simp [go_sem])); have k5 := grew_cell g1 (grew_cell (a := ⟨w.heap.size + 1, 5, none⟩) (u := .int .i64 v.int) hb (by simp [go_sem])); have k6 := grew_cell g1 (grew_cell (a := ⟨w.heap.size + 1, 6, none⟩) (u := .string v.str) hb (by simp [go_sem])); have kf0 := grew_cell g1 (grew_cell (a := ⟨w.heap.size, 0, none⟩) (u := .int .i64 f.id) hb (grew_cell ((Grew.refl _).alloc _) (by simp))); have kf1 := grew_cell g1 (grew_cell (a := ⟨w.heap.size, 1, none⟩) (u := .int .i64 f.owner) hb (grew_cell ((Grew.refl _).alloc _) (by simp))); have kf2 := grew_cell g1 (grew_cell (a := ⟨w.heap.size, 2, none⟩) (u := .bool f.shared) hb (grew_cell ((Grew.refl _).alloc _) (by simp))); have kf3 := grew_cell g1 (grew_cell (a := ⟨w.heap.size, 3, none⟩) (u := .int .i64 f.link) hb (grew_cell ((Grew.refl _).alloc _) (by simp))); have kf4 := grew_cell g1 (grew_cell (a := ⟨w.heap.size, 4, none⟩) (u := .slice fa f.attrs.length fc) hb (grew_cell ((Grew.refl _).alloc _) (by simp)))) | (go_at_call 123; with_reducible refine (IH.out j _ (hg.trans ((hal.trans hb).alloc _)) (by omega) (by omega)).mono ?_; rintro e w2 ⟨he2, hb2⟩; rw [HBL.out] at he2; subst he2; have m0 := grew_cell hb2 k0; have m1 := grew_cell hb2 k1; have m2 := grew_cell hb2 k2; have m3 := grew_cell hb2 k3; have m4 := grew_cell hb2 k4; have m5 := grew_cell hb2 k5; have m6 := grew_cell hb2 k6; have mf0 := grew_cell hb2 kf0; have mf1 := grew_cell hb2 kf1; have mf2 := grew_cell hb2 kf2; have mf3 := grew_cell hb2 kf3; have mf4 := grew_cell hb2 kf4))
        go_ret
        refine ⟨ret_bool ?_, ((hal.trans hb).alloc _).trans hb2⟩
        rw [HM.out]; simp [HBL.out]
    · obtain ⟨j, i2, rfl, rfl, hj, hi2⟩ := nod67 (by omega) (by omega) HN.out
      obtain ⟨bl, hbl⟩ : ∃ b, matR q f rs d j = b := ⟨_, rfl⟩
      obtain ⟨br, hbr⟩ : ∃ b, matR q f rs d i2 = b := ⟨_, rfl⟩
      have HBL := Lib.hid hbl
      have HBR := Lib.hid hbr
      clear hbl hbr
      have hcs : bl = true ∨ bl = false := by cases bl <;> simp
      rcases hcs with rfl | rfl
      · have hk0 := hj
        go_enter Tryz.func123, Tryz.ntmps123
        go_wp2_with (first | (go_at_call 136; refine (specGetAttr f ⟨f.id, f.owner, f.shared, f.link, .slice fa f.attrs.length fc⟩ nm _ (HF.out.grew (hg.trans hal)) hfs).mono ?_; rintro e w1 ⟨he, hb⟩; rw [HG.out] at he; subst he; have g1 := (Grew.refl w1).alloc (.cells #[.int .i64 gv.kind, .int .i64 gv.int, .string gv.str] 68); have k0 := grew_cell g1 (grew_cell (a := ⟨w.heap.size + 1, 0, none⟩) (u := .int .i64 7) hb (by simp [go_sem])); have k1 := grew_cell g1 (grew_cell (a := ⟨w.heap.size + 1, 1, none⟩) (u := .int .i64 j) hb (by simp [go_sem])); have k2 := grew_cell g1 (grew_cell (a := ⟨w.heap.size + 1, 2, none⟩) (u := .int .i64 i2) hb (by simp [go_sem])); have k3 := grew_cell g1 (grew_cell (a := ⟨w.heap.size + 1, 3, none⟩) (u := .string nm) hb (by simp [go_sem])); have k4 := grew_cell g1 (grew_cell (a := ⟨w.heap.size + 1, 4, none⟩) (u := .int .i64 v.kind) hb (by simp [go_sem])); have k5 := grew_cell g1 (grew_cell (a := ⟨w.heap.size + 1, 5, none⟩) (u := .int .i64 v.int) hb (by simp [go_sem])); have k6 := grew_cell g1 (grew_cell (a := ⟨w.heap.size + 1, 6, none⟩) (u := .string v.str) hb (by simp [go_sem])); have kf0 := grew_cell g1 (grew_cell (a := ⟨w.heap.size, 0, none⟩) (u := .int .i64 f.id) hb (grew_cell ((Grew.refl _).alloc _) (by simp))); have kf1 := grew_cell g1 (grew_cell (a := ⟨w.heap.size, 1, none⟩) (u := .int .i64 f.owner) hb (grew_cell ((Grew.refl _).alloc _) (by simp))); have kf2 := grew_cell g1 (grew_cell (a := ⟨w.heap.size, 2, none⟩) (u := .bool f.shared) hb (grew_cell ((Grew.refl _).alloc _) (by simp))); have kf3 := grew_cell g1 (grew_cell (a := ⟨w.heap.size, 3, none⟩) (u := .int .i64 f.link) hb (grew_cell ((Grew.refl _).alloc _) (by simp))); have kf4 := grew_cell g1 (grew_cell (a := ⟨w.heap.size, 4, none⟩) (u := .slice fa f.attrs.length fc) hb (grew_cell ((Grew.refl _).alloc _) (by simp)))) | (go_at_call 123; with_reducible refine (IH.out j _ (hg.trans ((hal.trans hb).alloc _)) (by omega) (by omega)).mono ?_; rintro e w2 ⟨he2, hb2⟩; rw [HBL.out] at he2; subst he2; have m0 := grew_cell hb2 k0; have m1 := grew_cell hb2 k1; have m2 := grew_cell hb2 k2; have m3 := grew_cell hb2 k3; have m4 := grew_cell hb2 k4; have m5 := grew_cell hb2 k5; have m6 := grew_cell hb2 k6; have mf0 := grew_cell hb2 kf0; have mf1 := grew_cell hb2 kf1; have mf2 := grew_cell hb2 kf2; have mf3 := grew_cell hb2 kf3; have mf4 := grew_cell hb2 kf4))
        go_ret
        refine ⟨ret_bool ?_, ((hal.trans hb).alloc _).trans hb2⟩
        rw [HM.out]; simp [HBL.out]
      · have hk0 := hj
        go_enter Tryz.func123, Tryz.ntmps123
        go_wp2_with (first | (go_at_call 136; refine (specGetAttr f ⟨f.id, f.owner, f.shared, f.link, .slice fa f.attrs.length fc⟩ nm _ (HF.out.grew (hg.trans hal)) hfs).mono ?_; rintro e w1 ⟨he, hb⟩; rw [HG.out] at he; subst he; have g1 := (Grew.refl w1).alloc (.cells #[.int .i64 gv.kind, .int .i64 gv.int, .string gv.str] 68); have k0 := grew_cell g1 (grew_cell (a := ⟨w.heap.size + 1, 0, none⟩) (u := .int .i64 7) hb (by simp [go_sem])); have k1 := grew_cell g1 (grew_cell (a := ⟨w.heap.size + 1, 1, none⟩) (u := .int .i64 j) hb (by simp [go_sem])); have k2 := grew_cell g1 (grew_cell (a := ⟨w.heap.size + 1, 2, none⟩) (u := .int .i64 i2) hb (by simp [go_sem])); have k3 := grew_cell g1 (grew_cell (a := ⟨w.heap.size + 1, 3, none⟩) (u := .string nm) hb (by simp [go_sem])); have k4 := grew_cell g1 (grew_cell (a := ⟨w.heap.size + 1, 4, none⟩) (u := .int .i64 v.kind) hb (by simp [go_sem])); have k5 := grew_cell g1 (grew_cell (a := ⟨w.heap.size + 1, 5, none⟩) (u := .int .i64 v.int) hb (by simp [go_sem])); have k6 := grew_cell g1 (grew_cell (a := ⟨w.heap.size + 1, 6, none⟩) (u := .string v.str) hb (by simp [go_sem])); have kf0 := grew_cell g1 (grew_cell (a := ⟨w.heap.size, 0, none⟩) (u := .int .i64 f.id) hb (grew_cell ((Grew.refl _).alloc _) (by simp))); have kf1 := grew_cell g1 (grew_cell (a := ⟨w.heap.size, 1, none⟩) (u := .int .i64 f.owner) hb (grew_cell ((Grew.refl _).alloc _) (by simp))); have kf2 := grew_cell g1 (grew_cell (a := ⟨w.heap.size, 2, none⟩) (u := .bool f.shared) hb (grew_cell ((Grew.refl _).alloc _) (by simp))); have kf3 := grew_cell g1 (grew_cell (a := ⟨w.heap.size, 3, none⟩) (u := .int .i64 f.link) hb (grew_cell ((Grew.refl _).alloc _) (by simp))); have kf4 := grew_cell g1 (grew_cell (a := ⟨w.heap.size, 4, none⟩) (u := .slice fa f.attrs.length fc) hb (grew_cell ((Grew.refl _).alloc _) (by simp)))) | (go_at_call 123; with_reducible refine (IH.out j _ (hg.trans ((hal.trans hb).alloc _)) (by omega) (by omega)).mono ?_; rintro e w2 ⟨he2, hb2⟩; rw [HBL.out] at he2; subst he2; have m0 := grew_cell hb2 k0; have m1 := grew_cell hb2 k1; have m2 := grew_cell hb2 k2; have m3 := grew_cell hb2 k3; have m4 := grew_cell hb2 k4; have m5 := grew_cell hb2 k5; have m6 := grew_cell hb2 k6; have mf0 := grew_cell hb2 kf0; have mf1 := grew_cell hb2 kf1; have mf2 := grew_cell hb2 kf2; have mf3 := grew_cell hb2 kf3; have mf4 := grew_cell hb2 kf4) | (go_at_call 123; with_reducible refine (IH.out i2 _ (hg.trans (((hal.trans hb).alloc _).trans hb2)) (by omega) (by omega)).mono ?_; rintro e w3 ⟨he3, hb3⟩; rw [HBR.out] at he3; subst he3))
        go_ret
        refine ⟨ret_bool ?_, ((hal.trans hb).alloc _).trans (hb2.trans hb3)⟩
        rw [HM.out]; simp [HBL.out, HBR.out]
    · have hk0 := hid
      go_enter Tryz.func123, Tryz.ntmps123
      go_wp2_with (go_at_call 136; refine (specGetAttr f ⟨f.id, f.owner, f.shared, f.link, .slice fa f.attrs.length fc⟩ nm _ (HF.out.grew (hg.trans hal)) hfs).mono ?_; rintro e w1 ⟨he, hb⟩; rw [HG.out] at he; subst he; have g1 := (Grew.refl w1).alloc (.cells #[.int .i64 gv.kind, .int .i64 gv.int, .string gv.str] 68); have k0 := grew_cell g1 (grew_cell (a := ⟨w.heap.size + 1, 0, none⟩) (u := .int .i64 8) hb (by simp [go_sem])); have k1 := grew_cell g1 (grew_cell (a := ⟨w.heap.size + 1, 1, none⟩) (u := .int .i64 l) hb (by simp [go_sem])); have k2 := grew_cell g1 (grew_cell (a := ⟨w.heap.size + 1, 2, none⟩) (u := .int .i64 r) hb (by simp [go_sem])); have k3 := grew_cell g1 (grew_cell (a := ⟨w.heap.size + 1, 3, none⟩) (u := .string nm) hb (by simp [go_sem])); have k4 := grew_cell g1 (grew_cell (a := ⟨w.heap.size + 1, 4, none⟩) (u := .int .i64 v.kind) hb (by simp [go_sem])); have k5 := grew_cell g1 (grew_cell (a := ⟨w.heap.size + 1, 5, none⟩) (u := .int .i64 v.int) hb (by simp [go_sem])); have k6 := grew_cell g1 (grew_cell (a := ⟨w.heap.size + 1, 6, none⟩) (u := .string v.str) hb (by simp [go_sem])); have kf0 := grew_cell g1 (grew_cell (a := ⟨w.heap.size, 0, none⟩) (u := .int .i64 f.id) hb (grew_cell ((Grew.refl _).alloc _) (by simp))); have kf1 := grew_cell g1 (grew_cell (a := ⟨w.heap.size, 1, none⟩) (u := .int .i64 f.owner) hb (grew_cell ((Grew.refl _).alloc _) (by simp))); have kf2 := grew_cell g1 (grew_cell (a := ⟨w.heap.size, 2, none⟩) (u := .bool f.shared) hb (grew_cell ((Grew.refl _).alloc _) (by simp))); have kf3 := grew_cell g1 (grew_cell (a := ⟨w.heap.size, 3, none⟩) (u := .int .i64 f.link) hb (grew_cell ((Grew.refl _).alloc _) (by simp))); have kf4 := grew_cell g1 (grew_cell (a := ⟨w.heap.size, 4, none⟩) (u := .slice fa f.attrs.length fc) hb (grew_cell ((Grew.refl _).alloc _) (by simp))))
      have GG := (hal.trans hb).alloc (.cells #[.int .i64 gv.kind, .int .i64 gv.int, .string gv.str] 68)
      refine wp_region_noPanic ?_
      refine wp_region_held_drew (S := (fun w' => (w'.cell? ⟨w.heap.size + 1, 3, none⟩ = some (.string nm) ∧ w'.cell? ⟨w.heap.size, 0, none⟩ = some (.int .i64 f.id) ∧ Grew (w1.alloc (.cells #[.int .i64 gv.kind, .int .i64 gv.int, .string gv.str] 68)) w'))) (by kernel_rfl) ?h1_S ?h1_r
      case h1_S => exact ⟨k3, kf0, (Grew.refl _).drew⟩
      case h1_r =>
        intro HS
        first | refine sk' 0 HS ?_ | refine tk' 0 HS ?_
        first | refine sk' 1 HS ?_ | refine tk' 1 HS ?_
        first | refine sk' 2 HS ?_ | refine tk' 2 HS ?_
        first | refine sk' 4 HS ?_ | refine tk' 4 HS ?_
        first | refine sk' 5 HS ?_ | refine tk' 5 HS ?_
        refine cl' 3 fun K hK => ?_
        go_simp
        go_at_call 138
        refine (specResultIDs _ rs nm _ (HR.out.grew (hg.trans (GG.trans HS.2.2))) hrl HRS.out).mono ?_
        rintro e w2 ⟨rv, rfl, hrv, hbq⟩
        have HRV := Lib.hid hrv
        obtain ⟨xa, xc, rfl⟩ := own_slice hrv
        clear hrv
        refine hK.out _ _ ?s1_3 ?r1_3
        case s1_3 => (try dsimp only); first | exact HS | exact held2 HS hbq
        case r1_3 =>
          clear HS hK K; intro HS
          try simp only [Act.put, lpa, lpb, lpc]
          refine cl' 6 fun K hK => ?_
          go_simp
          go_at_call 137
          refine (specContainsID _ _ (resIds rs nm) f.id _ (rd_of_own HRV.out) (resIds_small HRS.out)).mono ?_
          rintro e w3 ⟨rfl, rfl⟩
          refine hK.out _ _ ?s1_6 ?r1_6
          case s1_6 => (try dsimp only); first | exact HS | exact held2 HS hbq
          case r1_6 =>
            clear HS hK K; intro HS
            try simp only [Act.put, lpa, lpb, lpc]
            first | refine sk' 7 HS ?_ | refine tk' 7 HS ?_
            refine wpAnyH_done (by kernel_rfl) ?_ _
            refine NoPanic.normal ?_
            go_wp2
            go_ret
            refine ⟨ret_bool ?_, GG.trans HS.2.2⟩
            rw [HM.out]; rfl
    · have hcs : (f.link == 0) = true ∨ (f.link == 0) = false := by cases f.link == 0 <;> simp
      rcases hcs with hk | hk
      · have hk0 := hid
        have hk2 : (f.link != 0) = false := by unfold bne; rw [hk]; rfl
        go_enter Tryz.func123, Tryz.ntmps123
        go_wp2_with (go_at_call 136; refine (specGetAttr f ⟨f.id, f.owner, f.shared, f.link, .slice fa f.attrs.length fc⟩ nm _ (HF.out.grew (hg.trans hal)) hfs).mono ?_; rintro e w1 ⟨he, hb⟩; rw [HG.out] at he; subst he; have g1 := (Grew.refl w1).alloc (.cells #[.int .i64 gv.kind, .int .i64 gv.int, .string gv.str] 68); have k0 := grew_cell g1 (grew_cell (a := ⟨w.heap.size + 1, 0, none⟩) (u := .int .i64 9) hb (by simp [go_sem])); have k1 := grew_cell g1 (grew_cell (a := ⟨w.heap.size + 1, 1, none⟩) (u := .int .i64 l) hb (by simp [go_sem])); have k2 := grew_cell g1 (grew_cell (a := ⟨w.heap.size + 1, 2, none⟩) (u := .int .i64 r) hb (by simp [go_sem])); have k3 := grew_cell g1 (grew_cell (a := ⟨w.heap.size + 1, 3, none⟩) (u := .string nm) hb (by simp [go_sem])); have k4 := grew_cell g1 (grew_cell (a := ⟨w.heap.size + 1, 4, none⟩) (u := .int .i64 v.kind) hb (by simp [go_sem])); have k5 := grew_cell g1 (grew_cell (a := ⟨w.heap.size + 1, 5, none⟩) (u := .int .i64 v.int) hb (by simp [go_sem])); have k6 := grew_cell g1 (grew_cell (a := ⟨w.heap.size + 1, 6, none⟩) (u := .string v.str) hb (by simp [go_sem])); have kf0 := grew_cell g1 (grew_cell (a := ⟨w.heap.size, 0, none⟩) (u := .int .i64 f.id) hb (grew_cell ((Grew.refl _).alloc _) (by simp))); have kf1 := grew_cell g1 (grew_cell (a := ⟨w.heap.size, 1, none⟩) (u := .int .i64 f.owner) hb (grew_cell ((Grew.refl _).alloc _) (by simp))); have kf2 := grew_cell g1 (grew_cell (a := ⟨w.heap.size, 2, none⟩) (u := .bool f.shared) hb (grew_cell ((Grew.refl _).alloc _) (by simp))); have kf3 := grew_cell g1 (grew_cell (a := ⟨w.heap.size, 3, none⟩) (u := .int .i64 f.link) hb (grew_cell ((Grew.refl _).alloc _) (by simp))); have kf4 := grew_cell g1 (grew_cell (a := ⟨w.heap.size, 4, none⟩) (u := .slice fa f.attrs.length fc) hb (grew_cell ((Grew.refl _).alloc _) (by simp))))
        have GG := (hal.trans hb).alloc (.cells #[.int .i64 gv.kind, .int .i64 gv.int, .string gv.str] 68)
        refine wp_region_noPanic ?_
        refine wp_region_held_drew (S := (fun w' => (w'.cell? ⟨w.heap.size + 1, 3, none⟩ = some (.string nm) ∧ w'.cell? ⟨w.heap.size, 3, none⟩ = some (.int .i64 f.link) ∧ Grew (w1.alloc (.cells #[.int .i64 gv.kind, .int .i64 gv.int, .string gv.str] 68)) w'))) (by kernel_rfl) ?h2_S ?h2_r
        case h2_S => exact ⟨k3, kf3, (Grew.refl _).drew⟩
        case h2_r =>
          intro HS
          first | refine sk' 0 HS ?_ | refine tk' 0 HS ?_
          first | refine sk' 1 HS ?_ | refine tk' 1 HS ?_
          first | refine sk' 2 HS ?_ | refine tk' 2 HS ?_
          first | refine sk' 3 HS ?_ | refine tk' 3 HS ?_
          first | refine sk' 4 HS ?_ | refine tk' 4 HS ?_
          first | refine sk' 5 HS ?_ | refine tk' 5 HS ?_
          first | refine sk' 6 HS ?_ | refine tk' 6 HS ?_
          first | refine sk' 8 HS ?_ | refine tk' 8 HS ?_
          first | refine sk' 9 HS ?_ | refine tk' 9 HS ?_
          refine cl' 7 fun K hK => ?_
          go_simp
          refine hK.out _ _ HS ?r2_7
          case r2_7 =>
            clear HS hK K; intro HS
            try simp only [Act.put, lpa, lpb, lpc]
            refine cl' 10 fun K hK => ?_
            go_simp
            refine hK.out _ _ HS ?r2_10
            case r2_10 =>
              clear HS hK K; intro HS
              try simp only [Act.put, lpa, lpb, lpc]
              first | refine sk' 11 HS ?_ | refine tk' 11 HS ?_
              first | refine sk' 12 HS ?_ | refine tk' 12 HS ?_
              refine wpAnyH_done (by kernel_rfl) ?_ _
              refine NoPanic.normal ?_
              go_wp2
              go_ret
              refine ⟨ret_bool ?_, GG.trans HS.2.2⟩
              rw [HM.out]; simp [hk]
      · have hk0 := hid
        have hk2 : (f.link != 0) = true := by unfold bne; rw [hk]; rfl
        have hk3 : ¬ (f.link = 0) := by simpa using hk
        go_enter Tryz.func123, Tryz.ntmps123
        go_wp2_with (go_at_call 136; refine (specGetAttr f ⟨f.id, f.owner, f.shared, f.link, .slice fa f.attrs.length fc⟩ nm _ (HF.out.grew (hg.trans hal)) hfs).mono ?_; rintro e w1 ⟨he, hb⟩; rw [HG.out] at he; subst he; have g1 := (Grew.refl w1).alloc (.cells #[.int .i64 gv.kind, .int .i64 gv.int, .string gv.str] 68); have k0 := grew_cell g1 (grew_cell (a := ⟨w.heap.size + 1, 0, none⟩) (u := .int .i64 9) hb (by simp [go_sem])); have k1 := grew_cell g1 (grew_cell (a := ⟨w.heap.size + 1, 1, none⟩) (u := .int .i64 l) hb (by simp [go_sem])); have k2 := grew_cell g1 (grew_cell (a := ⟨w.heap.size + 1, 2, none⟩) (u := .int .i64 r) hb (by simp [go_sem])); have k3 := grew_cell g1 (grew_cell (a := ⟨w.heap.size + 1, 3, none⟩) (u := .string nm) hb (by simp [go_sem])); have k4 := grew_cell g1 (grew_cell (a := ⟨w.heap.size + 1, 4, none⟩) (u := .int .i64 v.kind) hb (by simp [go_sem])); have k5 := grew_cell g1 (grew_cell (a := ⟨w.heap.size + 1, 5, none⟩) (u := .int .i64 v.int) hb (by simp [go_sem])); have k6 := grew_cell g1 (grew_cell (a := ⟨w.heap.size + 1, 6, none⟩) (u := .string v.str) hb (by simp [go_sem])); have kf0 := grew_cell g1 (grew_cell (a := ⟨w.heap.size, 0, none⟩) (u := .int .i64 f.id) hb (grew_cell ((Grew.refl _).alloc _) (by simp))); have kf1 := grew_cell g1 (grew_cell (a := ⟨w.heap.size, 1, none⟩) (u := .int .i64 f.owner) hb (grew_cell ((Grew.refl _).alloc _) (by simp))); have kf2 := grew_cell g1 (grew_cell (a := ⟨w.heap.size, 2, none⟩) (u := .bool f.shared) hb (grew_cell ((Grew.refl _).alloc _) (by simp))); have kf3 := grew_cell g1 (grew_cell (a := ⟨w.heap.size, 3, none⟩) (u := .int .i64 f.link) hb (grew_cell ((Grew.refl _).alloc _) (by simp))); have kf4 := grew_cell g1 (grew_cell (a := ⟨w.heap.size, 4, none⟩) (u := .slice fa f.attrs.length fc) hb (grew_cell ((Grew.refl _).alloc _) (by simp))))
        have GG := (hal.trans hb).alloc (.cells #[.int .i64 gv.kind, .int .i64 gv.int, .string gv.str] 68)
        refine wp_region_noPanic ?_
        refine wp_region_held_drew (S := (fun w' => (w'.cell? ⟨w.heap.size + 1, 3, none⟩ = some (.string nm) ∧ w'.cell? ⟨w.heap.size, 3, none⟩ = some (.int .i64 f.link) ∧ Grew (w1.alloc (.cells #[.int .i64 gv.kind, .int .i64 gv.int, .string gv.str] 68)) w'))) (by kernel_rfl) ?h3_S ?h3_r
        case h3_S => exact ⟨k3, kf3, (Grew.refl _).drew⟩
        case h3_r =>
          intro HS
          first | refine sk' 0 HS ?_ | refine tk' 0 HS ?_
          first | refine sk' 1 HS ?_ | refine tk' 1 HS ?_
          first | refine sk' 2 HS ?_ | refine tk' 2 HS ?_
          first | refine sk' 3 HS ?_ | refine tk' 3 HS ?_
          first | refine sk' 4 HS ?_ | refine tk' 4 HS ?_
          first | refine sk' 5 HS ?_ | refine tk' 5 HS ?_
          first | refine sk' 6 HS ?_ | refine tk' 6 HS ?_
          first | refine sk' 8 HS ?_ | refine tk' 8 HS ?_
          first | refine sk' 9 HS ?_ | refine tk' 9 HS ?_
          refine cl' 7 fun K hK => ?_
          go_simp
          go_at_call 138
          refine (specResultIDs _ rs nm _ (HR.out.grew (hg.trans (GG.trans HS.2.2))) hrl HRS.out).mono ?_
          rintro e w2 ⟨rv, rfl, hrv, hbq⟩
          have HRV := Lib.hid hrv
          obtain ⟨xa, xc, rfl⟩ := own_slice hrv
          clear hrv
          refine hK.out _ _ ?s3_7 ?r3_7
          case s3_7 => (try dsimp only); first | exact HS | exact held2 HS hbq
          case r3_7 =>
            clear HS hK K; intro HS
            try simp only [Act.put, lpa, lpb, lpc]
            refine cl' 10 fun K hK => ?_
            go_simp
            go_at_call 137
            refine (specContainsID _ _ (resIds rs nm) f.link _ (rd_of_own HRV.out) (resIds_small HRS.out)).mono ?_
            rintro e w3 ⟨rfl, rfl⟩
            refine hK.out _ _ ?s3_10 ?r3_10
            case s3_10 => (try dsimp only); first | exact HS | exact held2 HS hbq
            case r3_10 =>
              clear HS hK K; intro HS
              try simp only [Act.put, lpa, lpb, lpc]
              first | refine sk' 11 HS ?_ | refine tk' 11 HS ?_
              first | refine sk' 12 HS ?_ | refine tk' 12 HS ?_
              refine wpAnyH_done (by kernel_rfl) ?_ _
              refine NoPanic.normal ?_
              go_wp2
              go_ret
              refine ⟨ret_bool ?_, GG.trans HS.2.2⟩
              rw [HM.out]; simp [hk]
end Go.Proofs.YtemikjbfjhebnaaGreat
