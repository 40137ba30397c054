/- Texts M3, as far as they are needed. -/
import Derived.Test.YtejgpghcahinhaaGreatVi0
import Derived.Test.YtejgpghcahinhaaGreatVi8
namespace Go.Proofs.YtejgpghcahinhaaGreat
open Go.RowKit
set_option linter.unusedVariables false
set_option maxRecDepth 100000 in
set_option maxHeartbeats 2000000 in
theorem implMatchesAt (q : List N) (f : Fl) (pf : P5) (rs : List Rs) (va vr : Value) (W0 : World) (hq : Rd W0 va 7 q.length (rows N.c q)) (hf : Fl.R W0 f pf) (hr : RdRs W0 vr rs) (hql : q.length ≤ 4000000) (hv : qryB q = true) (hfs : f.small) (hrl : rs.length ≤ 4000000) (hrs : ∀ x, x ∈ rs → x.small) :
  ∀ (d i : Nat) (w : World), Grew W0 w → i < d → i < q.length → Calls Tryz.prog 221 #[va, .int .i64 i, pf.v, vr] w fun e w' => e = .returned (.bool (matR q f rs d i)) ∧ Grew w w' := by
 have HQ := Lib.hid hq
 have HF := Lib.hid hf
 have HR := Lib.hid hr
 have HV := Lib.hid hv
 have HRS := Lib.hid hrs
 obtain ⟨a, ca, rfl, hca, hra⟩ := hq
 obtain ⟨_, ⟨ra, rca, rfl, _, hrr⟩, hall⟩ := hr
 obtain ⟨p1, p2, p3, p4, p5⟩ := pf
 obtain ⟨h1, h2, h3, h4, h5⟩ := hf
 simp only at h1 h2 h3 h4 h5
 subst h1; subst h2; subst h3; subst h4
 obtain ⟨fa, fc, rfl, hfc, hfr⟩ := h5
 clear hrr hall hfr hv hrs
 intro d
 induction d with
 | zero => intro i w _ h; omega
 | succ d ih =>
  intro i w hg hid hlt
  have IH := Lib.hid ih
  clear ih
  obtain ⟨b1, o1, x, rfl, hxk, c0, c1, c2, c3, c4, c5, c6⟩ := (hra.grew hg).getN hlt
  have hnode := qry_node HV.out hxk.out
  have hop := nod_op hnode
  have HN := Lib.hid hnode
  have HM := Lib.hid (matR_at (f := f) (r := rs) (d := d) hxk.out)
  clear hnode
  obtain ⟨op, l, r, nm, v⟩ := x
  simp only at c0 c1 c2 c3 c4 c5 c6 hop
  simp only at HM
  have hal1 := (Grew.refl w).alloc (.cells #[.int .i64 f.id, .int .i64 f.owner, .bool f.shared, .int .i64 f.link, .slice fa f.attrs.length fc] 79)
  have e0 := grew_cell hal1 c0
  have e1 := grew_cell hal1 c1
  have e2 := grew_cell hal1 c2
  have e3 := grew_cell hal1 c3
  have e4 := grew_cell hal1 c4
  have e5 := grew_cell hal1 c5
  have e6 := grew_cell hal1 c6
  obtain ⟨gv, hgv⟩ : ∃ g, getA f.attrs nm = g := ⟨_, rfl⟩
  have HG := Lib.hid hgv
  rw [hgv] at HM
  clear hgv
  have hal := ((Grew.refl w).alloc (.cells #[.int .i64 f.id, .int .i64 f.owner, .bool f.shared, .int .i64 f.link, .slice fa f.attrs.length fc] 79)).alloc (.cells #[.int .i64 op, .int .i64 l, .int .i64 r, .string nm, .int .i64 v.kind, .int .i64 v.int, .string v.str] 159)
  rcases hop with rfl | rfl | rfl | rfl | rfl | rfl | rfl | rfl | rfl
  ·
   have hz0 := hid
   have kf0 : ((w.alloc (.cells #[.int .i64 f.id, .int .i64 f.owner, .bool f.shared, .int .i64 f.link, .slice fa f.attrs.length fc] 79)).alloc (.cells #[.int .i64 1, .int .i64 l, .int .i64 r, .string nm, .int .i64 v.kind, .int .i64 v.int, .string v.str] 159)).cell? ⟨w.heap.size, 0, none⟩ = some (.int .i64 f.id) := grew_cell ((Grew.refl _).alloc _) (by simp)
   have kf1 : ((w.alloc (.cells #[.int .i64 f.id, .int .i64 f.owner, .bool f.shared, .int .i64 f.link, .slice fa f.attrs.length fc] 79)).alloc (.cells #[.int .i64 1, .int .i64 l, .int .i64 r, .string nm, .int .i64 v.kind, .int .i64 v.int, .string v.str] 159)).cell? ⟨w.heap.size, 1, none⟩ = some (.int .i64 f.owner) := grew_cell ((Grew.refl _).alloc _) (by simp)
   have kf2 : ((w.alloc (.cells #[.int .i64 f.id, .int .i64 f.owner, .bool f.shared, .int .i64 f.link, .slice fa f.attrs.length fc] 79)).alloc (.cells #[.int .i64 1, .int .i64 l, .int .i64 r, .string nm, .int .i64 v.kind, .int .i64 v.int, .string v.str] 159)).cell? ⟨w.heap.size, 2, none⟩ = some (.bool f.shared) := grew_cell ((Grew.refl _).alloc _) (by simp)
   have kf3 : ((w.alloc (.cells #[.int .i64 f.id, .int .i64 f.owner, .bool f.shared, .int .i64 f.link, .slice fa f.attrs.length fc] 79)).alloc (.cells #[.int .i64 1, .int .i64 l, .int .i64 r, .string nm, .int .i64 v.kind, .int .i64 v.int, .string v.str] 159)).cell? ⟨w.heap.size, 3, none⟩ = some (.int .i64 f.link) := grew_cell ((Grew.refl _).alloc _) (by simp)
   have kf4 : ((w.alloc (.cells #[.int .i64 f.id, .int .i64 f.owner, .bool f.shared, .int .i64 f.link, .slice fa f.attrs.length fc] 79)).alloc (.cells #[.int .i64 1, .int .i64 l, .int .i64 r, .string nm, .int .i64 v.kind, .int .i64 v.int, .string v.str] 159)).cell? ⟨w.heap.size, 4, none⟩ = some (.slice fa f.attrs.length fc) := grew_cell ((Grew.refl _).alloc _) (by simp)
   have k0 : ((w.alloc (.cells #[.int .i64 f.id, .int .i64 f.owner, .bool f.shared, .int .i64 f.link, .slice fa f.attrs.length fc] 79)).alloc (.cells #[.int .i64 1, .int .i64 l, .int .i64 r, .string nm, .int .i64 v.kind, .int .i64 v.int, .string v.str] 159)).cell? ⟨w.heap.size + 1, 0, none⟩ = some (.int .i64 1) := by simp [go_sem]
   have k1 : ((w.alloc (.cells #[.int .i64 f.id, .int .i64 f.owner, .bool f.shared, .int .i64 f.link, .slice fa f.attrs.length fc] 79)).alloc (.cells #[.int .i64 1, .int .i64 l, .int .i64 r, .string nm, .int .i64 v.kind, .int .i64 v.int, .string v.str] 159)).cell? ⟨w.heap.size + 1, 1, none⟩ = some (.int .i64 l) := by simp [go_sem]
   have k2 : ((w.alloc (.cells #[.int .i64 f.id, .int .i64 f.owner, .bool f.shared, .int .i64 f.link, .slice fa f.attrs.length fc] 79)).alloc (.cells #[.int .i64 1, .int .i64 l, .int .i64 r, .string nm, .int .i64 v.kind, .int .i64 v.int, .string v.str] 159)).cell? ⟨w.heap.size + 1, 2, none⟩ = some (.int .i64 r) := by simp [go_sem]
   have k3 : ((w.alloc (.cells #[.int .i64 f.id, .int .i64 f.owner, .bool f.shared, .int .i64 f.link, .slice fa f.attrs.length fc] 79)).alloc (.cells #[.int .i64 1, .int .i64 l, .int .i64 r, .string nm, .int .i64 v.kind, .int .i64 v.int, .string v.str] 159)).cell? ⟨w.heap.size + 1, 3, none⟩ = some (.string nm) := by simp [go_sem]
   have k4 : ((w.alloc (.cells #[.int .i64 f.id, .int .i64 f.owner, .bool f.shared, .int .i64 f.link, .slice fa f.attrs.length fc] 79)).alloc (.cells #[.int .i64 1, .int .i64 l, .int .i64 r, .string nm, .int .i64 v.kind, .int .i64 v.int, .string v.str] 159)).cell? ⟨w.heap.size + 1, 4, none⟩ = some (.int .i64 v.kind) := by simp [go_sem]
   have k5 : ((w.alloc (.cells #[.int .i64 f.id, .int .i64 f.owner, .bool f.shared, .int .i64 f.link, .slice fa f.attrs.length fc] 79)).alloc (.cells #[.int .i64 1, .int .i64 l, .int .i64 r, .string nm, .int .i64 v.kind, .int .i64 v.int, .string v.str] 159)).cell? ⟨w.heap.size + 1, 5, none⟩ = some (.int .i64 v.int) := by simp [go_sem]
   have k6 : ((w.alloc (.cells #[.int .i64 f.id, .int .i64 f.owner, .bool f.shared, .int .i64 f.link, .slice fa f.attrs.length fc] 79)).alloc (.cells #[.int .i64 1, .int .i64 l, .int .i64 r, .string nm, .int .i64 v.kind, .int .i64 v.int, .string v.str] 159)).cell? ⟨w.heap.size + 1, 6, none⟩ = some (.string v.str) := by simp [go_sem]
   go_enter Tryz.func221, Tryz.ntmps221
   go_wp2
   go_ret
   exact ⟨ret_bool (by rw [HM.out]; rfl), hal⟩
  ·
   have hfd : ∀ (a b c : Value) (w : World), (Instr.field 157 (.agg #[a, b, c]) 0).run Tryz.prog w = .ok a w := fun _ _ _ _ => by with_unfolding_all rfl
   have kf0 : ((w.alloc (.cells #[.int .i64 f.id, .int .i64 f.owner, .bool f.shared, .int .i64 f.link, .slice fa f.attrs.length fc] 79)).alloc (.cells #[.int .i64 2, .int .i64 l, .int .i64 r, .string nm, .int .i64 v.kind, .int .i64 v.int, .string v.str] 159)).cell? ⟨w.heap.size, 0, none⟩ = some (.int .i64 f.id) := grew_cell ((Grew.refl _).alloc _) (by simp)
   have kf1 : ((w.alloc (.cells #[.int .i64 f.id, .int .i64 f.owner, .bool f.shared, .int .i64 f.link, .slice fa f.attrs.length fc] 79)).alloc (.cells #[.int .i64 2, .int .i64 l, .int .i64 r, .string nm, .int .i64 v.kind, .int .i64 v.int, .string v.str] 159)).cell? ⟨w.heap.size, 1, none⟩ = some (.int .i64 f.owner) := grew_cell ((Grew.refl _).alloc _) (by simp)
   have kf2 : ((w.alloc (.cells #[.int .i64 f.id, .int .i64 f.owner, .bool f.shared, .int .i64 f.link, .slice fa f.attrs.length fc] 79)).alloc (.cells #[.int .i64 2, .int .i64 l, .int .i64 r, .string nm, .int .i64 v.kind, .int .i64 v.int, .string v.str] 159)).cell? ⟨w.heap.size, 2, none⟩ = some (.bool f.shared) := grew_cell ((Grew.refl _).alloc _) (by simp)
   have kf3 : ((w.alloc (.cells #[.int .i64 f.id, .int .i64 f.owner, .bool f.shared, .int .i64 f.link, .slice fa f.attrs.length fc] 79)).alloc (.cells #[.int .i64 2, .int .i64 l, .int .i64 r, .string nm, .int .i64 v.kind, .int .i64 v.int, .string v.str] 159)).cell? ⟨w.heap.size, 3, none⟩ = some (.int .i64 f.link) := grew_cell ((Grew.refl _).alloc _) (by simp)
   have kf4 : ((w.alloc (.cells #[.int .i64 f.id, .int .i64 f.owner, .bool f.shared, .int .i64 f.link, .slice fa f.attrs.length fc] 79)).alloc (.cells #[.int .i64 2, .int .i64 l, .int .i64 r, .string nm, .int .i64 v.kind, .int .i64 v.int, .string v.str] 159)).cell? ⟨w.heap.size, 4, none⟩ = some (.slice fa f.attrs.length fc) := grew_cell ((Grew.refl _).alloc _) (by simp)
   have k0 : ((w.alloc (.cells #[.int .i64 f.id, .int .i64 f.owner, .bool f.shared, .int .i64 f.link, .slice fa f.attrs.length fc] 79)).alloc (.cells #[.int .i64 2, .int .i64 l, .int .i64 r, .string nm, .int .i64 v.kind, .int .i64 v.int, .string v.str] 159)).cell? ⟨w.heap.size + 1, 0, none⟩ = some (.int .i64 2) := by simp [go_sem]
   have k1 : ((w.alloc (.cells #[.int .i64 f.id, .int .i64 f.owner, .bool f.shared, .int .i64 f.link, .slice fa f.attrs.length fc] 79)).alloc (.cells #[.int .i64 2, .int .i64 l, .int .i64 r, .string nm, .int .i64 v.kind, .int .i64 v.int, .string v.str] 159)).cell? ⟨w.heap.size + 1, 1, none⟩ = some (.int .i64 l) := by simp [go_sem]
   have k2 : ((w.alloc (.cells #[.int .i64 f.id, .int .i64 f.owner, .bool f.shared, .int .i64 f.link, .slice fa f.attrs.length fc] 79)).alloc (.cells #[.int .i64 2, .int .i64 l, .int .i64 r, .string nm, .int .i64 v.kind, .int .i64 v.int, .string v.str] 159)).cell? ⟨w.heap.size + 1, 2, none⟩ = some (.int .i64 r) := by simp [go_sem]
   have k3 : ((w.alloc (.cells #[.int .i64 f.id, .int .i64 f.owner, .bool f.shared, .int .i64 f.link, .slice fa f.attrs.length fc] 79)).alloc (.cells #[.int .i64 2, .int .i64 l, .int .i64 r, .string nm, .int .i64 v.kind, .int .i64 v.int, .string v.str] 159)).cell? ⟨w.heap.size + 1, 3, none⟩ = some (.string nm) := by simp [go_sem]
   have k4 : ((w.alloc (.cells #[.int .i64 f.id, .int .i64 f.owner, .bool f.shared, .int .i64 f.link, .slice fa f.attrs.length fc] 79)).alloc (.cells #[.int .i64 2, .int .i64 l, .int .i64 r, .string nm, .int .i64 v.kind, .int .i64 v.int, .string v.str] 159)).cell? ⟨w.heap.size + 1, 4, none⟩ = some (.int .i64 v.kind) := by simp [go_sem]
   have k5 : ((w.alloc (.cells #[.int .i64 f.id, .int .i64 f.owner, .bool f.shared, .int .i64 f.link, .slice fa f.attrs.length fc] 79)).alloc (.cells #[.int .i64 2, .int .i64 l, .int .i64 r, .string nm, .int .i64 v.kind, .int .i64 v.int, .string v.str] 159)).cell? ⟨w.heap.size + 1, 5, none⟩ = some (.int .i64 v.int) := by simp [go_sem]
   have k6 : ((w.alloc (.cells #[.int .i64 f.id, .int .i64 f.owner, .bool f.shared, .int .i64 f.link, .slice fa f.attrs.length fc] 79)).alloc (.cells #[.int .i64 2, .int .i64 l, .int .i64 r, .string nm, .int .i64 v.kind, .int .i64 v.int, .string v.str] 159)).cell? ⟨w.heap.size + 1, 6, none⟩ = some (.string v.str) := by simp [go_sem]
   go_enter Tryz.func221, Tryz.ntmps221
   go_wp2_with (go_at_call 244; refine (implGetAttr f ⟨f.id, f.owner, f.shared, f.link, .slice fa f.attrs.length fc⟩ nm _ (HF.out.grew (hg.trans hal)) hfs).mono ?_; rintro e w1 ⟨he, hb⟩; rw [HG.out] at he; have he2 : e = .returned (.agg #[.int .i64 gv.kind, .int .i64 gv.int, .string gv.str]) := he; subst he2)
   go_ret
   exact ⟨ret_bool (by rw [HM.out]; rfl), hal.trans hb⟩
  ·
   have hE := fun w => runEqV gv v w
   have kf0 : ((w.alloc (.cells #[.int .i64 f.id, .int .i64 f.owner, .bool f.shared, .int .i64 f.link, .slice fa f.attrs.length fc] 79)).alloc (.cells #[.int .i64 3, .int .i64 l, .int .i64 r, .string nm, .int .i64 v.kind, .int .i64 v.int, .string v.str] 159)).cell? ⟨w.heap.size, 0, none⟩ = some (.int .i64 f.id) := grew_cell ((Grew.refl _).alloc _) (by simp)
   have kf1 : ((w.alloc (.cells #[.int .i64 f.id, .int .i64 f.owner, .bool f.shared, .int .i64 f.link, .slice fa f.attrs.length fc] 79)).alloc (.cells #[.int .i64 3, .int .i64 l, .int .i64 r, .string nm, .int .i64 v.kind, .int .i64 v.int, .string v.str] 159)).cell? ⟨w.heap.size, 1, none⟩ = some (.int .i64 f.owner) := grew_cell ((Grew.refl _).alloc _) (by simp)
   have kf2 : ((w.alloc (.cells #[.int .i64 f.id, .int .i64 f.owner, .bool f.shared, .int .i64 f.link, .slice fa f.attrs.length fc] 79)).alloc (.cells #[.int .i64 3, .int .i64 l, .int .i64 r, .string nm, .int .i64 v.kind, .int .i64 v.int, .string v.str] 159)).cell? ⟨w.heap.size, 2, none⟩ = some (.bool f.shared) := grew_cell ((Grew.refl _).alloc _) (by simp)
   have kf3 : ((w.alloc (.cells #[.int .i64 f.id, .int .i64 f.owner, .bool f.shared, .int .i64 f.link, .slice fa f.attrs.length fc] 79)).alloc (.cells #[.int .i64 3, .int .i64 l, .int .i64 r, .string nm, .int .i64 v.kind, .int .i64 v.int, .string v.str] 159)).cell? ⟨w.heap.size, 3, none⟩ = some (.int .i64 f.link) := grew_cell ((Grew.refl _).alloc _) (by simp)
   have kf4 : ((w.alloc (.cells #[.int .i64 f.id, .int .i64 f.owner, .bool f.shared, .int .i64 f.link, .slice fa f.attrs.length fc] 79)).alloc (.cells #[.int .i64 3, .int .i64 l, .int .i64 r, .string nm, .int .i64 v.kind, .int .i64 v.int, .string v.str] 159)).cell? ⟨w.heap.size, 4, none⟩ = some (.slice fa f.attrs.length fc) := grew_cell ((Grew.refl _).alloc _) (by simp)
   have k0 : ((w.alloc (.cells #[.int .i64 f.id, .int .i64 f.owner, .bool f.shared, .int .i64 f.link, .slice fa f.attrs.length fc] 79)).alloc (.cells #[.int .i64 3, .int .i64 l, .int .i64 r, .string nm, .int .i64 v.kind, .int .i64 v.int, .string v.str] 159)).cell? ⟨w.heap.size + 1, 0, none⟩ = some (.int .i64 3) := by simp [go_sem]
   have k1 : ((w.alloc (.cells #[.int .i64 f.id, .int .i64 f.owner, .bool f.shared, .int .i64 f.link, .slice fa f.attrs.length fc] 79)).alloc (.cells #[.int .i64 3, .int .i64 l, .int .i64 r, .string nm, .int .i64 v.kind, .int .i64 v.int, .string v.str] 159)).cell? ⟨w.heap.size + 1, 1, none⟩ = some (.int .i64 l) := by simp [go_sem]
   have k2 : ((w.alloc (.cells #[.int .i64 f.id, .int .i64 f.owner, .bool f.shared, .int .i64 f.link, .slice fa f.attrs.length fc] 79)).alloc (.cells #[.int .i64 3, .int .i64 l, .int .i64 r, .string nm, .int .i64 v.kind, .int .i64 v.int, .string v.str] 159)).cell? ⟨w.heap.size + 1, 2, none⟩ = some (.int .i64 r) := by simp [go_sem]
   have k3 : ((w.alloc (.cells #[.int .i64 f.id, .int .i64 f.owner, .bool f.shared, .int .i64 f.link, .slice fa f.attrs.length fc] 79)).alloc (.cells #[.int .i64 3, .int .i64 l, .int .i64 r, .string nm, .int .i64 v.kind, .int .i64 v.int, .string v.str] 159)).cell? ⟨w.heap.size + 1, 3, none⟩ = some (.string nm) := by simp [go_sem]
   have k4 : ((w.alloc (.cells #[.int .i64 f.id, .int .i64 f.owner, .bool f.shared, .int .i64 f.link, .slice fa f.attrs.length fc] 79)).alloc (.cells #[.int .i64 3, .int .i64 l, .int .i64 r, .string nm, .int .i64 v.kind, .int .i64 v.int, .string v.str] 159)).cell? ⟨w.heap.size + 1, 4, none⟩ = some (.int .i64 v.kind) := by simp [go_sem]
   have k5 : ((w.alloc (.cells #[.int .i64 f.id, .int .i64 f.owner, .bool f.shared, .int .i64 f.link, .slice fa f.attrs.length fc] 79)).alloc (.cells #[.int .i64 3, .int .i64 l, .int .i64 r, .string nm, .int .i64 v.kind, .int .i64 v.int, .string v.str] 159)).cell? ⟨w.heap.size + 1, 5, none⟩ = some (.int .i64 v.int) := by simp [go_sem]
   have k6 : ((w.alloc (.cells #[.int .i64 f.id, .int .i64 f.owner, .bool f.shared, .int .i64 f.link, .slice fa f.attrs.length fc] 79)).alloc (.cells #[.int .i64 3, .int .i64 l, .int .i64 r, .string nm, .int .i64 v.kind, .int .i64 v.int, .string v.str] 159)).cell? ⟨w.heap.size + 1, 6, none⟩ = some (.string v.str) := by simp [go_sem]
   go_enter Tryz.func221, Tryz.ntmps221
   go_wp2_with fail
   refine wp_region_noPanic ?_
   refine wp_region_held_drew (S := (fun w' => (w'.cell? ⟨w.heap.size, 0, none⟩ = some (.int .i64 f.id) ∧ w'.cell? ⟨w.heap.size, 1, none⟩ = some (.int .i64 f.owner) ∧ w'.cell? ⟨w.heap.size, 2, none⟩ = some (.bool f.shared) ∧ w'.cell? ⟨w.heap.size, 3, none⟩ = some (.int .i64 f.link) ∧ w'.cell? ⟨w.heap.size, 4, none⟩ = some (.slice fa f.attrs.length fc) ∧ w'.cell? ⟨w.heap.size + 1, 3, none⟩ = some (.string nm) ∧ w'.cell? ⟨w.heap.size + 1, 4, none⟩ = some (.int .i64 v.kind) ∧ w'.cell? ⟨w.heap.size + 1, 5, none⟩ = some (.int .i64 v.int) ∧ w'.cell? ⟨w.heap.size + 1, 6, none⟩ = some (.string v.str) ∧ Grew ((w.alloc (.cells #[.int .i64 f.id, .int .i64 f.owner, .bool f.shared, .int .i64 f.link, .slice fa f.attrs.length fc] 79)).alloc (.cells #[.int .i64 3, .int .i64 l, .int .i64 r, .string nm, .int .i64 v.kind, .int .i64 v.int, .string v.str] 159)) w'))) (by kernel_rfl) ?h1_S ?h1_r
   case h1_S => exact ⟨kf0, kf1, kf2, kf3, kf4, k3, k4, k5, k6, (Grew.refl _).drew⟩
   case h1_r =>
    intro HS
    (refine tk (v := ?v1_0) 0 rfl (by kernel_rfl) rfl ?y1_0 HS ?_; case y1_0 => (intro w' hSw; (try dsimp only at hSw); go_simp <;> (with_reducible rfl)))
    try simp only [Act.put, lpa, lpb, lpc]
    (refine tk (v := ?v1_1) 1 rfl (by kernel_rfl) rfl ?y1_1 HS ?_; case y1_1 => (intro w' hSw; (try dsimp only at hSw); go_simp <;> (with_reducible rfl)))
    try simp only [Act.put, lpa, lpb, lpc]
    (refine tk (v := ?v1_2) 2 rfl (by kernel_rfl) rfl ?y1_2 HS ?_; case y1_2 => (intro w' hSw; (try dsimp only at hSw); go_simp <;> (with_reducible rfl)))
    try simp only [Act.put, lpa, lpb, lpc]
    (refine tk (v := ?v1_4) 4 rfl (by kernel_rfl) rfl ?y1_4 HS ?_; case y1_4 => (intro w' hSw; (try dsimp only at hSw); go_simp <;> (with_reducible rfl)))
    try simp only [Act.put, lpa, lpb, lpc]
    (refine tk (v := ?v1_5) 5 rfl (by kernel_rfl) rfl ?y1_5 HS ?_; case y1_5 => (intro w' hSw; (try dsimp only at hSw); go_simp <;> (with_reducible rfl)))
    try simp only [Act.put, lpa, lpb, lpc]
    refine cl 3 rfl (by kernel_rfl) (fun K hK => ?_)
    go_simp
    go_at_call 244
    refine (implGetAttr f ⟨f.id, f.owner, f.shared, f.link, .slice fa f.attrs.length fc⟩ nm _ (HF.out.grew (hg.trans (hal.trans HS.2.2.2.2.2.2.2.2.2))) hfs).mono ?_
    rintro e w1 ⟨he, hb⟩
    rw [HG.out] at he
    subst he
    refine hK.out _ _ ?s1_3 ?r1_3
    case s1_3 => (try dsimp only); exact ⟨grew_cell hb HS.1, grew_cell hb HS.2.1, grew_cell hb HS.2.2.1, grew_cell hb HS.2.2.2.1, grew_cell hb HS.2.2.2.2.1, grew_cell hb HS.2.2.2.2.2.1, grew_cell hb HS.2.2.2.2.2.2.1, grew_cell hb HS.2.2.2.2.2.2.2.1, grew_cell hb HS.2.2.2.2.2.2.2.2.1, HS.2.2.2.2.2.2.2.2.2.trans hb⟩
    case r1_3 =>
     clear HS
     intro HS
     clear hK K
     try simp only [Act.put, lpa, lpb, lpc]
     (refine tk (v := ?v1_6) 6 rfl (by kernel_rfl) rfl ?y1_6 HS ?_; case y1_6 => (intro w' hSw; (try dsimp only at hSw); go_simp <;> (with_reducible rfl)))
     try simp only [Act.put, lpa, lpb, lpc]
     (refine tk (v := ?v1_7) 7 rfl (by kernel_rfl) rfl ?y1_7 HS ?_; case y1_7 => (intro w' hSw; (try dsimp only at hSw); go_simp <;> (with_reducible rfl)))
     try simp only [Act.put, lpa, lpb, lpc]
     refine wpAnyH_done (by kernel_rfl) ?_ _
     refine NoPanic.normal ?_
     go_wp2
     go_ret
     refine ⟨ret_bool ?_, hal.trans HS.2.2.2.2.2.2.2.2.2⟩
     rw [HM.out]; rfl
  ·
   obtain ⟨ti, hti⟩ : ∃ t, (if gv.kind = 1 then gv.int else 0) = t := ⟨_, rfl⟩
   obtain ⟨tb, htb⟩ : ∃ t, (gv.kind == 1) = t := ⟨_, rfl⟩
   have HTI := Lib.hid hti
   have HTB := Lib.hid htb
   clear hti htb
   have hcs : tb = true ∨ tb = false := by cases tb <;> simp
   rcases hcs with rfl | rfl
   ·
    have hz0 := hid
    have kf0 : ((w.alloc (.cells #[.int .i64 f.id, .int .i64 f.owner, .bool f.shared, .int .i64 f.link, .slice fa f.attrs.length fc] 79)).alloc (.cells #[.int .i64 4, .int .i64 l, .int .i64 r, .string nm, .int .i64 v.kind, .int .i64 v.int, .string v.str] 159)).cell? ⟨w.heap.size, 0, none⟩ = some (.int .i64 f.id) := grew_cell ((Grew.refl _).alloc _) (by simp)
    have kf1 : ((w.alloc (.cells #[.int .i64 f.id, .int .i64 f.owner, .bool f.shared, .int .i64 f.link, .slice fa f.attrs.length fc] 79)).alloc (.cells #[.int .i64 4, .int .i64 l, .int .i64 r, .string nm, .int .i64 v.kind, .int .i64 v.int, .string v.str] 159)).cell? ⟨w.heap.size, 1, none⟩ = some (.int .i64 f.owner) := grew_cell ((Grew.refl _).alloc _) (by simp)
    have kf2 : ((w.alloc (.cells #[.int .i64 f.id, .int .i64 f.owner, .bool f.shared, .int .i64 f.link, .slice fa f.attrs.length fc] 79)).alloc (.cells #[.int .i64 4, .int .i64 l, .int .i64 r, .string nm, .int .i64 v.kind, .int .i64 v.int, .string v.str] 159)).cell? ⟨w.heap.size, 2, none⟩ = some (.bool f.shared) := grew_cell ((Grew.refl _).alloc _) (by simp)
    have kf3 : ((w.alloc (.cells #[.int .i64 f.id, .int .i64 f.owner, .bool f.shared, .int .i64 f.link, .slice fa f.attrs.length fc] 79)).alloc (.cells #[.int .i64 4, .int .i64 l, .int .i64 r, .string nm, .int .i64 v.kind, .int .i64 v.int, .string v.str] 159)).cell? ⟨w.heap.size, 3, none⟩ = some (.int .i64 f.link) := grew_cell ((Grew.refl _).alloc _) (by simp)
    have kf4 : ((w.alloc (.cells #[.int .i64 f.id, .int .i64 f.owner, .bool f.shared, .int .i64 f.link, .slice fa f.attrs.length fc] 79)).alloc (.cells #[.int .i64 4, .int .i64 l, .int .i64 r, .string nm, .int .i64 v.kind, .int .i64 v.int, .string v.str] 159)).cell? ⟨w.heap.size, 4, none⟩ = some (.slice fa f.attrs.length fc) := grew_cell ((Grew.refl _).alloc _) (by simp)
    have k0 : ((w.alloc (.cells #[.int .i64 f.id, .int .i64 f.owner, .bool f.shared, .int .i64 f.link, .slice fa f.attrs.length fc] 79)).alloc (.cells #[.int .i64 4, .int .i64 l, .int .i64 r, .string nm, .int .i64 v.kind, .int .i64 v.int, .string v.str] 159)).cell? ⟨w.heap.size + 1, 0, none⟩ = some (.int .i64 4) := by simp [go_sem]
    have k1 : ((w.alloc (.cells #[.int .i64 f.id, .int .i64 f.owner, .bool f.shared, .int .i64 f.link, .slice fa f.attrs.length fc] 79)).alloc (.cells #[.int .i64 4, .int .i64 l, .int .i64 r, .string nm, .int .i64 v.kind, .int .i64 v.int, .string v.str] 159)).cell? ⟨w.heap.size + 1, 1, none⟩ = some (.int .i64 l) := by simp [go_sem]
    have k2 : ((w.alloc (.cells #[.int .i64 f.id, .int .i64 f.owner, .bool f.shared, .int .i64 f.link, .slice fa f.attrs.length fc] 79)).alloc (.cells #[.int .i64 4, .int .i64 l, .int .i64 r, .string nm, .int .i64 v.kind, .int .i64 v.int, .string v.str] 159)).cell? ⟨w.heap.size + 1, 2, none⟩ = some (.int .i64 r) := by simp [go_sem]
    have k3 : ((w.alloc (.cells #[.int .i64 f.id, .int .i64 f.owner, .bool f.shared, .int .i64 f.link, .slice fa f.attrs.length fc] 79)).alloc (.cells #[.int .i64 4, .int .i64 l, .int .i64 r, .string nm, .int .i64 v.kind, .int .i64 v.int, .string v.str] 159)).cell? ⟨w.heap.size + 1, 3, none⟩ = some (.string nm) := by simp [go_sem]
    have k4 : ((w.alloc (.cells #[.int .i64 f.id, .int .i64 f.owner, .bool f.shared, .int .i64 f.link, .slice fa f.attrs.length fc] 79)).alloc (.cells #[.int .i64 4, .int .i64 l, .int .i64 r, .string nm, .int .i64 v.kind, .int .i64 v.int, .string v.str] 159)).cell? ⟨w.heap.size + 1, 4, none⟩ = some (.int .i64 v.kind) := by simp [go_sem]
    have k5 : ((w.alloc (.cells #[.int .i64 f.id, .int .i64 f.owner, .bool f.shared, .int .i64 f.link, .slice fa f.attrs.length fc] 79)).alloc (.cells #[.int .i64 4, .int .i64 l, .int .i64 r, .string nm, .int .i64 v.kind, .int .i64 v.int, .string v.str] 159)).cell? ⟨w.heap.size + 1, 5, none⟩ = some (.int .i64 v.int) := by simp [go_sem]
    have k6 : ((w.alloc (.cells #[.int .i64 f.id, .int .i64 f.owner, .bool f.shared, .int .i64 f.link, .slice fa f.attrs.length fc] 79)).alloc (.cells #[.int .i64 4, .int .i64 l, .int .i64 r, .string nm, .int .i64 v.kind, .int .i64 v.int, .string v.str] 159)).cell? ⟨w.heap.size + 1, 6, none⟩ = some (.string v.str) := by simp [go_sem]
    go_enter Tryz.func221, Tryz.ntmps221
    go_wp2_with (go_at_call 245; refine (implIntAttr f ⟨f.id, f.owner, f.shared, f.link, .slice fa f.attrs.length fc⟩ nm _ (HF.out.grew (hg.trans hal)) hfs).mono ?_; rintro e w1 ⟨he, hb⟩; rw [HG.out, HTI.out, HTB.out] at he; subst he; have c9 := grew_cell hb k5)
    go_ret
    refine ⟨ret_bool ?_, hal.trans hb⟩
    have h1 := HTB.out
    have h2 := HTI.out
    rw [if_pos (by simpa using h1)] at h2; rw [HM.out]; simp [h1, h2]
   ·
    have hz0 := hid
    have kf0 : ((w.alloc (.cells #[.int .i64 f.id, .int .i64 f.owner, .bool f.shared, .int .i64 f.link, .slice fa f.attrs.length fc] 79)).alloc (.cells #[.int .i64 4, .int .i64 l, .int .i64 r, .string nm, .int .i64 v.kind, .int .i64 v.int, .string v.str] 159)).cell? ⟨w.heap.size, 0, none⟩ = some (.int .i64 f.id) := grew_cell ((Grew.refl _).alloc _) (by simp)
    have kf1 : ((w.alloc (.cells #[.int .i64 f.id, .int .i64 f.owner, .bool f.shared, .int .i64 f.link, .slice fa f.attrs.length fc] 79)).alloc (.cells #[.int .i64 4, .int .i64 l, .int .i64 r, .string nm, .int .i64 v.kind, .int .i64 v.int, .string v.str] 159)).cell? ⟨w.heap.size, 1, none⟩ = some (.int .i64 f.owner) := grew_cell ((Grew.refl _).alloc _) (by simp)
    have kf2 : ((w.alloc (.cells #[.int .i64 f.id, .int .i64 f.owner, .bool f.shared, .int .i64 f.link, .slice fa f.attrs.length fc] 79)).alloc (.cells #[.int .i64 4, .int .i64 l, .int .i64 r, .string nm, .int .i64 v.kind, .int .i64 v.int, .string v.str] 159)).cell? ⟨w.heap.size, 2, none⟩ = some (.bool f.shared) := grew_cell ((Grew.refl _).alloc _) (by simp)
    have kf3 : ((w.alloc (.cells #[.int .i64 f.id, .int .i64 f.owner, .bool f.shared, .int .i64 f.link, .slice fa f.attrs.length fc] 79)).alloc (.cells #[.int .i64 4, .int .i64 l, .int .i64 r, .string nm, .int .i64 v.kind, .int .i64 v.int, .string v.str] 159)).cell? ⟨w.heap.size, 3, none⟩ = some (.int .i64 f.link) := grew_cell ((Grew.refl _).alloc _) (by simp)
    have kf4 : ((w.alloc (.cells #[.int .i64 f.id, .int .i64 f.owner, .bool f.shared, .int .i64 f.link, .slice fa f.attrs.length fc] 79)).alloc (.cells #[.int .i64 4, .int .i64 l, .int .i64 r, .string nm, .int .i64 v.kind, .int .i64 v.int, .string v.str] 159)).cell? ⟨w.heap.size, 4, none⟩ = some (.slice fa f.attrs.length fc) := grew_cell ((Grew.refl _).alloc _) (by simp)
    have k0 : ((w.alloc (.cells #[.int .i64 f.id, .int .i64 f.owner, .bool f.shared, .int .i64 f.link, .slice fa f.attrs.length fc] 79)).alloc (.cells #[.int .i64 4, .int .i64 l, .int .i64 r, .string nm, .int .i64 v.kind, .int .i64 v.int, .string v.str] 159)).cell? ⟨w.heap.size + 1, 0, none⟩ = some (.int .i64 4) := by simp [go_sem]
    have k1 : ((w.alloc (.cells #[.int .i64 f.id, .int .i64 f.owner, .bool f.shared, .int .i64 f.link, .slice fa f.attrs.length fc] 79)).alloc (.cells #[.int .i64 4, .int .i64 l, .int .i64 r, .string nm, .int .i64 v.kind, .int .i64 v.int, .string v.str] 159)).cell? ⟨w.heap.size + 1, 1, none⟩ = some (.int .i64 l) := by simp [go_sem]
    have k2 : ((w.alloc (.cells #[.int .i64 f.id, .int .i64 f.owner, .bool f.shared, .int .i64 f.link, .slice fa f.attrs.length fc] 79)).alloc (.cells #[.int .i64 4, .int .i64 l, .int .i64 r, .string nm, .int .i64 v.kind, .int .i64 v.int, .string v.str] 159)).cell? ⟨w.heap.size + 1, 2, none⟩ = some (.int .i64 r) := by simp [go_sem]
    have k3 : ((w.alloc (.cells #[.int .i64 f.id, .int .i64 f.owner, .bool f.shared, .int .i64 f.link, .slice fa f.attrs.length fc] 79)).alloc (.cells #[.int .i64 4, .int .i64 l, .int .i64 r, .string nm, .int .i64 v.kind, .int .i64 v.int, .string v.str] 159)).cell? ⟨w.heap.size + 1, 3, none⟩ = some (.string nm) := by simp [go_sem]
    have k4 : ((w.alloc (.cells #[.int .i64 f.id, .int .i64 f.owner, .bool f.shared, .int .i64 f.link, .slice fa f.attrs.length fc] 79)).alloc (.cells #[.int .i64 4, .int .i64 l, .int .i64 r, .string nm, .int .i64 v.kind, .int .i64 v.int, .string v.str] 159)).cell? ⟨w.heap.size + 1, 4, none⟩ = some (.int .i64 v.kind) := by simp [go_sem]
    have k5 : ((w.alloc (.cells #[.int .i64 f.id, .int .i64 f.owner, .bool f.shared, .int .i64 f.link, .slice fa f.attrs.length fc] 79)).alloc (.cells #[.int .i64 4, .int .i64 l, .int .i64 r, .string nm, .int .i64 v.kind, .int .i64 v.int, .string v.str] 159)).cell? ⟨w.heap.size + 1, 5, none⟩ = some (.int .i64 v.int) := by simp [go_sem]
    have k6 : ((w.alloc (.cells #[.int .i64 f.id, .int .i64 f.owner, .bool f.shared, .int .i64 f.link, .slice fa f.attrs.length fc] 79)).alloc (.cells #[.int .i64 4, .int .i64 l, .int .i64 r, .string nm, .int .i64 v.kind, .int .i64 v.int, .string v.str] 159)).cell? ⟨w.heap.size + 1, 6, none⟩ = some (.string v.str) := by simp [go_sem]
    go_enter Tryz.func221, Tryz.ntmps221
    go_wp2_with (go_at_call 245; refine (implIntAttr f ⟨f.id, f.owner, f.shared, f.link, .slice fa f.attrs.length fc⟩ nm _ (HF.out.grew (hg.trans hal)) hfs).mono ?_; rintro e w1 ⟨he, hb⟩; rw [HG.out, HTI.out, HTB.out] at he; subst he; have c9 := grew_cell hb k5)
    go_ret
    refine ⟨ret_bool ?_, hal.trans hb⟩
    have h1 := HTB.out
    have h2 := HTI.out
    rw [HM.out]; simp [h1]
  ·
   obtain ⟨j, rfl, hj⟩ := nod5 (by omega) HN.out
   obtain ⟨bl, hbl⟩ : ∃ b, matR q f rs d j = b := ⟨_, rfl⟩
   have HBL := Lib.hid hbl
   clear hbl
   have kf0 : ((w.alloc (.cells #[.int .i64 f.id, .int .i64 f.owner, .bool f.shared, .int .i64 f.link, .slice fa f.attrs.length fc] 79)).alloc (.cells #[.int .i64 5, .int .i64 j, .int .i64 r, .string nm, .int .i64 v.kind, .int .i64 v.int, .string v.str] 159)).cell? ⟨w.heap.size, 0, none⟩ = some (.int .i64 f.id) := grew_cell ((Grew.refl _).alloc _) (by simp)
   have kf1 : ((w.alloc (.cells #[.int .i64 f.id, .int .i64 f.owner, .bool f.shared, .int .i64 f.link, .slice fa f.attrs.length fc] 79)).alloc (.cells #[.int .i64 5, .int .i64 j, .int .i64 r, .string nm, .int .i64 v.kind, .int .i64 v.int, .string v.str] 159)).cell? ⟨w.heap.size, 1, none⟩ = some (.int .i64 f.owner) := grew_cell ((Grew.refl _).alloc _) (by simp)
   have kf2 : ((w.alloc (.cells #[.int .i64 f.id, .int .i64 f.owner, .bool f.shared, .int .i64 f.link, .slice fa f.attrs.length fc] 79)).alloc (.cells #[.int .i64 5, .int .i64 j, .int .i64 r, .string nm, .int .i64 v.kind, .int .i64 v.int, .string v.str] 159)).cell? ⟨w.heap.size, 2, none⟩ = some (.bool f.shared) := grew_cell ((Grew.refl _).alloc _) (by simp)
   have kf3 : ((w.alloc (.cells #[.int .i64 f.id, .int .i64 f.owner, .bool f.shared, .int .i64 f.link, .slice fa f.attrs.length fc] 79)).alloc (.cells #[.int .i64 5, .int .i64 j, .int .i64 r, .string nm, .int .i64 v.kind, .int .i64 v.int, .string v.str] 159)).cell? ⟨w.heap.size, 3, none⟩ = some (.int .i64 f.link) := grew_cell ((Grew.refl _).alloc _) (by simp)
   have kf4 : ((w.alloc (.cells #[.int .i64 f.id, .int .i64 f.owner, .bool f.shared, .int .i64 f.link, .slice fa f.attrs.length fc] 79)).alloc (.cells #[.int .i64 5, .int .i64 j, .int .i64 r, .string nm, .int .i64 v.kind, .int .i64 v.int, .string v.str] 159)).cell? ⟨w.heap.size, 4, none⟩ = some (.slice fa f.attrs.length fc) := grew_cell ((Grew.refl _).alloc _) (by simp)
   have k0 : ((w.alloc (.cells #[.int .i64 f.id, .int .i64 f.owner, .bool f.shared, .int .i64 f.link, .slice fa f.attrs.length fc] 79)).alloc (.cells #[.int .i64 5, .int .i64 j, .int .i64 r, .string nm, .int .i64 v.kind, .int .i64 v.int, .string v.str] 159)).cell? ⟨w.heap.size + 1, 0, none⟩ = some (.int .i64 5) := by simp [go_sem]
   have k1 : ((w.alloc (.cells #[.int .i64 f.id, .int .i64 f.owner, .bool f.shared, .int .i64 f.link, .slice fa f.attrs.length fc] 79)).alloc (.cells #[.int .i64 5, .int .i64 j, .int .i64 r, .string nm, .int .i64 v.kind, .int .i64 v.int, .string v.str] 159)).cell? ⟨w.heap.size + 1, 1, none⟩ = some (.int .i64 j) := by simp [go_sem]
   have k2 : ((w.alloc (.cells #[.int .i64 f.id, .int .i64 f.owner, .bool f.shared, .int .i64 f.link, .slice fa f.attrs.length fc] 79)).alloc (.cells #[.int .i64 5, .int .i64 j, .int .i64 r, .string nm, .int .i64 v.kind, .int .i64 v.int, .string v.str] 159)).cell? ⟨w.heap.size + 1, 2, none⟩ = some (.int .i64 r) := by simp [go_sem]
   have k3 : ((w.alloc (.cells #[.int .i64 f.id, .int .i64 f.owner, .bool f.shared, .int .i64 f.link, .slice fa f.attrs.length fc] 79)).alloc (.cells #[.int .i64 5, .int .i64 j, .int .i64 r, .string nm, .int .i64 v.kind, .int .i64 v.int, .string v.str] 159)).cell? ⟨w.heap.size + 1, 3, none⟩ = some (.string nm) := by simp [go_sem]
   have k4 : ((w.alloc (.cells #[.int .i64 f.id, .int .i64 f.owner, .bool f.shared, .int .i64 f.link, .slice fa f.attrs.length fc] 79)).alloc (.cells #[.int .i64 5, .int .i64 j, .int .i64 r, .string nm, .int .i64 v.kind, .int .i64 v.int, .string v.str] 159)).cell? ⟨w.heap.size + 1, 4, none⟩ = some (.int .i64 v.kind) := by simp [go_sem]
   have k5 : ((w.alloc (.cells #[.int .i64 f.id, .int .i64 f.owner, .bool f.shared, .int .i64 f.link, .slice fa f.attrs.length fc] 79)).alloc (.cells #[.int .i64 5, .int .i64 j, .int .i64 r, .string nm, .int .i64 v.kind, .int .i64 v.int, .string v.str] 159)).cell? ⟨w.heap.size + 1, 5, none⟩ = some (.int .i64 v.int) := by simp [go_sem]
   have k6 : ((w.alloc (.cells #[.int .i64 f.id, .int .i64 f.owner, .bool f.shared, .int .i64 f.link, .slice fa f.attrs.length fc] 79)).alloc (.cells #[.int .i64 5, .int .i64 j, .int .i64 r, .string nm, .int .i64 v.kind, .int .i64 v.int, .string v.str] 159)).cell? ⟨w.heap.size + 1, 6, none⟩ = some (.string v.str) := by simp [go_sem]
   go_enter Tryz.func221, Tryz.ntmps221
   go_wp2_with (go_at_call 221; refine (IH.out j _ (hg.trans hal) (by omega) (by omega)).mono ?_; rintro e w2 ⟨he2, hb2⟩; rw [HBL.out] at he2; subst he2)
   go_ret
   refine ⟨ret_bool ?_, hal.trans hb2⟩
   rw [HM.out, ← HBL.out]; rfl
  ·
   obtain ⟨j, i2, rfl, rfl, hj, hi2⟩ := nod67 (by omega) (by omega) HN.out
   obtain ⟨bl, hbl⟩ : ∃ b, matR q f rs d j = b := ⟨_, rfl⟩
   obtain ⟨br, hbr⟩ : ∃ b, matR q f rs d i2 = b := ⟨_, rfl⟩
   have HBL := Lib.hid hbl
   have HBR := Lib.hid hbr
   clear hbl hbr
   have hcs : bl = true ∨ bl = false := by cases bl <;> simp
   rcases hcs with rfl | rfl
   ·
    have hk0 := hj
    have kf0 : ((w.alloc (.cells #[.int .i64 f.id, .int .i64 f.owner, .bool f.shared, .int .i64 f.link, .slice fa f.attrs.length fc] 79)).alloc (.cells #[.int .i64 6, .int .i64 j, .int .i64 i2, .string nm, .int .i64 v.kind, .int .i64 v.int, .string v.str] 159)).cell? ⟨w.heap.size, 0, none⟩ = some (.int .i64 f.id) := grew_cell ((Grew.refl _).alloc _) (by simp)
    have kf1 : ((w.alloc (.cells #[.int .i64 f.id, .int .i64 f.owner, .bool f.shared, .int .i64 f.link, .slice fa f.attrs.length fc] 79)).alloc (.cells #[.int .i64 6, .int .i64 j, .int .i64 i2, .string nm, .int .i64 v.kind, .int .i64 v.int, .string v.str] 159)).cell? ⟨w.heap.size, 1, none⟩ = some (.int .i64 f.owner) := grew_cell ((Grew.refl _).alloc _) (by simp)
    have kf2 : ((w.alloc (.cells #[.int .i64 f.id, .int .i64 f.owner, .bool f.shared, .int .i64 f.link, .slice fa f.attrs.length fc] 79)).alloc (.cells #[.int .i64 6, .int .i64 j, .int .i64 i2, .string nm, .int .i64 v.kind, .int .i64 v.int, .string v.str] 159)).cell? ⟨w.heap.size, 2, none⟩ = some (.bool f.shared) := grew_cell ((Grew.refl _).alloc _) (by simp)
    have kf3 : ((w.alloc (.cells #[.int .i64 f.id, .int .i64 f.owner, .bool f.shared, .int .i64 f.link, .slice fa f.attrs.length fc] 79)).alloc (.cells #[.int .i64 6, .int .i64 j, .int .i64 i2, .string nm, .int .i64 v.kind, .int .i64 v.int, .string v.str] 159)).cell? ⟨w.heap.size, 3, none⟩ = some (.int .i64 f.link) := grew_cell ((Grew.refl _).alloc _) (by simp)
    have kf4 : ((w.alloc (.cells #[.int .i64 f.id, .int .i64 f.owner, .bool f.shared, .int .i64 f.link, .slice fa f.attrs.length fc] 79)).alloc (.cells #[.int .i64 6, .int .i64 j, .int .i64 i2, .string nm, .int .i64 v.kind, .int .i64 v.int, .string v.str] 159)).cell? ⟨w.heap.size, 4, none⟩ = some (.slice fa f.attrs.length fc) := grew_cell ((Grew.refl _).alloc _) (by simp)
    have k0 : ((w.alloc (.cells #[.int .i64 f.id, .int .i64 f.owner, .bool f.shared, .int .i64 f.link, .slice fa f.attrs.length fc] 79)).alloc (.cells #[.int .i64 6, .int .i64 j, .int .i64 i2, .string nm, .int .i64 v.kind, .int .i64 v.int, .string v.str] 159)).cell? ⟨w.heap.size + 1, 0, none⟩ = some (.int .i64 6) := by simp [go_sem]
    have k1 : ((w.alloc (.cells #[.int .i64 f.id, .int .i64 f.owner, .bool f.shared, .int .i64 f.link, .slice fa f.attrs.length fc] 79)).alloc (.cells #[.int .i64 6, .int .i64 j, .int .i64 i2, .string nm, .int .i64 v.kind, .int .i64 v.int, .string v.str] 159)).cell? ⟨w.heap.size + 1, 1, none⟩ = some (.int .i64 j) := by simp [go_sem]
    have k2 : ((w.alloc (.cells #[.int .i64 f.id, .int .i64 f.owner, .bool f.shared, .int .i64 f.link, .slice fa f.attrs.length fc] 79)).alloc (.cells #[.int .i64 6, .int .i64 j, .int .i64 i2, .string nm, .int .i64 v.kind, .int .i64 v.int, .string v.str] 159)).cell? ⟨w.heap.size + 1, 2, none⟩ = some (.int .i64 i2) := by simp [go_sem]
    have k3 : ((w.alloc (.cells #[.int .i64 f.id, .int .i64 f.owner, .bool f.shared, .int .i64 f.link, .slice fa f.attrs.length fc] 79)).alloc (.cells #[.int .i64 6, .int .i64 j, .int .i64 i2, .string nm, .int .i64 v.kind, .int .i64 v.int, .string v.str] 159)).cell? ⟨w.heap.size + 1, 3, none⟩ = some (.string nm) := by simp [go_sem]
    have k4 : ((w.alloc (.cells #[.int .i64 f.id, .int .i64 f.owner, .bool f.shared, .int .i64 f.link, .slice fa f.attrs.length fc] 79)).alloc (.cells #[.int .i64 6, .int .i64 j, .int .i64 i2, .string nm, .int .i64 v.kind, .int .i64 v.int, .string v.str] 159)).cell? ⟨w.heap.size + 1, 4, none⟩ = some (.int .i64 v.kind) := by simp [go_sem]
    have k5 : ((w.alloc (.cells #[.int .i64 f.id, .int .i64 f.owner, .bool f.shared, .int .i64 f.link, .slice fa f.attrs.length fc] 79)).alloc (.cells #[.int .i64 6, .int .i64 j, .int .i64 i2, .string nm, .int .i64 v.kind, .int .i64 v.int, .string v.str] 159)).cell? ⟨w.heap.size + 1, 5, none⟩ = some (.int .i64 v.int) := by simp [go_sem]
    have k6 : ((w.alloc (.cells #[.int .i64 f.id, .int .i64 f.owner, .bool f.shared, .int .i64 f.link, .slice fa f.attrs.length fc] 79)).alloc (.cells #[.int .i64 6, .int .i64 j, .int .i64 i2, .string nm, .int .i64 v.kind, .int .i64 v.int, .string v.str] 159)).cell? ⟨w.heap.size + 1, 6, none⟩ = some (.string v.str) := by simp [go_sem]
    go_enter Tryz.func221, Tryz.ntmps221
    go_wp2_with (first | (go_at_call 221; with_reducible refine (IH.out j _ (hg.trans hal) (by omega) (by omega)).mono ?_; rintro e w2 ⟨he2, hb2⟩; rw [HBL.out] at he2; subst he2; have m0 := grew_cell hb2 k0; have m1 := grew_cell hb2 k1; have m2 := grew_cell hb2 k2; have m3 := grew_cell hb2 k3; have m4 := grew_cell hb2 k4; have m5 := grew_cell hb2 k5; have m6 := grew_cell hb2 k6; have mf0 := grew_cell hb2 kf0; have mf1 := grew_cell hb2 kf1; have mf2 := grew_cell hb2 kf2; have mf3 := grew_cell hb2 kf3; have mf4 := grew_cell hb2 kf4) | (go_at_call 221; with_reducible refine (IH.out i2 _ (hg.trans (hal.trans hb2)) (by omega) (by omega)).mono ?_; rintro e w3 ⟨he3, hb3⟩; rw [HBR.out] at he3; subst he3))
    go_ret
    refine ⟨ret_bool ?_, hal.trans (hb2.trans hb3)⟩
    rw [HM.out]; simp [HBL.out, HBR.out]
   ·
    have hk0 := hj
    have kf0 : ((w.alloc (.cells #[.int .i64 f.id, .int .i64 f.owner, .bool f.shared, .int .i64 f.link, .slice fa f.attrs.length fc] 79)).alloc (.cells #[.int .i64 6, .int .i64 j, .int .i64 i2, .string nm, .int .i64 v.kind, .int .i64 v.int, .string v.str] 159)).cell? ⟨w.heap.size, 0, none⟩ = some (.int .i64 f.id) := grew_cell ((Grew.refl _).alloc _) (by simp)
    have kf1 : ((w.alloc (.cells #[.int .i64 f.id, .int .i64 f.owner, .bool f.shared, .int .i64 f.link, .slice fa f.attrs.length fc] 79)).alloc (.cells #[.int .i64 6, .int .i64 j, .int .i64 i2, .string nm, .int .i64 v.kind, .int .i64 v.int, .string v.str] 159)).cell? ⟨w.heap.size, 1, none⟩ = some (.int .i64 f.owner) := grew_cell ((Grew.refl _).alloc _) (by simp)
    have kf2 : ((w.alloc (.cells #[.int .i64 f.id, .int .i64 f.owner, .bool f.shared, .int .i64 f.link, .slice fa f.attrs.length fc] 79)).alloc (.cells #[.int .i64 6, .int .i64 j, .int .i64 i2, .string nm, .int .i64 v.kind, .int .i64 v.int, .string v.str] 159)).cell? ⟨w.heap.size, 2, none⟩ = some (.bool f.shared) := grew_cell ((Grew.refl _).alloc _) (by simp)
    have kf3 : ((w.alloc (.cells #[.int .i64 f.id, .int .i64 f.owner, .bool f.shared, .int .i64 f.link, .slice fa f.attrs.length fc] 79)).alloc (.cells #[.int .i64 6, .int .i64 j, .int .i64 i2, .string nm, .int .i64 v.kind, .int .i64 v.int, .string v.str] 159)).cell? ⟨w.heap.size, 3, none⟩ = some (.int .i64 f.link) := grew_cell ((Grew.refl _).alloc _) (by simp)
    have kf4 : ((w.alloc (.cells #[.int .i64 f.id, .int .i64 f.owner, .bool f.shared, .int .i64 f.link, .slice fa f.attrs.length fc] 79)).alloc (.cells #[.int .i64 6, .int .i64 j, .int .i64 i2, .string nm, .int .i64 v.kind, .int .i64 v.int, .string v.str] 159)).cell? ⟨w.heap.size, 4, none⟩ = some (.slice fa f.attrs.length fc) := grew_cell ((Grew.refl _).alloc _) (by simp)
    have k0 : ((w.alloc (.cells #[.int .i64 f.id, .int .i64 f.owner, .bool f.shared, .int .i64 f.link, .slice fa f.attrs.length fc] 79)).alloc (.cells #[.int .i64 6, .int .i64 j, .int .i64 i2, .string nm, .int .i64 v.kind, .int .i64 v.int, .string v.str] 159)).cell? ⟨w.heap.size + 1, 0, none⟩ = some (.int .i64 6) := by simp [go_sem]
    have k1 : ((w.alloc (.cells #[.int .i64 f.id, .int .i64 f.owner, .bool f.shared, .int .i64 f.link, .slice fa f.attrs.length fc] 79)).alloc (.cells #[.int .i64 6, .int .i64 j, .int .i64 i2, .string nm, .int .i64 v.kind, .int .i64 v.int, .string v.str] 159)).cell? ⟨w.heap.size + 1, 1, none⟩ = some (.int .i64 j) := by simp [go_sem]
    have k2 : ((w.alloc (.cells #[.int .i64 f.id, .int .i64 f.owner, .bool f.shared, .int .i64 f.link, .slice fa f.attrs.length fc] 79)).alloc (.cells #[.int .i64 6, .int .i64 j, .int .i64 i2, .string nm, .int .i64 v.kind, .int .i64 v.int, .string v.str] 159)).cell? ⟨w.heap.size + 1, 2, none⟩ = some (.int .i64 i2) := by simp [go_sem]
    have k3 : ((w.alloc (.cells #[.int .i64 f.id, .int .i64 f.owner, .bool f.shared, .int .i64 f.link, .slice fa f.attrs.length fc] 79)).alloc (.cells #[.int .i64 6, .int .i64 j, .int .i64 i2, .string nm, .int .i64 v.kind, .int .i64 v.int, .string v.str] 159)).cell? ⟨w.heap.size + 1, 3, none⟩ = some (.string nm) := by simp [go_sem]
    have k4 : ((w.alloc (.cells #[.int .i64 f.id, .int .i64 f.owner, .bool f.shared, .int .i64 f.link, .slice fa f.attrs.length fc] 79)).alloc (.cells #[.int .i64 6, .int .i64 j, .int .i64 i2, .string nm, .int .i64 v.kind, .int .i64 v.int, .string v.str] 159)).cell? ⟨w.heap.size + 1, 4, none⟩ = some (.int .i64 v.kind) := by simp [go_sem]
    have k5 : ((w.alloc (.cells #[.int .i64 f.id, .int .i64 f.owner, .bool f.shared, .int .i64 f.link, .slice fa f.attrs.length fc] 79)).alloc (.cells #[.int .i64 6, .int .i64 j, .int .i64 i2, .string nm, .int .i64 v.kind, .int .i64 v.int, .string v.str] 159)).cell? ⟨w.heap.size + 1, 5, none⟩ = some (.int .i64 v.int) := by simp [go_sem]
    have k6 : ((w.alloc (.cells #[.int .i64 f.id, .int .i64 f.owner, .bool f.shared, .int .i64 f.link, .slice fa f.attrs.length fc] 79)).alloc (.cells #[.int .i64 6, .int .i64 j, .int .i64 i2, .string nm, .int .i64 v.kind, .int .i64 v.int, .string v.str] 159)).cell? ⟨w.heap.size + 1, 6, none⟩ = some (.string v.str) := by simp [go_sem]
    go_enter Tryz.func221, Tryz.ntmps221
    go_wp2_with (first | (go_at_call 221; with_reducible refine (IH.out j _ (hg.trans hal) (by omega) (by omega)).mono ?_; rintro e w2 ⟨he2, hb2⟩; rw [HBL.out] at he2; subst he2; have m0 := grew_cell hb2 k0; have m1 := grew_cell hb2 k1; have m2 := grew_cell hb2 k2; have m3 := grew_cell hb2 k3; have m4 := grew_cell hb2 k4; have m5 := grew_cell hb2 k5; have m6 := grew_cell hb2 k6; have mf0 := grew_cell hb2 kf0; have mf1 := grew_cell hb2 kf1; have mf2 := grew_cell hb2 kf2; have mf3 := grew_cell hb2 kf3; have mf4 := grew_cell hb2 kf4) | fail)
    go_ret
    refine ⟨ret_bool ?_, hal.trans hb2⟩
    rw [HM.out]; simp [HBL.out]
  ·
   obtain ⟨j, i2, rfl, rfl, hj, hi2⟩ := nod67 (by omega) (by omega) HN.out
   obtain ⟨bl, hbl⟩ : ∃ b, matR q f rs d j = b := ⟨_, rfl⟩
   obtain ⟨br, hbr⟩ : ∃ b, matR q f rs d i2 = b := ⟨_, rfl⟩
   have HBL := Lib.hid hbl
   have HBR := Lib.hid hbr
   clear hbl hbr
   have hcs : bl = true ∨ bl = false := by cases bl <;> simp
   rcases hcs with rfl | rfl
   ·
    have hk0 := hj
    have kf0 : ((w.alloc (.cells #[.int .i64 f.id, .int .i64 f.owner, .bool f.shared, .int .i64 f.link, .slice fa f.attrs.length fc] 79)).alloc (.cells #[.int .i64 7, .int .i64 j, .int .i64 i2, .string nm, .int .i64 v.kind, .int .i64 v.int, .string v.str] 159)).cell? ⟨w.heap.size, 0, none⟩ = some (.int .i64 f.id) := grew_cell ((Grew.refl _).alloc _) (by simp)
    have kf1 : ((w.alloc (.cells #[.int .i64 f.id, .int .i64 f.owner, .bool f.shared, .int .i64 f.link, .slice fa f.attrs.length fc] 79)).alloc (.cells #[.int .i64 7, .int .i64 j, .int .i64 i2, .string nm, .int .i64 v.kind, .int .i64 v.int, .string v.str] 159)).cell? ⟨w.heap.size, 1, none⟩ = some (.int .i64 f.owner) := grew_cell ((Grew.refl _).alloc _) (by simp)
    have kf2 : ((w.alloc (.cells #[.int .i64 f.id, .int .i64 f.owner, .bool f.shared, .int .i64 f.link, .slice fa f.attrs.length fc] 79)).alloc (.cells #[.int .i64 7, .int .i64 j, .int .i64 i2, .string nm, .int .i64 v.kind, .int .i64 v.int, .string v.str] 159)).cell? ⟨w.heap.size, 2, none⟩ = some (.bool f.shared) := grew_cell ((Grew.refl _).alloc _) (by simp)
    have kf3 : ((w.alloc (.cells #[.int .i64 f.id, .int .i64 f.owner, .bool f.shared, .int .i64 f.link, .slice fa f.attrs.length fc] 79)).alloc (.cells #[.int .i64 7, .int .i64 j, .int .i64 i2, .string nm, .int .i64 v.kind, .int .i64 v.int, .string v.str] 159)).cell? ⟨w.heap.size, 3, none⟩ = some (.int .i64 f.link) := grew_cell ((Grew.refl _).alloc _) (by simp)
    have kf4 : ((w.alloc (.cells #[.int .i64 f.id, .int .i64 f.owner, .bool f.shared, .int .i64 f.link, .slice fa f.attrs.length fc] 79)).alloc (.cells #[.int .i64 7, .int .i64 j, .int .i64 i2, .string nm, .int .i64 v.kind, .int .i64 v.int, .string v.str] 159)).cell? ⟨w.heap.size, 4, none⟩ = some (.slice fa f.attrs.length fc) := grew_cell ((Grew.refl _).alloc _) (by simp)
    have k0 : ((w.alloc (.cells #[.int .i64 f.id, .int .i64 f.owner, .bool f.shared, .int .i64 f.link, .slice fa f.attrs.length fc] 79)).alloc (.cells #[.int .i64 7, .int .i64 j, .int .i64 i2, .string nm, .int .i64 v.kind, .int .i64 v.int, .string v.str] 159)).cell? ⟨w.heap.size + 1, 0, none⟩ = some (.int .i64 7) := by simp [go_sem]
    have k1 : ((w.alloc (.cells #[.int .i64 f.id, .int .i64 f.owner, .bool f.shared, .int .i64 f.link, .slice fa f.attrs.length fc] 79)).alloc (.cells #[.int .i64 7, .int .i64 j, .int .i64 i2, .string nm, .int .i64 v.kind, .int .i64 v.int, .string v.str] 159)).cell? ⟨w.heap.size + 1, 1, none⟩ = some (.int .i64 j) := by simp [go_sem]
    have k2 : ((w.alloc (.cells #[.int .i64 f.id, .int .i64 f.owner, .bool f.shared, .int .i64 f.link, .slice fa f.attrs.length fc] 79)).alloc (.cells #[.int .i64 7, .int .i64 j, .int .i64 i2, .string nm, .int .i64 v.kind, .int .i64 v.int, .string v.str] 159)).cell? ⟨w.heap.size + 1, 2, none⟩ = some (.int .i64 i2) := by simp [go_sem]
    have k3 : ((w.alloc (.cells #[.int .i64 f.id, .int .i64 f.owner, .bool f.shared, .int .i64 f.link, .slice fa f.attrs.length fc] 79)).alloc (.cells #[.int .i64 7, .int .i64 j, .int .i64 i2, .string nm, .int .i64 v.kind, .int .i64 v.int, .string v.str] 159)).cell? ⟨w.heap.size + 1, 3, none⟩ = some (.string nm) := by simp [go_sem]
    have k4 : ((w.alloc (.cells #[.int .i64 f.id, .int .i64 f.owner, .bool f.shared, .int .i64 f.link, .slice fa f.attrs.length fc] 79)).alloc (.cells #[.int .i64 7, .int .i64 j, .int .i64 i2, .string nm, .int .i64 v.kind, .int .i64 v.int, .string v.str] 159)).cell? ⟨w.heap.size + 1, 4, none⟩ = some (.int .i64 v.kind) := by simp [go_sem]
    have k5 : ((w.alloc (.cells #[.int .i64 f.id, .int .i64 f.owner, .bool f.shared, .int .i64 f.link, .slice fa f.attrs.length fc] 79)).alloc (.cells #[.int .i64 7, .int .i64 j, .int .i64 i2, .string nm, .int .i64 v.kind, .int .i64 v.int, .string v.str] 159)).cell? ⟨w.heap.size + 1, 5, none⟩ = some (.int .i64 v.int) := by simp [go_sem]
    have k6 : ((w.alloc (.cells #[.int .i64 f.id, .int .i64 f.owner, .bool f.shared, .int .i64 f.link, .slice fa f.attrs.length fc] 79)).alloc (.cells #[.int .i64 7, .int .i64 j, .int .i64 i2, .string nm, .int .i64 v.kind, .int .i64 v.int, .string v.str] 159)).cell? ⟨w.heap.size + 1, 6, none⟩ = some (.string v.str) := by simp [go_sem]
    go_enter Tryz.func221, Tryz.ntmps221
    go_wp2_with (first | (go_at_call 221; with_reducible refine (IH.out j _ (hg.trans hal) (by omega) (by omega)).mono ?_; rintro e w2 ⟨he2, hb2⟩; rw [HBL.out] at he2; subst he2; have m0 := grew_cell hb2 k0; have m1 := grew_cell hb2 k1; have m2 := grew_cell hb2 k2; have m3 := grew_cell hb2 k3; have m4 := grew_cell hb2 k4; have m5 := grew_cell hb2 k5; have m6 := grew_cell hb2 k6; have mf0 := grew_cell hb2 kf0; have mf1 := grew_cell hb2 kf1; have mf2 := grew_cell hb2 kf2; have mf3 := grew_cell hb2 kf3; have mf4 := grew_cell hb2 kf4) | fail)
    go_ret
    refine ⟨ret_bool ?_, hal.trans hb2⟩
    rw [HM.out]; simp [HBL.out]
   ·
    have hk0 := hj
    have kf0 : ((w.alloc (.cells #[.int .i64 f.id, .int .i64 f.owner, .bool f.shared, .int .i64 f.link, .slice fa f.attrs.length fc] 79)).alloc (.cells #[.int .i64 7, .int .i64 j, .int .i64 i2, .string nm, .int .i64 v.kind, .int .i64 v.int, .string v.str] 159)).cell? ⟨w.heap.size, 0, none⟩ = some (.int .i64 f.id) := grew_cell ((Grew.refl _).alloc _) (by simp)
    have kf1 : ((w.alloc (.cells #[.int .i64 f.id, .int .i64 f.owner, .bool f.shared, .int .i64 f.link, .slice fa f.attrs.length fc] 79)).alloc (.cells #[.int .i64 7, .int .i64 j, .int .i64 i2, .string nm, .int .i64 v.kind, .int .i64 v.int, .string v.str] 159)).cell? ⟨w.heap.size, 1, none⟩ = some (.int .i64 f.owner) := grew_cell ((Grew.refl _).alloc _) (by simp)
    have kf2 : ((w.alloc (.cells #[.int .i64 f.id, .int .i64 f.owner, .bool f.shared, .int .i64 f.link, .slice fa f.attrs.length fc] 79)).alloc (.cells #[.int .i64 7, .int .i64 j, .int .i64 i2, .string nm, .int .i64 v.kind, .int .i64 v.int, .string v.str] 159)).cell? ⟨w.heap.size, 2, none⟩ = some (.bool f.shared) := grew_cell ((Grew.refl _).alloc _) (by simp)
    have kf3 : ((w.alloc (.cells #[.int .i64 f.id, .int .i64 f.owner, .bool f.shared, .int .i64 f.link, .slice fa f.attrs.length fc] 79)).alloc (.cells #[.int .i64 7, .int .i64 j, .int .i64 i2, .string nm, .int .i64 v.kind, .int .i64 v.int, .string v.str] 159)).cell? ⟨w.heap.size, 3, none⟩ = some (.int .i64 f.link) := grew_cell ((Grew.refl _).alloc _) (by simp)
    have kf4 : ((w.alloc (.cells #[.int .i64 f.id, .int .i64 f.owner, .bool f.shared, .int .i64 f.link, .slice fa f.attrs.length fc] 79)).alloc (.cells #[.int .i64 7, .int .i64 j, .int .i64 i2, .string nm, .int .i64 v.kind, .int .i64 v.int, .string v.str] 159)).cell? ⟨w.heap.size, 4, none⟩ = some (.slice fa f.attrs.length fc) := grew_cell ((Grew.refl _).alloc _) (by simp)
    have k0 : ((w.alloc (.cells #[.int .i64 f.id, .int .i64 f.owner, .bool f.shared, .int .i64 f.link, .slice fa f.attrs.length fc] 79)).alloc (.cells #[.int .i64 7, .int .i64 j, .int .i64 i2, .string nm, .int .i64 v.kind, .int .i64 v.int, .string v.str] 159)).cell? ⟨w.heap.size + 1, 0, none⟩ = some (.int .i64 7) := by simp [go_sem]
    have k1 : ((w.alloc (.cells #[.int .i64 f.id, .int .i64 f.owner, .bool f.shared, .int .i64 f.link, .slice fa f.attrs.length fc] 79)).alloc (.cells #[.int .i64 7, .int .i64 j, .int .i64 i2, .string nm, .int .i64 v.kind, .int .i64 v.int, .string v.str] 159)).cell? ⟨w.heap.size + 1, 1, none⟩ = some (.int .i64 j) := by simp [go_sem]
    have k2 : ((w.alloc (.cells #[.int .i64 f.id, .int .i64 f.owner, .bool f.shared, .int .i64 f.link, .slice fa f.attrs.length fc] 79)).alloc (.cells #[.int .i64 7, .int .i64 j, .int .i64 i2, .string nm, .int .i64 v.kind, .int .i64 v.int, .string v.str] 159)).cell? ⟨w.heap.size + 1, 2, none⟩ = some (.int .i64 i2) := by simp [go_sem]
    have k3 : ((w.alloc (.cells #[.int .i64 f.id, .int .i64 f.owner, .bool f.shared, .int .i64 f.link, .slice fa f.attrs.length fc] 79)).alloc (.cells #[.int .i64 7, .int .i64 j, .int .i64 i2, .string nm, .int .i64 v.kind, .int .i64 v.int, .string v.str] 159)).cell? ⟨w.heap.size + 1, 3, none⟩ = some (.string nm) := by simp [go_sem]
    have k4 : ((w.alloc (.cells #[.int .i64 f.id, .int .i64 f.owner, .bool f.shared, .int .i64 f.link, .slice fa f.attrs.length fc] 79)).alloc (.cells #[.int .i64 7, .int .i64 j, .int .i64 i2, .string nm, .int .i64 v.kind, .int .i64 v.int, .string v.str] 159)).cell? ⟨w.heap.size + 1, 4, none⟩ = some (.int .i64 v.kind) := by simp [go_sem]
    have k5 : ((w.alloc (.cells #[.int .i64 f.id, .int .i64 f.owner, .bool f.shared, .int .i64 f.link, .slice fa f.attrs.length fc] 79)).alloc (.cells #[.int .i64 7, .int .i64 j, .int .i64 i2, .string nm, .int .i64 v.kind, .int .i64 v.int, .string v.str] 159)).cell? ⟨w.heap.size + 1, 5, none⟩ = some (.int .i64 v.int) := by simp [go_sem]
    have k6 : ((w.alloc (.cells #[.int .i64 f.id, .int .i64 f.owner, .bool f.shared, .int .i64 f.link, .slice fa f.attrs.length fc] 79)).alloc (.cells #[.int .i64 7, .int .i64 j, .int .i64 i2, .string nm, .int .i64 v.kind, .int .i64 v.int, .string v.str] 159)).cell? ⟨w.heap.size + 1, 6, none⟩ = some (.string v.str) := by simp [go_sem]
    go_enter Tryz.func221, Tryz.ntmps221
    go_wp2_with (first | (go_at_call 221; with_reducible refine (IH.out j _ (hg.trans hal) (by omega) (by omega)).mono ?_; rintro e w2 ⟨he2, hb2⟩; rw [HBL.out] at he2; subst he2; have m0 := grew_cell hb2 k0; have m1 := grew_cell hb2 k1; have m2 := grew_cell hb2 k2; have m3 := grew_cell hb2 k3; have m4 := grew_cell hb2 k4; have m5 := grew_cell hb2 k5; have m6 := grew_cell hb2 k6; have mf0 := grew_cell hb2 kf0; have mf1 := grew_cell hb2 kf1; have mf2 := grew_cell hb2 kf2; have mf3 := grew_cell hb2 kf3; have mf4 := grew_cell hb2 kf4) | (go_at_call 221; with_reducible refine (IH.out i2 _ (hg.trans (hal.trans hb2)) (by omega) (by omega)).mono ?_; rintro e w3 ⟨he3, hb3⟩; rw [HBR.out] at he3; subst he3))
    go_ret
    refine ⟨ret_bool ?_, hal.trans (hb2.trans hb3)⟩
    rw [HM.out]; simp [HBL.out, HBR.out]
  ·
   have hk0 := hid
   have kf0 : ((w.alloc (.cells #[.int .i64 f.id, .int .i64 f.owner, .bool f.shared, .int .i64 f.link, .slice fa f.attrs.length fc] 79)).alloc (.cells #[.int .i64 8, .int .i64 l, .int .i64 r, .string nm, .int .i64 v.kind, .int .i64 v.int, .string v.str] 159)).cell? ⟨w.heap.size, 0, none⟩ = some (.int .i64 f.id) := grew_cell ((Grew.refl _).alloc _) (by simp)
   have kf1 : ((w.alloc (.cells #[.int .i64 f.id, .int .i64 f.owner, .bool f.shared, .int .i64 f.link, .slice fa f.attrs.length fc] 79)).alloc (.cells #[.int .i64 8, .int .i64 l, .int .i64 r, .string nm, .int .i64 v.kind, .int .i64 v.int, .string v.str] 159)).cell? ⟨w.heap.size, 1, none⟩ = some (.int .i64 f.owner) := grew_cell ((Grew.refl _).alloc _) (by simp)
   have kf2 : ((w.alloc (.cells #[.int .i64 f.id, .int .i64 f.owner, .bool f.shared, .int .i64 f.link, .slice fa f.attrs.length fc] 79)).alloc (.cells #[.int .i64 8, .int .i64 l, .int .i64 r, .string nm, .int .i64 v.kind, .int .i64 v.int, .string v.str] 159)).cell? ⟨w.heap.size, 2, none⟩ = some (.bool f.shared) := grew_cell ((Grew.refl _).alloc _) (by simp)
   have kf3 : ((w.alloc (.cells #[.int .i64 f.id, .int .i64 f.owner, .bool f.shared, .int .i64 f.link, .slice fa f.attrs.length fc] 79)).alloc (.cells #[.int .i64 8, .int .i64 l, .int .i64 r, .string nm, .int .i64 v.kind, .int .i64 v.int, .string v.str] 159)).cell? ⟨w.heap.size, 3, none⟩ = some (.int .i64 f.link) := grew_cell ((Grew.refl _).alloc _) (by simp)
   have kf4 : ((w.alloc (.cells #[.int .i64 f.id, .int .i64 f.owner, .bool f.shared, .int .i64 f.link, .slice fa f.attrs.length fc] 79)).alloc (.cells #[.int .i64 8, .int .i64 l, .int .i64 r, .string nm, .int .i64 v.kind, .int .i64 v.int, .string v.str] 159)).cell? ⟨w.heap.size, 4, none⟩ = some (.slice fa f.attrs.length fc) := grew_cell ((Grew.refl _).alloc _) (by simp)
   have k0 : ((w.alloc (.cells #[.int .i64 f.id, .int .i64 f.owner, .bool f.shared, .int .i64 f.link, .slice fa f.attrs.length fc] 79)).alloc (.cells #[.int .i64 8, .int .i64 l, .int .i64 r, .string nm, .int .i64 v.kind, .int .i64 v.int, .string v.str] 159)).cell? ⟨w.heap.size + 1, 0, none⟩ = some (.int .i64 8) := by simp [go_sem]
   have k1 : ((w.alloc (.cells #[.int .i64 f.id, .int .i64 f.owner, .bool f.shared, .int .i64 f.link, .slice fa f.attrs.length fc] 79)).alloc (.cells #[.int .i64 8, .int .i64 l, .int .i64 r, .string nm, .int .i64 v.kind, .int .i64 v.int, .string v.str] 159)).cell? ⟨w.heap.size + 1, 1, none⟩ = some (.int .i64 l) := by simp [go_sem]
   have k2 : ((w.alloc (.cells #[.int .i64 f.id, .int .i64 f.owner, .bool f.shared, .int .i64 f.link, .slice fa f.attrs.length fc] 79)).alloc (.cells #[.int .i64 8, .int .i64 l, .int .i64 r, .string nm, .int .i64 v.kind, .int .i64 v.int, .string v.str] 159)).cell? ⟨w.heap.size + 1, 2, none⟩ = some (.int .i64 r) := by simp [go_sem]
   have k3 : ((w.alloc (.cells #[.int .i64 f.id, .int .i64 f.owner, .bool f.shared, .int .i64 f.link, .slice fa f.attrs.length fc] 79)).alloc (.cells #[.int .i64 8, .int .i64 l, .int .i64 r, .string nm, .int .i64 v.kind, .int .i64 v.int, .string v.str] 159)).cell? ⟨w.heap.size + 1, 3, none⟩ = some (.string nm) := by simp [go_sem]
   have k4 : ((w.alloc (.cells #[.int .i64 f.id, .int .i64 f.owner, .bool f.shared, .int .i64 f.link, .slice fa f.attrs.length fc] 79)).alloc (.cells #[.int .i64 8, .int .i64 l, .int .i64 r, .string nm, .int .i64 v.kind, .int .i64 v.int, .string v.str] 159)).cell? ⟨w.heap.size + 1, 4, none⟩ = some (.int .i64 v.kind) := by simp [go_sem]
   have k5 : ((w.alloc (.cells #[.int .i64 f.id, .int .i64 f.owner, .bool f.shared, .int .i64 f.link, .slice fa f.attrs.length fc] 79)).alloc (.cells #[.int .i64 8, .int .i64 l, .int .i64 r, .string nm, .int .i64 v.kind, .int .i64 v.int, .string v.str] 159)).cell? ⟨w.heap.size + 1, 5, none⟩ = some (.int .i64 v.int) := by simp [go_sem]
   have k6 : ((w.alloc (.cells #[.int .i64 f.id, .int .i64 f.owner, .bool f.shared, .int .i64 f.link, .slice fa f.attrs.length fc] 79)).alloc (.cells #[.int .i64 8, .int .i64 l, .int .i64 r, .string nm, .int .i64 v.kind, .int .i64 v.int, .string v.str] 159)).cell? ⟨w.heap.size + 1, 6, none⟩ = some (.string v.str) := by simp [go_sem]
   go_enter Tryz.func221, Tryz.ntmps221
   go_wp2_with fail
   refine wp_region_noPanic ?_
   refine wp_region_held_drew (S := (fun w' => (w'.cell? ⟨w.heap.size + 1, 3, none⟩ = some (.string nm) ∧ w'.cell? ⟨w.heap.size, 0, none⟩ = some (.int .i64 f.id) ∧ Grew ((w.alloc (.cells #[.int .i64 f.id, .int .i64 f.owner, .bool f.shared, .int .i64 f.link, .slice fa f.attrs.length fc] 79)).alloc (.cells #[.int .i64 8, .int .i64 l, .int .i64 r, .string nm, .int .i64 v.kind, .int .i64 v.int, .string v.str] 159)) w'))) (by kernel_rfl) ?h2_S ?h2_r
   case h2_S => exact ⟨grew_cell (Grew.refl _).drew k3, grew_cell (Grew.refl _).drew kf0, (Grew.refl _).drew⟩
   case h2_r =>
    intro HS
    (refine tk (v := ?v2_0) 0 rfl (by kernel_rfl) rfl ?y2_0 HS ?_; case y2_0 => (intro w' hSw; (try dsimp only at hSw); go_simp <;> (with_reducible rfl)))
    try simp only [Act.put, lpa, lpb, lpc]
    (refine tk (v := ?v2_1) 1 rfl (by kernel_rfl) rfl ?y2_1 HS ?_; case y2_1 => (intro w' hSw; (try dsimp only at hSw); go_simp <;> (with_reducible rfl)))
    try simp only [Act.put, lpa, lpb, lpc]
    (refine tk (v := ?v2_2) 2 rfl (by kernel_rfl) rfl ?y2_2 HS ?_; case y2_2 => (intro w' hSw; (try dsimp only at hSw); go_simp <;> (with_reducible rfl)))
    try simp only [Act.put, lpa, lpb, lpc]
    (refine tk (v := ?v2_4) 4 rfl (by kernel_rfl) rfl ?y2_4 HS ?_; case y2_4 => (intro w' hSw; (try dsimp only at hSw); go_simp <;> (with_reducible rfl)))
    try simp only [Act.put, lpa, lpb, lpc]
    (refine tk (v := ?v2_5) 5 rfl (by kernel_rfl) rfl ?y2_5 HS ?_; case y2_5 => (intro w' hSw; (try dsimp only at hSw); go_simp <;> (with_reducible rfl)))
    try simp only [Act.put, lpa, lpb, lpc]
    refine cl 3 rfl (by kernel_rfl) (fun K hK => ?_)
    go_simp
    go_at_call 43
    refine (implResultIDs _ rs nm _ (HR.out.grew (hg.trans (hal.trans HS.2.2))) hrl HRS.out).mono ?_
    rintro e w2 ⟨rv, rfl, hrv, hbq⟩
    have HRV := Lib.hid hrv
    obtain ⟨xa, xc, rfl⟩ := own_slice hrv
    clear hrv
    refine hK.out _ _ ?s2_3 ?r2_3
    case s2_3 => (try dsimp only); first | exact HS | exact held2 HS hbq
    case r2_3 =>
     clear HS
     intro HS
     clear hK K
     try simp only [Act.put, lpa, lpb, lpc]
     refine cl 6 rfl (by kernel_rfl) (fun K hK => ?_)
     go_simp
     go_at_call 127
     refine (implContainsID _ _ (resIds rs nm) f.id _ (rd_of_own HRV.out) (resIds_small HRS.out)).mono ?_
     rintro e w3 ⟨rfl, rfl⟩
     refine hK.out _ _ ?s2_6 ?r2_6
     case s2_6 => (try dsimp only); first | exact HS | exact held2 HS hbq
     case r2_6 =>
      clear HS
      intro HS
      clear hK K
      try simp only [Act.put, lpa, lpb, lpc]
      (refine tk (v := ?v2_7) 7 rfl (by kernel_rfl) rfl ?y2_7 HS ?_; case y2_7 => (intro w' hSw; (try dsimp only at hSw); go_simp <;> (with_reducible rfl)))
      try simp only [Act.put, lpa, lpb, lpc]
      refine wpAnyH_done (by kernel_rfl) ?_ _
      refine NoPanic.normal ?_
      go_wp2
      go_ret
      refine ⟨ret_bool ?_, hal.trans HS.2.2⟩
      rw [HM.out]; rfl
  ·
   have hcs : (f.link == 0) = true ∨ (f.link == 0) = false := by cases f.link == 0 <;> simp
   rcases hcs with hk | hk
   ·
    have hk0 := hid
    have hk2 : (f.link != 0) = false := by unfold bne; rw [hk]; rfl
    have kf0 : ((w.alloc (.cells #[.int .i64 f.id, .int .i64 f.owner, .bool f.shared, .int .i64 f.link, .slice fa f.attrs.length fc] 79)).alloc (.cells #[.int .i64 9, .int .i64 l, .int .i64 r, .string nm, .int .i64 v.kind, .int .i64 v.int, .string v.str] 159)).cell? ⟨w.heap.size, 0, none⟩ = some (.int .i64 f.id) := grew_cell ((Grew.refl _).alloc _) (by simp)
    have kf1 : ((w.alloc (.cells #[.int .i64 f.id, .int .i64 f.owner, .bool f.shared, .int .i64 f.link, .slice fa f.attrs.length fc] 79)).alloc (.cells #[.int .i64 9, .int .i64 l, .int .i64 r, .string nm, .int .i64 v.kind, .int .i64 v.int, .string v.str] 159)).cell? ⟨w.heap.size, 1, none⟩ = some (.int .i64 f.owner) := grew_cell ((Grew.refl _).alloc _) (by simp)
    have kf2 : ((w.alloc (.cells #[.int .i64 f.id, .int .i64 f.owner, .bool f.shared, .int .i64 f.link, .slice fa f.attrs.length fc] 79)).alloc (.cells #[.int .i64 9, .int .i64 l, .int .i64 r, .string nm, .int .i64 v.kind, .int .i64 v.int, .string v.str] 159)).cell? ⟨w.heap.size, 2, none⟩ = some (.bool f.shared) := grew_cell ((Grew.refl _).alloc _) (by simp)
    have kf3 : ((w.alloc (.cells #[.int .i64 f.id, .int .i64 f.owner, .bool f.shared, .int .i64 f.link, .slice fa f.attrs.length fc] 79)).alloc (.cells #[.int .i64 9, .int .i64 l, .int .i64 r, .string nm, .int .i64 v.kind, .int .i64 v.int, .string v.str] 159)).cell? ⟨w.heap.size, 3, none⟩ = some (.int .i64 f.link) := grew_cell ((Grew.refl _).alloc _) (by simp)
    have kf4 : ((w.alloc (.cells #[.int .i64 f.id, .int .i64 f.owner, .bool f.shared, .int .i64 f.link, .slice fa f.attrs.length fc] 79)).alloc (.cells #[.int .i64 9, .int .i64 l, .int .i64 r, .string nm, .int .i64 v.kind, .int .i64 v.int, .string v.str] 159)).cell? ⟨w.heap.size, 4, none⟩ = some (.slice fa f.attrs.length fc) := grew_cell ((Grew.refl _).alloc _) (by simp)
    have k0 : ((w.alloc (.cells #[.int .i64 f.id, .int .i64 f.owner, .bool f.shared, .int .i64 f.link, .slice fa f.attrs.length fc] 79)).alloc (.cells #[.int .i64 9, .int .i64 l, .int .i64 r, .string nm, .int .i64 v.kind, .int .i64 v.int, .string v.str] 159)).cell? ⟨w.heap.size + 1, 0, none⟩ = some (.int .i64 9) := by simp [go_sem]
    have k1 : ((w.alloc (.cells #[.int .i64 f.id, .int .i64 f.owner, .bool f.shared, .int .i64 f.link, .slice fa f.attrs.length fc] 79)).alloc (.cells #[.int .i64 9, .int .i64 l, .int .i64 r, .string nm, .int .i64 v.kind, .int .i64 v.int, .string v.str] 159)).cell? ⟨w.heap.size + 1, 1, none⟩ = some (.int .i64 l) := by simp [go_sem]
    have k2 : ((w.alloc (.cells #[.int .i64 f.id, .int .i64 f.owner, .bool f.shared, .int .i64 f.link, .slice fa f.attrs.length fc] 79)).alloc (.cells #[.int .i64 9, .int .i64 l, .int .i64 r, .string nm, .int .i64 v.kind, .int .i64 v.int, .string v.str] 159)).cell? ⟨w.heap.size + 1, 2, none⟩ = some (.int .i64 r) := by simp [go_sem]
    have k3 : ((w.alloc (.cells #[.int .i64 f.id, .int .i64 f.owner, .bool f.shared, .int .i64 f.link, .slice fa f.attrs.length fc] 79)).alloc (.cells #[.int .i64 9, .int .i64 l, .int .i64 r, .string nm, .int .i64 v.kind, .int .i64 v.int, .string v.str] 159)).cell? ⟨w.heap.size + 1, 3, none⟩ = some (.string nm) := by simp [go_sem]
    have k4 : ((w.alloc (.cells #[.int .i64 f.id, .int .i64 f.owner, .bool f.shared, .int .i64 f.link, .slice fa f.attrs.length fc] 79)).alloc (.cells #[.int .i64 9, .int .i64 l, .int .i64 r, .string nm, .int .i64 v.kind, .int .i64 v.int, .string v.str] 159)).cell? ⟨w.heap.size + 1, 4, none⟩ = some (.int .i64 v.kind) := by simp [go_sem]
    have k5 : ((w.alloc (.cells #[.int .i64 f.id, .int .i64 f.owner, .bool f.shared, .int .i64 f.link, .slice fa f.attrs.length fc] 79)).alloc (.cells #[.int .i64 9, .int .i64 l, .int .i64 r, .string nm, .int .i64 v.kind, .int .i64 v.int, .string v.str] 159)).cell? ⟨w.heap.size + 1, 5, none⟩ = some (.int .i64 v.int) := by simp [go_sem]
    have k6 : ((w.alloc (.cells #[.int .i64 f.id, .int .i64 f.owner, .bool f.shared, .int .i64 f.link, .slice fa f.attrs.length fc] 79)).alloc (.cells #[.int .i64 9, .int .i64 l, .int .i64 r, .string nm, .int .i64 v.kind, .int .i64 v.int, .string v.str] 159)).cell? ⟨w.heap.size + 1, 6, none⟩ = some (.string v.str) := by simp [go_sem]
    go_enter Tryz.func221, Tryz.ntmps221
    go_wp2_with fail
    refine wp_region_noPanic ?_
    refine wp_region_held_drew (S := (fun w' => (w'.cell? ⟨w.heap.size + 1, 3, none⟩ = some (.string nm) ∧ w'.cell? ⟨w.heap.size, 3, none⟩ = some (.int .i64 f.link) ∧ Grew ((w.alloc (.cells #[.int .i64 f.id, .int .i64 f.owner, .bool f.shared, .int .i64 f.link, .slice fa f.attrs.length fc] 79)).alloc (.cells #[.int .i64 9, .int .i64 l, .int .i64 r, .string nm, .int .i64 v.kind, .int .i64 v.int, .string v.str] 159)) w'))) (by kernel_rfl) ?h3_S ?h3_r
    case h3_S => exact ⟨grew_cell (Grew.refl _).drew k3, grew_cell (Grew.refl _).drew kf3, (Grew.refl _).drew⟩
    case h3_r =>
     intro HS
     (refine tk (v := ?v3_0) 0 rfl (by kernel_rfl) rfl ?y3_0 HS ?_; case y3_0 => (intro w' hSw; (try dsimp only at hSw); go_simp <;> (with_reducible rfl)))
     try simp only [Act.put, lpa, lpb, lpc]
     (refine tk (v := ?v3_1) 1 rfl (by kernel_rfl) rfl ?y3_1 HS ?_; case y3_1 => (intro w' hSw; (try dsimp only at hSw); go_simp <;> (with_reducible rfl)))
     try simp only [Act.put, lpa, lpb, lpc]
     (refine tk (v := ?v3_2) 2 rfl (by kernel_rfl) rfl ?y3_2 HS ?_; case y3_2 => (intro w' hSw; (try dsimp only at hSw); go_simp <;> (with_reducible rfl)))
     try simp only [Act.put, lpa, lpb, lpc]
     (refine tk (v := ?v3_3) 3 rfl (by kernel_rfl) rfl ?y3_3 HS ?_; case y3_3 => (intro w' hSw; (try dsimp only at hSw); go_simp <;> (with_reducible rfl)))
     try simp only [Act.put, lpa, lpb, lpc]
     refine sk 4 rfl (by kernel_rfl) rfl HS ?_
     try simp only [Act.put, lpa, lpb, lpc]
     refine sk 5 rfl (by kernel_rfl) rfl HS ?_
     try simp only [Act.put, lpa, lpb, lpc]
     refine sk 6 rfl (by kernel_rfl) rfl HS ?_
     try simp only [Act.put, lpa, lpb, lpc]
     refine sk 8 rfl (by kernel_rfl) rfl HS ?_
     try simp only [Act.put, lpa, lpb, lpc]
     refine sk 9 rfl (by kernel_rfl) rfl HS ?_
     try simp only [Act.put, lpa, lpb, lpc]
     refine cl 7 rfl (by kernel_rfl) (fun K hK => ?_)
     go_simp
     refine hK.out _ _ ?s3_7 ?r3_7
     case s3_7 => (try dsimp only); exact HS
     case r3_7 =>
      clear HS
      intro HS
      clear hK K
      try simp only [Act.put, lpa, lpb, lpc]
      refine cl 10 rfl (by kernel_rfl) (fun K hK => ?_)
      go_simp
      refine hK.out _ _ ?s3_10 ?r3_10
      case s3_10 => (try dsimp only); exact HS
      case r3_10 =>
       clear HS
       intro HS
       clear hK K
       try simp only [Act.put, lpa, lpb, lpc]
       (refine tk (v := ?v3_11) 11 rfl (by kernel_rfl) rfl ?y3_11 HS ?_; case y3_11 => (intro w' hSw; (try dsimp only at hSw); go_simp <;> (with_reducible rfl)))
       try simp only [Act.put, lpa, lpb, lpc]
       (refine tk (v := ?v3_12) 12 rfl (by kernel_rfl) rfl ?y3_12 HS ?_; case y3_12 => (intro w' hSw; (try dsimp only at hSw); go_simp <;> (with_reducible rfl)))
       try simp only [Act.put, lpa, lpb, lpc]
       refine wpAnyH_done (by kernel_rfl) ?_ _
       refine NoPanic.normal ?_
       go_wp2
       go_ret
       refine ⟨ret_bool ?_, hal.trans HS.2.2⟩
       rw [HM.out]; simp [hk]
   ·
    have hk0 := hid
    have hk2 : (f.link != 0) = true := by unfold bne; rw [hk]; rfl
    have hk3 : ¬ (f.link = 0) := by simpa using hk
    have kf0 : ((w.alloc (.cells #[.int .i64 f.id, .int .i64 f.owner, .bool f.shared, .int .i64 f.link, .slice fa f.attrs.length fc] 79)).alloc (.cells #[.int .i64 9, .int .i64 l, .int .i64 r, .string nm, .int .i64 v.kind, .int .i64 v.int, .string v.str] 159)).cell? ⟨w.heap.size, 0, none⟩ = some (.int .i64 f.id) := grew_cell ((Grew.refl _).alloc _) (by simp)
    have kf1 : ((w.alloc (.cells #[.int .i64 f.id, .int .i64 f.owner, .bool f.shared, .int .i64 f.link, .slice fa f.attrs.length fc] 79)).alloc (.cells #[.int .i64 9, .int .i64 l, .int .i64 r, .string nm, .int .i64 v.kind, .int .i64 v.int, .string v.str] 159)).cell? ⟨w.heap.size, 1, none⟩ = some (.int .i64 f.owner) := grew_cell ((Grew.refl _).alloc _) (by simp)
    have kf2 : ((w.alloc (.cells #[.int .i64 f.id, .int .i64 f.owner, .bool f.shared, .int .i64 f.link, .slice fa f.attrs.length fc] 79)).alloc (.cells #[.int .i64 9, .int .i64 l, .int .i64 r, .string nm, .int .i64 v.kind, .int .i64 v.int, .string v.str] 159)).cell? ⟨w.heap.size, 2, none⟩ = some (.bool f.shared) := grew_cell ((Grew.refl _).alloc _) (by simp)
    have kf3 : ((w.alloc (.cells #[.int .i64 f.id, .int .i64 f.owner, .bool f.shared, .int .i64 f.link, .slice fa f.attrs.length fc] 79)).alloc (.cells #[.int .i64 9, .int .i64 l, .int .i64 r, .string nm, .int .i64 v.kind, .int .i64 v.int, .string v.str] 159)).cell? ⟨w.heap.size, 3, none⟩ = some (.int .i64 f.link) := grew_cell ((Grew.refl _).alloc _) (by simp)
    have kf4 : ((w.alloc (.cells #[.int .i64 f.id, .int .i64 f.owner, .bool f.shared, .int .i64 f.link, .slice fa f.attrs.length fc] 79)).alloc (.cells #[.int .i64 9, .int .i64 l, .int .i64 r, .string nm, .int .i64 v.kind, .int .i64 v.int, .string v.str] 159)).cell? ⟨w.heap.size, 4, none⟩ = some (.slice fa f.attrs.length fc) := grew_cell ((Grew.refl _).alloc _) (by simp)
    have k0 : ((w.alloc (.cells #[.int .i64 f.id, .int .i64 f.owner, .bool f.shared, .int .i64 f.link, .slice fa f.attrs.length fc] 79)).alloc (.cells #[.int .i64 9, .int .i64 l, .int .i64 r, .string nm, .int .i64 v.kind, .int .i64 v.int, .string v.str] 159)).cell? ⟨w.heap.size + 1, 0, none⟩ = some (.int .i64 9) := by simp [go_sem]
    have k1 : ((w.alloc (.cells #[.int .i64 f.id, .int .i64 f.owner, .bool f.shared, .int .i64 f.link, .slice fa f.attrs.length fc] 79)).alloc (.cells #[.int .i64 9, .int .i64 l, .int .i64 r, .string nm, .int .i64 v.kind, .int .i64 v.int, .string v.str] 159)).cell? ⟨w.heap.size + 1, 1, none⟩ = some (.int .i64 l) := by simp [go_sem]
    have k2 : ((w.alloc (.cells #[.int .i64 f.id, .int .i64 f.owner, .bool f.shared, .int .i64 f.link, .slice fa f.attrs.length fc] 79)).alloc (.cells #[.int .i64 9, .int .i64 l, .int .i64 r, .string nm, .int .i64 v.kind, .int .i64 v.int, .string v.str] 159)).cell? ⟨w.heap.size + 1, 2, none⟩ = some (.int .i64 r) := by simp [go_sem]
    have k3 : ((w.alloc (.cells #[.int .i64 f.id, .int .i64 f.owner, .bool f.shared, .int .i64 f.link, .slice fa f.attrs.length fc] 79)).alloc (.cells #[.int .i64 9, .int .i64 l, .int .i64 r, .string nm, .int .i64 v.kind, .int .i64 v.int, .string v.str] 159)).cell? ⟨w.heap.size + 1, 3, none⟩ = some (.string nm) := by simp [go_sem]
    have k4 : ((w.alloc (.cells #[.int .i64 f.id, .int .i64 f.owner, .bool f.shared, .int .i64 f.link, .slice fa f.attrs.length fc] 79)).alloc (.cells #[.int .i64 9, .int .i64 l, .int .i64 r, .string nm, .int .i64 v.kind, .int .i64 v.int, .string v.str] 159)).cell? ⟨w.heap.size + 1, 4, none⟩ = some (.int .i64 v.kind) := by simp [go_sem]
    have k5 : ((w.alloc (.cells #[.int .i64 f.id, .int .i64 f.owner, .bool f.shared, .int .i64 f.link, .slice fa f.attrs.length fc] 79)).alloc (.cells #[.int .i64 9, .int .i64 l, .int .i64 r, .string nm, .int .i64 v.kind, .int .i64 v.int, .string v.str] 159)).cell? ⟨w.heap.size + 1, 5, none⟩ = some (.int .i64 v.int) := by simp [go_sem]
    have k6 : ((w.alloc (.cells #[.int .i64 f.id, .int .i64 f.owner, .bool f.shared, .int .i64 f.link, .slice fa f.attrs.length fc] 79)).alloc (.cells #[.int .i64 9, .int .i64 l, .int .i64 r, .string nm, .int .i64 v.kind, .int .i64 v.int, .string v.str] 159)).cell? ⟨w.heap.size + 1, 6, none⟩ = some (.string v.str) := by simp [go_sem]
    go_enter Tryz.func221, Tryz.ntmps221
    go_wp2_with fail
    refine wp_region_noPanic ?_
    refine wp_region_held_drew (S := (fun w' => (w'.cell? ⟨w.heap.size + 1, 3, none⟩ = some (.string nm) ∧ w'.cell? ⟨w.heap.size, 3, none⟩ = some (.int .i64 f.link) ∧ Grew ((w.alloc (.cells #[.int .i64 f.id, .int .i64 f.owner, .bool f.shared, .int .i64 f.link, .slice fa f.attrs.length fc] 79)).alloc (.cells #[.int .i64 9, .int .i64 l, .int .i64 r, .string nm, .int .i64 v.kind, .int .i64 v.int, .string v.str] 159)) w'))) (by kernel_rfl) ?h4_S ?h4_r
    case h4_S => exact ⟨grew_cell (Grew.refl _).drew k3, grew_cell (Grew.refl _).drew kf3, (Grew.refl _).drew⟩
    case h4_r =>
     intro HS
     (refine tk (v := ?v4_0) 0 rfl (by kernel_rfl) rfl ?y4_0 HS ?_; case y4_0 => (intro w' hSw; (try dsimp only at hSw); go_simp <;> (with_reducible rfl)))
     try simp only [Act.put, lpa, lpb, lpc]
     (refine tk (v := ?v4_1) 1 rfl (by kernel_rfl) rfl ?y4_1 HS ?_; case y4_1 => (intro w' hSw; (try dsimp only at hSw); go_simp <;> (with_reducible rfl)))
     try simp only [Act.put, lpa, lpb, lpc]
     (refine tk (v := ?v4_2) 2 rfl (by kernel_rfl) rfl ?y4_2 HS ?_; case y4_2 => (intro w' hSw; (try dsimp only at hSw); go_simp <;> (with_reducible rfl)))
     try simp only [Act.put, lpa, lpb, lpc]
     (refine tk (v := ?v4_3) 3 rfl (by kernel_rfl) rfl ?y4_3 HS ?_; case y4_3 => (intro w' hSw; (try dsimp only at hSw); go_simp <;> (with_reducible rfl)))
     try simp only [Act.put, lpa, lpb, lpc]
     (refine tk (v := ?v4_4) 4 rfl (by kernel_rfl) rfl ?y4_4 HS ?_; case y4_4 => (intro w' hSw; (try dsimp only at hSw); go_simp <;> (with_reducible rfl)))
     try simp only [Act.put, lpa, lpb, lpc]
     (refine tk (v := ?v4_5) 5 rfl (by kernel_rfl) rfl ?y4_5 HS ?_; case y4_5 => (intro w' hSw; (try dsimp only at hSw); go_simp <;> (with_reducible rfl)))
     try simp only [Act.put, lpa, lpb, lpc]
     (refine tk (v := ?v4_6) 6 rfl (by kernel_rfl) rfl ?y4_6 HS ?_; case y4_6 => (intro w' hSw; (try dsimp only at hSw); go_simp <;> (with_reducible rfl)))
     try simp only [Act.put, lpa, lpb, lpc]
     (refine tk (v := ?v4_8) 8 rfl (by kernel_rfl) rfl ?y4_8 HS ?_; case y4_8 => (intro w' hSw; (try dsimp only at hSw); go_simp <;> (with_reducible rfl)))
     try simp only [Act.put, lpa, lpb, lpc]
     (refine tk (v := ?v4_9) 9 rfl (by kernel_rfl) rfl ?y4_9 HS ?_; case y4_9 => (intro w' hSw; (try dsimp only at hSw); go_simp <;> (with_reducible rfl)))
     try simp only [Act.put, lpa, lpb, lpc]
     refine cl 7 rfl (by kernel_rfl) (fun K hK => ?_)
     go_simp
     go_at_call 43
     refine (implResultIDs _ rs nm _ (HR.out.grew (hg.trans (hal.trans HS.2.2))) hrl HRS.out).mono ?_
     rintro e w2 ⟨rv, rfl, hrv, hbq⟩
     have HRV := Lib.hid hrv
     obtain ⟨xa, xc, rfl⟩ := own_slice hrv
     clear hrv
     refine hK.out _ _ ?s4_7 ?r4_7
     case s4_7 => (try dsimp only); first | exact HS | exact held2 HS hbq
     case r4_7 =>
      clear HS
      intro HS
      clear hK K
      try simp only [Act.put, lpa, lpb, lpc]
      refine cl 10 rfl (by kernel_rfl) (fun K hK => ?_)
      go_simp
      go_at_call 127
      refine (implContainsID _ _ (resIds rs nm) f.link _ (rd_of_own HRV.out) (resIds_small HRS.out)).mono ?_
      rintro e w3 ⟨rfl, rfl⟩
      refine hK.out _ _ ?s4_10 ?r4_10
      case s4_10 => (try dsimp only); first | exact HS | exact held2 HS hbq
      case r4_10 =>
       clear HS
       intro HS
       clear hK K
       try simp only [Act.put, lpa, lpb, lpc]
       (refine tk (v := ?v4_11) 11 rfl (by kernel_rfl) rfl ?y4_11 HS ?_; case y4_11 => (intro w' hSw; (try dsimp only at hSw); go_simp <;> (with_reducible rfl)))
       try simp only [Act.put, lpa, lpb, lpc]
       (refine tk (v := ?v4_12) 12 rfl (by kernel_rfl) rfl ?y4_12 HS ?_; case y4_12 => (intro w' hSw; (try dsimp only at hSw); go_simp <;> (with_reducible rfl)))
       try simp only [Act.put, lpa, lpb, lpc]
       refine wpAnyH_done (by kernel_rfl) ?_ _
       refine NoPanic.normal ?_
       go_wp2
       go_ret
       refine ⟨ret_bool ?_, hal.trans HS.2.2⟩
       rw [HM.out]; simp [hk]
noncomputable def matB (q : List N) (f : Fl) (rs : List Rs) : Bool := qryB q && matR q f rs q.length (q.length - 1)
theorem qry_pos {q : List N} (h : qryB q = true) : 0 < q.length := by
 unfold qryB at h
 simp only [Bool.and_eq_true] at h
 have := h.2
 unfold inB at this
 simp at this
 omega
set_option maxRecDepth 100000 in
set_option maxHeartbeats 1000000 in
theorem specMatches (va : Value) (q : List N) (f : Fl) (pf : P5) (vr : Value) (rs : List Rs) (w : World) (hq : Rd w va 7 q.length (rows N.c q)) (hf : Fl.R w f pf) (hr : RdRs w vr rs) (hql : q.length ≤ 4000000) (hz : szAll N.sz q ≤ 4000000) (hfs : f.small) (hrl : rs.length ≤ 4000000) (hrs : ∀ x, x ∈ rs → x.small) :
  Calls Tryz.prog 181 #[va, pf.v, vr] w fun e w' => e = .returned (.bool (matB q f rs)) ∧ Grew w w' := by
 have HQ := Lib.hid hq
 have HF := Lib.hid hf
 have HR := Lib.hid hr
 have HRS := Lib.hid hrs
 obtain ⟨a, ca, rfl, hca, hra⟩ := hq
 clear hra hrs
 obtain ⟨p1, p2, p3, p4, p5⟩ := pf
 clear hf
 obtain ⟨v, hv⟩ : ∃ v, qryB q = v := ⟨_, rfl⟩
 have HV := Lib.hid hv
 clear hv
 have hal := (Grew.refl w).alloc (.cells #[.int .i64 p1, .int .i64 p2, .bool p3, .int .i64 p4, p5] 79)
 have hcs : v = true ∨ v = false := by cases v <;> simp
 rcases hcs with rfl | rfl
 ·
  have hp := Lib.hid (qry_pos HV.out)
  obtain ⟨k, hk⟩ : ∃ k, q.length = k + 1 := ⟨q.length - 1, by have := hp.out; omega⟩
  have HK := Lib.hid hk
  have e1 : ((q.length : Int) - 1) = ((k : Nat) : Int) := by omega
  have e2 : IntKind.i64.wrap (((k + 1 : Nat) : Int) - 1) = ((k : Nat) : Int) := by simp [IntKind.wrap, IntKind.bits, IntKind.signed]; omega
  have HM := Lib.hid (show matB q f rs = matR q f rs (k + 1) k by unfold matB; rw [HV.out, HK.out]; rfl)
  rw [hk] at hql
  have e3 : (((k + 1 : Nat) : Int) - 1) = ((k : Nat) : Int) := by omega
  obtain ⟨bm, hbm⟩ : ∃ b, matR q f rs (k + 1) k = b := ⟨_, rfl⟩
  have HBM := Lib.hid hbm
  have f0 : ∀ b : Value, (w.alloc (.cells #[.int .i64 p1, .int .i64 p2, .bool p3, .int .i64 p4, p5] 79)).cell? ⟨w.heap.size, 0, none⟩ = some (.int .i64 p1) := fun _ => by simp
  have f1 : (w.alloc (.cells #[.int .i64 p1, .int .i64 p2, .bool p3, .int .i64 p4, p5] 79)).cell? ⟨w.heap.size, 1, none⟩ = some (.int .i64 p2) := by simp
  have f2 : (w.alloc (.cells #[.int .i64 p1, .int .i64 p2, .bool p3, .int .i64 p4, p5] 79)).cell? ⟨w.heap.size, 2, none⟩ = some (.bool p3) := by simp
  have f3 : (w.alloc (.cells #[.int .i64 p1, .int .i64 p2, .bool p3, .int .i64 p4, p5] 79)).cell? ⟨w.heap.size, 3, none⟩ = some (.int .i64 p4) := by simp
  have f4 : (w.alloc (.cells #[.int .i64 p1, .int .i64 p2, .bool p3, .int .i64 p4, p5] 79)).cell? ⟨w.heap.size, 4, none⟩ = some p5 := by simp
  replace f0 := f0 (.bool true)
  have HQ2 := Lib.hid (show Rd w (.slice a (k + 1) ca) 7 (k + 1) (rows N.c q) by have := HQ.out; rw [hk] at this; exact this)
  rw [hk]
  clear hk e1 HQ hbm
  go_enter Tryz.func181, Tryz.ntmps181
  go_wp2_with (first | (go_at_call 106; refine (specIsValidQuery _ (k + 1) q _ (HQ2.out.grew hal) hql hz).mono ?_; rintro e w1 ⟨he, hb⟩; rw [HV.out] at he; subst he; have g0 := grew_cell hb f0; have g1 := grew_cell hb f1; have g2 := grew_cell hb f2; have g3 := grew_cell hb f3; have g4 := grew_cell hb f4) | (go_at_call 222; refine (specL14Node q f ⟨p1, p2, p3, p4, p5⟩ rs _ _ w (by rw [HK.out]; exact HQ2.out) HF.out HR.out (by rw [HK.out]; exact hql) HV.out hfs hrl HRS.out (k + 1) k _ (hal.trans hb) (Nat.lt_succ_self k) (by rw [HK.out]; exact Nat.lt_succ_self k)).mono ?_; rintro e w2 ⟨he, hb2⟩; rw [HBM.out] at he; subst he))
  go_ret
  exact ⟨ret_bool (by rw [HM.out, HBM.out]), (hal.trans hb).trans hb2⟩
 ·
  have HM := Lib.hid (show matB q f rs = false by unfold matB; rw [HV.out]; rfl)
  go_enter Tryz.func181, Tryz.ntmps181
  go_wp2_with (go_at_call 106; refine (specIsValidQuery _ q.length q _ (HQ.out.grew hal) hql hz).mono ?_; rintro e w1 ⟨he, hb⟩; rw [HV.out] at he; subst he)
  go_ret
  exact ⟨ret_bool HM.out.symm, hal.trans hb⟩
set_option maxRecDepth 100000 in
set_option maxHeartbeats 1000000 in
theorem implMatches (va : Value) (q : List N) (f : Fl) (pf : P5) (vr : Value) (rs : List Rs) (w : World) (hq : Rd w va 7 q.length (rows N.c q)) (hf : Fl.R w f pf) (hr : RdRs w vr rs) (hql : q.length ≤ 4000000) (hz : szAll N.sz q ≤ 4000000) (hfs : f.small) (hrl : rs.length ≤ 4000000) (hrs : ∀ x, x ∈ rs → x.small) :
  Calls Tryz.prog 180 #[va, pf.v, vr] w fun e w' => e = .returned (.bool (matB q f rs)) ∧ Grew w w' := by
 have HQ := Lib.hid hq
 have HF := Lib.hid hf
 have HR := Lib.hid hr
 have HRS := Lib.hid hrs
 obtain ⟨a, ca, rfl, hca, hra⟩ := hq
 clear hra hrs
 obtain ⟨p1, p2, p3, p4, p5⟩ := pf
 clear hf
 obtain ⟨v, hv⟩ : ∃ v, qryB q = v := ⟨_, rfl⟩
 have HV := Lib.hid hv
 clear hv
 have hal := (Grew.refl w).alloc (.cells #[.int .i64 p1, .int .i64 p2, .bool p3, .int .i64 p4, p5] 79)
 have hcs : v = true ∨ v = false := by cases v <;> simp
 rcases hcs with rfl | rfl
 ·
  have hp := Lib.hid (qry_pos HV.out)
  obtain ⟨k, hk⟩ : ∃ k, q.length = k + 1 := ⟨q.length - 1, by have := hp.out; omega⟩
  have HK := Lib.hid hk
  have e1 : ((q.length : Int) - 1) = ((k : Nat) : Int) := by omega
  have e2 : IntKind.i64.wrap (((k + 1 : Nat) : Int) - 1) = ((k : Nat) : Int) := by simp [IntKind.wrap, IntKind.bits, IntKind.signed]; omega
  have HM := Lib.hid (show matB q f rs = matR q f rs (k + 1) k by unfold matB; rw [HV.out, HK.out]; rfl)
  rw [hk] at hql
  have e3 : (((k + 1 : Nat) : Int) - 1) = ((k : Nat) : Int) := by omega
  obtain ⟨bm, hbm⟩ : ∃ b, matR q f rs (k + 1) k = b := ⟨_, rfl⟩
  have HBM := Lib.hid hbm
  have f0 : ∀ b : Value, (w.alloc (.cells #[.int .i64 p1, .int .i64 p2, .bool p3, .int .i64 p4, p5] 79)).cell? ⟨w.heap.size, 0, none⟩ = some (.int .i64 p1) := fun _ => by simp
  have f1 : (w.alloc (.cells #[.int .i64 p1, .int .i64 p2, .bool p3, .int .i64 p4, p5] 79)).cell? ⟨w.heap.size, 1, none⟩ = some (.int .i64 p2) := by simp
  have f2 : (w.alloc (.cells #[.int .i64 p1, .int .i64 p2, .bool p3, .int .i64 p4, p5] 79)).cell? ⟨w.heap.size, 2, none⟩ = some (.bool p3) := by simp
  have f3 : (w.alloc (.cells #[.int .i64 p1, .int .i64 p2, .bool p3, .int .i64 p4, p5] 79)).cell? ⟨w.heap.size, 3, none⟩ = some (.int .i64 p4) := by simp
  have f4 : (w.alloc (.cells #[.int .i64 p1, .int .i64 p2, .bool p3, .int .i64 p4, p5] 79)).cell? ⟨w.heap.size, 4, none⟩ = some p5 := by simp
  replace f0 := f0 (.bool true)
  have HQ2 := Lib.hid (show Rd w (.slice a (k + 1) ca) 7 (k + 1) (rows N.c q) by have := HQ.out; rw [hk] at this; exact this)
  rw [hk]
  clear hk e1 HQ hbm
  go_enter Tryz.func180, Tryz.ntmps180
  go_wp2_with (first | (go_at_call 160; refine (implIsValidQuery _ (k + 1) q _ (HQ2.out.grew hal) hql hz).mono ?_; rintro e w1 ⟨he, hb⟩; rw [HV.out] at he; subst he; have g0 := grew_cell hb f0; have g1 := grew_cell hb f1; have g2 := grew_cell hb f2; have g3 := grew_cell hb f3; have g4 := grew_cell hb f4) | (go_at_call 221; refine (implMatchesAt q f ⟨p1, p2, p3, p4, p5⟩ rs _ _ w (by rw [HK.out]; exact HQ2.out) HF.out HR.out (by rw [HK.out]; exact hql) HV.out hfs hrl HRS.out (k + 1) k _ (hal.trans hb) (Nat.lt_succ_self k) (by rw [HK.out]; exact Nat.lt_succ_self k)).mono ?_; rintro e w2 ⟨he, hb2⟩; rw [HBM.out] at he; subst he))
  go_ret
  exact ⟨ret_bool (by rw [HM.out, HBM.out]), (hal.trans hb).trans hb2⟩
 ·
  have HM := Lib.hid (show matB q f rs = false by unfold matB; rw [HV.out]; rfl)
  go_enter Tryz.func180, Tryz.ntmps180
  go_wp2_with (go_at_call 160; refine (implIsValidQuery _ q.length q _ (HQ.out.grew hal) hql hz).mono ?_; rintro e w1 ⟨he, hb⟩; rw [HV.out] at he; subst he)
  go_ret
  exact ⟨ret_bool HM.out.symm, hal.trans hb⟩
end Go.Proofs.YtejgpghcahinhaaGreat
