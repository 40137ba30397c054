/- Texts M4, as far as they are needed. -/
import Derived.Test.YtejgpghcahinhaaGreatVi9
import Derived.Test.YtejgpghcahinhaaGreatVi3
namespace Go.Proofs.YtejgpghcahinhaaGreat
open Go.RowKit
set_option linter.unusedVariables false
noncomputable def selL (q : List N) (fs : List Fl) (rs : List Rs) : List Int := (fs.filter fun f => matB q f rs).map Fl.id
theorem selL_len (q : List N) (fs : List Fl) (rs : List Rs) : (selL q fs rs).length ≤ fs.length := by unfold selL; rw [List.length_map]; exact List.length_filter_le _ _
theorem selL_tk (q : List N) (fs : List Fl) (rs : List Rs) (k : Nat) : (selL q (fs.take k) rs).length ≤ k := Nat.le_trans (selL_len _ _ _) (by rw [List.length_take]; omega)
theorem selL_yes {q : List N} {fs : List Fl} {rs : List Rs} {k : Nat} {f : Fl} (h : fs[k]? = some f) (hm : matB q f rs = true) : selL q (fs.take (k + 1)) rs = selL q (fs.take k) rs ++ [f.id] := by
  rw [take_snoc h]; unfold selL; rw [List.filter_append, List.map_append]; simp [hm]
theorem selL_no {q : List N} {fs : List Fl} {rs : List Rs} {k : Nat} {f : Fl} (h : fs[k]? = some f) (hm : matB q f rs = false) : selL q (fs.take (k + 1)) rs = selL q (fs.take k) rs := by
  rw [take_snoc h]; unfold selL; rw [List.filter_append, List.map_append]; simp [hm]
set_option maxRecDepth 100000 in
set_option maxHeartbeats 2000000 in
theorem specSelectFiles (s : St) (p : PS) (va : Value) (q : List N) (vr : Value) (rs : List Rs) (w : World) (hs : St.R w s p) (hq : Rd w va 7 q.length (rows N.c q)) (hr : RdRs w vr rs) (hfl : s.files.length ≤ 4000000) (hfm : ∀ y, y ∈ s.files → y.small) (hql : q.length ≤ 4000000) (hz : szAll N.sz q ≤ 4000000) (hrl : rs.length ≤ 4000000) (hrs : ∀ x, x ∈ rs → x.small) :
    Calls Tryz.prog 116 #[p.v, va, vr] w fun e w' => ∃ v, e = .returned v ∧ w'.ownsRow w.heap.size 3 1 v (selL q s.files rs).length (ints (selL q s.files rs)) ∧ Grew w w' := by
  obtain ⟨p_q, p_r, p_n⟩ := p
  obtain ⟨hsq, hsr, hsn⟩ := hs
  simp only at hsq hsr hsn
  subst hsn
  have HSR := Lib.hid hsq
  clear hsq
  have HQ := Lib.hid hq
  have HR := Lib.hid hr
  have HFM := Lib.hid hfm
  have HRS := Lib.hid hrs
  obtain ⟨ps, ⟨a, ca, rfl, hca, hra⟩, hall⟩ := hsr
  have HA := Lib.hid hall
  obtain ⟨qa, qc, rfl, hqc, hqr⟩ := hq
  obtain ⟨rps, ⟨ra, rca, rfl, hrc, hrr⟩, hrall⟩ := hr
  clear hall hqr hrr hrall hqc hrc hfm hrs
  generalize hn : s.files.length = n at hfl hra hca
  have HX := Lib.hid hn
  clear hn
  obtain ⟨i0, hi, hz0, hz1, hz2⟩ := info_parts Tryz.infoInt
  have hg0 := (Grew.refl w).alloc (.cells #[p_q, .slice a n ca, .int .i64 s.next] 27)
  have bx1 : (w.alloc (.cells #[p_q, .slice a n ca, .int .i64 s.next] 27)).cell? ⟨w.heap.size, 1, none⟩ = some (.slice a n ca) := by simp
  have hw0 : w.heap.size ≤ (w.alloc (.cells #[p_q, .slice a n ca, .int .i64 s.next] 27)).heap.size := by simp
  go_enter Tryz.func116, Tryz.ntmps116
  go_wp2
  go_loopw [7, 8] (fun v i wr => ∃ k : Nat, k ≤ n ∧ i = .int .i64 k ∧ Hid (wr.ownsRow (w.alloc (.cells #[p_q, .slice a n ca, .int .i64 s.next] 27)).heap.size 3 1 v (selL q (s.files.take k) rs).length (ints (selL q (s.files.take k) rs))) ∧ Grew (w.alloc (.cells #[p_q, .slice a n ca, .int .i64 s.next] 27)) wr) (fun _ i _ => n - (intOf i).toNat)
  case atStart => exact ⟨0, Nat.zero_le _, rfl, Lib.hid (by have h := lit_own (w.alloc (.cells #[p_q, .slice a n ca, .int .i64 s.next] 27)) 3 1; simpa [selL] using h), (Grew.refl _).alloc _⟩
  case round =>
    obtain ⟨k, hk, rfl, hown, hbel⟩ := hrel
    have e1 := grew_cell hbel bx1
    have hnl := selL_tk q s.files rs k
    by_cases hlt : k < n
    · obtain ⟨b1, o1, p5, rfl, hpk, c0, c1, c2, c3, c4⟩ := (hra.grew (hg0.trans hbel)).getP5 hlt
      obtain ⟨f, hfk, hfr⟩ := HA.out.get hpk.out
      have hfs := HFM.out f (List.mem_of_getElem? hfk.out)
      have HF := Lib.hid hfr
      obtain ⟨pi, po, psh, pl, pa⟩ := p5
      obtain ⟨h1, h2, h3, h4, h5⟩ := hfr
      simp only at h1 h2 h3 h4 h5 c0 c1 c2 c3 c4
      subst h1 h2 h3 h4
      obtain ⟨fa, fc, rfl, h6, h7⟩ := h5
      clear h6 h7
      have HFS := Lib.hid hfs
      obtain ⟨v, hv⟩ : ∃ v, matB q f rs = v := ⟨_, rfl⟩
      have HV := Lib.hid hv
      clear hv
      have hcs : v = true ∨ v = false := by cases v <;> simp
      rcases hcs with rfl | rfl
      · go_wp2_with (first | (go_at_call 181; refine (specMatches _ q f ⟨f.id, f.owner, f.shared, f.link, .slice fa f.attrs.length fc⟩ _ rs _ (HQ.out.grew (hg0.trans hbel)) (HF.out.grew (hg0.trans hbel)) (HR.out.grew (hg0.trans hbel)) hql hz hfs (by omega) HRS.out).mono ?_; rintro e w2 ⟨he, hb⟩; rw [HV.out] at he; subst he; have d0 := grew_cell hb c0; have d1 := grew_cell hb e1) | (at_builtin; refine wpList_append_own _ rfl _ _ 35 rfl _ 3 i0 (.int .i64 0) 1 8 Tryz.underlying35 hi hz0 hz1 hz2 rfl (by decide) _ _ _ rfl ((ownsRow_grew hown.out hb).alloc _) ⟨_, 0, none⟩ 1 1 [.int .i64 f.id] rfl rfl (cell_one_new _ _ _) (fun x hx => by simp at hx; subst hx; rfl) (by unfold maxLen; omega) (by omega) (by have := (hbel.trans hb).size; simp at this ⊢; omega) ?_; intro v' w' hown' hgr _))
        go_roundw
        case rel =>
          refine ⟨k + 1, by omega, by go_num, Lib.hid ?_, ((hbel.trans hb).alloc _).grown hgr (fun g h => (hown.out.lt g h).1)⟩
          rw [selL_yes hfk.out HV.out]; simpa using hown'
        case measure => simp [intOf]; omega
      · go_wp2_with (go_at_call 181; refine (specMatches _ q f ⟨f.id, f.owner, f.shared, f.link, .slice fa f.attrs.length fc⟩ _ rs _ (HQ.out.grew (hg0.trans hbel)) (HF.out.grew (hg0.trans hbel)) (HR.out.grew (hg0.trans hbel)) hql hz hfs (by omega) HRS.out).mono ?_; rintro e w2 ⟨he, hb⟩; rw [HV.out] at he; subst he; have d0 := grew_cell hb c0; have d1 := grew_cell hb e1)
        go_roundw
        case rel =>
          refine ⟨k + 1, by omega, by go_num, Lib.hid ?_, (hbel.trans hb)⟩
          rw [selL_no hfk.out HV.out]; exact (ownsRow_grew hown.out hb)
        case measure => simp [intOf]; omega
    · obtain rfl : k = n := by omega
      go_wp2
      go_ret
      refine ⟨_, rfl, ?_, hg0.trans hbel⟩
      have := hown.out
      rw [take_all HX.out] at this
      exact ownsRow_base this hw0
set_option maxRecDepth 100000 in
set_option maxHeartbeats 2000000 in
theorem implSelectFiles (s : St) (p : PS) (va : Value) (q : List N) (vr : Value) (rs : List Rs) (w : World) (hs : St.R w s p) (hq : Rd w va 7 q.length (rows N.c q)) (hr : RdRs w vr rs) (hfl : s.files.length ≤ 4000000) (hfm : ∀ y, y ∈ s.files → y.small) (hql : q.length ≤ 4000000) (hz : szAll N.sz q ≤ 4000000) (hrl : rs.length ≤ 4000000) (hrs : ∀ x, x ∈ rs → x.small) :
    Calls Tryz.prog 115 #[p.v, va, vr] w fun e w' => ∃ v, e = .returned v ∧ w'.ownsRow w.heap.size 3 1 v (selL q s.files rs).length (ints (selL q s.files rs)) ∧ Grew w w' := by
  obtain ⟨p_q, p_r, p_n⟩ := p
  obtain ⟨hsq, hsr, hsn⟩ := hs
  simp only at hsq hsr hsn
  subst hsn
  have HSR := Lib.hid hsq
  clear hsq
  have HQ := Lib.hid hq
  have HR := Lib.hid hr
  have HFM := Lib.hid hfm
  have HRS := Lib.hid hrs
  obtain ⟨ps, ⟨a, ca, rfl, hca, hra⟩, hall⟩ := hsr
  have HA := Lib.hid hall
  obtain ⟨qa, qc, rfl, hqc, hqr⟩ := hq
  obtain ⟨rps, ⟨ra, rca, rfl, hrc, hrr⟩, hrall⟩ := hr
  clear hall hqr hrr hrall hqc hrc hfm hrs
  generalize hn : s.files.length = n at hfl hra hca
  have HX := Lib.hid hn
  clear hn
  obtain ⟨i0, hi, hz0, hz1, hz2⟩ := info_parts Tryz.infoInt
  have hg0 := (Grew.refl w).alloc (.cells #[p_q, .slice a n ca, .int .i64 s.next] 27)
  have bx1 : (w.alloc (.cells #[p_q, .slice a n ca, .int .i64 s.next] 27)).cell? ⟨w.heap.size, 1, none⟩ = some (.slice a n ca) := by simp
  have hw0 : w.heap.size ≤ (w.alloc (.cells #[p_q, .slice a n ca, .int .i64 s.next] 27)).heap.size := by simp
  go_enter Tryz.func115, Tryz.ntmps115
  go_wp2
  go_loopw [7, 14] (fun v i wr => ∃ k : Nat, k ≤ n ∧ i = .int .i64 k ∧ Hid (wr.ownsRow (w.alloc (.cells #[p_q, .slice a n ca, .int .i64 s.next] 27)).heap.size 3 1 v (selL q (s.files.take k) rs).length (ints (selL q (s.files.take k) rs))) ∧ Grew (w.alloc (.cells #[p_q, .slice a n ca, .int .i64 s.next] 27)) wr) (fun _ i _ => n - (intOf i).toNat)
  case atStart => exact ⟨0, Nat.zero_le _, rfl, Lib.hid (by have h := lit_own (w.alloc (.cells #[p_q, .slice a n ca, .int .i64 s.next] 27)) 3 1; simpa [selL] using h), (Grew.refl _).alloc _⟩
  case round =>
    obtain ⟨k, hk, rfl, hown, hbel⟩ := hrel
    have e1 := grew_cell hbel bx1
    have hnl := selL_tk q s.files rs k
    by_cases hlt : k < n
    · obtain ⟨b1, o1, p5, rfl, hpk, c0, c1, c2, c3, c4⟩ := (hra.grew (hg0.trans hbel)).getP5 hlt
      obtain ⟨f, hfk, hfr⟩ := HA.out.get hpk.out
      have hfs := HFM.out f (List.mem_of_getElem? hfk.out)
      have HF := Lib.hid hfr
      obtain ⟨pi, po, psh, pl, pa⟩ := p5
      obtain ⟨h1, h2, h3, h4, h5⟩ := hfr
      simp only at h1 h2 h3 h4 h5 c0 c1 c2 c3 c4
      subst h1 h2 h3 h4
      obtain ⟨fa, fc, rfl, h6, h7⟩ := h5
      clear h6 h7
      have HFS := Lib.hid hfs
      have hal := (Grew.refl wr).alloc (.cells #[.int .i64 f.id, .int .i64 f.owner, .bool f.shared, .int .i64 f.link, .slice fa f.attrs.length fc] 79)
      have bf0 : (wr.alloc (.cells #[.int .i64 f.id, .int .i64 f.owner, .bool f.shared, .int .i64 f.link, .slice fa f.attrs.length fc] 79)).cell? ⟨wr.heap.size, 0, none⟩ = some (.int .i64 f.id) := by simp
      obtain ⟨v, hv⟩ : ∃ v, matB q f rs = v := ⟨_, rfl⟩
      have HV := Lib.hid hv
      clear hv
      have hcs : v = true ∨ v = false := by cases v <;> simp
      rcases hcs with rfl | rfl
      · go_wp2_with (first | (go_at_call 180; refine (implMatches _ q f ⟨f.id, f.owner, f.shared, f.link, .slice fa f.attrs.length fc⟩ _ rs _ (HQ.out.grew (hg0.trans (hbel.alloc (.cells #[.int .i64 f.id, .int .i64 f.owner, .bool f.shared, .int .i64 f.link, .slice fa f.attrs.length fc] 79)))) (HF.out.grew (hg0.trans (hbel.alloc (.cells #[.int .i64 f.id, .int .i64 f.owner, .bool f.shared, .int .i64 f.link, .slice fa f.attrs.length fc] 79)))) (HR.out.grew (hg0.trans (hbel.alloc (.cells #[.int .i64 f.id, .int .i64 f.owner, .bool f.shared, .int .i64 f.link, .slice fa f.attrs.length fc] 79)))) hql hz hfs (by omega) HRS.out).mono ?_; rintro e w2 ⟨he, hb⟩; rw [HV.out] at he; subst he; have d0 := grew_cell hb bf0) | (at_builtin; refine wpList_append_own _ rfl _ _ 35 rfl _ 3 i0 (.int .i64 0) 1 8 Tryz.underlying35 hi hz0 hz1 hz2 rfl (by decide) _ _ _ rfl ((ownsRow_grew hown.out ((Grew.refl wr).alloc (.cells #[.int .i64 f.id, .int .i64 f.owner, .bool f.shared, .int .i64 f.link, .slice fa f.attrs.length fc] 79) |>.trans hb)).alloc _) ⟨_, 0, none⟩ 1 1 [.int .i64 f.id] rfl rfl (cell_one_new _ _ _) (fun x hx => by simp at hx; subst hx; rfl) (by unfold maxLen; omega) (by omega) (by have := ((hbel.alloc (.cells #[.int .i64 f.id, .int .i64 f.owner, .bool f.shared, .int .i64 f.link, .slice fa f.attrs.length fc] 79)).trans hb).size; simp at this ⊢; omega) ?_; intro v' w' hown' hgr _))
        go_roundw
        case rel =>
          refine ⟨k + 1, by omega, by go_num, Lib.hid ?_, (((hbel.alloc (.cells #[.int .i64 f.id, .int .i64 f.owner, .bool f.shared, .int .i64 f.link, .slice fa f.attrs.length fc] 79)).trans hb).alloc _).grown hgr (fun g h => (hown.out.lt g h).1)⟩
          rw [selL_yes hfk.out HV.out]; simpa using hown'
        case measure => simp [intOf]; omega
      · go_wp2_with (go_at_call 180; refine (implMatches _ q f ⟨f.id, f.owner, f.shared, f.link, .slice fa f.attrs.length fc⟩ _ rs _ (HQ.out.grew (hg0.trans (hbel.alloc (.cells #[.int .i64 f.id, .int .i64 f.owner, .bool f.shared, .int .i64 f.link, .slice fa f.attrs.length fc] 79)))) (HF.out.grew (hg0.trans (hbel.alloc (.cells #[.int .i64 f.id, .int .i64 f.owner, .bool f.shared, .int .i64 f.link, .slice fa f.attrs.length fc] 79)))) (HR.out.grew (hg0.trans (hbel.alloc (.cells #[.int .i64 f.id, .int .i64 f.owner, .bool f.shared, .int .i64 f.link, .slice fa f.attrs.length fc] 79)))) hql hz hfs (by omega) HRS.out).mono ?_; rintro e w2 ⟨he, hb⟩; rw [HV.out] at he; subst he; have d0 := grew_cell hb bf0)
        go_roundw
        case rel =>
          refine ⟨k + 1, by omega, by go_num, Lib.hid ?_, ((hbel.alloc (.cells #[.int .i64 f.id, .int .i64 f.owner, .bool f.shared, .int .i64 f.link, .slice fa f.attrs.length fc] 79)).trans hb)⟩
          rw [selL_no hfk.out HV.out]; exact (ownsRow_grew hown.out ((Grew.refl wr).alloc (.cells #[.int .i64 f.id, .int .i64 f.owner, .bool f.shared, .int .i64 f.link, .slice fa f.attrs.length fc] 79) |>.trans hb))
        case measure => simp [intOf]; omega
    · obtain rfl : k = n := by omega
      go_wp2
      go_ret
      refine ⟨_, rfl, ?_, hg0.trans hbel⟩
      have := hown.out
      rw [take_all HX.out] at this
      exact ownsRow_base this hw0
end Go.Proofs.YtejgpghcahinhaaGreat
