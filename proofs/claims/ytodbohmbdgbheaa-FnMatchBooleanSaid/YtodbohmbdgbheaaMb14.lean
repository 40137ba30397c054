/- Texts WMatchBoolean, as far as they are needed. -/
import Derived.Test.YtodbohmbdgbheaaMb0
import Derived.Test.YtodbohmbdgbheaaMb13
import Derived.Test.YtodbohmbdgbheaaMb6
import Derived.Test.YtodbohmbdgbheaaMb3
import Derived.Test.YtodbohmbdgbheaaMb10
import Derived.Test.YtodbohmbdgbheaaMb9
namespace Go.Proofs.Ytodbohmbdgbheaa.fnMatchBoolean
open Go.RowKit
set_option linter.unusedVariables false
theorem q_sz {n : Nat} : ∀ {xs : List N}, qOk n xs → szAll N.sz xs ≤ xs.length * 16
  | [], _ => by simp [szAll]
  | x :: xs, h => by
    have h1 := q_sz (n := n) (xs := xs) ⟨by have := h.1; simp at this; omega, fun y hy => h.2 y (List.mem_cons_of_mem _ hy)⟩
    have h2 := h.2 x (List.mem_cons_self ..)
    unfold N.okD at h2
    have h3 : N.sz x ≤ 16 := by unfold N.sz V.sz; omega
    simp only [szAll, List.map_cons, List.sum_cons, List.length_cons] at h1 ⊢
    omega
theorem sel_has {s : St} {q : List N} {rs : List Rs} (h : stoB s = true) {f : Fl} (hf : f ∈ s.files) : has (selL q s.files rs) f.id = matB q f rs := by
  have ha := (sto_parts h).2.1
  unfold has
  cases hc : matB q f rs with
  | true =>
    refine decide_eq_true ?_
    unfold selL
    exact List.mem_map.2 ⟨f, List.mem_filter.2 ⟨hf, hc⟩, rfl⟩
  | false =>
    refine decide_eq_false fun hm => ?_
    unfold selL at hm
    obtain ⟨g, hg, he⟩ := List.mem_map.1 hm
    obtain ⟨h1, h2⟩ := List.mem_filter.1 hg
    have := ha.inj h1 hf he
    subst this
    rw [hc] at h2; cases h2
theorem ans_small {rs : List Rs} (h : ansOk rs) : ∀ x, x ∈ rs → x.small := fun x hx => by have := (h.2 x hx).2.2.2; unfold Rs.small; omega
theorem one_nd (xs : List N) : ∀ u ∈ rows N.c xs, u.oneCell' = true := fun u hu => by
  obtain ⟨x, _, hx⟩ := rows_mem hu
  simp only [N.c, List.mem_cons, List.not_mem_nil, or_false] at hx
  rcases hx with rfl | rfl | rfl | rfl | rfl | rfl | rfl <;> rfl
set_option maxRecDepth 100000 in
set_option maxHeartbeats 16000000 in
theorem walkLaw (w : World) (v : Value) (n : Nat) (xs : List Int) (hr : Rd w v 1 n (xs.map (Value.int .u8))) (hn : n ≤ maxLen) (ho : ∀ a : Int, a ∈ xs → 0 ≤ a ∧ a ≤ 255) :
    Calls Try.prog 3 #[v] w fun e w' => e = .returned (.bool true) ∧ Grew w w' := by
  clear ho
  by_cases hbig : (1048576 : Int) < (n : Int)
  · have hd : decide ((1048576 : Int) < (n : Int)) = true := by simp [hbig]
    go_enter Try.func3, Try.ntmps3
    go_wp2_with fail
    refine (big v n _ _ hr hn).mono ?_
    rintro e w1 ⟨rfl, rfl⟩
    go_wp2
    go_ret
    exact ⟨rfl, Grew.refl _⟩
  have hd : decide ((1048576 : Int) < (n : Int)) = false := by simp [hbig]
  have hcd : Cd w v := ⟨n, xs, hr, by omega⟩
  have G0 := Grew.refl w
  go_enter Try.func3, Try.ntmps3
  go_wp2_with fail
  refine (big v n _ _ hr hn).mono ?_
  rintro e w1 ⟨rfl, rfl⟩
  obtain ⟨i0, hi, hz0, hz1, hz2⟩ := info_parts Try.infoN
  go_wp2_with fail
  refine (drawMatches v _ hcd).mono ?_
  rintro e w1 ⟨u, p, t, rfl, q, f, rs, hq, hf, hrs, hoq, hfr, hgr, g1⟩
  have G1 := G0.trans g1
  have R_q := Lib.hid (rd_of_own hoq)
  obtain ⟨a_q, c_q, rfl⟩ := own_slice hoq
  clear hoq
  have R_f := Lib.hid hfr
  obtain ⟨p1, p2, p3, p4, p5⟩ := p
  obtain ⟨h1, h2, h3, h4, ⟨fa, fc, h5, _, _⟩⟩ := hfr
  simp only at h1 h2 h3 h4 h5
  subst h1
  subst h2
  subst h3
  subst h4
  subst h5
  have R_r := Lib.hid hgr.rd
  obtain ⟨ra_, rc_, rfl⟩ := GL.slice hgr
  clear hgr
  have hqz0 := q_sz hq
  have hql8 := hq.1
  have hqz : szAll N.sz q ≤ 4000000 := by omega
  have hql : q.length ≤ 4000000 := by omega
  have hfs : f.small := by have := hf.1; unfold Fl.small; omega
  have hrl : rs.length ≤ 4000000 := by have := hrs.1; omega
  have HRS := Lib.hid (ans_small hrs)
  clear hqz0 hq hf hrs
  have g2 := (Grew.refl w1).alloc (.cells #[.int .i64 f.id, .int .i64 f.owner, .bool f.shared, .int .i64 f.link, .slice fa f.attrs.length fc] 27)
  have bf0 : (w1.alloc (.cells #[.int .i64 f.id, .int .i64 f.owner, .bool f.shared, .int .i64 f.link, .slice fa f.attrs.length fc] 27)).cell? ⟨w1.heap.size, 0, none⟩ = some (.int .i64 f.id) := by simp
  have bf1 : (w1.alloc (.cells #[.int .i64 f.id, .int .i64 f.owner, .bool f.shared, .int .i64 f.link, .slice fa f.attrs.length fc] 27)).cell? ⟨w1.heap.size, 1, none⟩ = some (.int .i64 f.owner) := by simp
  have bf2 : (w1.alloc (.cells #[.int .i64 f.id, .int .i64 f.owner, .bool f.shared, .int .i64 f.link, .slice fa f.attrs.length fc] 27)).cell? ⟨w1.heap.size, 2, none⟩ = some (.bool f.shared) := by simp
  have bf3 : (w1.alloc (.cells #[.int .i64 f.id, .int .i64 f.owner, .bool f.shared, .int .i64 f.link, .slice fa f.attrs.length fc] 27)).cell? ⟨w1.heap.size, 3, none⟩ = some (.int .i64 f.link) := by simp
  have bf4 : (w1.alloc (.cells #[.int .i64 f.id, .int .i64 f.owner, .bool f.shared, .int .i64 f.link, .slice fa f.attrs.length fc] 27)).cell? ⟨w1.heap.size, 4, none⟩ = some (.slice fa f.attrs.length fc) := by simp
  go_wp2_with fail
  generalize w1.alloc (.cells #[.int .i64 f.id, .int .i64 f.owner, .bool f.shared, .int .i64 f.link, .slice fa f.attrs.length fc] 27) = w2 at g2 bf0 bf1 bf2 bf3 bf4 ⊢
  have G2 := G1.trans g2
  refine (drawSelectFiles v _ (hcd.grew (g1.trans g2))).mono ?_
  rintro e w3 ⟨p2, u2, t2, rfl, s_a, q2, rs2, hso, hq2, hrs2, hst, hoq2, hgr2, g3⟩
  have G3 := G2.trans g3
  replace bf0 := grew_cell g3 bf0
  replace bf1 := grew_cell g3 bf1
  replace bf2 := grew_cell g3 bf2
  replace bf3 := grew_cell g3 bf3
  replace bf4 := grew_cell g3 bf4
  have R_sa := Lib.hid hst.rd
  obtain ⟨xa_a, xc_a, ya_a, yc_a, hp2⟩ := hst.slices
  subst hp2
  clear hst
  have R_q2 := Lib.hid (rd_of_own hoq2)
  obtain ⟨a_q2, c_q2, rfl⟩ := own_slice hoq2
  clear hoq2
  have R_r2 := Lib.hid hgr2.rd
  obtain ⟨ra2, rc2, rfl⟩ := GL.slice hgr2
  clear hgr2
  have hqz20 := q_sz hq2
  have hql28 := hq2.1
  have hqz2 : szAll N.sz q2 ≤ 4000000 := by omega
  have hql2 : q2.length ≤ 4000000 := by omega
  have hz_a := hso.sz (by decide)
  have hfl := hso.2.1
  have hfl4 : s_a.files.length ≤ 4000000 := by omega
  have HFM := Lib.hid (fun y (hy : y ∈ s_a.files) => (show y.small by have := (hso.2.2 y hy).1; unfold Fl.small; omega))
  have hrl2 : rs2.length ≤ 4000000 := by have := hrs2.1; omega
  have HRS2 := Lib.hid (ans_small hrs2)
  clear hqz20 hq2 hso hrs2
  have g4 := (Grew.refl w3).alloc (.cells #[.slice xa_a s_a.schema.length xc_a, .slice ya_a s_a.files.length yc_a, .int .i64 s_a.next] 34)
  have ba0 : (w3.alloc (.cells #[.slice xa_a s_a.schema.length xc_a, .slice ya_a s_a.files.length yc_a, .int .i64 s_a.next] 34)).cell? ⟨w3.heap.size, 0, none⟩ = some (.slice xa_a s_a.schema.length xc_a) := by simp
  have ba1 : (w3.alloc (.cells #[.slice xa_a s_a.schema.length xc_a, .slice ya_a s_a.files.length yc_a, .int .i64 s_a.next] 34)).cell? ⟨w3.heap.size, 1, none⟩ = some (.slice ya_a s_a.files.length yc_a) := by simp
  have ba2 : (w3.alloc (.cells #[.slice xa_a s_a.schema.length xc_a, .slice ya_a s_a.files.length yc_a, .int .i64 s_a.next] 34)).cell? ⟨w3.heap.size, 2, none⟩ = some (.int .i64 s_a.next) := by simp
  go_wp2_with fail
  generalize w3.alloc (.cells #[.slice xa_a s_a.schema.length xc_a, .slice ya_a s_a.files.length yc_a, .int .i64 s_a.next] 34) = w4 at g4 ba0 ba1 ba2 ⊢
  have G4 := G3.trans g4
  replace bf0 := grew_cell g4 bf0
  replace bf1 := grew_cell g4 bf1
  replace bf2 := grew_cell g4 bf2
  replace bf3 := grew_cell g4 bf3
  replace bf4 := grew_cell g4 bf4
  have HSH := Lib.hid (fun (h : stoB s_a = true) f (hf : f ∈ s_a.files) => sel_has (q := q2) (rs := rs2) h hf)
  have hll0 := selL_len q2 s_a.files rs2
  obtain ⟨LI, hLI⟩ : ∃ x, selL q2 s_a.files rs2 = x := ⟨_, rfl⟩
  have HLI := Lib.hid hLI
  rw [hLI] at hll0 HSH
  clear hLI
  obtain ⟨ll, hll_⟩ : ∃ x, LI.length = x := ⟨_, rfl⟩
  have HLL := Lib.hid hll_
  rw [hll_] at hll0
  clear hll_
  have hll4 : ll ≤ 4000000 := by omega
  have HSI := Lib.hid (sameB_yes (rfl : LI = LI))
  refine (implSelectFiles s_a ⟨.slice xa_a s_a.schema.length xc_a, .slice ya_a s_a.files.length yc_a, s_a.next⟩ _ q2 _ rs2 _ (St.R.grew R_sa.out (g4)) (R_q2.out.grew g4) (RdRs.grew R_r2.out (g4)) hfl4 HFM.out hql2 hqz2 hrl2 HRS2.out).mono ?_
  rintro e w5 ⟨v_l, rfl, o_l, g5⟩
  have G5 := G4.trans g5
  replace bf0 := grew_cell g5 bf0
  replace bf1 := grew_cell g5 bf1
  replace bf2 := grew_cell g5 bf2
  replace bf3 := grew_cell g5 bf3
  replace bf4 := grew_cell g5 bf4
  replace ba0 := grew_cell g5 ba0
  replace ba1 := grew_cell g5 ba1
  replace ba2 := grew_cell g5 ba2
  rw [HLI.out, HLL.out] at o_l
  have R_l := Lib.hid (rd_of_own o_l)
  obtain ⟨la, lc, rfl⟩ := own_slice o_l
  clear o_l
  obtain ⟨bm, hbm_⟩ : ∃ b, matB q f rs = b := ⟨_, rfl⟩
  have H_bm := Lib.hid hbm_
  clear hbm_
  obtain ⟨sb, hsb_⟩ : ∃ b, stoB s_a = b := ⟨_, rfl⟩
  have H_sb := Lib.hid hsb_
  clear hsb_
  obtain ⟨qb, hqb_⟩ : ∃ b, qryB q = b := ⟨_, rfl⟩
  have H_qb := Lib.hid hqb_
  clear hqb_
  have T_q := Lib.hid (R_q.out.grew (((g2.trans g3).trans g4).trans g5))
  have T_f := Lib.hid (Fl.R.grew R_f.out ((((g2.trans g3).trans g4).trans g5)))
  have T_r := Lib.hid (RdRs.grew R_r.out ((((g2.trans g3).trans g4).trans g5)))
  have T_sa := Lib.hid (St.R.grew R_sa.out ((g4.trans g5)))
  have T_q2 := Lib.hid (R_q2.out.grew (g4.trans g5))
  have T_r2 := Lib.hid (RdRs.grew R_r2.out ((g4.trans g5)))
  have T_l := Lib.hid R_l.out
  go_wp2_with fail
  refine wp_region_noPanic ?_
  refine wp_region_held_drew (S := (fun w' => (w'.cell? ⟨w3.heap.size, 0, none⟩ = some (.slice xa_a s_a.schema.length xc_a) ∧ w'.cell? ⟨w3.heap.size, 1, none⟩ = some (.slice ya_a s_a.files.length yc_a) ∧ w'.cell? ⟨w3.heap.size, 2, none⟩ = some (.int .i64 s_a.next) ∧ w'.cell? ⟨w1.heap.size, 0, none⟩ = some (.int .i64 f.id) ∧ w'.cell? ⟨w1.heap.size, 1, none⟩ = some (.int .i64 f.owner) ∧ w'.cell? ⟨w1.heap.size, 2, none⟩ = some (.bool f.shared) ∧ w'.cell? ⟨w1.heap.size, 3, none⟩ = some (.int .i64 f.link) ∧ w'.cell? ⟨w1.heap.size, 4, none⟩ = some (.slice fa f.attrs.length fc) ∧ Grew w5 w'))) (by kernel_rfl) ?h1_S ?h1_r
  case h1_S => exact ⟨grew_cell (Grew.refl _).drew ba0, grew_cell (Grew.refl _).drew ba1, grew_cell (Grew.refl _).drew ba2, grew_cell (Grew.refl _).drew bf0, grew_cell (Grew.refl _).drew bf1, grew_cell (Grew.refl _).drew bf2, grew_cell (Grew.refl _).drew bf3, grew_cell (Grew.refl _).drew bf4, (Grew.refl _).drew⟩
  case h1_r =>
    intro HS
    first | refine sk' 0 HS ?_ | refine tk' 0 HS ?_
    first | refine sk' 1 HS ?_ | refine tk' 1 HS ?_
    first | refine sk' 2 HS ?_ | refine tk' 2 HS ?_
    first | refine sk' 4 HS ?_ | refine tk' 4 HS ?_
    first | refine sk' 5 HS ?_ | refine tk' 5 HS ?_
    first | refine sk' 6 HS ?_ | refine tk' 6 HS ?_
    refine cl' 3 fun K hK => ?_
    rw [if_pos (by rfl)]
    go_simp
    go_at_call 8
    refine (implMatches _ q f ⟨f.id, f.owner, f.shared, f.link, .slice fa f.attrs.length fc⟩ _ rs _ (T_q.out.grew HS.2.2.2.2.2.2.2.2) (T_f.out.grew HS.2.2.2.2.2.2.2.2) (RdRs.grew T_r.out HS.2.2.2.2.2.2.2.2) hql hqz hfs hrl HRS.out).mono ?_
    rintro e wr1 ⟨he, hb⟩
    rw [H_bm.out] at he
    subst he
    refine hK.out _ _ ?s1_3 ?r1_3
    case s1_3 => exact ⟨grew_cell hb HS.1, grew_cell hb HS.2.1, grew_cell hb HS.2.2.1, grew_cell hb HS.2.2.2.1, grew_cell hb HS.2.2.2.2.1, grew_cell hb HS.2.2.2.2.2.1, grew_cell hb HS.2.2.2.2.2.2.1, grew_cell hb HS.2.2.2.2.2.2.2.1, HS.2.2.2.2.2.2.2.2.trans hb⟩
    case r1_3 =>
      clear HS hK K; intro HS
      try simp only [Act.put, lpa, lpb, lpc]
      refine cl' 7 fun K hK => ?_
      rw [if_pos (by rfl)]
      go_simp
      go_at_call 9
      refine (specMatches _ q f ⟨f.id, f.owner, f.shared, f.link, .slice fa f.attrs.length fc⟩ _ rs _ (T_q.out.grew HS.2.2.2.2.2.2.2.2) (T_f.out.grew HS.2.2.2.2.2.2.2.2) (RdRs.grew T_r.out HS.2.2.2.2.2.2.2.2) hql hqz hfs hrl HRS.out).mono ?_
      rintro e wr2 ⟨he, hb⟩
      rw [H_bm.out] at he
      subst he
      refine hK.out _ _ ?s1_7 ?r1_7
      case s1_7 => exact ⟨grew_cell hb HS.1, grew_cell hb HS.2.1, grew_cell hb HS.2.2.1, grew_cell hb HS.2.2.2.1, grew_cell hb HS.2.2.2.2.1, grew_cell hb HS.2.2.2.2.2.1, grew_cell hb HS.2.2.2.2.2.2.1, grew_cell hb HS.2.2.2.2.2.2.2.1, HS.2.2.2.2.2.2.2.2.trans hb⟩
      case r1_7 =>
        clear HS hK K; intro HS
        try simp only [Act.put, lpa, lpb, lpc]
        first | refine sk' 8 HS ?_ | refine tk' 8 HS ?_
        first | refine sk' 9 HS ?_ | refine tk' 9 HS ?_
        first | refine sk' 10 HS ?_ | refine tk' 10 HS ?_
        first | refine sk' 11 HS ?_ | refine tk' 11 HS ?_
        first | refine sk' 12 HS ?_ | refine tk' 12 HS ?_
        first | refine sk' 13 HS ?_ | refine tk' 13 HS ?_
        refine cl' 14 fun K hK => ?_
        rw [if_pos (by rfl)]
        go_simp
        go_at_call 11
        refine (specSelectFiles s_a ⟨.slice xa_a s_a.schema.length xc_a, .slice ya_a s_a.files.length yc_a, s_a.next⟩ _ q2 _ rs2 _ (T_sa.out.grew HS.2.2.2.2.2.2.2.2) (T_q2.out.grew HS.2.2.2.2.2.2.2.2) (RdRs.grew T_r2.out HS.2.2.2.2.2.2.2.2) hfl4 HFM.out hql2 hqz2 hrl2 HRS2.out).mono ?_
        rintro e wr3 ⟨v14, rfl, o14, hb⟩
        rw [HLI.out, HLL.out] at o14
        have I14 := Lib.hid (rd_of_own o14)
        obtain ⟨i14a, i14c, rfl⟩ := own_slice o14
        clear o14
        refine hK.out _ _ ?s1_14 ?r1_14
        case s1_14 => exact ⟨grew_cell hb HS.1, grew_cell hb HS.2.1, grew_cell hb HS.2.2.1, grew_cell hb HS.2.2.2.1, grew_cell hb HS.2.2.2.2.1, grew_cell hb HS.2.2.2.2.2.1, grew_cell hb HS.2.2.2.2.2.2.1, grew_cell hb HS.2.2.2.2.2.2.2.1, HS.2.2.2.2.2.2.2.2.trans hb⟩
        case r1_14 =>
          clear HS hK K; intro HS
          try simp only [Act.put, lpa, lpb, lpc]
          refine cl' 15 fun K hK => ?_
          rw [if_pos (by rfl)]
          go_simp
          go_at_call 10
          refine (sameInts _ _ _ _ LI LI _ (T_l.out.grew HS.2.2.2.2.2.2.2.2) I14.out hll4 hll4).mono ?_
          rintro e wr4 ⟨he, hb⟩
          rw [HSI.out] at he
          subst he
          refine hK.out _ _ ?s1_15 ?r1_15
          case s1_15 => exact ⟨grew_cell hb HS.1, grew_cell hb HS.2.1, grew_cell hb HS.2.2.1, grew_cell hb HS.2.2.2.1, grew_cell hb HS.2.2.2.2.1, grew_cell hb HS.2.2.2.2.2.1, grew_cell hb HS.2.2.2.2.2.2.1, grew_cell hb HS.2.2.2.2.2.2.2.1, HS.2.2.2.2.2.2.2.2.trans hb⟩
          case r1_15 =>
            clear HS hK K; intro HS
            try simp only [Act.put, lpa, lpb, lpc]
            first | refine sk' 16 HS ?_ | refine tk' 16 HS ?_
            first | refine sk' 17 HS ?_ | refine tk' 17 HS ?_
            refine wpAnyH_done (by kernel_rfl) ?_ _
            refine NoPanic.normal ?_
            obtain ⟨w6, hw6⟩ : ∃ x, x = wr4 := ⟨_, rfl⟩
            rw [← hw6] at HS ⊢
            have g6 := HS.2.2.2.2.2.2.2.2
            have G6 := G5.trans g6
            clear HS hw6
            replace bf0 := grew_cell g6 bf0
            replace bf1 := grew_cell g6 bf1
            replace bf2 := grew_cell g6 bf2
            replace bf3 := grew_cell g6 bf3
            replace bf4 := grew_cell g6 bf4
            replace ba0 := grew_cell g6 ba0
            replace ba1 := grew_cell g6 ba1
            replace ba2 := grew_cell g6 ba2
            replace T_q := Lib.hid (R_q.out.grew ((((g2.trans g3).trans g4).trans g5).trans g6))
            replace T_f := Lib.hid (Fl.R.grew R_f.out (((((g2.trans g3).trans g4).trans g5).trans g6)))
            replace T_r := Lib.hid (RdRs.grew R_r.out (((((g2.trans g3).trans g4).trans g5).trans g6)))
            replace T_sa := Lib.hid (St.R.grew R_sa.out (((g4.trans g5).trans g6)))
            replace T_q2 := Lib.hid (R_q2.out.grew ((g4.trans g5).trans g6))
            replace T_r2 := Lib.hid (RdRs.grew R_r2.out (((g4.trans g5).trans g6)))
            replace T_l := Lib.hid (R_l.out.grew g6)
            have HG := Lib.hid G6
            obtain ⟨ps, ⟨ya2, yc2, h1, _, hra⟩, hall⟩ := T_sa.out.2.1
            simp only [Value.slice.injEq] at h1
            obtain ⟨h1a, _, h1c⟩ := h1
            subst h1a
            subst h1c
            have HALL := Lib.hid hall
            clear hall
            clear R_q R_f R_r R_sa R_q2 R_r2 R_l G0 G1 G2 G3 G4 G5 G6 g1 g2 g3 g4 g5 g6 hbig hn hd hr hcd
            go_wp2
            go_loopw [10] (fun i wr => ∃ k : Nat, k ≤ s_a.files.length ∧ i = .int .i64 k ∧ Grew w6 wr) (fun i _ => s_a.files.length - (intOf i).toNat)
            case atStart => exact ⟨0, Nat.zero_le _, rfl, Grew.refl _⟩
            case round =>
              obtain ⟨k, hk, rfl, hbel⟩ := hrel
              have ba0' := grew_cell hbel ba0
              have ba1' := grew_cell hbel ba1
              have ba2' := grew_cell hbel ba2
              have bf0' := grew_cell hbel bf0
              have bf1' := grew_cell hbel bf1
              have bf2' := grew_cell hbel bf2
              have bf3' := grew_cell hbel bf3
              have bf4' := grew_cell hbel bf4
              by_cases hlt : k < s_a.files.length
              ·
                obtain ⟨b1, o1, p, rfl, hpk, c0, c1, c2, c3, c4⟩ := (hra.grew hbel).getP5 hlt
                obtain ⟨x, hxk, hxr⟩ := HALL.out.get hpk.out
                have HXM := Lib.hid (List.mem_of_getElem? hxk.out)
                have HXR := Lib.hid (hxr.grew hbel)
                have hxs := HFM.out x HXM.out
                obtain ⟨x1, x2, x3, x4, x5⟩ := p
                dsimp only at c0 c1 c2 c3 c4
                have hxid : x1 = x.id := hxr.1
                have HXID := Lib.hid hxid
                have hk0 : (0 : Int) ≤ k := by omega
                have hkl : (k : Int) < s_a.files.length := by omega
                clear hxr hxid
                cases sb
                ·
                  go_wp2_with fail
                  refine wp_region_noPanic ?_
                  refine wp_region_held_drew (S := (fun w' => (w'.cell? ⟨w3.heap.size, 0, none⟩ = some (.slice xa_a s_a.schema.length xc_a) ∧ w'.cell? ⟨w3.heap.size, 1, none⟩ = some (.slice (some ⟨b1, o1, none⟩) s_a.files.length yc_a) ∧ w'.cell? ⟨w3.heap.size, 2, none⟩ = some (.int .i64 s_a.next) ∧ w'.cell? ⟨b1, o1 + k * 5, none⟩ = some (.int .i64 x1) ∧ w'.cell? ⟨b1, o1 + k * 5 + 1, none⟩ = some (.int .i64 x2) ∧ w'.cell? ⟨b1, o1 + k * 5 + 2, none⟩ = some (.bool x3) ∧ w'.cell? ⟨b1, o1 + k * 5 + 3, none⟩ = some (.int .i64 x4) ∧ w'.cell? ⟨b1, o1 + k * 5 + 4, none⟩ = some (x5) ∧ Grew wr w'))) (by kernel_rfl) ?h2_S ?h2_r
                  case h2_S => exact ⟨grew_cell (Grew.refl _).drew ba0', grew_cell (Grew.refl _).drew ba1', grew_cell (Grew.refl _).drew ba2', grew_cell (Grew.refl _).drew c0, grew_cell (Grew.refl _).drew c1, grew_cell (Grew.refl _).drew c2, grew_cell (Grew.refl _).drew c3, grew_cell (Grew.refl _).drew c4, (Grew.refl _).drew⟩
                  case h2_r =>
                    intro HS
                    first | refine sk' 0 HS ?_ | refine tk' 0 HS ?_
                    refine cl' 1 fun K hK => ?_
                    rw [if_pos (by rfl)]
                    go_simp
                    go_at_call 12
                    refine (specIsValidStore s_a ⟨.slice xa_a s_a.schema.length xc_a, .slice (some ⟨b1, o1, none⟩) s_a.files.length yc_a, s_a.next⟩ _ (T_sa.out.grew (hbel.trans HS.2.2.2.2.2.2.2.2)) (by omega)).mono ?_
                    rintro e wr1 ⟨he, hb⟩
                    rw [H_sb.out] at he
                    subst he
                    refine hK.out _ _ ?s2_1 ?r2_1
                    case s2_1 => exact ⟨grew_cell hb HS.1, grew_cell hb HS.2.1, grew_cell hb HS.2.2.1, grew_cell hb HS.2.2.2.1, grew_cell hb HS.2.2.2.2.1, grew_cell hb HS.2.2.2.2.2.1, grew_cell hb HS.2.2.2.2.2.2.1, grew_cell hb HS.2.2.2.2.2.2.2.1, HS.2.2.2.2.2.2.2.2.trans hb⟩
                    case r2_1 =>
                      clear HS hK K; intro HS
                      try simp only [Act.put, lpa, lpb, lpc]
                      first | refine sk' 2 HS ?_ | refine tk' 2 HS ?_
                      first | refine sk' 3 HS ?_ | refine tk' 3 HS ?_
                      first | refine sk' 4 HS ?_ | refine tk' 4 HS ?_
                      first | refine sk' 5 HS ?_ | refine tk' 5 HS ?_
                      first | refine sk' 6 HS ?_ | refine tk' 6 HS ?_
                      first | refine sk' 7 HS ?_ | refine tk' 7 HS ?_
                      first | refine sk' 8 HS ?_ | refine tk' 8 HS ?_
                      first | refine sk' 9 HS ?_ | refine tk' 9 HS ?_
                      first | refine sk' 11 HS ?_ | refine tk' 11 HS ?_
                      first | refine sk' 12 HS ?_ | refine tk' 12 HS ?_
                      first | refine sk' 13 HS ?_ | refine tk' 13 HS ?_
                      first | refine sk' 14 HS ?_ | refine tk' 14 HS ?_
                      first | refine sk' 15 HS ?_ | refine tk' 15 HS ?_
                      first | refine sk' 16 HS ?_ | refine tk' 16 HS ?_
                      first | refine sk' 17 HS ?_ | refine tk' 17 HS ?_
                      refine cl' 10 fun K hK => ?_
                      go_simp
                      refine hK.out _ _ HS ?r2_10
                      case r2_10 =>
                        clear HS hK K; intro HS
                        try simp only [Act.put, lpa, lpb, lpc]
                        refine cl' 18 fun K hK => ?_
                        go_simp
                        refine hK.out _ _ HS ?r2_18
                        case r2_18 =>
                          clear HS hK K; intro HS
                          try simp only [Act.put, lpa, lpb, lpc]
                          first | refine sk' 19 HS ?_ | refine tk' 19 HS ?_
                          first | refine sk' 20 HS ?_ | refine tk' 20 HS ?_
                          refine wpAnyH_done (by kernel_rfl) ?_ _
                          refine NoPanic.normal ?_
                          have GR := HS.2.2.2.2.2.2.2.2
                          clear HS
                          go_wp2
                          go_roundw
                          case rel => exact ⟨k + 1, by omega, by go_num, hbel.trans GR⟩
                          case measure => simp [intOf]; omega
                ·
                  go_wp2_with fail
                  obtain ⟨bx, hbx⟩ : ∃ b, matB q2 x rs2 = b := ⟨_, rfl⟩
                  have HBX := Lib.hid hbx
                  clear hbx
                  refine wp_region_noPanic ?_
                  refine wp_region_held_drew (S := (fun w' => (w'.cell? ⟨w3.heap.size, 0, none⟩ = some (.slice xa_a s_a.schema.length xc_a) ∧ w'.cell? ⟨w3.heap.size, 1, none⟩ = some (.slice (some ⟨b1, o1, none⟩) s_a.files.length yc_a) ∧ w'.cell? ⟨w3.heap.size, 2, none⟩ = some (.int .i64 s_a.next) ∧ w'.cell? ⟨b1, o1 + k * 5, none⟩ = some (.int .i64 x1) ∧ w'.cell? ⟨b1, o1 + k * 5 + 1, none⟩ = some (.int .i64 x2) ∧ w'.cell? ⟨b1, o1 + k * 5 + 2, none⟩ = some (.bool x3) ∧ w'.cell? ⟨b1, o1 + k * 5 + 3, none⟩ = some (.int .i64 x4) ∧ w'.cell? ⟨b1, o1 + k * 5 + 4, none⟩ = some (x5) ∧ Grew wr w'))) (by kernel_rfl) ?h3_S ?h3_r
                  case h3_S => exact ⟨grew_cell (Grew.refl _).drew ba0', grew_cell (Grew.refl _).drew ba1', grew_cell (Grew.refl _).drew ba2', grew_cell (Grew.refl _).drew c0, grew_cell (Grew.refl _).drew c1, grew_cell (Grew.refl _).drew c2, grew_cell (Grew.refl _).drew c3, grew_cell (Grew.refl _).drew c4, (Grew.refl _).drew⟩
                  case h3_r =>
                    intro HS
                    first | refine sk' 0 HS ?_ | refine tk' 0 HS ?_
                    refine cl' 1 fun K hK => ?_
                    rw [if_pos (by rfl)]
                    go_simp
                    go_at_call 12
                    refine (specIsValidStore s_a ⟨.slice xa_a s_a.schema.length xc_a, .slice (some ⟨b1, o1, none⟩) s_a.files.length yc_a, s_a.next⟩ _ (T_sa.out.grew (hbel.trans HS.2.2.2.2.2.2.2.2)) (by omega)).mono ?_
                    rintro e wr1 ⟨he, hb⟩
                    rw [H_sb.out] at he
                    subst he
                    refine hK.out _ _ ?s3_1 ?r3_1
                    case s3_1 => exact ⟨grew_cell hb HS.1, grew_cell hb HS.2.1, grew_cell hb HS.2.2.1, grew_cell hb HS.2.2.2.1, grew_cell hb HS.2.2.2.2.1, grew_cell hb HS.2.2.2.2.2.1, grew_cell hb HS.2.2.2.2.2.2.1, grew_cell hb HS.2.2.2.2.2.2.2.1, HS.2.2.2.2.2.2.2.2.trans hb⟩
                    case r3_1 =>
                      clear HS hK K; intro HS
                      try simp only [Act.put, lpa, lpb, lpc]
                      first | refine sk' 2 HS ?_ | refine tk' 2 HS ?_
                      first | refine sk' 3 HS ?_ | refine tk' 3 HS ?_
                      first | refine sk' 4 HS ?_ | refine tk' 4 HS ?_
                      first | refine sk' 5 HS ?_ | refine tk' 5 HS ?_
                      first | refine sk' 6 HS ?_ | refine tk' 6 HS ?_
                      first | refine sk' 7 HS ?_ | refine tk' 7 HS ?_
                      first | refine sk' 8 HS ?_ | refine tk' 8 HS ?_
                      first | refine sk' 9 HS ?_ | refine tk' 9 HS ?_
                      first | refine sk' 11 HS ?_ | refine tk' 11 HS ?_
                      first | refine sk' 12 HS ?_ | refine tk' 12 HS ?_
                      first | refine sk' 13 HS ?_ | refine tk' 13 HS ?_
                      first | refine sk' 14 HS ?_ | refine tk' 14 HS ?_
                      first | refine sk' 15 HS ?_ | refine tk' 15 HS ?_
                      first | refine sk' 16 HS ?_ | refine tk' 16 HS ?_
                      first | refine sk' 17 HS ?_ | refine tk' 17 HS ?_
                      refine cl' 10 fun K hK => ?_
                      rw [if_pos (by rfl)]
                      go_simp
                      go_at_call 13
                      refine (implContainsID _ ll LI x1 _ (T_l.out.grew (hbel.trans HS.2.2.2.2.2.2.2.2)) hll4).mono ?_
                      rintro e wsame ⟨he, rfl⟩
                      rw [HXID.out, HSH.out H_sb.out x HXM.out] at he
                      rw [HBX.out] at he
                      subst he
                      refine hK.out _ _ ?s3_10 ?r3_10
                      case s3_10 => exact HS
                      case r3_10 =>
                        clear HS hK K; intro HS
                        try simp only [Act.put, lpa, lpb, lpc]
                        refine cl' 18 fun K hK => ?_
                        rw [if_pos (by rfl)]
                        go_simp
                        go_at_call 8
                        refine (implMatches _ q2 x ⟨x1, x2, x3, x4, x5⟩ _ rs2 _ (T_q2.out.grew (hbel.trans HS.2.2.2.2.2.2.2.2)) (HXR.out.grew HS.2.2.2.2.2.2.2.2) (RdRs.grew T_r2.out (hbel.trans HS.2.2.2.2.2.2.2.2)) hql2 hqz2 hxs hrl2 HRS2.out).mono ?_
                        rintro e wr3 ⟨he, hb⟩
                        rw [HBX.out] at he
                        subst he
                        refine hK.out _ _ ?s3_18 ?r3_18
                        case s3_18 => exact ⟨grew_cell hb HS.1, grew_cell hb HS.2.1, grew_cell hb HS.2.2.1, grew_cell hb HS.2.2.2.1, grew_cell hb HS.2.2.2.2.1, grew_cell hb HS.2.2.2.2.2.1, grew_cell hb HS.2.2.2.2.2.2.1, grew_cell hb HS.2.2.2.2.2.2.2.1, HS.2.2.2.2.2.2.2.2.trans hb⟩
                        case r3_18 =>
                          clear HS hK K; intro HS
                          try simp only [Act.put, lpa, lpb, lpc]
                          first | refine sk' 19 HS ?_ | refine tk' 19 HS ?_
                          first | refine sk' 20 HS ?_ | refine tk' 20 HS ?_
                          refine wpAnyH_done (by kernel_rfl) ?_ _
                          refine NoPanic.normal ?_
                          have GR := HS.2.2.2.2.2.2.2.2
                          clear HS
                          go_wp2
                          go_roundw
                          case rel => exact ⟨k + 1, by omega, by go_num, hbel.trans GR⟩
                          case measure => simp [intOf]; omega
              · obtain ⟨nf, hnf⟩ : ∃ n, s_a.files.length = n := ⟨_, rfl⟩
                obtain rfl : k = s_a.files.length := by omega
                have GX := Lib.hid (HG.out.trans hbel)
                have U_q := Lib.hid (T_q.out.grew hbel)
                have U_f := Lib.hid (T_f.out.grew hbel)
                have U_r := Lib.hid (RdRs.grew T_r.out hbel)
                clear ba0 ba1 ba2 bf0 bf1 bf2 bf3 bf4 hra HALL T_q T_f T_r T_sa T_q2 T_r2 T_l hlt
                go_wp2_with fail
                refine (specIsValidQuery _ q.length q _ U_q.out hql hqz).mono ?_
                rintro e wy ⟨he, gy⟩
                rw [H_qb.out] at he
                subst he
                replace bf0' := grew_cell gy bf0'
                replace bf1' := grew_cell gy bf1'
                replace bf2' := grew_cell gy bf2'
                replace bf3' := grew_cell gy bf3'
                replace bf4' := grew_cell gy bf4'
                cases qb
                · skip
                  have bz0 := grew_cell ((Grew.refl wy).alloc (.cells #[.int .i64 1, .int .i64 0, .int .i64 0, .string ⟨#[]⟩, .int .i64 0, .int .i64 0, .string ⟨#[]⟩] 47)) bf0'
                  have bz1 := grew_cell ((Grew.refl wy).alloc (.cells #[.int .i64 1, .int .i64 0, .int .i64 0, .string ⟨#[]⟩, .int .i64 0, .int .i64 0, .string ⟨#[]⟩] 47)) bf1'
                  have bz2 := grew_cell ((Grew.refl wy).alloc (.cells #[.int .i64 1, .int .i64 0, .int .i64 0, .string ⟨#[]⟩, .int .i64 0, .int .i64 0, .string ⟨#[]⟩] 47)) bf2'
                  have bz3 := grew_cell ((Grew.refl wy).alloc (.cells #[.int .i64 1, .int .i64 0, .int .i64 0, .string ⟨#[]⟩, .int .i64 0, .int .i64 0, .string ⟨#[]⟩] 47)) bf3'
                  have bz4 := grew_cell ((Grew.refl wy).alloc (.cells #[.int .i64 1, .int .i64 0, .int .i64 0, .string ⟨#[]⟩, .int .i64 0, .int .i64 0, .string ⟨#[]⟩] 47)) bf4'
                  go_wp2_with fail
                  refine (implMatches _ [nAll] f ⟨f.id, f.owner, f.shared, f.link, .slice fa f.attrs.length fc⟩ _ rs _ (lit_rd wy #[.int .i64 1, .int .i64 0, .int .i64 0, .string ⟨#[]⟩, .int .i64 0, .int .i64 0, .string ⟨#[]⟩] 47 7 1 1 rfl (Nat.le_refl _)) ((U_f.out.grew gy).grew ((Grew.refl _).alloc _)) (RdRs.grew (RdRs.grew U_r.out gy) ((Grew.refl _).alloc _)) (by decide) (by decide) hfs hrl HRS.out).mono ?_
                  rintro e wz ⟨he, gz⟩
                  rw [mat_all] at he
                  subst he
                  go_wp2
                  go_ret
                  exact ⟨rfl, (GX.out.trans gy).trans (((Grew.refl _).alloc _).trans gz)⟩
                · by_cases h7 : 7 < q.length
                  · have h7' : (7 : Int) < q.length := by omega
                    have bz0 := grew_cell ((Grew.refl wy).alloc (.cells #[.int .i64 1, .int .i64 0, .int .i64 0, .string ⟨#[]⟩, .int .i64 0, .int .i64 0, .string ⟨#[]⟩] 47)) bf0'
                    have bz1 := grew_cell ((Grew.refl wy).alloc (.cells #[.int .i64 1, .int .i64 0, .int .i64 0, .string ⟨#[]⟩, .int .i64 0, .int .i64 0, .string ⟨#[]⟩] 47)) bf1'
                    have bz2 := grew_cell ((Grew.refl wy).alloc (.cells #[.int .i64 1, .int .i64 0, .int .i64 0, .string ⟨#[]⟩, .int .i64 0, .int .i64 0, .string ⟨#[]⟩] 47)) bf2'
                    have bz3 := grew_cell ((Grew.refl wy).alloc (.cells #[.int .i64 1, .int .i64 0, .int .i64 0, .string ⟨#[]⟩, .int .i64 0, .int .i64 0, .string ⟨#[]⟩] 47)) bf3'
                    have bz4 := grew_cell ((Grew.refl wy).alloc (.cells #[.int .i64 1, .int .i64 0, .int .i64 0, .string ⟨#[]⟩, .int .i64 0, .int .i64 0, .string ⟨#[]⟩] 47)) bf4'
                    go_wp2_with fail
                    refine (implMatches _ [nAll] f ⟨f.id, f.owner, f.shared, f.link, .slice fa f.attrs.length fc⟩ _ rs _ (lit_rd wy #[.int .i64 1, .int .i64 0, .int .i64 0, .string ⟨#[]⟩, .int .i64 0, .int .i64 0, .string ⟨#[]⟩] 47 7 1 1 rfl (Nat.le_refl _)) ((U_f.out.grew gy).grew ((Grew.refl _).alloc _)) (RdRs.grew (RdRs.grew U_r.out gy) ((Grew.refl _).alloc _)) (by decide) (by decide) hfs hrl HRS.out).mono ?_
                    rintro e wz ⟨he, gz⟩
                    rw [mat_all] at he
                    subst he
                    go_wp2
                    go_ret
                    exact ⟨rfl, (GX.out.trans gy).trans (((Grew.refl _).alloc _).trans gz)⟩
                  · have h7' : ¬ ((7 : Int) < q.length) := by omega
                    have hpos := (qry_len H_qb.out).1
                    obtain ⟨m, hm⟩ : ∃ m, q.length = m + 1 := ⟨q.length - 1, by omega⟩
                    have HM := Lib.hid hm
                    have hm7 : m + 1 ≤ 7 := by omega
                    have hm1 : m = q.length - 1 := by omega
                    have HN5 := Lib.hid (mat_not (f := f) (r := rs) H_qb.out (by omega))
                    have HN6 := Lib.hid (mat_and (f := f) (r := rs) H_qb.out (by omega))
                    have HN7 := Lib.hid (mat_or (f := f) (r := rs) H_qb.out (by omega))
                    rw [← hm1, H_bm.out] at HN5
                    rw [← hm1, hm, H_bm.out] at HN6
                    rw [← hm1, hm] at HN7
                    have hU := U_q.out.grew gy
                    rw [hm] at hU
                    obtain ⟨_, _, h1, _, hqa⟩ := hU
                    simp only [Value.slice.injEq] at h1
                    obtain ⟨h1a, _, h1c⟩ := h1
                    subst h1a
                    subst h1c
                    have HQA := Lib.hid hqa
                    have hqm : (Value.slice a_q q.length c_q) = .slice a_q (m + 1) c_q := by rw [hm]
                    have hpp : ((m + 1 : Nat) : Int) - 1 = m := by omega
                    have hp0 : (0 : Int) ≤ m := by omega
                    have hp7 : (m : Int) + 1 ≤ 7 := by omega
                    have SZQ := Lib.hid (fun (a b : N) (ha : a.sz = 0) (hb : b.sz = 0) => (show szAll N.sz (q ++ [a]) ≤ 4000000 ∧ szAll N.sz (q ++ [a, b]) ≤ 4000000 by simp [szAll] at hqz ⊢; omega))
                    clear hm hqa hpos hm1 h7 h7' hql8
                    rw [hqm]
                    clear hqm
                    obtain ⟨bn, hqn⟩ : ∃ x, wy.heap.size = x := ⟨_, rfl⟩
                    have hbn : bn ≤ wy.heap.size := (by omega)
                    have HBn := Lib.hid hqn
                    clear hqn
                    have gln := (Grew.refl wy).alloc (.cells #[] 47)
                    have HQn := Lib.hid (HQA.out.grew ((Grew.refl wy).trans gln))
                    have hcn : bn ≤ (wy.alloc (.cells #[] 47)).heap.size := (by rw [World.size_alloc]; omega)
                    go_wp2_with (first | (at_builtin; refine wpList_append_any _ rfl _ _ 24 rfl bn 47 i0 _ 7 72 Try.underlying24 hi hz0 hz1 hz2 rfl (by decide) _ 0 [] rfl (ownsRow_base (lit_own _ 47 7) hbn) a_q (m + 1) c_q (rows N.c q) rfl HQn.out (one_rows q) (by unfold maxLen; omega) (by omega) hcn ?_; intro vn1 wn1 on1 gn1; rw [Nat.zero_add, List.nil_append] at on1; have Gn1 : Grew wy wn1 := gln.grown gn1 (fun j h => by have h2 : wy.heap.size = j := Option.some.inj h; omega); have On1 := Lib.hid (ownsRow_grew on1 ((Grew.refl _).alloc (.cells #[.int .i64 5, .int .i64 m, .int .i64 0, .string ⟨#[]⟩, .int .i64 0, .int .i64 0, .string ⟨#[]⟩] 47))); have hen : bn ≤ (wn1.alloc (.cells #[.int .i64 5, .int .i64 m, .int .i64 0, .string ⟨#[]⟩, .int .i64 0, .int .i64 0, .string ⟨#[]⟩] 47)).heap.size := (by have := Gn1.size; simp; omega); have hvn : ∀ j, vn1.ownBlock = some j → bn ≤ j := fun j h => (on1.lt j h).1; have HVn := Lib.hid hvn; obtain ⟨sna, snc, rfl⟩ := own_slice on1; clear on1 gn1 hvn) | (at_builtin; refine wpList_append_own _ rfl _ _ 24 rfl bn 47 i0 _ 7 72 Try.underlying24 hi hz0 hz1 hz2 rfl (by decide) _ _ _ rfl On1.out ⟨_, 0, none⟩ 1 1 #[.int .i64 5, .int .i64 m, .int .i64 0, .string ⟨#[]⟩, .int .i64 0, .int .i64 0, .string ⟨#[]⟩].toList rfl rfl (lit_news rfl) (fun x hx => List.all_eq_true.1 (show (#[.int .i64 5, .int .i64 m, .int .i64 0, .string ⟨#[]⟩, .int .i64 0, .int .i64 0, .string ⟨#[]⟩].toList).all (fun u => u.oneCell') = true from rfl) x hx) (by first | (unfold maxLen; omega) | unfold maxLen | omega) (by first | omega | decide | simp) hen ?_; intro vn2 wn2 on2 gn2 _; have Gn2 : Grew wy wn2 := (Gn1.alloc (.cells #[.int .i64 5, .int .i64 m, .int .i64 0, .string ⟨#[]⟩, .int .i64 0, .int .i64 0, .string ⟨#[]⟩] 47)).grown gn2 (fun j h => by have := HVn.out j h; have := HBn.out; omega); have Tn : Grew wy wn2 := (Grew.refl wy).trans Gn2; have Pn := Lib.hid on2; obtain ⟨tna, tnc, rfl⟩ := own_slice on2; clear on2 gn2; obtain ⟨ba, hqa⟩ : ∃ x, wn2.heap.size = x := ⟨_, rfl⟩; have hba : ba ≤ wn2.heap.size := (by omega); have HBa := Lib.hid hqa; clear hqa; have gla := (Grew.refl wn2).alloc (.cells #[] 47); have HQa := Lib.hid (HQA.out.grew (Tn.trans gla)); have hca : ba ≤ (wn2.alloc (.cells #[] 47)).heap.size := (by rw [World.size_alloc]; omega)) | (at_builtin; refine wpList_append_any _ rfl _ _ 24 rfl ba 47 i0 _ 7 72 Try.underlying24 hi hz0 hz1 hz2 rfl (by decide) _ 0 [] rfl (ownsRow_base (lit_own _ 47 7) hba) a_q (m + 1) c_q (rows N.c q) rfl HQa.out (one_rows q) (by unfold maxLen; omega) (by omega) hca ?_; intro va1 wa1 oa1 ga1; rw [Nat.zero_add, List.nil_append] at oa1; have Ga1 : Grew wn2 wa1 := gla.grown ga1 (fun j h => by have h2 : wn2.heap.size = j := Option.some.inj h; omega); have Oa1 := Lib.hid (ownsRow_grew oa1 ((Grew.refl _).alloc (.cells #[.int .i64 1, .int .i64 0, .int .i64 0, .string ⟨#[]⟩, .int .i64 0, .int .i64 0, .string ⟨#[]⟩, .int .i64 6, .int .i64 m, .int .i64 ((m + 1 : Nat) : Int), .string ⟨#[]⟩, .int .i64 0, .int .i64 0, .string ⟨#[]⟩] 47))); have hea : ba ≤ (wa1.alloc (.cells #[.int .i64 1, .int .i64 0, .int .i64 0, .string ⟨#[]⟩, .int .i64 0, .int .i64 0, .string ⟨#[]⟩, .int .i64 6, .int .i64 m, .int .i64 ((m + 1 : Nat) : Int), .string ⟨#[]⟩, .int .i64 0, .int .i64 0, .string ⟨#[]⟩] 47)).heap.size := (by have := Ga1.size; simp; omega); have hva : ∀ j, va1.ownBlock = some j → ba ≤ j := fun j h => (oa1.lt j h).1; have HVa := Lib.hid hva; obtain ⟨saa, sac, rfl⟩ := own_slice oa1; clear oa1 ga1 hva) | (at_builtin; refine wpList_append_own _ rfl _ _ 24 rfl ba 47 i0 _ 7 72 Try.underlying24 hi hz0 hz1 hz2 rfl (by decide) _ _ _ rfl Oa1.out ⟨_, 0, none⟩ 2 2 #[.int .i64 1, .int .i64 0, .int .i64 0, .string ⟨#[]⟩, .int .i64 0, .int .i64 0, .string ⟨#[]⟩, .int .i64 6, .int .i64 m, .int .i64 ((m + 1 : Nat) : Int), .string ⟨#[]⟩, .int .i64 0, .int .i64 0, .string ⟨#[]⟩].toList rfl rfl (lit_news rfl) (fun x hx => List.all_eq_true.1 (show (#[.int .i64 1, .int .i64 0, .int .i64 0, .string ⟨#[]⟩, .int .i64 0, .int .i64 0, .string ⟨#[]⟩, .int .i64 6, .int .i64 m, .int .i64 ((m + 1 : Nat) : Int), .string ⟨#[]⟩, .int .i64 0, .int .i64 0, .string ⟨#[]⟩].toList).all (fun u => u.oneCell') = true from rfl) x hx) (by first | (unfold maxLen; omega) | unfold maxLen | omega) (by first | omega | decide | simp) hea ?_; intro va2 wa2 oa2 ga2 _; have Ga2 : Grew wn2 wa2 := (Ga1.alloc (.cells #[.int .i64 1, .int .i64 0, .int .i64 0, .string ⟨#[]⟩, .int .i64 0, .int .i64 0, .string ⟨#[]⟩, .int .i64 6, .int .i64 m, .int .i64 ((m + 1 : Nat) : Int), .string ⟨#[]⟩, .int .i64 0, .int .i64 0, .string ⟨#[]⟩] 47)).grown ga2 (fun j h => by have := HVa.out j h; have := HBa.out; omega); have Ta : Grew wy wa2 := Tn.trans Ga2; have Pa := Lib.hid oa2; obtain ⟨taa, tac, rfl⟩ := own_slice oa2; clear oa2 ga2; obtain ⟨bo, hqo⟩ : ∃ x, wa2.heap.size = x := ⟨_, rfl⟩; have hbo : bo ≤ wa2.heap.size := (by omega); have HBo := Lib.hid hqo; clear hqo; have glo := (Grew.refl wa2).alloc (.cells #[] 47); have HQo := Lib.hid (HQA.out.grew (Ta.trans glo)); have hco : bo ≤ (wa2.alloc (.cells #[] 47)).heap.size := (by rw [World.size_alloc]; omega)) | (at_builtin; refine wpList_append_any _ rfl _ _ 24 rfl bo 47 i0 _ 7 72 Try.underlying24 hi hz0 hz1 hz2 rfl (by decide) _ 0 [] rfl (ownsRow_base (lit_own _ 47 7) hbo) a_q (m + 1) c_q (rows N.c q) rfl HQo.out (one_rows q) (by unfold maxLen; omega) (by omega) hco ?_; intro vo1 wo1 oo1 go1; rw [Nat.zero_add, List.nil_append] at oo1; have Go1 : Grew wa2 wo1 := glo.grown go1 (fun j h => by have h2 : wa2.heap.size = j := Option.some.inj h; omega); have Oo1 := Lib.hid (ownsRow_grew oo1 ((Grew.refl _).alloc (.cells #[.int .i64 1, .int .i64 0, .int .i64 0, .string ⟨#[]⟩, .int .i64 0, .int .i64 0, .string ⟨#[]⟩, .int .i64 7, .int .i64 m, .int .i64 ((m + 1 : Nat) : Int), .string ⟨#[]⟩, .int .i64 0, .int .i64 0, .string ⟨#[]⟩] 47))); have heo : bo ≤ (wo1.alloc (.cells #[.int .i64 1, .int .i64 0, .int .i64 0, .string ⟨#[]⟩, .int .i64 0, .int .i64 0, .string ⟨#[]⟩, .int .i64 7, .int .i64 m, .int .i64 ((m + 1 : Nat) : Int), .string ⟨#[]⟩, .int .i64 0, .int .i64 0, .string ⟨#[]⟩] 47)).heap.size := (by have := Go1.size; simp; omega); have hvo : ∀ j, vo1.ownBlock = some j → bo ≤ j := fun j h => (oo1.lt j h).1; have HVo := Lib.hid hvo; obtain ⟨soa, soc, rfl⟩ := own_slice oo1; clear oo1 go1 hvo) | (at_builtin; refine wpList_append_own _ rfl _ _ 24 rfl bo 47 i0 _ 7 72 Try.underlying24 hi hz0 hz1 hz2 rfl (by decide) _ _ _ rfl Oo1.out ⟨_, 0, none⟩ 2 2 #[.int .i64 1, .int .i64 0, .int .i64 0, .string ⟨#[]⟩, .int .i64 0, .int .i64 0, .string ⟨#[]⟩, .int .i64 7, .int .i64 m, .int .i64 ((m + 1 : Nat) : Int), .string ⟨#[]⟩, .int .i64 0, .int .i64 0, .string ⟨#[]⟩].toList rfl rfl (lit_news rfl) (fun x hx => List.all_eq_true.1 (show (#[.int .i64 1, .int .i64 0, .int .i64 0, .string ⟨#[]⟩, .int .i64 0, .int .i64 0, .string ⟨#[]⟩, .int .i64 7, .int .i64 m, .int .i64 ((m + 1 : Nat) : Int), .string ⟨#[]⟩, .int .i64 0, .int .i64 0, .string ⟨#[]⟩].toList).all (fun u => u.oneCell') = true from rfl) x hx) (by first | (unfold maxLen; omega) | unfold maxLen | omega) (by first | omega | decide | simp) heo ?_; intro vo2 wo2 oo2 go2 _; have Go2 : Grew wa2 wo2 := (Go1.alloc (.cells #[.int .i64 1, .int .i64 0, .int .i64 0, .string ⟨#[]⟩, .int .i64 0, .int .i64 0, .string ⟨#[]⟩, .int .i64 7, .int .i64 m, .int .i64 ((m + 1 : Nat) : Int), .string ⟨#[]⟩, .int .i64 0, .int .i64 0, .string ⟨#[]⟩] 47)).grown go2 (fun j h => by have := HVo.out j h; have := HBo.out; omega); have To : Grew wy wo2 := Ta.trans Go2; have Po := Lib.hid oo2; obtain ⟨toa, toc, rfl⟩ := own_slice oo2; clear oo2 go2; replace bf0' := grew_cell To bf0'; replace bf1' := grew_cell To bf1'; replace bf2' := grew_cell To bf2'; replace bf3' := grew_cell To bf3'; replace bf4' := grew_cell To bf4'))
                    have RN := Lib.hid ((rd_of_own Pn.out).grew (Ga2.trans Go2))
                    have RA := Lib.hid ((rd_of_own Pa.out).grew Go2)
                    have RO := Lib.hid (rd_of_own Po.out)
                    have GXO := Lib.hid (GX.out.trans (gy.trans To))
                    have V_q := Lib.hid (U_q.out.grew (gy.trans To))
                    have V_f := Lib.hid (U_f.out.grew (gy.trans To))
                    have V_r := Lib.hid (RdRs.grew U_r.out (gy.trans To))
                    clear Pn Pa Po On1 Oa1 Oo1 HVn HVa HVo Gn1 Gn2 Ga1 Ga2 Go1 Go2 gln gla glo HQn HQa HQo Tn Ta To HBn HBa HBo hen hea heo hbn hba hbo hcn hca hco U_q U_f U_r GX gy HQA
                    generalize wo2 = wz at *
                    refine (implMatches _ q f ⟨f.id, f.owner, f.shared, f.link, .slice fa f.attrs.length fc⟩ _ rs _ (by have h := V_q.out; rw [HM.out] at h ⊢; exact h) V_f.out V_r.out hql hqz hfs hrl HRS.out).mono ?_
                    rintro e w19 ⟨he, g19⟩
                    rw [H_bm.out] at he
                    subst he
                    replace bf0' := grew_cell g19 bf0'
                    replace bf1' := grew_cell g19 bf1'
                    replace bf2' := grew_cell g19 bf2'
                    replace bf3' := grew_cell g19 bf3'
                    replace bf4' := grew_cell g19 bf4'
                    have XN := Lib.hid (show Rd w19 (.slice tna (m + 1 + 1) tnc) 7 (q ++ [nOne 5 (m : Int) 0]).length (rows N.c (q ++ [nOne 5 (m : Int) 0])) by rw [rows_append, List.length_append, HM.out]; exact RN.out.grew g19)
                    have XA := Lib.hid (show Rd w19 (.slice taa (m + 1 + 2) tac) 7 (q ++ [nAll, nOne 6 (m : Int) ((m + 1 : Nat) : Int)]).length (rows N.c (q ++ [nAll, nOne 6 (m : Int) ((m + 1 : Nat) : Int)])) by rw [rows_append, List.length_append, HM.out]; exact RA.out.grew g19)
                    have XO := Lib.hid (show Rd w19 (.slice toa (m + 1 + 2) toc) 7 (q ++ [nAll, nOne 7 (m : Int) ((m + 1 : Nat) : Int)]).length (rows N.c (q ++ [nAll, nOne 7 (m : Int) ((m + 1 : Nat) : Int)])) by rw [rows_append, List.length_append, HM.out]; exact RO.out.grew g19)
                    have YF := Lib.hid (V_f.out.grew g19)
                    have YR := Lib.hid (RdRs.grew V_r.out g19)
                    have LN := Lib.hid (show (q ++ [nOne 5 (m : Int) 0]).length ≤ 4000000 by rw [List.length_append, HM.out]; simp; omega)
                    have LA := Lib.hid (show (q ++ [nAll, nOne 6 (m : Int) ((m + 1 : Nat) : Int)]).length ≤ 4000000 by rw [List.length_append, HM.out]; simp; omega)
                    have LO := Lib.hid (show (q ++ [nAll, nOne 7 (m : Int) ((m + 1 : Nat) : Int)]).length ≤ 4000000 by rw [List.length_append, HM.out]; simp; omega)
                    have ZN := Lib.hid (SZQ.out (nOne 5 (m : Int) 0) nAll rfl rfl).1
                    have ZA := Lib.hid (SZQ.out nAll (nOne 6 (m : Int) ((m + 1 : Nat) : Int)) rfl rfl).2
                    have ZO := Lib.hid (SZQ.out nAll (nOne 7 (m : Int) ((m + 1 : Nat) : Int)) rfl rfl).2
                    have G19 := Lib.hid (GXO.out.trans g19)
                    clear RN RA RO V_q V_f V_r SZQ GXO g19
                    cases bm
                    ·
                      go_wp2_with fail
                      refine (implMatches _ (q ++ [nOne 5 (m : Int) 0]) f ⟨f.id, f.owner, f.shared, f.link, .slice fa f.attrs.length fc⟩ _ rs _ (XN.out.grew (Grew.refl w19)) (YF.out.grew (Grew.refl w19)) (RdRs.grew YR.out (Grew.refl w19)) LN.out ZN.out hfs hrl HRS.out).mono ?_
                      rintro e w20 ⟨he, g20⟩
                      rw [HN5.out] at he
                      subst he
                      replace bf0' := grew_cell g20 bf0'
                      replace bf1' := grew_cell g20 bf1'
                      replace bf2' := grew_cell g20 bf2'
                      replace bf3' := grew_cell g20 bf3'
                      replace bf4' := grew_cell g20 bf4'
                      have h20 := (Grew.refl w19).trans g20
                      go_wp2_with fail
                      refine (implMatches _ (q ++ [nAll, nOne 6 (m : Int) ((m + 1 : Nat) : Int)]) f ⟨f.id, f.owner, f.shared, f.link, .slice fa f.attrs.length fc⟩ _ rs _ (XA.out.grew h20) (YF.out.grew h20) (RdRs.grew YR.out h20) LA.out ZA.out hfs hrl HRS.out).mono ?_
                      rintro e w21 ⟨he, g21⟩
                      rw [HN6.out] at he
                      subst he
                      replace bf0' := grew_cell g21 bf0'
                      replace bf1' := grew_cell g21 bf1'
                      replace bf2' := grew_cell g21 bf2'
                      replace bf3' := grew_cell g21 bf3'
                      replace bf4' := grew_cell g21 bf4'
                      have h21 := h20.trans g21
                      go_wp2_with fail
                      refine (implMatches _ (q ++ [nAll, nOne 7 (m : Int) ((m + 1 : Nat) : Int)]) f ⟨f.id, f.owner, f.shared, f.link, .slice fa f.attrs.length fc⟩ _ rs _ (XO.out.grew h21) (YF.out.grew h21) (RdRs.grew YR.out h21) LO.out ZO.out hfs hrl HRS.out).mono ?_
                      rintro e w22 ⟨he, g22⟩
                      rw [HN7.out] at he
                      subst he
                      replace bf0' := grew_cell g22 bf0'
                      replace bf1' := grew_cell g22 bf1'
                      replace bf2' := grew_cell g22 bf2'
                      replace bf3' := grew_cell g22 bf3'
                      replace bf4' := grew_cell g22 bf4'
                      have h22 := h21.trans g22
                      go_wp2
                      go_ret
                      exact ⟨rfl, G19.out.trans h22⟩
                    ·
                      go_wp2_with fail
                      refine (implMatches _ (q ++ [nOne 5 (m : Int) 0]) f ⟨f.id, f.owner, f.shared, f.link, .slice fa f.attrs.length fc⟩ _ rs _ (XN.out.grew (Grew.refl w19)) (YF.out.grew (Grew.refl w19)) (RdRs.grew YR.out (Grew.refl w19)) LN.out ZN.out hfs hrl HRS.out).mono ?_
                      rintro e w20 ⟨he, g20⟩
                      rw [HN5.out] at he
                      subst he
                      replace bf0' := grew_cell g20 bf0'
                      replace bf1' := grew_cell g20 bf1'
                      replace bf2' := grew_cell g20 bf2'
                      replace bf3' := grew_cell g20 bf3'
                      replace bf4' := grew_cell g20 bf4'
                      have h20 := (Grew.refl w19).trans g20
                      go_wp2_with fail
                      refine (implMatches _ (q ++ [nAll, nOne 6 (m : Int) ((m + 1 : Nat) : Int)]) f ⟨f.id, f.owner, f.shared, f.link, .slice fa f.attrs.length fc⟩ _ rs _ (XA.out.grew h20) (YF.out.grew h20) (RdRs.grew YR.out h20) LA.out ZA.out hfs hrl HRS.out).mono ?_
                      rintro e w21 ⟨he, g21⟩
                      rw [HN6.out] at he
                      subst he
                      replace bf0' := grew_cell g21 bf0'
                      replace bf1' := grew_cell g21 bf1'
                      replace bf2' := grew_cell g21 bf2'
                      replace bf3' := grew_cell g21 bf3'
                      replace bf4' := grew_cell g21 bf4'
                      have h21 := h20.trans g21
                      go_wp2_with fail
                      refine (implMatches _ (q ++ [nAll, nOne 7 (m : Int) ((m + 1 : Nat) : Int)]) f ⟨f.id, f.owner, f.shared, f.link, .slice fa f.attrs.length fc⟩ _ rs _ (XO.out.grew h21) (YF.out.grew h21) (RdRs.grew YR.out h21) LO.out ZO.out hfs hrl HRS.out).mono ?_
                      rintro e w22 ⟨he, g22⟩
                      rw [HN7.out] at he
                      subst he
                      replace bf0' := grew_cell g22 bf0'
                      replace bf1' := grew_cell g22 bf1'
                      replace bf2' := grew_cell g22 bf2'
                      replace bf3' := grew_cell g22 bf3'
                      replace bf4' := grew_cell g22 bf4'
                      have h22 := h21.trans g22
                      go_wp2
                      go_ret
                      exact ⟨rfl, G19.out.trans h22⟩
end Go.Proofs.Ytodbohmbdgbheaa.fnMatchBoolean
