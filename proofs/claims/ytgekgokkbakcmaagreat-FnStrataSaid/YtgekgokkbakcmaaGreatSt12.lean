/- Texts WStrata, as far as they are needed. -/
import Derived.Test.YtgekgokkbakcmaaGreatSt1
import Derived.Test.YtgekgokkbakcmaaGreatSt7
import Derived.Test.YtgekgokkbakcmaaGreatSt9
import Derived.Test.YtgekgokkbakcmaaGreatSt10
import Derived.Test.YtgekgokkbakcmaaGreatSt11
import Derived.Test.YtgekgokkbakcmaaGreatSt5
import Derived.Test.YtgekgokkbakcmaaGreatSt4
import Derived.Test.YtgekgokkbakcmaaGreatSt8
import Derived.Test.YtgekgokkbakcmaaGreatSt0
namespace Go.Proofs.YtgekgokkbakcmaaGreat.fnStrata
open Go.RowKit
set_option linter.unusedVariables false
theorem q_sz {n : Nat} : ∀ {xs : List N}, qOk n xs → szAll N.sz xs ≤ xs.length * 16
  | [], _ => by simp [szAll]
  | x :: xs, h => by
    have h1 := q_sz (n := n) (xs := xs) ⟨by have := h.1; simp at this; omega, fun y hy => h.2 y (List.mem_cons_of_mem _ hy)⟩
    have h2 := h.2 x (List.mem_cons_self ..)
    unfold N.okD at h2
    have h3 : N.sz x ≤ 16 := by unfold N.sz V.sz; omega
    simp only [szAll, List.map_cons, List.sum_cons, List.length_cons] at h1 ⊢
    omega
theorem hasB_snoc {xs : List ByteArray} {s y : ByteArray} {k : Nat} (hy : xs[k]? = some y) : hasB (xs.take (k + 1)) s = (hasB (xs.take k) s || (y.toList == s.toList)) := by
  rw [take_snoc hy]; unfold hasB; rw [List.any_append]; simp
theorem dr_szD {x : Dr} (h : x.name.size ≤ 8 ∧ qOk 8 x.query) : Dr.sz x ≤ 144 := by
  have h1 := q_sz h.2
  have h2 := h.2.1
  unfold Dr.sz; omega
theorem ds_sz {n : Nat} : ∀ {xs : List Dr}, dirsOk n xs → szAll Dr.sz xs ≤ xs.length * 144
  | [], _ => by simp [szAll]
  | x :: xs, h => by
    have h1 := ds_sz (n := n) (xs := xs) ⟨by have := h.1; simp at this; omega, fun y hy => h.2 y (List.mem_cons_of_mem _ hy)⟩
    have h2 := dr_szD (h.2 x (List.mem_cons_self ..))
    simp only [szAll, List.map_cons, List.sum_cons, List.length_cons] at h1 ⊢
    omega
theorem stI_at {xs : List Dr} {k : Nat} {y : Int} (h : (stI xs)[k]? = some y) : y = (gt (stL xs) k : Int) := by
  unfold stI at h
  rw [List.getElem?_map] at h
  cases hc : (stL xs)[k]? with
  | none => rw [hc] at h; cases h
  | some z => rw [hc] at h; rw [gt_at hc]; simp at h; exact h.symm
theorem stB_dirs {xs : List Dr} (h : dirsB xs = false) : stB xs = false := by unfold stB; rw [h]; rfl
theorem nif_le (f : ByteArray → Bool) (xs : List Dr) : (namesIf f xs).length ≤ xs.length := by unfold namesIf; rw [List.length_map]; exact List.length_filter_le _ _
set_option maxRecDepth 100000 in
set_option maxHeartbeats 16000000 in
theorem walkLaw (w : World) (v : Value) (n : Nat) (xs : List Int) (hr : Rd w v 1 n (xs.map (Value.int .u8))) (hn : n ≤ maxLen) (ho : ∀ a : Int, a ∈ xs → 0 ≤ a ∧ a ≤ 255) :
    Calls Tryz.prog 4 #[v] w fun e w' => e = .returned (.bool true) ∧ Grew w w' := by
  clear ho
  by_cases hbig : (1048576 : Int) < (n : Int)
  · have hd : decide ((1048576 : Int) < (n : Int)) = true := by simp [hbig]
    go_enter Tryz.func4, Tryz.ntmps4
    go_wp2_with fail
    refine (big v n _ _ hr hn).mono ?_
    rintro e w1 ⟨rfl, rfl⟩
    go_wp2
    go_ret
    exact ⟨rfl, Grew.refl _⟩
  have hd : decide ((1048576 : Int) < (n : Int)) = false := by simp [hbig]
  have hcd : Cd w v := ⟨n, xs, hr, by omega⟩
  have G0 := Grew.refl w
  go_enter Tryz.func4, Tryz.ntmps4
  go_wp2_with fail
  refine (big v n _ _ hr hn).mono ?_
  rintro e w1 ⟨rfl, rfl⟩
  go_wp2_with fail
  refine (drawStrata v _ hcd).mono ?_
  rintro e w1 ⟨u0, rfl, d, hok, hgl, g1⟩
  have G1 := G0.trans g1
  have hz1 := ds_sz hok
  have S_d := Lib.hid (dr_small hok)
  have D_d := Lib.hid hok
  have n_d := hok.1
  have R_d := Lib.hid (hgl.rd)
  obtain ⟨a_d, c_d, rfl⟩ := hgl.slice
  clear hgl hok
  have hz : szAll Dr.sz d ≤ 4000000 := by omega
  have LI := stI_le d
  obtain ⟨ok, hok⟩ : ∃ b, stB d = b := ⟨_, rfl⟩
  have HOK := Lib.hid hok
  clear hok
  go_wp2_with fail
  refine (implStrataI _ d _ R_d.out (by omega) hz).mono ?_
  rintro e w2 ⟨v_lv, rfl, o_lv, g2⟩
  have G2 := G1.trans g2
  have R_lv := Lib.hid (rd_of_own o_lv)
  obtain ⟨a_lv, c_lv, rfl⟩ := own_slice o_lv
  clear o_lv
  rw [HOK.out]
  go_wp2_with fail
  refine (specStrataI _ d _ (RdDs.grew R_d.out (g2)) (by omega) hz).mono ?_
  rintro e w3 ⟨v_w2, rfl, o_w2, g3⟩
  have G3 := G2.trans g3
  have R_w2 := Lib.hid (rd_of_own o_w2)
  obtain ⟨a_w2, c_w2, rfl⟩ := own_slice o_w2
  clear o_w2
  rw [HOK.out]
  have LU := nif_le (unsP d) d
  have LR := nif_le (recP d) d
  go_wp2_with fail
  refine (implUnstratifiedDirs _ d _ (RdDs.grew R_d.out ((g2.trans g3))) (by omega) S_d.out hz).mono ?_
  rintro e w4 ⟨v_bad, rfl, o_bad, g4⟩
  have G4 := G3.trans g4
  have R_bad := Lib.hid (rd_of_own o_bad)
  obtain ⟨a_bad, c_bad, rfl⟩ := own_slice o_bad
  clear o_bad
  go_wp2_with fail
  refine (drawStratumOf v _ (hcd.grew (((g1.trans g2).trans g3).trans g4))).mono ?_
  rintro e w5 ⟨u1, nm, rfl, hnm, ee, hoe, hge, g5⟩
  have G5 := G4.trans g5
  have hz2 := ds_sz hoe
  have S_e := Lib.hid (dr_small hoe)
  have D_e := Lib.hid hoe
  have n_e := hoe.1
  have R_e := Lib.hid (hge.rd)
  obtain ⟨a_e, c_e, rfl⟩ := hge.slice
  clear hge hoe
  have hze : szAll Dr.sz ee ≤ 4000000 := by omega
  have hs_lv := sameB_yes (rfl : (stI d) = stI d)
  go_wp2_with fail
  refine (sameInts _ _ _ _ _ _ _ (R_lv.out.grew ((g3.trans g4).trans g5)) (R_w2.out.grew (g4.trans g5)) (by omega) (by omega)).mono ?_
  rintro e w6 ⟨he, g6⟩
  have G6 := G5.trans g6
  rw [hs_lv] at he
  subst he
  go_wp2_with fail
  refine (specUnstratifiedDirs _ d _ (RdDs.grew R_d.out (((((g2.trans g3).trans g4).trans g5).trans g6))) (by omega) S_d.out hz).mono ?_
  rintro e w7 ⟨v_bad2, rfl, o_bad2, g7⟩
  have G7 := G6.trans g7
  have R_bad2 := Lib.hid (rd_of_own o_bad2)
  obtain ⟨a_bad2, c_bad2, rfl⟩ := own_slice o_bad2
  clear o_bad2
  have hs_bad := sameB_yes (rfl : (namesIf (unsP d) d) = namesIf (unsP d) d)
  go_wp2_with fail
  refine (sameTexts _ _ _ _ _ _ _ (R_bad.out.grew ((g5.trans g6).trans g7)) R_bad2.out (by omega) (by omega)).mono ?_
  rintro e w8 ⟨he, g8⟩
  have G8 := G7.trans g8
  rw [hs_bad] at he
  subst he
  go_wp2_with fail
  refine (implRecursiveDirs _ d _ (RdDs.grew R_d.out (((((((g2.trans g3).trans g4).trans g5).trans g6).trans g7).trans g8))) (by omega) S_d.out).mono ?_
  rintro e w9 ⟨v_rc, rfl, o_rc, g9⟩
  have G9 := G8.trans g9
  have R_rc := Lib.hid (rd_of_own o_rc)
  obtain ⟨a_rc, c_rc, rfl⟩ := own_slice o_rc
  clear o_rc
  go_wp2_with fail
  refine (specRecursiveDirs _ d _ (RdDs.grew R_d.out ((((((((g2.trans g3).trans g4).trans g5).trans g6).trans g7).trans g8).trans g9))) (by omega) S_d.out).mono ?_
  rintro e w10 ⟨v_rc2, rfl, o_rc2, g10⟩
  have G10 := G9.trans g10
  have R_rc2 := Lib.hid (rd_of_own o_rc2)
  obtain ⟨a_rc2, c_rc2, rfl⟩ := own_slice o_rc2
  clear o_rc2
  have hs_rc := sameB_yes (rfl : (namesIf (recP d) d) = namesIf (recP d) d)
  go_wp2_with fail
  refine (sameTexts _ _ _ _ _ _ _ (R_rc.out.grew g10) R_rc2.out (by omega) (by omega)).mono ?_
  rintro e w11 ⟨he, g11⟩
  have G11 := G10.trans g11
  rw [hs_rc] at he
  subst he
  go_wp2_with fail
  refine (implStratumOf _ ee nm _ (RdDs.grew R_e.out ((((((g6.trans g7).trans g8).trans g9).trans g10).trans g11))) (by omega) hze).mono ?_
  rintro e w12 ⟨rfl, g12⟩
  have G12 := G11.trans g12
  go_wp2_with fail
  refine (specStratumOf _ ee nm _ (RdDs.grew R_e.out (((((((g6.trans g7).trans g8).trans g9).trans g10).trans g11).trans g12))) (by omega) hze).mono ?_
  rintro e w13 ⟨rfl, g13⟩
  have G13 := G12.trans g13
  go_wp2_with fail
  refine (implMaxStratum _ d _ (RdDs.grew R_d.out ((((((((((((g2.trans g3).trans g4).trans g5).trans g6).trans g7).trans g8).trans g9).trans g10).trans g11).trans g12).trans g13))) (by omega) hz).mono ?_
  rintro e w14 ⟨rfl, g14⟩
  have G14 := G13.trans g14
  go_wp2_with fail
  refine (specMaxStratum _ d _ (RdDs.grew R_d.out (((((((((((((g2.trans g3).trans g4).trans g5).trans g6).trans g7).trans g8).trans g9).trans g10).trans g11).trans g12).trans g13).trans g14))) (by omega) hz).mono ?_
  rintro e w15 ⟨rfl, g15⟩
  have G15 := G14.trans g15
  go_wp2_with fail
  refine (implIsStratified _ d _ (RdDs.grew R_d.out ((((((((((((((g2.trans g3).trans g4).trans g5).trans g6).trans g7).trans g8).trans g9).trans g10).trans g11).trans g12).trans g13).trans g14).trans g15))) (by omega) hz).mono ?_
  rintro e w16 ⟨he, g16⟩
  have G16 := G15.trans g16
  rw [HOK.out] at he
  subst he
  obtain ⟨dv, hdv⟩ : ∃ b, dirsB d = b := ⟨_, rfl⟩
  have HDV := Lib.hid hdv
  clear hdv
  go_wp2_with fail
  refine (specIsValidDirs _ d _ (RdDs.grew R_d.out (((((((((((((((g2.trans g3).trans g4).trans g5).trans g6).trans g7).trans g8).trans g9).trans g10).trans g11).trans g12).trans g13).trans g14).trans g15).trans g16))) (by omega) hz).mono ?_
  rintro e w17 ⟨he, g17⟩
  have G17 := G16.trans g17
  rw [HDV.out] at he
  subst he
  have RD := Lib.hid (RdDs.grew R_d.out ((((((((((((((((g2.trans g3).trans g4).trans g5).trans g6).trans g7).trans g8).trans g9).trans g10).trans g11).trans g12).trans g13).trans g14).trans g15).trans g16).trans g17)))
  have RL := Lib.hid (R_lv.out.grew ((((((((((((((g3.trans g4).trans g5).trans g6).trans g7).trans g8).trans g9).trans g10).trans g11).trans g12).trans g13).trans g14).trans g15).trans g16).trans g17))
  have SZ := Lib.hid (fun x (hx : x ∈ d) => And.intro (q_sz (D_d.out.2 x hx).2) (D_d.out.2 x hx).2.1)
  cases dv
  · obtain rfl : ok = false := by rw [← HOK.out]; exact stB_dirs HDV.out
    go_wp2
    go_ret
    exact ⟨rfl, G17⟩
  obtain ⟨nb, hnb⟩ : ∃ n, (namesIf (unsP d) d).length = n := ⟨_, rfl⟩
  have HIF := st_iff HDV.out
  rw [HOK.out, hnb] at HIF
  have hio : (ok == ((nb : Int) == 0)) = true := by
    rw [HIF]; cases nb with
    | zero => rfl
    | succ m => simp; omega
  have HIO := Lib.hid hio
  clear hio HIF
  obtain ⟨qs, ⟨_, _, h1, _, hra⟩, hall⟩ := RD.out
  cases h1
  have HA := Lib.hid hall
  clear hall R_bad R_bad2 R_rc R_rc2 R_w2 R_lv R_d R_e
  have hdl : d.length ≤ 6 := n_d
  generalize hn : d.length = n at hra hdl
  have HN := Lib.hid hn
  clear hn
  have RDN := Lib.hid (show RdDs w17 (.slice a_d n c_d) d by have h := RD.out; rw [HN.out] at h; exact h)
  have hfin : ∀ (W : World), Grew w17 W → Ending.returned (.bool (ok == ((nb : Int) == 0))) = .returned (.bool true) ∧ Grew w W := fun W hW => ⟨ret_bool HIO.out, G17.trans hW⟩
  have HFIN := Lib.hid hfin
  clear hfin
  clear G0 G1 G2 G3 G4 G5 G6 G7 G8 G9 G10 G11 G12 G13 G14 G15 G16 G17 g1 g2 g3 g4 g5 g6 g7 g8 g9 g10 g11 g12 g13 g14 g15 g16 g17 hs_lv hs_bad hs_rc hz1 hz2 hze S_e D_e hcd hbig hr hn hd
  cases ok
  · go_wp2
    go_loopw [11] (fun i wr => i = .int .i64 0 ∧ wr = w17) (fun i _ => 0)
    case atStart => exact ⟨rfl, rfl⟩
    case round =>
      obtain ⟨rfl, rfl⟩ := hrel
      go_wp2
      all_goals
        try rw [hnb]
        go_ret
        have h := HFIN.out _ (Grew.refl _)
        refine ⟨?_, h.2⟩
        have h2 := HIO.out
        exact ret_bool (by simpa using h2)
  obtain ⟨_, _, h1, _, hrl⟩ := RL.out
  cases h1
  have HSL := Lib.hid (show (stI d).length = n by unfold stI; rw [List.length_map, stL_len HOK.out]; exact HN.out)
  rw [HSL.out] at hrl
  have hsn := HSL.out
  go_wp2
  go_loopw [11] (fun i wr => ∃ k : Nat, k ≤ n ∧ i = .int .i64 k ∧ Grew w17 wr) (fun i _ => n - (intOf i).toNat)
  case atStart => exact ⟨0, Nat.zero_le _, rfl, Grew.refl _⟩
  case round =>
    obtain ⟨k, hk, rfl, hbel⟩ := hrel
    by_cases hlt : k < n
    · obtain ⟨b0, o0, p, rfl, hpk, c0, c1⟩ := (hra.grew hbel).getP2 hlt
      obtain ⟨x, hxk, hxr⟩ := HA.out.get hpk.out
      obtain ⟨b3, o3, y, rfl, hyk, e3⟩ := hrl.one hlt
      have e3 := grew_cell hbel e3
      have HY := Lib.hid (stI_at hyk.out)
      have hsz := SZ.out x (List.mem_of_getElem? hxk.out)
      obtain ⟨hq1, hq2⟩ := hsz
      have HP := Lib.hid (fun s (hs : s ∈ depsL x.query false) => str_pos HOK.out hxk.out hs)
      have HM := Lib.hid (fun s (hs : s ∈ depsL x.query true) => str_neg HOK.out hxk.out hs)
      obtain ⟨pn, pq⟩ := p
      obtain ⟨hxn, hxq⟩ := hxr
      simp only at hxn hxq c0 c1
      subst hxn
      have HQ := Lib.hid (hxq.grew hbel)
      obtain ⟨pa, pc, rfl, hpc, hpr⟩ := hxq
      clear hpr
      have hk0 : (0 : Int) ≤ k := by omega
      have hkm : (k : Int) < n := by omega
      have lpos := depsL_le x.query false
      have lneg := depsL_le x.query true
      go_wp2_with fail
      refine (specPositiveDeps _ x.query.length x.query _ HQ.out (by omega) (by omega)).mono ?_
      rintro e wm ⟨v3, rfl, o3r, gm⟩
      have hbm := hbel.trans gm
      have R3 := Lib.hid (rd_of_own o3r)
      obtain ⟨a3, c3, rfl⟩ := own_slice o3r
      clear o3r
      obtain ⟨_, _, h1, _, hrm⟩ := R3.out
      cases h1
      generalize hmd : (depsL x.query false).length = md at hrm lpos
      have HMD := Lib.hid hmd
      clear hmd
      have d0 := grew_cell gm c0
      have d1 := grew_cell gm c1
      have d3 := grew_cell gm e3
      go_wp2
      go_loopw [13] (fun i wr => ∃ j : Nat, j ≤ md ∧ i = .int .i64 j ∧ Grew wm wr) (fun i _ => md - (intOf i).toNat)
      case atStart => exact ⟨0, Nat.zero_le _, rfl, Grew.refl _⟩
      case round =>
        obtain ⟨j, hj, rfl, hbj⟩ := hrel
        by_cases hjt : j < md
        · obtain ⟨b1, o1, s, rfl, hsk, e1⟩ := hrm.one hjt
          have hs := HP.out s (List.mem_of_getElem? hsk.out)
          rw [← HY.out] at hs
          have hj0 : (0 : Int) ≤ j := by omega
          have hjm : (j : Int) < md := by omega
          have hgt : decide (y < strOf d s) = false := by simp; exact hs
          have HGT := Lib.hid hgt
          clear hs hgt
          have f1 := grew_cell hbj e1
          have f3 := grew_cell hbj d3
          have hW0 := Grew.refl wr
          generalize hso : strOf d s = so at HGT
          have HSO := Lib.hid hso
          clear hso
          go_wp2_with fail
          refine wp_region_noPanic ?_
          refine wp_region_held_drew (S := (fun w' => (w'.cell? ⟨b1, o1 + j, none⟩ = some (.string s) ∧ w'.cell? ⟨b3, o3 + k, none⟩ = some (.int .i64 y) ∧ Grew wr w'))) (by kernel_rfl) ?h1_S ?h1_r
          case h1_S => exact ⟨f1, f3, hW0.drew⟩
          case h1_r =>
            intro HS
            first
              | refine sk 0 rfl (by kernel_rfl) rfl HS ?_
              | (refine tk (v := ?v1_0) 0 rfl (by kernel_rfl) rfl ?y1_0 HS ?_; case y1_0 => (intro w' hSw; (try dsimp only at hSw); go_simp <;> (with_reducible rfl)))
            try simp only [Act.put, List.setIfInBounds_toArray, List.set_cons_zero, List.set_cons_succ]
            first
              | refine sk 1 rfl (by kernel_rfl) rfl HS ?_
              | (refine tk (v := ?v1_1) 1 rfl (by kernel_rfl) rfl ?y1_1 HS ?_; case y1_1 => (intro w' hSw; (try dsimp only at hSw); go_simp <;> (with_reducible rfl)))
            try simp only [Act.put, List.setIfInBounds_toArray, List.set_cons_zero, List.set_cons_succ]
            first
              | refine sk 2 rfl (by kernel_rfl) rfl HS ?_
              | (refine tk (v := ?v1_2) 2 rfl (by kernel_rfl) rfl ?y1_2 HS ?_; case y1_2 => (intro w' hSw; (try dsimp only at hSw); go_simp <;> (with_reducible rfl)))
            try simp only [Act.put, List.setIfInBounds_toArray, List.set_cons_zero, List.set_cons_succ]
            first
              | refine sk 3 rfl (by kernel_rfl) rfl HS ?_
              | (refine tk (v := ?v1_3) 3 rfl (by kernel_rfl) rfl ?y1_3 HS ?_; case y1_3 => (intro w' hSw; (try dsimp only at hSw); go_simp <;> (with_reducible rfl)))
            try simp only [Act.put, List.setIfInBounds_toArray, List.set_cons_zero, List.set_cons_succ]
            first
              | refine sk 4 rfl (by kernel_rfl) rfl HS ?_
              | (refine tk (v := ?v1_4) 4 rfl (by kernel_rfl) rfl ?y1_4 HS ?_; case y1_4 => (intro w' hSw; (try dsimp only at hSw); go_simp <;> (with_reducible rfl)))
            try simp only [Act.put, List.setIfInBounds_toArray, List.set_cons_zero, List.set_cons_succ]
            first
              | refine sk 6 rfl (by kernel_rfl) rfl HS ?_
              | (refine tk (v := ?v1_6) 6 rfl (by kernel_rfl) rfl ?y1_6 HS ?_; case y1_6 => (intro w' hSw; (try dsimp only at hSw); go_simp <;> (with_reducible rfl)))
            try simp only [Act.put, List.setIfInBounds_toArray, List.set_cons_zero, List.set_cons_succ]
            first
              | refine sk 7 rfl (by kernel_rfl) rfl HS ?_
              | (refine tk (v := ?v1_7) 7 rfl (by kernel_rfl) rfl ?y1_7 HS ?_; case y1_7 => (intro w' hSw; (try dsimp only at hSw); go_simp <;> (with_reducible rfl)))
            try simp only [Act.put, List.setIfInBounds_toArray, List.set_cons_zero, List.set_cons_succ]
            first
              | refine sk 8 rfl (by kernel_rfl) rfl HS ?_
              | (refine tk (v := ?v1_8) 8 rfl (by kernel_rfl) rfl ?y1_8 HS ?_; case y1_8 => (intro w' hSw; (try dsimp only at hSw); go_simp <;> (with_reducible rfl)))
            try simp only [Act.put, List.setIfInBounds_toArray, List.set_cons_zero, List.set_cons_succ]
            first
              | refine sk 9 rfl (by kernel_rfl) rfl HS ?_
              | (refine tk (v := ?v1_9) 9 rfl (by kernel_rfl) rfl ?y1_9 HS ?_; case y1_9 => (intro w' hSw; (try dsimp only at hSw); go_simp <;> (with_reducible rfl)))
            try simp only [Act.put, List.setIfInBounds_toArray, List.set_cons_zero, List.set_cons_succ]
            refine cl 5 rfl (by kernel_rfl) (fun K hK => ?_)
            rw [if_pos (by rfl)]
            go_simp
            go_at_call 26
            refine (implStratumOf _ d s _ (RdDs.grew RDN.out ((hbm.trans hbj).trans HS.2.2)) (by have := HN.out; omega) hz).mono ?_
            rintro e wx ⟨he, hb⟩
            rw [HSO.out] at he
            subst he
            refine hK.out _ _ ?s1_5 ?r1_5
            case s1_5 => exact ⟨grew_cell hb HS.1, grew_cell hb HS.2.1, HS.2.2.trans hb⟩
            case r1_5 =>
              clear HS
              intro HS
              clear hK K
              try simp only [Act.put, List.setIfInBounds_toArray, List.set_cons_zero, List.set_cons_succ]
              first
                | refine sk 10 rfl (by kernel_rfl) rfl HS ?_
                | (refine tk (v := ?v1_10) 10 rfl (by kernel_rfl) rfl ?y1_10 HS ?_; case y1_10 => (intro w' hSw; (try dsimp only at hSw); go_simp <;> (with_reducible rfl)))
              try simp only [Act.put, List.setIfInBounds_toArray, List.set_cons_zero, List.set_cons_succ]
              refine wpAnyH_done (by kernel_rfl) ?_ _
              refine NoPanic.normal ?_
              have GR := HS.2.2
              clear HS
              try rw [HGT.out]
              go_wp2
              go_roundw
              case rel => exact ⟨j + 1, by omega, by go_num, hbj.trans GR⟩
              case measure => simp [intOf]; omega
        · obtain rfl : j = md := by omega
          have f0 := grew_cell hbj d0
          have f1 := grew_cell hbj d1
          have f3 := grew_cell hbj d3
          go_wp2_with fail
          refine (specNegativeDeps _ x.query.length x.query _ (HQ.out.grew (gm.trans hbj)) (by omega) (by omega)).mono ?_
          rintro e wn ⟨v4, rfl, o4r, gn⟩
          have hbn := (hbm.trans hbj).trans gn
          have R4 := Lib.hid (rd_of_own o4r)
          obtain ⟨a4, c4, rfl⟩ := own_slice o4r
          clear o4r
          obtain ⟨_, _, h1, _, hrn⟩ := R4.out
          cases h1
          generalize hme : (depsL x.query true).length = me at hrn lneg
          have HME := Lib.hid hme
          clear hme
          have k3 := grew_cell gn f3
          clear f0 f1 d0 d1 c0 c1
          go_wp2
          go_loopw [15] (fun i wr => ∃ j : Nat, j ≤ me ∧ i = .int .i64 j ∧ Grew wn wr) (fun i _ => me - (intOf i).toNat)
          case atStart => exact ⟨0, Nat.zero_le _, rfl, Grew.refl _⟩
          case round =>
            obtain ⟨j2, hj2, rfl, hbj2⟩ := hrel
            by_cases hjt2 : j2 < me
            · obtain ⟨b1, o1, s, rfl, hsk, e1⟩ := hrn.one hjt2
              have hs := HM.out s (List.mem_of_getElem? hsk.out)
              rw [← HY.out] at hs
              have hj0 : (0 : Int) ≤ j2 := by omega
              have hjm : (j2 : Int) < me := by omega
              have hgt : decide (y ≤ strOf d s) = false := by simp; exact hs
              have HGT := Lib.hid hgt
              clear hs hgt
              have f1 := grew_cell hbj2 e1
              have f3 := grew_cell hbj2 k3
              have hW0 := Grew.refl wr
              generalize hso : strOf d s = so at HGT
              have HSO := Lib.hid hso
              clear hso
              go_wp2_with fail
              refine wp_region_noPanic ?_
              refine wp_region_held_drew (S := (fun w' => (w'.cell? ⟨b1, o1 + j2, none⟩ = some (.string s) ∧ w'.cell? ⟨b3, o3 + k, none⟩ = some (.int .i64 y) ∧ Grew wr w'))) (by kernel_rfl) ?h2_S ?h2_r
              case h2_S => exact ⟨f1, f3, hW0.drew⟩
              case h2_r =>
                intro HS
                first
                  | refine sk 0 rfl (by kernel_rfl) rfl HS ?_
                  | (refine tk (v := ?v2_0) 0 rfl (by kernel_rfl) rfl ?y2_0 HS ?_; case y2_0 => (intro w' hSw; (try dsimp only at hSw); go_simp <;> (with_reducible rfl)))
                try simp only [Act.put, List.setIfInBounds_toArray, List.set_cons_zero, List.set_cons_succ]
                first
                  | refine sk 1 rfl (by kernel_rfl) rfl HS ?_
                  | (refine tk (v := ?v2_1) 1 rfl (by kernel_rfl) rfl ?y2_1 HS ?_; case y2_1 => (intro w' hSw; (try dsimp only at hSw); go_simp <;> (with_reducible rfl)))
                try simp only [Act.put, List.setIfInBounds_toArray, List.set_cons_zero, List.set_cons_succ]
                first
                  | refine sk 2 rfl (by kernel_rfl) rfl HS ?_
                  | (refine tk (v := ?v2_2) 2 rfl (by kernel_rfl) rfl ?y2_2 HS ?_; case y2_2 => (intro w' hSw; (try dsimp only at hSw); go_simp <;> (with_reducible rfl)))
                try simp only [Act.put, List.setIfInBounds_toArray, List.set_cons_zero, List.set_cons_succ]
                first
                  | refine sk 3 rfl (by kernel_rfl) rfl HS ?_
                  | (refine tk (v := ?v2_3) 3 rfl (by kernel_rfl) rfl ?y2_3 HS ?_; case y2_3 => (intro w' hSw; (try dsimp only at hSw); go_simp <;> (with_reducible rfl)))
                try simp only [Act.put, List.setIfInBounds_toArray, List.set_cons_zero, List.set_cons_succ]
                first
                  | refine sk 4 rfl (by kernel_rfl) rfl HS ?_
                  | (refine tk (v := ?v2_4) 4 rfl (by kernel_rfl) rfl ?y2_4 HS ?_; case y2_4 => (intro w' hSw; (try dsimp only at hSw); go_simp <;> (with_reducible rfl)))
                try simp only [Act.put, List.setIfInBounds_toArray, List.set_cons_zero, List.set_cons_succ]
                first
                  | refine sk 6 rfl (by kernel_rfl) rfl HS ?_
                  | (refine tk (v := ?v2_6) 6 rfl (by kernel_rfl) rfl ?y2_6 HS ?_; case y2_6 => (intro w' hSw; (try dsimp only at hSw); go_simp <;> (with_reducible rfl)))
                try simp only [Act.put, List.setIfInBounds_toArray, List.set_cons_zero, List.set_cons_succ]
                first
                  | refine sk 7 rfl (by kernel_rfl) rfl HS ?_
                  | (refine tk (v := ?v2_7) 7 rfl (by kernel_rfl) rfl ?y2_7 HS ?_; case y2_7 => (intro w' hSw; (try dsimp only at hSw); go_simp <;> (with_reducible rfl)))
                try simp only [Act.put, List.setIfInBounds_toArray, List.set_cons_zero, List.set_cons_succ]
                first
                  | refine sk 8 rfl (by kernel_rfl) rfl HS ?_
                  | (refine tk (v := ?v2_8) 8 rfl (by kernel_rfl) rfl ?y2_8 HS ?_; case y2_8 => (intro w' hSw; (try dsimp only at hSw); go_simp <;> (with_reducible rfl)))
                try simp only [Act.put, List.setIfInBounds_toArray, List.set_cons_zero, List.set_cons_succ]
                first
                  | refine sk 9 rfl (by kernel_rfl) rfl HS ?_
                  | (refine tk (v := ?v2_9) 9 rfl (by kernel_rfl) rfl ?y2_9 HS ?_; case y2_9 => (intro w' hSw; (try dsimp only at hSw); go_simp <;> (with_reducible rfl)))
                try simp only [Act.put, List.setIfInBounds_toArray, List.set_cons_zero, List.set_cons_succ]
                refine cl 5 rfl (by kernel_rfl) (fun K hK => ?_)
                rw [if_pos (by rfl)]
                go_simp
                go_at_call 26
                refine (implStratumOf _ d s _ (RdDs.grew RDN.out ((hbn.trans hbj2).trans HS.2.2)) (by have := HN.out; omega) hz).mono ?_
                rintro e wx ⟨he, hb⟩
                rw [HSO.out] at he
                subst he
                refine hK.out _ _ ?s2_5 ?r2_5
                case s2_5 => exact ⟨grew_cell hb HS.1, grew_cell hb HS.2.1, HS.2.2.trans hb⟩
                case r2_5 =>
                  clear HS
                  intro HS
                  clear hK K
                  try simp only [Act.put, List.setIfInBounds_toArray, List.set_cons_zero, List.set_cons_succ]
                  first
                    | refine sk 10 rfl (by kernel_rfl) rfl HS ?_
                    | (refine tk (v := ?v2_10) 10 rfl (by kernel_rfl) rfl ?y2_10 HS ?_; case y2_10 => (intro w' hSw; (try dsimp only at hSw); go_simp <;> (with_reducible rfl)))
                  try simp only [Act.put, List.setIfInBounds_toArray, List.set_cons_zero, List.set_cons_succ]
                  refine wpAnyH_done (by kernel_rfl) ?_ _
                  refine NoPanic.normal ?_
                  have GR := HS.2.2
                  clear HS
                  try rw [HGT.out]
                  go_wp2
                  go_roundw
                  case rel => exact ⟨j2 + 1, by omega, by go_num, hbj2.trans GR⟩
                  case measure => simp [intOf]; omega
            · obtain rfl : j2 = me := by omega
              go_wp2
              go_roundw
              case rel => exact ⟨k + 1, by omega, by go_num, hbn.trans hbj2⟩
              case measure => simp [intOf]; omega
    · obtain rfl : k = n := by omega
      go_wp2
      try rw [hnb]
      go_ret
      have h := HFIN.out _ hbel
      refine ⟨?_, h.2⟩
      have h2 := HIO.out
      first | exact ret_bool (by simpa using h2) | (simpa using h2)
end Go.Proofs.YtgekgokkbakcmaaGreat.fnStrata
