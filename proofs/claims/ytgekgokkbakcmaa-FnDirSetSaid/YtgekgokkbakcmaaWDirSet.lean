/- The walk of laws.FnDirSet. -/
import Derived.Test.YtgekgokkbakcmaaW0
import Derived.Test.YtgekgokkbakcmaaZ11
import Derived.Test.YtgekgokkbakcmaaY14
import Derived.Test.YtgekgokkbakcmaaX6
import Derived.Test.YtgekgokkbakcmaaN1
import Derived.Test.YtgekgokkbakcmaaN2
import Derived.Test.YtgekgokkbakcmaaN5
import Derived.Test.YtgekgokkbakcmaaE2
import Derived.Test.YtgekgokkbakcmaaG
namespace Go.Proofs.Ytgekgokkbakcmaa.fnDirSet
open Go.RowKit
set_option linter.unusedVariables false
theorem q_sz {n : Nat} : ∀ {xs : List N}, qOk n xs → szAll N.sz xs ≤ xs.length * 16
  | [], _ => by simp [szAll]
  | x :: xs, h => by
    have h1 := q_sz (n := n) (xs := xs) ⟨by have := h.1; simp at this; omega, fun y hy => h.2 y (List.mem_cons_of_mem _ hy)⟩
    have h2 := h.2 x (List.mem_cons_self ..)
    unfold N.okD at h2
    have h3 : N.sz x ≤ 16 := by unfold N.sz V.sz; omega
    simp only [szAll, List.map_cons, List.sum_cons, List.length_cons] at h1 ⊢
    omega

theorem dr_szD {x : Dr} (h : x.name.size ≤ 8 ∧ qOk 8 x.query) : Dr.sz x ≤ 144 := by
  have h1 := q_sz h.2
  have h2 := h.2.1
  unfold Dr.sz; omega
theorem ds_sz {n : Nat} : ∀ {xs : List Dr}, dirsOk n xs → szAll Dr.sz xs ≤ xs.length * 144
  | [], _ => by simp [szAll]
  | x :: xs, h => by
    have h1 := ds_sz (n := n) (xs := xs) ⟨by have := h.1; simp at this; omega, fun y hy => h.2 y (List.mem_cons_of_mem _ hy)⟩
    have h2 := dr_szD (h.2 x (List.mem_cons_self ..))
    simp only [szAll, List.map_cons, List.sum_cons, List.length_cons] at h1 ⊢
    omega
theorem setS_sm {xs : List Dr} {d : Dr} (h : ∀ x, x ∈ xs → x.small) (hd : d.small) : ∀ x, x ∈ setD xs d → x.small := fun x hx => (setD_mem hx).elim (fun e => e ▸ hd) (h x)
theorem nq_small {nm : ByteArray} {q : List N} (h : qOk 8 q) : Dr.small ⟨nm, q⟩ := by have := h.1; unfold Dr.small; dsimp only; omega
set_option maxRecDepth 100000 in
set_option maxHeartbeats 16000000 in
theorem walkLaw (w : World) (v : Value) (n : Nat) (xs : List Int) (hr : Rd w v 1 n (xs.map (Value.int .u8))) (hn : n ≤ maxLen) (ho : ∀ a : Int, a ∈ xs → 0 ≤ a ∧ a ≤ 255) :
    Calls Try.prog 8 #[v] w fun e w' => e = .returned (.bool true) ∧ Grew w w' := by
  clear ho
  by_cases hbig : (1048576 : Int) < (n : Int)
  · have hd : decide ((1048576 : Int) < (n : Int)) = true := by simp [hbig]
    go_enter Try.func8, Try.ntmps8
    go_wp2_with fail
    refine (big v n _ _ hr hn).mono ?_
    rintro e w1 ⟨rfl, rfl⟩
    go_wp2
    go_ret
    exact ⟨rfl, Grew.refl _⟩
  have hd : decide ((1048576 : Int) < (n : Int)) = false := by simp [hbig]
  have hcd : Cd w v := ⟨n, xs, hr, by omega⟩
  have G0 := Grew.refl w
  go_enter Try.func8, Try.ntmps8
  go_wp2_with fail
  refine (big v n _ _ hr hn).mono ?_
  rintro e w1 ⟨rfl, rfl⟩
  go_wp2_with fail
  refine (drawSetDir v _ hcd).mono ?_
  rintro e w1 ⟨u0, nm, q0, rfl, hnm, ⟨qy, hqy, rq⟩, d, hok, rd1, ⟨a_d, c_d, rfl⟩, g1⟩
  have G1 := G0.trans g1
  have hz1 := ds_sz hok
  have S_d := Lib.hid (dr_small hok)
  have n_d := hok.1
  have R_d := Lib.hid rd1
  clear hok rd1
  have hz : szAll Dr.sz d ≤ 2000000 := by omega
  have hz4 : szAll Dr.sz d ≤ 4000000 := by omega
  obtain ⟨a_x, c_x, rfl, hcx, hrx⟩ := rq
  have R_x := Lib.hid (show Dr.R w1 ⟨nm, qy⟩ ⟨nm, .slice a_x qy.length c_x⟩ from ⟨rfl, a_x, c_x, rfl, hcx, hrx⟩)
  clear hcx hrx
  have S_x := Lib.hid (nq_small (nm := nm) hqy)
  have hxz : Dr.sz ⟨nm, qy⟩ ≤ 2000000 := by have := dr_szD (x := ⟨nm, qy⟩) ⟨hnm, hqy⟩; omega
  clear hqy
  have YL := setD_len d ⟨nm, qy⟩
  have YZ := setD_sz d ⟨nm, qy⟩
  have SY := Lib.hid (setS_sm S_d.out S_x.out)
  obtain ⟨ok, hok⟩ : ∃ b, setOk d ⟨nm, qy⟩ = b := ⟨_, rfl⟩
  have HOK := Lib.hid hok
  clear hok
  have g2 := (Grew.refl w1).alloc (.cells #[.string nm, .slice a_x qy.length c_x] 49)
  have b0 : (w1.alloc (.cells #[.string nm, .slice a_x qy.length c_x] 49)).cell? ⟨w1.heap.size, 0, none⟩ = some (.string nm) := by simp
  have b1 : (w1.alloc (.cells #[.string nm, .slice a_x qy.length c_x] 49)).cell? ⟨w1.heap.size, 1, none⟩ = some (.slice a_x qy.length c_x) := by simp
  go_wp2_with fail
  generalize w1.alloc (.cells #[.string nm, .slice a_x qy.length c_x] 49) = w2 at g2 b0 b1 ⊢
  have G2 := G1.trans g2
  refine (implSetDir _ d ⟨nm, qy⟩ ⟨nm, .slice a_x qy.length c_x⟩ _ (RdDs.grew R_d.out (g2)) (Dr.R.grew R_x.out (g2)) (by omega) S_d.out S_x.out hz hxz).mono ?_
  rintro e w3 ⟨v_y, rfl, hG, g3⟩
  have G3 := G2.trans g3
  replace b0 := grew_cell g3 b0
  replace b1 := grew_cell g3 b1
  have R_y := Lib.hid hG.own.rd
  obtain ⟨a_y, c_y, rfl⟩ : ∃ a c, v_y = .slice a ((setD d ⟨nm, qy⟩)).length c := by obtain ⟨ps, h1, _⟩ := hG; exact own_slice h1
  clear hG
  rw [HOK.out]
  go_wp2_with fail
  refine (specSetDir _ d ⟨nm, qy⟩ ⟨nm, .slice a_x qy.length c_x⟩ _ (RdDs.grew R_d.out ((g2.trans g3))) (Dr.R.grew R_x.out ((g2.trans g3))) (by omega) S_d.out S_x.out hz hxz).mono ?_
  rintro e w4 ⟨v_yw, rfl, hG, g4⟩
  have G4 := G3.trans g4
  replace b0 := grew_cell g4 b0
  replace b1 := grew_cell g4 b1
  have R_yw := Lib.hid hG.own.rd
  obtain ⟨a_yw, c_yw, rfl⟩ : ∃ a c, v_yw = .slice a ((setD d ⟨nm, qy⟩)).length c := by obtain ⟨ps, h1, _⟩ := hG; exact own_slice h1
  clear hG
  rw [HOK.out]
  go_wp2_with fail
  refine (drawRemoveDir v _ (hcd.grew (((g1.trans g2).trans g3).trans g4))).mono ?_
  rintro e w5 ⟨u1, nm2, rfl, hnm2, ee, hoe, hge, g5⟩
  have G5 := G4.trans g5
  replace b0 := grew_cell g5 b0
  replace b1 := grew_cell g5 b1
  have hz2 := ds_sz hoe
  have S_e := Lib.hid (dr_small hoe)
  have D_e := Lib.hid hoe
  have n_e := hoe.1
  have R_e := Lib.hid (hge.rd)
  obtain ⟨a_e, c_e, rfl⟩ := hge.slice
  clear hge hoe
  have hze : szAll Dr.sz ee ≤ 4000000 := by omega
  have ZL := remD_len ee nm2
  have SZ := Lib.hid (fun x (hx : x ∈ remD ee nm2) => S_e.out x (remD_mem hx))
  obtain ⟨gone, hgone⟩ : ∃ b, remOk ee nm2 = b := ⟨_, rfl⟩
  have HGONE := Lib.hid hgone
  clear hgone
  go_wp2_with fail
  refine (implRemoveDir _ ee nm2 _ R_e.out (by omega) S_e.out hze).mono ?_
  rintro e w6 ⟨v_z, rfl, hG, g6⟩
  have G6 := G5.trans g6
  replace b0 := grew_cell g6 b0
  replace b1 := grew_cell g6 b1
  have R_z := Lib.hid hG.own.rd
  obtain ⟨a_z, c_z, rfl⟩ : ∃ a c, v_z = .slice a ((remD ee nm2)).length c := by obtain ⟨ps, h1, _⟩ := hG; exact own_slice h1
  clear hG
  rw [HGONE.out]
  go_wp2_with fail
  refine (specRemoveDir _ ee nm2 _ (RdDs.grew R_e.out (g6)) (by omega) S_e.out hze).mono ?_
  rintro e w7 ⟨v_zw, rfl, hG, g7⟩
  have G7 := G6.trans g7
  replace b0 := grew_cell g7 b0
  replace b1 := grew_cell g7 b1
  have R_zw := Lib.hid hG.own.rd
  obtain ⟨a_zw, c_zw, rfl⟩ : ∃ a c, v_zw = .slice a ((remD ee nm2)).length c := by obtain ⟨ps, h1, _⟩ := hG; exact own_slice h1
  clear hG
  rw [HGONE.out]
  go_wp2_with fail
  refine (drawEqualDirs v _ (hcd.grew ((((((g1.trans g2).trans g3).trans g4).trans g5).trans g6).trans g7))).mono ?_
  rintro e w8 ⟨u2, u3, rfl, xa, xb, hoa, hob, rda, rdb, ⟨a_a, c_a, rfl⟩, ⟨a_b, c_b, rfl⟩, g8⟩
  have G8 := G7.trans g8
  replace b0 := grew_cell g8 b0
  replace b1 := grew_cell g8 b1
  have R_a := Lib.hid rda
  have n_a := hoa.1
  have S_a := Lib.hid (dr_small hoa)
  have R_b := Lib.hid rdb
  have n_b := hob.1
  have S_b := Lib.hid (dr_small hob)
  clear rda rdb hoa hob
  have EY := sameDs_self (setD d ⟨nm, qy⟩)
  have EZ := sameDs_self (remD ee nm2)
  obtain ⟨eqd, heqd⟩ : ∃ b, eqL sameDr xa xb = b := ⟨_, rfl⟩
  have HEQ := Lib.hid heqd
  clear heqd
  go_wp2_with fail
  refine (sameDirs _ _ (setD d ⟨nm, qy⟩) (setD d ⟨nm, qy⟩) _ (RdDs.grew R_y.out (((((g4.trans g5).trans g6).trans g7).trans g8))) (RdDs.grew R_yw.out ((((g5.trans g6).trans g7).trans g8))) (by omega) (by omega) SY.out SY.out).mono ?_
  rintro e w9 ⟨he, g9⟩
  have G9 := G8.trans g9
  replace b0 := grew_cell g9 b0
  replace b1 := grew_cell g9 b1
  rw [EY] at he
  subst he
  go_wp2_with fail
  refine (sameDirs _ _ (remD ee nm2) (remD ee nm2) _ (RdDs.grew R_z.out (((g7.trans g8).trans g9))) (RdDs.grew R_zw.out ((g8.trans g9))) (by omega) (by omega) SZ.out SZ.out).mono ?_
  rintro e w10 ⟨he, g10⟩
  have G10 := G9.trans g10
  replace b0 := grew_cell g10 b0
  replace b1 := grew_cell g10 b1
  rw [EZ] at he
  subst he
  go_wp2_with fail
  refine (implEqualDirs _ _ xa xb _ (RdDs.grew R_a.out ((g9.trans g10))) (RdDs.grew R_b.out ((g9.trans g10))) (by omega) (by omega) S_a.out S_b.out).mono ?_
  rintro e w11 ⟨he, g11⟩
  have G11 := G10.trans g11
  replace b0 := grew_cell g11 b0
  replace b1 := grew_cell g11 b1
  rw [HEQ.out] at he
  subst he
  go_wp2_with fail
  refine (sameDirs _ _ xa xb _ (RdDs.grew R_a.out (((g9.trans g10).trans g11))) (RdDs.grew R_b.out (((g9.trans g10).trans g11))) (by omega) (by omega) S_a.out S_b.out).mono ?_
  rintro e w12 ⟨he, g12⟩
  have G12 := G11.trans g12
  replace b0 := grew_cell g12 b0
  replace b1 := grew_cell g12 b1
  rw [HEQ.out] at he
  subst he
  obtain ⟨nms, hnms⟩ : ∃ x, d.map Dr.name = x := ⟨_, rfl⟩
  have LN := Lib.hid (show nms.length = d.length by rw [← hnms, List.length_map])
  have HNM := Lib.hid hnms
  clear hnms
  go_wp2_with fail
  refine (implDirNames _ d _ (RdDs.grew R_d.out (((((((((((g2.trans g3).trans g4).trans g5).trans g6).trans g7).trans g8).trans g9).trans g10).trans g11).trans g12))) (by omega)).mono ?_
  rintro e w13 ⟨v_dn, rfl, o_dn, g13⟩
  have G13 := G12.trans g13
  replace b0 := grew_cell g13 b0
  replace b1 := grew_cell g13 b1
  rw [HNM.out] at o_dn
  have R_dn := Lib.hid (rd_of_own o_dn)
  obtain ⟨a_dn, c_dn, rfl⟩ := own_slice o_dn
  clear o_dn
  go_wp2_with fail
  refine (specDirNames _ d _ (RdDs.grew R_d.out ((((((((((((g2.trans g3).trans g4).trans g5).trans g6).trans g7).trans g8).trans g9).trans g10).trans g11).trans g12).trans g13))) (by omega)).mono ?_
  rintro e w14 ⟨v_dn2, rfl, o_dn2, g14⟩
  have G14 := G13.trans g14
  replace b0 := grew_cell g14 b0
  replace b1 := grew_cell g14 b1
  rw [HNM.out] at o_dn2
  have R_dn2 := Lib.hid (rd_of_own o_dn2)
  obtain ⟨a_dn2, c_dn2, rfl⟩ := own_slice o_dn2
  clear o_dn2
  have hs_dn := sameB_yes (rfl : nms = nms)
  go_wp2_with fail
  refine (sameTexts _ _ _ _ _ _ _ (R_dn.out.grew g14) R_dn2.out (by have := LN.out; omega) (by have := LN.out; omega)).mono ?_
  rintro e w15 ⟨he, g15⟩
  have G15 := G14.trans g15
  replace b0 := grew_cell g15 b0
  replace b1 := grew_cell g15 b1
  rw [hs_dn] at he
  subst he
  obtain ⟨dv, hdv⟩ : ∃ b, dirsB d = b := ⟨_, rfl⟩
  have HDV := Lib.hid hdv
  clear hdv
  go_wp2_with fail
  refine (implIsValidDirs _ d _ (RdDs.grew R_d.out ((((((((((((((g2.trans g3).trans g4).trans g5).trans g6).trans g7).trans g8).trans g9).trans g10).trans g11).trans g12).trans g13).trans g14).trans g15))) (by omega) hz4).mono ?_
  rintro e w16 ⟨he, g16⟩
  have G16 := G15.trans g16
  replace b0 := grew_cell g16 b0
  replace b1 := grew_cell g16 b1
  rw [HDV.out] at he
  subst he
  go_wp2_with fail
  refine (specIsValidDirs _ d _ (RdDs.grew R_d.out (((((((((((((((g2.trans g3).trans g4).trans g5).trans g6).trans g7).trans g8).trans g9).trans g10).trans g11).trans g12).trans g13).trans g14).trans g15).trans g16))) (by omega) hz4).mono ?_
  rintro e w17 ⟨he, g17⟩
  have G17 := G16.trans g17
  replace b0 := grew_cell g17 b0
  replace b1 := grew_cell g17 b1
  rw [HDV.out] at he
  subst he
  obtain ⟨fb, hfb⟩ : ∃ b, fdB (setD d ⟨nm, qy⟩) nm = b := ⟨_, rfl⟩
  have HFB := Lib.hid hfb
  clear hfb
  go_wp2_with fail
  refine (implFindDir _ (setD d ⟨nm, qy⟩) nm _ (RdDs.grew R_y.out ((((((((((((((g4.trans g5).trans g6).trans g7).trans g8).trans g9).trans g10).trans g11).trans g12).trans g13).trans g14).trans g15).trans g16).trans g17))) (by omega) SY.out).mono ?_
  rintro e w18 ⟨⟨pn, pq⟩, rfl, hO, g18⟩
  have G18 := G17.trans g18
  replace b0 := grew_cell g18 b0
  replace b1 := grew_cell g18 b1
  have R_p := Lib.hid hO.rd
  rw [HFB.out]
  obtain ⟨pa, pc, rfl⟩ := own_slice hO.2.1
  clear hO
  have g19 := (Grew.refl w18).alloc (.cells #[.string pn, .slice pa (fdD (setD d ⟨nm, qy⟩) nm).query.length pc] 49)
  have p0 : (w18.alloc (.cells #[.string pn, .slice pa (fdD (setD d ⟨nm, qy⟩) nm).query.length pc] 49)).cell? ⟨w18.heap.size, 0, none⟩ = some (.string pn) := by simp
  have p1 : (w18.alloc (.cells #[.string pn, .slice pa (fdD (setD d ⟨nm, qy⟩) nm).query.length pc] 49)).cell? ⟨w18.heap.size, 1, none⟩ = some (.slice pa (fdD (setD d ⟨nm, qy⟩) nm).query.length pc) := by simp
  go_wp2_with fail
  generalize w18.alloc (.cells #[.string pn, .slice pa (fdD (setD d ⟨nm, qy⟩) nm).query.length pc] 49) = w19 at g19 p0 p1 ⊢
  have G19 := G18.trans g19
  replace b0 := grew_cell g19 b0
  replace b1 := grew_cell g19 b1
  obtain ⟨lf, hlf⟩ : ∃ b, fdB (remD ee nm2) nm2 = b := ⟨_, rfl⟩
  have HLF := Lib.hid hlf
  clear hlf
  refine (implFindDir _ (remD ee nm2) nm2 _ (RdDs.grew R_z.out (((((((((((((g7.trans g8).trans g9).trans g10).trans g11).trans g12).trans g13).trans g14).trans g15).trans g16).trans g17).trans g18).trans g19))) (by omega) SZ.out).mono ?_
  rintro e w20 ⟨⟨rn, rq⟩, rfl, hO, g20⟩
  have G20 := G19.trans g20
  replace b0 := grew_cell g20 b0
  replace b1 := grew_cell g20 b1
  replace p0 := grew_cell g20 p0
  replace p1 := grew_cell g20 p1
  rw [HLF.out]
  obtain ⟨ra, rc, rfl⟩ := own_slice hO.2.1
  clear hO
  have RY := Lib.hid (RdDs.grew R_y.out (((((((((((((((((g4.trans g5).trans g6).trans g7).trans g8).trans g9).trans g10).trans g11).trans g12).trans g13).trans g14).trans g15).trans g16).trans g17).trans g18).trans g19).trans g20)))
  have RDD := Lib.hid (RdDs.grew R_d.out (((((((((((((((((((g2.trans g3).trans g4).trans g5).trans g6).trans g7).trans g8).trans g9).trans g10).trans g11).trans g12).trans g13).trans g14).trans g15).trans g16).trans g17).trans g18).trans g19).trans g20)))
  have RP := Lib.hid (Dr.R.grew R_p.out ((g19.trans g20)))
  have RX := Lib.hid (Dr.R.grew R_x.out (((((((((((((((((((g2.trans g3).trans g4).trans g5).trans g6).trans g7).trans g8).trans g9).trans g10).trans g11).trans g12).trans g13).trans g14).trans g15).trans g16).trans g17).trans g18).trans g19).trans g20)))
  have HGL := Lib.hid (show gone = true → lf = false from fun h => by rw [← HLF.out]; exact rem_gone (by rw [HGONE.out]; exact h))
  clear G0 G1 G2 G3 G4 G5 G6 G7 G8 G9 G10 G11 G12 G13 G14 G15 G16 G17 G18 G19 g1 g2 g3 g4 g5 g6 g7 g8 g9 g10 g11 g12 g13 g14 g15 g16 g17 g18 g19 g20 R_y R_yw R_z R_zw R_a R_b R_dn R_dn2 R_p R_x R_d R_e EY EZ hs_dn hbig hd hn hr hcd
  obtain ⟨qs, ⟨_, _, h1, _, hra⟩, hall⟩ := RDD.out
  cases h1
  have HA := Lib.hid hall
  clear hall
  generalize hn : d.length = n at *
  have HN := Lib.hid hn
  clear hn
  have RDN := Lib.hid (show RdDs w20 (.slice a_d n c_d) d from RDD.out)
  clear RDD
  have gB := (Grew.refl w20).alloc (.cells #[.string rn, .slice ra (fdD (remD ee nm2) nm2).query.length rc] 49)
  cases ok
  ·
    go_wp2
    go_loopw [21] (fun i wr => i = .int .i64 0 ∧ Grew w20 wr) (fun i _ => 0)
    case atStart => exact ⟨rfl, gB⟩
    case round =>
      obtain ⟨rfl, hbel⟩ := hrel
      have p0' := grew_cell hbel p0
      have p1' := grew_cell hbel p1
      have b0' := grew_cell hbel b0
      have b1' := grew_cell hbel b1
      cases gone
      all_goals
        try (obtain rfl : lf = false := HGL.out rfl)
        go_wp2_with fail
        all_goals
          refine (sameDirs _ _ (setD d ⟨nm, qy⟩) d _ (RdDs.grew RY.out hbel) (RdDs.grew RDN.out hbel) (by omega) (by have := HN.out; omega) SY.out S_d.out).mono ?_
          rintro e wf ⟨he, gf⟩
          rw [show eqL sameDr (setD d ⟨nm, qy⟩) d = true by rw [set_no HOK.out]; exact sameDs_self d] at he
          subst he
          go_wp2
          go_ret
          exact ⟨rfl, (G20.trans hbel).trans gf⟩
  have hsf := set_found HOK.out
  obtain rfl : fb = true := by rw [← HFB.out]; exact hsf.1
  have HFD := Lib.hid hsf.2.1
  have HFV := Lib.hid hsf.2.2
  have HOT := Lib.hid (fun (i : Nat) x (hx : d[i]? = some x) hne => set_other HOK.out hx hne)
  clear hsf
  go_wp2
  go_loopw [21] (fun i wr => ∃ k : Nat, k ≤ n ∧ i = .int .i64 k ∧ Grew w20 wr) (fun i _ => n - (intOf i).toNat)
  case atStart => exact ⟨0, Nat.zero_le _, rfl, gB⟩
  case round =>
    obtain ⟨k, hk, rfl, hbel⟩ := hrel
    have p0' := grew_cell hbel p0
    have p1' := grew_cell hbel p1
    have b0' := grew_cell hbel b0
    have b1' := grew_cell hbel b1
    by_cases hlt : k < n
    · obtain ⟨y1, o1, q, rfl, hpk, c0, c1⟩ := (hra.grew hbel).getP2 hlt
      obtain ⟨x, hxk, hxr⟩ := HA.out.get hpk.out
      have HXR := Lib.hid (hxr.grew hbel)
      have hxs := S_d.out x (List.mem_of_getElem? hxk.out)
      obtain ⟨xn, xq⟩ := q
      obtain ⟨hxn, hxq⟩ := hxr
      simp only at hxn hxq c0 c1
      subst hxn
      obtain ⟨xa1, xc1, rfl, hxc, hxra⟩ := hxq
      clear hxra
      have hk0 : (0 : Int) ≤ k := by omega
      have hkm : (k : Int) < n := by omega
      obtain ⟨bb, hbb⟩ : ∃ b, fdB (setD d ⟨nm, qy⟩) x.name = b := ⟨_, rfl⟩
      have HBB := Lib.hid hbb
      clear hbb
      go_wp2_with fail
      refine (specFindDir _ (setD d ⟨nm, qy⟩) x.name _ (RdDs.grew RY.out hbel) (by omega) SY.out).mono ?_
      rintro e wm ⟨⟨on, oq⟩, rfl, hO, gm⟩
      rw [HBB.out]
      have HOR := Lib.hid hO.rd
      obtain ⟨oa, oc, rfl⟩ := own_slice hO.2.1
      clear hO
      have gA := (Grew.refl wm).alloc (.cells #[.string on, .slice oa (fdD (setD d ⟨nm, qy⟩) x.name).query.length oc] 49)
      have o0 : (wm.alloc (.cells #[.string on, .slice oa (fdD (setD d ⟨nm, qy⟩) x.name).query.length oc] 49)).cell? ⟨wm.heap.size, 0, none⟩ = some (.string on) := by simp
      have o1' : (wm.alloc (.cells #[.string on, .slice oa (fdD (setD d ⟨nm, qy⟩) x.name).query.length oc] 49)).cell? ⟨wm.heap.size, 1, none⟩ = some (.slice oa (fdD (setD d ⟨nm, qy⟩) x.name).query.length oc) := by simp
      go_wp2_with fail
      generalize wm.alloc (.cells #[.string on, .slice oa (fdD (setD d ⟨nm, qy⟩) x.name).query.length oc] 49) = wn at gA o0 o1' ⊢
      have gmn := gm.trans gA
      have e0 := grew_cell gmn c0
      have e1 := grew_cell gmn c1
      have e2 := grew_cell gmn b0'
      have hW0 := Grew.refl wn
      have hcs : (x.name.toList == nm.toList) = true ∨ (x.name.toList == nm.toList) = false := by cases x.name.toList == nm.toList <;> simp
      rcases hcs with hnn | hnn
      ·
        refine wp_region_noPanic ?_
        refine wp_region_held_drew (S := (fun w' => (w'.cell? ⟨y1, o1 + k * 2, none⟩ = some (.string x.name) ∧ w'.cell? ⟨y1, o1 + k * 2 + 1, none⟩ = some (.slice xa1 x.query.length xc1) ∧ w'.cell? ⟨w1.heap.size, 0, none⟩ = some (.string nm) ∧ w'.cell? ⟨wm.heap.size, 0, none⟩ = some (.string on) ∧ w'.cell? ⟨wm.heap.size, 1, none⟩ = some (.slice oa (fdD (setD d ⟨nm, qy⟩) x.name).query.length oc) ∧ Grew wn w'))) (by kernel_rfl) ?h1_S ?h1_r
        case h1_S => exact ⟨e0, e1, e2, o0, o1', hW0.drew⟩
        case h1_r =>
          intro HS
          first
            | refine sk 0 rfl (by kernel_rfl) rfl HS ?_
            | (refine tk (v := ?v1_0) 0 rfl (by kernel_rfl) rfl ?y1_0 HS ?_; case y1_0 => (intro w' hSw; (try dsimp only at hSw); go_simp <;> (with_reducible rfl)))
          try simp only [Act.put, List.setIfInBounds_toArray, List.set_cons_zero, List.set_cons_succ]
          first
            | refine sk 1 rfl (by kernel_rfl) rfl HS ?_
            | (refine tk (v := ?v1_1) 1 rfl (by kernel_rfl) rfl ?y1_1 HS ?_; case y1_1 => (intro w' hSw; (try dsimp only at hSw); go_simp <;> (with_reducible rfl)))
          try simp only [Act.put, List.setIfInBounds_toArray, List.set_cons_zero, List.set_cons_succ]
          first
            | refine sk 2 rfl (by kernel_rfl) rfl HS ?_
            | (refine tk (v := ?v1_2) 2 rfl (by kernel_rfl) rfl ?y1_2 HS ?_; case y1_2 => (intro w' hSw; (try dsimp only at hSw); go_simp <;> (with_reducible rfl)))
          try simp only [Act.put, List.setIfInBounds_toArray, List.set_cons_zero, List.set_cons_succ]
          first
            | refine sk 3 rfl (by kernel_rfl) rfl HS ?_
            | (refine tk (v := ?v1_3) 3 rfl (by kernel_rfl) rfl ?y1_3 HS ?_; case y1_3 => (intro w' hSw; (try dsimp only at hSw); go_simp <;> (with_reducible rfl)))
          try simp only [Act.put, List.setIfInBounds_toArray, List.set_cons_zero, List.set_cons_succ]
          first
            | refine sk 4 rfl (by kernel_rfl) rfl HS ?_
            | (refine tk (v := ?v1_4) 4 rfl (by kernel_rfl) rfl ?y1_4 HS ?_; case y1_4 => (intro w' hSw; (try dsimp only at hSw); go_simp <;> (with_reducible rfl)))
          try simp only [Act.put, List.setIfInBounds_toArray, List.set_cons_zero, List.set_cons_succ]
          first
            | refine sk 5 rfl (by kernel_rfl) rfl HS ?_
            | (refine tk (v := ?v1_5) 5 rfl (by kernel_rfl) rfl ?y1_5 HS ?_; case y1_5 => (intro w' hSw; (try dsimp only at hSw); go_simp <;> (with_reducible rfl)))
          try simp only [Act.put, List.setIfInBounds_toArray, List.set_cons_zero, List.set_cons_succ]
          first
            | refine sk 6 rfl (by kernel_rfl) rfl HS ?_
            | (refine tk (v := ?v1_6) 6 rfl (by kernel_rfl) rfl ?y1_6 HS ?_; case y1_6 => (intro w' hSw; (try dsimp only at hSw); go_simp <;> (with_reducible rfl)))
          try simp only [Act.put, List.setIfInBounds_toArray, List.set_cons_zero, List.set_cons_succ]
          first
            | refine sk 7 rfl (by kernel_rfl) rfl HS ?_
            | (refine tk (v := ?v1_7) 7 rfl (by kernel_rfl) rfl ?y1_7 HS ?_; case y1_7 => (intro w' hSw; (try dsimp only at hSw); go_simp <;> (with_reducible rfl)))
          try simp only [Act.put, List.setIfInBounds_toArray, List.set_cons_zero, List.set_cons_succ]
          first
            | refine sk 8 rfl (by kernel_rfl) rfl HS ?_
            | (refine tk (v := ?v1_8) 8 rfl (by kernel_rfl) rfl ?y1_8 HS ?_; case y1_8 => (intro w' hSw; (try dsimp only at hSw); go_simp <;> (with_reducible rfl)))
          try simp only [Act.put, List.setIfInBounds_toArray, List.set_cons_zero, List.set_cons_succ]
          first
            | refine sk 9 rfl (by kernel_rfl) rfl HS ?_
            | (refine tk (v := ?v1_9) 9 rfl (by kernel_rfl) rfl ?y1_9 HS ?_; case y1_9 => (intro w' hSw; (try dsimp only at hSw); go_simp <;> (with_reducible rfl)))
          try simp only [Act.put, List.setIfInBounds_toArray, List.set_cons_zero, List.set_cons_succ]
          first
            | refine sk 10 rfl (by kernel_rfl) rfl HS ?_
            | (refine tk (v := ?v1_10) 10 rfl (by kernel_rfl) rfl ?y1_10 HS ?_; case y1_10 => (intro w' hSw; (try dsimp only at hSw); go_simp <;> (with_reducible rfl)))
          try simp only [Act.put, List.setIfInBounds_toArray, List.set_cons_zero, List.set_cons_succ]
          first
            | refine sk 11 rfl (by kernel_rfl) rfl HS ?_
            | (refine tk (v := ?v1_11) 11 rfl (by kernel_rfl) rfl ?y1_11 HS ?_; case y1_11 => (intro w' hSw; (try dsimp only at hSw); go_simp <;> (with_reducible rfl)))
          try simp only [Act.put, List.setIfInBounds_toArray, List.set_cons_zero, List.set_cons_succ]
          first
            | refine sk 12 rfl (by kernel_rfl) rfl HS ?_
            | (refine tk (v := ?v1_12) 12 rfl (by kernel_rfl) rfl ?y1_12 HS ?_; case y1_12 => (intro w' hSw; (try dsimp only at hSw); go_simp <;> (with_reducible rfl)))
          try simp only [Act.put, List.setIfInBounds_toArray, List.set_cons_zero, List.set_cons_succ]
          first
            | refine sk 13 rfl (by kernel_rfl) rfl HS ?_
            | (refine tk (v := ?v1_13) 13 rfl (by kernel_rfl) rfl ?y1_13 HS ?_; case y1_13 => (intro w' hSw; (try dsimp only at hSw); go_simp <;> (with_reducible rfl)))
          try simp only [Act.put, List.setIfInBounds_toArray, List.set_cons_zero, List.set_cons_succ]
          first
            | refine sk 14 rfl (by kernel_rfl) rfl HS ?_
            | (refine tk (v := ?v1_14) 14 rfl (by kernel_rfl) rfl ?y1_14 HS ?_; case y1_14 => (intro w' hSw; (try dsimp only at hSw); go_simp <;> (with_reducible rfl)))
          try simp only [Act.put, List.setIfInBounds_toArray, List.set_cons_zero, List.set_cons_succ]
          first
            | refine sk 15 rfl (by kernel_rfl) rfl HS ?_
            | (refine tk (v := ?v1_15) 15 rfl (by kernel_rfl) rfl ?y1_15 HS ?_; case y1_15 => (intro w' hSw; (try dsimp only at hSw); go_simp <;> (with_reducible rfl)))
          try simp only [Act.put, List.setIfInBounds_toArray, List.set_cons_zero, List.set_cons_succ]
          first
            | refine sk 16 rfl (by kernel_rfl) rfl HS ?_
            | (refine tk (v := ?v1_16) 16 rfl (by kernel_rfl) rfl ?y1_16 HS ?_; case y1_16 => (intro w' hSw; (try dsimp only at hSw); go_simp <;> (with_reducible rfl)))
          try simp only [Act.put, List.setIfInBounds_toArray, List.set_cons_zero, List.set_cons_succ]
          first
            | refine sk 17 rfl (by kernel_rfl) rfl HS ?_
            | (refine tk (v := ?v1_17) 17 rfl (by kernel_rfl) rfl ?y1_17 HS ?_; case y1_17 => (intro w' hSw; (try dsimp only at hSw); go_simp <;> (with_reducible rfl)))
          try simp only [Act.put, List.setIfInBounds_toArray, List.set_cons_zero, List.set_cons_succ]
          first
            | refine sk 18 rfl (by kernel_rfl) rfl HS ?_
            | (refine tk (v := ?v1_18) 18 rfl (by kernel_rfl) rfl ?y1_18 HS ?_; case y1_18 => (intro w' hSw; (try dsimp only at hSw); go_simp <;> (with_reducible rfl)))
          try simp only [Act.put, List.setIfInBounds_toArray, List.set_cons_zero, List.set_cons_succ]
          first
            | refine sk 19 rfl (by kernel_rfl) rfl HS ?_
            | (refine tk (v := ?v1_19) 19 rfl (by kernel_rfl) rfl ?y1_19 HS ?_; case y1_19 => (intro w' hSw; (try dsimp only at hSw); go_simp <;> (with_reducible rfl)))
          try simp only [Act.put, List.setIfInBounds_toArray, List.set_cons_zero, List.set_cons_succ]
          first
            | refine sk 20 rfl (by kernel_rfl) rfl HS ?_
            | (refine tk (v := ?v1_20) 20 rfl (by kernel_rfl) rfl ?y1_20 HS ?_; case y1_20 => (intro w' hSw; (try dsimp only at hSw); go_simp <;> (with_reducible rfl)))
          try simp only [Act.put, List.setIfInBounds_toArray, List.set_cons_zero, List.set_cons_succ]
          refine wpAnyH_done (by kernel_rfl) ?_ _
          refine NoPanic.normal ?_
          have GR := HS.2.2.2.2.2
          clear HS
          go_wp2
          go_roundw
          case rel => exact ⟨k + 1, by omega, by go_num, (hbel.trans gmn).trans GR⟩
          case measure => simp [intOf]; omega
      · have hot := HOT.out k x hxk.out hnn
        obtain rfl : bb = true := by rw [← HBB.out]; exact hot.1
        have HOD := Lib.hid hot.2
        clear hot
        refine wp_region_noPanic ?_
        refine wp_region_held_drew (S := (fun w' => (w'.cell? ⟨y1, o1 + k * 2, none⟩ = some (.string x.name) ∧ w'.cell? ⟨y1, o1 + k * 2 + 1, none⟩ = some (.slice xa1 x.query.length xc1) ∧ w'.cell? ⟨w1.heap.size, 0, none⟩ = some (.string nm) ∧ w'.cell? ⟨wm.heap.size, 0, none⟩ = some (.string on) ∧ w'.cell? ⟨wm.heap.size, 1, none⟩ = some (.slice oa (fdD (setD d ⟨nm, qy⟩) x.name).query.length oc) ∧ Grew wn w'))) (by kernel_rfl) ?h2_S ?h2_r
        case h2_S => exact ⟨e0, e1, e2, o0, o1', hW0.drew⟩
        case h2_r =>
          intro HS
          first
            | refine sk 0 rfl (by kernel_rfl) rfl HS ?_
            | (refine tk (v := ?v2_0) 0 rfl (by kernel_rfl) rfl ?y2_0 HS ?_; case y2_0 => (intro w' hSw; (try dsimp only at hSw); go_simp <;> (with_reducible rfl)))
          try simp only [Act.put, List.setIfInBounds_toArray, List.set_cons_zero, List.set_cons_succ]
          first
            | refine sk 1 rfl (by kernel_rfl) rfl HS ?_
            | (refine tk (v := ?v2_1) 1 rfl (by kernel_rfl) rfl ?y2_1 HS ?_; case y2_1 => (intro w' hSw; (try dsimp only at hSw); go_simp <;> (with_reducible rfl)))
          try simp only [Act.put, List.setIfInBounds_toArray, List.set_cons_zero, List.set_cons_succ]
          first
            | refine sk 2 rfl (by kernel_rfl) rfl HS ?_
            | (refine tk (v := ?v2_2) 2 rfl (by kernel_rfl) rfl ?y2_2 HS ?_; case y2_2 => (intro w' hSw; (try dsimp only at hSw); go_simp <;> (with_reducible rfl)))
          try simp only [Act.put, List.setIfInBounds_toArray, List.set_cons_zero, List.set_cons_succ]
          first
            | refine sk 3 rfl (by kernel_rfl) rfl HS ?_
            | (refine tk (v := ?v2_3) 3 rfl (by kernel_rfl) rfl ?y2_3 HS ?_; case y2_3 => (intro w' hSw; (try dsimp only at hSw); go_simp <;> (with_reducible rfl)))
          try simp only [Act.put, List.setIfInBounds_toArray, List.set_cons_zero, List.set_cons_succ]
          first
            | refine sk 4 rfl (by kernel_rfl) rfl HS ?_
            | (refine tk (v := ?v2_4) 4 rfl (by kernel_rfl) rfl ?y2_4 HS ?_; case y2_4 => (intro w' hSw; (try dsimp only at hSw); go_simp <;> (with_reducible rfl)))
          try simp only [Act.put, List.setIfInBounds_toArray, List.set_cons_zero, List.set_cons_succ]
          first
            | refine sk 5 rfl (by kernel_rfl) rfl HS ?_
            | (refine tk (v := ?v2_5) 5 rfl (by kernel_rfl) rfl ?y2_5 HS ?_; case y2_5 => (intro w' hSw; (try dsimp only at hSw); go_simp <;> (with_reducible rfl)))
          try simp only [Act.put, List.setIfInBounds_toArray, List.set_cons_zero, List.set_cons_succ]
          first
            | refine sk 6 rfl (by kernel_rfl) rfl HS ?_
            | (refine tk (v := ?v2_6) 6 rfl (by kernel_rfl) rfl ?y2_6 HS ?_; case y2_6 => (intro w' hSw; (try dsimp only at hSw); go_simp <;> (with_reducible rfl)))
          try simp only [Act.put, List.setIfInBounds_toArray, List.set_cons_zero, List.set_cons_succ]
          first
            | refine sk 7 rfl (by kernel_rfl) rfl HS ?_
            | (refine tk (v := ?v2_7) 7 rfl (by kernel_rfl) rfl ?y2_7 HS ?_; case y2_7 => (intro w' hSw; (try dsimp only at hSw); go_simp <;> (with_reducible rfl)))
          try simp only [Act.put, List.setIfInBounds_toArray, List.set_cons_zero, List.set_cons_succ]
          first
            | refine sk 8 rfl (by kernel_rfl) rfl HS ?_
            | (refine tk (v := ?v2_8) 8 rfl (by kernel_rfl) rfl ?y2_8 HS ?_; case y2_8 => (intro w' hSw; (try dsimp only at hSw); go_simp <;> (with_reducible rfl)))
          try simp only [Act.put, List.setIfInBounds_toArray, List.set_cons_zero, List.set_cons_succ]
          first
            | refine sk 9 rfl (by kernel_rfl) rfl HS ?_
            | (refine tk (v := ?v2_9) 9 rfl (by kernel_rfl) rfl ?y2_9 HS ?_; case y2_9 => (intro w' hSw; (try dsimp only at hSw); go_simp <;> (with_reducible rfl)))
          try simp only [Act.put, List.setIfInBounds_toArray, List.set_cons_zero, List.set_cons_succ]
          first
            | refine sk 10 rfl (by kernel_rfl) rfl HS ?_
            | (refine tk (v := ?v2_10) 10 rfl (by kernel_rfl) rfl ?y2_10 HS ?_; case y2_10 => (intro w' hSw; (try dsimp only at hSw); go_simp <;> (with_reducible rfl)))
          try simp only [Act.put, List.setIfInBounds_toArray, List.set_cons_zero, List.set_cons_succ]
          first
            | refine sk 11 rfl (by kernel_rfl) rfl HS ?_
            | (refine tk (v := ?v2_11) 11 rfl (by kernel_rfl) rfl ?y2_11 HS ?_; case y2_11 => (intro w' hSw; (try dsimp only at hSw); go_simp <;> (with_reducible rfl)))
          try simp only [Act.put, List.setIfInBounds_toArray, List.set_cons_zero, List.set_cons_succ]
          first
            | refine sk 12 rfl (by kernel_rfl) rfl HS ?_
            | (refine tk (v := ?v2_12) 12 rfl (by kernel_rfl) rfl ?y2_12 HS ?_; case y2_12 => (intro w' hSw; (try dsimp only at hSw); go_simp <;> (with_reducible rfl)))
          try simp only [Act.put, List.setIfInBounds_toArray, List.set_cons_zero, List.set_cons_succ]
          first
            | refine sk 13 rfl (by kernel_rfl) rfl HS ?_
            | (refine tk (v := ?v2_13) 13 rfl (by kernel_rfl) rfl ?y2_13 HS ?_; case y2_13 => (intro w' hSw; (try dsimp only at hSw); go_simp <;> (with_reducible rfl)))
          try simp only [Act.put, List.setIfInBounds_toArray, List.set_cons_zero, List.set_cons_succ]
          first
            | refine sk 14 rfl (by kernel_rfl) rfl HS ?_
            | (refine tk (v := ?v2_14) 14 rfl (by kernel_rfl) rfl ?y2_14 HS ?_; case y2_14 => (intro w' hSw; (try dsimp only at hSw); go_simp <;> (with_reducible rfl)))
          try simp only [Act.put, List.setIfInBounds_toArray, List.set_cons_zero, List.set_cons_succ]
          first
            | refine sk 15 rfl (by kernel_rfl) rfl HS ?_
            | (refine tk (v := ?v2_15) 15 rfl (by kernel_rfl) rfl ?y2_15 HS ?_; case y2_15 => (intro w' hSw; (try dsimp only at hSw); go_simp <;> (with_reducible rfl)))
          try simp only [Act.put, List.setIfInBounds_toArray, List.set_cons_zero, List.set_cons_succ]
          first
            | refine sk 16 rfl (by kernel_rfl) rfl HS ?_
            | (refine tk (v := ?v2_16) 16 rfl (by kernel_rfl) rfl ?y2_16 HS ?_; case y2_16 => (intro w' hSw; (try dsimp only at hSw); go_simp <;> (with_reducible rfl)))
          try simp only [Act.put, List.setIfInBounds_toArray, List.set_cons_zero, List.set_cons_succ]
          refine cl 17 rfl (by kernel_rfl) (fun K hK => ?_)
          rw [if_pos (by rfl)]
          go_simp
          go_at_call 54
          refine (sameDir (fdD (setD d ⟨nm, qy⟩) x.name) x ⟨on, .slice oa (fdD (setD d ⟨nm, qy⟩) x.name).query.length oc⟩ ⟨x.name, .slice xa1 x.query.length xc1⟩ _ (Dr.R.grew HOR.out (gA.trans HS.2.2.2.2.2)) (Dr.R.grew HXR.out (gmn.trans HS.2.2.2.2.2)) (by rw [HOD.out]; exact hxs) hxs).mono ?_
          rintro e wx ⟨he, hb⟩
          rw [HOD.out, sameDr_self] at he
          subst he
          refine hK.out _ _ ?s2_17 ?r2_17
          case s2_17 => exact ⟨grew_cell hb HS.1, grew_cell hb HS.2.1, grew_cell hb HS.2.2.1, grew_cell hb HS.2.2.2.1, grew_cell hb HS.2.2.2.2.1, HS.2.2.2.2.2.trans hb⟩
          case r2_17 =>
            clear HS
            intro HS
            clear hK K
            try simp only [Act.put, List.setIfInBounds_toArray, List.set_cons_zero, List.set_cons_succ]
            first
              | refine sk 18 rfl (by kernel_rfl) rfl HS ?_
              | (refine tk (v := ?v2_18) 18 rfl (by kernel_rfl) rfl ?y2_18 HS ?_; case y2_18 => (intro w' hSw; (try dsimp only at hSw); go_simp <;> (with_reducible rfl)))
            try simp only [Act.put, List.setIfInBounds_toArray, List.set_cons_zero, List.set_cons_succ]
            first
              | refine sk 19 rfl (by kernel_rfl) rfl HS ?_
              | (refine tk (v := ?v2_19) 19 rfl (by kernel_rfl) rfl ?y2_19 HS ?_; case y2_19 => (intro w' hSw; (try dsimp only at hSw); go_simp <;> (with_reducible rfl)))
            try simp only [Act.put, List.setIfInBounds_toArray, List.set_cons_zero, List.set_cons_succ]
            first
              | refine sk 20 rfl (by kernel_rfl) rfl HS ?_
              | (refine tk (v := ?v2_20) 20 rfl (by kernel_rfl) rfl ?y2_20 HS ?_; case y2_20 => (intro w' hSw; (try dsimp only at hSw); go_simp <;> (with_reducible rfl)))
            try simp only [Act.put, List.setIfInBounds_toArray, List.set_cons_zero, List.set_cons_succ]
            refine wpAnyH_done (by kernel_rfl) ?_ _
            refine NoPanic.normal ?_
            have GR := HS.2.2.2.2.2
            clear HS
            go_wp2
            go_roundw
            case rel => exact ⟨k + 1, by omega, by go_num, (hbel.trans gmn).trans GR⟩
            case measure => simp [intOf]; omega
    · obtain rfl : k = n := by omega
      cases gone
      all_goals
        try (obtain rfl : lf = false := HGL.out rfl)
        go_wp2_with fail
        refine (sameDir (fdD (setD d ⟨nm, qy⟩) nm) ⟨nm, qy⟩ ⟨pn, .slice pa (fdD (setD d ⟨nm, qy⟩) nm).query.length pc⟩ ⟨nm, .slice a_x qy.length c_x⟩ _ (Dr.R.grew RP.out hbel) (Dr.R.grew RX.out hbel) (by rw [HFD.out]; exact S_x.out) S_x.out).mono ?_
        rintro e wf ⟨he, gf⟩
        rw [HFD.out, sameDr_self] at he
        subst he
        go_wp2_with fail
        refine (implIsValidDirs _ (setD d ⟨nm, qy⟩) _ (RdDs.grew RY.out (hbel.trans gf)) (by omega) (by omega)).mono ?_
        rintro e wg ⟨he, gg⟩
        rw [HFV.out] at he
        subst he
        go_wp2
        go_ret
        exact ⟨rfl, ((G20.trans hbel).trans gf).trans gg⟩
end Go.Proofs.Ytgekgokkbakcmaa.fnDirSet
