/- The walk of laws.FnTransitive. -/
import Derived.Test.YtejgpghcahinhaaW0
import Derived.Test.YtejgpghcahinhaaZ8
import Derived.Test.YtejgpghcahinhaaK3
import Derived.Test.YtejgpghcahinhaaK2
import Derived.Test.YtejgpghcahinhaaK1
namespace Go.Proofs.Ytejgpghcahinhaa.fnTransitive
open Go.RowKit
set_option linter.unusedVariables false
theorem hasB_snoc {xs : List ByteArray} {s y : ByteArray} {k : Nat} (hy : xs[k]? = some y) : hasB (xs.take (k + 1)) s = (hasB (xs.take k) s || (y.toList == s.toList)) := by
  rw [take_snoc hy]; unfold hasB; rw [List.any_append]; simp
theorem reach_trans {xs : List Dr} {ns : List ByteArray} {s : ByteArray} (h : Reach xs (clo xs ns) s) : Reach xs ns s := by
  induction h with
  | base h => exact mem_clo.1 h
  | step _ hx hq ih => exact .step ih hx hq
theorem clo_clo (xs : List Dr) (ns : List ByteArray) : clo xs (clo xs ns) = clo xs ns := by
  have h : ∀ y, y ∈ clo xs (clo xs ns) ↔ y ∈ clo xs ns := fun y => by
    rw [mem_clo]
    exact ⟨fun h => mem_clo.2 (reach_trans h), fun h => .base h⟩
  have h2 : ∀ ms, so (clo xs ms) = clo xs ms := fun ms => clo_of (fun y => mem_clo)
  rw [← h2 (clo xs ns), ← h2 ns]
  exact so_ext (fun y => by rw [h2]; exact h y)
theorem dep_in {xs : List Dr} {ns : List ByteArray} {s y : ByteArray} (hs : s ∈ clo xs ns) (hy : y ∈ dep xs s) : y ∈ clo xs ns := by
  obtain ⟨x, hx, hq, rfl⟩ := mem_dep.1 hy
  exact mem_clo.2 (.step (mem_clo.1 hs) hx hq)
theorem dep_le (xs : List Dr) (s : ByteArray) : (dep xs s).length ≤ xs.length := by
  unfold dep; rw [List.length_map]; exact List.length_filter_le _ _
theorem clo_pos {xs : List Dr} {ns : List ByteArray} (h : 0 < ns.length) : 0 < (clo xs ns).length :=
  List.length_pos_of_mem (mem_clo.2 (.base (List.getElem_mem h)))
set_option maxRecDepth 100000 in
set_option maxHeartbeats 4000000 in
theorem walkLaw (w : World) (v : Value) (n : Nat) (xs : List Int) (hr : Rd w v 1 n (xs.map (Value.int .u8))) (hn : n ≤ maxLen) (ho : ∀ a : Int, a ∈ xs → 0 ≤ a ∧ a ≤ 255) :
    Calls Try.prog 12 #[v] w fun e w' => e = .returned (.bool true) ∧ Grew w w' := by
  clear ho
  by_cases hbig : (1048576 : Int) < (n : Int)
  · have hd : decide ((1048576 : Int) < (n : Int)) = true := by simp [hbig]
    go_enter Try.func12, Try.ntmps12
    go_wp2_with fail
    refine (big v n _ _ hr hn).mono ?_
    rintro e w1 ⟨rfl, rfl⟩
    go_wp2
    go_ret
    exact ⟨rfl, Grew.refl _⟩
  have hd : decide ((1048576 : Int) < (n : Int)) = false := by simp [hbig]
  have hcd : Cd w v := ⟨n, xs, hr, by omega⟩
  have G0 := Grew.refl w
  go_enter Try.func12, Try.ntmps12
  go_wp2_with fail
  refine (big v n _ _ hr hn).mono ?_
  rintro e w1 ⟨rfl, rfl⟩
  go_wp2_with fail
  refine (drawTransitiveDependents v _ hcd).mono ?_
  rintro e w1 ⟨u0, t0, rfl, d, hok, hgl, ns, hnl, o_ns, g1⟩
  have G1 := G0.trans g1
  have S_d := Lib.hid (dr_small hok)
  have D_d := Lib.hid hok
  have n_d := hok.1
  have R_d := Lib.hid (hgl.rd)
  obtain ⟨a_d, c_d, rfl⟩ := hgl.slice
  clear hgl hok
  have R_ns := Lib.hid (rd_of_own o_ns)
  obtain ⟨a_ns, c_ns, rfl⟩ := own_slice o_ns
  clear o_ns
  have LC := clo_len d ns
  go_wp2_with fail
  refine (implTransDep _ _ d ns _ R_d.out R_ns.out (by omega) S_d.out).mono ?_
  rintro e w2 ⟨v_ls, rfl, o_ls, g2⟩
  have G2 := G1.trans g2
  have R_ls := Lib.hid (rd_of_own o_ls)
  obtain ⟨a_ls, c_ls, rfl⟩ := own_slice o_ls
  clear o_ls
  go_wp2_with fail
  refine (drawDependents v _ (hcd.grew (g1.trans g2))).mono ?_
  rintro e w3 ⟨u1, nm, rfl, hnm, ee, hoe, hge, g3⟩
  have G3 := G2.trans g3
  have S_e := Lib.hid (dr_small hoe)
  have D_e := Lib.hid hoe
  have n_e := hoe.1
  have R_e := Lib.hid (hge.rd)
  obtain ⟨a_e, c_e, rfl⟩ := hge.slice
  clear hge hoe
  have LE := dep_le ee nm
  go_wp2_with fail
  refine (specTransDep _ _ d ns _ (RdDs.grew R_d.out ((g2.trans g3))) (R_ns.out.grew (g2.trans g3)) (by omega) S_d.out).mono ?_
  rintro e w4 ⟨v_l2, rfl, o_l2, g4⟩
  have G4 := G3.trans g4
  have R_l2 := Lib.hid (rd_of_own o_l2)
  obtain ⟨a_l2, c_l2, rfl⟩ := own_slice o_l2
  clear o_l2
  have hs_ls := sameB_yes (rfl : (clo d ns) = clo d ns)
  go_wp2_with fail
  refine (sameTexts _ _ _ _ _ _ _ (R_ls.out.grew (g3.trans g4)) R_l2.out (by omega) (by omega)).mono ?_
  rintro e w5 ⟨he, g5⟩
  have G5 := G4.trans g5
  rw [hs_ls] at he
  subst he
  go_wp2_with fail
  refine (implDependents _ ee nm _ (RdDs.grew R_e.out ((g4.trans g5))) (by omega) S_e.out).mono ?_
  rintro e w6 ⟨v_m1, rfl, o_m1, g6⟩
  have G6 := G5.trans g6
  have R_m1 := Lib.hid (rd_of_own o_m1)
  obtain ⟨a_m1, c_m1, rfl⟩ := own_slice o_m1
  clear o_m1
  go_wp2_with fail
  refine (specDependents _ ee nm _ (RdDs.grew R_e.out (((g4.trans g5).trans g6))) (by omega) S_e.out).mono ?_
  rintro e w7 ⟨v_m2, rfl, o_m2, g7⟩
  have G7 := G6.trans g7
  have R_m2 := Lib.hid (rd_of_own o_m2)
  obtain ⟨a_m2, c_m2, rfl⟩ := own_slice o_m2
  clear o_m2
  have hs_m1 := sameB_yes (rfl : (dep ee nm) = dep ee nm)
  go_wp2_with fail
  refine (sameTexts _ _ _ _ _ _ _ (R_m1.out.grew g7) R_m2.out (by omega) (by omega)).mono ?_
  rintro e w8 ⟨he, g8⟩
  have G8 := G7.trans g8
  rw [hs_m1] at he
  subst he
  have RD := Lib.hid (RdDs.grew R_d.out (((((((g2.trans g3).trans g4).trans g5).trans g6).trans g7).trans g8)))
  have RL := Lib.hid (R_ls.out.grew (((((g3.trans g4).trans g5).trans g6).trans g7).trans g8))
  have hcp := fun h => clo_pos (xs := d) (ns := ns) h
  have HCC := Lib.hid (clo_clo d ns)
  obtain ⟨_, _, h1, _, hrl⟩ := RL.out
  cases h1
  have HM := Lib.hid (fun s (hs : s ∈ clo d ns) y (hy : y ∈ dep d s) => dep_in hs hy)
  generalize hls : clo d ns = LS at *
  generalize hml : LS.length = ml at hrl LC
  have HML := Lib.hid hml
  have hmb : ml ≤ 4000000 := by omega
  clear hls hml R_m1 R_m2 R_l2 R_ls R_d R_e
  go_wp2
  go_loopw [8] (fun i wr => ∃ k : Nat, k ≤ ml ∧ i = .int .i64 k ∧ Grew w8 wr) (fun i _ => ml - (intOf i).toNat)
  case atStart => exact ⟨0, Nat.zero_le _, rfl, Grew.refl _⟩
  case round =>
    obtain ⟨k, hk, rfl, hbel⟩ := hrel
    by_cases hlt : k < ml
    · obtain ⟨b0, o0, s, rfl, hsk, e0⟩ := hrl.one hlt
      have f0 := grew_cell hbel e0
      have hk0 : (0 : Int) ≤ k := by omega
      have hkm : (k : Int) < ml := by omega
      have HS := Lib.hid (HM.out s (List.mem_of_getElem? hsk.out))
      have LM := dep_le d s
      go_wp2_with fail
      refine (implDependents _ d s _ (RdDs.grew RD.out hbel) (by omega) S_d.out).mono ?_
      rintro e wm ⟨v3, rfl, o3, gm⟩
      have hbm := hbel.trans gm
      have R3 := Lib.hid (rd_of_own o3)
      obtain ⟨a3, c3, rfl⟩ := own_slice o3
      clear o3 f0
      obtain ⟨_, _, h1, _, hrm⟩ := R3.out
      cases h1
      generalize hmd : (dep d s).length = md at hrm LM
      have HMD := Lib.hid hmd
      clear hmd
      go_wp2
      go_loopw [10] (fun i wr => ∃ j : Nat, j ≤ md ∧ i = .int .i64 j ∧ Grew wm wr) (fun i _ => md - (intOf i).toNat)
      case atStart => exact ⟨0, Nat.zero_le _, rfl, Grew.refl _⟩
      case round =>
        obtain ⟨j, hj, rfl, hbj⟩ := hrel
        by_cases hjt : j < md
        · obtain ⟨b1, o1, y, rfl, hyk, e1⟩ := hrm.one hjt
          have HY := Lib.hid (HS.out y (List.mem_of_getElem? hyk.out))
          have hj0 : (0 : Int) ≤ j := by omega
          have hjm : (j : Int) < md := by omega
          obtain ⟨W1, hW1⟩ : ∃ x, x = wr := ⟨_, rfl⟩
          have gW1 : Grew wm W1 := by rw [hW1]; exact hbj
          subst hW1
          clear hbj
          go_wp2
          go_loopw [11, 12] (fun b i wr => ∃ (q : Nat) (c : Bool), q ≤ ml ∧ i = .int .i64 q ∧ b = .bool c ∧ Hid (hasB (LS.take q) y = c) ∧ Grew wm wr) (fun _ i _ => ml - (intOf i).toNat)
          case atStart => exact ⟨0, false, Nat.zero_le _, rfl, rfl, Lib.hid rfl, gW1⟩
          case round =>
            obtain ⟨q, c, hq, rfl, rfl, hc, hbq⟩ := hrel
            by_cases hqt : q < ml
            · obtain ⟨b2, o2, z, h2, hzk, e2⟩ := hrl.one hqt
              cases h2
              have f1 := grew_cell hbq e1
              have f2 := grew_cell (hbm.trans hbq) e2
              have hq0 : (0 : Int) ≤ q := by omega
              have hqm : (q : Int) < ml := by omega
              have HH := Lib.hid ((hasB_snoc (s := y) hzk.out).trans (by rw [hc.out]))
              have hcs : (z.toList == y.toList) = true ∨ (z.toList == y.toList) = false := by cases z.toList == y.toList <;> simp
              cases c
              · rcases hcs with hx | hx
                all_goals
                  rw [hx] at HH
                  go_wp2
                  go_quiet (fail)
                  go_wp2
                  go_roundw
                  case rel => exact ⟨q + 1, _, by omega, by go_num, rfl, HH, hbq.drewN _⟩
                  case measure => simp [intOf]; omega
              · go_wp2
                go_quiet (fail)
                go_wp2
                go_roundw
                case rel => exact ⟨q + 1, true, by omega, by go_num, rfl, HH, hbq.drewN _⟩
                case measure => simp [intOf]; omega
            · obtain rfl : q = ml := by omega
              have hp := hc.out
              rw [take_all HML.out] at hp
              have hct : c = true := by rw [← hp]; exact hasB_iff.2 HY.out
              clear hp hc
              subst hct
              go_wp2
              go_roundw
              case rel => exact ⟨j + 1, by omega, by go_num, hbq⟩
              case measure => simp [intOf]; omega
        · obtain rfl : j = md := by omega
          go_wp2
          go_roundw
          case rel => exact ⟨k + 1, by omega, by go_num, hbm.trans hbj⟩
          case measure => simp [intOf]; omega
    · obtain rfl : k = ml := by omega
      have hb9 : d.length + LS.length ≤ 3900000 := by have := HML.out; omega
      have hb8 : LS.length ≤ 4000000 := by have := HML.out; omega
      have hb7 : 0 < ns.length → 0 < k := fun h => by have := hcp h; have := HML.out; omega
      have RL2 := Lib.hid (show Rd w8 (.slice a_ls k c_ls) 1 LS.length (strs LS) by have h := RL.out; rw [HML.out] at h ⊢; exact h)
      clear hcp
      go_wp2_with fail
      refine (implTransDep _ _ d LS _ (RdDs.grew RD.out hbel) (RL2.out.grew hbel) hb9 S_d.out).mono ?_
      rintro e wf ⟨vf, rfl, of_, gf⟩
      rw [HCC.out] at of_
      have RF := Lib.hid (rd_of_own of_)
      obtain ⟨af, cf, rfl⟩ := own_slice of_
      clear of_
      have hsl := sameB_yes (rfl : LS = LS)
      go_wp2_with fail
      refine (sameTexts _ _ _ _ LS LS _ RF.out (RL2.out.grew (hbel.trans gf)) hb8 hb8).mono ?_
      rintro e wg ⟨he, gg⟩
      rw [hsl] at he
      subst he
      by_cases h0 : 0 < ns.length
      · have h1 := hb7 h0
        have hm : min (1 : Int) (ns.length : Int) = 1 := by omega
        have h2 : (1 : Int) ≤ (k : Int) := by omega
        go_wp2
        go_ret
        exact ⟨rfl, ((G8.trans hbel).trans gf).trans gg⟩
      · have hm : (ns.length : Int) = 0 := by omega
        have h2 : (0 : Int) ≤ (k : Int) := by omega
        go_wp2
        go_ret
        exact ⟨rfl, ((G8.trans hbel).trans gf).trans gg⟩
end Go.Proofs.Ytejgpghcahinhaa.fnTransitive
