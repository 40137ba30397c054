/- The walk of laws.FnDependencies. -/
import Derived.Test.YtejgpghcahinhaaW0
import Derived.Test.YtejgpghcahinhaaZ6
import Derived.Test.YtejgpghcahinhaaY5
import Derived.Test.YtejgpghcahinhaaK1
import Derived.Test.YtejgpghcahinhaaL1
import Derived.Test.YtejgpghcahinhaaC5
import Derived.Test.YtejgpghcahinhaaN4
import Derived.Test.YtejgpghcahinhaaQ4
namespace Go.Proofs.Ytejgpghcahinhaa.fnDependencies
open Go.RowKit
set_option linter.unusedVariables false
theorem q_sz {n : Nat} : ∀ {xs : List N}, qOk n xs → szAll N.sz xs ≤ xs.length * 16
  | [], _ => by simp [szAll]
  | x :: xs, h => by
    have h1 := q_sz (n := n) (xs := xs) ⟨by have := h.1; simp at this; omega, fun y hy => h.2 y (List.mem_cons_of_mem _ hy)⟩
    have h2 := h.2 x (List.mem_cons_self ..)
    unfold N.okD at h2
    have h3 : N.sz x ≤ 16 := by unfold N.sz V.sz; omega
    simp only [szAll, List.map_cons, List.sum_cons, List.length_cons] at h1 ⊢
    omega
theorem hasB_snoc {xs : List ByteArray} {s y : ByteArray} {k : Nat} (hy : xs[k]? = some y) : hasB (xs.take (k + 1)) s = (hasB (xs.take k) s || (y.toList == s.toList)) := by
  rw [take_snoc hy]; unfold hasB; rw [List.any_append]; simp
set_option maxRecDepth 100000 in
set_option maxHeartbeats 4000000 in
theorem walkLaw (w : World) (v : Value) (n : Nat) (xs : List Int) (hr : Rd w v 1 n (xs.map (Value.int .u8))) (hn : n ≤ maxLen) (ho : ∀ a : Int, a ∈ xs → 0 ≤ a ∧ a ≤ 255) :
    Calls Try.prog 14 #[v] w fun e w' => e = .returned (.bool true) ∧ Grew w w' := by
  clear ho
  by_cases hbig : (1048576 : Int) < (n : Int)
  · have hd : decide ((1048576 : Int) < (n : Int)) = true := by simp [hbig]
    go_enter Try.func14, Try.ntmps14
    go_wp2_with fail
    refine (big v n _ _ hr hn).mono ?_
    rintro e w1 ⟨rfl, rfl⟩
    go_wp2
    go_ret
    exact ⟨rfl, Grew.refl _⟩
  have hd : decide ((1048576 : Int) < (n : Int)) = false := by simp [hbig]
  have hcd : Cd w v := ⟨n, xs, hr, by omega⟩
  have G0 := Grew.refl w
  go_enter Try.func14, Try.ntmps14
  go_wp2_with fail
  refine (big v n _ _ hr hn).mono ?_
  rintro e w1 ⟨rfl, rfl⟩
  go_wp2_with fail
  refine (drawNegatedNodes v _ hcd).mono ?_
  rintro e w1 ⟨q0, rfl, q, o_q, hq, g1⟩
  have G1 := G0.trans g1
  have R_q := Lib.hid (rd_of_own o_q)
  obtain ⟨a_q, c_q, rfl⟩ := own_slice o_q
  clear o_q
  have hz := q_sz hq
  have hlen := hq.1
  have hz4 : szAll N.sz q ≤ 4000000 := by omega
  have hl4 : q.length ≤ 4000000 := by omega
  have hln := negL_le q
  have hlp := depsL_le q false
  have hlm := depsL_le q true
  have L0 : (negL q).length ≤ 4000000 := by omega
  have L1 : (depsL q false).length ≤ 4000000 := by omega
  have L2 : (depsL q true).length ≤ 4000000 := by omega
  clear hz hq
  go_wp2_with fail
  refine (implNegatedNodes _ q.length q _ R_q.out hl4 hz4).mono ?_
  rintro e w2 ⟨v_bits, rfl, o_bits, g2⟩
  have G2 := G1.trans g2
  have R_bits := Lib.hid (rd_of_own o_bits)
  obtain ⟨a_bits, c_bits, rfl⟩ := own_slice o_bits
  clear o_bits
  go_wp2_with fail
  refine (implPositiveDeps _ q.length q _ (R_q.out.grew g2) hl4 hz4).mono ?_
  rintro e w3 ⟨v_pos, rfl, o_pos, g3⟩
  have G3 := G2.trans g3
  have R_pos := Lib.hid (rd_of_own o_pos)
  obtain ⟨a_pos, c_pos, rfl⟩ := own_slice o_pos
  clear o_pos
  go_wp2_with fail
  refine (implNegativeDeps _ q.length q _ (R_q.out.grew (g2.trans g3)) hl4 hz4).mono ?_
  rintro e w4 ⟨v_neg, rfl, o_neg, g4⟩
  have G4 := G3.trans g4
  have R_neg := Lib.hid (rd_of_own o_neg)
  obtain ⟨a_neg, c_neg, rfl⟩ := own_slice o_neg
  clear o_neg
  go_wp2_with fail
  refine (specNegatedNodes _ q.length q _ (R_q.out.grew ((g2.trans g3).trans g4)) hl4 hz4).mono ?_
  rintro e w5 ⟨v_b2, rfl, o_b2, g5⟩
  have G5 := G4.trans g5
  have R_b2 := Lib.hid (rd_of_own o_b2)
  obtain ⟨a_b2, c_b2, rfl⟩ := own_slice o_b2
  clear o_b2
  have hs_bits := sameB_yes (rfl : (negL q) = negL q)
  go_wp2_with fail
  refine (sameBools _ _ _ _ _ _ _ (R_bits.out.grew ((g3.trans g4).trans g5)) R_b2.out L0 L0).mono ?_
  rintro e w6 ⟨he, g6⟩
  have G6 := G5.trans g6
  rw [hs_bits] at he
  subst he
  go_wp2_with fail
  refine (specPositiveDeps _ q.length q _ (R_q.out.grew ((((g2.trans g3).trans g4).trans g5).trans g6)) hl4 hz4).mono ?_
  rintro e w7 ⟨v_p2, rfl, o_p2, g7⟩
  have G7 := G6.trans g7
  have R_p2 := Lib.hid (rd_of_own o_p2)
  obtain ⟨a_p2, c_p2, rfl⟩ := own_slice o_p2
  clear o_p2
  have hs_pos := sameB_yes (rfl : (depsL q false) = depsL q false)
  go_wp2_with fail
  refine (sameTexts _ _ _ _ _ _ _ (R_pos.out.grew (((g4.trans g5).trans g6).trans g7)) R_p2.out L1 L1).mono ?_
  rintro e w8 ⟨he, g8⟩
  have G8 := G7.trans g8
  rw [hs_pos] at he
  subst he
  go_wp2_with fail
  refine (specNegativeDeps _ q.length q _ (R_q.out.grew ((((((g2.trans g3).trans g4).trans g5).trans g6).trans g7).trans g8)) hl4 hz4).mono ?_
  rintro e w9 ⟨v_n2, rfl, o_n2, g9⟩
  have G9 := G8.trans g9
  have R_n2 := Lib.hid (rd_of_own o_n2)
  obtain ⟨a_n2, c_n2, rfl⟩ := own_slice o_n2
  clear o_n2
  have hs_neg := sameB_yes (rfl : (depsL q true) = depsL q true)
  go_wp2_with fail
  refine (sameTexts _ _ _ _ _ _ _ (R_neg.out.grew ((((g5.trans g6).trans g7).trans g8).trans g9)) R_n2.out L2 L2).mono ?_
  rintro e w10 ⟨he, g10⟩
  have G10 := G9.trans g10
  rw [hs_neg] at he
  subst he
  go_wp2_with fail
  refine (specIsValidQuery _ q.length q _ (R_q.out.grew ((((((((g2.trans g3).trans g4).trans g5).trans g6).trans g7).trans g8).trans g9).trans g10)) hl4 hz4).mono ?_
  rintro e w11 ⟨rfl, g11⟩
  have G11 := G10.trans g11
  obtain ⟨ok, hok⟩ : ∃ b, qryB q = b := ⟨_, rfl⟩
  have HOK := Lib.hid hok
  rw [hok]
  clear hok
  cases ok
  · have e0 : ((negL q).length : Int) = 0 := by rw [negL_no HOK.out]; rfl
    have e1 : ((depsL q false).length : Int) = 0 := by rw [depsL_no HOK.out]; rfl
    have e2 : ((depsL q true).length : Int) = 0 := by rw [depsL_no HOK.out]; rfl
    go_wp2
    go_ret
    exact ⟨rfl, G11⟩
  · skip
    go_wp2_with fail
    refine (specQueryDirs _ q.length q _ (R_q.out.grew (((((((((g2.trans g3).trans g4).trans g5).trans g6).trans g7).trans g8).trans g9).trans g10).trans g11)) hl4).mono ?_
    rintro e w12 ⟨v_all, rfl, o_all, g12⟩
    have G12 := G11.trans g12
    have R_all := Lib.hid (rd_of_own o_all)
    obtain ⟨a_all, c_all, rfl⟩ := own_slice o_all
    clear o_all
    have HALL := Lib.hid (fun s (hs : s ∈ qDirs q) => dep_all HOK.out hs)
    obtain ⟨nb, hnb⟩ : ∃ m, (negL q).length = m := ⟨_, rfl⟩
    have hlast := (negL_yes HOK.out).2
    have hnq := (negL_yes HOK.out).1
    have hpos := (qry_len HOK.out).1
    have RB := Lib.hid (R_bits.out.grew (((((((((g3.trans g4).trans g5).trans g6).trans g7).trans g8).trans g9).trans g10).trans g11).trans g12))
    have RP := Lib.hid (R_pos.out.grew ((((((((g4.trans g5).trans g6).trans g7).trans g8).trans g9).trans g10).trans g11).trans g12))
    have RN := Lib.hid (R_neg.out.grew (((((((g5.trans g6).trans g7).trans g8).trans g9).trans g10).trans g11).trans g12))
    have RA := Lib.hid R_all.out
    clear R_bits R_pos R_neg R_all R_b2 R_p2 R_n2
    obtain ⟨_, _, h1, _, hra⟩ := RA.out
    cases h1
    obtain ⟨_, _, h1, _, hrp⟩ := RP.out
    cases h1
    obtain ⟨_, _, h1, _, hrn⟩ := RN.out
    cases h1
    have LA := Lib.hid hra.len_map
    have LQ : (qDirs q).length ≤ 4000000 := by
      have h := Nat.le_trans (so_len (qDirsN q)) (show (qDirsN q).length ≤ q.length by unfold qDirsN; rw [List.length_map]; exact List.length_filter_le _ _)
      unfold qDirs; omega
    generalize hma : (qDirs q).length = ma at hra LQ
    generalize hmp : (depsL q false).length = mp at hrp L1
    generalize hmn : (depsL q true).length = mn at hrn L2
    have HMA := Lib.hid hma
    have HMP := Lib.hid hmp
    have HMN := Lib.hid hmn
    clear hma hmp hmn
    go_wp2
    go_loopw [8] (fun i wr => ∃ k : Nat, k ≤ ma ∧ i = .int .i64 k ∧ Grew w12 wr) (fun i _ => ma - (intOf i).toNat)
    case atStart => exact ⟨0, Nat.zero_le _, rfl, Grew.refl _⟩
    case round =>
      obtain ⟨k, hk, rfl, hbel⟩ := hrel
      by_cases hlt : k < ma
      · obtain ⟨b0, o0, s, rfl, hsk, e0⟩ := hra.one hlt
        have HS := Lib.hid (HALL.out s (List.mem_of_getElem? hsk.out))
        obtain ⟨W1, hW1⟩ : ∃ x, x = wr := ⟨_, rfl⟩
        have gW1 : Grew w12 W1 := by rw [hW1]; exact hbel
        have hk0 : (0 : Int) ≤ k := by omega
        have hkm : (k : Int) < ma := by omega
        subst hW1
        clear hbel
        go_wp2
        go_loopw [9, 10] (fun b i wr => ∃ (j : Nat) (c : Bool), j ≤ mp ∧ i = .int .i64 j ∧ b = .bool c ∧ Hid (hasB ((depsL q false).take j) s = c) ∧ Grew w12 wr) (fun _ i _ => mp - (intOf i).toNat)
        case atStart => exact ⟨0, false, Nat.zero_le _, rfl, rfl, Lib.hid rfl, gW1⟩
        case round =>
          obtain ⟨j, c, hj, rfl, rfl, hc, hbel⟩ := hrel
          by_cases hjt : j < mp
          · obtain ⟨b1, o1, y, rfl, hyk, e1⟩ := hrp.one hjt
            have f0 := grew_cell hbel e0
            have f1 := grew_cell hbel e1
            have hj0 : (0 : Int) ≤ j := by omega
            have hjm : (j : Int) < mp := by omega
            have HH := Lib.hid ((hasB_snoc (s := s) hyk.out).trans (by rw [hc.out]))
            have hcs : (y.toList == s.toList) = true ∨ (y.toList == s.toList) = false := by cases y.toList == s.toList <;> simp
            cases c
            · rcases hcs with hq | hq
              all_goals
                rw [hq] at HH
                go_wp2
                go_quiet (fail)
                go_wp2
                go_roundw
                case rel => exact ⟨j + 1, _, by omega, by go_num, rfl, HH, hbel.drewN _⟩
                case measure => simp [intOf]; omega
            · go_wp2
              go_quiet (fail)
              go_wp2
              go_roundw
              case rel => exact ⟨j + 1, true, by omega, by go_num, rfl, HH, hbel.drewN _⟩
              case measure => simp [intOf]; omega
          · obtain rfl : j = mp := by omega
            have hp := hc.out
            rw [take_all HMP.out] at hp
            have HP := Lib.hid hp
            clear hp hc
            go_wp2
            go_loopw [9, 11] (fun b i wr => ∃ (j : Nat) (d : Bool), j ≤ mn ∧ i = .int .i64 j ∧ b = .bool d ∧ Hid ((c || hasB ((depsL q true).take j) s) = d) ∧ Grew w12 wr) (fun _ i _ => mn - (intOf i).toNat)
            case atStart => exact ⟨0, c, Nat.zero_le _, rfl, rfl, Lib.hid (by simp [hasB]), hbel⟩
            case round =>
              obtain ⟨j2, d, hj2, rfl, rfl, hd2, hbel⟩ := hrel
              by_cases hjt : j2 < mn
              · obtain ⟨b1, o1, y, rfl, hyk, e1⟩ := hrn.one hjt
                have f0 := grew_cell hbel e0
                have f1 := grew_cell hbel e1
                have hj0 : (0 : Int) ≤ j2 := by omega
                have hjm : (j2 : Int) < mn := by omega
                have HH := Lib.hid (show (c || hasB ((depsL q true).take (j2 + 1)) s) = (d || (y.toList == s.toList)) by rw [hasB_snoc hyk.out, ← Bool.or_assoc, hd2.out])
                have hcs : (y.toList == s.toList) = true ∨ (y.toList == s.toList) = false := by cases y.toList == s.toList <;> simp
                cases d
                · rcases hcs with hq | hq
                  all_goals
                    rw [hq] at HH
                    go_wp2
                    go_quiet (fail)
                    go_wp2
                    go_roundw
                    case rel => exact ⟨j2 + 1, _, by omega, by go_num, rfl, HH, hbel.drewN _⟩
                    case measure => simp [intOf]; omega
                · go_wp2
                  go_quiet (fail)
                  go_wp2
                  go_roundw
                  case rel => exact ⟨j2 + 1, true, by omega, by go_num, rfl, HH, hbel.drewN _⟩
                  case measure => simp [intOf]; omega
              · obtain rfl : j2 = mn := by omega
                have hd3 := hd2.out
                rw [take_all HMN.out] at hd3
                have hdt : d = true := by
                  rw [← hd3, ← HP.out]
                  rcases HS.out with h | h
                  · rw [hasB_iff.2 h]; rfl
                  · rw [hasB_iff.2 h, Bool.or_true]
                clear hd3 hd2
                subst hdt
                go_wp2
                go_roundw
                case rel => exact ⟨k + 1, by omega, by go_num, hbel⟩
                case measure => simp [intOf]; omega
      · obtain rfl : k = ma := by omega
        have hnb1 : nb = q.length := by rw [← hnb]; exact hnq
        subst hnb1
        rw [hnb] at RB
        obtain ⟨_, _, h1, _, hrb⟩ := RB.out
        cases h1
        obtain ⟨b1, o1, y, rfl, hyk, e1⟩ := hrb.one (i := q.length - 1) (by omega)
        obtain rfl : y = false := Option.some.inj (hyk.out.symm.trans hlast)
        have f1 := grew_cell hbel e1
        have hq0 : ((q.length - 1 : Nat) : Int) = (q.length : Int) - 1 := by omega
        have hi0 : (0 : Int) ≤ (q.length : Int) - 1 := by omega
        have hi1 : (q.length : Int) - 1 < q.length := by omega
        have hi2 : ((q.length : Int) - 1).toNat = q.length - 1 := by omega
        go_wp2
        go_ret
        exact ⟨rfl, G12.trans hbel⟩
end Go.Proofs.Ytejgpghcahinhaa.fnDependencies
