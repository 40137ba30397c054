/- Texts K5, K6, Z15, as far as they are needed. -/
import Derived.Test.YtkkbhhmhkpgbkaaGreatFp6
import Derived.Test.YtkkbhhmhkpgbkaaGreatFp1
import Derived.Test.YtkkbhhmhkpgbkaaGreatFp3
import Derived.Test.YtkkbhhmhkpgbkaaGreatFp7
namespace Go.Proofs.YtkkbhhmhkpgbkaaGreat
open Go.RowKit Go.Sort
set_option linter.unusedVariables false
theorem plc_none {xs : List Dr} {s : ByteArray} {i : Int} (h : plcF xs s = none) (hp : plc xs s xs.length i) : i = -1 := by
  rcases plc_cases rfl hp with ⟨h1, _⟩ | ⟨k, h1, h2, h3⟩
  · exact h1
  · rw [h3.out] at h; cases h
theorem plc_some {xs : List Dr} {s : ByteArray} {i : Int} {j : Nat} (h : plcF xs s = some j) (hp : plc xs s xs.length i) : i = j := by
  rcases plc_cases rfl hp with ⟨_, h1⟩ | ⟨k, h1, h2, h3⟩
  · rw [h1.out] at h; cases h
  · rw [h3.out] at h; cases h; exact h1
theorem abv_bd {L : List Nat} {b : Nat} (h : Bd b L) {xs : List Dr} {l : List ByteArray} {m : Nat} (hm : m ≤ 1) : abv L (edg xs l m) ≤ b + 1 :=
  abv_le fun e he => by have h1 := mem_edg he; have h2 := h e.1; omega
theorem one_nats (xs : List Nat) : ∀ u ∈ natsV xs, u.oneCell' = true := by
  intro u hu; unfold natsV at hu; simp at hu; obtain ⟨x, _, rfl⟩ := hu; rfl
theorem natsV_len (L : List Nat) : (natsV L).length = L.length := by unfold natsV; simp
set_option maxRecDepth 100000 in
set_option maxHeartbeats 1000000 in
theorem implStrataAbove (va vb vc : Value) (xs : List Dr) (L : List Nat) (ns : List ByteArray) (m : Nat) (w : World) (ha : RdDs w va xs) (hb : Rd w vb 1 L.length (natsV L)) (hc : Rd w vc 1 ns.length (strs ns)) (hx : xs.length ≤ 1900000) (hl : L.length = xs.length) (hns : ns.length ≤ 4000000) (hbd : Bd 1000000 L) (hm : m ≤ 1) :
    Calls Tryz.prog 127 #[va, vb, vc, .int .i64 (m : Int)] w fun e w' => e = .returned (.int .i64 (abv L (edg xs ns m) : Int)) ∧ Grew w w' := by
  have HD := Lib.hid ha
  have HBD := Lib.hid hbd
  obtain ⟨qs, ⟨a, ca, rfl, hca, hra⟩, hall⟩ := ha
  clear hall hra hbd
  obtain ⟨b, cb, rfl, hcb, hrb⟩ := hb
  obtain ⟨c, cc, rfl, hcc, hrc⟩ := hc
  have HXL := Lib.hid hl
  generalize hn : ns.length = n at hns hrc hcc
  have HN := Lib.hid hn
  clear hn
  generalize hq : L.length = q at hl hrb hcb
  have HQ := Lib.hid hq
  have HLQ := Lib.hid hl
  clear hq hl
  go_enter Tryz.func127, Tryz.ntmps127
  go_wp2
  go_loopw [9, 15] (fun v i wr => ∃ k r : Nat, k ≤ n ∧ i = .int .i64 k ∧ v = .int .i64 r ∧ r ≤ 1000001 ∧ Hid (r = abv L (edg xs (ns.take k) m)) ∧ Grew w wr) (fun _ i _ => n - (intOf i).toNat)
  case atStart => exact ⟨0, 0, Nat.zero_le _, rfl, rfl, Nat.zero_le _, Lib.hid (by rw [edg_zero]; rfl), Grew.refl _⟩
  case round =>
    obtain ⟨k, r, hk, rfl, rfl, hr2, hr, hbel⟩ := hrel
    by_cases hlt : k < n
    · obtain ⟨b1, o1, s, rfl, hsk, c0⟩ := (hrc.grew hbel).one hlt
      cases hp : plcF xs s with
      | none =>
        have HP := Lib.hid hp
        clear hp
        go_wp2_with (go_at_call 155; refine (implDirAt _ xs s _ (HD.out.grew hbel) (by omega)).mono ?_; rintro e w2 ⟨i2, rfl, hp2, hb2⟩; obtain rfl := plc_none HP.out hp2; clear hp2)
        go_roundw
        case rel => exact ⟨k + 1, r, by omega, by go_num, rfl, hr2, Lib.hid (by rw [edg_no hsk.out HP.out]; exact hr.out), hbel.trans hb2⟩
        case measure => simp [intOf]; omega
      | some j =>
        have hj := plcF_lt hp
        have HP := Lib.hid hp
        clear hp
        have hjq : j < q := by have := HLQ.out; omega
        obtain ⟨b2, o2, y, rfl, hyk, d0⟩ := (hrb.grew hbel).one hjq
        have hy := Lib.hid (gt_at hyk.out)
        have hy2 : y ≤ 1000000 := by have h1 := HBD.out j; rw [hy.out] at h1; exact h1
        have HE : abv L (edg xs (ns.take (k + 1)) m) = max r (y + m) := by
          rw [edg_yes hsk.out HP.out, abv_snoc, ← hr.out, hy.out]
        have HE := Lib.hid HE
        have hw : IntKind.i64.wrap ((y : Int) + (m : Int)) = ((y + m : Nat) : Int) := by simp [IntKind.wrap, IntKind.bits, IntKind.signed]; omega
        have hjq2 : (j : Int) < (q : Int) := by omega
        go_wp2_with (go_at_call 155; refine (implDirAt _ xs s _ (HD.out.grew hbel) (by omega)).mono ?_; rintro e w2 ⟨i2, rfl, hp2, hb2⟩; obtain rfl := plc_some HP.out hp2; clear hp2; have d1 := grew_cell hb2 d0)
        go_roundw
        case rel => exact ⟨k + 1, max r (y + m), by omega, by go_num, by first | rfl | (congr 1; omega) | (simp; omega), by omega, Lib.hid HE.out.symm, hbel.trans hb2⟩
        case measure => simp [intOf]; omega
    · obtain rfl : k = n := by omega
      go_wp2
      go_ret
      exact ⟨ret_int (by rw [hr.out, take_all HN.out]), hbel⟩
set_option maxRecDepth 100000 in
set_option maxHeartbeats 4000000 in
theorem l13Raise (va : Value) (a0 : Option Addr) (cb : Nat) (xs : List Dr) (L : List Nat) (n : Nat) (w : World) (ha : RdDs w va xs) (hb : RdA w a0 1 n (natsV L)) (hl : L.length = xs.length) (hxn : xs.length = n) (h5 : n ≤ 5) (h9 : ∀ x, x ∈ xs → x.query.length ≤ 9) (hz : szAll Dr.sz xs ≤ 4000000) (hbd : Bd 900000 L) :
    Calls Tryz.prog 103 #[va, .slice a0 n cb] w fun e w' => ∃ v, e = .returned v ∧ w'.ownsRow w.heap.size 3 1 v n (natsV (raise n (dirE xs) L)) ∧ Grew w w' := by
  have HD := Lib.hid ha
  have HBD := Lib.hid hbd
  have H9 := Lib.hid h9
  have HZ := Lib.hid hz
  obtain ⟨qs, ⟨a, ca, rfl, hca, hra⟩, hall⟩ := ha
  have HA := Lib.hid hall
  have HX := Lib.hid hxn
  have HL := Lib.hid (hl.trans hxn)
  rw [hxn] at hra hca
  have HD2 := Lib.hid (show RdDs w (.slice a n ca) xs by have := HD.out; rw [hxn] at this; exact this)
  rw [hxn]
  have hxs5 : xs.length ≤ 5 := by omega
  clear hall hbd h9 HD hl hxn
  obtain ⟨i0, hi, hz0, hz1, hz2⟩ := info_parts Tryz.infoInt
  cases a0 with
  | none =>
    obtain rfl : n = 0 := by
      rcases Nat.eq_zero_or_pos n with h | h
      · exact h
      · obtain ⟨b, oo, h2, _⟩ := hb.2 h; cases h2
    clear hb
    go_enter Tryz.func103, Tryz.ntmps103
    go_wp2
    go_loopw [6] (fun i wr => i = .int .i64 0 ∧ Grew (w.alloc (.cells #[] 3)) wr) (fun _ _ => 0)
    case atStart => exact ⟨rfl, Grew.refl _⟩
    case round =>
      obtain ⟨rfl, hg⟩ := hrel
      go_wp2
      go_ret
      refine ⟨_, rfl, ?_, ((Grew.refl _).alloc _).trans hg⟩
      have e0 : L = [] := List.length_eq_zero_iff.1 HL.out
      rw [e0]
      exact ownsRow_grew (lit_own w 3 1) hg
  | some ad =>
    have HB := Lib.hid hb
    clear hb
    go_enter Tryz.func103, Tryz.ntmps103
    go_wp2_with (at_builtin; refine wpList_append_own _ rfl _ _ 35 rfl w.heap.size 3 i0 (.int .i64 0) 1 8 Tryz.underlying35 hi hz0 hz1 hz2 rfl (by decide) _ 0 [] rfl (lit_own w 3 1) ad n cb (natsV L) rfl (by rw [natsV_len, HL.out, Nat.mul_one]) (rd_news HB.out ((Grew.refl _).alloc _)) (one_nats _) (by unfold maxLen; omega) (by omega) (by simp) ?_)
    intro v0 w1 hown0 hgr0 _
    have hg1 : Grew w w1 := ((Grew.refl w).alloc _).grown hgr0 (fun k h => by cases h; exact Nat.le_refl _)
    have HO := Lib.hid (show w1.ownsRow w.heap.size 3 1 v0 n (natsV L) by simpa using hown0)
    clear hown0 hgr0 HB hi hz0 hz1 hz2
    obtain ⟨oa, oc, rfl⟩ := own_slice HO.out
    go_wp2
    go_loopw [6] (fun i wr => ∃ k : Nat, k ≤ n ∧ i = .int .i64 k ∧ Hid (wr.ownsRow w.heap.size 3 1 (.slice oa n oc) n (natsV (rsT xs L k))) ∧ Grew w wr) (fun i _ => n - (intOf i).toNat)
    case atStart => exact ⟨0, Nat.zero_le _, rfl, HO, hg1⟩
    case round =>
      obtain ⟨k, hk, rfl, hown, hbel⟩ := hrel
      by_cases hlt : k < n
      · obtain ⟨b1, o1, p, rfl, hpk, c0, c1⟩ := hra.getP2 hlt
        obtain ⟨x, hxk, hxr⟩ := HA.out.get hpk.out
        have hmem := Lib.hid (List.mem_of_getElem? hxk.out)
        have hxs := dir_sz HZ.out hxk.out
        have hq9 := H9.out x hmem.out
        obtain ⟨pn, pq⟩ := p
        obtain ⟨hxn, hxq⟩ := hxr
        simp only at hxn hxq c0 c1
        subst hxn
        have HQ := Lib.hid hxq
        obtain ⟨pa, pc, rfl, hpc, hpr⟩ := hxq
        clear hpr hpc c0
        have hpl : (depsL x.query false).length ≤ 9 := Nat.le_trans (depsL_le _ _) hq9
        have hnl : (depsL x.query true).length ≤ 9 := Nat.le_trans (depsL_le _ _) hq9
        have HB0 := Lib.hid (bd_rsT (xs := xs) HBD.out H9.out k)
        obtain ⟨ga, rfl⟩ : ∃ g, oa = some ⟨g, 0, none⟩ := by
          obtain ⟨_, ⟨h1, h2⟩ | ⟨g, cap, cur, h1, _⟩⟩ := hown.out
          · omega
          · cases h1; exact ⟨g, rfl⟩
        have hga := (hown.out.lt ga rfl).1
        have hga2 := (hown.out.lt ga rfl).2
        have HLT := Lib.hid (show (rsT xs L k).length = n by rw [rsT_len]; exact HL.out)
        obtain ⟨W1, rfl⟩ : ∃ y, y = wr := ⟨_, rfl⟩
        have c1P := grew_cell hbel c1
        have HBLP := Lib.hid (fun t => bd_rsP (xs := xs) HB0.out k (depsL x.query false) 0 (by omega) t)
        go_wp2_with (go_at_call 137; refine (specPositiveDeps _ x.query.length x.query _ (HQ.out.grew hbel) hxs.2.1 hxs.2.2).mono ?_; rintro e w4P ⟨v4, rfl, hq4, hb4P⟩; obtain ⟨qaP, qcP, rfl⟩ := own_slice hq4; have HQ4P := Lib.hid (show Own w4P W1.heap.size w4P.heap.size 9 1 _ _ _ from ⟨hq4, fun b hb => (hq4.lt b hb).2⟩); clear hq4)
        have HO4P := Lib.hid (ownsRow_grew hown.out hb4P)
        have hg4P := hbel.trans hb4P
        clear c1P
        generalize hqP : (depsL x.query false).length = q at HQ4P
        have HQLP := Lib.hid hqP
        rw [hqP] at hpl
        clear hqP
        go_loopw [8] (fun i wr => ∃ t : Nat, t ≤ q ∧ i = .int .i64 t ∧ Hid (wr.ownsRow w.heap.size 3 1 (.slice (some ⟨ga, 0, none⟩) n oc) n (natsV (rsP xs (rsT xs L k) k (depsL x.query false) 0 t))) ∧ Touch w.heap.size W1.heap.size w4P wr) (fun i _ => q - (intOf i).toNat)
        case atStart => exact ⟨0, Nat.zero_le _, rfl, Lib.hid (by rw [rsP_zero]; exact HO4P.out), Touch.refl _ _ _⟩
        case round =>
          obtain ⟨t, ht, rfl, hownP, htch⟩ := hrel
          have hbel2 : Grew w wr := Touch.new hg4P htch (Nat.le_refl _)
          have hdepP := Own.touch HQ4P.out htch (.inr (Nat.le_refl _))
          have hwl : w.heap.size ≤ W1.heap.size := hbel.size
          by_cases hlt2 : t < q
          · obtain ⟨b2, o2, s, hda, hsk, d0⟩ := (Rd.rda (rd_of_own hdepP.1)).one hlt2
            subst hda
            clear hdepP
            cases hp : plcF xs s with
            | none =>
              have HP := Lib.hid hp
              clear hp
              go_wp2_with (go_at_call 138; refine (l11Place _ xs s _ (HD2.out.grew hbel2) (by omega)).mono ?_; rintro e w2 ⟨i2, rfl, hp2, rfl⟩; obtain rfl := plc_none HP.out hp2; clear hp2)
              go_quiet (fail)
              go_wp2
              go_roundw
              case rel => exact ⟨t + 1, by omega, by go_num, Lib.hid (by rw [rsP_no hsk.out HP.out]; exact ownsRow_grew hownP.out ((Grew.refl _).drewN _)), htch.drewN _⟩
              case measure => simp [intOf]; omega
            | some j =>
              have hj0 := plcF_lt hp
              have HP := Lib.hid hp
              clear hp
              have hjn : j < n := by have := HX.out; omega
              obtain ⟨y, hyk, e1⟩ := own_one hownP.out hjn
              obtain ⟨z, hzk, e2⟩ := own_one hownP.out hlt
              have hy := Lib.hid (gt_at hyk.out)
              have hzg := Lib.hid (gt_at hzk.out)
              have hyb : y ≤ 900200 := by
                have h1 := HBLP.out t j
                rw [hy.out] at h1
                have h2 := depsL_le x.query false
                have h3 := depsL_le x.query true
                omega
              have hfz := hownP.out.frozenAt k
              have hjq2 : (j : Int) < (n : Int) := by omega
              have hkq2 : (k : Int) < (n : Int) := by omega
              have hw : IntKind.i64.wrap ((y : Int) + 1) = ((y + 1 : Nat) : Int) := by simp [IntKind.wrap, IntKind.bits, IntKind.signed]; omega
              by_cases hc : z < y + 0
              · have hc2 : (z : Int) < (y : Int) := by omega
                have HST := Lib.hid (fun K => store_one (ownsRow_grew hownP.out ((Grew.refl wr).drewN K)) k (y + 0))
                have HU := Lib.hid (show (rsP xs (rsT xs L k) k (depsL x.query false) 0 t).set k (y + 0) = rsP xs (rsT xs L k) k (depsL x.query false) 0 (t + 1) by rw [rsP_yes hsk.out HP.out, upd_yes (by rw [hy.out, hzg.out]; exact hc), hy.out])
                clear hc
                go_wp2_with (go_at_call 138; refine (l11Place _ xs s _ (HD2.out.grew hbel2) (by omega)).mono ?_; rintro e w2 ⟨i2, rfl, hp2, rfl⟩; obtain rfl := plc_some HP.out hp2; clear hp2)
                go_quiet (fail)
                go_wp2
                go_roundw
                case rel => exact ⟨t + 1, by omega, by go_num, Lib.hid (by rw [← HU.out]; exact HST.out _), (htch.drewN _).setCell (p := ⟨ga, k, none⟩) hga hga2 _⟩
                case measure => simp [intOf]; omega
              · have hc2 : ¬ ((z : Int) < (y : Int)) := by omega
                have HU := Lib.hid (show rsP xs (rsT xs L k) k (depsL x.query false) 0 t = rsP xs (rsT xs L k) k (depsL x.query false) 0 (t + 1) by rw [rsP_yes hsk.out HP.out, upd_no (by rw [hy.out, hzg.out]; exact hc)])
                clear hc
                go_wp2_with (go_at_call 138; refine (l11Place _ xs s _ (HD2.out.grew hbel2) (by omega)).mono ?_; rintro e w2 ⟨i2, rfl, hp2, rfl⟩; obtain rfl := plc_some HP.out hp2; clear hp2)
                go_quiet (fail)
                go_wp2
                go_roundw
                case rel => exact ⟨t + 1, by omega, by go_num, Lib.hid (by rw [← HU.out]; exact ownsRow_grew hownP.out ((Grew.refl _).drewN _)), htch.drewN _⟩
                case measure => simp [intOf]; omega
          · obtain rfl : q = t := by omega
            have hga3N : ga < wr.heap.size := (hownP.out.lt ga rfl).2
            clear hdepP
            obtain ⟨W2, rfl⟩ : ∃ y, y = wr := ⟨_, rfl⟩
            have c1N := grew_cell hbel2 c1
            have HBLN := Lib.hid (fun t => bd_rsP (xs := xs) (bd_rsP (xs := xs) HB0.out k (depsL x.query false) 0 (by omega) q) k (depsL x.query true) 1 (by omega) t)
            go_wp2_with (go_at_call 139; refine (specNegativeDeps _ x.query.length x.query _ (HQ.out.grew hbel2) hxs.2.1 hxs.2.2).mono ?_; rintro e w4N ⟨v4, rfl, hq4, hb4N⟩; obtain ⟨qaN, qcN, rfl⟩ := own_slice hq4; have HQ4N := Lib.hid (show Own w4N W2.heap.size w4N.heap.size 9 1 _ _ _ from ⟨hq4, fun b hb => (hq4.lt b hb).2⟩); clear hq4)
            have HO4N := Lib.hid (ownsRow_grew hownP.out hb4N)
            have hg4N := hbel2.trans hb4N
            clear c1N
            generalize hqN : (depsL x.query true).length = r at HQ4N
            have HQLN := Lib.hid hqN
            rw [hqN] at hnl
            clear hqN
            go_loopw [11] (fun i wr => ∃ t : Nat, t ≤ r ∧ i = .int .i64 t ∧ Hid (wr.ownsRow w.heap.size 3 1 (.slice (some ⟨ga, 0, none⟩) n oc) n (natsV (rsP xs (rsP xs (rsT xs L k) k (depsL x.query false) 0 q) k (depsL x.query true) 1 t))) ∧ Touch w.heap.size W2.heap.size w4N wr) (fun i _ => r - (intOf i).toNat)
            case atStart => exact ⟨0, Nat.zero_le _, rfl, Lib.hid (by rw [rsP_zero]; exact HO4N.out), Touch.refl _ _ _⟩
            case round =>
              obtain ⟨t, ht, rfl, hownN, htch⟩ := hrel
              have hbel3 : Grew w wr := Touch.new hg4N htch (Nat.le_refl _)
              have hdepN := Own.touch HQ4N.out htch (.inr (Nat.le_refl _))
              have hwl : w.heap.size ≤ W2.heap.size := hbel2.size
              by_cases hlt2 : t < r
              · obtain ⟨b2, o2, s, hda, hsk, d0⟩ := (Rd.rda (rd_of_own hdepN.1)).one hlt2
                subst hda
                clear hdepN
                cases hp : plcF xs s with
                | none =>
                  have HP := Lib.hid hp
                  clear hp
                  go_wp2_with (go_at_call 138; refine (l11Place _ xs s _ (HD2.out.grew hbel3) (by omega)).mono ?_; rintro e w2 ⟨i2, rfl, hp2, rfl⟩; obtain rfl := plc_none HP.out hp2; clear hp2)
                  go_quiet (fail)
                  go_wp2
                  go_roundw
                  case rel => exact ⟨t + 1, by omega, by go_num, Lib.hid (by rw [rsP_no hsk.out HP.out]; exact ownsRow_grew hownN.out ((Grew.refl _).drewN _)), htch.drewN _⟩
                  case measure => simp [intOf]; omega
                | some j =>
                  have hj0 := plcF_lt hp
                  have HP := Lib.hid hp
                  clear hp
                  have hjn : j < n := by have := HX.out; omega
                  obtain ⟨y, hyk, e1⟩ := own_one hownN.out hjn
                  obtain ⟨z, hzk, e2⟩ := own_one hownN.out hlt
                  have hy := Lib.hid (gt_at hyk.out)
                  have hzg := Lib.hid (gt_at hzk.out)
                  have hyb : y ≤ 900200 := by
                    have h1 := HBLN.out t j
                    rw [hy.out] at h1
                    have h2 := depsL_le x.query false
                    have h3 := depsL_le x.query true
                    omega
                  have hfz := hownN.out.frozenAt k
                  have hjq2 : (j : Int) < (n : Int) := by omega
                  have hkq2 : (k : Int) < (n : Int) := by omega
                  have hw : IntKind.i64.wrap ((y : Int) + 1) = ((y + 1 : Nat) : Int) := by simp [IntKind.wrap, IntKind.bits, IntKind.signed]; omega
                  by_cases hc : z < y + 1
                  · have hc2 : (z : Int) < (y : Int) + 1 := by omega
                    have HST := Lib.hid (fun K => store_one (ownsRow_grew hownN.out ((Grew.refl wr).drewN K)) k (y + 1))
                    have HU := Lib.hid (show (rsP xs (rsP xs (rsT xs L k) k (depsL x.query false) 0 q) k (depsL x.query true) 1 t).set k (y + 1) = rsP xs (rsP xs (rsT xs L k) k (depsL x.query false) 0 q) k (depsL x.query true) 1 (t + 1) by rw [rsP_yes hsk.out HP.out, upd_yes (by rw [hy.out, hzg.out]; exact hc), hy.out])
                    clear hc
                    go_wp2_with (go_at_call 138; refine (l11Place _ xs s _ (HD2.out.grew hbel3) (by omega)).mono ?_; rintro e w2 ⟨i2, rfl, hp2, rfl⟩; obtain rfl := plc_some HP.out hp2; clear hp2)
                    go_quiet (fail)
                    go_wp2
                    go_roundw
                    case rel => exact ⟨t + 1, by omega, by go_num, Lib.hid (by rw [← HU.out]; exact HST.out _), (htch.drewN _).setCell (p := ⟨ga, k, none⟩) hga hga3N _⟩
                    case measure => simp [intOf]; omega
                  · have hc2 : ¬ ((z : Int) < (y : Int) + 1) := by omega
                    have HU := Lib.hid (show rsP xs (rsP xs (rsT xs L k) k (depsL x.query false) 0 q) k (depsL x.query true) 1 t = rsP xs (rsP xs (rsT xs L k) k (depsL x.query false) 0 q) k (depsL x.query true) 1 (t + 1) by rw [rsP_yes hsk.out HP.out, upd_no (by rw [hy.out, hzg.out]; exact hc)])
                    clear hc
                    go_wp2_with (go_at_call 138; refine (l11Place _ xs s _ (HD2.out.grew hbel3) (by omega)).mono ?_; rintro e w2 ⟨i2, rfl, hp2, rfl⟩; obtain rfl := plc_some HP.out hp2; clear hp2)
                    go_quiet (fail)
                    go_wp2
                    go_roundw
                    case rel => exact ⟨t + 1, by omega, by go_num, Lib.hid (by rw [← HU.out]; exact ownsRow_grew hownN.out ((Grew.refl _).drewN _)), htch.drewN _⟩
                    case measure => simp [intOf]; omega
              · obtain rfl : r = t := by omega
                go_wp2
                go_roundw
                case rel => exact ⟨k + 1, by omega, by go_num, Lib.hid (by rw [rsT_succ hxk.out HQLP.out HQLN.out]; exact hownN.out), hbel3⟩
                case measure => simp [intOf]; omega
      · obtain rfl : k = n := by omega
        go_wp2
        go_ret
        exact ⟨_, rfl, by have h1 := hown.out; rw [rsT_all] at h1; exact h1, hbel⟩
end Go.Proofs.YtkkbhhmhkpgbkaaGreat
namespace Go.Proofs.YtkkbhhmhkpgbkaaGreat
open Go.RowKit Go.Sort
set_option linter.unusedVariables false
theorem stB_yes {xs : List Dr} {n : Nat} (hn : xs.length = n) (h1 : dirsB xs = true) (h2 : strB n (dirE xs) = true) : stB xs = true ∧ stL xs = strL n (dirE xs) := by
  subst hn
  have h : stB xs = true := by unfold stB; rw [h1, h2]; rfl
  exact ⟨h, by unfold stL; rw [if_pos h]⟩
theorem stB_no1 {xs : List Dr} (h1 : dirsB xs = false) : stB xs = false ∧ stL xs = [] := by
  have h : stB xs = false := by unfold stB; rw [h1]; rfl
  exact ⟨h, by unfold stL; rw [h]; rfl⟩
theorem stB_no2 {xs : List Dr} {n : Nat} (hn : xs.length = n) (h2 : strB n (dirE xs) = false) : stB xs = false ∧ stL xs = [] := by
  subst hn
  have h : stB xs = false := by unfold stB; rw [h2]; simp
  exact ⟨h, by unfold stL; rw [h]; rfl⟩
theorem stL_len {xs : List Dr} (h : stB xs = true) : (stL xs).length = xs.length := by unfold stL; rw [if_pos h]; exact strL_len _ _
theorem stL_le (xs : List Dr) : (stL xs).length ≤ xs.length := by
  cases h : stB xs with
  | true => rw [stL_len h]; exact Nat.le_refl _
  | false => unfold stL; rw [h]; exact Nat.zero_le _
theorem same_nats {L M : List Nat} : sameB (L.map fun (x : Nat) => (x : Int)) (M.map fun (x : Nat) => (x : Int)) = decide (L = M) := by
  by_cases h : L = M
  · subst h; rw [sameB_yes rfl]; simp
  · rw [sameB_no (fun e => h ?_)]
    · simp [h]
    · have := congrArg (List.map Int.toNat) e
      simpa [List.map_map, Function.comp_def] using this
theorem bd_strL {xs : List Dr} {n r : Nat} (hn : xs.length = n) (h5 : n ≤ 5) (h9 : ∀ x, x ∈ xs → x.query.length ≤ 9) (hr : r ≤ 30) : Bd 900000 (iter n (dirE xs) r) := by
  refine bd_mono (bd_iter hn h9 r) ?_
  have h1 : 18 * n * r ≤ 90 * 30 := Nat.mul_le_mul (by omega) hr
  omega
theorem rd_nats {w : World} {v : Value} {n : Nat} {L : List Nat} (h : Rd w v 1 n (natsV L)) : Rd w v 1 n (ints (L.map fun (x : Nat) => (x : Int))) := by rw [← natsV_ints]; exact h
def oneIf : Value → Nat | .bool true => 1 | _ => 0
set_option maxRecDepth 100000 in
set_option maxHeartbeats 2000000 in
theorem specStrata (va : Value) (xs : List Dr) (w : World) (ha : RdDs w va xs) (hx : xs.length ≤ 4000000) (hz : szAll Dr.sz xs ≤ 4000000) :
    Calls Tryz.prog 66 #[va] w fun e w' => ∃ v, e = .returned (.tuple #[v, .bool (stB xs)]) ∧ w'.ownsRow w.heap.size 3 1 v (stL xs).length (natsV (stL xs)) ∧ Grew w w' := by
  have HD := Lib.hid ha
  have HZ := Lib.hid hz
  have HX0 := Lib.hid hx
  obtain ⟨qs, ⟨a, ca, rfl, hca, hra⟩, hall⟩ := ha
  clear hall hra hca
  obtain ⟨vb, hvb⟩ : ∃ b, dirsB xs = b := ⟨_, rfl⟩
  have HV := Lib.hid hvb
  clear hvb hz
  have hcs : vb = true ∨ vb = false := by cases vb <;> simp
  rcases hcs with rfl | rfl
  · have H9 := Lib.hid (dirs_use HV.out).2
    have h5 := (dirs_use HV.out).1
    obtain ⟨n, hn⟩ : ∃ n, xs.length = n := ⟨_, rfl⟩
    have HX := Lib.hid hn
    have HD2 := Lib.hid (show RdDs w (.slice a n ca) xs by have := HD.out; rw [hn] at this; exact this)
    rw [hn] at h5 ⊢
    clear HD hx
    obtain ⟨N, hN⟩ : ∃ N, n * n = N := ⟨_, rfl⟩
    have hN25 : N ≤ 25 := by have := Nat.mul_le_mul h5 h5; omega
    have hnn : IntKind.i64.wrap ((n : Int) * (n : Int)) = (N : Int) := by
      have : (n : Int) * (n : Int) = (N : Int) := by rw [← hN]; exact (Int.natCast_mul n n).symm
      rw [this]; simp [IntKind.wrap, IntKind.bits, IntKind.signed]; omega
    have hnn1 : IntKind.i64.wrap ((N : Int) + 1) = ((N + 1 : Nat) : Int) := by simp [IntKind.wrap, IntKind.bits, IntKind.signed]; omega
    have HN := Lib.hid hN
    clear hN hn
    obtain ⟨i0, hi, hz0, hz1, hz2⟩ := info_parts Tryz.infoInt
    obtain ⟨sb, hsb⟩ : ∃ b, strB n (dirE xs) = b := ⟨_, rfl⟩
    have HSB := Lib.hid hsb
    clear hsb
    go_enter Tryz.func66, Tryz.ntmps66
    go_wp2_with fail
    refine (specIsValidDirs _ xs _ HD2.out HX0.out HZ.out).mono ?_
    rintro e w1 ⟨he, hb⟩
    rw [HV.out] at he; subst he
    go_wp2_with (at_make; refine wpList_make_full _ rfl _ _ 35 rfl w1.heap.size 3 i0 (.int .i64 0) 1 Tryz.underlying35 hi hz0 hz1 _ _ _ _ n rfl rfl rfl rfl ?b2 ?b3 (Nat.le_refl _) ?_)
    case b2 => rw [hz2]; omega
    case b3 => unfold maxLen; omega
    intro w0 hown0 hgrow0
    clear hi hz0 hz1 hz2
    have hb0 : Grew w1 w0 := (Grew.refl _).grown hgrow0 (fun k h => by cases h)
    have HO := Lib.hid (show w0.ownsRow w.heap.size 3 1 (.slice (some ⟨w1.heap.size, 0, none⟩) n n) n (natsV (iter n (dirE xs) 0)) from ownsRow_base (by simpa [Value.cells, toList_madeCells_one, iter, natsV] using hown0) hb.size)
    clear hown0 hgrow0
    have hg0 := hb.trans hb0
    go_wp2
    go_loopw [4, 5] (fun v i wr => ∃ r : Nat, r ≤ N + 2 ∧ i = .int .i64 r ∧ Hid (wr.ownsRow w.heap.size 3 1 v n (natsV (iter n (dirE xs) r))) ∧ Grew w wr) (fun _ i _ => N + 2 - (intOf i).toNat)
    case atStart => exact ⟨0, Nat.zero_le _, rfl, HO, hg0⟩
    case round =>
      obtain ⟨r, hr, rfl, hown, hbel⟩ := hrel
      obtain ⟨oa, oc, rfl⟩ := own_slice hown.out
      have HR := Lib.hid (rd_of_own hown.out)
      by_cases hlt : r ≤ N + 1
      · go_wp2_with (go_at_call 103; refine (l13Raise _ oa oc xs (iter n (dirE xs) r) n _ (HD2.out.grew hbel) HR.out.rda (by rw [iter_len, HX.out]) HX.out h5 H9.out HZ.out (bd_strL HX.out h5 H9.out (by omega))).mono ?_; rintro e w2 ⟨v2, rfl, hown2, hb2⟩; have HO2 := Lib.hid hown2; clear hown2)
        go_roundw
        case rel => exact ⟨r + 1, by omega, by go_num, Lib.hid (ownsRow_base HO2.out hbel.size), hbel.trans hb2⟩
        case measure => simp [intOf]; omega
      · obtain rfl : r = N + 2 := by omega
        have HSL := Lib.hid (show iter n (dirE xs) (N + 2) = strL n (dirE xs) by unfold strL; rw [HN.out])
        rw [HSL.out] at hown HR
        have HSD := Lib.hid (show decide (raise n (dirE xs) (strL n (dirE xs)) = strL n (dirE xs)) = sb from HSB.out)
        have hcs : sb = true ∨ sb = false := by cases sb <;> simp
        rcases hcs with rfl | rfl
        all_goals
          go_wp2_with (first | (go_at_call 103; refine (l13Raise _ oa oc xs (strL n (dirE xs)) n _ (HD2.out.grew hbel) HR.out.rda (by rw [strL_len, HX.out]) HX.out h5 H9.out HZ.out (by rw [← HSL.out]; exact bd_strL HX.out h5 H9.out (by omega))).mono ?_; rintro e w2 ⟨v2, rfl, hown2, hb2⟩; have HO2 := Lib.hid (rd_of_own hown2); clear hown2) | (go_at_call 62; refine (l07Ints _ _ n n _ _ _ (rd_nats HO2.out) (rd_nats (HR.out.grew hb2)) (by omega) (by omega)).mono ?_; rintro e w3 ⟨he, hb3⟩; rw [same_nats, HSD.out] at he; subst he))
          go_ret2
        · have h1 := stB_yes HX.out HV.out HSB.out
          rw [h1.1]
          refine ⟨_, rfl, ?_, (hbel.trans hb2).trans hb3⟩
          rw [h1.2, strL_len]
          exact ownsRow_grew hown.out (hb2.trans hb3)
        · have h1 := stB_no2 HX.out HSB.out
          rw [h1.1]
          refine ⟨_, rfl, ?_, ((hbel.trans hb2).trans hb3).alloc _⟩
          rw [h1.2]
          exact ownsRow_base (lit_own w3 3 1) ((hbel.trans hb2).trans hb3).size
  · have h1 := stB_no1 HV.out
    have H1 := Lib.hid h1
    clear h1
    go_enter Tryz.func66, Tryz.ntmps66
    go_wp2_with (go_at_call 102; refine (specIsValidDirs _ xs _ HD.out HX0.out HZ.out).mono ?_; rintro e w1 ⟨he, hb⟩; rw [HV.out] at he; subst he)
    go_ret2
    rw [H1.out.1]
    refine ⟨_, rfl, ?_, hb.alloc _⟩
    rw [H1.out.2]
    exact ownsRow_base (lit_own w1 3 1) hb.size
theorem way_sum {w : World} {b g n N : Nat} {es : Edges} {L : List Nat} (h : w.ownsRow b 3 1 (.slice (some ⟨g, 0, none⟩) n n) n (natsV L)) (hw : Way n es L) (hN : n * n = N) : sumW w g n = sumN L ∧ sumN L ≤ N := by
  refine ⟨sumW_of hw.len (fun j hj => ?_), ?_⟩
  · obtain ⟨x, hx, hc⟩ := own_one (f := fun x : Nat => Value.int .i64 (x : Int)) h hj
    rw [hc, gt_at hx.out]
  · rw [← hN]
    exact sum_bound (fun x hx => by obtain ⟨i, hi, rfl⟩ := mem_gt hx; exact hw.top i (by rw [← hw.len]; exact hi)) hw.len
theorem rd_len {α : Type} {f : α → Value} {w : World} {v : Value} {n : Nat} {L : List α} (h : Rd w v 1 n (L.map f)) (hl : L.length = n) : Rd w v 1 L.length (L.map f) := by rw [hl]; exact h
set_option maxRecDepth 100000 in
set_option maxHeartbeats 4000000 in
theorem implStrata (va : Value) (xs : List Dr) (w : World) (ha : RdDs w va xs) (hx : xs.length ≤ 4000000) (hz : szAll Dr.sz xs ≤ 4000000) :
    Calls Tryz.prog 95 #[va] w fun e w' => ∃ v, e = .returned (.tuple #[v, .bool (stB xs)]) ∧ w'.ownsRow w.heap.size 3 1 v (stL xs).length (natsV (stL xs)) ∧ Grew w w' := by
  have HD := Lib.hid ha
  have HZ := Lib.hid hz
  have HX0 := Lib.hid hx
  obtain ⟨qs, ⟨a, ca, rfl, hca, hra⟩, hall⟩ := ha
  have HA := Lib.hid hall
  clear hall hca
  obtain ⟨vb, hvb⟩ : ∃ b, dirsB xs = b := ⟨_, rfl⟩
  have HV := Lib.hid hvb
  clear hvb hz
  have hcs : vb = true ∨ vb = false := by cases vb <;> simp
  rcases hcs with rfl | rfl
  · have H9 := Lib.hid (dirs_use HV.out).2
    have h5 := (dirs_use HV.out).1
    obtain ⟨n, hn⟩ : ∃ n, xs.length = n := ⟨_, rfl⟩
    have HX := Lib.hid hn
    have HD2 := Lib.hid (show RdDs w (.slice a n ca) xs by have := HD.out; rw [hn] at this; exact this)
    rw [hn] at h5 hra ⊢
    clear HD hx
    have HOK := Lib.hid (dirE_ok (xs := xs) hn)
    obtain ⟨N, hN⟩ : ∃ N, n * n = N := ⟨_, rfl⟩
    have HN := Lib.hid hN
    clear hN hn
    obtain ⟨i0, hi, hz0, hz1, hz2⟩ := info_parts Tryz.infoInt
    go_enter Tryz.func95, Tryz.ntmps95
    go_wp2_with fail
    refine (implIsValidDirs _ xs _ HD2.out HX0.out HZ.out).mono ?_
    rintro e w1 ⟨he, hb⟩
    rw [HV.out] at he; subst he
    go_wp2_with (at_make; refine wpList_make_full _ rfl _ _ 35 rfl w1.heap.size 3 i0 (.int .i64 0) 1 Tryz.underlying35 hi hz0 hz1 _ _ _ _ n rfl rfl rfl rfl ?b2 ?b3 (Nat.le_refl _) ?_)
    case b2 => rw [hz2]; omega
    case b3 => unfold maxLen; omega
    intro w0 hown0 hgrow0
    clear hi hz0 hz1 hz2
    have hb0 : Grew w1 w0 := (Grew.refl _).grown hgrow0 (fun k h => by cases h)
    have HO := Lib.hid (show w0.ownsRow w.heap.size 3 1 (.slice (some ⟨w1.heap.size, 0, none⟩) n n) n (natsV (List.replicate n 0)) from ownsRow_base (by simpa [Value.cells, toList_madeCells_one, natsV] using hown0) hb.size)
    clear hown0 hgrow0
    have hg0 := hb.trans hb0
    have hg1 := hb.size
    obtain ⟨g, hgdef⟩ : ∃ g, w1.heap.size = g := ⟨_, rfl⟩
    rw [hgdef] at HO hg1 ⊢
    clear hgdef hb0
    go_wp2
    go_loopw [5] (fun c wr => ∃ (L : List Nat) (b : Bool), c = .bool b ∧ Hid (wr.ownsRow w.heap.size 3 1 (.slice (some ⟨g, 0, none⟩) n n) n (natsV L)) ∧ Hid (Way n (dirE xs) L) ∧ Hid (b = false → MetTo (dirE xs) L n) ∧ Grew w wr) (fun c wr => 2 * (N - sumW wr g n) + oneIf c)
    case atStart => exact ⟨_, true, rfl, HO, Lib.hid (Way.start n _), Lib.hid (fun h => by cases h), hg0⟩
    case round =>
      obtain ⟨L, b, rfl, hown, hway, hmet, hbel⟩ := hrel
      have hcs : b = true ∨ b = false := by cases b <;> simp
      rcases hcs with rfl | rfl
      · clear hmet
        have HW0 := Lib.hid (way_sum hown.out hway.out HN.out)
        obtain ⟨W1, rfl⟩ : ∃ y, y = wr := ⟨_, rfl⟩
        go_wp2
        go_loopw [5, 18] (fun c i wr => ∃ (k : Nat) (L' : List Nat) (b' : Bool), k ≤ n ∧ i = .int .i64 k ∧ c = .bool b' ∧ Hid (wr.ownsRow w.heap.size 3 1 (.slice (some ⟨g, 0, none⟩) n n) n (natsV L')) ∧ Hid (Way n (dirE xs) L') ∧ Hid ((b' = false → L' = L ∧ MetTo (dirE xs) L' k) ∧ (b' = true → sumN L < sumN L')) ∧ Grew w wr) (fun _ i _ => n - (intOf i).toNat)
        case atStart => exact ⟨0, L, false, Nat.zero_le _, rfl, rfl, hown, hway, Lib.hid ⟨fun _ => ⟨rfl, MetTo.start _ _⟩, fun h => by cases h⟩, hbel⟩
        case round =>
          obtain ⟨k, L', b', hk, rfl, rfl, hown', hway', hst, hbel'⟩ := hrel
          by_cases hlt : k < n
          · obtain ⟨b1, o1, p, rfl, hpk, c0, c1⟩ := (hra.grew hbel').getP2 hlt
            obtain ⟨x, hxk, hxr⟩ := HA.out.get hpk.out
            have hxs := dir_sz HZ.out hxk.out
            have hq9 := H9.out x (List.mem_of_getElem? hxk.out)
            obtain ⟨pn, pq⟩ := p
            obtain ⟨hxn, hxq⟩ := hxr
            simp only at hxn hxq c0 c1
            subst hxn
            have HQ := Lib.hid hxq
            obtain ⟨pa, pc, rfl, hpc, hpr⟩ := hxq
            clear hpr hpc
            have HE := Lib.hid (dirE_at hxk.out)
            have hd1 := depsL_le x.query false
            have hd2 := depsL_le x.query true
            obtain ⟨z, hzk, e2⟩ := own_one hown'.out hlt
            have hzg := Lib.hid (gt_at hzk.out)
            have hfz := hown'.out.frozenAt k
            have hgw := (hown'.out.lt g rfl).2
            have HLL := Lib.hid hway'.out.len
            have HTOP := Lib.hid (show Bd 1000000 L' from fun i => by
              by_cases hi : i < n
              · exact Nat.le_trans (hway'.out.top i hi) (by omega)
              · unfold gt; rw [List.getD_eq_getElem?_getD, List.getElem?_eq_none (by rw [hway'.out.len]; omega)]; exact Nat.zero_le _)
            obtain ⟨p1, hp1⟩ : ∃ t, abv L' (edg xs (depsL x.query false) 0) = t := ⟨_, rfl⟩
            obtain ⟨p2, hp2⟩ : ∃ t, abv L' (edg xs (depsL x.query true) 1) = t := ⟨_, rfl⟩
            have HP1 := Lib.hid hp1
            have HP2 := Lib.hid hp2
            have hpb1 : p1 ≤ 1000001 := by rw [← hp1]; exact abv_bd HTOP.out (by omega)
            have hpb2 : p2 ≤ 1000001 := by rw [← hp2]; exact abv_bd HTOP.out (by omega)
            have HLS := Lib.hid (show lst L' (edg xs (depsL x.query false) 0) (edg xs (depsL x.query true) 1) = max p1 p2 by unfold lst; rw [hp1, hp2])
            clear hp1 hp2
            obtain ⟨lv, hlv⟩ : ∃ t, max p1 p2 = t := ⟨_, rfl⟩
            have hmx : max (p1 : Int) (p2 : Int) = (lv : Int) := by omega
            rw [hlv] at HLS
            have hcase : (n < lv) ∨ (lv ≤ n ∧ z < lv) ∨ (lv ≤ n ∧ lv ≤ z) := by omega
            have hkq2 : (k : Int) < (n : Int) := by omega
            rcases hcase with hc | ⟨hc0, hc⟩ | ⟨hc0, hc⟩
            · have hal := (Grew.refl wr).alloc (.cells #[.string x.name, .slice pa x.query.length pc] 39)
              have hc2 : (n : Int) < (lv : Int) := by omega
              go_wp2_with fail
              refine wp_region_noPanic ?_
              refine wp_region_held_drew (S := (fun w' => (w'.cell? ⟨wr.heap.size, 1, none⟩ = some (.slice pa x.query.length pc) ∧ Grew (wr.alloc (.cells #[.string x.name, .slice pa x.query.length pc] 39)) w'))) (by kernel_rfl) ?h1_S ?h1_r
              case h1_S => exact ⟨grew_cell (Grew.refl _).drew (by simp), (Grew.refl _).drew⟩
              case h1_r =>
                intro HS
                first | refine sk' 0 HS ?_ | refine tk' 0 HS ?_
                first | refine sk' 1 HS ?_ | refine tk' 1 HS ?_
                first | refine sk' 2 HS ?_ | refine tk' 2 HS ?_
                first | refine sk' 3 HS ?_ | refine tk' 3 HS ?_
                first | refine sk' 6 HS ?_ | refine tk' 6 HS ?_
                first | refine sk' 7 HS ?_ | refine tk' 7 HS ?_
                first | refine sk' 8 HS ?_ | refine tk' 8 HS ?_
                first | refine sk' 9 HS ?_ | refine tk' 9 HS ?_
                refine cl' 4 fun K hK => ?_
                go_simp
                go_at_call 128
                refine (implPositiveDeps _ x.query.length x.query _ (HQ.out.grew (hbel'.trans (hal.trans HS.2))) hxs.2.1 hxs.2.2).mono ?_
                rintro e wa ⟨va, rfl, hva, hbq⟩
                have HVa := Lib.hid (rd_of_own hva)
                clear hva
                refine hK.out _ _ ?s1_4 ?r1_4
                case s1_4 => (try dsimp only); exact ⟨grew_cell hbq HS.1, HS.2.trans hbq⟩
                case r1_4 =>
                  clear HS hK K; intro HS
                  try simp only [Act.put, lpa, lpb, lpc]
                  refine cl' 5 fun K hK => ?_
                  go_simp
                  go_at_call 127
                  refine (implStrataAbove _ _ _ xs L' (depsL x.query false) 0 _ (HD2.out.grew (hbel'.trans (hal.trans HS.2))) (rd_len (rd_of_own (ownsRow_grew hown'.out (hal.trans HS.2))) HLL.out) HVa.out (by rw [HX.out]; omega) (by rw [HLL.out, HX.out]) (by omega) HTOP.out (by omega)).mono ?_
                  rintro e wa2 ⟨he, hbq⟩
                  rw [HP1.out] at he
                  subst he
                  refine hK.out _ _ ?s1_5 ?r1_5
                  case s1_5 => (try dsimp only); exact ⟨grew_cell hbq HS.1, HS.2.trans hbq⟩
                  case r1_5 =>
                    clear HS hK K; intro HS
                    try simp only [Act.put, lpa, lpb, lpc]
                    refine cl' 10 fun K hK => ?_
                    go_simp
                    go_at_call 129
                    refine (implNegativeDeps _ x.query.length x.query _ (HQ.out.grew (hbel'.trans (hal.trans HS.2))) hxs.2.1 hxs.2.2).mono ?_
                    rintro e wb ⟨vb, rfl, hvb, hbq⟩
                    have HVb := Lib.hid (rd_of_own hvb)
                    clear hvb
                    refine hK.out _ _ ?s1_10 ?r1_10
                    case s1_10 => (try dsimp only); exact ⟨grew_cell hbq HS.1, HS.2.trans hbq⟩
                    case r1_10 =>
                      clear HS hK K; intro HS
                      try simp only [Act.put, lpa, lpb, lpc]
                      refine cl' 11 fun K hK => ?_
                      go_simp
                      go_at_call 127
                      refine (implStrataAbove _ _ _ xs L' (depsL x.query true) 1 _ (HD2.out.grew (hbel'.trans (hal.trans HS.2))) (rd_len (rd_of_own (ownsRow_grew hown'.out (hal.trans HS.2))) HLL.out) HVb.out (by rw [HX.out]; omega) (by rw [HLL.out, HX.out]) (by omega) HTOP.out (by omega)).mono ?_
                      rintro e wb2 ⟨he, hbq⟩
                      rw [HP2.out] at he
                      subst he
                      refine hK.out _ _ ?s1_11 ?r1_11
                      case s1_11 => (try dsimp only); exact ⟨grew_cell hbq HS.1, HS.2.trans hbq⟩
                      case r1_11 =>
                        clear HS hK K; intro HS
                        try simp only [Act.put, lpa, lpb, lpc]
                        first | refine sk' 12 HS ?_ | refine tk' 12 HS ?_
                        first | refine sk' 13 HS ?_ | refine tk' 13 HS ?_
                        refine wpAnyH_done (by kernel_rfl) ?_ _
                        refine NoPanic.normal ?_
                        have hgx := hal.trans HS.2
                        have e3 := grew_cell hgx e2
                        have f3 := grew_frozen hgx hgw hfz
                        go_wp2
                        go_ret2
                        have h1 := stB_no2 HX.out (Way.fails HOK.out hway'.out hlt HE.out (by rw [HLS.out]; exact hc))
                        rw [h1.1]
                        refine ⟨_, rfl, ?_, hbel'.trans hgx⟩
                        rw [h1.2]
                        exact World.ownsRow_nil _ _ _ _
            · have hal := (Grew.refl wr).alloc (.cells #[.string x.name, .slice pa x.query.length pc] 39)
              have hc1 : ¬ ((n : Int) < (lv : Int)) := by omega
              have hc2 : (z : Int) < (lv : Int) := by omega
              go_wp2_with fail
              refine wp_region_noPanic ?_
              refine wp_region_held_drew (S := (fun w' => (w'.cell? ⟨wr.heap.size, 1, none⟩ = some (.slice pa x.query.length pc) ∧ Grew (wr.alloc (.cells #[.string x.name, .slice pa x.query.length pc] 39)) w'))) (by kernel_rfl) ?h2_S ?h2_r
              case h2_S => exact ⟨grew_cell (Grew.refl _).drew (by simp), (Grew.refl _).drew⟩
              case h2_r =>
                intro HS
                first | refine sk' 0 HS ?_ | refine tk' 0 HS ?_
                first | refine sk' 1 HS ?_ | refine tk' 1 HS ?_
                first | refine sk' 2 HS ?_ | refine tk' 2 HS ?_
                first | refine sk' 3 HS ?_ | refine tk' 3 HS ?_
                first | refine sk' 6 HS ?_ | refine tk' 6 HS ?_
                first | refine sk' 7 HS ?_ | refine tk' 7 HS ?_
                first | refine sk' 8 HS ?_ | refine tk' 8 HS ?_
                first | refine sk' 9 HS ?_ | refine tk' 9 HS ?_
                refine cl' 4 fun K hK => ?_
                go_simp
                go_at_call 128
                refine (implPositiveDeps _ x.query.length x.query _ (HQ.out.grew (hbel'.trans (hal.trans HS.2))) hxs.2.1 hxs.2.2).mono ?_
                rintro e wa ⟨va, rfl, hva, hbq⟩
                have HVa := Lib.hid (rd_of_own hva)
                clear hva
                refine hK.out _ _ ?s2_4 ?r2_4
                case s2_4 => (try dsimp only); exact ⟨grew_cell hbq HS.1, HS.2.trans hbq⟩
                case r2_4 =>
                  clear HS hK K; intro HS
                  try simp only [Act.put, lpa, lpb, lpc]
                  refine cl' 5 fun K hK => ?_
                  go_simp
                  go_at_call 127
                  refine (implStrataAbove _ _ _ xs L' (depsL x.query false) 0 _ (HD2.out.grew (hbel'.trans (hal.trans HS.2))) (rd_len (rd_of_own (ownsRow_grew hown'.out (hal.trans HS.2))) HLL.out) HVa.out (by rw [HX.out]; omega) (by rw [HLL.out, HX.out]) (by omega) HTOP.out (by omega)).mono ?_
                  rintro e wa2 ⟨he, hbq⟩
                  rw [HP1.out] at he
                  subst he
                  refine hK.out _ _ ?s2_5 ?r2_5
                  case s2_5 => (try dsimp only); exact ⟨grew_cell hbq HS.1, HS.2.trans hbq⟩
                  case r2_5 =>
                    clear HS hK K; intro HS
                    try simp only [Act.put, lpa, lpb, lpc]
                    refine cl' 10 fun K hK => ?_
                    go_simp
                    go_at_call 129
                    refine (implNegativeDeps _ x.query.length x.query _ (HQ.out.grew (hbel'.trans (hal.trans HS.2))) hxs.2.1 hxs.2.2).mono ?_
                    rintro e wb ⟨vb, rfl, hvb, hbq⟩
                    have HVb := Lib.hid (rd_of_own hvb)
                    clear hvb
                    refine hK.out _ _ ?s2_10 ?r2_10
                    case s2_10 => (try dsimp only); exact ⟨grew_cell hbq HS.1, HS.2.trans hbq⟩
                    case r2_10 =>
                      clear HS hK K; intro HS
                      try simp only [Act.put, lpa, lpb, lpc]
                      refine cl' 11 fun K hK => ?_
                      go_simp
                      go_at_call 127
                      refine (implStrataAbove _ _ _ xs L' (depsL x.query true) 1 _ (HD2.out.grew (hbel'.trans (hal.trans HS.2))) (rd_len (rd_of_own (ownsRow_grew hown'.out (hal.trans HS.2))) HLL.out) HVb.out (by rw [HX.out]; omega) (by rw [HLL.out, HX.out]) (by omega) HTOP.out (by omega)).mono ?_
                      rintro e wb2 ⟨he, hbq⟩
                      rw [HP2.out] at he
                      subst he
                      refine hK.out _ _ ?s2_11 ?r2_11
                      case s2_11 => (try dsimp only); exact ⟨grew_cell hbq HS.1, HS.2.trans hbq⟩
                      case r2_11 =>
                        clear HS hK K; intro HS
                        try simp only [Act.put, lpa, lpb, lpc]
                        first | refine sk' 12 HS ?_ | refine tk' 12 HS ?_
                        first | refine sk' 13 HS ?_ | refine tk' 13 HS ?_
                        refine wpAnyH_done (by kernel_rfl) ?_ _
                        refine NoPanic.normal ?_
                        have hgx := hal.trans HS.2
                        have e3 := grew_cell hgx e2
                        have f3 := grew_frozen hgx hgw hfz
                        go_wp2
                        go_roundw
                        case rel =>
                          refine ⟨k + 1, L'.set k lv, true, by omega, by go_num, rfl, Lib.hid (store_one (ownsRow_grew hown'.out hgx) k lv), Lib.hid ?_, Lib.hid ⟨fun h => (by cases h), fun _ => ?_⟩, (hbel'.trans hgx).setCell (p := ⟨g, k, none⟩) hg1 _⟩
                          · have h1 := hway'.out.lift HOK.out hlt HE.out (by rw [HLS.out]; exact hc0)
                            rw [HLS.out] at h1; exact h1
                          · have h1 := sum_set (L := L') (i := k) (x := lv) (by rw [HLL.out]; exact hlt) (by rw [hzg.out]; exact hc)
                            cases b' with
                            | false => have h2 := (hst.out.1 rfl).1; rw [← h2]; exact h1
                            | true => have h2 := hst.out.2 rfl; omega
                        case measure => simp [intOf]; omega
            · have hal := (Grew.refl wr).alloc (.cells #[.string x.name, .slice pa x.query.length pc] 39)
              have hc1 : ¬ ((n : Int) < (lv : Int)) := by omega
              have hc2 : ¬ ((z : Int) < (lv : Int)) := by omega
              go_wp2_with fail
              refine wp_region_noPanic ?_
              refine wp_region_held_drew (S := (fun w' => (w'.cell? ⟨wr.heap.size, 1, none⟩ = some (.slice pa x.query.length pc) ∧ Grew (wr.alloc (.cells #[.string x.name, .slice pa x.query.length pc] 39)) w'))) (by kernel_rfl) ?h3_S ?h3_r
              case h3_S => exact ⟨grew_cell (Grew.refl _).drew (by simp), (Grew.refl _).drew⟩
              case h3_r =>
                intro HS
                first | refine sk' 0 HS ?_ | refine tk' 0 HS ?_
                first | refine sk' 1 HS ?_ | refine tk' 1 HS ?_
                first | refine sk' 2 HS ?_ | refine tk' 2 HS ?_
                first | refine sk' 3 HS ?_ | refine tk' 3 HS ?_
                first | refine sk' 6 HS ?_ | refine tk' 6 HS ?_
                first | refine sk' 7 HS ?_ | refine tk' 7 HS ?_
                first | refine sk' 8 HS ?_ | refine tk' 8 HS ?_
                first | refine sk' 9 HS ?_ | refine tk' 9 HS ?_
                refine cl' 4 fun K hK => ?_
                go_simp
                go_at_call 128
                refine (implPositiveDeps _ x.query.length x.query _ (HQ.out.grew (hbel'.trans (hal.trans HS.2))) hxs.2.1 hxs.2.2).mono ?_
                rintro e wa ⟨va, rfl, hva, hbq⟩
                have HVa := Lib.hid (rd_of_own hva)
                clear hva
                refine hK.out _ _ ?s3_4 ?r3_4
                case s3_4 => (try dsimp only); exact ⟨grew_cell hbq HS.1, HS.2.trans hbq⟩
                case r3_4 =>
                  clear HS hK K; intro HS
                  try simp only [Act.put, lpa, lpb, lpc]
                  refine cl' 5 fun K hK => ?_
                  go_simp
                  go_at_call 127
                  refine (implStrataAbove _ _ _ xs L' (depsL x.query false) 0 _ (HD2.out.grew (hbel'.trans (hal.trans HS.2))) (rd_len (rd_of_own (ownsRow_grew hown'.out (hal.trans HS.2))) HLL.out) HVa.out (by rw [HX.out]; omega) (by rw [HLL.out, HX.out]) (by omega) HTOP.out (by omega)).mono ?_
                  rintro e wa2 ⟨he, hbq⟩
                  rw [HP1.out] at he
                  subst he
                  refine hK.out _ _ ?s3_5 ?r3_5
                  case s3_5 => (try dsimp only); exact ⟨grew_cell hbq HS.1, HS.2.trans hbq⟩
                  case r3_5 =>
                    clear HS hK K; intro HS
                    try simp only [Act.put, lpa, lpb, lpc]
                    refine cl' 10 fun K hK => ?_
                    go_simp
                    go_at_call 129
                    refine (implNegativeDeps _ x.query.length x.query _ (HQ.out.grew (hbel'.trans (hal.trans HS.2))) hxs.2.1 hxs.2.2).mono ?_
                    rintro e wb ⟨vb, rfl, hvb, hbq⟩
                    have HVb := Lib.hid (rd_of_own hvb)
                    clear hvb
                    refine hK.out _ _ ?s3_10 ?r3_10
                    case s3_10 => (try dsimp only); exact ⟨grew_cell hbq HS.1, HS.2.trans hbq⟩
                    case r3_10 =>
                      clear HS hK K; intro HS
                      try simp only [Act.put, lpa, lpb, lpc]
                      refine cl' 11 fun K hK => ?_
                      go_simp
                      go_at_call 127
                      refine (implStrataAbove _ _ _ xs L' (depsL x.query true) 1 _ (HD2.out.grew (hbel'.trans (hal.trans HS.2))) (rd_len (rd_of_own (ownsRow_grew hown'.out (hal.trans HS.2))) HLL.out) HVb.out (by rw [HX.out]; omega) (by rw [HLL.out, HX.out]) (by omega) HTOP.out (by omega)).mono ?_
                      rintro e wb2 ⟨he, hbq⟩
                      rw [HP2.out] at he
                      subst he
                      refine hK.out _ _ ?s3_11 ?r3_11
                      case s3_11 => (try dsimp only); exact ⟨grew_cell hbq HS.1, HS.2.trans hbq⟩
                      case r3_11 =>
                        clear HS hK K; intro HS
                        try simp only [Act.put, lpa, lpb, lpc]
                        first | refine sk' 12 HS ?_ | refine tk' 12 HS ?_
                        first | refine sk' 13 HS ?_ | refine tk' 13 HS ?_
                        refine wpAnyH_done (by kernel_rfl) ?_ _
                        refine NoPanic.normal ?_
                        have hgx := hal.trans HS.2
                        have e3 := grew_cell hgx e2
                        have f3 := grew_frozen hgx hgw hfz
                        go_wp2
                        go_roundw
                        case rel =>
                          refine ⟨k + 1, L', b', by omega, by go_num, rfl, Lib.hid (ownsRow_grew hown'.out hgx), hway', Lib.hid ⟨fun h => ⟨(hst.out.1 h).1, (hst.out.1 h).2.succ HE.out (by rw [HLS.out, hzg.out]; exact hc)⟩, hst.out.2⟩, hbel'.trans hgx⟩
                        case measure => simp [intOf]; omega
          · obtain rfl : k = n := by omega
            have HW1 := Lib.hid (way_sum hown'.out hway'.out HN.out)
            go_wp2
            go_roundw
            case rel => exact ⟨L', b', rfl, hown', hway', Lib.hid (fun h => (hst.out.1 h).2), hbel'⟩
            case measure =>
              have h1 := HW0.out
              have h2 := HW1.out
              rw [h1.1, h2.1]
              cases b' with
              | false => have h3 := (hst.out.1 rfl).1; rw [h3]; simp [oneIf]
              | true => have h3 := hst.out.2 rfl; simp [oneIf]; omega
      · go_wp2
        go_ret2
        have h0 := hway.out.done HOK.out (hmet.out (by first | rfl | trivial))
        have h1 := stB_yes HX.out HV.out h0.1
        rw [h1.1]
        refine ⟨_, rfl, ?_, hbel⟩
        rw [h1.2, ← h0.2, hway.out.len]
        exact hown.out
  · have H1 := Lib.hid (stB_no1 HV.out)
    go_enter Tryz.func95, Tryz.ntmps95
    go_wp2_with (go_at_call 126; refine (implIsValidDirs _ xs _ HD.out HX0.out HZ.out).mono ?_; rintro e w1 ⟨he, hb⟩; rw [HV.out] at he; subst he)
    go_ret2
    rw [H1.out.1]
    refine ⟨_, rfl, ?_, hb⟩
    rw [H1.out.2]
    exact World.ownsRow_nil _ _ _ _
set_option maxRecDepth 100000 in
set_option maxHeartbeats 1000000 in
theorem specIsStratified (va : Value) (xs : List Dr) (w : World) (ha : RdDs w va xs) (hx : xs.length ≤ 4000000) (hz : szAll Dr.sz xs ≤ 4000000) :
    Calls Tryz.prog 32 #[va] w fun e w' => e = .returned (.bool (stB xs)) ∧ Grew w w' := by
  have HD := Lib.hid ha
  obtain ⟨qs, ⟨a, ca, rfl, hca, hra⟩, hall⟩ := ha
  clear hall hra hca
  go_enter Tryz.func32, Tryz.ntmps32
  go_wp2_with (go_at_call 66; refine (specStrata _ xs _ HD.out hx hz).mono ?_; rintro e w1 ⟨v, rfl, hv, hb⟩; obtain ⟨oa, oc, rfl⟩ := own_slice hv; clear hv)
  go_ret
  exact ⟨rfl, hb⟩
set_option maxRecDepth 100000 in
set_option maxHeartbeats 1000000 in
theorem implIsStratified (va : Value) (xs : List Dr) (w : World) (ha : RdDs w va xs) (hx : xs.length ≤ 4000000) (hz : szAll Dr.sz xs ≤ 4000000) :
    Calls Tryz.prog 58 #[va] w fun e w' => e = .returned (.bool (stB xs)) ∧ Grew w w' := by
  have HD := Lib.hid ha
  obtain ⟨qs, ⟨a, ca, rfl, hca, hra⟩, hall⟩ := ha
  clear hall hra hca
  go_enter Tryz.func58, Tryz.ntmps58
  go_wp2_with (go_at_call 95; refine (implStrata _ xs _ HD.out hx hz).mono ?_; rintro e w1 ⟨v, rfl, hv, hb⟩; obtain ⟨oa, oc, rfl⟩ := own_slice hv; clear hv)
  go_ret
  exact ⟨rfl, hb⟩
theorem Rd.rda1' {w : World} {v : Value} {k n : Nat} {cs : List Value} (h : Rd w v k n cs) : ∀ a c, v = .slice a n c → RdA w a k n cs := fun a c e => by subst e; exact Rd.rda h
theorem mxL_ge (L : List Nat) : -1 ≤ mxL L := by
  induction L with
  | nil => exact Int.le_refl _
  | cons x xs ih => unfold mxL; omega
theorem mxL_bd {b : Nat} : ∀ {L : List Nat}, (∀ x, x ∈ L → x ≤ b) → mxL L ≤ b
  | [], _ => by unfold mxL; omega
  | x :: xs, h => by
    have h1 := h x (by simp)
    have h2 := mxL_bd (L := xs) (fun y hy => h y (by simp [hy]))
    unfold mxL; omega
set_option maxRecDepth 100000 in
set_option maxHeartbeats 1000000 in
theorem slMaxInt (va : Value) (n : Nat) (L : List Nat) (w : World) (ha : Rd w va 1 n (natsV L)) (hn : 0 < n) (hx : n ≤ 4000000) :
    Calls Tryz.prog 135 #[va] w fun e w' => e = .returned (.int .i64 (mxL L)) ∧ Grew w w' := by
  obtain ⟨a, ca, rfl, hca, hra⟩ := ha
  have HX := Lib.hid (show L.length = n from hra.len_map)
  obtain ⟨b1, o1, y0, rfl, hy0, c0⟩ := hra.one hn
  have c0' := c0
  simp at c0'
  have hn1 : ¬ ((n : Int) < 1) := by omega
  have hn0 : (0 : Int) < (n : Int) := by omega
  go_enter Tryz.func135, Tryz.ntmps135
  go_wp2
  go_loopw [3, 4] (fun v i wr => ∃ (k : Nat) (r : Int), 1 ≤ k ∧ k ≤ n ∧ i = .int .i64 k ∧ v = .int .i64 r ∧ Hid (r = mxL (L.take k)) ∧ wr = w) (fun _ i _ => n - (intOf i).toNat)
  case atStart => exact ⟨1, _, Nat.le_refl _, hn, rfl, rfl, Lib.hid (by rw [take_snoc (k := 0) hy0.out]; simp [mxL]; omega), by first | rfl | trivial⟩
  case round =>
    obtain ⟨k, r, h1, hk, rfl, rfl, hr, rfl⟩ := hrel
    by_cases hlt : k < n
    · obtain ⟨b2, o2, y, hab, hyk, d0⟩ := hra.one hlt
      cases hab
      go_wp2
      go_roundw
      case rel => exact ⟨k + 1, _, by omega, by omega, by go_num, rfl, Lib.hid (by rw [take_snoc hyk.out, mxL_snoc, ← hr.out]), by first | rfl | trivial⟩
      case measure => simp [intOf]; omega
    · obtain rfl : k = n := by omega
      go_wp2
      go_ret
      exact ⟨ret_int (by rw [hr.out, take_all HX.out]), Grew.refl _⟩
set_option maxRecDepth 100000 in
set_option maxHeartbeats 1000000 in
theorem implMaxStratum (va : Value) (xs : List Dr) (w : World) (ha : RdDs w va xs) (hx : xs.length ≤ 4000000) (hz : szAll Dr.sz xs ≤ 4000000) :
    Calls Tryz.prog 101 #[va] w fun e w' => e = .returned (.int .i64 (mxS xs)) ∧ Grew w w' := by
  have HD := Lib.hid ha
  obtain ⟨qs, ⟨a, ca, rfl, hca, hra⟩, hall⟩ := ha
  clear hall hra hca
  obtain ⟨sb, hsb⟩ : ∃ b, stB xs = b := ⟨_, rfl⟩
  have HSB := Lib.hid hsb
  have hll := stL_le xs
  obtain ⟨l, hl⟩ : ∃ l, (stL xs).length = l := ⟨_, rfl⟩
  have HL := Lib.hid hl
  rw [hl] at hll
  have HN := Lib.hid (show sb = false ∨ l = 0 → mxS xs = -1 by
    rintro (h | h)
    · unfold mxS stL; rw [hsb, h]; rfl
    · unfold mxS; rw [List.length_eq_zero_iff.1 (hl.trans h)]; rfl)
  clear hsb hl
  have hcs : sb = true ∨ sb = false := by cases sb <;> simp
  rcases hcs with rfl | rfl
  · by_cases h0 : l = 0
    · subst h0
      go_enter Tryz.func101, Tryz.ntmps101
      go_wp2_with (go_at_call 95; refine (implStrata _ xs _ HD.out hx hz).mono ?_; rintro e w1 ⟨v, he, hv, hb⟩; rw [HSB.out] at he; subst he; rw [HL.out] at hv; obtain ⟨oa, oc, rfl⟩ := own_slice hv; clear hv)
      go_ret
      exact ⟨ret_int (HN.out (by simp)).symm, hb⟩
    · have h1 : ((l : Int) == 0) = false := by simp; omega
      have h2 : ¬ ((l : Int) = 0) := by omega
      go_enter Tryz.func101, Tryz.ntmps101
      go_wp2_with (first | (go_at_call 95; refine (implStrata _ xs _ HD.out hx hz).mono ?_; rintro e w1 ⟨v, he, hv, hb⟩; rw [HSB.out] at he; subst he; rw [HL.out] at hv; have HR := Lib.hid (rd_of_own hv); obtain ⟨oa, oc, rfl⟩ := own_slice hv; clear hv) | (go_at_call 135; refine (slMaxInt _ l _ _ HR.out (by omega) (by omega)).mono ?_; rintro e w2 ⟨rfl, hb2⟩))
      go_ret
      exact ⟨rfl, hb.trans hb2⟩
  · go_enter Tryz.func101, Tryz.ntmps101
    go_wp2_with (go_at_call 95; refine (implStrata _ xs _ HD.out hx hz).mono ?_; rintro e w1 ⟨v, he, hv, hb⟩; rw [HSB.out] at he; subst he; obtain ⟨oa, oc, rfl⟩ := own_slice hv; clear hv)
    go_ret
    exact ⟨ret_int (HN.out (by simp)).symm, hb⟩
set_option maxRecDepth 100000 in
set_option maxHeartbeats 1000000 in
theorem specMaxStratum (va : Value) (xs : List Dr) (w : World) (ha : RdDs w va xs) (hx : xs.length ≤ 4000000) (hz : szAll Dr.sz xs ≤ 4000000) :
    Calls Tryz.prog 20 #[va] w fun e w' => e = .returned (.int .i64 (mxS xs)) ∧ Grew w w' := by
  have HD := Lib.hid ha
  obtain ⟨qs, ⟨a, ca, rfl, hca, hra⟩, hall⟩ := ha
  clear hall hra hca
  have hll := stL_le xs
  obtain ⟨l, hl⟩ : ∃ l, (stL xs).length = l := ⟨_, rfl⟩
  have HL := Lib.hid hl
  rw [hl] at hll
  clear hl
  go_enter Tryz.func20, Tryz.ntmps20
  go_wp2_with (go_at_call 66; refine (specStrata _ xs _ HD.out hx hz).mono ?_; rintro e w1 ⟨v, rfl, hv, hb⟩; rw [HL.out] at hv; have HR := Lib.hid (rd_of_own hv).rda1'; obtain ⟨oa, oc, rfl⟩ := own_slice hv; clear hv)
  have HR2 := Lib.hid (HR.out _ _ rfl)
  clear HR
  go_loopw [5, 6] (fun v i wr => ∃ (k : Nat) (r : Int), k ≤ l ∧ i = .int .i64 k ∧ v = .int .i64 r ∧ Hid (r = mxL ((stL xs).take k)) ∧ wr = w1) (fun _ i _ => l - (intOf i).toNat)
  case atStart => exact ⟨0, _, Nat.zero_le _, rfl, rfl, Lib.hid rfl, by first | rfl | trivial⟩
  case round =>
    obtain ⟨k, r, hk, rfl, rfl, hr, rfl⟩ := hrel
    by_cases hlt : k < l
    · obtain ⟨b2, o2, y, rfl, hyk, d0⟩ := HR2.out.one hlt
      by_cases hc : r < (y : Int)
      · go_wp2
        go_roundw
        case rel => exact ⟨k + 1, _, by omega, by go_num, rfl, Lib.hid (by rw [take_snoc hyk.out, mxL_snoc, ← hr.out]; omega), by first | rfl | trivial⟩
        case measure => simp [intOf]; omega
      · go_wp2
        go_roundw
        case rel => exact ⟨k + 1, _, by omega, by go_num, rfl, Lib.hid (by rw [take_snoc hyk.out, mxL_snoc, ← hr.out]; omega), by first | rfl | trivial⟩
        case measure => simp [intOf]; omega
    · obtain rfl : k = l := by omega
      go_wp2
      go_ret
      exact ⟨ret_int (by rw [hr.out, take_all HL.out]; rfl), hb⟩
end Go.Proofs.YtkkbhhmhkpgbkaaGreat
namespace Go.Proofs.YtkkbhhmhkpgbkaaGreat
open Go.RowKit
set_option linter.unusedVariables false
theorem q_szZ {n : Nat} : ∀ {xs : List N}, qOk n xs → szAll N.sz xs ≤ xs.length * 16
  | [], _ => by simp [szAll]
  | x :: xs, h => by
    have h1 := q_szZ (n := n) (xs := xs) ⟨by have := h.1; simp at this; omega, fun y hy => h.2 y (List.mem_cons_of_mem _ hy)⟩
    have h2 := h.2 x (List.mem_cons_self ..)
    unfold N.okD at h2
    have h3 : N.sz x ≤ 16 := by unfold N.sz V.sz; omega
    simp only [szAll, List.map_cons, List.sum_cons, List.length_cons] at h1 ⊢
    omega
theorem ds_szZ {n : Nat} : ∀ {xs : List Dr}, dirsOk n xs → szAll Dr.sz xs ≤ xs.length * 144
  | [], _ => by simp [szAll]
  | x :: xs, h => by
    have h1 := ds_szZ (n := n) (xs := xs) ⟨by have := h.1; simp at this; omega, fun y hy => h.2 y (List.mem_cons_of_mem _ hy)⟩
    have h0 := h.2 x (List.mem_cons_self ..)
    have h3 := q_szZ h0.2
    have h4 := h0.2.1
    have h5 : Dr.sz x ≤ 144 := by unfold Dr.sz; omega
    simp only [szAll, List.map_cons, List.sum_cons, List.length_cons] at h1 ⊢
    omega
theorem GLd.pre {w : World} {base gb n c k : Nat} {xs : List Dr} (h : GLd w base (.slice (some ⟨gb, 0, none⟩) n c) xs) (hn : xs.length = n) (hk : k ≤ n) : GLd w base (.slice (some ⟨gb, 0, none⟩) k c) (xs.take k) := by
  obtain ⟨ps, h1, h2⟩ := h
  rw [hn] at h1
  have h3 := own_prefix h1 hk
  rw [rows_takeK P2.len] at h3
  refine ⟨ps.take k, ?_, h2.take k⟩
  rw [List.length_take, hn, Nat.min_eq_left hk]
  exact h3
def dirDa : List Dr := [⟨⟨#[100, 97]⟩, [⟨1, 0, 0, ⟨#[]⟩, ⟨0, 0, ⟨#[]⟩⟩⟩]⟩]
theorem dirDa_ok : dirsOk 4 dirDa := by
  refine ⟨by decide, fun x hx => ?_⟩
  simp [dirDa] at hx
  subst hx
  refine ⟨by decide, ⟨by decide, fun y hy => ?_⟩⟩
  simp at hy
  subst hy
  unfold N.okD
  decide
set_option maxRecDepth 100000 in
set_option maxHeartbeats 4000000 in
theorem l13Dirs (g : Nat) (w : World) (hc : Cur w g) :
    Calls Tryz.prog 45 #[.pointer (some ⟨g, 0, none⟩)] w fun e w' => ∃ v, e = .returned v ∧ ∃ xs, dirsOk 4 xs ∧ GLd w' w.heap.size v xs ∧ D g w w' := by
  have hl := hc.lt
  go_enter Tryz.func45, Tryz.ntmps45
  go_wp2_with fail
  refine (l11Dirs g _ hc).mono ?_
  rintro e w1 ⟨v, rfl, xs, hpos, hok, hgl, d1⟩
  have hxl := hok.1
  obtain ⟨gb, qc, rfl⟩ : ∃ gb qc, v = .slice (some ⟨gb, 0, none⟩) xs.length qc := by
    obtain ⟨ps, ho, _⟩ := hgl
    rcases ho.2 with ⟨_, h0⟩ | ⟨b, cap, cur, h, _⟩
    · omega
    · exact ⟨b, cap, h⟩
  have HGL := Lib.hid hgl
  have HOK := Lib.hid hok
  clear hgl hok
  go_wp2
  go_loopw [3] (fun v wr => ∃ (m : Nat) (ys : List Dr) (c : Nat), m ≤ 4 ∧ v = .slice (some ⟨gb, 0, none⟩) m c ∧ Hid (ys.length = m ∧ ∀ x, x ∈ ys → x.name.size ≤ 8 ∧ qOk 8 x.query) ∧ Hid (GLd wr w.heap.size (.slice (some ⟨gb, 0, none⟩) m c) ys) ∧ Hid (m ≤ c) ∧ D g w wr) (fun v _ => lenV v)
  case atStart => exact ⟨xs.length, xs, qc, by omega, rfl, Lib.hid ⟨rfl, HOK.out.2⟩, HGL, Lib.hid (by obtain ⟨ps, h1, _⟩ := HGL.out; obtain ⟨_, c, h3, h4, _⟩ := rd_of_own h1; cases h3; exact h4), d1⟩
  case round =>
    obtain ⟨k, ys, c, hk, rfl, hok, hown, hcap, hd⟩ := hrel
    have hkc := hcap.out
    have HXL := Lib.hid hok.out.1
    have HOY : Hid (dirsOk 4 ys) := Lib.hid ⟨by rw [HXL.out]; exact hk, hok.out.2⟩
    have hsd := hd.size
    by_cases h0 : k = 0
    · subst h0
      go_wp2
      go_ret
      refine ⟨_, rfl, dirDa, dirDa_ok, ⟨[⟨⟨#[100, 97]⟩, .slice (some ⟨wr.heap.size, 0, none⟩) 1 1⟩], ?_, All2.snoc (xs := []) (ys := []) All2.nil ⟨rfl, ?_⟩⟩, (hd.alloc _).alloc _⟩
      · have h := lit_owns (wr.alloc (.cells #[.int .i64 1, .int .i64 0, .int .i64 0, .string ⟨#[]⟩, .int .i64 0, .int .i64 0, .string ⟨#[]⟩] 111)) #[.string ⟨#[100, 97]⟩, .slice (some ⟨wr.heap.size, 0, none⟩) 1 1] 39 2 1 rfl (by decide)
        have e : (wr.alloc (.cells #[.int .i64 1, .int .i64 0, .int .i64 0, .string ⟨#[]⟩, .int .i64 0, .int .i64 0, .string ⟨#[]⟩] 111)).heap.size = wr.heap.size + 1 := by simp
        rw [e] at h
        exact ownsRow_base h (by omega)
      · have h := (lit_owns wr #[.int .i64 1, .int .i64 0, .int .i64 0, .string ⟨#[]⟩, .int .i64 0, .int .i64 0, .string ⟨#[]⟩] 111 7 1 rfl (by decide)).alloc (.cells #[.string ⟨#[100, 97]⟩, .slice (some ⟨wr.heap.size, 0, none⟩) 1 1] 39)
        exact (own_of h).mono (by omega) (Nat.le_refl _)
    · have hk1 : (0 : Int) < k := by omega
      obtain ⟨q, hq⟩ : ∃ q, stB ys = q := ⟨_, rfl⟩
      have HQ := Lib.hid hq
      clear hq
      have hne : ¬ ((k : Int) = 0) := by omega
      have hp0 : (0 : Int) ≤ (k : Int) - 1 := by omega
      have hpk : (k : Int) - 1 ≤ k := by omega
      have HSZ := Lib.hid (ds_szZ HOY.out)
      have HRD := Lib.hid (show RdDs wr (.slice (some ⟨gb, 0, none⟩) k c) ys from hown.out.rd)
      go_wp2_with fail
      refine (specIsStratified _ ys wr HRD.out (by rw [HXL.out]; omega) (by have := HSZ.out; have := HXL.out; omega)).mono ?_
      rintro e w2 ⟨he, g2⟩
      rw [HQ.out] at he
      subst he
      have hd2 := hd.grew g2
      have HG2 := Lib.hid (hown.out.grew g2)
      cases q
      · obtain ⟨j, rfl⟩ : ∃ j : Nat, k = j + 1 := ⟨k - 1, by omega⟩
        have hpj : ((j + 1 : Nat) : Int) - 1 = j := by omega
        have hwj : IntKind.i64.wrap (j : Int) = j := by rw [IntKind.wrap_i64]; omega
        have hj0 : (0 : Int) ≤ j := by omega
        have hjj : (j : Int) ≤ ((j + 1 : Nat) : Int) := by omega
        have hjc : j ≤ c := by omega
        go_wp2
        go_roundw
        case rel =>
          refine ⟨j, ys.take j, c, by omega, rfl, Lib.hid ⟨by rw [List.length_take, HXL.out]; omega, fun x hx => hok.out.2 x (List.mem_of_mem_take hx)⟩, Lib.hid (HG2.out.pre HXL.out (by omega)), Lib.hid (by omega), hd2⟩
        case measure => simp [lenV]
      · go_wp2
        go_ret
        exact ⟨_, rfl, ys, HOY.out, HG2.out, hd2⟩
end Go.Proofs.YtkkbhhmhkpgbkaaGreat
