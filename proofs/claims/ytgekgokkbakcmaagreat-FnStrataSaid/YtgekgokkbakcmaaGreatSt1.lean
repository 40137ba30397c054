/- Texts W0, H5, H6, Z0, Z1, C6, I0, Z2, R1, D1, D2, S, N3, as far as they are needed. -/
import Derived.Test.YtgekgokkbakcmaaGreatSt0
import Derived.Laws.Bits128
import Derived.Lib.SliceRun
import Derived.ArgAppend
namespace Go.Proofs.YtgekgokkbakcmaaGreat
open Go.RowKit
set_option linter.unusedVariables false
set_option maxHeartbeats 1000000 in
theorem big (v : Value) (n : Nat) (cs : List Value) (w : World) (hr : Rd w v 1 n cs) (hn : n ≤ maxLen) :
    Calls Tryz.prog 8 #[v] w fun e w' => e = .returned (.bool (decide ((1048576 : Int) < (n : Int)))) ∧ w = w' := by
  obtain ⟨a, ca, rfl, hca, hra⟩ := hr
  go_enter Tryz.func8, Tryz.ntmps8
  go_wp2
  go_ret
  exact ⟨rfl, rfl⟩
set_option maxRecDepth 100000 in
set_option maxHeartbeats 1000000 in
theorem sameInts (va vb : Value) (n m : Nat) (xs ys : List Int) (w : World) (ha : Rd w va 1 n (ints xs)) (hb : Rd w vb 1 m (ints ys)) (hx : n ≤ 4000000) (hy : m ≤ 4000000) :
    Calls Tryz.prog 14 #[va, vb] w fun e w' => e = .returned (.bool (sameB xs ys)) ∧ Grew w w' := by
  obtain ⟨a, ca, rfl, hca, hra⟩ := ha
  obtain ⟨b, cb, rfl, hcb, hrb⟩ := hb
  have HX := Lib.hid hra.len_map
  have HY := Lib.hid hrb.len_map
  by_cases hnm : n = m
  · subst hnm
    go_enter Tryz.func14, Tryz.ntmps14
    go_wp2
    go_loopw [5] (fun i wr => ∃ k : Nat, k ≤ n ∧ i = .int .i64 k ∧ Hid (∀ j, j < k → xs[j]? = ys[j]?) ∧ Grew w wr) (fun i _ => n - (intOf i).toNat)
    case atStart => exact ⟨0, Nat.zero_le _, rfl, Lib.hid (fun j h => absurd h (Nat.not_lt_zero j)), Grew.refl _⟩
    case round =>
      obtain ⟨k, hk, rfl, hsame, hbel⟩ := hrel
      by_cases hlt : k < n
      · obtain ⟨b1, o1, x, rfl, hxk, e1⟩ := (hra.grew hbel).one hlt
        obtain ⟨b2, o2, y, rfl, hyk, e2⟩ := (hrb.grew hbel).one hlt
        by_cases he : x = y
        · subst he
          go_wp2
          go_quiet (fail)
          go_wp2
          go_roundw
          case rel => exact ⟨k + 1, by omega, by go_num, Lib.hid (same_snoc hsame.out hxk.out hyk.out rfl), hbel.drewN _⟩
          case measure => simp [intOf]; omega
        · have hq : (x == y) = false := by simp [he]
          have HE := Lib.hid he
          clear he
          go_wp2
          go_quiet (fail)
          go_wp2
          go_ret
          exact ⟨ret_bool (sameB_at hxk.out hyk.out HE.out).symm, hbel.drewN _⟩
      · go_wp2
        go_ret
        obtain rfl : k = n := by omega
        exact ⟨ret_bool (sameB_all HX.out HY.out hsame.out).symm, hbel⟩
  · go_enter Tryz.func14, Tryz.ntmps14
    go_wp2
    go_ret
    exact ⟨ret_bool (sameB_len (by rw [HX.out, HY.out]; exact hnm)).symm, Grew.refl _⟩
theorem bytes_eq {x y : ByteArray} (h : (x.toList == y.toList) = true) : x = y := Go.WideShapes.bytes_inj (by rw [← ByteArray.toList_eq, ← ByteArray.toList_eq]; simpa using h)
set_option maxRecDepth 100000 in
set_option maxHeartbeats 1000000 in
theorem sameTexts (va vb : Value) (n m : Nat) (xs ys : List ByteArray) (w : World) (ha : Rd w va 1 n (strs xs)) (hb : Rd w vb 1 m (strs ys)) (hx : n ≤ 4000000) (hy : m ≤ 4000000) :
    Calls Tryz.prog 22 #[va, vb] w fun e w' => e = .returned (.bool (sameB xs ys)) ∧ Grew w w' := by
  obtain ⟨a, ca, rfl, hca, hra⟩ := ha
  obtain ⟨b, cb, rfl, hcb, hrb⟩ := hb
  have HX := Lib.hid hra.len_map
  have HY := Lib.hid hrb.len_map
  by_cases hnm : n = m
  · subst hnm
    go_enter Tryz.func22, Tryz.ntmps22
    go_wp2
    go_loopw [5] (fun i wr => ∃ k : Nat, k ≤ n ∧ i = .int .i64 k ∧ Hid (∀ j, j < k → xs[j]? = ys[j]?) ∧ Grew w wr) (fun i _ => n - (intOf i).toNat)
    case atStart => exact ⟨0, Nat.zero_le _, rfl, Lib.hid (fun j h => absurd h (Nat.not_lt_zero j)), Grew.refl _⟩
    case round =>
      obtain ⟨k, hk, rfl, hsame, hbel⟩ := hrel
      by_cases hlt : k < n
      · obtain ⟨b1, o1, x, rfl, hxk, e1⟩ := (hra.grew hbel).one hlt
        obtain ⟨b2, o2, y, rfl, hyk, e2⟩ := (hrb.grew hbel).one hlt
        by_cases he : x = y
        · subst he
          go_wp2
          go_quiet (fail)
          go_wp2
          go_roundw
          case rel => exact ⟨k + 1, by omega, by go_num, Lib.hid (same_snoc hsame.out hxk.out hyk.out rfl), hbel.drewN _⟩
          case measure => simp [intOf]; omega
        · have hq : (x.toList == y.toList) = false := by rcases hx : (x.toList == y.toList) with _ | _ <;> first | rfl | exact absurd (bytes_eq hx) he
          have HE := Lib.hid he
          clear he
          go_wp2
          go_quiet (fail)
          go_wp2
          go_ret
          exact ⟨ret_bool (sameB_at hxk.out hyk.out HE.out).symm, hbel.drewN _⟩
      · go_wp2
        go_ret
        obtain rfl : k = n := by omega
        exact ⟨ret_bool (sameB_all HX.out HY.out hsame.out).symm, hbel⟩
  · go_enter Tryz.func22, Tryz.ntmps22
    go_wp2
    go_ret
    exact ⟨ret_bool (sameB_len (by rw [HX.out, HY.out]; exact hnm)).symm, Grew.refl _⟩
set_option maxRecDepth 100000 in
set_option maxHeartbeats 1000000 in
theorem sameResult (x y : Rs) (p p' : P2) (w : World) (h : Rs.R w x p) (h' : Rs.R w y p') (hx : x.small) (hy : y.small) :
    Calls Tryz.prog 101 #[p.v, p'.v] w fun e w' => e = .returned (.bool (sameRs x y)) ∧ Grew w w' := by
  obtain ⟨pn, pq⟩ := p
  obtain ⟨qn, qq⟩ := p'
  obtain ⟨hxn, hxq⟩ := h
  obtain ⟨hyn, hyq⟩ := h'
  simp only at hxn hyn hxq hyq
  have HW := Lib.hid (show sameRs x y = (pn.toList == qn.toList && sameB x.ids y.ids) by rw [hxn, hyn]; rfl)
  clear hxn hyn
  unfold Rs.small at hx hy
  have hg2 := ((Grew.refl w).alloc (.cells #[.string pn, pq] 104)).alloc (.cells #[.string qn, qq] 104)
  have hnn : (pn.toList == qn.toList) = false ∨ (pn.toList == qn.toList) = true := by cases pn.toList == qn.toList <;> simp
  rcases hnn with hnn | hnn
  · go_enter Tryz.func101, Tryz.ntmps101
    go_wp2
    go_ret
    exact ⟨ret_bool (by rw [HW.out, hnn]; rfl), hg2⟩
  · go_enter Tryz.func101, Tryz.ntmps101
    go_wp2_with (go_at_call 14; refine (sameInts _ _ _ _ x.ids y.ids _ (hxq.grew hg2) (hyq.grew hg2) hx hy).mono ?_; rintro e w1 ⟨rfl, hb⟩)
    go_ret
    exact ⟨ret_bool (by rw [HW.out, hnn]; rfl), hg2.trans hb⟩
set_option maxRecDepth 100000 in
set_option maxHeartbeats 2000000 in
theorem sameResults (va vb : Value) (xs ys : List Rs) (w : World) (ha : RdRs w va xs) (hb : RdRs w vb ys) (hx : xs.length ≤ 4000000) (hy : ys.length ≤ 4000000) (hs : ∀ x, x ∈ xs → x.small) (ht : ∀ x, x ∈ ys → x.small) :
    Calls Tryz.prog 43 #[va, vb] w fun e w' => e = .returned (.bool (eqL sameRs xs ys)) ∧ Grew w w' := by
  obtain ⟨qs, ⟨a, ca, rfl, hca, hra⟩, hall⟩ := ha
  obtain ⟨rs, ⟨b, cb, rfl, hcb, hrb⟩, hbll⟩ := hb
  have HS1 := Lib.hid hs
  have HT := Lib.hid ht
  have HA := Lib.hid hall
  have HB := Lib.hid hbll
  clear hall hbll hs ht
  generalize hn : xs.length = n at hx hra
  generalize hm : ys.length = m at hy hrb
  have HX := Lib.hid hn
  have HY := Lib.hid hm
  clear hn hm
  by_cases hnm : n = m
  · subst hnm
    go_enter Tryz.func43, Tryz.ntmps43
    go_wp2
    go_loopw [5] (fun i wr => ∃ k : Nat, k ≤ n ∧ i = .int .i64 k ∧ Hid (∀ (j : Nat) x y, j < k → xs[j]? = some x → ys[j]? = some y → sameRs x y = true) ∧ Grew w wr) (fun i _ => n - (intOf i).toNat)
    case atStart => exact ⟨0, Nat.zero_le _, rfl, Lib.hid (fun j x y h => absurd h (Nat.not_lt_zero j)), Grew.refl _⟩
    case round =>
      obtain ⟨k, hk, rfl, hsame, hbel⟩ := hrel
      by_cases hlt : k < n
      · obtain ⟨b1, o1, p, rfl, hpk, c0, c1⟩ := (hra.grew hbel).getP2 hlt
        obtain ⟨b2, o2, q, rfl, hqk, d0, d1⟩ := (hrb.grew hbel).getP2 hlt
        obtain ⟨x, hxk, hxr⟩ := HA.out.get hpk.out
        obtain ⟨y, hyk, hyr⟩ := HB.out.get hqk.out
        have hxs := HS1.out x (List.mem_of_getElem? hxk.out)
        have hys := HT.out y (List.mem_of_getElem? hyk.out)
        obtain ⟨pn, pq⟩ := p
        obtain ⟨qn, qq⟩ := q
        have HXR := Lib.hid hxr
        have HYR := Lib.hid hyr
        clear hxr hyr
        simp only at c0 d0 c1 d1
        have hkn : (k : Int) < (n : Int) := by omega
        have hk0 : (0 : Int) ≤ (k : Int) := by omega
        obtain ⟨v, hv⟩ : ∃ v, v = sameRs x y := ⟨_, rfl⟩
        have HV := Lib.hid hv
        clear hv
        cases v
        · go_wp2_with fail
          refine wp_region_noPanic ?_
          refine wp_region_held_drew (S := (fun w' => (w'.cell? ⟨b1, o1 + k * 2, none⟩ = some (.string pn) ∧ w'.cell? ⟨b1, o1 + k * 2 + 1, none⟩ = some (pq) ∧ w'.cell? ⟨b2, o2 + k * 2, none⟩ = some (.string qn) ∧ w'.cell? ⟨b2, o2 + k * 2 + 1, none⟩ = some (qq) ∧ Grew wr w'))) (by kernel_rfl) ?h1_S ?h1_r
          case h1_S => exact ⟨c0, c1, d0, d1, (Grew.refl _).drew⟩
          case h1_r =>
            intro HS
            first
              | refine sk 0 rfl (by kernel_rfl) rfl HS ?_
              | (refine tk (v := ?v1_0) 0 rfl (by kernel_rfl) rfl ?y1_0 HS ?_; case y1_0 => (intro w' hSw; (try dsimp only at hSw); go_simp <;> (with_reducible rfl)))
            try simp only [Act.put, List.setIfInBounds_toArray, List.set_cons_zero, List.set_cons_succ]
            first
              | refine sk 1 rfl (by kernel_rfl) rfl HS ?_
              | (refine tk (v := ?v1_1) 1 rfl (by kernel_rfl) rfl ?y1_1 HS ?_; case y1_1 => (intro w' hSw; (try dsimp only at hSw); go_simp <;> (with_reducible rfl)))
            try simp only [Act.put, List.setIfInBounds_toArray, List.set_cons_zero, List.set_cons_succ]
            first
              | refine sk 2 rfl (by kernel_rfl) rfl HS ?_
              | (refine tk (v := ?v1_2) 2 rfl (by kernel_rfl) rfl ?y1_2 HS ?_; case y1_2 => (intro w' hSw; (try dsimp only at hSw); go_simp <;> (with_reducible rfl)))
            try simp only [Act.put, List.setIfInBounds_toArray, List.set_cons_zero, List.set_cons_succ]
            first
              | refine sk 3 rfl (by kernel_rfl) rfl HS ?_
              | (refine tk (v := ?v1_3) 3 rfl (by kernel_rfl) rfl ?y1_3 HS ?_; case y1_3 => (intro w' hSw; (try dsimp only at hSw); go_simp <;> (with_reducible rfl)))
            try simp only [Act.put, List.setIfInBounds_toArray, List.set_cons_zero, List.set_cons_succ]
            first
              | refine sk 4 rfl (by kernel_rfl) rfl HS ?_
              | (refine tk (v := ?v1_4) 4 rfl (by kernel_rfl) rfl ?y1_4 HS ?_; case y1_4 => (intro w' hSw; (try dsimp only at hSw); go_simp <;> (with_reducible rfl)))
            try simp only [Act.put, List.setIfInBounds_toArray, List.set_cons_zero, List.set_cons_succ]
            first
              | refine sk 5 rfl (by kernel_rfl) rfl HS ?_
              | (refine tk (v := ?v1_5) 5 rfl (by kernel_rfl) rfl ?y1_5 HS ?_; case y1_5 => (intro w' hSw; (try dsimp only at hSw); go_simp <;> (with_reducible rfl)))
            try simp only [Act.put, List.setIfInBounds_toArray, List.set_cons_zero, List.set_cons_succ]
            first
              | refine sk 6 rfl (by kernel_rfl) rfl HS ?_
              | (refine tk (v := ?v1_6) 6 rfl (by kernel_rfl) rfl ?y1_6 HS ?_; case y1_6 => (intro w' hSw; (try dsimp only at hSw); go_simp <;> (with_reducible rfl)))
            try simp only [Act.put, List.setIfInBounds_toArray, List.set_cons_zero, List.set_cons_succ]
            first
              | refine sk 7 rfl (by kernel_rfl) rfl HS ?_
              | (refine tk (v := ?v1_7) 7 rfl (by kernel_rfl) rfl ?y1_7 HS ?_; case y1_7 => (intro w' hSw; (try dsimp only at hSw); go_simp <;> (with_reducible rfl)))
            try simp only [Act.put, List.setIfInBounds_toArray, List.set_cons_zero, List.set_cons_succ]
            refine cl 8 rfl (by kernel_rfl) (fun K hK => ?_)
            go_simp
            go_at_call 101
            refine (sameResult x y ⟨pn, pq⟩ ⟨qn, qq⟩ _ (HXR.out.grew (hbel.trans HS.2.2.2.2)) (HYR.out.grew (hbel.trans HS.2.2.2.2)) hxs hys).mono ?_
            rintro e w1 ⟨he, hb⟩
            rw [← HV.out] at he
            subst he
            refine hK.out _ _ ?s1_8 ?r1_8
            case s1_8 => (try dsimp only); exact ⟨grew_cell hb HS.1, grew_cell hb HS.2.1, grew_cell hb HS.2.2.1, grew_cell hb HS.2.2.2.1, HS.2.2.2.2.trans hb⟩
            case r1_8 =>
              clear HS
              intro HS
              clear hK K
              try simp only [Act.put, List.setIfInBounds_toArray, List.set_cons_zero, List.set_cons_succ]
              first
                | refine sk 9 rfl (by kernel_rfl) rfl HS ?_
                | (refine tk (v := ?v1_9) 9 rfl (by kernel_rfl) rfl ?y1_9 HS ?_; case y1_9 => (intro w' hSw; (try dsimp only at hSw); go_simp <;> (with_reducible rfl)))
              try simp only [Act.put, List.setIfInBounds_toArray, List.set_cons_zero, List.set_cons_succ]
              refine wpAnyH_done (by kernel_rfl) ?_ _
              refine NoPanic.normal ?_
              have hw := hbel.trans HS.2.2.2.2
              clear HS
              go_wp2
              go_ret
              exact ⟨ret_bool (eqL_at hxk.out hyk.out HV.out.symm).symm, hw⟩
        · go_wp2_with fail
          refine wp_region_noPanic ?_
          refine wp_region_held_drew (S := (fun w' => (w'.cell? ⟨b1, o1 + k * 2, none⟩ = some (.string pn) ∧ w'.cell? ⟨b1, o1 + k * 2 + 1, none⟩ = some (pq) ∧ w'.cell? ⟨b2, o2 + k * 2, none⟩ = some (.string qn) ∧ w'.cell? ⟨b2, o2 + k * 2 + 1, none⟩ = some (qq) ∧ Grew wr w'))) (by kernel_rfl) ?h2_S ?h2_r
          case h2_S => exact ⟨c0, c1, d0, d1, (Grew.refl _).drew⟩
          case h2_r =>
            intro HS
            first
              | refine sk 0 rfl (by kernel_rfl) rfl HS ?_
              | (refine tk (v := ?v2_0) 0 rfl (by kernel_rfl) rfl ?y2_0 HS ?_; case y2_0 => (intro w' hSw; (try dsimp only at hSw); go_simp <;> (with_reducible rfl)))
            try simp only [Act.put, List.setIfInBounds_toArray, List.set_cons_zero, List.set_cons_succ]
            first
              | refine sk 1 rfl (by kernel_rfl) rfl HS ?_
              | (refine tk (v := ?v2_1) 1 rfl (by kernel_rfl) rfl ?y2_1 HS ?_; case y2_1 => (intro w' hSw; (try dsimp only at hSw); go_simp <;> (with_reducible rfl)))
            try simp only [Act.put, List.setIfInBounds_toArray, List.set_cons_zero, List.set_cons_succ]
            first
              | refine sk 2 rfl (by kernel_rfl) rfl HS ?_
              | (refine tk (v := ?v2_2) 2 rfl (by kernel_rfl) rfl ?y2_2 HS ?_; case y2_2 => (intro w' hSw; (try dsimp only at hSw); go_simp <;> (with_reducible rfl)))
            try simp only [Act.put, List.setIfInBounds_toArray, List.set_cons_zero, List.set_cons_succ]
            first
              | refine sk 3 rfl (by kernel_rfl) rfl HS ?_
              | (refine tk (v := ?v2_3) 3 rfl (by kernel_rfl) rfl ?y2_3 HS ?_; case y2_3 => (intro w' hSw; (try dsimp only at hSw); go_simp <;> (with_reducible rfl)))
            try simp only [Act.put, List.setIfInBounds_toArray, List.set_cons_zero, List.set_cons_succ]
            first
              | refine sk 4 rfl (by kernel_rfl) rfl HS ?_
              | (refine tk (v := ?v2_4) 4 rfl (by kernel_rfl) rfl ?y2_4 HS ?_; case y2_4 => (intro w' hSw; (try dsimp only at hSw); go_simp <;> (with_reducible rfl)))
            try simp only [Act.put, List.setIfInBounds_toArray, List.set_cons_zero, List.set_cons_succ]
            first
              | refine sk 5 rfl (by kernel_rfl) rfl HS ?_
              | (refine tk (v := ?v2_5) 5 rfl (by kernel_rfl) rfl ?y2_5 HS ?_; case y2_5 => (intro w' hSw; (try dsimp only at hSw); go_simp <;> (with_reducible rfl)))
            try simp only [Act.put, List.setIfInBounds_toArray, List.set_cons_zero, List.set_cons_succ]
            first
              | refine sk 6 rfl (by kernel_rfl) rfl HS ?_
              | (refine tk (v := ?v2_6) 6 rfl (by kernel_rfl) rfl ?y2_6 HS ?_; case y2_6 => (intro w' hSw; (try dsimp only at hSw); go_simp <;> (with_reducible rfl)))
            try simp only [Act.put, List.setIfInBounds_toArray, List.set_cons_zero, List.set_cons_succ]
            first
              | refine sk 7 rfl (by kernel_rfl) rfl HS ?_
              | (refine tk (v := ?v2_7) 7 rfl (by kernel_rfl) rfl ?y2_7 HS ?_; case y2_7 => (intro w' hSw; (try dsimp only at hSw); go_simp <;> (with_reducible rfl)))
            try simp only [Act.put, List.setIfInBounds_toArray, List.set_cons_zero, List.set_cons_succ]
            refine cl 8 rfl (by kernel_rfl) (fun K hK => ?_)
            go_simp
            go_at_call 101
            refine (sameResult x y ⟨pn, pq⟩ ⟨qn, qq⟩ _ (HXR.out.grew (hbel.trans HS.2.2.2.2)) (HYR.out.grew (hbel.trans HS.2.2.2.2)) hxs hys).mono ?_
            rintro e w1 ⟨he, hb⟩
            rw [← HV.out] at he
            subst he
            refine hK.out _ _ ?s2_8 ?r2_8
            case s2_8 => (try dsimp only); exact ⟨grew_cell hb HS.1, grew_cell hb HS.2.1, grew_cell hb HS.2.2.1, grew_cell hb HS.2.2.2.1, HS.2.2.2.2.trans hb⟩
            case r2_8 =>
              clear HS
              intro HS
              clear hK K
              try simp only [Act.put, List.setIfInBounds_toArray, List.set_cons_zero, List.set_cons_succ]
              first
                | refine sk 9 rfl (by kernel_rfl) rfl HS ?_
                | (refine tk (v := ?v2_9) 9 rfl (by kernel_rfl) rfl ?y2_9 HS ?_; case y2_9 => (intro w' hSw; (try dsimp only at hSw); go_simp <;> (with_reducible rfl)))
              try simp only [Act.put, List.setIfInBounds_toArray, List.set_cons_zero, List.set_cons_succ]
              refine wpAnyH_done (by kernel_rfl) ?_ _
              refine NoPanic.normal ?_
              have hw := hbel.trans HS.2.2.2.2
              clear HS
              go_wp2
              go_roundw
              case rel => exact ⟨k + 1, by omega, by go_num, Lib.hid (eqL_snoc hsame.out hxk.out hyk.out HV.out.symm), hw⟩
              case measure => simp [intOf]; omega
      · go_wp2
        go_ret
        obtain rfl : k = n := by omega
        exact ⟨ret_bool (eqL_all HX.out HY.out hsame.out).symm, hbel⟩
  · go_enter Tryz.func43, Tryz.ntmps43
    go_wp2
    go_ret
    exact ⟨ret_bool (eqL_len (by rw [HX.out, HY.out]; exact hnm)).symm, Grew.refl _⟩
noncomputable def sameDf (x y : Df) : Bool := x.name.toList == y.name.toList && sameB x.added y.added && sameB x.removed y.removed
end Go.Proofs.YtgekgokkbakcmaaGreat
namespace Go.Proofs.YtgekgokkbakcmaaGreat
open Go.RowKit
set_option linter.unusedVariables false
theorem All2.upd {α β : Type} {R S : α → β → Prop} {xs : List α} {ys : List β} (h : All2 R xs ys) (k : Nat) (x : α) (y : β) (hs : ∀ (i : Nat) a b, i ≠ k → xs[i]? = some a → ys[i]? = some b → R a b → S a b) (hr : S x y) : All2 S (xs.set k x) (ys.set k y) := by
  refine ⟨by simp [h.1], fun j a b ha hb => ?_⟩
  by_cases hij : k = j
  · subst hij
    have hl := (List.getElem?_eq_some_iff.1 ha).1
    simp at hl
    rw [List.getElem?_set_self hl] at ha
    rw [List.getElem?_set_self (by rw [← h.1]; exact hl)] at hb
    simp at ha hb; subst ha; subst hb; exact hr
  · rw [List.getElem?_set_ne hij] at ha hb
    exact hs j a b (fun e => hij e.symm) ha hb (h.2 j a b ha hb)
theorem Own.touch' {w w' : World} {lo hi a b : Nat} {e : TypeId} {k n : Nat} {v : Value} {cs : List Value} (h : Own w lo hi e k v n cs) (ht : Touch a b w w') (hd : ∀ c, v.ownBlock = some c → c < a ∨ b ≤ c) : Own w' lo hi e k v n cs := by
  refine ⟨?_, h.2⟩
  obtain ⟨hl, ⟨rfl, rfl⟩ | ⟨g, cap, cur, rfl, hg, hh, hr⟩⟩ := h.1
  · exact ⟨hl, .inl ⟨rfl, rfl⟩⟩
  · have hb := h.1.lt g rfl
    exact ⟨hl, .inr ⟨g, cap, cur, rfl, hg, (ht.block g hb.2 (hd g rfl)).trans hh, hr⟩⟩
def Dr.sz (x : Dr) : Nat := x.name.size + (x.query.length + szAll N.sz x.query)
theorem Dr.O.touch' {w w' : World} {lo hi a b : Nat} {x : Dr} {p : P2} (h : Dr.O w lo hi x p) (ht : Touch a b w w') (hd : ∀ v c, v ∈ Dr.subs p → v.ownBlock = some c → c < a ∨ b ≤ c) : Dr.O w' lo hi x p := ⟨h.1, (h.2).touch' ht (fun c hc => hd _ c (by simp [Dr.subs]) hc)⟩
def Rs.sz (x : Rs) : Nat := x.name.size + (x.ids.length)
theorem Rs.O.touch' {w w' : World} {lo hi a b : Nat} {x : Rs} {p : P2} (h : Rs.O w lo hi x p) (ht : Touch a b w w') (hd : ∀ v c, v ∈ Rs.subs p → v.ownBlock = some c → c < a ∨ b ≤ c) : Rs.O w' lo hi x p := ⟨h.1, (h.2).touch' ht (fun c hc => hd _ c (by simp [Rs.subs]) hc)⟩
def Df.sz (x : Df) : Nat := x.name.size + (x.added.length) + (x.removed.length)
def Fl.sz (x : Fl) : Nat := (x.attrs.length + szAll At.sz x.attrs)
theorem Fl.O.touch' {w w' : World} {lo hi a b : Nat} {x : Fl} {p : P5} (h : Fl.O w lo hi x p) (ht : Touch a b w w') (hd : ∀ v c, v ∈ Fl.subs p → v.ownBlock = some c → c < a ∨ b ≤ c) : Fl.O w' lo hi x p := ⟨h.1, h.2.1, h.2.2.1, h.2.2.2.1, (h.2.2.2.2).touch' ht (fun c hc => hd _ c (by simp [Fl.subs]) hc)⟩
end Go.Proofs.YtgekgokkbakcmaaGreat
namespace Go.Proofs.YtgekgokkbakcmaaGreat
open Go.RowKit
set_option linter.unusedVariables false
end Go.Proofs.YtgekgokkbakcmaaGreat
namespace Go.Proofs.YtgekgokkbakcmaaGreat
open Go.RowKit
set_option linter.unusedVariables false
def Cur (w : World) (g : Nat) : Prop :=
  ∃ (a : Option Addr) (n c : Nat) (i h : Int) (bs : List Int), w.cell? ⟨g, 0, none⟩ = some (.slice a n c) ∧ w.cell? ⟨g, 1, none⟩ = some (.int .i64 i) ∧ w.cell? ⟨g, 2, none⟩ = some (.int .i64 h) ∧
    0 ≤ i ∧ i ≤ n ∧ n ≤ 1048576 ∧ RdA w a 1 n (bs.map (Value.int .u8)) ∧ (0 < n → ∀ b, a = some b → b.block < g) ∧ w.frozen? ⟨g, 1, none⟩ = false ∧ w.frozen? ⟨g, 2, none⟩ = false
theorem Cur.lt {w : World} {g : Nat} (h : Cur w g) : g < w.heap.size := by
  obtain ⟨a, n, c, i, k, bs, h0, _⟩ := h
  exact lt_of_cell h0
theorem tch_cell {w w' : World} {lo hi : Nat} (ht : Touch lo hi w w') {p : Addr} {u : Value} (hb : p.block < lo ∨ hi ≤ p.block) (h : w.cell? p = some u) : w'.cell? p = some u :=
  (World.cell?_of_block (w := w) (ht.block p.block (lt_of_cell h) hb)).trans h
theorem tch_frozen {w w' : World} {lo hi : Nat} (ht : Touch lo hi w w') {p : Addr} (hl : p.block < w.heap.size) (hb : p.block < lo ∨ hi ≤ p.block) (h : w.frozen? p = false) : w'.frozen? p = false :=
  (World.frozen?_of_block (w := w) (ht.block p.block hl hb)).trans h
theorem RdA.tch {w w' : World} {a : Option Addr} {k n lo hi : Nat} {cs : List Value} (h : RdA w a k n cs) (ht : Touch lo hi w w') (hb : 0 < n → ∀ b, a = some b → b.block < lo ∨ hi ≤ b.block) : RdA w' a k n cs := by
  obtain ⟨hl, hr⟩ := h
  refine ⟨hl, fun hn => ?_⟩
  obtain ⟨b, o, rfl, hj⟩ := hr hn
  refine ⟨b, o, rfl, fun j hjn => ?_⟩
  have h0 := hj j hjn
  rw [List.getElem?_eq_getElem (by omega)] at h0 ⊢
  exact tch_cell ht (p := ⟨b, o + j, none⟩) (hb hn ⟨b, o, none⟩ rfl) h0
theorem Cur.touch {w w' : World} {g lo hi : Nat} (h : Cur w g) (ht : Touch lo hi w w') (hg : g < lo) : Cur w' g := by
  have hlt := h.lt
  obtain ⟨a, n, c, i, k, bs, h0, h1, h2, h3, h4, h5, h6, h7, h8, h9⟩ := h
  exact ⟨a, n, c, i, k, bs, tch_cell ht (.inl hg) h0, tch_cell ht (.inl hg) h1, tch_cell ht (.inl hg) h2, h3, h4, h5, h6.tch ht (fun hn b hb => .inl (by have := h7 hn b hb; omega)), h7, tch_frozen ht hlt (.inl hg) h8, tch_frozen ht hlt (.inl hg) h9⟩
theorem Cur.grew {w w' : World} {g : Nat} (h : Cur w g) (hg : Grew w w') : Cur w' g := h.touch (hg.touch (g + 1) (g + 1)) (Nat.lt_succ_self g)
def D (g : Nat) (w w' : World) : Prop := g < w.heap.size ∧ Touch g (g + 1) w w' ∧ Cur w' g
theorem D.refl {w : World} {g : Nat} (h : Cur w g) : D g w w := ⟨h.lt, Touch.refl _ _ _, h⟩
theorem D.cur {g : Nat} {w w' : World} (h : D g w w') : Cur w' g := h.2.2
theorem D.size {g : Nat} {w w' : World} (h : D g w w') : w.heap.size ≤ w'.heap.size := h.2.1.size
theorem D.lt {g : Nat} {w w' : World} (h : D g w w') : g < w.heap.size := h.1
theorem D.trans {g : Nat} {a b c : World} (h : D g a b) (k : D g b c) : D g a c := ⟨h.1, h.2.1.trans k.2.1, k.2.2⟩
theorem D.grew {g : Nat} {a b c : World} (h : D g a b) (k : Grew b c) : D g a c := ⟨h.1, h.2.1.grew k, h.2.2.grew k⟩
theorem D.alloc {g : Nat} {a b : World} (h : D g a b) (o : Obj) : D g a (b.alloc o) := h.grew ((Grew.refl b).alloc o)
theorem D.drew {g : Nat} {a b : World} (h : D g a b) : D g a b.drew := h.grew (Grew.refl b).drew
theorem D.drewN {g : Nat} {a b : World} (h : D g a b) (n : Nat) : D g a (b.drewN n) := h.grew ((Grew.refl b).drewN n)
theorem D.touch {g lo hi : Nat} {a b c : World} (h : D g a b) (k : Touch lo hi b c) (hl : a.heap.size ≤ lo) : D g a c := by
  have hg := h.1
  refine ⟨hg, ⟨k.os.trans h.2.1.os, k.tape.trans h.2.1.tape, k.output.trans h.2.1.output, Nat.le_trans h.2.1.size k.size, fun b' hb ho => ?_⟩, h.2.2.touch k (by omega)⟩
  exact (k.block b' (Nat.lt_of_lt_of_le hb h.2.1.size) (.inl (by omega))).trans (h.2.1.block b' hb ho)
theorem D.setCell {g : Nat} {a b : World} (h : D g a b) {p : Addr} (hp : a.heap.size ≤ p.block) (u : Value) : D g a (b.setCell p u) :=
  h.touch (lo := p.block) (hi := p.block + 1) (Touch.setCell (Touch.refl _ _ _) (Nat.le_refl _) (Nat.lt_succ_self _) u) hp
theorem grown_touch {w w' : World} {row : Option Nat} (hg : w.grownBy w' row) {lo hi : Nat} (hr : ∀ k, row = some k → lo ≤ k ∧ k < hi) : Touch lo hi w w' :=
  ⟨hg.os, hg.tape, hg.output, hg.size, fun b hb ho => hg.block b hb (fun e => by have := hr b e.symm; omega)⟩
theorem D.grown {g : Nat} {a b c : World} {row : Option Nat} (h : D g a b) (hg : b.grownBy c row) (hr : ∀ k, row = some k → a.heap.size ≤ k) : D g a c := by
  cases row with
  | none => exact h.touch (lo := a.heap.size) (hi := a.heap.size) (grown_touch hg (fun k hk => by cases hk)) (Nat.le_refl _)
  | some k => exact h.touch (lo := k) (hi := k + 1) (grown_touch hg (fun j hj => by cases hj; omega)) (hr k rfl)
theorem D.cell {g : Nat} {w w' : World} (h : D g w w') {p : Addr} {u : Value} (hc : w.cell? p = some u) (hp : p.block ≠ g) : w'.cell? p = some u :=
  tch_cell h.2.1 (by omega) hc
theorem D.frozen {g : Nat} {w w' : World} (h : D g w w') {p : Addr} (hl : p.block < w.heap.size) (hf : w.frozen? p = false) (hp : p.block ≠ g) : w'.frozen? p = false :=
  tch_frozen h.2.1 hl (by omega) hf
theorem ownsRow_tch {w w' : World} {lo hi base : Nat} {e : TypeId} {k n : Nat} {v : Value} {cs : List Value} (h : w.ownsRow base e k v n cs) (ht : Touch lo hi w w') (hd : hi ≤ base) : w'.ownsRow base e k v n cs := by
  obtain ⟨hl, ⟨rfl, rfl⟩ | ⟨g, cap, cur, rfl, hg, hh, hr⟩⟩ := h
  · exact ⟨hl, .inl ⟨rfl, rfl⟩⟩
  · refine ⟨hl, .inr ⟨g, cap, cur, rfl, hg, ?_, hr⟩⟩
    rw [ht.block g (Array.getElem?_eq_some_iff.1 hh).1 (.inr (by omega))]
    exact hh
theorem D.own {g : Nat} {w w' : World} (h : D g w w') {base : Nat} {e : TypeId} {k n : Nat} {v : Value} {cs : List Value} (hr : w.ownsRow base e k v n cs) (hg : g < base) : w'.ownsRow base e k v n cs :=
  ownsRow_tch hr h.2.1 hg
theorem D.rd {g : Nat} {w w' : World} (h : D g w w') {k n : Nat} {v : Value} {cs : List Value} (hr : Rd w v k n cs) (hg : v.ownBlock ≠ some g) : Rd w' v k n cs := by
  obtain ⟨a, c, rfl, hc, ha⟩ := hr
  refine ⟨a, c, rfl, hc, ha.tch h.2.1 fun _ b hb => ?_⟩
  subst hb
  have : b.block ≠ g := fun e => hg (by simp [Value.ownBlock, e])
  omega
def GL {α β : Type} (enc : β → List Value) (k : Nat) (e : TypeId) (O : World → Nat → Nat → α → β → Prop) (w : World) (base : Nat) (v : Value) (xs : List α) : Prop :=
  ∃ ps, w.ownsRow base e k v xs.length (rows enc ps) ∧ All2 (O w base w.heap.size) xs ps
theorem GL.rd {α β : Type} {enc : β → List Value} {k : Nat} {e : TypeId} {O : World → Nat → Nat → α → β → Prop} {R : World → α → β → Prop} (hO : ∀ w lo hi x p, O w lo hi x p → R w x p) {w : World} {base : Nat} {v : Value} {xs : List α} (h : GL enc k e O w base v xs) : RdL enc k R w v xs := by
  obtain ⟨ps, h1, h2⟩ := h
  exact ⟨ps, rd_of_own h1, h2.mono fun x p h => hO _ _ _ _ _ h⟩
theorem GL.touch {α β : Type} {enc : β → List Value} {k : Nat} {e : TypeId} {O : World → Nat → Nat → α → β → Prop} (hO : ∀ w w' lo hi a b x p, O w lo hi x p → Touch a b w w' → (hi ≤ a ∨ b ≤ lo) → O w' lo hi x p) (hM : ∀ w lo hi hi' x p, O w lo hi x p → hi ≤ hi' → O w lo hi' x p)
    {w w' : World} {base a b : Nat} {v : Value} {xs : List α} (h : GL enc k e O w base v xs) (ht : Touch a b w w') (hd : b ≤ base) : GL enc k e O w' base v xs := by
  obtain ⟨ps, h1, h2⟩ := h
  exact ⟨ps, ownsRow_tch h1 ht hd, h2.mono fun x p h => hM _ _ _ _ _ _ (hO _ _ _ _ _ _ _ _ h ht (.inr hd)) ht.size⟩
theorem GL.slice {α β : Type} {enc : β → List Value} {k : Nat} {e : TypeId} {O : World → Nat → Nat → α → β → Prop} {w : World} {base : Nat} {v : Value} {xs : List α} (h : GL enc k e O w base v xs) : ∃ a c, v = .slice a xs.length c := by
  obtain ⟨ps, h1, _⟩ := h
  exact own_slice h1
theorem GL.base {α β : Type} {enc : β → List Value} {k : Nat} {e : TypeId} {O : World → Nat → Nat → α → β → Prop} (hM : ∀ w lo lo' hi x p, O w lo hi x p → lo' ≤ lo → O w lo' hi x p) {w : World} {base base' : Nat} {v : Value} {xs : List α} (h : GL enc k e O w base v xs) (hb : base' ≤ base) : GL enc k e O w base' v xs := by
  obtain ⟨ps, h1, h2⟩ := h
  exact ⟨ps, ownsRow_base h1 hb, h2.mono fun x p h => hM _ _ _ _ _ _ h hb⟩
end Go.Proofs.YtgekgokkbakcmaaGreat
namespace Go.Proofs.YtgekgokkbakcmaaGreat
open Go.RowKit
set_option linter.unusedVariables false
theorem and255 (n : Int) : bits .and .i64 n 255 = n % 256 := by
  have h255 : (BitVec.ofInt 64 255).toNat = 2 ^ 8 - 1 := by decide
  have key : (BitVec.ofInt 64 n &&& BitVec.ofInt 64 255).toNat = (n % ((2 ^ 64 : Nat) : Int)).toNat % 2 ^ 8 := by
    rw [BitVec.toNat_and, BitVec.toNat_ofInt, h255, Nat.and_two_pow_sub_one_eq_mod]
  show IntKind.i64.wrap ((BitVec.ofInt 64 n &&& BitVec.ofInt 64 255).toNat : Nat) = n % 256
  rw [key, IntKind.wrap_i64]
  omega
theorem and255_ok (n : Int) : 0 ≤ bits .and .i64 n 255 ∧ bits .and .i64 n 255 ≤ 255 := by rw [and255]; omega
theorem curOf {w w' : World} {g : Nat} (ht : Touch g (g + 1) w w') {a : Option Addr} {n c : Nat} {i h : Int} {bs : List Int} (h0 : w'.cell? ⟨g, 0, none⟩ = some (.slice a n c)) (h1 : w'.cell? ⟨g, 1, none⟩ = some (.int .i64 i)) (h2 : w'.cell? ⟨g, 2, none⟩ = some (.int .i64 h))
    (h3 : 0 ≤ i) (h4 : i ≤ n) (h5 : n ≤ 1048576) (h6 : RdA w a 1 n (bs.map (Value.int .u8))) (h7 : 0 < n → ∀ b, a = some b → b.block < g) (h8 : w'.frozen? ⟨g, 1, none⟩ = false) (h9 : w'.frozen? ⟨g, 2, none⟩ = false) : Cur w' g :=
  ⟨a, n, c, i, h, bs, h0, h1, h2, h3, h4, h5, h6.tch ht (fun hn b hb => .inl (h7 hn b hb)), h7, h8, h9⟩
theorem D.of {w w' : World} {g : Nat} (hl : g < w.heap.size) (ht : Touch g (g + 1) w w') (hc : Cur w' g) : D g w w' := ⟨hl, ht, hc⟩
set_option maxRecDepth 100000 in
set_option maxHeartbeats 1000000 in
theorem l01Byte (g : Nat) (w : World) (hc : Cur w g) :
    Calls Tryz.prog 140 #[.pointer (some ⟨g, 0, none⟩)] w fun e w' => ∃ x : Int, e = .returned (.int .i64 x) ∧ (0 ≤ x ∧ x ≤ 255) ∧ D g w w' := by
  have hlt := hc.lt
  obtain ⟨a, n, c, i, h, bs, h0, h1, h2, h3, h4, h5, h6, h7, h8, h9⟩ := hc
  have HB := Lib.hid h7
  have HR := Lib.hid h6
  clear h7
  by_cases hin : i < (n : Int)
  · obtain ⟨k, rfl⟩ : ∃ k : Nat, i = k := ⟨i.toNat, by omega⟩
    have hkn : k < n := by omega
    obtain ⟨b1, o1, x, rfl, hx, hcx⟩ := h6.one hkn
    have hb1 := HB.out (by omega) _ rfl
    have hne : ¬ (b1 = g) := by simp at hb1; omega
    clear h6 h3 h4
    go_enter Tryz.func140, Tryz.ntmps140
    go_wp2
    go_quiet (fail)
    go_wp2
    go_quiet (fail)
    go_wp2
    go_quiet (fail)
    go_wp2
    go_ret
    have ht : ∀ (u v : Value) (p : Nat), Touch g (g + 1) w (((w.setCell ⟨g, 2, none⟩ u).drewN p).setCell ⟨g, 1, none⟩ v) := fun u v p => (((Touch.refl g (g + 1) w).setCell (p := ⟨g, 2, none⟩) (Nat.le_refl _) (Nat.lt_succ_self _) u).drewN p).setCell (p := ⟨g, 1, none⟩) (Nat.le_refl _) (Nat.lt_succ_self _) v
    exact ⟨_, rfl, and255_ok _, D.of hlt (ht _ _ _) (curOf (ht _ _ _) (i := (k : Int) + 1) (by simp [go_sem, h0]; rfl) (by simp [go_sem, h1]; try go_num) (by simp [go_sem, h2]; rfl) (by omega) (by omega) h5 HR.out HB.out (by simp [go_sem, h8]) (by simp [go_sem, h9]))⟩
  · go_enter Tryz.func140, Tryz.ntmps140
    go_wp2
    go_quiet (fail)
    go_wp2
    go_quiet (fail)
    go_wp2
    go_ret
    have ht : ∀ (u : Value) (p q : Nat), Touch g (g + 1) w (((w.setCell ⟨g, 2, none⟩ u).drewN p).drewN q) := fun u p q => (((Touch.refl g (g + 1) w).setCell (p := ⟨g, 2, none⟩) (Nat.le_refl _) (Nat.lt_succ_self _) u).drewN p).drewN q
    exact ⟨_, rfl, and255_ok _, D.of hlt (ht _ _ _) (curOf (ht _ _ _) (by simp [go_sem, h0]; rfl) (by simp [go_sem, h1]) (by simp [go_sem, h2]; rfl) h3 h4 h5 HR.out HB.out (by simp [go_sem, h8]) (by simp [go_sem, h9]))⟩
theorem mod_ok {x k : Int} (hk : 0 < k) : 0 ≤ x % k ∧ x % k < k := ⟨Int.emod_nonneg _ (by omega), Int.emod_lt_of_pos _ hk⟩
set_option maxRecDepth 100000 in
set_option maxHeartbeats 1000000 in
theorem l01Below (g : Nat) (w : World) (hc : Cur w g) (k : Int) (hk : 0 < k) (hk2 : k ≤ 4294967296) :
    Calls Tryz.prog 89 #[.pointer (some ⟨g, 0, none⟩), .int .i64 k] w fun e w' => ∃ x : Int, e = .returned (.int .i64 x) ∧ (0 ≤ x ∧ x < k) ∧ D g w w' := by
  by_cases hle : k ≤ 256
  · go_enter Tryz.func89, Tryz.ntmps89
    go_wp2_with (go_at_call 140; refine (l01Byte g _ hc).mono ?_; rintro e w1 ⟨x, rfl, hx, hd⟩)
    go_ret
    exact ⟨_, rfl, mod_ok hk, hd⟩
  · go_enter Tryz.func89, Tryz.ntmps89
    go_wp2_with fail
    refine (l01Byte g _ hc).mono ?_; rintro e w1 ⟨x, rfl, hx, hd1⟩
    go_wp2_with fail
    refine (l01Byte g _ hd1.cur).mono ?_; rintro e w2 ⟨y, rfl, hy, hd2⟩
    go_wp2_with fail
    refine (l01Byte g _ hd2.cur).mono ?_; rintro e w3 ⟨z, rfl, hz, hd3⟩
    go_wp2_with fail
    refine (l01Byte g _ hd3.cur).mono ?_; rintro e w4 ⟨t, rfl, ht, hd4⟩
    go_wp2
    go_ret
    exact ⟨_, rfl, mod_ok hk, ((hd1.trans hd2).trans hd3).trans hd4⟩
set_option maxRecDepth 100000 in
set_option maxHeartbeats 1000000 in
theorem l01Once (g : Nat) (w : World) (hc : Cur w g) (k : Int) (hk : 0 < k) (hk2 : k ≤ 256) :
    Calls Tryz.prog 110 #[.pointer (some ⟨g, 0, none⟩), .int .i64 k] w fun e w' => ∃ b : Bool, e = .returned (.bool b) ∧ D g w w' := by
  go_enter Tryz.func110, Tryz.ntmps110
  go_wp2_with (go_at_call 89; refine (l01Below g _ hc k hk (by omega)).mono ?_; rintro e w1 ⟨x, rfl, hx, hd⟩)
  go_ret
  exact ⟨_, rfl, hd⟩
set_option maxRecDepth 100000 in
set_option maxHeartbeats 1000000 in
theorem l01Pick (g : Nat) (w : World) (hc : Cur w g) (v : Value) (n : Nat) (xs : List ByteArray) (hr : Rd w v 1 n (strs xs)) (hb : v.ownBlock ≠ some g) (hn : 0 < n) (hn2 : n ≤ 256) :
    Calls Tryz.prog 122 #[.pointer (some ⟨g, 0, none⟩), v] w fun e w' => ∃ x, e = .returned (.string x) ∧ x ∈ xs ∧ D g w w' := by
  obtain ⟨a, ca, rfl, hca, hra⟩ := hr
  have HB := Lib.hid hb
  go_enter Tryz.func122, Tryz.ntmps122
  go_wp2_with fail
  refine (l01Below g _ hc n (by omega) (by omega)).mono ?_
  rintro e w1 ⟨i, rfl, hi, hd⟩
  obtain ⟨k, rfl⟩ : ∃ k : Nat, i = k := ⟨i.toNat, by omega⟩
  obtain ⟨_, _, h1, h2, hra⟩ := hd.rd ⟨a, ca, rfl, hca, hra⟩ HB.out
  cases h1
  obtain ⟨b1, o1, x, rfl, hxk, c1⟩ := hra.one (i := k) (by omega)
  go_wp2
  go_ret
  exact ⟨_, rfl, List.mem_of_getElem? hxk.out, hd⟩
set_option maxRecDepth 100000 in
set_option maxHeartbeats 1000000 in
theorem l01PickInt (g : Nat) (w : World) (hc : Cur w g) (v : Value) (n : Nat) (xs : List Int) (hr : Rd w v 1 n (ints xs)) (hb : v.ownBlock ≠ some g) (hn : 0 < n) (hn2 : n ≤ 256) :
    Calls Tryz.prog 148 #[.pointer (some ⟨g, 0, none⟩), v] w fun e w' => ∃ x : Int, e = .returned (.int .i64 x) ∧ x ∈ xs ∧ D g w w' := by
  obtain ⟨a, ca, rfl, hca, hra⟩ := hr
  have HB := Lib.hid hb
  go_enter Tryz.func148, Tryz.ntmps148
  go_wp2_with fail
  refine (l01Below g _ hc n (by omega) (by omega)).mono ?_
  rintro e w1 ⟨i, rfl, hi, hd⟩
  obtain ⟨k, rfl⟩ : ∃ k : Nat, i = k := ⟨i.toNat, by omega⟩
  obtain ⟨_, _, h1, h2, hra⟩ := hd.rd ⟨a, ca, rfl, hca, hra⟩ HB.out
  cases h1
  obtain ⟨b1, o1, x, rfl, hxk, c1⟩ := hra.one (i := k) (by omega)
  go_wp2
  go_ret
  exact ⟨_, rfl, List.mem_of_getElem? hxk.out, hd⟩
theorem rda_lt {w : World} {a : Option Addr} {k n : Nat} {cs : List Value} (h : RdA w a (k + 1) n cs) (hn : 0 < n) {b : Addr} (hb : a = some b) : b.block < w.heap.size := by
  obtain ⟨c, o, rfl, hj⟩ := h.2 hn
  cases hb
  have h0 := hj 0 (by rw [Nat.mul_succ]; omega)
  rw [List.getElem?_eq_getElem (by rw [h.1, Nat.mul_succ]; omega)] at h0
  exact lt_of_cell (a := ⟨c, o + 0, none⟩) h0
set_option maxRecDepth 100000 in
set_option maxHeartbeats 1000000 in
theorem l01New (v : Value) (n : Nat) (bs : List Int) (w : World) (hr : Rd w v 1 n (bs.map (Value.int .u8))) (hn : n ≤ 1048576) :
    Calls Tryz.prog 60 #[v] w fun e w' => e = .returned (.pointer (some ⟨w.heap.size, 0, none⟩)) ∧ Cur w' w.heap.size ∧ Grew w w' ∧ w.heap.size < w'.heap.size := by
  obtain ⟨a, ca, rfl, hca, hra⟩ := hr
  have HR := Lib.hid hra
  go_enter Tryz.func60, Tryz.ntmps60
  go_wp2
  go_loop [3, 4] (fun h i => ∃ k : Nat, ∃ z : Int, k ≤ n ∧ i = .int .i64 k ∧ h = .int .i64 z) (fun _ i => n - (intOf i).toNat)
  case atStart => exact ⟨0, _, Nat.zero_le _, rfl, rfl⟩
  case round =>
    obtain ⟨k, z, hk, rfl, rfl⟩ := hrel
    by_cases hlt : k < n
    · by_cases h4 : k < 4000
      · obtain ⟨b1, o1, x, rfl, hxk, c1⟩ := hra.one hlt
        go_wp2
        exact ⟨⟨k + 1, _, by omega, by go_num, rfl⟩, by simp [intOf]; omega⟩
      · go_wp2
        go_ret
        exact ⟨rfl, ⟨a, n, ca, 0, z, bs, by simp, by simp, by simp, by omega, by omega, hn, HR.out.grew ((Grew.refl w).alloc _), fun hn b hb => rda_lt HR.out hn hb, by simp [go_sem], by simp [go_sem]⟩, (Grew.refl w).alloc _, by simp⟩
    · go_wp2
      go_ret
      exact ⟨rfl, ⟨a, n, ca, 0, z, bs, by simp, by simp, by simp, by omega, by omega, hn, HR.out.grew ((Grew.refl w).alloc _), fun hn b hb => rda_lt HR.out hn hb, by simp [go_sem], by simp [go_sem]⟩, (Grew.refl w).alloc _, by simp⟩
end Go.Proofs.YtgekgokkbakcmaaGreat
namespace Go.Proofs.YtgekgokkbakcmaaGreat
open Go.RowKit
set_option linter.unusedVariables false
theorem alloc_heap (w : World) (o : Obj) : (w.alloc o).heap = w.heap.push o := rfl
theorem lit_own (w : World) (e : TypeId) (k : Nat) : (w.alloc (.cells #[] e)).ownsRow w.heap.size e k (.slice (some ⟨w.heap.size, 0, none⟩) 0 0) 0 [] :=
  ⟨by simp, .inr ⟨w.heap.size, 0, #[], rfl, Nat.le_refl _, by rw [alloc_heap]; simp, Nat.le_refl _, by simp [maxLen], by simp, by simp⟩⟩
theorem rd_news {w w' : World} {a : Addr} {k n : Nat} {cs : List Value} (h : RdA w (some a) k n cs) (hg : Grew w w') : ∀ j u, cs[j]? = some u → w'.cell? (a.add j) = some u := fun j u hu => by
  have hj := (List.getElem?_eq_some_iff.1 hu).1
  rw [h.1] at hj
  have hn : 0 < n := by
    rcases Nat.eq_zero_or_pos n with h0 | h0
    · subst h0; omega
    · exact h0
  obtain ⟨b, o, h1, h2⟩ := h.2 hn
  obtain rfl := Option.some.inj h1
  have h3 := grew_cell hg ((h2 j hj).trans hu)
  cases j with
  | zero => simpa [Addr.add] using h3
  | succ j => simpa [Addr.add] using h3
theorem Tryz.infoBool : (Tryz.prog.info? 4).map (fun i => (i.zero, i.size, i.bytes)) = some (some (.bool false), 1, 1) := by kernel_rfl
theorem Tryz.infoString : (Tryz.prog.info? 9).map (fun i => (i.zero, i.size, i.bytes)) = some (some (.string ⟨#[]⟩), 1, 16) := by kernel_rfl
theorem Tryz.infoInt : (Tryz.prog.info? 3).map (fun i => (i.zero, i.size, i.bytes)) = some (some (.int .i64 0), 1, 8) := by kernel_rfl
end Go.Proofs.YtgekgokkbakcmaaGreat
namespace Go.Proofs.YtgekgokkbakcmaaGreat
open Go.RowKit
theorem Tryz.infoN : (Tryz.prog.info? 125).map (fun i => (i.zero, i.size, i.bytes)) = some (some (N.z.v), 7, 72) := by kernel_rfl
theorem Tryz.infoDr : (Tryz.prog.info? 39).map (fun i => (i.zero, i.size, i.bytes)) = some (some (P2.z.v), 2, 40) := by kernel_rfl
end Go.Proofs.YtgekgokkbakcmaaGreat
namespace Go.Proofs.YtgekgokkbakcmaaGreat
open Go.RowKit
set_option linter.unusedVariables false
section
variable {P : Program} {md : Region.Mode} {ops : Array Oper} {Q : Exit → Act → World → Prop} {S : World → Prop}
theorem cl2 (i j : Nat) {oi oj : Oper} {rs rt : List Oper} {fuel : Nat} {listed : Array Bool} {a : Act} {w : World} (hi : ops.toList.drop i = oi :: rs) (hj : ops.toList.drop j = oj :: rt) (hr : Region.ready md ops listed = [i, j])
    (h : ∀ K' : Act → World → Prop, Shut (∀ a w, S w → (S w → wpAnyH P md ops Q S fuel (listed.setIfInBounds i true) a w) → K' a w) → if Region.wanted oi (yielded ops a.tmps) = true then Oper.wp P oi a w K' Q else K' (a.put oi.dst undef) w)
    (h' : ∀ K' : Act → World → Prop, Shut (∀ a w, S w → (S w → wpAnyH P md ops Q S fuel (listed.setIfInBounds j true) a w) → K' a w) → if Region.wanted oj (yielded ops a.tmps) = true then Oper.wp P oj a w K' Q else K' (a.put oj.dst undef) w) :
    wpAnyH P md ops Q S (fuel + 1) listed a w :=
  wpAnyH_ready hr (by simp) (AllReadyH.cons (at_of_drop hi) h (AllReadyH.cons (at_of_drop hj) h' AllReadyH.nil))
end
theorem lit_rd (w : World) (cs : Array Value) (e : TypeId) (k n cap : Nat) (hl : cs.size = n * k) (hc : n ≤ cap) : Rd (w.alloc (.cells cs e)) (.slice (some ⟨w.heap.size, 0, none⟩) n cap) k n cs.toList := by
  refine ⟨_, cap, rfl, hc, by simpa using hl, fun _ => ⟨_, 0, rfl, fun j hj => ?_⟩⟩
  rw [Nat.zero_add, World.cell?_alloc_at (w := w) cs e w.heap.size j rfl, Array.getElem?_toList]
theorem lit_news {w : World} {cs : Array Value} {e : TypeId} {g : Nat} (hg : g = w.heap.size) : ∀ j u, cs.toList[j]? = some u → (w.alloc (.cells cs e)).cell? ((⟨g, 0, none⟩ : Addr).add j) = some u := by
  subst hg
  intro j u hu
  rw [Addr.add_lit, Nat.zero_add, World.cell?_alloc_at (w := w) cs e w.heap.size j rfl, ← Array.getElem?_toList]
  exact hu
theorem cur_ne {w : World} {g n c : Nat} (h : Cur w g) : (Value.slice (some ⟨w.heap.size, 0, none⟩) n c).ownBlock ≠ some g := by
  have := h.lt; simp [Value.ownBlock]; omega
set_option maxRecDepth 100000 in
set_option maxHeartbeats 1000000 in
theorem l11Name (g : Nat) (w : World) (hc : Cur w g) :
    Calls Tryz.prog 102 #[.pointer (some ⟨g, 0, none⟩)] w fun e w' => ∃ x : ByteArray, e = .returned (.string x) ∧ x.size ≤ 8 ∧ D g w w' := by
  go_enter Tryz.func102, Tryz.ntmps102
  go_wp2_with fail
  refine (l01Pick g _ (hc.grew ((Grew.refl w).alloc _)) _ 7 [⟨#[100, 97]⟩, ⟨#[100, 98]⟩, ⟨#[100, 99]⟩, ⟨#[100, 100]⟩, ⟨#[100, 101]⟩, ⟨#[122, 122]⟩, ⟨#[]⟩] (lit_rd w _ _ 1 7 7 rfl (Nat.le_refl _)) (cur_ne hc) (by decide) (by decide)).mono ?_
  rintro e w1 ⟨x, rfl, hx, hd⟩
  go_wp2
  go_ret
  refine ⟨_, rfl, ?_, (D.refl hc).alloc _ |>.trans hd⟩
  simp at hx
  rcases hx with rfl | rfl | rfl | rfl | rfl | rfl | rfl <;> decide
set_option maxRecDepth 100000 in
set_option maxHeartbeats 1000000 in
theorem l09DirName (g : Nat) (w : World) (hc : Cur w g) :
    Calls Tryz.prog 188 #[.pointer (some ⟨g, 0, none⟩)] w fun e w' => ∃ x : ByteArray, e = .returned (.string x) ∧ x.size ≤ 8 ∧ D g w w' := by
  go_enter Tryz.func188, Tryz.ntmps188
  go_wp2_with fail
  refine (l01Pick g _ (hc.grew ((Grew.refl w).alloc _)) _ 7 [⟨#[100, 97]⟩, ⟨#[100, 98]⟩, ⟨#[100, 99]⟩, ⟨#[100, 100]⟩, ⟨#[100, 97]⟩, ⟨#[100, 98]⟩, ⟨#[100, 99]⟩] (lit_rd w _ _ 1 7 7 rfl (Nat.le_refl _)) (cur_ne hc) (by decide) (by decide)).mono ?_
  rintro e w1 ⟨x, rfl, hx, hd⟩
  go_wp2
  go_ret
  refine ⟨_, rfl, ?_, (D.refl hc).alloc _ |>.trans hd⟩
  simp at hx
  rcases hx with rfl | rfl | rfl | rfl | rfl | rfl | rfl <;> decide
end Go.Proofs.YtgekgokkbakcmaaGreat
namespace Go.Proofs.YtgekgokkbakcmaaGreat
open Go.RowKit
set_option linter.unusedVariables false
end Go.Proofs.YtgekgokkbakcmaaGreat
namespace Go.Proofs.YtgekgokkbakcmaaGreat
open Go.RowKit
set_option linter.unusedVariables false
theorem own_cut' {w : World} {base g n cap k : Nat} {e : TypeId} {cs ps : List Value} (h : w.ownsRow base e 1 (.slice (some ⟨g, 0, none⟩) n cap) n cs) (hk : k ≤ n) (hp : cs.take k = ps) : w.ownsRow base e 1 (.slice (some ⟨g, 0, none⟩) k cap) k ps := by
  obtain ⟨hl, ⟨h1, _⟩ | ⟨g', cap', cur, h1, h2, h3, h4, h5, h6, h7⟩⟩ := h
  · cases h1
  · cases h1
    subst hp
    refine ⟨by rw [List.length_take]; omega, .inr ⟨_, _, cur, rfl, h2, h3, by omega, h5, h6, ?_⟩⟩
    rw [← h7, List.take_take, Nat.mul_one, Nat.mul_one, Nat.min_eq_left hk]
end Go.Proofs.YtgekgokkbakcmaaGreat
namespace Go.Proofs.YtgekgokkbakcmaaGreat
open Go.RowKit
set_option linter.unusedVariables false
theorem Rd.len1 {α : Type} {f : α → Value} {w : World} {v : Value} {n : Nat} {xs : List α} (h : Rd w v 1 n (xs.map f)) : xs.length = n := by
  obtain ⟨a, c, _, _, h⟩ := h; exact h.len_map
end Go.Proofs.YtgekgokkbakcmaaGreat
namespace Go.Proofs.YtgekgokkbakcmaaGreat
end Go.Proofs.YtgekgokkbakcmaaGreat
namespace Go.Proofs.YtgekgokkbakcmaaGreat
open Go.RowKit
set_option linter.unusedVariables false
theorem own_type {w : World} {B B' : Nat} {e e' : TypeId} {k k' n n' : Nat} {v v' : Value} {xs xs' : List Value} (h : w.ownsRow B e k v n xs) (h' : w.ownsRow B' e' k' v' n' xs') (hne : e ≠ e') {b : Nat} (hb : v.ownBlock = some b) : v'.ownBlock ≠ some b := by
  intro hb'
  obtain ⟨_, ⟨rfl, _⟩ | ⟨g, cap, cur, rfl, _, hh, _⟩⟩ := h
  · cases hb
  obtain ⟨_, ⟨rfl, _⟩ | ⟨g', cap', cur', rfl, _, hh', _⟩⟩ := h'
  · cases hb'
  cases hb; cases hb'
  rw [hh] at hh'
  injection Option.some.inj hh' with h1 h2
  exact hne h2
theorem own_grown {w w' : World} {B lo hi : Nat} {e e' : TypeId} {k k' n n' : Nat} {v v' : Value} {xs xs' : List Value} (h : Own w lo hi e k v n xs) (h' : w.ownsRow B e' k' v' n' xs') (hne : e ≠ e') (hg : w.grownBy w' v'.ownBlock) : Own w' lo hi e k v n xs := by
  refine ⟨h.1.kept hg ?_, h.2⟩
  cases hb : v.ownBlock with
  | none => exact .inl rfl
  | some b => exact .inr (fun h3 => own_type h.1 h' hne hb h3.symm)
end Go.Proofs.YtgekgokkbakcmaaGreat
