/- Contracts of the laws' own comparisons. -/
import Derived.Test.YtgekgokkbakcmaaE2
import Derived.Test.YtgekgokkbakcmaaG
namespace Go.Proofs.Ytgekgokkbakcmaa
open Go.RowKit
set_option linter.unusedVariables false
set_option maxHeartbeats 1000000 in
theorem big (v : Value) (n : Nat) (cs : List Value) (w : World) (hr : Rd w v 1 n cs) (hn : n ≤ maxLen) :
    Calls Try.prog 9 #[v] w fun e w' => e = .returned (.bool (decide ((1048576 : Int) < (n : Int)))) ∧ w = w' := by
  obtain ⟨a, ca, rfl, hca, hra⟩ := hr
  go_enter Try.func9, Try.ntmps9
  go_wp2
  go_ret
  exact ⟨rfl, rfl⟩
set_option maxRecDepth 100000 in
set_option maxHeartbeats 1000000 in
theorem sameInts (va vb : Value) (n m : Nat) (xs ys : List Int) (w : World) (ha : Rd w va 1 n (ints xs)) (hb : Rd w vb 1 m (ints ys)) (hx : n ≤ 4000000) (hy : m ≤ 4000000) :
    Calls Try.prog 37 #[va, vb] w fun e w' => e = .returned (.bool (sameB xs ys)) ∧ Grew w w' := by
  obtain ⟨a, ca, rfl, hca, hra⟩ := ha
  obtain ⟨b, cb, rfl, hcb, hrb⟩ := hb
  have HX := Lib.hid hra.len_map
  have HY := Lib.hid hrb.len_map
  by_cases hnm : n = m
  · subst hnm
    go_enter Try.func37, Try.ntmps37
    go_wp2
    go_loopw [5] (fun i wr => ∃ k : Nat, k ≤ n ∧ i = .int .i64 k ∧ Hid (∀ j, j < k → xs[j]? = ys[j]?) ∧ Grew w wr) (fun i _ => n - (intOf i).toNat)
    case atStart => exact ⟨0, Nat.zero_le _, rfl, Lib.hid (fun j h => absurd h (Nat.not_lt_zero j)), Grew.refl _⟩
    case round =>
      obtain ⟨k, hk, rfl, hsame, hbel⟩ := hrel
      by_cases hlt : k < n
      · obtain ⟨b1, o1, x, rfl, hxk, e1⟩ := (hra.grew hbel).one hlt
        obtain ⟨b2, o2, y, rfl, hyk, e2⟩ := (hrb.grew hbel).one hlt
        by_cases he : x = y
        · subst he
          go_wp2
          go_quiet (fail)
          go_wp2
          go_roundw
          case rel => exact ⟨k + 1, by omega, by go_num, Lib.hid (same_snoc hsame.out hxk.out hyk.out rfl), hbel.drewN _⟩
          case measure => simp [intOf]; omega
        · have hq : (x == y) = false := by simp [he]
          have HE := Lib.hid he
          clear he
          go_wp2
          go_quiet (fail)
          go_wp2
          go_ret
          exact ⟨ret_bool (sameB_at hxk.out hyk.out HE.out).symm, hbel.drewN _⟩
      · go_wp2
        go_ret
        obtain rfl : k = n := by omega
        exact ⟨ret_bool (sameB_all HX.out HY.out hsame.out).symm, hbel⟩
  · go_enter Try.func37, Try.ntmps37
    go_wp2
    go_ret
    exact ⟨ret_bool (sameB_len (by rw [HX.out, HY.out]; exact hnm)).symm, Grew.refl _⟩
theorem bytes_eq {x y : ByteArray} (h : (x.toList == y.toList) = true) : x = y := Go.WideShapes.bytes_inj (by rw [← ByteArray.toList_eq, ← ByteArray.toList_eq]; simpa using h)
set_option maxRecDepth 100000 in
set_option maxHeartbeats 1000000 in
theorem sameTexts (va vb : Value) (n m : Nat) (xs ys : List ByteArray) (w : World) (ha : Rd w va 1 n (strs xs)) (hb : Rd w vb 1 m (strs ys)) (hx : n ≤ 4000000) (hy : m ≤ 4000000) :
    Calls Try.prog 47 #[va, vb] w fun e w' => e = .returned (.bool (sameB xs ys)) ∧ Grew w w' := by
  obtain ⟨a, ca, rfl, hca, hra⟩ := ha
  obtain ⟨b, cb, rfl, hcb, hrb⟩ := hb
  have HX := Lib.hid hra.len_map
  have HY := Lib.hid hrb.len_map
  by_cases hnm : n = m
  · subst hnm
    go_enter Try.func47, Try.ntmps47
    go_wp2
    go_loopw [5] (fun i wr => ∃ k : Nat, k ≤ n ∧ i = .int .i64 k ∧ Hid (∀ j, j < k → xs[j]? = ys[j]?) ∧ Grew w wr) (fun i _ => n - (intOf i).toNat)
    case atStart => exact ⟨0, Nat.zero_le _, rfl, Lib.hid (fun j h => absurd h (Nat.not_lt_zero j)), Grew.refl _⟩
    case round =>
      obtain ⟨k, hk, rfl, hsame, hbel⟩ := hrel
      by_cases hlt : k < n
      · obtain ⟨b1, o1, x, rfl, hxk, e1⟩ := (hra.grew hbel).one hlt
        obtain ⟨b2, o2, y, rfl, hyk, e2⟩ := (hrb.grew hbel).one hlt
        by_cases he : x = y
        · subst he
          go_wp2
          go_quiet (fail)
          go_wp2
          go_roundw
          case rel => exact ⟨k + 1, by omega, by go_num, Lib.hid (same_snoc hsame.out hxk.out hyk.out rfl), hbel.drewN _⟩
          case measure => simp [intOf]; omega
        · have hq : (x.toList == y.toList) = false := by rcases hx : (x.toList == y.toList) with _ | _ <;> first | rfl | exact absurd (bytes_eq hx) he
          have HE := Lib.hid he
          clear he
          go_wp2
          go_quiet (fail)
          go_wp2
          go_ret
          exact ⟨ret_bool (sameB_at hxk.out hyk.out HE.out).symm, hbel.drewN _⟩
      · go_wp2
        go_ret
        obtain rfl : k = n := by omega
        exact ⟨ret_bool (sameB_all HX.out HY.out hsame.out).symm, hbel⟩
  · go_enter Try.func47, Try.ntmps47
    go_wp2
    go_ret
    exact ⟨ret_bool (sameB_len (by rw [HX.out, HY.out]; exact hnm)).symm, Grew.refl _⟩
set_option maxRecDepth 100000 in
set_option maxHeartbeats 1000000 in
theorem sameNodes (va vb : Value) (n m : Nat) (xs ys : List N) (w : World) (ha : Rd w va 7 n (rows N.c xs)) (hb : Rd w vb 7 m (rows N.c ys)) (hx : n ≤ 4000000) (hy : m ≤ 4000000) :
    Calls Try.prog 103 #[va, vb] w fun e w' => e = .returned (.bool (eqL eqN xs ys)) ∧ Grew w w' := by
  obtain ⟨a, ca, rfl, hca, hra⟩ := ha
  obtain ⟨b, cb, rfl, hcb, hrb⟩ := hb
  have HX := Lib.hid (hra.len_rows N.len (by decide))
  have HY := Lib.hid (hrb.len_rows N.len (by decide))
  by_cases hnm : n = m
  · subst hnm
    go_enter Try.func103, Try.ntmps103
    go_wp2
    go_loopw [5] (fun i wr => ∃ k : Nat, k ≤ n ∧ i = .int .i64 k ∧ Hid (∀ (j : Nat) x y, j < k → xs[j]? = some x → ys[j]? = some y → eqN x y = true) ∧ Grew w wr) (fun i _ => n - (intOf i).toNat)
    case atStart => exact ⟨0, Nat.zero_le _, rfl, Lib.hid (fun j x y h => absurd h (Nat.not_lt_zero j)), Grew.refl _⟩
    case round =>
      obtain ⟨k, hk, rfl, hsame, hbel⟩ := hrel
      by_cases hlt : k < n
      · obtain ⟨b1, o1, x, rfl, hxk, c0, c1, c2, c3, c4, c5, c6⟩ := (hra.grew hbel).getN hlt
        obtain ⟨b2, o2, y, rfl, hyk, d0, d1, d2, d3, d4, d5, d6⟩ := (hrb.grew hbel).getN hlt
        obtain ⟨q, hq⟩ : ∃ q, q = eqN x y := ⟨_, rfl⟩
        have hE : ∀ w, (binOp .eql 76 x.v y.v).run Try.prog w = .ok (.bool q) w := fun w => by rw [runEqN, hq]
        have hF : ∀ w, (binOp .neq 76 x.v y.v).run Try.prog w = .ok (.bool (!q)) w := fun w => by rw [runNeN, hq]
        have HQ := Lib.hid hq
        clear hq
        cases q <;> simp only [Bool.not_false, Bool.not_true] at hF
        · go_wp2
          go_quiet (fail)
          go_wp2
          go_ret
          exact ⟨ret_bool (eqL_at hxk.out hyk.out HQ.out.symm).symm, hbel.drewN _⟩
        · go_wp2
          go_quiet (fail)
          go_wp2
          go_roundw
          case rel => exact ⟨k + 1, by omega, by go_num, Lib.hid (eqL_snoc hsame.out hxk.out hyk.out HQ.out.symm), hbel.drewN _⟩
          case measure => simp [intOf]; omega
      · go_wp2
        go_ret
        obtain rfl : k = n := by omega
        exact ⟨ret_bool (eqL_all HX.out HY.out hsame.out).symm, hbel⟩
  · go_enter Try.func103, Try.ntmps103
    go_wp2
    go_ret
    exact ⟨ret_bool (eqL_len (by rw [HX.out, HY.out]; exact hnm)).symm, Grew.refl _⟩
set_option maxRecDepth 100000 in
set_option maxHeartbeats 1000000 in
theorem sameDir (x y : Dr) (p p' : P2) (w : World) (h : Dr.R w x p) (h' : Dr.R w y p') (hx : x.small) (hy : y.small) :
    Calls Try.prog 54 #[p.v, p'.v] w fun e w' => e = .returned (.bool (sameDr x y)) ∧ Grew w w' := by
  obtain ⟨pn, pq⟩ := p
  obtain ⟨qn, qq⟩ := p'
  obtain ⟨hxn, hxq⟩ := h
  obtain ⟨hyn, hyq⟩ := h'
  simp only at hxn hyn hxq hyq
  have HW := Lib.hid (show sameDr x y = (pn.toList == qn.toList && eqL eqN x.query y.query) by rw [hxn, hyn]; rfl)
  clear hxn hyn
  unfold Dr.small at hx hy
  have hg2 := ((Grew.refl w).alloc (.cells #[.string pn, pq] 49)).alloc (.cells #[.string qn, qq] 49)
  have hnn : (pn.toList == qn.toList) = false ∨ (pn.toList == qn.toList) = true := by cases pn.toList == qn.toList <;> simp
  rcases hnn with hnn | hnn
  · go_enter Try.func54, Try.ntmps54
    go_wp2
    go_ret
    exact ⟨ret_bool (by rw [HW.out, hnn]; rfl), hg2⟩
  · go_enter Try.func54, Try.ntmps54
    go_wp2_with (go_at_call 103; refine (sameNodes _ _ _ _ x.query y.query _ (hxq.grew hg2) (hyq.grew hg2) hx hy).mono ?_; rintro e w1 ⟨rfl, hb⟩)
    go_ret
    exact ⟨ret_bool (by rw [HW.out, hnn]; rfl), hg2.trans hb⟩
set_option maxRecDepth 100000 in
set_option maxHeartbeats 2000000 in
theorem sameDirs (va vb : Value) (xs ys : List Dr) (w : World) (ha : RdDs w va xs) (hb : RdDs w vb ys) (hx : xs.length ≤ 4000000) (hy : ys.length ≤ 4000000) (hs : ∀ x, x ∈ xs → x.small) (ht : ∀ x, x ∈ ys → x.small) :
    Calls Try.prog 45 #[va, vb] w fun e w' => e = .returned (.bool (eqL sameDr xs ys)) ∧ Grew w w' := by
  obtain ⟨qs, ⟨a, ca, rfl, hca, hra⟩, hall⟩ := ha
  obtain ⟨rs, ⟨b, cb, rfl, hcb, hrb⟩, hbll⟩ := hb
  have HS1 := Lib.hid hs
  have HT := Lib.hid ht
  have HA := Lib.hid hall
  have HB := Lib.hid hbll
  clear hall hbll hs ht
  generalize hn : xs.length = n at hx hra
  generalize hm : ys.length = m at hy hrb
  have HX := Lib.hid hn
  have HY := Lib.hid hm
  clear hn hm
  by_cases hnm : n = m
  · subst hnm
    go_enter Try.func45, Try.ntmps45
    go_wp2
    go_loopw [5] (fun i wr => ∃ k : Nat, k ≤ n ∧ i = .int .i64 k ∧ Hid (∀ (j : Nat) x y, j < k → xs[j]? = some x → ys[j]? = some y → sameDr x y = true) ∧ Grew w wr) (fun i _ => n - (intOf i).toNat)
    case atStart => exact ⟨0, Nat.zero_le _, rfl, Lib.hid (fun j x y h => absurd h (Nat.not_lt_zero j)), Grew.refl _⟩
    case round =>
      obtain ⟨k, hk, rfl, hsame, hbel⟩ := hrel
      by_cases hlt : k < n
      · obtain ⟨b1, o1, p, rfl, hpk, c0, c1⟩ := (hra.grew hbel).getP2 hlt
        obtain ⟨b2, o2, q, rfl, hqk, d0, d1⟩ := (hrb.grew hbel).getP2 hlt
        obtain ⟨x, hxk, hxr⟩ := HA.out.get hpk.out
        obtain ⟨y, hyk, hyr⟩ := HB.out.get hqk.out
        have hxs := HS1.out x (List.mem_of_getElem? hxk.out)
        have hys := HT.out y (List.mem_of_getElem? hyk.out)
        obtain ⟨pn, pq⟩ := p
        obtain ⟨qn, qq⟩ := q
        have HXR := Lib.hid hxr
        have HYR := Lib.hid hyr
        clear hxr hyr
        simp only at c0 d0 c1 d1
        have hkn : (k : Int) < (n : Int) := by omega
        have hk0 : (0 : Int) ≤ (k : Int) := by omega
        obtain ⟨v, hv⟩ : ∃ v, v = sameDr x y := ⟨_, rfl⟩
        have HV := Lib.hid hv
        clear hv
        cases v
        · go_wp2_with fail
          refine wp_region_noPanic ?_
          refine wp_region_held_drew (S := (fun w' => (w'.cell? ⟨b1, o1 + k * 2, none⟩ = some (.string pn) ∧ w'.cell? ⟨b1, o1 + k * 2 + 1, none⟩ = some (pq) ∧ w'.cell? ⟨b2, o2 + k * 2, none⟩ = some (.string qn) ∧ w'.cell? ⟨b2, o2 + k * 2 + 1, none⟩ = some (qq) ∧ Grew wr w'))) (by kernel_rfl) ?h3_S ?h3_r
          case h3_S => exact ⟨c0, c1, d0, d1, (Grew.refl _).drew⟩
          case h3_r =>
            intro HS
            first
              | refine sk 0 rfl (by kernel_rfl) rfl HS ?_
              | (refine tk (v := ?v3_0) 0 rfl (by kernel_rfl) rfl ?y3_0 HS ?_; case y3_0 => (intro w' hSw; (try dsimp only at hSw); go_simp <;> (with_reducible rfl)))
            try simp only [Act.put, List.setIfInBounds_toArray, List.set_cons_zero, List.set_cons_succ]
            first
              | refine sk 1 rfl (by kernel_rfl) rfl HS ?_
              | (refine tk (v := ?v3_1) 1 rfl (by kernel_rfl) rfl ?y3_1 HS ?_; case y3_1 => (intro w' hSw; (try dsimp only at hSw); go_simp <;> (with_reducible rfl)))
            try simp only [Act.put, List.setIfInBounds_toArray, List.set_cons_zero, List.set_cons_succ]
            first
              | refine sk 2 rfl (by kernel_rfl) rfl HS ?_
              | (refine tk (v := ?v3_2) 2 rfl (by kernel_rfl) rfl ?y3_2 HS ?_; case y3_2 => (intro w' hSw; (try dsimp only at hSw); go_simp <;> (with_reducible rfl)))
            try simp only [Act.put, List.setIfInBounds_toArray, List.set_cons_zero, List.set_cons_succ]
            first
              | refine sk 3 rfl (by kernel_rfl) rfl HS ?_
              | (refine tk (v := ?v3_3) 3 rfl (by kernel_rfl) rfl ?y3_3 HS ?_; case y3_3 => (intro w' hSw; (try dsimp only at hSw); go_simp <;> (with_reducible rfl)))
            try simp only [Act.put, List.setIfInBounds_toArray, List.set_cons_zero, List.set_cons_succ]
            first
              | refine sk 4 rfl (by kernel_rfl) rfl HS ?_
              | (refine tk (v := ?v3_4) 4 rfl (by kernel_rfl) rfl ?y3_4 HS ?_; case y3_4 => (intro w' hSw; (try dsimp only at hSw); go_simp <;> (with_reducible rfl)))
            try simp only [Act.put, List.setIfInBounds_toArray, List.set_cons_zero, List.set_cons_succ]
            first
              | refine sk 5 rfl (by kernel_rfl) rfl HS ?_
              | (refine tk (v := ?v3_5) 5 rfl (by kernel_rfl) rfl ?y3_5 HS ?_; case y3_5 => (intro w' hSw; (try dsimp only at hSw); go_simp <;> (with_reducible rfl)))
            try simp only [Act.put, List.setIfInBounds_toArray, List.set_cons_zero, List.set_cons_succ]
            first
              | refine sk 6 rfl (by kernel_rfl) rfl HS ?_
              | (refine tk (v := ?v3_6) 6 rfl (by kernel_rfl) rfl ?y3_6 HS ?_; case y3_6 => (intro w' hSw; (try dsimp only at hSw); go_simp <;> (with_reducible rfl)))
            try simp only [Act.put, List.setIfInBounds_toArray, List.set_cons_zero, List.set_cons_succ]
            first
              | refine sk 7 rfl (by kernel_rfl) rfl HS ?_
              | (refine tk (v := ?v3_7) 7 rfl (by kernel_rfl) rfl ?y3_7 HS ?_; case y3_7 => (intro w' hSw; (try dsimp only at hSw); go_simp <;> (with_reducible rfl)))
            try simp only [Act.put, List.setIfInBounds_toArray, List.set_cons_zero, List.set_cons_succ]
            refine cl 8 rfl (by kernel_rfl) (fun K hK => ?_)
            go_simp
            go_at_call 54
            refine (sameDir x y ⟨pn, pq⟩ ⟨qn, qq⟩ _ (HXR.out.grew (hbel.trans HS.2.2.2.2)) (HYR.out.grew (hbel.trans HS.2.2.2.2)) hxs hys).mono ?_
            rintro e w1 ⟨he, hb⟩
            rw [← HV.out] at he
            subst he
            refine hK.out _ _ ?s3_8 ?r3_8
            case s3_8 => (try dsimp only); exact ⟨grew_cell hb HS.1, grew_cell hb HS.2.1, grew_cell hb HS.2.2.1, grew_cell hb HS.2.2.2.1, HS.2.2.2.2.trans hb⟩
            case r3_8 =>
              clear HS
              intro HS
              clear hK K
              try simp only [Act.put, List.setIfInBounds_toArray, List.set_cons_zero, List.set_cons_succ]
              first
                | refine sk 9 rfl (by kernel_rfl) rfl HS ?_
                | (refine tk (v := ?v3_9) 9 rfl (by kernel_rfl) rfl ?y3_9 HS ?_; case y3_9 => (intro w' hSw; (try dsimp only at hSw); go_simp <;> (with_reducible rfl)))
              try simp only [Act.put, List.setIfInBounds_toArray, List.set_cons_zero, List.set_cons_succ]
              refine wpAnyH_done (by kernel_rfl) ?_ _
              refine NoPanic.normal ?_
              have hw := hbel.trans HS.2.2.2.2
              clear HS
              go_wp2
              go_ret
              exact ⟨ret_bool (eqL_at hxk.out hyk.out HV.out.symm).symm, hw⟩
        · go_wp2_with fail
          refine wp_region_noPanic ?_
          refine wp_region_held_drew (S := (fun w' => (w'.cell? ⟨b1, o1 + k * 2, none⟩ = some (.string pn) ∧ w'.cell? ⟨b1, o1 + k * 2 + 1, none⟩ = some (pq) ∧ w'.cell? ⟨b2, o2 + k * 2, none⟩ = some (.string qn) ∧ w'.cell? ⟨b2, o2 + k * 2 + 1, none⟩ = some (qq) ∧ Grew wr w'))) (by kernel_rfl) ?h4_S ?h4_r
          case h4_S => exact ⟨c0, c1, d0, d1, (Grew.refl _).drew⟩
          case h4_r =>
            intro HS
            first
              | refine sk 0 rfl (by kernel_rfl) rfl HS ?_
              | (refine tk (v := ?v4_0) 0 rfl (by kernel_rfl) rfl ?y4_0 HS ?_; case y4_0 => (intro w' hSw; (try dsimp only at hSw); go_simp <;> (with_reducible rfl)))
            try simp only [Act.put, List.setIfInBounds_toArray, List.set_cons_zero, List.set_cons_succ]
            first
              | refine sk 1 rfl (by kernel_rfl) rfl HS ?_
              | (refine tk (v := ?v4_1) 1 rfl (by kernel_rfl) rfl ?y4_1 HS ?_; case y4_1 => (intro w' hSw; (try dsimp only at hSw); go_simp <;> (with_reducible rfl)))
            try simp only [Act.put, List.setIfInBounds_toArray, List.set_cons_zero, List.set_cons_succ]
            first
              | refine sk 2 rfl (by kernel_rfl) rfl HS ?_
              | (refine tk (v := ?v4_2) 2 rfl (by kernel_rfl) rfl ?y4_2 HS ?_; case y4_2 => (intro w' hSw; (try dsimp only at hSw); go_simp <;> (with_reducible rfl)))
            try simp only [Act.put, List.setIfInBounds_toArray, List.set_cons_zero, List.set_cons_succ]
            first
              | refine sk 3 rfl (by kernel_rfl) rfl HS ?_
              | (refine tk (v := ?v4_3) 3 rfl (by kernel_rfl) rfl ?y4_3 HS ?_; case y4_3 => (intro w' hSw; (try dsimp only at hSw); go_simp <;> (with_reducible rfl)))
            try simp only [Act.put, List.setIfInBounds_toArray, List.set_cons_zero, List.set_cons_succ]
            first
              | refine sk 4 rfl (by kernel_rfl) rfl HS ?_
              | (refine tk (v := ?v4_4) 4 rfl (by kernel_rfl) rfl ?y4_4 HS ?_; case y4_4 => (intro w' hSw; (try dsimp only at hSw); go_simp <;> (with_reducible rfl)))
            try simp only [Act.put, List.setIfInBounds_toArray, List.set_cons_zero, List.set_cons_succ]
            first
              | refine sk 5 rfl (by kernel_rfl) rfl HS ?_
              | (refine tk (v := ?v4_5) 5 rfl (by kernel_rfl) rfl ?y4_5 HS ?_; case y4_5 => (intro w' hSw; (try dsimp only at hSw); go_simp <;> (with_reducible rfl)))
            try simp only [Act.put, List.setIfInBounds_toArray, List.set_cons_zero, List.set_cons_succ]
            first
              | refine sk 6 rfl (by kernel_rfl) rfl HS ?_
              | (refine tk (v := ?v4_6) 6 rfl (by kernel_rfl) rfl ?y4_6 HS ?_; case y4_6 => (intro w' hSw; (try dsimp only at hSw); go_simp <;> (with_reducible rfl)))
            try simp only [Act.put, List.setIfInBounds_toArray, List.set_cons_zero, List.set_cons_succ]
            first
              | refine sk 7 rfl (by kernel_rfl) rfl HS ?_
              | (refine tk (v := ?v4_7) 7 rfl (by kernel_rfl) rfl ?y4_7 HS ?_; case y4_7 => (intro w' hSw; (try dsimp only at hSw); go_simp <;> (with_reducible rfl)))
            try simp only [Act.put, List.setIfInBounds_toArray, List.set_cons_zero, List.set_cons_succ]
            refine cl 8 rfl (by kernel_rfl) (fun K hK => ?_)
            go_simp
            go_at_call 54
            refine (sameDir x y ⟨pn, pq⟩ ⟨qn, qq⟩ _ (HXR.out.grew (hbel.trans HS.2.2.2.2)) (HYR.out.grew (hbel.trans HS.2.2.2.2)) hxs hys).mono ?_
            rintro e w1 ⟨he, hb⟩
            rw [← HV.out] at he
            subst he
            refine hK.out _ _ ?s4_8 ?r4_8
            case s4_8 => (try dsimp only); exact ⟨grew_cell hb HS.1, grew_cell hb HS.2.1, grew_cell hb HS.2.2.1, grew_cell hb HS.2.2.2.1, HS.2.2.2.2.trans hb⟩
            case r4_8 =>
              clear HS
              intro HS
              clear hK K
              try simp only [Act.put, List.setIfInBounds_toArray, List.set_cons_zero, List.set_cons_succ]
              first
                | refine sk 9 rfl (by kernel_rfl) rfl HS ?_
                | (refine tk (v := ?v4_9) 9 rfl (by kernel_rfl) rfl ?y4_9 HS ?_; case y4_9 => (intro w' hSw; (try dsimp only at hSw); go_simp <;> (with_reducible rfl)))
              try simp only [Act.put, List.setIfInBounds_toArray, List.set_cons_zero, List.set_cons_succ]
              refine wpAnyH_done (by kernel_rfl) ?_ _
              refine NoPanic.normal ?_
              have hw := hbel.trans HS.2.2.2.2
              clear HS
              go_wp2
              go_roundw
              case rel => exact ⟨k + 1, by omega, by go_num, Lib.hid (eqL_snoc hsame.out hxk.out hyk.out HV.out.symm), hw⟩
              case measure => simp [intOf]; omega
      · go_wp2
        go_ret
        obtain rfl : k = n := by omega
        exact ⟨ret_bool (eqL_all HX.out HY.out hsame.out).symm, hbel⟩
  · go_enter Try.func45, Try.ntmps45
    go_wp2
    go_ret
    exact ⟨ret_bool (eqL_len (by rw [HX.out, HY.out]; exact hnm)).symm, Grew.refl _⟩
noncomputable def sameDf (x y : Df) : Bool := x.name.toList == y.name.toList && sameB x.added y.added && sameB x.removed y.removed
set_option maxRecDepth 100000 in
set_option maxHeartbeats 1000000 in
theorem sameDiff (x y : Df) (p p' : P3) (w : World) (h : Df.R w x p) (h' : Df.R w y p') (hx : x.small) (hy : y.small) :
    Calls Try.prog 57 #[p.v, p'.v] w fun e w' => e = .returned (.bool (sameDf x y)) ∧ Grew w w' := by
  obtain ⟨pn, pq, pr⟩ := p
  obtain ⟨qn, qq, qr⟩ := p'
  obtain ⟨hxn, hxq, hxr⟩ := h
  obtain ⟨hyn, hyq, hyr⟩ := h'
  simp only at hxn hyn hxq hyq hxr hyr
  have HW := Lib.hid (show sameDf x y = (pn.toList == qn.toList && sameB x.added y.added && sameB x.removed y.removed) by rw [hxn, hyn]; rfl)
  clear hxn hyn
  unfold Df.small at hx hy
  have hg2 := ((Grew.refl w).alloc (.cells #[.string pn, pq, pr] 94)).alloc (.cells #[.string qn, qq, qr] 94)
  have hnn : (pn.toList == qn.toList) = false ∨ (pn.toList == qn.toList) = true := by cases pn.toList == qn.toList <;> simp
  rcases hnn with hnn | hnn
  · go_enter Try.func57, Try.ntmps57
    go_wp2
    go_ret
    exact ⟨ret_bool (by rw [HW.out, hnn]; rfl), hg2⟩
  · obtain ⟨v, hv⟩ : ∃ v, v = sameB x.added y.added := ⟨_, rfl⟩
    have HV := Lib.hid hv
    clear hv
    have f0 := hg2.cells
    obtain ⟨pa, pc, rfl, hpc, hpr⟩ := hxr
    obtain ⟨qa, qc, rfl, hqc, hqr⟩ := hyr
    have HXR := Lib.hid (Rd.grew ⟨pa, pc, rfl, hpc, hpr⟩ hg2)
    have HYR := Lib.hid (Rd.grew ⟨qa, qc, rfl, hqc, hqr⟩ hg2)
    clear hpr hqr f0
    cases v
    · go_enter Try.func57, Try.ntmps57
      go_wp2_with (go_at_call 37; refine (sameInts _ _ _ _ x.added y.added _ (hxq.grew hg2) (hyq.grew hg2) hx.1 hy.1).mono ?_; rintro e w1 ⟨he, hb⟩; rw [← HV.out] at he; subst he)
      go_ret
      exact ⟨ret_bool (by rw [HW.out, hnn, ← HV.out]; rfl), hg2.trans hb⟩
    · go_enter Try.func57, Try.ntmps57
      go_wp2_with fail
      refine (sameInts _ _ _ _ x.added y.added _ (hxq.grew hg2) (hyq.grew hg2) hx.1 hy.1).mono ?_
      rintro e w1 ⟨he, hb⟩
      rw [← HV.out] at he
      subst he
      have c1 := grew_cell (a := ⟨w.heap.size, 2, none⟩) hb (by simp [go_sem]; rfl)
      have c2 := grew_cell (a := ⟨w.heap.size + 1, 2, none⟩) hb (by simp [go_sem]; rfl)
      go_wp2_with (go_at_call 37; refine (sameInts _ _ _ _ x.removed y.removed _ (HXR.out.grew hb) (HYR.out.grew hb) hx.2 hy.2).mono ?_; rintro e w2 ⟨rfl, hb2⟩)
      go_ret
      exact ⟨ret_bool (by rw [HW.out, hnn, ← HV.out]; rfl), (hg2.trans hb).trans hb2⟩
set_option maxRecDepth 100000 in
set_option maxHeartbeats 2000000 in
theorem sameDiffs (va vb : Value) (xs ys : List Df) (w : World) (ha : RdFs w va xs) (hb : RdFs w vb ys) (hx : xs.length ≤ 4000000) (hy : ys.length ≤ 4000000) (hs : ∀ x, x ∈ xs → x.small) (ht : ∀ x, x ∈ ys → x.small) :
    Calls Try.prog 11 #[va, vb] w fun e w' => e = .returned (.bool (eqL sameDf xs ys)) ∧ Grew w w' := by
  obtain ⟨qs, ⟨a, ca, rfl, hca, hra⟩, hall⟩ := ha
  obtain ⟨rs, ⟨b, cb, rfl, hcb, hrb⟩, hbll⟩ := hb
  have HS1 := Lib.hid hs
  have HT := Lib.hid ht
  have HA := Lib.hid hall
  have HB := Lib.hid hbll
  clear hall hbll hs ht
  generalize hn : xs.length = n at hx hra
  generalize hm : ys.length = m at hy hrb
  have HX := Lib.hid hn
  have HY := Lib.hid hm
  clear hn hm
  by_cases hnm : n = m
  · subst hnm
    go_enter Try.func11, Try.ntmps11
    go_wp2
    go_loopw [5] (fun i wr => ∃ k : Nat, k ≤ n ∧ i = .int .i64 k ∧ Hid (∀ (j : Nat) x y, j < k → xs[j]? = some x → ys[j]? = some y → sameDf x y = true) ∧ Grew w wr) (fun i _ => n - (intOf i).toNat)
    case atStart => exact ⟨0, Nat.zero_le _, rfl, Lib.hid (fun j x y h => absurd h (Nat.not_lt_zero j)), Grew.refl _⟩
    case round =>
      obtain ⟨k, hk, rfl, hsame, hbel⟩ := hrel
      by_cases hlt : k < n
      · obtain ⟨b1, o1, p, rfl, hpk, c0, c1, c2⟩ := (hra.grew hbel).getP3 hlt
        obtain ⟨b2, o2, q, rfl, hqk, d0, d1, d2⟩ := (hrb.grew hbel).getP3 hlt
        obtain ⟨x, hxk, hxr⟩ := HA.out.get hpk.out
        obtain ⟨y, hyk, hyr⟩ := HB.out.get hqk.out
        have hxs := HS1.out x (List.mem_of_getElem? hxk.out)
        have hys := HT.out y (List.mem_of_getElem? hyk.out)
        obtain ⟨pn, pq, pr⟩ := p
        obtain ⟨qn, qq, qr⟩ := q
        have HXR := Lib.hid hxr
        have HYR := Lib.hid hyr
        clear hxr hyr
        simp only at c0 d0 c1 d1 c2 d2
        have hkn : (k : Int) < (n : Int) := by omega
        have hk0 : (0 : Int) ≤ (k : Int) := by omega
        obtain ⟨v, hv⟩ : ∃ v, v = sameDf x y := ⟨_, rfl⟩
        have HV := Lib.hid hv
        clear hv
        cases v
        · go_wp2_with fail
          refine wp_region_noPanic ?_
          refine wp_region_held_drew (S := (fun w' => (w'.cell? ⟨b1, o1 + k * 3, none⟩ = some (.string pn) ∧ w'.cell? ⟨b1, o1 + k * 3 + 1, none⟩ = some (pq) ∧ w'.cell? ⟨b1, o1 + k * 3 + 2, none⟩ = some (pr) ∧ w'.cell? ⟨b2, o2 + k * 3, none⟩ = some (.string qn) ∧ w'.cell? ⟨b2, o2 + k * 3 + 1, none⟩ = some (qq) ∧ w'.cell? ⟨b2, o2 + k * 3 + 2, none⟩ = some (qr) ∧ Grew wr w'))) (by kernel_rfl) ?h5_S ?h5_r
          case h5_S => exact ⟨c0, c1, c2, d0, d1, d2, (Grew.refl _).drew⟩
          case h5_r =>
            intro HS
            first
              | refine sk 0 rfl (by kernel_rfl) rfl HS ?_
              | (refine tk (v := ?v5_0) 0 rfl (by kernel_rfl) rfl ?y5_0 HS ?_; case y5_0 => (intro w' hSw; (try dsimp only at hSw); go_simp <;> (with_reducible rfl)))
            try simp only [Act.put, List.setIfInBounds_toArray, List.set_cons_zero, List.set_cons_succ]
            first
              | refine sk 1 rfl (by kernel_rfl) rfl HS ?_
              | (refine tk (v := ?v5_1) 1 rfl (by kernel_rfl) rfl ?y5_1 HS ?_; case y5_1 => (intro w' hSw; (try dsimp only at hSw); go_simp <;> (with_reducible rfl)))
            try simp only [Act.put, List.setIfInBounds_toArray, List.set_cons_zero, List.set_cons_succ]
            first
              | refine sk 2 rfl (by kernel_rfl) rfl HS ?_
              | (refine tk (v := ?v5_2) 2 rfl (by kernel_rfl) rfl ?y5_2 HS ?_; case y5_2 => (intro w' hSw; (try dsimp only at hSw); go_simp <;> (with_reducible rfl)))
            try simp only [Act.put, List.setIfInBounds_toArray, List.set_cons_zero, List.set_cons_succ]
            first
              | refine sk 3 rfl (by kernel_rfl) rfl HS ?_
              | (refine tk (v := ?v5_3) 3 rfl (by kernel_rfl) rfl ?y5_3 HS ?_; case y5_3 => (intro w' hSw; (try dsimp only at hSw); go_simp <;> (with_reducible rfl)))
            try simp only [Act.put, List.setIfInBounds_toArray, List.set_cons_zero, List.set_cons_succ]
            first
              | refine sk 4 rfl (by kernel_rfl) rfl HS ?_
              | (refine tk (v := ?v5_4) 4 rfl (by kernel_rfl) rfl ?y5_4 HS ?_; case y5_4 => (intro w' hSw; (try dsimp only at hSw); go_simp <;> (with_reducible rfl)))
            try simp only [Act.put, List.setIfInBounds_toArray, List.set_cons_zero, List.set_cons_succ]
            first
              | refine sk 5 rfl (by kernel_rfl) rfl HS ?_
              | (refine tk (v := ?v5_5) 5 rfl (by kernel_rfl) rfl ?y5_5 HS ?_; case y5_5 => (intro w' hSw; (try dsimp only at hSw); go_simp <;> (with_reducible rfl)))
            try simp only [Act.put, List.setIfInBounds_toArray, List.set_cons_zero, List.set_cons_succ]
            first
              | refine sk 6 rfl (by kernel_rfl) rfl HS ?_
              | (refine tk (v := ?v5_6) 6 rfl (by kernel_rfl) rfl ?y5_6 HS ?_; case y5_6 => (intro w' hSw; (try dsimp only at hSw); go_simp <;> (with_reducible rfl)))
            try simp only [Act.put, List.setIfInBounds_toArray, List.set_cons_zero, List.set_cons_succ]
            first
              | refine sk 7 rfl (by kernel_rfl) rfl HS ?_
              | (refine tk (v := ?v5_7) 7 rfl (by kernel_rfl) rfl ?y5_7 HS ?_; case y5_7 => (intro w' hSw; (try dsimp only at hSw); go_simp <;> (with_reducible rfl)))
            try simp only [Act.put, List.setIfInBounds_toArray, List.set_cons_zero, List.set_cons_succ]
            refine cl 8 rfl (by kernel_rfl) (fun K hK => ?_)
            go_simp
            go_at_call 57
            refine (sameDiff x y ⟨pn, pq, pr⟩ ⟨qn, qq, qr⟩ _ (HXR.out.grew (hbel.trans HS.2.2.2.2.2.2)) (HYR.out.grew (hbel.trans HS.2.2.2.2.2.2)) hxs hys).mono ?_
            rintro e w1 ⟨he, hb⟩
            rw [← HV.out] at he
            subst he
            refine hK.out _ _ ?s5_8 ?r5_8
            case s5_8 => (try dsimp only); exact ⟨grew_cell hb HS.1, grew_cell hb HS.2.1, grew_cell hb HS.2.2.1, grew_cell hb HS.2.2.2.1, grew_cell hb HS.2.2.2.2.1, grew_cell hb HS.2.2.2.2.2.1, HS.2.2.2.2.2.2.trans hb⟩
            case r5_8 =>
              clear HS
              intro HS
              clear hK K
              try simp only [Act.put, List.setIfInBounds_toArray, List.set_cons_zero, List.set_cons_succ]
              first
                | refine sk 9 rfl (by kernel_rfl) rfl HS ?_
                | (refine tk (v := ?v5_9) 9 rfl (by kernel_rfl) rfl ?y5_9 HS ?_; case y5_9 => (intro w' hSw; (try dsimp only at hSw); go_simp <;> (with_reducible rfl)))
              try simp only [Act.put, List.setIfInBounds_toArray, List.set_cons_zero, List.set_cons_succ]
              refine wpAnyH_done (by kernel_rfl) ?_ _
              refine NoPanic.normal ?_
              have hw := hbel.trans HS.2.2.2.2.2.2
              clear HS
              go_wp2
              go_ret
              exact ⟨ret_bool (eqL_at hxk.out hyk.out HV.out.symm).symm, hw⟩
        · go_wp2_with fail
          refine wp_region_noPanic ?_
          refine wp_region_held_drew (S := (fun w' => (w'.cell? ⟨b1, o1 + k * 3, none⟩ = some (.string pn) ∧ w'.cell? ⟨b1, o1 + k * 3 + 1, none⟩ = some (pq) ∧ w'.cell? ⟨b1, o1 + k * 3 + 2, none⟩ = some (pr) ∧ w'.cell? ⟨b2, o2 + k * 3, none⟩ = some (.string qn) ∧ w'.cell? ⟨b2, o2 + k * 3 + 1, none⟩ = some (qq) ∧ w'.cell? ⟨b2, o2 + k * 3 + 2, none⟩ = some (qr) ∧ Grew wr w'))) (by kernel_rfl) ?h6_S ?h6_r
          case h6_S => exact ⟨c0, c1, c2, d0, d1, d2, (Grew.refl _).drew⟩
          case h6_r =>
            intro HS
            first
              | refine sk 0 rfl (by kernel_rfl) rfl HS ?_
              | (refine tk (v := ?v6_0) 0 rfl (by kernel_rfl) rfl ?y6_0 HS ?_; case y6_0 => (intro w' hSw; (try dsimp only at hSw); go_simp <;> (with_reducible rfl)))
            try simp only [Act.put, List.setIfInBounds_toArray, List.set_cons_zero, List.set_cons_succ]
            first
              | refine sk 1 rfl (by kernel_rfl) rfl HS ?_
              | (refine tk (v := ?v6_1) 1 rfl (by kernel_rfl) rfl ?y6_1 HS ?_; case y6_1 => (intro w' hSw; (try dsimp only at hSw); go_simp <;> (with_reducible rfl)))
            try simp only [Act.put, List.setIfInBounds_toArray, List.set_cons_zero, List.set_cons_succ]
            first
              | refine sk 2 rfl (by kernel_rfl) rfl HS ?_
              | (refine tk (v := ?v6_2) 2 rfl (by kernel_rfl) rfl ?y6_2 HS ?_; case y6_2 => (intro w' hSw; (try dsimp only at hSw); go_simp <;> (with_reducible rfl)))
            try simp only [Act.put, List.setIfInBounds_toArray, List.set_cons_zero, List.set_cons_succ]
            first
              | refine sk 3 rfl (by kernel_rfl) rfl HS ?_
              | (refine tk (v := ?v6_3) 3 rfl (by kernel_rfl) rfl ?y6_3 HS ?_; case y6_3 => (intro w' hSw; (try dsimp only at hSw); go_simp <;> (with_reducible rfl)))
            try simp only [Act.put, List.setIfInBounds_toArray, List.set_cons_zero, List.set_cons_succ]
            first
              | refine sk 4 rfl (by kernel_rfl) rfl HS ?_
              | (refine tk (v := ?v6_4) 4 rfl (by kernel_rfl) rfl ?y6_4 HS ?_; case y6_4 => (intro w' hSw; (try dsimp only at hSw); go_simp <;> (with_reducible rfl)))
            try simp only [Act.put, List.setIfInBounds_toArray, List.set_cons_zero, List.set_cons_succ]
            first
              | refine sk 5 rfl (by kernel_rfl) rfl HS ?_
              | (refine tk (v := ?v6_5) 5 rfl (by kernel_rfl) rfl ?y6_5 HS ?_; case y6_5 => (intro w' hSw; (try dsimp only at hSw); go_simp <;> (with_reducible rfl)))
            try simp only [Act.put, List.setIfInBounds_toArray, List.set_cons_zero, List.set_cons_succ]
            first
              | refine sk 6 rfl (by kernel_rfl) rfl HS ?_
              | (refine tk (v := ?v6_6) 6 rfl (by kernel_rfl) rfl ?y6_6 HS ?_; case y6_6 => (intro w' hSw; (try dsimp only at hSw); go_simp <;> (with_reducible rfl)))
            try simp only [Act.put, List.setIfInBounds_toArray, List.set_cons_zero, List.set_cons_succ]
            first
              | refine sk 7 rfl (by kernel_rfl) rfl HS ?_
              | (refine tk (v := ?v6_7) 7 rfl (by kernel_rfl) rfl ?y6_7 HS ?_; case y6_7 => (intro w' hSw; (try dsimp only at hSw); go_simp <;> (with_reducible rfl)))
            try simp only [Act.put, List.setIfInBounds_toArray, List.set_cons_zero, List.set_cons_succ]
            refine cl 8 rfl (by kernel_rfl) (fun K hK => ?_)
            go_simp
            go_at_call 57
            refine (sameDiff x y ⟨pn, pq, pr⟩ ⟨qn, qq, qr⟩ _ (HXR.out.grew (hbel.trans HS.2.2.2.2.2.2)) (HYR.out.grew (hbel.trans HS.2.2.2.2.2.2)) hxs hys).mono ?_
            rintro e w1 ⟨he, hb⟩
            rw [← HV.out] at he
            subst he
            refine hK.out _ _ ?s6_8 ?r6_8
            case s6_8 => (try dsimp only); exact ⟨grew_cell hb HS.1, grew_cell hb HS.2.1, grew_cell hb HS.2.2.1, grew_cell hb HS.2.2.2.1, grew_cell hb HS.2.2.2.2.1, grew_cell hb HS.2.2.2.2.2.1, HS.2.2.2.2.2.2.trans hb⟩
            case r6_8 =>
              clear HS
              intro HS
              clear hK K
              try simp only [Act.put, List.setIfInBounds_toArray, List.set_cons_zero, List.set_cons_succ]
              first
                | refine sk 9 rfl (by kernel_rfl) rfl HS ?_
                | (refine tk (v := ?v6_9) 9 rfl (by kernel_rfl) rfl ?y6_9 HS ?_; case y6_9 => (intro w' hSw; (try dsimp only at hSw); go_simp <;> (with_reducible rfl)))
              try simp only [Act.put, List.setIfInBounds_toArray, List.set_cons_zero, List.set_cons_succ]
              refine wpAnyH_done (by kernel_rfl) ?_ _
              refine NoPanic.normal ?_
              have hw := hbel.trans HS.2.2.2.2.2.2
              clear HS
              go_wp2
              go_roundw
              case rel => exact ⟨k + 1, by omega, by go_num, Lib.hid (eqL_snoc hsame.out hxk.out hyk.out HV.out.symm), hw⟩
              case measure => simp [intOf]; omega
      · go_wp2
        go_ret
        obtain rfl : k = n := by omega
        exact ⟨ret_bool (eqL_all HX.out HY.out hsame.out).symm, hbel⟩
  · go_enter Try.func11, Try.ntmps11
    go_wp2
    go_ret
    exact ⟨ret_bool (eqL_len (by rw [HX.out, HY.out]; exact hnm)).symm, Grew.refl _⟩
end Go.Proofs.Ytgekgokkbakcmaa
