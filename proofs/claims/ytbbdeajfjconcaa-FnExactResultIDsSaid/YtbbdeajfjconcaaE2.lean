/- Equality of results and of directories. -/
import Derived.Test.YtbbdeajfjconcaaE1
import Derived.Test.YtbbdeajfjconcaaH4
namespace Go.Proofs.Ytbbdeajfjconcaa
open Go.RowKit
set_option linter.unusedVariables false
theorem held4 {wr w' w1 : World} {a b c d : Addr} {u v x y : Value} (h : w'.cell? a = some u ∧ w'.cell? b = some v ∧ w'.cell? c = some x ∧ w'.cell? d = some y ∧ Grew wr w') (hb : Grew w' w1) : w1.cell? a = some u ∧ w1.cell? b = some v ∧ w1.cell? c = some x ∧ w1.cell? d = some y ∧ Grew wr w1 :=
  ⟨grew_cell hb h.1, grew_cell hb h.2.1, grew_cell hb h.2.2.1, grew_cell hb h.2.2.2.1, h.2.2.2.2.trans hb⟩
theorem last4 {p q r s t : Prop} (h : p ∧ q ∧ r ∧ s ∧ t) : t := h.2.2.2.2
theorem All2.len {α β : Type} {O : α → β → Prop} {xs : List α} {ps : List β} (h : All2 O xs ps) : xs.length = ps.length := h.1
noncomputable def sameRs (x y : Rs) : Bool := x.name.toList == y.name.toList && sameB x.ids y.ids
set_option maxRecDepth 100000 in
set_option maxHeartbeats 1000000 in
theorem specEqualResults (va vb : Value) (xs ys : List Rs) (w : World) (ha : RdRs w va xs) (hb : RdRs w vb ys) (hx : xs.length ≤ 4000000) (hy : ys.length ≤ 4000000) (hs : ∀ x, x ∈ xs → x.small) (ht : ∀ x, x ∈ ys → x.small) :
    Calls Try.prog 34 #[va, vb] w fun e w' => e = .returned (.bool (eqL sameRs xs ys)) ∧ Grew w w' := by
  obtain ⟨qs, ⟨a, ca, rfl, hca, hra⟩, hall⟩ := ha
  obtain ⟨rs, ⟨b, cb, rfl, hcb, hrb⟩, hbll⟩ := hb
  have HS := Lib.hid hs
  have HT := Lib.hid ht
  have HA := Lib.hid hall
  have HB := Lib.hid hbll
  clear hall hbll hs ht
  generalize hn : xs.length = n at hx hra
  generalize hm : ys.length = m at hy hrb
  have HX := Lib.hid hn
  have HY := Lib.hid hm
  clear hn hm
  by_cases hnm : n = m
  · subst hnm
    go_enter Try.func34, Try.ntmps34
    go_wp2
    go_loopw [5] (fun i wr => ∃ k : Nat, k ≤ n ∧ i = .int .i64 k ∧ Hid (∀ (j : Nat) x y, j < k → xs[j]? = some x → ys[j]? = some y → sameRs x y = true) ∧ Grew w wr) (fun i _ => n - (intOf i).toNat)
    case atStart => exact ⟨0, Nat.zero_le _, rfl, Lib.hid (fun j x y h => absurd h (Nat.not_lt_zero j)), Grew.refl _⟩
    case round =>
      obtain ⟨k, hk, rfl, hsame, hbel⟩ := hrel
      by_cases hlt : k < n
      · obtain ⟨b1, o1, p, rfl, hpk, c0, c1⟩ := (hra.grew hbel).getP2 hlt
        obtain ⟨b2, o2, q, rfl, hqk, d0, d1⟩ := (hrb.grew hbel).getP2 hlt
        obtain ⟨x, hxk, hxr⟩ := HA.out.get hpk.out
        obtain ⟨y, hyk, hyr⟩ := HB.out.get hqk.out
        have hxs := HS.out x (List.mem_of_getElem? hxk.out)
        have hys := HT.out y (List.mem_of_getElem? hyk.out)
        obtain ⟨pn, pq⟩ := p
        obtain ⟨qn, qq⟩ := q
        obtain ⟨hxn, hxq⟩ := hxr
        obtain ⟨hyn, hyq⟩ := hyr
        simp only at hxn hyn hxq hyq c0 c1 d0 d1
        have HXQ := Lib.hid hxq
        have HYQ := Lib.hid hyq
        obtain ⟨pa, pc, rfl, hpc, hpr⟩ := hxq
        obtain ⟨qa, qc, rfl, hqc, hqr⟩ := hyq
        clear hpr hqr
        unfold Rs.small at hxs hys
        obtain ⟨v, hv⟩ : ∃ v, v = sameB x.ids y.ids := ⟨_, rfl⟩
        have hw : sameRs x y = (pn.toList == qn.toList && v) := by rw [hv, hxn, hyn]; rfl
        have HW := Lib.hid hw
        have HV := Lib.hid hv
        clear hw hv hxn hyn
        have hnn : (pn.toList == qn.toList) = false ∨ (pn.toList == qn.toList) = true := by cases pn.toList == qn.toList <;> simp
        rcases hnn with hnn | hnn
        · go_wp2_with fail
          go_quiet (fail)
          go_wp2
          go_ret
          exact ⟨ret_bool (eqL_at hxk.out hyk.out (by rw [HW.out, hnn]; rfl)).symm, hbel.drewN _⟩
        · cases v
          all_goals
            go_wp2_with fail
            go_region_held3 (fun w' => w'.cell? ⟨b1, o1 + k * 2, none⟩ = some (.string pn) ∧ w'.cell? ⟨b2, o2 + k * 2, none⟩ = some (.string qn) ∧ w'.cell? ⟨b1, o1 + k * 2 + 1, none⟩ = some (.slice pa x.ids.length pc) ∧ w'.cell? ⟨b2, o2 + k * 2 + 1, none⟩ = some (.slice qa y.ids.length qc) ∧ Grew wr w') (first | exact ⟨c0, d0, c1, d1, (Grew.refl _).drew⟩ | exact held4 (by assumption) (by assumption)) (first | (go_at_call 73; refine (l07Ints _ _ _ _ x.ids y.ids _ (HXQ.out.grew (hbel.trans (last4 (by assumption)))) (HYQ.out.grew (hbel.trans (last4 (by assumption)))) hxs hys).mono ?_; rintro e w1 ⟨he, hb⟩; rw [← HV.out] at he; subst he))
          · go_wp2
            go_ret
            exact ⟨ret_bool (eqL_at hxk.out hyk.out (by rw [HW.out]; simp)).symm, hbel.trans (last4 (by assumption))⟩
          · go_wp2
            go_roundw
            case rel => exact ⟨k + 1, by omega, by go_num, Lib.hid (eqL_snoc hsame.out hxk.out hyk.out (by rw [HW.out, hnn]; rfl)), hbel.trans (last4 (by assumption))⟩
            case measure => simp [intOf]; omega
      · go_wp2
        go_ret
        obtain rfl : k = n := by omega
        exact ⟨ret_bool (eqL_all HX.out HY.out hsame.out).symm, hbel⟩
  · go_enter Try.func34, Try.ntmps34
    go_wp2
    go_ret
    exact ⟨ret_bool (eqL_len (by rw [HX.out, HY.out]; exact hnm)).symm, Grew.refl _⟩
set_option maxHeartbeats 1000000 in
theorem cloRs (x y : Rs) (p p' : P2) (w : World) (h : Rs.R w x p) (h' : Rs.R w y p') (hx : x.small) (hy : y.small) :
    Calls Try.prog 76 #[p.v, p'.v] w fun e w' => e = .returned (.bool (sameRs x y)) ∧ Grew w w' := by
  obtain ⟨pn, pq⟩ := p
  obtain ⟨qn, qq⟩ := p'
  obtain ⟨hxn, hxq⟩ := h
  obtain ⟨hyn, hyq⟩ := h'
  simp only at hxn hyn hxq hyq
  have hw : sameRs x y = (pn.toList == qn.toList && sameB x.ids y.ids) := by rw [hxn, hyn]; rfl
  have HW := Lib.hid hw
  clear hw hxn hyn
  unfold Rs.small at hx hy
  have hnn : (pn.toList == qn.toList) = false ∨ (pn.toList == qn.toList) = true := by cases pn.toList == qn.toList <;> simp
  rcases hnn with hnn | hnn
  all_goals
    go_enter Try.func76, Try.ntmps76
    go_wp2_with (go_at_call 77; refine (slEqualInt _ _ _ _ x.ids y.ids _ (hxq.grew (((Grew.refl w).alloc _).alloc _)) (hyq.grew (((Grew.refl w).alloc _).alloc _)) hx hy).mono ?_; rintro e w1 ⟨rfl, hb⟩)
    go_ret
  · exact ⟨ret_bool (by rw [HW.out, hnn]; rfl), ((Grew.refl w).alloc _).alloc _⟩
  · exact ⟨ret_bool (by rw [HW.out, hnn]; rfl), (((Grew.refl w).alloc _).alloc _).trans hb⟩
set_option maxRecDepth 100000 in
set_option maxHeartbeats 1000000 in
theorem slEqualFuncRs (va vb : Value) (xs ys : List Rs) (w : World) (ha : RdRs w va xs) (hb : RdRs w vb ys) (hx : xs.length ≤ 4000000) (hy : ys.length ≤ 4000000) (hs : ∀ x, x ∈ xs → x.small) (ht : ∀ x, x ∈ ys → x.small) :
    Calls Try.prog 75 #[va, vb, .func (.func 76) #[] #[]] w fun e w' => e = .returned (.bool (eqL sameRs xs ys)) ∧ Grew w w' := by
  obtain ⟨qs, ⟨a, ca, rfl, hca, hra⟩, hall⟩ := ha
  obtain ⟨rs, ⟨b, cb, rfl, hcb, hrb⟩, hbll⟩ := hb
  have HS := Lib.hid hs
  have HT := Lib.hid ht
  have HA := Lib.hid hall
  have HB := Lib.hid hbll
  clear hall hbll hs ht
  generalize hn : xs.length = n at hx hra
  generalize hm : ys.length = m at hy hrb
  have HX := Lib.hid hn
  have HY := Lib.hid hm
  clear hn hm
  by_cases hnm : n = m
  · subst hnm
    go_enter Try.func75, Try.ntmps75
    go_wp2
    go_loopw [7, 17] (fun _ i wr => ∃ k : Nat, k ≤ n ∧ i = .int .i64 k ∧ Hid (∀ (j : Nat) x y, j < k → xs[j]? = some x → ys[j]? = some y → sameRs x y = true) ∧ Grew w wr) (fun _ i _ => n - (intOf i).toNat)
    case atStart => exact ⟨0, Nat.zero_le _, rfl, Lib.hid (fun j x y h => absurd h (Nat.not_lt_zero j)), Grew.refl _⟩
    case round =>
      obtain ⟨k, hk, rfl, hsame, hbel⟩ := hrel
      by_cases hlt : k < n
      · obtain ⟨b1, o1, p, rfl, hpk, c0, c1⟩ := (hra.grew hbel).getP2 hlt
        obtain ⟨b2, o2, q, rfl, hqk, d0, d1⟩ := (hrb.grew hbel).getP2 hlt
        obtain ⟨x, hxk, hxr⟩ := HA.out.get hpk.out
        obtain ⟨y, hyk, hyr⟩ := HB.out.get hqk.out
        have hxs := HS.out x (List.mem_of_getElem? hxk.out)
        have hys := HT.out y (List.mem_of_getElem? hyk.out)
        obtain ⟨pn, pq⟩ := p
        obtain ⟨qn, qq⟩ := q
        have HXR := Lib.hid hxr
        have HYR := Lib.hid hyr
        obtain ⟨hxn, hxq⟩ := hxr
        obtain ⟨hyn, hyq⟩ := hyr
        simp only at hxn hyn hxq hyq c0 c1 d0 d1
        clear hxn hyn
        obtain ⟨pa, pc, rfl, hpc, hpr⟩ := hxq
        obtain ⟨qa, qc, rfl, hqc, hqr⟩ := hyq
        clear hpr hqr
        obtain ⟨v, hv⟩ : ∃ v, v = sameRs x y := ⟨_, rfl⟩
        have HV := Lib.hid hv
        clear hv
        have hv : v = false ∨ v = true := by cases v <;> simp
        have e0 := grew_cell ((Grew.refl wr).alloc (.cells #[.string pn, .slice pa x.ids.length pc] 75)) d0
        have e1 := grew_cell ((Grew.refl wr).alloc (.cells #[.string pn, .slice pa x.ids.length pc] 75)) d1
        rcases hv with rfl | rfl
        all_goals
          go_wp2_with (go_at_call 76; refine (cloRs x y ⟨pn, _⟩ ⟨qn, _⟩ _ (HXR.out.grew ((hbel.alloc _).alloc _)) (HYR.out.grew ((hbel.alloc _).alloc _)) hxs hys).mono ?_; rintro e w1 ⟨he, hb⟩; rw [← HV.out] at he; subst he)
        · go_ret
          exact ⟨ret_bool (eqL_at hxk.out hyk.out HV.out.symm).symm, ((hbel.alloc _).alloc _).trans hb⟩
        · refine ⟨⟨k + 1, by omega, by go_num, Lib.hid (eqL_snoc hsame.out hxk.out hyk.out HV.out.symm), ((hbel.alloc _).alloc _).trans hb⟩, ?_⟩
          simp [intOf]; omega
      · go_wp2
        go_ret
        obtain rfl : k = n := by omega
        exact ⟨ret_bool (eqL_all HX.out HY.out hsame.out).symm, hbel⟩
  · go_enter Try.func75, Try.ntmps75
    go_wp2
    go_ret
    exact ⟨ret_bool (eqL_len (by rw [HX.out, HY.out]; exact hnm)).symm, Grew.refl _⟩
set_option maxRecDepth 100000 in
set_option maxHeartbeats 1000000 in
theorem implEqualResults (va vb : Value) (xs ys : List Rs) (w : World) (ha : RdRs w va xs) (hb : RdRs w vb ys) (hx : xs.length ≤ 4000000) (hy : ys.length ≤ 4000000) (hs : ∀ x, x ∈ xs → x.small) (ht : ∀ x, x ∈ ys → x.small) :
    Calls Try.prog 36 #[va, vb] w fun e w' => e = .returned (.bool (eqL sameRs xs ys)) ∧ Grew w w' := by
  go_enter Try.func36, Try.ntmps36
  go_wp2_with (go_at_call 75; refine (slEqualFuncRs va vb xs ys _ ha hb hx hy hs ht).mono ?_; rintro e w1 ⟨rfl, hb⟩)
  go_ret
  exact ⟨rfl, hb⟩
noncomputable def sameDr (x y : Dr) : Bool := x.name.toList == y.name.toList && eqL eqN x.query y.query
set_option maxRecDepth 100000 in
set_option maxHeartbeats 1000000 in
theorem specEqualDirs (va vb : Value) (xs ys : List Dr) (w : World) (ha : RdDs w va xs) (hb : RdDs w vb ys) (hx : xs.length ≤ 4000000) (hy : ys.length ≤ 4000000) (hs : ∀ x, x ∈ xs → x.small) (ht : ∀ x, x ∈ ys → x.small) :
    Calls Try.prog 53 #[va, vb] w fun e w' => e = .returned (.bool (eqL sameDr xs ys)) ∧ Grew w w' := by
  obtain ⟨qs, ⟨a, ca, rfl, hca, hra⟩, hall⟩ := ha
  obtain ⟨rs, ⟨b, cb, rfl, hcb, hrb⟩, hbll⟩ := hb
  have HS := Lib.hid hs
  have HT := Lib.hid ht
  have HA := Lib.hid hall
  have HB := Lib.hid hbll
  clear hall hbll hs ht
  generalize hn : xs.length = n at hx hra
  generalize hm : ys.length = m at hy hrb
  have HX := Lib.hid hn
  have HY := Lib.hid hm
  clear hn hm
  by_cases hnm : n = m
  · subst hnm
    go_enter Try.func53, Try.ntmps53
    go_wp2
    go_loopw [5] (fun i wr => ∃ k : Nat, k ≤ n ∧ i = .int .i64 k ∧ Hid (∀ (j : Nat) x y, j < k → xs[j]? = some x → ys[j]? = some y → sameDr x y = true) ∧ Grew w wr) (fun i _ => n - (intOf i).toNat)
    case atStart => exact ⟨0, Nat.zero_le _, rfl, Lib.hid (fun j x y h => absurd h (Nat.not_lt_zero j)), Grew.refl _⟩
    case round =>
      obtain ⟨k, hk, rfl, hsame, hbel⟩ := hrel
      by_cases hlt : k < n
      · obtain ⟨b1, o1, p, rfl, hpk, c0, c1⟩ := (hra.grew hbel).getP2 hlt
        obtain ⟨b2, o2, q, rfl, hqk, d0, d1⟩ := (hrb.grew hbel).getP2 hlt
        obtain ⟨x, hxk, hxr⟩ := HA.out.get hpk.out
        obtain ⟨y, hyk, hyr⟩ := HB.out.get hqk.out
        have hxs := HS.out x (List.mem_of_getElem? hxk.out)
        have hys := HT.out y (List.mem_of_getElem? hyk.out)
        obtain ⟨pn, pq⟩ := p
        obtain ⟨qn, qq⟩ := q
        obtain ⟨hxn, hxq⟩ := hxr
        obtain ⟨hyn, hyq⟩ := hyr
        simp only at hxn hyn hxq hyq c0 c1 d0 d1
        have HXQ := Lib.hid hxq
        have HYQ := Lib.hid hyq
        obtain ⟨pa, pc, rfl, hpc, hpr⟩ := hxq
        obtain ⟨qa, qc, rfl, hqc, hqr⟩ := hyq
        clear hpr hqr
        unfold Dr.small at hxs hys
        obtain ⟨v, hv⟩ : ∃ v, v = eqL eqN x.query y.query := ⟨_, rfl⟩
        have hw : sameDr x y = (pn.toList == qn.toList && v) := by rw [hv, hxn, hyn]; rfl
        have HW := Lib.hid hw
        have HV := Lib.hid hv
        clear hw hv hxn hyn
        have hnn : (pn.toList == qn.toList) = false ∨ (pn.toList == qn.toList) = true := by cases pn.toList == qn.toList <;> simp
        rcases hnn with hnn | hnn
        · go_wp2_with fail
          go_quiet (fail)
          go_wp2
          go_ret
          exact ⟨ret_bool (eqL_at hxk.out hyk.out (by rw [HW.out, hnn]; rfl)).symm, hbel.drewN _⟩
        · cases v
          all_goals
            go_wp2_with fail
            go_region_held3 (fun w' => w'.cell? ⟨b1, o1 + k * 2, none⟩ = some (.string pn) ∧ w'.cell? ⟨b2, o2 + k * 2, none⟩ = some (.string qn) ∧ w'.cell? ⟨b1, o1 + k * 2 + 1, none⟩ = some (.slice pa x.query.length pc) ∧ w'.cell? ⟨b2, o2 + k * 2 + 1, none⟩ = some (.slice qa y.query.length qc) ∧ Grew wr w') (first | exact ⟨c0, d0, c1, d1, (Grew.refl _).drew⟩ | exact held4 (by assumption) (by assumption)) (first | (go_at_call 92; refine (specEqualQueries _ _ _ _ x.query y.query _ (HXQ.out.grew (hbel.trans (last4 (by assumption)))) (HYQ.out.grew (hbel.trans (last4 (by assumption)))) hxs hys).mono ?_; rintro e w1 ⟨he, hb⟩; rw [← HV.out] at he; subst he))
          · go_wp2
            go_ret
            exact ⟨ret_bool (eqL_at hxk.out hyk.out (by rw [HW.out]; simp)).symm, hbel.trans (last4 (by assumption))⟩
          · go_wp2
            go_roundw
            case rel => exact ⟨k + 1, by omega, by go_num, Lib.hid (eqL_snoc hsame.out hxk.out hyk.out (by rw [HW.out, hnn]; rfl)), hbel.trans (last4 (by assumption))⟩
            case measure => simp [intOf]; omega
      · go_wp2
        go_ret
        obtain rfl : k = n := by omega
        exact ⟨ret_bool (eqL_all HX.out HY.out hsame.out).symm, hbel⟩
  · go_enter Try.func53, Try.ntmps53
    go_wp2
    go_ret
    exact ⟨ret_bool (eqL_len (by rw [HX.out, HY.out]; exact hnm)).symm, Grew.refl _⟩
set_option maxHeartbeats 1000000 in
theorem cloDr (x y : Dr) (p p' : P2) (w : World) (h : Dr.R w x p) (h' : Dr.R w y p') (hx : x.small) (hy : y.small) :
    Calls Try.prog 95 #[p.v, p'.v] w fun e w' => e = .returned (.bool (sameDr x y)) ∧ Grew w w' := by
  obtain ⟨pn, pq⟩ := p
  obtain ⟨qn, qq⟩ := p'
  obtain ⟨hxn, hxq⟩ := h
  obtain ⟨hyn, hyq⟩ := h'
  simp only at hxn hyn hxq hyq
  have hw : sameDr x y = (pn.toList == qn.toList && eqL eqN x.query y.query) := by rw [hxn, hyn]; rfl
  have HW := Lib.hid hw
  clear hw hxn hyn
  unfold Dr.small at hx hy
  have hnn : (pn.toList == qn.toList) = false ∨ (pn.toList == qn.toList) = true := by cases pn.toList == qn.toList <;> simp
  rcases hnn with hnn | hnn
  all_goals
    go_enter Try.func95, Try.ntmps95
    go_wp2_with (go_at_call 96; refine (implEqualQueries _ _ _ _ x.query y.query _ (hxq.grew (((Grew.refl w).alloc _).alloc _)) (hyq.grew (((Grew.refl w).alloc _).alloc _)) hx hy).mono ?_; rintro e w1 ⟨rfl, hb⟩)
    go_ret
  · exact ⟨ret_bool (by rw [HW.out, hnn]; rfl), ((Grew.refl w).alloc _).alloc _⟩
  · exact ⟨ret_bool (by rw [HW.out, hnn]; rfl), (((Grew.refl w).alloc _).alloc _).trans hb⟩
set_option maxRecDepth 100000 in
set_option maxHeartbeats 1000000 in
theorem slEqualFuncDr (va vb : Value) (xs ys : List Dr) (w : World) (ha : RdDs w va xs) (hb : RdDs w vb ys) (hx : xs.length ≤ 4000000) (hy : ys.length ≤ 4000000) (hs : ∀ x, x ∈ xs → x.small) (ht : ∀ x, x ∈ ys → x.small) :
    Calls Try.prog 94 #[va, vb, .func (.func 95) #[] #[]] w fun e w' => e = .returned (.bool (eqL sameDr xs ys)) ∧ Grew w w' := by
  obtain ⟨qs, ⟨a, ca, rfl, hca, hra⟩, hall⟩ := ha
  obtain ⟨rs, ⟨b, cb, rfl, hcb, hrb⟩, hbll⟩ := hb
  have HS := Lib.hid hs
  have HT := Lib.hid ht
  have HA := Lib.hid hall
  have HB := Lib.hid hbll
  clear hall hbll hs ht
  generalize hn : xs.length = n at hx hra
  generalize hm : ys.length = m at hy hrb
  have HX := Lib.hid hn
  have HY := Lib.hid hm
  clear hn hm
  by_cases hnm : n = m
  · subst hnm
    go_enter Try.func94, Try.ntmps94
    go_wp2
    go_loopw [7, 17] (fun _ i wr => ∃ k : Nat, k ≤ n ∧ i = .int .i64 k ∧ Hid (∀ (j : Nat) x y, j < k → xs[j]? = some x → ys[j]? = some y → sameDr x y = true) ∧ Grew w wr) (fun _ i _ => n - (intOf i).toNat)
    case atStart => exact ⟨0, Nat.zero_le _, rfl, Lib.hid (fun j x y h => absurd h (Nat.not_lt_zero j)), Grew.refl _⟩
    case round =>
      obtain ⟨k, hk, rfl, hsame, hbel⟩ := hrel
      by_cases hlt : k < n
      · obtain ⟨b1, o1, p, rfl, hpk, c0, c1⟩ := (hra.grew hbel).getP2 hlt
        obtain ⟨b2, o2, q, rfl, hqk, d0, d1⟩ := (hrb.grew hbel).getP2 hlt
        obtain ⟨x, hxk, hxr⟩ := HA.out.get hpk.out
        obtain ⟨y, hyk, hyr⟩ := HB.out.get hqk.out
        have hxs := HS.out x (List.mem_of_getElem? hxk.out)
        have hys := HT.out y (List.mem_of_getElem? hyk.out)
        obtain ⟨pn, pq⟩ := p
        obtain ⟨qn, qq⟩ := q
        have HXR := Lib.hid hxr
        have HYR := Lib.hid hyr
        obtain ⟨hxn, hxq⟩ := hxr
        obtain ⟨hyn, hyq⟩ := hyr
        simp only at hxn hyn hxq hyq c0 c1 d0 d1
        clear hxn hyn
        obtain ⟨pa, pc, rfl, hpc, hpr⟩ := hxq
        obtain ⟨qa, qc, rfl, hqc, hqr⟩ := hyq
        clear hpr hqr
        obtain ⟨v, hv⟩ : ∃ v, v = sameDr x y := ⟨_, rfl⟩
        have HV := Lib.hid hv
        clear hv
        have hv : v = false ∨ v = true := by cases v <;> simp
        have e0 := grew_cell ((Grew.refl wr).alloc (.cells #[.string pn, .slice pa x.query.length pc] 109)) d0
        have e1 := grew_cell ((Grew.refl wr).alloc (.cells #[.string pn, .slice pa x.query.length pc] 109)) d1
        rcases hv with rfl | rfl
        all_goals
          go_wp2_with (go_at_call 95; refine (cloDr x y ⟨pn, _⟩ ⟨qn, _⟩ _ (HXR.out.grew ((hbel.alloc _).alloc _)) (HYR.out.grew ((hbel.alloc _).alloc _)) hxs hys).mono ?_; rintro e w1 ⟨he, hb⟩; rw [← HV.out] at he; subst he)
        · go_ret
          exact ⟨ret_bool (eqL_at hxk.out hyk.out HV.out.symm).symm, ((hbel.alloc _).alloc _).trans hb⟩
        · refine ⟨⟨k + 1, by omega, by go_num, Lib.hid (eqL_snoc hsame.out hxk.out hyk.out HV.out.symm), ((hbel.alloc _).alloc _).trans hb⟩, ?_⟩
          simp [intOf]; omega
      · go_wp2
        go_ret
        obtain rfl : k = n := by omega
        exact ⟨ret_bool (eqL_all HX.out HY.out hsame.out).symm, hbel⟩
  · go_enter Try.func94, Try.ntmps94
    go_wp2
    go_ret
    exact ⟨ret_bool (eqL_len (by rw [HX.out, HY.out]; exact hnm)).symm, Grew.refl _⟩
set_option maxRecDepth 100000 in
set_option maxHeartbeats 1000000 in
theorem implEqualDirs (va vb : Value) (xs ys : List Dr) (w : World) (ha : RdDs w va xs) (hb : RdDs w vb ys) (hx : xs.length ≤ 4000000) (hy : ys.length ≤ 4000000) (hs : ∀ x, x ∈ xs → x.small) (ht : ∀ x, x ∈ ys → x.small) :
    Calls Try.prog 55 #[va, vb] w fun e w' => e = .returned (.bool (eqL sameDr xs ys)) ∧ Grew w w' := by
  go_enter Try.func55, Try.ntmps55
  go_wp2_with (go_at_call 94; refine (slEqualFuncDr va vb xs ys _ ha hb hx hy hs ht).mono ?_; rintro e w1 ⟨rfl, hb⟩)
  go_ret
  exact ⟨rfl, hb⟩
end Go.Proofs.Ytbbdeajfjconcaa
