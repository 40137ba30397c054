/- Texts E2, G, W0, C6, R1, D1, D2, H5, S, N3, H7, V3, H6, N5, I0, as far as they are needed. -/
import Derived.Test.YtemikjbfjhebnaaGreatNi0
import Derived.Deep.RegionHeld3
import Derived.Lib.SliceRun
import Derived.ArgAppend
namespace Go.Proofs.YtemikjbfjhebnaaGreat
open Go.RowKit
set_option linter.unusedVariables false
theorem held4 {wr w' w1 : World} {a b c d : Addr} {u v x y : Value} (h : w'.cell? a = some u ∧ w'.cell? b = some v ∧ w'.cell? c = some x ∧ w'.cell? d = some y ∧ Grew wr w') (hb : Grew w' w1) : w1.cell? a = some u ∧ w1.cell? b = some v ∧ w1.cell? c = some x ∧ w1.cell? d = some y ∧ Grew wr w1 :=
  ⟨grew_cell hb h.1, grew_cell hb h.2.1, grew_cell hb h.2.2.1, grew_cell hb h.2.2.2.1, h.2.2.2.2.trans hb⟩
theorem last4 {p q r s t : Prop} (h : p ∧ q ∧ r ∧ s ∧ t) : t := h.2.2.2.2
theorem All2.len {α β : Type} {O : α → β → Prop} {xs : List α} {ps : List β} (h : All2 O xs ps) : xs.length = ps.length := h.1
noncomputable def sameRs (x y : Rs) : Bool := x.name.toList == y.name.toList && sameB x.ids y.ids
set_option maxRecDepth 100000 in
set_option maxHeartbeats 1000000 in
theorem specEqualResults (va vb : Value) (xs ys : List Rs) (w : World) (ha : RdRs w va xs) (hb : RdRs w vb ys) (hx : xs.length ≤ 4000000) (hy : ys.length ≤ 4000000) (hs : ∀ x, x ∈ xs → x.small) (ht : ∀ x, x ∈ ys → x.small) :
    Calls Tryz.prog 19 #[va, vb] w fun e w' => e = .returned (.bool (eqL sameRs xs ys)) ∧ Grew w w' := by
  obtain ⟨qs, ⟨a, ca, rfl, hca, hra⟩, hall⟩ := ha
  obtain ⟨rs, ⟨b, cb, rfl, hcb, hrb⟩, hbll⟩ := hb
  have HS := Lib.hid hs
  have HT := Lib.hid ht
  have HA := Lib.hid hall
  have HB := Lib.hid hbll
  clear hall hbll hs ht
  generalize hn : xs.length = n at hx hra
  generalize hm : ys.length = m at hy hrb
  have HX := Lib.hid hn
  have HY := Lib.hid hm
  clear hn hm
  by_cases hnm : n = m
  · subst hnm
    go_enter Tryz.func19, Tryz.ntmps19
    go_wp2
    go_loopw [5] (fun i wr => ∃ k : Nat, k ≤ n ∧ i = .int .i64 k ∧ Hid (∀ (j : Nat) x y, j < k → xs[j]? = some x → ys[j]? = some y → sameRs x y = true) ∧ Grew w wr) (fun i _ => n - (intOf i).toNat)
    case atStart => exact ⟨0, Nat.zero_le _, rfl, Lib.hid (fun j x y h => absurd h (Nat.not_lt_zero j)), Grew.refl _⟩
    case round =>
      obtain ⟨k, hk, rfl, hsame, hbel⟩ := hrel
      by_cases hlt : k < n
      · obtain ⟨b1, o1, p, rfl, hpk, c0, c1⟩ := (hra.grew hbel).getP2 hlt
        obtain ⟨b2, o2, q, rfl, hqk, d0, d1⟩ := (hrb.grew hbel).getP2 hlt
        obtain ⟨x, hxk, hxr⟩ := HA.out.get hpk.out
        obtain ⟨y, hyk, hyr⟩ := HB.out.get hqk.out
        have hxs := HS.out x (List.mem_of_getElem? hxk.out)
        have hys := HT.out y (List.mem_of_getElem? hyk.out)
        obtain ⟨pn, pq⟩ := p
        obtain ⟨qn, qq⟩ := q
        obtain ⟨hxn, hxq⟩ := hxr
        obtain ⟨hyn, hyq⟩ := hyr
        simp only at hxn hyn hxq hyq c0 c1 d0 d1
        have HXQ := Lib.hid hxq
        have HYQ := Lib.hid hyq
        obtain ⟨pa, pc, rfl, hpc, hpr⟩ := hxq
        obtain ⟨qa, qc, rfl, hqc, hqr⟩ := hyq
        clear hpr hqr
        unfold Rs.small at hxs hys
        obtain ⟨v, hv⟩ : ∃ v, v = sameB x.ids y.ids := ⟨_, rfl⟩
        have hw : sameRs x y = (pn.toList == qn.toList && v) := by rw [hv, hxn, hyn]; rfl
        have HW := Lib.hid hw
        have HV := Lib.hid hv
        clear hw hv hxn hyn
        have hnn : (pn.toList == qn.toList) = false ∨ (pn.toList == qn.toList) = true := by cases pn.toList == qn.toList <;> simp
        rcases hnn with hnn | hnn
        · go_wp2_with fail
          go_quiet (fail)
          go_wp2
          go_ret
          exact ⟨ret_bool (eqL_at hxk.out hyk.out (by rw [HW.out, hnn]; rfl)).symm, hbel.drewN _⟩
        · cases v
          all_goals
            go_wp2_with fail
            go_region_held3 (fun w' => w'.cell? ⟨b1, o1 + k * 2, none⟩ = some (.string pn) ∧ w'.cell? ⟨b2, o2 + k * 2, none⟩ = some (.string qn) ∧ w'.cell? ⟨b1, o1 + k * 2 + 1, none⟩ = some (.slice pa x.ids.length pc) ∧ w'.cell? ⟨b2, o2 + k * 2 + 1, none⟩ = some (.slice qa y.ids.length qc) ∧ Grew wr w') (first | exact ⟨c0, d0, c1, d1, (Grew.refl _).drew⟩ | exact held4 (by assumption) (by assumption)) (first | (go_at_call 42; refine (l07Ints _ _ _ _ x.ids y.ids _ (HXQ.out.grew (hbel.trans (last4 (by assumption)))) (HYQ.out.grew (hbel.trans (last4 (by assumption)))) hxs hys).mono ?_; rintro e w1 ⟨he, hb⟩; rw [← HV.out] at he; subst he))
          · go_wp2
            go_ret
            exact ⟨ret_bool (eqL_at hxk.out hyk.out (by rw [HW.out]; simp)).symm, hbel.trans (last4 (by assumption))⟩
          · go_wp2
            go_roundw
            case rel => exact ⟨k + 1, by omega, by go_num, Lib.hid (eqL_snoc hsame.out hxk.out hyk.out (by rw [HW.out, hnn]; rfl)), hbel.trans (last4 (by assumption))⟩
            case measure => simp [intOf]; omega
      · go_wp2
        go_ret
        obtain rfl : k = n := by omega
        exact ⟨ret_bool (eqL_all HX.out HY.out hsame.out).symm, hbel⟩
  · go_enter Tryz.func19, Tryz.ntmps19
    go_wp2
    go_ret
    exact ⟨ret_bool (eqL_len (by rw [HX.out, HY.out]; exact hnm)).symm, Grew.refl _⟩
set_option maxHeartbeats 1000000 in
theorem cloRs (x y : Rs) (p p' : P2) (w : World) (h : Rs.R w x p) (h' : Rs.R w y p') (hx : x.small) (hy : y.small) :
    Calls Tryz.prog 39 #[p.v, p'.v] w fun e w' => e = .returned (.bool (sameRs x y)) ∧ Grew w w' := by
  obtain ⟨pn, pq⟩ := p
  obtain ⟨qn, qq⟩ := p'
  obtain ⟨hxn, hxq⟩ := h
  obtain ⟨hyn, hyq⟩ := h'
  simp only at hxn hyn hxq hyq
  have hw : sameRs x y = (pn.toList == qn.toList && sameB x.ids y.ids) := by rw [hxn, hyn]; rfl
  have HW := Lib.hid hw
  clear hw hxn hyn
  unfold Rs.small at hx hy
  have hnn : (pn.toList == qn.toList) = false ∨ (pn.toList == qn.toList) = true := by cases pn.toList == qn.toList <;> simp
  rcases hnn with hnn | hnn
  all_goals
    go_enter Tryz.func39, Tryz.ntmps39
    go_wp2_with (go_at_call 40; refine (slEqualInt _ _ _ _ x.ids y.ids _ (hxq.grew (((Grew.refl w).alloc _).alloc _)) (hyq.grew (((Grew.refl w).alloc _).alloc _)) hx hy).mono ?_; rintro e w1 ⟨rfl, hb⟩)
    go_ret
  · exact ⟨ret_bool (by rw [HW.out, hnn]; rfl), ((Grew.refl w).alloc _).alloc _⟩
  · exact ⟨ret_bool (by rw [HW.out, hnn]; rfl), (((Grew.refl w).alloc _).alloc _).trans hb⟩
set_option maxRecDepth 100000 in
set_option maxHeartbeats 1000000 in
theorem slEqualFuncRs (va vb : Value) (xs ys : List Rs) (w : World) (ha : RdRs w va xs) (hb : RdRs w vb ys) (hx : xs.length ≤ 4000000) (hy : ys.length ≤ 4000000) (hs : ∀ x, x ∈ xs → x.small) (ht : ∀ x, x ∈ ys → x.small) :
    Calls Tryz.prog 38 #[va, vb, .func (.func 39) #[] #[]] w fun e w' => e = .returned (.bool (eqL sameRs xs ys)) ∧ Grew w w' := by
  obtain ⟨qs, ⟨a, ca, rfl, hca, hra⟩, hall⟩ := ha
  obtain ⟨rs, ⟨b, cb, rfl, hcb, hrb⟩, hbll⟩ := hb
  have HS := Lib.hid hs
  have HT := Lib.hid ht
  have HA := Lib.hid hall
  have HB := Lib.hid hbll
  clear hall hbll hs ht
  generalize hn : xs.length = n at hx hra
  generalize hm : ys.length = m at hy hrb
  have HX := Lib.hid hn
  have HY := Lib.hid hm
  clear hn hm
  by_cases hnm : n = m
  · subst hnm
    go_enter Tryz.func38, Tryz.ntmps38
    go_wp2
    go_loopw [7, 17] (fun _ i wr => ∃ k : Nat, k ≤ n ∧ i = .int .i64 k ∧ Hid (∀ (j : Nat) x y, j < k → xs[j]? = some x → ys[j]? = some y → sameRs x y = true) ∧ Grew w wr) (fun _ i _ => n - (intOf i).toNat)
    case atStart => exact ⟨0, Nat.zero_le _, rfl, Lib.hid (fun j x y h => absurd h (Nat.not_lt_zero j)), Grew.refl _⟩
    case round =>
      obtain ⟨k, hk, rfl, hsame, hbel⟩ := hrel
      by_cases hlt : k < n
      · obtain ⟨b1, o1, p, rfl, hpk, c0, c1⟩ := (hra.grew hbel).getP2 hlt
        obtain ⟨b2, o2, q, rfl, hqk, d0, d1⟩ := (hrb.grew hbel).getP2 hlt
        obtain ⟨x, hxk, hxr⟩ := HA.out.get hpk.out
        obtain ⟨y, hyk, hyr⟩ := HB.out.get hqk.out
        have hxs := HS.out x (List.mem_of_getElem? hxk.out)
        have hys := HT.out y (List.mem_of_getElem? hyk.out)
        obtain ⟨pn, pq⟩ := p
        obtain ⟨qn, qq⟩ := q
        have HXR := Lib.hid hxr
        have HYR := Lib.hid hyr
        obtain ⟨hxn, hxq⟩ := hxr
        obtain ⟨hyn, hyq⟩ := hyr
        simp only at hxn hyn hxq hyq c0 c1 d0 d1
        clear hxn hyn
        obtain ⟨pa, pc, rfl, hpc, hpr⟩ := hxq
        obtain ⟨qa, qc, rfl, hqc, hqr⟩ := hyq
        clear hpr hqr
        obtain ⟨v, hv⟩ : ∃ v, v = sameRs x y := ⟨_, rfl⟩
        have HV := Lib.hid hv
        clear hv
        have hv : v = false ∨ v = true := by cases v <;> simp
        have e0 := grew_cell ((Grew.refl wr).alloc (.cells #[.string pn, .slice pa x.ids.length pc] 75)) d0
        have e1 := grew_cell ((Grew.refl wr).alloc (.cells #[.string pn, .slice pa x.ids.length pc] 75)) d1
        rcases hv with rfl | rfl
        all_goals
          go_wp2_with (go_at_call 39; refine (cloRs x y ⟨pn, _⟩ ⟨qn, _⟩ _ (HXR.out.grew ((hbel.alloc _).alloc _)) (HYR.out.grew ((hbel.alloc _).alloc _)) hxs hys).mono ?_; rintro e w1 ⟨he, hb⟩; rw [← HV.out] at he; subst he)
        · go_ret
          exact ⟨ret_bool (eqL_at hxk.out hyk.out HV.out.symm).symm, ((hbel.alloc _).alloc _).trans hb⟩
        · refine ⟨⟨k + 1, by omega, by go_num, Lib.hid (eqL_snoc hsame.out hxk.out hyk.out HV.out.symm), ((hbel.alloc _).alloc _).trans hb⟩, ?_⟩
          simp [intOf]; omega
      · go_wp2
        go_ret
        obtain rfl : k = n := by omega
        exact ⟨ret_bool (eqL_all HX.out HY.out hsame.out).symm, hbel⟩
  · go_enter Tryz.func38, Tryz.ntmps38
    go_wp2
    go_ret
    exact ⟨ret_bool (eqL_len (by rw [HX.out, HY.out]; exact hnm)).symm, Grew.refl _⟩
set_option maxRecDepth 100000 in
set_option maxHeartbeats 1000000 in
theorem implEqualResults (va vb : Value) (xs ys : List Rs) (w : World) (ha : RdRs w va xs) (hb : RdRs w vb ys) (hx : xs.length ≤ 4000000) (hy : ys.length ≤ 4000000) (hs : ∀ x, x ∈ xs → x.small) (ht : ∀ x, x ∈ ys → x.small) :
    Calls Tryz.prog 17 #[va, vb] w fun e w' => e = .returned (.bool (eqL sameRs xs ys)) ∧ Grew w w' := by
  go_enter Tryz.func17, Tryz.ntmps17
  go_wp2_with (go_at_call 38; refine (slEqualFuncRs va vb xs ys _ ha hb hx hy hs ht).mono ?_; rintro e w1 ⟨rfl, hb⟩)
  go_ret
  exact ⟨rfl, hb⟩
end Go.Proofs.YtemikjbfjhebnaaGreat
namespace Go.Proofs.YtemikjbfjhebnaaGreat
section
variable {P : Program} {md : Region.Mode} {ops : Array Oper} {Q : Exit → Act → World → Prop} {S : World → Prop}
theorem at_of_drop {i : Nat} {oi : Oper} {rs : List Oper} (hi : ops.toList.drop i = oi :: rs) : ops[i]? = some oi := by
  have h : (ops.toList.drop i)[0]? = some oi := by rw [hi]; rfl
  rw [List.getElem?_drop] at h
  simpa using h
theorem chk3 {a b c : Bool} (h : (a && (b && c)) = true) : a = true ∧ b = true ∧ c = true := by
  cases a <;> cases b <;> cases c <;> simp_all
theorem tk (i : Nat) {oi : Oper} {rs : List Oper} {v : Value} {fuel : Nat} {listed : Array Bool} {a : Act} {w : World} (hi : ops.toList.drop i = oi :: rs)
    (hc : (Region.noSelect ops && (Region.free md ops listed i && (Region.ready md ops listed).contains i)) = true)
    (hw : Region.wanted oi (yielded ops a.tmps) = true) (hy : ∀ w, S w → (execOp a.eval oi).run P w = .ok (.value v) w) (hS : S w)
    (h : wpAnyH P md ops (NoPanic Q) S fuel (listed.setIfInBounds i true) (a.put oi.dst v) w) : wpAnyH P md ops (NoPanic Q) S (fuel + 1) listed a w :=
  wpAnyH_take (at_of_drop hi) (chk3 hc).1 (chk3 hc).2.1 (chk3 hc).2.2 (fun _ _ _ h => h) (.inl ⟨hw, hy⟩) hS h
theorem sk (i : Nat) {oi : Oper} {rs : List Oper} {fuel : Nat} {listed : Array Bool} {a : Act} {w : World} (hi : ops.toList.drop i = oi :: rs)
    (hc : (Region.noSelect ops && (Region.free md ops listed i && (Region.ready md ops listed).contains i)) = true)
    (hw : Region.wanted oi (yielded ops a.tmps) = false) (hS : S w)
    (h : wpAnyH P md ops (NoPanic Q) S fuel (listed.setIfInBounds i true) (a.put oi.dst undef) w) : wpAnyH P md ops (NoPanic Q) S (fuel + 1) listed a w :=
  wpAnyH_take (at_of_drop hi) (chk3 hc).1 (chk3 hc).2.1 (chk3 hc).2.2 (fun _ _ _ h => h) (.inr ⟨hw, rfl⟩) hS h
theorem cl (i : Nat) {oi : Oper} {rs : List Oper} {fuel : Nat} {listed : Array Bool} {a : Act} {w : World} (hi : ops.toList.drop i = oi :: rs) (hr : Region.ready md ops listed = [i])
    (h : ∀ K' : Act → World → Prop, Shut (∀ a w, S w → (S w → wpAnyH P md ops Q S fuel (listed.setIfInBounds i true) a w) → K' a w) → if Region.wanted oi (yielded ops a.tmps) = true then Oper.wp P oi a w K' Q else K' (a.put oi.dst undef) w) :
    wpAnyH P md ops Q S (fuel + 1) listed a w :=
  wpAnyH_ready hr (by simp) (AllReadyH.cons (at_of_drop hi) h AllReadyH.nil)
end
theorem lpa {α : Type} (l : List α) (i : Nat) (a : α) : l.toArray.setIfInBounds i a = (l.set i a).toArray := List.setIfInBounds_toArray ..
theorem lpb {α : Type} (a b : α) (l : List α) : (a :: l).set 0 b = b :: l := List.set_cons_zero ..
theorem lpc {α : Type} (a b : α) (l : List α) (i : Nat) : (a :: l).set (i + 1) b = a :: l.set i b := List.set_cons_succ ..
section
variable {P : Program} {md : Region.Mode} {ops : Array Oper} {Q : Exit → Act → World → Prop} {S : World → Prop}
theorem tk' (i : Nat) {oi : Oper} {rs : List Oper} {v : Value} {fuel : Nat} {listed listed' : Array Bool} {a a' : Act} {w : World} (hS : S w)
    (h : wpAnyH P md ops (NoPanic Q) S fuel listed' a' w)
    (hi : ops.toList.drop i = oi :: rs := by rfl)
    (hc : (Region.noSelect ops && (Region.free md ops listed i && (Region.ready md ops listed).contains i)) = true := by kernel_rfl)
    (hw : Region.wanted oi (yielded ops a.tmps) = true := by rfl)
    (hy : ∀ w, S w → (execOp a.eval oi).run P w = .ok (.value v) w := by (intro w' hSw; (try dsimp only at hSw); go_simp <;> (with_reducible rfl)))
    (hl : listed.setIfInBounds i true = listed' := by ((try simp only [lpa, lpb, lpc]) <;> rfl))
    (ha : a.put oi.dst v = a' := by ((try simp only [Act.put, lpa, lpb, lpc]) <;> rfl)) :
    wpAnyH P md ops (NoPanic Q) S (fuel + 1) listed a w := by subst hl; subst ha; exact tk i hi hc hw hy hS h
theorem sk' (i : Nat) {oi : Oper} {rs : List Oper} {fuel : Nat} {listed listed' : Array Bool} {a a' : Act} {w : World} (hS : S w)
    (h : wpAnyH P md ops (NoPanic Q) S fuel listed' a' w)
    (hi : ops.toList.drop i = oi :: rs := by rfl)
    (hc : (Region.noSelect ops && (Region.free md ops listed i && (Region.ready md ops listed).contains i)) = true := by kernel_rfl)
    (hw : Region.wanted oi (yielded ops a.tmps) = false := by rfl)
    (hl : listed.setIfInBounds i true = listed' := by ((try simp only [lpa, lpb, lpc]) <;> rfl))
    (ha : a.put oi.dst undef = a' := by ((try simp only [Act.put, lpa, lpb, lpc]) <;> rfl)) :
    wpAnyH P md ops (NoPanic Q) S (fuel + 1) listed a w := by subst hl; subst ha; exact sk i hi hc hw hS h
theorem cl' (i : Nat) {oi : Oper} {rs : List Oper} {fuel : Nat} {listed : Array Bool} {a : Act} {w : World}
    (h : ∀ K' : Act → World → Prop, Shut (∀ a w, S w → (S w → wpAnyH P md ops Q S fuel (listed.setIfInBounds i true) a w) → K' a w) → if Region.wanted oi (yielded ops a.tmps) = true then Oper.wp P oi a w K' Q else K' (a.put oi.dst undef) w)
    (hi : ops.toList.drop i = oi :: rs := by rfl) (hr : Region.ready md ops listed = [i] := by kernel_rfl) :
    wpAnyH P md ops Q S (fuel + 1) listed a w := cl i hi hr h
end
end Go.Proofs.YtemikjbfjhebnaaGreat
namespace Go.Proofs.YtemikjbfjhebnaaGreat
open Go.RowKit
set_option linter.unusedVariables false
set_option maxHeartbeats 1000000 in
theorem big (v : Value) (n : Nat) (cs : List Value) (w : World) (hr : Rd w v 1 n cs) (hn : n ≤ maxLen) :
    Calls Tryz.prog 4 #[v] w fun e w' => e = .returned (.bool (decide ((1048576 : Int) < (n : Int)))) ∧ w = w' := by
  obtain ⟨a, ca, rfl, hca, hra⟩ := hr
  go_enter Tryz.func4, Tryz.ntmps4
  go_wp2
  go_ret
  exact ⟨rfl, rfl⟩
set_option maxRecDepth 100000 in
set_option maxHeartbeats 1000000 in
theorem sameInts (va vb : Value) (n m : Nat) (xs ys : List Int) (w : World) (ha : Rd w va 1 n (ints xs)) (hb : Rd w vb 1 m (ints ys)) (hx : n ≤ 4000000) (hy : m ≤ 4000000) :
    Calls Tryz.prog 10 #[va, vb] w fun e w' => e = .returned (.bool (sameB xs ys)) ∧ Grew w w' := by
  obtain ⟨a, ca, rfl, hca, hra⟩ := ha
  obtain ⟨b, cb, rfl, hcb, hrb⟩ := hb
  have HX := Lib.hid hra.len_map
  have HY := Lib.hid hrb.len_map
  by_cases hnm : n = m
  · subst hnm
    go_enter Tryz.func10, Tryz.ntmps10
    go_wp2
    go_loopw [5] (fun i wr => ∃ k : Nat, k ≤ n ∧ i = .int .i64 k ∧ Hid (∀ j, j < k → xs[j]? = ys[j]?) ∧ Grew w wr) (fun i _ => n - (intOf i).toNat)
    case atStart => exact ⟨0, Nat.zero_le _, rfl, Lib.hid (fun j h => absurd h (Nat.not_lt_zero j)), Grew.refl _⟩
    case round =>
      obtain ⟨k, hk, rfl, hsame, hbel⟩ := hrel
      by_cases hlt : k < n
      · obtain ⟨b1, o1, x, rfl, hxk, e1⟩ := (hra.grew hbel).one hlt
        obtain ⟨b2, o2, y, rfl, hyk, e2⟩ := (hrb.grew hbel).one hlt
        by_cases he : x = y
        · subst he
          go_wp2
          go_quiet (fail)
          go_wp2
          go_roundw
          case rel => exact ⟨k + 1, by omega, by go_num, Lib.hid (same_snoc hsame.out hxk.out hyk.out rfl), hbel.drewN _⟩
          case measure => simp [intOf]; omega
        · have hq : (x == y) = false := by simp [he]
          have HE := Lib.hid he
          clear he
          go_wp2
          go_quiet (fail)
          go_wp2
          go_ret
          exact ⟨ret_bool (sameB_at hxk.out hyk.out HE.out).symm, hbel.drewN _⟩
      · go_wp2
        go_ret
        obtain rfl : k = n := by omega
        exact ⟨ret_bool (sameB_all HX.out HY.out hsame.out).symm, hbel⟩
  · go_enter Tryz.func10, Tryz.ntmps10
    go_wp2
    go_ret
    exact ⟨ret_bool (sameB_len (by rw [HX.out, HY.out]; exact hnm)).symm, Grew.refl _⟩
theorem bytes_eq {x y : ByteArray} (h : (x.toList == y.toList) = true) : x = y := Go.WideShapes.bytes_inj (by rw [← ByteArray.toList_eq, ← ByteArray.toList_eq]; simpa using h)
noncomputable def sameDf (x y : Df) : Bool := x.name.toList == y.name.toList && sameB x.added y.added && sameB x.removed y.removed
end Go.Proofs.YtemikjbfjhebnaaGreat
namespace Go.Proofs.YtemikjbfjhebnaaGreat
open Go.RowKit
set_option linter.unusedVariables false
theorem alloc_heap (w : World) (o : Obj) : (w.alloc o).heap = w.heap.push o := rfl
theorem lit_own (w : World) (e : TypeId) (k : Nat) : (w.alloc (.cells #[] e)).ownsRow w.heap.size e k (.slice (some ⟨w.heap.size, 0, none⟩) 0 0) 0 [] :=
  ⟨by simp, .inr ⟨w.heap.size, 0, #[], rfl, Nat.le_refl _, by rw [alloc_heap]; simp, Nat.le_refl _, by simp [maxLen], by simp, by simp⟩⟩
theorem rd_news {w w' : World} {a : Addr} {k n : Nat} {cs : List Value} (h : RdA w (some a) k n cs) (hg : Grew w w') : ∀ j u, cs[j]? = some u → w'.cell? (a.add j) = some u := fun j u hu => by
  have hj := (List.getElem?_eq_some_iff.1 hu).1
  rw [h.1] at hj
  have hn : 0 < n := by
    rcases Nat.eq_zero_or_pos n with h0 | h0
    · subst h0; omega
    · exact h0
  obtain ⟨b, o, h1, h2⟩ := h.2 hn
  obtain rfl := Option.some.inj h1
  have h3 := grew_cell hg ((h2 j hj).trans hu)
  cases j with
  | zero => simpa [Addr.add] using h3
  | succ j => simpa [Addr.add] using h3
theorem Tryz.infoBool : (Tryz.prog.info? 4).map (fun i => (i.zero, i.size, i.bytes)) = some (some (.bool false), 1, 1) := by kernel_rfl
theorem Tryz.infoString : (Tryz.prog.info? 9).map (fun i => (i.zero, i.size, i.bytes)) = some (some (.string ⟨#[]⟩), 1, 16) := by kernel_rfl
theorem Tryz.infoInt : (Tryz.prog.info? 3).map (fun i => (i.zero, i.size, i.bytes)) = some (some (.int .i64 0), 1, 8) := by kernel_rfl
set_option maxRecDepth 100000 in
set_option maxHeartbeats 1000000 in
theorem slCloneInt (va : Value) (n : Nat) (xs : List Int) (w : World) (ha : Rd w va 1 n (ints xs)) (hx : n ≤ 4000000) :
    Calls Tryz.prog 50 #[va] w fun e w' => ∃ v, e = .returned v ∧ w'.ownsRow w.heap.size 3 1 v n (ints xs) ∧ Grew w w' := by
  obtain ⟨a, ca, rfl, hca, hra⟩ := ha
  have HX := Lib.hid hra.len_map
  have hen : ∀ a w, (binOp .eql 35 (.slice a n ca) (.slice none 0 0)).run Tryz.prog w = .ok (.bool a.isNone) w := fun a w => Lib.run_eql_slice_nil w 35 3 a n ca 0 0 Tryz.underlying35
  cases a with
  | none =>
    have hn : n = 0 := by rcases Nat.eq_zero_or_pos n with h | h; exact h; obtain ⟨b, o, h2, _⟩ := hra.2 h; cases h2
    subst hn
    have e1 := hen none
    go_enter Tryz.func50, Tryz.ntmps50
    go_wp2
    go_ret
    obtain rfl : xs = [] := List.length_eq_zero_iff.1 HX.out
    exact ⟨_, rfl, World.ownsRow_nil _ _ _ _, Grew.refl _⟩
  | some a =>
    have e1 := hen (some a)
    obtain ⟨i0, hi, hz0, hz1, hz2⟩ := info_parts Tryz.infoInt
    have HN := Lib.hid (rd_news hra ((Grew.refl w).alloc (.cells #[] 3)))
    have HL := Lib.hid (lit_own w 3 1)
    have HC := Lib.hid hra.1
    clear hra hen
    go_enter Tryz.func50, Tryz.ntmps50
    go_wp2_with (at_builtin; refine wpList_append_own _ rfl _ _ 35 rfl w.heap.size 3 i0 (.int .i64 0) 1 8 Tryz.underlying35 hi hz0 hz1 hz2 rfl (by decide) _ 0 [] rfl HL.out a n ca (ints xs) rfl ?c1 ?c2 ?c3 ?c4 ?c5 ?c6 ?_)
    case c1 => exact HC.out
    case c2 => exact HN.out
    case c3 => intro u hu; simp at hu; obtain ⟨x, _, rfl⟩ := hu; rfl
    case c4 => unfold maxLen; omega
    case c5 => omega
    case c6 => simp
    intro v' w' hown' hgrow _
    go_wp2
    go_ret
    refine ⟨_, rfl, by simpa using hown', ((Grew.refl w).alloc _).grown hgrow (fun k h => ?_)⟩
    cases h; exact Nat.le_refl _
end Go.Proofs.YtemikjbfjhebnaaGreat
namespace Go.Proofs.YtemikjbfjhebnaaGreat
open Go.RowKit
set_option linter.unusedVariables false
def resIds : List Rs → ByteArray → List Int
  | [], _ => []
  | x :: xs, s => if x.name.toList == s.toList then x.ids else resIds xs s
theorem resIds_yes : ∀ {xs : List Rs} {s : ByteArray} {k : Nat} {x : Rs}, (∀ (j : Nat) y, j < k → xs[j]? = some y → (y.name.toList == s.toList) = false) → xs[k]? = some x → (x.name.toList == s.toList) = true → resIds xs s = x.ids
  | [], s, k, x, _, h, _ => by simp at h
  | y :: ys, s, 0, x, _, h, h2 => by
    simp at h; subst h; unfold resIds; rw [h2]; rfl
  | y :: ys, s, k + 1, x, h1, h, h2 => by
    have h3 := h1 0 y (Nat.succ_pos k) rfl
    unfold resIds; rw [h3]
    exact resIds_yes (k := k) (fun j z hj hz => h1 (j + 1) z (Nat.succ_lt_succ hj) (by simpa using hz)) (by simpa using h) h2
theorem resIds_no : ∀ {xs : List Rs} {s : ByteArray}, (∀ (j : Nat) y, j < xs.length → xs[j]? = some y → (y.name.toList == s.toList) = false) → resIds xs s = []
  | [], s, _ => rfl
  | y :: ys, s, h1 => by
    have h3 := h1 0 y (by simp) rfl
    unfold resIds; rw [h3]
    exact resIds_no (fun j z hj hz => h1 (j + 1) z (by simpa using hj) (by simpa using hz))
theorem resIds_small : ∀ {xs : List Rs} {s : ByteArray}, (∀ x, x ∈ xs → x.small) → (resIds xs s).length ≤ 4000000
  | [], s, _ => by simp [resIds]
  | y :: ys, s, h => by
    unfold resIds
    cases hn : y.name.toList == s.toList
    · exact resIds_small (fun x hx => h x (List.mem_cons_of_mem _ hx))
    · have := h y (List.mem_cons_self ..); unfold Rs.small at this; exact this
theorem no_snoc {xs : List Rs} {s : ByteArray} {k : Nat} {x : Rs} (h : ∀ (j : Nat) y, j < k → xs[j]? = some y → (y.name.toList == s.toList) = false) (hx : xs[k]? = some x) (hn : (x.name.toList == s.toList) = false) : ∀ (j : Nat) y, j < k + 1 → xs[j]? = some y → (y.name.toList == s.toList) = false := fun j y hj hy => by
  rcases Nat.lt_succ_iff_lt_or_eq.1 hj with h1 | rfl
  · exact h j y h1 hy
  · obtain rfl := Option.some.inj (hx.symm.trans hy); exact hn
set_option maxRecDepth 100000 in
set_option maxHeartbeats 1000000 in
theorem specResultIDs (va : Value) (xs : List Rs) (s : ByteArray) (w : World) (ha : RdRs w va xs) (hx : xs.length ≤ 4000000) (hs : ∀ x, x ∈ xs → x.small) :
    Calls Tryz.prog 138 #[va, .string s] w fun e w' => ∃ v, e = .returned v ∧ w'.ownsRow w.heap.size 3 1 v (resIds xs s).length (ints (resIds xs s)) ∧ Grew w w' := by
  obtain ⟨qs, ⟨a, ca, rfl, hca, hra⟩, hall⟩ := ha
  have HS := Lib.hid hs
  have HA := Lib.hid hall
  clear hall hs
  generalize hn : xs.length = n at hx hra
  have HX := Lib.hid hn
  clear hn
  go_enter Tryz.func138, Tryz.ntmps138
  go_wp2
  go_loopw [5] (fun i wr => ∃ k : Nat, k ≤ n ∧ i = .int .i64 k ∧ Hid (∀ (j : Nat) y, j < k → xs[j]? = some y → (y.name.toList == s.toList) = false) ∧ Grew w wr) (fun i _ => n - (intOf i).toNat)
  case atStart => exact ⟨0, Nat.zero_le _, rfl, Lib.hid (fun j y h => absurd h (Nat.not_lt_zero j)), Grew.refl _⟩
  case round =>
    obtain ⟨k, hk, rfl, hall, hbel⟩ := hrel
    by_cases hlt : k < n
    · obtain ⟨b1, o1, p, rfl, hpk, c0, c1⟩ := (hra.grew hbel).getP2 hlt
      obtain ⟨x, hxk, hxr⟩ := HA.out.get hpk.out
      have hxs := HS.out x (List.mem_of_getElem? hxk.out)
      unfold Rs.small at hxs
      obtain ⟨pn, pq⟩ := p
      obtain ⟨hxn, hxq⟩ := hxr
      simp only at hxn hxq c0 c1
      have HXQ := Lib.hid hxq
      obtain ⟨pa, pc, rfl, hpc, hpr⟩ := hxq
      have hcs : (pn.toList == s.toList) = true ∨ (pn.toList == s.toList) = false := by cases pn.toList == s.toList <;> simp
      have HXN := Lib.hid hxn
      clear hxn
      rcases hcs with hn | hn
      · have e1 := grew_cell ((Grew.refl wr).alloc (.cells #[] 3)) c1
        have HY := Lib.hid (resIds_yes hall.out hxk.out (by rw [← HXN.out]; exact hn))
        have HL := Lib.hid (lit_own wr 3 1)
        have HC := Lib.hid hpr.1
        cases pa with
        | none =>
          have h0 : x.ids.length = 0 := by rcases Nat.eq_zero_or_pos x.ids.length with h | h; exact h; obtain ⟨b, o, h2, _⟩ := hpr.2 h; cases h2
          clear hpr
          rw [h0] at c1 e1
          have H0 := Lib.hid h0
          clear h0
          go_wp2
          go_ret
          refine ⟨_, rfl, ?_, hbel.alloc _⟩
          rw [HY.out, List.length_eq_zero_iff.1 H0.out]
          exact ownsRow_base (lit_own wr 3 1) hbel.size
        | some pa =>
          have HN := Lib.hid (rd_news (hpr.grew hbel) ((Grew.refl wr).alloc (.cells #[] 3)))
          clear hpr
          obtain ⟨i0, hi, hz0, hz1, hz2⟩ := info_parts Tryz.infoInt
          go_wp2_with (at_builtin; refine wpList_append_own _ rfl _ _ 35 rfl wr.heap.size 3 i0 (.int .i64 0) 1 8 Tryz.underlying35 hi hz0 hz1 hz2 rfl (by decide) _ 0 [] rfl HL.out pa x.ids.length pc (ints x.ids) rfl ?c1 ?c2 ?c3 ?c4 ?c5 ?c6 ?_)
          case c1 => exact HC.out
          case c2 => exact HN.out
          case c3 => intro u hu; simp at hu; obtain ⟨x, _, rfl⟩ := hu; rfl
          case c4 => unfold maxLen; omega
          case c5 => omega
          case c6 => simp
          intro v' w' hown' hgrow _
          go_wp2
          go_ret
          refine ⟨_, rfl, ?_, (hbel.alloc _).grown hgrow (fun k h => ?_)⟩
          · rw [HY.out]; exact ownsRow_base (by simpa using hown') hbel.size
          · cases h; exact hbel.size
      · go_wp2
        go_roundw
        case rel => exact ⟨k + 1, by omega, by go_num, Lib.hid (no_snoc hall.out hxk.out (by rw [← HXN.out]; exact hn)), hbel⟩
        case measure => simp [intOf]; omega
    · go_wp2
      go_ret
      have hk2 : k = n := by omega
      refine ⟨_, rfl, ?_, hbel.alloc _⟩
      rw [resIds_no (fun j y h h2 => hall.out j y (by rw [hk2, ← HX.out]; exact h) h2)]
      exact ownsRow_base (lit_own wr 3 1) hbel.size
set_option maxRecDepth 100000 in
set_option maxHeartbeats 1000000 in
theorem implResultIDs (va : Value) (xs : List Rs) (s : ByteArray) (w : World) (ha : RdRs w va xs) (hx : xs.length ≤ 4000000) (hs : ∀ x, x ∈ xs → x.small) :
    Calls Tryz.prog 25 #[va, .string s] w fun e w' => ∃ v, e = .returned v ∧ w'.ownsRow w.heap.size 3 1 v (resIds xs s).length (ints (resIds xs s)) ∧ Grew w w' := by
  obtain ⟨qs, ⟨a, ca, rfl, hca, hra⟩, hall⟩ := ha
  have HS := Lib.hid hs
  have HA := Lib.hid hall
  clear hall hs
  generalize hn : xs.length = n at hx hra
  have HX := Lib.hid hn
  clear hn
  go_enter Tryz.func25, Tryz.ntmps25
  go_wp2
  go_loopw [9] (fun i wr => ∃ k : Nat, k ≤ n ∧ i = .int .i64 k ∧ Hid (∀ (j : Nat) y, j < k → xs[j]? = some y → (y.name.toList == s.toList) = false) ∧ Grew w wr) (fun i _ => n - (intOf i).toNat)
  case atStart => exact ⟨0, Nat.zero_le _, rfl, Lib.hid (fun j y h => absurd h (Nat.not_lt_zero j)), Grew.refl _⟩
  case round =>
    obtain ⟨k, hk, rfl, hall, hbel⟩ := hrel
    by_cases hlt : k < n
    · obtain ⟨b1, o1, p, rfl, hpk, c0, c1⟩ := (hra.grew hbel).getP2 hlt
      obtain ⟨x, hxk, hxr⟩ := HA.out.get hpk.out
      have hxs := HS.out x (List.mem_of_getElem? hxk.out)
      unfold Rs.small at hxs
      obtain ⟨pn, pq⟩ := p
      obtain ⟨hxn, hxq⟩ := hxr
      simp only at hxn hxq c0 c1
      have HXQ := Lib.hid hxq
      obtain ⟨pa, pc, rfl, hpc, hpr⟩ := hxq
      have hcs : (pn.toList == s.toList) = true ∨ (pn.toList == s.toList) = false := by cases pn.toList == s.toList <;> simp
      have HXN := Lib.hid hxn
      clear hxn
      rcases hcs with hn | hn
      · have HY := Lib.hid (resIds_yes hall.out hxk.out (by rw [← HXN.out]; exact hn))
        clear hpr
        go_wp2_with (go_at_call 50; refine (slCloneInt _ _ x.ids _ (HXQ.out.grew (hbel.alloc _)) hxs).mono ?_; rintro e w1 ⟨v, rfl, hown, hb⟩)
        go_ret
        refine ⟨_, rfl, ?_, (hbel.alloc _).trans hb⟩
        rw [HY.out]; exact ownsRow_base hown (hbel.alloc _).size
      · go_wp2
        go_roundw
        case rel => exact ⟨k + 1, by omega, by go_num, Lib.hid (no_snoc hall.out hxk.out (by rw [← HXN.out]; exact hn)), hbel.alloc _⟩
        case measure => simp [intOf]; omega
    · go_wp2
      go_ret
      have hk2 : k = n := by omega
      refine ⟨_, rfl, ?_, hbel⟩
      rw [resIds_no (fun j y h h2 => hall.out j y (by rw [hk2, ← HX.out]; exact h) h2)]
      exact World.ownsRow_nil _ _ _ _
end Go.Proofs.YtemikjbfjhebnaaGreat
namespace Go.Proofs.YtemikjbfjhebnaaGreat
open Go.RowKit
set_option linter.unusedVariables false
theorem own_cut' {w : World} {base g n cap k : Nat} {e : TypeId} {cs ps : List Value} (h : w.ownsRow base e 1 (.slice (some ⟨g, 0, none⟩) n cap) n cs) (hk : k ≤ n) (hp : cs.take k = ps) : w.ownsRow base e 1 (.slice (some ⟨g, 0, none⟩) k cap) k ps := by
  obtain ⟨hl, ⟨h1, _⟩ | ⟨g', cap', cur, h1, h2, h3, h4, h5, h6, h7⟩⟩ := h
  · cases h1
  · cases h1
    subst hp
    refine ⟨by rw [List.length_take]; omega, .inr ⟨_, _, cur, rfl, h2, h3, by omega, h5, h6, ?_⟩⟩
    rw [← h7, List.take_take, Nat.mul_one, Nat.mul_one, Nat.min_eq_left hk]
end Go.Proofs.YtemikjbfjhebnaaGreat
namespace Go.Proofs.YtemikjbfjhebnaaGreat
open Go.RowKit
set_option linter.unusedVariables false
theorem Rd.len1 {α : Type} {f : α → Value} {w : World} {v : Value} {n : Nat} {xs : List α} (h : Rd w v 1 n (xs.map f)) : xs.length = n := by
  obtain ⟨a, c, _, _, h⟩ := h; exact h.len_map
end Go.Proofs.YtemikjbfjhebnaaGreat
namespace Go.Proofs.YtemikjbfjhebnaaGreat
open Go.RowKit
set_option linter.unusedVariables false
theorem All2.upd {α β : Type} {R S : α → β → Prop} {xs : List α} {ys : List β} (h : All2 R xs ys) (k : Nat) (x : α) (y : β) (hs : ∀ (i : Nat) a b, i ≠ k → xs[i]? = some a → ys[i]? = some b → R a b → S a b) (hr : S x y) : All2 S (xs.set k x) (ys.set k y) := by
  refine ⟨by simp [h.1], fun j a b ha hb => ?_⟩
  by_cases hij : k = j
  · subst hij
    have hl := (List.getElem?_eq_some_iff.1 ha).1
    simp at hl
    rw [List.getElem?_set_self hl] at ha
    rw [List.getElem?_set_self (by rw [← h.1]; exact hl)] at hb
    simp at ha hb; subst ha; subst hb; exact hr
  · rw [List.getElem?_set_ne hij] at ha hb
    exact hs j a b (fun e => hij e.symm) ha hb (h.2 j a b ha hb)
theorem Own.touch' {w w' : World} {lo hi a b : Nat} {e : TypeId} {k n : Nat} {v : Value} {cs : List Value} (h : Own w lo hi e k v n cs) (ht : Touch a b w w') (hd : ∀ c, v.ownBlock = some c → c < a ∨ b ≤ c) : Own w' lo hi e k v n cs := by
  refine ⟨?_, h.2⟩
  obtain ⟨hl, ⟨rfl, rfl⟩ | ⟨g, cap, cur, rfl, hg, hh, hr⟩⟩ := h.1
  · exact ⟨hl, .inl ⟨rfl, rfl⟩⟩
  · have hb := h.1.lt g rfl
    exact ⟨hl, .inr ⟨g, cap, cur, rfl, hg, (ht.block g hb.2 (hd g rfl)).trans hh, hr⟩⟩
def Dr.sz (x : Dr) : Nat := x.name.size + (x.query.length + szAll N.sz x.query)
theorem Dr.O.touch' {w w' : World} {lo hi a b : Nat} {x : Dr} {p : P2} (h : Dr.O w lo hi x p) (ht : Touch a b w w') (hd : ∀ v c, v ∈ Dr.subs p → v.ownBlock = some c → c < a ∨ b ≤ c) : Dr.O w' lo hi x p := ⟨h.1, (h.2).touch' ht (fun c hc => hd _ c (by simp [Dr.subs]) hc)⟩
def Rs.sz (x : Rs) : Nat := x.name.size + (x.ids.length)
theorem Rs.O.touch' {w w' : World} {lo hi a b : Nat} {x : Rs} {p : P2} (h : Rs.O w lo hi x p) (ht : Touch a b w w') (hd : ∀ v c, v ∈ Rs.subs p → v.ownBlock = some c → c < a ∨ b ≤ c) : Rs.O w' lo hi x p := ⟨h.1, (h.2).touch' ht (fun c hc => hd _ c (by simp [Rs.subs]) hc)⟩
def Df.sz (x : Df) : Nat := x.name.size + (x.added.length) + (x.removed.length)
def Fl.sz (x : Fl) : Nat := (x.attrs.length + szAll At.sz x.attrs)
theorem Fl.O.touch' {w w' : World} {lo hi a b : Nat} {x : Fl} {p : P5} (h : Fl.O w lo hi x p) (ht : Touch a b w w') (hd : ∀ v c, v ∈ Fl.subs p → v.ownBlock = some c → c < a ∨ b ≤ c) : Fl.O w' lo hi x p := ⟨h.1, h.2.1, h.2.2.1, h.2.2.2.1, (h.2.2.2.2).touch' ht (fun c hc => hd _ c (by simp [Fl.subs]) hc)⟩
end Go.Proofs.YtemikjbfjhebnaaGreat
namespace Go.Proofs.YtemikjbfjhebnaaGreat
end Go.Proofs.YtemikjbfjhebnaaGreat
namespace Go.Proofs.YtemikjbfjhebnaaGreat
open Go.RowKit
set_option linter.unusedVariables false
theorem own_type {w : World} {B B' : Nat} {e e' : TypeId} {k k' n n' : Nat} {v v' : Value} {xs xs' : List Value} (h : w.ownsRow B e k v n xs) (h' : w.ownsRow B' e' k' v' n' xs') (hne : e ≠ e') {b : Nat} (hb : v.ownBlock = some b) : v'.ownBlock ≠ some b := by
  intro hb'
  obtain ⟨_, ⟨rfl, _⟩ | ⟨g, cap, cur, rfl, _, hh, _⟩⟩ := h
  · cases hb
  obtain ⟨_, ⟨rfl, _⟩ | ⟨g', cap', cur', rfl, _, hh', _⟩⟩ := h'
  · cases hb'
  cases hb; cases hb'
  rw [hh] at hh'
  injection Option.some.inj hh' with h1 h2
  exact hne h2
theorem own_grown {w w' : World} {B lo hi : Nat} {e e' : TypeId} {k k' n n' : Nat} {v v' : Value} {xs xs' : List Value} (h : Own w lo hi e k v n xs) (h' : w.ownsRow B e' k' v' n' xs') (hne : e ≠ e') (hg : w.grownBy w' v'.ownBlock) : Own w' lo hi e k v n xs := by
  refine ⟨h.1.kept hg ?_, h.2⟩
  cases hb : v.ownBlock with
  | none => exact .inl rfl
  | some b => exact .inr (fun h3 => own_type h.1 h' hne hb h3.symm)
end Go.Proofs.YtemikjbfjhebnaaGreat
namespace Go.Proofs.YtemikjbfjhebnaaGreat
open Go.RowKit
set_option linter.unusedVariables false
structure PS where
  q : Value
  r : Value
  n : Int
def PS.c (x : PS) : List Value := [x.q, x.r, .int .i64 x.n]
abbrev PS.v (x : PS) : Value := .agg #[x.q, x.r, .int .i64 x.n]
def St.R (w : World) (x : St) (p : PS) : Prop := Rd w p.q 2 x.schema.length (rows Fd.c x.schema) ∧ RdLs w p.r x.files ∧ p.n = x.next
def St.sz (x : St) : Nat := (x.schema.length + szAll Fd.sz x.schema) + (x.files.length + szAll Fl.sz x.files)
def St.small (x : St) : Prop := x.schema.length ≤ 4000000 ∧ x.files.length ≤ 4000000 ∧ ∀ y, y ∈ x.files → y.small
theorem St.sz_small {x : St} (h : x.sz ≤ 4000000) : x.small := by
  unfold St.sz at h
  refine ⟨by omega, by omega, fun y hy => ?_⟩
  have h2 := mem_szAll (f := Fl.sz) hy
  have h3 : y.attrs.length ≤ y.sz := by unfold Fl.sz; omega
  unfold Fl.small
  omega
theorem St.small_of {x : St} (h : x.sz ≤ 4000000) : x.small := St.sz_small h
theorem St.R.grew {w w' : World} {x : St} {p : PS} (h : St.R w x p) (hg : Grew w w') : St.R w' x p := ⟨h.1.grew hg, RdLs.grew h.2.1 hg, h.2.2⟩
def St.O (w : World) (lo hi : Nat) (x : St) (p : PS) : Prop :=
  ∃ mid, (lo ≤ mid ∧ mid ≤ hi) ∧ Own w lo mid 87 2 p.q x.schema.length (rows Fd.c x.schema) ∧ OwnFls w mid hi p.r x.files ∧ p.n = x.next
theorem St.O.grew {w w' : World} {lo hi : Nat} {x : St} {p : PS} (h : St.O w lo hi x p) (hg : Grew w w') : St.O w' lo hi x p := by
  obtain ⟨mid, hm, h1, h2, h3⟩ := h
  exact ⟨mid, hm, h1.grew hg, OwnFls.grew h2 hg, h3⟩
theorem St.O.touch {w w' : World} {lo hi a b : Nat} {x : St} {p : PS} (h : St.O w lo hi x p) (ht : Touch a b w w') (hd : hi ≤ a ∨ b ≤ lo) : St.O w' lo hi x p := by
  obtain ⟨mid, hm, h1, h2, h3⟩ := h
  exact ⟨mid, hm, h1.touch ht (by omega), OwnFls.touch h2 ht (by omega), h3⟩
theorem St.O.rd {w : World} {lo hi : Nat} {x : St} {p : PS} (h : St.O w lo hi x p) : St.R w x p := by
  obtain ⟨mid, hm, h1, h2, h3⟩ := h
  exact ⟨h1.rd, OwnFls.rd h2, h3⟩
theorem St.O.slices {w : World} {lo hi : Nat} {x : St} {p : PS} (h : St.O w lo hi x p) : ∃ a c b d, p = ⟨.slice a x.schema.length c, .slice b x.files.length d, x.next⟩ := by
  obtain ⟨pq, pr, pn⟩ := p
  obtain ⟨mid, hm, h1, ⟨ps, h2, _⟩, h3⟩ := h
  obtain ⟨a, c, ha⟩ := own_slice h1.1
  obtain ⟨b, d, hb⟩ := own_slice h2.1
  simp only at ha hb h3
  subst ha; subst hb; subst h3
  exact ⟨a, c, b, d, rfl⟩
end Go.Proofs.YtemikjbfjhebnaaGreat
namespace Go.Proofs.YtemikjbfjhebnaaGreat
open Go.RowKit
set_option linter.unusedVariables false
def canB (f : Fl) (u : Int) : Bool := inB u 0 2 && ((f.owner == u) || f.shared)
def visF (fs : List Fl) (u : Int) : List Fl := fs.filter fun f => canB f u
def hasF (fs : List Fl) (id : Int) : Bool := fs.any fun g => g.id == id
def visL (fs : List Fl) (f : Fl) : Fl := if hasF fs f.link then f else ⟨f.id, f.owner, f.shared, 0, f.attrs⟩
def visS (s : St) (u : Int) : St := ⟨s.schema, (visF s.files u).map (visL (visF s.files u)), s.next⟩
theorem visF_yes {fs : List Fl} {u : Int} {k : Nat} {f : Fl} (h : fs[k]? = some f) (hc : canB f u = true) : visF (fs.take (k + 1)) u = visF (fs.take k) u ++ [f] := by
  unfold visF; rw [take_snoc h, List.filter_append]; simp [hc]
theorem visF_no {fs : List Fl} {u : Int} {k : Nat} {f : Fl} (h : fs[k]? = some f) (hc : canB f u = false) : visF (fs.take (k + 1)) u = visF (fs.take k) u := by
  unfold visF; rw [take_snoc h, List.filter_append]; simp [hc]
theorem visF_le (fs : List Fl) (u : Int) : (visF fs u).length ≤ fs.length := List.length_filter_le _ _
theorem visL_id (fs : List Fl) (f : Fl) : (visL fs f).id = f.id := by unfold visL; split <;> rfl
theorem visL_sz (fs : List Fl) (f : Fl) : (visL fs f).sz = f.sz := by unfold visL; split <;> rfl
def visM (fs : List Fl) (i : Nat) : List Fl := (fs.take i).map (visL fs) ++ fs.drop i
theorem visM_zero (fs : List Fl) : visM fs 0 = fs := by simp [visM]
theorem visM_all {fs : List Fl} {n : Nat} (h : fs.length = n) : visM fs n = fs.map (visL fs) := by
  unfold visM; rw [take_all h, List.drop_eq_nil_of_le (by omega), List.append_nil]
theorem visM_len (fs : List Fl) (i : Nat) : (visM fs i).length = fs.length := by
  unfold visM; rw [List.length_append, List.length_map, List.length_take, List.length_drop]; omega
theorem visM_at {fs : List Fl} {i : Nat} {f : Fl} (h : fs[i]? = some f) : (visM fs i)[i]? = some f := by
  have hi := (List.getElem?_eq_some_iff.1 h).1
  unfold visM
  rw [List.getElem?_append_right (by rw [List.length_map, List.length_take]; omega), List.length_map, List.length_take, List.getElem?_drop]
  rw [show i + (i - min i fs.length) = i by omega]; exact h
theorem visM_succ {fs : List Fl} {i : Nat} {f : Fl} (h : fs[i]? = some f) : visM fs (i + 1) = (visM fs i).set i (visL fs f) := by
  have hi := (List.getElem?_eq_some_iff.1 h).1
  unfold visM
  rw [take_snoc h, List.map_append, List.map_cons, List.map_nil, List.drop_eq_getElem_cons hi]
  have hf : fs[i] = f := by rw [List.getElem?_eq_getElem hi] at h; exact Option.some.inj h
  rw [List.set_append_right _ _ (by rw [List.length_map, List.length_take]; omega), List.length_map, List.length_take]
  rw [show i - min i fs.length = 0 by omega, List.set_cons_zero, List.append_assoc]; rfl
theorem hasF_visM (fs : List Fl) (i : Nat) (id : Int) : hasF (visM fs i) id = hasF fs id := by
  unfold hasF visM
  rw [List.any_append, List.any_map]
  have h : ((fun g : Fl => g.id == id) ∘ visL fs) = fun g => g.id == id := by
    funext f; show ((visL fs f).id == id) = (f.id == id); rw [visL_id]
  rw [h, ← List.any_append, List.take_append_drop]
theorem visF_sz (u : Int) : ∀ (fs : List Fl), szAll Fl.sz (visF fs u) ≤ szAll Fl.sz fs
  | [] => Nat.le_refl _
  | f :: fs => by
    have ih := visF_sz u fs
    unfold visF at ih ⊢
    rw [List.filter_cons]
    split
    · simp [szAll] at ih ⊢; omega
    · simp [szAll] at ih ⊢; omega
theorem visL_all (gs : List Fl) : ∀ (fs : List Fl), szAll Fl.sz (fs.map (visL gs)) = szAll Fl.sz fs
  | [] => rfl
  | f :: fs => by
    have ih := visL_all gs fs
    have h := visL_sz gs f
    simp [szAll] at ih ⊢; omega
theorem visS_sz (s : St) (u : Int) : (visS s u).sz ≤ s.sz := by
  have h1 := visF_sz u s.files
  have h2 := visF_le s.files u
  have h3 := visL_all (visF s.files u) (visF s.files u)
  unfold St.sz visS
  simp only [List.length_map]
  omega
def GrowF (w : World) (base : Nat) (v : Value) (fs : List Fl) : Prop := ∃ ps : List P5, w.ownsRow base 55 5 v fs.length (rows P5.c ps) ∧ All2 (Fl.O w base w.heap.size) fs ps
theorem GrowF.nil (w : World) (base : Nat) : GrowF w base (.slice none 0 0) [] := ⟨[], World.ownsRow_nil _ _ _ _, All2.nil⟩
theorem GrowF.rd {w : World} {base : Nat} {v : Value} {fs : List Fl} (h : GrowF w base v fs) : RdLs w v fs := by
  obtain ⟨ps, h1, h2⟩ := h
  exact ⟨ps, rd_of_own h1, h2.mono fun x p h => h.rd⟩
theorem GrowF.grew {w w' : World} {base : Nat} {v : Value} {fs : List Fl} (h : GrowF w base v fs) (hg : Grew w w') : GrowF w' base v fs := by
  obtain ⟨ps, h1, h2⟩ := h
  exact ⟨ps, ownsRow_grew h1 hg, h2.mono fun x p h => (h.grew hg).mono (Nat.le_refl _) hg.size⟩
theorem GrowF.snoc {w w' : World} {base lo2 : Nat} {v v' : Value} {fs : List Fl} {f : Fl} {ps : List P5} {p : P5} (h1 : w.ownsRow base 55 5 v fs.length (rows P5.c ps)) (h2 : All2 (Fl.O w base lo2) fs ps)
    (hp : Fl.O w lo2 w.heap.size f p) (hb : base ≤ lo2) (hl : lo2 ≤ w.heap.size) (hown : w'.ownsRow base 55 5 v' (fs.length + 1) (rows P5.c ps ++ P5.c p)) (hg : w.grownBy w' v.ownBlock) (hs : w.heap.size ≤ w'.heap.size) : GrowF w' base v' (fs ++ [f]) := by
  refine ⟨ps ++ [p], ?_, ?_⟩
  · rw [List.length_append, rows_append]; simpa [rows] using hown
  · refine All2.snoc (h2.mono fun x q hr => ?_) ?_
    · exact ⟨hr.1, hr.2.1, hr.2.2.1, hr.2.2.2.1, (own_grown hr.2.2.2.2 h1 (by decide) hg).mono (Nat.le_refl _) (Nat.le_trans hl hs)⟩
    · exact ⟨hp.1, hp.2.1, hp.2.2.1, hp.2.2.2.1, (own_grown hp.2.2.2.2 h1 (by decide) hg).mono hb hs⟩
theorem GrowF.at {w : World} {base g n cap i : Nat} {fs : List Fl} (h : GrowF w base (.slice (some ⟨g, 0, none⟩) n cap) fs) (hn : fs.length = n) (hi : i < n) :
    ∃ f a c, Hid (fs[i]? = some f) ∧ w.cell? ⟨g, i * 5, none⟩ = some (.int .i64 f.id) ∧ w.cell? ⟨g, i * 5 + 1, none⟩ = some (.int .i64 f.owner) ∧ w.cell? ⟨g, i * 5 + 2, none⟩ = some (.bool f.shared) ∧ w.cell? ⟨g, i * 5 + 3, none⟩ = some (.int .i64 f.link) ∧ w.cell? ⟨g, i * 5 + 4, none⟩ = some (.slice a f.attrs.length c) ∧ w.frozen? ⟨g, i * 5 + 3, none⟩ = false ∧ g < w.heap.size ∧ base ≤ g := by
  obtain ⟨ps, h1, h2⟩ := h
  rw [hn] at h1
  have hpl := h2.1
  have hp : ps[i]? = some ps[i] := List.getElem?_eq_getElem (by omega)
  have hf : fs[i]? = some fs[i] := List.getElem?_eq_getElem (by omega)
  have hO := h2.2 i _ _ hf hp
  obtain ⟨p', hp', hc⟩ := own_row P5.len (by decide) h1 hi
  obtain rfl := Option.some.inj (hp'.out.symm.trans hp)
  obtain ⟨a, c, hq⟩ := own_slice hO.2.2.2.2.1
  have e0 := hc 0 (.int .i64 ps[i].id) rfl
  have e1 := hc 1 (.int .i64 ps[i].owner) rfl
  have e2 := hc 2 (.bool ps[i].shared) rfl
  have e3 := hc 3 (.int .i64 ps[i].link) rfl
  have e4 := hc 4 ps[i].attrs rfl
  rw [hO.1] at e0
  rw [hO.2.1] at e1
  rw [hO.2.2.1] at e2
  rw [hO.2.2.2.1] at e3
  rw [hq] at e4
  exact ⟨fs[i], a, c, Lib.hid hf, e0, e1, e2, e3, e4, h1.frozenAt _, (h1.lt g rfl).2, (h1.lt g rfl).1⟩
theorem GrowF.put {w : World} {base g n cap i : Nat} {fs : List Fl} {f : Fl} {l : Int} (h : GrowF w base (.slice (some ⟨g, 0, none⟩) n cap) fs) (hn : fs.length = n) (hf : fs[i]? = some f) :
    GrowF (w.setCell ⟨g, i * 5 + 3, none⟩ (.int .i64 l)) base (.slice (some ⟨g, 0, none⟩) n cap) (fs.set i ⟨f.id, f.owner, f.shared, l, f.attrs⟩) := by
  obtain ⟨ps, h1, h2⟩ := h
  rw [hn] at h1
  have hpl := h2.1
  have hi := (List.getElem?_eq_some_iff.1 hf).1
  have hp : ps[i]? = some ps[i] := List.getElem?_eq_getElem (by omega)
  have hO := h2.2 i f ps[i] hf hp
  have ht : Touch g (g + 1) w (w.setCell ⟨g, i * 5 + 3, none⟩ (.int .i64 l)) := Touch.setCell (p := ⟨g, i * 5 + 3, none⟩) (Touch.refl g (g + 1) w) (Nat.le_refl g) (Nat.lt_succ_self g) _
  have hss : (w.setCell ⟨g, i * 5 + 3, none⟩ (.int .i64 l)).heap.size = w.heap.size := by simp
  refine ⟨ps.set i ⟨ps[i].id, ps[i].owner, ps[i].shared, l, ps[i].attrs⟩, ?_, ?_⟩
  · have e := ownsRow_stores h1 (i * 5 + 3) (.int .i64 l)
    rw [List.length_set, hn]
    have e2 : (rows P5.c ps).set (i * 5 + 3) (.int .i64 l) = rows P5.c (ps.set i ⟨ps[i].id, ps[i].owner, ps[i].shared, l, ps[i].attrs⟩) := by
      have h5 := setnP5 ps i ps[i] hp ps[i].id ps[i].owner ps[i].shared l
      have a0 : (rows P5.c ps).set (i * 5) (.int .i64 ps[i].id) = rows P5.c ps := set_noop (rows_at P5.len ps i 0 ps[i] hp (by decide))
      have a1 : (rows P5.c ps).set (i * 5 + 1) (.int .i64 ps[i].owner) = rows P5.c ps := set_noop (rows_at P5.len ps i 1 ps[i] hp (by decide))
      have a2 : (rows P5.c ps).set (i * 5 + 2) (.bool ps[i].shared) = rows P5.c ps := set_noop (rows_at P5.len ps i 2 ps[i] hp (by decide))
      rw [a0, a1, a2] at h5
      exact h5
    rw [← e2]; exact e
  · have hall : All2 (Fl.O (w.setCell ⟨g, i * 5 + 3, none⟩ (.int .i64 l)) base (w.setCell ⟨g, i * 5 + 3, none⟩ (.int .i64 l)).heap.size) fs ps := h2.mono fun x q hq => by
      have h6 := hq.touch' ht (fun v c hv hc => by
        simp only [Fl.subs, List.mem_cons, List.not_mem_nil, or_false] at hv
        subst hv
        have h7 := own_type hq.2.2.2.2.1 h1 (by decide) hc
        have h8 : c ≠ g := fun e => h7 (by rw [e]; rfl)
        omega)
      exact h6.mono (Nat.le_refl _) (by omega)
    have hO2 := hall.2 i f ps[i] hf hp
    exact hall.set i _ _ ⟨hO2.1, hO2.2.1, hO2.2.2.1, rfl, hO2.2.2.2.2⟩
end Go.Proofs.YtemikjbfjhebnaaGreat
namespace Go.Proofs.YtemikjbfjhebnaaGreat
open Go.RowKit
set_option linter.unusedVariables false
end Go.Proofs.YtemikjbfjhebnaaGreat
namespace Go.Proofs.YtemikjbfjhebnaaGreat
open Go.RowKit
set_option linter.unusedVariables false
def plc (xs : List Dr) (s : ByteArray) (n : Nat) (i : Int) : Prop := (i = -1 ∧ ∀ (j : Nat) y, j < n → xs[j]? = some y → (y.name.toList == s.toList) = false) ∨ (∃ k : Nat, i = k ∧ k < n ∧ (∀ (j : Nat) y, j < k → xs[j]? = some y → (y.name.toList == s.toList) = false) ∧ ∃ y, xs[k]? = some y ∧ (y.name.toList == s.toList) = true)
theorem nod_snoc {xs : List Dr} {s : ByteArray} {k : Nat} {x : Dr} (h : ∀ (j : Nat) y, j < k → xs[j]? = some y → (y.name.toList == s.toList) = false) (hx : xs[k]? = some x) (hn : (x.name.toList == s.toList) = false) : ∀ (j : Nat) y, j < k + 1 → xs[j]? = some y → (y.name.toList == s.toList) = false := fun j y hj hy => by
  rcases Nat.lt_succ_iff_lt_or_eq.1 hj with h1 | rfl
  · exact h j y h1 hy
  · obtain rfl := Option.some.inj (hx.symm.trans hy); exact hn
set_option maxRecDepth 100000 in
set_option maxHeartbeats 1000000 in
theorem l11Place (va : Value) (xs : List Dr) (s : ByteArray) (w : World) (ha : RdDs w va xs) (hx : xs.length ≤ 4000000) :
    Calls Tryz.prog 102 #[va, .string s] w fun e w' => ∃ i : Int, e = .returned (.int .i64 i) ∧ plc xs s xs.length i ∧ w = w' := by
  obtain ⟨qs, ⟨a, ca, rfl, hca, hra⟩, hall⟩ := ha
  have HA := Lib.hid hall
  clear hall
  generalize hn : xs.length = n at hx hra
  have HX := Lib.hid hn
  clear hn
  go_enter Tryz.func102, Tryz.ntmps102
  go_wp2
  go_loop [5] (fun i => ∃ k : Nat, k ≤ n ∧ i = .int .i64 k ∧ Hid (∀ (j : Nat) y, j < k → xs[j]? = some y → (y.name.toList == s.toList) = false)) (fun i => n - (intOf i).toNat)
  case atStart => exact ⟨0, Nat.zero_le _, rfl, Lib.hid (fun j y h => absurd h (Nat.not_lt_zero j))⟩
  case round =>
    obtain ⟨k, hk, rfl, hall⟩ := hrel
    by_cases hlt : k < n
    · obtain ⟨b1, o1, p, rfl, hpk, c0, c1⟩ := hra.getP2 hlt
      obtain ⟨x, hxk, hxr⟩ := HA.out.get hpk.out
      obtain ⟨pn, pq⟩ := p
      obtain ⟨hxn, hxq⟩ := hxr
      simp only at hxn c0 c1
      subst hxn
      clear hxq
      have hcs : (x.name.toList == s.toList) = true ∨ (x.name.toList == s.toList) = false := by cases x.name.toList == s.toList <;> simp
      rcases hcs with hn | hn
      · go_wp2
        go_ret
        exact ⟨_, rfl, .inr ⟨k, rfl, hlt, hall.out, x, hxk.out, hn⟩, rfl⟩
      · go_wp2
        exact ⟨⟨k + 1, by omega, by go_num, Lib.hid (nod_snoc hall.out hxk.out hn)⟩, by simp [intOf]; omega⟩
    · obtain rfl : k = n := by omega
      go_wp2
      go_ret
      exact ⟨_, rfl, .inl ⟨rfl, hall.out⟩, rfl⟩
set_option maxRecDepth 100000 in
set_option maxHeartbeats 1000000 in
theorem cloDirAt (n : ByteArray) (q : Value) (g : Nat) (s : ByteArray) (w : World) (hc : w.cell? ⟨g, 0, none⟩ = some (.string s)) :
    Calls Tryz.prog 129 #[.agg #[.string n, q], .pointer (some ⟨g, 0, none⟩)] w fun e w' => e = .returned (.bool (n.toList == s.toList)) ∧ Grew w w' := by
  have e1 := grew_cell ((Grew.refl w).alloc (.cells #[.string n, q] 39)) hc
  go_enter Tryz.func129, Tryz.ntmps129
  go_wp2
  go_ret
  exact ⟨rfl, (Grew.refl _).alloc _⟩
set_option maxRecDepth 100000 in
set_option maxHeartbeats 1000000 in
theorem slIndexDir (va : Value) (xs : List Dr) (g : Nat) (s : ByteArray) (w : World) (ha : RdDs w va xs) (hx : xs.length ≤ 4000000) (hc : w.cell? ⟨g, 0, none⟩ = some (.string s)) :
    Calls Tryz.prog 128 #[va, .func (.func 129) #[] #[.pointer (some ⟨g, 0, none⟩)]] w fun e w' => ∃ i : Int, e = .returned (.int .i64 i) ∧ plc xs s xs.length i ∧ Grew w w' := by
  obtain ⟨qs, ⟨a, ca, rfl, hca, hra⟩, hall⟩ := ha
  have HA := Lib.hid hall
  have HC := Lib.hid hc
  clear hall hc
  generalize hn : xs.length = n at hx hra
  have HX := Lib.hid hn
  clear hn
  go_enter Tryz.func128, Tryz.ntmps128
  go_wp2
  go_loopw [5, 8] (fun _ i wr => ∃ k : Nat, k ≤ n ∧ i = .int .i64 k ∧ Hid (∀ (j : Nat) y, j < k → xs[j]? = some y → (y.name.toList == s.toList) = false) ∧ Grew w wr) (fun _ i _ => n - (intOf i).toNat)
  case atStart => exact ⟨0, Nat.zero_le _, rfl, Lib.hid (fun j y h => absurd h (Nat.not_lt_zero j)), Grew.refl _⟩
  case round =>
    obtain ⟨k, hk, rfl, hall, hbel⟩ := hrel
    by_cases hlt : k < n
    · obtain ⟨b1, o1, p, rfl, hpk, c0, c1⟩ := (hra.grew hbel).getP2 hlt
      obtain ⟨x, hxk, hxr⟩ := HA.out.get hpk.out
      obtain ⟨pn, pq⟩ := p
      obtain ⟨hxn, hxq⟩ := hxr
      simp only at hxn c0 c1
      subst hxn
      clear hxq
      obtain ⟨v, hv⟩ : ∃ v, (x.name.toList == s.toList) = v := ⟨_, rfl⟩
      have HV := Lib.hid hv
      clear hv
      have hcs : v = true ∨ v = false := by cases v <;> simp
      rcases hcs with rfl | rfl
      · go_wp2_with (go_at_call 129; refine (cloDirAt x.name pq g s _ (grew_cell hbel HC.out)).mono ?_; rintro e w1 ⟨he, hb⟩; rw [HV.out] at he; subst he)
        go_ret
        exact ⟨_, rfl, .inr ⟨k, rfl, hlt, hall.out, x, hxk.out, HV.out⟩, hbel.trans hb⟩
      · go_wp2_with (go_at_call 129; refine (cloDirAt x.name pq g s _ (grew_cell hbel HC.out)).mono ?_; rintro e w1 ⟨he, hb⟩; rw [HV.out] at he; subst he)
        go_roundw
        case rel => exact ⟨k + 1, by omega, by go_num, Lib.hid (nod_snoc hall.out hxk.out HV.out), hbel.trans hb⟩
        case measure => simp [intOf]; omega
    · obtain rfl : k = n := by omega
      go_wp2
      go_ret
      exact ⟨_, rfl, .inl ⟨rfl, hall.out⟩, hbel⟩
set_option maxRecDepth 100000 in
set_option maxHeartbeats 1000000 in
theorem implDirAt (va : Value) (xs : List Dr) (s : ByteArray) (w : World) (ha : RdDs w va xs) (hx : xs.length ≤ 4000000) :
    Calls Tryz.prog 120 #[va, .string s] w fun e w' => ∃ i : Int, e = .returned (.int .i64 i) ∧ plc xs s xs.length i ∧ Grew w w' := by
  have hg := (Grew.refl w).alloc (.cells #[.string s] 9)
  have HA := Lib.hid (RdDs.grew ha hg)
  obtain ⟨qs, ⟨a, ca, rfl, hca, hra⟩, hall⟩ := ha
  clear hall hra
  have hmf : ∀ (fn : Fn) (first cap : Array Value) (w : World), (Instr.makeFunc fn first cap).run Tryz.prog w = .ok (.func fn first cap) w := fun _ _ _ _ => rfl
  go_enter Tryz.func120, Tryz.ntmps120
  go_wp2_with fail
  refine (slIndexDir _ xs w.heap.size s _ HA.out hx (by simp)).mono ?_
  rintro e w1 ⟨i, rfl, hp, hb⟩
  go_wp2
  go_ret
  exact ⟨_, rfl, hp, hg.trans hb⟩
end Go.Proofs.YtemikjbfjhebnaaGreat
namespace Go.Proofs.YtemikjbfjhebnaaGreat
open Go.RowKit
theorem Tryz.infoN : (Tryz.prog.info? 70).map (fun i => (i.zero, i.size, i.bytes)) = some (some (N.z.v), 7, 72) := by kernel_rfl
theorem Tryz.infoFd : (Tryz.prog.info? 87).map (fun i => (i.zero, i.size, i.bytes)) = some (some (Fd.z.v), 2, 24) := by kernel_rfl
theorem Tryz.infoAt : (Tryz.prog.info? 84).map (fun i => (i.zero, i.size, i.bytes)) = some (some (At.z.v), 4, 48) := by kernel_rfl
theorem Tryz.infoDr : (Tryz.prog.info? 39).map (fun i => (i.zero, i.size, i.bytes)) = some (some (P2.z.v), 2, 40) := by kernel_rfl
theorem Tryz.infoRs : (Tryz.prog.info? 75).map (fun i => (i.zero, i.size, i.bytes)) = some (some (P2.z.v), 2, 40) := by kernel_rfl
theorem Tryz.infoFl : (Tryz.prog.info? 55).map (fun i => (i.zero, i.size, i.bytes)) = some (some (P5.z.v), 5, 56) := by kernel_rfl
end Go.Proofs.YtemikjbfjhebnaaGreat
