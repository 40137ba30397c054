/- Equality of results and of directories. -/
import Derived.Test.YtgekgokkbakcmaaE1
import Derived.Test.YtgekgokkbakcmaaH4
namespace Go.Proofs.Ytgekgokkbakcmaa
open Go.RowKit
set_option linter.unusedVariables false
theorem held4 {wr w' w1 : World} {a b c d : Addr} {u v x y : Value} (h : w'.cell? a = some u ∧ w'.cell? b = some v ∧ w'.cell? c = some x ∧ w'.cell? d = some y ∧ Grew wr w') (hb : Grew w' w1) : w1.cell? a = some u ∧ w1.cell? b = some v ∧ w1.cell? c = some x ∧ w1.cell? d = some y ∧ Grew wr w1 :=
  ⟨grew_cell hb h.1, grew_cell hb h.2.1, grew_cell hb h.2.2.1, grew_cell hb h.2.2.2.1, h.2.2.2.2.trans hb⟩
theorem last4 {p q r s t : Prop} (h : p ∧ q ∧ r ∧ s ∧ t) : t := h.2.2.2.2
theorem All2.len {α β : Type} {O : α → β → Prop} {xs : List α} {ps : List β} (h : All2 O xs ps) : xs.length = ps.length := h.1
noncomputable def sameRs (x y : Rs) : Bool := x.name.toList == y.name.toList && sameB x.ids y.ids
noncomputable def sameDr (x y : Dr) : Bool := x.name.toList == y.name.toList && eqL eqN x.query y.query
set_option maxHeartbeats 1000000 in
theorem cloDr (x y : Dr) (p p' : P2) (w : World) (h : Dr.R w x p) (h' : Dr.R w y p') (hx : x.small) (hy : y.small) :
    Calls Try.prog 99 #[p.v, p'.v] w fun e w' => e = .returned (.bool (sameDr x y)) ∧ Grew w w' := by
  obtain ⟨pn, pq⟩ := p
  obtain ⟨qn, qq⟩ := p'
  obtain ⟨hxn, hxq⟩ := h
  obtain ⟨hyn, hyq⟩ := h'
  simp only at hxn hyn hxq hyq
  have hw : sameDr x y = (pn.toList == qn.toList && eqL eqN x.query y.query) := by rw [hxn, hyn]; rfl
  have HW := Lib.hid hw
  clear hw hxn hyn
  unfold Dr.small at hx hy
  have hnn : (pn.toList == qn.toList) = false ∨ (pn.toList == qn.toList) = true := by cases pn.toList == qn.toList <;> simp
  rcases hnn with hnn | hnn
  all_goals
    go_enter Try.func99, Try.ntmps99
    go_wp2_with (go_at_call 100; refine (implEqualQueries _ _ _ _ x.query y.query _ (hxq.grew (((Grew.refl w).alloc _).alloc _)) (hyq.grew (((Grew.refl w).alloc _).alloc _)) hx hy).mono ?_; rintro e w1 ⟨rfl, hb⟩)
    go_ret
  · exact ⟨ret_bool (by rw [HW.out, hnn]; rfl), ((Grew.refl w).alloc _).alloc _⟩
  · exact ⟨ret_bool (by rw [HW.out, hnn]; rfl), (((Grew.refl w).alloc _).alloc _).trans hb⟩
set_option maxRecDepth 100000 in
set_option maxHeartbeats 1000000 in
theorem slEqualFuncDr (va vb : Value) (xs ys : List Dr) (w : World) (ha : RdDs w va xs) (hb : RdDs w vb ys) (hx : xs.length ≤ 4000000) (hy : ys.length ≤ 4000000) (hs : ∀ x, x ∈ xs → x.small) (ht : ∀ x, x ∈ ys → x.small) :
    Calls Try.prog 98 #[va, vb, .func (.func 99) #[] #[]] w fun e w' => e = .returned (.bool (eqL sameDr xs ys)) ∧ Grew w w' := by
  obtain ⟨qs, ⟨a, ca, rfl, hca, hra⟩, hall⟩ := ha
  obtain ⟨rs, ⟨b, cb, rfl, hcb, hrb⟩, hbll⟩ := hb
  have HS := Lib.hid hs
  have HT := Lib.hid ht
  have HA := Lib.hid hall
  have HB := Lib.hid hbll
  clear hall hbll hs ht
  generalize hn : xs.length = n at hx hra
  generalize hm : ys.length = m at hy hrb
  have HX := Lib.hid hn
  have HY := Lib.hid hm
  clear hn hm
  by_cases hnm : n = m
  · subst hnm
    go_enter Try.func98, Try.ntmps98
    go_wp2
    go_loopw [7, 17] (fun _ i wr => ∃ k : Nat, k ≤ n ∧ i = .int .i64 k ∧ Hid (∀ (j : Nat) x y, j < k → xs[j]? = some x → ys[j]? = some y → sameDr x y = true) ∧ Grew w wr) (fun _ i _ => n - (intOf i).toNat)
    case atStart => exact ⟨0, Nat.zero_le _, rfl, Lib.hid (fun j x y h => absurd h (Nat.not_lt_zero j)), Grew.refl _⟩
    case round =>
      obtain ⟨k, hk, rfl, hsame, hbel⟩ := hrel
      by_cases hlt : k < n
      · obtain ⟨b1, o1, p, rfl, hpk, c0, c1⟩ := (hra.grew hbel).getP2 hlt
        obtain ⟨b2, o2, q, rfl, hqk, d0, d1⟩ := (hrb.grew hbel).getP2 hlt
        obtain ⟨x, hxk, hxr⟩ := HA.out.get hpk.out
        obtain ⟨y, hyk, hyr⟩ := HB.out.get hqk.out
        have hxs := HS.out x (List.mem_of_getElem? hxk.out)
        have hys := HT.out y (List.mem_of_getElem? hyk.out)
        obtain ⟨pn, pq⟩ := p
        obtain ⟨qn, qq⟩ := q
        have HXR := Lib.hid hxr
        have HYR := Lib.hid hyr
        obtain ⟨hxn, hxq⟩ := hxr
        obtain ⟨hyn, hyq⟩ := hyr
        simp only at hxn hyn hxq hyq c0 c1 d0 d1
        clear hxn hyn
        obtain ⟨pa, pc, rfl, hpc, hpr⟩ := hxq
        obtain ⟨qa, qc, rfl, hqc, hqr⟩ := hyq
        clear hpr hqr
        obtain ⟨v, hv⟩ : ∃ v, v = sameDr x y := ⟨_, rfl⟩
        have HV := Lib.hid hv
        clear hv
        have hv : v = false ∨ v = true := by cases v <;> simp
        have e0 := grew_cell ((Grew.refl wr).alloc (.cells #[.string pn, .slice pa x.query.length pc] 49)) d0
        have e1 := grew_cell ((Grew.refl wr).alloc (.cells #[.string pn, .slice pa x.query.length pc] 49)) d1
        rcases hv with rfl | rfl
        all_goals
          go_wp2_with (go_at_call 99; refine (cloDr x y ⟨pn, _⟩ ⟨qn, _⟩ _ (HXR.out.grew ((hbel.alloc _).alloc _)) (HYR.out.grew ((hbel.alloc _).alloc _)) hxs hys).mono ?_; rintro e w1 ⟨he, hb⟩; rw [← HV.out] at he; subst he)
        · go_ret
          exact ⟨ret_bool (eqL_at hxk.out hyk.out HV.out.symm).symm, ((hbel.alloc _).alloc _).trans hb⟩
        · refine ⟨⟨k + 1, by omega, by go_num, Lib.hid (eqL_snoc hsame.out hxk.out hyk.out HV.out.symm), ((hbel.alloc _).alloc _).trans hb⟩, ?_⟩
          simp [intOf]; omega
      · go_wp2
        go_ret
        obtain rfl : k = n := by omega
        exact ⟨ret_bool (eqL_all HX.out HY.out hsame.out).symm, hbel⟩
  · go_enter Try.func98, Try.ntmps98
    go_wp2
    go_ret
    exact ⟨ret_bool (eqL_len (by rw [HX.out, HY.out]; exact hnm)).symm, Grew.refl _⟩
set_option maxRecDepth 100000 in
set_option maxHeartbeats 1000000 in
theorem implEqualDirs (va vb : Value) (xs ys : List Dr) (w : World) (ha : RdDs w va xs) (hb : RdDs w vb ys) (hx : xs.length ≤ 4000000) (hy : ys.length ≤ 4000000) (hs : ∀ x, x ∈ xs → x.small) (ht : ∀ x, x ∈ ys → x.small) :
    Calls Try.prog 46 #[va, vb] w fun e w' => e = .returned (.bool (eqL sameDr xs ys)) ∧ Grew w w' := by
  go_enter Try.func46, Try.ntmps46
  go_wp2_with (go_at_call 98; refine (slEqualFuncDr va vb xs ys _ ha hb hx hy hs ht).mono ?_; rintro e w1 ⟨rfl, hb⟩)
  go_ret
  exact ⟨rfl, hb⟩
end Go.Proofs.Ytgekgokkbakcmaa
