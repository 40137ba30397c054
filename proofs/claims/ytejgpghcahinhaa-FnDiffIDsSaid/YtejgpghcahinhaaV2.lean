/- Contracts of IsValidDiff. -/
import Derived.Test.YtejgpghcahinhaaV1
import Derived.BigQuiet
import Derived.Test.YtejgpghcahinhaaS
import Derived.Test.YtejgpghcahinhaaH4
namespace Go.Proofs.Ytejgpghcahinhaa
open Go.RowKit
set_option linter.unusedVariables false
/-- A valid difference. -/
noncomputable def difB (x : Df) : Bool := ((wo x.added x.removed).length == x.added.length) && (txtB x.name 6 && (risB x.added && (risB x.removed && decide (0 < x.added.length + x.removed.length))))
theorem wo_len_yes {xs ys : List Int} {n : Nat} (hn : xs.length = n) (h : ∀ (j : Nat) y, j < n → xs[j]? = some y → has ys y = false) : ((wo xs ys).length == xs.length) = true := by
  have := wo_same h; rw [take_all hn] at this; rw [this]; simp
theorem wo_len_no {xs ys : List Int} {j : Nat} {y : Int} (hy : xs[j]? = some y) (h : has ys y = true) : ((wo xs ys).length == xs.length) = false := by
  simp only [beq_eq_false_iff_ne, ne_eq, wo]
  intro e
  have h2 := List.filter_eq_self.1 (List.Sublist.eq_of_length List.filter_sublist e) y (List.mem_of_getElem? hy)
  rw [h] at h2; cases h2
theorem held3 {wr w' w1 : World} {a b c : Addr} {u v x : Value} (h : w'.cell? a = some u ∧ w'.cell? b = some v ∧ w'.cell? c = some x ∧ Grew wr w') (hb : Grew w' w1) : w1.cell? a = some u ∧ w1.cell? b = some v ∧ w1.cell? c = some x ∧ Grew wr w1 :=
  ⟨grew_cell hb h.1, grew_cell hb h.2.1, grew_cell hb h.2.2.1, h.2.2.2.trans hb⟩
theorem last3 {p q r t : Prop} (h : p ∧ q ∧ r ∧ t) : t := h.2.2.2
set_option maxRecDepth 100000 in
set_option maxHeartbeats 1000000 in
theorem specIsValidDiff (x : Df) (p : P3) (w : World) (h : Df.R w x p) (hx : x.small) (hs : x.name.size ≤ 4000000) :
    Calls Try.prog 61 #[p.v] w fun e w' => e = .returned (.bool (difB x)) ∧ Grew w w' := by
  obtain ⟨pn, pq, pr⟩ := p
  obtain ⟨hn, hq, hr⟩ := h
  simp only at hn hq hr
  subst hn
  obtain ⟨h1, h2⟩ := hx
  have HQ := Lib.hid hq
  have HR := Lib.hid hr
  obtain ⟨qa, qc, rfl, hqc, hqr⟩ := hq
  obtain ⟨ra, rc, rfl, hrc, hrr⟩ := hr
  clear hrr
  have HX := Lib.hid hqr.len_map
  go_enter Try.func61, Try.ntmps61
  go_wp2
  have c0 : (w.alloc (.cells #[.string x.name, .slice qa x.added.length qc, .slice ra x.removed.length rc] 80)).cell? ⟨w.heap.size, 0, none⟩ = some (.string x.name) := by simp
  have c1 : (w.alloc (.cells #[.string x.name, .slice qa x.added.length qc, .slice ra x.removed.length rc] 80)).cell? ⟨w.heap.size, 1, none⟩ = some (.slice qa x.added.length qc) := by simp
  have c2 : (w.alloc (.cells #[.string x.name, .slice qa x.added.length qc, .slice ra x.removed.length rc] 80)).cell? ⟨w.heap.size, 2, none⟩ = some (.slice ra x.removed.length rc) := by simp
  have hg := (Grew.refl w).alloc (.cells #[.string x.name, .slice qa x.added.length qc, .slice ra x.removed.length rc] 80)
  generalize w.alloc (.cells #[.string x.name, .slice qa x.added.length qc, .slice ra x.removed.length rc] 80) = W at c0 c1 c2 hg ⊢
  go_loopw [3] (fun i wr => ∃ k : Nat, k ≤ x.added.length ∧ i = .int .i64 k ∧ Hid (∀ (j : Nat) y, j < k → x.added[j]? = some y → has x.removed y = false) ∧ Grew W wr) (fun i _ => x.added.length - (intOf i).toNat)
  case atStart => exact ⟨0, Nat.zero_le _, rfl, Lib.hid (fun j y h => by omega), Grew.refl _⟩
  case round =>
    obtain ⟨k, hk, rfl, hall, hbel⟩ := hrel
    have d0 := grew_cell hbel c0
    have d1 := grew_cell hbel c1
    have d2 := grew_cell hbel c2
    by_cases hlt : k < x.added.length
    · obtain ⟨b1, o1, y, rfl, hyk, e1⟩ := (hqr.grew (hg.trans hbel)).one hlt
      obtain ⟨v, hv⟩ : ∃ v, v = has x.removed y := ⟨_, rfl⟩
      have HV := Lib.hid hv
      clear hv
      have hv : v = false ∨ v = true := by cases v <;> simp
      rcases hv with rfl | rfl
      · go_wp2_with fail
        go_region_held3 (fun w' => (w'.cell? ⟨w.heap.size, 1, none⟩ = some (.slice (some ⟨b1, o1, none⟩) x.added.length qc) ∧ w'.cell? ⟨w.heap.size, 2, none⟩ = some (.slice ra x.removed.length rc) ∧ w'.cell? ⟨b1, o1 + k, none⟩ = some (.int .i64 y) ∧ Grew wr w')) (first | exact ⟨d1, d2, e1, (Grew.refl _).drew⟩ | exact held3 (by assumption) (by assumption) | exact held3 (by assumption) (Grew.refl _)) (first | (go_at_call 24; refine (specContainsID _ _ x.removed y _ (HR.out.grew (hg.trans (hbel.trans (last3 (by assumption))))) h2).mono ?_; rintro e w1 ⟨he, rfl⟩; rw [← HV.out] at he; subst he))
        go_wp2
        go_roundw
        case rel => exact ⟨k + 1, by omega, by go_num, Lib.hid (fun j z hj hz => by
          rcases Nat.lt_succ_iff_lt_or_eq.1 hj with h | rfl
          · exact hall.out j z h hz
          · obtain rfl := Option.some.inj (hyk.out.symm.trans hz); exact HV.out.symm), hbel.trans (last3 (by assumption))⟩
        case measure => simp [intOf]; omega
      · go_wp2_with fail
        go_region_held3 (fun w' => (w'.cell? ⟨w.heap.size, 1, none⟩ = some (.slice (some ⟨b1, o1, none⟩) x.added.length qc) ∧ w'.cell? ⟨w.heap.size, 2, none⟩ = some (.slice ra x.removed.length rc) ∧ w'.cell? ⟨b1, o1 + k, none⟩ = some (.int .i64 y) ∧ Grew wr w')) (first | exact ⟨d1, d2, e1, (Grew.refl _).drew⟩ | exact held3 (by assumption) (by assumption) | exact held3 (by assumption) (Grew.refl _)) (first | (go_at_call 24; refine (specContainsID _ _ x.removed y _ (HR.out.grew (hg.trans (hbel.trans (last3 (by assumption))))) h2).mono ?_; rintro e w1 ⟨he, rfl⟩; rw [← HV.out] at he; subst he))
        go_wp2
        go_ret
        refine ⟨ret_bool ?_, hg.trans (hbel.trans (last3 (by assumption)))⟩
        rw [difB, wo_len_no hyk.out HV.out.symm]; rfl
    · obtain ⟨t1, ht1⟩ : ∃ b, b = txtB x.name 6 := ⟨_, rfl⟩
      obtain ⟨t2, ht2⟩ : ∃ b, b = risB x.added := ⟨_, rfl⟩
      obtain ⟨t3, ht3⟩ : ∃ b, b = risB x.removed := ⟨_, rfl⟩
      have HD := Lib.hid (show difB x = (t1 && (t2 && (t3 && decide (0 < x.added.length + x.removed.length)))) by
        rw [ht1, ht2, ht3, difB, wo_len_yes (n := k) (by omega) hall.out]; rfl)
      have H1 := Lib.hid ht1
      have H2 := Lib.hid ht2
      have H3 := Lib.hid ht3
      clear ht1 ht2 ht3
      have hcs : t1 = false ∨ t1 = true ∧ (t2 = false ∨ t2 = true ∧ (t3 = false ∨ t3 = true)) := by cases t1 <;> cases t2 <;> cases t3 <;> simp
      rcases hcs with rfl | ⟨rfl, rfl | ⟨rfl, rfl | rfl⟩⟩
      · go_wp2_with fail
        refine (specIsValidString _ _ hs).mono ?_
        rintro e w1 ⟨he, rfl⟩; rw [← H1.out] at he; subst he
        go_wp2
        go_ret
        exact ⟨ret_bool (by rw [HD.out]; rfl), hg.trans hbel⟩
      · go_wp2_with fail
        refine (specIsValidString _ _ hs).mono ?_
        rintro e w1 ⟨he, rfl⟩; rw [← H1.out] at he; subst he
        go_wp2_with fail
        refine (l17Rise _ _ x.added _ (HQ.out.grew (hg.trans hbel)) h1).mono ?_
        rintro e w1 ⟨he, hbq⟩; rw [← H2.out] at he; subst he
        have hb := grew_quiet hbq
        clear hbq
        have f2 := grew_cell hb d2
        have f1 := grew_cell hb d1
        go_wp2
        go_ret
        exact ⟨ret_bool (by rw [HD.out]; rfl), (hg.trans hbel).trans hb⟩
      · go_wp2_with fail
        refine (specIsValidString _ _ hs).mono ?_
        rintro e w1 ⟨he, rfl⟩; rw [← H1.out] at he; subst he
        go_wp2_with fail
        refine (l17Rise _ _ x.added _ (HQ.out.grew (hg.trans hbel)) h1).mono ?_
        rintro e w1 ⟨he, hbq⟩; rw [← H2.out] at he; subst he
        have hb := grew_quiet hbq
        clear hbq
        have f2 := grew_cell hb d2
        have f1 := grew_cell hb d1
        go_wp2_with fail
        refine (l17Rise _ _ x.removed _ (HR.out.grew ((hg.trans hbel).trans hb)) h2).mono ?_
        rintro e w2 ⟨he, hbq⟩; rw [← H3.out] at he; subst he
        have hb2 := grew_quiet hbq
        clear hbq
        have k2 := grew_cell hb2 f2
        have k1 := grew_cell hb2 f1
        go_wp2
        go_ret
        exact ⟨ret_bool (by rw [HD.out]; rfl), ((hg.trans hbel).trans hb).trans hb2⟩
      · go_wp2_with fail
        refine (specIsValidString _ _ hs).mono ?_
        rintro e w1 ⟨he, rfl⟩; rw [← H1.out] at he; subst he
        go_wp2_with fail
        refine (l17Rise _ _ x.added _ (HQ.out.grew (hg.trans hbel)) h1).mono ?_
        rintro e w1 ⟨he, hbq⟩; rw [← H2.out] at he; subst he
        have hb := grew_quiet hbq
        clear hbq
        have f2 := grew_cell hb d2
        have f1 := grew_cell hb d1
        go_wp2_with fail
        refine (l17Rise _ _ x.removed _ (HR.out.grew ((hg.trans hbel).trans hb)) h2).mono ?_
        rintro e w2 ⟨he, hbq⟩; rw [← H3.out] at he; subst he
        have hb2 := grew_quiet hbq
        clear hbq
        have k2 := grew_cell hb2 f2
        have k1 := grew_cell hb2 f1
        go_wp2
        go_ret
        refine ⟨ret_bool ?_, ((hg.trans hbel).trans hb).trans hb2⟩
        rw [HD.out]
        simp
        omega
set_option maxRecDepth 100000 in
set_option maxHeartbeats 2000000 in
theorem diffEndNo (s : ByteArray) (qa ra : Option Addr) (n qc m rc l : Nat) (w : World)
    (CS : Hid (∀ w0, Calls Try.prog 159 #[.string s] w0 fun e w' => e = .returned (.bool true) ∧ w' = w0))
    (CA : Hid (∀ w0, Grew w w0 → Calls Try.prog 160 #[.slice qa n qc] w0 fun e w' => e = .returned (.bool true) ∧ Grew w0 w'))
    (CB : Hid (∀ w0, Grew w w0 → Calls Try.prog 160 #[.slice ra m rc] w0 fun e w' => e = .returned (.bool true) ∧ Grew w0 w'))
    (CW : Hid (∀ w0, Grew w w0 → Calls Try.prog 155 #[.slice qa n qc, .slice ra m rc] w0 fun e w' => ∃ oa oc, e = .returned (.slice oa l oc) ∧ Grew w0 w'))
    (hn : n ≤ 4000000) (hm : m ≤ 4000000) (hq : ((l : Int) == (n : Int)) = false) :
    Calls Try.prog 60 #[.agg #[.string s, .slice qa n qc, .slice ra m rc]] w fun e w' => e = .returned (.bool (false)) ∧ Grew w w' := by
  go_enter Try.func60, Try.ntmps60
  go_wp2_with fail
  have c0 : (w.alloc (.cells #[.string s, .slice qa n qc, .slice ra m rc] 80)).cell? ⟨w.heap.size, 0, none⟩ = some (.string s) := by simp
  have c1 : (w.alloc (.cells #[.string s, .slice qa n qc, .slice ra m rc] 80)).cell? ⟨w.heap.size, 1, none⟩ = some (.slice qa n qc) := by simp
  have c2 : (w.alloc (.cells #[.string s, .slice qa n qc, .slice ra m rc] 80)).cell? ⟨w.heap.size, 2, none⟩ = some (.slice ra m rc) := by simp
  have hg := (Grew.refl w).alloc (.cells #[.string s, .slice qa n qc, .slice ra m rc] 80)
  generalize w.alloc (.cells #[.string s, .slice qa n qc, .slice ra m rc] 80) = W at c0 c1 c2 hg ⊢
  refine wp_region_noPanic ?_
  refine wp_region_held_drew (S := (fun w' => (w'.cell? ⟨w.heap.size, 0, none⟩ = some (.string s) ∧ w'.cell? ⟨w.heap.size, 1, none⟩ = some (.slice qa n qc) ∧ w'.cell? ⟨w.heap.size, 2, none⟩ = some (.slice ra m rc) ∧ Grew W w'))) (by kernel_rfl) ?hS ?hrest
  case hS => exact ⟨c0, c1, c2, (Grew.refl _).drew⟩
  case hrest =>
    intro HS
    first
      | (refine wpAnyH_take (i := 0) (oi := ?oa0) (v := undef) ?ia0 (by kernel_rfl) (by kernel_rfl) (by kernel_rfl) ?qa0 (Or.inr ⟨?wa0, rfl⟩) HS ?_; (case ia0 => (simp only [List.getElem?_toArray, List.getElem?_cons_zero]; exact rfl)); (case qa0 => exact fun _ _ _ h => h); (case wa0 => rfl))
      | (refine wpAnyH_take (i := 0) (oi := ?ob0) (v := ?vb0) ?ib0 (by kernel_rfl) (by kernel_rfl) (by kernel_rfl) ?qb0 (Or.inl ⟨?wb0, ?yb0⟩) HS ?_; (case ib0 => (simp only [List.getElem?_toArray, List.getElem?_cons_zero]; exact rfl)); (case qb0 => exact fun _ _ _ h => h); (case wb0 => rfl); (case yb0 => (intro w' hSw; (try dsimp only at hSw); go_simp <;> (with_reducible rfl))))
    try simp only [Act.put, List.setIfInBounds_toArray, List.set_cons_zero, List.set_cons_succ]
    first
      | (refine wpAnyH_take (i := 1) (oi := ?oa1) (v := undef) ?ia1 (by kernel_rfl) (by kernel_rfl) (by kernel_rfl) ?qa1 (Or.inr ⟨?wa1, rfl⟩) HS ?_; (case ia1 => (simp only [List.getElem?_toArray, List.getElem?_cons_succ, List.getElem?_cons_zero]; exact rfl)); (case qa1 => exact fun _ _ _ h => h); (case wa1 => rfl))
      | (refine wpAnyH_take (i := 1) (oi := ?ob1) (v := ?vb1) ?ib1 (by kernel_rfl) (by kernel_rfl) (by kernel_rfl) ?qb1 (Or.inl ⟨?wb1, ?yb1⟩) HS ?_; (case ib1 => (simp only [List.getElem?_toArray, List.getElem?_cons_succ, List.getElem?_cons_zero]; exact rfl)); (case qb1 => exact fun _ _ _ h => h); (case wb1 => rfl); (case yb1 => (intro w' hSw; (try dsimp only at hSw); go_simp <;> (with_reducible rfl))))
    try simp only [Act.put, List.setIfInBounds_toArray, List.set_cons_zero, List.set_cons_succ]
    refine wpAnyH_ready (rs := [2]) (by kernel_rfl) (by simp) ?_
    refine AllReadyH.cons (o := ?o2) ?i2 (fun K hK => ?_) AllReadyH.nil
    case i2 => (simp only [List.getElem?_toArray, List.getElem?_cons_succ, List.getElem?_cons_zero]; exact rfl)
    go_simp
    go_at_call 159; refine (CS.out _).mono ?_; rintro e w1 ⟨rfl, rfl⟩
    refine hK.out _ _ ?s2 ?r2
    case s2 => (try dsimp only); first | exact held3 HS (Grew.refl _) | exact held3 HS hb
    case r2 =>
      clear HS
      intro HS
      clear hK K
      try simp only [Act.put, List.setIfInBounds_toArray, List.set_cons_zero, List.set_cons_succ]
      first
        | (refine wpAnyH_take (i := 3) (oi := ?oa3) (v := undef) ?ia3 (by kernel_rfl) (by kernel_rfl) (by kernel_rfl) ?qa3 (Or.inr ⟨?wa3, rfl⟩) HS ?_; (case ia3 => (simp only [List.getElem?_toArray, List.getElem?_cons_succ, List.getElem?_cons_zero]; exact rfl)); (case qa3 => exact fun _ _ _ h => h); (case wa3 => rfl))
        | (refine wpAnyH_take (i := 3) (oi := ?ob3) (v := ?vb3) ?ib3 (by kernel_rfl) (by kernel_rfl) (by kernel_rfl) ?qb3 (Or.inl ⟨?wb3, ?yb3⟩) HS ?_; (case ib3 => (simp only [List.getElem?_toArray, List.getElem?_cons_succ, List.getElem?_cons_zero]; exact rfl)); (case qb3 => exact fun _ _ _ h => h); (case wb3 => rfl); (case yb3 => (intro w' hSw; (try dsimp only at hSw); go_simp <;> (with_reducible rfl))))
      try simp only [Act.put, List.setIfInBounds_toArray, List.set_cons_zero, List.set_cons_succ]
      first
        | (refine wpAnyH_take (i := 4) (oi := ?oa4) (v := undef) ?ia4 (by kernel_rfl) (by kernel_rfl) (by kernel_rfl) ?qa4 (Or.inr ⟨?wa4, rfl⟩) HS ?_; (case ia4 => (simp only [List.getElem?_toArray, List.getElem?_cons_succ, List.getElem?_cons_zero]; exact rfl)); (case qa4 => exact fun _ _ _ h => h); (case wa4 => rfl))
        | (refine wpAnyH_take (i := 4) (oi := ?ob4) (v := ?vb4) ?ib4 (by kernel_rfl) (by kernel_rfl) (by kernel_rfl) ?qb4 (Or.inl ⟨?wb4, ?yb4⟩) HS ?_; (case ib4 => (simp only [List.getElem?_toArray, List.getElem?_cons_succ, List.getElem?_cons_zero]; exact rfl)); (case qb4 => exact fun _ _ _ h => h); (case wb4 => rfl); (case yb4 => (intro w' hSw; (try dsimp only at hSw); go_simp <;> (with_reducible rfl))))
      try simp only [Act.put, List.setIfInBounds_toArray, List.set_cons_zero, List.set_cons_succ]
      first
        | (refine wpAnyH_take (i := 5) (oi := ?oa5) (v := undef) ?ia5 (by kernel_rfl) (by kernel_rfl) (by kernel_rfl) ?qa5 (Or.inr ⟨?wa5, rfl⟩) HS ?_; (case ia5 => (simp only [List.getElem?_toArray, List.getElem?_cons_succ, List.getElem?_cons_zero]; exact rfl)); (case qa5 => exact fun _ _ _ h => h); (case wa5 => rfl))
        | (refine wpAnyH_take (i := 5) (oi := ?ob5) (v := ?vb5) ?ib5 (by kernel_rfl) (by kernel_rfl) (by kernel_rfl) ?qb5 (Or.inl ⟨?wb5, ?yb5⟩) HS ?_; (case ib5 => (simp only [List.getElem?_toArray, List.getElem?_cons_succ, List.getElem?_cons_zero]; exact rfl)); (case qb5 => exact fun _ _ _ h => h); (case wb5 => rfl); (case yb5 => (intro w' hSw; (try dsimp only at hSw); go_simp <;> (with_reducible rfl))))
      try simp only [Act.put, List.setIfInBounds_toArray, List.set_cons_zero, List.set_cons_succ]
      refine wpAnyH_ready (rs := [6]) (by kernel_rfl) (by simp) ?_
      refine AllReadyH.cons (o := ?o6) ?i6 (fun K hK => ?_) AllReadyH.nil
      case i6 => (simp only [List.getElem?_toArray, List.getElem?_cons_succ, List.getElem?_cons_zero]; exact rfl)
      go_simp
      go_at_call 160; refine (CA.out _ (hg.trans (last3 HS))).mono ?_; rintro e w1 ⟨rfl, hb⟩
      refine hK.out _ _ ?s6 ?r6
      case s6 => (try dsimp only); first | exact held3 HS (Grew.refl _) | exact held3 HS hb
      case r6 =>
        clear HS
        intro HS
        clear hK K
        try simp only [Act.put, List.setIfInBounds_toArray, List.set_cons_zero, List.set_cons_succ]
        first
          | (refine wpAnyH_take (i := 7) (oi := ?oa7) (v := undef) ?ia7 (by kernel_rfl) (by kernel_rfl) (by kernel_rfl) ?qa7 (Or.inr ⟨?wa7, rfl⟩) HS ?_; (case ia7 => (simp only [List.getElem?_toArray, List.getElem?_cons_succ, List.getElem?_cons_zero]; exact rfl)); (case qa7 => exact fun _ _ _ h => h); (case wa7 => rfl))
          | (refine wpAnyH_take (i := 7) (oi := ?ob7) (v := ?vb7) ?ib7 (by kernel_rfl) (by kernel_rfl) (by kernel_rfl) ?qb7 (Or.inl ⟨?wb7, ?yb7⟩) HS ?_; (case ib7 => (simp only [List.getElem?_toArray, List.getElem?_cons_succ, List.getElem?_cons_zero]; exact rfl)); (case qb7 => exact fun _ _ _ h => h); (case wb7 => rfl); (case yb7 => (intro w' hSw; (try dsimp only at hSw); go_simp <;> (with_reducible rfl))))
        try simp only [Act.put, List.setIfInBounds_toArray, List.set_cons_zero, List.set_cons_succ]
        first
          | (refine wpAnyH_take (i := 8) (oi := ?oa8) (v := undef) ?ia8 (by kernel_rfl) (by kernel_rfl) (by kernel_rfl) ?qa8 (Or.inr ⟨?wa8, rfl⟩) HS ?_; (case ia8 => (simp only [List.getElem?_toArray, List.getElem?_cons_succ, List.getElem?_cons_zero]; exact rfl)); (case qa8 => exact fun _ _ _ h => h); (case wa8 => rfl))
          | (refine wpAnyH_take (i := 8) (oi := ?ob8) (v := ?vb8) ?ib8 (by kernel_rfl) (by kernel_rfl) (by kernel_rfl) ?qb8 (Or.inl ⟨?wb8, ?yb8⟩) HS ?_; (case ib8 => (simp only [List.getElem?_toArray, List.getElem?_cons_succ, List.getElem?_cons_zero]; exact rfl)); (case qb8 => exact fun _ _ _ h => h); (case wb8 => rfl); (case yb8 => (intro w' hSw; (try dsimp only at hSw); go_simp <;> (with_reducible rfl))))
        try simp only [Act.put, List.setIfInBounds_toArray, List.set_cons_zero, List.set_cons_succ]
        first
          | (refine wpAnyH_take (i := 9) (oi := ?oa9) (v := undef) ?ia9 (by kernel_rfl) (by kernel_rfl) (by kernel_rfl) ?qa9 (Or.inr ⟨?wa9, rfl⟩) HS ?_; (case ia9 => (simp only [List.getElem?_toArray, List.getElem?_cons_succ, List.getElem?_cons_zero]; exact rfl)); (case qa9 => exact fun _ _ _ h => h); (case wa9 => rfl))
          | (refine wpAnyH_take (i := 9) (oi := ?ob9) (v := ?vb9) ?ib9 (by kernel_rfl) (by kernel_rfl) (by kernel_rfl) ?qb9 (Or.inl ⟨?wb9, ?yb9⟩) HS ?_; (case ib9 => (simp only [List.getElem?_toArray, List.getElem?_cons_succ, List.getElem?_cons_zero]; exact rfl)); (case qb9 => exact fun _ _ _ h => h); (case wb9 => rfl); (case yb9 => (intro w' hSw; (try dsimp only at hSw); go_simp <;> (with_reducible rfl))))
        try simp only [Act.put, List.setIfInBounds_toArray, List.set_cons_zero, List.set_cons_succ]
        first
          | (refine wpAnyH_take (i := 10) (oi := ?oa10) (v := undef) ?ia10 (by kernel_rfl) (by kernel_rfl) (by kernel_rfl) ?qa10 (Or.inr ⟨?wa10, rfl⟩) HS ?_; (case ia10 => (simp only [List.getElem?_toArray, List.getElem?_cons_succ, List.getElem?_cons_zero]; exact rfl)); (case qa10 => exact fun _ _ _ h => h); (case wa10 => rfl))
          | (refine wpAnyH_take (i := 10) (oi := ?ob10) (v := ?vb10) ?ib10 (by kernel_rfl) (by kernel_rfl) (by kernel_rfl) ?qb10 (Or.inl ⟨?wb10, ?yb10⟩) HS ?_; (case ib10 => (simp only [List.getElem?_toArray, List.getElem?_cons_succ, List.getElem?_cons_zero]; exact rfl)); (case qb10 => exact fun _ _ _ h => h); (case wb10 => rfl); (case yb10 => (intro w' hSw; (try dsimp only at hSw); go_simp <;> (with_reducible rfl))))
        try simp only [Act.put, List.setIfInBounds_toArray, List.set_cons_zero, List.set_cons_succ]
        refine wpAnyH_ready (rs := [11]) (by kernel_rfl) (by simp) ?_
        refine AllReadyH.cons (o := ?o11) ?i11 (fun K hK => ?_) AllReadyH.nil
        case i11 => (simp only [List.getElem?_toArray, List.getElem?_cons_succ, List.getElem?_cons_zero]; exact rfl)
        go_simp
        go_at_call 160; refine (CB.out _ (hg.trans (last3 HS))).mono ?_; rintro e w1 ⟨rfl, hb⟩
        refine hK.out _ _ ?s11 ?r11
        case s11 => (try dsimp only); first | exact held3 HS (Grew.refl _) | exact held3 HS hb
        case r11 =>
          clear HS
          intro HS
          clear hK K
          try simp only [Act.put, List.setIfInBounds_toArray, List.set_cons_zero, List.set_cons_succ]
          first
            | (refine wpAnyH_take (i := 12) (oi := ?oa12) (v := undef) ?ia12 (by kernel_rfl) (by kernel_rfl) (by kernel_rfl) ?qa12 (Or.inr ⟨?wa12, rfl⟩) HS ?_; (case ia12 => (simp only [List.getElem?_toArray, List.getElem?_cons_succ, List.getElem?_cons_zero]; exact rfl)); (case qa12 => exact fun _ _ _ h => h); (case wa12 => rfl))
            | (refine wpAnyH_take (i := 12) (oi := ?ob12) (v := ?vb12) ?ib12 (by kernel_rfl) (by kernel_rfl) (by kernel_rfl) ?qb12 (Or.inl ⟨?wb12, ?yb12⟩) HS ?_; (case ib12 => (simp only [List.getElem?_toArray, List.getElem?_cons_succ, List.getElem?_cons_zero]; exact rfl)); (case qb12 => exact fun _ _ _ h => h); (case wb12 => rfl); (case yb12 => (intro w' hSw; (try dsimp only at hSw); go_simp <;> (with_reducible rfl))))
          try simp only [Act.put, List.setIfInBounds_toArray, List.set_cons_zero, List.set_cons_succ]
          first
            | (refine wpAnyH_take (i := 13) (oi := ?oa13) (v := undef) ?ia13 (by kernel_rfl) (by kernel_rfl) (by kernel_rfl) ?qa13 (Or.inr ⟨?wa13, rfl⟩) HS ?_; (case ia13 => (simp only [List.getElem?_toArray, List.getElem?_cons_succ, List.getElem?_cons_zero]; exact rfl)); (case qa13 => exact fun _ _ _ h => h); (case wa13 => rfl))
            | (refine wpAnyH_take (i := 13) (oi := ?ob13) (v := ?vb13) ?ib13 (by kernel_rfl) (by kernel_rfl) (by kernel_rfl) ?qb13 (Or.inl ⟨?wb13, ?yb13⟩) HS ?_; (case ib13 => (simp only [List.getElem?_toArray, List.getElem?_cons_succ, List.getElem?_cons_zero]; exact rfl)); (case qb13 => exact fun _ _ _ h => h); (case wb13 => rfl); (case yb13 => (intro w' hSw; (try dsimp only at hSw); go_simp <;> (with_reducible rfl))))
          try simp only [Act.put, List.setIfInBounds_toArray, List.set_cons_zero, List.set_cons_succ]
          first
            | (refine wpAnyH_take (i := 14) (oi := ?oa14) (v := undef) ?ia14 (by kernel_rfl) (by kernel_rfl) (by kernel_rfl) ?qa14 (Or.inr ⟨?wa14, rfl⟩) HS ?_; (case ia14 => (simp only [List.getElem?_toArray, List.getElem?_cons_succ, List.getElem?_cons_zero]; exact rfl)); (case qa14 => exact fun _ _ _ h => h); (case wa14 => rfl))
            | (refine wpAnyH_take (i := 14) (oi := ?ob14) (v := ?vb14) ?ib14 (by kernel_rfl) (by kernel_rfl) (by kernel_rfl) ?qb14 (Or.inl ⟨?wb14, ?yb14⟩) HS ?_; (case ib14 => (simp only [List.getElem?_toArray, List.getElem?_cons_succ, List.getElem?_cons_zero]; exact rfl)); (case qb14 => exact fun _ _ _ h => h); (case wb14 => rfl); (case yb14 => (intro w' hSw; (try dsimp only at hSw); go_simp <;> (with_reducible rfl))))
          try simp only [Act.put, List.setIfInBounds_toArray, List.set_cons_zero, List.set_cons_succ]
          first
            | (refine wpAnyH_take (i := 15) (oi := ?oa15) (v := undef) ?ia15 (by kernel_rfl) (by kernel_rfl) (by kernel_rfl) ?qa15 (Or.inr ⟨?wa15, rfl⟩) HS ?_; (case ia15 => (simp only [List.getElem?_toArray, List.getElem?_cons_succ, List.getElem?_cons_zero]; exact rfl)); (case qa15 => exact fun _ _ _ h => h); (case wa15 => rfl))
            | (refine wpAnyH_take (i := 15) (oi := ?ob15) (v := ?vb15) ?ib15 (by kernel_rfl) (by kernel_rfl) (by kernel_rfl) ?qb15 (Or.inl ⟨?wb15, ?yb15⟩) HS ?_; (case ib15 => (simp only [List.getElem?_toArray, List.getElem?_cons_succ, List.getElem?_cons_zero]; exact rfl)); (case qb15 => exact fun _ _ _ h => h); (case wb15 => rfl); (case yb15 => (intro w' hSw; (try dsimp only at hSw); go_simp <;> (with_reducible rfl))))
          try simp only [Act.put, List.setIfInBounds_toArray, List.set_cons_zero, List.set_cons_succ]
          first
            | (refine wpAnyH_take (i := 16) (oi := ?oa16) (v := undef) ?ia16 (by kernel_rfl) (by kernel_rfl) (by kernel_rfl) ?qa16 (Or.inr ⟨?wa16, rfl⟩) HS ?_; (case ia16 => (simp only [List.getElem?_toArray, List.getElem?_cons_succ, List.getElem?_cons_zero]; exact rfl)); (case qa16 => exact fun _ _ _ h => h); (case wa16 => rfl))
            | (refine wpAnyH_take (i := 16) (oi := ?ob16) (v := ?vb16) ?ib16 (by kernel_rfl) (by kernel_rfl) (by kernel_rfl) ?qb16 (Or.inl ⟨?wb16, ?yb16⟩) HS ?_; (case ib16 => (simp only [List.getElem?_toArray, List.getElem?_cons_succ, List.getElem?_cons_zero]; exact rfl)); (case qb16 => exact fun _ _ _ h => h); (case wb16 => rfl); (case yb16 => (intro w' hSw; (try dsimp only at hSw); go_simp <;> (with_reducible rfl))))
          try simp only [Act.put, List.setIfInBounds_toArray, List.set_cons_zero, List.set_cons_succ]
          first
            | (refine wpAnyH_take (i := 17) (oi := ?oa17) (v := undef) ?ia17 (by kernel_rfl) (by kernel_rfl) (by kernel_rfl) ?qa17 (Or.inr ⟨?wa17, rfl⟩) HS ?_; (case ia17 => (simp only [List.getElem?_toArray, List.getElem?_cons_succ, List.getElem?_cons_zero]; exact rfl)); (case qa17 => exact fun _ _ _ h => h); (case wa17 => rfl))
            | (refine wpAnyH_take (i := 17) (oi := ?ob17) (v := ?vb17) ?ib17 (by kernel_rfl) (by kernel_rfl) (by kernel_rfl) ?qb17 (Or.inl ⟨?wb17, ?yb17⟩) HS ?_; (case ib17 => (simp only [List.getElem?_toArray, List.getElem?_cons_succ, List.getElem?_cons_zero]; exact rfl)); (case qb17 => exact fun _ _ _ h => h); (case wb17 => rfl); (case yb17 => (intro w' hSw; (try dsimp only at hSw); go_simp <;> (with_reducible rfl))))
          try simp only [Act.put, List.setIfInBounds_toArray, List.set_cons_zero, List.set_cons_succ]
          first
            | (refine wpAnyH_take (i := 20) (oi := ?oa20) (v := undef) ?ia20 (by kernel_rfl) (by kernel_rfl) (by kernel_rfl) ?qa20 (Or.inr ⟨?wa20, rfl⟩) HS ?_; (case ia20 => (simp only [List.getElem?_toArray, List.getElem?_cons_succ, List.getElem?_cons_zero]; exact rfl)); (case qa20 => exact fun _ _ _ h => h); (case wa20 => rfl))
            | (refine wpAnyH_take (i := 20) (oi := ?ob20) (v := ?vb20) ?ib20 (by kernel_rfl) (by kernel_rfl) (by kernel_rfl) ?qb20 (Or.inl ⟨?wb20, ?yb20⟩) HS ?_; (case ib20 => (simp only [List.getElem?_toArray, List.getElem?_cons_succ, List.getElem?_cons_zero]; exact rfl)); (case qb20 => exact fun _ _ _ h => h); (case wb20 => rfl); (case yb20 => (intro w' hSw; (try dsimp only at hSw); go_simp <;> (with_reducible rfl))))
          try simp only [Act.put, List.setIfInBounds_toArray, List.set_cons_zero, List.set_cons_succ]
          first
            | (refine wpAnyH_take (i := 21) (oi := ?oa21) (v := undef) ?ia21 (by kernel_rfl) (by kernel_rfl) (by kernel_rfl) ?qa21 (Or.inr ⟨?wa21, rfl⟩) HS ?_; (case ia21 => (simp only [List.getElem?_toArray, List.getElem?_cons_succ, List.getElem?_cons_zero]; exact rfl)); (case qa21 => exact fun _ _ _ h => h); (case wa21 => rfl))
            | (refine wpAnyH_take (i := 21) (oi := ?ob21) (v := ?vb21) ?ib21 (by kernel_rfl) (by kernel_rfl) (by kernel_rfl) ?qb21 (Or.inl ⟨?wb21, ?yb21⟩) HS ?_; (case ib21 => (simp only [List.getElem?_toArray, List.getElem?_cons_succ, List.getElem?_cons_zero]; exact rfl)); (case qb21 => exact fun _ _ _ h => h); (case wb21 => rfl); (case yb21 => (intro w' hSw; (try dsimp only at hSw); go_simp <;> (with_reducible rfl))))
          try simp only [Act.put, List.setIfInBounds_toArray, List.set_cons_zero, List.set_cons_succ]
          first
            | (refine wpAnyH_take (i := 22) (oi := ?oa22) (v := undef) ?ia22 (by kernel_rfl) (by kernel_rfl) (by kernel_rfl) ?qa22 (Or.inr ⟨?wa22, rfl⟩) HS ?_; (case ia22 => (simp only [List.getElem?_toArray, List.getElem?_cons_succ, List.getElem?_cons_zero]; exact rfl)); (case qa22 => exact fun _ _ _ h => h); (case wa22 => rfl))
            | (refine wpAnyH_take (i := 22) (oi := ?ob22) (v := ?vb22) ?ib22 (by kernel_rfl) (by kernel_rfl) (by kernel_rfl) ?qb22 (Or.inl ⟨?wb22, ?yb22⟩) HS ?_; (case ib22 => (simp only [List.getElem?_toArray, List.getElem?_cons_succ, List.getElem?_cons_zero]; exact rfl)); (case qb22 => exact fun _ _ _ h => h); (case wb22 => rfl); (case yb22 => (intro w' hSw; (try dsimp only at hSw); go_simp <;> (with_reducible rfl))))
          try simp only [Act.put, List.setIfInBounds_toArray, List.set_cons_zero, List.set_cons_succ]
          refine wpAnyH_ready (rs := [18]) (by kernel_rfl) (by simp) ?_
          refine AllReadyH.cons (o := ?o18) ?i18 (fun K hK => ?_) AllReadyH.nil
          case i18 => (simp only [List.getElem?_toArray, List.getElem?_cons_succ, List.getElem?_cons_zero]; exact rfl)
          go_simp
          go_at_call 155; refine (CW.out _ (hg.trans (last3 HS))).mono ?_; rintro e w1 ⟨oa, oc, rfl, hb⟩
          refine hK.out _ _ ?s18 ?r18
          case s18 => (try dsimp only); first | exact held3 HS (Grew.refl _) | exact held3 HS hb
          case r18 =>
            clear HS
            intro HS
            clear hK K
            try simp only [Act.put, List.setIfInBounds_toArray, List.set_cons_zero, List.set_cons_succ]
            first
              | (refine wpAnyH_take (i := 19) (oi := ?oa19) (v := undef) ?ia19 (by kernel_rfl) (by kernel_rfl) (by kernel_rfl) ?qa19 (Or.inr ⟨?wa19, rfl⟩) HS ?_; (case ia19 => (simp only [List.getElem?_toArray, List.getElem?_cons_succ, List.getElem?_cons_zero]; exact rfl)); (case qa19 => exact fun _ _ _ h => h); (case wa19 => rfl))
              | (refine wpAnyH_take (i := 19) (oi := ?ob19) (v := ?vb19) ?ib19 (by kernel_rfl) (by kernel_rfl) (by kernel_rfl) ?qb19 (Or.inl ⟨?wb19, ?yb19⟩) HS ?_; (case ib19 => (simp only [List.getElem?_toArray, List.getElem?_cons_succ, List.getElem?_cons_zero]; exact rfl)); (case qb19 => exact fun _ _ _ h => h); (case wb19 => rfl); (case yb19 => (intro w' hSw; (try dsimp only at hSw); go_simp <;> (with_reducible rfl))))
            try simp only [Act.put, List.setIfInBounds_toArray, List.set_cons_zero, List.set_cons_succ]
            first
              | (refine wpAnyH_take (i := 23) (oi := ?oa23) (v := undef) ?ia23 (by kernel_rfl) (by kernel_rfl) (by kernel_rfl) ?qa23 (Or.inr ⟨?wa23, rfl⟩) HS ?_; (case ia23 => (simp only [List.getElem?_toArray, List.getElem?_cons_succ, List.getElem?_cons_zero]; exact rfl)); (case qa23 => exact fun _ _ _ h => h); (case wa23 => rfl))
              | (refine wpAnyH_take (i := 23) (oi := ?ob23) (v := ?vb23) ?ib23 (by kernel_rfl) (by kernel_rfl) (by kernel_rfl) ?qb23 (Or.inl ⟨?wb23, ?yb23⟩) HS ?_; (case ib23 => (simp only [List.getElem?_toArray, List.getElem?_cons_succ, List.getElem?_cons_zero]; exact rfl)); (case qb23 => exact fun _ _ _ h => h); (case wb23 => rfl); (case yb23 => (intro w' hSw; (try dsimp only at hSw); go_simp <;> (with_reducible rfl))))
            try simp only [Act.put, List.setIfInBounds_toArray, List.set_cons_zero, List.set_cons_succ]
            first
              | (refine wpAnyH_take (i := 24) (oi := ?oa24) (v := undef) ?ia24 (by kernel_rfl) (by kernel_rfl) (by kernel_rfl) ?qa24 (Or.inr ⟨?wa24, rfl⟩) HS ?_; (case ia24 => (simp only [List.getElem?_toArray, List.getElem?_cons_succ, List.getElem?_cons_zero]; exact rfl)); (case qa24 => exact fun _ _ _ h => h); (case wa24 => rfl))
              | (refine wpAnyH_take (i := 24) (oi := ?ob24) (v := ?vb24) ?ib24 (by kernel_rfl) (by kernel_rfl) (by kernel_rfl) ?qb24 (Or.inl ⟨?wb24, ?yb24⟩) HS ?_; (case ib24 => (simp only [List.getElem?_toArray, List.getElem?_cons_succ, List.getElem?_cons_zero]; exact rfl)); (case qb24 => exact fun _ _ _ h => h); (case wb24 => rfl); (case yb24 => (intro w' hSw; (try dsimp only at hSw); go_simp <;> (with_reducible rfl))))
            try simp only [Act.put, List.setIfInBounds_toArray, List.set_cons_zero, List.set_cons_succ]
            first
              | (refine wpAnyH_take (i := 25) (oi := ?oa25) (v := undef) ?ia25 (by kernel_rfl) (by kernel_rfl) (by kernel_rfl) ?qa25 (Or.inr ⟨?wa25, rfl⟩) HS ?_; (case ia25 => (simp only [List.getElem?_toArray, List.getElem?_cons_succ, List.getElem?_cons_zero]; exact rfl)); (case qa25 => exact fun _ _ _ h => h); (case wa25 => rfl))
              | (refine wpAnyH_take (i := 25) (oi := ?ob25) (v := ?vb25) ?ib25 (by kernel_rfl) (by kernel_rfl) (by kernel_rfl) ?qb25 (Or.inl ⟨?wb25, ?yb25⟩) HS ?_; (case ib25 => (simp only [List.getElem?_toArray, List.getElem?_cons_succ, List.getElem?_cons_zero]; exact rfl)); (case qb25 => exact fun _ _ _ h => h); (case wb25 => rfl); (case yb25 => (intro w' hSw; (try dsimp only at hSw); go_simp <;> (with_reducible rfl))))
            try simp only [Act.put, List.setIfInBounds_toArray, List.set_cons_zero, List.set_cons_succ]
            first
              | (refine wpAnyH_take (i := 26) (oi := ?oa26) (v := undef) ?ia26 (by kernel_rfl) (by kernel_rfl) (by kernel_rfl) ?qa26 (Or.inr ⟨?wa26, rfl⟩) HS ?_; (case ia26 => (simp only [List.getElem?_toArray, List.getElem?_cons_succ, List.getElem?_cons_zero]; exact rfl)); (case qa26 => exact fun _ _ _ h => h); (case wa26 => rfl))
              | (refine wpAnyH_take (i := 26) (oi := ?ob26) (v := ?vb26) ?ib26 (by kernel_rfl) (by kernel_rfl) (by kernel_rfl) ?qb26 (Or.inl ⟨?wb26, ?yb26⟩) HS ?_; (case ib26 => (simp only [List.getElem?_toArray, List.getElem?_cons_succ, List.getElem?_cons_zero]; exact rfl)); (case qb26 => exact fun _ _ _ h => h); (case wb26 => rfl); (case yb26 => (intro w' hSw; (try dsimp only at hSw); go_simp <;> (with_reducible rfl))))
            try simp only [Act.put, List.setIfInBounds_toArray, List.set_cons_zero, List.set_cons_succ]
            first
              | (refine wpAnyH_take (i := 27) (oi := ?oa27) (v := undef) ?ia27 (by kernel_rfl) (by kernel_rfl) (by kernel_rfl) ?qa27 (Or.inr ⟨?wa27, rfl⟩) HS ?_; (case ia27 => (simp only [List.getElem?_toArray, List.getElem?_cons_succ, List.getElem?_cons_zero]; exact rfl)); (case qa27 => exact fun _ _ _ h => h); (case wa27 => rfl))
              | (refine wpAnyH_take (i := 27) (oi := ?ob27) (v := ?vb27) ?ib27 (by kernel_rfl) (by kernel_rfl) (by kernel_rfl) ?qb27 (Or.inl ⟨?wb27, ?yb27⟩) HS ?_; (case ib27 => (simp only [List.getElem?_toArray, List.getElem?_cons_succ, List.getElem?_cons_zero]; exact rfl)); (case qb27 => exact fun _ _ _ h => h); (case wb27 => rfl); (case yb27 => (intro w' hSw; (try dsimp only at hSw); go_simp <;> (with_reducible rfl))))
            try simp only [Act.put, List.setIfInBounds_toArray, List.set_cons_zero, List.set_cons_succ]
            first
              | (refine wpAnyH_take (i := 28) (oi := ?oa28) (v := undef) ?ia28 (by kernel_rfl) (by kernel_rfl) (by kernel_rfl) ?qa28 (Or.inr ⟨?wa28, rfl⟩) HS ?_; (case ia28 => (simp only [List.getElem?_toArray, List.getElem?_cons_succ, List.getElem?_cons_zero]; exact rfl)); (case qa28 => exact fun _ _ _ h => h); (case wa28 => rfl))
              | (refine wpAnyH_take (i := 28) (oi := ?ob28) (v := ?vb28) ?ib28 (by kernel_rfl) (by kernel_rfl) (by kernel_rfl) ?qb28 (Or.inl ⟨?wb28, ?yb28⟩) HS ?_; (case ib28 => (simp only [List.getElem?_toArray, List.getElem?_cons_succ, List.getElem?_cons_zero]; exact rfl)); (case qb28 => exact fun _ _ _ h => h); (case wb28 => rfl); (case yb28 => (intro w' hSw; (try dsimp only at hSw); go_simp <;> (with_reducible rfl))))
            try simp only [Act.put, List.setIfInBounds_toArray, List.set_cons_zero, List.set_cons_succ]
            first
              | (refine wpAnyH_take (i := 29) (oi := ?oa29) (v := undef) ?ia29 (by kernel_rfl) (by kernel_rfl) (by kernel_rfl) ?qa29 (Or.inr ⟨?wa29, rfl⟩) HS ?_; (case ia29 => (simp only [List.getElem?_toArray, List.getElem?_cons_succ, List.getElem?_cons_zero]; exact rfl)); (case qa29 => exact fun _ _ _ h => h); (case wa29 => rfl))
              | (refine wpAnyH_take (i := 29) (oi := ?ob29) (v := ?vb29) ?ib29 (by kernel_rfl) (by kernel_rfl) (by kernel_rfl) ?qb29 (Or.inl ⟨?wb29, ?yb29⟩) HS ?_; (case ib29 => (simp only [List.getElem?_toArray, List.getElem?_cons_succ, List.getElem?_cons_zero]; exact rfl)); (case qb29 => exact fun _ _ _ h => h); (case wb29 => rfl); (case yb29 => (intro w' hSw; (try dsimp only at hSw); go_simp <;> (with_reducible rfl))))
            try simp only [Act.put, List.setIfInBounds_toArray, List.set_cons_zero, List.set_cons_succ]
            first
              | (refine wpAnyH_take (i := 30) (oi := ?oa30) (v := undef) ?ia30 (by kernel_rfl) (by kernel_rfl) (by kernel_rfl) ?qa30 (Or.inr ⟨?wa30, rfl⟩) HS ?_; (case ia30 => (simp only [List.getElem?_toArray, List.getElem?_cons_succ, List.getElem?_cons_zero]; exact rfl)); (case qa30 => exact fun _ _ _ h => h); (case wa30 => rfl))
              | (refine wpAnyH_take (i := 30) (oi := ?ob30) (v := ?vb30) ?ib30 (by kernel_rfl) (by kernel_rfl) (by kernel_rfl) ?qb30 (Or.inl ⟨?wb30, ?yb30⟩) HS ?_; (case ib30 => (simp only [List.getElem?_toArray, List.getElem?_cons_succ, List.getElem?_cons_zero]; exact rfl)); (case qb30 => exact fun _ _ _ h => h); (case wb30 => rfl); (case yb30 => (intro w' hSw; (try dsimp only at hSw); go_simp <;> (with_reducible rfl))))
            try simp only [Act.put, List.setIfInBounds_toArray, List.set_cons_zero, List.set_cons_succ]
            first
              | (refine wpAnyH_take (i := 31) (oi := ?oa31) (v := undef) ?ia31 (by kernel_rfl) (by kernel_rfl) (by kernel_rfl) ?qa31 (Or.inr ⟨?wa31, rfl⟩) HS ?_; (case ia31 => (simp only [List.getElem?_toArray, List.getElem?_cons_succ, List.getElem?_cons_zero]; exact rfl)); (case qa31 => exact fun _ _ _ h => h); (case wa31 => rfl))
              | (refine wpAnyH_take (i := 31) (oi := ?ob31) (v := ?vb31) ?ib31 (by kernel_rfl) (by kernel_rfl) (by kernel_rfl) ?qb31 (Or.inl ⟨?wb31, ?yb31⟩) HS ?_; (case ib31 => (simp only [List.getElem?_toArray, List.getElem?_cons_succ, List.getElem?_cons_zero]; exact rfl)); (case qb31 => exact fun _ _ _ h => h); (case wb31 => rfl); (case yb31 => (intro w' hSw; (try dsimp only at hSw); go_simp <;> (with_reducible rfl))))
            try simp only [Act.put, List.setIfInBounds_toArray, List.set_cons_zero, List.set_cons_succ]
            first
              | (refine wpAnyH_take (i := 32) (oi := ?oa32) (v := undef) ?ia32 (by kernel_rfl) (by kernel_rfl) (by kernel_rfl) ?qa32 (Or.inr ⟨?wa32, rfl⟩) HS ?_; (case ia32 => (simp only [List.getElem?_toArray, List.getElem?_cons_succ, List.getElem?_cons_zero]; exact rfl)); (case qa32 => exact fun _ _ _ h => h); (case wa32 => rfl))
              | (refine wpAnyH_take (i := 32) (oi := ?ob32) (v := ?vb32) ?ib32 (by kernel_rfl) (by kernel_rfl) (by kernel_rfl) ?qb32 (Or.inl ⟨?wb32, ?yb32⟩) HS ?_; (case ib32 => (simp only [List.getElem?_toArray, List.getElem?_cons_succ, List.getElem?_cons_zero]; exact rfl)); (case qb32 => exact fun _ _ _ h => h); (case wb32 => rfl); (case yb32 => (intro w' hSw; (try dsimp only at hSw); go_simp <;> (with_reducible rfl))))
            try simp only [Act.put, List.setIfInBounds_toArray, List.set_cons_zero, List.set_cons_succ]
            first
              | (refine wpAnyH_take (i := 33) (oi := ?oa33) (v := undef) ?ia33 (by kernel_rfl) (by kernel_rfl) (by kernel_rfl) ?qa33 (Or.inr ⟨?wa33, rfl⟩) HS ?_; (case ia33 => (simp only [List.getElem?_toArray, List.getElem?_cons_succ, List.getElem?_cons_zero]; exact rfl)); (case qa33 => exact fun _ _ _ h => h); (case wa33 => rfl))
              | (refine wpAnyH_take (i := 33) (oi := ?ob33) (v := ?vb33) ?ib33 (by kernel_rfl) (by kernel_rfl) (by kernel_rfl) ?qb33 (Or.inl ⟨?wb33, ?yb33⟩) HS ?_; (case ib33 => (simp only [List.getElem?_toArray, List.getElem?_cons_succ, List.getElem?_cons_zero]; exact rfl)); (case qb33 => exact fun _ _ _ h => h); (case wb33 => rfl); (case yb33 => (intro w' hSw; (try dsimp only at hSw); go_simp <;> (with_reducible rfl))))
            try simp only [Act.put, List.setIfInBounds_toArray, List.set_cons_zero, List.set_cons_succ]
            first
              | (refine wpAnyH_take (i := 34) (oi := ?oa34) (v := undef) ?ia34 (by kernel_rfl) (by kernel_rfl) (by kernel_rfl) ?qa34 (Or.inr ⟨?wa34, rfl⟩) HS ?_; (case ia34 => (simp only [List.getElem?_toArray, List.getElem?_cons_succ, List.getElem?_cons_zero]; exact rfl)); (case qa34 => exact fun _ _ _ h => h); (case wa34 => rfl))
              | (refine wpAnyH_take (i := 34) (oi := ?ob34) (v := ?vb34) ?ib34 (by kernel_rfl) (by kernel_rfl) (by kernel_rfl) ?qb34 (Or.inl ⟨?wb34, ?yb34⟩) HS ?_; (case ib34 => (simp only [List.getElem?_toArray, List.getElem?_cons_succ, List.getElem?_cons_zero]; exact rfl)); (case qb34 => exact fun _ _ _ h => h); (case wb34 => rfl); (case yb34 => (intro w' hSw; (try dsimp only at hSw); go_simp <;> (with_reducible rfl))))
            try simp only [Act.put, List.setIfInBounds_toArray, List.set_cons_zero, List.set_cons_succ]
            first
              | (refine wpAnyH_take (i := 35) (oi := ?oa35) (v := undef) ?ia35 (by kernel_rfl) (by kernel_rfl) (by kernel_rfl) ?qa35 (Or.inr ⟨?wa35, rfl⟩) HS ?_; (case ia35 => (simp only [List.getElem?_toArray, List.getElem?_cons_succ, List.getElem?_cons_zero]; exact rfl)); (case qa35 => exact fun _ _ _ h => h); (case wa35 => rfl))
              | (refine wpAnyH_take (i := 35) (oi := ?ob35) (v := ?vb35) ?ib35 (by kernel_rfl) (by kernel_rfl) (by kernel_rfl) ?qb35 (Or.inl ⟨?wb35, ?yb35⟩) HS ?_; (case ib35 => (simp only [List.getElem?_toArray, List.getElem?_cons_succ, List.getElem?_cons_zero]; exact rfl)); (case qb35 => exact fun _ _ _ h => h); (case wb35 => rfl); (case yb35 => (intro w' hSw; (try dsimp only at hSw); go_simp <;> (with_reducible rfl))))
            try simp only [Act.put, List.setIfInBounds_toArray, List.set_cons_zero, List.set_cons_succ]
            refine wpAnyH_done (by kernel_rfl) ?_ _
            refine NoPanic.normal ?_
            go_wp2
            go_ret
            refine ⟨ret_bool ?_, hg.trans (last3 (by assumption))⟩
            rfl
set_option maxRecDepth 100000 in
set_option maxHeartbeats 2000000 in
theorem diffEndYes (s : ByteArray) (qa ra : Option Addr) (n qc m rc l : Nat) (w : World)
    (CS : Hid (∀ w0, Calls Try.prog 159 #[.string s] w0 fun e w' => e = .returned (.bool true) ∧ w' = w0))
    (CA : Hid (∀ w0, Grew w w0 → Calls Try.prog 160 #[.slice qa n qc] w0 fun e w' => e = .returned (.bool true) ∧ Grew w0 w'))
    (CB : Hid (∀ w0, Grew w w0 → Calls Try.prog 160 #[.slice ra m rc] w0 fun e w' => e = .returned (.bool true) ∧ Grew w0 w'))
    (CW : Hid (∀ w0, Grew w w0 → Calls Try.prog 155 #[.slice qa n qc, .slice ra m rc] w0 fun e w' => ∃ oa oc, e = .returned (.slice oa l oc) ∧ Grew w0 w'))
    (hn : n ≤ 4000000) (hm : m ≤ 4000000) (hq : ((l : Int) == (n : Int)) = true) :
    Calls Try.prog 60 #[.agg #[.string s, .slice qa n qc, .slice ra m rc]] w fun e w' => e = .returned (.bool (decide (0 < n + m))) ∧ Grew w w' := by
  go_enter Try.func60, Try.ntmps60
  go_wp2_with fail
  have c0 : (w.alloc (.cells #[.string s, .slice qa n qc, .slice ra m rc] 80)).cell? ⟨w.heap.size, 0, none⟩ = some (.string s) := by simp
  have c1 : (w.alloc (.cells #[.string s, .slice qa n qc, .slice ra m rc] 80)).cell? ⟨w.heap.size, 1, none⟩ = some (.slice qa n qc) := by simp
  have c2 : (w.alloc (.cells #[.string s, .slice qa n qc, .slice ra m rc] 80)).cell? ⟨w.heap.size, 2, none⟩ = some (.slice ra m rc) := by simp
  have hg := (Grew.refl w).alloc (.cells #[.string s, .slice qa n qc, .slice ra m rc] 80)
  generalize w.alloc (.cells #[.string s, .slice qa n qc, .slice ra m rc] 80) = W at c0 c1 c2 hg ⊢
  refine wp_region_noPanic ?_
  refine wp_region_held_drew (S := (fun w' => (w'.cell? ⟨w.heap.size, 0, none⟩ = some (.string s) ∧ w'.cell? ⟨w.heap.size, 1, none⟩ = some (.slice qa n qc) ∧ w'.cell? ⟨w.heap.size, 2, none⟩ = some (.slice ra m rc) ∧ Grew W w'))) (by kernel_rfl) ?hS ?hrest
  case hS => exact ⟨c0, c1, c2, (Grew.refl _).drew⟩
  case hrest =>
    intro HS
    first
      | (refine wpAnyH_take (i := 0) (oi := ?oa0) (v := undef) ?ia0 (by kernel_rfl) (by kernel_rfl) (by kernel_rfl) ?qa0 (Or.inr ⟨?wa0, rfl⟩) HS ?_; (case ia0 => (simp only [List.getElem?_toArray, List.getElem?_cons_zero]; exact rfl)); (case qa0 => exact fun _ _ _ h => h); (case wa0 => rfl))
      | (refine wpAnyH_take (i := 0) (oi := ?ob0) (v := ?vb0) ?ib0 (by kernel_rfl) (by kernel_rfl) (by kernel_rfl) ?qb0 (Or.inl ⟨?wb0, ?yb0⟩) HS ?_; (case ib0 => (simp only [List.getElem?_toArray, List.getElem?_cons_zero]; exact rfl)); (case qb0 => exact fun _ _ _ h => h); (case wb0 => rfl); (case yb0 => (intro w' hSw; (try dsimp only at hSw); go_simp <;> (with_reducible rfl))))
    try simp only [Act.put, List.setIfInBounds_toArray, List.set_cons_zero, List.set_cons_succ]
    first
      | (refine wpAnyH_take (i := 1) (oi := ?oa1) (v := undef) ?ia1 (by kernel_rfl) (by kernel_rfl) (by kernel_rfl) ?qa1 (Or.inr ⟨?wa1, rfl⟩) HS ?_; (case ia1 => (simp only [List.getElem?_toArray, List.getElem?_cons_succ, List.getElem?_cons_zero]; exact rfl)); (case qa1 => exact fun _ _ _ h => h); (case wa1 => rfl))
      | (refine wpAnyH_take (i := 1) (oi := ?ob1) (v := ?vb1) ?ib1 (by kernel_rfl) (by kernel_rfl) (by kernel_rfl) ?qb1 (Or.inl ⟨?wb1, ?yb1⟩) HS ?_; (case ib1 => (simp only [List.getElem?_toArray, List.getElem?_cons_succ, List.getElem?_cons_zero]; exact rfl)); (case qb1 => exact fun _ _ _ h => h); (case wb1 => rfl); (case yb1 => (intro w' hSw; (try dsimp only at hSw); go_simp <;> (with_reducible rfl))))
    try simp only [Act.put, List.setIfInBounds_toArray, List.set_cons_zero, List.set_cons_succ]
    refine wpAnyH_ready (rs := [2]) (by kernel_rfl) (by simp) ?_
    refine AllReadyH.cons (o := ?o2) ?i2 (fun K hK => ?_) AllReadyH.nil
    case i2 => (simp only [List.getElem?_toArray, List.getElem?_cons_succ, List.getElem?_cons_zero]; exact rfl)
    go_simp
    go_at_call 159; refine (CS.out _).mono ?_; rintro e w1 ⟨rfl, rfl⟩
    refine hK.out _ _ ?s2 ?r2
    case s2 => (try dsimp only); first | exact held3 HS (Grew.refl _) | exact held3 HS hb
    case r2 =>
      clear HS
      intro HS
      clear hK K
      try simp only [Act.put, List.setIfInBounds_toArray, List.set_cons_zero, List.set_cons_succ]
      first
        | (refine wpAnyH_take (i := 3) (oi := ?oa3) (v := undef) ?ia3 (by kernel_rfl) (by kernel_rfl) (by kernel_rfl) ?qa3 (Or.inr ⟨?wa3, rfl⟩) HS ?_; (case ia3 => (simp only [List.getElem?_toArray, List.getElem?_cons_succ, List.getElem?_cons_zero]; exact rfl)); (case qa3 => exact fun _ _ _ h => h); (case wa3 => rfl))
        | (refine wpAnyH_take (i := 3) (oi := ?ob3) (v := ?vb3) ?ib3 (by kernel_rfl) (by kernel_rfl) (by kernel_rfl) ?qb3 (Or.inl ⟨?wb3, ?yb3⟩) HS ?_; (case ib3 => (simp only [List.getElem?_toArray, List.getElem?_cons_succ, List.getElem?_cons_zero]; exact rfl)); (case qb3 => exact fun _ _ _ h => h); (case wb3 => rfl); (case yb3 => (intro w' hSw; (try dsimp only at hSw); go_simp <;> (with_reducible rfl))))
      try simp only [Act.put, List.setIfInBounds_toArray, List.set_cons_zero, List.set_cons_succ]
      first
        | (refine wpAnyH_take (i := 4) (oi := ?oa4) (v := undef) ?ia4 (by kernel_rfl) (by kernel_rfl) (by kernel_rfl) ?qa4 (Or.inr ⟨?wa4, rfl⟩) HS ?_; (case ia4 => (simp only [List.getElem?_toArray, List.getElem?_cons_succ, List.getElem?_cons_zero]; exact rfl)); (case qa4 => exact fun _ _ _ h => h); (case wa4 => rfl))
        | (refine wpAnyH_take (i := 4) (oi := ?ob4) (v := ?vb4) ?ib4 (by kernel_rfl) (by kernel_rfl) (by kernel_rfl) ?qb4 (Or.inl ⟨?wb4, ?yb4⟩) HS ?_; (case ib4 => (simp only [List.getElem?_toArray, List.getElem?_cons_succ, List.getElem?_cons_zero]; exact rfl)); (case qb4 => exact fun _ _ _ h => h); (case wb4 => rfl); (case yb4 => (intro w' hSw; (try dsimp only at hSw); go_simp <;> (with_reducible rfl))))
      try simp only [Act.put, List.setIfInBounds_toArray, List.set_cons_zero, List.set_cons_succ]
      first
        | (refine wpAnyH_take (i := 5) (oi := ?oa5) (v := undef) ?ia5 (by kernel_rfl) (by kernel_rfl) (by kernel_rfl) ?qa5 (Or.inr ⟨?wa5, rfl⟩) HS ?_; (case ia5 => (simp only [List.getElem?_toArray, List.getElem?_cons_succ, List.getElem?_cons_zero]; exact rfl)); (case qa5 => exact fun _ _ _ h => h); (case wa5 => rfl))
        | (refine wpAnyH_take (i := 5) (oi := ?ob5) (v := ?vb5) ?ib5 (by kernel_rfl) (by kernel_rfl) (by kernel_rfl) ?qb5 (Or.inl ⟨?wb5, ?yb5⟩) HS ?_; (case ib5 => (simp only [List.getElem?_toArray, List.getElem?_cons_succ, List.getElem?_cons_zero]; exact rfl)); (case qb5 => exact fun _ _ _ h => h); (case wb5 => rfl); (case yb5 => (intro w' hSw; (try dsimp only at hSw); go_simp <;> (with_reducible rfl))))
      try simp only [Act.put, List.setIfInBounds_toArray, List.set_cons_zero, List.set_cons_succ]
      refine wpAnyH_ready (rs := [6]) (by kernel_rfl) (by simp) ?_
      refine AllReadyH.cons (o := ?o6) ?i6 (fun K hK => ?_) AllReadyH.nil
      case i6 => (simp only [List.getElem?_toArray, List.getElem?_cons_succ, List.getElem?_cons_zero]; exact rfl)
      go_simp
      go_at_call 160; refine (CA.out _ (hg.trans (last3 HS))).mono ?_; rintro e w1 ⟨rfl, hb⟩
      refine hK.out _ _ ?s6 ?r6
      case s6 => (try dsimp only); first | exact held3 HS (Grew.refl _) | exact held3 HS hb
      case r6 =>
        clear HS
        intro HS
        clear hK K
        try simp only [Act.put, List.setIfInBounds_toArray, List.set_cons_zero, List.set_cons_succ]
        first
          | (refine wpAnyH_take (i := 7) (oi := ?oa7) (v := undef) ?ia7 (by kernel_rfl) (by kernel_rfl) (by kernel_rfl) ?qa7 (Or.inr ⟨?wa7, rfl⟩) HS ?_; (case ia7 => (simp only [List.getElem?_toArray, List.getElem?_cons_succ, List.getElem?_cons_zero]; exact rfl)); (case qa7 => exact fun _ _ _ h => h); (case wa7 => rfl))
          | (refine wpAnyH_take (i := 7) (oi := ?ob7) (v := ?vb7) ?ib7 (by kernel_rfl) (by kernel_rfl) (by kernel_rfl) ?qb7 (Or.inl ⟨?wb7, ?yb7⟩) HS ?_; (case ib7 => (simp only [List.getElem?_toArray, List.getElem?_cons_succ, List.getElem?_cons_zero]; exact rfl)); (case qb7 => exact fun _ _ _ h => h); (case wb7 => rfl); (case yb7 => (intro w' hSw; (try dsimp only at hSw); go_simp <;> (with_reducible rfl))))
        try simp only [Act.put, List.setIfInBounds_toArray, List.set_cons_zero, List.set_cons_succ]
        first
          | (refine wpAnyH_take (i := 8) (oi := ?oa8) (v := undef) ?ia8 (by kernel_rfl) (by kernel_rfl) (by kernel_rfl) ?qa8 (Or.inr ⟨?wa8, rfl⟩) HS ?_; (case ia8 => (simp only [List.getElem?_toArray, List.getElem?_cons_succ, List.getElem?_cons_zero]; exact rfl)); (case qa8 => exact fun _ _ _ h => h); (case wa8 => rfl))
          | (refine wpAnyH_take (i := 8) (oi := ?ob8) (v := ?vb8) ?ib8 (by kernel_rfl) (by kernel_rfl) (by kernel_rfl) ?qb8 (Or.inl ⟨?wb8, ?yb8⟩) HS ?_; (case ib8 => (simp only [List.getElem?_toArray, List.getElem?_cons_succ, List.getElem?_cons_zero]; exact rfl)); (case qb8 => exact fun _ _ _ h => h); (case wb8 => rfl); (case yb8 => (intro w' hSw; (try dsimp only at hSw); go_simp <;> (with_reducible rfl))))
        try simp only [Act.put, List.setIfInBounds_toArray, List.set_cons_zero, List.set_cons_succ]
        first
          | (refine wpAnyH_take (i := 9) (oi := ?oa9) (v := undef) ?ia9 (by kernel_rfl) (by kernel_rfl) (by kernel_rfl) ?qa9 (Or.inr ⟨?wa9, rfl⟩) HS ?_; (case ia9 => (simp only [List.getElem?_toArray, List.getElem?_cons_succ, List.getElem?_cons_zero]; exact rfl)); (case qa9 => exact fun _ _ _ h => h); (case wa9 => rfl))
          | (refine wpAnyH_take (i := 9) (oi := ?ob9) (v := ?vb9) ?ib9 (by kernel_rfl) (by kernel_rfl) (by kernel_rfl) ?qb9 (Or.inl ⟨?wb9, ?yb9⟩) HS ?_; (case ib9 => (simp only [List.getElem?_toArray, List.getElem?_cons_succ, List.getElem?_cons_zero]; exact rfl)); (case qb9 => exact fun _ _ _ h => h); (case wb9 => rfl); (case yb9 => (intro w' hSw; (try dsimp only at hSw); go_simp <;> (with_reducible rfl))))
        try simp only [Act.put, List.setIfInBounds_toArray, List.set_cons_zero, List.set_cons_succ]
        first
          | (refine wpAnyH_take (i := 10) (oi := ?oa10) (v := undef) ?ia10 (by kernel_rfl) (by kernel_rfl) (by kernel_rfl) ?qa10 (Or.inr ⟨?wa10, rfl⟩) HS ?_; (case ia10 => (simp only [List.getElem?_toArray, List.getElem?_cons_succ, List.getElem?_cons_zero]; exact rfl)); (case qa10 => exact fun _ _ _ h => h); (case wa10 => rfl))
          | (refine wpAnyH_take (i := 10) (oi := ?ob10) (v := ?vb10) ?ib10 (by kernel_rfl) (by kernel_rfl) (by kernel_rfl) ?qb10 (Or.inl ⟨?wb10, ?yb10⟩) HS ?_; (case ib10 => (simp only [List.getElem?_toArray, List.getElem?_cons_succ, List.getElem?_cons_zero]; exact rfl)); (case qb10 => exact fun _ _ _ h => h); (case wb10 => rfl); (case yb10 => (intro w' hSw; (try dsimp only at hSw); go_simp <;> (with_reducible rfl))))
        try simp only [Act.put, List.setIfInBounds_toArray, List.set_cons_zero, List.set_cons_succ]
        refine wpAnyH_ready (rs := [11]) (by kernel_rfl) (by simp) ?_
        refine AllReadyH.cons (o := ?o11) ?i11 (fun K hK => ?_) AllReadyH.nil
        case i11 => (simp only [List.getElem?_toArray, List.getElem?_cons_succ, List.getElem?_cons_zero]; exact rfl)
        go_simp
        go_at_call 160; refine (CB.out _ (hg.trans (last3 HS))).mono ?_; rintro e w1 ⟨rfl, hb⟩
        refine hK.out _ _ ?s11 ?r11
        case s11 => (try dsimp only); first | exact held3 HS (Grew.refl _) | exact held3 HS hb
        case r11 =>
          clear HS
          intro HS
          clear hK K
          try simp only [Act.put, List.setIfInBounds_toArray, List.set_cons_zero, List.set_cons_succ]
          first
            | (refine wpAnyH_take (i := 12) (oi := ?oa12) (v := undef) ?ia12 (by kernel_rfl) (by kernel_rfl) (by kernel_rfl) ?qa12 (Or.inr ⟨?wa12, rfl⟩) HS ?_; (case ia12 => (simp only [List.getElem?_toArray, List.getElem?_cons_succ, List.getElem?_cons_zero]; exact rfl)); (case qa12 => exact fun _ _ _ h => h); (case wa12 => rfl))
            | (refine wpAnyH_take (i := 12) (oi := ?ob12) (v := ?vb12) ?ib12 (by kernel_rfl) (by kernel_rfl) (by kernel_rfl) ?qb12 (Or.inl ⟨?wb12, ?yb12⟩) HS ?_; (case ib12 => (simp only [List.getElem?_toArray, List.getElem?_cons_succ, List.getElem?_cons_zero]; exact rfl)); (case qb12 => exact fun _ _ _ h => h); (case wb12 => rfl); (case yb12 => (intro w' hSw; (try dsimp only at hSw); go_simp <;> (with_reducible rfl))))
          try simp only [Act.put, List.setIfInBounds_toArray, List.set_cons_zero, List.set_cons_succ]
          first
            | (refine wpAnyH_take (i := 13) (oi := ?oa13) (v := undef) ?ia13 (by kernel_rfl) (by kernel_rfl) (by kernel_rfl) ?qa13 (Or.inr ⟨?wa13, rfl⟩) HS ?_; (case ia13 => (simp only [List.getElem?_toArray, List.getElem?_cons_succ, List.getElem?_cons_zero]; exact rfl)); (case qa13 => exact fun _ _ _ h => h); (case wa13 => rfl))
            | (refine wpAnyH_take (i := 13) (oi := ?ob13) (v := ?vb13) ?ib13 (by kernel_rfl) (by kernel_rfl) (by kernel_rfl) ?qb13 (Or.inl ⟨?wb13, ?yb13⟩) HS ?_; (case ib13 => (simp only [List.getElem?_toArray, List.getElem?_cons_succ, List.getElem?_cons_zero]; exact rfl)); (case qb13 => exact fun _ _ _ h => h); (case wb13 => rfl); (case yb13 => (intro w' hSw; (try dsimp only at hSw); go_simp <;> (with_reducible rfl))))
          try simp only [Act.put, List.setIfInBounds_toArray, List.set_cons_zero, List.set_cons_succ]
          first
            | (refine wpAnyH_take (i := 14) (oi := ?oa14) (v := undef) ?ia14 (by kernel_rfl) (by kernel_rfl) (by kernel_rfl) ?qa14 (Or.inr ⟨?wa14, rfl⟩) HS ?_; (case ia14 => (simp only [List.getElem?_toArray, List.getElem?_cons_succ, List.getElem?_cons_zero]; exact rfl)); (case qa14 => exact fun _ _ _ h => h); (case wa14 => rfl))
            | (refine wpAnyH_take (i := 14) (oi := ?ob14) (v := ?vb14) ?ib14 (by kernel_rfl) (by kernel_rfl) (by kernel_rfl) ?qb14 (Or.inl ⟨?wb14, ?yb14⟩) HS ?_; (case ib14 => (simp only [List.getElem?_toArray, List.getElem?_cons_succ, List.getElem?_cons_zero]; exact rfl)); (case qb14 => exact fun _ _ _ h => h); (case wb14 => rfl); (case yb14 => (intro w' hSw; (try dsimp only at hSw); go_simp <;> (with_reducible rfl))))
          try simp only [Act.put, List.setIfInBounds_toArray, List.set_cons_zero, List.set_cons_succ]
          first
            | (refine wpAnyH_take (i := 15) (oi := ?oa15) (v := undef) ?ia15 (by kernel_rfl) (by kernel_rfl) (by kernel_rfl) ?qa15 (Or.inr ⟨?wa15, rfl⟩) HS ?_; (case ia15 => (simp only [List.getElem?_toArray, List.getElem?_cons_succ, List.getElem?_cons_zero]; exact rfl)); (case qa15 => exact fun _ _ _ h => h); (case wa15 => rfl))
            | (refine wpAnyH_take (i := 15) (oi := ?ob15) (v := ?vb15) ?ib15 (by kernel_rfl) (by kernel_rfl) (by kernel_rfl) ?qb15 (Or.inl ⟨?wb15, ?yb15⟩) HS ?_; (case ib15 => (simp only [List.getElem?_toArray, List.getElem?_cons_succ, List.getElem?_cons_zero]; exact rfl)); (case qb15 => exact fun _ _ _ h => h); (case wb15 => rfl); (case yb15 => (intro w' hSw; (try dsimp only at hSw); go_simp <;> (with_reducible rfl))))
          try simp only [Act.put, List.setIfInBounds_toArray, List.set_cons_zero, List.set_cons_succ]
          first
            | (refine wpAnyH_take (i := 16) (oi := ?oa16) (v := undef) ?ia16 (by kernel_rfl) (by kernel_rfl) (by kernel_rfl) ?qa16 (Or.inr ⟨?wa16, rfl⟩) HS ?_; (case ia16 => (simp only [List.getElem?_toArray, List.getElem?_cons_succ, List.getElem?_cons_zero]; exact rfl)); (case qa16 => exact fun _ _ _ h => h); (case wa16 => rfl))
            | (refine wpAnyH_take (i := 16) (oi := ?ob16) (v := ?vb16) ?ib16 (by kernel_rfl) (by kernel_rfl) (by kernel_rfl) ?qb16 (Or.inl ⟨?wb16, ?yb16⟩) HS ?_; (case ib16 => (simp only [List.getElem?_toArray, List.getElem?_cons_succ, List.getElem?_cons_zero]; exact rfl)); (case qb16 => exact fun _ _ _ h => h); (case wb16 => rfl); (case yb16 => (intro w' hSw; (try dsimp only at hSw); go_simp <;> (with_reducible rfl))))
          try simp only [Act.put, List.setIfInBounds_toArray, List.set_cons_zero, List.set_cons_succ]
          first
            | (refine wpAnyH_take (i := 17) (oi := ?oa17) (v := undef) ?ia17 (by kernel_rfl) (by kernel_rfl) (by kernel_rfl) ?qa17 (Or.inr ⟨?wa17, rfl⟩) HS ?_; (case ia17 => (simp only [List.getElem?_toArray, List.getElem?_cons_succ, List.getElem?_cons_zero]; exact rfl)); (case qa17 => exact fun _ _ _ h => h); (case wa17 => rfl))
            | (refine wpAnyH_take (i := 17) (oi := ?ob17) (v := ?vb17) ?ib17 (by kernel_rfl) (by kernel_rfl) (by kernel_rfl) ?qb17 (Or.inl ⟨?wb17, ?yb17⟩) HS ?_; (case ib17 => (simp only [List.getElem?_toArray, List.getElem?_cons_succ, List.getElem?_cons_zero]; exact rfl)); (case qb17 => exact fun _ _ _ h => h); (case wb17 => rfl); (case yb17 => (intro w' hSw; (try dsimp only at hSw); go_simp <;> (with_reducible rfl))))
          try simp only [Act.put, List.setIfInBounds_toArray, List.set_cons_zero, List.set_cons_succ]
          first
            | (refine wpAnyH_take (i := 20) (oi := ?oa20) (v := undef) ?ia20 (by kernel_rfl) (by kernel_rfl) (by kernel_rfl) ?qa20 (Or.inr ⟨?wa20, rfl⟩) HS ?_; (case ia20 => (simp only [List.getElem?_toArray, List.getElem?_cons_succ, List.getElem?_cons_zero]; exact rfl)); (case qa20 => exact fun _ _ _ h => h); (case wa20 => rfl))
            | (refine wpAnyH_take (i := 20) (oi := ?ob20) (v := ?vb20) ?ib20 (by kernel_rfl) (by kernel_rfl) (by kernel_rfl) ?qb20 (Or.inl ⟨?wb20, ?yb20⟩) HS ?_; (case ib20 => (simp only [List.getElem?_toArray, List.getElem?_cons_succ, List.getElem?_cons_zero]; exact rfl)); (case qb20 => exact fun _ _ _ h => h); (case wb20 => rfl); (case yb20 => (intro w' hSw; (try dsimp only at hSw); go_simp <;> (with_reducible rfl))))
          try simp only [Act.put, List.setIfInBounds_toArray, List.set_cons_zero, List.set_cons_succ]
          first
            | (refine wpAnyH_take (i := 21) (oi := ?oa21) (v := undef) ?ia21 (by kernel_rfl) (by kernel_rfl) (by kernel_rfl) ?qa21 (Or.inr ⟨?wa21, rfl⟩) HS ?_; (case ia21 => (simp only [List.getElem?_toArray, List.getElem?_cons_succ, List.getElem?_cons_zero]; exact rfl)); (case qa21 => exact fun _ _ _ h => h); (case wa21 => rfl))
            | (refine wpAnyH_take (i := 21) (oi := ?ob21) (v := ?vb21) ?ib21 (by kernel_rfl) (by kernel_rfl) (by kernel_rfl) ?qb21 (Or.inl ⟨?wb21, ?yb21⟩) HS ?_; (case ib21 => (simp only [List.getElem?_toArray, List.getElem?_cons_succ, List.getElem?_cons_zero]; exact rfl)); (case qb21 => exact fun _ _ _ h => h); (case wb21 => rfl); (case yb21 => (intro w' hSw; (try dsimp only at hSw); go_simp <;> (with_reducible rfl))))
          try simp only [Act.put, List.setIfInBounds_toArray, List.set_cons_zero, List.set_cons_succ]
          first
            | (refine wpAnyH_take (i := 22) (oi := ?oa22) (v := undef) ?ia22 (by kernel_rfl) (by kernel_rfl) (by kernel_rfl) ?qa22 (Or.inr ⟨?wa22, rfl⟩) HS ?_; (case ia22 => (simp only [List.getElem?_toArray, List.getElem?_cons_succ, List.getElem?_cons_zero]; exact rfl)); (case qa22 => exact fun _ _ _ h => h); (case wa22 => rfl))
            | (refine wpAnyH_take (i := 22) (oi := ?ob22) (v := ?vb22) ?ib22 (by kernel_rfl) (by kernel_rfl) (by kernel_rfl) ?qb22 (Or.inl ⟨?wb22, ?yb22⟩) HS ?_; (case ib22 => (simp only [List.getElem?_toArray, List.getElem?_cons_succ, List.getElem?_cons_zero]; exact rfl)); (case qb22 => exact fun _ _ _ h => h); (case wb22 => rfl); (case yb22 => (intro w' hSw; (try dsimp only at hSw); go_simp <;> (with_reducible rfl))))
          try simp only [Act.put, List.setIfInBounds_toArray, List.set_cons_zero, List.set_cons_succ]
          refine wpAnyH_ready (rs := [18]) (by kernel_rfl) (by simp) ?_
          refine AllReadyH.cons (o := ?o18) ?i18 (fun K hK => ?_) AllReadyH.nil
          case i18 => (simp only [List.getElem?_toArray, List.getElem?_cons_succ, List.getElem?_cons_zero]; exact rfl)
          go_simp
          go_at_call 155; refine (CW.out _ (hg.trans (last3 HS))).mono ?_; rintro e w1 ⟨oa, oc, rfl, hb⟩
          refine hK.out _ _ ?s18 ?r18
          case s18 => (try dsimp only); first | exact held3 HS (Grew.refl _) | exact held3 HS hb
          case r18 =>
            clear HS
            intro HS
            clear hK K
            try simp only [Act.put, List.setIfInBounds_toArray, List.set_cons_zero, List.set_cons_succ]
            first
              | (refine wpAnyH_take (i := 19) (oi := ?oa19) (v := undef) ?ia19 (by kernel_rfl) (by kernel_rfl) (by kernel_rfl) ?qa19 (Or.inr ⟨?wa19, rfl⟩) HS ?_; (case ia19 => (simp only [List.getElem?_toArray, List.getElem?_cons_succ, List.getElem?_cons_zero]; exact rfl)); (case qa19 => exact fun _ _ _ h => h); (case wa19 => rfl))
              | (refine wpAnyH_take (i := 19) (oi := ?ob19) (v := ?vb19) ?ib19 (by kernel_rfl) (by kernel_rfl) (by kernel_rfl) ?qb19 (Or.inl ⟨?wb19, ?yb19⟩) HS ?_; (case ib19 => (simp only [List.getElem?_toArray, List.getElem?_cons_succ, List.getElem?_cons_zero]; exact rfl)); (case qb19 => exact fun _ _ _ h => h); (case wb19 => rfl); (case yb19 => (intro w' hSw; (try dsimp only at hSw); go_simp <;> (with_reducible rfl))))
            try simp only [Act.put, List.setIfInBounds_toArray, List.set_cons_zero, List.set_cons_succ]
            first
              | (refine wpAnyH_take (i := 23) (oi := ?oa23) (v := undef) ?ia23 (by kernel_rfl) (by kernel_rfl) (by kernel_rfl) ?qa23 (Or.inr ⟨?wa23, rfl⟩) HS ?_; (case ia23 => (simp only [List.getElem?_toArray, List.getElem?_cons_succ, List.getElem?_cons_zero]; exact rfl)); (case qa23 => exact fun _ _ _ h => h); (case wa23 => rfl))
              | (refine wpAnyH_take (i := 23) (oi := ?ob23) (v := ?vb23) ?ib23 (by kernel_rfl) (by kernel_rfl) (by kernel_rfl) ?qb23 (Or.inl ⟨?wb23, ?yb23⟩) HS ?_; (case ib23 => (simp only [List.getElem?_toArray, List.getElem?_cons_succ, List.getElem?_cons_zero]; exact rfl)); (case qb23 => exact fun _ _ _ h => h); (case wb23 => rfl); (case yb23 => (intro w' hSw; (try dsimp only at hSw); go_simp <;> (with_reducible rfl))))
            try simp only [Act.put, List.setIfInBounds_toArray, List.set_cons_zero, List.set_cons_succ]
            first
              | (refine wpAnyH_take (i := 24) (oi := ?oa24) (v := undef) ?ia24 (by kernel_rfl) (by kernel_rfl) (by kernel_rfl) ?qa24 (Or.inr ⟨?wa24, rfl⟩) HS ?_; (case ia24 => (simp only [List.getElem?_toArray, List.getElem?_cons_succ, List.getElem?_cons_zero]; exact rfl)); (case qa24 => exact fun _ _ _ h => h); (case wa24 => rfl))
              | (refine wpAnyH_take (i := 24) (oi := ?ob24) (v := ?vb24) ?ib24 (by kernel_rfl) (by kernel_rfl) (by kernel_rfl) ?qb24 (Or.inl ⟨?wb24, ?yb24⟩) HS ?_; (case ib24 => (simp only [List.getElem?_toArray, List.getElem?_cons_succ, List.getElem?_cons_zero]; exact rfl)); (case qb24 => exact fun _ _ _ h => h); (case wb24 => rfl); (case yb24 => (intro w' hSw; (try dsimp only at hSw); go_simp <;> (with_reducible rfl))))
            try simp only [Act.put, List.setIfInBounds_toArray, List.set_cons_zero, List.set_cons_succ]
            first
              | (refine wpAnyH_take (i := 25) (oi := ?oa25) (v := undef) ?ia25 (by kernel_rfl) (by kernel_rfl) (by kernel_rfl) ?qa25 (Or.inr ⟨?wa25, rfl⟩) HS ?_; (case ia25 => (simp only [List.getElem?_toArray, List.getElem?_cons_succ, List.getElem?_cons_zero]; exact rfl)); (case qa25 => exact fun _ _ _ h => h); (case wa25 => rfl))
              | (refine wpAnyH_take (i := 25) (oi := ?ob25) (v := ?vb25) ?ib25 (by kernel_rfl) (by kernel_rfl) (by kernel_rfl) ?qb25 (Or.inl ⟨?wb25, ?yb25⟩) HS ?_; (case ib25 => (simp only [List.getElem?_toArray, List.getElem?_cons_succ, List.getElem?_cons_zero]; exact rfl)); (case qb25 => exact fun _ _ _ h => h); (case wb25 => rfl); (case yb25 => (intro w' hSw; (try dsimp only at hSw); go_simp <;> (with_reducible rfl))))
            try simp only [Act.put, List.setIfInBounds_toArray, List.set_cons_zero, List.set_cons_succ]
            first
              | (refine wpAnyH_take (i := 26) (oi := ?oa26) (v := undef) ?ia26 (by kernel_rfl) (by kernel_rfl) (by kernel_rfl) ?qa26 (Or.inr ⟨?wa26, rfl⟩) HS ?_; (case ia26 => (simp only [List.getElem?_toArray, List.getElem?_cons_succ, List.getElem?_cons_zero]; exact rfl)); (case qa26 => exact fun _ _ _ h => h); (case wa26 => rfl))
              | (refine wpAnyH_take (i := 26) (oi := ?ob26) (v := ?vb26) ?ib26 (by kernel_rfl) (by kernel_rfl) (by kernel_rfl) ?qb26 (Or.inl ⟨?wb26, ?yb26⟩) HS ?_; (case ib26 => (simp only [List.getElem?_toArray, List.getElem?_cons_succ, List.getElem?_cons_zero]; exact rfl)); (case qb26 => exact fun _ _ _ h => h); (case wb26 => rfl); (case yb26 => (intro w' hSw; (try dsimp only at hSw); go_simp <;> (with_reducible rfl))))
            try simp only [Act.put, List.setIfInBounds_toArray, List.set_cons_zero, List.set_cons_succ]
            first
              | (refine wpAnyH_take (i := 27) (oi := ?oa27) (v := undef) ?ia27 (by kernel_rfl) (by kernel_rfl) (by kernel_rfl) ?qa27 (Or.inr ⟨?wa27, rfl⟩) HS ?_; (case ia27 => (simp only [List.getElem?_toArray, List.getElem?_cons_succ, List.getElem?_cons_zero]; exact rfl)); (case qa27 => exact fun _ _ _ h => h); (case wa27 => rfl))
              | (refine wpAnyH_take (i := 27) (oi := ?ob27) (v := ?vb27) ?ib27 (by kernel_rfl) (by kernel_rfl) (by kernel_rfl) ?qb27 (Or.inl ⟨?wb27, ?yb27⟩) HS ?_; (case ib27 => (simp only [List.getElem?_toArray, List.getElem?_cons_succ, List.getElem?_cons_zero]; exact rfl)); (case qb27 => exact fun _ _ _ h => h); (case wb27 => rfl); (case yb27 => (intro w' hSw; (try dsimp only at hSw); go_simp <;> (with_reducible rfl))))
            try simp only [Act.put, List.setIfInBounds_toArray, List.set_cons_zero, List.set_cons_succ]
            first
              | (refine wpAnyH_take (i := 28) (oi := ?oa28) (v := undef) ?ia28 (by kernel_rfl) (by kernel_rfl) (by kernel_rfl) ?qa28 (Or.inr ⟨?wa28, rfl⟩) HS ?_; (case ia28 => (simp only [List.getElem?_toArray, List.getElem?_cons_succ, List.getElem?_cons_zero]; exact rfl)); (case qa28 => exact fun _ _ _ h => h); (case wa28 => rfl))
              | (refine wpAnyH_take (i := 28) (oi := ?ob28) (v := ?vb28) ?ib28 (by kernel_rfl) (by kernel_rfl) (by kernel_rfl) ?qb28 (Or.inl ⟨?wb28, ?yb28⟩) HS ?_; (case ib28 => (simp only [List.getElem?_toArray, List.getElem?_cons_succ, List.getElem?_cons_zero]; exact rfl)); (case qb28 => exact fun _ _ _ h => h); (case wb28 => rfl); (case yb28 => (intro w' hSw; (try dsimp only at hSw); go_simp <;> (with_reducible rfl))))
            try simp only [Act.put, List.setIfInBounds_toArray, List.set_cons_zero, List.set_cons_succ]
            first
              | (refine wpAnyH_take (i := 29) (oi := ?oa29) (v := undef) ?ia29 (by kernel_rfl) (by kernel_rfl) (by kernel_rfl) ?qa29 (Or.inr ⟨?wa29, rfl⟩) HS ?_; (case ia29 => (simp only [List.getElem?_toArray, List.getElem?_cons_succ, List.getElem?_cons_zero]; exact rfl)); (case qa29 => exact fun _ _ _ h => h); (case wa29 => rfl))
              | (refine wpAnyH_take (i := 29) (oi := ?ob29) (v := ?vb29) ?ib29 (by kernel_rfl) (by kernel_rfl) (by kernel_rfl) ?qb29 (Or.inl ⟨?wb29, ?yb29⟩) HS ?_; (case ib29 => (simp only [List.getElem?_toArray, List.getElem?_cons_succ, List.getElem?_cons_zero]; exact rfl)); (case qb29 => exact fun _ _ _ h => h); (case wb29 => rfl); (case yb29 => (intro w' hSw; (try dsimp only at hSw); go_simp <;> (with_reducible rfl))))
            try simp only [Act.put, List.setIfInBounds_toArray, List.set_cons_zero, List.set_cons_succ]
            first
              | (refine wpAnyH_take (i := 30) (oi := ?oa30) (v := undef) ?ia30 (by kernel_rfl) (by kernel_rfl) (by kernel_rfl) ?qa30 (Or.inr ⟨?wa30, rfl⟩) HS ?_; (case ia30 => (simp only [List.getElem?_toArray, List.getElem?_cons_succ, List.getElem?_cons_zero]; exact rfl)); (case qa30 => exact fun _ _ _ h => h); (case wa30 => rfl))
              | (refine wpAnyH_take (i := 30) (oi := ?ob30) (v := ?vb30) ?ib30 (by kernel_rfl) (by kernel_rfl) (by kernel_rfl) ?qb30 (Or.inl ⟨?wb30, ?yb30⟩) HS ?_; (case ib30 => (simp only [List.getElem?_toArray, List.getElem?_cons_succ, List.getElem?_cons_zero]; exact rfl)); (case qb30 => exact fun _ _ _ h => h); (case wb30 => rfl); (case yb30 => (intro w' hSw; (try dsimp only at hSw); go_simp <;> (with_reducible rfl))))
            try simp only [Act.put, List.setIfInBounds_toArray, List.set_cons_zero, List.set_cons_succ]
            first
              | (refine wpAnyH_take (i := 31) (oi := ?oa31) (v := undef) ?ia31 (by kernel_rfl) (by kernel_rfl) (by kernel_rfl) ?qa31 (Or.inr ⟨?wa31, rfl⟩) HS ?_; (case ia31 => (simp only [List.getElem?_toArray, List.getElem?_cons_succ, List.getElem?_cons_zero]; exact rfl)); (case qa31 => exact fun _ _ _ h => h); (case wa31 => rfl))
              | (refine wpAnyH_take (i := 31) (oi := ?ob31) (v := ?vb31) ?ib31 (by kernel_rfl) (by kernel_rfl) (by kernel_rfl) ?qb31 (Or.inl ⟨?wb31, ?yb31⟩) HS ?_; (case ib31 => (simp only [List.getElem?_toArray, List.getElem?_cons_succ, List.getElem?_cons_zero]; exact rfl)); (case qb31 => exact fun _ _ _ h => h); (case wb31 => rfl); (case yb31 => (intro w' hSw; (try dsimp only at hSw); go_simp <;> (with_reducible rfl))))
            try simp only [Act.put, List.setIfInBounds_toArray, List.set_cons_zero, List.set_cons_succ]
            first
              | (refine wpAnyH_take (i := 32) (oi := ?oa32) (v := undef) ?ia32 (by kernel_rfl) (by kernel_rfl) (by kernel_rfl) ?qa32 (Or.inr ⟨?wa32, rfl⟩) HS ?_; (case ia32 => (simp only [List.getElem?_toArray, List.getElem?_cons_succ, List.getElem?_cons_zero]; exact rfl)); (case qa32 => exact fun _ _ _ h => h); (case wa32 => rfl))
              | (refine wpAnyH_take (i := 32) (oi := ?ob32) (v := ?vb32) ?ib32 (by kernel_rfl) (by kernel_rfl) (by kernel_rfl) ?qb32 (Or.inl ⟨?wb32, ?yb32⟩) HS ?_; (case ib32 => (simp only [List.getElem?_toArray, List.getElem?_cons_succ, List.getElem?_cons_zero]; exact rfl)); (case qb32 => exact fun _ _ _ h => h); (case wb32 => rfl); (case yb32 => (intro w' hSw; (try dsimp only at hSw); go_simp <;> (with_reducible rfl))))
            try simp only [Act.put, List.setIfInBounds_toArray, List.set_cons_zero, List.set_cons_succ]
            first
              | (refine wpAnyH_take (i := 33) (oi := ?oa33) (v := undef) ?ia33 (by kernel_rfl) (by kernel_rfl) (by kernel_rfl) ?qa33 (Or.inr ⟨?wa33, rfl⟩) HS ?_; (case ia33 => (simp only [List.getElem?_toArray, List.getElem?_cons_succ, List.getElem?_cons_zero]; exact rfl)); (case qa33 => exact fun _ _ _ h => h); (case wa33 => rfl))
              | (refine wpAnyH_take (i := 33) (oi := ?ob33) (v := ?vb33) ?ib33 (by kernel_rfl) (by kernel_rfl) (by kernel_rfl) ?qb33 (Or.inl ⟨?wb33, ?yb33⟩) HS ?_; (case ib33 => (simp only [List.getElem?_toArray, List.getElem?_cons_succ, List.getElem?_cons_zero]; exact rfl)); (case qb33 => exact fun _ _ _ h => h); (case wb33 => rfl); (case yb33 => (intro w' hSw; (try dsimp only at hSw); go_simp <;> (with_reducible rfl))))
            try simp only [Act.put, List.setIfInBounds_toArray, List.set_cons_zero, List.set_cons_succ]
            first
              | (refine wpAnyH_take (i := 34) (oi := ?oa34) (v := undef) ?ia34 (by kernel_rfl) (by kernel_rfl) (by kernel_rfl) ?qa34 (Or.inr ⟨?wa34, rfl⟩) HS ?_; (case ia34 => (simp only [List.getElem?_toArray, List.getElem?_cons_succ, List.getElem?_cons_zero]; exact rfl)); (case qa34 => exact fun _ _ _ h => h); (case wa34 => rfl))
              | (refine wpAnyH_take (i := 34) (oi := ?ob34) (v := ?vb34) ?ib34 (by kernel_rfl) (by kernel_rfl) (by kernel_rfl) ?qb34 (Or.inl ⟨?wb34, ?yb34⟩) HS ?_; (case ib34 => (simp only [List.getElem?_toArray, List.getElem?_cons_succ, List.getElem?_cons_zero]; exact rfl)); (case qb34 => exact fun _ _ _ h => h); (case wb34 => rfl); (case yb34 => (intro w' hSw; (try dsimp only at hSw); go_simp <;> (with_reducible rfl))))
            try simp only [Act.put, List.setIfInBounds_toArray, List.set_cons_zero, List.set_cons_succ]
            first
              | (refine wpAnyH_take (i := 35) (oi := ?oa35) (v := undef) ?ia35 (by kernel_rfl) (by kernel_rfl) (by kernel_rfl) ?qa35 (Or.inr ⟨?wa35, rfl⟩) HS ?_; (case ia35 => (simp only [List.getElem?_toArray, List.getElem?_cons_succ, List.getElem?_cons_zero]; exact rfl)); (case qa35 => exact fun _ _ _ h => h); (case wa35 => rfl))
              | (refine wpAnyH_take (i := 35) (oi := ?ob35) (v := ?vb35) ?ib35 (by kernel_rfl) (by kernel_rfl) (by kernel_rfl) ?qb35 (Or.inl ⟨?wb35, ?yb35⟩) HS ?_; (case ib35 => (simp only [List.getElem?_toArray, List.getElem?_cons_succ, List.getElem?_cons_zero]; exact rfl)); (case qb35 => exact fun _ _ _ h => h); (case wb35 => rfl); (case yb35 => (intro w' hSw; (try dsimp only at hSw); go_simp <;> (with_reducible rfl))))
            try simp only [Act.put, List.setIfInBounds_toArray, List.set_cons_zero, List.set_cons_succ]
            refine wpAnyH_done (by kernel_rfl) ?_ _
            refine NoPanic.normal ?_
            go_wp2
            go_ret
            refine ⟨ret_bool ?_, hg.trans (last3 (by assumption))⟩
            have hw : IntKind.i64.wrap ((n : Int) + (m : Int)) = (n : Int) + (m : Int) := by simp [IntKind.wrap, IntKind.bits, IntKind.signed]; omega
            go_light
            rw [hw]
            simp
            omega
set_option maxRecDepth 100000 in
set_option maxHeartbeats 1000000 in
theorem implIsValidDiff (x : Df) (p : P3) (w : World) (h : Df.R w x p) (hx : x.small) (hs : x.name.size ≤ 4000000) :
    Calls Try.prog 60 #[p.v] w fun e w' => e = .returned (.bool (difB x)) ∧ Grew w w' := by
  obtain ⟨pn, pq, pr⟩ := p
  obtain ⟨hn, hq, hr⟩ := h
  simp only at hn hq hr
  subst hn
  obtain ⟨h1, h2⟩ := hx
  have HQ := Lib.hid hq
  have HR := Lib.hid hr
  obtain ⟨qa, qc, rfl, hqc, hqr⟩ := hq
  obtain ⟨ra, rc, rfl, hrc, hrr⟩ := hr
  clear hrr hqr
  obtain ⟨t1, ht1⟩ : ∃ b, b = txtB x.name 6 := ⟨_, rfl⟩
  obtain ⟨t2, ht2⟩ : ∃ b, b = risB x.added := ⟨_, rfl⟩
  obtain ⟨t3, ht3⟩ : ∃ b, b = risB x.removed := ⟨_, rfl⟩
  obtain ⟨l, hl⟩ : ∃ b, b = (wo x.added x.removed).length := ⟨_, rfl⟩
  have HD := Lib.hid (show difB x = ((l == x.added.length) && (t1 && (t2 && (t3 && decide (0 < x.added.length + x.removed.length))))) by
    rw [ht1, ht2, ht3, hl, difB])
  have H1 := Lib.hid ht1
  have H2 := Lib.hid ht2
  have H3 := Lib.hid ht3
  have HL := Lib.hid hl
  clear ht1 ht2 ht3 hl
  have hcs : t1 = false ∨ t1 = true ∧ (t2 = false ∨ t2 = true ∧ (t3 = false ∨ t3 = true ∧ (((l : Int) == (x.added.length : Int)) = false ∨ ((l : Int) == (x.added.length : Int)) = true))) := by cases t1 <;> cases t2 <;> cases t3 <;> cases ((l : Int) == (x.added.length : Int)) <;> simp
  have CS := Lib.hid (fun w => (implIsValidString x.name w hs).mono (fun e w' ⟨he, hw⟩ => (⟨by rw [he, ← H1.out], hw.symm⟩ : e = Ending.returned (.bool t1) ∧ w' = w)))
  have CA := Lib.hid (fun w0 (h : Grew w w0) => (isAscending _ _ x.added w0 (HQ.out.grew h) h1).mono (fun e w' ⟨he, hw⟩ => (⟨by rw [he, ← H2.out], hw⟩ : e = Ending.returned (.bool t2) ∧ ∃ m, w' = w0.drewN m)))
  have CB := Lib.hid (fun w0 (h : Grew w w0) => (isAscending _ _ x.removed w0 (HR.out.grew h) h2).mono (fun e w' ⟨he, hw⟩ => (⟨by rw [he, ← H3.out], hw⟩ : e = Ending.returned (.bool t3) ∧ ∃ m, w' = w0.drewN m)))
  rcases hcs with rfl | ⟨rfl, rfl | ⟨rfl, rfl | ⟨rfl, hq⟩⟩⟩
  · go_enter Try.func60, Try.ntmps60
    go_wp2_with fail
    have c0 : (w.alloc (.cells #[.string x.name, .slice qa x.added.length qc, .slice ra x.removed.length rc] 80)).cell? ⟨w.heap.size, 0, none⟩ = some (.string x.name) := by simp
    have c1 : (w.alloc (.cells #[.string x.name, .slice qa x.added.length qc, .slice ra x.removed.length rc] 80)).cell? ⟨w.heap.size, 1, none⟩ = some (.slice qa x.added.length qc) := by simp
    have c2 : (w.alloc (.cells #[.string x.name, .slice qa x.added.length qc, .slice ra x.removed.length rc] 80)).cell? ⟨w.heap.size, 2, none⟩ = some (.slice ra x.removed.length rc) := by simp
    have hg := (Grew.refl w).alloc (.cells #[.string x.name, .slice qa x.added.length qc, .slice ra x.removed.length rc] 80)
    generalize w.alloc (.cells #[.string x.name, .slice qa x.added.length qc, .slice ra x.removed.length rc] 80) = W at c0 c1 c2 hg ⊢
    go_quiet ((go_at_call 159; exact Calls.quiet_of_same (CS.out _)))
    go_wp2
    go_ret
    exact ⟨ret_bool (by rw [HD.out]; simp), hg.drewN _⟩
  · go_enter Try.func60, Try.ntmps60
    go_wp2_with fail
    have c0 : (w.alloc (.cells #[.string x.name, .slice qa x.added.length qc, .slice ra x.removed.length rc] 80)).cell? ⟨w.heap.size, 0, none⟩ = some (.string x.name) := by simp
    have c1 : (w.alloc (.cells #[.string x.name, .slice qa x.added.length qc, .slice ra x.removed.length rc] 80)).cell? ⟨w.heap.size, 1, none⟩ = some (.slice qa x.added.length qc) := by simp
    have c2 : (w.alloc (.cells #[.string x.name, .slice qa x.added.length qc, .slice ra x.removed.length rc] 80)).cell? ⟨w.heap.size, 2, none⟩ = some (.slice ra x.removed.length rc) := by simp
    have hg := (Grew.refl w).alloc (.cells #[.string x.name, .slice qa x.added.length qc, .slice ra x.removed.length rc] 80)
    generalize w.alloc (.cells #[.string x.name, .slice qa x.added.length qc, .slice ra x.removed.length rc] 80) = W at c0 c1 c2 hg ⊢
    go_quiet (first | (go_at_call 159; exact Calls.quiet_of_same (CS.out _)) | (go_at_call 160; with_reducible exact Calls.quiet_of (CA.out _ (hg.drewN _))))
    go_wp2
    go_ret
    exact ⟨ret_bool (by rw [HD.out]; simp), hg.drewN _⟩
  · go_enter Try.func60, Try.ntmps60
    go_wp2_with fail
    have c0 : (w.alloc (.cells #[.string x.name, .slice qa x.added.length qc, .slice ra x.removed.length rc] 80)).cell? ⟨w.heap.size, 0, none⟩ = some (.string x.name) := by simp
    have c1 : (w.alloc (.cells #[.string x.name, .slice qa x.added.length qc, .slice ra x.removed.length rc] 80)).cell? ⟨w.heap.size, 1, none⟩ = some (.slice qa x.added.length qc) := by simp
    have c2 : (w.alloc (.cells #[.string x.name, .slice qa x.added.length qc, .slice ra x.removed.length rc] 80)).cell? ⟨w.heap.size, 2, none⟩ = some (.slice ra x.removed.length rc) := by simp
    have hg := (Grew.refl w).alloc (.cells #[.string x.name, .slice qa x.added.length qc, .slice ra x.removed.length rc] 80)
    generalize w.alloc (.cells #[.string x.name, .slice qa x.added.length qc, .slice ra x.removed.length rc] 80) = W at c0 c1 c2 hg ⊢
    go_quiet (first | (go_at_call 159; exact Calls.quiet_of_same (CS.out _)) | (go_at_call 160; with_reducible exact Calls.quiet_of (CA.out _ (hg.drewN _))) | (go_at_call 160; with_reducible exact Calls.quiet_of (CB.out _ (hg.drewN _))))
    go_wp2
    go_ret
    exact ⟨ret_bool (by rw [HD.out]; simp), hg.drewN _⟩
  · have CW := Lib.hid (fun w0 (h : Grew w w0) => (implWithout _ _ _ _ x.added x.removed w0 (HQ.out.grew h) (HR.out.grew h) h1 h2).mono (fun e w' ⟨v, he, hown, hw⟩ => by
      rw [← HL.out] at hown
      obtain ⟨oa, oc, rfl⟩ := own_slice hown
      exact (⟨oa, oc, he, hw⟩ : ∃ oa oc, e = Ending.returned (.slice oa l oc) ∧ Grew w0 w')))
    have CA' := Lib.hid (fun w0 (h : Grew w w0) => (CA.out w0 h).mono (fun e w' ⟨he, hw⟩ => (⟨he, grew_quiet hw⟩ : e = Ending.returned (.bool true) ∧ Grew w0 w')))
    have CB' := Lib.hid (fun w0 (h : Grew w w0) => (CB.out w0 h).mono (fun e w' ⟨he, hw⟩ => (⟨he, grew_quiet hw⟩ : e = Ending.returned (.bool true) ∧ Grew w0 w')))
    rcases hq with hq | hq
    · refine (diffEndNo _ _ _ _ _ _ _ _ _ CS CA' CB' CW h1 h2 hq).mono ?_
      rintro e w' ⟨rfl, hb⟩
      refine ⟨ret_bool ?_, hb⟩
      have h3 : ¬ l = x.added.length := by simp at hq; omega
      rw [HD.out, beq_false_of_ne h3]; rfl
    · refine (diffEndYes _ _ _ _ _ _ _ _ _ CS CA' CB' CW h1 h2 hq).mono ?_
      rintro e w' ⟨rfl, hb⟩
      refine ⟨ret_bool ?_, hb⟩
      have h3 : l = x.added.length := by simp at hq; omega
      rw [HD.out, h3, beq_self_eq_true]; rfl
end Go.Proofs.Ytejgpghcahinhaa
