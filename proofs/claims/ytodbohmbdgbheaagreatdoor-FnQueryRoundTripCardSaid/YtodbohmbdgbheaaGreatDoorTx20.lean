/- Contracts: ParseQuery of the reference. -/
import Derived.Test.YtodbohmbdgbheaaGreatDoorTx18
namespace Go.Proofs.YtodbohmbdgbheaaGreatDoor
open Go.RowKit
set_option linter.unusedVariables false
theorem empty_ne {t : By} (h : t ≠ ⟨#[]⟩) : (t.toList == []) = false := by
  have h1 := str_ne h
  have h2 : (⟨#[]⟩ : By).toList = [] := by rw [Lib.toList_data]
  rw [h2] at h1
  exact h1
/-- What ParseQuery gives. -/
noncomputable def pqB (s : By) : Bool := sfB s && okI (sfL s)
noncomputable def pqN (s : By) : List N := if pqB s = true then (rdI ((sfL s).length + 10) (sfL s) []).2.2 else []
theorem pq_no {s : By} (h : pqB s = false) : pqN s = [] := by unfold pqN; rw [h]; rfl
theorem pq_yes {s : By} (h : pqB s = true) : pqN s = (rdI ((sfL s).length + 10) (sfL s) []).2.2 := by unfold pqN; rw [if_pos h]
theorem rdF_own {w : World} {base : Nat} {e : TypeId} {v : Value} {n : Nat} {ws : List By} (h : w.ownsRow base e 1 v n (strs ws)) (hv : v ≠ .slice none 0 0) : ∃ F, base ≤ F ∧ F < w.heap.size ∧ RdF w F v ws := by
  have hl : ws.length = n := by have := h.1; simpa using this
  have h0 := h
  obtain ⟨_, ⟨rfl, h1⟩ | ⟨g, cap, cur, rfl, hb, hg, hc, _, _, _⟩⟩ := h
  · exact absurd rfl hv
  · have hlt := (Array.getElem?_eq_some_iff.1 hg).1
    refine ⟨g, hb, hlt, 0, cap, by rw [hl], by omega, hlt, fun j x hx => ?_⟩
    have hj := (List.getElem?_eq_some_iff.1 hx).1
    rw [Nat.zero_add, h0.cellAt j (by omega)]
    simp [hx]
theorem pq_len {s : By} (h : pqB s = true) : (pqN s).length ≤ 9 := by
  rw [pq_yes h]
  unfold pqB at h
  simp only [Bool.and_eq_true] at h
  exact (txq_len (okI_rq h.2).2).2
set_option maxRecDepth 100000 in
set_option maxHeartbeats 4000000 in
theorem specParseQuery (s : By) (hs : s.size ≤ 4000000) (w : World) :
    Calls Tryz.prog 10 #[.string s] w fun e w' => ∃ v, e = .returned (.tuple #[v, .bool (pqB s)]) ∧ w'.ownsRow w.heap.size 38 7 v (pqN s).length (rows N.c (pqN s)) ∧ Grew w w' := by
  obtain ⟨b, hb_⟩ : ∃ b, sfB s = b := ⟨_, rfl⟩
  have HSB := Lib.hid hb_
  cases b with
  | false =>
    have HP := Lib.hid (show pqB s = false by unfold pqB; rw [hb_]; rfl)
    clear hb_
    go_enter Tryz.func10, Tryz.ntmps10
    go_wp2_with (go_at_call 32; refine (specSplitFields s hs _).mono ?_; rintro e w1 ⟨v1, he, _, _, g1⟩; rw [HSB.out] at he; subst he)
    go_ret2
    refine ⟨_, (by rw [HP.out] <;> rfl), ?_, g1.alloc _⟩
    rw [pq_no HP.out]
    exact ownsRow_base (lit_own w1 38 7) g1.size
  | true =>
    obtain ⟨hsh, hp24⟩ := sfL_short hb_
    have HSH := Lib.hid hsh
    obtain ⟨p, hp_⟩ : ∃ y, sfL s = y := ⟨_, rfl⟩
    have HPP := Lib.hid hp_
    rw [hp_] at hp24
    have HSH2 := Lib.hid (show ∀ x, x ∈ p → x.size ≤ 600 by rw [← hp_]; exact hsh)
    have hsame := parse_same p
    obtain ⟨A, hA_⟩ : ∃ y, rdS (p.length + 10) p [] 0 = y := ⟨_, rfl⟩
    have HA := Lib.hid hA_
    have hal := rdS_len (p.length + 10) p [] 0
    have hash := rdS_short (p.length + 10) p [] 0 HSH2.out (fun x hx => by cases hx)
    have hau := (rdS_used (p.length + 10) p [] 0).1
    rw [hA_] at hal hash hau hsame
    obtain ⟨A1, a2⟩ := A
    dsimp only at hal hash hau hsame
    simp only [List.length_nil] at hal
    have hal2 : A1.length ≤ 50 := by omega
    have hsz := short_sz A1 hash
    have hsz2 : szAll N.sz A1 ≤ 4000000 := by omega
    clear hash hsz hal
    have HOK := Lib.hid (show okS p = pqB s by rw [hsame.1]; unfold pqB; rw [hb_, hp_]; rfl)
    have HSAME := Lib.hid (fun (h : pqB s = true) => show A1 = pqN s by
      rw [pq_yes h, hp_]
      exact hsame.2 (by unfold pqB at h; rw [hp_] at h; simp only [Bool.and_eq_true] at h; exact h.2))
    have HOS := Lib.hid (show okS p = (decide (a2 = p.length) && (!(txq A1).isEmpty && decide (txq A1 = Lib.join (bys p) [32]))) by unfold okS; rw [hA_])
    clear hsame hA_ hb_ hsh hp_
    obtain ⟨T, hT_⟩ : ∃ y, (⟨(txq A1).toArray⟩ : By) = y := ⟨_, rfl⟩
    have HT := Lib.hid hT_
    obtain ⟨J, hJ_⟩ : ∃ y, (⟨(Lib.join (bys p) [32]).toArray⟩ : By) = y := ⟨_, rfl⟩
    have HJ := Lib.hid hJ_
    have HTE := Lib.hid (show (txq A1).isEmpty = decide (T = ⟨#[]⟩) by
      rw [← hT_]; cases txq A1 <;> simp)
    have HTJ := Lib.hid (show decide (txq A1 = Lib.join (bys p) [32]) = decide (T = J) by
      rw [← hT_, ← hJ_]
      by_cases h : txq A1 = Lib.join (bys p) [32]
      · rw [h]; simp
      · rw [decide_eq_false h, decide_eq_false]
        intro h2
        apply h
        have h3 := congrArg (fun b : By => b.data.toList) h2
        simpa using h3)
    clear hT_ hJ_
    by_cases hk : a2 = p.length
    · subst hk
      by_cases ht : T = ⟨#[]⟩
      · have HP := Lib.hid (show pqB s = false by rw [← HOK.out, HOS.out, HTE.out, decide_eq_true ht]; simp)
        subst ht
        go_enter Tryz.func10, Tryz.ntmps10
        go_wp2_with (first | (go_at_call 32; refine (specSplitFields s hs _).mono ?_; rintro e w1 ⟨v1, he, o1, hv1, g1⟩; rw [HSB.out] at he; rw [HPP.out] at o1; subst he; obtain ⟨F, hF1, hF2, R1⟩ := rdF_own o1 hv1; have RP := Lib.hid R1; obtain ⟨po, pc, rfl, _, _, _⟩ := R1; clear o1 hv1) | (go_at_call 33; refine (specL10Read p _ F w1.heap.size (by omega) (fun x hx => by have := HSH2.out x hx; omega) hF2 (p.length + 10) 0 [] 0 _ _ (by omega) (by omega) (by omega) (by omega) (by simp) (RP.out.grew ((Grew.refl _).alloc _)) (lit_own w1 38 7) (by simp)).mono ?_; rintro e w2 ⟨v2, he, o2, x2⟩; rw [List.drop_zero, HA.out] at he o2; dsimp only at he o2; subst he; have G2 : Grew w1 w2 := x2.grewTo ((Grew.refl w1).alloc _) (fun k hk => by cases hk) (fun k hk => by have : w1.heap.size = k := Option.some.inj hk; omega); have O2 := Lib.hid o2; obtain ⟨va, vc, rfl⟩ := own_slice o2; clear o2 x2) | (go_at_call 13; refine (specFormatQuery A1 _ _ (rd_of_own O2.out) (by omega) hsz2).mono ?_; rintro e w3 ⟨he, g3⟩; rw [HT.out] at he; subst he) | (go_at_call 34; refine (l10Join p _ F _ ((RP.out.grew G2).grew g3) hp24 HSH2.out).mono ?_; rintro e w4 ⟨he, rfl⟩; rw [HJ.out] at he; subst he))
        go_ret2
        refine ⟨_, (by rw [HP.out] <;> rfl), ?_, ((g1.trans G2).trans g3).alloc _⟩
        rw [pq_no HP.out]
        exact ownsRow_base (lit_own _ 38 7) (by have := g1.size; have := G2.size; have := g3.size; omega)
      · have hte := empty_ne ht
        by_cases hj : T = J
        · have HP := Lib.hid (show pqB s = true by rw [← HOK.out, HOS.out, HTE.out, HTJ.out, decide_eq_true hj, decide_eq_false ht]; simp)
          subst hj
          go_enter Tryz.func10, Tryz.ntmps10
          go_wp2_with (first | (go_at_call 32; refine (specSplitFields s hs _).mono ?_; rintro e w1 ⟨v1, he, o1, hv1, g1⟩; rw [HSB.out] at he; rw [HPP.out] at o1; subst he; obtain ⟨F, hF1, hF2, R1⟩ := rdF_own o1 hv1; have RP := Lib.hid R1; obtain ⟨po, pc, rfl, _, _, _⟩ := R1; clear o1 hv1) | (go_at_call 33; refine (specL10Read p _ F w1.heap.size (by omega) (fun x hx => by have := HSH2.out x hx; omega) hF2 (p.length + 10) 0 [] 0 _ _ (by omega) (by omega) (by omega) (by omega) (by simp) (RP.out.grew ((Grew.refl _).alloc _)) (lit_own w1 38 7) (by simp)).mono ?_; rintro e w2 ⟨v2, he, o2, x2⟩; rw [List.drop_zero, HA.out] at he o2; dsimp only at he o2; subst he; have G2 : Grew w1 w2 := x2.grewTo ((Grew.refl w1).alloc _) (fun k hk => by cases hk) (fun k hk => by have : w1.heap.size = k := Option.some.inj hk; omega); have O2 := Lib.hid o2; obtain ⟨va, vc, rfl⟩ := own_slice o2; clear o2 x2) | (go_at_call 13; refine (specFormatQuery A1 _ _ (rd_of_own O2.out) (by omega) hsz2).mono ?_; rintro e w3 ⟨he, g3⟩; rw [HT.out] at he; subst he) | (go_at_call 34; refine (l10Join p _ F _ ((RP.out.grew G2).grew g3) hp24 HSH2.out).mono ?_; rintro e w4 ⟨he, rfl⟩; rw [HJ.out] at he; subst he))
          go_ret2
          refine ⟨_, (by rw [HP.out] <;> rfl), ?_, (g1.trans G2).trans g3⟩
          rw [← HSAME.out HP.out]
          exact ownsRow_base (ownsRow_grew O2.out g3) g1.size
        · have hne := str_ne hj
          have HP := Lib.hid (show pqB s = false by rw [← HOK.out, HOS.out, HTJ.out, decide_eq_false hj]; simp)
          go_enter Tryz.func10, Tryz.ntmps10
          go_wp2_with (first | (go_at_call 32; refine (specSplitFields s hs _).mono ?_; rintro e w1 ⟨v1, he, o1, hv1, g1⟩; rw [HSB.out] at he; rw [HPP.out] at o1; subst he; obtain ⟨F, hF1, hF2, R1⟩ := rdF_own o1 hv1; have RP := Lib.hid R1; obtain ⟨po, pc, rfl, _, _, _⟩ := R1; clear o1 hv1) | (go_at_call 33; refine (specL10Read p _ F w1.heap.size (by omega) (fun x hx => by have := HSH2.out x hx; omega) hF2 (p.length + 10) 0 [] 0 _ _ (by omega) (by omega) (by omega) (by omega) (by simp) (RP.out.grew ((Grew.refl _).alloc _)) (lit_own w1 38 7) (by simp)).mono ?_; rintro e w2 ⟨v2, he, o2, x2⟩; rw [List.drop_zero, HA.out] at he o2; dsimp only at he o2; subst he; have G2 : Grew w1 w2 := x2.grewTo ((Grew.refl w1).alloc _) (fun k hk => by cases hk) (fun k hk => by have : w1.heap.size = k := Option.some.inj hk; omega); have O2 := Lib.hid o2; obtain ⟨va, vc, rfl⟩ := own_slice o2; clear o2 x2) | (go_at_call 13; refine (specFormatQuery A1 _ _ (rd_of_own O2.out) (by omega) hsz2).mono ?_; rintro e w3 ⟨he, g3⟩; rw [HT.out] at he; subst he) | (go_at_call 34; refine (l10Join p _ F _ ((RP.out.grew G2).grew g3) hp24 HSH2.out).mono ?_; rintro e w4 ⟨he, rfl⟩; rw [HJ.out] at he; subst he))
          go_ret2
          refine ⟨_, (by rw [HP.out] <;> rfl), ?_, ((g1.trans G2).trans g3).alloc _⟩
          rw [pq_no HP.out]
          exact ownsRow_base (lit_own _ 38 7) (by have := g1.size; have := G2.size; have := g3.size; omega)
    · have hki : ¬ ((a2 : Int) = p.length) := by omega
      have HP := Lib.hid (show pqB s = false by rw [← HOK.out, HOS.out, decide_eq_false hk]; rfl)
      go_enter Tryz.func10, Tryz.ntmps10
      go_wp2_with (first | (go_at_call 32; refine (specSplitFields s hs _).mono ?_; rintro e w1 ⟨v1, he, o1, hv1, g1⟩; rw [HSB.out] at he; rw [HPP.out] at o1; subst he; obtain ⟨F, hF1, hF2, R1⟩ := rdF_own o1 hv1; have RP := Lib.hid R1; obtain ⟨po, pc, rfl, _, _, _⟩ := R1; clear o1 hv1) | (go_at_call 33; refine (specL10Read p _ F w1.heap.size (by omega) (fun x hx => by have := HSH2.out x hx; omega) hF2 (p.length + 10) 0 [] 0 _ _ (by omega) (by omega) (by omega) (by omega) (by simp) (RP.out.grew ((Grew.refl _).alloc _)) (lit_own w1 38 7) (by simp)).mono ?_; rintro e w2 ⟨v2, he, o2, x2⟩; rw [List.drop_zero, HA.out] at he o2; dsimp only at he o2; subst he; have G2 : Grew w1 w2 := x2.grewTo ((Grew.refl w1).alloc _) (fun k hk => by cases hk) (fun k hk => by have : w1.heap.size = k := Option.some.inj hk; omega); have O2 := Lib.hid o2; obtain ⟨va, vc, rfl⟩ := own_slice o2; clear o2 x2) | (go_at_call 13; refine (specFormatQuery A1 _ _ (rd_of_own O2.out) (by omega) hsz2).mono ?_; rintro e w3 ⟨he, g3⟩; rw [HT.out] at he; subst he) | (go_at_call 34; refine (l10Join p _ F _ ((RP.out.grew G2).grew g3) hp24 HSH2.out).mono ?_; rintro e w4 ⟨he, rfl⟩; rw [HJ.out] at he; subst he))
      go_ret2
      refine ⟨_, (by rw [HP.out] <;> rfl), ?_, ((g1.trans G2).trans g3).alloc _⟩
      rw [pq_no HP.out]
      exact ownsRow_base (lit_own _ 38 7) (by have := g1.size; have := G2.size; have := g3.size; omega)
end Go.Proofs.YtodbohmbdgbheaaGreatDoor
