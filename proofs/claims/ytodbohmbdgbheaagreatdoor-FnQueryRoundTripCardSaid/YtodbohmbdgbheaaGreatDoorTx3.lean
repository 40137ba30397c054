/- Texts of queries: ParseQuery's two answers are one; what is read is a valid query. No program in sight. -/
import Derived.Test.YtodbohmbdgbheaaGreatDoorTx2
namespace Go.Proofs.YtodbohmbdgbheaaGreatDoor
open Go.RowKit
set_option linter.unusedVariables false
abbrev bys (p : List By) : List (List UInt8) := p.map (·.data.toList)
/-- A query's text. -/
noncomputable def txq (q : List N) : List UInt8 := if qryB q = true then Lib.join (bys (wdsQ q q.length (q.length - 1))) [32] else []
noncomputable def okI (p : List By) : Bool := (rdI (p.length + 10) p []).1 && ((rdI (p.length + 10) p []).2.1.isEmpty && qryB (rdI (p.length + 10) p []).2.2)
noncomputable def okS (p : List By) : Bool := decide ((rdS (p.length + 10) p [] 0).2 = p.length) && (!(txq (rdS (p.length + 10) p [] 0).1).isEmpty && decide (txq (rdS (p.length + 10) p [] 0).1 = Lib.join (bys p) [32]))
theorem txq_len {xs : List N} (h : qryB xs = true) : 1 ≤ xs.length ∧ xs.length ≤ 9 := by
  unfold qryB at h
  simp only [Bool.and_eq_true, inB, decide_eq_true_eq] at h
  omega
theorem qry_vf {q : List N} (h : qryB q = true) : VF 0 q := fun j x _ hx => by
  have h1 := (qry_ex q).choose_spec
  unfold qryB at h
  simp only [Bool.and_eq_true] at h
  have h2 := h1.1 h.1 j x hx
  unfold qryAt at h2
  simp only [Bool.and_eq_true] at h2
  exact h2.1
theorem Rq.head {k : Nat} {u : List By} {e : List N} (h : Rq k u e) : ∃ (i : Nat) (r : List By), u = kw (i : Nat) :: r := by
  cases h <;> exact ⟨_, _, rfl⟩
theorem join_ne {u : List By} (h : ∃ (i : Nat) (r : List By), u = kw (i : Nat) :: r) : Lib.join (bys u) [32] ≠ [] := by
  obtain ⟨i, r, rfl⟩ := h
  unfold bys
  rw [List.map_cons, Lib.join_cons]
  intro hc
  have := (List.append_eq_nil_iff.1 hc).1
  exact kw_ne (ba_ext (b := ⟨#[]⟩) this)
theorem Rq.tx {u : List By} {e : List N} (h : Rq 0 u e) (hq : qryB e = true) : txq e = Lib.join (bys u) [32] := by
  unfold txq
  rw [if_pos hq]
  have h1 := h.wds [] [] e.length rfl (by omega)
  simp only [List.nil_append, List.append_nil, Nat.zero_add] at h1
  rw [h1]
theorem okS_iff {p : List By} : okS p = true ↔ (rdS (p.length + 10) p [] 0).2 = p.length ∧ txq (rdS (p.length + 10) p [] 0).1 ≠ [] ∧ txq (rdS (p.length + 10) p [] 0).1 = Lib.join (bys p) [32] := by
  unfold okS
  simp only [Bool.and_eq_true, decide_eq_true_eq, Bool.not_eq_true', List.isEmpty_eq_false_iff]
theorem okI_iff {p : List By} : okI p = true ↔ (rdI (p.length + 10) p []).1 = true ∧ (rdI (p.length + 10) p []).2.1 = [] ∧ qryB (rdI (p.length + 10) p []).2.2 = true := by
  unfold okI
  simp only [Bool.and_eq_true, List.isEmpty_iff]
/-- What ParseQuery accepts. -/
theorem okI_rq {p : List By} (h : okI p = true) : Rq 0 p (rdI (p.length + 10) p []).2.2 ∧ qryB (rdI (p.length + 10) p []).2.2 = true := by
  obtain ⟨h1, h2, h3⟩ := okI_iff.1 h
  obtain ⟨u, e, h4, h5, h6⟩ := rdI_rq _ p [] h1 (qry_vf h3)
  rw [h2, List.append_nil] at h4
  rw [h5] at h3 ⊢
  subst h4
  exact ⟨h6, h3⟩
theorem okI_of {p : List By} {e : List N} (h : Rq 0 p e) (hq : qryB e = true) : okI p = true ∧ (rdI (p.length + 10) p []).2.2 = e := by
  have h1 := h.rdI (p.length + 10) [] [] rfl (by omega)
  rw [List.append_nil] at h1
  refine ⟨okI_iff.2 ?_, ?_⟩
  · rw [h1]; exact ⟨rfl, rfl, hq⟩
  · rw [h1]; rfl
theorem okS_of {p : List By} {e : List N} (h : Rq 0 p e) (hq : qryB e = true) : okS p = true ∧ (rdS (p.length + 10) p [] 0).1 = e := by
  have hn := txq_len hq
  have h1 := h.rdS (p.length + 10) [] [] 0 rfl (by omega) (by omega)
  rw [List.append_nil] at h1
  have ht := h.tx hq
  refine ⟨okS_iff.2 ?_, ?_⟩
  · rw [h1]
    exact ⟨rfl, (by rw [List.nil_append, ht]; exact join_ne h.head), ht⟩
  · rw [h1]; rfl
/-- The two answers are one. -/
theorem parse_same (p : List By) : okS p = okI p ∧ (okI p = true → (rdS (p.length + 10) p [] 0).1 = (rdI (p.length + 10) p []).2.2) := by
  cases hI : okI p with
  | true =>
    obtain ⟨h1, h2⟩ := okI_rq hI
    have := okS_of h1 h2
    exact ⟨this.1, fun _ => this.2⟩
  | false =>
    refine ⟨?_, fun h => by cases h⟩
    cases hS : okS p with
    | false => rfl
    | true =>
      exfalso
      obtain ⟨h1, h2, h3⟩ := okS_iff.1 hS
      have hq : qryB (rdS (p.length + 10) p [] 0).1 = true := by
        cases hb : qryB (rdS (p.length + 10) p [] 0).1 with
        | true => rfl
        | false => exfalso; apply h2; unfold txq; rw [hb]; rfl
      have hk : (rdS (p.length + 10) p [] 0).2 ≠ 0 := by
        rw [h1]
        intro h0
        have : p = [] := List.eq_nil_of_length_eq_zero h0
        subst this
        have hr : (rdS (([] : List By).length + 10) [] [] 0).1 = [] := by
          show (rdS (9 + 1) [] [] 0).1 = []
          unfold rdS
          dsimp only
          rw [if_pos (Or.inl (show opOf (hdB []) = 0 from opOf_nil))]
        rw [hr] at hq
        have := txq_len hq
        simp at this
      obtain ⟨u, e, h4, h5, h6, h7⟩ := rdS_rq _ p [] 0 hk (qry_vf hq)
      have hp : p = u := by
        have : p.drop (rdS (p.length + 10) p [] 0).2 = [] := by rw [h1]; exact List.drop_length ..
        rw [this, List.append_nil] at h4
        exact h4
      rw [h6] at hq
      subst hp
      have := (okI_of h7 hq).1
      rw [hI] at this
      cases this
/-- What stands in a node beside its places. -/
def NV (x : N) : Prop := x.op = 1 ∨ x.op = 5 ∨ x.op = 6 ∨ x.op = 7 ∨ (x.op = 2 ∧ txtB x.name 1 = true) ∨ (x.op = 3 ∧ txtB x.name 1 = true ∧ x.val.kind ≠ 0) ∨ (x.op = 4 ∧ txtB x.name 1 = true ∧ x.val.kind = 1) ∨ ((x.op = 8 ∨ x.op = 9) ∧ txtB x.name 6 = true)
theorem wrap_less {j : Nat} (h : j ≤ 1000000) : wrap64 ((j : Int) - 1) = (j : Int) - 1 := by unfold wrap64; omega
theorem eqV_me (v : V) : eqV v v = true := by simp [eqV]
theorem nodB_all (a m : Int) : nodB (nd 1 0 0 ⟨#[]⟩ V.z) a m = true := by simp [nodB, eqN, eqV]
theorem nil_empty : (⟨#[]⟩ : By).toList.isEmpty = true := by rw [Lib.toList_data]; rfl
/-- Every node that is read is valid at its place. -/
theorem Rq.valid {k : Nat} {u : List By} {e : List N} (h : Rq k u e) : k + e.length ≤ 1000000 → (∀ x ∈ e, NV x) → ∀ j x, e[j]? = some x → nodB x ((k + j : Nat) : Int) (wrap64 (((k + j : Nat) : Int) - 1)) = true := by
  have one : ∀ {n : N} {j : Nat} {x : N}, [n][j]? = some x → x = n := fun {n j x} hx => by
    have := List.mem_of_getElem? hx
    simpa using this
  induction h with
  | all k => intro _ _ j x hx; rw [one hx]; exact nodB_all _ _
  | name k op nm ho =>
    intro _ hv j x hx
    have hN := hv (nd op 0 0 nm V.z) (List.mem_singleton.2 rfl)
    rw [one hx]
    unfold NV at hN
    rcases ho with rfl | rfl | rfl <;> simp at hN <;> simp [nodB, eqN, eqV, hN]
  | val k op nm s ho hp =>
    intro _ hv j x hx
    have hN := hv (nd op 0 0 nm (pvV s)) (List.mem_singleton.2 rfl)
    rw [one hx]
    unfold NV at hN
    have hp' : valB (pvV s) = true := hp
    rcases ho with rfl | rfl <;> simp at hN <;> simp [nodB, hN, hp']
  | not k u e hq ih =>
    intro hk hv j x hx
    simp only [List.length_append, List.length_cons, List.length_nil] at hk
    have hp := hq.pos
    by_cases hj : j < e.length
    · rw [List.getElem?_append_left hj] at hx
      exact ih (by omega) (fun y hy => hv y (List.mem_append_left _ hy)) j x hx
    · rw [List.getElem?_append_right (by omega)] at hx
      have h0 : j - e.length < 1 := (List.getElem?_eq_some_iff.1 hx).1
      have hj2 : j = e.length := by omega
      rw [one hx]
      subst hj2
      rw [wrap_less (by omega)]
      unfold nodB
      simp only [show ((5 : Nat) : Int) = 5 from rfl, show ((5 : Int) == 1) = false from rfl, show ((5 : Int) == 2) = false from rfl, show ((5 : Int) == 3) = false from rfl, show ((5 : Int) == 4) = false from rfl, show ((5 : Int) == 5) = true from rfl, nil_empty, eqV_me, inB, Bool.false_eq_true, if_false, if_true, Bool.and_true, Bool.and_eq_true, decide_eq_true_eq, beq_self_eq_true]
      omega
  | two k op u1 u2 e1 e2 ho hq1 hq2 ih1 ih2 =>
    intro hk hv j x hx
    simp only [List.length_append, List.length_cons, List.length_nil] at hk
    have hp1 := hq1.pos
    have hp2 := hq2.pos
    rw [List.append_assoc] at hx
    by_cases hj : j < e1.length
    · rw [List.getElem?_append_left hj] at hx
      exact ih1 (by omega) (fun y hy => hv y (by simp [hy])) j x hx
    · rw [List.getElem?_append_right (by omega)] at hx
      by_cases hj2 : j - e1.length < e2.length
      · rw [List.getElem?_append_left hj2] at hx
        have := ih2 (by omega) (fun y hy => hv y (by simp [hy])) (j - e1.length) x hx
        rw [show k + e1.length + (j - e1.length) = k + j by omega] at this
        exact this
      · rw [List.getElem?_append_right (by omega)] at hx
        have h0 : j - e1.length - e2.length < 1 := (List.getElem?_eq_some_iff.1 hx).1
        have hj3 : j = e1.length + e2.length := by omega
        rw [one hx]
        subst hj3
        rw [wrap_less (by omega)]
        unfold nodB
        rcases ho with rfl | rfl
        · simp only [show ((6 : Nat) : Int) = 6 from rfl, show ((6 : Int) == 1) = false from rfl, show ((6 : Int) == 2) = false from rfl, show ((6 : Int) == 3) = false from rfl, show ((6 : Int) == 4) = false from rfl, show ((6 : Int) == 5) = false from rfl, show ((6 : Int) == 6) = true from rfl, Bool.true_or, nil_empty, eqV_me, inB, Bool.false_eq_true, if_false, if_true, Bool.and_true, Bool.and_eq_true, decide_eq_true_eq]
          omega
        · simp only [show ((7 : Nat) : Int) = 7 from rfl, show ((7 : Int) == 1) = false from rfl, show ((7 : Int) == 2) = false from rfl, show ((7 : Int) == 3) = false from rfl, show ((7 : Int) == 4) = false from rfl, show ((7 : Int) == 5) = false from rfl, show ((7 : Int) == 7) = true from rfl, Bool.or_true, nil_empty, eqV_me, inB, Bool.false_eq_true, if_false, if_true, Bool.and_true, Bool.and_eq_true, decide_eq_true_eq]
          omega
theorem refs_app (a b : List N) (i : Int) : refs (a ++ b) i = refs a i + refs b i := by simp [refs, List.sum_append]
theorem refs_one' (x : N) (i : Int) : refs [x] i = ref1 x i := by simp [refs]
/-- Every node but the last is referred to once. -/
theorem Rq.refs {k : Nat} {u : List By} {e : List N} (h : Rq k u e) : ∀ i : Nat, YtodbohmbdgbheaaGreatDoor.refs e (i : Int) = if k ≤ i ∧ i + 1 < k + e.length then 1 else 0 := by
  induction h with
  | all k => intro i; rw [refs_one']; simp [ref1]
  | name k op nm ho => intro i; rw [refs_one']; rcases ho with rfl | rfl | rfl <;> simp [ref1] <;> omega
  | val k op nm s ho hp => intro i; rw [refs_one']; rcases ho with rfl | rfl <;> simp [ref1] <;> omega
  | not k u e hq ih =>
    intro i
    have hp := hq.pos
    rw [refs_app, ih i, refs_one']
    simp only [ref1, List.length_append, List.length_cons, List.length_nil, show ((5 : Nat) : Int) = 5 from rfl, show ((5 : Int) == 6) = false from rfl, show ((5 : Int) == 7) = false from rfl, show ((5 : Int) == 5) = true from rfl, Bool.false_or, Bool.true_and, Bool.false_and, Bool.or_self, beq_iff_eq, Bool.false_eq_true, if_false]
    repeat' split
    all_goals omega
  | two k op u1 u2 e1 e2 ho hq1 hq2 ih1 ih2 =>
    intro i
    have hp1 := hq1.pos
    have hp2 := hq2.pos
    rw [refs_app, refs_app, ih1 i, ih2 i, refs_one']
    have h67 : (((op : Nat) : Int) == 6 || ((op : Nat) : Int) == 7) = true := by rcases ho with rfl | rfl <;> rfl
    have h67' : (((op : Nat) : Int) == 6 || (((op : Nat) : Int) == 7 || ((op : Nat) : Int) == 5)) = true := by rcases ho with rfl | rfl <;> rfl
    simp only [ref1, List.length_append, List.length_cons, List.length_nil, h67, h67', Bool.true_and, beq_iff_eq]
    repeat' split
    all_goals omega
/-- What is read is a valid query. -/
theorem Rq.qry {u : List By} {e : List N} (h : Rq 0 u e) (hn : e.length ≤ 9) (hv : ∀ x ∈ e, NV x) : qryB e = true := by
  rw [qryB_yes]
  · have := h.pos
    simp only [inB, Bool.and_eq_true, decide_eq_true_eq]
    omega
  · intro i x hi hx
    have h1 := h.valid (by omega) hv i x hx
    rw [Nat.zero_add] at h1
    unfold qryAt
    rw [h1, h.refs i]
    simp only [Bool.true_and, Bool.or_eq_true, decide_eq_true_eq, beq_iff_eq]
    by_cases hc : e.length ≤ i + 1
    · exact Or.inl hc
    · right; rw [if_pos (by omega)]
end Go.Proofs.YtodbohmbdgbheaaGreatDoor
