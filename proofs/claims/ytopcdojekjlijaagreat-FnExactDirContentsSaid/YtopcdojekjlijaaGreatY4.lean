/- Plain law: the passes over one stratum grow until nothing changes, so they end. No program in sight. -/
import Derived.Test.YtopcdojekjlijaaGreatY3
import Derived.Test.YtopcdojekjlijaaGreatM4
namespace Go.Proofs.YtopcdojekjlijaaGreat
open Go.RowKit Go.Sort
set_option linter.unusedVariables false

def idsAt (rs : List Rs) (j : Nat) : List Int := match rs[j]? with | some r => r.ids | none => []
theorem idsAt_get {rs : List Rs} {j : Nat} {r : Rs} (h : rs[j]? = some r) : idsAt rs j = r.ids := by unfold idsAt; rw [h]
theorem idsAt_set_ne {rs : List Rs} {i j : Nat} {r : Rs} (h : i ≠ j) : idsAt (rs.set i r) j = idsAt rs j := by unfold idsAt; rw [List.getElem?_set_ne h]
theorem idsAt_set {rs : List Rs} {i : Nat} {r : Rs} (h : i < rs.length) : idsAt (rs.set i r) i = r.ids := by unfold idsAt; rw [List.getElem?_set_self h]
theorem resIds_pl : ∀ {xs : List Dr} {rs : List Rs} {s : ByteArray}, rs.map Rs.name = xs.map Dr.name → resIds rs s = (match plcF xs s with | some j => idsAt rs j | none => [])
  | [], [], s, _ => rfl
  | [], r :: rs, s, h => by simp at h
  | x :: xs, [], s, h => by simp at h
  | x :: xs, r :: rs, s, h => by
    simp at h
    have ih := resIds_pl (xs := xs) (rs := rs) (s := s) h.2
    unfold resIds plcF
    rw [h.1]
    cases hn : x.name.toList == s.toList with
    | true => rfl
    | false =>
      simp only [Bool.false_eq_true, if_false]
      rw [ih]
      cases plcF xs s with
      | none => rfl
      | some j => simp [idsAt]
/-- One directory's turn in a pass over stratum k. -/
noncomputable def st1 (xs : List Dr) (fs : List Fl) (k : Nat) (a : List Rs × Bool) (i : Nat) : List Rs × Bool :=
  match xs[i]? with
  | none => a
  | some x => if gt (stL xs) i = k then (if selL x.query fs a.1 = idsAt a.1 i then a else (a.1.set i ⟨x.name, selL x.query fs a.1⟩, true)) else a
noncomputable def passTo (xs : List Dr) (fs : List Fl) (k : Nat) (rs : List Rs) (i : Nat) : List Rs × Bool := (List.range i).foldl (st1 xs fs k) (rs, false)
theorem passTo_zero (xs : List Dr) (fs : List Fl) (k : Nat) (rs : List Rs) : passTo xs fs k rs 0 = (rs, false) := rfl
theorem passTo_succ (xs : List Dr) (fs : List Fl) (k : Nat) (rs : List Rs) (i : Nat) : passTo xs fs k rs (i + 1) = st1 xs fs k (passTo xs fs k rs i) i := by
  unfold passTo; rw [List.range_succ, List.foldl_append]; rfl
theorem st1_skip {xs : List Dr} {fs : List Fl} {k i : Nat} {a : List Rs × Bool} (h : gt (stL xs) i ≠ k) : st1 xs fs k a i = a := by
  unfold st1; split
  · rfl
  · rw [if_neg h]
theorem st1_same {xs : List Dr} {fs : List Fl} {k i : Nat} {a : List Rs × Bool} {x : Dr} (hx : xs[i]? = some x) (h : selL x.query fs a.1 = idsAt a.1 i) : st1 xs fs k a i = a := by
  unfold st1; rw [hx]; simp only [h, if_true, ite_self]
theorem st1_new {xs : List Dr} {fs : List Fl} {k i : Nat} {a : List Rs × Bool} {x : Dr} (hx : xs[i]? = some x) (hk : gt (stL xs) i = k) (h : selL x.query fs a.1 ≠ idsAt a.1 i) : st1 xs fs k a i = (a.1.set i ⟨x.name, selL x.query fs a.1⟩, true) := by
  unfold st1; rw [hx]; simp only
  rw [if_pos hk, if_neg h]
/-- Contents that grew in stratum k alone. -/
structure LeK (xs : List Dr) (k : Nat) (r s : List Rs) : Prop where
  n1 : r.map Rs.name = xs.map Dr.name
  n2 : s.map Rs.name = xs.map Dr.name
  other : ∀ j, gt (stL xs) j ≠ k → idsAt r j = idsAt s j
  mine : ∀ j, gt (stL xs) j = k → ∀ i, i ∈ idsAt r j → i ∈ idsAt s j
theorem LeK.trans {xs : List Dr} {k : Nat} {r s t : List Rs} (h : LeK xs k r s) (g : LeK xs k s t) : LeK xs k r t :=
  ⟨h.n1, g.n2, fun j hj => (h.other j hj).trans (g.other j hj), fun j hj i hi => g.mine j hj i (h.mine j hj i hi)⟩
theorem edg_mem {xs : List Dr} {l : List ByteArray} {m j : Nat} {s : ByteArray} (h : s ∈ l) (hp : plcF xs s = some j) : (j, m) ∈ edg xs l m := by
  unfold edg; exact List.mem_filterMap.2 ⟨s, h, by rw [hp]; rfl⟩
theorem stB_sat {xs : List Dr} (h : stB xs = true) : SatN xs.length (dirE xs) (stL xs) := by
  unfold stL; rw [if_pos h]
  unfold stB at h
  simp only [Bool.and_eq_true] at h
  exact strB_sat h.2
theorem sel_mono {xs : List Dr} (hb : stB xs = true) {i k : Nat} {x : Dr} (hx : xs[i]? = some x) (hk : gt (stL xs) i = k) {r s : List Rs} (h : LeK xs k r s) {f : Fl} (hm : matB x.query f r = true) : matB x.query f s = true := by
  have hi := (List.getElem?_eq_some_iff.1 hx).1
  have hs := stB_sat hb i hi
  rw [dirE_at hx] at hs
  refine matB_mono (fun n hn => ?_) (fun n hn z hz => ?_) hm
  · rw [resIds_pl h.n1, resIds_pl h.n2]
    cases hp : plcF xs n with
    | none => rfl
    | some j =>
      have := hs (j, 1) (List.mem_append_right _ (edg_mem hn hp))
      exact h.other j (by simp only at this; omega)
  · rw [resIds_pl h.n1] at hz
    rw [resIds_pl h.n2]
    cases hp : plcF xs n with
    | none => rw [hp] at hz; exact hz
    | some j =>
      rw [hp] at hz
      by_cases hj : gt (stL xs) j = k
      · exact h.mine j hj z hz
      · have e := h.other j hj
        simp only at hz ⊢
        rw [← e]; exact hz
theorem selL_sub {xs : List Dr} (hb : stB xs = true) {i k : Nat} {x : Dr} (hx : xs[i]? = some x) (hk : gt (stL xs) i = k) {r s : List Rs} (h : LeK xs k r s) (fs : List Fl) {z : Int} (hz : z ∈ selL x.query fs r) : z ∈ selL x.query fs s := by
  unfold selL at hz ⊢
  obtain ⟨f, h1, h2⟩ := List.mem_map.1 hz
  obtain ⟨h3, h4⟩ := List.mem_filter.1 h1
  exact List.mem_map.2 ⟨f, List.mem_filter.2 ⟨h3, sel_mono hb hx hk h h4⟩, h2⟩
theorem selL_lt {xs : List Dr} (hb : stB xs = true) {i k : Nat} {x : Dr} (hx : xs[i]? = some x) (hk : gt (stL xs) i = k) {r s : List Rs} (h : LeK xs k r s) {fs : List Fl} (hne : selL x.query fs s ≠ selL x.query fs r) : (selL x.query fs r).length < (selL x.query fs s).length := by
  have hi : ∀ f, f ∈ fs → matB x.query f r = true → matB x.query f s = true := fun f _ hm => sel_mono hb hx hk h hm
  by_cases hc : ∃ f, f ∈ fs ∧ matB x.query f s = true ∧ matB x.query f r = false
  · obtain ⟨f, h1, h2, h3⟩ := hc
    unfold selL
    rw [List.length_map, List.length_map]
    exact filt_lt hi h1 h2 h3
  · exfalso
    apply hne
    unfold selL
    congr 1
    apply List.filter_congr
    intro f hf
    cases h2 : matB x.query f s with
    | false =>
      cases h3 : matB x.query f r with
      | false => rfl
      | true => rw [hi f hf h3] at h2; exact h2.symm
    | true =>
      cases h3 : matB x.query f r with
      | true => rfl
      | false => exact absurd ⟨f, hf, h2, h3⟩ hc
def tot (rs : List Rs) : Nat := sumN (rs.map fun r => r.ids.length)
theorem tot_set : ∀ {rs : List Rs} {i : Nat} {r : Rs}, i < rs.length → (idsAt rs i).length < r.ids.length → tot rs < tot (rs.set i r)
  | [], i, r, h, _ => by simp at h
  | y :: ys, 0, r, h, hg => by simp [idsAt] at hg; simp [tot, sumN]; omega
  | y :: ys, i + 1, r, h, hg => by
    have := tot_set (rs := ys) (i := i) (r := r) (by simpa using h) (by simpa [idsAt] using hg)
    simp [tot, sumN] at this ⊢; omega
theorem tot_le {b : Nat} : ∀ {rs : List Rs}, (∀ i, (idsAt rs i).length ≤ b) → tot rs ≤ rs.length * b
  | [], _ => by simp [tot, sumN]
  | y :: ys, h => by
    have h0 := h 0
    have ih := tot_le (rs := ys) (fun i => by have := h (i + 1); simpa [idsAt] using this)
    simp [idsAt] at h0
    simp [tot, sumN, Nat.succ_mul] at ih ⊢; omega
/-- The state on the way through stratum k. -/
structure EvI (xs : List Dr) (fs : List Fl) (k : Nat) (rs : List Rs) : Prop where
  names : rs.map Rs.name = xs.map Dr.name
  len : ∀ i, (idsAt rs i).length ≤ fs.length
  later : ∀ i, k < gt (stL xs) i → idsAt rs i = []
  pre : ∀ i x, xs[i]? = some x → gt (stL xs) i = k → idsAt rs i = [] ∨ ∃ r0, LeK xs k r0 rs ∧ idsAt rs i = selL x.query fs r0
theorem EvI.next {xs : List Dr} {fs : List Fl} {k : Nat} {rs : List Rs} (h : EvI xs fs k rs) : EvI xs fs (k + 1) rs :=
  ⟨h.names, h.len, fun i hi => h.later i (by omega), fun i x hx hk => .inl (h.later i (by omega))⟩
theorem EvI.rlen {xs : List Dr} {fs : List Fl} {k : Nat} {rs : List Rs} (h : EvI xs fs k rs) : rs.length = xs.length := by
  have := congrArg List.length h.names; simpa using this
theorem EvI.le {xs : List Dr} {fs : List Fl} {k : Nat} {rs : List Rs} (h : EvI xs fs k rs) : LeK xs k rs rs := ⟨h.names, h.names, fun _ _ => rfl, fun _ _ _ hi => hi⟩
theorem EvI.step {xs : List Dr} {fs : List Fl} {k : Nat} {rs : List Rs} (hb : stB xs = true) (h : EvI xs fs k rs) {i : Nat} {x : Dr} (hx : xs[i]? = some x) (hk : gt (stL xs) i = k) (hne : selL x.query fs rs ≠ idsAt rs i) :
    EvI xs fs k (rs.set i ⟨x.name, selL x.query fs rs⟩) ∧ tot rs < tot (rs.set i ⟨x.name, selL x.query fs rs⟩) := by
  have hi := (List.getElem?_eq_some_iff.1 hx).1
  have hil : i < rs.length := by rw [h.rlen]; exact hi
  have hnm : (rs.set i ⟨x.name, selL x.query fs rs⟩).map Rs.name = xs.map Dr.name := by
    rw [List.map_set, h.names]
    apply List.ext_getElem?
    intro j
    by_cases hj : i = j
    · subst hj
      rw [List.getElem?_set_self (by simpa using hi), List.getElem?_map, hx]; rfl
    · rw [List.getElem?_set_ne hj]
  have hold : ∀ z, z ∈ idsAt rs i → z ∈ selL x.query fs rs := by
    rcases h.pre i x hx hk with e | ⟨r0, h1, h2⟩
    · intro z hz; rw [e] at hz; cases hz
    · intro z hz; rw [h2] at hz; exact selL_sub hb hx hk h1 fs hz
  have hlt : (idsAt rs i).length < (selL x.query fs rs).length := by
    rcases h.pre i x hx hk with e | ⟨r0, h1, h2⟩
    · rw [e] at hne ⊢
      cases hc : selL x.query fs rs with
      | nil => exact absurd hc hne
      | cons a l => simp
    · rw [h2] at hne ⊢
      exact selL_lt hb hx hk h1 hne
  have hle : LeK xs k rs (rs.set i ⟨x.name, selL x.query fs rs⟩) := by
    refine ⟨h.names, hnm, fun j hj => ?_, fun j hj z hz => ?_⟩
    · rw [idsAt_set_ne (fun e => hj (by rw [← e]; exact hk))]
    · by_cases hij : i = j
      · subst hij; rw [idsAt_set hil]; exact hold z hz
      · rw [idsAt_set_ne hij]; exact hz
  refine ⟨⟨hnm, fun j => ?_, fun j hj => ?_, fun j y hy hj => ?_⟩, tot_set hil hlt⟩
  · by_cases hij : i = j
    · subst hij; rw [idsAt_set hil]; exact selL_len _ _ _
    · rw [idsAt_set_ne hij]; exact h.len j
  · rw [idsAt_set_ne (fun e => by subst e; omega)]; exact h.later j hj
  · by_cases hij : i = j
    · subst hij
      obtain rfl := Option.some.inj (hx.symm.trans hy)
      rw [idsAt_set hil]
      exact .inr ⟨rs, hle, rfl⟩
    · rw [idsAt_set_ne hij]
      rcases h.pre j y hy hj with e | ⟨r0, h1, h2⟩
      · exact .inl e
      · exact .inr ⟨r0, h1.trans hle, h2⟩
/-- The m-th pass over stratum k. -/
noncomputable def passN (xs : List Dr) (fs : List Fl) (k : Nat) (rs : List Rs) : Nat → List Rs × Bool
  | 0 => (rs, true)
  | m + 1 => passTo xs fs k (passN xs fs k rs m).1 xs.length
def LvlEnd (xs : List Dr) (fs : List Fl) (k : Nat) (rs : List Rs) (m : Nat) : Prop := (∀ j, j ≤ m → (passN xs fs k rs j).2 = true) ∧ (passN xs fs k rs (m + 1)).2 = false
theorem LvlEnd.one {xs : List Dr} {fs : List Fl} {k : Nat} {rs : List Rs} {m p : Nat} (h : LvlEnd xs fs k rs m) (g : LvlEnd xs fs k rs p) : m = p := by
  rcases Nat.lt_trichotomy m p with hl | hl | hl
  · have := g.1 (m + 1) hl; rw [h.2] at this; cases this
  · exact hl
  · have := h.1 (p + 1) hl; rw [g.2] at this; cases this
def rs0 (xs : List Dr) : List Rs := xs.map fun x => ⟨x.name, []⟩
theorem rs0_ids (xs : List Dr) (i : Nat) : idsAt (rs0 xs) i = [] := by
  unfold idsAt rs0
  rw [List.getElem?_map]
  cases xs[i]? <;> rfl
theorem EvI.start (xs : List Dr) (fs : List Fl) : EvI xs fs 0 (rs0 xs) := by
  refine ⟨by unfold rs0; rw [List.map_map]; rfl, fun i => by rw [rs0_ids]; exact Nat.zero_le _, fun i _ => rs0_ids xs i, fun i x _ _ => .inl (rs0_ids xs i)⟩
inductive EvR (xs : List Dr) (fs : List Fl) : Nat → List Rs → Nat → Prop
  | zero : EvR xs fs 0 (rs0 xs) 0
  | succ {k : Nat} {rs : List Rs} {t m : Nat} : EvR xs fs k rs t → LvlEnd xs fs k rs m → EvR xs fs (k + 1) (passN xs fs k rs (m + 1)).1 (t + (m + 1))
theorem EvR.one {xs : List Dr} {fs : List Fl} : ∀ {k : Nat} {rs rt : List Rs} {t u : Nat}, EvR xs fs k rs t → EvR xs fs k rt u → rs = rt ∧ t = u := by
  intro k
  induction k with
  | zero => intro rs rt t u h g; cases h; cases g; exact ⟨rfl, rfl⟩
  | succ k ih =>
    intro rs rt t u h g
    cases h with
    | succ h1 h2 =>
      cases g with
      | succ g1 g2 =>
        obtain ⟨rfl, rfl⟩ := ih h1 g1
        obtain rfl := h2.one g2
        exact ⟨rfl, rfl⟩
/-- How many strata there are, and what the whole evaluation gives. -/
noncomputable def lvls (xs : List Dr) : Nat := (mxS xs + 1).toNat
open Classical in
noncomputable def evP (xs : List Dr) (fs : List Fl) : List Rs × Nat := if h : ∃ p : List Rs × Nat, EvR xs fs (lvls xs) p.1 p.2 then h.choose else ([], 0)
theorem evP_of {xs : List Dr} {fs : List Fl} {rs : List Rs} {t : Nat} (h : EvR xs fs (lvls xs) rs t) : evP xs fs = (rs, t) := by
  have hx : ∃ p : List Rs × Nat, EvR xs fs (lvls xs) p.1 p.2 := ⟨(rs, t), h⟩
  unfold evP
  rw [dif_pos hx]
  have := EvR.one hx.choose_spec h
  exact Prod.ext this.1 this.2
end Go.Proofs.YtopcdojekjlijaaGreat
