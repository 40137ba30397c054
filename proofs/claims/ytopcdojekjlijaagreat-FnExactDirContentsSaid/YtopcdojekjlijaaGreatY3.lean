/- Plain law: a query grows with the contents of the directories that it asks without a negation. No program in sight. -/
import Derived.Test.YtopcdojekjlijaaGreatM3
import Derived.Test.YtopcdojekjlijaaGreatY2
namespace Go.Proofs.YtopcdojekjlijaaGreat
open Go.RowKit Go.Sort
set_option linter.unusedVariables false

/-- A node refers to a place. -/
def refsTo (x : N) (j : Nat) : Prop := (x.op = 5 ∧ x.left.toNat = j) ∨ ((x.op = 6 ∨ x.op = 7) ∧ (x.left.toNat = j ∨ x.right.toNat = j))
theorem getD_set_ne {bs : List Bool} {i j : Nat} {b : Bool} (h : i ≠ j) : (bs.set i b).getD j false = bs.getD j false := by
  rw [List.getD_eq_getElem?_getD, List.getD_eq_getElem?_getD, List.getElem?_set_ne h]
theorem getD_set_eq {bs : List Bool} {i : Nat} {b : Bool} (h : i < bs.length) : (bs.set i b).getD i false = b := by
  rw [List.getD_eq_getElem?_getD, List.getElem?_set_self h]; rfl
theorem negS_keep {bs : List Bool} {p : Nat} {x : N} {j : Nat} (h : ¬ refsTo x j) : (negS bs p x).getD j false = bs.getD j false := by
  unfold refsTo at h
  unfold negS
  split
  · rename_i h5
    exact getD_set_ne (fun e => h (.inl ⟨h5, e⟩))
  · split
    · rename_i h67
      rw [getD_set_ne (fun e => h (.inr ⟨h67, .inr e⟩)), getD_set_ne (fun e => h (.inr ⟨h67, .inl e⟩))]
    · rfl
theorem negR_keep {xs : List N} {j : Nat} : ∀ (k : Nat) (bs : List Bool), (∀ p x, p < k → xs[p]? = some x → ¬ refsTo x j) → (negR xs k bs).getD j false = bs.getD j false
  | 0, bs, _ => rfl
  | k + 1, bs, h => by
    unfold negR
    rw [negR_keep k _ (fun p x hp hx => h p x (by omega) hx)]
    split
    · rename_i x hx; exact negS_keep (h k x (by omega) hx)
    · rfl
theorem negR_split (xs : List N) {k : Nat} : ∀ (m : Nat) (bs : List Bool), k ≤ m → ∃ bs1, negR xs m bs = negR xs k bs1 ∧ bs1.length = bs.length
  | 0, bs, h => by obtain rfl : k = 0 := by omega
                   exact ⟨bs, rfl, rfl⟩
  | m + 1, bs, h => by
    by_cases hk : k = m + 1
    · subst hk; exact ⟨bs, rfl, rfl⟩
    · obtain ⟨b1, h1, h2⟩ := negR_split xs (k := k) m (match xs[m]? with | some x => negS bs m x | none => bs) (by omega)
      refine ⟨b1, h1, ?_⟩
      rw [h2]
      split
      · exact negS_length _ _ _
      · rfl
theorem sum_ge {f : N → Int} (hf : ∀ x, 0 ≤ f x) : ∀ {q : List N}, 0 ≤ (q.map f).sum
  | [] => by simp
  | y :: ys => by have := hf y; have := sum_ge hf (q := ys); simp; omega
theorem sum_ge_one {f : N → Int} (hf : ∀ x, 0 ≤ f x) : ∀ {q : List N} {i : Nat} {x : N}, q[i]? = some x → f x ≤ (q.map f).sum
  | [], i, x, h => by simp at h
  | y :: ys, 0, x, h => by
    obtain rfl : y = x := by simpa using h
    have := sum_ge hf (q := ys); simp; omega
  | y :: ys, i + 1, x, h => by
    have := hf y; have := sum_ge_one hf (q := ys) (i := i) (x := x) (by simpa using h); simp; omega
theorem sum_ge_two {f : N → Int} (hf : ∀ x, 0 ≤ f x) {q : List N} : ∀ {i k : Nat} {x y : N}, q[i]? = some x → q[k]? = some y → i < k → f x + f y ≤ (q.map f).sum := by
  induction q with
  | nil => intro i k x y h _ _; simp at h
  | cons z zs ih =>
    intro i k x y h h2 hk
    obtain ⟨k', rfl⟩ : ∃ k', k = k' + 1 := ⟨k - 1, by omega⟩
    have h3 : zs[k']? = some y := by simpa using h2
    cases i with
    | zero =>
      have h4 : z = x := by simpa using h
      subst h4
      have := sum_ge_one hf (q := zs) h3
      rw [List.map_cons, List.sum_cons]; omega
    | succ i' =>
      have := hf z
      have := ih (i := i') (k := k') (by simpa using h) h3 (by omega)
      rw [List.map_cons, List.sum_cons]; omega
theorem qry_len {q : List N} (h : qryB q = true) : q.length ≤ 9 := by
  unfold qryB at h
  simp only [Bool.and_eq_true] at h
  have h4 := h.2
  unfold inB at h4
  simp at h4
  omega
/-- Children of a valid node: earlier places, truly referred to. -/
theorem kid {q : List N} (hq : qryB q = true) {p j : Nat} {x : N} (hx : q[p]? = some x) (hr : refsTo x j) : j < p ∧ 1 ≤ ref1 x j := by
  have h1 := qry_node hq hx
  have h2 := qry_len hq
  have h3 := (List.getElem?_eq_some_iff.1 hx).1
  obtain ⟨op, l, r, nm, v⟩ := x
  have hb := ref1_b ⟨op, l, r, nm, v⟩ j
  rcases hr with ⟨h5, hj⟩ | ⟨h67, hj⟩
  · simp only at h5 hj
    subst h5
    obtain ⟨a, rfl, ha⟩ := nod5 (by omega) h1
    simp at hj
    subst hj
    refine ⟨ha, ?_⟩
    unfold ref1; simp
  · simp only at h67 hj
    obtain ⟨a, b, rfl, rfl, ha, hb2⟩ := nod67 h67 (by omega) h1
    rcases hj with hj | hj
    · simp at hj
      subst hj
      refine ⟨ha, ?_⟩
      unfold ref1
      rcases h67 with rfl | rfl <;> simp <;> split <;> omega
    · simp at hj
      subst hj
      refine ⟨hb2, ?_⟩
      unfold ref1
      rcases h67 with rfl | rfl <;> simp <;> split <;> omega
theorem one_parent {q : List N} (hq : qryB q = true) {p1 p2 j : Nat} {x y : N} (hx : q[p1]? = some x) (hy : q[p2]? = some y) (h1 : refsTo x j) (h2 : refsTo y j) : p1 = p2 := by
  have k1 := kid hq hx h1
  have k2 := kid hq hy h2
  have l1 := (List.getElem?_eq_some_iff.1 hx).1
  have l2 := (List.getElem?_eq_some_iff.1 hy).1
  have hj : j < q.length := by omega
  have hr : refs q j = 1 := by
    have e1 := (qry_ex q).choose_spec
    have e2 := hq
    unfold qryB at e2
    simp only [Bool.and_eq_true] at e2
    have e3 := e1.1 e2.1 j q[j] (by simp [hj])
    unfold qryAt at e3
    simp only [Bool.and_eq_true, Bool.or_eq_true, decide_eq_true_eq, beq_iff_eq] at e3
    rcases e3.2 with e4 | e4
    · omega
    · exact e4
  unfold refs at hr
  rcases Nat.lt_trichotomy p1 p2 with h | h | h
  · have := sum_ge_two (f := fun n => ref1 n j) (fun n => (ref1_b n j).1) hx hy h; omega
  · exact h
  · have := sum_ge_two (f := fun n => ref1 n j) (fun n => (ref1_b n j).1) hy hx h; omega
/-- What a node hands down is what its kid bears at the end. -/
theorem neg_kid {q : List N} (hq : qryB q = true) {p j : Nat} {x : N} (hx : q[p]? = some x) (hr : refsTo x j) : (negL q).getD j false = (if x.op = 5 then true else (negL q).getD p false) := by
  have hp := (List.getElem?_eq_some_iff.1 hx).1
  have hk := kid hq hx hr
  have e : negL q = negR q q.length (List.replicate q.length false) := by unfold negL; rw [if_pos hq]
  obtain ⟨bs, h1, h2⟩ := negR_split q (k := p + 1) q.length (List.replicate q.length false) hp
  rw [e, h1]
  simp at h2
  have hpp : (negR q (p + 1) bs).getD p false = bs.getD p false := negR_keep _ _ (fun p' y hp' hy hc => by have := kid hq hy hc; omega)
  rw [hpp, negR_step hx, negR_keep p _ (fun p' y hp' hy hc => by have := one_parent hq hx hy hr hc; omega)]
  unfold negS
  rcases hr with ⟨h5, hj⟩ | ⟨h67, hj⟩
  · rw [if_pos h5, if_pos h5, hj, getD_set_eq (by omega)]
  · have h5 : ¬ x.op = 5 := by omega
    rw [if_neg h5, if_neg h5, if_pos h67]
    rcases hj with hj | hj
    · by_cases hrr : x.right.toNat = j
      · rw [hrr, getD_set_eq (by simp; omega)]
      · rw [getD_set_ne hrr, hj, getD_set_eq (by omega)]
    · rw [hj, getD_set_eq (by simp; omega)]
theorem neg_dep {q : List N} (hq : qryB q = true) {p : Nat} {x : N} (hx : q[p]? = some x) (ho : x.op = 8 ∨ x.op = 9) {u : Bool} (hu : (negL q).getD p false = u) : x.name ∈ depsL q u := by
  have hp := (List.getElem?_eq_some_iff.1 hx).1
  have e : negL q = negR q q.length (List.replicate q.length false) := by unfold negL; rw [if_pos hq]
  have hl : (negL q).length = q.length := by rw [e, negR_length]; simp
  have hg : (negL q)[p]? = some u := by
    rw [List.getD_eq_getElem?_getD] at hu
    rw [List.getElem?_eq_getElem (by omega)] at hu ⊢
    simp at hu; rw [hu]
  unfold depsL
  rw [mem_so]
  unfold depsZ
  refine List.mem_map.2 ⟨(x, u), List.mem_filter.2 ⟨List.mem_of_getElem? (zipN_get hx hg), ?_⟩, rfl⟩
  simp only [inB, Bool.and_eq_true, decide_eq_true_eq]
  refine ⟨by omega, by simp⟩
/-- The two readings of a query under two lists of results. -/
theorem mat_mono {q : List N} (hq : qryB q = true) {f : Fl} {rs rt : List Rs} (HA : ∀ s, s ∈ depsL q true → resIds rs s = resIds rt s) (HB : ∀ s, s ∈ depsL q false → ∀ i, i ∈ resIds rs s → i ∈ resIds rt s) :
    ∀ d i, ((negL q).getD i false = true → matR q f rs d i = matR q f rt d i) ∧ ((negL q).getD i false = false → matR q f rs d i = true → matR q f rt d i = true)
  | 0, i => ⟨fun _ => rfl, fun _ h => h⟩
  | d + 1, i => by
    cases hx : q[i]? with
    | none =>
      have e : ∀ r, matR q f r (d + 1) i = true := fun r => by unfold matR; rw [hx]
      rw [e, e]; exact ⟨fun _ => rfl, fun _ h => h⟩
    | some x =>
      have e1 := matR_at (f := f) (r := rs) (d := d) hx
      have e2 := matR_at (f := f) (r := rt) (d := d) hx
      rw [e1, e2]
      have hop := nod_op (qry_node hq hx)
      have ih := mat_mono hq (f := f) HA HB d
      by_cases h1 : x.op = 1
      · rw [if_pos h1, if_pos h1]; exact ⟨fun _ => rfl, fun _ h => h⟩
      rw [if_neg h1, if_neg h1]
      by_cases h2 : x.op = 2
      · rw [if_pos h2, if_pos h2]; exact ⟨fun _ => rfl, fun _ h => h⟩
      rw [if_neg h2, if_neg h2]
      by_cases h3 : x.op = 3
      · rw [if_pos h3, if_pos h3]; exact ⟨fun _ => rfl, fun _ h => h⟩
      rw [if_neg h3, if_neg h3]
      by_cases h4 : x.op = 4
      · rw [if_pos h4, if_pos h4]; exact ⟨fun _ => rfl, fun _ h => h⟩
      rw [if_neg h4, if_neg h4]
      by_cases h5 : x.op = 5
      · rw [if_pos h5, if_pos h5]
        have hk := neg_kid hq hx (j := x.left.toNat) (.inl ⟨h5, rfl⟩)
        rw [if_pos h5] at hk
        rw [(ih x.left.toNat).1 hk]
        exact ⟨fun _ => rfl, fun _ h => h⟩
      rw [if_neg h5, if_neg h5]
      by_cases h6 : x.op = 6
      · rw [if_pos h6, if_pos h6]
        have hl := neg_kid hq hx (j := x.left.toNat) (.inr ⟨.inl h6, .inl rfl⟩)
        have hr := neg_kid hq hx (j := x.right.toNat) (.inr ⟨.inl h6, .inr rfl⟩)
        rw [if_neg h5] at hl hr
        refine ⟨fun hb => ?_, fun hb h => ?_⟩
        · rw [(ih _).1 (hl.trans hb), (ih _).1 (hr.trans hb)]
        · simp only [Bool.and_eq_true] at h ⊢
          exact ⟨(ih _).2 (hl.trans hb) h.1, (ih _).2 (hr.trans hb) h.2⟩
      rw [if_neg h6, if_neg h6]
      by_cases h7 : x.op = 7
      · rw [if_pos h7, if_pos h7]
        have hl := neg_kid hq hx (j := x.left.toNat) (.inr ⟨.inr h7, .inl rfl⟩)
        have hr := neg_kid hq hx (j := x.right.toNat) (.inr ⟨.inr h7, .inr rfl⟩)
        rw [if_neg h5] at hl hr
        refine ⟨fun hb => ?_, fun hb h => ?_⟩
        · rw [(ih _).1 (hl.trans hb), (ih _).1 (hr.trans hb)]
        · simp only [Bool.or_eq_true] at h ⊢
          rcases h with h | h
          · exact .inl ((ih _).2 (hl.trans hb) h)
          · exact .inr ((ih _).2 (hr.trans hb) h)
      rw [if_neg h7, if_neg h7]
      have h89 : x.op = 8 ∨ x.op = 9 := by omega
      have hm : ∀ a : Int, ((negL q).getD i false = true → has (resIds rs x.name) a = has (resIds rt x.name) a) ∧ ((negL q).getD i false = false → has (resIds rs x.name) a = true → has (resIds rt x.name) a = true) := fun a => by
        refine ⟨fun hb => ?_, fun hb h => ?_⟩
        · rw [HA _ (neg_dep hq hx h89 hb)]
        · unfold has at h ⊢
          simp only [decide_eq_true_eq] at h ⊢
          exact HB _ (neg_dep hq hx h89 hb) a h
      by_cases h8 : x.op = 8
      · rw [if_pos h8, if_pos h8]; exact hm f.id
      rw [if_neg h8, if_neg h8]
      refine ⟨fun hb => by rw [(hm f.link).1 hb], fun hb h => ?_⟩
      simp only [Bool.and_eq_true] at h ⊢
      exact ⟨h.1, (hm f.link).2 hb h.2⟩
/-- The root bears no mark. -/
theorem neg_root {q : List N} (hq : qryB q = true) : (negL q).getD (q.length - 1) false = false := by
  have e : negL q = negR q q.length (List.replicate q.length false) := by unfold negL; rw [if_pos hq]
  rw [e, negR_keep _ _ (fun p y hp hy hc => by have := kid hq hy hc; omega)]
  rw [List.getD_eq_getElem?_getD]
  by_cases h : q.length - 1 < q.length
  · simp [h]
  · simp [h]
theorem matB_mono {q : List N} {f : Fl} {rs rt : List Rs} (HA : ∀ s, s ∈ depsL q true → resIds rs s = resIds rt s) (HB : ∀ s, s ∈ depsL q false → ∀ i, i ∈ resIds rs s → i ∈ resIds rt s) (h : matB q f rs = true) : matB q f rt = true := by
  unfold matB at h ⊢
  simp only [Bool.and_eq_true] at h ⊢
  exact ⟨h.1, (mat_mono h.1 HA HB _ _).2 (neg_root h.1) h.2⟩
end Go.Proofs.YtopcdojekjlijaaGreat
