/- Plain law: the names of valid directories rise; what SetDir and RemoveDir give; diffs inverted. No program in sight. -/
import Derived.Test.YtgekgokkbakcmaaY13
import Derived.Test.YtgekgokkbakcmaaN2
namespace Go.Proofs.Ytgekgokkbakcmaa
open Go.RowKit Go.Sort
set_option linter.unusedVariables false
theorem dirs_at {xs : List Dr} (h : dirsB xs = true) {i : Nat} {x : Dr} (hx : xs[i]? = some x) : dirAt xs i x = true := by
  have h1 := (dirs_ex xs).choose_spec
  unfold dirsB at h
  simp only [Bool.and_eq_true] at h
  exact h1.1 h.1 i x hx
theorem dirs_lt {xs : List Dr} (h : dirsB xs = true) : ∀ (j i : Nat) (x y : Dr), i < j → xs[i]? = some x → xs[j]? = some y → dl x.name < dl y.name
  | 0, i, x, y, hij, _, _ => absurd hij (Nat.not_lt_zero _)
  | j + 1, i, x, y, hij, hx, hy => by
    have h1 := dirs_at h hy
    unfold dirAt at h1
    simp only [Bool.and_eq_true] at h1
    have h2 := h1.2.2
    obtain ⟨z, hz⟩ : ∃ z, xs[j]? = some z := ⟨_, List.getElem?_eq_getElem (by have := (List.getElem?_eq_some_iff.1 hy).1; omega)⟩
    unfold ascB at h2
    simp only [hz] at h2
    have h3 : dl z.name < dl y.name := by simpa using (less_iff z.name y.name true).1 h2
    by_cases hc : i = j
    · subst hc
      obtain rfl := Option.some.inj (hx.symm.trans hz)
      exact h3
    · exact Ordered.trans _ _ _ (dirs_lt h j i x z (by omega) hx hz) h3
theorem nm_inj {xs : List Dr} (h : dirsB xs = true) {i j : Nat} {x y : Dr} (hx : xs[i]? = some x) (hy : xs[j]? = some y) (he : x.name = y.name) : i = j := by
  rcases Nat.lt_trichotomy i j with hl | hl | hl
  · have := dirs_lt h j i x y hl hx hy
    rw [he] at this; exact absurd this (Ordered.irrefl _)
  · exact hl
  · have := dirs_lt h i j y x hl hy hx
    rw [he] at this; exact absurd this (Ordered.irrefl _)
theorem plcF_has {xs : List Dr} (h : dirsB xs = true) {i : Nat} {x : Dr} (hx : xs[i]? = some x) : plcF xs x.name = some i :=
  plcF_yes (fun j y hj hy => by
    rw [Bool.eq_false_iff]
    intro he
    have := nm_inj h hy hx (beqB.1 he)
    omega) hx (beqB.2 rfl)
theorem plcF_nm : ∀ {xs : List Dr} {s : ByteArray} {k : Nat} {y : Dr}, plcF xs s = some k → xs[k]? = some y → (y.name.toList == s.toList) = true
  | [], s, k, y, h, _ => by simp [plcF] at h
  | x :: xs, s, k, y, h, hy => by
    unfold plcF at h
    split at h
    · rename_i hq
      simp at h; subst h
      simp at hy; subst hy; exact hq
    · cases hc : plcF xs s with
      | none => rw [hc] at h; simp at h
      | some j => rw [hc] at h; simp at h; subst h; exact plcF_nm hc (by simpa using hy)

/-- Names that rise. -/
def Rise (xs : List Dr) : Prop := xs.Pairwise fun a b => dl a.name < dl b.name
theorem rise_of {xs : List Dr} (h : dirsB xs = true) : Rise xs := by
  refine List.pairwise_iff_getElem.2 (fun i j hi hj hij => ?_)
  exact dirs_lt h j i _ _ hij (List.getElem?_eq_getElem hi) (List.getElem?_eq_getElem hj)
theorem eq_dl {a b : ByteArray} : (a.toList == b.toList) = true ↔ dl a = dl b := by
  rw [same_iff a b true]; simp
theorem ne_dl {a b : ByteArray} : (a.toList == b.toList) = false ↔ dl a ≠ dl b := by
  rw [same_iff a b false]; simp
/-- The list without the directories of a name. -/
def remN (xs : List Dr) (s : ByteArray) : List Dr := xs.filter fun x => !(x.name.toList == s.toList)
theorem remN_none {xs : List Dr} {s : ByteArray} (h : ∀ x, x ∈ xs → dl x.name ≠ dl s) : remN xs s = xs := by
  unfold remN
  rw [List.filter_eq_self]
  intro x hx
  rw [ne_dl.2 (h x hx)]; rfl
theorem remN_yes {xs : List Dr} {s : ByteArray} {k : Nat} {x : Dr} (h : xs[k]? = some x) (hn : (x.name.toList == s.toList) = true) : remN (xs.take (k + 1)) s = remN (xs.take k) s := by
  rw [take_snoc h]; unfold remN; rw [List.filter_append]; simp [hn]
theorem remN_no {xs : List Dr} {s : ByteArray} {k : Nat} {x : Dr} (h : xs[k]? = some x) (hn : (x.name.toList == s.toList) = false) : remN (xs.take (k + 1)) s = remN (xs.take k) s ++ [x] := by
  rw [take_snoc h]; unfold remN; rw [List.filter_append]; simp [hn]
theorem remN_len (xs : List Dr) (s : ByteArray) : (remN xs s).length ≤ xs.length := List.length_filter_le _ _
theorem rem_erase : ∀ {xs : List Dr} {s : ByteArray} {k : Nat}, Rise xs → plcF xs s = some k → remN xs s = xs.take k ++ xs.drop (k + 1)
  | [], s, k, _, h => by simp [plcF] at h
  | x :: xs, s, k, hr, h => by
    have hp := List.pairwise_cons.1 hr
    unfold plcF at h
    split at h
    · rename_i hq
      simp at h; subst h
      have e : remN (x :: xs) s = remN xs s := by unfold remN; rw [List.filter_cons]; simp [hq]
      rw [e, remN_none (fun y hy he => by
        have h1 := hp.1 y hy
        rw [he, ← eq_dl.1 hq] at h1
        exact Ordered.irrefl _ h1)]
      simp
    · rename_i hq
      cases hc : plcF xs s with
      | none => rw [hc] at h; simp at h
      | some j =>
        rw [hc] at h; simp at h; subst h
        have ih := rem_erase hp.2 hc
        have hq2 : (x.name.toList == s.toList) = false := by simpa using hq
        have e : remN (x :: xs) s = x :: remN xs s := by unfold remN; rw [List.filter_cons]; simp [hq2]
        rw [e, ih]; simp
/-- A directory put at its place. -/
def setN (x : Dr) : List Dr → List Dr
  | [] => [x]
  | d :: ds => if d.name.toList == x.name.toList then x :: ds else if Op.bytesLess x.name.toList d.name.toList then x :: d :: ds else d :: setN x ds
/-- As the reference finds it. -/
def setS (x : Dr) : Bool → List Dr → List Dr
  | put, [] => if put then [] else [x]
  | put, d :: ds => (if !put && !Op.bytesLess d.name.toList x.name.toList then [x] else []) ++ ((if d.name.toList == x.name.toList then [] else [d]) ++ setS x (put || !Op.bytesLess d.name.toList x.name.toList) ds)
theorem setS_put (x : Dr) : ∀ (ds : List Dr), (∀ d, d ∈ ds → dl d.name ≠ dl x.name) → setS x true ds = ds
  | [], _ => rfl
  | d :: ds, h => by
    have h1 := ne_dl.2 (h d (List.mem_cons_self ..))
    unfold setS
    rw [h1, Bool.true_or, setS_put x ds (fun y hy => h y (List.mem_cons_of_mem _ hy))]; rfl
theorem setS_eq (x : Dr) : ∀ {ds : List Dr}, Rise ds → setS x false ds = setN x ds
  | [], _ => rfl
  | d :: ds, hr => by
    have hp := List.pairwise_cons.1 hr
    have ih := setS_eq x hp.2
    unfold setS setN
    rcases Ordered.tri (dl d.name) (dl x.name) with h | h | h
    · have e1 := (less_iff d.name x.name true).2 (decide_eq_true h)
      have e2 := ne_dl.2 (fun e : dl d.name = dl x.name => by rw [e] at h; exact Ordered.irrefl _ h)
      have e3 := (less_iff x.name d.name false).2 (decide_eq_false (fun k => Ordered.irrefl _ (Ordered.trans _ _ _ h k)))
      rw [e1, e2, e3]; simpa using ih
    · have e1 := (less_iff d.name x.name false).2 (decide_eq_false (fun k => by rw [h] at k; exact Ordered.irrefl _ k))
      rw [e1, eq_dl.2 h]
      simp only [Bool.not_false, Bool.and_self, if_true, Bool.or_true, List.nil_append]
      rw [setS_put x ds (fun y hy he => by
        have h1 := hp.1 y hy
        rw [he, h] at h1
        exact Ordered.irrefl _ h1)]; rfl
    · have e1 := (less_iff d.name x.name false).2 (decide_eq_false (fun k => Ordered.irrefl _ (Ordered.trans _ _ _ h k)))
      have e2 := ne_dl.2 (fun e : dl d.name = dl x.name => by rw [e] at h; exact Ordered.irrefl _ h)
      have e3 := (less_iff x.name d.name true).2 (decide_eq_true h)
      rw [e1, e2, e3]
      simp only [Bool.not_false, Bool.and_self, if_true, Bool.or_true, Bool.false_eq_true, if_false]
      rw [setS_put x ds (fun y hy he => by
        have h1 := hp.1 y hy
        rw [he] at h1
        exact Ordered.irrefl _ (Ordered.trans _ _ _ h h1))]; rfl
/-- The first directory of a higher name, or the length. -/
def gtF (s : ByteArray) : List Dr → Nat
  | [] => 0
  | d :: ds => if Op.bytesLess s.toList d.name.toList then 0 else gtF s ds + 1
theorem gtF_le (s : ByteArray) : ∀ (xs : List Dr), gtF s xs ≤ xs.length
  | [] => Nat.le_refl _
  | d :: ds => by
    have := gtF_le s ds
    unfold gtF; split <;> simp <;> omega
theorem gtF_yes {s : ByteArray} : ∀ {xs : List Dr} {k : Nat} {x : Dr}, (∀ (j : Nat) y, j < k → xs[j]? = some y → Op.bytesLess s.toList y.name.toList = false) → xs[k]? = some x → Op.bytesLess s.toList x.name.toList = true → gtF s xs = k
  | [], k, x, _, h, _ => by simp at h
  | y :: ys, 0, x, _, h, hn => by
    simp at h; subst h; unfold gtF; rw [hn]; rfl
  | y :: ys, k + 1, x, h1, h, hn => by
    have h0 := h1 0 y (Nat.succ_pos k) rfl
    have ih := gtF_yes (xs := ys) (k := k) (x := x) (fun j z hj hz => h1 (j + 1) z (Nat.succ_lt_succ hj) (by simpa using hz)) (by simpa using h) hn
    unfold gtF; rw [h0, ih]; rfl
theorem gtF_no {s : ByteArray} : ∀ {xs : List Dr}, (∀ (j : Nat) y, j < xs.length → xs[j]? = some y → Op.bytesLess s.toList y.name.toList = false) → gtF s xs = xs.length
  | [], _ => rfl
  | y :: ys, h => by
    have h0 := h 0 y (by simp) rfl
    have ih := gtF_no (xs := ys) (s := s) (fun j z hj hz => h (j + 1) z (by simpa using hj) (by simpa using hz))
    unfold gtF; rw [h0, ih]; simp
theorem set_at (x : Dr) : ∀ {xs : List Dr} {k : Nat}, Rise xs → plcF xs x.name = some k → xs.set k x = setN x xs
  | [], k, _, h => by simp [plcF] at h
  | d :: ds, k, hr, h => by
    have hp := List.pairwise_cons.1 hr
    unfold plcF at h
    split at h
    · rename_i hq
      simp at h; subst h
      unfold setN; rw [hq]; rfl
    · rename_i hq
      cases hc : plcF ds x.name with
      | none => rw [hc] at h; simp at h
      | some j =>
        rw [hc] at h; simp at h; subst h
        have ih := set_at x hp.2 hc
        have hq2 : (d.name.toList == x.name.toList) = false := by simpa using hq
        obtain ⟨y, hy⟩ : ∃ y, ds[j]? = some y := ⟨_, List.getElem?_eq_getElem (plcF_lt hc)⟩
        have hyn : dl y.name = dl x.name := eq_dl.1 (plcF_nm hc hy)
        have h1 := hp.1 y (List.mem_of_getElem? hy)
        rw [hyn] at h1
        have e3 := (less_iff x.name d.name false).2 (decide_eq_false (fun k => Ordered.irrefl _ (Ordered.trans _ _ _ h1 k)))
        unfold setN; rw [hq2, e3, List.set_cons_succ, ih]; rfl
theorem ins_at (x : Dr) : ∀ {xs : List Dr}, plcF xs x.name = none → xs.take (gtF x.name xs) ++ x :: xs.drop (gtF x.name xs) = setN x xs
  | [], _ => rfl
  | d :: ds, h => by
    unfold plcF at h
    split at h
    · simp at h
    · rename_i hq
      have hq2 : (d.name.toList == x.name.toList) = false := by simpa using hq
      have hc : plcF ds x.name = none := by
        cases hc : plcF ds x.name with
        | none => rfl
        | some j => rw [hc] at h; simp at h
      unfold setN gtF
      rw [hq2]
      cases hl : Op.bytesLess x.name.toList d.name.toList with
      | true => rfl
      | false =>
        simp only [Bool.false_eq_true, if_false, List.take_succ_cons, List.drop_succ_cons, List.cons_append]
        rw [ins_at x hc]
theorem setN_mem (x : Dr) : ∀ {xs : List Dr} {y : Dr}, y ∈ setN x xs → y = x ∨ y ∈ xs
  | [], y, h => by unfold setN at h; simp at h; exact .inl h
  | d :: ds, y, h => by
    unfold setN at h
    split at h
    · rcases List.mem_cons.1 h with h | h
      · exact .inl h
      · exact .inr (List.mem_cons_of_mem _ h)
    · split at h
      · rcases List.mem_cons.1 h with h | h
        · exact .inl h
        · exact .inr h
      · rcases List.mem_cons.1 h with h | h
        · exact .inr (by rw [h]; exact List.mem_cons_self ..)
        · rcases setN_mem x h with h | h
          · exact .inl h
          · exact .inr (List.mem_cons_of_mem _ h)
theorem setN_len (x : Dr) : ∀ (xs : List Dr), (setN x xs).length ≤ xs.length + 1
  | [] => Nat.le_refl _
  | d :: ds => by
    have := setN_len x ds
    unfold setN; split
    · simp
    · split <;> simp <;> omega
def invDf (d : Df) : Df := ⟨d.name, d.removed, d.added⟩
def invL (xs : List Df) : List Df := (xs.map invDf).reverse
theorem invL_twice (xs : List Df) : invL (invL xs) = xs := by
  unfold invL
  rw [List.map_reverse, List.reverse_reverse, List.map_map]
  have : (invDf ∘ invDf) = id := by funext d; rfl
  rw [this, List.map_id]
theorem invL_len (xs : List Df) : (invL xs).length = xs.length := by unfold invL; simp
theorem invL_take {xs : List Df} {k : Nat} {x : Df} (h : xs[k]? = some x) : invL (xs.take (k + 1)) = invDf x :: invL (xs.take k) := by
  rw [take_snoc h]; unfold invL; rw [List.map_append, List.reverse_append]; rfl
theorem invL_drop {xs : List Df} {k : Nat} {x : Df} (h : xs[k]? = some x) : invL (xs.drop k) = invL (xs.drop (k + 1)) ++ [invDf x] := by
  obtain ⟨h1, h2⟩ := List.getElem?_eq_some_iff.1 h
  rw [List.drop_eq_getElem_cons h1, h2]; unfold invL; rw [List.map_cons, List.reverse_cons]
end Go.Proofs.Ytgekgokkbakcmaa
