/- Plain law: the edges between the places of directories, and how far one round can raise. No program in sight. -/
import Derived.Test.YtejgpghcahinhaaY1
import Derived.Test.YtejgpghcahinhaaL1
import Derived.Test.YtejgpghcahinhaaN5
import Derived.Test.YtejgpghcahinhaaN2
namespace Go.Proofs.Ytejgpghcahinhaa
open Go.RowKit Go.Sort
set_option linter.unusedVariables false

def plcF : List Dr → ByteArray → Option Nat
  | [], _ => none
  | x :: xs, s => if x.name.toList == s.toList then some 0 else (plcF xs s).map (· + 1)
theorem plcF_no : ∀ {xs : List Dr} {s : ByteArray}, (∀ (j : Nat) y, j < xs.length → xs[j]? = some y → (y.name.toList == s.toList) = false) → plcF xs s = none
  | [], s, h => rfl
  | x :: xs, s, h => by
    have h0 := h 0 x (by simp) (by simp)
    have ih := plcF_no (xs := xs) (s := s) (fun j y hj hy => h (j + 1) y (by simpa using hj) (by simpa using hy))
    unfold plcF; rw [h0, ih]; rfl
theorem plcF_yes : ∀ {xs : List Dr} {s : ByteArray} {k : Nat} {x : Dr}, (∀ (j : Nat) y, j < k → xs[j]? = some y → (y.name.toList == s.toList) = false) → xs[k]? = some x → (x.name.toList == s.toList) = true → plcF xs s = some k
  | [], s, k, x, _, h, _ => by simp at h
  | y :: ys, s, 0, x, h, hx, hn => by
    obtain rfl : y = x := by simpa using hx
    unfold plcF; rw [hn]; rfl
  | y :: ys, s, k + 1, x, h, hx, hn => by
    have h0 := h 0 y (by omega) (by simp)
    have ih := plcF_yes (xs := ys) (s := s) (k := k) (x := x) (fun j z hj hz => h (j + 1) z (by omega) (by simpa using hz)) (by simpa using hx) hn
    unfold plcF; rw [h0, ih]; rfl
theorem plc_cases {xs : List Dr} {s : ByteArray} {n : Nat} {i : Int} (hn : xs.length = n) (h : plc xs s n i) : (i = -1 ∧ Hid (plcF xs s = none)) ∨ ∃ k : Nat, i = k ∧ k < n ∧ Hid (plcF xs s = some k) := by
  rcases h with ⟨h1, h2⟩ | ⟨k, h1, h2, h3, y, h4, h5⟩
  · exact .inl ⟨h1, Lib.hid (plcF_no (by rw [hn]; exact h2))⟩
  · exact .inr ⟨k, h1, h2, Lib.hid (plcF_yes h3 h4 h5)⟩
theorem plcF_lt : ∀ {xs : List Dr} {s : ByteArray} {k : Nat}, plcF xs s = some k → k < xs.length
  | [], s, k, h => by simp [plcF] at h
  | x :: xs, s, k, h => by
    unfold plcF at h
    split at h
    · simp at h; subst h; simp
    · cases hp : plcF xs s with
      | none => rw [hp] at h; simp at h
      | some j => rw [hp] at h; simp at h; have := plcF_lt hp; simp; omega
def edg (xs : List Dr) (l : List ByteArray) (m : Nat) : List (Nat × Nat) := l.filterMap fun s => (plcF xs s).map fun k => (k, m)
theorem edg_zero (xs : List Dr) (l : List ByteArray) (m : Nat) : edg xs (l.take 0) m = [] := by simp [edg]
theorem edg_no {xs : List Dr} {l : List ByteArray} {m k : Nat} {s : ByteArray} (h : l[k]? = some s) (hp : plcF xs s = none) : edg xs (l.take (k + 1)) m = edg xs (l.take k) m := by
  rw [take_snoc h]; unfold edg; rw [List.filterMap_append]; simp [hp]
theorem edg_yes {xs : List Dr} {l : List ByteArray} {m k j : Nat} {s : ByteArray} (h : l[k]? = some s) (hp : plcF xs s = some j) : edg xs (l.take (k + 1)) m = edg xs (l.take k) m ++ [(j, m)] := by
  rw [take_snoc h]; unfold edg; rw [List.filterMap_append]; simp [hp]
theorem edg_len (xs : List Dr) (l : List ByteArray) (m : Nat) : (edg xs l m).length ≤ l.length := by unfold edg; exact List.length_filterMap_le _ _
theorem mem_edg {xs : List Dr} {l : List ByteArray} {m : Nat} {e : Nat × Nat} (h : e ∈ edg xs l m) : e.1 < xs.length ∧ e.2 = m := by
  unfold edg at h
  obtain ⟨s, _, h2⟩ := List.mem_filterMap.1 h
  cases hp : plcF xs s with
  | none => rw [hp] at h2; simp at h2
  | some k => rw [hp] at h2; simp at h2; subst h2; exact ⟨plcF_lt hp, rfl⟩
noncomputable def dirE (xs : List Dr) : Edges := fun i => match xs[i]? with
  | none => []
  | some x => edg xs (depsL x.query false) 0 ++ edg xs (depsL x.query true) 1
theorem dirE_at {xs : List Dr} {i : Nat} {x : Dr} (h : xs[i]? = some x) : dirE xs i = edg xs (depsL x.query false) 0 ++ edg xs (depsL x.query true) 1 := by unfold dirE; rw [h]
theorem dirE_ok {xs : List Dr} {n : Nat} (h : xs.length = n) : OkE n (dirE xs) := by
  intro i hi e he
  unfold dirE at he
  split at he
  · simp at he
  · rcases List.mem_append.1 he with h1 | h1
    · have := mem_edg h1; omega
    · have := mem_edg h1; omega
theorem dirE_two {xs : List Dr} {i : Nat} {e : Nat × Nat} (he : e ∈ dirE xs i) : e.2 ≤ 1 := by
  unfold dirE at he
  split at he
  · simp at he
  · rcases List.mem_append.1 he with h1 | h1
    · have := mem_edg h1; omega
    · have := mem_edg h1; omega
theorem dirE_len {xs : List Dr} (h9 : ∀ x, x ∈ xs → x.query.length ≤ 9) (i : Nat) : (dirE xs i).length ≤ 18 := by
  unfold dirE
  split
  · simp
  · rename_i x hx
    have h1 := h9 x (List.mem_of_getElem? hx)
    have h2 := edg_len xs (depsL x.query false) 0
    have h3 := edg_len xs (depsL x.query true) 1
    have h4 := depsL_le x.query false
    have h5 := depsL_le x.query true
    rw [List.length_append]; omega
/-- All levels are at most b. -/
def Bd (b : Nat) (L : List Nat) : Prop := ∀ i, gt L i ≤ b
theorem bd_mono {a b : Nat} {L : List Nat} (h : Bd a L) (hab : a ≤ b) : Bd b L := fun i => Nat.le_trans (h i) hab
theorem gt_set_le (L : List Nat) (i x k : Nat) : gt (L.set i x) k ≤ x ∨ gt (L.set i x) k = gt L k := by
  by_cases h : i = k
  · subst h
    by_cases h2 : i < L.length
    · left; rw [gt_set_self h2]; exact Nat.le_refl _
    · right; rw [List.set_eq_of_length_le (by omega)]
  · right; exact gt_set_ne h
theorem bd_upd {b i : Nat} {L : List Nat} {e : Nat × Nat} (h : Bd b L) (he : e.2 ≤ 1) : Bd (b + 1) (upd i L e) := by
  intro k
  have h1 := h k
  have h2 := h e.1
  unfold upd
  split
  · rcases gt_set_le L i (gt L e.1 + e.2) k with h3 | h3 <;> omega
  · omega
theorem bd_fold {i : Nat} : ∀ (l : List (Nat × Nat)) {b : Nat} {L : List Nat}, Bd b L → (∀ e, e ∈ l → e.2 ≤ 1) → Bd (b + l.length) (l.foldl (upd i) L)
  | [], b, L, h, _ => h
  | e :: l, b, L, h, he => by
    have h1 := bd_fold (i := i) l (bd_upd (i := i) h (he e (by simp))) (fun e h => he e (by simp [h]))
    rw [List.foldl_cons]
    intro k; have := h1 k; simp only [List.length_cons]; omega
/-- The levels when a round has come to place i. -/
noncomputable def rsT (xs : List Dr) (L : List Nat) (i : Nat) : List Nat := (List.range i).foldl (raise1 (dirE xs)) L
theorem rsT_zero (xs : List Dr) (L : List Nat) : rsT xs L 0 = L := rfl
theorem rsT_all (xs : List Dr) (L : List Nat) (n : Nat) : rsT xs L n = raise n (dirE xs) L := rfl
theorem rsT_len (xs : List Dr) (L : List Nat) (i : Nat) : (rsT xs L i).length = L.length := raiseF_len _ _ _
noncomputable def rsP (xs : List Dr) (L : List Nat) (i : Nat) (p : List ByteArray) (m : Nat) (k : Nat) : List Nat := (edg xs (p.take k) m).foldl (upd i) L
theorem rsP_zero (xs : List Dr) (L : List Nat) (i : Nat) (p : List ByteArray) (m : Nat) : rsP xs L i p m 0 = L := by simp [rsP, edg]
theorem rsP_len (xs : List Dr) (L : List Nat) (i : Nat) (p : List ByteArray) (m k : Nat) : (rsP xs L i p m k).length = L.length := updF_len _ _ _
theorem rsP_no {xs : List Dr} {L : List Nat} {i : Nat} {p : List ByteArray} {m k : Nat} {s : ByteArray} (h : p[k]? = some s) (hp : plcF xs s = none) : rsP xs L i p m (k + 1) = rsP xs L i p m k := by
  unfold rsP; rw [edg_no h hp]
theorem rsP_yes {xs : List Dr} {L : List Nat} {i : Nat} {p : List ByteArray} {m k j : Nat} {s : ByteArray} (h : p[k]? = some s) (hp : plcF xs s = some j) : rsP xs L i p m (k + 1) = upd i (rsP xs L i p m k) (j, m) := by
  unfold rsP; rw [edg_yes h hp, List.foldl_append]; rfl
theorem upd_yes {L : List Nat} {i j m : Nat} (h : gt L i < gt L j + m) : upd i L (j, m) = L.set i (gt L j + m) := by unfold upd; rw [if_pos h]
theorem upd_no {L : List Nat} {i j m : Nat} (h : ¬ gt L i < gt L j + m) : upd i L (j, m) = L := by unfold upd; rw [if_neg h]
theorem rsT_succ {xs : List Dr} {L : List Nat} {i : Nat} {x : Dr} (h : xs[i]? = some x) {q r : Nat} (hq : (depsL x.query false).length = q) (hr : (depsL x.query true).length = r) : rsT xs L (i + 1) = rsP xs (rsP xs (rsT xs L i) i (depsL x.query false) 0 q) i (depsL x.query true) 1 r := by
  unfold rsT rsP
  rw [List.range_succ, List.foldl_append, take_all hq, take_all hr]
  show raise1 (dirE xs) _ i = _
  unfold raise1
  rw [dirE_at h, List.foldl_append]
theorem bd_rsP {xs : List Dr} {L : List Nat} {b : Nat} (h : Bd b L) (i : Nat) (p : List ByteArray) (m : Nat) (hm : m ≤ 1) (k : Nat) : Bd (b + p.length) (rsP xs L i p m k) := by
  unfold rsP
  refine bd_mono (bd_fold _ h (fun e he => by have := mem_edg he; omega)) ?_
  have h1 := edg_len xs (p.take k) m
  rw [List.length_take] at h1
  omega
theorem bd_rsT {xs : List Dr} {L : List Nat} {b : Nat} (h : Bd b L) (h9 : ∀ x, x ∈ xs → x.query.length ≤ 9) : ∀ i, Bd (b + 18 * i) (rsT xs L i)
  | 0 => h
  | i + 1 => by
    have ih := bd_rsT h h9 i
    unfold rsT
    rw [List.range_succ, List.foldl_append]
    show Bd _ (raise1 (dirE xs) _ i)
    unfold raise1
    refine bd_mono (bd_fold _ ih (fun e he => dirE_two he)) ?_
    have := dirE_len h9 i
    omega
theorem bd_iter {xs : List Dr} {n : Nat} (hn : xs.length = n) (h9 : ∀ x, x ∈ xs → x.query.length ≤ 9) : ∀ r, Bd (18 * n * r) (iter n (dirE xs) r)
  | 0 => fun i => by
    have := zero_le n (List.replicate n 0)
    show gt (List.replicate n 0) i ≤ _
    unfold gt
    by_cases h : i < n
    · simp [h]
    · simp [h]
  | r + 1 => by
    have ih := bd_iter hn h9 r
    have h1 := bd_rsT ih h9 n
    refine bd_mono (L := iter n (dirE xs) (r + 1)) h1 ?_
    rw [Nat.mul_succ]; omega
theorem dirs_use {xs : List Dr} (h : dirsB xs = true) : xs.length ≤ 5 ∧ ∀ x, x ∈ xs → x.query.length ≤ 9 := by
  have h1 := (dirs_ex xs).choose_spec
  unfold dirsB at h
  simp only [Bool.and_eq_true] at h
  refine ⟨by simpa using h.2, fun x hx => ?_⟩
  obtain ⟨i, hi⟩ := List.getElem?_of_mem hx
  have h2 := h1.1 h.1 i x hi
  unfold dirAt at h2
  simp only [Bool.and_eq_true] at h2
  have h3 := h2.2.1
  unfold qryB at h3
  simp only [Bool.and_eq_true] at h3
  have h4 := h3.2
  unfold inB at h4
  simp at h4
  omega
/-- What Strata returns. -/
noncomputable def stB (xs : List Dr) : Bool := dirsB xs && strB xs.length (dirE xs)
noncomputable def stL (xs : List Dr) : List Nat := if stB xs then strL xs.length (dirE xs) else []
abbrev natsV (L : List Nat) : List Value := L.map fun (x : Nat) => Value.int .i64 (x : Int)
theorem natsV_ints (L : List Nat) : natsV L = ints (L.map fun (x : Nat) => (x : Int)) := by unfold natsV ints; rw [List.map_map]; rfl
noncomputable def strOf (xs : List Dr) (s : ByteArray) : Int := if stB xs then (match plcF xs s with | some k => (gt (stL xs) k : Int) | none => -1) else -1
def mxL : List Nat → Int
  | [] => -1
  | x :: xs => max (x : Int) (mxL xs)
noncomputable def mxS (xs : List Dr) : Int := mxL (stL xs)
theorem mxL_snoc : ∀ (L : List Nat) (x : Nat), mxL (L ++ [x]) = max (mxL L) (x : Int)
  | [], x => by simp [mxL]; omega
  | y :: ys, x => by
    have h := mxL_snoc ys x
    simp only [List.cons_append, mxL, h]; omega
/-- The sum of a row of numbers in memory. -/
def sumW (w : World) (g n : Nat) : Nat := sumN ((List.range n).map fun j => match w.cell? ⟨g, j, none⟩ with | some (.int _ x) => x.toNat | _ => 0)
theorem sumW_of {w : World} {g n : Nat} {L : List Nat} (hl : L.length = n) (h : ∀ j, j < n → w.cell? ⟨g, j, none⟩ = some (.int .i64 (gt L j))) : sumW w g n = sumN L := by
  unfold sumW
  congr 1
  apply List.ext_getElem (by simp [hl])
  intro i h1 h2
  have h3 := h i (by simpa using h1)
  simp only [List.getElem_map, List.getElem_range, h3]
  unfold gt
  simp [h2]
end Go.Proofs.Ytejgpghcahinhaa
