/- Texts Y2, Y13, Y12, Y7, K5, as far as they are needed. -/
import Derived.Test.YtgekgokkbakcmaaGreatSt4
import Derived.Test.YtgekgokkbakcmaaGreatSt2
import Derived.Test.YtgekgokkbakcmaaGreatSt8
import Derived.Test.YtgekgokkbakcmaaGreatSt3
import Derived.Test.YtgekgokkbakcmaaGreatSt5
import Derived.Test.YtgekgokkbakcmaaGreatSt1
import Derived.Test.YtgekgokkbakcmaaGreatSt0
namespace Go.Proofs.YtgekgokkbakcmaaGreat
open Go.RowKit Go.Sort
set_option linter.unusedVariables false
def plcF : List Dr → ByteArray → Option Nat
  | [], _ => none
  | x :: xs, s => if x.name.toList == s.toList then some 0 else (plcF xs s).map (· + 1)
theorem plcF_no : ∀ {xs : List Dr} {s : ByteArray}, (∀ (j : Nat) y, j < xs.length → xs[j]? = some y → (y.name.toList == s.toList) = false) → plcF xs s = none
  | [], s, h => rfl
  | x :: xs, s, h => by
    have h0 := h 0 x (by simp) (by simp)
    have ih := plcF_no (xs := xs) (s := s) (fun j y hj hy => h (j + 1) y (by simpa using hj) (by simpa using hy))
    unfold plcF; rw [h0, ih]; rfl
theorem plcF_yes : ∀ {xs : List Dr} {s : ByteArray} {k : Nat} {x : Dr}, (∀ (j : Nat) y, j < k → xs[j]? = some y → (y.name.toList == s.toList) = false) → xs[k]? = some x → (x.name.toList == s.toList) = true → plcF xs s = some k
  | [], s, k, x, _, h, _ => by simp at h
  | y :: ys, s, 0, x, h, hx, hn => by
    obtain rfl : y = x := by simpa using hx
    unfold plcF; rw [hn]; rfl
  | y :: ys, s, k + 1, x, h, hx, hn => by
    have h0 := h 0 y (by omega) (by simp)
    have ih := plcF_yes (xs := ys) (s := s) (k := k) (x := x) (fun j z hj hz => h (j + 1) z (by omega) (by simpa using hz)) (by simpa using hx) hn
    unfold plcF; rw [h0, ih]; rfl
theorem plc_cases {xs : List Dr} {s : ByteArray} {n : Nat} {i : Int} (hn : xs.length = n) (h : plc xs s n i) : (i = -1 ∧ Hid (plcF xs s = none)) ∨ ∃ k : Nat, i = k ∧ k < n ∧ Hid (plcF xs s = some k) := by
  rcases h with ⟨h1, h2⟩ | ⟨k, h1, h2, h3, y, h4, h5⟩
  · exact .inl ⟨h1, Lib.hid (plcF_no (by rw [hn]; exact h2))⟩
  · exact .inr ⟨k, h1, h2, Lib.hid (plcF_yes h3 h4 h5)⟩
theorem plcF_lt : ∀ {xs : List Dr} {s : ByteArray} {k : Nat}, plcF xs s = some k → k < xs.length
  | [], s, k, h => by simp [plcF] at h
  | x :: xs, s, k, h => by
    unfold plcF at h
    split at h
    · simp at h; subst h; simp
    · cases hp : plcF xs s with
      | none => rw [hp] at h; simp at h
      | some j => rw [hp] at h; simp at h; have := plcF_lt hp; simp; omega
def edg (xs : List Dr) (l : List ByteArray) (m : Nat) : List (Nat × Nat) := l.filterMap fun s => (plcF xs s).map fun k => (k, m)
theorem edg_zero (xs : List Dr) (l : List ByteArray) (m : Nat) : edg xs (l.take 0) m = [] := by simp [edg]
theorem edg_no {xs : List Dr} {l : List ByteArray} {m k : Nat} {s : ByteArray} (h : l[k]? = some s) (hp : plcF xs s = none) : edg xs (l.take (k + 1)) m = edg xs (l.take k) m := by
  rw [take_snoc h]; unfold edg; rw [List.filterMap_append]; simp [hp]
theorem edg_yes {xs : List Dr} {l : List ByteArray} {m k j : Nat} {s : ByteArray} (h : l[k]? = some s) (hp : plcF xs s = some j) : edg xs (l.take (k + 1)) m = edg xs (l.take k) m ++ [(j, m)] := by
  rw [take_snoc h]; unfold edg; rw [List.filterMap_append]; simp [hp]
theorem edg_len (xs : List Dr) (l : List ByteArray) (m : Nat) : (edg xs l m).length ≤ l.length := by unfold edg; exact List.length_filterMap_le _ _
theorem mem_edg {xs : List Dr} {l : List ByteArray} {m : Nat} {e : Nat × Nat} (h : e ∈ edg xs l m) : e.1 < xs.length ∧ e.2 = m := by
  unfold edg at h
  obtain ⟨s, _, h2⟩ := List.mem_filterMap.1 h
  cases hp : plcF xs s with
  | none => rw [hp] at h2; simp at h2
  | some k => rw [hp] at h2; simp at h2; subst h2; exact ⟨plcF_lt hp, rfl⟩
noncomputable def dirE (xs : List Dr) : Edges := fun i => match xs[i]? with
  | none => []
  | some x => edg xs (depsL x.query false) 0 ++ edg xs (depsL x.query true) 1
theorem dirE_at {xs : List Dr} {i : Nat} {x : Dr} (h : xs[i]? = some x) : dirE xs i = edg xs (depsL x.query false) 0 ++ edg xs (depsL x.query true) 1 := by unfold dirE; rw [h]
theorem dirE_ok {xs : List Dr} {n : Nat} (h : xs.length = n) : OkE n (dirE xs) := by
  intro i hi e he
  unfold dirE at he
  split at he
  · simp at he
  · rcases List.mem_append.1 he with h1 | h1
    · have := mem_edg h1; omega
    · have := mem_edg h1; omega
theorem dirE_two {xs : List Dr} {i : Nat} {e : Nat × Nat} (he : e ∈ dirE xs i) : e.2 ≤ 1 := by
  unfold dirE at he
  split at he
  · simp at he
  · rcases List.mem_append.1 he with h1 | h1
    · have := mem_edg h1; omega
    · have := mem_edg h1; omega
theorem dirE_len {xs : List Dr} (h9 : ∀ x, x ∈ xs → x.query.length ≤ 9) (i : Nat) : (dirE xs i).length ≤ 18 := by
  unfold dirE
  split
  · simp
  · rename_i x hx
    have h1 := h9 x (List.mem_of_getElem? hx)
    have h2 := edg_len xs (depsL x.query false) 0
    have h3 := edg_len xs (depsL x.query true) 1
    have h4 := depsL_le x.query false
    have h5 := depsL_le x.query true
    rw [List.length_append]; omega
def Bd (b : Nat) (L : List Nat) : Prop := ∀ i, gt L i ≤ b
theorem bd_mono {a b : Nat} {L : List Nat} (h : Bd a L) (hab : a ≤ b) : Bd b L := fun i => Nat.le_trans (h i) hab
theorem gt_set_le (L : List Nat) (i x k : Nat) : gt (L.set i x) k ≤ x ∨ gt (L.set i x) k = gt L k := by
  by_cases h : i = k
  · subst h
    by_cases h2 : i < L.length
    · left; rw [gt_set_self h2]; exact Nat.le_refl _
    · right; rw [List.set_eq_of_length_le (by omega)]
  · right; exact gt_set_ne h
theorem bd_upd {b i : Nat} {L : List Nat} {e : Nat × Nat} (h : Bd b L) (he : e.2 ≤ 1) : Bd (b + 1) (upd i L e) := by
  intro k
  have h1 := h k
  have h2 := h e.1
  unfold upd
  split
  · rcases gt_set_le L i (gt L e.1 + e.2) k with h3 | h3 <;> omega
  · omega
theorem bd_fold {i : Nat} : ∀ (l : List (Nat × Nat)) {b : Nat} {L : List Nat}, Bd b L → (∀ e, e ∈ l → e.2 ≤ 1) → Bd (b + l.length) (l.foldl (upd i) L)
  | [], b, L, h, _ => h
  | e :: l, b, L, h, he => by
    have h1 := bd_fold (i := i) l (bd_upd (i := i) h (he e (by simp))) (fun e h => he e (by simp [h]))
    rw [List.foldl_cons]
    intro k; have := h1 k; simp only [List.length_cons]; omega
noncomputable def rsT (xs : List Dr) (L : List Nat) (i : Nat) : List Nat := (List.range i).foldl (raise1 (dirE xs)) L
theorem rsT_all (xs : List Dr) (L : List Nat) (n : Nat) : rsT xs L n = raise n (dirE xs) L := rfl
theorem rsT_len (xs : List Dr) (L : List Nat) (i : Nat) : (rsT xs L i).length = L.length := raiseF_len _ _ _
noncomputable def rsP (xs : List Dr) (L : List Nat) (i : Nat) (p : List ByteArray) (m : Nat) (k : Nat) : List Nat := (edg xs (p.take k) m).foldl (upd i) L
theorem rsP_zero (xs : List Dr) (L : List Nat) (i : Nat) (p : List ByteArray) (m : Nat) : rsP xs L i p m 0 = L := by simp [rsP, edg]
theorem rsP_no {xs : List Dr} {L : List Nat} {i : Nat} {p : List ByteArray} {m k : Nat} {s : ByteArray} (h : p[k]? = some s) (hp : plcF xs s = none) : rsP xs L i p m (k + 1) = rsP xs L i p m k := by
  unfold rsP; rw [edg_no h hp]
theorem rsP_yes {xs : List Dr} {L : List Nat} {i : Nat} {p : List ByteArray} {m k j : Nat} {s : ByteArray} (h : p[k]? = some s) (hp : plcF xs s = some j) : rsP xs L i p m (k + 1) = upd i (rsP xs L i p m k) (j, m) := by
  unfold rsP; rw [edg_yes h hp, List.foldl_append]; rfl
theorem upd_yes {L : List Nat} {i j m : Nat} (h : gt L i < gt L j + m) : upd i L (j, m) = L.set i (gt L j + m) := by unfold upd; rw [if_pos h]
theorem upd_no {L : List Nat} {i j m : Nat} (h : ¬ gt L i < gt L j + m) : upd i L (j, m) = L := by unfold upd; rw [if_neg h]
theorem rsT_succ {xs : List Dr} {L : List Nat} {i : Nat} {x : Dr} (h : xs[i]? = some x) {q r : Nat} (hq : (depsL x.query false).length = q) (hr : (depsL x.query true).length = r) : rsT xs L (i + 1) = rsP xs (rsP xs (rsT xs L i) i (depsL x.query false) 0 q) i (depsL x.query true) 1 r := by
  unfold rsT rsP
  rw [List.range_succ, List.foldl_append, take_all hq, take_all hr]
  show raise1 (dirE xs) _ i = _
  unfold raise1
  rw [dirE_at h, List.foldl_append]
theorem bd_rsP {xs : List Dr} {L : List Nat} {b : Nat} (h : Bd b L) (i : Nat) (p : List ByteArray) (m : Nat) (hm : m ≤ 1) (k : Nat) : Bd (b + p.length) (rsP xs L i p m k) := by
  unfold rsP
  refine bd_mono (bd_fold _ h (fun e he => by have := mem_edg he; omega)) ?_
  have h1 := edg_len xs (p.take k) m
  rw [List.length_take] at h1
  omega
theorem bd_rsT {xs : List Dr} {L : List Nat} {b : Nat} (h : Bd b L) (h9 : ∀ x, x ∈ xs → x.query.length ≤ 9) : ∀ i, Bd (b + 18 * i) (rsT xs L i)
  | 0 => h
  | i + 1 => by
    have ih := bd_rsT h h9 i
    unfold rsT
    rw [List.range_succ, List.foldl_append]
    show Bd _ (raise1 (dirE xs) _ i)
    unfold raise1
    refine bd_mono (bd_fold _ ih (fun e he => dirE_two he)) ?_
    have := dirE_len h9 i
    omega
theorem bd_iter {xs : List Dr} {n : Nat} (hn : xs.length = n) (h9 : ∀ x, x ∈ xs → x.query.length ≤ 9) : ∀ r, Bd (18 * n * r) (iter n (dirE xs) r)
  | 0 => fun i => by
    have := zero_le n (List.replicate n 0)
    show gt (List.replicate n 0) i ≤ _
    unfold gt
    by_cases h : i < n
    · simp [h]
    · simp [h]
  | r + 1 => by
    have ih := bd_iter hn h9 r
    have h1 := bd_rsT ih h9 n
    refine bd_mono (L := iter n (dirE xs) (r + 1)) h1 ?_
    rw [Nat.mul_succ]; omega
theorem dirs_use {xs : List Dr} (h : dirsB xs = true) : xs.length ≤ 5 ∧ ∀ x, x ∈ xs → x.query.length ≤ 9 := by
  have h1 := (dirs_ex xs).choose_spec
  unfold dirsB at h
  simp only [Bool.and_eq_true] at h
  refine ⟨by simpa using h.2, fun x hx => ?_⟩
  obtain ⟨i, hi⟩ := List.getElem?_of_mem hx
  have h2 := h1.1 h.1 i x hi
  unfold dirAt at h2
  simp only [Bool.and_eq_true] at h2
  have h3 := h2.2.1
  unfold qryB at h3
  simp only [Bool.and_eq_true] at h3
  have h4 := h3.2
  unfold inB at h4
  simp at h4
  omega
noncomputable def stB (xs : List Dr) : Bool := dirsB xs && strB xs.length (dirE xs)
noncomputable def stL (xs : List Dr) : List Nat := if stB xs then strL xs.length (dirE xs) else []
abbrev natsV (L : List Nat) : List Value := L.map fun (x : Nat) => Value.int .i64 (x : Int)
theorem natsV_ints (L : List Nat) : natsV L = ints (L.map fun (x : Nat) => (x : Int)) := by unfold natsV ints; rw [List.map_map]; rfl
noncomputable def strOf (xs : List Dr) (s : ByteArray) : Int := if stB xs then (match plcF xs s with | some k => (gt (stL xs) k : Int) | none => -1) else -1
def mxL : List Nat → Int
  | [] => -1
  | x :: xs => max (x : Int) (mxL xs)
noncomputable def mxS (xs : List Dr) : Int := mxL (stL xs)
theorem mxL_snoc : ∀ (L : List Nat) (x : Nat), mxL (L ++ [x]) = max (mxL L) (x : Int)
  | [], x => by simp [mxL]; omega
  | y :: ys, x => by
    have h := mxL_snoc ys x
    simp only [List.cons_append, mxL, h]; omega
def sumW (w : World) (g n : Nat) : Nat := sumN ((List.range n).map fun j => match w.cell? ⟨g, j, none⟩ with | some (.int _ x) => x.toNat | _ => 0)
theorem sumW_of {w : World} {g n : Nat} {L : List Nat} (hl : L.length = n) (h : ∀ j, j < n → w.cell? ⟨g, j, none⟩ = some (.int .i64 (gt L j))) : sumW w g n = sumN L := by
  unfold sumW
  congr 1
  apply List.ext_getElem (by simp [hl])
  intro i h1 h2
  have h3 := h i (by simpa using h1)
  simp only [List.getElem_map, List.getElem_range, h3]
  unfold gt
  simp [h2]
end Go.Proofs.YtgekgokkbakcmaaGreat
namespace Go.Proofs.YtgekgokkbakcmaaGreat
open Go.RowKit Go.Sort
set_option linter.unusedVariables false
end Go.Proofs.YtgekgokkbakcmaaGreat
namespace Go.Proofs.YtgekgokkbakcmaaGreat
open Go.RowKit Go.Sort
set_option linter.unusedVariables false
theorem dirs_at {xs : List Dr} (h : dirsB xs = true) {i : Nat} {x : Dr} (hx : xs[i]? = some x) : dirAt xs i x = true := by
  have h1 := (dirs_ex xs).choose_spec
  unfold dirsB at h
  simp only [Bool.and_eq_true] at h
  exact h1.1 h.1 i x hx
theorem dirs_lt {xs : List Dr} (h : dirsB xs = true) : ∀ (j i : Nat) (x y : Dr), i < j → xs[i]? = some x → xs[j]? = some y → dl x.name < dl y.name
  | 0, i, x, y, hij, _, _ => absurd hij (Nat.not_lt_zero _)
  | j + 1, i, x, y, hij, hx, hy => by
    have h1 := dirs_at h hy
    unfold dirAt at h1
    simp only [Bool.and_eq_true] at h1
    have h2 := h1.2.2
    obtain ⟨z, hz⟩ : ∃ z, xs[j]? = some z := ⟨_, List.getElem?_eq_getElem (by have := (List.getElem?_eq_some_iff.1 hy).1; omega)⟩
    unfold ascB at h2
    simp only [hz] at h2
    have h3 : dl z.name < dl y.name := by simpa using (less_iff z.name y.name true).1 h2
    by_cases hc : i = j
    · subst hc
      obtain rfl := Option.some.inj (hx.symm.trans hz)
      exact h3
    · exact Ordered.trans _ _ _ (dirs_lt h j i x z (by omega) hx hz) h3
theorem nm_inj {xs : List Dr} (h : dirsB xs = true) {i j : Nat} {x y : Dr} (hx : xs[i]? = some x) (hy : xs[j]? = some y) (he : x.name = y.name) : i = j := by
  rcases Nat.lt_trichotomy i j with hl | hl | hl
  · have := dirs_lt h j i x y hl hx hy
    rw [he] at this; exact absurd this (Ordered.irrefl _)
  · exact hl
  · have := dirs_lt h i j y x hl hy hx
    rw [he] at this; exact absurd this (Ordered.irrefl _)
theorem plcF_has {xs : List Dr} (h : dirsB xs = true) {i : Nat} {x : Dr} (hx : xs[i]? = some x) : plcF xs x.name = some i :=
  plcF_yes (fun j y hj hy => by
    rw [Bool.eq_false_iff]
    intro he
    have := nm_inj h hy hx (beqB.1 he)
    omega) hx (beqB.2 rfl)
end Go.Proofs.YtgekgokkbakcmaaGreat
namespace Go.Proofs.YtgekgokkbakcmaaGreat
open Go.RowKit Go.Sort
set_option linter.unusedVariables false
def nmDr (xs : List Dr) (i : Nat) : ByteArray := match xs[i]? with | some x => x.name | none => ⟨#[]⟩
theorem nmDr_at {xs : List Dr} {i : Nat} {x : Dr} (h : xs[i]? = some x) : nmDr xs i = x.name := by unfold nmDr; rw [h]
def asks (xs : List Dr) (i v : Nat) : Prop := nmDr xs i = nmDr xs v ∨ asksB xs (nmDr xs i) (nmDr xs v) = true
def negs (xs : List Dr) (v : Nat) : Prop := ∃ e, e ∈ dirE xs v ∧ e.2 = 1
open Classical in
noncomputable def pot (xs : List Dr) (n i : Nat) : Nat := ((List.range n).filter fun v => decide (asks xs i v ∧ negs xs v)).length
theorem plcF_name : ∀ {xs : List Dr} {s : ByteArray} {k : Nat}, plcF xs s = some k → nmDr xs k = s
  | [], s, k, h => by simp [plcF] at h
  | x :: xs, s, k, h => by
    unfold plcF at h
    split at h
    · rename_i hq
      simp at h; subst h
      exact (nmDr_at (xs := x :: xs) (i := 0) rfl).trans (beqB.1 hq)
    · cases hp : plcF xs s with
      | none => rw [hp] at h; simp at h
      | some j =>
        rw [hp] at h; simp at h; subst h
        have h2 := plcF_name hp
        unfold nmDr at h2 ⊢
        simpa using h2
theorem mem_depsL_q {xs : List N} (u : Bool) {s : ByteArray} (hs : s ∈ depsL xs u) : s ∈ qDirs xs := by
  unfold depsL at hs
  rw [mem_so] at hs
  unfold depsZ at hs
  obtain ⟨p, hp, rfl⟩ := List.mem_map.1 hs
  rw [List.mem_filter] at hp
  unfold qDirs
  rw [mem_so]
  unfold qDirsN
  refine List.mem_map.2 ⟨p.1, List.mem_filter.2 ⟨(List.of_mem_zip hp.1).1, ?_⟩, rfl⟩
  have h2 := hp.2
  simp only [Bool.and_eq_true] at h2
  exact h2.1
theorem mem_dirE {xs : List Dr} {i : Nat} {e : Nat × Nat} (he : e ∈ dirE xs i) : ∃ x s, xs[i]? = some x ∧ plcF xs s = some e.1 ∧ ((e.2 = 0 ∧ s ∈ depsL x.query false) ∨ (e.2 = 1 ∧ s ∈ depsL x.query true)) := by
  unfold dirE at he
  split at he
  · cases he
  · rename_i x hx
    rcases List.mem_append.1 he with h | h
    · unfold edg at h
      obtain ⟨s, hs, h2⟩ := List.mem_filterMap.1 h
      cases hp : plcF xs s with
      | none => rw [hp] at h2; cases h2
      | some k => rw [hp] at h2; simp at h2; subst h2; exact ⟨x, s, hx, hp, .inl ⟨rfl, hs⟩⟩
    · unfold edg at h
      obtain ⟨s, hs, h2⟩ := List.mem_filterMap.1 h
      cases hp : plcF xs s with
      | none => rw [hp] at h2; cases h2
      | some k => rw [hp] at h2; simp at h2; subst h2; exact ⟨x, s, hx, hp, .inr ⟨rfl, hs⟩⟩
theorem asks_step {xs : List Dr} {i k v : Nat} {x : Dr} (hx : xs[i]? = some x) (hq : nmDr xs k ∈ qDirs x.query) (h : asks xs k v) : asks xs i v := by
  have hm := List.mem_of_getElem? hx
  right
  rw [nmDr_at hx]
  unfold asksB
  rw [hasB_iff, mem_clo]
  rcases h with h | h
  · exact .base (mem_dep.2 ⟨x, hm, by rw [← h]; exact hq, rfl⟩)
  · unfold asksB at h
    rw [hasB_iff, mem_clo] at h
    exact .step h hm hq
theorem str_of_none {xs : List Dr} (hz : namesIf (unsP xs) xs = []) : strB xs.length (dirE xs) = true := by
  have hno : ∀ x, x ∈ xs → unsP xs x.name = false := fun x hx => by
    cases hu : unsP xs x.name with
    | false => rfl
    | true =>
      have : x.name ∈ namesIf (unsP xs) xs := List.mem_map.2 ⟨x, List.mem_filter.2 ⟨hx, hu⟩, rfl⟩
      rw [hz] at this; cases this
  have hgt : ∀ i, i < xs.length → gt ((List.range xs.length).map (pot xs xs.length)) i = pot xs xs.length i := fun i hi => gt_at (by simp [hi])
  refine strB_of (M := (List.range xs.length).map (pot xs xs.length)) (dirE_ok rfl) ?_ (by simp)
  intro i hi e he
  obtain ⟨x, s, hx, hp, hc⟩ := mem_dirE he
  have hk := plcF_lt hp
  rw [hgt _ hk, hgt i hi]
  have hs := plcF_name hp
  have hq : nmDr xs e.1 ∈ qDirs x.query := by
    rw [hs]
    rcases hc with ⟨_, h⟩ | ⟨_, h⟩
    · exact mem_depsL_q _ h
    · exact mem_depsL_q _ h
  rcases hc with ⟨h0, hd⟩ | ⟨h1, hd⟩
  · rw [h0, Nat.add_zero]
    unfold pot
    refine filt_le (fun v _ hv => ?_)
    simp only [decide_eq_true_eq] at hv ⊢
    exact ⟨asks_step hx hq hv.1, hv.2⟩
  · rw [h1]
    unfold pot
    refine filt_lt (x := i) (fun v _ hv => ?_) (List.mem_range.2 hi) ?_ ?_
    · simp only [decide_eq_true_eq] at hv ⊢
      exact ⟨asks_step hx hq hv.1, hv.2⟩
    · simp only [decide_eq_true_eq]
      exact ⟨.inl rfl, e, he, h1⟩
    · simp only [decide_eq_false_iff_not]
      rintro ⟨ha, _⟩
      obtain ⟨z, hzk⟩ : ∃ z, xs[e.1]? = some z := ⟨_, List.getElem?_eq_getElem hk⟩
      have hzn := nmDr_at hzk
      have hu : unsP xs z.name = true := by
        unfold unsP
        rw [List.any_eq_true]
        refine ⟨x, List.mem_of_getElem? hx, ?_⟩
        unfold unsQ
        rw [← hzn, hs, hasB_iff.2 hd, Bool.and_true, Bool.or_eq_true]
        unfold asks at ha
        rw [hs, nmDr_at hx] at ha
        rcases ha with h | h
        · exact .inl (beqB.2 h.symm)
        · exact .inr h
      rw [hno z (List.mem_of_getElem? hzk)] at hu
      cases hu
theorem edge_le {xs : List Dr} (hs : strB xs.length (dirE xs) = true) {i k : Nat} {x : Dr} {s : ByteArray} (hx : xs[i]? = some x) (hp : plcF xs s = some k) {u : Bool} (hd : s ∈ depsL x.query u) :
    gt (strL xs.length (dirE xs)) k + (if u then 1 else 0) ≤ gt (strL xs.length (dirE xs)) i := by
  have hi := (List.getElem?_eq_some_iff.1 hx).1
  have h1 := strB_sat hs i hi (k, if u then 1 else 0) (by
    rw [dirE_at hx, List.mem_append]
    unfold edg
    cases u
    · exact .inl (List.mem_filterMap.2 ⟨s, hd, by rw [hp]; rfl⟩)
    · exact .inr (List.mem_filterMap.2 ⟨s, hd, by rw [hp]; rfl⟩))
  exact h1
theorem qdep_le {xs : List Dr} (hb : dirsB xs = true) (hs : strB xs.length (dirE xs) = true) {i k : Nat} {x z : Dr} (hx : xs[i]? = some x) (hz : xs[k]? = some z) (hd : z.name ∈ qDirs x.query) :
    gt (strL xs.length (dirE xs)) k ≤ gt (strL xs.length (dirE xs)) i := by
  have h1 := dirs_at hb hx
  unfold dirAt at h1
  simp only [Bool.and_eq_true] at h1
  rcases dep_all h1.2.1 hd with h | h
  · have := edge_le hs hx (plcF_has hb hz) h; simpa using this
  · have := edge_le hs hx (plcF_has hb hz) h; simp at this; omega
theorem reach_le {xs : List Dr} (hb : dirsB xs = true) (hs : strB xs.length (dirE xs) = true) {v : Nat} {z : Dr} (hz : xs[v]? = some z) {f : ByteArray} (h : Reach xs (dep xs z.name) f) :
    ∃ i x, xs[i]? = some x ∧ x.name = f ∧ gt (strL xs.length (dirE xs)) v ≤ gt (strL xs.length (dirE xs)) i := by
  induction h with
  | base h =>
    obtain ⟨x, hx, hq, rfl⟩ := mem_dep.1 h
    obtain ⟨i, hi⟩ := List.getElem?_of_mem hx
    exact ⟨i, x, hi, rfl, qdep_le hb hs hi hz hq⟩
  | @step s x _ hx hq ih =>
    obtain ⟨k, y, hk, rfl, hle⟩ := ih
    obtain ⟨i, hi⟩ := List.getElem?_of_mem hx
    exact ⟨i, x, hi, rfl, Nat.le_trans hle (qdep_le hb hs hi hk hq)⟩
theorem none_of_str {xs : List Dr} (hb : dirsB xs = true) (hs : strB xs.length (dirE xs) = true) : namesIf (unsP xs) xs = [] := by
  refine List.eq_nil_iff_forall_not_mem.2 (fun y hy => ?_)
  obtain ⟨x, hx, rfl⟩ := List.mem_map.1 hy
  rw [List.mem_filter] at hx
  obtain ⟨hxm, hu⟩ := hx
  obtain ⟨k, hk⟩ := List.getElem?_of_mem hxm
  unfold unsP at hu
  rw [List.any_eq_true] at hu
  obtain ⟨z, hz, h2⟩ := hu
  obtain ⟨i, hi⟩ := List.getElem?_of_mem hz
  unfold unsQ at h2
  simp only [Bool.and_eq_true, Bool.or_eq_true] at h2
  obtain ⟨h3, h4⟩ := h2
  have h5 := edge_le hs hi (plcF_has hb hk) (hasB_iff.1 h4)
  simp only [if_true] at h5
  rcases h3 with h3 | h3
  · have := nm_inj hb hi hk (beqB.1 h3)
    subst this
    omega
  · unfold asksB at h3
    rw [hasB_iff, mem_clo] at h3
    obtain ⟨j, w, hj, hn, hle⟩ := reach_le hb hs hi h3
    have := nm_inj hb hj hk hn
    subst this
    omega
theorem st_iff {xs : List Dr} (hb : dirsB xs = true) : stB xs = ((namesIf (unsP xs) xs).length == 0) := by
  unfold stB
  rw [hb, Bool.true_and]
  cases hs : strB xs.length (dirE xs) with
  | true => rw [none_of_str hb hs]; rfl
  | false =>
    cases hn : namesIf (unsP xs) xs with
    | nil => rw [str_of_none hn] at hs; cases hs
    | cons a l => rfl
theorem stL_of {xs : List Dr} (h : stB xs = true) : stL xs = strL xs.length (dirE xs) ∧ strB xs.length (dirE xs) = true ∧ dirsB xs = true := by
  have h1 := h
  unfold stB at h1
  simp only [Bool.and_eq_true] at h1
  exact ⟨by unfold stL; rw [if_pos h], h1.2, h1.1⟩
theorem str_pos {xs : List Dr} (h : stB xs = true) {i : Nat} {x : Dr} (hx : xs[i]? = some x) {s : ByteArray} (hd : s ∈ depsL x.query false) : strOf xs s ≤ (gt (stL xs) i : Int) := by
  obtain ⟨h1, h2, _⟩ := stL_of h
  unfold strOf
  rw [if_pos h]
  cases hp : plcF xs s with
  | none => simp only; omega
  | some k =>
    have h3 := edge_le h2 hx hp hd
    rw [h1]
    simp only [Bool.false_eq_true, if_false, Nat.add_zero] at h3
    simp only
    omega
theorem str_neg {xs : List Dr} (h : stB xs = true) {i : Nat} {x : Dr} (hx : xs[i]? = some x) {s : ByteArray} (hd : s ∈ depsL x.query true) : strOf xs s < (gt (stL xs) i : Int) := by
  obtain ⟨h1, h2, _⟩ := stL_of h
  unfold strOf
  rw [if_pos h]
  cases hp : plcF xs s with
  | none => simp only; omega
  | some k =>
    have h3 := edge_le h2 hx hp hd
    rw [h1]
    simp only [if_true] at h3
    simp only
    omega
end Go.Proofs.YtgekgokkbakcmaaGreat
namespace Go.Proofs.YtgekgokkbakcmaaGreat
open Go.RowKit Go.Sort
set_option linter.unusedVariables false
theorem plc_none {xs : List Dr} {s : ByteArray} {i : Int} (h : plcF xs s = none) (hp : plc xs s xs.length i) : i = -1 := by
  rcases plc_cases rfl hp with ⟨h1, _⟩ | ⟨k, h1, h2, h3⟩
  · exact h1
  · rw [h3.out] at h; cases h
theorem plc_some {xs : List Dr} {s : ByteArray} {i : Int} {j : Nat} (h : plcF xs s = some j) (hp : plc xs s xs.length i) : i = j := by
  rcases plc_cases rfl hp with ⟨_, h1⟩ | ⟨k, h1, h2, h3⟩
  · rw [h1.out] at h; cases h
  · rw [h3.out] at h; cases h; exact h1
theorem abv_bd {L : List Nat} {b : Nat} (h : Bd b L) {xs : List Dr} {l : List ByteArray} {m : Nat} (hm : m ≤ 1) : abv L (edg xs l m) ≤ b + 1 :=
  abv_le fun e he => by have h1 := mem_edg he; have h2 := h e.1; omega
theorem one_nats (xs : List Nat) : ∀ u ∈ natsV xs, u.oneCell' = true := by
  intro u hu; unfold natsV at hu; simp at hu; obtain ⟨x, _, rfl⟩ := hu; rfl
theorem natsV_len (L : List Nat) : (natsV L).length = L.length := by unfold natsV; simp
set_option maxRecDepth 100000 in
set_option maxHeartbeats 1000000 in
theorem implStrataAbove (va vb vc : Value) (xs : List Dr) (L : List Nat) (ns : List ByteArray) (m : Nat) (w : World) (ha : RdDs w va xs) (hb : Rd w vb 1 L.length (natsV L)) (hc : Rd w vc 1 ns.length (strs ns)) (hx : xs.length ≤ 1900000) (hl : L.length = xs.length) (hns : ns.length ≤ 4000000) (hbd : Bd 1000000 L) (hm : m ≤ 1) :
    Calls Tryz.prog 72 #[va, vb, vc, .int .i64 (m : Int)] w fun e w' => e = .returned (.int .i64 (abv L (edg xs ns m) : Int)) ∧ Grew w w' := by
  have HD := Lib.hid ha
  have HBD := Lib.hid hbd
  obtain ⟨qs, ⟨a, ca, rfl, hca, hra⟩, hall⟩ := ha
  clear hall hra hbd
  obtain ⟨b, cb, rfl, hcb, hrb⟩ := hb
  obtain ⟨c, cc, rfl, hcc, hrc⟩ := hc
  have HXL := Lib.hid hl
  generalize hn : ns.length = n at hns hrc hcc
  have HN := Lib.hid hn
  clear hn
  generalize hq : L.length = q at hl hrb hcb
  have HQ := Lib.hid hq
  have HLQ := Lib.hid hl
  clear hq hl
  go_enter Tryz.func72, Tryz.ntmps72
  go_wp2
  go_loopw [9, 15] (fun v i wr => ∃ k r : Nat, k ≤ n ∧ i = .int .i64 k ∧ v = .int .i64 r ∧ r ≤ 1000001 ∧ Hid (r = abv L (edg xs (ns.take k) m)) ∧ Grew w wr) (fun _ i _ => n - (intOf i).toNat)
  case atStart => exact ⟨0, 0, Nat.zero_le _, rfl, rfl, Nat.zero_le _, Lib.hid (by rw [edg_zero]; rfl), Grew.refl _⟩
  case round =>
    obtain ⟨k, r, hk, rfl, rfl, hr2, hr, hbel⟩ := hrel
    by_cases hlt : k < n
    · obtain ⟨b1, o1, s, rfl, hsk, c0⟩ := (hrc.grew hbel).one hlt
      cases hp : plcF xs s with
      | none =>
        have HP := Lib.hid hp
        clear hp
        go_wp2_with (go_at_call 82; refine (implDirAt _ xs s _ (HD.out.grew hbel) (by omega)).mono ?_; rintro e w2 ⟨i2, rfl, hp2, hb2⟩; obtain rfl := plc_none HP.out hp2; clear hp2)
        go_roundw
        case rel => exact ⟨k + 1, r, by omega, by go_num, rfl, hr2, Lib.hid (by rw [edg_no hsk.out HP.out]; exact hr.out), hbel.trans hb2⟩
        case measure => simp [intOf]; omega
      | some j =>
        have hj := plcF_lt hp
        have HP := Lib.hid hp
        clear hp
        have hjq : j < q := by have := HLQ.out; omega
        obtain ⟨b2, o2, y, rfl, hyk, d0⟩ := (hrb.grew hbel).one hjq
        have hy := Lib.hid (gt_at hyk.out)
        have hy2 : y ≤ 1000000 := by have h1 := HBD.out j; rw [hy.out] at h1; exact h1
        have HE : abv L (edg xs (ns.take (k + 1)) m) = max r (y + m) := by
          rw [edg_yes hsk.out HP.out, abv_snoc, ← hr.out, hy.out]
        have HE := Lib.hid HE
        have hw : IntKind.i64.wrap ((y : Int) + (m : Int)) = ((y + m : Nat) : Int) := by simp [IntKind.wrap, IntKind.bits, IntKind.signed]; omega
        have hjq2 : (j : Int) < (q : Int) := by omega
        go_wp2_with (go_at_call 82; refine (implDirAt _ xs s _ (HD.out.grew hbel) (by omega)).mono ?_; rintro e w2 ⟨i2, rfl, hp2, hb2⟩; obtain rfl := plc_some HP.out hp2; clear hp2; have d1 := grew_cell hb2 d0)
        go_roundw
        case rel => exact ⟨k + 1, max r (y + m), by omega, by go_num, by first | rfl | (congr 1; omega) | (simp; omega), by omega, Lib.hid HE.out.symm, hbel.trans hb2⟩
        case measure => simp [intOf]; omega
    · obtain rfl : k = n := by omega
      go_wp2
      go_ret
      exact ⟨ret_int (by rw [hr.out, take_all HN.out]), hbel⟩
set_option maxRecDepth 100000 in
set_option maxHeartbeats 4000000 in
theorem l13Raise (va : Value) (a0 : Option Addr) (cb : Nat) (xs : List Dr) (L : List Nat) (n : Nat) (w : World) (ha : RdDs w va xs) (hb : RdA w a0 1 n (natsV L)) (hl : L.length = xs.length) (hxn : xs.length = n) (h5 : n ≤ 5) (h9 : ∀ x, x ∈ xs → x.query.length ≤ 9) (hz : szAll Dr.sz xs ≤ 4000000) (hbd : Bd 900000 L) :
    Calls Tryz.prog 75 #[va, .slice a0 n cb] w fun e w' => ∃ v, e = .returned v ∧ w'.ownsRow w.heap.size 3 1 v n (natsV (raise n (dirE xs) L)) ∧ Grew w w' := by
  have HD := Lib.hid ha
  have HBD := Lib.hid hbd
  have H9 := Lib.hid h9
  have HZ := Lib.hid hz
  obtain ⟨qs, ⟨a, ca, rfl, hca, hra⟩, hall⟩ := ha
  have HA := Lib.hid hall
  have HX := Lib.hid hxn
  have HL := Lib.hid (hl.trans hxn)
  rw [hxn] at hra hca
  have HD2 := Lib.hid (show RdDs w (.slice a n ca) xs by have := HD.out; rw [hxn] at this; exact this)
  rw [hxn]
  have hxs5 : xs.length ≤ 5 := by omega
  clear hall hbd h9 HD hl hxn
  obtain ⟨i0, hi, hz0, hz1, hz2⟩ := info_parts Tryz.infoInt
  cases a0 with
  | none =>
    obtain rfl : n = 0 := by
      rcases Nat.eq_zero_or_pos n with h | h
      · exact h
      · obtain ⟨b, oo, h2, _⟩ := hb.2 h; cases h2
    clear hb
    go_enter Tryz.func75, Tryz.ntmps75
    go_wp2
    go_loopw [6] (fun i wr => i = .int .i64 0 ∧ Grew (w.alloc (.cells #[] 3)) wr) (fun _ _ => 0)
    case atStart => exact ⟨rfl, Grew.refl _⟩
    case round =>
      obtain ⟨rfl, hg⟩ := hrel
      go_wp2
      go_ret
      refine ⟨_, rfl, ?_, ((Grew.refl _).alloc _).trans hg⟩
      have e0 : L = [] := List.length_eq_zero_iff.1 HL.out
      rw [e0]
      exact ownsRow_grew (lit_own w 3 1) hg
  | some ad =>
    have HB := Lib.hid hb
    clear hb
    go_enter Tryz.func75, Tryz.ntmps75
    go_wp2_with (at_builtin; refine wpList_append_own _ rfl _ _ 35 rfl w.heap.size 3 i0 (.int .i64 0) 1 8 Tryz.underlying35 hi hz0 hz1 hz2 rfl (by decide) _ 0 [] rfl (lit_own w 3 1) ad n cb (natsV L) rfl (by rw [natsV_len, HL.out, Nat.mul_one]) (rd_news HB.out ((Grew.refl _).alloc _)) (one_nats _) (by unfold maxLen; omega) (by omega) (by simp) ?_)
    intro v0 w1 hown0 hgr0 _
    have hg1 : Grew w w1 := ((Grew.refl w).alloc _).grown hgr0 (fun k h => by cases h; exact Nat.le_refl _)
    have HO := Lib.hid (show w1.ownsRow w.heap.size 3 1 v0 n (natsV L) by simpa using hown0)
    clear hown0 hgr0 HB hi hz0 hz1 hz2
    obtain ⟨oa, oc, rfl⟩ := own_slice HO.out
    go_wp2
    go_loopw [6] (fun i wr => ∃ k : Nat, k ≤ n ∧ i = .int .i64 k ∧ Hid (wr.ownsRow w.heap.size 3 1 (.slice oa n oc) n (natsV (rsT xs L k))) ∧ Grew w wr) (fun i _ => n - (intOf i).toNat)
    case atStart => exact ⟨0, Nat.zero_le _, rfl, HO, hg1⟩
    case round =>
      obtain ⟨k, hk, rfl, hown, hbel⟩ := hrel
      by_cases hlt : k < n
      · obtain ⟨b1, o1, p, rfl, hpk, c0, c1⟩ := hra.getP2 hlt
        obtain ⟨x, hxk, hxr⟩ := HA.out.get hpk.out
        have hmem := Lib.hid (List.mem_of_getElem? hxk.out)
        have hxs := dir_sz HZ.out hxk.out
        have hq9 := H9.out x hmem.out
        obtain ⟨pn, pq⟩ := p
        obtain ⟨hxn, hxq⟩ := hxr
        simp only at hxn hxq c0 c1
        subst hxn
        have HQ := Lib.hid hxq
        obtain ⟨pa, pc, rfl, hpc, hpr⟩ := hxq
        clear hpr hpc c0
        have hpl : (depsL x.query false).length ≤ 9 := Nat.le_trans (depsL_le _ _) hq9
        have hnl : (depsL x.query true).length ≤ 9 := Nat.le_trans (depsL_le _ _) hq9
        have HB0 := Lib.hid (bd_rsT (xs := xs) HBD.out H9.out k)
        obtain ⟨ga, rfl⟩ : ∃ g, oa = some ⟨g, 0, none⟩ := by
          obtain ⟨_, ⟨h1, h2⟩ | ⟨g, cap, cur, h1, _⟩⟩ := hown.out
          · omega
          · cases h1; exact ⟨g, rfl⟩
        have hga := (hown.out.lt ga rfl).1
        have hga2 := (hown.out.lt ga rfl).2
        have HLT := Lib.hid (show (rsT xs L k).length = n by rw [rsT_len]; exact HL.out)
        obtain ⟨W1, rfl⟩ : ∃ y, y = wr := ⟨_, rfl⟩
        have c1P := grew_cell hbel c1
        have HBLP := Lib.hid (fun t => bd_rsP (xs := xs) HB0.out k (depsL x.query false) 0 (by omega) t)
        go_wp2_with (go_at_call 32; refine (specPositiveDeps _ x.query.length x.query _ (HQ.out.grew hbel) hxs.2.1 hxs.2.2).mono ?_; rintro e w4P ⟨v4, rfl, hq4, hb4P⟩; obtain ⟨qaP, qcP, rfl⟩ := own_slice hq4; have HQ4P := Lib.hid (show Own w4P W1.heap.size w4P.heap.size 9 1 _ _ _ from ⟨hq4, fun b hb => (hq4.lt b hb).2⟩); clear hq4)
        have HO4P := Lib.hid (ownsRow_grew hown.out hb4P)
        have hg4P := hbel.trans hb4P
        clear c1P
        generalize hqP : (depsL x.query false).length = q at HQ4P
        have HQLP := Lib.hid hqP
        rw [hqP] at hpl
        clear hqP
        go_loopw [8] (fun i wr => ∃ t : Nat, t ≤ q ∧ i = .int .i64 t ∧ Hid (wr.ownsRow w.heap.size 3 1 (.slice (some ⟨ga, 0, none⟩) n oc) n (natsV (rsP xs (rsT xs L k) k (depsL x.query false) 0 t))) ∧ Touch w.heap.size W1.heap.size w4P wr) (fun i _ => q - (intOf i).toNat)
        case atStart => exact ⟨0, Nat.zero_le _, rfl, Lib.hid (by rw [rsP_zero]; exact HO4P.out), Touch.refl _ _ _⟩
        case round =>
          obtain ⟨t, ht, rfl, hownP, htch⟩ := hrel
          have hbel2 : Grew w wr := Touch.new hg4P htch (Nat.le_refl _)
          have hdepP := Own.touch HQ4P.out htch (.inr (Nat.le_refl _))
          have hwl : w.heap.size ≤ W1.heap.size := hbel.size
          by_cases hlt2 : t < q
          · obtain ⟨b2, o2, s, hda, hsk, d0⟩ := (Rd.rda (rd_of_own hdepP.1)).one hlt2
            subst hda
            clear hdepP
            cases hp : plcF xs s with
            | none =>
              have HP := Lib.hid hp
              clear hp
              go_wp2_with (go_at_call 83; refine (l11Place _ xs s _ (HD2.out.grew hbel2) (by omega)).mono ?_; rintro e w2 ⟨i2, rfl, hp2, rfl⟩; obtain rfl := plc_none HP.out hp2; clear hp2)
              go_quiet (fail)
              go_wp2
              go_roundw
              case rel => exact ⟨t + 1, by omega, by go_num, Lib.hid (by rw [rsP_no hsk.out HP.out]; exact ownsRow_grew hownP.out ((Grew.refl _).drewN _)), htch.drewN _⟩
              case measure => simp [intOf]; omega
            | some j =>
              have hj0 := plcF_lt hp
              have HP := Lib.hid hp
              clear hp
              have hjn : j < n := by have := HX.out; omega
              obtain ⟨y, hyk, e1⟩ := own_one hownP.out hjn
              obtain ⟨z, hzk, e2⟩ := own_one hownP.out hlt
              have hy := Lib.hid (gt_at hyk.out)
              have hzg := Lib.hid (gt_at hzk.out)
              have hyb : y ≤ 900200 := by
                have h1 := HBLP.out t j
                rw [hy.out] at h1
                have h2 := depsL_le x.query false
                have h3 := depsL_le x.query true
                omega
              have hfz := hownP.out.frozenAt k
              have hjq2 : (j : Int) < (n : Int) := by omega
              have hkq2 : (k : Int) < (n : Int) := by omega
              have hw : IntKind.i64.wrap ((y : Int) + 1) = ((y + 1 : Nat) : Int) := by simp [IntKind.wrap, IntKind.bits, IntKind.signed]; omega
              by_cases hc : z < y + 0
              · have hc2 : (z : Int) < (y : Int) := by omega
                have HST := Lib.hid (fun K => store_one (ownsRow_grew hownP.out ((Grew.refl wr).drewN K)) k (y + 0))
                have HU := Lib.hid (show (rsP xs (rsT xs L k) k (depsL x.query false) 0 t).set k (y + 0) = rsP xs (rsT xs L k) k (depsL x.query false) 0 (t + 1) by rw [rsP_yes hsk.out HP.out, upd_yes (by rw [hy.out, hzg.out]; exact hc), hy.out])
                clear hc
                go_wp2_with (go_at_call 83; refine (l11Place _ xs s _ (HD2.out.grew hbel2) (by omega)).mono ?_; rintro e w2 ⟨i2, rfl, hp2, rfl⟩; obtain rfl := plc_some HP.out hp2; clear hp2)
                go_quiet (fail)
                go_wp2
                go_roundw
                case rel => exact ⟨t + 1, by omega, by go_num, Lib.hid (by rw [← HU.out]; exact HST.out _), (htch.drewN _).setCell (p := ⟨ga, k, none⟩) hga hga2 _⟩
                case measure => simp [intOf]; omega
              · have hc2 : ¬ ((z : Int) < (y : Int)) := by omega
                have HU := Lib.hid (show rsP xs (rsT xs L k) k (depsL x.query false) 0 t = rsP xs (rsT xs L k) k (depsL x.query false) 0 (t + 1) by rw [rsP_yes hsk.out HP.out, upd_no (by rw [hy.out, hzg.out]; exact hc)])
                clear hc
                go_wp2_with (go_at_call 83; refine (l11Place _ xs s _ (HD2.out.grew hbel2) (by omega)).mono ?_; rintro e w2 ⟨i2, rfl, hp2, rfl⟩; obtain rfl := plc_some HP.out hp2; clear hp2)
                go_quiet (fail)
                go_wp2
                go_roundw
                case rel => exact ⟨t + 1, by omega, by go_num, Lib.hid (by rw [← HU.out]; exact ownsRow_grew hownP.out ((Grew.refl _).drewN _)), htch.drewN _⟩
                case measure => simp [intOf]; omega
          · obtain rfl : q = t := by omega
            have hga3N : ga < wr.heap.size := (hownP.out.lt ga rfl).2
            clear hdepP
            obtain ⟨W2, rfl⟩ : ∃ y, y = wr := ⟨_, rfl⟩
            have c1N := grew_cell hbel2 c1
            have HBLN := Lib.hid (fun t => bd_rsP (xs := xs) (bd_rsP (xs := xs) HB0.out k (depsL x.query false) 0 (by omega) q) k (depsL x.query true) 1 (by omega) t)
            go_wp2_with (go_at_call 33; refine (specNegativeDeps _ x.query.length x.query _ (HQ.out.grew hbel2) hxs.2.1 hxs.2.2).mono ?_; rintro e w4N ⟨v4, rfl, hq4, hb4N⟩; obtain ⟨qaN, qcN, rfl⟩ := own_slice hq4; have HQ4N := Lib.hid (show Own w4N W2.heap.size w4N.heap.size 9 1 _ _ _ from ⟨hq4, fun b hb => (hq4.lt b hb).2⟩); clear hq4)
            have HO4N := Lib.hid (ownsRow_grew hownP.out hb4N)
            have hg4N := hbel2.trans hb4N
            clear c1N
            generalize hqN : (depsL x.query true).length = r at HQ4N
            have HQLN := Lib.hid hqN
            rw [hqN] at hnl
            clear hqN
            go_loopw [11] (fun i wr => ∃ t : Nat, t ≤ r ∧ i = .int .i64 t ∧ Hid (wr.ownsRow w.heap.size 3 1 (.slice (some ⟨ga, 0, none⟩) n oc) n (natsV (rsP xs (rsP xs (rsT xs L k) k (depsL x.query false) 0 q) k (depsL x.query true) 1 t))) ∧ Touch w.heap.size W2.heap.size w4N wr) (fun i _ => r - (intOf i).toNat)
            case atStart => exact ⟨0, Nat.zero_le _, rfl, Lib.hid (by rw [rsP_zero]; exact HO4N.out), Touch.refl _ _ _⟩
            case round =>
              obtain ⟨t, ht, rfl, hownN, htch⟩ := hrel
              have hbel3 : Grew w wr := Touch.new hg4N htch (Nat.le_refl _)
              have hdepN := Own.touch HQ4N.out htch (.inr (Nat.le_refl _))
              have hwl : w.heap.size ≤ W2.heap.size := hbel2.size
              by_cases hlt2 : t < r
              · obtain ⟨b2, o2, s, hda, hsk, d0⟩ := (Rd.rda (rd_of_own hdepN.1)).one hlt2
                subst hda
                clear hdepN
                cases hp : plcF xs s with
                | none =>
                  have HP := Lib.hid hp
                  clear hp
                  go_wp2_with (go_at_call 83; refine (l11Place _ xs s _ (HD2.out.grew hbel3) (by omega)).mono ?_; rintro e w2 ⟨i2, rfl, hp2, rfl⟩; obtain rfl := plc_none HP.out hp2; clear hp2)
                  go_quiet (fail)
                  go_wp2
                  go_roundw
                  case rel => exact ⟨t + 1, by omega, by go_num, Lib.hid (by rw [rsP_no hsk.out HP.out]; exact ownsRow_grew hownN.out ((Grew.refl _).drewN _)), htch.drewN _⟩
                  case measure => simp [intOf]; omega
                | some j =>
                  have hj0 := plcF_lt hp
                  have HP := Lib.hid hp
                  clear hp
                  have hjn : j < n := by have := HX.out; omega
                  obtain ⟨y, hyk, e1⟩ := own_one hownN.out hjn
                  obtain ⟨z, hzk, e2⟩ := own_one hownN.out hlt
                  have hy := Lib.hid (gt_at hyk.out)
                  have hzg := Lib.hid (gt_at hzk.out)
                  have hyb : y ≤ 900200 := by
                    have h1 := HBLN.out t j
                    rw [hy.out] at h1
                    have h2 := depsL_le x.query false
                    have h3 := depsL_le x.query true
                    omega
                  have hfz := hownN.out.frozenAt k
                  have hjq2 : (j : Int) < (n : Int) := by omega
                  have hkq2 : (k : Int) < (n : Int) := by omega
                  have hw : IntKind.i64.wrap ((y : Int) + 1) = ((y + 1 : Nat) : Int) := by simp [IntKind.wrap, IntKind.bits, IntKind.signed]; omega
                  by_cases hc : z < y + 1
                  · have hc2 : (z : Int) < (y : Int) + 1 := by omega
                    have HST := Lib.hid (fun K => store_one (ownsRow_grew hownN.out ((Grew.refl wr).drewN K)) k (y + 1))
                    have HU := Lib.hid (show (rsP xs (rsP xs (rsT xs L k) k (depsL x.query false) 0 q) k (depsL x.query true) 1 t).set k (y + 1) = rsP xs (rsP xs (rsT xs L k) k (depsL x.query false) 0 q) k (depsL x.query true) 1 (t + 1) by rw [rsP_yes hsk.out HP.out, upd_yes (by rw [hy.out, hzg.out]; exact hc), hy.out])
                    clear hc
                    go_wp2_with (go_at_call 83; refine (l11Place _ xs s _ (HD2.out.grew hbel3) (by omega)).mono ?_; rintro e w2 ⟨i2, rfl, hp2, rfl⟩; obtain rfl := plc_some HP.out hp2; clear hp2)
                    go_quiet (fail)
                    go_wp2
                    go_roundw
                    case rel => exact ⟨t + 1, by omega, by go_num, Lib.hid (by rw [← HU.out]; exact HST.out _), (htch.drewN _).setCell (p := ⟨ga, k, none⟩) hga hga3N _⟩
                    case measure => simp [intOf]; omega
                  · have hc2 : ¬ ((z : Int) < (y : Int) + 1) := by omega
                    have HU := Lib.hid (show rsP xs (rsP xs (rsT xs L k) k (depsL x.query false) 0 q) k (depsL x.query true) 1 t = rsP xs (rsP xs (rsT xs L k) k (depsL x.query false) 0 q) k (depsL x.query true) 1 (t + 1) by rw [rsP_yes hsk.out HP.out, upd_no (by rw [hy.out, hzg.out]; exact hc)])
                    clear hc
                    go_wp2_with (go_at_call 83; refine (l11Place _ xs s _ (HD2.out.grew hbel3) (by omega)).mono ?_; rintro e w2 ⟨i2, rfl, hp2, rfl⟩; obtain rfl := plc_some HP.out hp2; clear hp2)
                    go_quiet (fail)
                    go_wp2
                    go_roundw
                    case rel => exact ⟨t + 1, by omega, by go_num, Lib.hid (by rw [← HU.out]; exact ownsRow_grew hownN.out ((Grew.refl _).drewN _)), htch.drewN _⟩
                    case measure => simp [intOf]; omega
              · obtain rfl : r = t := by omega
                go_wp2
                go_roundw
                case rel => exact ⟨k + 1, by omega, by go_num, Lib.hid (by rw [rsT_succ hxk.out HQLP.out HQLN.out]; exact hownN.out), hbel3⟩
                case measure => simp [intOf]; omega
      · obtain rfl : k = n := by omega
        go_wp2
        go_ret
        exact ⟨_, rfl, by have h1 := hown.out; rw [rsT_all] at h1; exact h1, hbel⟩
end Go.Proofs.YtgekgokkbakcmaaGreat
