/- Texts Y2, Y3, Y4, V0, K5, as far as they are needed. -/
import Derived.Test.YtejgpghcahinhaaGreatVi6
import Derived.Test.YtejgpghcahinhaaGreatVi4
import Derived.Test.YtejgpghcahinhaaGreatVi11
import Derived.Test.YtejgpghcahinhaaGreatVi9
import Derived.Test.YtejgpghcahinhaaGreatVi10
import Derived.Test.YtejgpghcahinhaaGreatVi3
import Derived.Test.YtejgpghcahinhaaGreatVi0
namespace Go.Proofs.YtejgpghcahinhaaGreat
open Go.RowKit Go.Sort
set_option linter.unusedVariables false
def plcF : List Dr → ByteArray → Option Nat
  | [], _ => none
  | x :: xs, s => if x.name.toList == s.toList then some 0 else (plcF xs s).map (· + 1)
theorem plcF_no : ∀ {xs : List Dr} {s : ByteArray}, (∀ (j : Nat) y, j < xs.length → xs[j]? = some y → (y.name.toList == s.toList) = false) → plcF xs s = none
  | [], s, h => rfl
  | x :: xs, s, h => by
    have h0 := h 0 x (by simp) (by simp)
    have ih := plcF_no (xs := xs) (s := s) (fun j y hj hy => h (j + 1) y (by simpa using hj) (by simpa using hy))
    unfold plcF; rw [h0, ih]; rfl
theorem plcF_yes : ∀ {xs : List Dr} {s : ByteArray} {k : Nat} {x : Dr}, (∀ (j : Nat) y, j < k → xs[j]? = some y → (y.name.toList == s.toList) = false) → xs[k]? = some x → (x.name.toList == s.toList) = true → plcF xs s = some k
  | [], s, k, x, _, h, _ => by simp at h
  | y :: ys, s, 0, x, h, hx, hn => by
    obtain rfl : y = x := by simpa using hx
    unfold plcF; rw [hn]; rfl
  | y :: ys, s, k + 1, x, h, hx, hn => by
    have h0 := h 0 y (by omega) (by simp)
    have ih := plcF_yes (xs := ys) (s := s) (k := k) (x := x) (fun j z hj hz => h (j + 1) z (by omega) (by simpa using hz)) (by simpa using hx) hn
    unfold plcF; rw [h0, ih]; rfl
theorem plc_cases {xs : List Dr} {s : ByteArray} {n : Nat} {i : Int} (hn : xs.length = n) (h : plc xs s n i) : (i = -1 ∧ Hid (plcF xs s = none)) ∨ ∃ k : Nat, i = k ∧ k < n ∧ Hid (plcF xs s = some k) := by
  rcases h with ⟨h1, h2⟩ | ⟨k, h1, h2, h3, y, h4, h5⟩
  · exact .inl ⟨h1, Lib.hid (plcF_no (by rw [hn]; exact h2))⟩
  · exact .inr ⟨k, h1, h2, Lib.hid (plcF_yes h3 h4 h5)⟩
theorem plcF_lt : ∀ {xs : List Dr} {s : ByteArray} {k : Nat}, plcF xs s = some k → k < xs.length
  | [], s, k, h => by simp [plcF] at h
  | x :: xs, s, k, h => by
    unfold plcF at h
    split at h
    · simp at h; subst h; simp
    · cases hp : plcF xs s with
      | none => rw [hp] at h; simp at h
      | some j => rw [hp] at h; simp at h; have := plcF_lt hp; simp; omega
def edg (xs : List Dr) (l : List ByteArray) (m : Nat) : List (Nat × Nat) := l.filterMap fun s => (plcF xs s).map fun k => (k, m)
theorem edg_zero (xs : List Dr) (l : List ByteArray) (m : Nat) : edg xs (l.take 0) m = [] := by simp [edg]
theorem edg_no {xs : List Dr} {l : List ByteArray} {m k : Nat} {s : ByteArray} (h : l[k]? = some s) (hp : plcF xs s = none) : edg xs (l.take (k + 1)) m = edg xs (l.take k) m := by
  rw [take_snoc h]; unfold edg; rw [List.filterMap_append]; simp [hp]
theorem edg_yes {xs : List Dr} {l : List ByteArray} {m k j : Nat} {s : ByteArray} (h : l[k]? = some s) (hp : plcF xs s = some j) : edg xs (l.take (k + 1)) m = edg xs (l.take k) m ++ [(j, m)] := by
  rw [take_snoc h]; unfold edg; rw [List.filterMap_append]; simp [hp]
theorem edg_len (xs : List Dr) (l : List ByteArray) (m : Nat) : (edg xs l m).length ≤ l.length := by unfold edg; exact List.length_filterMap_le _ _
theorem mem_edg {xs : List Dr} {l : List ByteArray} {m : Nat} {e : Nat × Nat} (h : e ∈ edg xs l m) : e.1 < xs.length ∧ e.2 = m := by
  unfold edg at h
  obtain ⟨s, _, h2⟩ := List.mem_filterMap.1 h
  cases hp : plcF xs s with
  | none => rw [hp] at h2; simp at h2
  | some k => rw [hp] at h2; simp at h2; subst h2; exact ⟨plcF_lt hp, rfl⟩
noncomputable def dirE (xs : List Dr) : Edges := fun i => match xs[i]? with
  | none => []
  | some x => edg xs (depsL x.query false) 0 ++ edg xs (depsL x.query true) 1
theorem dirE_at {xs : List Dr} {i : Nat} {x : Dr} (h : xs[i]? = some x) : dirE xs i = edg xs (depsL x.query false) 0 ++ edg xs (depsL x.query true) 1 := by unfold dirE; rw [h]
theorem dirE_ok {xs : List Dr} {n : Nat} (h : xs.length = n) : OkE n (dirE xs) := by
  intro i hi e he
  unfold dirE at he
  split at he
  · simp at he
  · rcases List.mem_append.1 he with h1 | h1
    · have := mem_edg h1; omega
    · have := mem_edg h1; omega
theorem dirE_two {xs : List Dr} {i : Nat} {e : Nat × Nat} (he : e ∈ dirE xs i) : e.2 ≤ 1 := by
  unfold dirE at he
  split at he
  · simp at he
  · rcases List.mem_append.1 he with h1 | h1
    · have := mem_edg h1; omega
    · have := mem_edg h1; omega
theorem dirE_len {xs : List Dr} (h9 : ∀ x, x ∈ xs → x.query.length ≤ 9) (i : Nat) : (dirE xs i).length ≤ 18 := by
  unfold dirE
  split
  · simp
  · rename_i x hx
    have h1 := h9 x (List.mem_of_getElem? hx)
    have h2 := edg_len xs (depsL x.query false) 0
    have h3 := edg_len xs (depsL x.query true) 1
    have h4 := depsL_le x.query false
    have h5 := depsL_le x.query true
    rw [List.length_append]; omega
def Bd (b : Nat) (L : List Nat) : Prop := ∀ i, gt L i ≤ b
theorem bd_mono {a b : Nat} {L : List Nat} (h : Bd a L) (hab : a ≤ b) : Bd b L := fun i => Nat.le_trans (h i) hab
theorem gt_set_le (L : List Nat) (i x k : Nat) : gt (L.set i x) k ≤ x ∨ gt (L.set i x) k = gt L k := by
  by_cases h : i = k
  · subst h
    by_cases h2 : i < L.length
    · left; rw [gt_set_self h2]; exact Nat.le_refl _
    · right; rw [List.set_eq_of_length_le (by omega)]
  · right; exact gt_set_ne h
theorem bd_upd {b i : Nat} {L : List Nat} {e : Nat × Nat} (h : Bd b L) (he : e.2 ≤ 1) : Bd (b + 1) (upd i L e) := by
  intro k
  have h1 := h k
  have h2 := h e.1
  unfold upd
  split
  · rcases gt_set_le L i (gt L e.1 + e.2) k with h3 | h3 <;> omega
  · omega
theorem bd_fold {i : Nat} : ∀ (l : List (Nat × Nat)) {b : Nat} {L : List Nat}, Bd b L → (∀ e, e ∈ l → e.2 ≤ 1) → Bd (b + l.length) (l.foldl (upd i) L)
  | [], b, L, h, _ => h
  | e :: l, b, L, h, he => by
    have h1 := bd_fold (i := i) l (bd_upd (i := i) h (he e (by simp))) (fun e h => he e (by simp [h]))
    rw [List.foldl_cons]
    intro k; have := h1 k; simp only [List.length_cons]; omega
noncomputable def rsT (xs : List Dr) (L : List Nat) (i : Nat) : List Nat := (List.range i).foldl (raise1 (dirE xs)) L
theorem rsT_all (xs : List Dr) (L : List Nat) (n : Nat) : rsT xs L n = raise n (dirE xs) L := rfl
theorem rsT_len (xs : List Dr) (L : List Nat) (i : Nat) : (rsT xs L i).length = L.length := raiseF_len _ _ _
noncomputable def rsP (xs : List Dr) (L : List Nat) (i : Nat) (p : List ByteArray) (m : Nat) (k : Nat) : List Nat := (edg xs (p.take k) m).foldl (upd i) L
theorem rsP_zero (xs : List Dr) (L : List Nat) (i : Nat) (p : List ByteArray) (m : Nat) : rsP xs L i p m 0 = L := by simp [rsP, edg]
theorem rsP_no {xs : List Dr} {L : List Nat} {i : Nat} {p : List ByteArray} {m k : Nat} {s : ByteArray} (h : p[k]? = some s) (hp : plcF xs s = none) : rsP xs L i p m (k + 1) = rsP xs L i p m k := by
  unfold rsP; rw [edg_no h hp]
theorem rsP_yes {xs : List Dr} {L : List Nat} {i : Nat} {p : List ByteArray} {m k j : Nat} {s : ByteArray} (h : p[k]? = some s) (hp : plcF xs s = some j) : rsP xs L i p m (k + 1) = upd i (rsP xs L i p m k) (j, m) := by
  unfold rsP; rw [edg_yes h hp, List.foldl_append]; rfl
theorem upd_yes {L : List Nat} {i j m : Nat} (h : gt L i < gt L j + m) : upd i L (j, m) = L.set i (gt L j + m) := by unfold upd; rw [if_pos h]
theorem upd_no {L : List Nat} {i j m : Nat} (h : ¬ gt L i < gt L j + m) : upd i L (j, m) = L := by unfold upd; rw [if_neg h]
theorem rsT_succ {xs : List Dr} {L : List Nat} {i : Nat} {x : Dr} (h : xs[i]? = some x) {q r : Nat} (hq : (depsL x.query false).length = q) (hr : (depsL x.query true).length = r) : rsT xs L (i + 1) = rsP xs (rsP xs (rsT xs L i) i (depsL x.query false) 0 q) i (depsL x.query true) 1 r := by
  unfold rsT rsP
  rw [List.range_succ, List.foldl_append, take_all hq, take_all hr]
  show raise1 (dirE xs) _ i = _
  unfold raise1
  rw [dirE_at h, List.foldl_append]
theorem bd_rsP {xs : List Dr} {L : List Nat} {b : Nat} (h : Bd b L) (i : Nat) (p : List ByteArray) (m : Nat) (hm : m ≤ 1) (k : Nat) : Bd (b + p.length) (rsP xs L i p m k) := by
  unfold rsP
  refine bd_mono (bd_fold _ h (fun e he => by have := mem_edg he; omega)) ?_
  have h1 := edg_len xs (p.take k) m
  rw [List.length_take] at h1
  omega
theorem bd_rsT {xs : List Dr} {L : List Nat} {b : Nat} (h : Bd b L) (h9 : ∀ x, x ∈ xs → x.query.length ≤ 9) : ∀ i, Bd (b + 18 * i) (rsT xs L i)
  | 0 => h
  | i + 1 => by
    have ih := bd_rsT h h9 i
    unfold rsT
    rw [List.range_succ, List.foldl_append]
    show Bd _ (raise1 (dirE xs) _ i)
    unfold raise1
    refine bd_mono (bd_fold _ ih (fun e he => dirE_two he)) ?_
    have := dirE_len h9 i
    omega
theorem bd_iter {xs : List Dr} {n : Nat} (hn : xs.length = n) (h9 : ∀ x, x ∈ xs → x.query.length ≤ 9) : ∀ r, Bd (18 * n * r) (iter n (dirE xs) r)
  | 0 => fun i => by
    have := zero_le n (List.replicate n 0)
    show gt (List.replicate n 0) i ≤ _
    unfold gt
    by_cases h : i < n
    · simp [h]
    · simp [h]
  | r + 1 => by
    have ih := bd_iter hn h9 r
    have h1 := bd_rsT ih h9 n
    refine bd_mono (L := iter n (dirE xs) (r + 1)) h1 ?_
    rw [Nat.mul_succ]; omega
theorem dirs_use {xs : List Dr} (h : dirsB xs = true) : xs.length ≤ 5 ∧ ∀ x, x ∈ xs → x.query.length ≤ 9 := by
  have h1 := (dirs_ex xs).choose_spec
  unfold dirsB at h
  simp only [Bool.and_eq_true] at h
  refine ⟨by simpa using h.2, fun x hx => ?_⟩
  obtain ⟨i, hi⟩ := List.getElem?_of_mem hx
  have h2 := h1.1 h.1 i x hi
  unfold dirAt at h2
  simp only [Bool.and_eq_true] at h2
  have h3 := h2.2.1
  unfold qryB at h3
  simp only [Bool.and_eq_true] at h3
  have h4 := h3.2
  unfold inB at h4
  simp at h4
  omega
noncomputable def stB (xs : List Dr) : Bool := dirsB xs && strB xs.length (dirE xs)
noncomputable def stL (xs : List Dr) : List Nat := if stB xs then strL xs.length (dirE xs) else []
abbrev natsV (L : List Nat) : List Value := L.map fun (x : Nat) => Value.int .i64 (x : Int)
theorem natsV_ints (L : List Nat) : natsV L = ints (L.map fun (x : Nat) => (x : Int)) := by unfold natsV ints; rw [List.map_map]; rfl
def mxL : List Nat → Int
  | [] => -1
  | x :: xs => max (x : Int) (mxL xs)
noncomputable def mxS (xs : List Dr) : Int := mxL (stL xs)
theorem mxL_snoc : ∀ (L : List Nat) (x : Nat), mxL (L ++ [x]) = max (mxL L) (x : Int)
  | [], x => by simp [mxL]; omega
  | y :: ys, x => by
    have h := mxL_snoc ys x
    simp only [List.cons_append, mxL, h]; omega
def sumW (w : World) (g n : Nat) : Nat := sumN ((List.range n).map fun j => match w.cell? ⟨g, j, none⟩ with | some (.int _ x) => x.toNat | _ => 0)
theorem sumW_of {w : World} {g n : Nat} {L : List Nat} (hl : L.length = n) (h : ∀ j, j < n → w.cell? ⟨g, j, none⟩ = some (.int .i64 (gt L j))) : sumW w g n = sumN L := by
  unfold sumW
  congr 1
  apply List.ext_getElem (by simp [hl])
  intro i h1 h2
  have h3 := h i (by simpa using h1)
  simp only [List.getElem_map, List.getElem_range, h3]
  unfold gt
  simp [h2]
end Go.Proofs.YtejgpghcahinhaaGreat
namespace Go.Proofs.YtejgpghcahinhaaGreat
open Go.RowKit Go.Sort
set_option linter.unusedVariables false
def refsTo (x : N) (j : Nat) : Prop := (x.op = 5 ∧ x.left.toNat = j) ∨ ((x.op = 6 ∨ x.op = 7) ∧ (x.left.toNat = j ∨ x.right.toNat = j))
theorem getD_set_ne {bs : List Bool} {i j : Nat} {b : Bool} (h : i ≠ j) : (bs.set i b).getD j false = bs.getD j false := by
  rw [List.getD_eq_getElem?_getD, List.getD_eq_getElem?_getD, List.getElem?_set_ne h]
theorem getD_set_eq {bs : List Bool} {i : Nat} {b : Bool} (h : i < bs.length) : (bs.set i b).getD i false = b := by
  rw [List.getD_eq_getElem?_getD, List.getElem?_set_self h]; rfl
theorem negS_keep {bs : List Bool} {p : Nat} {x : N} {j : Nat} (h : ¬ refsTo x j) : (negS bs p x).getD j false = bs.getD j false := by
  unfold refsTo at h
  unfold negS
  split
  · rename_i h5
    exact getD_set_ne (fun e => h (.inl ⟨h5, e⟩))
  · split
    · rename_i h67
      rw [getD_set_ne (fun e => h (.inr ⟨h67, .inr e⟩)), getD_set_ne (fun e => h (.inr ⟨h67, .inl e⟩))]
    · rfl
theorem negR_keep {xs : List N} {j : Nat} : ∀ (k : Nat) (bs : List Bool), (∀ p x, p < k → xs[p]? = some x → ¬ refsTo x j) → (negR xs k bs).getD j false = bs.getD j false
  | 0, bs, _ => rfl
  | k + 1, bs, h => by
    unfold negR
    rw [negR_keep k _ (fun p x hp hx => h p x (by omega) hx)]
    split
    · rename_i x hx; exact negS_keep (h k x (by omega) hx)
    · rfl
theorem negR_split (xs : List N) {k : Nat} : ∀ (m : Nat) (bs : List Bool), k ≤ m → ∃ bs1, negR xs m bs = negR xs k bs1 ∧ bs1.length = bs.length
  | 0, bs, h => by obtain rfl : k = 0 := by omega
                   exact ⟨bs, rfl, rfl⟩
  | m + 1, bs, h => by
    by_cases hk : k = m + 1
    · subst hk; exact ⟨bs, rfl, rfl⟩
    · obtain ⟨b1, h1, h2⟩ := negR_split xs (k := k) m (match xs[m]? with | some x => negS bs m x | none => bs) (by omega)
      refine ⟨b1, h1, ?_⟩
      rw [h2]
      split
      · exact negS_length _ _ _
      · rfl
theorem sum_ge {f : N → Int} (hf : ∀ x, 0 ≤ f x) : ∀ {q : List N}, 0 ≤ (q.map f).sum
  | [] => by simp
  | y :: ys => by have := hf y; have := sum_ge hf (q := ys); simp; omega
theorem sum_ge_one {f : N → Int} (hf : ∀ x, 0 ≤ f x) : ∀ {q : List N} {i : Nat} {x : N}, q[i]? = some x → f x ≤ (q.map f).sum
  | [], i, x, h => by simp at h
  | y :: ys, 0, x, h => by
    obtain rfl : y = x := by simpa using h
    have := sum_ge hf (q := ys); simp; omega
  | y :: ys, i + 1, x, h => by
    have := hf y; have := sum_ge_one hf (q := ys) (i := i) (x := x) (by simpa using h); simp; omega
theorem sum_ge_two {f : N → Int} (hf : ∀ x, 0 ≤ f x) {q : List N} : ∀ {i k : Nat} {x y : N}, q[i]? = some x → q[k]? = some y → i < k → f x + f y ≤ (q.map f).sum := by
  induction q with
  | nil => intro i k x y h _ _; simp at h
  | cons z zs ih =>
    intro i k x y h h2 hk
    obtain ⟨k', rfl⟩ : ∃ k', k = k' + 1 := ⟨k - 1, by omega⟩
    have h3 : zs[k']? = some y := by simpa using h2
    cases i with
    | zero =>
      have h4 : z = x := by simpa using h
      subst h4
      have := sum_ge_one hf (q := zs) h3
      rw [List.map_cons, List.sum_cons]; omega
    | succ i' =>
      have := hf z
      have := ih (i := i') (k := k') (by simpa using h) h3 (by omega)
      rw [List.map_cons, List.sum_cons]; omega
theorem qry_len {q : List N} (h : qryB q = true) : q.length ≤ 9 := by
  unfold qryB at h
  simp only [Bool.and_eq_true] at h
  have h4 := h.2
  unfold inB at h4
  simp at h4
  omega
theorem kid {q : List N} (hq : qryB q = true) {p j : Nat} {x : N} (hx : q[p]? = some x) (hr : refsTo x j) : j < p ∧ 1 ≤ ref1 x j := by
  have h1 := qry_node hq hx
  have h2 := qry_len hq
  have h3 := (List.getElem?_eq_some_iff.1 hx).1
  obtain ⟨op, l, r, nm, v⟩ := x
  have hb := ref1_b ⟨op, l, r, nm, v⟩ j
  rcases hr with ⟨h5, hj⟩ | ⟨h67, hj⟩
  · simp only at h5 hj
    subst h5
    obtain ⟨a, rfl, ha⟩ := nod5 (by omega) h1
    simp at hj
    subst hj
    refine ⟨ha, ?_⟩
    unfold ref1; simp
  · simp only at h67 hj
    obtain ⟨a, b, rfl, rfl, ha, hb2⟩ := nod67 h67 (by omega) h1
    rcases hj with hj | hj
    · simp at hj
      subst hj
      refine ⟨ha, ?_⟩
      unfold ref1
      rcases h67 with rfl | rfl <;> simp <;> split <;> omega
    · simp at hj
      subst hj
      refine ⟨hb2, ?_⟩
      unfold ref1
      rcases h67 with rfl | rfl <;> simp <;> split <;> omega
theorem one_parent {q : List N} (hq : qryB q = true) {p1 p2 j : Nat} {x y : N} (hx : q[p1]? = some x) (hy : q[p2]? = some y) (h1 : refsTo x j) (h2 : refsTo y j) : p1 = p2 := by
  have k1 := kid hq hx h1
  have k2 := kid hq hy h2
  have l1 := (List.getElem?_eq_some_iff.1 hx).1
  have l2 := (List.getElem?_eq_some_iff.1 hy).1
  have hj : j < q.length := by omega
  have hr : refs q j = 1 := by
    have e1 := (qry_ex q).choose_spec
    have e2 := hq
    unfold qryB at e2
    simp only [Bool.and_eq_true] at e2
    have e3 := e1.1 e2.1 j q[j] (by simp [hj])
    unfold qryAt at e3
    simp only [Bool.and_eq_true, Bool.or_eq_true, decide_eq_true_eq, beq_iff_eq] at e3
    rcases e3.2 with e4 | e4
    · omega
    · exact e4
  unfold refs at hr
  rcases Nat.lt_trichotomy p1 p2 with h | h | h
  · have := sum_ge_two (f := fun n => ref1 n j) (fun n => (ref1_b n j).1) hx hy h; omega
  · exact h
  · have := sum_ge_two (f := fun n => ref1 n j) (fun n => (ref1_b n j).1) hy hx h; omega
theorem neg_kid {q : List N} (hq : qryB q = true) {p j : Nat} {x : N} (hx : q[p]? = some x) (hr : refsTo x j) : (negL q).getD j false = (if x.op = 5 then true else (negL q).getD p false) := by
  have hp := (List.getElem?_eq_some_iff.1 hx).1
  have hk := kid hq hx hr
  have e : negL q = negR q q.length (List.replicate q.length false) := by unfold negL; rw [if_pos hq]
  obtain ⟨bs, h1, h2⟩ := negR_split q (k := p + 1) q.length (List.replicate q.length false) hp
  rw [e, h1]
  simp at h2
  have hpp : (negR q (p + 1) bs).getD p false = bs.getD p false := negR_keep _ _ (fun p' y hp' hy hc => by have := kid hq hy hc; omega)
  rw [hpp, negR_step hx, negR_keep p _ (fun p' y hp' hy hc => by have := one_parent hq hx hy hr hc; omega)]
  unfold negS
  rcases hr with ⟨h5, hj⟩ | ⟨h67, hj⟩
  · rw [if_pos h5, if_pos h5, hj, getD_set_eq (by omega)]
  · have h5 : ¬ x.op = 5 := by omega
    rw [if_neg h5, if_neg h5, if_pos h67]
    rcases hj with hj | hj
    · by_cases hrr : x.right.toNat = j
      · rw [hrr, getD_set_eq (by simp; omega)]
      · rw [getD_set_ne hrr, hj, getD_set_eq (by omega)]
    · rw [hj, getD_set_eq (by simp; omega)]
theorem neg_dep {q : List N} (hq : qryB q = true) {p : Nat} {x : N} (hx : q[p]? = some x) (ho : x.op = 8 ∨ x.op = 9) {u : Bool} (hu : (negL q).getD p false = u) : x.name ∈ depsL q u := by
  have hp := (List.getElem?_eq_some_iff.1 hx).1
  have e : negL q = negR q q.length (List.replicate q.length false) := by unfold negL; rw [if_pos hq]
  have hl : (negL q).length = q.length := by rw [e, negR_length]; simp
  have hg : (negL q)[p]? = some u := by
    rw [List.getD_eq_getElem?_getD] at hu
    rw [List.getElem?_eq_getElem (by omega)] at hu ⊢
    simp at hu; rw [hu]
  unfold depsL
  rw [mem_so]
  unfold depsZ
  refine List.mem_map.2 ⟨(x, u), List.mem_filter.2 ⟨List.mem_of_getElem? (zipN_get hx hg), ?_⟩, rfl⟩
  simp only [inB, Bool.and_eq_true, decide_eq_true_eq]
  refine ⟨by omega, by simp⟩
theorem mat_mono {q : List N} (hq : qryB q = true) {f : Fl} {rs rt : List Rs} (HA : ∀ s, s ∈ depsL q true → resIds rs s = resIds rt s) (HB : ∀ s, s ∈ depsL q false → ∀ i, i ∈ resIds rs s → i ∈ resIds rt s) :
    ∀ d i, ((negL q).getD i false = true → matR q f rs d i = matR q f rt d i) ∧ ((negL q).getD i false = false → matR q f rs d i = true → matR q f rt d i = true)
  | 0, i => ⟨fun _ => rfl, fun _ h => h⟩
  | d + 1, i => by
    cases hx : q[i]? with
    | none =>
      have e : ∀ r, matR q f r (d + 1) i = true := fun r => by unfold matR; rw [hx]
      rw [e, e]; exact ⟨fun _ => rfl, fun _ h => h⟩
    | some x =>
      have e1 := matR_at (f := f) (r := rs) (d := d) hx
      have e2 := matR_at (f := f) (r := rt) (d := d) hx
      rw [e1, e2]
      have hop := nod_op (qry_node hq hx)
      have ih := mat_mono hq (f := f) HA HB d
      by_cases h1 : x.op = 1
      · rw [if_pos h1, if_pos h1]; exact ⟨fun _ => rfl, fun _ h => h⟩
      rw [if_neg h1, if_neg h1]
      by_cases h2 : x.op = 2
      · rw [if_pos h2, if_pos h2]; exact ⟨fun _ => rfl, fun _ h => h⟩
      rw [if_neg h2, if_neg h2]
      by_cases h3 : x.op = 3
      · rw [if_pos h3, if_pos h3]; exact ⟨fun _ => rfl, fun _ h => h⟩
      rw [if_neg h3, if_neg h3]
      by_cases h4 : x.op = 4
      · rw [if_pos h4, if_pos h4]; exact ⟨fun _ => rfl, fun _ h => h⟩
      rw [if_neg h4, if_neg h4]
      by_cases h5 : x.op = 5
      · rw [if_pos h5, if_pos h5]
        have hk := neg_kid hq hx (j := x.left.toNat) (.inl ⟨h5, rfl⟩)
        rw [if_pos h5] at hk
        rw [(ih x.left.toNat).1 hk]
        exact ⟨fun _ => rfl, fun _ h => h⟩
      rw [if_neg h5, if_neg h5]
      by_cases h6 : x.op = 6
      · rw [if_pos h6, if_pos h6]
        have hl := neg_kid hq hx (j := x.left.toNat) (.inr ⟨.inl h6, .inl rfl⟩)
        have hr := neg_kid hq hx (j := x.right.toNat) (.inr ⟨.inl h6, .inr rfl⟩)
        rw [if_neg h5] at hl hr
        refine ⟨fun hb => ?_, fun hb h => ?_⟩
        · rw [(ih _).1 (hl.trans hb), (ih _).1 (hr.trans hb)]
        · simp only [Bool.and_eq_true] at h ⊢
          exact ⟨(ih _).2 (hl.trans hb) h.1, (ih _).2 (hr.trans hb) h.2⟩
      rw [if_neg h6, if_neg h6]
      by_cases h7 : x.op = 7
      · rw [if_pos h7, if_pos h7]
        have hl := neg_kid hq hx (j := x.left.toNat) (.inr ⟨.inr h7, .inl rfl⟩)
        have hr := neg_kid hq hx (j := x.right.toNat) (.inr ⟨.inr h7, .inr rfl⟩)
        rw [if_neg h5] at hl hr
        refine ⟨fun hb => ?_, fun hb h => ?_⟩
        · rw [(ih _).1 (hl.trans hb), (ih _).1 (hr.trans hb)]
        · simp only [Bool.or_eq_true] at h ⊢
          rcases h with h | h
          · exact .inl ((ih _).2 (hl.trans hb) h)
          · exact .inr ((ih _).2 (hr.trans hb) h)
      rw [if_neg h7, if_neg h7]
      have h89 : x.op = 8 ∨ x.op = 9 := by omega
      have hm : ∀ a : Int, ((negL q).getD i false = true → has (resIds rs x.name) a = has (resIds rt x.name) a) ∧ ((negL q).getD i false = false → has (resIds rs x.name) a = true → has (resIds rt x.name) a = true) := fun a => by
        refine ⟨fun hb => ?_, fun hb h => ?_⟩
        · rw [HA _ (neg_dep hq hx h89 hb)]
        · unfold has at h ⊢
          simp only [decide_eq_true_eq] at h ⊢
          exact HB _ (neg_dep hq hx h89 hb) a h
      by_cases h8 : x.op = 8
      · rw [if_pos h8, if_pos h8]; exact hm f.id
      rw [if_neg h8, if_neg h8]
      refine ⟨fun hb => by rw [(hm f.link).1 hb], fun hb h => ?_⟩
      simp only [Bool.and_eq_true] at h ⊢
      exact ⟨h.1, (hm f.link).2 hb h.2⟩
theorem neg_root {q : List N} (hq : qryB q = true) : (negL q).getD (q.length - 1) false = false := by
  have e : negL q = negR q q.length (List.replicate q.length false) := by unfold negL; rw [if_pos hq]
  rw [e, negR_keep _ _ (fun p y hp hy hc => by have := kid hq hy hc; omega)]
  rw [List.getD_eq_getElem?_getD]
  by_cases h : q.length - 1 < q.length
  · simp [h]
  · simp [h]
theorem matB_mono {q : List N} {f : Fl} {rs rt : List Rs} (HA : ∀ s, s ∈ depsL q true → resIds rs s = resIds rt s) (HB : ∀ s, s ∈ depsL q false → ∀ i, i ∈ resIds rs s → i ∈ resIds rt s) (h : matB q f rs = true) : matB q f rt = true := by
  unfold matB at h ⊢
  simp only [Bool.and_eq_true] at h ⊢
  exact ⟨h.1, (mat_mono h.1 HA HB _ _).2 (neg_root h.1) h.2⟩
end Go.Proofs.YtejgpghcahinhaaGreat
namespace Go.Proofs.YtejgpghcahinhaaGreat
open Go.RowKit Go.Sort
set_option linter.unusedVariables false
def idsAt (rs : List Rs) (j : Nat) : List Int := match rs[j]? with | some r => r.ids | none => []
theorem idsAt_get {rs : List Rs} {j : Nat} {r : Rs} (h : rs[j]? = some r) : idsAt rs j = r.ids := by unfold idsAt; rw [h]
theorem idsAt_set_ne {rs : List Rs} {i j : Nat} {r : Rs} (h : i ≠ j) : idsAt (rs.set i r) j = idsAt rs j := by unfold idsAt; rw [List.getElem?_set_ne h]
theorem idsAt_set {rs : List Rs} {i : Nat} {r : Rs} (h : i < rs.length) : idsAt (rs.set i r) i = r.ids := by unfold idsAt; rw [List.getElem?_set_self h]
theorem resIds_pl : ∀ {xs : List Dr} {rs : List Rs} {s : ByteArray}, rs.map Rs.name = xs.map Dr.name → resIds rs s = (match plcF xs s with | some j => idsAt rs j | none => [])
  | [], [], s, _ => rfl
  | [], r :: rs, s, h => by simp at h
  | x :: xs, [], s, h => by simp at h
  | x :: xs, r :: rs, s, h => by
    simp at h
    have ih := resIds_pl (xs := xs) (rs := rs) (s := s) h.2
    unfold resIds plcF
    rw [h.1]
    cases hn : x.name.toList == s.toList with
    | true => rfl
    | false =>
      simp only [Bool.false_eq_true, if_false]
      rw [ih]
      cases plcF xs s with
      | none => rfl
      | some j => simp [idsAt]
noncomputable def st1 (xs : List Dr) (fs : List Fl) (k : Nat) (a : List Rs × Bool) (i : Nat) : List Rs × Bool :=
  match xs[i]? with
  | none => a
  | some x => if gt (stL xs) i = k then (if selL x.query fs a.1 = idsAt a.1 i then a else (a.1.set i ⟨x.name, selL x.query fs a.1⟩, true)) else a
noncomputable def passTo (xs : List Dr) (fs : List Fl) (k : Nat) (rs : List Rs) (i : Nat) : List Rs × Bool := (List.range i).foldl (st1 xs fs k) (rs, false)
theorem passTo_succ (xs : List Dr) (fs : List Fl) (k : Nat) (rs : List Rs) (i : Nat) : passTo xs fs k rs (i + 1) = st1 xs fs k (passTo xs fs k rs i) i := by
  unfold passTo; rw [List.range_succ, List.foldl_append]; rfl
theorem st1_skip {xs : List Dr} {fs : List Fl} {k i : Nat} {a : List Rs × Bool} (h : gt (stL xs) i ≠ k) : st1 xs fs k a i = a := by
  unfold st1; split
  · rfl
  · rw [if_neg h]
theorem st1_same {xs : List Dr} {fs : List Fl} {k i : Nat} {a : List Rs × Bool} {x : Dr} (hx : xs[i]? = some x) (h : selL x.query fs a.1 = idsAt a.1 i) : st1 xs fs k a i = a := by
  unfold st1; rw [hx]; simp only [h, if_true, ite_self]
theorem st1_new {xs : List Dr} {fs : List Fl} {k i : Nat} {a : List Rs × Bool} {x : Dr} (hx : xs[i]? = some x) (hk : gt (stL xs) i = k) (h : selL x.query fs a.1 ≠ idsAt a.1 i) : st1 xs fs k a i = (a.1.set i ⟨x.name, selL x.query fs a.1⟩, true) := by
  unfold st1; rw [hx]; simp only
  rw [if_pos hk, if_neg h]
structure LeK (xs : List Dr) (k : Nat) (r s : List Rs) : Prop where
  n1 : r.map Rs.name = xs.map Dr.name
  n2 : s.map Rs.name = xs.map Dr.name
  other : ∀ j, gt (stL xs) j ≠ k → idsAt r j = idsAt s j
  mine : ∀ j, gt (stL xs) j = k → ∀ i, i ∈ idsAt r j → i ∈ idsAt s j
theorem LeK.trans {xs : List Dr} {k : Nat} {r s t : List Rs} (h : LeK xs k r s) (g : LeK xs k s t) : LeK xs k r t :=
  ⟨h.n1, g.n2, fun j hj => (h.other j hj).trans (g.other j hj), fun j hj i hi => g.mine j hj i (h.mine j hj i hi)⟩
theorem edg_mem {xs : List Dr} {l : List ByteArray} {m j : Nat} {s : ByteArray} (h : s ∈ l) (hp : plcF xs s = some j) : (j, m) ∈ edg xs l m := by
  unfold edg; exact List.mem_filterMap.2 ⟨s, h, by rw [hp]; rfl⟩
theorem stB_sat {xs : List Dr} (h : stB xs = true) : SatN xs.length (dirE xs) (stL xs) := by
  unfold stL; rw [if_pos h]
  unfold stB at h
  simp only [Bool.and_eq_true] at h
  exact strB_sat h.2
theorem sel_mono {xs : List Dr} (hb : stB xs = true) {i k : Nat} {x : Dr} (hx : xs[i]? = some x) (hk : gt (stL xs) i = k) {r s : List Rs} (h : LeK xs k r s) {f : Fl} (hm : matB x.query f r = true) : matB x.query f s = true := by
  have hi := (List.getElem?_eq_some_iff.1 hx).1
  have hs := stB_sat hb i hi
  rw [dirE_at hx] at hs
  refine matB_mono (fun n hn => ?_) (fun n hn z hz => ?_) hm
  · rw [resIds_pl h.n1, resIds_pl h.n2]
    cases hp : plcF xs n with
    | none => rfl
    | some j =>
      have := hs (j, 1) (List.mem_append_right _ (edg_mem hn hp))
      exact h.other j (by simp only at this; omega)
  · rw [resIds_pl h.n1] at hz
    rw [resIds_pl h.n2]
    cases hp : plcF xs n with
    | none => rw [hp] at hz; exact hz
    | some j =>
      rw [hp] at hz
      by_cases hj : gt (stL xs) j = k
      · exact h.mine j hj z hz
      · have e := h.other j hj
        simp only at hz ⊢
        rw [← e]; exact hz
theorem selL_sub {xs : List Dr} (hb : stB xs = true) {i k : Nat} {x : Dr} (hx : xs[i]? = some x) (hk : gt (stL xs) i = k) {r s : List Rs} (h : LeK xs k r s) (fs : List Fl) {z : Int} (hz : z ∈ selL x.query fs r) : z ∈ selL x.query fs s := by
  unfold selL at hz ⊢
  obtain ⟨f, h1, h2⟩ := List.mem_map.1 hz
  obtain ⟨h3, h4⟩ := List.mem_filter.1 h1
  exact List.mem_map.2 ⟨f, List.mem_filter.2 ⟨h3, sel_mono hb hx hk h h4⟩, h2⟩
theorem selL_lt {xs : List Dr} (hb : stB xs = true) {i k : Nat} {x : Dr} (hx : xs[i]? = some x) (hk : gt (stL xs) i = k) {r s : List Rs} (h : LeK xs k r s) {fs : List Fl} (hne : selL x.query fs s ≠ selL x.query fs r) : (selL x.query fs r).length < (selL x.query fs s).length := by
  have hi : ∀ f, f ∈ fs → matB x.query f r = true → matB x.query f s = true := fun f _ hm => sel_mono hb hx hk h hm
  by_cases hc : ∃ f, f ∈ fs ∧ matB x.query f s = true ∧ matB x.query f r = false
  · obtain ⟨f, h1, h2, h3⟩ := hc
    unfold selL
    rw [List.length_map, List.length_map]
    exact filt_lt hi h1 h2 h3
  · exfalso
    apply hne
    unfold selL
    congr 1
    apply List.filter_congr
    intro f hf
    cases h2 : matB x.query f s with
    | false =>
      cases h3 : matB x.query f r with
      | false => rfl
      | true => rw [hi f hf h3] at h2; exact h2.symm
    | true =>
      cases h3 : matB x.query f r with
      | true => rfl
      | false => exact absurd ⟨f, hf, h2, h3⟩ hc
def tot (rs : List Rs) : Nat := sumN (rs.map fun r => r.ids.length)
theorem tot_set : ∀ {rs : List Rs} {i : Nat} {r : Rs}, i < rs.length → (idsAt rs i).length < r.ids.length → tot rs < tot (rs.set i r)
  | [], i, r, h, _ => by simp at h
  | y :: ys, 0, r, h, hg => by simp [idsAt] at hg; simp [tot, sumN]; omega
  | y :: ys, i + 1, r, h, hg => by
    have := tot_set (rs := ys) (i := i) (r := r) (by simpa using h) (by simpa [idsAt] using hg)
    simp [tot, sumN] at this ⊢; omega
theorem tot_le {b : Nat} : ∀ {rs : List Rs}, (∀ i, (idsAt rs i).length ≤ b) → tot rs ≤ rs.length * b
  | [], _ => by simp [tot, sumN]
  | y :: ys, h => by
    have h0 := h 0
    have ih := tot_le (rs := ys) (fun i => by have := h (i + 1); simpa [idsAt] using this)
    simp [idsAt] at h0
    simp [tot, sumN, Nat.succ_mul] at ih ⊢; omega
structure EvI (xs : List Dr) (fs : List Fl) (k : Nat) (rs : List Rs) : Prop where
  names : rs.map Rs.name = xs.map Dr.name
  len : ∀ i, (idsAt rs i).length ≤ fs.length
  later : ∀ i, k < gt (stL xs) i → idsAt rs i = []
  pre : ∀ i x, xs[i]? = some x → gt (stL xs) i = k → idsAt rs i = [] ∨ ∃ r0, LeK xs k r0 rs ∧ idsAt rs i = selL x.query fs r0
theorem EvI.next {xs : List Dr} {fs : List Fl} {k : Nat} {rs : List Rs} (h : EvI xs fs k rs) : EvI xs fs (k + 1) rs :=
  ⟨h.names, h.len, fun i hi => h.later i (by omega), fun i x hx hk => .inl (h.later i (by omega))⟩
theorem EvI.rlen {xs : List Dr} {fs : List Fl} {k : Nat} {rs : List Rs} (h : EvI xs fs k rs) : rs.length = xs.length := by
  have := congrArg List.length h.names; simpa using this
theorem EvI.le {xs : List Dr} {fs : List Fl} {k : Nat} {rs : List Rs} (h : EvI xs fs k rs) : LeK xs k rs rs := ⟨h.names, h.names, fun _ _ => rfl, fun _ _ _ hi => hi⟩
theorem EvI.step {xs : List Dr} {fs : List Fl} {k : Nat} {rs : List Rs} (hb : stB xs = true) (h : EvI xs fs k rs) {i : Nat} {x : Dr} (hx : xs[i]? = some x) (hk : gt (stL xs) i = k) (hne : selL x.query fs rs ≠ idsAt rs i) :
    EvI xs fs k (rs.set i ⟨x.name, selL x.query fs rs⟩) ∧ tot rs < tot (rs.set i ⟨x.name, selL x.query fs rs⟩) := by
  have hi := (List.getElem?_eq_some_iff.1 hx).1
  have hil : i < rs.length := by rw [h.rlen]; exact hi
  have hnm : (rs.set i ⟨x.name, selL x.query fs rs⟩).map Rs.name = xs.map Dr.name := by
    rw [List.map_set, h.names]
    apply List.ext_getElem?
    intro j
    by_cases hj : i = j
    · subst hj
      rw [List.getElem?_set_self (by simpa using hi), List.getElem?_map, hx]; rfl
    · rw [List.getElem?_set_ne hj]
  have hold : ∀ z, z ∈ idsAt rs i → z ∈ selL x.query fs rs := by
    rcases h.pre i x hx hk with e | ⟨r0, h1, h2⟩
    · intro z hz; rw [e] at hz; cases hz
    · intro z hz; rw [h2] at hz; exact selL_sub hb hx hk h1 fs hz
  have hlt : (idsAt rs i).length < (selL x.query fs rs).length := by
    rcases h.pre i x hx hk with e | ⟨r0, h1, h2⟩
    · rw [e] at hne ⊢
      cases hc : selL x.query fs rs with
      | nil => exact absurd hc hne
      | cons a l => simp
    · rw [h2] at hne ⊢
      exact selL_lt hb hx hk h1 hne
  have hle : LeK xs k rs (rs.set i ⟨x.name, selL x.query fs rs⟩) := by
    refine ⟨h.names, hnm, fun j hj => ?_, fun j hj z hz => ?_⟩
    · rw [idsAt_set_ne (fun e => hj (by rw [← e]; exact hk))]
    · by_cases hij : i = j
      · subst hij; rw [idsAt_set hil]; exact hold z hz
      · rw [idsAt_set_ne hij]; exact hz
  refine ⟨⟨hnm, fun j => ?_, fun j hj => ?_, fun j y hy hj => ?_⟩, tot_set hil hlt⟩
  · by_cases hij : i = j
    · subst hij; rw [idsAt_set hil]; exact selL_len _ _ _
    · rw [idsAt_set_ne hij]; exact h.len j
  · rw [idsAt_set_ne (fun e => by subst e; omega)]; exact h.later j hj
  · by_cases hij : i = j
    · subst hij
      obtain rfl := Option.some.inj (hx.symm.trans hy)
      rw [idsAt_set hil]
      exact .inr ⟨rs, hle, rfl⟩
    · rw [idsAt_set_ne hij]
      rcases h.pre j y hy hj with e | ⟨r0, h1, h2⟩
      · exact .inl e
      · exact .inr ⟨r0, h1.trans hle, h2⟩
noncomputable def passN (xs : List Dr) (fs : List Fl) (k : Nat) (rs : List Rs) : Nat → List Rs × Bool
  | 0 => (rs, true)
  | m + 1 => passTo xs fs k (passN xs fs k rs m).1 xs.length
def LvlEnd (xs : List Dr) (fs : List Fl) (k : Nat) (rs : List Rs) (m : Nat) : Prop := (∀ j, j ≤ m → (passN xs fs k rs j).2 = true) ∧ (passN xs fs k rs (m + 1)).2 = false
theorem LvlEnd.one {xs : List Dr} {fs : List Fl} {k : Nat} {rs : List Rs} {m p : Nat} (h : LvlEnd xs fs k rs m) (g : LvlEnd xs fs k rs p) : m = p := by
  rcases Nat.lt_trichotomy m p with hl | hl | hl
  · have := g.1 (m + 1) hl; rw [h.2] at this; cases this
  · exact hl
  · have := h.1 (p + 1) hl; rw [g.2] at this; cases this
def rs0 (xs : List Dr) : List Rs := xs.map fun x => ⟨x.name, []⟩
theorem rs0_ids (xs : List Dr) (i : Nat) : idsAt (rs0 xs) i = [] := by
  unfold idsAt rs0
  rw [List.getElem?_map]
  cases xs[i]? <;> rfl
theorem EvI.start (xs : List Dr) (fs : List Fl) : EvI xs fs 0 (rs0 xs) := by
  refine ⟨by unfold rs0; rw [List.map_map]; rfl, fun i => by rw [rs0_ids]; exact Nat.zero_le _, fun i _ => rs0_ids xs i, fun i x _ _ => .inl (rs0_ids xs i)⟩
inductive EvR (xs : List Dr) (fs : List Fl) : Nat → List Rs → Nat → Prop
  | zero : EvR xs fs 0 (rs0 xs) 0
  | succ {k : Nat} {rs : List Rs} {t m : Nat} : EvR xs fs k rs t → LvlEnd xs fs k rs m → EvR xs fs (k + 1) (passN xs fs k rs (m + 1)).1 (t + (m + 1))
theorem EvR.one {xs : List Dr} {fs : List Fl} : ∀ {k : Nat} {rs rt : List Rs} {t u : Nat}, EvR xs fs k rs t → EvR xs fs k rt u → rs = rt ∧ t = u := by
  intro k
  induction k with
  | zero => intro rs rt t u h g; cases h; cases g; exact ⟨rfl, rfl⟩
  | succ k ih =>
    intro rs rt t u h g
    cases h with
    | succ h1 h2 =>
      cases g with
      | succ g1 g2 =>
        obtain ⟨rfl, rfl⟩ := ih h1 g1
        obtain rfl := h2.one g2
        exact ⟨rfl, rfl⟩
noncomputable def lvls (xs : List Dr) : Nat := (mxS xs + 1).toNat
open Classical in
noncomputable def evP (xs : List Dr) (fs : List Fl) : List Rs × Nat := if h : ∃ p : List Rs × Nat, EvR xs fs (lvls xs) p.1 p.2 then h.choose else ([], 0)
theorem evP_of {xs : List Dr} {fs : List Fl} {rs : List Rs} {t : Nat} (h : EvR xs fs (lvls xs) rs t) : evP xs fs = (rs, t) := by
  have hx : ∃ p : List Rs × Nat, EvR xs fs (lvls xs) p.1 p.2 := ⟨(rs, t), h⟩
  unfold evP
  rw [dif_pos hx]
  have := EvR.one hx.choose_spec h
  exact Prod.ext this.1 this.2
end Go.Proofs.YtejgpghcahinhaaGreat
namespace Go.Proofs.YtejgpghcahinhaaGreat
open Go.RowKit
set_option linter.unusedVariables false
def GrowR (w : World) (base : Nat) (v : Value) (ds : List Rs) : Prop :=
  ∃ ps : List P2, w.ownsRow base 122 2 v ds.length (rows P2.c ps) ∧ All2 (Rs.O w base w.heap.size) ds ps ∧ Dis (ps.flatMap Rs.subs)
theorem GrowR.own {w : World} {base : Nat} {v : Value} {ds : List Rs} (h : GrowR w base v ds) : OwnRss w base w.heap.size v ds := by
  obtain ⟨ps, h1, h2, h3⟩ := h
  refine ⟨ps, own_of h1, h2, h3.cons ?_⟩
  intro u b hu hv
  obtain ⟨p, hp, hup⟩ := List.mem_flatMap.1 hu
  obtain ⟨i, hi', rfl⟩ := List.getElem_of_mem hp
  obtain ⟨x, hx, _, hr1⟩ := h2.get (List.getElem?_eq_getElem hi')
  simp only [Rs.subs, List.mem_cons, List.not_mem_nil, or_false] at hup
  subst hup
  exact own_type h1 hr1.1 (by decide) hv
theorem GrowR.grew {w : World} {base : Nat} {v : Value} {ds : List Rs} (h : GrowR w base v ds) {w' : World} (hg : Grew w w') : GrowR w' base v ds := by
  obtain ⟨ps, h1, h2, h3⟩ := h
  exact ⟨ps, ownsRow_grew h1 hg, h2.mono fun x p h => (h.grew hg).mono (Nat.le_refl _) hg.size, h3⟩
theorem GrowR.lit (w : World) : GrowR (w.alloc (.cells #[] 122)) w.heap.size (.slice (some ⟨w.heap.size, 0, none⟩) 0 0) [] :=
  ⟨[], lit_own w _ 2, All2.nil, Dis.nil⟩
theorem GrowR.base {w : World} {a b : Nat} {v : Value} {ds : List Rs} (h : GrowR w a v ds) (hb : b ≤ a) : GrowR w b v ds := by
  obtain ⟨ps, h1, h2, h3⟩ := h
  exact ⟨ps, ownsRow_base h1 hb, h2.mono fun x p h => h.mono hb (Nat.le_refl _), h3⟩
theorem GrowR.snoc {w w' : World} {base lo2 : Nat} {v v' : Value} {ds : List Rs} {d : Rs} {ps : List P2} {p : P2} (h1 : w.ownsRow base 122 2 v ds.length (rows P2.c ps)) (h2 : All2 (Rs.O w base lo2) ds ps) (h3 : Dis (ps.flatMap Rs.subs))
    (hp : Rs.O w lo2 w.heap.size d p) (hb : base ≤ lo2) (hl : lo2 ≤ w.heap.size)
    (hown : w'.ownsRow base 122 2 v' (ds.length + 1) (rows P2.c ps ++ P2.c p)) (hg : w.grownBy w' v.ownBlock) (hs : w.heap.size ≤ w'.heap.size) : GrowR w' base v' (ds ++ [d]) := by
  refine ⟨ps ++ [p], ?_, ?_, ?_⟩
  · rw [List.length_append, rows_append]; simpa [rows] using hown
  · refine All2.snoc (h2.mono fun x q hr => ?_) ?_
    · exact ⟨hr.1, (own_grown hr.2 h1 (by decide) hg).mono (Nat.le_refl _) (Nat.le_trans hl hs)⟩
    · exact ⟨hp.1, (own_grown hp.2 h1 (by decide) hg).mono hb hs⟩
  · rw [List.flatMap_append]
    refine Dis.app h3 (by simpa [Rs.subs] using Dis.one p.q) ?_
    intro u v b hu hv hub hvb
    have h4 := All2.blk (subs := Rs.subs) (fun x p v b h hv hb => Rs.O.blk h hv hb) h2 hu hub
    have h5 := hp.blk (by simpa using hv) hvb
    omega
theorem news2r {w : World} {a b : Value} {e : TypeId} {g : Nat} (hg : g = w.heap.size) : ∀ j u, [a, b][j]? = some u → (w.alloc (.cells #[a, b] e)).cell? ((⟨g, 0, none⟩ : Addr).add j) = some u := by
  subst hg
  intro j u hu
  match j with
  | 0 => simp at hu; subst hu; simp [Addr.add]
  | 1 => simp at hu; subst hu; simp [Addr.add]
  | j + 2 => simp at hu
theorem Dis.put : ∀ {L : List Value} {i : Nat} {u : Value}, Dis L → (∀ v b, v ∈ L → u.ownBlock = some b → v.ownBlock ≠ some b) → Dis (L.set i u)
  | [], i, u, h, _ => by simpa using h
  | v :: vs, 0, u, h, hf => by
    rw [List.set_cons_zero]
    exact h.tail.cons (fun z b hz hb => hf z b (List.mem_cons_of_mem _ hz) hb)
  | v :: vs, i + 1, u, h, hf => by
    rw [List.set_cons_succ]
    refine (Dis.put h.tail (fun z b hz hb => hf z b (List.mem_cons_of_mem _ hz) hb)).cons (fun z b hz hb => ?_)
    rcases List.mem_or_eq_of_mem_set hz with h1 | rfl
    · exact h.head h1 hb
    · intro he; exact hf v b (List.mem_cons_self ..) he hb
theorem subs_map (ps : List P2) : ps.flatMap Rs.subs = ps.map P2.q := by
  induction ps with
  | nil => rfl
  | cons p ps ih => rw [List.flatMap_cons, ih]; rfl
theorem GrowR.at {w : World} {base g n cap i : Nat} {rs : List Rs} (h : GrowR w base (.slice (some ⟨g, 0, none⟩) n cap) rs) (hn : rs.length = n) (hi : i < n) :
    ∃ r a c, Hid (rs[i]? = some r) ∧ w.cell? ⟨g, i * 2, none⟩ = some (.string r.name) ∧ w.cell? ⟨g, i * 2 + 1, none⟩ = some (.slice a r.ids.length c) ∧ Hid (Rd w (.slice a r.ids.length c) 1 r.ids.length (ints r.ids)) ∧ w.frozen? ⟨g, i * 2 + 1, none⟩ = false ∧ g < w.heap.size ∧ base ≤ g := by
  obtain ⟨ps, h1, h2, h3⟩ := h
  rw [hn] at h1
  have hpl := h2.1
  have hp : ps[i]? = some ps[i] := List.getElem?_eq_getElem (by omega)
  have hr : rs[i]? = some rs[i] := List.getElem?_eq_getElem (by omega)
  have hO := h2.2 i _ _ hr hp
  obtain ⟨p', hp', hc⟩ := own_row P2.len (by decide) h1 hi
  obtain rfl := Option.some.inj (hp'.out.symm.trans hp)
  obtain ⟨a, c, hq⟩ := own_slice hO.2.1
  refine ⟨rs[i], a, c, Lib.hid hr, ?_, ?_, ?_, h1.frozenAt _, (h1.lt g rfl).2, (h1.lt g rfl).1⟩
  · have := hc 0 (.string ps[i].name) rfl
    rw [hO.1] at this; exact this
  · have := hc 1 ps[i].q rfl
    rw [hq] at this; exact this
  · have := hO.2.rd
    rw [hq] at this; exact Lib.hid this
theorem GrowR.put {w w1 : World} {base g n cap i : Nat} {rs : List Rs} {r : Rs} {u : Value} {l : List Int} (h : GrowR w base (.slice (some ⟨g, 0, none⟩) n cap) rs) (hn : rs.length = n) (hg : Grew w w1)
    (hu : w1.ownsRow w.heap.size 3 1 u l.length (ints l)) (hr : rs[i]? = some r) : GrowR (w1.setCell ⟨g, i * 2 + 1, none⟩ u) base (.slice (some ⟨g, 0, none⟩) n cap) (rs.set i ⟨r.name, l⟩) := by
  obtain ⟨ps, h1, h2, h3⟩ := h
  rw [hn] at h1
  have hpl := h2.1
  have hi := (List.getElem?_eq_some_iff.1 hr).1
  have hp : ps[i]? = some ps[i] := List.getElem?_eq_getElem (by omega)
  have hO := h2.2 i r ps[i] hr hp
  have hgl := h1.lt g rfl
  have hsz := hg.size
  have ht : Touch g (g + 1) w1 (w1.setCell ⟨g, i * 2 + 1, none⟩ u) := Touch.setCell (p := ⟨g, i * 2 + 1, none⟩) (Touch.refl g (g + 1) w1) (Nat.le_refl g) (Nat.lt_succ_self g) u
  have hss : (w1.setCell ⟨g, i * 2 + 1, none⟩ u).heap.size = w1.heap.size := by simp
  refine ⟨ps.set i ⟨ps[i].name, u⟩, ?_, ?_, ?_⟩
  · have e := ownsRow_stores (ownsRow_grew h1 hg) (i * 2 + 1) u
    rw [List.length_set, hn]
    have e2 : (rows P2.c ps).set (i * 2 + 1) u = rows P2.c (ps.set i ⟨ps[i].name, u⟩) := by
      have h5 := setsP2 ps i (by omega) ⟨ps[i].name, u⟩
      have h6 : (rows P2.c ps).set (i * 2) (.string ps[i].name) = rows P2.c ps := set_noop (rows_at P2.len ps i 0 ps[i] hp (by decide))
      simp only at h5
      rw [h6] at h5
      exact h5
    rw [← e2]; exact e
  · refine (h2.mono fun x q hq => ?_).set i _ _ ?_
    · have h5 : Rs.O w1 base w.heap.size x q := hq.grew hg
      have h6 := h5.touch' ht (fun v c hv hc => by
        simp only [Rs.subs, List.mem_cons, List.not_mem_nil, or_false] at hv
        subst hv
        have h7 := own_type hq.2.1 h1 (by decide) hc
        have h8 : c ≠ g := fun e => h7 (by rw [e]; rfl)
        omega)
      exact h6.mono (Nat.le_refl _) (by omega)
    · refine ⟨hO.1, ?_⟩
      have h5 : Own w1 w.heap.size w1.heap.size 3 1 u l.length (ints l) := ⟨hu, fun b hb => (hu.lt b hb).2⟩
      exact (h5.touch ht (.inr (by omega))).mono (by omega) (by omega)
  · rw [subs_map] at h3 ⊢
    rw [List.map_set]
    refine Dis.put h3 (fun v b hv hb he => ?_)
    obtain ⟨p, hpm, rfl⟩ := List.mem_map.1 hv
    obtain ⟨j, hj, rfl⟩ := List.getElem_of_mem hpm
    obtain ⟨x, hx, hq⟩ := h2.get (List.getElem?_eq_getElem hj)
    have h5 := (hu.lt b hb).1
    have h6 := (hq.2.1.lt b he).2
    omega
def totW (w : World) (g n : Nat) : Nat := sumN ((List.range n).map fun j => match w.cell? ⟨g, j * 2 + 1, none⟩ with | some (.slice _ l _) => l | _ => 0)
theorem totW_of {w : World} {base g n cap : Nat} {rs : List Rs} (h : GrowR w base (.slice (some ⟨g, 0, none⟩) n cap) rs) (hn : rs.length = n) : totW w g n = tot rs := by
  unfold totW tot
  congr 1
  apply List.ext_getElem (by simp [hn])
  intro i h1 h2
  obtain ⟨r, a, c, hr, _, hc, _⟩ := h.at hn (i := i) (by simpa using h1)
  simp only [List.getElem_map, List.getElem_range, hc]
  have h3 := hr.out
  have h4 : i < rs.length := by simpa using h2
  rw [List.getElem?_eq_getElem h4] at h3
  cases h3
  rfl
end Go.Proofs.YtejgpghcahinhaaGreat
namespace Go.Proofs.YtejgpghcahinhaaGreat
open Go.RowKit Go.Sort
set_option linter.unusedVariables false
theorem plc_none {xs : List Dr} {s : ByteArray} {i : Int} (h : plcF xs s = none) (hp : plc xs s xs.length i) : i = -1 := by
  rcases plc_cases rfl hp with ⟨h1, _⟩ | ⟨k, h1, h2, h3⟩
  · exact h1
  · rw [h3.out] at h; cases h
theorem plc_some {xs : List Dr} {s : ByteArray} {i : Int} {j : Nat} (h : plcF xs s = some j) (hp : plc xs s xs.length i) : i = j := by
  rcases plc_cases rfl hp with ⟨_, h1⟩ | ⟨k, h1, h2, h3⟩
  · rw [h1.out] at h; cases h
  · rw [h3.out] at h; cases h; exact h1
theorem abv_bd {L : List Nat} {b : Nat} (h : Bd b L) {xs : List Dr} {l : List ByteArray} {m : Nat} (hm : m ≤ 1) : abv L (edg xs l m) ≤ b + 1 :=
  abv_le fun e he => by have h1 := mem_edg he; have h2 := h e.1; omega
theorem one_nats (xs : List Nat) : ∀ u ∈ natsV xs, u.oneCell' = true := by
  intro u hu; unfold natsV at hu; simp at hu; obtain ⟨x, _, rfl⟩ := hu; rfl
theorem natsV_len (L : List Nat) : (natsV L).length = L.length := by unfold natsV; simp
set_option maxRecDepth 100000 in
set_option maxHeartbeats 1000000 in
theorem implStrataAbove (va vb vc : Value) (xs : List Dr) (L : List Nat) (ns : List ByteArray) (m : Nat) (w : World) (ha : RdDs w va xs) (hb : Rd w vb 1 L.length (natsV L)) (hc : Rd w vc 1 ns.length (strs ns)) (hx : xs.length ≤ 1900000) (hl : L.length = xs.length) (hns : ns.length ≤ 4000000) (hbd : Bd 1000000 L) (hm : m ≤ 1) :
    Calls Tryz.prog 92 #[va, vb, vc, .int .i64 (m : Int)] w fun e w' => e = .returned (.int .i64 (abv L (edg xs ns m) : Int)) ∧ Grew w w' := by
  have HD := Lib.hid ha
  have HBD := Lib.hid hbd
  obtain ⟨qs, ⟨a, ca, rfl, hca, hra⟩, hall⟩ := ha
  clear hall hra hbd
  obtain ⟨b, cb, rfl, hcb, hrb⟩ := hb
  obtain ⟨c, cc, rfl, hcc, hrc⟩ := hc
  have HXL := Lib.hid hl
  generalize hn : ns.length = n at hns hrc hcc
  have HN := Lib.hid hn
  clear hn
  generalize hq : L.length = q at hl hrb hcb
  have HQ := Lib.hid hq
  have HLQ := Lib.hid hl
  clear hq hl
  go_enter Tryz.func92, Tryz.ntmps92
  go_wp2
  go_loopw [9, 15] (fun v i wr => ∃ k r : Nat, k ≤ n ∧ i = .int .i64 k ∧ v = .int .i64 r ∧ r ≤ 1000001 ∧ Hid (r = abv L (edg xs (ns.take k) m)) ∧ Grew w wr) (fun _ i _ => n - (intOf i).toNat)
  case atStart => exact ⟨0, 0, Nat.zero_le _, rfl, rfl, Nat.zero_le _, Lib.hid (by rw [edg_zero]; rfl), Grew.refl _⟩
  case round =>
    obtain ⟨k, r, hk, rfl, rfl, hr2, hr, hbel⟩ := hrel
    by_cases hlt : k < n
    · obtain ⟨b1, o1, s, rfl, hsk, c0⟩ := (hrc.grew hbel).one hlt
      cases hp : plcF xs s with
      | none =>
        have HP := Lib.hid hp
        clear hp
        go_wp2_with (go_at_call 102; refine (implDirAt _ xs s _ (HD.out.grew hbel) (by omega)).mono ?_; rintro e w2 ⟨i2, rfl, hp2, hb2⟩; obtain rfl := plc_none HP.out hp2; clear hp2)
        go_roundw
        case rel => exact ⟨k + 1, r, by omega, by go_num, rfl, hr2, Lib.hid (by rw [edg_no hsk.out HP.out]; exact hr.out), hbel.trans hb2⟩
        case measure => simp [intOf]; omega
      | some j =>
        have hj := plcF_lt hp
        have HP := Lib.hid hp
        clear hp
        have hjq : j < q := by have := HLQ.out; omega
        obtain ⟨b2, o2, y, rfl, hyk, d0⟩ := (hrb.grew hbel).one hjq
        have hy := Lib.hid (gt_at hyk.out)
        have hy2 : y ≤ 1000000 := by have h1 := HBD.out j; rw [hy.out] at h1; exact h1
        have HE : abv L (edg xs (ns.take (k + 1)) m) = max r (y + m) := by
          rw [edg_yes hsk.out HP.out, abv_snoc, ← hr.out, hy.out]
        have HE := Lib.hid HE
        have hw : IntKind.i64.wrap ((y : Int) + (m : Int)) = ((y + m : Nat) : Int) := by simp [IntKind.wrap, IntKind.bits, IntKind.signed]; omega
        have hjq2 : (j : Int) < (q : Int) := by omega
        go_wp2_with (go_at_call 102; refine (implDirAt _ xs s _ (HD.out.grew hbel) (by omega)).mono ?_; rintro e w2 ⟨i2, rfl, hp2, hb2⟩; obtain rfl := plc_some HP.out hp2; clear hp2; have d1 := grew_cell hb2 d0)
        go_roundw
        case rel => exact ⟨k + 1, max r (y + m), by omega, by go_num, by first | rfl | (congr 1; omega) | (simp; omega), by omega, Lib.hid HE.out.symm, hbel.trans hb2⟩
        case measure => simp [intOf]; omega
    · obtain rfl : k = n := by omega
      go_wp2
      go_ret
      exact ⟨ret_int (by rw [hr.out, take_all HN.out]), hbel⟩
set_option maxRecDepth 100000 in
set_option maxHeartbeats 4000000 in
theorem l13Raise (va : Value) (a0 : Option Addr) (cb : Nat) (xs : List Dr) (L : List Nat) (n : Nat) (w : World) (ha : RdDs w va xs) (hb : RdA w a0 1 n (natsV L)) (hl : L.length = xs.length) (hxn : xs.length = n) (h5 : n ≤ 5) (h9 : ∀ x, x ∈ xs → x.query.length ≤ 9) (hz : szAll Dr.sz xs ≤ 4000000) (hbd : Bd 900000 L) :
    Calls Tryz.prog 95 #[va, .slice a0 n cb] w fun e w' => ∃ v, e = .returned v ∧ w'.ownsRow w.heap.size 3 1 v n (natsV (raise n (dirE xs) L)) ∧ Grew w w' := by
  have HD := Lib.hid ha
  have HBD := Lib.hid hbd
  have H9 := Lib.hid h9
  have HZ := Lib.hid hz
  obtain ⟨qs, ⟨a, ca, rfl, hca, hra⟩, hall⟩ := ha
  have HA := Lib.hid hall
  have HX := Lib.hid hxn
  have HL := Lib.hid (hl.trans hxn)
  rw [hxn] at hra hca
  have HD2 := Lib.hid (show RdDs w (.slice a n ca) xs by have := HD.out; rw [hxn] at this; exact this)
  rw [hxn]
  have hxs5 : xs.length ≤ 5 := by omega
  clear hall hbd h9 HD hl hxn
  obtain ⟨i0, hi, hz0, hz1, hz2⟩ := info_parts Tryz.infoInt
  cases a0 with
  | none =>
    obtain rfl : n = 0 := by
      rcases Nat.eq_zero_or_pos n with h | h
      · exact h
      · obtain ⟨b, oo, h2, _⟩ := hb.2 h; cases h2
    clear hb
    go_enter Tryz.func95, Tryz.ntmps95
    go_wp2
    go_loopw [6] (fun i wr => i = .int .i64 0 ∧ Grew (w.alloc (.cells #[] 3)) wr) (fun _ _ => 0)
    case atStart => exact ⟨rfl, Grew.refl _⟩
    case round =>
      obtain ⟨rfl, hg⟩ := hrel
      go_wp2
      go_ret
      refine ⟨_, rfl, ?_, ((Grew.refl _).alloc _).trans hg⟩
      have e0 : L = [] := List.length_eq_zero_iff.1 HL.out
      rw [e0]
      exact ownsRow_grew (lit_own w 3 1) hg
  | some ad =>
    have HB := Lib.hid hb
    clear hb
    go_enter Tryz.func95, Tryz.ntmps95
    go_wp2_with (at_builtin; refine wpList_append_own _ rfl _ _ 35 rfl w.heap.size 3 i0 (.int .i64 0) 1 8 Tryz.underlying35 hi hz0 hz1 hz2 rfl (by decide) _ 0 [] rfl (lit_own w 3 1) ad n cb (natsV L) rfl (by rw [natsV_len, HL.out, Nat.mul_one]) (rd_news HB.out ((Grew.refl _).alloc _)) (one_nats _) (by unfold maxLen; omega) (by omega) (by simp) ?_)
    intro v0 w1 hown0 hgr0 _
    have hg1 : Grew w w1 := ((Grew.refl w).alloc _).grown hgr0 (fun k h => by cases h; exact Nat.le_refl _)
    have HO := Lib.hid (show w1.ownsRow w.heap.size 3 1 v0 n (natsV L) by simpa using hown0)
    clear hown0 hgr0 HB hi hz0 hz1 hz2
    obtain ⟨oa, oc, rfl⟩ := own_slice HO.out
    go_wp2
    go_loopw [6] (fun i wr => ∃ k : Nat, k ≤ n ∧ i = .int .i64 k ∧ Hid (wr.ownsRow w.heap.size 3 1 (.slice oa n oc) n (natsV (rsT xs L k))) ∧ Grew w wr) (fun i _ => n - (intOf i).toNat)
    case atStart => exact ⟨0, Nat.zero_le _, rfl, HO, hg1⟩
    case round =>
      obtain ⟨k, hk, rfl, hown, hbel⟩ := hrel
      by_cases hlt : k < n
      · obtain ⟨b1, o1, p, rfl, hpk, c0, c1⟩ := hra.getP2 hlt
        obtain ⟨x, hxk, hxr⟩ := HA.out.get hpk.out
        have hmem := Lib.hid (List.mem_of_getElem? hxk.out)
        have hxs := dir_sz HZ.out hxk.out
        have hq9 := H9.out x hmem.out
        obtain ⟨pn, pq⟩ := p
        obtain ⟨hxn, hxq⟩ := hxr
        simp only at hxn hxq c0 c1
        subst hxn
        have HQ := Lib.hid hxq
        obtain ⟨pa, pc, rfl, hpc, hpr⟩ := hxq
        clear hpr hpc c0
        have hpl : (depsL x.query false).length ≤ 9 := Nat.le_trans (depsL_le _ _) hq9
        have hnl : (depsL x.query true).length ≤ 9 := Nat.le_trans (depsL_le _ _) hq9
        have HB0 := Lib.hid (bd_rsT (xs := xs) HBD.out H9.out k)
        obtain ⟨ga, rfl⟩ : ∃ g, oa = some ⟨g, 0, none⟩ := by
          obtain ⟨_, ⟨h1, h2⟩ | ⟨g, cap, cur, h1, _⟩⟩ := hown.out
          · omega
          · cases h1; exact ⟨g, rfl⟩
        have hga := (hown.out.lt ga rfl).1
        have hga2 := (hown.out.lt ga rfl).2
        have HLT := Lib.hid (show (rsT xs L k).length = n by rw [rsT_len]; exact HL.out)
        obtain ⟨W1, rfl⟩ : ∃ y, y = wr := ⟨_, rfl⟩
        have c1P := grew_cell hbel c1
        have HBLP := Lib.hid (fun t => bd_rsP (xs := xs) HB0.out k (depsL x.query false) 0 (by omega) t)
        go_wp2_with (go_at_call 37; refine (specPositiveDeps _ x.query.length x.query _ (HQ.out.grew hbel) hxs.2.1 hxs.2.2).mono ?_; rintro e w4P ⟨v4, rfl, hq4, hb4P⟩; obtain ⟨qaP, qcP, rfl⟩ := own_slice hq4; have HQ4P := Lib.hid (show Own w4P W1.heap.size w4P.heap.size 9 1 _ _ _ from ⟨hq4, fun b hb => (hq4.lt b hb).2⟩); clear hq4)
        have HO4P := Lib.hid (ownsRow_grew hown.out hb4P)
        have hg4P := hbel.trans hb4P
        clear c1P
        generalize hqP : (depsL x.query false).length = q at HQ4P
        have HQLP := Lib.hid hqP
        rw [hqP] at hpl
        clear hqP
        go_loopw [8] (fun i wr => ∃ t : Nat, t ≤ q ∧ i = .int .i64 t ∧ Hid (wr.ownsRow w.heap.size 3 1 (.slice (some ⟨ga, 0, none⟩) n oc) n (natsV (rsP xs (rsT xs L k) k (depsL x.query false) 0 t))) ∧ Touch w.heap.size W1.heap.size w4P wr) (fun i _ => q - (intOf i).toNat)
        case atStart => exact ⟨0, Nat.zero_le _, rfl, Lib.hid (by rw [rsP_zero]; exact HO4P.out), Touch.refl _ _ _⟩
        case round =>
          obtain ⟨t, ht, rfl, hownP, htch⟩ := hrel
          have hbel2 : Grew w wr := Touch.new hg4P htch (Nat.le_refl _)
          have hdepP := Own.touch HQ4P.out htch (.inr (Nat.le_refl _))
          have hwl : w.heap.size ≤ W1.heap.size := hbel.size
          by_cases hlt2 : t < q
          · obtain ⟨b2, o2, s, hda, hsk, d0⟩ := (Rd.rda (rd_of_own hdepP.1)).one hlt2
            subst hda
            clear hdepP
            cases hp : plcF xs s with
            | none =>
              have HP := Lib.hid hp
              clear hp
              go_wp2_with (go_at_call 103; refine (l11Place _ xs s _ (HD2.out.grew hbel2) (by omega)).mono ?_; rintro e w2 ⟨i2, rfl, hp2, rfl⟩; obtain rfl := plc_none HP.out hp2; clear hp2)
              go_quiet (fail)
              go_wp2
              go_roundw
              case rel => exact ⟨t + 1, by omega, by go_num, Lib.hid (by rw [rsP_no hsk.out HP.out]; exact ownsRow_grew hownP.out ((Grew.refl _).drewN _)), htch.drewN _⟩
              case measure => simp [intOf]; omega
            | some j =>
              have hj0 := plcF_lt hp
              have HP := Lib.hid hp
              clear hp
              have hjn : j < n := by have := HX.out; omega
              obtain ⟨y, hyk, e1⟩ := own_one hownP.out hjn
              obtain ⟨z, hzk, e2⟩ := own_one hownP.out hlt
              have hy := Lib.hid (gt_at hyk.out)
              have hzg := Lib.hid (gt_at hzk.out)
              have hyb : y ≤ 900200 := by
                have h1 := HBLP.out t j
                rw [hy.out] at h1
                have h2 := depsL_le x.query false
                have h3 := depsL_le x.query true
                omega
              have hfz := hownP.out.frozenAt k
              have hjq2 : (j : Int) < (n : Int) := by omega
              have hkq2 : (k : Int) < (n : Int) := by omega
              have hw : IntKind.i64.wrap ((y : Int) + 1) = ((y + 1 : Nat) : Int) := by simp [IntKind.wrap, IntKind.bits, IntKind.signed]; omega
              by_cases hc : z < y + 0
              · have hc2 : (z : Int) < (y : Int) := by omega
                have HST := Lib.hid (fun K => store_one (ownsRow_grew hownP.out ((Grew.refl wr).drewN K)) k (y + 0))
                have HU := Lib.hid (show (rsP xs (rsT xs L k) k (depsL x.query false) 0 t).set k (y + 0) = rsP xs (rsT xs L k) k (depsL x.query false) 0 (t + 1) by rw [rsP_yes hsk.out HP.out, upd_yes (by rw [hy.out, hzg.out]; exact hc), hy.out])
                clear hc
                go_wp2_with (go_at_call 103; refine (l11Place _ xs s _ (HD2.out.grew hbel2) (by omega)).mono ?_; rintro e w2 ⟨i2, rfl, hp2, rfl⟩; obtain rfl := plc_some HP.out hp2; clear hp2)
                go_quiet (fail)
                go_wp2
                go_roundw
                case rel => exact ⟨t + 1, by omega, by go_num, Lib.hid (by rw [← HU.out]; exact HST.out _), (htch.drewN _).setCell (p := ⟨ga, k, none⟩) hga hga2 _⟩
                case measure => simp [intOf]; omega
              · have hc2 : ¬ ((z : Int) < (y : Int)) := by omega
                have HU := Lib.hid (show rsP xs (rsT xs L k) k (depsL x.query false) 0 t = rsP xs (rsT xs L k) k (depsL x.query false) 0 (t + 1) by rw [rsP_yes hsk.out HP.out, upd_no (by rw [hy.out, hzg.out]; exact hc)])
                clear hc
                go_wp2_with (go_at_call 103; refine (l11Place _ xs s _ (HD2.out.grew hbel2) (by omega)).mono ?_; rintro e w2 ⟨i2, rfl, hp2, rfl⟩; obtain rfl := plc_some HP.out hp2; clear hp2)
                go_quiet (fail)
                go_wp2
                go_roundw
                case rel => exact ⟨t + 1, by omega, by go_num, Lib.hid (by rw [← HU.out]; exact ownsRow_grew hownP.out ((Grew.refl _).drewN _)), htch.drewN _⟩
                case measure => simp [intOf]; omega
          · obtain rfl : q = t := by omega
            have hga3N : ga < wr.heap.size := (hownP.out.lt ga rfl).2
            clear hdepP
            obtain ⟨W2, rfl⟩ : ∃ y, y = wr := ⟨_, rfl⟩
            have c1N := grew_cell hbel2 c1
            have HBLN := Lib.hid (fun t => bd_rsP (xs := xs) (bd_rsP (xs := xs) HB0.out k (depsL x.query false) 0 (by omega) q) k (depsL x.query true) 1 (by omega) t)
            go_wp2_with (go_at_call 38; refine (specNegativeDeps _ x.query.length x.query _ (HQ.out.grew hbel2) hxs.2.1 hxs.2.2).mono ?_; rintro e w4N ⟨v4, rfl, hq4, hb4N⟩; obtain ⟨qaN, qcN, rfl⟩ := own_slice hq4; have HQ4N := Lib.hid (show Own w4N W2.heap.size w4N.heap.size 9 1 _ _ _ from ⟨hq4, fun b hb => (hq4.lt b hb).2⟩); clear hq4)
            have HO4N := Lib.hid (ownsRow_grew hownP.out hb4N)
            have hg4N := hbel2.trans hb4N
            clear c1N
            generalize hqN : (depsL x.query true).length = r at HQ4N
            have HQLN := Lib.hid hqN
            rw [hqN] at hnl
            clear hqN
            go_loopw [11] (fun i wr => ∃ t : Nat, t ≤ r ∧ i = .int .i64 t ∧ Hid (wr.ownsRow w.heap.size 3 1 (.slice (some ⟨ga, 0, none⟩) n oc) n (natsV (rsP xs (rsP xs (rsT xs L k) k (depsL x.query false) 0 q) k (depsL x.query true) 1 t))) ∧ Touch w.heap.size W2.heap.size w4N wr) (fun i _ => r - (intOf i).toNat)
            case atStart => exact ⟨0, Nat.zero_le _, rfl, Lib.hid (by rw [rsP_zero]; exact HO4N.out), Touch.refl _ _ _⟩
            case round =>
              obtain ⟨t, ht, rfl, hownN, htch⟩ := hrel
              have hbel3 : Grew w wr := Touch.new hg4N htch (Nat.le_refl _)
              have hdepN := Own.touch HQ4N.out htch (.inr (Nat.le_refl _))
              have hwl : w.heap.size ≤ W2.heap.size := hbel2.size
              by_cases hlt2 : t < r
              · obtain ⟨b2, o2, s, hda, hsk, d0⟩ := (Rd.rda (rd_of_own hdepN.1)).one hlt2
                subst hda
                clear hdepN
                cases hp : plcF xs s with
                | none =>
                  have HP := Lib.hid hp
                  clear hp
                  go_wp2_with (go_at_call 103; refine (l11Place _ xs s _ (HD2.out.grew hbel3) (by omega)).mono ?_; rintro e w2 ⟨i2, rfl, hp2, rfl⟩; obtain rfl := plc_none HP.out hp2; clear hp2)
                  go_quiet (fail)
                  go_wp2
                  go_roundw
                  case rel => exact ⟨t + 1, by omega, by go_num, Lib.hid (by rw [rsP_no hsk.out HP.out]; exact ownsRow_grew hownN.out ((Grew.refl _).drewN _)), htch.drewN _⟩
                  case measure => simp [intOf]; omega
                | some j =>
                  have hj0 := plcF_lt hp
                  have HP := Lib.hid hp
                  clear hp
                  have hjn : j < n := by have := HX.out; omega
                  obtain ⟨y, hyk, e1⟩ := own_one hownN.out hjn
                  obtain ⟨z, hzk, e2⟩ := own_one hownN.out hlt
                  have hy := Lib.hid (gt_at hyk.out)
                  have hzg := Lib.hid (gt_at hzk.out)
                  have hyb : y ≤ 900200 := by
                    have h1 := HBLN.out t j
                    rw [hy.out] at h1
                    have h2 := depsL_le x.query false
                    have h3 := depsL_le x.query true
                    omega
                  have hfz := hownN.out.frozenAt k
                  have hjq2 : (j : Int) < (n : Int) := by omega
                  have hkq2 : (k : Int) < (n : Int) := by omega
                  have hw : IntKind.i64.wrap ((y : Int) + 1) = ((y + 1 : Nat) : Int) := by simp [IntKind.wrap, IntKind.bits, IntKind.signed]; omega
                  by_cases hc : z < y + 1
                  · have hc2 : (z : Int) < (y : Int) + 1 := by omega
                    have HST := Lib.hid (fun K => store_one (ownsRow_grew hownN.out ((Grew.refl wr).drewN K)) k (y + 1))
                    have HU := Lib.hid (show (rsP xs (rsP xs (rsT xs L k) k (depsL x.query false) 0 q) k (depsL x.query true) 1 t).set k (y + 1) = rsP xs (rsP xs (rsT xs L k) k (depsL x.query false) 0 q) k (depsL x.query true) 1 (t + 1) by rw [rsP_yes hsk.out HP.out, upd_yes (by rw [hy.out, hzg.out]; exact hc), hy.out])
                    clear hc
                    go_wp2_with (go_at_call 103; refine (l11Place _ xs s _ (HD2.out.grew hbel3) (by omega)).mono ?_; rintro e w2 ⟨i2, rfl, hp2, rfl⟩; obtain rfl := plc_some HP.out hp2; clear hp2)
                    go_quiet (fail)
                    go_wp2
                    go_roundw
                    case rel => exact ⟨t + 1, by omega, by go_num, Lib.hid (by rw [← HU.out]; exact HST.out _), (htch.drewN _).setCell (p := ⟨ga, k, none⟩) hga hga3N _⟩
                    case measure => simp [intOf]; omega
                  · have hc2 : ¬ ((z : Int) < (y : Int) + 1) := by omega
                    have HU := Lib.hid (show rsP xs (rsP xs (rsT xs L k) k (depsL x.query false) 0 q) k (depsL x.query true) 1 t = rsP xs (rsP xs (rsT xs L k) k (depsL x.query false) 0 q) k (depsL x.query true) 1 (t + 1) by rw [rsP_yes hsk.out HP.out, upd_no (by rw [hy.out, hzg.out]; exact hc)])
                    clear hc
                    go_wp2_with (go_at_call 103; refine (l11Place _ xs s _ (HD2.out.grew hbel3) (by omega)).mono ?_; rintro e w2 ⟨i2, rfl, hp2, rfl⟩; obtain rfl := plc_some HP.out hp2; clear hp2)
                    go_quiet (fail)
                    go_wp2
                    go_roundw
                    case rel => exact ⟨t + 1, by omega, by go_num, Lib.hid (by rw [← HU.out]; exact ownsRow_grew hownN.out ((Grew.refl _).drewN _)), htch.drewN _⟩
                    case measure => simp [intOf]; omega
              · obtain rfl : r = t := by omega
                go_wp2
                go_roundw
                case rel => exact ⟨k + 1, by omega, by go_num, Lib.hid (by rw [rsT_succ hxk.out HQLP.out HQLN.out]; exact hownN.out), hbel3⟩
                case measure => simp [intOf]; omega
      · obtain rfl : k = n := by omega
        go_wp2
        go_ret
        exact ⟨_, rfl, by have h1 := hown.out; rw [rsT_all] at h1; exact h1, hbel⟩
end Go.Proofs.YtejgpghcahinhaaGreat
