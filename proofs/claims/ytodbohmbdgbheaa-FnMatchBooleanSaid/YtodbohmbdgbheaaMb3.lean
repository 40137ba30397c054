/- Texts Y0, Y1, C5, N4, L1, N2, Y2, Y13, Y12, G2, X1, V5, Z16, as far as they are needed. -/
import Derived.Test.YtodbohmbdgbheaaMb2
import Derived.Test.YtodbohmbdgbheaaMb1
import Derived.StillTailTactics
import Derived.Test.YtodbohmbdgbheaaMb0
import Derived.Laws.OwnMore
namespace Go.Proofs.Ytodbohmbdgbheaa
open Go.RowKit Go.Sort
set_option linter.unusedVariables false
theorem beqB {a b : ByteArray} : (a.toList == b.toList) = true ↔ a = b := by
  rw [ByteArray.toList_eq, ByteArray.toList_eq]
  constructor
  · intro h
    have h1 : dl a = dl b := by simpa using h
    have h2 : mkb (dl a) = mkb (dl b) := by rw [h1]
    simpa only [mkb_dl] using h2
  · rintro rfl; simp
theorem hasB_iff {xs : List ByteArray} {s : ByteArray} : hasB xs s = true ↔ s ∈ xs := by
  unfold hasB
  rw [List.any_eq_true]
  constructor
  · rintro ⟨y, hy, h⟩; rw [beqB.1 h] at hy; exact hy
  · intro h; exact ⟨s, h, beqB.2 rfl⟩
theorem hasB_not {xs : List ByteArray} {s : ByteArray} : hasB xs s = false ↔ ¬ s ∈ xs := by
  rw [← hasB_iff]; simp
inductive Reach (xs : List Dr) (ns : List ByteArray) : ByteArray → Prop
  | base {s : ByteArray} : s ∈ ns → Reach xs ns s
  | step {s : ByteArray} {x : Dr} : Reach xs ns s → x ∈ xs → s ∈ qDirs x.query → Reach xs ns x.name
theorem filt_le {α : Type} {p q : α → Bool} : ∀ {xs : List α}, (∀ x, x ∈ xs → q x = true → p x = true) → (xs.filter q).length ≤ (xs.filter p).length
  | [], _ => by simp
  | y :: ys, h => by
    have ih := filt_le (xs := ys) (fun x hx => h x (List.mem_cons_of_mem _ hx))
    have h0 := h y (List.mem_cons_self ..)
    rw [List.filter_cons, List.filter_cons]
    cases hq : q y with
    | true => rw [h0 hq]; simpa using ih
    | false =>
      cases p y
      · simpa using ih
      · simp; omega
theorem filt_lt {α : Type} {p q : α → Bool} : ∀ {xs : List α}, (∀ x, x ∈ xs → q x = true → p x = true) → ∀ {x : α}, x ∈ xs → p x = true → q x = false → (xs.filter q).length < (xs.filter p).length
  | [], _, x, hx, _, _ => by cases hx
  | y :: ys, h, x, hx, hp, hn => by
    have hr : ∀ x, x ∈ ys → q x = true → p x = true := fun x hx => h x (List.mem_cons_of_mem _ hx)
    rw [List.filter_cons, List.filter_cons]
    rcases List.mem_cons.1 hx with rfl | hx
    · rw [hp, hn]
      have := filt_le hr
      simp; omega
    · have ih := filt_lt hr hx hp hn
      have h0 := h y (List.mem_cons_self ..)
      cases hq : q y with
      | true => rw [h0 hq]; simpa using ih
      | false =>
        cases p y
        · simpa using ih
        · simp; omega
def addN (L : List ByteArray) (s : ByteArray) : List ByteArray := if hasB L s then L else L ++ [s]
theorem addN_yes {L : List ByteArray} {s : ByteArray} (h : hasB L s = true) : addN L s = L := by unfold addN; rw [h]; rfl
theorem addN_no {L : List ByteArray} {s : ByteArray} (h : hasB L s = false) : addN L s = L ++ [s] := by unfold addN; rw [h]; rfl
theorem mem_addN {L : List ByteArray} {s y : ByteArray} : y ∈ addN L s ↔ y ∈ L ∨ y = s := by
  cases h : hasB L s with
  | true =>
    rw [addN_yes h]
    constructor
    · exact .inl
    · rintro (h1 | rfl)
      · exact h1
      · exact hasB_iff.1 h
  | false => rw [addN_no h]; simp
def cntN (xs : List Dr) (L : List ByteArray) : Nat := (xs.filter fun x => !hasB L x.name).length
theorem cnt_add {xs : List Dr} {L : List ByteArray} {x : Dr} (hx : x ∈ xs) : (addN L x.name).length + cntN xs (addN L x.name) ≤ L.length + cntN xs L := by
  cases h : hasB L x.name with
  | true => rw [addN_yes h]; exact Nat.le_refl _
  | false =>
    have h2 : cntN xs (addN L x.name) < cntN xs L := by
      unfold cntN
      refine filt_lt (fun y _ hy => ?_) hx (by simp [h]) (by simp [hasB_iff, mem_addN])
      have h3 : ¬ y.name ∈ addN L x.name := hasB_not.1 (by simpa using hy)
      rw [mem_addN] at h3
      have h4 : hasB L y.name = false := hasB_not.2 fun h => h3 (.inl h)
      rw [h4]; rfl
    rw [addN_no h]
    rw [addN_no h] at h2
    simp; omega
structure Good (xs : List Dr) (ns L : List ByteArray) : Prop where
  snd : ∀ y, y ∈ L → Reach xs ns y
  all : ∀ y, y ∈ ns → y ∈ L
  len : L.length + cntN xs L ≤ ns.length + xs.length
theorem Good.start (xs : List Dr) (ns : List ByteArray) : Good xs ns ns :=
  ⟨fun y h => .base h, fun y h => h, by have : cntN xs ns ≤ xs.length := List.length_filter_le _ _; omega⟩
theorem Good.le {xs : List Dr} {ns L : List ByteArray} (h : Good xs ns L) : L.length ≤ ns.length + xs.length := by have := h.len; omega
theorem Good.add {xs : List Dr} {ns L : List ByteArray} {s : ByteArray} {x : Dr} (h : Good xs ns L) (hx : x ∈ xs) (hs : s ∈ L) (hq : s ∈ qDirs x.query) : Good xs ns (addN L x.name) := by
  refine ⟨fun y hy => ?_, fun y hy => mem_addN.2 (.inl (h.all y hy)), Nat.le_trans (cnt_add hx) h.len⟩
  rcases mem_addN.1 hy with h1 | rfl
  · exact h.snd y h1
  · exact .step (h.snd s hs) hx hq
def turn1 (L : List ByteArray) (x : Dr) : List ByteArray := if (qDirs x.query).any (hasB L) then addN L x.name else L
def pass (xs : List Dr) (L : List ByteArray) : List ByteArray := xs.foldl turn1 L
def passes (xs : List Dr) (ns : List ByteArray) : Nat → List ByteArray
  | 0 => ns
  | r + 1 => pass xs (passes xs ns r)
theorem any_iff {l L : List ByteArray} : l.any (hasB L) = true ↔ ∃ s, s ∈ l ∧ s ∈ L := by
  rw [List.any_eq_true]
  exact ⟨fun ⟨s, h, k⟩ => ⟨s, h, hasB_iff.1 k⟩, fun ⟨s, h, k⟩ => ⟨s, h, hasB_iff.2 k⟩⟩
theorem Good.turn {xs : List Dr} {ns L : List ByteArray} {x : Dr} (h : Good xs ns L) (hx : x ∈ xs) : Good xs ns (turn1 L x) := by
  unfold turn1; split
  · rename_i ha
    obtain ⟨s, hs, hl⟩ := any_iff.1 ha
    exact h.add hx hl hs
  · exact h
theorem Good.fold {xs : List Dr} {ns : List ByteArray} : ∀ (ys : List Dr) {L : List ByteArray}, Good xs ns L → (∀ y, y ∈ ys → y ∈ xs) → Good xs ns (ys.foldl turn1 L)
  | [], L, h, _ => h
  | y :: ys, L, h, hs => Good.fold ys (h.turn (hs y (List.mem_cons_self ..))) (fun z hz => hs z (List.mem_cons_of_mem _ hz))
theorem Good.passes {xs : List Dr} {ns : List ByteArray} : ∀ (r : Nat), Good xs ns (passes xs ns r)
  | 0 => Good.start xs ns
  | r + 1 => Good.fold xs (Good.passes r) (fun _ h => h)
def midL (xs : List Dr) (ns : List ByteArray) (r i : Nat) : List ByteArray := (xs.take i).foldl turn1 (passes xs ns r)
theorem Good.mid {xs : List Dr} {ns : List ByteArray} (r i : Nat) : Good xs ns (midL xs ns r i) := Good.fold _ (Good.passes r) (fun _ h => List.mem_of_mem_take h)
end Go.Proofs.Ytodbohmbdgbheaa
namespace Go.Proofs.Ytodbohmbdgbheaa
open Go.RowKit
set_option linter.unusedVariables false
def gt (L : List Nat) (i : Nat) : Nat := L.getD i 0
theorem gt_at {L : List Nat} {i x : Nat} (h : L[i]? = some x) : gt L i = x := by unfold gt; simp [h]
theorem gt_set_self {L : List Nat} {i x : Nat} (h : i < L.length) : gt (L.set i x) i = x := by unfold gt; simp [h]
theorem gt_set_ne {L : List Nat} {i j x : Nat} (h : i ≠ j) : gt (L.set i x) j = gt L j := by unfold gt; simp [h]
theorem gt_ext {L M : List Nat} (h : L.length = M.length) (hg : ∀ i, i < L.length → gt L i = gt M i) : L = M := by
  apply List.ext_getElem h
  intro i h1 h2
  have := hg i h1
  unfold gt at this
  simpa [h1, h2] using this
abbrev Edges := Nat → List (Nat × Nat)
def SatN (n : Nat) (es : Edges) (M : List Nat) : Prop := ∀ i, i < n → ∀ e, e ∈ es i → gt M e.1 + e.2 ≤ gt M i
def LeN (n : Nat) (L M : List Nat) : Prop := ∀ i, i < n → gt L i ≤ gt M i
theorem LeN.refl (n : Nat) (L : List Nat) : LeN n L L := fun _ _ => Nat.le_refl _
theorem LeN.trans {n : Nat} {L M K : List Nat} (h : LeN n L M) (k : LeN n M K) : LeN n L K := fun i hi => Nat.le_trans (h i hi) (k i hi)
theorem LeN.anti {n : Nat} {L M : List Nat} (h : LeN n L M) (k : LeN n M L) (hl : L.length = n) (hm : M.length = n) : L = M :=
  gt_ext (by omega) (fun i hi => Nat.le_antisymm (h i (by omega)) (k i (by omega)))
def OkE (n : Nat) (es : Edges) : Prop := ∀ i, i < n → ∀ e, e ∈ es i → e.1 < n ∧ e.2 ≤ 1
def LeastN (n : Nat) (es : Edges) (L : List Nat) : Prop := ∀ M, SatN n es M → LeN n L M
theorem gt_map {f : Nat → Nat} (h0 : f 0 = 0) (L : List Nat) (i : Nat) : gt (L.map f) i = f (gt L i) := by
  unfold gt
  by_cases h : i < L.length
  · simp [h]
  · simp [h, h0]
theorem least_lt {n : Nat} {es : Edges} {L : List Nat} (ho : OkE n es) (hs : SatN n es L) (hl : LeastN n es L) : ∀ i, i < n → gt L i < n := by
  intro i hi
  apply Classical.byContradiction
  intro hge
  have key : ∀ m, m ≤ n → ((List.range n).filter fun j => decide (m ≤ gt L j)).length + m ≤ n := by
    intro m
    induction m with
    | zero => intro _; exact Nat.le_trans (List.length_filter_le _ _) (by simp)
    | succ v ih =>
      intro hv
      have h1 := ih (by omega)
      by_cases hex : ∃ j, j < n ∧ gt L j = v
      · obtain ⟨j, hj, hjv⟩ := hex
        have := filt_lt (xs := List.range n) (p := fun j => decide (v ≤ gt L j)) (q := fun j => decide (v + 1 ≤ gt L j)) (fun x _ hx => by simp at hx ⊢; omega) (x := j) (by simpa using hj) (by simp [hjv]) (by simp [hjv])
        omega
      · exfalso
        have hM : SatN n es (L.map fun x => if v < x then x - 1 else x) := by
          intro a ha e he
          have h2 := hs a ha e he
          have h3 := (ho a ha e he).1
          have h4 := (ho a ha e he).2
          have h5 : gt L e.1 ≠ v := fun h => hex ⟨_, h3, h⟩
          rw [gt_map (by simp), gt_map (by simp)]
          split <;> split <;> omega
        have h2 := hl _ hM i hi
        rw [gt_map (by simp)] at h2
        split at h2 <;> omega
  have h1 := key n (Nat.le_refl _)
  have h2 : 0 < ((List.range n).filter fun j => decide (n ≤ gt L j)).length := by
    apply List.length_pos_of_mem (a := i)
    simp only [List.mem_filter, List.mem_range, decide_eq_true_eq]
    exact ⟨hi, by omega⟩
  omega
def upd (i : Nat) (L : List Nat) (e : Nat × Nat) : List Nat := if gt L i < gt L e.1 + e.2 then L.set i (gt L e.1 + e.2) else L
def raise1 (es : Edges) (L : List Nat) (i : Nat) : List Nat := (es i).foldl (upd i) L
def raise (n : Nat) (es : Edges) (L : List Nat) : List Nat := (List.range n).foldl (raise1 es) L
theorem upd_len (i : Nat) (L : List Nat) (e : Nat × Nat) : (upd i L e).length = L.length := by unfold upd; split <;> simp
theorem updF_len (i : Nat) : ∀ (l : List (Nat × Nat)) (L : List Nat), (l.foldl (upd i) L).length = L.length
  | [], L => rfl
  | e :: l, L => by rw [List.foldl_cons, updF_len i l, upd_len]
theorem raiseF_len (es : Edges) : ∀ (l : List Nat) (L : List Nat), (l.foldl (raise1 es) L).length = L.length
  | [], L => rfl
  | i :: l, L => by rw [List.foldl_cons, raiseF_len es l]; exact updF_len i _ L
theorem raise_len (n : Nat) (es : Edges) (L : List Nat) : (raise n es L).length = L.length := raiseF_len es _ L
theorem upd_up (n i : Nat) (L : List Nat) (e : Nat × Nat) : LeN n L (upd i L e) := by
  intro k _
  unfold upd; split
  · by_cases h : i = k
    · subst h
      by_cases hi : i < L.length
      · rw [gt_set_self hi]; omega
      · rw [List.set_eq_of_length_le (by omega)]; exact Nat.le_refl _
    · rw [gt_set_ne h]; exact Nat.le_refl _
  · exact Nat.le_refl _
theorem updF_up (n i : Nat) : ∀ (l : List (Nat × Nat)) (L : List Nat), LeN n L (l.foldl (upd i) L)
  | [], L => LeN.refl n L
  | e :: l, L => (upd_up n i L e).trans (updF_up n i l _)
theorem raiseF_up (n : Nat) (es : Edges) : ∀ (l : List Nat) (L : List Nat), LeN n L (l.foldl (raise1 es) L)
  | [], L => LeN.refl n L
  | i :: l, L => (updF_up n i (es i) L).trans (raiseF_up n es l _)
theorem upd_le {n i : Nat} {L M : List Nat} {e : Nat × Nat} (h : LeN n L M) (h1 : e.1 < n) (h2 : gt M e.1 + e.2 ≤ gt M i) (hl : L.length = n) : LeN n (upd i L e) M := by
  intro k hk
  unfold upd; split
  · by_cases hik : i = k
    · subst hik
      rw [gt_set_self (by omega)]
      have := h _ h1; omega
    · rw [gt_set_ne hik]; exact h k hk
  · exact h k hk
theorem updF_le {n i : Nat} {M : List Nat} : ∀ (l : List (Nat × Nat)) {L : List Nat}, LeN n L M → (∀ e, e ∈ l → e.1 < n ∧ gt M e.1 + e.2 ≤ gt M i) → L.length = n → LeN n (l.foldl (upd i) L) M
  | [], L, h, _, _ => h
  | e :: l, L, h, hs, hl => by
    rw [List.foldl_cons]
    have h1 := hs e (List.mem_cons_self ..)
    exact updF_le l (upd_le h h1.1 h1.2 hl) (fun e he => hs e (List.mem_cons_of_mem _ he)) (by rw [upd_len]; exact hl)
theorem raiseF_le {n : Nat} {es : Edges} {M : List Nat} (ho : OkE n es) (hM : SatN n es M) : ∀ (l : List Nat) {L : List Nat}, LeN n L M → (∀ i, i ∈ l → i < n) → L.length = n → LeN n (l.foldl (raise1 es) L) M
  | [], L, h, _, _ => h
  | i :: l, L, h, hs, hl => by
    rw [List.foldl_cons]
    have hi := hs i (List.mem_cons_self ..)
    exact raiseF_le ho hM l (updF_le (es i) h (fun e he => ⟨(ho i hi e he).1, hM i hi e he⟩) hl) (fun i hi => hs i (List.mem_cons_of_mem _ hi)) (by unfold raise1; rw [updF_len]; exact hl)
theorem raise_le {n : Nat} {es : Edges} {L M : List Nat} (ho : OkE n es) (hM : SatN n es M) (h : LeN n L M) (hl : L.length = n) : LeN n (raise n es L) M :=
  raiseF_le ho hM _ h (fun i hi => by simpa using hi) hl
theorem updF_same {n i : Nat} : ∀ (l : List (Nat × Nat)) {L : List Nat}, L.length = n → LeN n (l.foldl (upd i) L) L → ∀ e, e ∈ l → upd i L e = L
  | [], L, _, _, e, he => by cases he
  | e0 :: l, L, hl, h, e, he => by
    rw [List.foldl_cons] at h
    have h1 : upd i L e0 = L := (LeN.anti (LeN.trans (updF_up n i l _) h) (upd_up n i L e0) (by rw [upd_len]; exact hl) hl)
    rw [h1] at h
    rcases List.mem_cons.1 he with rfl | he
    · exact h1
    · exact updF_same l hl h e he
theorem raiseF_same {n : Nat} {es : Edges} : ∀ (l : List Nat) {L : List Nat}, L.length = n → LeN n (l.foldl (raise1 es) L) L → ∀ i, i ∈ l → ∀ e, e ∈ es i → upd i L e = L
  | [], L, _, _, i, hi, _, _ => by cases hi
  | i0 :: l, L, hl, h, i, hi, e, he => by
    rw [List.foldl_cons] at h
    have h1 : raise1 es L i0 = L := (LeN.anti (LeN.trans (raiseF_up n es l _) h) (updF_up n i0 (es i0) L) (by unfold raise1; rw [updF_len]; exact hl) hl)
    rcases List.mem_cons.1 hi with rfl | hi
    · exact updF_same (es i) hl (by unfold raise1 at h1; rw [h1]; exact LeN.refl n L) e he
    · rw [h1] at h
      exact raiseF_same l hl h i hi e he
theorem sat_of_same {n : Nat} {es : Edges} {L : List Nat} (hl : L.length = n) (h : raise n es L = L) : SatN n es L := by
  intro i hi e he
  have h1 := raiseF_same (List.range n) hl (by show LeN n (raise n es L) L; rw [h]; exact LeN.refl n L) i (by simpa using hi) e he
  unfold upd at h1
  split at h1
  · rename_i hlt
    have h2 : gt (L.set i (gt L e.1 + e.2)) i = gt L i := by rw [h1]
    rw [gt_set_self (by omega)] at h2
    omega
  · omega
def sumN : List Nat → Nat
  | [] => 0
  | x :: xs => x + sumN xs
theorem sum_le : ∀ {L M : List Nat}, L.length = M.length → (∀ i, i < L.length → gt L i ≤ gt M i) → sumN L ≤ sumN M ∧ (sumN L = sumN M → L = M)
  | [], [], _, _ => ⟨Nat.le_refl _, fun _ => rfl⟩
  | [], y :: ys, h, _ => by simp at h
  | x :: xs, [], h, _ => by simp at h
  | x :: xs, y :: ys, h, hg => by
    have ih := sum_le (L := xs) (M := ys) (by simpa using h) (fun i hi => by have := hg (i + 1) (by simpa using hi); simpa [gt] using this)
    have h0 := hg 0 (by simp)
    simp [gt] at h0
    unfold sumN
    refine ⟨by omega, fun h => ?_⟩
    have h1 : sumN xs = sumN ys := by omega
    have h2 : x = y := by omega
    rw [ih.2 h1, h2]
theorem sum_bound {n b : Nat} : ∀ {L : List Nat}, (∀ x, x ∈ L → x ≤ b) → L.length = n → sumN L ≤ n * b := by
  intro L
  induction L generalizing n with
  | nil => intro _ _; simp [sumN]
  | cons x xs ih =>
    intro h hl
    obtain ⟨m, rfl⟩ : ∃ m, n = m + 1 := ⟨xs.length, by simpa using hl.symm⟩
    have := ih (n := m) (fun y hy => h y (List.mem_cons_of_mem _ hy)) (by simpa using hl)
    have h0 := h x (List.mem_cons_self ..)
    unfold sumN; rw [Nat.succ_mul]; omega
def iter (n : Nat) (es : Edges) : Nat → List Nat
  | 0 => List.replicate n 0
  | r + 1 => raise n es (iter n es r)
theorem iter_len (n : Nat) (es : Edges) : ∀ r, (iter n es r).length = n
  | 0 => by simp [iter]
  | r + 1 => by unfold iter; rw [raise_len]; exact iter_len n es r
theorem zero_le (n : Nat) (M : List Nat) : LeN n (List.replicate n 0) M := by
  intro i hi
  have : gt (List.replicate n 0) i = 0 := by unfold gt; simp [hi]
  omega
theorem iter_le {n : Nat} {es : Edges} {M : List Nat} (ho : OkE n es) (hM : SatN n es M) : ∀ r, LeN n (iter n es r) M
  | 0 => zero_le n M
  | r + 1 => raise_le ho hM (iter_le ho hM r) (iter_len n es r)
theorem iter_or (n : Nat) (es : Edges) : ∀ r, raise n es (iter n es r) = iter n es r ∨ r ≤ sumN (iter n es r)
  | 0 => .inr (Nat.zero_le _)
  | r + 1 => by
    by_cases hs : raise n es (iter n es r) = iter n es r
    · left; unfold iter; rw [hs, hs]
    · right
      rcases iter_or n es r with h | h
      · exact absurd h hs
      · have h1 := sum_le (L := iter n es r) (M := raise n es (iter n es r)) (by rw [raise_len]) (fun i hi => raiseF_up n es _ _ i (by rw [iter_len] at hi; exact hi))
        have h2 : sumN (iter n es r) ≠ sumN (raise n es (iter n es r)) := fun h => hs (h1.2 h).symm
        show r + 1 ≤ sumN (raise n es (iter n es r))
        omega
theorem mem_gt {L : List Nat} {x : Nat} (h : x ∈ L) : ∃ i, i < L.length ∧ gt L i = x := by
  obtain ⟨i, hi, rfl⟩ := List.getElem_of_mem h
  exact ⟨i, hi, gt_at (List.getElem?_eq_getElem hi)⟩
theorem iter_rest {n : Nat} {es : Edges} {M : List Nat} (ho : OkE n es) (hM : SatN n es M) (hl : M.length = n) : raise n es (iter n es (n * n + 2)) = iter n es (n * n + 2) := by
  have hsum : ∀ K, SatN n es K → K.length = n → ∀ r, sumN (iter n es r) ≤ sumN K := fun K hK hk r =>
    (sum_le (by rw [iter_len, hk]) (fun i hi => iter_le ho hK r i (by rw [iter_len] at hi; exact hi))).1
  have h1 : raise n es (iter n es (sumN M + 1)) = iter n es (sumN M + 1) := by
    rcases iter_or n es (sumN M + 1) with h | h
    · exact h
    · have := hsum M hM hl (sumN M + 1); omega
  have h2 := sat_of_same (iter_len n es _) h1
  have h3 : ∀ i, i < n → gt (iter n es (sumN M + 1)) i < n := least_lt ho h2 (fun K hK => iter_le ho hK _)
  have h4 : sumN (iter n es (sumN M + 1)) ≤ n * n := sum_bound (fun x hx => by
    obtain ⟨i, hi, rfl⟩ := mem_gt hx
    exact Nat.le_of_lt (h3 i (by rw [iter_len] at hi; exact hi))) (iter_len n es _)
  rcases iter_or n es (n * n + 2) with h | h
  · exact h
  · have := hsum _ h2 (iter_len n es _) (n * n + 2); omega
def strL (n : Nat) (es : Edges) : List Nat := iter n es (n * n + 2)
def strB (n : Nat) (es : Edges) : Bool := decide (raise n es (strL n es) = strL n es)
theorem strL_len (n : Nat) (es : Edges) : (strL n es).length = n := iter_len n es _
theorem strB_sat {n : Nat} {es : Edges} (h : strB n es = true) : SatN n es (strL n es) := by
  unfold strB at h; exact sat_of_same (strL_len n es) (by simpa using h)
theorem strB_least {n : Nat} {es : Edges} (ho : OkE n es) : LeastN n es (strL n es) := fun M hM => iter_le ho hM _
theorem strB_of {n : Nat} {es : Edges} {M : List Nat} (ho : OkE n es) (hM : SatN n es M) (hl : M.length = n) : strB n es = true := by
  unfold strB; simp only [decide_eq_true_eq]; exact iter_rest ho hM hl
def abv (L : List Nat) (l : List (Nat × Nat)) : Nat := l.foldl (fun m e => max m (gt L e.1 + e.2)) 0
theorem abvF (L : List Nat) : ∀ (l : List (Nat × Nat)) (m : Nat), m ≤ l.foldl (fun m e => max m (gt L e.1 + e.2)) m ∧ (∀ e, e ∈ l → gt L e.1 + e.2 ≤ l.foldl (fun m e => max m (gt L e.1 + e.2)) m) ∧ (l.foldl (fun m e => max m (gt L e.1 + e.2)) m = m ∨ ∃ e, e ∈ l ∧ l.foldl (fun m e => max m (gt L e.1 + e.2)) m = gt L e.1 + e.2)
  | [], m => ⟨Nat.le_refl _, fun e h => by simp at h, .inl rfl⟩
  | e :: l, m => by
    obtain ⟨h1, h2, h3⟩ := abvF L l (max m (gt L e.1 + e.2))
    rw [List.foldl_cons]
    refine ⟨by omega, fun e' he => ?_, ?_⟩
    · rcases List.mem_cons.1 he with rfl | he
      · omega
      · exact h2 e' he
    · rcases h3 with h3 | ⟨e', he, h3⟩
      · rw [h3]
        rcases Nat.le_total m (gt L e.1 + e.2) with h | h
        · right; exact ⟨e, List.mem_cons_self .., by omega⟩
        · left; omega
      · right; exact ⟨e', List.mem_cons_of_mem _ he, h3⟩
theorem abv_ge {L : List Nat} {l : List (Nat × Nat)} {e : Nat × Nat} (h : e ∈ l) : gt L e.1 + e.2 ≤ abv L l := (abvF L l 0).2.1 e h
def lst (L : List Nat) (p q : List (Nat × Nat)) : Nat := max (abv L p) (abv L q)
structure Way (n : Nat) (es : Edges) (L : List Nat) : Prop where
  len : L.length = n
  top : ∀ i, i < n → gt L i ≤ n
  least : LeastN n es L
theorem Way.start (n : Nat) (es : Edges) : Way n es (List.replicate n 0) := ⟨by simp, fun i hi => by unfold gt; simp [hi], fun M _ => zero_le n M⟩
def MetTo (es : Edges) (L : List Nat) (k : Nat) : Prop := ∀ i, i < k → ∀ e, e ∈ es i → gt L e.1 + e.2 ≤ gt L i
theorem MetTo.start (es : Edges) (L : List Nat) : MetTo es L 0 := fun i h => absurd h (Nat.not_lt_zero i)
theorem MetTo.succ {es : Edges} {L : List Nat} {k : Nat} (h : MetTo es L k) {p q : List (Nat × Nat)} (he : es k = p ++ q) (hg : lst L p q ≤ gt L k) : MetTo es L (k + 1) := by
  intro i hi e h1
  rcases Nat.lt_succ_iff_lt_or_eq.1 hi with h2 | rfl
  · exact h i h2 e h1
  · rw [he] at h1
    unfold lst at hg
    rcases List.mem_append.1 h1 with h2 | h2
    · have := abv_ge (L := L) h2; omega
    · have := abv_ge (L := L) h2; omega
theorem Way.done {n : Nat} {es : Edges} {L : List Nat} (ho : OkE n es) (h : Way n es L) (hm : MetTo es L n) : strB n es = true ∧ L = strL n es := by
  have h1 := strB_of ho hm h.len
  exact ⟨h1, LeN.anti (h.least _ (strB_sat h1)) (strB_least ho L hm) h.len (strL_len n es)⟩
end Go.Proofs.Ytodbohmbdgbheaa
namespace Go.Proofs.Ytodbohmbdgbheaa
open Go.RowKit
set_option linter.unusedVariables false
noncomputable def qryAt (xs : List N) (i : Nat) (x : N) : Bool := nodB x i (wrap64 ((i : Int) - 1)) && (decide (xs.length ≤ i + 1) || refs xs i == 1)
theorem qryAt_eq {xs : List N} {i : Nat} {x : N} {b : Bool} {r : Int} (h : b = nodB x i (wrap64 ((i : Int) - 1))) (h2 : r = refs xs i) : qryAt xs i x = (b && (decide (xs.length ≤ i + 1) || r == 1)) := by
  subst h; subst h2; rfl
theorem qry_ex (xs : List N) : ∃ b : Bool, b = true ↔ ∀ (i : Nat) x, xs[i]? = some x → qryAt xs i x = true := by
  cases Classical.em (∀ (i : Nat) x, xs[i]? = some x → qryAt xs i x = true) with
  | inl h => exact ⟨true, ⟨fun _ => h, fun _ => rfl⟩⟩
  | inr h => exact ⟨false, ⟨fun e => Bool.noConfusion e, fun e => absurd e h⟩⟩
noncomputable def qryB (xs : List N) : Bool := (qry_ex xs).choose && inB xs.length 1 9
theorem qryB_no {xs : List N} {i : Nat} {x : N} (h : xs[i]? = some x) (hn : qryAt xs i x = false) : qryB xs = false := by
  have h1 := (qry_ex xs).choose_spec
  unfold qryB
  cases hc : (qry_ex xs).choose with
  | false => rfl
  | true => rw [h1.1 hc i x h] at hn; cases hn
theorem qryB_yes {xs : List N} (h : ∀ (i : Nat) x, i < xs.length → xs[i]? = some x → qryAt xs i x = true) : qryB xs = inB xs.length 1 9 := by
  have h1 := (qry_ex xs).choose_spec
  unfold qryB
  rw [h1.2 (fun i x hx => h i x (List.getElem?_eq_some_iff.1 hx).1 hx)]; rfl
theorem small_sz {xs : List N} {x : N} {i : Nat} (hz : szAll N.sz xs ≤ 4000000) (h : xs[i]? = some x) : x.name.size ≤ 4000000 ∧ x.val.str.size ≤ 4000000 := by
  have h1 := mem_szAll (f := N.sz) (List.mem_of_getElem? h)
  unfold N.sz V.sz at h1
  unfold N.sz V.sz at hz
  constructor <;> omega
set_option maxRecDepth 100000 in
set_option maxHeartbeats 4000000 in
theorem specIsValidQuery (va : Value) (n : Nat) (xs : List N) (w : World) (ha : Rd w va 7 n (rows N.c xs)) (hx : n ≤ 4000000) (hz : szAll N.sz xs ≤ 4000000) :
    Calls Try.prog 14 #[va] w fun e w' => e = .returned (.bool (qryB xs)) ∧ Grew w w' := by
  have HR := Lib.hid ha
  obtain ⟨a, ca, rfl, hca, hra⟩ := ha
  have HX := Lib.hid (hra.len_rows N.len (by decide))
  have HZ := Lib.hid hz
  clear hz
  go_enter Try.func14, Try.ntmps14
  go_wp2
  go_loopw [3] (fun i wr => ∃ k : Nat, k ≤ n ∧ i = .int .i64 k ∧ Hid (∀ j y, j < k → xs[j]? = some y → qryAt xs j y = true) ∧ Grew w wr) (fun i _ => n - (intOf i).toNat)
  case atStart => exact ⟨0, Nat.zero_le _, rfl, Lib.hid (fun j y h => absurd h (Nat.not_lt_zero j)), Grew.refl _⟩
  case round =>
    obtain ⟨k, hk, rfl, hall, hbel⟩ := hrel
    by_cases hlt : k < n
    · have hr2 := hra.grew hbel
      obtain ⟨b1, o1, x, rfl, hxk, c0, c1, c2, c3, c4, c5, c6⟩ := hr2.getN hlt
      have hsz := small_sz HZ.out hxk.out
      obtain ⟨hs1, hs2⟩ := hsz
      obtain ⟨nb, hnb⟩ : ∃ b, b = nodB x k (wrap64 ((k : Int) - 1)) := ⟨_, rfl⟩
      obtain ⟨r, hr⟩ : ∃ r, r = refs xs k := ⟨_, rfl⟩
      have hq := qryAt_eq hnb hr
      rw [HX.out] at hq
      have HQ := Lib.hid hq
      have HN := Lib.hid hnb
      have HC := Lib.hid hr
      clear hq hnb hr
      have hcs : nb = false ∨ (nb = true ∧ ¬ (k + 1 < n)) ∨ (nb = true ∧ k + 1 < n ∧ ((r = 1) ∨ (r == 1) = false)) := by
        cases nb
        · exact .inl rfl
        · by_cases h1 : k + 1 < n
          · refine .inr (.inr ⟨rfl, h1, ?_⟩); by_cases h2 : r = 1
            · exact .inl h2
            · exact .inr (by simp [h2])
          · exact .inr (.inl ⟨rfl, h1⟩)
      rcases hcs with rfl | ⟨rfl, hk1⟩ | ⟨rfl, hk1, rfl | hr1⟩
      all_goals
        go_wp2_with (first | (go_at_call 27; refine (specIsValidNode x (k : Int) _ hs1 hs2).mono ?_; rintro e w1 ⟨he, hb⟩; rw [← HN.out] at he; subst he; obtain ⟨hc, hf⟩ := hb.cells) | (go_at_call 28; refine (specCountReferences _ n xs (k : Int) _ ⟨_, ca, rfl, hca, hra.grew (hbel.trans hb)⟩ hx).mono ?_; rintro e w2 ⟨he, hb2⟩; rw [← HC.out] at he; subst he; obtain ⟨hc2, hf2⟩ := hb2.cells))
      all_goals first | go_ret | go_roundw
      all_goals first
        | (refine ⟨ret_bool ?_, by first | exact hbel.trans hb | exact (hbel.trans hb).trans hb2⟩
           exact (qryB_no hxk.out (by rw [HQ.out]; simp [*])).symm)
        | (refine ⟨k + 1, by omega, by go_num, Lib.hid ?_, by first | exact hbel.trans hb | exact (hbel.trans hb).trans hb2⟩
           intro j y hj hy
           rcases Nat.lt_succ_iff_lt_or_eq.1 hj with h | rfl
           · exact hall.out j y h hy
           · obtain rfl := Option.some.inj (hxk.out.symm.trans hy)
             rw [HQ.out]; simp; try omega)
        | (simp [intOf]; omega)
    · obtain rfl : k = n := by omega
      have hy := qryB_yes (xs := xs) (fun j y h h2 => hall.out j y (by rw [← HX.out]; exact h) h2)
      go_wp2_with (go_at_call 25; refine (l01In _ 1 9 _).mono ?_; rintro e w' ⟨rfl, rfl⟩)
      go_ret
      exact ⟨ret_bool (by rw [hy, HX.out]), hbel⟩
set_option maxRecDepth 100000 in
set_option maxHeartbeats 4000000 in
theorem implIsValidQuery (va : Value) (n : Nat) (xs : List N) (w : World) (ha : Rd w va 7 n (rows N.c xs)) (hx : n ≤ 4000000) (hz : szAll N.sz xs ≤ 4000000) :
    Calls Try.prog 20 #[va] w fun e w' => e = .returned (.bool (qryB xs)) ∧ Grew w w' := by
  have HR := Lib.hid ha
  obtain ⟨a, ca, rfl, hca, hra⟩ := ha
  have HX := Lib.hid (hra.len_rows N.len (by decide))
  have HZ := Lib.hid hz
  clear hz
  go_enter Try.func20, Try.ntmps20
  go_wp2
  go_loopw [3, 7] (fun _ i wr => ∃ k : Nat, k ≤ n ∧ i = .int .i64 k ∧ Hid (∀ j y, j < k → xs[j]? = some y → qryAt xs j y = true) ∧ Grew w wr) (fun _ i _ => n - (intOf i).toNat)
  case atStart => exact ⟨0, Nat.zero_le _, rfl, Lib.hid (fun j y h => absurd h (Nat.not_lt_zero j)), Grew.refl _⟩
  case round =>
    obtain ⟨k, hk, rfl, hall, hbel⟩ := hrel
    by_cases hlt : k < n
    · have hr2 := hra.grew hbel
      obtain ⟨b1, o1, x, rfl, hxk, c0, c1, c2, c3, c4, c5, c6⟩ := hr2.getN hlt
      have hsz := small_sz HZ.out hxk.out
      obtain ⟨hs1, hs2⟩ := hsz
      obtain ⟨nb, hnb⟩ : ∃ b, b = nodB x k (wrap64 ((k : Int) - 1)) := ⟨_, rfl⟩
      obtain ⟨r, hr⟩ : ∃ r, r = refs xs k := ⟨_, rfl⟩
      have hq := qryAt_eq hnb hr
      rw [HX.out] at hq
      have HQ := Lib.hid hq
      have HN := Lib.hid hnb
      have HC := Lib.hid hr
      clear hq hnb hr
      have hcs : nb = false ∨ (nb = true ∧ ¬ (k + 1 < n)) ∨ (nb = true ∧ k + 1 < n ∧ ((r = 1) ∨ (r == 1) = false)) := by
        cases nb
        · exact .inl rfl
        · by_cases h1 : k + 1 < n
          · refine .inr (.inr ⟨rfl, h1, ?_⟩); by_cases h2 : r = 1
            · exact .inl h2
            · exact .inr (by simp [h2])
          · exact .inr (.inl ⟨rfl, h1⟩)
      rcases hcs with rfl | ⟨rfl, hk1⟩ | ⟨rfl, hk1, rfl | hr1⟩
      all_goals
        go_wp2_with (first | (go_at_call 43; refine (implIsValidNode x (k : Int) _ hs1 hs2).mono ?_; rintro e w1 ⟨he, hb⟩; rw [← HN.out] at he; subst he; obtain ⟨hc, hf⟩ := hb.cells) | (go_at_call 44; refine (implCountReferences _ n xs (k : Int) _ ⟨_, ca, rfl, hca, hra.grew ((hbel.alloc _).trans hb)⟩ hx).mono ?_; rintro e w2 ⟨he, hb2⟩; rw [← HC.out] at he; subst he; obtain ⟨hc2, hf2⟩ := hb2.cells))
      all_goals first | go_ret | go_roundw
      all_goals first
        | (refine ⟨ret_bool ?_, by first | exact (hbel.alloc _).trans hb | exact ((hbel.alloc _).trans hb).trans hb2⟩
           exact (qryB_no hxk.out (by rw [HQ.out]; simp [*])).symm)
        | (refine ⟨k + 1, by omega, by go_num, Lib.hid ?_, by first | exact (hbel.alloc _).trans hb | exact ((hbel.alloc _).trans hb).trans hb2⟩
           intro j y hj hy
           rcases Nat.lt_succ_iff_lt_or_eq.1 hj with h | rfl
           · exact hall.out j y h hy
           · obtain rfl := Option.some.inj (hxk.out.symm.trans hy)
             rw [HQ.out]; simp; try omega)
        | (simp [intOf]; omega)
    · obtain rfl : k = n := by omega
      have hy := qryB_yes (xs := xs) (fun j y h h2 => hall.out j y (by rw [← HX.out]; exact h) h2)
      go_wp2_with (go_at_call 45; refine (within _ 1 9 _).mono ?_; rintro e w' ⟨rfl, rfl⟩)
      go_ret
      exact ⟨ret_bool (by rw [hy, HX.out]), hbel⟩
end Go.Proofs.Ytodbohmbdgbheaa
namespace Go.Proofs.Ytodbohmbdgbheaa
open Go.RowKit
set_option linter.unusedVariables false
theorem qry_node {xs : List N} {p : Nat} {x : N} (h : qryB xs = true) (hx : xs[p]? = some x) : nodB x p (wrap64 ((p : Int) - 1)) = true := by
  have h1 := (qry_ex xs).choose_spec
  unfold qryB at h
  simp only [Bool.and_eq_true] at h
  have h2 := h1.1 h.1 p x hx
  unfold qryAt at h2
  simp only [Bool.and_eq_true] at h2
  exact h2.1
theorem in_kid {l : Int} {p : Nat} (hp : p < 4000000) (h : inB l 0 (wrap64 ((p : Int) - 1)) = true) : ∃ j : Nat, l = j ∧ j < p := by
  rw [show wrap64 ((p : Int) - 1) = (p : Int) - 1 by unfold wrap64; omega] at h
  simp only [inB, Bool.and_eq_true, decide_eq_true_eq] at h
  exact ⟨l.toNat, by omega, by omega⟩
theorem nod5 {l r : Int} {nm : ByteArray} {v : V} {p : Nat} (hp : p < 4000000) (h : nodB ⟨5, l, r, nm, v⟩ p (wrap64 ((p : Int) - 1)) = true) : ∃ j : Nat, l = j ∧ j < p := by
  unfold nodB at h
  simp at h
  exact in_kid hp h.1.1
theorem nod67 {op l r : Int} {nm : ByteArray} {v : V} {p : Nat} (ho : op = 6 ∨ op = 7) (hp : p < 4000000) (h : nodB ⟨op, l, r, nm, v⟩ p (wrap64 ((p : Int) - 1)) = true) : ∃ j i : Nat, l = j ∧ r = i ∧ j < p ∧ i < p := by
  unfold nodB at h
  rcases ho with rfl | rfl
  all_goals
    simp at h
    obtain ⟨j, h1, h2⟩ := in_kid hp h.1.1
    obtain ⟨i, h3, h4⟩ := in_kid hp h.2.1
    exact ⟨j, i, h1, h3, h2, h4⟩
end Go.Proofs.Ytodbohmbdgbheaa
namespace Go.Proofs.Ytodbohmbdgbheaa
open Go.RowKit Go.Sort
set_option linter.unusedVariables false
end Go.Proofs.Ytodbohmbdgbheaa
namespace Go.Proofs.Ytodbohmbdgbheaa
open Go.RowKit
set_option linter.unusedVariables false
end Go.Proofs.Ytodbohmbdgbheaa
namespace Go.Proofs.Ytodbohmbdgbheaa
open Go.RowKit Go.Sort
set_option linter.unusedVariables false
end Go.Proofs.Ytodbohmbdgbheaa
namespace Go.Proofs.Ytodbohmbdgbheaa
open Go.RowKit Go.Sort
set_option linter.unusedVariables false
end Go.Proofs.Ytodbohmbdgbheaa
namespace Go.Proofs.Ytodbohmbdgbheaa
open Go.RowKit Go.Sort
set_option linter.unusedVariables false
theorem eq_dl {a b : ByteArray} : (a.toList == b.toList) = true ↔ dl a = dl b := by
  rw [same_iff a b true]; simp
theorem ne_dl {a b : ByteArray} : (a.toList == b.toList) = false ↔ dl a ≠ dl b := by
  rw [same_iff a b false]; simp
def setN (x : Dr) : List Dr → List Dr
  | [] => [x]
  | d :: ds => if d.name.toList == x.name.toList then x :: ds else if Op.bytesLess x.name.toList d.name.toList then x :: d :: ds else d :: setN x ds
end Go.Proofs.Ytodbohmbdgbheaa
namespace Go.Proofs.Ytodbohmbdgbheaa
section
variable {P : Program} {md : Region.Mode} {ops : Array Oper} {Q : Exit → Act → World → Prop} {S : World → Prop} {T : Nat}
def wpT (P : Program) (md : Region.Mode) (ops : Array Oper) (Q : Exit → Act → World → Prop) (T : Nat) (S : World → Prop) : Nat → Array Bool → Act → World → Prop
  | 0, L, a, w => Region.ready md ops L = [] ∧ Q .normal a w
  | n + 1, L, a, w => (Region.ready md ops L = [] → Q .normal a w) ∧ ∀ i ∈ Region.ready md ops L, wpOp P ops Q i (fun a' w' => ((L.setIfInBounds i true).getD T false = true ∨ S w') ∧ wpT P md ops Q T S n (L.setIfInBounds i true) a' w') a w
theorem wpT_any : ∀ (n : Nat) (L : Array Bool) (a : Act) (w : World), wpT P md ops Q T S n L a w → wpAny P md ops Q n L a w
  | 0, _, _, _, h => h
  | n + 1, _, _, _, h => ⟨h.1, fun i hi => wpOp_mono (fun _ _ k => wpT_any n _ _ _ k.2) (h.2 i hi)⟩
def waits (md : Region.Mode) (ops : Array Oper) (L : Array Bool) : Nat → List Nat → Bool
  | _, [] => true
  | x, c :: cs => (!L.getD c false) && (match ops[c]? with | some o => o.after.any fun e => Region.binds md e && e.on == x | none => false) && waits md ops L c cs
theorem not_ready {L : Array Bool} : ∀ {cs : List Nat} {x : Nat}, waits md ops L x cs = true → L.getD x false = false → ∀ c, c ∈ cs → c ∉ Region.ready md ops L
  | [], _, _, _, c, hc, _ => by cases hc
  | d :: cs, x, h, hx, c, hc, hr => by
    unfold waits at h
    simp only [Bool.and_eq_true, Bool.not_eq_true'] at h
    obtain ⟨⟨h1, h2⟩, h3⟩ := h
    rcases List.mem_cons.1 hc with rfl | hc
    · obtain ⟨_, o, ho, hall⟩ := mem_ready.1 hr
      rw [ho] at h2
      simp only [Array.any_eq_true] at h2
      obtain ⟨j, hj, he⟩ := h2
      simp only [Bool.and_eq_true, beq_iff_eq] at he
      have h4 := hall _ (Array.getElem_mem hj) he.1
      rw [he.2, hx] at h4
      cases h4
    · exact not_ready h3 h1 c hc hr
theorem waits_set {L : Array Bool} {j : Nat} : ∀ {cs : List Nat} {x : Nat}, waits md ops L x cs = true → j ∉ cs → waits md ops (L.setIfInBounds j true) x cs = true
  | [], _, _, _ => rfl
  | d :: cs, x, h, hj => by
    unfold waits at h ⊢
    simp only [Bool.and_eq_true] at h ⊢
    have hne : j ≠ d := fun e => hj (by rw [e]; exact List.mem_cons_self ..)
    exact ⟨⟨by rw [getD_set_ne false hne]; exact h.1.1, h.1.2⟩, waits_set h.2 fun k => hj (List.mem_cons_of_mem _ k)⟩
theorem waits_off {L : Array Bool} : ∀ {cs : List Nat} {x : Nat}, waits md ops L x cs = true → ∀ c, c ∈ cs → L.getD c false = false
  | [], _, _, c, hc => by cases hc
  | d :: cs, x, h, c, hc => by
    unfold waits at h
    simp only [Bool.and_eq_true, Bool.not_eq_true'] at h
    rcases List.mem_cons.1 hc with rfl | hc
    · exact h.1.1
    · exact waits_off h.2 c hc
theorem off_of_ready {L : Array Bool} {i : Nat} (h : i ∈ Region.ready md ops L) : L.getD i false = false := by
  have h1 := (mem_ready.1 h).1
  rcases Nat.lt_or_ge i L.size with h2 | h2
  · simp [h2] at h1 ⊢; exact h1
  · simp [Array.getElem?_eq_none h2] at h1
theorem takeT {i : Nat} {oi : Oper} {v : Value} {X : World → Prop} {cs : List Nat} (hi : ops[i]? = some oi) (hsel : ∀ (j : Nat) (o : Oper) k b, ops[j]? = some o → o.op ≠ .select k b)
    (hQ : ∀ c a w, Q (.panic c) (a.put oi.dst v) w → Q (.panic c) a w) (hiT : i ≠ T) (hX : (∀ w, X w) ∨ ((∀ w, S w → X w) ∧ T ∈ cs)) :
    ∀ (n : Nat) (L : Array Bool) (a : Act) (w : World),
      (∀ j oj, ops[j]? = some oj → j ≠ i → L.getD j true = false → (∀ e ∈ oj.after, Region.binds md e = true → e.on ≠ i) → oi.apart ops oj = true) →
      i ∈ Region.ready md ops L → ((∀ w, X w) ∨ waits md ops L i cs = true) → YieldsIf P ops X oi v a → X w → (L.getD T false = true ∨ S w) →
      wpT P md ops Q T S n (L.setIfInBounds i true) (a.put oi.dst v) w → wpT P md ops Q T S (n + 1) L a w := by
  intro n
  induction n with
  | zero =>
    intro L a w _ hr _ hy hx hS H
    refine ⟨fun h => (by rw [h] at hr; cases hr), fun j hj => ?_⟩
    by_cases hji : j = i
    · subst hji
      exact hy.wpOp hi hx ⟨by rw [getD_set_ne false hiT]; exact hS, H⟩
    · have := ready_mono hj hji
      rw [H.1] at this
      cases this
  | succ n ih =>
    intro L a w hfree hr hch hy hx hS H
    refine ⟨fun h => (by rw [h] at hr; cases hr), fun j hj => ?_⟩
    by_cases hji : j = i
    · subst hji
      exact hy.wpOp hi hx ⟨by rw [getD_set_ne false hiT]; exact hS, H⟩
    · obtain ⟨hjun, oj, hoj, hall⟩ := mem_ready.1 hj
      have hno : ∀ e ∈ oj.after, Region.binds md e = true → e.on ≠ i := fun e he hb heq => by
        have k1 := hall e he hb
        rw [heq, off_of_ready hr] at k1
        cases k1
      have hput := wpOp_putIf hoj (hfree j oj hoj hji hjun hno) (fun k b => hsel i oi k b hi) (fun k b => hsel j oj k b hoj) hQ hy (H.2 j (ready_mono hj hji))
      have hoff := off_of_ready hr
      refine wpOp_mono (fun a' w' h3 => ?_) hput
      obtain ⟨hy', hc', H'⟩ := h3
      rw [Array.setIfInBounds_comm _ _ (Ne.symm hji), getD_set_ne false hiT] at hc'
      have hx' : X w' := by
        rcases hX with h | ⟨h, hT⟩
        · exact h w'
        · rcases hch with h5 | h5
          · exact h5 w'
          · rcases hc' with h6 | h6
            · have hjT : j ≠ T := fun e => not_ready h5 hoff T hT (by rw [← e]; exact hj)
              rw [getD_set_ne false hjT, waits_off h5 T hT] at h6
              cases h6
            · exact h w' h6
      have hch' : (∀ w, X w) ∨ waits md ops (L.setIfInBounds j true) i cs = true := by
        rcases hch with h5 | h5
        · exact .inl h5
        · exact .inr (waits_set h5 fun hm => not_ready h5 hoff j hm hj)
      have hfree' : ∀ k ok, ops[k]? = some ok → k ≠ i → (L.setIfInBounds j true).getD k true = false → (∀ e ∈ ok.after, Region.binds md e = true → e.on ≠ i) → oi.apart ops ok = true := fun k ok hk hki hun hn => by
        refine hfree k ok hk hki ?_ hn
        by_cases hjk : j = k
        · subst hjk; exact hjun
        · rw [getD_set_ne true hjk] at hun; exact hun
      refine ⟨hc', ih _ a' w' hfree' (ready_mono hr (Ne.symm hji)) hch' hy' hx' hc' ?_⟩
      rw [Array.setIfInBounds_comm _ _ hji]
      exact H'
theorem wp_region_T {id : Nat} {a : Act} {w : World} (T : Nat) (S : World → Prop) (hm : P.follows .mixedOrders = true) (hS : S w.drew)
    (h : (((Array.replicate ops.size false).getD T false = true) ∨ S w.drew) → wpT P .any ops Q T S ops.size (Array.replicate ops.size false) a w.drew) : (Code.region id ops true).wp P Q a w :=
  wp_region_any hm (wpT_any _ _ _ _ (h (.inr hS)))
theorem tkT (i : Nat) (cs : List Nat) {oi : Oper} {rs : List Oper} {v : Value} {n : Nat} {L L' : Array Bool} {a a' : Act} {w : World} (hS : S w)
    (h : wpT P md ops (NoPanic Q) T S n L' a' w)
    (hi : ops.toList.drop i = oi :: rs := by rfl)
    (hc : (Region.noSelect ops && (Region.free md ops L i && (Region.ready md ops L).contains i)) = true := by kernel_rfl)
    (hch : (waits md ops L i cs && (cs.contains T && !(i == T))) = true := by kernel_rfl)
    (hw : Region.wanted oi (yielded ops a.tmps) = true := by rfl)
    (hy : ∀ w, S w → (execOp a.eval oi).run P w = .ok (.value v) w := by (intro w' hSw; (try dsimp only at hSw); go_simp <;> (with_reducible rfl)))
    (hl : L.setIfInBounds i true = L' := by ((try simp only [lpa, lpb, lpc]) <;> rfl))
    (ha : a.put oi.dst v = a' := by ((try simp only [Act.put, lpa, lpb, lpc]) <;> rfl)) :
    wpT P md ops (NoPanic Q) T S (n + 1) L a w := by
  subst hl; subst ha
  have h3 := chk3 hch
  exact takeT (X := S) (cs := cs) (at_of_drop hi) (Region.noSelect_spec (chk3 hc).1) (fun _ _ _ h => h) (by have := h3.2.2; simpa using this) (.inr ⟨fun _ h => h, by have := h3.2.1; simpa using this⟩) n L a w (Region.free_spec (at_of_drop hi) (chk3 hc).2.1) (by have := (chk3 hc).2.2; simpa using this) (.inr h3.1) (.inl ⟨hw, hy⟩) hS (.inr hS) h
theorem tkP (i : Nat) {oi : Oper} {rs : List Oper} {v : Value} {n : Nat} {L L' : Array Bool} {a a' : Act} {w : World} (hS : L.getD T false = true ∨ S w)
    (h : wpT P md ops (NoPanic Q) T S n L' a' w)
    (hi : ops.toList.drop i = oi :: rs := by rfl)
    (hc : (Region.noSelect ops && (Region.free md ops L i && (Region.ready md ops L).contains i)) = true := by kernel_rfl)
    (hiT : (i == T) = false := by kernel_rfl)
    (hw : Region.wanted oi (yielded ops a.tmps) = true := by rfl)
    (hy : ∀ w, (execOp a.eval oi).run P w = .ok (.value v) w := by (intro w'; go_simp <;> (with_reducible rfl)))
    (hl : L.setIfInBounds i true = L' := by ((try simp only [lpa, lpb, lpc]) <;> rfl))
    (ha : a.put oi.dst v = a' := by ((try simp only [Act.put, lpa, lpb, lpc]) <;> rfl)) :
    wpT P md ops (NoPanic Q) T S (n + 1) L a w := by
  subst hl; subst ha
  exact takeT (X := fun _ => True) (cs := []) (at_of_drop hi) (Region.noSelect_spec (chk3 hc).1) (fun _ _ _ h => h) (by simpa using hiT) (.inl fun _ => trivial) n L a w (Region.free_spec (at_of_drop hi) (chk3 hc).2.1) (by have := (chk3 hc).2.2; simpa using this) (.inl fun _ => trivial) (.inl ⟨hw, fun w _ => hy w⟩) trivial hS h
theorem clT (i : Nat) {oi : Oper} {rs : List Oper} {n : Nat} {L : Array Bool} {a : Act} {w : World}
    (h : ∀ K' : Act → World → Prop, Shut (∀ a w, S w → (S w → wpT P md ops Q T S n (L.setIfInBounds i true) a w) → K' a w) → if Region.wanted oi (yielded ops a.tmps) = true then Oper.wp P oi a w K' Q else K' (a.put oi.dst undef) w)
    (hi : ops.toList.drop i = oi :: rs := by rfl) (hr : Region.ready md ops L = [i] := by kernel_rfl) : wpT P md ops Q T S (n + 1) L a w :=
  ⟨fun h0 => absurd (hr ▸ h0) (by simp), fun j hj => by
    rw [hr] at hj
    obtain rfl : j = i := by simpa using hj
    exact wpOp_step (at_of_drop hi) fun K' hK => h K' fun a w hS hW => hK a w ⟨.inr hS, hW hS⟩⟩
theorem clE {oi : Oper} {rs : List Oper} {n : Nat} {L : Array Bool} {a : Act} {w : World}
    (h : ∀ K' : Act → World → Prop, Shut (∀ a w, (((L.setIfInBounds T true).getD T false = true ∨ S w) → wpT P md ops Q T S n (L.setIfInBounds T true) a w) → K' a w) → if Region.wanted oi (yielded ops a.tmps) = true then Oper.wp P oi a w K' Q else K' (a.put oi.dst undef) w)
    (hi : ops.toList.drop T = oi :: rs := by rfl) (hr : Region.ready md ops L = [T] := by kernel_rfl) (hl : (L.setIfInBounds T true).getD T false = true := by kernel_rfl) : wpT P md ops Q T S (n + 1) L a w :=
  ⟨fun h0 => absurd (hr ▸ h0) (by simp), fun j hj => by
    rw [hr] at hj
    obtain rfl : j = T := by simpa using hj
    exact wpOp_step (at_of_drop hi) fun K' hK => h K' fun a w hW => hK a w ⟨.inl hl, hW (.inl hl)⟩⟩
theorem doneT {n : Nat} {L : Array Bool} {a : Act} {w : World} (h : Q .normal a w) (hr : Region.ready md ops L = [] := by kernel_rfl) : wpT P md ops Q T S n L a w := by
  cases n with
  | zero => exact ⟨hr, h⟩
  | succ n => exact ⟨fun _ => h, by rw [hr]; simp⟩
end
end Go.Proofs.Ytodbohmbdgbheaa
namespace Go.Proofs.Ytodbohmbdgbheaa
open Go.RowKit
set_option linter.unusedVariables false
section
variable {P : Program} (w : World)
theorem run_append_nil' (base : Nat) (t ty e : TypeId) (i : TypeInfo) (size : Nat) (ht : P.underlying t = some (.slice e)) (hi : P.info? e = some i)
    (v : Value) (n c : Nat) (xs : List Value) (hown : w.ownsRow base e size v n xs) : (Builtin.append_ #[t, t] ty #[v, .slice none 0 c]).run P w = .ok v w := by
  rcases hown.2 with ⟨rfl, rfl⟩ | ⟨g, cap, cur, rfl, _, _, hnc, _⟩
  · simp [Builtin.append_, run_underlying ht, sizeOf, typeInfo, hi, Builtin.lenOf, Builtin.firstCells]
  · simp [Builtin.append_, run_underlying ht, sizeOf, typeInfo, hi, Builtin.lenOf, Builtin.firstCells, hnc, storeCells]
theorem wp_append_any {o : Oper} {a : Act} {K : Act → World → Prop} {Q : Exit → Act → World → Prop} (s x : Operand) (t : TypeId)
    (ho : o.op = .call { callee := .builtin .append, args := #[s, x], argTypes := #[t, t] })
    (base : Nat) (e : TypeId) (i : TypeInfo) (z : Value) (size bytes : Nat) (ht : P.underlying t = some (.slice e)) (hi : P.info? e = some i) (hz : i.zero = some z)
    (hsize : i.size = size) (hby : i.bytes = bytes) (hzs : z.cells.size = size) (hsz : 0 < size)
    (v : Value) (n : Nat) (xs : List Value) (hs : a.eval s = v) (hown : w.ownsRow base e size v n xs)
    (ad : Option Addr) (m c : Nat) (news : List Value) (hx : a.eval x = .slice ad m c) (hra : RdA w ad size m news) (h1 : ∀ u ∈ news, u.oneCell' = true)
    (h63 : n + m ≤ maxLen) (hbytes : (n + m) * bytes ≤ 140737488355328) (hbase : base ≤ w.heap.size)
    (h : ∀ v' w', w'.ownsRow base e size v' (n + m) (xs ++ news) → w.grownBy w' v.ownBlock → K (a.put o.dst v') w') : o.wp P a w K Q := by
  cases ad with
  | some ad => exact wp_append_own w s x t ho base e i z size bytes ht hi hz hsize hby hzs hsz v n xs hs hown ad m c news hx hra.1 (rd_news hra (Grew.refl w)) h1 h63 hbytes hbase (fun v' w' h2 h3 _ => h v' w' h2 h3)
  | none =>
    have h0 : m = 0 := by rcases Nat.eq_zero_or_pos m with h | h; exact h; obtain ⟨b, o, h2, _⟩ := hra.2 h; cases h2
    subst h0
    have hn : news = [] := List.length_eq_zero_iff.1 (by simpa using hra.1)
    subst hn
    have hr := run_append_nil' (P := P) w base t o.type e i size ht hi v n c xs hown
    unfold Oper.wp execOp
    simp only [ho, resolve, invoke, builtin, Sem.run_bind, Sem.run_pure, Result.andThen_ok, List.map_toArray, List.map_cons, List.map_nil, hs, hx, hr]
    exact h v w (by simpa using hown) ⟨rfl, rfl, rfl, Nat.le_refl _, fun _ _ _ => rfl⟩
theorem wpList_append_any {ops : Array Oper} {rest : List Oper} {o : Oper} {a : Act} {Q : Exit → Act → World → Prop} (hgd : o.guard = none) (s x : Operand) (t : TypeId)
    (ho : o.op = .call { callee := .builtin .append, args := #[s, x], argTypes := #[t, t] })
    (base : Nat) (e : TypeId) (i : TypeInfo) (z : Value) (size bytes : Nat) (ht : P.underlying t = some (.slice e)) (hi : P.info? e = some i) (hz : i.zero = some z)
    (hsize : i.size = size) (hby : i.bytes = bytes) (hzs : z.cells.size = size) (hsz : 0 < size)
    (v : Value) (n : Nat) (xs : List Value) (hs : a.eval s = v) (hown : w.ownsRow base e size v n xs)
    (ad : Option Addr) (m c : Nat) (news : List Value) (hx : a.eval x = .slice ad m c) (hra : RdA w ad size m news) (h1 : ∀ u ∈ news, u.oneCell' = true)
    (h63 : n + m ≤ maxLen) (hbytes : (n + m) * bytes ≤ 140737488355328) (hbase : base ≤ w.heap.size)
    (h : ∀ v' w', w'.ownsRow base e size v' (n + m) (xs ++ news) → w.grownBy w' v.ownBlock → wpList P ops Q rest (a.put o.dst v') w') : wpList P ops Q (o :: rest) a w :=
  wpList_plain hgd fun _ hK => wp_append_any w s x t ho base e i z size bytes ht hi hz hsize hby hzs hsz v n xs hs hown ad m c news hx hra h1 h63 hbytes hbase fun v' w' h2 h3 => hK _ _ (h v' w' h2 h3)
end
def TyAt (w : World) (b : Nat) (e : TypeId) : Prop := ∃ cs fr, w.heap[b]? = some (.cells cs e fr)
theorem TyAt.lt {w : World} {b : Nat} {e : TypeId} (h : TyAt w b e) : b < w.heap.size := by
  obtain ⟨cs, fr, h⟩ := h
  exact (Array.getElem?_eq_some_iff.1 h).1
theorem TyAt.new (w : World) (cs : Array Value) (e : TypeId) : TyAt (w.alloc (.cells cs e)) w.heap.size e := ⟨cs, (0, 0), heap_alloc_new w _⟩
theorem TyAt.tch {w w' : World} {b lo hi : Nat} {e : TypeId} (h : TyAt w b e) (ht : Touch lo hi w w') (hb : b < lo ∨ hi ≤ b) : TyAt w' b e := by
  have hl := h.lt
  obtain ⟨cs, fr, h⟩ := h
  exact ⟨cs, fr, (ht.block b hl hb).trans h⟩
theorem TyAt.grew {w w' : World} {b : Nat} {e : TypeId} (h : TyAt w b e) (hg : Grew w w') : TyAt w' b e := h.tch (hg.touch 0 0) (.inr (Nat.zero_le _))
theorem TyAt.d {w w' : World} {b g : Nat} {e : TypeId} (h : TyAt w b e) (hd : D g w w') (hb : b ≠ g) : TyAt w' b e := h.tch hd.2.1 (by omega)
theorem TyAt.set {w : World} {b : Nat} {e : TypeId} (h : TyAt w b e) (p : Addr) (u : Value) : TyAt (w.setCell p u) b e := by
  obtain ⟨cs, fr, h⟩ := h
  by_cases hp : b = p.block
  · subst hp
    exact ⟨if p.spot.isSome = true then cs else cs.setIfInBounds p.off u, fr, by simp [World.setCell, Array.getElem?_modify, h]⟩
  · exact ⟨cs, fr, (Below.heap_setCell _ _ _ _ hp).trans h⟩
theorem own_nety {w : World} {base : Nat} {e e' : TypeId} {k n b : Nat} {v : Value} {cs : List Value} (h : w.ownsRow base e k v n cs) (ht : TyAt w b e') (hne : e ≠ e') : ∀ c, v.ownBlock = some c → c ≠ b := by
  intro c hc hcb
  subst hcb
  obtain ⟨cs', fr, ht⟩ := ht
  rcases h.2 with ⟨rfl, _⟩ | ⟨g, cap, cur, rfl, _, hg, _⟩
  · simp [Value.ownBlock] at hc
  · simp [Value.ownBlock] at hc
    subst hc
    rw [hg] at ht
    simp at ht
    exact hne ht.2.1
theorem TyAt.grownOwn {w w' : World} {base : Nat} {e e' : TypeId} {k n b : Nat} {v : Value} {cs : List Value} (ht : TyAt w b e') (h : w.ownsRow base e k v n cs) (hg : w.grownBy w' v.ownBlock) (hne : e ≠ e') : TyAt w' b e' := by
  have h1 := own_nety h ht hne
  have hl := ht.lt
  obtain ⟨cs', fr, ht⟩ := ht
  exact ⟨cs', fr, (hg.block b hl (fun hb => h1 b hb.symm rfl)).trans ht⟩
theorem own_set {w : World} {base : Nat} {e e' : TypeId} {k n : Nat} {v : Value} {cs : List Value} {p : Addr} (h : w.ownsRow base e k v n cs) (ht : TyAt w p.block e') (hne : e ≠ e') (u : Value) : (w.setCell p u).ownsRow base e k v n cs := by
  have h1 := own_nety h ht hne
  refine h.kept (row := some p.block) ⟨rfl, rfl, rfl, by simp, fun k _ hk => Below.heap_setCell _ _ _ _ (fun e => hk (by rw [e]))⟩ ?_
  cases hb : v.ownBlock with
  | none => exact .inl rfl
  | some b => exact .inr (fun e => h1 b hb (Option.some.inj e))
end Go.Proofs.Ytodbohmbdgbheaa
namespace Go.Proofs.Ytodbohmbdgbheaa
open Go.RowKit
set_option linter.unusedVariables false
set_option linter.unusedSimpArgs false
theorem GrowF.tch {w w' : World} {base a b : Nat} {v : Value} {fs : List Fl} (h : GrowF w base v fs) (ht : Touch a b w w') (hd : b ≤ base) : GrowF w' base v fs := by
  obtain ⟨ps, h1, h2⟩ := h
  exact ⟨ps, ownsRow_tch h1 ht hd, h2.mono fun x p h => (h.touch ht (.inr hd)).mono (Nat.le_refl _) ht.size⟩
theorem GrowF.slice {w : World} {base : Nat} {v : Value} {fs : List Fl} (h : GrowF w base v fs) : ∃ a c, v = .slice a fs.length c := by
  obtain ⟨ps, h1, _⟩ := h
  exact own_slice h1
theorem Rd.tch {w w' : World} {lo hi k n : Nat} {v : Value} {cs : List Value} (h : Rd w v k n cs) (ht : Touch lo hi w w') (hb : ∀ b, v.ownBlock = some b → b < lo ∨ hi ≤ b) : Rd w' v k n cs := by
  obtain ⟨a, c, rfl, hc, ha⟩ := h
  exact ⟨a, c, rfl, hc, ha.tch ht fun _ b hb' => hb b.block (by rw [hb']; rfl)⟩
theorem Touch.grown {lo hi : Nat} {a b c : World} {row : Option Nat} (h : Touch lo hi a b) (hg : b.grownBy c row) (hr : ∀ k, row = some k → a.heap.size ≤ k) : Touch lo hi a c :=
  ⟨hg.os.trans h.os, hg.tape.trans h.tape, hg.output.trans h.output, Nat.le_trans h.size hg.size, fun b' hb ho => (hg.block b' (Nat.lt_of_lt_of_le hb h.size) (fun e => by have := hr b' e.symm; omega)).trans (h.block b' hb ho)⟩
structure Out (w : World) (ob base : Nat) (vs v : Value) (nx : Int) (fs : List Fl) : Prop where
  c0 : w.cell? ⟨ob, 0, none⟩ = some vs
  c1 : w.cell? ⟨ob, 1, none⟩ = some v
  c2 : w.cell? ⟨ob, 2, none⟩ = some (.int .i64 nx)
  fz : ∀ j, w.frozen? ⟨ob, j, none⟩ = false
  row : GrowF w base v fs
  lt : ob < base
  le : base ≤ w.heap.size
theorem Out.grew {w w' : World} {ob base : Nat} {vs v : Value} {nx : Int} {fs : List Fl} (h : Out w ob base vs v nx fs) (hg : Grew w w') : Out w' ob base vs v nx fs :=
  ⟨grew_cell hg h.c0, grew_cell hg h.c1, grew_cell hg h.c2, fun j => grew_frozen (a := ⟨ob, j, none⟩) hg (lt_of_cell h.c0 : (⟨ob, 0, none⟩ : Addr).block < _) (h.fz j), h.row.grew hg, h.lt, Nat.le_trans h.le hg.size⟩
theorem Out.put {w w' : World} {ob base : Nat} {vs v v' : Value} {nx : Int} {fs fs' : List Fl} (h : Out w ob base vs v nx fs) (hg : w.grownBy w' v.ownBlock) (hr : GrowF w' base v' fs') : Out (w'.setCell ⟨ob, 1, none⟩ v') ob base vs v' nx fs' := by
  have hlt : ∀ k, v.ownBlock = some k → base ≤ k := fun k hk => by obtain ⟨ps, h1, _⟩ := h.row; exact (h1.lt k hk).1
  have hl := h.lt
  have hb := h.le
  have hob : some ob ≠ v.ownBlock := fun e => by have := hlt ob e.symm; omega
  have hfz : ∀ j, w'.frozen? ⟨ob, j, none⟩ = false := fun j => by
    rw [World.frozen?_of_block (w := w) (hg.block ob (by omega) hob)]; exact h.fz j
  have d0 := hg.cell h.c0 hob
  have d1 := hg.cell h.c1 hob
  have d2 := hg.cell h.c2 hob
  refine ⟨?_, ?_, ?_, fun j => ?_, ?_, hl, ?_⟩
  · simp [go_sem, d0]
  · simp [go_sem, d1]
  · simp [go_sem, d2]
  · rw [World.frozen?_setCell]; exact hfz j
  · exact hr.tch (a := ob) (b := ob + 1) (Touch.setCell (p := ⟨ob, 1, none⟩) (Touch.refl _ _ _) (Nat.le_refl _) (Nat.lt_succ_self _) _) hl
  · have := hg.size; simp; omega
theorem cell_set_ne {w : World} {p a : Addr} {u v : Value} (h : w.cell? p = some u) (hne : p.block ≠ a.block) : (w.setCell a v).cell? p = some u :=
  tch_cell (Touch.setCell (Touch.refl a.block (a.block + 1) w) (Nat.le_refl _) (Nat.lt_succ_self _) v) (by omega) h
theorem Out.fresh (w : World) (vs : Value) (nx : Int) : Out (w.alloc (.cells #[vs, .slice none 0 0, .int .i64 nx] 34)) w.heap.size (w.alloc (.cells #[vs, .slice none 0 0, .int .i64 nx] 34)).heap.size vs (.slice none 0 0) nx [] :=
  ⟨by simp, by simp, by simp, fun j => by simp [go_sem], GrowF.nil _ _, by simp, Nat.le_refl _⟩
theorem Out.stored {w : World} {ob : Nat} {vs q0 q1 q2 : Value} {nx : Int} (hl : ob < w.heap.size) (h0 : w.cell? ⟨ob, 0, none⟩ = some q0) (h1 : w.cell? ⟨ob, 1, none⟩ = some q1) (h2 : w.cell? ⟨ob, 2, none⟩ = some q2) (hz : ∀ j, w.frozen? ⟨ob, j, none⟩ = false) :
    Out (((w.setCell ⟨ob, 0, none⟩ vs).setCell ⟨ob, 1, none⟩ (.slice none 0 0)).setCell ⟨ob, 2, none⟩ (.int .i64 nx)) ob (((w.setCell ⟨ob, 0, none⟩ vs).setCell ⟨ob, 1, none⟩ (.slice none 0 0)).setCell ⟨ob, 2, none⟩ (.int .i64 nx)).heap.size vs (.slice none 0 0) nx [] :=
  ⟨by simp [go_sem, h0, h1, h2], by simp [go_sem, h0, h1, h2], by simp [go_sem, h0, h1, h2], fun j => by rw [World.frozen?_setCell, World.frozen?_setCell, World.frozen?_setCell]; exact hz j, GrowF.nil _ _, by simpa using hl, Nat.le_refl _⟩
theorem Out.rd {w : World} {ob base : Nat} {vs v : Value} {nx : Int} {fs : List Fl} (h : Out w ob base vs v nx fs) : RdLs w v fs := h.row.rd
theorem Out.link {w : World} {ob base g n cap i : Nat} {vs : Value} {nx l : Int} {fs : List Fl} {f : Fl} (h : Out w ob base vs (.slice (some ⟨g, 0, none⟩) n cap) nx fs) (hn : fs.length = n) (hf : fs[i]? = some f) :
    Out (w.setCell ⟨g, i * 5 + 3, none⟩ (.int .i64 l)) ob base vs (.slice (some ⟨g, 0, none⟩) n cap) nx (fs.set i ⟨f.id, f.owner, f.shared, l, f.attrs⟩) := by
  have hlt : base ≤ g := by obtain ⟨ps, h1, _⟩ := h.row; exact (h1.lt g rfl).1
  have hl := h.lt
  have hne : ¬ (g = ob) := by omega
  have hne2 : ¬ (ob = g) := by omega
  have d0 := h.c0
  have d1 := h.c1
  have d2 := h.c2
  refine ⟨?_, ?_, ?_, fun j => ?_, h.row.put hn hf, hl, ?_⟩
  · simp [go_sem, d0, hne, hne2]
  · simp [go_sem, d1, hne, hne2]
  · simp [go_sem, d2, hne, hne2]
  · rw [World.frozen?_setCell]; exact h.fz j
  · have := h.le; simpa using this
end Go.Proofs.Ytodbohmbdgbheaa
namespace Go.Proofs.Ytodbohmbdgbheaa
open Go.RowKit
set_option linter.unusedVariables false
def atF (fs : List Fl) (id i : Int) : Prop := (∃ (k : Nat) (f : Fl), i = k ∧ fs[k]? = some f ∧ f.id = id ∧ hasF (fs.take k) id = false) ∨ (hasF fs id = false ∧ i = -1)
set_option maxRecDepth 100000 in
set_option maxHeartbeats 1000000 in
theorem l05PlaceAt (p_q p_r : Value) (nx : Int) (fs : List Fl) (id : Int) (w : World) (hr : RdLs w p_r fs) (hx : fs.length ≤ 4000000) :
    Calls Try.prog 74 #[.agg #[p_q, p_r, .int .i64 nx], .int .i64 id] w fun e w' => ∃ i : Int, e = .returned (.int .i64 i) ∧ atF fs id i ∧ Grew w w' := by
  have hg0 := (Grew.refl w).alloc (.cells #[p_q, p_r, .int .i64 nx] 34)
  have HR := Lib.hid (RdLs.grew hr hg0)
  obtain ⟨qs, ⟨a, ca, rfl, hca, hra⟩, hall⟩ := hr
  clear hra hall
  obtain ⟨qs, ⟨_, _, h1, _, hra⟩, hall⟩ := HR.out
  cases h1
  have HA := Lib.hid hall
  clear hall
  generalize hn : fs.length = n at hx hra
  have HX := Lib.hid hn
  clear hn
  go_enter Try.func74, Try.ntmps74
  go_wp2
  go_loop [5] (fun i => ∃ k : Nat, k ≤ n ∧ i = .int .i64 k ∧ Hid (hasF (fs.take k) id = false)) (fun i => n - (intOf i).toNat)
  case atStart => exact ⟨0, Nat.zero_le _, rfl, Lib.hid rfl⟩
  case round =>
    obtain ⟨k, hk, rfl, hno⟩ := hrel
    by_cases hlt : k < n
    · obtain ⟨b1, o1, p, rfl, hpk, c0, c1, c2, c3, c4⟩ := hra.getP5 hlt
      obtain ⟨x, hxk, hxr⟩ := HA.out.get hpk.out
      have hid := hxr.1
      rw [hid] at c0
      have hcs : (x.id == id) = true ∨ (x.id == id) = false := by cases x.id == id <;> simp
      rcases hcs with hn | hn
      · have HE := Lib.hid (show x.id = id by simpa using hn)
        go_wp2
        go_ret
        exact ⟨_, rfl, .inl ⟨k, x, rfl, hxk.out, HE.out, hno.out⟩, (Grew.refl w).alloc _⟩
      · have HF := Lib.hid (hasF_no hno.out hxk.out hn)
        go_wp2
        exact ⟨⟨k + 1, by omega, by go_num, HF⟩, by simp [intOf]; omega⟩
    · obtain rfl : k = n := by omega
      have h1 := hno.out
      rw [take_all HX.out] at h1
      have H1 := Lib.hid h1
      clear h1 hno
      go_wp2
      go_ret
      exact ⟨_, rfl, .inr ⟨H1.out, rfl⟩, (Grew.refl w).alloc _⟩
end Go.Proofs.Ytodbohmbdgbheaa
