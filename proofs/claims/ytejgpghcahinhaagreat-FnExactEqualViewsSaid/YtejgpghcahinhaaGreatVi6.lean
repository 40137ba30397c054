/- Texts Y0, Y1, L1, O, O2, J, as far as they are needed. -/
import Derived.Test.YtejgpghcahinhaaGreatVi5
import Derived.Test.YtejgpghcahinhaaGreatVi3
import Derived.Test.YtejgpghcahinhaaGreatVi0
import Derived.Test.YtejgpghcahinhaaGreatRows
import Derived.ProofKit
import Derived.OpenShut
import Derived.ShutString
import Derived.ChangeOld
import Derived.Deep.Slices
import Derived.Test.YtejgpghcahinhaaGreatVi4
import Derived.Test.YtejgpghcahinhaaGreatChecked
import Derived.JoinedOf
namespace Go.Proofs.YtejgpghcahinhaaGreat
open Go.RowKit Go.Sort
set_option linter.unusedVariables false
theorem beqB {a b : ByteArray} : (a.toList == b.toList) = true ↔ a = b := by
  rw [ByteArray.toList_eq, ByteArray.toList_eq]
  constructor
  · intro h
    have h1 : dl a = dl b := by simpa using h
    have h2 : mkb (dl a) = mkb (dl b) := by rw [h1]
    simpa only [mkb_dl] using h2
  · rintro rfl; simp
theorem hasB_iff {xs : List ByteArray} {s : ByteArray} : hasB xs s = true ↔ s ∈ xs := by
  unfold hasB
  rw [List.any_eq_true]
  constructor
  · rintro ⟨y, hy, h⟩; rw [beqB.1 h] at hy; exact hy
  · intro h; exact ⟨s, h, beqB.2 rfl⟩
theorem hasB_not {xs : List ByteArray} {s : ByteArray} : hasB xs s = false ↔ ¬ s ∈ xs := by
  rw [← hasB_iff]; simp
theorem mem_so {l : List ByteArray} {y : ByteArray} : y ∈ so l ↔ y ∈ l := by
  unfold so putAll
  have h := foldPut (l.map dl) [] (List.Pairwise.nil)
  rw [List.mem_map]
  constructor
  · rintro ⟨z, hz, rfl⟩
    rcases (h.2 z).1 hz with hz | hz
    · cases hz
    · obtain ⟨b, hb, rfl⟩ := List.mem_map.1 hz
      exact hb
  · intro hy
    exact ⟨dl y, (h.2 _).2 (.inr (List.mem_map_of_mem hy)), rfl⟩
inductive Reach (xs : List Dr) (ns : List ByteArray) : ByteArray → Prop
  | base {s : ByteArray} : s ∈ ns → Reach xs ns s
  | step {s : ByteArray} {x : Dr} : Reach xs ns s → x ∈ xs → s ∈ qDirs x.query → Reach xs ns x.name
theorem Reach.mem {xs : List Dr} {ns : List ByteArray} {s : ByteArray} (h : Reach xs ns s) : s ∈ ns ++ xs.map Dr.name := by
  cases h with
  | base h => exact List.mem_append_left _ h
  | step _ hx _ => exact List.mem_append_right _ (List.mem_map_of_mem hx)
theorem filt_le {α : Type} {p q : α → Bool} : ∀ {xs : List α}, (∀ x, x ∈ xs → q x = true → p x = true) → (xs.filter q).length ≤ (xs.filter p).length
  | [], _ => by simp
  | y :: ys, h => by
    have ih := filt_le (xs := ys) (fun x hx => h x (List.mem_cons_of_mem _ hx))
    have h0 := h y (List.mem_cons_self ..)
    rw [List.filter_cons, List.filter_cons]
    cases hq : q y with
    | true => rw [h0 hq]; simpa using ih
    | false =>
      cases p y
      · simpa using ih
      · simp; omega
theorem filt_lt {α : Type} {p q : α → Bool} : ∀ {xs : List α}, (∀ x, x ∈ xs → q x = true → p x = true) → ∀ {x : α}, x ∈ xs → p x = true → q x = false → (xs.filter q).length < (xs.filter p).length
  | [], _, x, hx, _, _ => by cases hx
  | y :: ys, h, x, hx, hp, hn => by
    have hr : ∀ x, x ∈ ys → q x = true → p x = true := fun x hx => h x (List.mem_cons_of_mem _ hx)
    rw [List.filter_cons, List.filter_cons]
    rcases List.mem_cons.1 hx with rfl | hx
    · rw [hp, hn]
      have := filt_le hr
      simp; omega
    · have ih := filt_lt hr hx hp hn
      have h0 := h y (List.mem_cons_self ..)
      cases hq : q y with
      | true => rw [h0 hq]; simpa using ih
      | false =>
        cases p y
        · simpa using ih
        · simp; omega
def addN (L : List ByteArray) (s : ByteArray) : List ByteArray := if hasB L s then L else L ++ [s]
theorem addN_yes {L : List ByteArray} {s : ByteArray} (h : hasB L s = true) : addN L s = L := by unfold addN; rw [h]; rfl
theorem addN_no {L : List ByteArray} {s : ByteArray} (h : hasB L s = false) : addN L s = L ++ [s] := by unfold addN; rw [h]; rfl
theorem mem_addN {L : List ByteArray} {s y : ByteArray} : y ∈ addN L s ↔ y ∈ L ∨ y = s := by
  cases h : hasB L s with
  | true =>
    rw [addN_yes h]
    constructor
    · exact .inl
    · rintro (h1 | rfl)
      · exact h1
      · exact hasB_iff.1 h
  | false => rw [addN_no h]; simp
def cntN (xs : List Dr) (L : List ByteArray) : Nat := (xs.filter fun x => !hasB L x.name).length
theorem cnt_add {xs : List Dr} {L : List ByteArray} {x : Dr} (hx : x ∈ xs) : (addN L x.name).length + cntN xs (addN L x.name) ≤ L.length + cntN xs L := by
  cases h : hasB L x.name with
  | true => rw [addN_yes h]; exact Nat.le_refl _
  | false =>
    have h2 : cntN xs (addN L x.name) < cntN xs L := by
      unfold cntN
      refine filt_lt (fun y _ hy => ?_) hx (by simp [h]) (by simp [hasB_iff, mem_addN])
      have h3 : ¬ y.name ∈ addN L x.name := hasB_not.1 (by simpa using hy)
      rw [mem_addN] at h3
      have h4 : hasB L y.name = false := hasB_not.2 fun h => h3 (.inl h)
      rw [h4]; rfl
    rw [addN_no h]
    rw [addN_no h] at h2
    simp; omega
structure Good (xs : List Dr) (ns L : List ByteArray) : Prop where
  snd : ∀ y, y ∈ L → Reach xs ns y
  all : ∀ y, y ∈ ns → y ∈ L
  len : L.length + cntN xs L ≤ ns.length + xs.length
theorem Good.start (xs : List Dr) (ns : List ByteArray) : Good xs ns ns :=
  ⟨fun y h => .base h, fun y h => h, by have : cntN xs ns ≤ xs.length := List.length_filter_le _ _; omega⟩
theorem Good.le {xs : List Dr} {ns L : List ByteArray} (h : Good xs ns L) : L.length ≤ ns.length + xs.length := by have := h.len; omega
theorem Good.add {xs : List Dr} {ns L : List ByteArray} {s : ByteArray} {x : Dr} (h : Good xs ns L) (hx : x ∈ xs) (hs : s ∈ L) (hq : s ∈ qDirs x.query) : Good xs ns (addN L x.name) := by
  refine ⟨fun y hy => ?_, fun y hy => mem_addN.2 (.inl (h.all y hy)), Nat.le_trans (cnt_add hx) h.len⟩
  rcases mem_addN.1 hy with h1 | rfl
  · exact h.snd y h1
  · exact .step (h.snd s hs) hx hq
def turn1 (L : List ByteArray) (x : Dr) : List ByteArray := if (qDirs x.query).any (hasB L) then addN L x.name else L
def pass (xs : List Dr) (L : List ByteArray) : List ByteArray := xs.foldl turn1 L
def passes (xs : List Dr) (ns : List ByteArray) : Nat → List ByteArray
  | 0 => ns
  | r + 1 => pass xs (passes xs ns r)
theorem any_iff {l L : List ByteArray} : l.any (hasB L) = true ↔ ∃ s, s ∈ l ∧ s ∈ L := by
  rw [List.any_eq_true]
  exact ⟨fun ⟨s, h, k⟩ => ⟨s, h, hasB_iff.1 k⟩, fun ⟨s, h, k⟩ => ⟨s, h, hasB_iff.2 k⟩⟩
theorem Good.turn {xs : List Dr} {ns L : List ByteArray} {x : Dr} (h : Good xs ns L) (hx : x ∈ xs) : Good xs ns (turn1 L x) := by
  unfold turn1; split
  · rename_i ha
    obtain ⟨s, hs, hl⟩ := any_iff.1 ha
    exact h.add hx hl hs
  · exact h
theorem Good.fold {xs : List Dr} {ns : List ByteArray} : ∀ (ys : List Dr) {L : List ByteArray}, Good xs ns L → (∀ y, y ∈ ys → y ∈ xs) → Good xs ns (ys.foldl turn1 L)
  | [], L, h, _ => h
  | y :: ys, L, h, hs => Good.fold ys (h.turn (hs y (List.mem_cons_self ..))) (fun z hz => hs z (List.mem_cons_of_mem _ hz))
theorem Good.passes {xs : List Dr} {ns : List ByteArray} : ∀ (r : Nat), Good xs ns (passes xs ns r)
  | 0 => Good.start xs ns
  | r + 1 => Good.fold xs (Good.passes r) (fun _ h => h)
def midL (xs : List Dr) (ns : List ByteArray) (r i : Nat) : List ByteArray := (xs.take i).foldl turn1 (passes xs ns r)
theorem Good.mid {xs : List Dr} {ns : List ByteArray} (r i : Nat) : Good xs ns (midL xs ns r i) := Good.fold _ (Good.passes r) (fun _ h => List.mem_of_mem_take h)
end Go.Proofs.YtejgpghcahinhaaGreat
namespace Go.Proofs.YtejgpghcahinhaaGreat
open Go.RowKit
set_option linter.unusedVariables false
def gt (L : List Nat) (i : Nat) : Nat := L.getD i 0
theorem gt_at {L : List Nat} {i x : Nat} (h : L[i]? = some x) : gt L i = x := by unfold gt; simp [h]
theorem gt_set_self {L : List Nat} {i x : Nat} (h : i < L.length) : gt (L.set i x) i = x := by unfold gt; simp [h]
theorem gt_set_ne {L : List Nat} {i j x : Nat} (h : i ≠ j) : gt (L.set i x) j = gt L j := by unfold gt; simp [h]
theorem gt_ext {L M : List Nat} (h : L.length = M.length) (hg : ∀ i, i < L.length → gt L i = gt M i) : L = M := by
  apply List.ext_getElem h
  intro i h1 h2
  have := hg i h1
  unfold gt at this
  simpa [h1, h2] using this
abbrev Edges := Nat → List (Nat × Nat)
def SatN (n : Nat) (es : Edges) (M : List Nat) : Prop := ∀ i, i < n → ∀ e, e ∈ es i → gt M e.1 + e.2 ≤ gt M i
def LeN (n : Nat) (L M : List Nat) : Prop := ∀ i, i < n → gt L i ≤ gt M i
theorem LeN.refl (n : Nat) (L : List Nat) : LeN n L L := fun _ _ => Nat.le_refl _
theorem LeN.trans {n : Nat} {L M K : List Nat} (h : LeN n L M) (k : LeN n M K) : LeN n L K := fun i hi => Nat.le_trans (h i hi) (k i hi)
theorem LeN.anti {n : Nat} {L M : List Nat} (h : LeN n L M) (k : LeN n M L) (hl : L.length = n) (hm : M.length = n) : L = M :=
  gt_ext (by omega) (fun i hi => Nat.le_antisymm (h i (by omega)) (k i (by omega)))
def OkE (n : Nat) (es : Edges) : Prop := ∀ i, i < n → ∀ e, e ∈ es i → e.1 < n ∧ e.2 ≤ 1
def LeastN (n : Nat) (es : Edges) (L : List Nat) : Prop := ∀ M, SatN n es M → LeN n L M
theorem gt_map {f : Nat → Nat} (h0 : f 0 = 0) (L : List Nat) (i : Nat) : gt (L.map f) i = f (gt L i) := by
  unfold gt
  by_cases h : i < L.length
  · simp [h]
  · simp [h, h0]
theorem least_lt {n : Nat} {es : Edges} {L : List Nat} (ho : OkE n es) (hs : SatN n es L) (hl : LeastN n es L) : ∀ i, i < n → gt L i < n := by
  intro i hi
  apply Classical.byContradiction
  intro hge
  have key : ∀ m, m ≤ n → ((List.range n).filter fun j => decide (m ≤ gt L j)).length + m ≤ n := by
    intro m
    induction m with
    | zero => intro _; exact Nat.le_trans (List.length_filter_le _ _) (by simp)
    | succ v ih =>
      intro hv
      have h1 := ih (by omega)
      by_cases hex : ∃ j, j < n ∧ gt L j = v
      · obtain ⟨j, hj, hjv⟩ := hex
        have := filt_lt (xs := List.range n) (p := fun j => decide (v ≤ gt L j)) (q := fun j => decide (v + 1 ≤ gt L j)) (fun x _ hx => by simp at hx ⊢; omega) (x := j) (by simpa using hj) (by simp [hjv]) (by simp [hjv])
        omega
      · exfalso
        have hM : SatN n es (L.map fun x => if v < x then x - 1 else x) := by
          intro a ha e he
          have h2 := hs a ha e he
          have h3 := (ho a ha e he).1
          have h4 := (ho a ha e he).2
          have h5 : gt L e.1 ≠ v := fun h => hex ⟨_, h3, h⟩
          rw [gt_map (by simp), gt_map (by simp)]
          split <;> split <;> omega
        have h2 := hl _ hM i hi
        rw [gt_map (by simp)] at h2
        split at h2 <;> omega
  have h1 := key n (Nat.le_refl _)
  have h2 : 0 < ((List.range n).filter fun j => decide (n ≤ gt L j)).length := by
    apply List.length_pos_of_mem (a := i)
    simp only [List.mem_filter, List.mem_range, decide_eq_true_eq]
    exact ⟨hi, by omega⟩
  omega
def upd (i : Nat) (L : List Nat) (e : Nat × Nat) : List Nat := if gt L i < gt L e.1 + e.2 then L.set i (gt L e.1 + e.2) else L
def raise1 (es : Edges) (L : List Nat) (i : Nat) : List Nat := (es i).foldl (upd i) L
def raise (n : Nat) (es : Edges) (L : List Nat) : List Nat := (List.range n).foldl (raise1 es) L
theorem upd_len (i : Nat) (L : List Nat) (e : Nat × Nat) : (upd i L e).length = L.length := by unfold upd; split <;> simp
theorem updF_len (i : Nat) : ∀ (l : List (Nat × Nat)) (L : List Nat), (l.foldl (upd i) L).length = L.length
  | [], L => rfl
  | e :: l, L => by rw [List.foldl_cons, updF_len i l, upd_len]
theorem raiseF_len (es : Edges) : ∀ (l : List Nat) (L : List Nat), (l.foldl (raise1 es) L).length = L.length
  | [], L => rfl
  | i :: l, L => by rw [List.foldl_cons, raiseF_len es l]; exact updF_len i _ L
theorem raise_len (n : Nat) (es : Edges) (L : List Nat) : (raise n es L).length = L.length := raiseF_len es _ L
theorem upd_up (n i : Nat) (L : List Nat) (e : Nat × Nat) : LeN n L (upd i L e) := by
  intro k _
  unfold upd; split
  · by_cases h : i = k
    · subst h
      by_cases hi : i < L.length
      · rw [gt_set_self hi]; omega
      · rw [List.set_eq_of_length_le (by omega)]; exact Nat.le_refl _
    · rw [gt_set_ne h]; exact Nat.le_refl _
  · exact Nat.le_refl _
theorem updF_up (n i : Nat) : ∀ (l : List (Nat × Nat)) (L : List Nat), LeN n L (l.foldl (upd i) L)
  | [], L => LeN.refl n L
  | e :: l, L => (upd_up n i L e).trans (updF_up n i l _)
theorem raiseF_up (n : Nat) (es : Edges) : ∀ (l : List Nat) (L : List Nat), LeN n L (l.foldl (raise1 es) L)
  | [], L => LeN.refl n L
  | i :: l, L => (updF_up n i (es i) L).trans (raiseF_up n es l _)
theorem upd_le {n i : Nat} {L M : List Nat} {e : Nat × Nat} (h : LeN n L M) (h1 : e.1 < n) (h2 : gt M e.1 + e.2 ≤ gt M i) (hl : L.length = n) : LeN n (upd i L e) M := by
  intro k hk
  unfold upd; split
  · by_cases hik : i = k
    · subst hik
      rw [gt_set_self (by omega)]
      have := h _ h1; omega
    · rw [gt_set_ne hik]; exact h k hk
  · exact h k hk
theorem updF_le {n i : Nat} {M : List Nat} : ∀ (l : List (Nat × Nat)) {L : List Nat}, LeN n L M → (∀ e, e ∈ l → e.1 < n ∧ gt M e.1 + e.2 ≤ gt M i) → L.length = n → LeN n (l.foldl (upd i) L) M
  | [], L, h, _, _ => h
  | e :: l, L, h, hs, hl => by
    rw [List.foldl_cons]
    have h1 := hs e (List.mem_cons_self ..)
    exact updF_le l (upd_le h h1.1 h1.2 hl) (fun e he => hs e (List.mem_cons_of_mem _ he)) (by rw [upd_len]; exact hl)
theorem raiseF_le {n : Nat} {es : Edges} {M : List Nat} (ho : OkE n es) (hM : SatN n es M) : ∀ (l : List Nat) {L : List Nat}, LeN n L M → (∀ i, i ∈ l → i < n) → L.length = n → LeN n (l.foldl (raise1 es) L) M
  | [], L, h, _, _ => h
  | i :: l, L, h, hs, hl => by
    rw [List.foldl_cons]
    have hi := hs i (List.mem_cons_self ..)
    exact raiseF_le ho hM l (updF_le (es i) h (fun e he => ⟨(ho i hi e he).1, hM i hi e he⟩) hl) (fun i hi => hs i (List.mem_cons_of_mem _ hi)) (by unfold raise1; rw [updF_len]; exact hl)
theorem raise_le {n : Nat} {es : Edges} {L M : List Nat} (ho : OkE n es) (hM : SatN n es M) (h : LeN n L M) (hl : L.length = n) : LeN n (raise n es L) M :=
  raiseF_le ho hM _ h (fun i hi => by simpa using hi) hl
theorem updF_same {n i : Nat} : ∀ (l : List (Nat × Nat)) {L : List Nat}, L.length = n → LeN n (l.foldl (upd i) L) L → ∀ e, e ∈ l → upd i L e = L
  | [], L, _, _, e, he => by cases he
  | e0 :: l, L, hl, h, e, he => by
    rw [List.foldl_cons] at h
    have h1 : upd i L e0 = L := (LeN.anti (LeN.trans (updF_up n i l _) h) (upd_up n i L e0) (by rw [upd_len]; exact hl) hl)
    rw [h1] at h
    rcases List.mem_cons.1 he with rfl | he
    · exact h1
    · exact updF_same l hl h e he
theorem raiseF_same {n : Nat} {es : Edges} : ∀ (l : List Nat) {L : List Nat}, L.length = n → LeN n (l.foldl (raise1 es) L) L → ∀ i, i ∈ l → ∀ e, e ∈ es i → upd i L e = L
  | [], L, _, _, i, hi, _, _ => by cases hi
  | i0 :: l, L, hl, h, i, hi, e, he => by
    rw [List.foldl_cons] at h
    have h1 : raise1 es L i0 = L := (LeN.anti (LeN.trans (raiseF_up n es l _) h) (updF_up n i0 (es i0) L) (by unfold raise1; rw [updF_len]; exact hl) hl)
    rcases List.mem_cons.1 hi with rfl | hi
    · exact updF_same (es i) hl (by unfold raise1 at h1; rw [h1]; exact LeN.refl n L) e he
    · rw [h1] at h
      exact raiseF_same l hl h i hi e he
theorem sat_of_same {n : Nat} {es : Edges} {L : List Nat} (hl : L.length = n) (h : raise n es L = L) : SatN n es L := by
  intro i hi e he
  have h1 := raiseF_same (List.range n) hl (by show LeN n (raise n es L) L; rw [h]; exact LeN.refl n L) i (by simpa using hi) e he
  unfold upd at h1
  split at h1
  · rename_i hlt
    have h2 : gt (L.set i (gt L e.1 + e.2)) i = gt L i := by rw [h1]
    rw [gt_set_self (by omega)] at h2
    omega
  · omega
def sumN : List Nat → Nat
  | [] => 0
  | x :: xs => x + sumN xs
theorem sum_le : ∀ {L M : List Nat}, L.length = M.length → (∀ i, i < L.length → gt L i ≤ gt M i) → sumN L ≤ sumN M ∧ (sumN L = sumN M → L = M)
  | [], [], _, _ => ⟨Nat.le_refl _, fun _ => rfl⟩
  | [], y :: ys, h, _ => by simp at h
  | x :: xs, [], h, _ => by simp at h
  | x :: xs, y :: ys, h, hg => by
    have ih := sum_le (L := xs) (M := ys) (by simpa using h) (fun i hi => by have := hg (i + 1) (by simpa using hi); simpa [gt] using this)
    have h0 := hg 0 (by simp)
    simp [gt] at h0
    unfold sumN
    refine ⟨by omega, fun h => ?_⟩
    have h1 : sumN xs = sumN ys := by omega
    have h2 : x = y := by omega
    rw [ih.2 h1, h2]
theorem sum_bound {n b : Nat} : ∀ {L : List Nat}, (∀ x, x ∈ L → x ≤ b) → L.length = n → sumN L ≤ n * b := by
  intro L
  induction L generalizing n with
  | nil => intro _ _; simp [sumN]
  | cons x xs ih =>
    intro h hl
    obtain ⟨m, rfl⟩ : ∃ m, n = m + 1 := ⟨xs.length, by simpa using hl.symm⟩
    have := ih (n := m) (fun y hy => h y (List.mem_cons_of_mem _ hy)) (by simpa using hl)
    have h0 := h x (List.mem_cons_self ..)
    unfold sumN; rw [Nat.succ_mul]; omega
def iter (n : Nat) (es : Edges) : Nat → List Nat
  | 0 => List.replicate n 0
  | r + 1 => raise n es (iter n es r)
theorem iter_len (n : Nat) (es : Edges) : ∀ r, (iter n es r).length = n
  | 0 => by simp [iter]
  | r + 1 => by unfold iter; rw [raise_len]; exact iter_len n es r
theorem zero_le (n : Nat) (M : List Nat) : LeN n (List.replicate n 0) M := by
  intro i hi
  have : gt (List.replicate n 0) i = 0 := by unfold gt; simp [hi]
  omega
theorem iter_le {n : Nat} {es : Edges} {M : List Nat} (ho : OkE n es) (hM : SatN n es M) : ∀ r, LeN n (iter n es r) M
  | 0 => zero_le n M
  | r + 1 => raise_le ho hM (iter_le ho hM r) (iter_len n es r)
theorem iter_or (n : Nat) (es : Edges) : ∀ r, raise n es (iter n es r) = iter n es r ∨ r ≤ sumN (iter n es r)
  | 0 => .inr (Nat.zero_le _)
  | r + 1 => by
    by_cases hs : raise n es (iter n es r) = iter n es r
    · left; unfold iter; rw [hs, hs]
    · right
      rcases iter_or n es r with h | h
      · exact absurd h hs
      · have h1 := sum_le (L := iter n es r) (M := raise n es (iter n es r)) (by rw [raise_len]) (fun i hi => raiseF_up n es _ _ i (by rw [iter_len] at hi; exact hi))
        have h2 : sumN (iter n es r) ≠ sumN (raise n es (iter n es r)) := fun h => hs (h1.2 h).symm
        show r + 1 ≤ sumN (raise n es (iter n es r))
        omega
theorem mem_gt {L : List Nat} {x : Nat} (h : x ∈ L) : ∃ i, i < L.length ∧ gt L i = x := by
  obtain ⟨i, hi, rfl⟩ := List.getElem_of_mem h
  exact ⟨i, hi, gt_at (List.getElem?_eq_getElem hi)⟩
theorem iter_rest {n : Nat} {es : Edges} {M : List Nat} (ho : OkE n es) (hM : SatN n es M) (hl : M.length = n) : raise n es (iter n es (n * n + 2)) = iter n es (n * n + 2) := by
  have hsum : ∀ K, SatN n es K → K.length = n → ∀ r, sumN (iter n es r) ≤ sumN K := fun K hK hk r =>
    (sum_le (by rw [iter_len, hk]) (fun i hi => iter_le ho hK r i (by rw [iter_len] at hi; exact hi))).1
  have h1 : raise n es (iter n es (sumN M + 1)) = iter n es (sumN M + 1) := by
    rcases iter_or n es (sumN M + 1) with h | h
    · exact h
    · have := hsum M hM hl (sumN M + 1); omega
  have h2 := sat_of_same (iter_len n es _) h1
  have h3 : ∀ i, i < n → gt (iter n es (sumN M + 1)) i < n := least_lt ho h2 (fun K hK => iter_le ho hK _)
  have h4 : sumN (iter n es (sumN M + 1)) ≤ n * n := sum_bound (fun x hx => by
    obtain ⟨i, hi, rfl⟩ := mem_gt hx
    exact Nat.le_of_lt (h3 i (by rw [iter_len] at hi; exact hi))) (iter_len n es _)
  rcases iter_or n es (n * n + 2) with h | h
  · exact h
  · have := hsum _ h2 (iter_len n es _) (n * n + 2); omega
def strL (n : Nat) (es : Edges) : List Nat := iter n es (n * n + 2)
def strB (n : Nat) (es : Edges) : Bool := decide (raise n es (strL n es) = strL n es)
theorem strL_len (n : Nat) (es : Edges) : (strL n es).length = n := iter_len n es _
theorem strB_sat {n : Nat} {es : Edges} (h : strB n es = true) : SatN n es (strL n es) := by
  unfold strB at h; exact sat_of_same (strL_len n es) (by simpa using h)
theorem strB_least {n : Nat} {es : Edges} (ho : OkE n es) : LeastN n es (strL n es) := fun M hM => iter_le ho hM _
theorem strB_lt {n : Nat} {es : Edges} (ho : OkE n es) (h : strB n es = true) : ∀ i, i < n → gt (strL n es) i < n := least_lt ho (strB_sat h) (strB_least ho)
theorem strB_of {n : Nat} {es : Edges} {M : List Nat} (ho : OkE n es) (hM : SatN n es M) (hl : M.length = n) : strB n es = true := by
  unfold strB; simp only [decide_eq_true_eq]; exact iter_rest ho hM hl
def abv (L : List Nat) (l : List (Nat × Nat)) : Nat := l.foldl (fun m e => max m (gt L e.1 + e.2)) 0
theorem abv_snoc (L : List Nat) (l : List (Nat × Nat)) (e : Nat × Nat) : abv L (l ++ [e]) = max (abv L l) (gt L e.1 + e.2) := by unfold abv; rw [List.foldl_append]; rfl
theorem abvF (L : List Nat) : ∀ (l : List (Nat × Nat)) (m : Nat), m ≤ l.foldl (fun m e => max m (gt L e.1 + e.2)) m ∧ (∀ e, e ∈ l → gt L e.1 + e.2 ≤ l.foldl (fun m e => max m (gt L e.1 + e.2)) m) ∧ (l.foldl (fun m e => max m (gt L e.1 + e.2)) m = m ∨ ∃ e, e ∈ l ∧ l.foldl (fun m e => max m (gt L e.1 + e.2)) m = gt L e.1 + e.2)
  | [], m => ⟨Nat.le_refl _, fun e h => by simp at h, .inl rfl⟩
  | e :: l, m => by
    obtain ⟨h1, h2, h3⟩ := abvF L l (max m (gt L e.1 + e.2))
    rw [List.foldl_cons]
    refine ⟨by omega, fun e' he => ?_, ?_⟩
    · rcases List.mem_cons.1 he with rfl | he
      · omega
      · exact h2 e' he
    · rcases h3 with h3 | ⟨e', he, h3⟩
      · rw [h3]
        rcases Nat.le_total m (gt L e.1 + e.2) with h | h
        · right; exact ⟨e, List.mem_cons_self .., by omega⟩
        · left; omega
      · right; exact ⟨e', List.mem_cons_of_mem _ he, h3⟩
theorem abv_ge {L : List Nat} {l : List (Nat × Nat)} {e : Nat × Nat} (h : e ∈ l) : gt L e.1 + e.2 ≤ abv L l := (abvF L l 0).2.1 e h
theorem abv_or (L : List Nat) (l : List (Nat × Nat)) : abv L l = 0 ∨ ∃ e, e ∈ l ∧ abv L l = gt L e.1 + e.2 := (abvF L l 0).2.2
theorem abv_le {L : List Nat} {l : List (Nat × Nat)} {b : Nat} (h : ∀ e, e ∈ l → gt L e.1 + e.2 ≤ b) : abv L l ≤ b := by
  rcases abv_or L l with h1 | ⟨e, he, h1⟩
  · omega
  · rw [h1]; exact h e he
def lst (L : List Nat) (p q : List (Nat × Nat)) : Nat := max (abv L p) (abv L q)
structure Way (n : Nat) (es : Edges) (L : List Nat) : Prop where
  len : L.length = n
  top : ∀ i, i < n → gt L i ≤ n
  least : LeastN n es L
theorem Way.start (n : Nat) (es : Edges) : Way n es (List.replicate n 0) := ⟨by simp, fun i hi => by unfold gt; simp [hi], fun M _ => zero_le n M⟩
theorem Way.lst_le {n : Nat} {es : Edges} {L M : List Nat} (ho : OkE n es) (h : Way n es L) (hM : SatN n es M) {i : Nat} (hi : i < n) {p q : List (Nat × Nat)} (he : es i = p ++ q) : lst L p q ≤ gt M i := by
  have hx : ∀ e, e ∈ es i → gt L e.1 + e.2 ≤ gt M i := fun e h1 => by
    have h2 := h.least M hM e.1 (ho i hi e h1).1
    have h3 := hM i hi e h1
    omega
  have h1 : abv L p ≤ gt M i := abv_le fun e h => hx e (by rw [he]; exact List.mem_append_left _ h)
  have h2 : abv L q ≤ gt M i := abv_le fun e h => hx e (by rw [he]; exact List.mem_append_right _ h)
  unfold lst; omega
theorem Way.fails {n : Nat} {es : Edges} {L : List Nat} (ho : OkE n es) (h : Way n es L) {i : Nat} (hi : i < n) {p q : List (Nat × Nat)} (he : es i = p ++ q) (hg : n < lst L p q) : strB n es = false := by
  cases hb : strB n es with
  | false => rfl
  | true =>
    have h1 := h.lst_le ho (strB_sat hb) hi he
    have h2 := strB_lt ho hb i hi
    omega
theorem Way.lift {n : Nat} {es : Edges} {L : List Nat} (ho : OkE n es) (h : Way n es L) {i : Nat} (hi : i < n) {p q : List (Nat × Nat)} (he : es i = p ++ q) (hg : lst L p q ≤ n) : Way n es (L.set i (lst L p q)) := by
  refine ⟨by simp [h.len], fun k hk => ?_, fun M hM k hk => ?_⟩
  · by_cases hik : i = k
    · subst hik; rw [gt_set_self (by rw [h.len]; exact hi)]; exact hg
    · rw [gt_set_ne hik]; exact h.top k hk
  · by_cases hik : i = k
    · subst hik; rw [gt_set_self (by rw [h.len]; exact hi)]; exact h.lst_le ho hM hi he
    · rw [gt_set_ne hik]; exact h.least M hM k hk
theorem sum_set : ∀ {L : List Nat} {i x : Nat}, i < L.length → gt L i < x → sumN L < sumN (L.set i x)
  | [], i, x, h, _ => by simp at h
  | y :: ys, 0, x, h, hg => by simp [gt] at hg; simp [sumN]; omega
  | y :: ys, i + 1, x, h, hg => by
    have := sum_set (L := ys) (i := i) (x := x) (by simpa using h) (by simpa [gt] using hg)
    simp [sumN]; omega
def MetTo (es : Edges) (L : List Nat) (k : Nat) : Prop := ∀ i, i < k → ∀ e, e ∈ es i → gt L e.1 + e.2 ≤ gt L i
theorem MetTo.start (es : Edges) (L : List Nat) : MetTo es L 0 := fun i h => absurd h (Nat.not_lt_zero i)
theorem MetTo.succ {es : Edges} {L : List Nat} {k : Nat} (h : MetTo es L k) {p q : List (Nat × Nat)} (he : es k = p ++ q) (hg : lst L p q ≤ gt L k) : MetTo es L (k + 1) := by
  intro i hi e h1
  rcases Nat.lt_succ_iff_lt_or_eq.1 hi with h2 | rfl
  · exact h i h2 e h1
  · rw [he] at h1
    unfold lst at hg
    rcases List.mem_append.1 h1 with h2 | h2
    · have := abv_ge (L := L) h2; omega
    · have := abv_ge (L := L) h2; omega
theorem Way.done {n : Nat} {es : Edges} {L : List Nat} (ho : OkE n es) (h : Way n es L) (hm : MetTo es L n) : strB n es = true ∧ L = strL n es := by
  have h1 := strB_of ho hm h.len
  exact ⟨h1, LeN.anti (h.least _ (strB_sat h1)) (strB_least ho L hm) h.len (strL_len n es)⟩
end Go.Proofs.YtejgpghcahinhaaGreat
namespace Go.Proofs.YtejgpghcahinhaaGreat
open Go.RowKit Go.Sort
set_option linter.unusedVariables false
def depsZ (zs : List (N × Bool)) (u : Bool) : List ByteArray := (zs.filter fun p => inB p.1.op 8 9 && (p.2 == u)).map fun p => p.1.name
theorem depsZ_yes {zs : List (N × Bool)} {u : Bool} {k : Nat} {p : N × Bool} (h : zs[k]? = some p) (h1 : inB p.1.op 8 9 = true) (h2 : (p.2 == u) = true) : depsZ (zs.take (k + 1)) u = depsZ (zs.take k) u ++ [p.1.name] := by
  rw [take_snoc h]; unfold depsZ; rw [List.filter_append, List.map_append]; simp [h1, h2]
theorem depsZ_no {zs : List (N × Bool)} {u : Bool} {k : Nat} {p : N × Bool} (h : zs[k]? = some p) (hh : inB p.1.op 8 9 = false ∨ (p.2 == u) = false) : depsZ (zs.take (k + 1)) u = depsZ (zs.take k) u := by
  rw [take_snoc h]; unfold depsZ; rw [List.filter_append, List.map_append]
  rcases hh with hh | hh
  · simp [hh]
  · simp [hh]
theorem depsZ_le (zs : List (N × Bool)) (u : Bool) : (depsZ zs u).length ≤ zs.length := by
  unfold depsZ; rw [List.length_map]; exact List.length_filter_le _ _
theorem depsZ_tk (zs : List (N × Bool)) (u : Bool) (k : Nat) : (depsZ (zs.take k) u).length ≤ k := Nat.le_trans (depsZ_le _ _) (by rw [List.length_take]; omega)
noncomputable def zipN (xs : List N) : List (N × Bool) := xs.zip (negL xs)
theorem zipN_len (xs : List N) : (zipN xs).length = (negL xs).length := by
  unfold zipN; rw [List.length_zip]; have := negL_le xs; omega
theorem zipN_get {xs : List N} {k : Nat} {x : N} {b : Bool} (h1 : xs[k]? = some x) (h2 : (negL xs)[k]? = some b) : (zipN xs)[k]? = some (x, b) := by
  unfold zipN; exact List.getElem?_zip_eq_some.2 ⟨h1, h2⟩
noncomputable def depsL (xs : List N) (u : Bool) : List ByteArray := so (depsZ (zipN xs) u)
theorem depsL_le (xs : List N) (u : Bool) : (depsL xs u).length ≤ xs.length :=
  Nat.le_trans (so_len _) (Nat.le_trans (depsZ_le _ _) (by rw [zipN_len]; exact negL_le xs))
theorem Rd.rda {w : World} {a : Option Addr} {k n c : Nat} {cs : List Value} (h : Rd w (.slice a n c) k n cs) : RdA w a k n cs := by
  obtain ⟨a', c', h1, _, h2⟩ := h
  cases h1
  exact h2
set_option maxRecDepth 100000 in
set_option maxHeartbeats 1000000 in
theorem l12Names (va : Value) (u : Bool) (n : Nat) (xs : List N) (w : World) (ha : Rd w va 7 n (rows N.c xs)) (hx : n ≤ 4000000) (hz : szAll N.sz xs ≤ 4000000) :
    Calls Tryz.prog 107 #[va, .bool u] w fun e w' => ∃ v, e = .returned v ∧ w'.ownsRow w.heap.size 9 1 v (depsL xs u).length (strs (depsL xs u)) ∧ Grew w w' := by
  have HA := Lib.hid ha
  obtain ⟨a, ca, rfl, hca, hra⟩ := ha
  have HX := Lib.hid (hra.len_rows N.len (by decide))
  obtain ⟨i0, hi, hz0, hz1, hz2⟩ := info_parts Tryz.infoString
  go_enter Tryz.func107, Tryz.ntmps107
  go_wp2_with fail
  refine (specNegatedNodes _ n xs _ (HA.out.grew ((Grew.refl w).alloc (.cells #[] 9))) hx hz).mono ?_
  rintro e w1 ⟨vb, rfl, hnb, hb1⟩
  have HNB := Lib.hid hnb
  obtain ⟨na, nc, rfl⟩ := own_slice hnb
  clear hnb
  have hml := negL_le xs
  rw [HX.out] at hml
  generalize hm : (negL xs).length = m at hml HNB ⊢
  have HM := Lib.hid hm
  clear hm
  have HZ := Lib.hid ((zipN_len xs).trans HM.out)
  have hbw : Grew w w1 := ((Grew.refl w).alloc (.cells #[] 9)).trans hb1
  have hst : RdS w1 (.slice (some ⟨w.heap.size, 0, none⟩) 0 0) (so (depsZ ((zipN xs).take 0) u)) := (rds_of_own (xs := []) (lit_own w 9 1) (by simp)).grew hb1
  have HST := Lib.hid hst
  clear hst
  go_wp2
  go_loopw [5, 7] (fun v i wr => ∃ k : Nat, k ≤ m ∧ i = .int .i64 k ∧ Hid (RdS wr v (so (depsZ ((zipN xs).take k) u))) ∧ Grew w1 wr) (fun _ i _ => m - (intOf i).toNat)
  case atStart => exact ⟨0, Nat.zero_le _, rfl, HST, Grew.refl _⟩
  case round =>
    obtain ⟨k, hk, rfl, hrd, hg2⟩ := hrel
    have hbel := hbw.trans hg2
    have hnl := depsZ_tk (zipN xs) u k
    by_cases hlt : k < m
    · obtain ⟨b1, o1, x, rfl, hxk, c0, c1, c2, c3, c4, c5, c6⟩ := (hra.grew hbel).getN (show k < n by omega)
      obtain ⟨nb, no, b, hnab, hbk, cb⟩ := ((rd_of_own HNB.out).rda.grew hg2).one hlt
      cases hnab
      have HZK := Lib.hid (zipN_get hxk.out hbk.out)
      obtain ⟨v, hv⟩ : ∃ v, inB x.op 8 9 = v := ⟨_, rfl⟩
      obtain ⟨t, ht⟩ : ∃ t, (b == u) = t := ⟨_, rfl⟩
      have HV := Lib.hid hv
      have HT := Lib.hid ht
      clear hv
      have hkn : (k : Int) < (n : Int) := by omega
      have hcs : v = true ∨ v = false := by cases v <;> simp
      have hct : t = true ∨ t = false := by cases t <;> simp
      have hsl : (so (depsZ ((zipN xs).take k) u)).length ≤ 4000000 := by have := so_len (depsZ ((zipN xs).take k) u); omega
      rcases hcs with rfl | rfl
      · rcases hct with rfl | rfl
        · go_wp2_with (first | (go_at_call 89; refine (l01In _ 8 9 _).mono ?_; rintro e w2 ⟨he, rfl⟩; rw [HV.out] at he; subst he) | (go_at_call 173; refine (l04Put _ _ x.name _ hrd.out hsl).mono ?_; rintro e w3 ⟨v2, rfl, hrd2, hb2⟩; have HR2 := Lib.hid hrd2; clear hrd2))
          go_roundw
          case rel =>
            refine ⟨k + 1, by omega, by go_num, Lib.hid ?_, hg2.trans hb2⟩
            rw [depsZ_yes HZK.out HV.out HT.out, so_snoc]; exact HR2.out
          case measure => simp [intOf]; omega
        · go_wp2_with (go_at_call 89; refine (l01In _ 8 9 _).mono ?_; rintro e w2 ⟨he, rfl⟩; rw [HV.out] at he; subst he)
          go_roundw
          case rel =>
            refine ⟨k + 1, by omega, by go_num, Lib.hid ?_, hg2⟩
            rw [depsZ_no HZK.out (.inr HT.out)]; exact hrd.out
          case measure => simp [intOf]; omega
      · clear ht
        go_wp2_with (go_at_call 89; refine (l01In _ 8 9 _).mono ?_; rintro e w2 ⟨he, rfl⟩; rw [HV.out] at he; subst he)
        go_roundw
        case rel =>
          refine ⟨k + 1, by omega, by go_num, Lib.hid ?_, hg2⟩
          rw [depsZ_no HZK.out (.inl HV.out)]; exact hrd.out
        case measure => simp [intOf]; omega
    · obtain rfl : k = m := by omega
      have h1 := hrd.out
      rw [take_all HZ.out] at h1
      have hql : (depsL xs u).length ≤ 4000000 := by have := depsL_le xs u; have := HX.out; omega
      obtain ⟨ad, c, rfl, hc, hr⟩ := h1
      have HR := Lib.hid hr
      clear hr hrd
      generalize hL : (so (depsZ (zipN xs) u)).length = L at hc HR
      have hL2 : (depsL xs u).length = L := hL
      rw [hL2] at hql
      have HL := Lib.hid hL2
      clear hL hL2
      go_wp2_with (at_builtin; refine wpList_append_own _ rfl _ _ 44 rfl wr.heap.size 9 i0 (.string ⟨#[]⟩) 1 16 Tryz.underlying44 hi hz0 hz1 hz2 rfl (by decide) _ 0 [] rfl (lit_own wr 9 1) _ L _ (strs (depsL xs u)) rfl (by rw [List.length_map, HL.out, Nat.mul_one]) (rd_news HR.out ((Grew.refl _).alloc _)) (one_strs _) (by unfold maxLen; omega) (by omega) (by simp) ?_)
      intro v' w' hown' hgr _
      go_wp2
      go_ret
      refine ⟨_, rfl, ?_, (hbel.alloc _).grown hgr (fun k h => by cases h; exact hbel.size)⟩
      rw [HL.out]
      exact ownsRow_base (by simpa using hown') hbel.size
set_option maxRecDepth 100000 in
set_option maxHeartbeats 1000000 in
theorem depsBelow (va : Value) (u : Bool) (n : Nat) (xs : List N) (w : World) (ha : Rd w va 7 n (rows N.c xs)) (hx : n ≤ 4000000) (hz : szAll N.sz xs ≤ 4000000) :
    Calls Tryz.prog 161 #[va, .bool u] w fun e w' => ∃ v, e = .returned v ∧ w'.ownsRow w.heap.size 9 1 v (depsL xs u).length (strs (depsL xs u)) ∧ Grew w w' := by
  have HA := Lib.hid ha
  obtain ⟨a, ca, rfl, hca, hra⟩ := ha
  have HX := Lib.hid (hra.len_rows N.len (by decide))
  obtain ⟨i0, hi, hz0, hz1, hz2⟩ := info_parts Tryz.infoString
  go_enter Tryz.func161, Tryz.ntmps161
  go_wp2_with fail
  refine (implNegatedNodes _ n xs _ (HA.out.grew ((Grew.refl w).alloc (.cells #[] 9))) hx hz).mono ?_
  rintro e w1 ⟨vb, rfl, hnb, hb1⟩
  have HNB := Lib.hid hnb
  obtain ⟨na, nc, rfl⟩ := own_slice hnb
  clear hnb
  have hml := negL_le xs
  rw [HX.out] at hml
  generalize hm : (negL xs).length = m at hml HNB ⊢
  have HM := Lib.hid hm
  clear hm
  have HZ := Lib.hid ((zipN_len xs).trans HM.out)
  have hbw : Grew w w1 := ((Grew.refl w).alloc (.cells #[] 9)).trans hb1
  have HST := Lib.hid (show w1.ownsRow w.heap.size 9 1 (.slice (some ⟨w.heap.size, 0, none⟩) 0 0) (depsZ ((zipN xs).take 0) u).length (strs (depsZ ((zipN xs).take 0) u)) from ownsRow_grew (lit_own w 9 1) hb1)
  have HNW := Lib.hid (ownsRow_base HNB.out ((Grew.refl w).alloc (.cells #[] 9)).size)
  go_wp2
  go_loopw [5, 12] (fun v i wr => ∃ k : Nat, k ≤ m ∧ i = .int .i64 k ∧ Hid (wr.ownsRow w.heap.size 9 1 v (depsZ ((zipN xs).take k) u).length (strs (depsZ ((zipN xs).take k) u))) ∧ Hid (wr.ownsRow w.heap.size 4 1 (.slice na m nc) m (bools (negL xs))) ∧ Grew w wr) (fun _ i _ => m - (intOf i).toNat)
  case atStart => exact ⟨0, Nat.zero_le _, rfl, HST, HNW, hbw⟩
  case round =>
    obtain ⟨k, hk, rfl, hown, hnw, hbel⟩ := hrel
    have hnl := depsZ_tk (zipN xs) u k
    by_cases hlt : k < m
    · obtain ⟨b1, o1, x, rfl, hxk, c0, c1, c2, c3, c4, c5, c6⟩ := (hra.grew hbel).getN (show k < n by omega)
      obtain ⟨nb, no, b, hnab, hbk, cb⟩ := (rd_of_own hnw.out).rda.one hlt
      cases hnab
      have HZK := Lib.hid (zipN_get hxk.out hbk.out)
      obtain ⟨v, hv⟩ : ∃ v, inB x.op 8 9 = v := ⟨_, rfl⟩
      obtain ⟨t, ht⟩ : ∃ t, (b == u) = t := ⟨_, rfl⟩
      have HV := Lib.hid hv
      have HT := Lib.hid ht
      clear hv
      have hkn : (k : Int) < (n : Int) := by omega
      have hcs : v = true ∨ v = false := by cases v <;> simp
      have hct : t = true ∨ t = false := by cases t <;> simp
      obtain ⟨op, l, r, nm, vv⟩ := x
      simp only at c0 c1 c2 c3 c4 c5 c6
      rcases hcs with rfl | rfl
      · rcases hct with rfl | rfl
        · go_wp2_with (first | (go_at_call 214; refine (namesDir ⟨op, l, r, nm, vv⟩ _).mono ?_; rintro e w2 ⟨he, hb⟩; rw [HV.out] at he; subst he; have c9 := grew_cell hb c3) | (at_builtin; refine wpList_append_own _ rfl _ _ 44 rfl w.heap.size 9 i0 (.string ⟨#[]⟩) 1 16 Tryz.underlying44 hi hz0 hz1 hz2 rfl (by decide) _ _ _ rfl ((ownsRow_grew hown.out hb).alloc _) ⟨_, 0, none⟩ 1 1 [.string nm] rfl rfl (cell_one_new _ _ _) (fun x hx => by simp at hx; subst hx; rfl) (by unfold maxLen; omega) (by omega) (by have := (hbel.trans hb).size; simp; omega) ?_; intro v' w' hown' hgr _))
          go_roundw
          case rel =>
            refine ⟨k + 1, by omega, by go_num, Lib.hid ?_, Lib.hid (own_grown (own_of ((ownsRow_grew hnw.out hb).alloc _)) ((ownsRow_grew hown.out hb).alloc _) (by decide) hgr).1, ((hbel.trans hb).alloc _).grown hgr (fun g h => (hown.out.lt g h).1)⟩
            rw [depsZ_yes HZK.out HV.out HT.out]; simpa using hown'
          case measure => simp [intOf]; omega
        · go_wp2_with (go_at_call 214; refine (namesDir ⟨op, l, r, nm, vv⟩ _).mono ?_; rintro e w2 ⟨he, hb⟩; rw [HV.out] at he; subst he)
          go_roundw
          case rel =>
            refine ⟨k + 1, by omega, by go_num, Lib.hid ?_, Lib.hid (ownsRow_grew hnw.out hb), hbel.trans hb⟩
            rw [depsZ_no HZK.out (.inr HT.out)]; exact ownsRow_grew hown.out hb
          case measure => simp [intOf]; omega
      · clear ht
        go_wp2_with (go_at_call 214; refine (namesDir ⟨op, l, r, nm, vv⟩ _).mono ?_; rintro e w2 ⟨he, hb⟩; rw [HV.out] at he; subst he)
        go_roundw
        case rel =>
          refine ⟨k + 1, by omega, by go_num, Lib.hid ?_, Lib.hid (ownsRow_grew hnw.out hb), hbel.trans hb⟩
          rw [depsZ_no HZK.out (.inl HV.out)]; exact ownsRow_grew hown.out hb
        case measure => simp [intOf]; omega
    · obtain rfl : k = m := by omega
      have h1 := hown.out
      rw [take_all HZ.out] at h1
      have H1 := Lib.hid h1
      have hql : (depsZ (zipN xs) u).length ≤ 4000000 := by have := depsZ_le (zipN xs) u; have := HZ.out; omega
      clear h1 hown
      go_wp2_with (go_at_call 215; refine (sortedOnce _ _ _ _ (rd_of_own H1.out) hql).mono ?_; rintro e w2 ⟨v2, rfl, hown2, hb2⟩)
      go_ret
      exact ⟨_, rfl, ownsRow_base hown2 hbel.size, hbel.trans hb2⟩
set_option maxRecDepth 100000 in
set_option maxHeartbeats 1000000 in
theorem specNegativeDeps (va : Value) (n : Nat) (xs : List N) (w : World) (ha : Rd w va 7 n (rows N.c xs)) (hx : n ≤ 4000000) (hz : szAll N.sz xs ≤ 4000000) :
    Calls Tryz.prog 38 #[va] w fun e w' => ∃ v, e = .returned v ∧ w'.ownsRow w.heap.size 9 1 v (depsL xs true).length (strs (depsL xs true)) ∧ Grew w w' := by
  have HA := Lib.hid ha
  obtain ⟨a, ca, rfl, hca, hra⟩ := ha
  clear hra
  go_enter Tryz.func38, Tryz.ntmps38
  go_wp2_with (go_at_call 107; refine (l12Names _ true n xs _ HA.out hx hz).mono ?_; rintro e w1 ⟨v, rfl, hown, hb⟩)
  go_ret
  exact ⟨_, rfl, hown, hb⟩
set_option maxRecDepth 100000 in
set_option maxHeartbeats 1000000 in
theorem implNegativeDeps (va : Value) (n : Nat) (xs : List N) (w : World) (ha : Rd w va 7 n (rows N.c xs)) (hx : n ≤ 4000000) (hz : szAll N.sz xs ≤ 4000000) :
    Calls Tryz.prog 94 #[va] w fun e w' => ∃ v, e = .returned v ∧ w'.ownsRow w.heap.size 9 1 v (depsL xs true).length (strs (depsL xs true)) ∧ Grew w w' := by
  have HA := Lib.hid ha
  obtain ⟨a, ca, rfl, hca, hra⟩ := ha
  clear hra
  go_enter Tryz.func94, Tryz.ntmps94
  go_wp2_with (go_at_call 161; refine (depsBelow _ true n xs _ HA.out hx hz).mono ?_; rintro e w1 ⟨v, rfl, hown, hb⟩)
  go_ret
  exact ⟨_, rfl, hown, hb⟩
set_option maxRecDepth 100000 in
set_option maxHeartbeats 1000000 in
theorem specPositiveDeps (va : Value) (n : Nat) (xs : List N) (w : World) (ha : Rd w va 7 n (rows N.c xs)) (hx : n ≤ 4000000) (hz : szAll N.sz xs ≤ 4000000) :
    Calls Tryz.prog 37 #[va] w fun e w' => ∃ v, e = .returned v ∧ w'.ownsRow w.heap.size 9 1 v (depsL xs false).length (strs (depsL xs false)) ∧ Grew w w' := by
  have HA := Lib.hid ha
  obtain ⟨a, ca, rfl, hca, hra⟩ := ha
  clear hra
  go_enter Tryz.func37, Tryz.ntmps37
  go_wp2_with (go_at_call 107; refine (l12Names _ false n xs _ HA.out hx hz).mono ?_; rintro e w1 ⟨v, rfl, hown, hb⟩)
  go_ret
  exact ⟨_, rfl, hown, hb⟩
set_option maxRecDepth 100000 in
set_option maxHeartbeats 1000000 in
theorem implPositiveDeps (va : Value) (n : Nat) (xs : List N) (w : World) (ha : Rd w va 7 n (rows N.c xs)) (hx : n ≤ 4000000) (hz : szAll N.sz xs ≤ 4000000) :
    Calls Tryz.prog 93 #[va] w fun e w' => ∃ v, e = .returned v ∧ w'.ownsRow w.heap.size 9 1 v (depsL xs false).length (strs (depsL xs false)) ∧ Grew w w' := by
  have HA := Lib.hid ha
  obtain ⟨a, ca, rfl, hca, hra⟩ := ha
  clear hra
  go_enter Tryz.func93, Tryz.ntmps93
  go_wp2_with (go_at_call 161; refine (depsBelow _ false n xs _ HA.out hx hz).mono ?_; rintro e w1 ⟨v, rfl, hown, hb⟩)
  go_ret
  exact ⟨_, rfl, hown, hb⟩
end Go.Proofs.YtejgpghcahinhaaGreat
namespace Go.Proofs.YtejgpghcahinhaaGreat
open Go.ChangeShapes Go.WideShapes Go.ChangeAt Go.RowKit
open Go.ChangeMaps (open_string shut_string)
set_option linter.unusedVariables false
theorem own : ownKnob Tryz.prog.godebug = none := by kernel_rfl
theorem laidOut : laidOutB Tryz.prog = true := by kernel_rfl
theorem list_of {α : Type} {Q : Nat → α → Prop} : ∀ (n : Nat), (∀ i, i < n → ∃ a, Q i a) → ∃ xs : List α, xs.length = n ∧ ∀ i a, xs[i]? = some a → Q i a := by
  intro n
  induction n with
  | zero => intro _; exact ⟨[], rfl, fun i a h => by simp at h⟩
  | succ n ih =>
    intro h
    obtain ⟨xs, hl, hx⟩ := ih (fun i hi => h i (by omega))
    obtain ⟨a, ha⟩ := h n (by omega)
    refine ⟨xs ++ [a], by simp [hl], fun i b hb => ?_⟩
    by_cases hi : i < n
    · rw [List.getElem?_append_left (by omega)] at hb; exact hx i b hb
    · rw [List.getElem?_append_right (by omega)] at hb
      have : i = n := by
        have := (List.getElem?_eq_some_iff.1 hb).1
        simp at this; omega
      subst this
      rw [hl, Nat.sub_self] at hb
      simp at hb; subst hb; exact ha
theorem mapM_get {α β : Type} (f : α → Option β) : ∀ (l : List α) (r : List β), l.mapM f = some r → r.length = l.length ∧ ∀ (i : Nat) (a : α), l[i]? = some a → f a = r[i]? := by
  intro l
  induction l with
  | nil => intro r h; simp at h; subst h; exact ⟨rfl, fun i a h => by simp at h⟩
  | cons x l ih =>
    intro r h
    rw [List.mapM_cons] at h
    cases hx : f x with
    | none => simp [hx] at h
    | some y =>
      cases hl : l.mapM f with
      | none => simp [hx, hl] at h
      | some ys =>
        simp [hx, hl] at h
        subst h
        obtain ⟨h1, h2⟩ := ih ys hl
        refine ⟨by simp [h1], fun i a ha => ?_⟩
        cases i with
        | zero => simp at ha; subst ha; simpa using hx
        | succ i => simpa using h2 i a (by simpa using ha)
section
variable {H : Type} {enc : TypeId × Value → H} {P : Program} {w : World} {base : Nat} {spare : Nat → Bool} {held : Bool}
theorem open_rows {α : Type} {f : α → List Value} {ok : α → Prop} {t e : TypeId} {k fuel : Nat} {v : Value} {x : DataW H × List MemPlace} (ht : P.underlying t = some (.slice e)) (hk : P.cellsOf e = k) (h0 : 0 < k) (hf : ∀ a, (f a).length = k)
    (hE : ∀ n cs y, DataW.trod enc P w base spare held n e cs = some y → ∃ a, cs = f a ∧ ok a) (h : DataW.trod enc P w base spare held fuel t [v] = some x) :
    ∃ n xs, Rd w v k n (rows f xs) ∧ n ≤ maxLen ∧ ∀ a, a ∈ xs → ok a := by
  rcases Deep.open_slice ht h with ⟨hv, _⟩ | ⟨a, len, cap, m, n, D, Pl, hv, _, hl, hm, rfl, _, hel⟩
  · simp at hv; subst hv
    exact ⟨0, [], ⟨none, 0, rfl, Nat.le_refl _, by simp [rows], fun h => absurd h (by omega)⟩, Nat.zero_le _, fun a h => by simp at h⟩
  · simp at hv; subst hv
    have hlm : len ≤ (if spare a.block then cap else len) := by split <;> omega
    have hx : ∀ i, i < len → ∃ z, (ok z ∧ w.cells? base (a.add (i * k)) k = some (f z)) := by
      intro i hi
      obtain ⟨cs, hc, ht'⟩ := hel i (by omega)
      obtain ⟨z, rfl, hz⟩ := hE _ _ _ ht'
      rw [hk] at hc
      exact ⟨z, hz, hc⟩
    obtain ⟨xs, hxl, hxs⟩ := list_of len hx
    refine ⟨len, xs, ⟨some a, cap, rfl, hl, by rw [rows_length hf, hxl], fun hn => ?_⟩, by omega, fun z hz => ?_⟩
    · have cell : ∀ i z, xs[i]? = some z → ∀ j u, (f z)[j]? = some u → w.cell? (a.add (i * k + j)) = some u := by
        intro i z hi j u hu
        have hc := (hxs i z hi).2
        unfold World.cells? at hc
        split at hc
        · obtain ⟨h1, h2⟩ := mapM_get _ _ _ hc
          have hj : j < k := by rw [← hf z]; exact (List.getElem?_eq_some_iff.1 hu).1
          have := h2 j j (by rw [List.getElem?_range hj])
          rw [hu] at this
          rw [← this]
          congr 1
          simp only [Addr.add]
          by_cases h3 : i * k = 0
          · by_cases h4 : j = 0
            · simp [h3, h4]
            · simp [h3]
          · by_cases h4 : j = 0
            · simp [h4]
            · simp [h3, h4]; omega
        · cases hc
      obtain ⟨b, o, s⟩ := a
      have hs : s = none := by
        have h1 := cell 0 xs[0] (List.getElem?_eq_getElem (by omega)) 0 _ (List.getElem?_eq_getElem (by rw [hf]; exact h0))
        simpa [Addr.add] using World.cell?_spot h1
      subst hs
      refine ⟨b, o, rfl, fun j hj => ?_⟩
      have hd : j / k < len := (Nat.div_lt_iff_lt_mul h0).2 hj
      have hmd := Nat.mod_lt j h0
      have he : j = j / k * k + j % k := by rw [Nat.mul_comm]; exact (Nat.div_add_mod j k).symm
      have hg : xs[j / k]? = some (xs[j / k]'(by omega)) := List.getElem?_eq_getElem (by omega)
      have hu : (f (xs[j / k]'(by omega)))[j % k]? = some ((f (xs[j / k]'(by omega)))[j % k]'(by rw [hf]; exact hmd)) := List.getElem?_eq_getElem (by rw [hf]; exact hmd)
      have h1 := cell _ _ hg _ _ hu
      have h2 := rows_at hf xs (j / k) (j % k) _ hg hmd
      rw [← he] at h1 h2
      rw [h2, hu, ← h1]
      congr 1
      simp only [Addr.add]
      by_cases hz : j = 0
      · simp [hz]
      · simp [hz]
    · obtain ⟨i, hi, rfl⟩ := List.getElem_of_mem hz
      exact (hxs i _ (List.getElem?_eq_getElem hi)).1
theorem len_cons {α : Type} {l : List α} {n : Nat} (h : l.length = n + 1) : ∃ a t, l = a :: t ∧ t.length = n := by
  cases l with
  | nil => simp at h
  | cons a t => exact ⟨a, t, rfl, by simpa using h⟩
end
def I64 (n : Int) : Prop := -9223372036854775808 ≤ n ∧ n ≤ 9223372036854775807
theorem i64_of {n : Int} (h : (Lit.int .i64 n).wf = true) : I64 n := by simpa [I64, Lit.wf, IntKind.min, IntKind.max, IntKind.signed, IntKind.bits] using h
def V.ok (x : V) : Prop := I64 x.kind ∧ I64 x.int ∧ x.str.size ≤ maxLen
def N.ok (x : N) : Prop := I64 x.op ∧ I64 x.left ∧ I64 x.right ∧ x.name.size ≤ maxLen ∧ x.val.ok
def Fd.ok (x : Fd) : Prop := x.name.size ≤ maxLen ∧ I64 x.kind
def At.ok (x : At) : Prop := x.name.size ≤ maxLen ∧ x.val.ok
section
variable {H : Type} {enc : TypeId × Value → H} {w : World} {base : Nat} {spare : Nat → Bool} {held : Bool}
theorem getI {n : Nat} {cs : List Value} {y : DataW H × List MemPlace} (h : DataW.trod enc Tryz.prog w base spare held n 3 cs = some y) : ∃ a : Int, cs = [.int .i64 a] ∧ I64 a := by
  obtain ⟨a, rfl, _, hw⟩ := DataW.trod_int Tryz.underlying3 h
  exact ⟨a, rfl, i64_of hw⟩
theorem getS {n : Nat} {cs : List Value} {y : DataW H × List MemPlace} (h : DataW.trod enc Tryz.prog w base spare held n 9 cs = some y) : ∃ a : ByteArray, cs = [.string a] ∧ a.size ≤ maxLen := by
  obtain ⟨a, rfl, _, hw⟩ := DataW.trod_string Tryz.underlying9 h
  exact ⟨a, rfl, hw⟩
theorem getL {n : Nat} {cs : List Value} {y : DataW H × List MemPlace} (h : DataW.trod enc Tryz.prog w base spare held n 4 cs = some y) : ∃ a : Bool, cs = [.bool a] := by
  obtain ⟨a, rfl, _⟩ := DataW.trod_bool Tryz.underlying4 h
  exact ⟨a, rfl⟩
theorem getV {n : Nat} {cs : List Value} {y : DataW H × List MemPlace} (h : DataW.trod enc Tryz.prog w base spare held n 222 cs = some y) : ∃ a : V, cs = a.c ∧ a.ok := by
  obtain ⟨xs, m, _, _, hl, hx, hf⟩ := DataW.trod_struct Tryz.underlying222 h
  have hk : Tryz.prog.cellsOf 222 = 3 := by kernel_rfl
  rw [hk] at hl
  obtain ⟨c0, t0, rfl, hl0⟩ := len_cons hl
  obtain ⟨c1, t1, rfl, hl1⟩ := len_cons hl0
  obtain ⟨c2, t2, rfl, hl2⟩ := len_cons hl1
  obtain rfl := List.length_eq_zero_iff.1 hl2
  have k0 : Tryz.prog.cellsOf 3 = 1 := by kernel_rfl
  have f0 : DataW.trod enc Tryz.prog w base spare held m 3 [c0] = some (xs[0]'(by rw [hx]; decide)) := by
    have := hf 0 _ rfl
    rw [List.getElem?_eq_getElem (show 0 < xs.length by rw [hx]; decide)] at this
    simpa [k0] using this
  obtain ⟨a0, e0, o0⟩ := getI f0
  simp only [List.cons.injEq, and_true] at e0
  subst e0
  have k1 : Tryz.prog.cellsOf 3 = 1 := by kernel_rfl
  have f1 : DataW.trod enc Tryz.prog w base spare held m 3 [c1] = some (xs[1]'(by rw [hx]; decide)) := by
    have := hf 1 _ rfl
    rw [List.getElem?_eq_getElem (show 1 < xs.length by rw [hx]; decide)] at this
    simpa [k1] using this
  obtain ⟨a1, e1, o1⟩ := getI f1
  simp only [List.cons.injEq, and_true] at e1
  subst e1
  have k2 : Tryz.prog.cellsOf 9 = 1 := by kernel_rfl
  have f2 : DataW.trod enc Tryz.prog w base spare held m 9 [c2] = some (xs[2]'(by rw [hx]; decide)) := by
    have := hf 2 _ rfl
    rw [List.getElem?_eq_getElem (show 2 < xs.length by rw [hx]; decide)] at this
    simpa [k2] using this
  obtain ⟨a2, e2, o2⟩ := getS f2
  simp only [List.cons.injEq, and_true] at e2
  subst e2
  exact ⟨⟨a0, a1, a2⟩, rfl, o0, o1, o2⟩
theorem getN {n : Nat} {cs : List Value} {y : DataW H × List MemPlace} (h : DataW.trod enc Tryz.prog w base spare held n 224 cs = some y) : ∃ a : N, cs = a.c ∧ a.ok := by
  obtain ⟨xs, m, _, _, hl, hx, hf⟩ := DataW.trod_struct Tryz.underlying224 h
  have hk : Tryz.prog.cellsOf 224 = 7 := by kernel_rfl
  rw [hk] at hl
  obtain ⟨c0, t0, rfl, hl0⟩ := len_cons hl
  obtain ⟨c1, t1, rfl, hl1⟩ := len_cons hl0
  obtain ⟨c2, t2, rfl, hl2⟩ := len_cons hl1
  obtain ⟨c3, t3, rfl, hl3⟩ := len_cons hl2
  obtain ⟨c4, t4, rfl, hl4⟩ := len_cons hl3
  obtain ⟨c5, t5, rfl, hl5⟩ := len_cons hl4
  obtain ⟨c6, t6, rfl, hl6⟩ := len_cons hl5
  obtain rfl := List.length_eq_zero_iff.1 hl6
  have k0 : Tryz.prog.cellsOf 3 = 1 := by kernel_rfl
  have f0 : DataW.trod enc Tryz.prog w base spare held m 3 [c0] = some (xs[0]'(by rw [hx]; decide)) := by
    have := hf 0 _ rfl
    rw [List.getElem?_eq_getElem (show 0 < xs.length by rw [hx]; decide)] at this
    simpa [k0] using this
  obtain ⟨a0, e0, o0⟩ := getI f0
  simp only [List.cons.injEq, and_true] at e0
  subst e0
  have k1 : Tryz.prog.cellsOf 3 = 1 := by kernel_rfl
  have f1 : DataW.trod enc Tryz.prog w base spare held m 3 [c1] = some (xs[1]'(by rw [hx]; decide)) := by
    have := hf 1 _ rfl
    rw [List.getElem?_eq_getElem (show 1 < xs.length by rw [hx]; decide)] at this
    simpa [k1] using this
  obtain ⟨a1, e1, o1⟩ := getI f1
  simp only [List.cons.injEq, and_true] at e1
  subst e1
  have k2 : Tryz.prog.cellsOf 3 = 1 := by kernel_rfl
  have f2 : DataW.trod enc Tryz.prog w base spare held m 3 [c2] = some (xs[2]'(by rw [hx]; decide)) := by
    have := hf 2 _ rfl
    rw [List.getElem?_eq_getElem (show 2 < xs.length by rw [hx]; decide)] at this
    simpa [k2] using this
  obtain ⟨a2, e2, o2⟩ := getI f2
  simp only [List.cons.injEq, and_true] at e2
  subst e2
  have k3 : Tryz.prog.cellsOf 9 = 1 := by kernel_rfl
  have f3 : DataW.trod enc Tryz.prog w base spare held m 9 [c3] = some (xs[3]'(by rw [hx]; decide)) := by
    have := hf 3 _ rfl
    rw [List.getElem?_eq_getElem (show 3 < xs.length by rw [hx]; decide)] at this
    simpa [k3] using this
  obtain ⟨a3, e3, o3⟩ := getS f3
  simp only [List.cons.injEq, and_true] at e3
  subst e3
  have k4 : Tryz.prog.cellsOf 222 = 3 := by kernel_rfl
  have f4 : DataW.trod enc Tryz.prog w base spare held m 222 [c4, c5, c6] = some (xs[4]'(by rw [hx]; decide)) := by
    have := hf 4 _ rfl
    rw [List.getElem?_eq_getElem (show 4 < xs.length by rw [hx]; decide)] at this
    simpa [k4] using this
  obtain ⟨a4, e4, o4⟩ := getV f4
  simp only [V.c, List.cons.injEq, and_true] at e4
  obtain ⟨rfl, rfl, rfl⟩ := e4
  exact ⟨⟨a0, a1, a2, a3, a4⟩, rfl, o0, o1, o2, o3, o4⟩
theorem open_Ns {fuel : Nat} {v : Value} {x : DataW H × List MemPlace} (h : DataW.trod enc Tryz.prog w base spare held fuel 138 [v] = some x) :
    ∃ n xs, Rd w v 7 n (rows N.c xs) ∧ n ≤ maxLen ∧ ∀ a : N, a ∈ xs → a.ok :=
  open_rows (f := N.c) (ok := N.ok) Tryz.underlying138 (by kernel_rfl) (by decide) N.len (fun n cs y h => getN h) h
theorem getFd {n : Nat} {cs : List Value} {y : DataW H × List MemPlace} (h : DataW.trod enc Tryz.prog w base spare held n 186 cs = some y) : ∃ a : Fd, cs = a.c ∧ a.ok := by
  obtain ⟨xs, m, _, _, hl, hx, hf⟩ := DataW.trod_struct Tryz.underlying186 h
  have hk : Tryz.prog.cellsOf 186 = 2 := by kernel_rfl
  rw [hk] at hl
  obtain ⟨c0, t0, rfl, hl0⟩ := len_cons hl
  obtain ⟨c1, t1, rfl, hl1⟩ := len_cons hl0
  obtain rfl := List.length_eq_zero_iff.1 hl1
  have k0 : Tryz.prog.cellsOf 9 = 1 := by kernel_rfl
  have f0 : DataW.trod enc Tryz.prog w base spare held m 9 [c0] = some (xs[0]'(by rw [hx]; decide)) := by
    have := hf 0 _ rfl
    rw [List.getElem?_eq_getElem (show 0 < xs.length by rw [hx]; decide)] at this
    simpa [k0] using this
  obtain ⟨a0, e0, o0⟩ := getS f0
  simp only [List.cons.injEq, and_true] at e0
  subst e0
  have k1 : Tryz.prog.cellsOf 3 = 1 := by kernel_rfl
  have f1 : DataW.trod enc Tryz.prog w base spare held m 3 [c1] = some (xs[1]'(by rw [hx]; decide)) := by
    have := hf 1 _ rfl
    rw [List.getElem?_eq_getElem (show 1 < xs.length by rw [hx]; decide)] at this
    simpa [k1] using this
  obtain ⟨a1, e1, o1⟩ := getI f1
  simp only [List.cons.injEq, and_true] at e1
  subst e1
  exact ⟨⟨a0, a1⟩, rfl, o0, o1⟩
theorem open_Fds {fuel : Nat} {v : Value} {x : DataW H × List MemPlace} (h : DataW.trod enc Tryz.prog w base spare held fuel 81 [v] = some x) :
    ∃ n xs, Rd w v 2 n (rows Fd.c xs) ∧ n ≤ maxLen ∧ ∀ a : Fd, a ∈ xs → a.ok :=
  open_rows (f := Fd.c) (ok := Fd.ok) Tryz.underlying81 (by kernel_rfl) (by decide) Fd.len (fun n cs y h => getFd h) h
theorem getAt {n : Nat} {cs : List Value} {y : DataW H × List MemPlace} (h : DataW.trod enc Tryz.prog w base spare held n 239 cs = some y) : ∃ a : At, cs = a.c ∧ a.ok := by
  obtain ⟨xs, m, _, _, hl, hx, hf⟩ := DataW.trod_struct Tryz.underlying239 h
  have hk : Tryz.prog.cellsOf 239 = 4 := by kernel_rfl
  rw [hk] at hl
  obtain ⟨c0, t0, rfl, hl0⟩ := len_cons hl
  obtain ⟨c1, t1, rfl, hl1⟩ := len_cons hl0
  obtain ⟨c2, t2, rfl, hl2⟩ := len_cons hl1
  obtain ⟨c3, t3, rfl, hl3⟩ := len_cons hl2
  obtain rfl := List.length_eq_zero_iff.1 hl3
  have k0 : Tryz.prog.cellsOf 9 = 1 := by kernel_rfl
  have f0 : DataW.trod enc Tryz.prog w base spare held m 9 [c0] = some (xs[0]'(by rw [hx]; decide)) := by
    have := hf 0 _ rfl
    rw [List.getElem?_eq_getElem (show 0 < xs.length by rw [hx]; decide)] at this
    simpa [k0] using this
  obtain ⟨a0, e0, o0⟩ := getS f0
  simp only [List.cons.injEq, and_true] at e0
  subst e0
  have k1 : Tryz.prog.cellsOf 222 = 3 := by kernel_rfl
  have f1 : DataW.trod enc Tryz.prog w base spare held m 222 [c1, c2, c3] = some (xs[1]'(by rw [hx]; decide)) := by
    have := hf 1 _ rfl
    rw [List.getElem?_eq_getElem (show 1 < xs.length by rw [hx]; decide)] at this
    simpa [k1] using this
  obtain ⟨a1, e1, o1⟩ := getV f1
  simp only [V.c, List.cons.injEq, and_true] at e1
  obtain ⟨rfl, rfl, rfl⟩ := e1
  exact ⟨⟨a0, a1⟩, rfl, o0, o1⟩
theorem open_Ats {fuel : Nat} {v : Value} {x : DataW H × List MemPlace} (h : DataW.trod enc Tryz.prog w base spare held fuel 188 [v] = some x) :
    ∃ n xs, Rd w v 4 n (rows At.c xs) ∧ n ≤ maxLen ∧ ∀ a : At, a ∈ xs → a.ok :=
  open_rows (f := At.c) (ok := At.ok) Tryz.underlying188 (by kernel_rfl) (by decide) At.len (fun n cs y h => getAt h) h
end
end Go.Proofs.YtejgpghcahinhaaGreat
namespace Go.Proofs.YtejgpghcahinhaaGreat
open Go.ChangeShapes Go.WideShapes Go.ChangeAt Go.RowKit
open Go.ChangeMaps (open_string shut_string)
set_option linter.unusedVariables false
theorem V.ok.to0 {x : V} (h : x.ok) : x.ok0 := h.2.2
theorem N.ok.to0 {x : N} (h : x.ok) : x.ok0 := ⟨h.2.2.2.1, h.2.2.2.2.to0⟩
theorem Fd.ok.to0 {x : Fd} (h : x.ok) : x.ok0 := h.1
theorem At.ok.to0 {x : At} (h : x.ok) : x.ok0 := ⟨h.1, h.2.to0⟩
theorem pick2 {α β : Type} {Q : α → β → Prop} : ∀ (ps : List β), (∀ p, p ∈ ps → ∃ x, Q x p) → ∃ xs, All2 Q xs ps := by
  intro ps
  induction ps with
  | nil => intro _; exact ⟨[], All2.nil⟩
  | cons p ps ih =>
    intro h
    obtain ⟨x, hx⟩ := h p (by simp)
    obtain ⟨xs, hxs⟩ := ih (fun q hq => h q (by simp [hq]))
    refine ⟨x :: xs, by simp [hxs.1], fun i a b ha hb => ?_⟩
    cases i with
    | zero => simp at ha hb; subst ha; subst hb; exact hx
    | succ i => exact hxs.2 i a b (by simpa using ha) (by simpa using hb)
theorem mem_get {α : Type} {x : α} {xs : List α} (h : x ∈ xs) : ∃ i : Nat, xs[i]? = some x := by
  obtain ⟨i, hi, rfl⟩ := List.getElem_of_mem h
  exact ⟨i, List.getElem?_eq_getElem hi⟩
theorem All2.mem {α β : Type} {R : α → β → Prop} {xs : List α} {ys : List β} (h : All2 R xs ys) {x : α} (hx : x ∈ xs) : ∃ y, R x y := by
  obtain ⟨i, hi⟩ := mem_get hx
  have hl := (List.getElem?_eq_some_iff.1 hi).1
  exact ⟨_, h.2 i _ _ hi (List.getElem?_eq_getElem (show i < ys.length by rw [← h.1]; exact hl))⟩
section
variable {H : Type} {enc : TypeId × Value → H} {w : World} {base : Nat} {spare : Nat → Bool} {held : Bool}
theorem getDir {n : Nat} {cs : List Value} {y : DataW H × List MemPlace} (h : DataW.trod enc Tryz.prog w base spare held n 140 cs = some y) : ∃ p : P2, cs = p.c ∧ ∃ x : Dr, Dr.R w x p ∧ x.ok0 := by
  obtain ⟨xs, m, _, _, hl, hx, hf⟩ := DataW.trod_struct Tryz.underlying140 h
  have hk : Tryz.prog.cellsOf 140 = 2 := by kernel_rfl
  rw [hk] at hl
  obtain ⟨c0, t0, rfl, hl0⟩ := len_cons hl
  obtain ⟨c1, t1, rfl, hl1⟩ := len_cons hl0
  obtain rfl := List.length_eq_zero_iff.1 hl1
  have k0 : Tryz.prog.cellsOf 9 = 1 := by kernel_rfl
  have f0 : DataW.trod enc Tryz.prog w base spare held m 9 [c0] = some (xs[0]'(by rw [hx]; decide)) := by
    have := hf 0 _ rfl
    rw [List.getElem?_eq_getElem (show 0 < xs.length by rw [hx]; decide)] at this
    simpa [k0] using this
  obtain ⟨a0, e0, o0⟩ := getS f0
  simp only [List.cons.injEq, and_true] at e0
  subst e0
  have k1 : Tryz.prog.cellsOf 138 = 1 := by kernel_rfl
  have f1 : DataW.trod enc Tryz.prog w base spare held m 138 [c1] = some (xs[1]'(by rw [hx]; decide)) := by
    have := hf 1 _ rfl
    rw [List.getElem?_eq_getElem (show 1 < xs.length by rw [hx]; decide)] at this
    simpa [k1] using this
  obtain ⟨n1, l1, r1, q1, o1⟩ := open_Ns f1
  obtain rfl : l1.length = n1 := by obtain ⟨_, _, _, _, hh⟩ := r1; exact hh.len_rows N.len (by decide)
  exact ⟨⟨a0, c1⟩, rfl, ⟨a0, l1⟩, ⟨rfl, r1⟩, o0, q1, fun y hy => (o1 y hy).to0⟩
theorem open_dirs {fuel : Nat} {v : Value} {x : DataW H × List MemPlace} (h : DataW.trod enc Tryz.prog w base spare held fuel 85 [v] = some x) :
    ∃ xs : List Dr, RdDs w v xs ∧ xs.length ≤ maxLen ∧ ∀ x, x ∈ xs → x.ok0 := by
  obtain ⟨n, ps, h1, h2, h3⟩ := open_rows (f := P2.c) (ok := fun p : P2 => ∃ x : Dr, Dr.R w x p ∧ x.ok0) Tryz.underlying85 (by kernel_rfl) (by decide) P2.len (fun n cs y h => getDir h) h
  obtain ⟨xs, hx⟩ := pick2 ps h3
  have hl : ps.length = n := by obtain ⟨_, _, _, _, hh⟩ := h1; exact hh.len_rows P2.len (by decide)
  have hxl : xs.length = n := by rw [hx.1, hl]
  refine ⟨xs, ⟨ps, by rw [hxl]; exact h1, hx.mono fun x p h => h.1⟩, by rw [hxl]; exact h2, fun x hm => ?_⟩
  obtain ⟨p, hp⟩ := hx.mem hm
  exact hp.2
theorem getFile {n : Nat} {cs : List Value} {y : DataW H × List MemPlace} (h : DataW.trod enc Tryz.prog w base spare held n 190 cs = some y) : ∃ p : P5, cs = p.c ∧ ∃ x : Fl, Fl.R w x p ∧ x.ok0 := by
  obtain ⟨xs, m, _, _, hl, hx, hf⟩ := DataW.trod_struct Tryz.underlying190 h
  have hk : Tryz.prog.cellsOf 190 = 5 := by kernel_rfl
  rw [hk] at hl
  obtain ⟨c0, t0, rfl, hl0⟩ := len_cons hl
  obtain ⟨c1, t1, rfl, hl1⟩ := len_cons hl0
  obtain ⟨c2, t2, rfl, hl2⟩ := len_cons hl1
  obtain ⟨c3, t3, rfl, hl3⟩ := len_cons hl2
  obtain ⟨c4, t4, rfl, hl4⟩ := len_cons hl3
  obtain rfl := List.length_eq_zero_iff.1 hl4
  have k0 : Tryz.prog.cellsOf 3 = 1 := by kernel_rfl
  have f0 : DataW.trod enc Tryz.prog w base spare held m 3 [c0] = some (xs[0]'(by rw [hx]; decide)) := by
    have := hf 0 _ rfl
    rw [List.getElem?_eq_getElem (show 0 < xs.length by rw [hx]; decide)] at this
    simpa [k0] using this
  obtain ⟨a0, e0, o0⟩ := getI f0
  simp only [List.cons.injEq, and_true] at e0
  subst e0
  have k1 : Tryz.prog.cellsOf 3 = 1 := by kernel_rfl
  have f1 : DataW.trod enc Tryz.prog w base spare held m 3 [c1] = some (xs[1]'(by rw [hx]; decide)) := by
    have := hf 1 _ rfl
    rw [List.getElem?_eq_getElem (show 1 < xs.length by rw [hx]; decide)] at this
    simpa [k1] using this
  obtain ⟨a1, e1, o1⟩ := getI f1
  simp only [List.cons.injEq, and_true] at e1
  subst e1
  have k2 : Tryz.prog.cellsOf 4 = 1 := by kernel_rfl
  have f2 : DataW.trod enc Tryz.prog w base spare held m 4 [c2] = some (xs[2]'(by rw [hx]; decide)) := by
    have := hf 2 _ rfl
    rw [List.getElem?_eq_getElem (show 2 < xs.length by rw [hx]; decide)] at this
    simpa [k2] using this
  obtain ⟨a2, e2⟩ := getL f2
  simp only [List.cons.injEq, and_true] at e2
  subst e2
  have k3 : Tryz.prog.cellsOf 3 = 1 := by kernel_rfl
  have f3 : DataW.trod enc Tryz.prog w base spare held m 3 [c3] = some (xs[3]'(by rw [hx]; decide)) := by
    have := hf 3 _ rfl
    rw [List.getElem?_eq_getElem (show 3 < xs.length by rw [hx]; decide)] at this
    simpa [k3] using this
  obtain ⟨a3, e3, o3⟩ := getI f3
  simp only [List.cons.injEq, and_true] at e3
  subst e3
  have k4 : Tryz.prog.cellsOf 188 = 1 := by kernel_rfl
  have f4 : DataW.trod enc Tryz.prog w base spare held m 188 [c4] = some (xs[4]'(by rw [hx]; decide)) := by
    have := hf 4 _ rfl
    rw [List.getElem?_eq_getElem (show 4 < xs.length by rw [hx]; decide)] at this
    simpa [k4] using this
  obtain ⟨n4, l4, r4, q4, o4⟩ := open_Ats f4
  obtain rfl : l4.length = n4 := by obtain ⟨_, _, _, _, hh⟩ := r4; exact hh.len_rows At.len (by decide)
  exact ⟨⟨a0, a1, a2, a3, c4⟩, rfl, ⟨a0, a1, a2, a3, l4⟩, ⟨rfl, rfl, rfl, rfl, r4⟩, q4, fun y hy => (o4 y hy).to0⟩
theorem open_files {fuel : Nat} {v : Value} {x : DataW H × List MemPlace} (h : DataW.trod enc Tryz.prog w base spare held fuel 82 [v] = some x) :
    ∃ xs : List Fl, RdLs w v xs ∧ xs.length ≤ maxLen ∧ ∀ x, x ∈ xs → x.ok0 := by
  obtain ⟨n, ps, h1, h2, h3⟩ := open_rows (f := P5.c) (ok := fun p : P5 => ∃ x : Fl, Fl.R w x p ∧ x.ok0) Tryz.underlying82 (by kernel_rfl) (by decide) P5.len (fun n cs y h => getFile h) h
  obtain ⟨xs, hx⟩ := pick2 ps h3
  have hl : ps.length = n := by obtain ⟨_, _, _, _, hh⟩ := h1; exact hh.len_rows P5.len (by decide)
  have hxl : xs.length = n := by rw [hx.1, hl]
  refine ⟨xs, ⟨ps, by rw [hxl]; exact h1, hx.mono fun x p h => h.1⟩, by rw [hxl]; exact h2, fun x hm => ?_⟩
  obtain ⟨p, hp⟩ := hx.mem hm
  exact hp.2
def St.ok0 (s : St) : Prop := s.schema.length ≤ maxLen ∧ (∀ y, y ∈ s.schema → y.ok0) ∧ s.files.length ≤ maxLen ∧ (∀ y, y ∈ s.files → y.ok0) ∧ I64 s.next
theorem getStore {n : Nat} {cs : List Value} {y : DataW H × List MemPlace} (h : DataW.trod enc Tryz.prog w base spare held n 84 cs = some y) : ∃ (a b : Value) (s : St), cs = [a, b, .int .i64 s.next] ∧ Rd w a 2 s.schema.length (rows Fd.c s.schema) ∧ RdLs w b s.files ∧ s.ok0 := by
  obtain ⟨xs, m, _, _, hl, hx, hf⟩ := DataW.trod_struct Tryz.underlying84 h
  have hk : Tryz.prog.cellsOf 84 = 3 := by kernel_rfl
  rw [hk] at hl
  obtain ⟨c0, t0, rfl, hl0⟩ := len_cons hl
  obtain ⟨c1, t1, rfl, hl1⟩ := len_cons hl0
  obtain ⟨c2, t2, rfl, hl2⟩ := len_cons hl1
  obtain rfl := List.length_eq_zero_iff.1 hl2
  have k0 : Tryz.prog.cellsOf 81 = 1 := by kernel_rfl
  have k1 : Tryz.prog.cellsOf 82 = 1 := by kernel_rfl
  have k2 : Tryz.prog.cellsOf 3 = 1 := by kernel_rfl
  have f0 : DataW.trod enc Tryz.prog w base spare held m 81 [c0] = some (xs[0]'(by rw [hx]; decide)) := by
    have := hf 0 _ rfl
    rw [List.getElem?_eq_getElem (show 0 < xs.length by rw [hx]; decide)] at this
    simpa [k0] using this
  have f1 : DataW.trod enc Tryz.prog w base spare held m 82 [c1] = some (xs[1]'(by rw [hx]; decide)) := by
    have := hf 1 _ rfl
    rw [List.getElem?_eq_getElem (show 1 < xs.length by rw [hx]; decide)] at this
    simpa [k1] using this
  have f2 : DataW.trod enc Tryz.prog w base spare held m 3 [c2] = some (xs[2]'(by rw [hx]; decide)) := by
    have := hf 2 _ rfl
    rw [List.getElem?_eq_getElem (show 2 < xs.length by rw [hx]; decide)] at this
    simpa [k2] using this
  obtain ⟨n0, l0, r0, q0, o0⟩ := open_Fds f0
  obtain rfl : l0.length = n0 := by obtain ⟨_, _, _, _, hh⟩ := r0; exact hh.len_rows Fd.len (by decide)
  obtain ⟨l1, r1, q1, o1⟩ := open_files f1
  obtain ⟨a2, e2, o2⟩ := getI f2
  simp only [List.cons.injEq, and_true] at e2
  subst e2
  exact ⟨c0, c1, ⟨l0, l1, a2⟩, rfl, r0, r1, q0, fun y hy => (o0 y hy).to0, q1, o1, o2⟩
end
end Go.Proofs.YtejgpghcahinhaaGreat
namespace Go.Proofs.YtejgpghcahinhaaGreat
theorem j3 : (Tryz.pinned.checked.prog.mayEnter && ((Rows.fnNoninterferenceRow.lifted == Tryz.pinned.checked.prog.liftsFinal) && (Tryz.pinned.checked.prog.make == some Rows.fnNoninterferenceRow.make))) = true := by kernel_rfl
theorem j_may : Tryz.pinned.checked.prog.mayEnter = true := (Bool.and_eq_true_iff.1 j3).1
theorem j_lift : Tryz.pinned.checked.prog.liftsFinal = Rows.fnNoninterferenceRow.lifted := (eq_of_beq (Bool.and_eq_true_iff.1 (Bool.and_eq_true_iff.1 j3).2).1).symm
theorem j_make : Tryz.pinned.checked.prog.make = some Rows.fnNoninterferenceRow.make := eq_of_beq (Bool.and_eq_true_iff.1 (Bool.and_eq_true_iff.1 j3).2).2
end Go.Proofs.YtejgpghcahinhaaGreat
