/- Plain law: raising levels edge by edge, or by the greatest bound of each place, ends at the same least levels, or neither ends. No program in sight. -/
import Derived.Test.YtejgpghcahinhaaY0
namespace Go.Proofs.Ytejgpghcahinhaa
open Go.RowKit
set_option linter.unusedVariables false

def gt (L : List Nat) (i : Nat) : Nat := L.getD i 0
theorem gt_at {L : List Nat} {i x : Nat} (h : L[i]? = some x) : gt L i = x := by unfold gt; simp [h]
theorem gt_get {L : List Nat} {i : Nat} (h : i < L.length) : L[i]? = some (gt L i) := by unfold gt; simp [h]
theorem gt_set_self {L : List Nat} {i x : Nat} (h : i < L.length) : gt (L.set i x) i = x := by unfold gt; simp [h]
theorem gt_set_ne {L : List Nat} {i j x : Nat} (h : i ≠ j) : gt (L.set i x) j = gt L j := by unfold gt; simp [h]
theorem gt_ext {L M : List Nat} (h : L.length = M.length) (hg : ∀ i, i < L.length → gt L i = gt M i) : L = M := by
  apply List.ext_getElem h
  intro i h1 h2
  have := hg i h1
  unfold gt at this
  simpa [h1, h2] using this
/-- What each place asks for: places and how much above. -/
abbrev Edges := Nat → List (Nat × Nat)
def SatN (n : Nat) (es : Edges) (M : List Nat) : Prop := ∀ i, i < n → ∀ e, e ∈ es i → gt M e.1 + e.2 ≤ gt M i
def LeN (n : Nat) (L M : List Nat) : Prop := ∀ i, i < n → gt L i ≤ gt M i
theorem LeN.refl (n : Nat) (L : List Nat) : LeN n L L := fun _ _ => Nat.le_refl _
theorem LeN.trans {n : Nat} {L M K : List Nat} (h : LeN n L M) (k : LeN n M K) : LeN n L K := fun i hi => Nat.le_trans (h i hi) (k i hi)
theorem LeN.anti {n : Nat} {L M : List Nat} (h : LeN n L M) (k : LeN n M L) (hl : L.length = n) (hm : M.length = n) : L = M :=
  gt_ext (by omega) (fun i hi => Nat.le_antisymm (h i (by omega)) (k i (by omega)))
def OkE (n : Nat) (es : Edges) : Prop := ∀ i, i < n → ∀ e, e ∈ es i → e.1 < n ∧ e.2 ≤ 1
def LeastN (n : Nat) (es : Edges) (L : List Nat) : Prop := ∀ M, SatN n es M → LeN n L M

theorem gt_map {f : Nat → Nat} (h0 : f 0 = 0) (L : List Nat) (i : Nat) : gt (L.map f) i = f (gt L i) := by
  unfold gt
  by_cases h : i < L.length
  · simp [h]
  · simp [h, h0]
/-- In the least levels no level below the number of places is left out, so none reaches that number. -/
theorem least_lt {n : Nat} {es : Edges} {L : List Nat} (ho : OkE n es) (hs : SatN n es L) (hl : LeastN n es L) : ∀ i, i < n → gt L i < n := by
  intro i hi
  apply Classical.byContradiction
  intro hge
  have key : ∀ m, m ≤ n → ((List.range n).filter fun j => decide (m ≤ gt L j)).length + m ≤ n := by
    intro m
    induction m with
    | zero => intro _; exact Nat.le_trans (List.length_filter_le _ _) (by simp)
    | succ v ih =>
      intro hv
      have h1 := ih (by omega)
      by_cases hex : ∃ j, j < n ∧ gt L j = v
      · obtain ⟨j, hj, hjv⟩ := hex
        have := filt_lt (xs := List.range n) (p := fun j => decide (v ≤ gt L j)) (q := fun j => decide (v + 1 ≤ gt L j)) (fun x _ hx => by simp at hx ⊢; omega) (x := j) (by simpa using hj) (by simp [hjv]) (by simp [hjv])
        omega
      · exfalso
        have hM : SatN n es (L.map fun x => if v < x then x - 1 else x) := by
          intro a ha e he
          have h2 := hs a ha e he
          have h3 := (ho a ha e he).1
          have h4 := (ho a ha e he).2
          have h5 : gt L e.1 ≠ v := fun h => hex ⟨_, h3, h⟩
          rw [gt_map (by simp), gt_map (by simp)]
          split <;> split <;> omega
        have h2 := hl _ hM i hi
        rw [gt_map (by simp)] at h2
        split at h2 <;> omega
  have h1 := key n (Nat.le_refl _)
  have h2 : 0 < ((List.range n).filter fun j => decide (n ≤ gt L j)).length := by
    apply List.length_pos_of_mem (a := i)
    simp only [List.mem_filter, List.mem_range, decide_eq_true_eq]
    exact ⟨hi, by omega⟩
  omega

/-! Raising edge by edge. -/
def upd (i : Nat) (L : List Nat) (e : Nat × Nat) : List Nat := if gt L i < gt L e.1 + e.2 then L.set i (gt L e.1 + e.2) else L
def raise1 (es : Edges) (L : List Nat) (i : Nat) : List Nat := (es i).foldl (upd i) L
def raise (n : Nat) (es : Edges) (L : List Nat) : List Nat := (List.range n).foldl (raise1 es) L
theorem upd_len (i : Nat) (L : List Nat) (e : Nat × Nat) : (upd i L e).length = L.length := by unfold upd; split <;> simp
theorem updF_len (i : Nat) : ∀ (l : List (Nat × Nat)) (L : List Nat), (l.foldl (upd i) L).length = L.length
  | [], L => rfl
  | e :: l, L => by rw [List.foldl_cons, updF_len i l, upd_len]
theorem raiseF_len (es : Edges) : ∀ (l : List Nat) (L : List Nat), (l.foldl (raise1 es) L).length = L.length
  | [], L => rfl
  | i :: l, L => by rw [List.foldl_cons, raiseF_len es l]; exact updF_len i _ L
theorem raise_len (n : Nat) (es : Edges) (L : List Nat) : (raise n es L).length = L.length := raiseF_len es _ L
theorem upd_up (n i : Nat) (L : List Nat) (e : Nat × Nat) : LeN n L (upd i L e) := by
  intro k _
  unfold upd; split
  · by_cases h : i = k
    · subst h
      by_cases hi : i < L.length
      · rw [gt_set_self hi]; omega
      · rw [List.set_eq_of_length_le (by omega)]; exact Nat.le_refl _
    · rw [gt_set_ne h]; exact Nat.le_refl _
  · exact Nat.le_refl _
theorem updF_up (n i : Nat) : ∀ (l : List (Nat × Nat)) (L : List Nat), LeN n L (l.foldl (upd i) L)
  | [], L => LeN.refl n L
  | e :: l, L => (upd_up n i L e).trans (updF_up n i l _)
theorem raiseF_up (n : Nat) (es : Edges) : ∀ (l : List Nat) (L : List Nat), LeN n L (l.foldl (raise1 es) L)
  | [], L => LeN.refl n L
  | i :: l, L => (updF_up n i (es i) L).trans (raiseF_up n es l _)
theorem upd_le {n i : Nat} {L M : List Nat} {e : Nat × Nat} (h : LeN n L M) (h1 : e.1 < n) (h2 : gt M e.1 + e.2 ≤ gt M i) (hl : L.length = n) : LeN n (upd i L e) M := by
  intro k hk
  unfold upd; split
  · by_cases hik : i = k
    · subst hik
      rw [gt_set_self (by omega)]
      have := h _ h1; omega
    · rw [gt_set_ne hik]; exact h k hk
  · exact h k hk
theorem updF_le {n i : Nat} {M : List Nat} : ∀ (l : List (Nat × Nat)) {L : List Nat}, LeN n L M → (∀ e, e ∈ l → e.1 < n ∧ gt M e.1 + e.2 ≤ gt M i) → L.length = n → LeN n (l.foldl (upd i) L) M
  | [], L, h, _, _ => h
  | e :: l, L, h, hs, hl => by
    rw [List.foldl_cons]
    have h1 := hs e (List.mem_cons_self ..)
    exact updF_le l (upd_le h h1.1 h1.2 hl) (fun e he => hs e (List.mem_cons_of_mem _ he)) (by rw [upd_len]; exact hl)
theorem raiseF_le {n : Nat} {es : Edges} {M : List Nat} (ho : OkE n es) (hM : SatN n es M) : ∀ (l : List Nat) {L : List Nat}, LeN n L M → (∀ i, i ∈ l → i < n) → L.length = n → LeN n (l.foldl (raise1 es) L) M
  | [], L, h, _, _ => h
  | i :: l, L, h, hs, hl => by
    rw [List.foldl_cons]
    have hi := hs i (List.mem_cons_self ..)
    exact raiseF_le ho hM l (updF_le (es i) h (fun e he => ⟨(ho i hi e he).1, hM i hi e he⟩) hl) (fun i hi => hs i (List.mem_cons_of_mem _ hi)) (by unfold raise1; rw [updF_len]; exact hl)
theorem raise_le {n : Nat} {es : Edges} {L M : List Nat} (ho : OkE n es) (hM : SatN n es M) (h : LeN n L M) (hl : L.length = n) : LeN n (raise n es L) M :=
  raiseF_le ho hM _ h (fun i hi => by simpa using hi) hl
/-- A raise that changes nothing leaves every edge met. -/
theorem updF_same {n i : Nat} : ∀ (l : List (Nat × Nat)) {L : List Nat}, L.length = n → LeN n (l.foldl (upd i) L) L → ∀ e, e ∈ l → upd i L e = L
  | [], L, _, _, e, he => by cases he
  | e0 :: l, L, hl, h, e, he => by
    rw [List.foldl_cons] at h
    have h1 : upd i L e0 = L := (LeN.anti (LeN.trans (updF_up n i l _) h) (upd_up n i L e0) (by rw [upd_len]; exact hl) hl)
    rw [h1] at h
    rcases List.mem_cons.1 he with rfl | he
    · exact h1
    · exact updF_same l hl h e he
theorem raiseF_same {n : Nat} {es : Edges} : ∀ (l : List Nat) {L : List Nat}, L.length = n → LeN n (l.foldl (raise1 es) L) L → ∀ i, i ∈ l → ∀ e, e ∈ es i → upd i L e = L
  | [], L, _, _, i, hi, _, _ => by cases hi
  | i0 :: l, L, hl, h, i, hi, e, he => by
    rw [List.foldl_cons] at h
    have h1 : raise1 es L i0 = L := (LeN.anti (LeN.trans (raiseF_up n es l _) h) (updF_up n i0 (es i0) L) (by unfold raise1; rw [updF_len]; exact hl) hl)
    rcases List.mem_cons.1 hi with rfl | hi
    · exact updF_same (es i) hl (by unfold raise1 at h1; rw [h1]; exact LeN.refl n L) e he
    · rw [h1] at h
      exact raiseF_same l hl h i hi e he
theorem sat_of_same {n : Nat} {es : Edges} {L : List Nat} (hl : L.length = n) (h : raise n es L = L) : SatN n es L := by
  intro i hi e he
  have h1 := raiseF_same (List.range n) hl (by show LeN n (raise n es L) L; rw [h]; exact LeN.refl n L) i (by simpa using hi) e he
  unfold upd at h1
  split at h1
  · rename_i hlt
    have h2 : gt (L.set i (gt L e.1 + e.2)) i = gt L i := by rw [h1]
    rw [gt_set_self (by omega)] at h2
    omega
  · omega
theorem same_of_sat {n : Nat} {es : Edges} {L : List Nat} (ho : OkE n es) (hl : L.length = n) (h : SatN n es L) : raise n es L = L :=
  LeN.anti (raise_le ho h (LeN.refl n L) hl) (raiseF_up n es _ L) (by rw [raise_len]; exact hl) hl
def sumN : List Nat → Nat
  | [] => 0
  | x :: xs => x + sumN xs
theorem sum_le : ∀ {L M : List Nat}, L.length = M.length → (∀ i, i < L.length → gt L i ≤ gt M i) → sumN L ≤ sumN M ∧ (sumN L = sumN M → L = M)
  | [], [], _, _ => ⟨Nat.le_refl _, fun _ => rfl⟩
  | [], y :: ys, h, _ => by simp at h
  | x :: xs, [], h, _ => by simp at h
  | x :: xs, y :: ys, h, hg => by
    have ih := sum_le (L := xs) (M := ys) (by simpa using h) (fun i hi => by have := hg (i + 1) (by simpa using hi); simpa [gt] using this)
    have h0 := hg 0 (by simp)
    simp [gt] at h0
    unfold sumN
    refine ⟨by omega, fun h => ?_⟩
    have h1 : sumN xs = sumN ys := by omega
    have h2 : x = y := by omega
    rw [ih.2 h1, h2]
theorem sum_bound {n b : Nat} : ∀ {L : List Nat}, (∀ x, x ∈ L → x ≤ b) → L.length = n → sumN L ≤ n * b := by
  intro L
  induction L generalizing n with
  | nil => intro _ _; simp [sumN]
  | cons x xs ih =>
    intro h hl
    obtain ⟨m, rfl⟩ : ∃ m, n = m + 1 := ⟨xs.length, by simpa using hl.symm⟩
    have := ih (n := m) (fun y hy => h y (List.mem_cons_of_mem _ hy)) (by simpa using hl)
    have h0 := h x (List.mem_cons_self ..)
    unfold sumN; rw [Nat.succ_mul]; omega
def iter (n : Nat) (es : Edges) : Nat → List Nat
  | 0 => List.replicate n 0
  | r + 1 => raise n es (iter n es r)
theorem iter_len (n : Nat) (es : Edges) : ∀ r, (iter n es r).length = n
  | 0 => by simp [iter]
  | r + 1 => by unfold iter; rw [raise_len]; exact iter_len n es r
theorem zero_le (n : Nat) (M : List Nat) : LeN n (List.replicate n 0) M := by
  intro i hi
  have : gt (List.replicate n 0) i = 0 := by unfold gt; simp [hi]
  omega
theorem iter_le {n : Nat} {es : Edges} {M : List Nat} (ho : OkE n es) (hM : SatN n es M) : ∀ r, LeN n (iter n es r) M
  | 0 => zero_le n M
  | r + 1 => raise_le ho hM (iter_le ho hM r) (iter_len n es r)
theorem iter_or (n : Nat) (es : Edges) : ∀ r, raise n es (iter n es r) = iter n es r ∨ r ≤ sumN (iter n es r)
  | 0 => .inr (Nat.zero_le _)
  | r + 1 => by
    by_cases hs : raise n es (iter n es r) = iter n es r
    · left; unfold iter; rw [hs, hs]
    · right
      rcases iter_or n es r with h | h
      · exact absurd h hs
      · have h1 := sum_le (L := iter n es r) (M := raise n es (iter n es r)) (by rw [raise_len]) (fun i hi => raiseF_up n es _ _ i (by rw [iter_len] at hi; exact hi))
        have h2 : sumN (iter n es r) ≠ sumN (raise n es (iter n es r)) := fun h => hs (h1.2 h).symm
        show r + 1 ≤ sumN (raise n es (iter n es r))
        omega
theorem mem_gt {L : List Nat} {x : Nat} (h : x ∈ L) : ∃ i, i < L.length ∧ gt L i = x := by
  obtain ⟨i, hi, rfl⟩ := List.getElem_of_mem h
  exact ⟨i, hi, gt_at (List.getElem?_eq_getElem hi)⟩
/-- If any levels meet all edges, the raising has come to rest. -/
theorem iter_rest {n : Nat} {es : Edges} {M : List Nat} (ho : OkE n es) (hM : SatN n es M) (hl : M.length = n) : raise n es (iter n es (n * n + 2)) = iter n es (n * n + 2) := by
  have hsum : ∀ K, SatN n es K → K.length = n → ∀ r, sumN (iter n es r) ≤ sumN K := fun K hK hk r =>
    (sum_le (by rw [iter_len, hk]) (fun i hi => iter_le ho hK r i (by rw [iter_len] at hi; exact hi))).1
  have h1 : raise n es (iter n es (sumN M + 1)) = iter n es (sumN M + 1) := by
    rcases iter_or n es (sumN M + 1) with h | h
    · exact h
    · have := hsum M hM hl (sumN M + 1); omega
  have h2 := sat_of_same (iter_len n es _) h1
  have h3 : ∀ i, i < n → gt (iter n es (sumN M + 1)) i < n := least_lt ho h2 (fun K hK => iter_le ho hK _)
  have h4 : sumN (iter n es (sumN M + 1)) ≤ n * n := sum_bound (fun x hx => by
    obtain ⟨i, hi, rfl⟩ := mem_gt hx
    exact Nat.le_of_lt (h3 i (by rw [iter_len] at hi; exact hi))) (iter_len n es _)
  rcases iter_or n es (n * n + 2) with h | h
  · exact h
  · have := hsum _ h2 (iter_len n es _) (n * n + 2); omega
/-- The levels, and whether there are any. -/
def strL (n : Nat) (es : Edges) : List Nat := iter n es (n * n + 2)
def strB (n : Nat) (es : Edges) : Bool := decide (raise n es (strL n es) = strL n es)
theorem strL_len (n : Nat) (es : Edges) : (strL n es).length = n := iter_len n es _
theorem strB_sat {n : Nat} {es : Edges} (h : strB n es = true) : SatN n es (strL n es) := by
  unfold strB at h; exact sat_of_same (strL_len n es) (by simpa using h)
theorem strB_least {n : Nat} {es : Edges} (ho : OkE n es) : LeastN n es (strL n es) := fun M hM => iter_le ho hM _
theorem strB_lt {n : Nat} {es : Edges} (ho : OkE n es) (h : strB n es = true) : ∀ i, i < n → gt (strL n es) i < n := least_lt ho (strB_sat h) (strB_least ho)
theorem strB_of {n : Nat} {es : Edges} {M : List Nat} (ho : OkE n es) (hM : SatN n es M) (hl : M.length = n) : strB n es = true := by
  unfold strB; simp only [decide_eq_true_eq]; exact iter_rest ho hM hl

/-! Raising place by place to the greatest bound. -/
def abv (L : List Nat) (l : List (Nat × Nat)) : Nat := l.foldl (fun m e => max m (gt L e.1 + e.2)) 0
theorem abv_nil (L : List Nat) : abv L [] = 0 := rfl
theorem abv_snoc (L : List Nat) (l : List (Nat × Nat)) (e : Nat × Nat) : abv L (l ++ [e]) = max (abv L l) (gt L e.1 + e.2) := by unfold abv; rw [List.foldl_append]; rfl
theorem abvF (L : List Nat) : ∀ (l : List (Nat × Nat)) (m : Nat), m ≤ l.foldl (fun m e => max m (gt L e.1 + e.2)) m ∧ (∀ e, e ∈ l → gt L e.1 + e.2 ≤ l.foldl (fun m e => max m (gt L e.1 + e.2)) m) ∧ (l.foldl (fun m e => max m (gt L e.1 + e.2)) m = m ∨ ∃ e, e ∈ l ∧ l.foldl (fun m e => max m (gt L e.1 + e.2)) m = gt L e.1 + e.2)
  | [], m => ⟨Nat.le_refl _, fun e h => by simp at h, .inl rfl⟩
  | e :: l, m => by
    obtain ⟨h1, h2, h3⟩ := abvF L l (max m (gt L e.1 + e.2))
    rw [List.foldl_cons]
    refine ⟨by omega, fun e' he => ?_, ?_⟩
    · rcases List.mem_cons.1 he with rfl | he
      · omega
      · exact h2 e' he
    · rcases h3 with h3 | ⟨e', he, h3⟩
      · rw [h3]
        rcases Nat.le_total m (gt L e.1 + e.2) with h | h
        · right; exact ⟨e, List.mem_cons_self .., by omega⟩
        · left; omega
      · right; exact ⟨e', List.mem_cons_of_mem _ he, h3⟩
theorem abv_ge {L : List Nat} {l : List (Nat × Nat)} {e : Nat × Nat} (h : e ∈ l) : gt L e.1 + e.2 ≤ abv L l := (abvF L l 0).2.1 e h
theorem abv_or (L : List Nat) (l : List (Nat × Nat)) : abv L l = 0 ∨ ∃ e, e ∈ l ∧ abv L l = gt L e.1 + e.2 := (abvF L l 0).2.2
theorem abv_le {L : List Nat} {l : List (Nat × Nat)} {b : Nat} (h : ∀ e, e ∈ l → gt L e.1 + e.2 ≤ b) : abv L l ≤ b := by
  rcases abv_or L l with h1 | ⟨e, he, h1⟩
  · omega
  · rw [h1]; exact h e he
/-- The bound of one place. -/
def lst (L : List Nat) (p q : List (Nat × Nat)) : Nat := max (abv L p) (abv L q)
/-- A list on the way. -/
structure Way (n : Nat) (es : Edges) (L : List Nat) : Prop where
  len : L.length = n
  top : ∀ i, i < n → gt L i ≤ n
  least : LeastN n es L
theorem Way.start (n : Nat) (es : Edges) : Way n es (List.replicate n 0) := ⟨by simp, fun i hi => by unfold gt; simp [hi], fun M _ => zero_le n M⟩
theorem Way.lst_le {n : Nat} {es : Edges} {L M : List Nat} (ho : OkE n es) (h : Way n es L) (hM : SatN n es M) {i : Nat} (hi : i < n) {p q : List (Nat × Nat)} (he : es i = p ++ q) : lst L p q ≤ gt M i := by
  have hx : ∀ e, e ∈ es i → gt L e.1 + e.2 ≤ gt M i := fun e h1 => by
    have h2 := h.least M hM e.1 (ho i hi e h1).1
    have h3 := hM i hi e h1
    omega
  have h1 : abv L p ≤ gt M i := abv_le fun e h => hx e (by rw [he]; exact List.mem_append_left _ h)
  have h2 : abv L q ≤ gt M i := abv_le fun e h => hx e (by rw [he]; exact List.mem_append_right _ h)
  unfold lst; omega
theorem Way.fails {n : Nat} {es : Edges} {L : List Nat} (ho : OkE n es) (h : Way n es L) {i : Nat} (hi : i < n) {p q : List (Nat × Nat)} (he : es i = p ++ q) (hg : n < lst L p q) : strB n es = false := by
  cases hb : strB n es with
  | false => rfl
  | true =>
    have h1 := h.lst_le ho (strB_sat hb) hi he
    have h2 := strB_lt ho hb i hi
    omega
theorem Way.lift {n : Nat} {es : Edges} {L : List Nat} (ho : OkE n es) (h : Way n es L) {i : Nat} (hi : i < n) {p q : List (Nat × Nat)} (he : es i = p ++ q) (hg : lst L p q ≤ n) : Way n es (L.set i (lst L p q)) := by
  refine ⟨by simp [h.len], fun k hk => ?_, fun M hM k hk => ?_⟩
  · by_cases hik : i = k
    · subst hik; rw [gt_set_self (by rw [h.len]; exact hi)]; exact hg
    · rw [gt_set_ne hik]; exact h.top k hk
  · by_cases hik : i = k
    · subst hik; rw [gt_set_self (by rw [h.len]; exact hi)]; exact h.lst_le ho hM hi he
    · rw [gt_set_ne hik]; exact h.least M hM k hk
theorem sum_set : ∀ {L : List Nat} {i x : Nat}, i < L.length → gt L i < x → sumN L < sumN (L.set i x)
  | [], i, x, h, _ => by simp at h
  | y :: ys, 0, x, h, hg => by simp [gt] at hg; simp [sumN]; omega
  | y :: ys, i + 1, x, h, hg => by
    have := sum_set (L := ys) (i := i) (x := x) (by simpa using h) (by simpa [gt] using hg)
    simp [sumN]; omega
/-- The places up to k are met. -/
def MetTo (es : Edges) (L : List Nat) (k : Nat) : Prop := ∀ i, i < k → ∀ e, e ∈ es i → gt L e.1 + e.2 ≤ gt L i
theorem MetTo.start (es : Edges) (L : List Nat) : MetTo es L 0 := fun i h => absurd h (Nat.not_lt_zero i)
theorem MetTo.succ {es : Edges} {L : List Nat} {k : Nat} (h : MetTo es L k) {p q : List (Nat × Nat)} (he : es k = p ++ q) (hg : lst L p q ≤ gt L k) : MetTo es L (k + 1) := by
  intro i hi e h1
  rcases Nat.lt_succ_iff_lt_or_eq.1 hi with h2 | rfl
  · exact h i h2 e h1
  · rw [he] at h1
    unfold lst at hg
    rcases List.mem_append.1 h1 with h2 | h2
    · have := abv_ge (L := L) h2; omega
    · have := abv_ge (L := L) h2; omega
theorem Way.done {n : Nat} {es : Edges} {L : List Nat} (ho : OkE n es) (h : Way n es L) (hm : MetTo es L n) : strB n es = true ∧ L = strL n es := by
  have h1 := strB_of ho hm h.len
  exact ⟨h1, LeN.anti (h.least _ (strB_sat h1)) (strB_least ho L hm) h.len (strL_len n es)⟩
end Go.Proofs.Ytejgpghcahinhaa
