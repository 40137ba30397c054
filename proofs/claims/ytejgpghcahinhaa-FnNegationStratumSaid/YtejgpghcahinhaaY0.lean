/- Plain law: which names can be reached along queries, and what two ways of closing a list reach. No program in sight. -/
import Derived.Test.YtejgpghcahinhaaK2
namespace Go.Proofs.Ytejgpghcahinhaa
open Go.RowKit Go.Sort
set_option linter.unusedVariables false

theorem beqB {a b : ByteArray} : (a.toList == b.toList) = true ↔ a = b := by
  rw [ByteArray.toList_eq, ByteArray.toList_eq]
  constructor
  · intro h
    have h1 : dl a = dl b := by simpa using h
    have h2 : mkb (dl a) = mkb (dl b) := by rw [h1]
    simpa only [mkb_dl] using h2
  · rintro rfl; simp
theorem hasB_iff {xs : List ByteArray} {s : ByteArray} : hasB xs s = true ↔ s ∈ xs := by
  unfold hasB
  rw [List.any_eq_true]
  constructor
  · rintro ⟨y, hy, h⟩; rw [beqB.1 h] at hy; exact hy
  · intro h; exact ⟨s, h, beqB.2 rfl⟩
theorem hasB_not {xs : List ByteArray} {s : ByteArray} : hasB xs s = false ↔ ¬ s ∈ xs := by
  rw [← hasB_iff]; simp
theorem so_ext {l1 l2 : List ByteArray} (h : ∀ y, y ∈ l1 ↔ y ∈ l2) : so l1 = so l2 := by
  unfold so
  congr 1
  have h1 := foldPut (l1.map dl) [] (List.Pairwise.nil)
  have h2 := foldPut (l2.map dl) [] (List.Pairwise.nil)
  refine asc_ext _ _ h1.1 h2.1 (fun y => ?_)
  unfold putAll
  rw [h1.2 y, h2.2 y]
  simp only [List.not_mem_nil, false_or, List.mem_map]
  constructor
  · rintro ⟨a, ha, rfl⟩; exact ⟨a, (h a).1 ha, rfl⟩
  · rintro ⟨a, ha, rfl⟩; exact ⟨a, (h a).2 ha, rfl⟩
theorem mem_so {l : List ByteArray} {y : ByteArray} : y ∈ so l ↔ y ∈ l := by
  unfold so putAll
  have h := foldPut (l.map dl) [] (List.Pairwise.nil)
  rw [List.mem_map]
  constructor
  · rintro ⟨z, hz, rfl⟩
    rcases (h.2 z).1 hz with hz | hz
    · cases hz
    · obtain ⟨b, hb, rfl⟩ := List.mem_map.1 hz
      exact hb
  · intro hy
    exact ⟨dl y, (h.2 _).2 (.inr (List.mem_map_of_mem hy)), rfl⟩

/-- What can be reached from some names: a directory is reached if its query names one that is reached. -/
inductive Reach (xs : List Dr) (ns : List ByteArray) : ByteArray → Prop
  | base {s : ByteArray} : s ∈ ns → Reach xs ns s
  | step {s : ByteArray} {x : Dr} : Reach xs ns s → x ∈ xs → s ∈ qDirs x.query → Reach xs ns x.name
theorem Reach.mem {xs : List Dr} {ns : List ByteArray} {s : ByteArray} (h : Reach xs ns s) : s ∈ ns ++ xs.map Dr.name := by
  cases h with
  | base h => exact List.mem_append_left _ h
  | step _ hx _ => exact List.mem_append_right _ (List.mem_map_of_mem hx)
noncomputable def clo (xs : List Dr) (ns : List ByteArray) : List ByteArray :=
  so ((ns ++ xs.map Dr.name).filter fun s => @decide (Reach xs ns s) (Classical.propDecidable _))
theorem mem_clo {xs : List Dr} {ns : List ByteArray} {s : ByteArray} : s ∈ clo xs ns ↔ Reach xs ns s := by
  unfold clo
  rw [mem_so, List.mem_filter]
  simp only [decide_eq_true_eq]
  exact ⟨fun h => h.2, fun h => ⟨h.mem, h⟩⟩
theorem clo_len (xs : List Dr) (ns : List ByteArray) : (clo xs ns).length ≤ ns.length + xs.length := by
  unfold clo
  refine Nat.le_trans (so_len _) (Nat.le_trans (List.length_filter_le _ _) ?_)
  simp
theorem clo_of {xs : List Dr} {ns L : List ByteArray} (h : ∀ y, y ∈ L ↔ Reach xs ns y) : so L = clo xs ns := by
  have : so L = so ((ns ++ xs.map Dr.name).filter fun s => @decide (Reach xs ns s) (Classical.propDecidable _)) := by
    refine so_ext fun y => ?_
    rw [h, List.mem_filter]
    simp only [decide_eq_true_eq]
    exact ⟨fun h => ⟨h.mem, h⟩, fun h => h.2⟩
  exact this
theorem reach_any {xs : List Dr} {ns : List ByteArray} {s : ByteArray} : Reach xs ns s ↔ ∃ y, y ∈ ns ∧ Reach xs [y] s := by
  constructor
  · intro h
    induction h with
    | base h => exact ⟨_, h, .base (by simp)⟩
    | step _ hx hq ih =>
      obtain ⟨y, hy, hr⟩ := ih
      exact ⟨y, hy, .step hr hx hq⟩
  · rintro ⟨y, hy, h⟩
    induction h with
    | base h => simp at h; subst h; exact .base hy
    | step _ hx hq ih => exact .step ih hx hq

theorem filt_le {α : Type} {p q : α → Bool} : ∀ {xs : List α}, (∀ x, x ∈ xs → q x = true → p x = true) → (xs.filter q).length ≤ (xs.filter p).length
  | [], _ => by simp
  | y :: ys, h => by
    have ih := filt_le (xs := ys) (fun x hx => h x (List.mem_cons_of_mem _ hx))
    have h0 := h y (List.mem_cons_self ..)
    rw [List.filter_cons, List.filter_cons]
    cases hq : q y with
    | true => rw [h0 hq]; simpa using ih
    | false =>
      cases p y
      · simpa using ih
      · simp; omega
theorem filt_lt {α : Type} {p q : α → Bool} : ∀ {xs : List α}, (∀ x, x ∈ xs → q x = true → p x = true) → ∀ {x : α}, x ∈ xs → p x = true → q x = false → (xs.filter q).length < (xs.filter p).length
  | [], _, x, hx, _, _ => by cases hx
  | y :: ys, h, x, hx, hp, hn => by
    have hr : ∀ x, x ∈ ys → q x = true → p x = true := fun x hx => h x (List.mem_cons_of_mem _ hx)
    rw [List.filter_cons, List.filter_cons]
    rcases List.mem_cons.1 hx with rfl | hx
    · rw [hp, hn]
      have := filt_le hr
      simp; omega
    · have ih := filt_lt hr hx hp hn
      have h0 := h y (List.mem_cons_self ..)
      cases hq : q y with
      | true => rw [h0 hq]; simpa using ih
      | false =>
        cases p y
        · simpa using ih
        · simp; omega

/-- A name put at the end, unless it is there. -/
def addN (L : List ByteArray) (s : ByteArray) : List ByteArray := if hasB L s then L else L ++ [s]
theorem addN_yes {L : List ByteArray} {s : ByteArray} (h : hasB L s = true) : addN L s = L := by unfold addN; rw [h]; rfl
theorem addN_no {L : List ByteArray} {s : ByteArray} (h : hasB L s = false) : addN L s = L ++ [s] := by unfold addN; rw [h]; rfl
theorem mem_addN {L : List ByteArray} {s y : ByteArray} : y ∈ addN L s ↔ y ∈ L ∨ y = s := by
  cases h : hasB L s with
  | true =>
    rw [addN_yes h]
    constructor
    · exact .inl
    · rintro (h1 | rfl)
      · exact h1
      · exact hasB_iff.1 h
  | false => rw [addN_no h]; simp
theorem so_addN {L : List ByteArray} {s : ByteArray} : so (addN L s) = putB (so L) s := by
  rw [← so_snoc]
  exact so_ext fun y => by rw [mem_addN]; simp
/-- How many directories are not in a list of names. -/
def cntN (xs : List Dr) (L : List ByteArray) : Nat := (xs.filter fun x => !hasB L x.name).length
theorem cnt_add {xs : List Dr} {L : List ByteArray} {x : Dr} (hx : x ∈ xs) : (addN L x.name).length + cntN xs (addN L x.name) ≤ L.length + cntN xs L := by
  cases h : hasB L x.name with
  | true => rw [addN_yes h]; exact Nat.le_refl _
  | false =>
    have h2 : cntN xs (addN L x.name) < cntN xs L := by
      unfold cntN
      refine filt_lt (fun y _ hy => ?_) hx (by simp [h]) (by simp [hasB_iff, mem_addN])
      have h3 : ¬ y.name ∈ addN L x.name := hasB_not.1 (by simpa using hy)
      rw [mem_addN] at h3
      have h4 : hasB L y.name = false := hasB_not.2 fun h => h3 (.inl h)
      rw [h4]; rfl
    rw [addN_no h]
    rw [addN_no h] at h2
    simp; omega
/-- A list on the way: it holds the names, only what is reached, and is not too long. -/
structure Good (xs : List Dr) (ns L : List ByteArray) : Prop where
  snd : ∀ y, y ∈ L → Reach xs ns y
  all : ∀ y, y ∈ ns → y ∈ L
  len : L.length + cntN xs L ≤ ns.length + xs.length
theorem Good.start (xs : List Dr) (ns : List ByteArray) : Good xs ns ns :=
  ⟨fun y h => .base h, fun y h => h, by have : cntN xs ns ≤ xs.length := List.length_filter_le _ _; omega⟩
theorem Good.le {xs : List Dr} {ns L : List ByteArray} (h : Good xs ns L) : L.length ≤ ns.length + xs.length := by have := h.len; omega
theorem Good.add {xs : List Dr} {ns L : List ByteArray} {s : ByteArray} {x : Dr} (h : Good xs ns L) (hx : x ∈ xs) (hs : s ∈ L) (hq : s ∈ qDirs x.query) : Good xs ns (addN L x.name) := by
  refine ⟨fun y hy => ?_, fun y hy => mem_addN.2 (.inl (h.all y hy)), Nat.le_trans (cnt_add hx) h.len⟩
  rcases mem_addN.1 hy with h1 | rfl
  · exact h.snd y h1
  · exact .step (h.snd s hs) hx hq
def Closed (xs : List Dr) (L : List ByteArray) : Prop := ∀ x, x ∈ xs → ∀ s, s ∈ qDirs x.query → s ∈ L → x.name ∈ L
theorem clo_done {xs : List Dr} {ns L : List ByteArray} (h : Good xs ns L) (hc : Closed xs L) : so L = clo xs ns := by
  refine clo_of fun y => ⟨h.snd y, fun hr => ?_⟩
  induction hr with
  | base h1 => exact h.all _ h1
  | step _ hx hq ih => exact hc _ hx _ hq ih

/-! Closing by passes over the directories. -/
def turn1 (L : List ByteArray) (x : Dr) : List ByteArray := if (qDirs x.query).any (hasB L) then addN L x.name else L
def pass (xs : List Dr) (L : List ByteArray) : List ByteArray := xs.foldl turn1 L
def passes (xs : List Dr) (ns : List ByteArray) : Nat → List ByteArray
  | 0 => ns
  | r + 1 => pass xs (passes xs ns r)
theorem any_iff {l L : List ByteArray} : l.any (hasB L) = true ↔ ∃ s, s ∈ l ∧ s ∈ L := by
  rw [List.any_eq_true]
  exact ⟨fun ⟨s, h, k⟩ => ⟨s, h, hasB_iff.1 k⟩, fun ⟨s, h, k⟩ => ⟨s, h, hasB_iff.2 k⟩⟩
theorem turn1_sub {L : List ByteArray} {x : Dr} {y : ByteArray} (h : y ∈ L) : y ∈ turn1 L x := by
  unfold turn1; split
  · exact mem_addN.2 (.inl h)
  · exact h
theorem Good.turn {xs : List Dr} {ns L : List ByteArray} {x : Dr} (h : Good xs ns L) (hx : x ∈ xs) : Good xs ns (turn1 L x) := by
  unfold turn1; split
  · rename_i ha
    obtain ⟨s, hs, hl⟩ := any_iff.1 ha
    exact h.add hx hl hs
  · exact h
theorem Good.fold {xs : List Dr} {ns : List ByteArray} : ∀ (ys : List Dr) {L : List ByteArray}, Good xs ns L → (∀ y, y ∈ ys → y ∈ xs) → Good xs ns (ys.foldl turn1 L)
  | [], L, h, _ => h
  | y :: ys, L, h, hs => Good.fold ys (h.turn (hs y (List.mem_cons_self ..))) (fun z hz => hs z (List.mem_cons_of_mem _ hz))
theorem Good.passes {xs : List Dr} {ns : List ByteArray} : ∀ (r : Nat), Good xs ns (passes xs ns r)
  | 0 => Good.start xs ns
  | r + 1 => Good.fold xs (Good.passes r) (fun _ h => h)
theorem fold_sub : ∀ (ys : List Dr) {L : List ByteArray} {y : ByteArray}, y ∈ L → y ∈ ys.foldl turn1 L
  | [], L, y, h => h
  | x :: ys, L, y, h => fold_sub ys (turn1_sub h)
theorem fold_fires : ∀ (ys : List Dr) {L : List ByteArray} {x : Dr} {s : ByteArray}, x ∈ ys → s ∈ qDirs x.query → s ∈ L → x.name ∈ ys.foldl turn1 L
  | [], L, x, s, h, _, _ => by cases h
  | y :: ys, L, x, s, h, hq, hl => by
    rcases List.mem_cons.1 h with rfl | h
    · refine fold_sub ys ?_
      unfold turn1
      rw [if_pos (any_iff.2 ⟨s, hq, hl⟩)]
      exact mem_addN.2 (.inr rfl)
    · exact fold_fires ys h hq (turn1_sub hl)
theorem fold_closed {xs : List Dr} {L : List ByteArray} (hc : Closed xs L) : ∀ (ys : List Dr), (∀ y, y ∈ ys → y ∈ xs) → ys.foldl turn1 L = L
  | [], _ => rfl
  | y :: ys, hs => by
    have h1 : turn1 L y = L := by
      unfold turn1; split
      · rename_i ha
        obtain ⟨s, hq, hl⟩ := any_iff.1 ha
        exact addN_yes (hasB_iff.2 (hc y (hs y (List.mem_cons_self ..)) s hq hl))
      · rfl
    rw [List.foldl_cons, h1]
    exact fold_closed hc ys (fun z hz => hs z (List.mem_cons_of_mem _ hz))
theorem passes_or {xs : List Dr} {ns : List ByteArray} : ∀ (r : Nat), Closed xs (passes xs ns r) ∨ cntN xs (passes xs ns r) + r ≤ xs.length
  | 0 => .inr (List.length_filter_le _ _)
  | r + 1 => by
    rcases passes_or (xs := xs) (ns := ns) r with h | h
    · left
      show Closed xs (pass xs (passes xs ns r))
      unfold pass
      rw [fold_closed h xs (fun _ h => h)]; exact h
    · by_cases hc : Closed xs (passes xs ns r)
      · left
        show Closed xs (pass xs (passes xs ns r))
        unfold pass
        rw [fold_closed hc xs (fun _ h => h)]; exact hc
      · right
        have h1 : ∃ x, x ∈ xs ∧ ∃ s, s ∈ qDirs x.query ∧ s ∈ passes xs ns r ∧ ¬ x.name ∈ passes xs ns r := by
          apply Classical.byContradiction
          intro h2
          apply hc
          intro x hx s hs hl
          apply Classical.byContradiction
          intro h3
          exact h2 ⟨x, hx, s, hs, hl, h3⟩
        obtain ⟨x, hx, s, hs, hl, hn⟩ := h1
        have h2 : cntN xs (passes xs ns (r + 1)) < cntN xs (passes xs ns r) := by
          unfold cntN
          refine filt_lt (fun y _ hy => ?_) hx (by rw [hasB_not.2 hn]; rfl) (by rw [show hasB (passes xs ns (r + 1)) x.name = true from hasB_iff.2 (fold_fires xs hx hs hl)]; rfl)
          have h3 : ¬ y.name ∈ passes xs ns (r + 1) := hasB_not.1 (by simpa using hy)
          rw [hasB_not.2 (fun h => h3 (fold_sub xs h))]; rfl
        omega
theorem passes_closed (xs : List Dr) (ns : List ByteArray) : Closed xs (passes xs ns (xs.length + 1)) := by
  rcases passes_or (xs := xs) (ns := ns) (xs.length + 1) with h | h
  · exact h
  · omega
theorem so_passes (xs : List Dr) (ns : List ByteArray) : so (passes xs ns (xs.length + 1)) = clo xs ns := clo_done (Good.passes _) (passes_closed xs ns)
/-- Where a pass stands. -/
def midL (xs : List Dr) (ns : List ByteArray) (r i : Nat) : List ByteArray := (xs.take i).foldl turn1 (passes xs ns r)
theorem midL_zero (xs : List Dr) (ns : List ByteArray) (r : Nat) : midL xs ns r 0 = passes xs ns r := rfl
theorem midL_all {xs : List Dr} (ns : List ByteArray) (r : Nat) {n : Nat} (h : xs.length = n) : midL xs ns r n = passes xs ns (r + 1) := by
  unfold midL; rw [take_all h]; rfl
theorem midL_succ {xs : List Dr} {i : Nat} {x : Dr} (ns : List ByteArray) (r : Nat) (h : xs[i]? = some x) : midL xs ns r (i + 1) = turn1 (midL xs ns r i) x := by
  unfold midL; rw [take_snoc h, List.foldl_append]; rfl
theorem Good.mid {xs : List Dr} {ns : List ByteArray} (r i : Nat) : Good xs ns (midL xs ns r i) := Good.fold _ (Good.passes r) (fun _ h => List.mem_of_mem_take h)
/-- Where one directory's turn stands after some of the names that it asks for. -/
def askL (L : List ByteArray) (x : Dr) (k : Nat) : List ByteArray := if ((qDirs x.query).take k).any (hasB L) then addN L x.name else L
theorem askL_zero (L : List ByteArray) (x : Dr) : askL L x 0 = L := by unfold askL; simp
theorem askL_all {L : List ByteArray} {x : Dr} {n : Nat} (h : (qDirs x.query).length = n) : askL L x n = turn1 L x := by unfold askL turn1; rw [take_all h]
theorem askL_yes {L : List ByteArray} {x : Dr} {k : Nat} {s : ByteArray} (h : (qDirs x.query)[k]? = some s) (hs : hasB (askL L x k) s = true) : so (askL L x (k + 1)) = putB (so (askL L x k)) x.name := by
  rw [← so_snoc]
  refine so_ext fun y => ?_
  have hs2 := hasB_iff.1 hs
  unfold askL at hs2 ⊢
  rw [take_snoc h, List.any_append]
  cases ha : ((qDirs x.query).take k).any (hasB L) with
  | true =>
    simp only [Bool.true_or, if_true, List.mem_append, mem_addN, List.mem_singleton]
    constructor
    · rintro (h | h); exact .inl (.inl h); exact .inr h
    · rintro ((h | h) | h); exact .inl h; exact .inr h; exact .inr h
  | false =>
    rw [ha] at hs2
    simp only [Bool.false_eq_true, if_false] at hs2
    have : hasB L s = true := hasB_iff.2 hs2
    simp only [List.any_cons, List.any_nil, this, Bool.or_false, Bool.false_or, if_true, Bool.false_eq_true, if_false, mem_addN, List.mem_append, List.mem_singleton]
theorem askL_no {L : List ByteArray} {x : Dr} {k : Nat} {s : ByteArray} (h : (qDirs x.query)[k]? = some s) (hs : hasB (askL L x k) s = false) : askL L x (k + 1) = askL L x k := by
  have hs2 := hasB_not.1 hs
  unfold askL at hs2 ⊢
  rw [take_snoc h, List.any_append]
  cases ha : ((qDirs x.query).take k).any (hasB L) with
  | true => simp
  | false =>
    rw [ha] at hs2
    simp only [Bool.false_eq_true, if_false] at hs2
    have : hasB L s = false := hasB_not.2 hs2
    simp [this]
theorem Good.ask {xs : List Dr} {ns L : List ByteArray} {x : Dr} (h : Good xs ns L) (hx : x ∈ xs) (k : Nat) : Good xs ns (askL L x k) := by
  unfold askL; split
  · rename_i ha
    obtain ⟨s, hs, hl⟩ := any_iff.1 ha
    exact h.add hx hl (List.mem_of_mem_take hs)
  · exact h

/-! Closing by a list that grows while it is read. -/
def DoneUp (xs : List Dr) (O : List ByteArray) (i : Nat) : Prop := ∀ (j : Nat) o, j < i → O[j]? = some o → ∀ x, x ∈ xs → o ∈ qDirs x.query → x.name ∈ O
theorem mem_dep {xs : List Dr} {s y : ByteArray} : y ∈ dep xs s ↔ ∃ x, x ∈ xs ∧ s ∈ qDirs x.query ∧ x.name = y := by
  unfold dep
  rw [List.mem_map]
  constructor
  · rintro ⟨x, hx, rfl⟩
    obtain ⟨h1, h2⟩ := List.mem_filter.1 hx
    exact ⟨x, h1, hasB_iff.1 h2, rfl⟩
  · rintro ⟨x, h1, h2, rfl⟩
    exact ⟨x, List.mem_filter.2 ⟨h1, hasB_iff.2 h2⟩, rfl⟩
theorem DoneUp.start (xs : List Dr) (O : List ByteArray) : DoneUp xs O 0 := fun j o h => absurd h (Nat.not_lt_zero j)
theorem addN_get {O : List ByteArray} {s o : ByteArray} {j : Nat} (h : O[j]? = some o) : (addN O s)[j]? = some o := by
  unfold addN; split
  · exact h
  · rw [List.getElem?_append_left (List.getElem?_eq_some_iff.1 h).1]; exact h
theorem addN_len (O : List ByteArray) (s : ByteArray) : O.length ≤ (addN O s).length := by
  unfold addN; split
  · exact Nat.le_refl _
  · simp
theorem DoneUp.add {xs : List Dr} {O : List ByteArray} {i : Nat} (h : DoneUp xs O i) (hi : i ≤ O.length) (s : ByteArray) : DoneUp xs (addN O s) i := by
  intro j o hj ho x hx hq
  have h1 : O[j]? = some o := by
    have h2 : O[j]? = some O[j] := List.getElem?_eq_getElem (by omega)
    have h3 := addN_get (s := s) h2
    rw [h2, ← h3, ho]
  exact mem_addN.2 (.inl (h j o hj h1 x hx hq))
theorem DoneUp.succ {xs : List Dr} {O : List ByteArray} {i : Nat} {o : ByteArray} (h : DoneUp xs O i) (ho : O[i]? = some o) (hd : ∀ s, s ∈ dep xs o → s ∈ O) : DoneUp xs O (i + 1) := by
  intro j p hj hp x hx hq
  rcases Nat.lt_succ_iff_lt_or_eq.1 hj with h1 | rfl
  · exact h j p h1 hp x hx hq
  · obtain rfl := Option.some.inj (ho.symm.trans hp)
    exact hd _ (mem_dep.2 ⟨x, hx, hq, rfl⟩)
theorem DoneUp.closed {xs : List Dr} {O : List ByteArray} (h : DoneUp xs O O.length) : Closed xs O := by
  intro x hx s hq hs
  obtain ⟨j, hj, rfl⟩ := List.getElem_of_mem hs
  exact h j _ hj (List.getElem?_eq_getElem hj) x hx hq
theorem Good.addDep {xs : List Dr} {ns O : List ByteArray} {o s : ByteArray} (h : Good xs ns O) (ho : o ∈ O) (hs : s ∈ dep xs o) : Good xs ns (addN O s) := by
  obtain ⟨x, hx, hq, rfl⟩ := mem_dep.1 hs
  exact h.add hx ho hq

/-! Who depends on whom. -/
noncomputable def asksB (xs : List Dr) (f t : ByteArray) : Bool := hasB (clo xs (dep xs t)) f
theorem asks_any (xs : List Dr) (f t : ByteArray) : asksB xs f t = (dep xs t).any fun y => hasB (clo xs [y]) f := by
  unfold asksB
  rw [Bool.eq_iff_iff, hasB_iff, mem_clo, reach_any, List.any_eq_true]
  constructor
  · rintro ⟨y, hy, h⟩; exact ⟨y, hy, hasB_iff.2 (mem_clo.2 h)⟩
  · rintro ⟨y, hy, h⟩; exact ⟨y, hy, mem_clo.1 (hasB_iff.1 h)⟩
noncomputable def recD (xs : List Dr) : List ByteArray := (xs.filter fun x => asksB xs x.name x.name).map Dr.name
end Go.Proofs.Ytejgpghcahinhaa
