/- Plain law: inserting one by one into an ascending list gives what sorting and striking repeats gives. No program in sight. -/
import Derived.Test.YtgekgokkbakcmaaT
import Derived.Lib.SlicesCompact
import Derived.Sort.Walk0
namespace Go.Proofs.Ytgekgokkbakcmaa
open Go.RowKit
/-- A text put into an ascending list, unless it is there. -/
def putL {α : Type} [LT α] [DecidableLT α] [DecidableEq α] : List α → α → List α
  | [], s => [s]
  | x :: xs, s => if x < s then x :: putL xs s else if x = s then x :: xs else s :: x :: xs
def putAll {α : Type} [LT α] [DecidableLT α] [DecidableEq α] (xs : List α) : List α := xs.foldl putL []
/-- Strictly ascending. -/
def Asc {α : Type} [LT α] (xs : List α) : Prop := xs.Pairwise (· < ·)
class Ordered (α : Type) [LT α] : Prop where
  irrefl : ∀ a : α, ¬ a < a
  trans : ∀ a b c : α, a < b → b < c → a < c
  tri : ∀ a b : α, a < b ∨ a = b ∨ b < a
theorem putL_mem {α : Type} [LT α] [DecidableLT α] [DecidableEq α] : ∀ (xs : List α) (s y : α), y ∈ putL xs s ↔ y = s ∨ y ∈ xs
  | [], s, y => by simp [putL]
  | x :: xs, s, y => by
    unfold putL
    split
    · rw [List.mem_cons, putL_mem xs s y, List.mem_cons]
      constructor
      · rintro (h | h | h)
        · exact .inr (.inl h)
        · exact .inl h
        · exact .inr (.inr h)
      · rintro (h | h | h)
        · exact .inr (.inl h)
        · exact .inl h
        · exact .inr (.inr h)
    · split
      · rename_i h; subst h; simp
      · simp
theorem putL_asc {α : Type} [LT α] [DecidableLT α] [DecidableEq α] [Ordered α] : ∀ (xs : List α) (s : α), Asc xs → Asc (putL xs s)
  | [], s, _ => by simp [putL, Asc]
  | x :: xs, s, h => by
    unfold Asc at h
    rw [List.pairwise_cons] at h
    unfold putL
    split
    · rename_i hlt
      refine List.pairwise_cons.2 ⟨fun y hy => ?_, putL_asc xs s h.2⟩
      rcases (putL_mem xs s y).1 hy with rfl | hy
      · exact hlt
      · exact h.1 y hy
    · split
      · exact List.pairwise_cons.2 h
      · rename_i h1 h2
        have h3 : s < x := by
          rcases Ordered.tri x s with h4 | h4 | h4
          · exact absurd h4 h1
          · exact absurd h4 h2
          · exact h4
        refine List.pairwise_cons.2 ⟨fun y hy => ?_, List.pairwise_cons.2 h⟩
        rcases List.mem_cons.1 hy with rfl | hy
        · exact h3
        · exact Ordered.trans _ _ _ h3 (h.1 y hy)
theorem foldPut {α : Type} [LT α] [DecidableLT α] [DecidableEq α] [Ordered α] : ∀ (xs acc : List α), Asc acc → Asc (xs.foldl putL acc) ∧ ∀ y, y ∈ xs.foldl putL acc ↔ y ∈ acc ∨ y ∈ xs
  | [], acc, h => ⟨h, fun y => by simp⟩
  | x :: xs, acc, h => by
    have h1 := foldPut xs (putL acc x) (putL_asc acc x h)
    refine ⟨h1.1, fun y => ?_⟩
    rw [List.foldl_cons, h1.2 y, putL_mem, List.mem_cons]
    constructor
    · rintro ((h | h) | h)
      · exact .inr (.inl h)
      · exact .inl h
      · exact .inr (.inr h)
    · rintro (h | h | h)
      · exact .inl (.inr h)
      · exact .inl (.inl h)
      · exact .inr h
/-- Two strictly ascending lists of the same elements are one. -/
theorem asc_ext {α : Type} [LT α] [Ordered α] : ∀ (xs ys : List α), Asc xs → Asc ys → (∀ y, y ∈ xs ↔ y ∈ ys) → xs = ys
  | [], [], _, _, _ => rfl
  | [], y :: ys, _, _, h => by have := (h y).2 (List.mem_cons_self ..); simp at this
  | x :: xs, [], _, _, h => by have := (h x).1 (List.mem_cons_self ..); simp at this
  | x :: xs, y :: ys, hx, hy, h => by
    unfold Asc at hx hy
    rw [List.pairwise_cons] at hx hy
    have e : x = y := by
      rcases List.mem_cons.1 ((h x).1 (List.mem_cons_self ..)) with h1 | h1
      · exact h1
      · rcases List.mem_cons.1 ((h y).2 (List.mem_cons_self ..)) with h2 | h2
        · exact h2.symm
        · exact absurd (Ordered.trans _ _ _ (hy.1 x h1) (hx.1 y h2)) (Ordered.irrefl _)
    subst e
    congr 1
    refine asc_ext xs ys hx.2 hy.2 (fun z => ?_)
    have h3 := h z
    rw [List.mem_cons, List.mem_cons] at h3
    constructor
    · intro hz
      rcases h3.1 (.inr hz) with rfl | h4
      · exact absurd (hx.1 _ hz) (Ordered.irrefl _)
      · exact h4
    · intro hz
      rcases h3.2 (.inr hz) with rfl | h4
      · exact absurd (hy.1 _ hz) (Ordered.irrefl _)
      · exact h4
/-- What striking repeats leaves of a list, up to a place. -/
theorem compact_facts {α : Type} [LT α] [Inhabited α] [DecidableEq α] [Ordered α] (d : Array α) (hs : ∀ i j, i < j → j < d.size → d[i]! = d[j]! ∨ d[i]! < d[j]!) : ∀ m, m ≤ d.size →
    Asc (Lib.compactUpTo d m) ∧ (∀ y, y ∈ Lib.compactUpTo d m ↔ ∃ i, i < m ∧ y = d[i]!)
  | 0, _ => by simp [Lib.compactUpTo, Asc]
  | m + 1, hm => by
    obtain ⟨h1, h2⟩ := compact_facts d hs m (by omega)
    rw [Lib.compactUpTo_succ]
    cases hk : Lib.keeps d m with
    | true =>
      rw [if_pos rfl]
      refine ⟨List.pairwise_append.2 ⟨h1, List.pairwise_singleton _ _, fun a ha b hb => ?_⟩, fun y => ?_⟩
      · simp at hb; subst hb
        obtain ⟨i, hi, rfl⟩ := (h2 a).1 ha
        rcases hs i m hi (by omega) with h3 | h3
        · exfalso
          have h4 : d[m]! ≠ d[m - 1]! := by
            intro e
            rw [Lib.keeps_neg (by omega) e] at hk; cases hk
          rcases Nat.lt_or_ge i (m - 1) with h5 | h5
          · rcases hs i (m - 1) h5 (by omega) with h6 | h6
            · exact h4 (by rw [← h3, h6])
            · rcases hs (m - 1) m (by omega) (by omega) with h7 | h7
              · exact h4 h7.symm
              · rw [h3] at h6; exact Ordered.irrefl _ (Ordered.trans _ _ _ h6 h7)
          · have : i = m - 1 := by omega
            subst this; exact h4 h3.symm
        · exact h3
      · rw [List.mem_append, h2]
        simp only [List.mem_singleton]
        constructor
        · rintro (⟨i, hi, rfl⟩ | rfl)
          · exact ⟨i, by omega, rfl⟩
          · exact ⟨m, by omega, rfl⟩
        · rintro ⟨i, hi, rfl⟩
          rcases Nat.lt_succ_iff_lt_or_eq.1 hi with h | rfl
          · exact .inl ⟨i, h, rfl⟩
          · exact .inr rfl
    | false =>
      rw [if_neg (by simp), List.append_nil]
      refine ⟨h1, fun y => ?_⟩
      rw [h2]
      have hm0 : 0 < m := by
        rcases Nat.eq_zero_or_pos m with h | h
        · subst h; rw [Lib.keeps_lt_one d 0 (by omega)] at hk; cases hk
        · exact h
      have h4 : d[m]! = d[m - 1]! := Decidable.byContradiction fun h => by rw [Lib.keeps_pos h] at hk; cases hk
      constructor
      · rintro ⟨i, hi, rfl⟩; exact ⟨i, by omega, rfl⟩
      · rintro ⟨i, hi, rfl⟩
        rcases Nat.lt_succ_iff_lt_or_eq.1 hi with h | rfl
        · exact ⟨i, h, rfl⟩
        · exact ⟨i - 1, by omega, h4⟩
theorem compact_put {α : Type} [LT α] [DecidableLT α] [Inhabited α] [DecidableEq α] [Ordered α] (xs zs : List α) (hp : zs.Perm xs) (hs : zs.Pairwise fun a b => a = b ∨ a < b) : Lib.compact zs = putAll xs := by
  have h1 := foldPut xs [] (List.Pairwise.nil)
  have h2 := compact_facts zs.toArray (fun i j hij hj => by
    have hj' : j < zs.length := by simpa using hj
    have := List.pairwise_iff_getElem.1 hs i j (by omega) hj' hij
    simpa [getElem!_pos, hj', show i < zs.length by omega] using this) zs.length (by simp)
  refine asc_ext _ _ h2.1 h1.1 (fun y => ?_)
  unfold putAll Lib.compact
  rw [h2.2 y, h1.2 y]
  simp only [List.not_mem_nil, false_or]
  rw [← hp.mem_iff, List.mem_iff_getElem]
  constructor
  · rintro ⟨i, hi, rfl⟩; exact ⟨i, hi, by simp [hi]⟩
  · rintro ⟨i, hi, rfl⟩; exact ⟨i, hi, by simp [hi]⟩
end Go.Proofs.Ytgekgokkbakcmaa
