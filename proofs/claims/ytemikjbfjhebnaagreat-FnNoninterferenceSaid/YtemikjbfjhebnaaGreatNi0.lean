/- Texts P, T, H1, H2, C1, H3, C2, E1, H4, as far as they are needed. -/
import Derived.WalkKit
import Derived.WalkSpells
import Derived.WalkLawsBesides
import Derived.Lib.Hide
import Derived.Deep.QuietTactic
import Derived.BigQuiet
import Derived.Deep.RegionHeld3
import Derived.Test.YtemikjbfjhebnaaGreatRows
import Derived.StillTailTactics
import Derived.Deep.Light
import Derived.Deep.DeepCutAuto
namespace Go.Proofs.YtemikjbfjhebnaaGreat
open Go.RowKit
def RdA (w : World) (a : Option Addr) (k n : Nat) (cs : List Value) : Prop :=
  cs.length = n * k ∧ (0 < n → ∃ b o, a = some ⟨b, o, none⟩ ∧ ∀ j, j < n * k → w.cell? ⟨b, o + j, none⟩ = cs[j]?)
def Rd (w : World) (v : Value) (k n : Nat) (cs : List Value) : Prop := ∃ a cap, v = .slice a n cap ∧ n ≤ cap ∧ RdA w a k n cs
theorem ret_bool {a b : Bool} (h : a = b) : Ending.returned (.bool a) = .returned (.bool b) := by rw [h]
theorem ret_int {k : IntKind} {a b : Int} (h : a = b) : Ending.returned (.int k a) = .returned (.int k b) := by rw [h]
theorem lt_of_cell {w : World} {a : Addr} {v : Value} (h : w.cell? a = some v) : a.block < w.heap.size := by
  simp only [World.cell?] at h
  apply Decidable.byContradiction
  intro hge
  rw [Array.getElem?_eq_none (by omega)] at h
  cases h
theorem RdA.below {w w' : World} {a : Option Addr} {k n : Nat} {cs : List Value} (h : RdA w a k n cs) (hb : Below w.heap.size w w') : RdA w' a k n cs := by
  obtain ⟨hl, hr⟩ := h
  refine ⟨hl, fun hn => ?_⟩
  obtain ⟨b, o, rfl, hj⟩ := hr hn
  refine ⟨b, o, rfl, fun j hjn => ?_⟩
  have h0 := hj j hjn
  rw [List.getElem?_eq_getElem (by omega)] at h0
  rw [hb.cell (p := ⟨b, o + j, none⟩) (lt_of_cell h0)]
  exact hj j hjn
theorem Rd.below {w w' : World} {v : Value} {k n : Nat} {cs : List Value} (h : Rd w v k n cs) (hb : Below w.heap.size w w') : Rd w' v k n cs := by
  obtain ⟨a, cap, rfl, hc, hr⟩ := h
  exact ⟨a, cap, rfl, hc, hr.below hb⟩
theorem RdA.at {w : World} {a : Option Addr} {k n : Nat} {cs : List Value} (h : RdA w a k n cs) (hn : 0 < n) :
    ∃ b o, a = some ⟨b, o, none⟩ ∧ ∀ j u, cs[j]? = some u → w.cell? ⟨b, o + j, none⟩ = some u := by
  obtain ⟨b, o, rfl, hj⟩ := h.2 hn
  refine ⟨b, o, rfl, fun j u hu => ?_⟩
  have hjn : j < n * k := by
    rw [← h.1]
    exact (List.getElem?_eq_some_iff.1 hu).1
  rw [hj j hjn, hu]
theorem RdA.len_map {α : Type} {f : α → Value} {w : World} {a : Option Addr} {n : Nat} {xs : List α} (h : RdA w a 1 n (xs.map f)) : xs.length = n := by
  have := h.1; simpa using this
theorem RdA.one {α : Type} {f : α → Value} {w : World} {a : Option Addr} {n : Nat} {xs : List α} (h : RdA w a 1 n (xs.map f)) {i : Nat} (hi : i < n) :
    ∃ b o x, a = some ⟨b, o, none⟩ ∧ Hid (xs[i]? = some x) ∧ w.cell? ⟨b, o + i, none⟩ = some (f x) := by
  obtain ⟨b, o, rfl, hc⟩ := h.at (by omega)
  have hl := h.len_map
  refine ⟨b, o, xs[i], rfl, List.getElem?_eq_getElem (by omega), hc i _ ?_⟩
  simp [List.getElem?_eq_getElem (show i < xs.length by omega)]
def rows {α : Type} (enc : α → List Value) (xs : List α) : List Value := (xs.map enc).flatten
theorem rows_cons {α : Type} (enc : α → List Value) (x : α) (xs : List α) : rows enc (x :: xs) = enc x ++ rows enc xs := rfl
theorem rows_append {α : Type} (enc : α → List Value) (xs ys : List α) : rows enc (xs ++ ys) = rows enc xs ++ rows enc ys := by simp [rows]
theorem rows_length {α : Type} {enc : α → List Value} {k : Nat} (hk : ∀ x, (enc x).length = k) (xs : List α) : (rows enc xs).length = xs.length * k := by
  induction xs with
  | nil => simp [rows]
  | cons x xs ih => rw [rows_cons, List.length_append, hk, ih, List.length_cons, Nat.succ_mul]; omega
theorem rows_at {α : Type} {enc : α → List Value} {k : Nat} (hk : ∀ x, (enc x).length = k) : ∀ (xs : List α) (i j : Nat) (x : α), xs[i]? = some x → j < k → (rows enc xs)[i * k + j]? = (enc x)[j]? := by
  intro xs
  induction xs with
  | nil => intro i j x h; simp at h
  | cons y ys ih =>
    intro i j x h hj
    rw [rows_cons]
    cases i with
    | zero =>
      simp at h; subst h
      rw [Nat.zero_mul, Nat.zero_add, List.getElem?_append_left (by rw [hk]; exact hj)]
    | succ i =>
      simp at h
      rw [List.getElem?_append_right (by rw [hk, Nat.succ_mul]; omega), hk, show (i + 1) * k + j - k = i * k + j by rw [Nat.succ_mul]; omega]
      exact ih i j x h hj
theorem RdA.len_rows {α : Type} {enc : α → List Value} {k : Nat} (hk : ∀ x, (enc x).length = k) (h0 : 0 < k) {w : World} {a : Option Addr} {n : Nat} {xs : List α} (h : RdA w a k n (rows enc xs)) : xs.length = n := by
  have := h.1
  rw [rows_length hk] at this
  exact Nat.eq_of_mul_eq_mul_right h0 this
theorem RdA.row {α : Type} {enc : α → List Value} {k : Nat} (hk : ∀ x, (enc x).length = k) (h0 : 0 < k) {w : World} {a : Option Addr} {n : Nat} {xs : List α} (h : RdA w a k n (rows enc xs)) {i : Nat} (hi : i < n) :
    ∃ b o x, a = some ⟨b, o, none⟩ ∧ Hid (xs[i]? = some x) ∧ ∀ j u, (enc x)[j]? = some u → w.cell? ⟨b, o + i * k + j, none⟩ = some u := by
  obtain ⟨b, o, rfl, hc⟩ := h.at (by omega)
  have hl := h.len_rows hk h0
  refine ⟨b, o, xs[i], rfl, List.getElem?_eq_getElem (by omega), fun j u hu => ?_⟩
  rw [Nat.add_assoc]
  refine hc _ u ?_
  rw [rows_at hk xs i j xs[i] (List.getElem?_eq_getElem (by omega)) (by rw [← hk xs[i]]; exact (List.getElem?_eq_some_iff.1 hu).1)]
  exact hu
theorem take_snoc {α : Type} {xs : List α} {k : Nat} {x : α} (h : xs[k]? = some x) : xs.take (k + 1) = xs.take k ++ [x] := by
  rw [List.take_add_one, h]; rfl
theorem take_all {α : Type} {xs : List α} {n : Nat} (h : xs.length = n) : xs.take n = xs := by
  rw [← h]; exact List.take_length
theorem set_append_left {α : Type} (l1 l2 : List α) (i : Nat) (x b : α) (cs : List α) (h : l1.length = i) (hb : l2 = b :: cs) : (l1 ++ l2).set i x = l1 ++ [x] ++ cs := by
  subst hb; subst h
  rw [List.set_append_right _ _ (Nat.le_refl _)]; simp
def Grew (w w' : World) : Prop := Below w.heap.size w w'
theorem Grew.below {w w' : World} (h : Grew w w') : Below w.heap.size w w' := h
theorem Grew.size {w w' : World} (h : Grew w w') : w.heap.size ≤ w'.heap.size := h.below.size
theorem Grew.refl (w : World) : Grew w w := Below.refl _ _
theorem Grew.trans {a b c : World} (h : Grew a b) (k : Grew b c) : Grew a c := Below.trans h (Below.mono k h.size)
theorem Grew.alloc {a w : World} (h : Grew a w) (o : Obj) : Grew a (w.alloc o) := Below.alloc h h.size o
theorem Grew.drew {a w : World} (h : Grew a w) : Grew a w.drew := Below.drew h
theorem Grew.drewN {a w : World} (h : Grew a w) (n : Nat) : Grew a (w.drewN n) := below_drewN h n
theorem Grew.setCell {a w : World} (h : Grew a w) {p : Addr} (hp : a.heap.size ≤ p.block) (u : Value) : Grew a (w.setCell p u) := Below.setCell h hp u
theorem Grew.grown {a w w' : World} {row : Option Nat} (h : Grew a w) (hg : w.grownBy w' row) (hr : ∀ k, row = some k → a.heap.size ≤ k) : Grew a w' := Below.grown h hg h.size hr
theorem Grew.cells {W w1 : World} (hb : Grew W w1) : (∀ b o, b < W.heap.size → w1.cell? ⟨b, o, none⟩ = W.cell? ⟨b, o, none⟩) ∧ (∀ b o, b < W.heap.size → w1.frozen? ⟨b, o, none⟩ = W.frozen? ⟨b, o, none⟩) :=
  ⟨fun b o h => hb.below.cell (p := ⟨b, o, none⟩) h, fun b o h => hb.below.frozen (p := ⟨b, o, none⟩) h⟩
theorem RdA.grew {w w' : World} {a : Option Addr} {k n : Nat} {cs : List Value} (h : RdA w a k n cs) (hb : Grew w w') : RdA w' a k n cs := h.below hb
theorem Rd.grew {w w' : World} {v : Value} {k n : Nat} {cs : List Value} (h : Rd w v k n cs) (hb : Grew w w') : Rd w' v k n cs := h.below hb
theorem ownsRow_stores {w : World} {base : Nat} {e : TypeId} {size g n cap : Nat} {xs : List Value} (h : w.ownsRow base e size (.slice (some ⟨g, 0, none⟩) n cap) n xs) (j : Nat) (u : Value) :
    (w.setCell ⟨g, j, none⟩ u).ownsRow base e size (.slice (some ⟨g, 0, none⟩) n cap) n (xs.set j u) := (h.stored j u).1
theorem ownsRow_grew {w w' : World} {base : Nat} {e : TypeId} {size n : Nat} {v : Value} {xs : List Value} (h : w.ownsRow base e size v n xs) (hg : Grew w w') : w'.ownsRow base e size v n xs := by
  refine h.kept (row := none) ⟨hg.below.os, hg.below.tape, hg.below.output, hg.size, fun k hk _ => hg.below.block k hk⟩ ?_
  cases hv : v.ownBlock with
  | none => exact .inl rfl
  | some g => exact .inr (fun e => by cases e)
theorem ownsRow_base {w : World} {base base' : Nat} {e : TypeId} {size n : Nat} {v : Value} {xs : List Value} (h : w.ownsRow base e size v n xs) (hb : base' ≤ base) : w.ownsRow base' e size v n xs := by
  obtain ⟨hl, h | ⟨g, cap, cur, h1, h2, h3⟩⟩ := h
  · exact ⟨hl, .inl h⟩
  · exact ⟨hl, .inr ⟨g, cap, cur, h1, Nat.le_trans hb h2, h3⟩⟩
theorem rd_of_own {w : World} {base : Nat} {e : TypeId} {k n : Nat} {v : Value} {cs : List Value} (h : w.ownsRow base e k v n cs) : Rd w v k n cs := by
  have h0 := h
  obtain ⟨hl, ⟨rfl, rfl⟩ | ⟨g, cap, cur, rfl, _, _, hc, _⟩⟩ := h
  · exact ⟨none, 0, rfl, Nat.le_refl _, hl, fun h => absurd h (by omega)⟩
  · refine ⟨_, cap, rfl, hc, hl, fun _ => ⟨g, 0, rfl, fun j hj => ?_⟩⟩
    rw [Nat.zero_add]
    exact h0.cellAt j hj
theorem own_one {α : Type} {f : α → Value} {w : World} {base : Nat} {e : TypeId} {g n cap : Nat} {xs : List α} (h : w.ownsRow base e 1 (.slice (some ⟨g, 0, none⟩) n cap) n (xs.map f)) {i : Nat} (hi : i < n) :
    ∃ x, Hid (xs[i]? = some x) ∧ w.cell? ⟨g, i, none⟩ = some (f x) := by
  have hl : xs.length = n := by have := h.1; simpa using this
  refine ⟨xs[i], List.getElem?_eq_getElem (by omega), ?_⟩
  rw [h.cellAt _ (by omega)]
  simp [List.getElem?_eq_getElem (show i < xs.length by omega)]
theorem store_one {α : Type} {f : α → Value} {w : World} {base : Nat} {e : TypeId} {g n cap : Nat} {xs : List α} (h : w.ownsRow base e 1 (.slice (some ⟨g, 0, none⟩) n cap) n (xs.map f)) (i : Nat) (x : α) :
    (w.setCell ⟨g, i, none⟩ (f x)).ownsRow base e 1 (.slice (some ⟨g, 0, none⟩) n cap) n ((xs.set i x).map f) := by
  rw [List.map_set]
  exact ownsRow_stores h i (f x)
theorem own_row {α : Type} {enc : α → List Value} {k : Nat} (hk : ∀ x, (enc x).length = k) (h0 : 0 < k) {w : World} {base : Nat} {e : TypeId} {g n cap : Nat} {xs : List α} (h : w.ownsRow base e k (.slice (some ⟨g, 0, none⟩) n cap) n (rows enc xs)) {i : Nat} (hi : i < n) :
    ∃ x, Hid (xs[i]? = some x) ∧ ∀ j u, (enc x)[j]? = some u → w.cell? ⟨g, i * k + j, none⟩ = some u := by
  have hl : xs.length = n := by
    have := h.1
    rw [rows_length hk] at this
    exact Nat.eq_of_mul_eq_mul_right h0 this
  refine ⟨xs[i], List.getElem?_eq_getElem (by omega), fun j u hu => ?_⟩
  have hj : j < k := by rw [← hk xs[i]]; exact (List.getElem?_eq_some_iff.1 hu).1
  have hlt : i * k + j < n * k := by
    have : (i + 1) * k ≤ n * k := Nat.mul_le_mul_right k hi
    rw [Nat.succ_mul] at this; omega
  rw [h.cellAt _ hlt, rows_at hk xs i j xs[i] (List.getElem?_eq_getElem (by omega)) hj, hu]
structure Touch (lo hi : Nat) (w w' : World) : Prop where
  os : w'.os = w.os
  tape : w'.tape = w.tape
  output : w'.output = w.output
  size : w.heap.size ≤ w'.heap.size
  block : ∀ b, b < w.heap.size → (b < lo ∨ hi ≤ b) → w'.heap[b]? = w.heap[b]?
theorem Touch.refl (lo hi : Nat) (w : World) : Touch lo hi w w := ⟨rfl, rfl, rfl, Nat.le_refl _, fun _ _ _ => rfl⟩
theorem Touch.trans {lo hi : Nat} {a b c : World} (h : Touch lo hi a b) (k : Touch lo hi b c) : Touch lo hi a c :=
  ⟨k.os.trans h.os, k.tape.trans h.tape, k.output.trans h.output, Nat.le_trans h.size k.size, fun i hi ho => (k.block i (Nat.lt_of_lt_of_le hi h.size) ho).trans (h.block i hi ho)⟩
theorem Touch.mono {lo hi lo' hi' : Nat} {a b : World} (h : Touch lo hi a b) (h1 : lo' ≤ lo) (h2 : hi ≤ hi') : Touch lo' hi' a b :=
  ⟨h.os, h.tape, h.output, h.size, fun i hl ho => h.block i hl (by omega)⟩
theorem Grew.touch {a b : World} (h : Grew a b) (lo hi : Nat) : Touch lo hi a b := ⟨h.below.os, h.below.tape, h.below.output, h.size, fun i hl _ => h.below.block i hl⟩
theorem Touch.grew {lo hi : Nat} {a b c : World} (h : Touch lo hi a b) (k : Grew b c) : Touch lo hi a c := h.trans (k.touch lo hi)
theorem Touch.alloc {lo hi : Nat} {a w : World} (h : Touch lo hi a w) (o : Obj) : Touch lo hi a (w.alloc o) := h.grew ((Grew.refl w).alloc o)
theorem Touch.drew {lo hi : Nat} {a w : World} (h : Touch lo hi a w) : Touch lo hi a w.drew := h.grew (Grew.refl w).drew
theorem Touch.drewN {lo hi : Nat} {a w : World} (h : Touch lo hi a w) (n : Nat) : Touch lo hi a (w.drewN n) := h.grew ((Grew.refl w).drewN n)
theorem Touch.setCell {lo hi : Nat} {a w : World} (h : Touch lo hi a w) {p : Addr} (h1 : lo ≤ p.block) (h2 : p.block < hi) (u : Value) : Touch lo hi a (w.setCell p u) :=
  h.trans ⟨rfl, rfl, rfl, by simp [World.setCell], fun k _ ho => Below.heap_setCell _ _ _ _ (by omega)⟩
theorem Touch.new {a b c : World} {lo hi : Nat} (h : Grew a b) (k : Touch lo hi b c) (hl : a.heap.size ≤ lo) : Grew a c :=
  Below.trans h ⟨k.os, k.tape, k.output, k.size, fun i hi => by
    have := h.size
    exact k.block i (by omega) (Or.inl (by omega))⟩
def Own (w : World) (lo hi : Nat) (e : TypeId) (k : Nat) (v : Value) (n : Nat) (cs : List Value) : Prop := w.ownsRow lo e k v n cs ∧ ∀ b, v.ownBlock = some b → b < hi
theorem Own.of {w w' : World} {e : TypeId} {k n : Nat} {v : Value} {cs : List Value} (h : w'.ownsRow w.heap.size e k v n cs) : Own w' w.heap.size w'.heap.size e k v n cs := ⟨h, fun b hb => (h.lt b hb).2⟩
theorem Own.touch {w w' : World} {lo hi a b : Nat} {e : TypeId} {k n : Nat} {v : Value} {cs : List Value} (h : Own w lo hi e k v n cs) (ht : Touch a b w w') (hd : hi ≤ a ∨ b ≤ lo) : Own w' lo hi e k v n cs := by
  refine ⟨?_, h.2⟩
  obtain ⟨hl, ⟨rfl, rfl⟩ | ⟨g, cap, cur, rfl, hg, hh, hr⟩⟩ := h.1
  · exact ⟨hl, .inl ⟨rfl, rfl⟩⟩
  · have hb := h.1.lt g rfl
    have hg2 := h.2 g rfl
    exact ⟨hl, .inr ⟨g, cap, cur, rfl, hg, (ht.block g hb.2 (by omega)).trans hh, hr⟩⟩
theorem Own.grew {w w' : World} {lo hi : Nat} {e : TypeId} {k n : Nat} {v : Value} {cs : List Value} (h : Own w lo hi e k v n cs) (hg : Grew w w') : Own w' lo hi e k v n cs := ⟨ownsRow_grew h.1 hg, h.2⟩
theorem Own.rd {w : World} {lo hi : Nat} {e : TypeId} {k n : Nat} {v : Value} {cs : List Value} (h : Own w lo hi e k v n cs) : Rd w v k n cs := rd_of_own h.1
theorem Own.mono {w : World} {lo hi lo' hi' : Nat} {e : TypeId} {k n : Nat} {v : Value} {cs : List Value} (h : Own w lo hi e k v n cs) (h1 : lo' ≤ lo) (h2 : hi ≤ hi') : Own w lo' hi' e k v n cs := ⟨ownsRow_base h.1 h1, fun b hb => Nat.lt_of_lt_of_le (h.2 b hb) h2⟩
theorem Own.cases {w : World} {lo hi : Nat} {e : TypeId} {k n : Nat} {v : Value} {cs : List Value} (h : Own w lo hi e k v n cs) :
    (v = .slice none 0 0 ∧ n = 0 ∧ cs = []) ∨ ∃ g cap, v = .slice (some ⟨g, 0, none⟩) n cap ∧ lo ≤ g ∧ g < hi ∧ n ≤ cap ∧ w.ownsRow g e k (.slice (some ⟨g, 0, none⟩) n cap) n cs := by
  obtain ⟨hl, ⟨rfl, rfl⟩ | ⟨g, cap, cur, rfl, hg, hh, hr⟩⟩ := h.1
  · exact .inl ⟨rfl, rfl, List.length_eq_zero_iff.1 (by simpa using hl)⟩
  · exact .inr ⟨g, cap, rfl, hg, h.2 g rfl, hr.1, hl, .inr ⟨g, cap, cur, rfl, Nat.le_refl _, hh, hr⟩⟩
theorem grew_cell {w w' : World} (hb : Grew w w') {a : Addr} {u : Value} (h : w.cell? a = some u) : w'.cell? a = some u := by
  rw [hb.below.cell (lt_of_cell h)]; exact h
theorem held2 {wr w' w1 : World} {a b : Addr} {u v : Value} (h : w'.cell? a = some u ∧ w'.cell? b = some v ∧ Grew wr w') (hb : Grew w' w1) : w1.cell? a = some u ∧ w1.cell? b = some v ∧ Grew wr w1 :=
  ⟨grew_cell hb h.1, grew_cell hb h.2.1, h.2.2.trans hb⟩
theorem own_some {w : World} {base : Nat} {e : TypeId} {k g n cap : Nat} {cs : List Value} (h : w.ownsRow base e k (.slice (some ⟨g, 0, none⟩) n cap) n cs) (j : Nat) (hj : j < n * k) : ∃ u, w.cell? ⟨g, j, none⟩ = some u := by
  have := h.cellAt j hj
  rw [List.getElem?_eq_getElem (by rw [h.1]; exact hj)] at this
  exact ⟨_, this⟩
def sets : List Value → Nat → List Value → List Value
  | l, _, [] => l
  | l, o, u :: us => sets (l.set o u) (o + 1) us
theorem sets_mid : ∀ (us l l1 l2 cs : List Value) (o : Nat), l = l1 ++ l2 ++ cs → l1.length = o → l2.length = us.length → sets l o us = l1 ++ us ++ cs := by
  intro us
  induction us with
  | nil => intro l l1 l2 cs o h _ h2; have : l2 = [] := List.length_eq_zero_iff.1 (by simpa using h2); subst this; simpa [sets] using h
  | cons u us ih =>
    intro l l1 l2 cs o h h1 h2
    cases l2 with
    | nil => simp at h2
    | cons y l2 =>
      have e1 : l.set o u = (l1 ++ [u]) ++ l2 ++ cs := by
        rw [h, List.append_assoc, List.cons_append, set_append_left l1 (y :: (l2 ++ cs)) o u y (l2 ++ cs) h1 rfl]; simp
      have := ih (l.set o u) (l1 ++ [u]) l2 cs (o + 1) e1 (by simp [h1]) (by simpa using h2)
      simpa [sets] using this
theorem rows_sets {α : Type} {enc : α → List Value} {k : Nat} (hk : ∀ x, (enc x).length = k) (xs : List α) (i : Nat) (hi : i < xs.length) (x : α) : sets (rows enc xs) (i * k) (enc x) = rows enc (xs.set i x) := by
  have e1 : xs = xs.take i ++ xs[i] :: xs.drop (i + 1) := by rw [List.getElem_cons_drop, List.take_append_drop]
  have e2 : rows enc xs = rows enc (xs.take i) ++ enc xs[i] ++ rows enc (xs.drop (i + 1)) := by
    conv => lhs; rw [e1]
    rw [rows_append, rows_cons, List.append_assoc]
  have e3 : rows enc (xs.set i x) = rows enc (xs.take i) ++ enc x ++ rows enc (xs.drop (i + 1)) := by
    rw [List.set_eq_take_append_cons_drop, if_pos (by omega), rows_append, rows_cons, List.append_assoc]
  rw [e3]
  exact sets_mid (enc x) _ _ _ _ (i * k) e2 (by rw [rows_length hk, List.length_take, Nat.min_eq_left (by omega)]) (by rw [hk, hk])
def All2 {α β : Type} (R : α → β → Prop) (xs : List α) (ys : List β) : Prop := xs.length = ys.length ∧ ∀ (i : Nat) x y, xs[i]? = some x → ys[i]? = some y → R x y
theorem All2.nil {α β : Type} {R : α → β → Prop} : All2 R [] [] := ⟨rfl, fun i x y h => by simp at h⟩
theorem All2.mono {α β : Type} {R S : α → β → Prop} {xs : List α} {ys : List β} (h : All2 R xs ys) (hs : ∀ x y, R x y → S x y) : All2 S xs ys := ⟨h.1, fun i x y hx hy => hs x y (h.2 i x y hx hy)⟩
theorem All2.snoc {α β : Type} {R : α → β → Prop} {xs : List α} {ys : List β} {x : α} {y : β} (h : All2 R xs ys) (hr : R x y) : All2 R (xs ++ [x]) (ys ++ [y]) := by
  refine ⟨by simp [h.1], fun i a b ha hb => ?_⟩
  by_cases hi : i < xs.length
  · rw [List.getElem?_append_left hi] at ha
    rw [List.getElem?_append_left (by rw [← h.1]; exact hi)] at hb
    exact h.2 i a b ha hb
  · have hl := (List.getElem?_eq_some_iff.1 ha).1
    simp at hl
    obtain rfl : i = xs.length := by omega
    rw [List.getElem?_append_right (Nat.le_refl _)] at ha
    rw [List.getElem?_append_right (by rw [h.1]; exact Nat.le_refl _)] at hb
    simp [h.1] at ha hb
    subst ha; subst hb; exact hr
theorem All2.get {α β : Type} {R : α → β → Prop} {xs : List α} {ys : List β} (h : All2 R xs ys) {i : Nat} {y : β} (hy : ys[i]? = some y) : ∃ x, Hid (xs[i]? = some x) ∧ R x y := by
  have hl := (List.getElem?_eq_some_iff.1 hy).1
  rw [← h.1] at hl
  exact ⟨xs[i], List.getElem?_eq_getElem hl, h.2 i _ _ (List.getElem?_eq_getElem hl) hy⟩
theorem All2.set {α β : Type} {R : α → β → Prop} {xs : List α} {ys : List β} (h : All2 R xs ys) (i : Nat) (x : α) (y : β) (hr : R x y) : All2 R (xs.set i x) (ys.set i y) := by
  refine ⟨by simp [h.1], fun j a b ha hb => ?_⟩
  by_cases hij : i = j
  · subst hij
    have hl := (List.getElem?_eq_some_iff.1 ha).1
    simp at hl
    rw [List.getElem?_set_self hl] at ha
    rw [List.getElem?_set_self (by rw [← h.1]; exact hl)] at hb
    simp at ha hb; subst ha; subst hb; exact hr
  · rw [List.getElem?_set_ne hij] at ha hb
    exact h.2 j a b ha hb
def Dis (vs : List Value) : Prop := (vs.filterMap Value.ownBlock).Nodup
theorem Dis.nil : Dis [] := by simp [Dis]
theorem Dis.app {us vs : List Value} (h1 : Dis us) (h2 : Dis vs) (h : ∀ u v b, u ∈ us → v ∈ vs → u.ownBlock = some b → v.ownBlock ≠ some b) : Dis (us ++ vs) := by
  unfold Dis at *
  rw [List.filterMap_append, List.nodup_append]
  refine ⟨h1, h2, fun a ha b hb hab => ?_⟩
  subst hab
  obtain ⟨u, hu, hub⟩ := List.mem_filterMap.1 ha
  obtain ⟨v, hv, hvb⟩ := List.mem_filterMap.1 hb
  exact h u v a hu hv hub hvb
theorem Dis.one (v : Value) : Dis [v] := by
  unfold Dis
  cases h : v.ownBlock <;> simp [h]
def RdL {α β : Type} (enc : β → List Value) (k : Nat) (R : World → α → β → Prop) (w : World) (v : Value) (xs : List α) : Prop := ∃ ps, Rd w v k xs.length (rows enc ps) ∧ All2 (R w) xs ps
def OwnL {α β : Type} (enc : β → List Value) (k : Nat) (e : TypeId) (subs : β → List Value) (O : World → Nat → Nat → α → β → Prop) (w : World) (lo hi : Nat) (v : Value) (xs : List α) : Prop :=
  ∃ ps, Own w lo hi e k v xs.length (rows enc ps) ∧ All2 (O w lo hi) xs ps ∧ Dis (v :: ps.flatMap subs)
theorem RdL.grew {α β : Type} {enc : β → List Value} {k : Nat} {R : World → α → β → Prop} (hR : ∀ w w' x p, R w x p → Grew w w' → R w' x p) {w w' : World} {v : Value} {xs : List α} (h : RdL enc k R w v xs) (hg : Grew w w') : RdL enc k R w' v xs := by
  obtain ⟨ps, h1, h2⟩ := h
  exact ⟨ps, h1.grew hg, h2.mono fun x p h => hR _ _ _ _ h hg⟩
theorem OwnL.grew {α β : Type} {enc : β → List Value} {k : Nat} {e : TypeId} {subs : β → List Value} {O : World → Nat → Nat → α → β → Prop} (hO : ∀ w w' lo hi x p, O w lo hi x p → Grew w w' → O w' lo hi x p) {w w' : World} {lo hi : Nat} {v : Value} {xs : List α} (h : OwnL enc k e subs O w lo hi v xs) (hg : Grew w w') : OwnL enc k e subs O w' lo hi v xs := by
  obtain ⟨ps, h1, h2, h3⟩ := h
  exact ⟨ps, h1.grew hg, h2.mono fun x p h => hO _ _ _ _ _ _ h hg, h3⟩
theorem OwnL.touch {α β : Type} {enc : β → List Value} {k : Nat} {e : TypeId} {subs : β → List Value} {O : World → Nat → Nat → α → β → Prop} (hO : ∀ w w' lo hi a b x p, O w lo hi x p → Touch a b w w' → (hi ≤ a ∨ b ≤ lo) → O w' lo hi x p) {w w' : World} {lo hi a b : Nat} {v : Value} {xs : List α} (h : OwnL enc k e subs O w lo hi v xs) (ht : Touch a b w w') (hd : hi ≤ a ∨ b ≤ lo) : OwnL enc k e subs O w' lo hi v xs := by
  obtain ⟨ps, h1, h2, h3⟩ := h
  exact ⟨ps, h1.touch ht hd, h2.mono fun x p h => hO _ _ _ _ _ _ _ _ h ht hd, h3⟩
theorem OwnL.rd {α β : Type} {enc : β → List Value} {k : Nat} {e : TypeId} {subs : β → List Value} {O : World → Nat → Nat → α → β → Prop} {R : World → α → β → Prop} (hO : ∀ w lo hi x p, O w lo hi x p → R w x p) {w : World} {lo hi : Nat} {v : Value} {xs : List α} (h : OwnL enc k e subs O w lo hi v xs) : RdL enc k R w v xs := by
  obtain ⟨ps, h1, h2, _⟩ := h
  exact ⟨ps, h1.rd, h2.mono fun x p h => hO _ _ _ _ _ h⟩
theorem grew_frozen {w w' : World} (hb : Grew w w') {a : Addr} (h : a.block < w.heap.size) (h0 : w.frozen? a = false) : w'.frozen? a = false := by
  rw [hb.below.frozen h]; exact h0
end Go.Proofs.YtemikjbfjhebnaaGreat
namespace Go.Proofs.YtemikjbfjhebnaaGreat
open Go.RowKit
abbrev B.v (s : ByteArray) : Value := .string s
abbrev L.v (b : Bool) : Value := .bool b
abbrev ints (xs : List Int) : List Value := xs.map (Value.int .i64)
abbrev strs (xs : List ByteArray) : List Value := xs.map Value.string
abbrev bools (xs : List Bool) : List Value := xs.map Value.bool
structure V where
  kind : Int
  int : Int
  str : ByteArray
def V.c (x : V) : List Value := [.int .i64 x.kind, .int .i64 x.int, .string x.str]
abbrev V.v (x : V) : Value := .agg #[.int .i64 x.kind, .int .i64 x.int, .string x.str]
def V.z : V := ⟨0, 0, ⟨#[]⟩⟩
theorem V.len (x : V) : x.c.length = 3 := rfl
structure N where
  op : Int
  left : Int
  right : Int
  name : ByteArray
  val : V
def N.c (x : N) : List Value := [.int .i64 x.op, .int .i64 x.left, .int .i64 x.right, .string x.name, .int .i64 x.val.kind, .int .i64 x.val.int, .string x.val.str]
abbrev N.v (x : N) : Value := .agg #[.int .i64 x.op, .int .i64 x.left, .int .i64 x.right, .string x.name, .int .i64 x.val.kind, .int .i64 x.val.int, .string x.val.str]
def N.z : N := ⟨0, 0, 0, ⟨#[]⟩, V.z⟩
theorem N.len (x : N) : x.c.length = 7 := rfl
theorem RdA.getN {w : World} {a : Option Addr} {n : Nat} {xs : List N} (h : RdA w a 7 n (rows N.c xs)) {i : Nat} (hi : i < n) :
    ∃ b o x, a = some ⟨b, o, none⟩ ∧ Hid (xs[i]? = some x) ∧ w.cell? ⟨b, o + i * 7, none⟩ = some (.int .i64 x.op) ∧ w.cell? ⟨b, o + i * 7 + 1, none⟩ = some (.int .i64 x.left) ∧ w.cell? ⟨b, o + i * 7 + 2, none⟩ = some (.int .i64 x.right) ∧ w.cell? ⟨b, o + i * 7 + 3, none⟩ = some (.string x.name) ∧ w.cell? ⟨b, o + i * 7 + 4, none⟩ = some (.int .i64 x.val.kind) ∧ w.cell? ⟨b, o + i * 7 + 5, none⟩ = some (.int .i64 x.val.int) ∧ w.cell? ⟨b, o + i * 7 + 6, none⟩ = some (.string x.val.str) := by
  obtain ⟨b, o, x, rfl, hx, hc⟩ := h.row N.len (by decide) hi
  exact ⟨b, o, x, rfl, hx, hc 0 _ rfl, hc 1 _ rfl, hc 2 _ rfl, hc 3 _ rfl, hc 4 _ rfl, hc 5 _ rfl, hc 6 _ rfl⟩
structure Fd where
  name : ByteArray
  kind : Int
def Fd.c (x : Fd) : List Value := [.string x.name, .int .i64 x.kind]
abbrev Fd.v (x : Fd) : Value := .agg #[.string x.name, .int .i64 x.kind]
def Fd.z : Fd := ⟨⟨#[]⟩, 0⟩
theorem Fd.len (x : Fd) : x.c.length = 2 := rfl
theorem RdA.getFd {w : World} {a : Option Addr} {n : Nat} {xs : List Fd} (h : RdA w a 2 n (rows Fd.c xs)) {i : Nat} (hi : i < n) :
    ∃ b o x, a = some ⟨b, o, none⟩ ∧ Hid (xs[i]? = some x) ∧ w.cell? ⟨b, o + i * 2, none⟩ = some (.string x.name) ∧ w.cell? ⟨b, o + i * 2 + 1, none⟩ = some (.int .i64 x.kind) := by
  obtain ⟨b, o, x, rfl, hx, hc⟩ := h.row Fd.len (by decide) hi
  exact ⟨b, o, x, rfl, hx, hc 0 _ rfl, hc 1 _ rfl⟩
theorem ownFd {w : World} {base : Nat} {e : TypeId} {g n cap : Nat} {xs : List Fd} (h : w.ownsRow base e 2 (.slice (some ⟨g, 0, none⟩) n cap) n (rows Fd.c xs)) {i : Nat} (hi : i < n) :
    ∃ x, Hid (xs[i]? = some x) ∧ w.cell? ⟨g, i * 2, none⟩ = some (.string x.name) ∧ w.cell? ⟨g, i * 2 + 1, none⟩ = some (.int .i64 x.kind) := by
  obtain ⟨x, hx, hc⟩ := own_row Fd.len (by decide) h hi
  exact ⟨x, hx, hc 0 _ rfl, hc 1 _ rfl⟩
structure At where
  name : ByteArray
  val : V
def At.c (x : At) : List Value := [.string x.name, .int .i64 x.val.kind, .int .i64 x.val.int, .string x.val.str]
abbrev At.v (x : At) : Value := .agg #[.string x.name, .int .i64 x.val.kind, .int .i64 x.val.int, .string x.val.str]
def At.z : At := ⟨⟨#[]⟩, V.z⟩
theorem At.len (x : At) : x.c.length = 4 := rfl
theorem RdA.getAt {w : World} {a : Option Addr} {n : Nat} {xs : List At} (h : RdA w a 4 n (rows At.c xs)) {i : Nat} (hi : i < n) :
    ∃ b o x, a = some ⟨b, o, none⟩ ∧ Hid (xs[i]? = some x) ∧ w.cell? ⟨b, o + i * 4, none⟩ = some (.string x.name) ∧ w.cell? ⟨b, o + i * 4 + 1, none⟩ = some (.int .i64 x.val.kind) ∧ w.cell? ⟨b, o + i * 4 + 2, none⟩ = some (.int .i64 x.val.int) ∧ w.cell? ⟨b, o + i * 4 + 3, none⟩ = some (.string x.val.str) := by
  obtain ⟨b, o, x, rfl, hx, hc⟩ := h.row At.len (by decide) hi
  exact ⟨b, o, x, rfl, hx, hc 0 _ rfl, hc 1 _ rfl, hc 2 _ rfl, hc 3 _ rfl⟩
theorem ownAt {w : World} {base : Nat} {e : TypeId} {g n cap : Nat} {xs : List At} (h : w.ownsRow base e 4 (.slice (some ⟨g, 0, none⟩) n cap) n (rows At.c xs)) {i : Nat} (hi : i < n) :
    ∃ x, Hid (xs[i]? = some x) ∧ w.cell? ⟨g, i * 4, none⟩ = some (.string x.name) ∧ w.cell? ⟨g, i * 4 + 1, none⟩ = some (.int .i64 x.val.kind) ∧ w.cell? ⟨g, i * 4 + 2, none⟩ = some (.int .i64 x.val.int) ∧ w.cell? ⟨g, i * 4 + 3, none⟩ = some (.string x.val.str) := by
  obtain ⟨x, hx, hc⟩ := own_row At.len (by decide) h hi
  exact ⟨x, hx, hc 0 _ rfl, hc 1 _ rfl, hc 2 _ rfl, hc 3 _ rfl⟩
structure P2 where
  name : ByteArray
  q : Value
def P2.c (x : P2) : List Value := [.string x.name, x.q]
abbrev P2.v (x : P2) : Value := .agg #[.string x.name, x.q]
def P2.z : P2 := ⟨⟨#[]⟩, .slice none 0 0⟩
theorem P2.len (x : P2) : x.c.length = 2 := rfl
theorem RdA.getP2 {w : World} {a : Option Addr} {n : Nat} {xs : List P2} (h : RdA w a 2 n (rows P2.c xs)) {i : Nat} (hi : i < n) :
    ∃ b o x, a = some ⟨b, o, none⟩ ∧ Hid (xs[i]? = some x) ∧ w.cell? ⟨b, o + i * 2, none⟩ = some (.string x.name) ∧ w.cell? ⟨b, o + i * 2 + 1, none⟩ = some (x.q) := by
  obtain ⟨b, o, x, rfl, hx, hc⟩ := h.row P2.len (by decide) hi
  exact ⟨b, o, x, rfl, hx, hc 0 _ rfl, hc 1 _ rfl⟩
structure P3 where
  name : ByteArray
  q : Value
  r : Value
def P3.c (x : P3) : List Value := [.string x.name, x.q, x.r]
abbrev P3.v (x : P3) : Value := .agg #[.string x.name, x.q, x.r]
def P3.z : P3 := ⟨⟨#[]⟩, .slice none 0 0, .slice none 0 0⟩
theorem P3.len (x : P3) : x.c.length = 3 := rfl
structure P5 where
  id : Int
  owner : Int
  shared : Bool
  link : Int
  attrs : Value
def P5.c (x : P5) : List Value := [.int .i64 x.id, .int .i64 x.owner, .bool x.shared, .int .i64 x.link, x.attrs]
abbrev P5.v (x : P5) : Value := .agg #[.int .i64 x.id, .int .i64 x.owner, .bool x.shared, .int .i64 x.link, x.attrs]
def P5.z : P5 := ⟨0, 0, false, 0, .slice none 0 0⟩
theorem P5.len (x : P5) : x.c.length = 5 := rfl
theorem RdA.getP5 {w : World} {a : Option Addr} {n : Nat} {xs : List P5} (h : RdA w a 5 n (rows P5.c xs)) {i : Nat} (hi : i < n) :
    ∃ b o x, a = some ⟨b, o, none⟩ ∧ Hid (xs[i]? = some x) ∧ w.cell? ⟨b, o + i * 5, none⟩ = some (.int .i64 x.id) ∧ w.cell? ⟨b, o + i * 5 + 1, none⟩ = some (.int .i64 x.owner) ∧ w.cell? ⟨b, o + i * 5 + 2, none⟩ = some (.bool x.shared) ∧ w.cell? ⟨b, o + i * 5 + 3, none⟩ = some (.int .i64 x.link) ∧ w.cell? ⟨b, o + i * 5 + 4, none⟩ = some (x.attrs) := by
  obtain ⟨b, o, x, rfl, hx, hc⟩ := h.row P5.len (by decide) hi
  exact ⟨b, o, x, rfl, hx, hc 0 _ rfl, hc 1 _ rfl, hc 2 _ rfl, hc 3 _ rfl, hc 4 _ rfl⟩
theorem set_noop {l : List Value} {j : Nat} {u : Value} (h : l[j]? = some u) : l.set j u = l := by
  obtain ⟨hj, rfl⟩ := List.getElem?_eq_some_iff.1 h
  exact List.set_getElem_self hj
theorem setsP2 (xs : List P2) (i : Nat) (hi : i < xs.length) (x : P2) : ((rows P2.c xs).set (i * 2) (.string x.name)).set (i * 2 + 1) (x.q) = rows P2.c (xs.set i x) := by
  have := rows_sets P2.len xs i hi x
  simpa only [sets, P2.c, Nat.add_assoc, Nat.reduceAdd] using this
theorem setsP5 (xs : List P5) (i : Nat) (hi : i < xs.length) (x : P5) : (((((rows P5.c xs).set (i * 5) (.int .i64 x.id)).set (i * 5 + 1) (.int .i64 x.owner)).set (i * 5 + 2) (.bool x.shared)).set (i * 5 + 3) (.int .i64 x.link)).set (i * 5 + 4) (x.attrs) = rows P5.c (xs.set i x) := by
  have := rows_sets P5.len xs i hi x
  simpa only [sets, P5.c, Nat.add_assoc, Nat.reduceAdd] using this
theorem setnP5 (xs : List P5) (i : Nat) (x : P5) (h : xs[i]? = some x) (y0 : Int) (y1 : Int) (y2 : Bool) (y3 : Int) : ((((rows P5.c xs).set (i * 5) (.int .i64 y0)).set (i * 5 + 1) (.int .i64 y1)).set (i * 5 + 2) (.bool y2)).set (i * 5 + 3) (.int .i64 y3) = rows P5.c (xs.set i ⟨y0, y1, y2, y3, x.attrs⟩) := by
  have hs := setsP5 xs i (List.getElem?_eq_some_iff.1 h).1 ⟨y0, y1, y2, y3, x.attrs⟩
  have n0 : (((((rows P5.c xs).set (i * 5) (.int .i64 y0)).set (i * 5 + 1) (.int .i64 y1)).set (i * 5 + 2) (.bool y2)).set (i * 5 + 3) (.int .i64 y3))[i * 5 + 4]? = some x.attrs := by
    repeat rw [List.getElem?_set_ne (by omega)]
    exact rows_at P5.len xs i 4 x h (by decide)
  rw [set_noop n0] at hs
  exact hs
def V.sz (x : V) : Nat := x.str.size
def N.sz (x : N) : Nat := x.name.size + x.val.sz
def Fd.sz (x : Fd) : Nat := x.name.size
def At.sz (x : At) : Nat := x.name.size + x.val.sz
structure Dr where
  name : ByteArray
  query : List N
structure Rs where
  name : ByteArray
  ids : List Int
structure Df where
  name : ByteArray
  added : List Int
  removed : List Int
structure Fl where
  id : Int
  owner : Int
  shared : Bool
  link : Int
  attrs : List At
structure St where
  schema : List Fd
  files : List Fl
  next : Int
def Dr.R (w : World) (x : Dr) (p : P2) : Prop := p.name = x.name ∧ Rd w p.q 7 x.query.length (rows N.c x.query)
def Rs.R (w : World) (x : Rs) (p : P2) : Prop := p.name = x.name ∧ Rd w p.q 1 x.ids.length (ints x.ids)
def Df.R (w : World) (x : Df) (p : P3) : Prop := p.name = x.name ∧ Rd w p.q 1 x.added.length (ints x.added) ∧ Rd w p.r 1 x.removed.length (ints x.removed)
def Fl.R (w : World) (x : Fl) (p : P5) : Prop := p.id = x.id ∧ p.owner = x.owner ∧ p.shared = x.shared ∧ p.link = x.link ∧ Rd w p.attrs 4 x.attrs.length (rows At.c x.attrs)
theorem Dr.R.grew {w w' : World} {x : Dr} {p : P2} (h : Dr.R w x p) (hg : Grew w w') : Dr.R w' x p := ⟨h.1, h.2.grew hg⟩
theorem Rs.R.grew {w w' : World} {x : Rs} {p : P2} (h : Rs.R w x p) (hg : Grew w w') : Rs.R w' x p := ⟨h.1, h.2.grew hg⟩
theorem Df.R.grew {w w' : World} {x : Df} {p : P3} (h : Df.R w x p) (hg : Grew w w') : Df.R w' x p := ⟨h.1, h.2.1.grew hg, h.2.2.grew hg⟩
theorem Fl.R.grew {w w' : World} {x : Fl} {p : P5} (h : Fl.R w x p) (hg : Grew w w') : Fl.R w' x p := ⟨h.1, h.2.1, h.2.2.1, h.2.2.2.1, h.2.2.2.2.grew hg⟩
abbrev RdDs (w : World) (v : Value) (xs : List Dr) : Prop := RdL P2.c 2 Dr.R w v xs
abbrev RdRs (w : World) (v : Value) (xs : List Rs) : Prop := RdL P2.c 2 Rs.R w v xs
abbrev RdLs (w : World) (v : Value) (xs : List Fl) : Prop := RdL P5.c 5 Fl.R w v xs
end Go.Proofs.YtemikjbfjhebnaaGreat
namespace Go.Proofs.YtemikjbfjhebnaaGreat
open Go.RowKit
end Go.Proofs.YtemikjbfjhebnaaGreat
namespace Go.Proofs.YtemikjbfjhebnaaGreat
open Go.RowKit
set_option linter.unusedVariables false
end Go.Proofs.YtemikjbfjhebnaaGreat
namespace Go.Proofs.YtemikjbfjhebnaaGreat
open Go.RowKit
set_option linter.unusedVariables false
def inB (x a b : Int) : Bool := decide (a ≤ x) && decide (x ≤ b)
set_option maxHeartbeats 400000 in
theorem l01In (x a b : Int) (w : World) :
    Calls Tryz.prog 24 #[.int .i64 x, .int .i64 a, .int .i64 b] w fun e w' => e = .returned (.bool (inB x a b)) ∧ w = w' := by
  go_enter Tryz.func24, Tryz.ntmps24
  go_wp2
  all_goals go_ret
  all_goals simp [inB, *]
  all_goals omega
set_option maxHeartbeats 400000 in
theorem within (x a b : Int) (w : World) :
    Calls Tryz.prog 65 #[.int .i64 x, .int .i64 a, .int .i64 b] w fun e w' => e = .returned (.bool (inB x a b)) ∧ w = w' := by
  go_enter Tryz.func65, Tryz.ntmps65
  go_wp2
  all_goals go_ret
  all_goals simp [inB, *]
  all_goals omega
def has {α : Type} [DecidableEq α] (xs : List α) (x : α) : Bool := decide (x ∈ xs)
theorem has_no {xs : List Int} {x y : Int} {k : Nat} (h : has (xs.take k) x = false) (hy : xs[k]? = some y) (hn : y ≠ x) : has (xs.take (k + 1)) x = false := by
  rw [take_snoc hy]
  simp [has] at h ⊢
  exact ⟨h, fun h => hn h.symm⟩
theorem has_yes {xs : List Int} {x : Int} {k : Nat} (hy : xs[k]? = some x) : has xs x = true := by
  simp [has]; exact List.mem_of_getElem? hy
set_option maxHeartbeats 400000 in
theorem specContainsID (va : Value) (n : Nat) (xs : List Int) (x : Int) (w : World) (ha : Rd w va 1 n (ints xs)) (hx : n ≤ 4000000) :
    Calls Tryz.prog 137 #[va, .int .i64 x] w fun e w' => e = .returned (.bool (has xs x)) ∧ w = w' := by
  obtain ⟨a, ca, rfl, hca, hra⟩ := ha
  have HX := Lib.hid hra.len_map
  go_enter Tryz.func137, Tryz.ntmps137
  go_wp2
  go_loop [5] (fun i => ∃ k : Nat, k ≤ n ∧ i = .int .i64 k ∧ Hid (has (xs.take k) x = false)) (fun i => n - (intOf i).toNat)
  case atStart => exact ⟨0, Nat.zero_le _, rfl, Lib.hid (by simp [has])⟩
  case round =>
    obtain ⟨k, hk, rfl, hsame⟩ := hrel
    by_cases hlt : k < n
    · obtain ⟨b1, o1, y, rfl, hxk, e1⟩ := hra.one hlt
      by_cases he : y = x
      · subst he
        go_wp2
        go_ret
        exact ⟨ret_bool (has_yes hxk.out).symm, rfl⟩
      · have hq : (y == x) = false := by simp [he]
        have HE := Lib.hid he
        clear he
        go_wp2
        go_round
        case rel => exact ⟨k + 1, by omega, by go_num, Lib.hid (has_no hsame.out hxk.out HE.out)⟩
        case measure => simp [intOf]; omega
    · go_wp2
      go_ret
      obtain rfl : k = n := by omega
      exact ⟨ret_bool (by have := hsame.out; rw [take_all HX.out] at this; exact this.symm), rfl⟩
def idxB (xs : List Int) (x i : Int) : Prop := (i = -1 ∧ has xs x = false) ∨ (0 ≤ i ∧ has xs x = true)
set_option maxHeartbeats 400000 in
theorem slIndexInt (va : Value) (n : Nat) (xs : List Int) (x : Int) (w : World) (ha : Rd w va 1 n (ints xs)) (hx : n ≤ 4000000) :
    Calls Tryz.prog 145 #[va, .int .i64 x] w fun e w' => ∃ i : Int, e = .returned (.int .i64 i) ∧ idxB xs x i ∧ w = w' := by
  obtain ⟨a, ca, rfl, hca, hra⟩ := ha
  have HX := Lib.hid hra.len_map
  go_enter Tryz.func145, Tryz.ntmps145
  go_wp2
  go_loop [5, 8] (fun _ i => ∃ k : Nat, k ≤ n ∧ i = .int .i64 k ∧ Hid (has (xs.take k) x = false)) (fun _ i => n - (intOf i).toNat)
  case atStart => exact ⟨0, Nat.zero_le _, rfl, Lib.hid (by simp [has])⟩
  case round =>
    obtain ⟨k, hk, rfl, hsame⟩ := hrel
    by_cases hlt : k < n
    · obtain ⟨b1, o1, y, rfl, hxk, e1⟩ := hra.one hlt
      by_cases he : y = x
      · subst he
        go_wp2
        go_ret
        exact ⟨_, rfl, .inr ⟨by omega, has_yes hxk.out⟩, rfl⟩
      · have hq : (x == y) = false := by simp; exact fun h => he h.symm
        have HE := Lib.hid he
        clear he
        go_wp2
        go_round
        case rel => exact ⟨k + 1, by omega, by go_num, Lib.hid (has_no hsame.out hxk.out HE.out)⟩
        case measure => simp [intOf]; omega
    · go_wp2
      go_ret
      obtain rfl : k = n := by omega
      exact ⟨_, rfl, .inl ⟨rfl, by have := hsame.out; rw [take_all HX.out] at this; exact this⟩, rfl⟩
set_option maxHeartbeats 400000 in
theorem slContainsInt (va : Value) (n : Nat) (xs : List Int) (x : Int) (w : World) (ha : Rd w va 1 n (ints xs)) (hx : n ≤ 4000000) :
    Calls Tryz.prog 142 #[va, .int .i64 x] w fun e w' => e = .returned (.bool (has xs x)) ∧ w = w' := by
  go_enter Tryz.func142, Tryz.ntmps142
  go_wp2_with (go_at_call 145; refine (slIndexInt va n xs x _ ha hx).mono ?_; rintro e w' ⟨i, rfl, hi, rfl⟩)
  go_ret
  refine ⟨ret_bool ?_, rfl⟩
  rcases hi with ⟨rfl, h⟩ | ⟨h0, h⟩
  · simp [h]
  · simp [h, h0]
set_option maxHeartbeats 400000 in
theorem implContainsID (va : Value) (n : Nat) (xs : List Int) (x : Int) (w : World) (ha : Rd w va 1 n (ints xs)) (hx : n ≤ 4000000) :
    Calls Tryz.prog 135 #[va, .int .i64 x] w fun e w' => e = .returned (.bool (has xs x)) ∧ w = w' := by
  go_enter Tryz.func135, Tryz.ntmps135
  go_wp2_with (go_at_call 142; refine (slContainsInt va n xs x _ ha hx).mono ?_; rintro e w' ⟨rfl, rfl⟩)
  go_ret
  exact ⟨rfl, rfl⟩
end Go.Proofs.YtemikjbfjhebnaaGreat
namespace Go.Proofs.YtemikjbfjhebnaaGreat
open Go.RowKit
set_option linter.unusedVariables false
def szAll {α : Type} (f : α → Nat) (xs : List α) : Nat := (xs.map f).sum
theorem mem_szAll {α : Type} {f : α → Nat} {xs : List α} {x : α} (h : x ∈ xs) : f x ≤ szAll f xs := by
  induction xs with
  | nil => simp at h
  | cons y ys ih =>
    simp only [szAll, List.map_cons, List.sum_cons] at ih ⊢
    rcases List.mem_cons.1 h with rfl | h
    · omega
    · have := ih h; omega
end Go.Proofs.YtemikjbfjhebnaaGreat
namespace Go.Proofs.YtemikjbfjhebnaaGreat
open Go.RowKit
set_option linter.unusedVariables false
def eqV (a b : V) : Bool := a.kind == b.kind && (a.int == b.int && a.str.toList == b.str.toList)
def eqN (a b : N) : Bool := a.op == b.op && (a.left == b.left && (a.right == b.right && (a.name.toList == b.name.toList && eqV a.val b.val)))
theorem runEqV0 (d : Nat) (a b : V) (w : World) : (Op.equalIn (d + 4) 68 a.v b.v).run Tryz.prog w = .ok (eqV a b) w := by
  have u3 := Tryz.underlying3
  have u9 := Tryz.underlying9
  have hS : Tryz.prog.underlying 68 = some (.struct (Tryz.prog.fieldsOf 68)) := by kernel_rfl
  have hp : Tryz.prog.stoodInHeld 68 = false := by kernel_rfl
  rw [run_equalIn_agg w (d + 3) 68 _ _ hS hp]
  simp only [Program.fieldsOf, Tryz.underlying68]
  go_simp
  by_cases h1 : a.kind = b.kind <;> by_cases h2 : a.int = b.int <;> by_cases h3 : a.str.toList = b.str.toList <;> simp [eqV, h1, h2, h3]
theorem runEqV (a b : V) (w : World) : (binOp .eql 68 a.v b.v).run Tryz.prog w = .ok (.bool (eqV a b)) w := by
  rw [run_eql_struct, show (10000 : Nat) = 9996 + 4 from rfl, runEqV0]; rfl
theorem runEqN (a b : N) (w : World) : (binOp .eql 70 a.v b.v).run Tryz.prog w = .ok (.bool (eqN a b)) w := by
  have u3 := Tryz.underlying3
  have u9 := Tryz.underlying9
  have hS : Tryz.prog.underlying 70 = some (.struct (Tryz.prog.fieldsOf 70)) := by kernel_rfl
  have hp : Tryz.prog.stoodInHeld 70 = false := by kernel_rfl
  rw [run_eql_struct, show (10000 : Nat) = 9999 + 1 from rfl, run_equalIn_agg w 9999 70 _ _ hS hp]
  simp only [Program.fieldsOf, Tryz.underlying70]
  go_simp
  unfold eqN eqV
  by_cases h1 : a.op = b.op <;> by_cases h2 : a.left = b.left <;> by_cases h3 : a.right = b.right <;> by_cases h4 : a.name.toList = b.name.toList <;> by_cases h5 : a.val.kind = b.val.kind <;> by_cases h6 : a.val.int = b.val.int <;> by_cases h7 : a.val.str.toList = b.val.str.toList <;> simp [h1, h2, h3, h4, h5, h6, h7]
def low (s : ByteArray) : Prop := ∀ i (h : i < s.size), (97 : Int) ≤ (s[i].toNat : Int) ∧ (s[i].toNat : Int) ≤ 122
noncomputable def lowB (s : ByteArray) : Bool := @decide (low s) (Classical.propDecidable _)
theorem lowB_true {s : ByteArray} (h : low s) : lowB s = true := by simp [lowB, h]
theorem lowB_false {s : ByteArray} (h : ¬ low s) : lowB s = false := by simp [lowB, h]
noncomputable def txtB (s : ByteArray) (m : Int) : Bool := lowB s && inB s.size 1 m
set_option maxRecDepth 100000 in
set_option maxHeartbeats 1000000 in
theorem l02Text (s : ByteArray) (m : Int) (w : World) (hs : s.size ≤ 4000000) :
    Calls Tryz.prog 75 #[.string s, .int .i64 m] w fun e w' => e = .returned (.bool (txtB s m)) ∧ w = w' := by
  go_enter Tryz.func75, Tryz.ntmps75
  go_wp2
  go_loop [5] (fun i => ∃ k : Nat, k ≤ s.size ∧ i = .int .i64 k ∧ Hid (∀ i (h : i < s.size), i < k → (97 : Int) ≤ (s[i].toNat : Int) ∧ (s[i].toNat : Int) ≤ 122)) (fun i => s.size - (intOf i).toNat)
  case atStart => exact ⟨0, Nat.zero_le _, rfl, fun i _ h => absurd h (by omega)⟩
  case round =>
    obtain ⟨k, hk, rfl, hl⟩ := hrel
    by_cases hlt : k < s.size
    · by_cases h1 : (s[k].toNat : Int) < 97
      · have HF := Lib.hid (lowB_false (s := s) (fun h => by have := (h k hlt).1; omega))
        go_wp2
        go_ret
        exact ⟨ret_bool (by unfold txtB; rw [HF.out]; rfl), rfl⟩
      · by_cases h2 : (122 : Int) < (s[k].toNat : Int)
        · have HF := Lib.hid (lowB_false (s := s) (fun h => by have := (h k hlt).2; omega))
          go_wp2
          go_ret
          exact ⟨ret_bool (by unfold txtB; rw [HF.out]; rfl), rfl⟩
        · go_wp2
          go_round
          case rel => exact ⟨k + 1, by omega, by go_num, fun i h hi => by
            by_cases e : i = k
            · subst e; omega
            · exact hl.out i h (by omega)⟩
          case measure => simp [intOf]; omega
    · obtain rfl : k = s.size := by omega
      have HT := Lib.hid (lowB_true (s := s) (fun i h => hl.out i h h))
      go_wp2_with (go_at_call 24; refine (l01In _ _ _ _).mono ?_; rintro e w' ⟨rfl, rfl⟩)
      go_ret
      exact ⟨ret_bool (by unfold txtB; rw [HT.out]; rfl), rfl⟩
set_option maxHeartbeats 400000 in
theorem specIsValidString (s : ByteArray) (w : World) (hs : s.size ≤ 4000000) :
    Calls Tryz.prog 97 #[.string s] w fun e w' => e = .returned (.bool (txtB s 6)) ∧ w = w' := by
  go_enter Tryz.func97, Tryz.ntmps97
  go_wp2_with (go_at_call 75; refine (l02Text s 6 _ hs).mono ?_; rintro e w' ⟨rfl, rfl⟩)
  go_ret
  exact ⟨rfl, rfl⟩
set_option maxHeartbeats 400000 in
theorem specIsValidAttrName (s : ByteArray) (w : World) (hs : s.size ≤ 4000000) :
    Calls Tryz.prog 49 #[.string s] w fun e w' => e = .returned (.bool (txtB s 1)) ∧ w = w' := by
  go_enter Tryz.func49, Tryz.ntmps49
  go_wp2_with (go_at_call 75; refine (l02Text s 1 _ hs).mono ?_; rintro e w' ⟨rfl, rfl⟩)
  go_ret
  exact ⟨rfl, rfl⟩
set_option maxRecDepth 100000 in
set_option maxHeartbeats 1000000 in
theorem implIsValidString (s : ByteArray) (w : World) (hs : s.size ≤ 4000000) :
    Calls Tryz.prog 118 #[.string s] w fun e w' => e = .returned (.bool (txtB s 6)) ∧ w = w' := by
  go_enter Tryz.func118, Tryz.ntmps118
  go_wp2
  go_loop [3, 6] (fun _ i => ∃ k : Nat, k ≤ s.size ∧ i = .int .i64 k ∧ Hid (∀ i (h : i < s.size), i < k → (97 : Int) ≤ (s[i].toNat : Int) ∧ (s[i].toNat : Int) ≤ 122)) (fun _ i => s.size - (intOf i).toNat)
  case atStart => exact ⟨0, Nat.zero_le _, rfl, fun i _ h => absurd h (by omega)⟩
  case round =>
    obtain ⟨k, hk, rfl, hl⟩ := hrel
    by_cases hlt : k < s.size
    · by_cases h1 : (s[k].toNat : Int) < 97
      · have HF := Lib.hid (lowB_false (s := s) (fun h => by have := (h k hlt).1; omega))
        go_wp2
        go_ret
        exact ⟨ret_bool (by unfold txtB; rw [HF.out]; rfl), rfl⟩
      · by_cases h2 : (122 : Int) < (s[k].toNat : Int)
        · have HF := Lib.hid (lowB_false (s := s) (fun h => by have := (h k hlt).2; omega))
          go_wp2
          go_ret
          exact ⟨ret_bool (by unfold txtB; rw [HF.out]; rfl), rfl⟩
        · go_wp2
          go_round
          case rel => exact ⟨k + 1, by omega, by go_num, fun i h hi => by
            by_cases e : i = k
            · subst e; omega
            · exact hl.out i h (by omega)⟩
          case measure => simp [intOf]; omega
    · obtain rfl : k = s.size := by omega
      have HT := Lib.hid (lowB_true (s := s) (fun i h => hl.out i h h))
      go_wp2_with (go_at_call 65; refine (within _ _ _ _).mono ?_; rintro e w' ⟨rfl, rfl⟩)
      go_ret
      exact ⟨ret_bool (by unfold txtB; rw [HT.out]; rfl), rfl⟩
set_option maxHeartbeats 1000000 in
theorem implIsValidAttrName (s : ByteArray) (w : World) (hs : s.size ≤ 4000000) :
    Calls Tryz.prog 87 #[.string s] w fun e w' => e = .returned (.bool (txtB s 1)) ∧ w = w' := by
  by_cases h1 : s.size = 1
  · have hp : 0 < s.size := by omega
    have hpi : (0 : Int) < (s.size : Int) := by omega
    have hq : ((s.size : Int) == 1) = true := by simp; omega
    have key : txtB s 1 = (decide ((97 : Int) ≤ (s[0].toNat : Int)) && decide ((s[0].toNat : Int) ≤ 122)) := by
      by_cases hl : low s
      · have := hl 0 hp
        rw [txtB, lowB_true hl]; simp [inB, h1]; omega
      · rw [txtB, lowB_false hl]
        have : ¬ ((97 : Int) ≤ (s[0].toNat : Int) ∧ (s[0].toNat : Int) ≤ 122) := fun h => hl (fun i hi => by
          obtain rfl : i = 0 := by omega
          exact h)
        simp; omega
    have HK := Lib.hid key
    clear key h1
    by_cases a1 : (97 : Int) ≤ (s[0].toNat : Int)
    · by_cases a2 : (s[0].toNat : Int) ≤ 122
      · go_enter Tryz.func87, Tryz.ntmps87
        go_wp2
        go_ret
        exact ⟨ret_bool (by rw [HK.out]; simp [a1, a2]), rfl⟩
      · go_enter Tryz.func87, Tryz.ntmps87
        go_wp2
        go_ret
        exact ⟨ret_bool (by rw [HK.out]; simp [a2]), rfl⟩
    · have A1 := Lib.hid a1
      go_enter Tryz.func87, Tryz.ntmps87
      go_wp2
      go_ret
      exact ⟨ret_bool (by rw [HK.out, decide_eq_false (by have := A1.out; omega)]; rfl), rfl⟩
  · have hq : ((s.size : Int) == 1) = false := by simp; omega
    have HK := Lib.hid (show txtB s 1 = false by unfold txtB inB; simp; omega)
    clear h1
    go_enter Tryz.func87, Tryz.ntmps87
    go_wp2
    go_ret
    exact ⟨ret_bool HK.out.symm, rfl⟩
noncomputable def valB (v : V) : Bool := if v.kind == 0 then eqV v V.z else if v.kind == 1 then inB v.int 0 999 && v.str.toList.isEmpty else if v.kind == 2 then txtB v.str 6 && v.int == 0 else false
set_option maxHeartbeats 1000000 in
theorem specIsValidValue (v : V) (w : World) (hs : v.str.size ≤ 4000000) :
    Calls Tryz.prog 73 #[v.v] w fun e w' => e = .returned (.bool (valB v)) ∧ Grew w w' := by
  have hE := fun w => runEqV v V.z w
  simp only [V.z] at hE
  go_enter Tryz.func73, Tryz.ntmps73
  go_wp2_with (first | (go_at_call 24; refine (l01In _ _ _ _).mono ?_; rintro e w' ⟨rfl, rfl⟩) | (go_at_call 97; refine (specIsValidString _ _ hs).mono ?_; rintro e w' ⟨rfl, rfl⟩))
  all_goals go_ret
  all_goals refine ⟨ret_bool ?_, (Grew.refl _).alloc _⟩
  all_goals go_light
  all_goals simp [valB, V.z, *]
set_option maxHeartbeats 1000000 in
theorem implIsValidValue (v : V) (w : World) (hs : v.str.size ≤ 4000000) :
    Calls Tryz.prog 104 #[v.v] w fun e w' => e = .returned (.bool (valB v)) ∧ Grew w w' := by
  have hE := fun w => runEqV v V.z w
  simp only [V.z] at hE
  go_enter Tryz.func104, Tryz.ntmps104
  go_wp2_with (first | (go_at_call 65; refine (within _ _ _ _).mono ?_; rintro e w' ⟨rfl, rfl⟩) | (go_at_call 118; refine (implIsValidString _ _ hs).mono ?_; rintro e w' ⟨rfl, rfl⟩))
  all_goals go_ret
  all_goals refine ⟨ret_bool ?_, (Grew.refl _).alloc _⟩
  all_goals go_light
  all_goals simp [valB, V.z, *]
noncomputable def nodB (n : N) (at_ m : Int) : Bool :=
  if n.op == 1 then eqN n ⟨n.op, 0, 0, ⟨#[]⟩, V.z⟩
  else if n.op == 2 then txtB n.name 1 && eqN n ⟨n.op, 0, 0, n.name, V.z⟩
  else if n.op == 3 then txtB n.name 1 && (valB n.val && (!(n.val.kind == 0) && (n.left == 0 && n.right == 0)))
  else if n.op == 4 then txtB n.name 1 && (valB n.val && (n.val.kind == 1 && (n.left == 0 && n.right == 0)))
  else if n.op == 5 then (inB n.left 0 m && decide (0 < at_)) && (n.right == 0 && (n.name.toList.isEmpty && eqV n.val V.z))
  else if n.op == 6 || n.op == 7 then (inB n.left 0 m && decide (0 < at_)) && (inB n.right 0 m && (n.name.toList.isEmpty && eqV n.val V.z))
  else if n.op == 8 || n.op == 9 then txtB n.name 6 && eqN n ⟨n.op, 0, 0, n.name, V.z⟩
  else false
noncomputable def nodK (n : N) (kb tb : Bool) : Bool :=
  if n.op == 1 then eqN n ⟨n.op, 0, 0, ⟨#[]⟩, V.z⟩
  else if n.op == 2 then txtB n.name 1 && eqN n ⟨n.op, 0, 0, n.name, V.z⟩
  else if n.op == 3 then txtB n.name 1 && (valB n.val && (!(n.val.kind == 0) && (n.left == 0 && n.right == 0)))
  else if n.op == 4 then txtB n.name 1 && (valB n.val && (n.val.kind == 1 && (n.left == 0 && n.right == 0)))
  else if n.op == 5 then kb && (n.right == 0 && (n.name.toList.isEmpty && eqV n.val V.z))
  else if n.op == 6 || n.op == 7 then tb && (n.name.toList.isEmpty && eqV n.val V.z)
  else if n.op == 8 || n.op == 9 then txtB n.name 6 && eqN n ⟨n.op, 0, 0, n.name, V.z⟩
  else false
theorem nodB_k (n : N) (at_ m : Int) (kb tb : Bool) (hk : kb = (inB n.left 0 m && decide (0 < at_))) (ht : tb = (kb && inB n.right 0 m)) : nodB n at_ m = nodK n kb tb := by
  subst ht; subst hk
  unfold nodB nodK
  simp only [Bool.and_assoc]
set_option maxRecDepth 100000 in
set_option maxHeartbeats 4000000 in
theorem specIsValidNode (n : N) (at_ : Int) (w : World) (hs : n.name.size ≤ 4000000) (hv : n.val.str.size ≤ 4000000) :
    Calls Tryz.prog 115 #[n.v, .int .i64 at_] w fun e w' => e = .returned (.bool (nodB n at_ (wrap64 (at_ - 1)))) ∧ Grew w w' := by
  obtain ⟨op, l, r, nm, v⟩ := n
  simp only at hs hv
  have hE := fun o w => runEqN ⟨o, l, r, nm, v⟩ ⟨o, 0, 0, ⟨#[]⟩, V.z⟩ w
  have hF := fun o w => runEqN ⟨o, l, r, nm, v⟩ ⟨o, 0, 0, nm, V.z⟩ w
  have hV := fun w => runEqV v V.z w
  simp only [V.z] at hV hE hF
  have hop : op = 1 ∨ op = 2 ∨ op = 3 ∨ op = 4 ∨ op = 5 ∨ op = 6 ∨ op = 7 ∨ op = 8 ∨ op = 9 ∨ ((op == 1) = false ∧ (op == 2) = false ∧ (op == 3) = false ∧ (op == 4) = false ∧ (op == 5) = false ∧ (op == 6) = false ∧ (op == 7) = false ∧ (op == 8) = false ∧ (op == 9) = false) := by
    simp only [beq_eq_false_iff_ne]; omega
  have HOP := Lib.hid hop
  clear hop
  go_enter Tryz.func115, Tryz.ntmps115
  go_upto_region 1 with fail
  go_cut [5] (fun s5 wc => ∃ kb : Bool, s5 = .bool kb ∧ Hid (kb = (inB l 0 (wrap64 (at_ - 1)) && decide (0 < at_))) ∧ wc = w.alloc (.cells #[.int .i64 op, .int .i64 l, .int .i64 r, .string nm, .int .i64 v.kind, .int .i64 v.int, .string v.str] 70))
  case first =>
    go_wp2_with (go_at_call 24; refine (l01In _ _ _ _).mono ?_; rintro e w' ⟨rfl, rfl⟩)
    all_goals go_meet
    all_goals refine ⟨_, rfl, ?_, rfl⟩
    all_goals go_light
    all_goals simp [Hid, *]
  case rest =>
    obtain ⟨kb, rfl, HK, rfl⟩ := hcut
    go_upto_region 2 with fail
    go_cut [5, 6] (fun s5 s6 wc => ∃ tb : Bool, s5 = .bool kb ∧ s6 = .bool tb ∧ Hid (tb = (kb && inB r 0 (wrap64 (at_ - 1)))) ∧ wc = w.alloc (.cells #[.int .i64 op, .int .i64 l, .int .i64 r, .string nm, .int .i64 v.kind, .int .i64 v.int, .string v.str] 70))
    case first =>
      cases kb
      all_goals go_wp2_with (go_at_call 24; refine (l01In _ _ _ _).mono ?_; rintro e w' ⟨rfl, rfl⟩)
      all_goals go_meet
      all_goals refine ⟨_, rfl, rfl, ?_, rfl⟩
      all_goals simp [Hid]
    case rest =>
      obtain ⟨tb, rfl, rfl, HT, rfl⟩ := hcut
      have HN := Lib.hid (nodB_k ⟨op, l, r, nm, v⟩ at_ _ kb tb HK.out HT.out)
      clear HK HT
      rcases HOP.out with rfl | rfl | rfl | rfl | rfl | rfl | rfl | rfl | rfl | ⟨p1, p2, p3, p4, p5, p6, p7, p8, p9⟩
      all_goals
        clear HOP
        go_wp2_with (first | (go_at_call 97; refine (specIsValidString _ _ hs).mono ?_; rintro e w' ⟨rfl, rfl⟩) | (go_at_call 49; refine (specIsValidAttrName _ _ hs).mono ?_; rintro e w' ⟨rfl, rfl⟩) | (go_at_call 73; refine (specIsValidValue _ _ hv).mono ?_; rintro e w1 ⟨rfl, hb⟩; obtain ⟨hc, hf⟩ := hb.cells))
        all_goals go_ret
        all_goals refine ⟨ret_bool ?_, ?_⟩
        all_goals first
          | (with_reducible exact (Grew.refl _).alloc _)
          | (with_reducible exact ((Grew.refl _).alloc _).trans (by assumption))
          | (rw [HN.out]; go_light; clear HN hE hF hV; (try clear hc hf hb); simp [nodK, V.z, bne, *])
end Go.Proofs.YtemikjbfjhebnaaGreat
namespace Go.Proofs.YtemikjbfjhebnaaGreat
open Go.RowKit
set_option linter.unusedVariables false
noncomputable def sameB {α : Type} (a b : α) : Bool := @decide (a = b) (Classical.propDecidable _)
theorem sameB_yes {α : Type} {a b : α} (h : a = b) : sameB a b = true := by simp [sameB, h]
theorem sameB_no {α : Type} {a b : α} (h : a ≠ b) : sameB a b = false := by simp [sameB, h]
theorem sameB_len {α : Type} {xs ys : List α} (h : xs.length ≠ ys.length) : sameB xs ys = false := sameB_no (fun e => h (by rw [e]))
theorem sameB_at {α : Type} {xs ys : List α} {k : Nat} {x y : α} (hx : xs[k]? = some x) (hy : ys[k]? = some y) (h : x ≠ y) : sameB xs ys = false :=
  sameB_no (fun e => h (by subst e; exact Option.some.inj (hx.symm.trans hy)))
theorem sameB_all {α : Type} {xs ys : List α} {n : Nat} (hx : xs.length = n) (hy : ys.length = n) (h : ∀ j, j < n → xs[j]? = ys[j]?) : sameB xs ys = true :=
  sameB_yes (List.ext_getElem? (fun j => by
    by_cases hj : j < n
    · exact h j hj
    · rw [List.getElem?_eq_none (by omega), List.getElem?_eq_none (by omega)]))
theorem same_snoc {α : Type} {xs ys : List α} {k : Nat} {x y : α} (h : ∀ j, j < k → xs[j]? = ys[j]?) (hx : xs[k]? = some x) (hy : ys[k]? = some y) (he : x = y) : ∀ j, j < k + 1 → xs[j]? = ys[j]? := fun j hj => by
  rcases Nat.lt_succ_iff_lt_or_eq.1 hj with h1 | rfl
  · exact h j h1
  · rw [hx, hy, he]
set_option maxRecDepth 100000 in
set_option maxHeartbeats 1000000 in
theorem l07Ints (va vb : Value) (n m : Nat) (xs ys : List Int) (w : World) (ha : Rd w va 1 n (ints xs)) (hb : Rd w vb 1 m (ints ys)) (hx : n ≤ 4000000) (hy : m ≤ 4000000) :
    Calls Tryz.prog 42 #[va, vb] w fun e w' => e = .returned (.bool (sameB xs ys)) ∧ Grew w w' := by
  obtain ⟨a, ca, rfl, hca, hra⟩ := ha
  obtain ⟨b, cb, rfl, hcb, hrb⟩ := hb
  have HX := Lib.hid hra.len_map
  have HY := Lib.hid hrb.len_map
  by_cases hnm : n = m
  · subst hnm
    go_enter Tryz.func42, Tryz.ntmps42
    go_wp2
    go_loopw [5] (fun i wr => ∃ k : Nat, k ≤ n ∧ i = .int .i64 k ∧ Hid (∀ j, j < k → xs[j]? = ys[j]?) ∧ Grew w wr) (fun i _ => n - (intOf i).toNat)
    case atStart => exact ⟨0, Nat.zero_le _, rfl, Lib.hid (fun j h => absurd h (Nat.not_lt_zero j)), Grew.refl _⟩
    case round =>
      obtain ⟨k, hk, rfl, hsame, hbel⟩ := hrel
      by_cases hlt : k < n
      · obtain ⟨b1, o1, x, rfl, hxk, e1⟩ := (hra.grew hbel).one hlt
        obtain ⟨b2, o2, y, rfl, hyk, e2⟩ := (hrb.grew hbel).one hlt
        by_cases he : x = y
        · subst he
          go_wp2
          go_quiet (fail)
          go_wp2
          go_roundw
          case rel => exact ⟨k + 1, by omega, by go_num, Lib.hid (same_snoc hsame.out hxk.out hyk.out rfl), hbel.drewN _⟩
          case measure => simp [intOf]; omega
        · have hq : (x == y) = false := by simp [he]
          have HE := Lib.hid he
          clear he
          go_wp2
          go_quiet (fail)
          go_wp2
          go_ret
          exact ⟨ret_bool (sameB_at hxk.out hyk.out HE.out).symm, hbel.drewN _⟩
      · go_wp2
        go_ret
        obtain rfl : k = n := by omega
        exact ⟨ret_bool (sameB_all HX.out HY.out hsame.out).symm, hbel⟩
  · go_enter Tryz.func42, Tryz.ntmps42
    go_wp2
    go_ret
    exact ⟨ret_bool (sameB_len (by rw [HX.out, HY.out]; exact hnm)).symm, Grew.refl _⟩
set_option maxRecDepth 100000 in
set_option maxHeartbeats 1000000 in
theorem slEqualInt (va vb : Value) (n m : Nat) (xs ys : List Int) (w : World) (ha : Rd w va 1 n (ints xs)) (hb : Rd w vb 1 m (ints ys)) (hx : n ≤ 4000000) (hy : m ≤ 4000000) :
    Calls Tryz.prog 40 #[va, vb] w fun e w' => e = .returned (.bool (sameB xs ys)) ∧ Grew w w' := by
  obtain ⟨a, ca, rfl, hca, hra⟩ := ha
  obtain ⟨b, cb, rfl, hcb, hrb⟩ := hb
  have HX := Lib.hid hra.len_map
  have HY := Lib.hid hrb.len_map
  by_cases hnm : n = m
  · subst hnm
    go_enter Tryz.func40, Tryz.ntmps40
    go_wp2
    go_loopw [5, 13] (fun _ i wr => ∃ k : Nat, k ≤ n ∧ i = .int .i64 k ∧ Hid (∀ j, j < k → xs[j]? = ys[j]?) ∧ Grew w wr) (fun _ i _ => n - (intOf i).toNat)
    case atStart => exact ⟨0, Nat.zero_le _, rfl, Lib.hid (fun j h => absurd h (Nat.not_lt_zero j)), Grew.refl _⟩
    case round =>
      obtain ⟨k, hk, rfl, hsame, hbel⟩ := hrel
      by_cases hlt : k < n
      · obtain ⟨b1, o1, x, rfl, hxk, e1⟩ := (hra.grew hbel).one hlt
        obtain ⟨b2, o2, y, rfl, hyk, e2⟩ := (hrb.grew hbel).one hlt
        by_cases he : x = y
        · subst he
          go_wp2
          go_quiet (fail)
          go_wp2
          go_roundw
          case rel => exact ⟨k + 1, by omega, by go_num, Lib.hid (same_snoc hsame.out hxk.out hyk.out rfl), hbel.drewN _⟩
          case measure => simp [intOf]; omega
        · have hq : (x == y) = false := by simp [he]
          have HE := Lib.hid he
          clear he
          go_wp2
          go_quiet (fail)
          go_wp2
          go_ret
          exact ⟨ret_bool (sameB_at hxk.out hyk.out HE.out).symm, hbel.drewN _⟩
      · go_wp2
        go_ret
        obtain rfl : k = n := by omega
        exact ⟨ret_bool (sameB_all HX.out HY.out hsame.out).symm, hbel⟩
  · go_enter Tryz.func40, Tryz.ntmps40
    go_wp2
    go_ret
    exact ⟨ret_bool (sameB_len (by rw [HX.out, HY.out]; exact hnm)).symm, Grew.refl _⟩
noncomputable def eqL {α : Type} (f : α → α → Bool) (xs ys : List α) : Bool := @decide (xs.length = ys.length ∧ ∀ (j : Nat) x y, xs[j]? = some x → ys[j]? = some y → f x y = true) (Classical.propDecidable _)
theorem eqL_len {α : Type} {f : α → α → Bool} {xs ys : List α} (h : xs.length ≠ ys.length) : eqL f xs ys = false := by
  have hn : ¬ (xs.length = ys.length ∧ ∀ (j : Nat) x y, xs[j]? = some x → ys[j]? = some y → f x y = true) := fun e => h e.1
  exact @decide_eq_false _ (Classical.propDecidable _) hn
theorem eqL_at {α : Type} {f : α → α → Bool} {xs ys : List α} {k : Nat} {x y : α} (hx : xs[k]? = some x) (hy : ys[k]? = some y) (h : f x y = false) : eqL f xs ys = false := by
  have hn : ¬ (xs.length = ys.length ∧ ∀ (j : Nat) x y, xs[j]? = some x → ys[j]? = some y → f x y = true) := fun e => by
    have := e.2 k x y hx hy; rw [h] at this; cases this
  exact @decide_eq_false _ (Classical.propDecidable _) hn
theorem eqL_all {α : Type} {f : α → α → Bool} {xs ys : List α} {n : Nat} (hx : xs.length = n) (hy : ys.length = n) (h : ∀ (j : Nat) x y, j < n → xs[j]? = some x → ys[j]? = some y → f x y = true) : eqL f xs ys = true := by
  have hn : (xs.length = ys.length ∧ ∀ (j : Nat) x y, xs[j]? = some x → ys[j]? = some y → f x y = true) := ⟨by omega, fun j x y h1 h2 => h j x y (by have := (List.getElem?_eq_some_iff.1 h1).1; omega) h1 h2⟩
  exact @decide_eq_true _ (Classical.propDecidable _) hn
theorem eqL_snoc {α : Type} {f : α → α → Bool} {xs ys : List α} {k : Nat} {x y : α} (h : ∀ (j : Nat) x y, j < k → xs[j]? = some x → ys[j]? = some y → f x y = true) (hx : xs[k]? = some x) (hy : ys[k]? = some y) (he : f x y = true) : ∀ (j : Nat) x y, j < k + 1 → xs[j]? = some x → ys[j]? = some y → f x y = true := fun j u v hj h1 h2 => by
  rcases Nat.lt_succ_iff_lt_or_eq.1 hj with h3 | rfl
  · exact h j u v h3 h1 h2
  · obtain rfl := Option.some.inj (hx.symm.trans h1); obtain rfl := Option.some.inj (hy.symm.trans h2); exact he
end Go.Proofs.YtemikjbfjhebnaaGreat
namespace Go.Proofs.YtemikjbfjhebnaaGreat
open Go.RowKit
set_option linter.unusedVariables false
theorem own_slice {w : World} {base : Nat} {e : TypeId} {k n : Nat} {v : Value} {cs : List Value} (h : w.ownsRow base e k v n cs) : ∃ a cap, v = .slice a n cap := by
  obtain ⟨_, ⟨rfl, rfl⟩ | ⟨g, cap, cur, rfl, _⟩⟩ := h
  · exact ⟨_, _, rfl⟩
  · exact ⟨_, _, rfl⟩
theorem own_of {w : World} {lo : Nat} {e : TypeId} {k n : Nat} {v : Value} {cs : List Value} (h : w.ownsRow lo e k v n cs) : Own w lo w.heap.size e k v n cs := ⟨h, fun b hb => (h.lt b hb).2⟩
theorem Own.blk {w : World} {lo hi : Nat} {e : TypeId} {k n : Nat} {v : Value} {cs : List Value} (h : Own w lo hi e k v n cs) {b : Nat} (hb : v.ownBlock = some b) : lo ≤ b ∧ b < hi := ⟨(h.1.lt b hb).1, h.2 b hb⟩
theorem All2.blk {α β : Type} {O : α → β → Prop} {subs : β → List Value} {lo hi : Nat} (hO : ∀ x p v b, O x p → v ∈ subs p → v.ownBlock = some b → lo ≤ b ∧ b < hi) {xs : List α} {ps : List β} (h : All2 O xs ps) {v : Value} {b : Nat} (hv : v ∈ ps.flatMap subs) (hb : v.ownBlock = some b) : lo ≤ b ∧ b < hi := by
  obtain ⟨p, hp, hvp⟩ := List.mem_flatMap.1 hv
  obtain ⟨i, hi', rfl⟩ := List.getElem_of_mem hp
  obtain ⟨x, hx, hr⟩ := h.get (List.getElem?_eq_getElem hi')
  exact hO _ _ _ _ hr hvp hb
theorem Dis.cons {v : Value} {vs : List Value} (h : Dis vs) (hn : ∀ u b, u ∈ vs → v.ownBlock = some b → u.ownBlock ≠ some b) : Dis (v :: vs) :=
  Dis.app (us := [v]) (Dis.one v) h (fun u w b hu hw hb => by simp at hu; subst hu; exact hn w b hw hb)
theorem Dis.tail {v : Value} {vs : List Value} (h : Dis (v :: vs)) : Dis vs := by
  unfold Dis at *
  rw [List.filterMap_cons] at h
  cases hv : v.ownBlock <;> simp [hv] at h
  · exact h
  · exact h.2
theorem Dis.head {v : Value} {vs : List Value} (h : Dis (v :: vs)) {u : Value} {b : Nat} (hu : u ∈ vs) (hv : v.ownBlock = some b) : u.ownBlock ≠ some b := by
  unfold Dis at h
  rw [List.filterMap_cons, hv] at h
  simp at h
  exact fun hb => h.1 u hu hb
theorem Dis.left {us vs : List Value} (h : Dis (us ++ vs)) : Dis us := by
  unfold Dis at *
  rw [List.filterMap_append, List.nodup_append] at h
  exact h.1
theorem Dis.right {us vs : List Value} (h : Dis (us ++ vs)) : Dis vs := by
  unfold Dis at *
  rw [List.filterMap_append, List.nodup_append] at h
  exact h.2.1
def Dr.subs (p : P2) : List Value := [p.q]
def Dr.O (w : World) (lo hi : Nat) (x : Dr) (p : P2) : Prop := p.name = x.name ∧ Own w lo hi 70 7 p.q x.query.length (rows N.c x.query)
theorem Dr.O.grew {w w' : World} {lo hi : Nat} {x : Dr} {p : P2} (h : Dr.O w lo hi x p) (hg : Grew w w') : Dr.O w' lo hi x p := ⟨h.1, (h.2).grew hg⟩
theorem Dr.O.touch {w w' : World} {lo hi a b : Nat} {x : Dr} {p : P2} (h : Dr.O w lo hi x p) (ht : Touch a b w w') (hd : hi ≤ a ∨ b ≤ lo) : Dr.O w' lo hi x p := ⟨h.1, (h.2).touch ht hd⟩
theorem Dr.O.mono {w : World} {lo hi lo' hi' : Nat} {x : Dr} {p : P2} (h : Dr.O w lo hi x p) (h1 : lo' ≤ lo) (h2 : hi ≤ hi') : Dr.O w lo' hi' x p := ⟨h.1, (h.2).mono h1 h2⟩
theorem Dr.O.rd {w : World} {lo hi : Nat} {x : Dr} {p : P2} (h : Dr.O w lo hi x p) : Dr.R w x p := ⟨h.1, (h.2).rd⟩
theorem Dr.O.blk {w : World} {lo hi : Nat} {x : Dr} {p : P2} {v : Value} {b : Nat} (h : Dr.O w lo hi x p) (hv : v ∈ Dr.subs p) (hb : v.ownBlock = some b) : lo ≤ b ∧ b < hi := by
  simp only [Dr.subs, List.mem_cons, List.not_mem_nil, or_false] at hv
  subst hv; exact (h.2).blk hb
theorem RdDs.grew {w w' : World} {v : Value} {xs : List Dr} (h : RdDs w v xs) (hg : Grew w w') : RdDs w' v xs := RdL.grew (fun _ _ _ _ h k => h.grew k) h hg
def Dr.small (x : Dr) : Prop := x.query.length ≤ 4000000
def Rs.subs (p : P2) : List Value := [p.q]
def Rs.O (w : World) (lo hi : Nat) (x : Rs) (p : P2) : Prop := p.name = x.name ∧ Own w lo hi 3 1 p.q x.ids.length (ints x.ids)
theorem Rs.O.grew {w w' : World} {lo hi : Nat} {x : Rs} {p : P2} (h : Rs.O w lo hi x p) (hg : Grew w w') : Rs.O w' lo hi x p := ⟨h.1, (h.2).grew hg⟩
theorem Rs.O.touch {w w' : World} {lo hi a b : Nat} {x : Rs} {p : P2} (h : Rs.O w lo hi x p) (ht : Touch a b w w') (hd : hi ≤ a ∨ b ≤ lo) : Rs.O w' lo hi x p := ⟨h.1, (h.2).touch ht hd⟩
theorem Rs.O.mono {w : World} {lo hi lo' hi' : Nat} {x : Rs} {p : P2} (h : Rs.O w lo hi x p) (h1 : lo' ≤ lo) (h2 : hi ≤ hi') : Rs.O w lo' hi' x p := ⟨h.1, (h.2).mono h1 h2⟩
theorem Rs.O.rd {w : World} {lo hi : Nat} {x : Rs} {p : P2} (h : Rs.O w lo hi x p) : Rs.R w x p := ⟨h.1, (h.2).rd⟩
theorem Rs.O.blk {w : World} {lo hi : Nat} {x : Rs} {p : P2} {v : Value} {b : Nat} (h : Rs.O w lo hi x p) (hv : v ∈ Rs.subs p) (hb : v.ownBlock = some b) : lo ≤ b ∧ b < hi := by
  simp only [Rs.subs, List.mem_cons, List.not_mem_nil, or_false] at hv
  subst hv; exact (h.2).blk hb
abbrev OwnRss (w : World) (lo hi : Nat) (v : Value) (xs : List Rs) : Prop := OwnL P2.c 2 75 Rs.subs Rs.O w lo hi v xs
theorem OwnRss.rd {w : World} {lo hi : Nat} {v : Value} {xs : List Rs} (h : OwnRss w lo hi v xs) : RdRs w v xs := OwnL.rd (fun _ _ _ _ _ h => h.rd) h
theorem OwnRss.grew {w w' : World} {lo hi : Nat} {v : Value} {xs : List Rs} (h : OwnRss w lo hi v xs) (hg : Grew w w') : OwnRss w' lo hi v xs := OwnL.grew (fun _ _ _ _ _ _ h k => h.grew k) h hg
theorem OwnRss.touch {w w' : World} {lo hi a b : Nat} {v : Value} {xs : List Rs} (h : OwnRss w lo hi v xs) (ht : Touch a b w w') (hd : hi ≤ a ∨ b ≤ lo) : OwnRss w' lo hi v xs := OwnL.touch (fun _ _ _ _ _ _ _ _ h k d => h.touch k d) h ht hd
theorem RdRs.grew {w w' : World} {v : Value} {xs : List Rs} (h : RdRs w v xs) (hg : Grew w w') : RdRs w' v xs := RdL.grew (fun _ _ _ _ h k => h.grew k) h hg
def Rs.small (x : Rs) : Prop := x.ids.length ≤ 4000000
def Fl.subs (p : P5) : List Value := [p.attrs]
def Fl.O (w : World) (lo hi : Nat) (x : Fl) (p : P5) : Prop := p.id = x.id ∧ p.owner = x.owner ∧ p.shared = x.shared ∧ p.link = x.link ∧ Own w lo hi 84 4 p.attrs x.attrs.length (rows At.c x.attrs)
theorem Fl.O.grew {w w' : World} {lo hi : Nat} {x : Fl} {p : P5} (h : Fl.O w lo hi x p) (hg : Grew w w') : Fl.O w' lo hi x p := ⟨h.1, h.2.1, h.2.2.1, h.2.2.2.1, (h.2.2.2.2).grew hg⟩
theorem Fl.O.touch {w w' : World} {lo hi a b : Nat} {x : Fl} {p : P5} (h : Fl.O w lo hi x p) (ht : Touch a b w w') (hd : hi ≤ a ∨ b ≤ lo) : Fl.O w' lo hi x p := ⟨h.1, h.2.1, h.2.2.1, h.2.2.2.1, (h.2.2.2.2).touch ht hd⟩
theorem Fl.O.mono {w : World} {lo hi lo' hi' : Nat} {x : Fl} {p : P5} (h : Fl.O w lo hi x p) (h1 : lo' ≤ lo) (h2 : hi ≤ hi') : Fl.O w lo' hi' x p := ⟨h.1, h.2.1, h.2.2.1, h.2.2.2.1, (h.2.2.2.2).mono h1 h2⟩
theorem Fl.O.rd {w : World} {lo hi : Nat} {x : Fl} {p : P5} (h : Fl.O w lo hi x p) : Fl.R w x p := ⟨h.1, h.2.1, h.2.2.1, h.2.2.2.1, (h.2.2.2.2).rd⟩
theorem Fl.O.blk {w : World} {lo hi : Nat} {x : Fl} {p : P5} {v : Value} {b : Nat} (h : Fl.O w lo hi x p) (hv : v ∈ Fl.subs p) (hb : v.ownBlock = some b) : lo ≤ b ∧ b < hi := by
  simp only [Fl.subs, List.mem_cons, List.not_mem_nil, or_false] at hv
  subst hv; exact (h.2.2.2.2).blk hb
abbrev OwnFls (w : World) (lo hi : Nat) (v : Value) (xs : List Fl) : Prop := OwnL P5.c 5 55 Fl.subs Fl.O w lo hi v xs
theorem OwnFls.rd {w : World} {lo hi : Nat} {v : Value} {xs : List Fl} (h : OwnFls w lo hi v xs) : RdLs w v xs := OwnL.rd (fun _ _ _ _ _ h => h.rd) h
theorem OwnFls.grew {w w' : World} {lo hi : Nat} {v : Value} {xs : List Fl} (h : OwnFls w lo hi v xs) (hg : Grew w w') : OwnFls w' lo hi v xs := OwnL.grew (fun _ _ _ _ _ _ h k => h.grew k) h hg
theorem OwnFls.touch {w w' : World} {lo hi a b : Nat} {v : Value} {xs : List Fl} (h : OwnFls w lo hi v xs) (ht : Touch a b w w') (hd : hi ≤ a ∨ b ≤ lo) : OwnFls w' lo hi v xs := OwnL.touch (fun _ _ _ _ _ _ _ _ h k d => h.touch k d) h ht hd
theorem RdLs.grew {w w' : World} {v : Value} {xs : List Fl} (h : RdLs w v xs) (hg : Grew w w') : RdLs w' v xs := RdL.grew (fun _ _ _ _ h k => h.grew k) h hg
def Fl.small (x : Fl) : Prop := x.attrs.length ≤ 4000000
end Go.Proofs.YtemikjbfjhebnaaGreat
