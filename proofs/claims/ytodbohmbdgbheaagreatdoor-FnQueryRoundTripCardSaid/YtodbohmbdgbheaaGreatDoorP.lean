/- The plain part: what can be read at a slice, what a call's own rows hold; the data of this program as lists of cells. No program in sight. -/
import Derived.WalkKit
import Derived.WalkSpells
import Derived.WalkLawsBesides
import Derived.Lib.Hide
import Derived.Deep.QuietTactic
import Derived.BigQuiet
import Derived.Deep.RegionHeld3
namespace Go.Proofs.YtodbohmbdgbheaaGreatDoor
open Go.RowKit

/-- What can be read at an address: n elements of k cells each. -/
def RdA (w : World) (a : Option Addr) (k n : Nat) (cs : List Value) : Prop :=
  cs.length = n * k ∧ (0 < n → ∃ b o, a = some ⟨b, o, none⟩ ∧ ∀ j, j < n * k → w.cell? ⟨b, o + j, none⟩ = cs[j]?)
/-- A slice value of n elements of k cells each that can be read. -/
def Rd (w : World) (v : Value) (k n : Nat) (cs : List Value) : Prop := ∃ a cap, v = .slice a n cap ∧ n ≤ cap ∧ RdA w a k n cs

noncomputable def eqb {α : Type} (a b : α) : Bool := @decide (a = b) (Classical.propDecidable _)
theorem eqb_true {α : Type} {a b : α} (h : a = b) : eqb a b = true := by simp [eqb, h]
theorem eqb_false {α : Type} {a b : α} (h : a ≠ b) : eqb a b = false := by simp [eqb, h]
theorem eqb_iff {α : Type} {a b : α} : eqb a b = true ↔ a = b := by simp [eqb]
theorem ret_bool {a b : Bool} (h : a = b) : Ending.returned (.bool a) = .returned (.bool b) := by rw [h]
theorem ret_int {k : IntKind} {a b : Int} (h : a = b) : Ending.returned (.int k a) = .returned (.int k b) := by rw [h]
theorem ret_str {a b : ByteArray} (h : a = b) : Ending.returned (.string a) = .returned (.string b) := by rw [h]

theorem lt_of_cell {w : World} {a : Addr} {v : Value} (h : w.cell? a = some v) : a.block < w.heap.size := by
  simp only [World.cell?] at h
  apply Decidable.byContradiction
  intro hge
  rw [Array.getElem?_eq_none (by omega)] at h
  cases h

theorem RdA.below {w w' : World} {a : Option Addr} {k n : Nat} {cs : List Value} (h : RdA w a k n cs) (hb : Below w.heap.size w w') : RdA w' a k n cs := by
  obtain ⟨hl, hr⟩ := h
  refine ⟨hl, fun hn => ?_⟩
  obtain ⟨b, o, rfl, hj⟩ := hr hn
  refine ⟨b, o, rfl, fun j hjn => ?_⟩
  have h0 := hj j hjn
  rw [List.getElem?_eq_getElem (by omega)] at h0
  rw [hb.cell (p := ⟨b, o + j, none⟩) (lt_of_cell h0)]
  exact hj j hjn
theorem Rd.below {w w' : World} {v : Value} {k n : Nat} {cs : List Value} (h : Rd w v k n cs) (hb : Below w.heap.size w w') : Rd w' v k n cs := by
  obtain ⟨a, cap, rfl, hc, hr⟩ := h
  exact ⟨a, cap, rfl, hc, hr.below hb⟩

theorem RdA.at {w : World} {a : Option Addr} {k n : Nat} {cs : List Value} (h : RdA w a k n cs) (hn : 0 < n) :
    ∃ b o, a = some ⟨b, o, none⟩ ∧ ∀ j u, cs[j]? = some u → w.cell? ⟨b, o + j, none⟩ = some u := by
  obtain ⟨b, o, rfl, hj⟩ := h.2 hn
  refine ⟨b, o, rfl, fun j u hu => ?_⟩
  have hjn : j < n * k := by
    rw [← h.1]
    exact (List.getElem?_eq_some_iff.1 hu).1
  rw [hj j hjn, hu]

/-! Elements of one cell. -/
theorem RdA.len_map {α : Type} {f : α → Value} {w : World} {a : Option Addr} {n : Nat} {xs : List α} (h : RdA w a 1 n (xs.map f)) : xs.length = n := by
  have := h.1; simpa using this

theorem RdA.one {α : Type} {f : α → Value} {w : World} {a : Option Addr} {n : Nat} {xs : List α} (h : RdA w a 1 n (xs.map f)) {i : Nat} (hi : i < n) :
    ∃ b o x, a = some ⟨b, o, none⟩ ∧ Hid (xs[i]? = some x) ∧ w.cell? ⟨b, o + i, none⟩ = some (f x) := by
  obtain ⟨b, o, rfl, hc⟩ := h.at (by omega)
  have hl := h.len_map
  refine ⟨b, o, xs[i], rfl, List.getElem?_eq_getElem (by omega), hc i _ ?_⟩
  simp [List.getElem?_eq_getElem (show i < xs.length by omega)]

/-! Elements of k cells. -/
def rows {α : Type} (enc : α → List Value) (xs : List α) : List Value := (xs.map enc).flatten

theorem rows_nil {α : Type} (enc : α → List Value) : rows enc [] = [] := rfl
theorem rows_cons {α : Type} (enc : α → List Value) (x : α) (xs : List α) : rows enc (x :: xs) = enc x ++ rows enc xs := rfl
theorem rows_append {α : Type} (enc : α → List Value) (xs ys : List α) : rows enc (xs ++ ys) = rows enc xs ++ rows enc ys := by simp [rows]
theorem rows_length {α : Type} {enc : α → List Value} {k : Nat} (hk : ∀ x, (enc x).length = k) (xs : List α) : (rows enc xs).length = xs.length * k := by
  induction xs with
  | nil => simp [rows]
  | cons x xs ih => rw [rows_cons, List.length_append, hk, ih, List.length_cons, Nat.succ_mul]; omega
theorem rows_at {α : Type} {enc : α → List Value} {k : Nat} (hk : ∀ x, (enc x).length = k) : ∀ (xs : List α) (i j : Nat) (x : α), xs[i]? = some x → j < k → (rows enc xs)[i * k + j]? = (enc x)[j]? := by
  intro xs
  induction xs with
  | nil => intro i j x h; simp at h
  | cons y ys ih =>
    intro i j x h hj
    rw [rows_cons]
    cases i with
    | zero =>
      simp at h; subst h
      rw [Nat.zero_mul, Nat.zero_add, List.getElem?_append_left (by rw [hk]; exact hj)]
    | succ i =>
      simp at h
      rw [List.getElem?_append_right (by rw [hk, Nat.succ_mul]; omega), hk, show (i + 1) * k + j - k = i * k + j by rw [Nat.succ_mul]; omega]
      exact ih i j x h hj
theorem RdA.len_rows {α : Type} {enc : α → List Value} {k : Nat} (hk : ∀ x, (enc x).length = k) (h0 : 0 < k) {w : World} {a : Option Addr} {n : Nat} {xs : List α} (h : RdA w a k n (rows enc xs)) : xs.length = n := by
  have := h.1
  rw [rows_length hk] at this
  exact Nat.eq_of_mul_eq_mul_right h0 this
theorem RdA.row {α : Type} {enc : α → List Value} {k : Nat} (hk : ∀ x, (enc x).length = k) (h0 : 0 < k) {w : World} {a : Option Addr} {n : Nat} {xs : List α} (h : RdA w a k n (rows enc xs)) {i : Nat} (hi : i < n) :
    ∃ b o x, a = some ⟨b, o, none⟩ ∧ Hid (xs[i]? = some x) ∧ ∀ j u, (enc x)[j]? = some u → w.cell? ⟨b, o + i * k + j, none⟩ = some u := by
  obtain ⟨b, o, rfl, hc⟩ := h.at (by omega)
  have hl := h.len_rows hk h0
  refine ⟨b, o, xs[i], rfl, List.getElem?_eq_getElem (by omega), fun j u hu => ?_⟩
  rw [Nat.add_assoc]
  refine hc _ u ?_
  rw [rows_at hk xs i j xs[i] (List.getElem?_eq_getElem (by omega)) (by rw [← hk xs[i]]; exact (List.getElem?_eq_some_iff.1 hu).1)]
  exact hu

theorem take_snoc {α : Type} {xs : List α} {k : Nat} {x : α} (h : xs[k]? = some x) : xs.take (k + 1) = xs.take k ++ [x] := by
  rw [List.take_add_one, h]; rfl
theorem take_all {α : Type} {xs : List α} {n : Nat} (h : xs.length = n) : xs.take n = xs := by
  rw [← h]; exact List.take_length
theorem set_append_left {α : Type} (l1 l2 : List α) (i : Nat) (x b : α) (cs : List α) (h : l1.length = i) (hb : l2 = b :: cs) : (l1 ++ l2).set i x = l1 ++ [x] ++ cs := by
  subst hb; subst h
  rw [List.set_append_right _ _ (Nat.le_refl _)]; simp

/-! The world after a call that writes only what it made. -/
def Grew (w w' : World) : Prop := Below w.heap.size w w'
theorem Grew.below {w w' : World} (h : Grew w w') : Below w.heap.size w w' := h
theorem Grew.size {w w' : World} (h : Grew w w') : w.heap.size ≤ w'.heap.size := h.below.size
theorem Grew.refl (w : World) : Grew w w := Below.refl _ _
theorem Grew.trans {a b c : World} (h : Grew a b) (k : Grew b c) : Grew a c := Below.trans h (Below.mono k h.size)
theorem Grew.alloc {a w : World} (h : Grew a w) (o : Obj) : Grew a (w.alloc o) := Below.alloc h h.size o
theorem Grew.drew {a w : World} (h : Grew a w) : Grew a w.drew := Below.drew h
theorem Grew.drewN {a w : World} (h : Grew a w) (n : Nat) : Grew a (w.drewN n) := below_drewN h n
theorem Grew.setCell {a w : World} (h : Grew a w) {p : Addr} (hp : a.heap.size ≤ p.block) (u : Value) : Grew a (w.setCell p u) := Below.setCell h hp u
theorem Grew.grown {a w w' : World} {row : Option Nat} (h : Grew a w) (hg : w.grownBy w' row) (hr : ∀ k, row = some k → a.heap.size ≤ k) : Grew a w' := Below.grown h hg h.size hr
theorem Grew.cells {W w1 : World} (hb : Grew W w1) : (∀ b o, b < W.heap.size → w1.cell? ⟨b, o, none⟩ = W.cell? ⟨b, o, none⟩) ∧ (∀ b o, b < W.heap.size → w1.frozen? ⟨b, o, none⟩ = W.frozen? ⟨b, o, none⟩) :=
  ⟨fun b o h => hb.below.cell (p := ⟨b, o, none⟩) h, fun b o h => hb.below.frozen (p := ⟨b, o, none⟩) h⟩
theorem RdA.grew {w w' : World} {a : Option Addr} {k n : Nat} {cs : List Value} (h : RdA w a k n cs) (hb : Grew w w') : RdA w' a k n cs := h.below hb
theorem Rd.grew {w w' : World} {v : Value} {k n : Nat} {cs : List Value} (h : Rd w v k n cs) (hb : Grew w w') : Rd w' v k n cs := h.below hb
/-- What a size count leaves. -/
def Left (l : Int) (s : Nat) (r : Int) : Prop := r = -1 ∨ r = l - s ∧ 0 ≤ r

/-! Rows that a call owns. -/
theorem ownsRow_stores {w : World} {base : Nat} {e : TypeId} {size g n cap : Nat} {xs : List Value} (h : w.ownsRow base e size (.slice (some ⟨g, 0, none⟩) n cap) n xs) (j : Nat) (u : Value) :
    (w.setCell ⟨g, j, none⟩ u).ownsRow base e size (.slice (some ⟨g, 0, none⟩) n cap) n (xs.set j u) := (h.stored j u).1
theorem ownsRow_grew {w w' : World} {base : Nat} {e : TypeId} {size n : Nat} {v : Value} {xs : List Value} (h : w.ownsRow base e size v n xs) (hg : Grew w w') : w'.ownsRow base e size v n xs := by
  refine h.kept (row := none) ⟨hg.below.os, hg.below.tape, hg.below.output, hg.size, fun k hk _ => hg.below.block k hk⟩ ?_
  cases hv : v.ownBlock with
  | none => exact .inl rfl
  | some g => exact .inr (fun e => by cases e)
theorem ownsRow_base {w : World} {base base' : Nat} {e : TypeId} {size n : Nat} {v : Value} {xs : List Value} (h : w.ownsRow base e size v n xs) (hb : base' ≤ base) : w.ownsRow base' e size v n xs := by
  obtain ⟨hl, h | ⟨g, cap, cur, h1, h2, h3⟩⟩ := h
  · exact ⟨hl, .inl h⟩
  · exact ⟨hl, .inr ⟨g, cap, cur, h1, Nat.le_trans hb h2, h3⟩⟩
theorem rd_of_own {w : World} {base : Nat} {e : TypeId} {k n : Nat} {v : Value} {cs : List Value} (h : w.ownsRow base e k v n cs) : Rd w v k n cs := by
  have h0 := h
  obtain ⟨hl, ⟨rfl, rfl⟩ | ⟨g, cap, cur, rfl, _, _, hc, _⟩⟩ := h
  · exact ⟨none, 0, rfl, Nat.le_refl _, hl, fun h => absurd h (by omega)⟩
  · refine ⟨_, cap, rfl, hc, hl, fun _ => ⟨g, 0, rfl, fun j hj => ?_⟩⟩
    rw [Nat.zero_add]
    exact h0.cellAt j hj
theorem own_one {α : Type} {f : α → Value} {w : World} {base : Nat} {e : TypeId} {g n cap : Nat} {xs : List α} (h : w.ownsRow base e 1 (.slice (some ⟨g, 0, none⟩) n cap) n (xs.map f)) {i : Nat} (hi : i < n) :
    ∃ x, Hid (xs[i]? = some x) ∧ w.cell? ⟨g, i, none⟩ = some (f x) := by
  have hl : xs.length = n := by have := h.1; simpa using this
  refine ⟨xs[i], List.getElem?_eq_getElem (by omega), ?_⟩
  rw [h.cellAt _ (by omega)]
  simp [List.getElem?_eq_getElem (show i < xs.length by omega)]
theorem store_one {α : Type} {f : α → Value} {w : World} {base : Nat} {e : TypeId} {g n cap : Nat} {xs : List α} (h : w.ownsRow base e 1 (.slice (some ⟨g, 0, none⟩) n cap) n (xs.map f)) (i : Nat) (x : α) :
    (w.setCell ⟨g, i, none⟩ (f x)).ownsRow base e 1 (.slice (some ⟨g, 0, none⟩) n cap) n ((xs.set i x).map f) := by
  rw [List.map_set]
  exact ownsRow_stores h i (f x)
theorem own_row {α : Type} {enc : α → List Value} {k : Nat} (hk : ∀ x, (enc x).length = k) (h0 : 0 < k) {w : World} {base : Nat} {e : TypeId} {g n cap : Nat} {xs : List α} (h : w.ownsRow base e k (.slice (some ⟨g, 0, none⟩) n cap) n (rows enc xs)) {i : Nat} (hi : i < n) :
    ∃ x, Hid (xs[i]? = some x) ∧ ∀ j u, (enc x)[j]? = some u → w.cell? ⟨g, i * k + j, none⟩ = some u := by
  have hl : xs.length = n := by
    have := h.1
    rw [rows_length hk] at this
    exact Nat.eq_of_mul_eq_mul_right h0 this
  refine ⟨xs[i], List.getElem?_eq_getElem (by omega), fun j u hu => ?_⟩
  have hj : j < k := by rw [← hk xs[i]]; exact (List.getElem?_eq_some_iff.1 hu).1
  have hlt : i * k + j < n * k := by
    have : (i + 1) * k ≤ n * k := Nat.mul_le_mul_right k hi
    rw [Nat.succ_mul] at this; omega
  rw [h.cellAt _ hlt, rows_at hk xs i j xs[i] (List.getElem?_eq_getElem (by omega)) hj, hu]

/-- A row of stores from one cell on. -/
def stores (w : World) (g : Nat) : Nat → List Value → World
  | _, [] => w
  | o, u :: us => stores (w.setCell ⟨g, o, none⟩ u) g (o + 1) us
theorem own_stores {base : Nat} {e : TypeId} {k g n cap : Nat} : ∀ (us : List Value) (w : World) (xs l1 l2 cs : List Value) (o : Nat), w.ownsRow base e k (.slice (some ⟨g, 0, none⟩) n cap) n xs → xs = l1 ++ l2 ++ cs → l1.length = o → l2.length = us.length →
    (stores w g o us).ownsRow base e k (.slice (some ⟨g, 0, none⟩) n cap) n (l1 ++ us ++ cs) := by
  intro us
  induction us with
  | nil => intro w xs l1 l2 cs o h hx _ h2; have : l2 = [] := List.length_eq_zero_iff.1 (by simpa using h2); subst this; subst hx; exact h
  | cons u us ih =>
    intro w xs l1 l2 cs o h hx h1 h2
    cases l2 with
    | nil => simp at h2
    | cons y l2 =>
      have hs := ownsRow_stores h o u
      have e1 : xs.set o u = (l1 ++ [u]) ++ l2 ++ cs := by
        rw [hx, List.append_assoc, List.cons_append, set_append_left l1 (y :: (l2 ++ cs)) o u y (l2 ++ cs) h1 rfl]; simp
      have := ih _ _ (l1 ++ [u]) l2 cs (o + 1) hs e1 (by simp [h1]) (by simpa using h2)
      simpa [stores] using this
theorem store_row {α : Type} {enc : α → List Value} {k : Nat} (hk : ∀ x, (enc x).length = k) (h0 : 0 < k) {w : World} {base : Nat} {e : TypeId} {g n cap : Nat} {xs : List α} (h : w.ownsRow base e k (.slice (some ⟨g, 0, none⟩) n cap) n (rows enc xs)) {i : Nat} (hi : i < n) (x : α) :
    (stores w g (i * k) (enc x)).ownsRow base e k (.slice (some ⟨g, 0, none⟩) n cap) n (rows enc (xs.set i x)) := by
  have hl : xs.length = n := by
    have := h.1
    rw [rows_length hk] at this
    exact Nat.eq_of_mul_eq_mul_right h0 this
  have e1 : xs = xs.take i ++ xs[i] :: xs.drop (i + 1) := by rw [List.getElem_cons_drop, List.take_append_drop]
  have e2 : rows enc xs = rows enc (xs.take i) ++ enc xs[i] ++ rows enc (xs.drop (i + 1)) := by
    conv => lhs; rw [e1]
    rw [rows_append, rows_cons, List.append_assoc]
  have e3 : rows enc (xs.set i x) = rows enc (xs.take i) ++ enc x ++ rows enc (xs.drop (i + 1)) := by
    rw [List.set_eq_take_append_cons_drop, if_pos (by omega), rows_append, rows_cons, List.append_assoc]
  rw [e3]
  exact own_stores (enc x) w _ _ _ _ (i * k) h e2 (by rw [rows_length hk, List.length_take, hl, Nat.min_eq_left (by omega)]) (by rw [hk, hk])
theorem rows_made {α : Type} {enc : α → List Value} {k : Nat} (z : α) (zs : Array Value) (hz : zs.toList = enc z) (hk : (enc z).length = k) (n : Nat) : (madeCells zs (n * k)).toList = rows enc (List.replicate n z) := by
  have hsz : zs.size = k := by rw [← hk, ← hz]; simp
  apply List.ext_getElem?
  intro i
  by_cases hi : i < n * k
  · have hk0 : 0 < k := by
      rcases Nat.eq_zero_or_pos k with h | h
      · subst h; simp at hi
      · exact h
    have hmod := Nat.mod_lt i hk0
    have hdiv : i / k < n := (Nat.div_lt_iff_lt_mul hk0).2 hi
    have hd : i = i / k * k + i % k := by rw [Nat.mul_comm]; exact (Nat.div_add_mod i k).symm
    have hr : (rows enc (List.replicate n z))[i]? = (enc z)[i % k]? := by
      have h1 : ∀ m q, q < m → ∀ j, j < k → (rows enc (List.replicate m z))[q * k + j]? = (enc z)[j]? := by
        intro m
        induction m with
        | zero => intro q hq; omega
        | succ m ih =>
          intro q hq j hj
          rw [List.replicate_succ, rows_cons]
          cases q with
          | zero => rw [Nat.zero_mul, Nat.zero_add, List.getElem?_append_left (by omega)]
          | succ q =>
            rw [List.getElem?_append_right (by rw [hk, Nat.succ_mul]; omega), hk, show (q + 1) * k + j - k = q * k + j by rw [Nat.succ_mul]; omega]
            exact ih q (by omega) j hj
      conv => lhs; rw [hd]
      exact h1 n (i / k) hdiv (i % k) hmod
    rw [hr, ← hz]
    have hb : i % zs.size < zs.size := by rw [hsz]; exact hmod
    simp only [madeCells, Array.toList_map, Array.toList_range, List.getElem?_map]
    rw [List.getElem?_range hi]
    simp only [Option.map_some]
    rw [← hsz, Array.getElem?_toList, Array.getElem?_eq_getElem hb, getElem!_pos zs _ hb]
  · have h1 : (rows enc (List.replicate n z)).length = n * k := by
      clear hi
      induction n with
      | zero => simp [rows]
      | succ n ih => rw [List.replicate_succ, rows_cons, List.length_append, ih, hk, Nat.succ_mul]; omega
    rw [List.getElem?_eq_none (by simp [size_madeCells]; omega), List.getElem?_eq_none (by omega)]

/-! Regions: what a call may write. -/
structure Touch (lo hi : Nat) (w w' : World) : Prop where
  os : w'.os = w.os
  tape : w'.tape = w.tape
  output : w'.output = w.output
  size : w.heap.size ≤ w'.heap.size
  block : ∀ b, b < w.heap.size → (b < lo ∨ hi ≤ b) → w'.heap[b]? = w.heap[b]?
theorem Touch.refl (lo hi : Nat) (w : World) : Touch lo hi w w := ⟨rfl, rfl, rfl, Nat.le_refl _, fun _ _ _ => rfl⟩
theorem Touch.trans {lo hi : Nat} {a b c : World} (h : Touch lo hi a b) (k : Touch lo hi b c) : Touch lo hi a c :=
  ⟨k.os.trans h.os, k.tape.trans h.tape, k.output.trans h.output, Nat.le_trans h.size k.size, fun i hi ho => (k.block i (Nat.lt_of_lt_of_le hi h.size) ho).trans (h.block i hi ho)⟩
theorem Touch.mono {lo hi lo' hi' : Nat} {a b : World} (h : Touch lo hi a b) (h1 : lo' ≤ lo) (h2 : hi ≤ hi') : Touch lo' hi' a b :=
  ⟨h.os, h.tape, h.output, h.size, fun i hl ho => h.block i hl (by omega)⟩
theorem Grew.touch {a b : World} (h : Grew a b) (lo hi : Nat) : Touch lo hi a b := ⟨h.below.os, h.below.tape, h.below.output, h.size, fun i hl _ => h.below.block i hl⟩
theorem Touch.grew {lo hi : Nat} {a b c : World} (h : Touch lo hi a b) (k : Grew b c) : Touch lo hi a c := h.trans (k.touch lo hi)
theorem Touch.alloc {lo hi : Nat} {a w : World} (h : Touch lo hi a w) (o : Obj) : Touch lo hi a (w.alloc o) := h.grew ((Grew.refl w).alloc o)
theorem Touch.drew {lo hi : Nat} {a w : World} (h : Touch lo hi a w) : Touch lo hi a w.drew := h.grew (Grew.refl w).drew
theorem Touch.drewN {lo hi : Nat} {a w : World} (h : Touch lo hi a w) (n : Nat) : Touch lo hi a (w.drewN n) := h.grew ((Grew.refl w).drewN n)
theorem Touch.setCell {lo hi : Nat} {a w : World} (h : Touch lo hi a w) {p : Addr} (h1 : lo ≤ p.block) (h2 : p.block < hi) (u : Value) : Touch lo hi a (w.setCell p u) :=
  h.trans ⟨rfl, rfl, rfl, by simp [World.setCell], fun k _ ho => Below.heap_setCell _ _ _ _ (by omega)⟩
/-- A touch of what is new since 'a' is a growth. -/
theorem Touch.new {a b c : World} {lo hi : Nat} (h : Grew a b) (k : Touch lo hi b c) (hl : a.heap.size ≤ lo) : Grew a c :=
  Below.trans h ⟨k.os, k.tape, k.output, k.size, fun i hi => by
    have := h.size
    exact k.block i (by omega) (Or.inl (by omega))⟩

/-- A row of the call's own whose block lies in a region. -/
def Own (w : World) (lo hi : Nat) (e : TypeId) (k : Nat) (v : Value) (n : Nat) (cs : List Value) : Prop := w.ownsRow lo e k v n cs ∧ ∀ b, v.ownBlock = some b → b < hi
theorem Own.of {w w' : World} {e : TypeId} {k n : Nat} {v : Value} {cs : List Value} (h : w'.ownsRow w.heap.size e k v n cs) : Own w' w.heap.size w'.heap.size e k v n cs := ⟨h, fun b hb => (h.lt b hb).2⟩
theorem Own.touch {w w' : World} {lo hi a b : Nat} {e : TypeId} {k n : Nat} {v : Value} {cs : List Value} (h : Own w lo hi e k v n cs) (ht : Touch a b w w') (hd : hi ≤ a ∨ b ≤ lo) : Own w' lo hi e k v n cs := by
  refine ⟨?_, h.2⟩
  obtain ⟨hl, ⟨rfl, rfl⟩ | ⟨g, cap, cur, rfl, hg, hh, hr⟩⟩ := h.1
  · exact ⟨hl, .inl ⟨rfl, rfl⟩⟩
  · have hb := h.1.lt g rfl
    have hg2 := h.2 g rfl
    exact ⟨hl, .inr ⟨g, cap, cur, rfl, hg, (ht.block g hb.2 (by omega)).trans hh, hr⟩⟩
theorem Own.grew {w w' : World} {lo hi : Nat} {e : TypeId} {k n : Nat} {v : Value} {cs : List Value} (h : Own w lo hi e k v n cs) (hg : Grew w w') : Own w' lo hi e k v n cs := ⟨ownsRow_grew h.1 hg, h.2⟩
theorem Own.rd {w : World} {lo hi : Nat} {e : TypeId} {k n : Nat} {v : Value} {cs : List Value} (h : Own w lo hi e k v n cs) : Rd w v k n cs := rd_of_own h.1
theorem Own.mono {w : World} {lo hi lo' hi' : Nat} {e : TypeId} {k n : Nat} {v : Value} {cs : List Value} (h : Own w lo hi e k v n cs) (h1 : lo' ≤ lo) (h2 : hi ≤ hi') : Own w lo' hi' e k v n cs := ⟨ownsRow_base h.1 h1, fun b hb => Nat.lt_of_lt_of_le (h.2 b hb) h2⟩
/-- An own row is nil and empty, or lies at the head of one block. -/
theorem Own.cases {w : World} {lo hi : Nat} {e : TypeId} {k n : Nat} {v : Value} {cs : List Value} (h : Own w lo hi e k v n cs) :
    (v = .slice none 0 0 ∧ n = 0 ∧ cs = []) ∨ ∃ g cap, v = .slice (some ⟨g, 0, none⟩) n cap ∧ lo ≤ g ∧ g < hi ∧ n ≤ cap ∧ w.ownsRow g e k (.slice (some ⟨g, 0, none⟩) n cap) n cs := by
  obtain ⟨hl, ⟨rfl, rfl⟩ | ⟨g, cap, cur, rfl, hg, hh, hr⟩⟩ := h.1
  · exact .inl ⟨rfl, rfl, List.length_eq_zero_iff.1 (by simpa using hl)⟩
  · exact .inr ⟨g, cap, rfl, hg, h.2 g rfl, hr.1, hl, .inr ⟨g, cap, cur, rfl, Nat.le_refl _, hh, hr⟩⟩
theorem Own.size_lt {w : World} {lo hi : Nat} {e : TypeId} {k n g cap : Nat} {cs : List Value} (h : Own w lo hi e k (.slice (some ⟨g, 0, none⟩) n cap) n cs) : lo ≤ g ∧ g < hi ∧ g < w.heap.size := by
  have := h.1.lt g rfl
  exact ⟨this.1, h.2 g rfl, this.2⟩

theorem snd_of {p q : Prop} (h : p ∧ q) : q := h.2
/-! For a region that draws its order and calls: what is loaded stands in every world on the way. -/
theorem grew_cell {w w' : World} (hb : Grew w w') {a : Addr} {u : Value} (h : w.cell? a = some u) : w'.cell? a = some u := by
  rw [hb.below.cell (lt_of_cell h)]; exact h
theorem held1 {wr w' w1 : World} {a : Addr} {u : Value} (h : w'.cell? a = some u ∧ Grew wr w') (hb : Grew w' w1) : w1.cell? a = some u ∧ Grew wr w1 :=
  ⟨grew_cell hb h.1, h.2.trans hb⟩
theorem held2 {wr w' w1 : World} {a b : Addr} {u v : Value} (h : w'.cell? a = some u ∧ w'.cell? b = some v ∧ Grew wr w') (hb : Grew w' w1) : w1.cell? a = some u ∧ w1.cell? b = some v ∧ Grew wr w1 :=
  ⟨grew_cell hb h.1, grew_cell hb h.2.1, h.2.2.trans hb⟩
theorem own_some {w : World} {base : Nat} {e : TypeId} {k g n cap : Nat} {cs : List Value} (h : w.ownsRow base e k (.slice (some ⟨g, 0, none⟩) n cap) n cs) (j : Nat) (hj : j < n * k) : ∃ u, w.cell? ⟨g, j, none⟩ = some u := by
  have := h.cellAt j hj
  rw [List.getElem?_eq_getElem (by rw [h.1]; exact hj)] at this
  exact ⟨_, this⟩
/-- A row of sets from one place on. -/
def sets : List Value → Nat → List Value → List Value
  | l, _, [] => l
  | l, o, u :: us => sets (l.set o u) (o + 1) us
theorem sets_mid : ∀ (us l l1 l2 cs : List Value) (o : Nat), l = l1 ++ l2 ++ cs → l1.length = o → l2.length = us.length → sets l o us = l1 ++ us ++ cs := by
  intro us
  induction us with
  | nil => intro l l1 l2 cs o h _ h2; have : l2 = [] := List.length_eq_zero_iff.1 (by simpa using h2); subst this; simpa [sets] using h
  | cons u us ih =>
    intro l l1 l2 cs o h h1 h2
    cases l2 with
    | nil => simp at h2
    | cons y l2 =>
      have e1 : l.set o u = (l1 ++ [u]) ++ l2 ++ cs := by
        rw [h, List.append_assoc, List.cons_append, set_append_left l1 (y :: (l2 ++ cs)) o u y (l2 ++ cs) h1 rfl]; simp
      have := ih (l.set o u) (l1 ++ [u]) l2 cs (o + 1) e1 (by simp [h1]) (by simpa using h2)
      simpa [sets] using this
theorem rows_sets {α : Type} {enc : α → List Value} {k : Nat} (hk : ∀ x, (enc x).length = k) (xs : List α) (i : Nat) (hi : i < xs.length) (x : α) : sets (rows enc xs) (i * k) (enc x) = rows enc (xs.set i x) := by
  have e1 : xs = xs.take i ++ xs[i] :: xs.drop (i + 1) := by rw [List.getElem_cons_drop, List.take_append_drop]
  have e2 : rows enc xs = rows enc (xs.take i) ++ enc xs[i] ++ rows enc (xs.drop (i + 1)) := by
    conv => lhs; rw [e1]
    rw [rows_append, rows_cons, List.append_assoc]
  have e3 : rows enc (xs.set i x) = rows enc (xs.take i) ++ enc x ++ rows enc (xs.drop (i + 1)) := by
    rw [List.set_eq_take_append_cons_drop, if_pos (by omega), rows_append, rows_cons, List.append_assoc]
  rw [e3]
  exact sets_mid (enc x) _ _ _ _ (i * k) e2 (by rw [rows_length hk, List.length_take, Nat.min_eq_left (by omega)]) (by rw [hk, hk])

/-! Slices of structures that hold slices: what is in the cells ('p') and what it stands for ('x'). -/
def All2 {α β : Type} (R : α → β → Prop) (xs : List α) (ys : List β) : Prop := xs.length = ys.length ∧ ∀ (i : Nat) x y, xs[i]? = some x → ys[i]? = some y → R x y
theorem All2.nil {α β : Type} {R : α → β → Prop} : All2 R [] [] := ⟨rfl, fun i x y h => by simp at h⟩
theorem All2.mono {α β : Type} {R S : α → β → Prop} {xs : List α} {ys : List β} (h : All2 R xs ys) (hs : ∀ x y, R x y → S x y) : All2 S xs ys := ⟨h.1, fun i x y hx hy => hs x y (h.2 i x y hx hy)⟩
theorem All2.snoc {α β : Type} {R : α → β → Prop} {xs : List α} {ys : List β} {x : α} {y : β} (h : All2 R xs ys) (hr : R x y) : All2 R (xs ++ [x]) (ys ++ [y]) := by
  refine ⟨by simp [h.1], fun i a b ha hb => ?_⟩
  by_cases hi : i < xs.length
  · rw [List.getElem?_append_left hi] at ha
    rw [List.getElem?_append_left (by rw [← h.1]; exact hi)] at hb
    exact h.2 i a b ha hb
  · have hl := (List.getElem?_eq_some_iff.1 ha).1
    simp at hl
    obtain rfl : i = xs.length := by omega
    rw [List.getElem?_append_right (Nat.le_refl _)] at ha
    rw [List.getElem?_append_right (by rw [h.1]; exact Nat.le_refl _)] at hb
    simp [h.1] at ha hb
    subst ha; subst hb; exact hr
theorem All2.get {α β : Type} {R : α → β → Prop} {xs : List α} {ys : List β} (h : All2 R xs ys) {i : Nat} {y : β} (hy : ys[i]? = some y) : ∃ x, Hid (xs[i]? = some x) ∧ R x y := by
  have hl := (List.getElem?_eq_some_iff.1 hy).1
  rw [← h.1] at hl
  exact ⟨xs[i], List.getElem?_eq_getElem hl, h.2 i _ _ (List.getElem?_eq_getElem hl) hy⟩
theorem All2.set {α β : Type} {R : α → β → Prop} {xs : List α} {ys : List β} (h : All2 R xs ys) (i : Nat) (x : α) (y : β) (hr : R x y) : All2 R (xs.set i x) (ys.set i y) := by
  refine ⟨by simp [h.1], fun j a b ha hb => ?_⟩
  by_cases hij : i = j
  · subst hij
    have hl := (List.getElem?_eq_some_iff.1 ha).1
    simp at hl
    rw [List.getElem?_set_self hl] at ha
    rw [List.getElem?_set_self (by rw [← h.1]; exact hl)] at hb
    simp at ha hb; subst ha; subst hb; exact hr
  · rw [List.getElem?_set_ne hij] at ha hb
    exact h.2 j a b ha hb
/-- No two slice values lead into one block. -/
def Dis (vs : List Value) : Prop := (vs.filterMap Value.ownBlock).Nodup
theorem Dis.nil : Dis [] := by simp [Dis]
theorem Dis.app {us vs : List Value} (h1 : Dis us) (h2 : Dis vs) (h : ∀ u v b, u ∈ us → v ∈ vs → u.ownBlock = some b → v.ownBlock ≠ some b) : Dis (us ++ vs) := by
  unfold Dis at *
  rw [List.filterMap_append, List.nodup_append]
  refine ⟨h1, h2, fun a ha b hb hab => ?_⟩
  subst hab
  obtain ⟨u, hu, hub⟩ := List.mem_filterMap.1 ha
  obtain ⟨v, hv, hvb⟩ := List.mem_filterMap.1 hb
  exact h u v a hu hv hub hvb
theorem Dis.one (v : Value) : Dis [v] := by
  unfold Dis
  cases h : v.ownBlock <;> simp [h]
def RdL {α β : Type} (enc : β → List Value) (k : Nat) (R : World → α → β → Prop) (w : World) (v : Value) (xs : List α) : Prop := ∃ ps, Rd w v k xs.length (rows enc ps) ∧ All2 (R w) xs ps
def OwnL {α β : Type} (enc : β → List Value) (k : Nat) (e : TypeId) (subs : β → List Value) (O : World → Nat → Nat → α → β → Prop) (w : World) (lo hi : Nat) (v : Value) (xs : List α) : Prop :=
  ∃ ps, Own w lo hi e k v xs.length (rows enc ps) ∧ All2 (O w lo hi) xs ps ∧ Dis (v :: ps.flatMap subs)
theorem RdL.grew {α β : Type} {enc : β → List Value} {k : Nat} {R : World → α → β → Prop} (hR : ∀ w w' x p, R w x p → Grew w w' → R w' x p) {w w' : World} {v : Value} {xs : List α} (h : RdL enc k R w v xs) (hg : Grew w w') : RdL enc k R w' v xs := by
  obtain ⟨ps, h1, h2⟩ := h
  exact ⟨ps, h1.grew hg, h2.mono fun x p h => hR _ _ _ _ h hg⟩
theorem OwnL.grew {α β : Type} {enc : β → List Value} {k : Nat} {e : TypeId} {subs : β → List Value} {O : World → Nat → Nat → α → β → Prop} (hO : ∀ w w' lo hi x p, O w lo hi x p → Grew w w' → O w' lo hi x p) {w w' : World} {lo hi : Nat} {v : Value} {xs : List α} (h : OwnL enc k e subs O w lo hi v xs) (hg : Grew w w') : OwnL enc k e subs O w' lo hi v xs := by
  obtain ⟨ps, h1, h2, h3⟩ := h
  exact ⟨ps, h1.grew hg, h2.mono fun x p h => hO _ _ _ _ _ _ h hg, h3⟩
theorem OwnL.touch {α β : Type} {enc : β → List Value} {k : Nat} {e : TypeId} {subs : β → List Value} {O : World → Nat → Nat → α → β → Prop} (hO : ∀ w w' lo hi a b x p, O w lo hi x p → Touch a b w w' → (hi ≤ a ∨ b ≤ lo) → O w' lo hi x p) {w w' : World} {lo hi a b : Nat} {v : Value} {xs : List α} (h : OwnL enc k e subs O w lo hi v xs) (ht : Touch a b w w') (hd : hi ≤ a ∨ b ≤ lo) : OwnL enc k e subs O w' lo hi v xs := by
  obtain ⟨ps, h1, h2, h3⟩ := h
  exact ⟨ps, h1.touch ht hd, h2.mono fun x p h => hO _ _ _ _ _ _ _ _ h ht hd, h3⟩
theorem OwnL.rd {α β : Type} {enc : β → List Value} {k : Nat} {e : TypeId} {subs : β → List Value} {O : World → Nat → Nat → α → β → Prop} {R : World → α → β → Prop} (hO : ∀ w lo hi x p, O w lo hi x p → R w x p) {w : World} {lo hi : Nat} {v : Value} {xs : List α} (h : OwnL enc k e subs O w lo hi v xs) : RdL enc k R w v xs := by
  obtain ⟨ps, h1, h2, _⟩ := h
  exact ⟨ps, h1.rd, h2.mono fun x p h => hO _ _ _ _ _ h⟩
theorem grew_frozen {w w' : World} (hb : Grew w w') {a : Addr} (h : a.block < w.heap.size) (h0 : w.frozen? a = false) : w'.frozen? a = false := by
  rw [hb.below.frozen h]; exact h0
end Go.Proofs.YtodbohmbdgbheaaGreatDoor
