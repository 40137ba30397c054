/- Texts G, P, T, H1, H2, C1, as far as they are needed. -/
import Derived.Deep.RegionHeld3
import Derived.WalkKit
import Derived.WalkSpells
import Derived.WalkLawsBesides
import Derived.Lib.Hide
import Derived.Deep.QuietTactic
import Derived.BigQuiet
import Derived.Test.YtejgpghcahinhaaGreatRows
namespace Go.Proofs.YtejgpghcahinhaaGreat
section
variable {P : Program} {md : Region.Mode} {ops : Array Oper} {Q : Exit → Act → World → Prop} {S : World → Prop}
theorem at_of_drop {i : Nat} {oi : Oper} {rs : List Oper} (hi : ops.toList.drop i = oi :: rs) : ops[i]? = some oi := by
  have h : (ops.toList.drop i)[0]? = some oi := by rw [hi]; rfl
  rw [List.getElem?_drop] at h
  simpa using h
theorem chk3 {a b c : Bool} (h : (a && (b && c)) = true) : a = true ∧ b = true ∧ c = true := by
  cases a <;> cases b <;> cases c <;> simp_all
theorem tk (i : Nat) {oi : Oper} {rs : List Oper} {v : Value} {fuel : Nat} {listed : Array Bool} {a : Act} {w : World} (hi : ops.toList.drop i = oi :: rs)
    (hc : (Region.noSelect ops && (Region.free md ops listed i && (Region.ready md ops listed).contains i)) = true)
    (hw : Region.wanted oi (yielded ops a.tmps) = true) (hy : ∀ w, S w → (execOp a.eval oi).run P w = .ok (.value v) w) (hS : S w)
    (h : wpAnyH P md ops (NoPanic Q) S fuel (listed.setIfInBounds i true) (a.put oi.dst v) w) : wpAnyH P md ops (NoPanic Q) S (fuel + 1) listed a w :=
  wpAnyH_take (at_of_drop hi) (chk3 hc).1 (chk3 hc).2.1 (chk3 hc).2.2 (fun _ _ _ h => h) (.inl ⟨hw, hy⟩) hS h
theorem sk (i : Nat) {oi : Oper} {rs : List Oper} {fuel : Nat} {listed : Array Bool} {a : Act} {w : World} (hi : ops.toList.drop i = oi :: rs)
    (hc : (Region.noSelect ops && (Region.free md ops listed i && (Region.ready md ops listed).contains i)) = true)
    (hw : Region.wanted oi (yielded ops a.tmps) = false) (hS : S w)
    (h : wpAnyH P md ops (NoPanic Q) S fuel (listed.setIfInBounds i true) (a.put oi.dst undef) w) : wpAnyH P md ops (NoPanic Q) S (fuel + 1) listed a w :=
  wpAnyH_take (at_of_drop hi) (chk3 hc).1 (chk3 hc).2.1 (chk3 hc).2.2 (fun _ _ _ h => h) (.inr ⟨hw, rfl⟩) hS h
theorem cl (i : Nat) {oi : Oper} {rs : List Oper} {fuel : Nat} {listed : Array Bool} {a : Act} {w : World} (hi : ops.toList.drop i = oi :: rs) (hr : Region.ready md ops listed = [i])
    (h : ∀ K' : Act → World → Prop, Shut (∀ a w, S w → (S w → wpAnyH P md ops Q S fuel (listed.setIfInBounds i true) a w) → K' a w) → if Region.wanted oi (yielded ops a.tmps) = true then Oper.wp P oi a w K' Q else K' (a.put oi.dst undef) w) :
    wpAnyH P md ops Q S (fuel + 1) listed a w :=
  wpAnyH_ready hr (by simp) (AllReadyH.cons (at_of_drop hi) h AllReadyH.nil)
end
theorem lpa {α : Type} (l : List α) (i : Nat) (a : α) : l.toArray.setIfInBounds i a = (l.set i a).toArray := List.setIfInBounds_toArray ..
theorem lpb {α : Type} (a b : α) (l : List α) : (a :: l).set 0 b = b :: l := List.set_cons_zero ..
theorem lpc {α : Type} (a b : α) (l : List α) (i : Nat) : (a :: l).set (i + 1) b = a :: l.set i b := List.set_cons_succ ..
end Go.Proofs.YtejgpghcahinhaaGreat
namespace Go.Proofs.YtejgpghcahinhaaGreat
open Go.RowKit
def RdA (w : World) (a : Option Addr) (k n : Nat) (cs : List Value) : Prop :=
  cs.length = n * k ∧ (0 < n → ∃ b o, a = some ⟨b, o, none⟩ ∧ ∀ j, j < n * k → w.cell? ⟨b, o + j, none⟩ = cs[j]?)
def Rd (w : World) (v : Value) (k n : Nat) (cs : List Value) : Prop := ∃ a cap, v = .slice a n cap ∧ n ≤ cap ∧ RdA w a k n cs
theorem ret_bool {a b : Bool} (h : a = b) : Ending.returned (.bool a) = .returned (.bool b) := by rw [h]
theorem ret_int {k : IntKind} {a b : Int} (h : a = b) : Ending.returned (.int k a) = .returned (.int k b) := by rw [h]
theorem ret_str {a b : ByteArray} (h : a = b) : Ending.returned (.string a) = .returned (.string b) := by rw [h]
theorem lt_of_cell {w : World} {a : Addr} {v : Value} (h : w.cell? a = some v) : a.block < w.heap.size := by
  simp only [World.cell?] at h
  apply Decidable.byContradiction
  intro hge
  rw [Array.getElem?_eq_none (by omega)] at h
  cases h
theorem RdA.below {w w' : World} {a : Option Addr} {k n : Nat} {cs : List Value} (h : RdA w a k n cs) (hb : Below w.heap.size w w') : RdA w' a k n cs := by
  obtain ⟨hl, hr⟩ := h
  refine ⟨hl, fun hn => ?_⟩
  obtain ⟨b, o, rfl, hj⟩ := hr hn
  refine ⟨b, o, rfl, fun j hjn => ?_⟩
  have h0 := hj j hjn
  rw [List.getElem?_eq_getElem (by omega)] at h0
  rw [hb.cell (p := ⟨b, o + j, none⟩) (lt_of_cell h0)]
  exact hj j hjn
theorem Rd.below {w w' : World} {v : Value} {k n : Nat} {cs : List Value} (h : Rd w v k n cs) (hb : Below w.heap.size w w') : Rd w' v k n cs := by
  obtain ⟨a, cap, rfl, hc, hr⟩ := h
  exact ⟨a, cap, rfl, hc, hr.below hb⟩
theorem RdA.at {w : World} {a : Option Addr} {k n : Nat} {cs : List Value} (h : RdA w a k n cs) (hn : 0 < n) :
    ∃ b o, a = some ⟨b, o, none⟩ ∧ ∀ j u, cs[j]? = some u → w.cell? ⟨b, o + j, none⟩ = some u := by
  obtain ⟨b, o, rfl, hj⟩ := h.2 hn
  refine ⟨b, o, rfl, fun j u hu => ?_⟩
  have hjn : j < n * k := by
    rw [← h.1]
    exact (List.getElem?_eq_some_iff.1 hu).1
  rw [hj j hjn, hu]
theorem RdA.len_map {α : Type} {f : α → Value} {w : World} {a : Option Addr} {n : Nat} {xs : List α} (h : RdA w a 1 n (xs.map f)) : xs.length = n := by
  have := h.1; simpa using this
theorem RdA.one {α : Type} {f : α → Value} {w : World} {a : Option Addr} {n : Nat} {xs : List α} (h : RdA w a 1 n (xs.map f)) {i : Nat} (hi : i < n) :
    ∃ b o x, a = some ⟨b, o, none⟩ ∧ Hid (xs[i]? = some x) ∧ w.cell? ⟨b, o + i, none⟩ = some (f x) := by
  obtain ⟨b, o, rfl, hc⟩ := h.at (by omega)
  have hl := h.len_map
  refine ⟨b, o, xs[i], rfl, List.getElem?_eq_getElem (by omega), hc i _ ?_⟩
  simp [List.getElem?_eq_getElem (show i < xs.length by omega)]
def rows {α : Type} (enc : α → List Value) (xs : List α) : List Value := (xs.map enc).flatten
theorem rows_cons {α : Type} (enc : α → List Value) (x : α) (xs : List α) : rows enc (x :: xs) = enc x ++ rows enc xs := rfl
theorem rows_append {α : Type} (enc : α → List Value) (xs ys : List α) : rows enc (xs ++ ys) = rows enc xs ++ rows enc ys := by simp [rows]
theorem rows_length {α : Type} {enc : α → List Value} {k : Nat} (hk : ∀ x, (enc x).length = k) (xs : List α) : (rows enc xs).length = xs.length * k := by
  induction xs with
  | nil => simp [rows]
  | cons x xs ih => rw [rows_cons, List.length_append, hk, ih, List.length_cons, Nat.succ_mul]; omega
theorem rows_at {α : Type} {enc : α → List Value} {k : Nat} (hk : ∀ x, (enc x).length = k) : ∀ (xs : List α) (i j : Nat) (x : α), xs[i]? = some x → j < k → (rows enc xs)[i * k + j]? = (enc x)[j]? := by
  intro xs
  induction xs with
  | nil => intro i j x h; simp at h
  | cons y ys ih =>
    intro i j x h hj
    rw [rows_cons]
    cases i with
    | zero =>
      simp at h; subst h
      rw [Nat.zero_mul, Nat.zero_add, List.getElem?_append_left (by rw [hk]; exact hj)]
    | succ i =>
      simp at h
      rw [List.getElem?_append_right (by rw [hk, Nat.succ_mul]; omega), hk, show (i + 1) * k + j - k = i * k + j by rw [Nat.succ_mul]; omega]
      exact ih i j x h hj
theorem RdA.len_rows {α : Type} {enc : α → List Value} {k : Nat} (hk : ∀ x, (enc x).length = k) (h0 : 0 < k) {w : World} {a : Option Addr} {n : Nat} {xs : List α} (h : RdA w a k n (rows enc xs)) : xs.length = n := by
  have := h.1
  rw [rows_length hk] at this
  exact Nat.eq_of_mul_eq_mul_right h0 this
theorem RdA.row {α : Type} {enc : α → List Value} {k : Nat} (hk : ∀ x, (enc x).length = k) (h0 : 0 < k) {w : World} {a : Option Addr} {n : Nat} {xs : List α} (h : RdA w a k n (rows enc xs)) {i : Nat} (hi : i < n) :
    ∃ b o x, a = some ⟨b, o, none⟩ ∧ Hid (xs[i]? = some x) ∧ ∀ j u, (enc x)[j]? = some u → w.cell? ⟨b, o + i * k + j, none⟩ = some u := by
  obtain ⟨b, o, rfl, hc⟩ := h.at (by omega)
  have hl := h.len_rows hk h0
  refine ⟨b, o, xs[i], rfl, List.getElem?_eq_getElem (by omega), fun j u hu => ?_⟩
  rw [Nat.add_assoc]
  refine hc _ u ?_
  rw [rows_at hk xs i j xs[i] (List.getElem?_eq_getElem (by omega)) (by rw [← hk xs[i]]; exact (List.getElem?_eq_some_iff.1 hu).1)]
  exact hu
theorem take_snoc {α : Type} {xs : List α} {k : Nat} {x : α} (h : xs[k]? = some x) : xs.take (k + 1) = xs.take k ++ [x] := by
  rw [List.take_add_one, h]; rfl
theorem take_all {α : Type} {xs : List α} {n : Nat} (h : xs.length = n) : xs.take n = xs := by
  rw [← h]; exact List.take_length
theorem set_append_left {α : Type} (l1 l2 : List α) (i : Nat) (x b : α) (cs : List α) (h : l1.length = i) (hb : l2 = b :: cs) : (l1 ++ l2).set i x = l1 ++ [x] ++ cs := by
  subst hb; subst h
  rw [List.set_append_right _ _ (Nat.le_refl _)]; simp
def Grew (w w' : World) : Prop := Below w.heap.size w w'
theorem Grew.below {w w' : World} (h : Grew w w') : Below w.heap.size w w' := h
theorem Grew.size {w w' : World} (h : Grew w w') : w.heap.size ≤ w'.heap.size := h.below.size
theorem Grew.refl (w : World) : Grew w w := Below.refl _ _
theorem Grew.trans {a b c : World} (h : Grew a b) (k : Grew b c) : Grew a c := Below.trans h (Below.mono k h.size)
theorem Grew.alloc {a w : World} (h : Grew a w) (o : Obj) : Grew a (w.alloc o) := Below.alloc h h.size o
theorem Grew.drew {a w : World} (h : Grew a w) : Grew a w.drew := Below.drew h
theorem Grew.drewN {a w : World} (h : Grew a w) (n : Nat) : Grew a (w.drewN n) := below_drewN h n
theorem Grew.setCell {a w : World} (h : Grew a w) {p : Addr} (hp : a.heap.size ≤ p.block) (u : Value) : Grew a (w.setCell p u) := Below.setCell h hp u
theorem Grew.grown {a w w' : World} {row : Option Nat} (h : Grew a w) (hg : w.grownBy w' row) (hr : ∀ k, row = some k → a.heap.size ≤ k) : Grew a w' := Below.grown h hg h.size hr
theorem Grew.cells {W w1 : World} (hb : Grew W w1) : (∀ b o, b < W.heap.size → w1.cell? ⟨b, o, none⟩ = W.cell? ⟨b, o, none⟩) ∧ (∀ b o, b < W.heap.size → w1.frozen? ⟨b, o, none⟩ = W.frozen? ⟨b, o, none⟩) :=
  ⟨fun b o h => hb.below.cell (p := ⟨b, o, none⟩) h, fun b o h => hb.below.frozen (p := ⟨b, o, none⟩) h⟩
theorem RdA.grew {w w' : World} {a : Option Addr} {k n : Nat} {cs : List Value} (h : RdA w a k n cs) (hb : Grew w w') : RdA w' a k n cs := h.below hb
theorem Rd.grew {w w' : World} {v : Value} {k n : Nat} {cs : List Value} (h : Rd w v k n cs) (hb : Grew w w') : Rd w' v k n cs := h.below hb
def Left (l : Int) (s : Nat) (r : Int) : Prop := r = -1 ∨ r = l - s ∧ 0 ≤ r
theorem ownsRow_stores {w : World} {base : Nat} {e : TypeId} {size g n cap : Nat} {xs : List Value} (h : w.ownsRow base e size (.slice (some ⟨g, 0, none⟩) n cap) n xs) (j : Nat) (u : Value) :
    (w.setCell ⟨g, j, none⟩ u).ownsRow base e size (.slice (some ⟨g, 0, none⟩) n cap) n (xs.set j u) := (h.stored j u).1
theorem ownsRow_grew {w w' : World} {base : Nat} {e : TypeId} {size n : Nat} {v : Value} {xs : List Value} (h : w.ownsRow base e size v n xs) (hg : Grew w w') : w'.ownsRow base e size v n xs := by
  refine h.kept (row := none) ⟨hg.below.os, hg.below.tape, hg.below.output, hg.size, fun k hk _ => hg.below.block k hk⟩ ?_
  cases hv : v.ownBlock with
  | none => exact .inl rfl
  | some g => exact .inr (fun e => by cases e)
theorem ownsRow_base {w : World} {base base' : Nat} {e : TypeId} {size n : Nat} {v : Value} {xs : List Value} (h : w.ownsRow base e size v n xs) (hb : base' ≤ base) : w.ownsRow base' e size v n xs := by
  obtain ⟨hl, h | ⟨g, cap, cur, h1, h2, h3⟩⟩ := h
  · exact ⟨hl, .inl h⟩
  · exact ⟨hl, .inr ⟨g, cap, cur, h1, Nat.le_trans hb h2, h3⟩⟩
theorem rd_of_own {w : World} {base : Nat} {e : TypeId} {k n : Nat} {v : Value} {cs : List Value} (h : w.ownsRow base e k v n cs) : Rd w v k n cs := by
  have h0 := h
  obtain ⟨hl, ⟨rfl, rfl⟩ | ⟨g, cap, cur, rfl, _, _, hc, _⟩⟩ := h
  · exact ⟨none, 0, rfl, Nat.le_refl _, hl, fun h => absurd h (by omega)⟩
  · refine ⟨_, cap, rfl, hc, hl, fun _ => ⟨g, 0, rfl, fun j hj => ?_⟩⟩
    rw [Nat.zero_add]
    exact h0.cellAt j hj
theorem own_one {α : Type} {f : α → Value} {w : World} {base : Nat} {e : TypeId} {g n cap : Nat} {xs : List α} (h : w.ownsRow base e 1 (.slice (some ⟨g, 0, none⟩) n cap) n (xs.map f)) {i : Nat} (hi : i < n) :
    ∃ x, Hid (xs[i]? = some x) ∧ w.cell? ⟨g, i, none⟩ = some (f x) := by
  have hl : xs.length = n := by have := h.1; simpa using this
  refine ⟨xs[i], List.getElem?_eq_getElem (by omega), ?_⟩
  rw [h.cellAt _ (by omega)]
  simp [List.getElem?_eq_getElem (show i < xs.length by omega)]
theorem store_one {α : Type} {f : α → Value} {w : World} {base : Nat} {e : TypeId} {g n cap : Nat} {xs : List α} (h : w.ownsRow base e 1 (.slice (some ⟨g, 0, none⟩) n cap) n (xs.map f)) (i : Nat) (x : α) :
    (w.setCell ⟨g, i, none⟩ (f x)).ownsRow base e 1 (.slice (some ⟨g, 0, none⟩) n cap) n ((xs.set i x).map f) := by
  rw [List.map_set]
  exact ownsRow_stores h i (f x)
theorem own_row {α : Type} {enc : α → List Value} {k : Nat} (hk : ∀ x, (enc x).length = k) (h0 : 0 < k) {w : World} {base : Nat} {e : TypeId} {g n cap : Nat} {xs : List α} (h : w.ownsRow base e k (.slice (some ⟨g, 0, none⟩) n cap) n (rows enc xs)) {i : Nat} (hi : i < n) :
    ∃ x, Hid (xs[i]? = some x) ∧ ∀ j u, (enc x)[j]? = some u → w.cell? ⟨g, i * k + j, none⟩ = some u := by
  have hl : xs.length = n := by
    have := h.1
    rw [rows_length hk] at this
    exact Nat.eq_of_mul_eq_mul_right h0 this
  refine ⟨xs[i], List.getElem?_eq_getElem (by omega), fun j u hu => ?_⟩
  have hj : j < k := by rw [← hk xs[i]]; exact (List.getElem?_eq_some_iff.1 hu).1
  have hlt : i * k + j < n * k := by
    have : (i + 1) * k ≤ n * k := Nat.mul_le_mul_right k hi
    rw [Nat.succ_mul] at this; omega
  rw [h.cellAt _ hlt, rows_at hk xs i j xs[i] (List.getElem?_eq_getElem (by omega)) hj, hu]
def stores (w : World) (g : Nat) : Nat → List Value → World
  | _, [] => w
  | o, u :: us => stores (w.setCell ⟨g, o, none⟩ u) g (o + 1) us
theorem own_stores {base : Nat} {e : TypeId} {k g n cap : Nat} : ∀ (us : List Value) (w : World) (xs l1 l2 cs : List Value) (o : Nat), w.ownsRow base e k (.slice (some ⟨g, 0, none⟩) n cap) n xs → xs = l1 ++ l2 ++ cs → l1.length = o → l2.length = us.length →
    (stores w g o us).ownsRow base e k (.slice (some ⟨g, 0, none⟩) n cap) n (l1 ++ us ++ cs) := by
  intro us
  induction us with
  | nil => intro w xs l1 l2 cs o h hx _ h2; have : l2 = [] := List.length_eq_zero_iff.1 (by simpa using h2); subst this; subst hx; exact h
  | cons u us ih =>
    intro w xs l1 l2 cs o h hx h1 h2
    cases l2 with
    | nil => simp at h2
    | cons y l2 =>
      have hs := ownsRow_stores h o u
      have e1 : xs.set o u = (l1 ++ [u]) ++ l2 ++ cs := by
        rw [hx, List.append_assoc, List.cons_append, set_append_left l1 (y :: (l2 ++ cs)) o u y (l2 ++ cs) h1 rfl]; simp
      have := ih _ _ (l1 ++ [u]) l2 cs (o + 1) hs e1 (by simp [h1]) (by simpa using h2)
      simpa [stores] using this
theorem store_row {α : Type} {enc : α → List Value} {k : Nat} (hk : ∀ x, (enc x).length = k) (h0 : 0 < k) {w : World} {base : Nat} {e : TypeId} {g n cap : Nat} {xs : List α} (h : w.ownsRow base e k (.slice (some ⟨g, 0, none⟩) n cap) n (rows enc xs)) {i : Nat} (hi : i < n) (x : α) :
    (stores w g (i * k) (enc x)).ownsRow base e k (.slice (some ⟨g, 0, none⟩) n cap) n (rows enc (xs.set i x)) := by
  have hl : xs.length = n := by
    have := h.1
    rw [rows_length hk] at this
    exact Nat.eq_of_mul_eq_mul_right h0 this
  have e1 : xs = xs.take i ++ xs[i] :: xs.drop (i + 1) := by rw [List.getElem_cons_drop, List.take_append_drop]
  have e2 : rows enc xs = rows enc (xs.take i) ++ enc xs[i] ++ rows enc (xs.drop (i + 1)) := by
    conv => lhs; rw [e1]
    rw [rows_append, rows_cons, List.append_assoc]
  have e3 : rows enc (xs.set i x) = rows enc (xs.take i) ++ enc x ++ rows enc (xs.drop (i + 1)) := by
    rw [List.set_eq_take_append_cons_drop, if_pos (by omega), rows_append, rows_cons, List.append_assoc]
  rw [e3]
  exact own_stores (enc x) w _ _ _ _ (i * k) h e2 (by rw [rows_length hk, List.length_take, hl, Nat.min_eq_left (by omega)]) (by rw [hk, hk])
theorem rows_made {α : Type} {enc : α → List Value} {k : Nat} (z : α) (zs : Array Value) (hz : zs.toList = enc z) (hk : (enc z).length = k) (n : Nat) : (madeCells zs (n * k)).toList = rows enc (List.replicate n z) := by
  have hsz : zs.size = k := by rw [← hk, ← hz]; simp
  apply List.ext_getElem?
  intro i
  by_cases hi : i < n * k
  · have hk0 : 0 < k := by
      rcases Nat.eq_zero_or_pos k with h | h
      · subst h; simp at hi
      · exact h
    have hmod := Nat.mod_lt i hk0
    have hdiv : i / k < n := (Nat.div_lt_iff_lt_mul hk0).2 hi
    have hd : i = i / k * k + i % k := by rw [Nat.mul_comm]; exact (Nat.div_add_mod i k).symm
    have hr : (rows enc (List.replicate n z))[i]? = (enc z)[i % k]? := by
      have h1 : ∀ m q, q < m → ∀ j, j < k → (rows enc (List.replicate m z))[q * k + j]? = (enc z)[j]? := by
        intro m
        induction m with
        | zero => intro q hq; omega
        | succ m ih =>
          intro q hq j hj
          rw [List.replicate_succ, rows_cons]
          cases q with
          | zero => rw [Nat.zero_mul, Nat.zero_add, List.getElem?_append_left (by omega)]
          | succ q =>
            rw [List.getElem?_append_right (by rw [hk, Nat.succ_mul]; omega), hk, show (q + 1) * k + j - k = q * k + j by rw [Nat.succ_mul]; omega]
            exact ih q (by omega) j hj
      conv => lhs; rw [hd]
      exact h1 n (i / k) hdiv (i % k) hmod
    rw [hr, ← hz]
    have hb : i % zs.size < zs.size := by rw [hsz]; exact hmod
    simp only [madeCells, Array.toList_map, Array.toList_range, List.getElem?_map]
    rw [List.getElem?_range hi]
    simp only [Option.map_some]
    rw [← hsz, Array.getElem?_toList, Array.getElem?_eq_getElem hb, getElem!_pos zs _ hb]
  · have h1 : (rows enc (List.replicate n z)).length = n * k := by
      clear hi
      induction n with
      | zero => simp [rows]
      | succ n ih => rw [List.replicate_succ, rows_cons, List.length_append, ih, hk, Nat.succ_mul]; omega
    rw [List.getElem?_eq_none (by simp [size_madeCells]; omega), List.getElem?_eq_none (by omega)]
structure Touch (lo hi : Nat) (w w' : World) : Prop where
  os : w'.os = w.os
  tape : w'.tape = w.tape
  output : w'.output = w.output
  size : w.heap.size ≤ w'.heap.size
  block : ∀ b, b < w.heap.size → (b < lo ∨ hi ≤ b) → w'.heap[b]? = w.heap[b]?
theorem Touch.refl (lo hi : Nat) (w : World) : Touch lo hi w w := ⟨rfl, rfl, rfl, Nat.le_refl _, fun _ _ _ => rfl⟩
theorem Touch.trans {lo hi : Nat} {a b c : World} (h : Touch lo hi a b) (k : Touch lo hi b c) : Touch lo hi a c :=
  ⟨k.os.trans h.os, k.tape.trans h.tape, k.output.trans h.output, Nat.le_trans h.size k.size, fun i hi ho => (k.block i (Nat.lt_of_lt_of_le hi h.size) ho).trans (h.block i hi ho)⟩
theorem Touch.mono {lo hi lo' hi' : Nat} {a b : World} (h : Touch lo hi a b) (h1 : lo' ≤ lo) (h2 : hi ≤ hi') : Touch lo' hi' a b :=
  ⟨h.os, h.tape, h.output, h.size, fun i hl ho => h.block i hl (by omega)⟩
theorem Grew.touch {a b : World} (h : Grew a b) (lo hi : Nat) : Touch lo hi a b := ⟨h.below.os, h.below.tape, h.below.output, h.size, fun i hl _ => h.below.block i hl⟩
theorem Touch.grew {lo hi : Nat} {a b c : World} (h : Touch lo hi a b) (k : Grew b c) : Touch lo hi a c := h.trans (k.touch lo hi)
theorem Touch.alloc {lo hi : Nat} {a w : World} (h : Touch lo hi a w) (o : Obj) : Touch lo hi a (w.alloc o) := h.grew ((Grew.refl w).alloc o)
theorem Touch.drew {lo hi : Nat} {a w : World} (h : Touch lo hi a w) : Touch lo hi a w.drew := h.grew (Grew.refl w).drew
theorem Touch.drewN {lo hi : Nat} {a w : World} (h : Touch lo hi a w) (n : Nat) : Touch lo hi a (w.drewN n) := h.grew ((Grew.refl w).drewN n)
theorem Touch.setCell {lo hi : Nat} {a w : World} (h : Touch lo hi a w) {p : Addr} (h1 : lo ≤ p.block) (h2 : p.block < hi) (u : Value) : Touch lo hi a (w.setCell p u) :=
  h.trans ⟨rfl, rfl, rfl, by simp [World.setCell], fun k _ ho => Below.heap_setCell _ _ _ _ (by omega)⟩
theorem Touch.new {a b c : World} {lo hi : Nat} (h : Grew a b) (k : Touch lo hi b c) (hl : a.heap.size ≤ lo) : Grew a c :=
  Below.trans h ⟨k.os, k.tape, k.output, k.size, fun i hi => by
    have := h.size
    exact k.block i (by omega) (Or.inl (by omega))⟩
def Own (w : World) (lo hi : Nat) (e : TypeId) (k : Nat) (v : Value) (n : Nat) (cs : List Value) : Prop := w.ownsRow lo e k v n cs ∧ ∀ b, v.ownBlock = some b → b < hi
theorem Own.of {w w' : World} {e : TypeId} {k n : Nat} {v : Value} {cs : List Value} (h : w'.ownsRow w.heap.size e k v n cs) : Own w' w.heap.size w'.heap.size e k v n cs := ⟨h, fun b hb => (h.lt b hb).2⟩
theorem Own.touch {w w' : World} {lo hi a b : Nat} {e : TypeId} {k n : Nat} {v : Value} {cs : List Value} (h : Own w lo hi e k v n cs) (ht : Touch a b w w') (hd : hi ≤ a ∨ b ≤ lo) : Own w' lo hi e k v n cs := by
  refine ⟨?_, h.2⟩
  obtain ⟨hl, ⟨rfl, rfl⟩ | ⟨g, cap, cur, rfl, hg, hh, hr⟩⟩ := h.1
  · exact ⟨hl, .inl ⟨rfl, rfl⟩⟩
  · have hb := h.1.lt g rfl
    have hg2 := h.2 g rfl
    exact ⟨hl, .inr ⟨g, cap, cur, rfl, hg, (ht.block g hb.2 (by omega)).trans hh, hr⟩⟩
theorem Own.grew {w w' : World} {lo hi : Nat} {e : TypeId} {k n : Nat} {v : Value} {cs : List Value} (h : Own w lo hi e k v n cs) (hg : Grew w w') : Own w' lo hi e k v n cs := ⟨ownsRow_grew h.1 hg, h.2⟩
theorem Own.rd {w : World} {lo hi : Nat} {e : TypeId} {k n : Nat} {v : Value} {cs : List Value} (h : Own w lo hi e k v n cs) : Rd w v k n cs := rd_of_own h.1
theorem Own.mono {w : World} {lo hi lo' hi' : Nat} {e : TypeId} {k n : Nat} {v : Value} {cs : List Value} (h : Own w lo hi e k v n cs) (h1 : lo' ≤ lo) (h2 : hi ≤ hi') : Own w lo' hi' e k v n cs := ⟨ownsRow_base h.1 h1, fun b hb => Nat.lt_of_lt_of_le (h.2 b hb) h2⟩
theorem Own.cases {w : World} {lo hi : Nat} {e : TypeId} {k n : Nat} {v : Value} {cs : List Value} (h : Own w lo hi e k v n cs) :
    (v = .slice none 0 0 ∧ n = 0 ∧ cs = []) ∨ ∃ g cap, v = .slice (some ⟨g, 0, none⟩) n cap ∧ lo ≤ g ∧ g < hi ∧ n ≤ cap ∧ w.ownsRow g e k (.slice (some ⟨g, 0, none⟩) n cap) n cs := by
  obtain ⟨hl, ⟨rfl, rfl⟩ | ⟨g, cap, cur, rfl, hg, hh, hr⟩⟩ := h.1
  · exact .inl ⟨rfl, rfl, List.length_eq_zero_iff.1 (by simpa using hl)⟩
  · exact .inr ⟨g, cap, rfl, hg, h.2 g rfl, hr.1, hl, .inr ⟨g, cap, cur, rfl, Nat.le_refl _, hh, hr⟩⟩
theorem snd_of {p q : Prop} (h : p ∧ q) : q := h.2
theorem grew_cell {w w' : World} (hb : Grew w w') {a : Addr} {u : Value} (h : w.cell? a = some u) : w'.cell? a = some u := by
  rw [hb.below.cell (lt_of_cell h)]; exact h
theorem held1 {wr w' w1 : World} {a : Addr} {u : Value} (h : w'.cell? a = some u ∧ Grew wr w') (hb : Grew w' w1) : w1.cell? a = some u ∧ Grew wr w1 :=
  ⟨grew_cell hb h.1, h.2.trans hb⟩
theorem held2 {wr w' w1 : World} {a b : Addr} {u v : Value} (h : w'.cell? a = some u ∧ w'.cell? b = some v ∧ Grew wr w') (hb : Grew w' w1) : w1.cell? a = some u ∧ w1.cell? b = some v ∧ Grew wr w1 :=
  ⟨grew_cell hb h.1, grew_cell hb h.2.1, h.2.2.trans hb⟩
theorem own_some {w : World} {base : Nat} {e : TypeId} {k g n cap : Nat} {cs : List Value} (h : w.ownsRow base e k (.slice (some ⟨g, 0, none⟩) n cap) n cs) (j : Nat) (hj : j < n * k) : ∃ u, w.cell? ⟨g, j, none⟩ = some u := by
  have := h.cellAt j hj
  rw [List.getElem?_eq_getElem (by rw [h.1]; exact hj)] at this
  exact ⟨_, this⟩
def sets : List Value → Nat → List Value → List Value
  | l, _, [] => l
  | l, o, u :: us => sets (l.set o u) (o + 1) us
theorem sets_mid : ∀ (us l l1 l2 cs : List Value) (o : Nat), l = l1 ++ l2 ++ cs → l1.length = o → l2.length = us.length → sets l o us = l1 ++ us ++ cs := by
  intro us
  induction us with
  | nil => intro l l1 l2 cs o h _ h2; have : l2 = [] := List.length_eq_zero_iff.1 (by simpa using h2); subst this; simpa [sets] using h
  | cons u us ih =>
    intro l l1 l2 cs o h h1 h2
    cases l2 with
    | nil => simp at h2
    | cons y l2 =>
      have e1 : l.set o u = (l1 ++ [u]) ++ l2 ++ cs := by
        rw [h, List.append_assoc, List.cons_append, set_append_left l1 (y :: (l2 ++ cs)) o u y (l2 ++ cs) h1 rfl]; simp
      have := ih (l.set o u) (l1 ++ [u]) l2 cs (o + 1) e1 (by simp [h1]) (by simpa using h2)
      simpa [sets] using this
theorem rows_sets {α : Type} {enc : α → List Value} {k : Nat} (hk : ∀ x, (enc x).length = k) (xs : List α) (i : Nat) (hi : i < xs.length) (x : α) : sets (rows enc xs) (i * k) (enc x) = rows enc (xs.set i x) := by
  have e1 : xs = xs.take i ++ xs[i] :: xs.drop (i + 1) := by rw [List.getElem_cons_drop, List.take_append_drop]
  have e2 : rows enc xs = rows enc (xs.take i) ++ enc xs[i] ++ rows enc (xs.drop (i + 1)) := by
    conv => lhs; rw [e1]
    rw [rows_append, rows_cons, List.append_assoc]
  have e3 : rows enc (xs.set i x) = rows enc (xs.take i) ++ enc x ++ rows enc (xs.drop (i + 1)) := by
    rw [List.set_eq_take_append_cons_drop, if_pos (by omega), rows_append, rows_cons, List.append_assoc]
  rw [e3]
  exact sets_mid (enc x) _ _ _ _ (i * k) e2 (by rw [rows_length hk, List.length_take, Nat.min_eq_left (by omega)]) (by rw [hk, hk])
def All2 {α β : Type} (R : α → β → Prop) (xs : List α) (ys : List β) : Prop := xs.length = ys.length ∧ ∀ (i : Nat) x y, xs[i]? = some x → ys[i]? = some y → R x y
theorem All2.nil {α β : Type} {R : α → β → Prop} : All2 R [] [] := ⟨rfl, fun i x y h => by simp at h⟩
theorem All2.mono {α β : Type} {R S : α → β → Prop} {xs : List α} {ys : List β} (h : All2 R xs ys) (hs : ∀ x y, R x y → S x y) : All2 S xs ys := ⟨h.1, fun i x y hx hy => hs x y (h.2 i x y hx hy)⟩
theorem All2.snoc {α β : Type} {R : α → β → Prop} {xs : List α} {ys : List β} {x : α} {y : β} (h : All2 R xs ys) (hr : R x y) : All2 R (xs ++ [x]) (ys ++ [y]) := by
  refine ⟨by simp [h.1], fun i a b ha hb => ?_⟩
  by_cases hi : i < xs.length
  · rw [List.getElem?_append_left hi] at ha
    rw [List.getElem?_append_left (by rw [← h.1]; exact hi)] at hb
    exact h.2 i a b ha hb
  · have hl := (List.getElem?_eq_some_iff.1 ha).1
    simp at hl
    obtain rfl : i = xs.length := by omega
    rw [List.getElem?_append_right (Nat.le_refl _)] at ha
    rw [List.getElem?_append_right (by rw [h.1]; exact Nat.le_refl _)] at hb
    simp [h.1] at ha hb
    subst ha; subst hb; exact hr
theorem All2.get {α β : Type} {R : α → β → Prop} {xs : List α} {ys : List β} (h : All2 R xs ys) {i : Nat} {y : β} (hy : ys[i]? = some y) : ∃ x, Hid (xs[i]? = some x) ∧ R x y := by
  have hl := (List.getElem?_eq_some_iff.1 hy).1
  rw [← h.1] at hl
  exact ⟨xs[i], List.getElem?_eq_getElem hl, h.2 i _ _ (List.getElem?_eq_getElem hl) hy⟩
theorem All2.set {α β : Type} {R : α → β → Prop} {xs : List α} {ys : List β} (h : All2 R xs ys) (i : Nat) (x : α) (y : β) (hr : R x y) : All2 R (xs.set i x) (ys.set i y) := by
  refine ⟨by simp [h.1], fun j a b ha hb => ?_⟩
  by_cases hij : i = j
  · subst hij
    have hl := (List.getElem?_eq_some_iff.1 ha).1
    simp at hl
    rw [List.getElem?_set_self hl] at ha
    rw [List.getElem?_set_self (by rw [← h.1]; exact hl)] at hb
    simp at ha hb; subst ha; subst hb; exact hr
  · rw [List.getElem?_set_ne hij] at ha hb
    exact h.2 j a b ha hb
def Dis (vs : List Value) : Prop := (vs.filterMap Value.ownBlock).Nodup
theorem Dis.nil : Dis [] := by simp [Dis]
theorem Dis.app {us vs : List Value} (h1 : Dis us) (h2 : Dis vs) (h : ∀ u v b, u ∈ us → v ∈ vs → u.ownBlock = some b → v.ownBlock ≠ some b) : Dis (us ++ vs) := by
  unfold Dis at *
  rw [List.filterMap_append, List.nodup_append]
  refine ⟨h1, h2, fun a ha b hb hab => ?_⟩
  subst hab
  obtain ⟨u, hu, hub⟩ := List.mem_filterMap.1 ha
  obtain ⟨v, hv, hvb⟩ := List.mem_filterMap.1 hb
  exact h u v a hu hv hub hvb
theorem Dis.one (v : Value) : Dis [v] := by
  unfold Dis
  cases h : v.ownBlock <;> simp [h]
def RdL {α β : Type} (enc : β → List Value) (k : Nat) (R : World → α → β → Prop) (w : World) (v : Value) (xs : List α) : Prop := ∃ ps, Rd w v k xs.length (rows enc ps) ∧ All2 (R w) xs ps
def OwnL {α β : Type} (enc : β → List Value) (k : Nat) (e : TypeId) (subs : β → List Value) (O : World → Nat → Nat → α → β → Prop) (w : World) (lo hi : Nat) (v : Value) (xs : List α) : Prop :=
  ∃ ps, Own w lo hi e k v xs.length (rows enc ps) ∧ All2 (O w lo hi) xs ps ∧ Dis (v :: ps.flatMap subs)
theorem RdL.grew {α β : Type} {enc : β → List Value} {k : Nat} {R : World → α → β → Prop} (hR : ∀ w w' x p, R w x p → Grew w w' → R w' x p) {w w' : World} {v : Value} {xs : List α} (h : RdL enc k R w v xs) (hg : Grew w w') : RdL enc k R w' v xs := by
  obtain ⟨ps, h1, h2⟩ := h
  exact ⟨ps, h1.grew hg, h2.mono fun x p h => hR _ _ _ _ h hg⟩
theorem OwnL.grew {α β : Type} {enc : β → List Value} {k : Nat} {e : TypeId} {subs : β → List Value} {O : World → Nat → Nat → α → β → Prop} (hO : ∀ w w' lo hi x p, O w lo hi x p → Grew w w' → O w' lo hi x p) {w w' : World} {lo hi : Nat} {v : Value} {xs : List α} (h : OwnL enc k e subs O w lo hi v xs) (hg : Grew w w') : OwnL enc k e subs O w' lo hi v xs := by
  obtain ⟨ps, h1, h2, h3⟩ := h
  exact ⟨ps, h1.grew hg, h2.mono fun x p h => hO _ _ _ _ _ _ h hg, h3⟩
theorem OwnL.touch {α β : Type} {enc : β → List Value} {k : Nat} {e : TypeId} {subs : β → List Value} {O : World → Nat → Nat → α → β → Prop} (hO : ∀ w w' lo hi a b x p, O w lo hi x p → Touch a b w w' → (hi ≤ a ∨ b ≤ lo) → O w' lo hi x p) {w w' : World} {lo hi a b : Nat} {v : Value} {xs : List α} (h : OwnL enc k e subs O w lo hi v xs) (ht : Touch a b w w') (hd : hi ≤ a ∨ b ≤ lo) : OwnL enc k e subs O w' lo hi v xs := by
  obtain ⟨ps, h1, h2, h3⟩ := h
  exact ⟨ps, h1.touch ht hd, h2.mono fun x p h => hO _ _ _ _ _ _ _ _ h ht hd, h3⟩
theorem OwnL.rd {α β : Type} {enc : β → List Value} {k : Nat} {e : TypeId} {subs : β → List Value} {O : World → Nat → Nat → α → β → Prop} {R : World → α → β → Prop} (hO : ∀ w lo hi x p, O w lo hi x p → R w x p) {w : World} {lo hi : Nat} {v : Value} {xs : List α} (h : OwnL enc k e subs O w lo hi v xs) : RdL enc k R w v xs := by
  obtain ⟨ps, h1, h2, _⟩ := h
  exact ⟨ps, h1.rd, h2.mono fun x p h => hO _ _ _ _ _ h⟩
theorem grew_frozen {w w' : World} (hb : Grew w w') {a : Addr} (h : a.block < w.heap.size) (h0 : w.frozen? a = false) : w'.frozen? a = false := by
  rw [hb.below.frozen h]; exact h0
end Go.Proofs.YtejgpghcahinhaaGreat
namespace Go.Proofs.YtejgpghcahinhaaGreat
open Go.RowKit
abbrev B.v (s : ByteArray) : Value := .string s
abbrev L.v (b : Bool) : Value := .bool b
abbrev ints (xs : List Int) : List Value := xs.map (Value.int .i64)
abbrev strs (xs : List ByteArray) : List Value := xs.map Value.string
abbrev bools (xs : List Bool) : List Value := xs.map Value.bool
structure V where
  kind : Int
  int : Int
  str : ByteArray
def V.c (x : V) : List Value := [.int .i64 x.kind, .int .i64 x.int, .string x.str]
abbrev V.v (x : V) : Value := .agg #[.int .i64 x.kind, .int .i64 x.int, .string x.str]
def V.z : V := ⟨0, 0, ⟨#[]⟩⟩
theorem V.len (x : V) : x.c.length = 3 := rfl
theorem RdA.getV {w : World} {a : Option Addr} {n : Nat} {xs : List V} (h : RdA w a 3 n (rows V.c xs)) {i : Nat} (hi : i < n) :
    ∃ b o x, a = some ⟨b, o, none⟩ ∧ Hid (xs[i]? = some x) ∧ w.cell? ⟨b, o + i * 3, none⟩ = some (.int .i64 x.kind) ∧ w.cell? ⟨b, o + i * 3 + 1, none⟩ = some (.int .i64 x.int) ∧ w.cell? ⟨b, o + i * 3 + 2, none⟩ = some (.string x.str) := by
  obtain ⟨b, o, x, rfl, hx, hc⟩ := h.row V.len (by decide) hi
  exact ⟨b, o, x, rfl, hx, hc 0 _ rfl, hc 1 _ rfl, hc 2 _ rfl⟩
structure N where
  op : Int
  left : Int
  right : Int
  name : ByteArray
  val : V
def N.c (x : N) : List Value := [.int .i64 x.op, .int .i64 x.left, .int .i64 x.right, .string x.name, .int .i64 x.val.kind, .int .i64 x.val.int, .string x.val.str]
abbrev N.v (x : N) : Value := .agg #[.int .i64 x.op, .int .i64 x.left, .int .i64 x.right, .string x.name, .int .i64 x.val.kind, .int .i64 x.val.int, .string x.val.str]
def N.z : N := ⟨0, 0, 0, ⟨#[]⟩, V.z⟩
theorem N.len (x : N) : x.c.length = 7 := rfl
theorem RdA.getN {w : World} {a : Option Addr} {n : Nat} {xs : List N} (h : RdA w a 7 n (rows N.c xs)) {i : Nat} (hi : i < n) :
    ∃ b o x, a = some ⟨b, o, none⟩ ∧ Hid (xs[i]? = some x) ∧ w.cell? ⟨b, o + i * 7, none⟩ = some (.int .i64 x.op) ∧ w.cell? ⟨b, o + i * 7 + 1, none⟩ = some (.int .i64 x.left) ∧ w.cell? ⟨b, o + i * 7 + 2, none⟩ = some (.int .i64 x.right) ∧ w.cell? ⟨b, o + i * 7 + 3, none⟩ = some (.string x.name) ∧ w.cell? ⟨b, o + i * 7 + 4, none⟩ = some (.int .i64 x.val.kind) ∧ w.cell? ⟨b, o + i * 7 + 5, none⟩ = some (.int .i64 x.val.int) ∧ w.cell? ⟨b, o + i * 7 + 6, none⟩ = some (.string x.val.str) := by
  obtain ⟨b, o, x, rfl, hx, hc⟩ := h.row N.len (by decide) hi
  exact ⟨b, o, x, rfl, hx, hc 0 _ rfl, hc 1 _ rfl, hc 2 _ rfl, hc 3 _ rfl, hc 4 _ rfl, hc 5 _ rfl, hc 6 _ rfl⟩
theorem ownN {w : World} {base : Nat} {e : TypeId} {g n cap : Nat} {xs : List N} (h : w.ownsRow base e 7 (.slice (some ⟨g, 0, none⟩) n cap) n (rows N.c xs)) {i : Nat} (hi : i < n) :
    ∃ x, Hid (xs[i]? = some x) ∧ w.cell? ⟨g, i * 7, none⟩ = some (.int .i64 x.op) ∧ w.cell? ⟨g, i * 7 + 1, none⟩ = some (.int .i64 x.left) ∧ w.cell? ⟨g, i * 7 + 2, none⟩ = some (.int .i64 x.right) ∧ w.cell? ⟨g, i * 7 + 3, none⟩ = some (.string x.name) ∧ w.cell? ⟨g, i * 7 + 4, none⟩ = some (.int .i64 x.val.kind) ∧ w.cell? ⟨g, i * 7 + 5, none⟩ = some (.int .i64 x.val.int) ∧ w.cell? ⟨g, i * 7 + 6, none⟩ = some (.string x.val.str) := by
  obtain ⟨x, hx, hc⟩ := own_row N.len (by decide) h hi
  exact ⟨x, hx, hc 0 _ rfl, hc 1 _ rfl, hc 2 _ rfl, hc 3 _ rfl, hc 4 _ rfl, hc 5 _ rfl, hc 6 _ rfl⟩
theorem storeN {w : World} {base : Nat} {e : TypeId} {g n cap : Nat} {xs : List N} (h : w.ownsRow base e 7 (.slice (some ⟨g, 0, none⟩) n cap) n (rows N.c xs)) {i : Nat} (hi : i < n) (x : N) :
    (((((((w.setCell ⟨g, i * 7, none⟩ (.int .i64 x.op)).setCell ⟨g, i * 7 + 1, none⟩ (.int .i64 x.left)).setCell ⟨g, i * 7 + 2, none⟩ (.int .i64 x.right)).setCell ⟨g, i * 7 + 3, none⟩ (.string x.name)).setCell ⟨g, i * 7 + 4, none⟩ (.int .i64 x.val.kind)).setCell ⟨g, i * 7 + 5, none⟩ (.int .i64 x.val.int)).setCell ⟨g, i * 7 + 6, none⟩ (.string x.val.str)).ownsRow base e 7 (.slice (some ⟨g, 0, none⟩) n cap) n (rows N.c (xs.set i x)) := by
  have := store_row N.len (by decide) h hi x
  simpa only [stores, N.c, Nat.add_assoc, Nat.reduceAdd] using this
structure Fd where
  name : ByteArray
  kind : Int
def Fd.c (x : Fd) : List Value := [.string x.name, .int .i64 x.kind]
abbrev Fd.v (x : Fd) : Value := .agg #[.string x.name, .int .i64 x.kind]
def Fd.z : Fd := ⟨⟨#[]⟩, 0⟩
theorem Fd.len (x : Fd) : x.c.length = 2 := rfl
theorem RdA.getFd {w : World} {a : Option Addr} {n : Nat} {xs : List Fd} (h : RdA w a 2 n (rows Fd.c xs)) {i : Nat} (hi : i < n) :
    ∃ b o x, a = some ⟨b, o, none⟩ ∧ Hid (xs[i]? = some x) ∧ w.cell? ⟨b, o + i * 2, none⟩ = some (.string x.name) ∧ w.cell? ⟨b, o + i * 2 + 1, none⟩ = some (.int .i64 x.kind) := by
  obtain ⟨b, o, x, rfl, hx, hc⟩ := h.row Fd.len (by decide) hi
  exact ⟨b, o, x, rfl, hx, hc 0 _ rfl, hc 1 _ rfl⟩
theorem ownFd {w : World} {base : Nat} {e : TypeId} {g n cap : Nat} {xs : List Fd} (h : w.ownsRow base e 2 (.slice (some ⟨g, 0, none⟩) n cap) n (rows Fd.c xs)) {i : Nat} (hi : i < n) :
    ∃ x, Hid (xs[i]? = some x) ∧ w.cell? ⟨g, i * 2, none⟩ = some (.string x.name) ∧ w.cell? ⟨g, i * 2 + 1, none⟩ = some (.int .i64 x.kind) := by
  obtain ⟨x, hx, hc⟩ := own_row Fd.len (by decide) h hi
  exact ⟨x, hx, hc 0 _ rfl, hc 1 _ rfl⟩
theorem storeFd {w : World} {base : Nat} {e : TypeId} {g n cap : Nat} {xs : List Fd} (h : w.ownsRow base e 2 (.slice (some ⟨g, 0, none⟩) n cap) n (rows Fd.c xs)) {i : Nat} (hi : i < n) (x : Fd) :
    ((w.setCell ⟨g, i * 2, none⟩ (.string x.name)).setCell ⟨g, i * 2 + 1, none⟩ (.int .i64 x.kind)).ownsRow base e 2 (.slice (some ⟨g, 0, none⟩) n cap) n (rows Fd.c (xs.set i x)) := by
  have := store_row Fd.len (by decide) h hi x
  simpa only [stores, Fd.c, Nat.add_assoc, Nat.reduceAdd] using this
structure At where
  name : ByteArray
  val : V
def At.c (x : At) : List Value := [.string x.name, .int .i64 x.val.kind, .int .i64 x.val.int, .string x.val.str]
abbrev At.v (x : At) : Value := .agg #[.string x.name, .int .i64 x.val.kind, .int .i64 x.val.int, .string x.val.str]
def At.z : At := ⟨⟨#[]⟩, V.z⟩
theorem At.len (x : At) : x.c.length = 4 := rfl
theorem RdA.getAt {w : World} {a : Option Addr} {n : Nat} {xs : List At} (h : RdA w a 4 n (rows At.c xs)) {i : Nat} (hi : i < n) :
    ∃ b o x, a = some ⟨b, o, none⟩ ∧ Hid (xs[i]? = some x) ∧ w.cell? ⟨b, o + i * 4, none⟩ = some (.string x.name) ∧ w.cell? ⟨b, o + i * 4 + 1, none⟩ = some (.int .i64 x.val.kind) ∧ w.cell? ⟨b, o + i * 4 + 2, none⟩ = some (.int .i64 x.val.int) ∧ w.cell? ⟨b, o + i * 4 + 3, none⟩ = some (.string x.val.str) := by
  obtain ⟨b, o, x, rfl, hx, hc⟩ := h.row At.len (by decide) hi
  exact ⟨b, o, x, rfl, hx, hc 0 _ rfl, hc 1 _ rfl, hc 2 _ rfl, hc 3 _ rfl⟩
theorem ownAt {w : World} {base : Nat} {e : TypeId} {g n cap : Nat} {xs : List At} (h : w.ownsRow base e 4 (.slice (some ⟨g, 0, none⟩) n cap) n (rows At.c xs)) {i : Nat} (hi : i < n) :
    ∃ x, Hid (xs[i]? = some x) ∧ w.cell? ⟨g, i * 4, none⟩ = some (.string x.name) ∧ w.cell? ⟨g, i * 4 + 1, none⟩ = some (.int .i64 x.val.kind) ∧ w.cell? ⟨g, i * 4 + 2, none⟩ = some (.int .i64 x.val.int) ∧ w.cell? ⟨g, i * 4 + 3, none⟩ = some (.string x.val.str) := by
  obtain ⟨x, hx, hc⟩ := own_row At.len (by decide) h hi
  exact ⟨x, hx, hc 0 _ rfl, hc 1 _ rfl, hc 2 _ rfl, hc 3 _ rfl⟩
theorem storeAt {w : World} {base : Nat} {e : TypeId} {g n cap : Nat} {xs : List At} (h : w.ownsRow base e 4 (.slice (some ⟨g, 0, none⟩) n cap) n (rows At.c xs)) {i : Nat} (hi : i < n) (x : At) :
    ((((w.setCell ⟨g, i * 4, none⟩ (.string x.name)).setCell ⟨g, i * 4 + 1, none⟩ (.int .i64 x.val.kind)).setCell ⟨g, i * 4 + 2, none⟩ (.int .i64 x.val.int)).setCell ⟨g, i * 4 + 3, none⟩ (.string x.val.str)).ownsRow base e 4 (.slice (some ⟨g, 0, none⟩) n cap) n (rows At.c (xs.set i x)) := by
  have := store_row At.len (by decide) h hi x
  simpa only [stores, At.c, Nat.add_assoc, Nat.reduceAdd] using this
structure P2 where
  name : ByteArray
  q : Value
def P2.c (x : P2) : List Value := [.string x.name, x.q]
abbrev P2.v (x : P2) : Value := .agg #[.string x.name, x.q]
def P2.z : P2 := ⟨⟨#[]⟩, .slice none 0 0⟩
theorem P2.len (x : P2) : x.c.length = 2 := rfl
theorem RdA.getP2 {w : World} {a : Option Addr} {n : Nat} {xs : List P2} (h : RdA w a 2 n (rows P2.c xs)) {i : Nat} (hi : i < n) :
    ∃ b o x, a = some ⟨b, o, none⟩ ∧ Hid (xs[i]? = some x) ∧ w.cell? ⟨b, o + i * 2, none⟩ = some (.string x.name) ∧ w.cell? ⟨b, o + i * 2 + 1, none⟩ = some (x.q) := by
  obtain ⟨b, o, x, rfl, hx, hc⟩ := h.row P2.len (by decide) hi
  exact ⟨b, o, x, rfl, hx, hc 0 _ rfl, hc 1 _ rfl⟩
theorem ownP2 {w : World} {base : Nat} {e : TypeId} {g n cap : Nat} {xs : List P2} (h : w.ownsRow base e 2 (.slice (some ⟨g, 0, none⟩) n cap) n (rows P2.c xs)) {i : Nat} (hi : i < n) :
    ∃ x, Hid (xs[i]? = some x) ∧ w.cell? ⟨g, i * 2, none⟩ = some (.string x.name) ∧ w.cell? ⟨g, i * 2 + 1, none⟩ = some (x.q) := by
  obtain ⟨x, hx, hc⟩ := own_row P2.len (by decide) h hi
  exact ⟨x, hx, hc 0 _ rfl, hc 1 _ rfl⟩
theorem storeP2 {w : World} {base : Nat} {e : TypeId} {g n cap : Nat} {xs : List P2} (h : w.ownsRow base e 2 (.slice (some ⟨g, 0, none⟩) n cap) n (rows P2.c xs)) {i : Nat} (hi : i < n) (x : P2) :
    ((w.setCell ⟨g, i * 2, none⟩ (.string x.name)).setCell ⟨g, i * 2 + 1, none⟩ (x.q)).ownsRow base e 2 (.slice (some ⟨g, 0, none⟩) n cap) n (rows P2.c (xs.set i x)) := by
  have := store_row P2.len (by decide) h hi x
  simpa only [stores, P2.c, Nat.add_assoc, Nat.reduceAdd] using this
structure P3 where
  name : ByteArray
  q : Value
  r : Value
def P3.c (x : P3) : List Value := [.string x.name, x.q, x.r]
abbrev P3.v (x : P3) : Value := .agg #[.string x.name, x.q, x.r]
def P3.z : P3 := ⟨⟨#[]⟩, .slice none 0 0, .slice none 0 0⟩
theorem P3.len (x : P3) : x.c.length = 3 := rfl
structure P5 where
  id : Int
  owner : Int
  shared : Bool
  link : Int
  attrs : Value
def P5.c (x : P5) : List Value := [.int .i64 x.id, .int .i64 x.owner, .bool x.shared, .int .i64 x.link, x.attrs]
abbrev P5.v (x : P5) : Value := .agg #[.int .i64 x.id, .int .i64 x.owner, .bool x.shared, .int .i64 x.link, x.attrs]
def P5.z : P5 := ⟨0, 0, false, 0, .slice none 0 0⟩
theorem P5.len (x : P5) : x.c.length = 5 := rfl
theorem RdA.getP5 {w : World} {a : Option Addr} {n : Nat} {xs : List P5} (h : RdA w a 5 n (rows P5.c xs)) {i : Nat} (hi : i < n) :
    ∃ b o x, a = some ⟨b, o, none⟩ ∧ Hid (xs[i]? = some x) ∧ w.cell? ⟨b, o + i * 5, none⟩ = some (.int .i64 x.id) ∧ w.cell? ⟨b, o + i * 5 + 1, none⟩ = some (.int .i64 x.owner) ∧ w.cell? ⟨b, o + i * 5 + 2, none⟩ = some (.bool x.shared) ∧ w.cell? ⟨b, o + i * 5 + 3, none⟩ = some (.int .i64 x.link) ∧ w.cell? ⟨b, o + i * 5 + 4, none⟩ = some (x.attrs) := by
  obtain ⟨b, o, x, rfl, hx, hc⟩ := h.row P5.len (by decide) hi
  exact ⟨b, o, x, rfl, hx, hc 0 _ rfl, hc 1 _ rfl, hc 2 _ rfl, hc 3 _ rfl, hc 4 _ rfl⟩
theorem ownP5 {w : World} {base : Nat} {e : TypeId} {g n cap : Nat} {xs : List P5} (h : w.ownsRow base e 5 (.slice (some ⟨g, 0, none⟩) n cap) n (rows P5.c xs)) {i : Nat} (hi : i < n) :
    ∃ x, Hid (xs[i]? = some x) ∧ w.cell? ⟨g, i * 5, none⟩ = some (.int .i64 x.id) ∧ w.cell? ⟨g, i * 5 + 1, none⟩ = some (.int .i64 x.owner) ∧ w.cell? ⟨g, i * 5 + 2, none⟩ = some (.bool x.shared) ∧ w.cell? ⟨g, i * 5 + 3, none⟩ = some (.int .i64 x.link) ∧ w.cell? ⟨g, i * 5 + 4, none⟩ = some (x.attrs) := by
  obtain ⟨x, hx, hc⟩ := own_row P5.len (by decide) h hi
  exact ⟨x, hx, hc 0 _ rfl, hc 1 _ rfl, hc 2 _ rfl, hc 3 _ rfl, hc 4 _ rfl⟩
theorem storeP5 {w : World} {base : Nat} {e : TypeId} {g n cap : Nat} {xs : List P5} (h : w.ownsRow base e 5 (.slice (some ⟨g, 0, none⟩) n cap) n (rows P5.c xs)) {i : Nat} (hi : i < n) (x : P5) :
    (((((w.setCell ⟨g, i * 5, none⟩ (.int .i64 x.id)).setCell ⟨g, i * 5 + 1, none⟩ (.int .i64 x.owner)).setCell ⟨g, i * 5 + 2, none⟩ (.bool x.shared)).setCell ⟨g, i * 5 + 3, none⟩ (.int .i64 x.link)).setCell ⟨g, i * 5 + 4, none⟩ (x.attrs)).ownsRow base e 5 (.slice (some ⟨g, 0, none⟩) n cap) n (rows P5.c (xs.set i x)) := by
  have := store_row P5.len (by decide) h hi x
  simpa only [stores, P5.c, Nat.add_assoc, Nat.reduceAdd] using this
theorem set_noop {l : List Value} {j : Nat} {u : Value} (h : l[j]? = some u) : l.set j u = l := by
  obtain ⟨hj, rfl⟩ := List.getElem?_eq_some_iff.1 h
  exact List.set_getElem_self hj
theorem setsN (xs : List N) (i : Nat) (hi : i < xs.length) (x : N) : (((((((rows N.c xs).set (i * 7) (.int .i64 x.op)).set (i * 7 + 1) (.int .i64 x.left)).set (i * 7 + 2) (.int .i64 x.right)).set (i * 7 + 3) (.string x.name)).set (i * 7 + 4) (.int .i64 x.val.kind)).set (i * 7 + 5) (.int .i64 x.val.int)).set (i * 7 + 6) (.string x.val.str) = rows N.c (xs.set i x) := by
  have := rows_sets N.len xs i hi x
  simpa only [sets, N.c, Nat.add_assoc, Nat.reduceAdd] using this
theorem setsFd (xs : List Fd) (i : Nat) (hi : i < xs.length) (x : Fd) : ((rows Fd.c xs).set (i * 2) (.string x.name)).set (i * 2 + 1) (.int .i64 x.kind) = rows Fd.c (xs.set i x) := by
  have := rows_sets Fd.len xs i hi x
  simpa only [sets, Fd.c, Nat.add_assoc, Nat.reduceAdd] using this
theorem setsAt (xs : List At) (i : Nat) (hi : i < xs.length) (x : At) : ((((rows At.c xs).set (i * 4) (.string x.name)).set (i * 4 + 1) (.int .i64 x.val.kind)).set (i * 4 + 2) (.int .i64 x.val.int)).set (i * 4 + 3) (.string x.val.str) = rows At.c (xs.set i x) := by
  have := rows_sets At.len xs i hi x
  simpa only [sets, At.c, Nat.add_assoc, Nat.reduceAdd] using this
theorem setsP2 (xs : List P2) (i : Nat) (hi : i < xs.length) (x : P2) : ((rows P2.c xs).set (i * 2) (.string x.name)).set (i * 2 + 1) (x.q) = rows P2.c (xs.set i x) := by
  have := rows_sets P2.len xs i hi x
  simpa only [sets, P2.c, Nat.add_assoc, Nat.reduceAdd] using this
theorem setsP5 (xs : List P5) (i : Nat) (hi : i < xs.length) (x : P5) : (((((rows P5.c xs).set (i * 5) (.int .i64 x.id)).set (i * 5 + 1) (.int .i64 x.owner)).set (i * 5 + 2) (.bool x.shared)).set (i * 5 + 3) (.int .i64 x.link)).set (i * 5 + 4) (x.attrs) = rows P5.c (xs.set i x) := by
  have := rows_sets P5.len xs i hi x
  simpa only [sets, P5.c, Nat.add_assoc, Nat.reduceAdd] using this
theorem setnP2 (xs : List P2) (i : Nat) (x : P2) (h : xs[i]? = some x) (y0 : ByteArray) : (rows P2.c xs).set (i * 2) (.string y0) = rows P2.c (xs.set i ⟨y0, x.q⟩) := by
  have hs := setsP2 xs i (List.getElem?_eq_some_iff.1 h).1 ⟨y0, x.q⟩
  have n0 : ((rows P2.c xs).set (i * 2) (.string y0))[i * 2 + 1]? = some x.q := by
    repeat rw [List.getElem?_set_ne (by omega)]
    exact rows_at P2.len xs i 1 x h (by decide)
  rw [set_noop n0] at hs
  exact hs
theorem setnP5 (xs : List P5) (i : Nat) (x : P5) (h : xs[i]? = some x) (y0 : Int) (y1 : Int) (y2 : Bool) (y3 : Int) : ((((rows P5.c xs).set (i * 5) (.int .i64 y0)).set (i * 5 + 1) (.int .i64 y1)).set (i * 5 + 2) (.bool y2)).set (i * 5 + 3) (.int .i64 y3) = rows P5.c (xs.set i ⟨y0, y1, y2, y3, x.attrs⟩) := by
  have hs := setsP5 xs i (List.getElem?_eq_some_iff.1 h).1 ⟨y0, y1, y2, y3, x.attrs⟩
  have n0 : (((((rows P5.c xs).set (i * 5) (.int .i64 y0)).set (i * 5 + 1) (.int .i64 y1)).set (i * 5 + 2) (.bool y2)).set (i * 5 + 3) (.int .i64 y3))[i * 5 + 4]? = some x.attrs := by
    repeat rw [List.getElem?_set_ne (by omega)]
    exact rows_at P5.len xs i 4 x h (by decide)
  rw [set_noop n0] at hs
  exact hs
def V.sz (x : V) : Nat := x.str.size
def N.sz (x : N) : Nat := x.name.size + x.val.sz
def Fd.sz (x : Fd) : Nat := x.name.size
def At.sz (x : At) : Nat := x.name.size + x.val.sz
structure Dr where
  name : ByteArray
  query : List N
structure Rs where
  name : ByteArray
  ids : List Int
structure Df where
  name : ByteArray
  added : List Int
  removed : List Int
structure Fl where
  id : Int
  owner : Int
  shared : Bool
  link : Int
  attrs : List At
structure St where
  schema : List Fd
  files : List Fl
  next : Int
def Dr.R (w : World) (x : Dr) (p : P2) : Prop := p.name = x.name ∧ Rd w p.q 7 x.query.length (rows N.c x.query)
def Rs.R (w : World) (x : Rs) (p : P2) : Prop := p.name = x.name ∧ Rd w p.q 1 x.ids.length (ints x.ids)
def Df.R (w : World) (x : Df) (p : P3) : Prop := p.name = x.name ∧ Rd w p.q 1 x.added.length (ints x.added) ∧ Rd w p.r 1 x.removed.length (ints x.removed)
def Fl.R (w : World) (x : Fl) (p : P5) : Prop := p.id = x.id ∧ p.owner = x.owner ∧ p.shared = x.shared ∧ p.link = x.link ∧ Rd w p.attrs 4 x.attrs.length (rows At.c x.attrs)
theorem Dr.R.grew {w w' : World} {x : Dr} {p : P2} (h : Dr.R w x p) (hg : Grew w w') : Dr.R w' x p := ⟨h.1, h.2.grew hg⟩
theorem Rs.R.grew {w w' : World} {x : Rs} {p : P2} (h : Rs.R w x p) (hg : Grew w w') : Rs.R w' x p := ⟨h.1, h.2.grew hg⟩
theorem Df.R.grew {w w' : World} {x : Df} {p : P3} (h : Df.R w x p) (hg : Grew w w') : Df.R w' x p := ⟨h.1, h.2.1.grew hg, h.2.2.grew hg⟩
theorem Fl.R.grew {w w' : World} {x : Fl} {p : P5} (h : Fl.R w x p) (hg : Grew w w') : Fl.R w' x p := ⟨h.1, h.2.1, h.2.2.1, h.2.2.2.1, h.2.2.2.2.grew hg⟩
abbrev RdDs (w : World) (v : Value) (xs : List Dr) : Prop := RdL P2.c 2 Dr.R w v xs
abbrev RdRs (w : World) (v : Value) (xs : List Rs) : Prop := RdL P2.c 2 Rs.R w v xs
abbrev RdLs (w : World) (v : Value) (xs : List Fl) : Prop := RdL P5.c 5 Fl.R w v xs
end Go.Proofs.YtejgpghcahinhaaGreat
namespace Go.Proofs.YtejgpghcahinhaaGreat
open Go.RowKit
theorem conv1 (w : World) (n : Int) : (convert 22 9 (.slice (some ⟨w.heap.size, 0, none⟩) 1 1)).run Tryz.prog (w.alloc (.cells #[.int .u8 n] 5)) = .ok (.string ⟨[UInt8.ofNat n.toNat].toArray⟩) (w.alloc (.cells #[.int .u8 n] 5)) := by
  rw [run_convert_bytes_string _ _ _ 5 _ _ _ Tryz.underlying22 Tryz.underlying5 Tryz.underlying9]
  rw [run_bytesToString _ _ _ _ [n] (by simp [loadCells, loadCellsFrom, go_sem])]
  rfl
def digs : Nat → Nat → List UInt8 → List UInt8
  | 0, _, s => s
  | f + 1, k, s => if k = 0 then s else digs f (k / 10) ((48 + UInt8.ofNat (k % 10)) :: s)
theorem digs_more : ∀ (f g k : Nat) (s : List UInt8), k < f → f ≤ g → digs g k s = digs f k s := by
  intro f
  induction f with
  | zero => intro g k s h; omega
  | succ f ih =>
    intro g k s h hg
    cases g with
    | zero => omega
    | succ g =>
      simp only [digs]
      by_cases hk : k = 0
      · simp [hk]
      · rw [if_neg hk, if_neg hk]
        exact ih g (k / 10) _ (by omega) (by omega)
theorem digs_step (k : Nat) (s : List UInt8) (hk : 0 < k) : digs (k + 1) k s = digs (k / 10 + 1) (k / 10) ((48 + UInt8.ofNat (k % 10)) :: s) := by
  conv => lhs; unfold digs
  rw [if_neg (by omega)]
  exact digs_more (k / 10 + 1) k _ _ (by omega) (by omega)
theorem digs_zero (f : Nat) (s : List UInt8) : digs f 0 s = s := by cases f <;> simp [digs]
def mtext (k : Int) : ByteArray := if k ≤ 0 then ⟨[109, 48].toArray⟩ else ⟨(109 :: digs (k.toNat + 1) k.toNat []).toArray⟩
set_option maxRecDepth 100000 in
set_option maxHeartbeats 400000 in
theorem markText (k : Int) (w : World) (hk : 0 ≤ k) (hk2 : k ≤ 4000000000000000) :
    Calls Tryz.prog 140 #[.int .i64 k] w fun e w' => e = .returned (.string (mtext k)) ∧ Grew w w' := by
  by_cases h0 : k ≤ 0
  · have HM := Lib.hid (show mtext k = ⟨[109, 48].toArray⟩ by simp [mtext, h0])
    go_enter Tryz.func140, Tryz.ntmps140
    go_wp2
    go_ret
    exact ⟨ret_str HM.out.symm, Grew.refl _⟩
  · obtain ⟨m, rfl⟩ := Int.eq_ofNat_of_zero_le hk
    have HM := Lib.hid (show mtext m = ⟨(109 :: digs (m + 1) m []).toArray⟩ by unfold mtext; rw [if_neg h0]; rfl)
    go_enter Tryz.func140, Tryz.ntmps140
    go_wp2
    go_loopw [0, 3] (fun x o wr => ∃ (k : Nat) (s : List UInt8), k ≤ 4000000000000000 ∧ x = .int .i64 k ∧ o = .string ⟨s.toArray⟩ ∧ Grew w wr ∧ s.length + k ≤ 4000000000000000 ∧ Hid (digs (k + 1) k s = digs (m + 1) m [])) (fun x _ _ => (intOf x).toNat)
    case atStart => exact ⟨m, [], by omega, rfl, rfl, Grew.refl _, by simp; omega, rfl⟩
    case round =>
      obtain ⟨k, s, hk, rfl, rfl, hb, hs, hd⟩ := hrel
      by_cases h1 : 0 < k
      · have hcv := fun n => conv1 wr n
        go_wp2
        go_roundw
        case rel =>
          refine ⟨k / 10, (48 + UInt8.ofNat (k % 10)) :: s, by omega, by go_num, ?_, hb.alloc _, by simp; omega, Lib.hid (by rw [← digs_step k s h1]; exact hd.out)⟩
          exact congrArg Value.string (ByteArray.mk_append_mk [48 + UInt8.ofNat (k % 10)] s)
        case measure => simp [intOf]; omega
      · obtain rfl : k = 0 := by omega
        have hd0 := hd.out
        rw [digs_zero] at hd0
        have HD := Lib.hid hd0
        clear hd hd0
        go_wp2
        go_ret
        refine ⟨ret_str ?_, hb⟩
        rw [HM.out, ← HD.out]
        exact ByteArray.mk_append_mk [109] s
end Go.Proofs.YtejgpghcahinhaaGreat
namespace Go.Proofs.YtejgpghcahinhaaGreat
open Go.RowKit
set_option linter.unusedVariables false
theorem Tryz.infoInt : (Tryz.prog.info? 3).map (fun i => (i.zero, i.size, i.bytes)) = some (some (.int .i64 0), 1, 8) := by kernel_rfl
set_option maxHeartbeats 400000 in
theorem eqIntS (va vb : Value) (n : Nat) (xs : List Int) (w : World) (ha : Rd w va 1 n (ints xs)) (hb : Rd w vb 1 n (ints xs)) (hx : n ≤ 4000000) :
    Calls Tryz.prog 72 #[va, vb] w fun e w' => e = .returned (.bool true) ∧ Grew w w' := by
  obtain ⟨a, ca, rfl, hca, hra⟩ := ha
  obtain ⟨b, cb, rfl, hcb, hrb⟩ := hb
  go_enter Tryz.func72, Tryz.ntmps72
  go_wp2
  go_loopw [5] (fun i wr => ∃ k : Nat, k ≤ n ∧ i = .int .i64 k ∧ Grew w wr) (fun i _ => n - (intOf i).toNat)
  case atStart => exact ⟨0, Nat.zero_le _, rfl, Grew.refl _⟩
  case round =>
    obtain ⟨k, hk, rfl, hbel⟩ := hrel
    by_cases hlt : k < n
    · obtain ⟨b1, o1, x, rfl, hxk, e1⟩ := (hra.grew hbel).one hlt
      obtain ⟨b2, o2, y, rfl, hyk, e2⟩ := (hrb.grew hbel).one hlt
      obtain rfl : x = y := by have := hxk.out.symm.trans hyk.out; simpa using this
      go_wp2
      go_quiet (fail)
      go_wp2
      go_roundw
      case rel => exact ⟨k + 1, by omega, by go_num, hbel.drewN _⟩
      case measure => simp [intOf]; omega
    · go_wp2
      go_ret
      exact ⟨rfl, hbel⟩
set_option maxHeartbeats 400000 in
theorem markIntS (va : Value) (n : Nat) (xs : List Int) (k0 : Int) (w : World) (lo hi : Nat) (ha : Own w lo hi 3 1 va n (ints xs)) (hx : n ≤ 4000000) (h0 : 0 ≤ k0) (h1 : k0 ≤ 3000000000000000) :
    Calls Tryz.prog 75 #[va, .int .i64 k0] w fun e w' => e = .returned (.int .i64 (k0 + n)) ∧ Own w' lo hi 3 1 va n (ints ((List.range n).map fun (j : Nat) => k0 + (j : Int))) ∧ Touch lo hi w w' := by
  rcases ha.cases with ⟨rfl, rfl, _⟩ | ⟨g, cap, rfl, hg1, hg2, hcap, hown⟩
  · go_enter Tryz.func75, Tryz.ntmps75
    go_wp2
    refine wp_loop_rounds 1 ?_
    rw [rounds_succ]
    go_wp2
    go_ret
    exact ⟨ret_int (by simp), ⟨⟨rfl, .inl ⟨rfl, rfl⟩⟩, fun b h => by cases h⟩, Touch.refl _ _ _⟩
  · have HX : Hid (xs.length = n) := Lib.hid (by have := hown.1; simpa using this)
    have HO := Lib.hid ha
    clear ha
    go_enter Tryz.func75, Tryz.ntmps75
    go_wp2
    go_loopw [1, 5] (fun c i wr => ∃ k : Nat, k ≤ n ∧ i = .int .i64 k ∧ c = .int .i64 (k0 + k) ∧ Touch lo hi w wr ∧ wr.ownsRow g 3 1 (.slice (some ⟨g, 0, none⟩) n cap) n (ints (((List.range k).map fun (j : Nat) => k0 + (j : Int)) ++ xs.drop k))) (fun _ i _ => n - (intOf i).toNat)
    case atStart => exact ⟨0, Nat.zero_le _, rfl, by simp, Touch.refl _ _ _, by simpa using hown⟩
    case round =>
      obtain ⟨k, hk, rfl, rfl, hbel, hown⟩ := hrel
      by_cases hlt : k < n
      · skip
        have hfz := hown.frozenAt k
        obtain ⟨y, hy, hcell⟩ := own_one hown hlt
        have hst := Lib.hid (store_one hown k ((k0 + (k : Int))))
        go_wp2
        go_roundw
        case rel =>
          refine ⟨k + 1, by omega, by go_num, by go_num, hbel.setCell hg1 hg2 _, ?_⟩
          have := hst.out
          have hd : xs.drop k = xs[k]'(by have := HX.out; omega) :: xs.drop (k + 1) := by rw [List.getElem_cons_drop]
          rw [set_append_left _ _ k _ _ _ (by simp) hd] at this
          rw [List.range_succ, List.map_append]
          simpa using this
        case measure => simp [intOf]; omega
      · obtain rfl : k = n := by omega
        go_wp2
        go_ret
        refine ⟨rfl, ⟨?_, HO.out.2⟩, hbel⟩
        have := hown
        rw [List.drop_eq_nil_of_le (by have := HX.out; omega), List.append_nil] at this
        exact ownsRow_base this hg1
set_option maxHeartbeats 400000 in
theorem heldIntS (va : Value) (n : Nat) (k0 : Int) (w : World) (ha : Rd w va 1 n (ints ((List.range n).map fun (j : Nat) => k0 + (j : Int)))) (hx : n ≤ 4000000) (h0 : 0 ≤ k0) (h1 : k0 ≤ 3000000000000000) :
    Calls Tryz.prog 76 #[va, .int .i64 k0] w fun e w' => e = .returned (.int .i64 (k0 + n)) ∧ Grew w w' := by
  obtain ⟨a, ca, rfl, hca, hra⟩ := ha
  go_enter Tryz.func76, Tryz.ntmps76
  go_wp2
  go_loopw [1, 5] (fun c i wr => ∃ k : Nat, k ≤ n ∧ i = .int .i64 k ∧ c = .int .i64 (k0 + k) ∧ Grew w wr) (fun _ i _ => n - (intOf i).toNat)
  case atStart => exact ⟨0, Nat.zero_le _, rfl, by simp, Grew.refl _⟩
  case round =>
    obtain ⟨k, hk, rfl, rfl, hbel⟩ := hrel
    by_cases hlt : k < n
    · obtain ⟨b1, o1, x, rfl, hxk, e1⟩ := (hra.grew hbel).one hlt
      obtain rfl : x = (k0 + (k : Int)) := by have := hxk.out; simp [List.getElem?_range hlt] at this; exact this.symm
      go_wp2
      go_roundw
      case rel => exact ⟨k + 1, by omega, by go_num, by go_num, hbel⟩
      case measure => simp [intOf]; omega
    · go_wp2
      go_ret
      obtain rfl : k = n := by omega
      exact ⟨rfl, hbel⟩
end Go.Proofs.YtejgpghcahinhaaGreat
namespace Go.Proofs.YtejgpghcahinhaaGreat
open Go.RowKit
set_option linter.unusedVariables false
def inB (x a b : Int) : Bool := decide (a ≤ x) && decide (x ≤ b)
set_option maxHeartbeats 400000 in
theorem l01In (x a b : Int) (w : World) :
    Calls Tryz.prog 89 #[.int .i64 x, .int .i64 a, .int .i64 b] w fun e w' => e = .returned (.bool (inB x a b)) ∧ w = w' := by
  go_enter Tryz.func89, Tryz.ntmps89
  go_wp2
  all_goals go_ret
  all_goals simp [inB, *]
  all_goals omega
set_option maxHeartbeats 400000 in
theorem within (x a b : Int) (w : World) :
    Calls Tryz.prog 177 #[.int .i64 x, .int .i64 a, .int .i64 b] w fun e w' => e = .returned (.bool (inB x a b)) ∧ w = w' := by
  go_enter Tryz.func177, Tryz.ntmps177
  go_wp2
  all_goals go_ret
  all_goals simp [inB, *]
  all_goals omega
def has {α : Type} [DecidableEq α] (xs : List α) (x : α) : Bool := decide (x ∈ xs)
theorem has_no {xs : List Int} {x y : Int} {k : Nat} (h : has (xs.take k) x = false) (hy : xs[k]? = some y) (hn : y ≠ x) : has (xs.take (k + 1)) x = false := by
  rw [take_snoc hy]
  simp [has] at h ⊢
  exact ⟨h, fun h => hn h.symm⟩
theorem has_yes {xs : List Int} {x : Int} {k : Nat} (hy : xs[k]? = some x) : has xs x = true := by
  simp [has]; exact List.mem_of_getElem? hy
set_option maxHeartbeats 400000 in
theorem specContainsID (va : Value) (n : Nat) (xs : List Int) (x : Int) (w : World) (ha : Rd w va 1 n (ints xs)) (hx : n ≤ 4000000) :
    Calls Tryz.prog 44 #[va, .int .i64 x] w fun e w' => e = .returned (.bool (has xs x)) ∧ w = w' := by
  obtain ⟨a, ca, rfl, hca, hra⟩ := ha
  have HX := Lib.hid hra.len_map
  go_enter Tryz.func44, Tryz.ntmps44
  go_wp2
  go_loop [5] (fun i => ∃ k : Nat, k ≤ n ∧ i = .int .i64 k ∧ Hid (has (xs.take k) x = false)) (fun i => n - (intOf i).toNat)
  case atStart => exact ⟨0, Nat.zero_le _, rfl, Lib.hid (by simp [has])⟩
  case round =>
    obtain ⟨k, hk, rfl, hsame⟩ := hrel
    by_cases hlt : k < n
    · obtain ⟨b1, o1, y, rfl, hxk, e1⟩ := hra.one hlt
      by_cases he : y = x
      · subst he
        go_wp2
        go_ret
        exact ⟨ret_bool (has_yes hxk.out).symm, rfl⟩
      · have hq : (y == x) = false := by simp [he]
        have HE := Lib.hid he
        clear he
        go_wp2
        go_round
        case rel => exact ⟨k + 1, by omega, by go_num, Lib.hid (has_no hsame.out hxk.out HE.out)⟩
        case measure => simp [intOf]; omega
    · go_wp2
      go_ret
      obtain rfl : k = n := by omega
      exact ⟨ret_bool (by have := hsame.out; rw [take_all HX.out] at this; exact this.symm), rfl⟩
def idxB (xs : List Int) (x i : Int) : Prop := (i = -1 ∧ has xs x = false) ∨ (0 ≤ i ∧ has xs x = true)
set_option maxHeartbeats 400000 in
theorem slIndexInt (va : Value) (n : Nat) (xs : List Int) (x : Int) (w : World) (ha : Rd w va 1 n (ints xs)) (hx : n ≤ 4000000) :
    Calls Tryz.prog 226 #[va, .int .i64 x] w fun e w' => ∃ i : Int, e = .returned (.int .i64 i) ∧ idxB xs x i ∧ w = w' := by
  obtain ⟨a, ca, rfl, hca, hra⟩ := ha
  have HX := Lib.hid hra.len_map
  go_enter Tryz.func226, Tryz.ntmps226
  go_wp2
  go_loop [5, 8] (fun _ i => ∃ k : Nat, k ≤ n ∧ i = .int .i64 k ∧ Hid (has (xs.take k) x = false)) (fun _ i => n - (intOf i).toNat)
  case atStart => exact ⟨0, Nat.zero_le _, rfl, Lib.hid (by simp [has])⟩
  case round =>
    obtain ⟨k, hk, rfl, hsame⟩ := hrel
    by_cases hlt : k < n
    · obtain ⟨b1, o1, y, rfl, hxk, e1⟩ := hra.one hlt
      by_cases he : y = x
      · subst he
        go_wp2
        go_ret
        exact ⟨_, rfl, .inr ⟨by omega, has_yes hxk.out⟩, rfl⟩
      · have hq : (x == y) = false := by simp; exact fun h => he h.symm
        have HE := Lib.hid he
        clear he
        go_wp2
        go_round
        case rel => exact ⟨k + 1, by omega, by go_num, Lib.hid (has_no hsame.out hxk.out HE.out)⟩
        case measure => simp [intOf]; omega
    · go_wp2
      go_ret
      obtain rfl : k = n := by omega
      exact ⟨_, rfl, .inl ⟨rfl, by have := hsame.out; rw [take_all HX.out] at this; exact this⟩, rfl⟩
set_option maxHeartbeats 400000 in
theorem slContainsInt (va : Value) (n : Nat) (xs : List Int) (x : Int) (w : World) (ha : Rd w va 1 n (ints xs)) (hx : n ≤ 4000000) :
    Calls Tryz.prog 187 #[va, .int .i64 x] w fun e w' => e = .returned (.bool (has xs x)) ∧ w = w' := by
  go_enter Tryz.func187, Tryz.ntmps187
  go_wp2_with (go_at_call 226; refine (slIndexInt va n xs x _ ha hx).mono ?_; rintro e w' ⟨i, rfl, hi, rfl⟩)
  go_ret
  refine ⟨ret_bool ?_, rfl⟩
  rcases hi with ⟨rfl, h⟩ | ⟨h0, h⟩
  · simp [h]
  · simp [h, h0]
set_option maxHeartbeats 400000 in
theorem implContainsID (va : Value) (n : Nat) (xs : List Int) (x : Int) (w : World) (ha : Rd w va 1 n (ints xs)) (hx : n ≤ 4000000) :
    Calls Tryz.prog 127 #[va, .int .i64 x] w fun e w' => e = .returned (.bool (has xs x)) ∧ w = w' := by
  go_enter Tryz.func127, Tryz.ntmps127
  go_wp2_with (go_at_call 187; refine (slContainsInt va n xs x _ ha hx).mono ?_; rintro e w' ⟨rfl, rfl⟩)
  go_ret
  exact ⟨rfl, rfl⟩
end Go.Proofs.YtejgpghcahinhaaGreat
