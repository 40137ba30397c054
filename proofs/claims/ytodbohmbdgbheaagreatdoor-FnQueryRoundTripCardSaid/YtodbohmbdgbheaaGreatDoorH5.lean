/- The laws' helpers over directories, results, diffs and files: sizes, marks, and the look at marks. -/
import Derived.Test.YtodbohmbdgbheaaGreatDoorH4
namespace Go.Proofs.YtodbohmbdgbheaaGreatDoor
open Go.RowKit
set_option linter.unusedVariables false
def mkL {α : Type} (mk : Int → α → α) (cnt : α → Int) : Int → List α → List α
  | _, [] => []
  | c, x :: xs => mk c x :: mkL mk cnt (c + cnt x) xs
def cntL {α : Type} (cnt : α → Int) (xs : List α) : Int := (xs.map cnt).sum
theorem mkL_length {α : Type} (mk : Int → α → α) (cnt : α → Int) : ∀ (c : Int) (xs : List α), (mkL mk cnt c xs).length = xs.length := by
  intro c xs
  induction xs generalizing c with
  | nil => rfl
  | cons x xs ih => simp [mkL, ih]
theorem cntL_snoc {α : Type} (cnt : α → Int) (xs : List α) (x : α) : cntL cnt (xs ++ [x]) = cntL cnt xs + cnt x := by simp [cntL]
theorem mkL_snoc {α : Type} (mk : Int → α → α) (cnt : α → Int) : ∀ (c : Int) (xs : List α) (x : α), mkL mk cnt c (xs ++ [x]) = mkL mk cnt c xs ++ [mk (c + cntL cnt xs) x] := by
  intro c xs
  induction xs generalizing c with
  | nil => intro x; simp [mkL, cntL]
  | cons y ys ih => intro x; simp only [List.cons_append, mkL, ih, cntL, List.map_cons, List.sum_cons, Int.add_assoc]
theorem mkL_get {α : Type} (mk : Int → α → α) (cnt : α → Int) : ∀ (c : Int) (xs : List α) (j : Nat), (mkL mk cnt c xs)[j]? = (xs[j]?).map (mk (c + cntL cnt (xs.take j))) := by
  intro c xs
  induction xs generalizing c with
  | nil => intro j; simp [mkL]
  | cons y ys ih =>
    intro j
    cases j with
    | zero => simp [mkL, cntL]
    | succ j => simp only [mkL, List.getElem?_cons_succ, ih, List.take_succ_cons, cntL, List.map_cons, List.sum_cons, Int.add_assoc]
theorem cntL_le {α : Type} (cnt : α → Int) (h0 : ∀ x, 0 ≤ cnt x) : ∀ (xs : List α) (k : Nat), 0 ≤ cntL cnt (xs.take k) ∧ cntL cnt (xs.take k) ≤ cntL cnt xs := by
  intro xs
  induction xs with
  | nil => intro k; simp [cntL]
  | cons y ys ih =>
    intro k
    have h1 := (ih ys.length).1
    rw [List.take_length] at h1
    cases k with
    | zero => have := h0 y; simp only [List.take_zero, cntL, List.map_nil, List.sum_nil, List.map_cons, List.sum_cons] at h1 ⊢; omega
    | succ k => have := ih k; have := h0 y; simp only [List.take_succ_cons, cntL, List.map_cons, List.sum_cons] at *; omega
theorem All2.upd {α β : Type} {R S : α → β → Prop} {xs : List α} {ys : List β} (h : All2 R xs ys) (k : Nat) (x : α) (y : β) (hs : ∀ (i : Nat) a b, i ≠ k → xs[i]? = some a → ys[i]? = some b → R a b → S a b) (hr : S x y) : All2 S (xs.set k x) (ys.set k y) := by
  refine ⟨by simp [h.1], fun j a b ha hb => ?_⟩
  by_cases hij : k = j
  · subst hij
    have hl := (List.getElem?_eq_some_iff.1 ha).1
    simp at hl
    rw [List.getElem?_set_self hl] at ha
    rw [List.getElem?_set_self (by rw [← h.1]; exact hl)] at hb
    simp at ha hb; subst ha; subst hb; exact hr
  · rw [List.getElem?_set_ne hij] at ha hb
    exact hs j a b (fun e => hij e.symm) ha hb (h.2 j a b ha hb)
theorem Dis.flat {β : Type} {subs : β → List Value} : ∀ {ps : List β}, Dis (ps.flatMap subs) → ∀ (i j : Nat) (p q : β) (u v : Value) (b : Nat), i ≠ j → ps[i]? = some p → ps[j]? = some q → u ∈ subs p → v ∈ subs q → u.ownBlock = some b → v.ownBlock ≠ some b := by
  intro ps
  induction ps with
  | nil => intro _ i j p q u v b _ h; simp at h
  | cons r rs ih =>
    intro h i j p q u v b hij hp hq hu hv hb
    rw [List.flatMap_cons] at h
    cases i with
    | zero =>
      cases j with
      | zero => exact absurd rfl hij
      | succ j =>
        simp at hp hq; subst hp
        exact Dis.two h hu (List.mem_flatMap.2 ⟨q, List.mem_of_getElem? hq, hv⟩) hb
    | succ i =>
      cases j with
      | zero =>
        simp at hp hq; subst hq
        intro hvb
        exact Dis.two h hv (List.mem_flatMap.2 ⟨p, List.mem_of_getElem? hp, hu⟩) hvb hb
      | succ j => exact ih h.right i j p q u v b (by omega) (by simpa using hp) (by simpa using hq) hu hv hb
theorem Dis.part {β : Type} {subs : β → List Value} : ∀ {ps : List β}, Dis (ps.flatMap subs) → ∀ (i : Nat) (p : β), ps[i]? = some p → Dis (subs p) := by
  intro ps
  induction ps with
  | nil => intro _ i p h; simp at h
  | cons r rs ih =>
    intro h i p hp
    rw [List.flatMap_cons] at h
    cases i with
    | zero => simp at hp; subst hp; exact h.left
    | succ i => exact ih h.right i p (by simpa using hp)
theorem flatMap_set_same {β : Type} {subs : β → List Value} : ∀ (ps : List β) (k : Nat) (p q : β), ps[k]? = some p → subs q = subs p → (ps.set k q).flatMap subs = ps.flatMap subs := by
  intro ps
  induction ps with
  | nil => intro k p q h; simp at h
  | cons r rs ih =>
    intro k p q h hs
    cases k with
    | zero => simp at h; subst h; simp [hs]
    | succ k => simp only [List.set_cons_succ, List.flatMap_cons]; rw [ih k p q (by simpa using h) hs]
/-- A region that holds no more than the row's own block. -/
theorem Own.tight {w : World} {lo hi : Nat} {e : TypeId} {k n : Nat} {v : Value} {cs : List Value} (h : Own w lo hi e k v n cs) :
    ∃ lo' hi', lo ≤ lo' ∧ hi' ≤ hi ∧ Own w lo' hi' e k v n cs ∧ ∀ b, lo' ≤ b → b < hi' → v.ownBlock = some b := by
  rcases h.cases with ⟨rfl, rfl, rfl⟩ | ⟨g, cap, rfl, hg1, hg2, hc, hown⟩
  · by_cases hl : hi ≤ lo
    · exact ⟨lo, hi, Nat.le_refl _, Nat.le_refl _, h, fun b h1 h2 => by omega⟩
    · exact ⟨lo, lo, Nat.le_refl _, by omega, ⟨h.1, fun b hb => by cases hb⟩, fun b h1 h2 => by omega⟩
  · refine ⟨g, g + 1, hg1, hg2, ⟨hown, fun b hb => ?_⟩, fun b h1 h2 => ?_⟩
    · simp [Value.ownBlock] at hb; omega
    · have : b = g := by omega
      subst this; rfl
theorem Own.touch' {w w' : World} {lo hi a b : Nat} {e : TypeId} {k n : Nat} {v : Value} {cs : List Value} (h : Own w lo hi e k v n cs) (ht : Touch a b w w') (hd : ∀ c, v.ownBlock = some c → c < a ∨ b ≤ c) : Own w' lo hi e k v n cs := by
  refine ⟨?_, h.2⟩
  obtain ⟨hl, ⟨rfl, rfl⟩ | ⟨g, cap, cur, rfl, hg, hh, hr⟩⟩ := h.1
  · exact ⟨hl, .inl ⟨rfl, rfl⟩⟩
  · have hb := h.1.lt g rfl
    exact ⟨hl, .inr ⟨g, cap, cur, rfl, hg, (ht.block g hb.2 (hd g rfl)).trans hh, hr⟩⟩
theorem ownsRow_touch {w w' : World} {base a b : Nat} {e : TypeId} {k n g cap : Nat} {cs : List Value} (h : w.ownsRow base e k (.slice (some ⟨g, 0, none⟩) n cap) n cs) (ht : Touch a b w w') (hd : g < a ∨ b ≤ g) : w'.ownsRow base e k (.slice (some ⟨g, 0, none⟩) n cap) n cs :=
  (Own.touch' (own_of h) ht (fun c hc => by simp [Value.ownBlock] at hc; omega)).1
theorem touch_cell {w w' : World} {a b : Nat} (ht : Touch a b w w') {p : Addr} {u : Value} (hd : p.block < a ∨ b ≤ p.block) (h : w.cell? p = some u) : w'.cell? p = some u := by
  rw [World.cell?_of_block (w := w) (w' := w') (ht.block p.block (lt_of_cell h) hd)]; exact h
theorem lt_block_of_cell {w : World} {a : Addr} {v : Value} (h : w.cell? a = some v) : a.block < w.heap.size := lt_of_cell h

def Dr.ok0 (x : Dr) : Prop := (x.name.size ≤ maxLen) ∧ (x.query.length ≤ maxLen) ∧ (∀ y, y ∈ x.query → N.ok0 y)
def Dr.sz (x : Dr) : Nat := x.name.size + (x.query.length + szAll N.sz x.query)
/-- The marks of one. -/
def cntDr (x : Dr) : Int := 1 + (((x.query.length : Nat) : Int) * 7)
theorem cntDr_0 (x : Dr) : 0 ≤ cntDr x := by unfold cntDr; omega
def mkDr1 (c : Int) (x : Dr) : Dr := ⟨mtext (c), ((List.range x.query.length).map fun (j : Nat) => mkN ((c + 1) + (j : Int) * 7))⟩
def mkDrs (c : Int) (xs : List Dr) : List Dr := mkL mkDr1 cntDr c xs
def Rs.ok0 (x : Rs) : Prop := (x.name.size ≤ maxLen) ∧ (x.ids.length ≤ maxLen)
def Rs.sz (x : Rs) : Nat := x.name.size + (x.ids.length)
/-- The marks of one. -/
def cntRs (x : Rs) : Int := 1 + (((x.ids.length : Nat) : Int))
theorem cntRs_0 (x : Rs) : 0 ≤ cntRs x := by unfold cntRs; omega
def mkRs1 (c : Int) (x : Rs) : Rs := ⟨mtext (c), ((List.range x.ids.length).map fun (j : Nat) => (c + 1) + (j : Int))⟩
def mkRss (c : Int) (xs : List Rs) : List Rs := mkL mkRs1 cntRs c xs
def Df.ok0 (x : Df) : Prop := (x.name.size ≤ maxLen) ∧ (x.added.length ≤ maxLen) ∧ (x.removed.length ≤ maxLen)
def Df.sz (x : Df) : Nat := x.name.size + (x.added.length) + (x.removed.length)
/-- The marks of one. -/
def cntDf (x : Df) : Int := 1 + (((x.added.length : Nat) : Int)) + (((x.removed.length : Nat) : Int))
theorem cntDf_0 (x : Df) : 0 ≤ cntDf x := by unfold cntDf; omega
def mkDf1 (c : Int) (x : Df) : Df := ⟨mtext (c), ((List.range x.added.length).map fun (j : Nat) => (c + 1) + (j : Int)), ((List.range x.removed.length).map fun (j : Nat) => (c + 1 + ((x.added.length : Nat) : Int)) + (j : Int))⟩
def mkDfs (c : Int) (xs : List Df) : List Df := mkL mkDf1 cntDf c xs
def Fl.ok0 (x : Fl) : Prop := (x.attrs.length ≤ maxLen) ∧ (∀ y, y ∈ x.attrs → At.ok0 y)
def Fl.sz (x : Fl) : Nat := (x.attrs.length + szAll At.sz x.attrs)
/-- The marks of one. -/
def cntFl (x : Fl) : Int := 4 + (((x.attrs.length : Nat) : Int) * 4)
theorem cntFl_0 (x : Fl) : 0 ≤ cntFl x := by unfold cntFl; omega
def mkFl1 (c : Int) (x : Fl) : Fl := ⟨(c), (c + 1), ((c + 1 + 1) % 3 == 0), (c + 1 + 1 + 1), ((List.range x.attrs.length).map fun (j : Nat) => mkAt ((c + 1 + 1 + 1 + 1) + (j : Int) * 4))⟩
def mkFls (c : Int) (xs : List Fl) : List Fl := mkL mkFl1 cntFl c xs
end Go.Proofs.YtodbohmbdgbheaaGreatDoor
