/- Contracts of DiffResults. -/
import Derived.Test.YtgekgokkbakcmaaR1
import Derived.Test.YtgekgokkbakcmaaD2
import Derived.Test.YtgekgokkbakcmaaG
import Derived.Test.YtgekgokkbakcmaaS
namespace Go.Proofs.Ytgekgokkbakcmaa
open Go.RowKit
set_option linter.unusedVariables false
/-- Rows of two types lie in two blocks. -/
theorem own_type {w : World} {B B' : Nat} {e e' : TypeId} {k k' n n' : Nat} {v v' : Value} {xs xs' : List Value} (h : w.ownsRow B e k v n xs) (h' : w.ownsRow B' e' k' v' n' xs') (hne : e ≠ e') {b : Nat} (hb : v.ownBlock = some b) : v'.ownBlock ≠ some b := by
  intro hb'
  obtain ⟨_, ⟨rfl, _⟩ | ⟨g, cap, cur, rfl, _, hh, _⟩⟩ := h
  · cases hb
  obtain ⟨_, ⟨rfl, _⟩ | ⟨g', cap', cur', rfl, _, hh', _⟩⟩ := h'
  · cases hb'
  cases hb; cases hb'
  rw [hh] at hh'
  injection Option.some.inj hh' with h1 h2
  exact hne h2
/-- A row outlives the growth of a row of another type. -/
theorem own_grown {w w' : World} {B lo hi : Nat} {e e' : TypeId} {k k' n n' : Nat} {v v' : Value} {xs xs' : List Value} (h : Own w lo hi e k v n xs) (h' : w.ownsRow B e' k' v' n' xs') (hne : e ≠ e') (hg : w.grownBy w' v'.ownBlock) : Own w' lo hi e k v n xs := by
  refine ⟨h.1.kept hg ?_, h.2⟩
  cases hb : v.ownBlock with
  | none => exact .inl rfl
  | some b => exact .inr (fun h3 => own_type h.1 h' hne hb h3.symm)
/-- What differs between a listing and the listing of that name. -/
def difOne (xs : List Rs) (y : Rs) : Df := ⟨y.name, wo y.ids (resIds xs y.name), wo (resIds xs y.name) y.ids⟩
def difHas (d : Df) : Bool := decide (0 < d.added.length + d.removed.length)
def difRes (xs ys : List Rs) : List Df := (ys.map (difOne xs)).filter difHas
theorem difRes_yes {xs ys : List Rs} {k : Nat} {y : Rs} (h : ys[k]? = some y) (hh : difHas (difOne xs y) = true) : difRes xs (ys.take (k + 1)) = difRes xs (ys.take k) ++ [difOne xs y] := by
  rw [take_snoc h]; unfold difRes; rw [List.map_append, List.filter_append]; simp [hh]
theorem difRes_no {xs ys : List Rs} {k : Nat} {y : Rs} (h : ys[k]? = some y) (hh : difHas (difOne xs y) = false) : difRes xs (ys.take (k + 1)) = difRes xs (ys.take k) := by
  rw [take_snoc h]; unfold difRes; rw [List.map_append, List.filter_append]; simp [hh]
theorem difRes_le (xs ys : List Rs) : (difRes xs ys).length ≤ ys.length := by
  unfold difRes; exact Nat.le_trans (List.length_filter_le _ _) (by simp)
theorem difOne_small {xs : List Rs} {y : Rs} (hx : ∀ x, x ∈ xs → x.small) (hy : y.small) : (difOne xs y).small :=
  ⟨Nat.le_trans (wo_le _ _) hy, Nat.le_trans (wo_le _ _) (resIds_small hx)⟩
theorem difRes_small {xs ys : List Rs} (hx : ∀ x, x ∈ xs → x.small) (hy : ∀ y, y ∈ ys → y.small) : ∀ d, d ∈ difRes xs ys → d.small := by
  intro d hd
  unfold difRes at hd
  obtain ⟨y, hy2, rfl⟩ := List.mem_map.1 (List.mem_filter.1 hd).1
  exact difOne_small hx (hy y hy2)
theorem cnt_small : ∀ (ds : List Df), (∀ d, d ∈ ds → d.small) → 0 ≤ cntL cntDf ds ∧ cntL cntDf ds ≤ (ds.length : Int) * 8000001
  | [], _ => by simp [cntL]
  | d :: ds, h => by
    have h1 := h d (List.mem_cons_self ..)
    have h2 := cnt_small ds (fun x hx => h x (List.mem_cons_of_mem _ hx))
    unfold Df.small at h1
    simp only [cntL, List.map_cons, List.sum_cons, List.length_cons, cntDf] at h2 ⊢
    omega
/-- The rows of a growing list of differences. -/
def Grows (w : World) (base : Nat) (v : Value) (ds : List Df) : Prop :=
  ∃ ps : List P3, w.ownsRow base 94 3 v ds.length (rows P3.c ps) ∧ All2 (Df.O w base w.heap.size) ds ps ∧ Dis (ps.flatMap Df.subs)
theorem Grows.own {w : World} {base : Nat} {v : Value} {ds : List Df} (h : Grows w base v ds) : OwnDfs w base w.heap.size v ds := by
  obtain ⟨ps, h1, h2, h3⟩ := h
  refine ⟨ps, own_of h1, h2, h3.cons ?_⟩
  intro u b hu hv
  obtain ⟨p, hp, hup⟩ := List.mem_flatMap.1 hu
  obtain ⟨i, hi', rfl⟩ := List.getElem_of_mem hp
  obtain ⟨x, hx, _, hr1, hr2⟩ := h2.get (List.getElem?_eq_getElem hi')
  simp only [Df.subs, List.mem_cons, List.not_mem_nil, or_false] at hup
  rcases hup with rfl | rfl
  · exact own_type h1 hr1.1 (by decide) hv
  · exact own_type h1 hr2.1 (by decide) hv
theorem Grows.alloc {w : World} {base : Nat} {v : Value} {ds : List Df} (h : Grows w base v ds) {w' : World} (hg : Grew w w') : Grows w' base v ds := by
  obtain ⟨ps, h1, h2, h3⟩ := h
  exact ⟨ps, ownsRow_grew h1 hg, h2.mono fun x p h => (h.grew hg).mono (Nat.le_refl _) hg.size, h3⟩
theorem Grows.lit (w : World) : Grows (w.alloc (.cells #[] 94)) w.heap.size (.slice (some ⟨w.heap.size, 0, none⟩) 0 0) [] :=
  ⟨[], lit_own w _ 3, All2.nil, Dis.nil⟩
theorem Grows.snoc {w w' : World} {base lo2 : Nat} {v v' : Value} {ds : List Df} {d : Df} {ps : List P3} {p : P3} (h1 : w.ownsRow base 94 3 v ds.length (rows P3.c ps)) (h2 : All2 (Df.O w base lo2) ds ps) (h3 : Dis (ps.flatMap Df.subs))
    (hp : Df.O w lo2 w.heap.size d p) (hd : Dis (Df.subs p)) (hb : base ≤ lo2) (hl : lo2 ≤ w.heap.size)
    (hown : w'.ownsRow base 94 3 v' (ds.length + 1) (rows P3.c ps ++ P3.c p)) (hg : w.grownBy w' v.ownBlock) (hs : w.heap.size ≤ w'.heap.size) : Grows w' base v' (ds ++ [d]) := by
  refine ⟨ps ++ [p], ?_, ?_, ?_⟩
  · rw [List.length_append, rows_append]; simpa [rows] using hown
  · refine All2.snoc (h2.mono fun x q hr => ?_) ?_
    · exact ⟨hr.1, (own_grown hr.2.1 h1 (by decide) hg).mono (Nat.le_refl _) (Nat.le_trans hl hs), (own_grown hr.2.2 h1 (by decide) hg).mono (Nat.le_refl _) (Nat.le_trans hl hs)⟩
    · exact ⟨hp.1, (own_grown hp.2.1 h1 (by decide) hg).mono hb hs, (own_grown hp.2.2 h1 (by decide) hg).mono hb hs⟩
  · rw [List.flatMap_append]
    refine Dis.app h3 (by simpa using hd) ?_
    intro u v b hu hv hub hvb
    have h4 := All2.blk (subs := Df.subs) (fun x p v b h hv hb => Df.O.blk h hv hb) h2 hu hub
    have h5 := hp.blk (by simpa using hv) hvb
    omega
theorem news3 {w : World} {a b c : Value} {e : TypeId} {g : Nat} (hg : g = w.heap.size) : ∀ j u, [a, b, c][j]? = some u → (w.alloc (.cells #[a, b, c] e)).cell? ((⟨g, 0, none⟩ : Addr).add j) = some u := by
  subst hg
  intro j u hu
  match j with
  | 0 => simp at hu; subst hu; simp [Addr.add]
  | 1 => simp at hu; subst hu; simp [Addr.add]
  | 2 => simp at hu; subst hu; simp [Addr.add]
  | j + 3 => simp at hu
end Go.Proofs.Ytgekgokkbakcmaa
