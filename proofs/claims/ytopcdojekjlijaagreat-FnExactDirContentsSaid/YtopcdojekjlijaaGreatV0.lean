/- The rows of a growing list of results, and stores of fresh contents into it. -/
import Derived.Test.YtopcdojekjlijaaGreatN3
import Derived.Test.YtopcdojekjlijaaGreatY4
import Derived.Test.YtopcdojekjlijaaGreatH6
namespace Go.Proofs.YtopcdojekjlijaaGreat
open Go.RowKit
set_option linter.unusedVariables false
def GrowR (w : World) (base : Nat) (v : Value) (ds : List Rs) : Prop :=
  ∃ ps : List P2, w.ownsRow base 82 2 v ds.length (rows P2.c ps) ∧ All2 (Rs.O w base w.heap.size) ds ps ∧ Dis (ps.flatMap Rs.subs)
theorem GrowR.own {w : World} {base : Nat} {v : Value} {ds : List Rs} (h : GrowR w base v ds) : OwnRss w base w.heap.size v ds := by
  obtain ⟨ps, h1, h2, h3⟩ := h
  refine ⟨ps, own_of h1, h2, h3.cons ?_⟩
  intro u b hu hv
  obtain ⟨p, hp, hup⟩ := List.mem_flatMap.1 hu
  obtain ⟨i, hi', rfl⟩ := List.getElem_of_mem hp
  obtain ⟨x, hx, _, hr1⟩ := h2.get (List.getElem?_eq_getElem hi')
  simp only [Rs.subs, List.mem_cons, List.not_mem_nil, or_false] at hup
  subst hup
  exact own_type h1 hr1.1 (by decide) hv
theorem GrowR.grew {w : World} {base : Nat} {v : Value} {ds : List Rs} (h : GrowR w base v ds) {w' : World} (hg : Grew w w') : GrowR w' base v ds := by
  obtain ⟨ps, h1, h2, h3⟩ := h
  exact ⟨ps, ownsRow_grew h1 hg, h2.mono fun x p h => (h.grew hg).mono (Nat.le_refl _) hg.size, h3⟩
theorem GrowR.lit (w : World) : GrowR (w.alloc (.cells #[] 82)) w.heap.size (.slice (some ⟨w.heap.size, 0, none⟩) 0 0) [] :=
  ⟨[], lit_own w _ 2, All2.nil, Dis.nil⟩
theorem GrowR.base {w : World} {a b : Nat} {v : Value} {ds : List Rs} (h : GrowR w a v ds) (hb : b ≤ a) : GrowR w b v ds := by
  obtain ⟨ps, h1, h2, h3⟩ := h
  exact ⟨ps, ownsRow_base h1 hb, h2.mono fun x p h => h.mono hb (Nat.le_refl _), h3⟩
theorem GrowR.snoc {w w' : World} {base lo2 : Nat} {v v' : Value} {ds : List Rs} {d : Rs} {ps : List P2} {p : P2} (h1 : w.ownsRow base 82 2 v ds.length (rows P2.c ps)) (h2 : All2 (Rs.O w base lo2) ds ps) (h3 : Dis (ps.flatMap Rs.subs))
    (hp : Rs.O w lo2 w.heap.size d p) (hb : base ≤ lo2) (hl : lo2 ≤ w.heap.size)
    (hown : w'.ownsRow base 82 2 v' (ds.length + 1) (rows P2.c ps ++ P2.c p)) (hg : w.grownBy w' v.ownBlock) (hs : w.heap.size ≤ w'.heap.size) : GrowR w' base v' (ds ++ [d]) := by
  refine ⟨ps ++ [p], ?_, ?_, ?_⟩
  · rw [List.length_append, rows_append]; simpa [rows] using hown
  · refine All2.snoc (h2.mono fun x q hr => ?_) ?_
    · exact ⟨hr.1, (own_grown hr.2 h1 (by decide) hg).mono (Nat.le_refl _) (Nat.le_trans hl hs)⟩
    · exact ⟨hp.1, (own_grown hp.2 h1 (by decide) hg).mono hb hs⟩
  · rw [List.flatMap_append]
    refine Dis.app h3 (by simpa [Rs.subs] using Dis.one p.q) ?_
    intro u v b hu hv hub hvb
    have h4 := All2.blk (subs := Rs.subs) (fun x p v b h hv hb => Rs.O.blk h hv hb) h2 hu hub
    have h5 := hp.blk (by simpa using hv) hvb
    omega
theorem news2r {w : World} {a b : Value} {e : TypeId} {g : Nat} (hg : g = w.heap.size) : ∀ j u, [a, b][j]? = some u → (w.alloc (.cells #[a, b] e)).cell? ((⟨g, 0, none⟩ : Addr).add j) = some u := by
  subst hg
  intro j u hu
  match j with
  | 0 => simp at hu; subst hu; simp [Addr.add]
  | 1 => simp at hu; subst hu; simp [Addr.add]
  | j + 2 => simp at hu
theorem Dis.put : ∀ {L : List Value} {i : Nat} {u : Value}, Dis L → (∀ v b, v ∈ L → u.ownBlock = some b → v.ownBlock ≠ some b) → Dis (L.set i u)
  | [], i, u, h, _ => by simpa using h
  | v :: vs, 0, u, h, hf => by
    rw [List.set_cons_zero]
    exact h.tail.cons (fun z b hz hb => hf z b (List.mem_cons_of_mem _ hz) hb)
  | v :: vs, i + 1, u, h, hf => by
    rw [List.set_cons_succ]
    refine (Dis.put h.tail (fun z b hz hb => hf z b (List.mem_cons_of_mem _ hz) hb)).cons (fun z b hz hb => ?_)
    rcases List.mem_or_eq_of_mem_set hz with h1 | rfl
    · exact h.head h1 hb
    · intro he; exact hf v b (List.mem_cons_self ..) he hb
theorem subs_map (ps : List P2) : ps.flatMap Rs.subs = ps.map P2.q := by
  induction ps with
  | nil => rfl
  | cons p ps ih => rw [List.flatMap_cons, ih]; rfl
/-- An element of own results: its cells and its own contents. -/
theorem GrowR.at {w : World} {base g n cap i : Nat} {rs : List Rs} (h : GrowR w base (.slice (some ⟨g, 0, none⟩) n cap) rs) (hn : rs.length = n) (hi : i < n) :
    ∃ r a c, Hid (rs[i]? = some r) ∧ w.cell? ⟨g, i * 2, none⟩ = some (.string r.name) ∧ w.cell? ⟨g, i * 2 + 1, none⟩ = some (.slice a r.ids.length c) ∧ Hid (Rd w (.slice a r.ids.length c) 1 r.ids.length (ints r.ids)) ∧ w.frozen? ⟨g, i * 2 + 1, none⟩ = false ∧ g < w.heap.size ∧ base ≤ g := by
  obtain ⟨ps, h1, h2, h3⟩ := h
  rw [hn] at h1
  have hpl := h2.1
  have hp : ps[i]? = some ps[i] := List.getElem?_eq_getElem (by omega)
  have hr : rs[i]? = some rs[i] := List.getElem?_eq_getElem (by omega)
  have hO := h2.2 i _ _ hr hp
  obtain ⟨p', hp', hc⟩ := own_row P2.len (by decide) h1 hi
  obtain rfl := Option.some.inj (hp'.out.symm.trans hp)
  obtain ⟨a, c, hq⟩ := own_slice hO.2.1
  refine ⟨rs[i], a, c, Lib.hid hr, ?_, ?_, ?_, h1.frozenAt _, (h1.lt g rfl).2, (h1.lt g rfl).1⟩
  · have := hc 0 (.string ps[i].name) rfl
    rw [hO.1] at this; exact this
  · have := hc 1 ps[i].q rfl
    rw [hq] at this; exact this
  · have := hO.2.rd
    rw [hq] at this; exact Lib.hid this
theorem GrowR.put {w w1 : World} {base g n cap i : Nat} {rs : List Rs} {r : Rs} {u : Value} {l : List Int} (h : GrowR w base (.slice (some ⟨g, 0, none⟩) n cap) rs) (hn : rs.length = n) (hg : Grew w w1)
    (hu : w1.ownsRow w.heap.size 3 1 u l.length (ints l)) (hr : rs[i]? = some r) : GrowR (w1.setCell ⟨g, i * 2 + 1, none⟩ u) base (.slice (some ⟨g, 0, none⟩) n cap) (rs.set i ⟨r.name, l⟩) := by
  obtain ⟨ps, h1, h2, h3⟩ := h
  rw [hn] at h1
  have hpl := h2.1
  have hi := (List.getElem?_eq_some_iff.1 hr).1
  have hp : ps[i]? = some ps[i] := List.getElem?_eq_getElem (by omega)
  have hO := h2.2 i r ps[i] hr hp
  have hgl := h1.lt g rfl
  have hsz := hg.size
  have ht : Touch g (g + 1) w1 (w1.setCell ⟨g, i * 2 + 1, none⟩ u) := Touch.setCell (p := ⟨g, i * 2 + 1, none⟩) (Touch.refl g (g + 1) w1) (Nat.le_refl g) (Nat.lt_succ_self g) u
  have hss : (w1.setCell ⟨g, i * 2 + 1, none⟩ u).heap.size = w1.heap.size := by simp
  refine ⟨ps.set i ⟨ps[i].name, u⟩, ?_, ?_, ?_⟩
  · have e := ownsRow_stores (ownsRow_grew h1 hg) (i * 2 + 1) u
    rw [List.length_set, hn]
    have e2 : (rows P2.c ps).set (i * 2 + 1) u = rows P2.c (ps.set i ⟨ps[i].name, u⟩) := by
      have h5 := setsP2 ps i (by omega) ⟨ps[i].name, u⟩
      have h6 : (rows P2.c ps).set (i * 2) (.string ps[i].name) = rows P2.c ps := set_noop (rows_at P2.len ps i 0 ps[i] hp (by decide))
      simp only at h5
      rw [h6] at h5
      exact h5
    rw [← e2]; exact e
  · refine (h2.mono fun x q hq => ?_).set i _ _ ?_
    · have h5 : Rs.O w1 base w.heap.size x q := hq.grew hg
      have h6 := h5.touch' ht (fun v c hv hc => by
        simp only [Rs.subs, List.mem_cons, List.not_mem_nil, or_false] at hv
        subst hv
        have h7 := own_type hq.2.1 h1 (by decide) hc
        have h8 : c ≠ g := fun e => h7 (by rw [e]; rfl)
        omega)
      exact h6.mono (Nat.le_refl _) (by omega)
    · refine ⟨hO.1, ?_⟩
      have h5 : Own w1 w.heap.size w1.heap.size 3 1 u l.length (ints l) := ⟨hu, fun b hb => (hu.lt b hb).2⟩
      exact (h5.touch ht (.inr (by omega))).mono (by omega) (by omega)
  · rw [subs_map] at h3 ⊢
    rw [List.map_set]
    refine Dis.put h3 (fun v b hv hb he => ?_)
    obtain ⟨p, hpm, rfl⟩ := List.mem_map.1 hv
    obtain ⟨j, hj, rfl⟩ := List.getElem_of_mem hpm
    obtain ⟨x, hx, hq⟩ := h2.get (List.getElem?_eq_getElem hj)
    have h5 := (hu.lt b hb).1
    have h6 := (hq.2.1.lt b he).2
    omega
/-- How much a row of results in memory holds. -/
def totW (w : World) (g n : Nat) : Nat := sumN ((List.range n).map fun j => match w.cell? ⟨g, j * 2 + 1, none⟩ with | some (.slice _ l _) => l | _ => 0)
theorem totW_of {w : World} {base g n cap : Nat} {rs : List Rs} (h : GrowR w base (.slice (some ⟨g, 0, none⟩) n cap) rs) (hn : rs.length = n) : totW w g n = tot rs := by
  unfold totW tot
  congr 1
  apply List.ext_getElem (by simp [hn])
  intro i h1 h2
  obtain ⟨r, a, c, hr, _, hc, _⟩ := h.at hn (i := i) (by simpa using h1)
  simp only [List.getElem_map, List.getElem_range, hc]
  have h3 := hr.out
  have h4 : i < rs.length := by simpa using h2
  rw [List.getElem?_eq_getElem h4] at h3
  cases h3
  rfl
end Go.Proofs.YtopcdojekjlijaaGreat
