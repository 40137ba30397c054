/- Texts V0, Y8, J, O, O2, as far as they are needed. -/
import Derived.Test.YtkkbhhmhkpgbkaaGreatLi1
import Derived.Test.YtkkbhhmhkpgbkaaGreatLi10
import Derived.Test.YtkkbhhmhkpgbkaaGreatChecked
import Derived.Test.YtkkbhhmhkpgbkaaGreatRows
import Derived.JoinedOf
import Derived.Test.YtkkbhhmhkpgbkaaGreatLi0
import Derived.ProofKit
import Derived.OpenShut
import Derived.ShutString
import Derived.ChangeOld
import Derived.Deep.Slices
namespace Go.Proofs.YtkkbhhmhkpgbkaaGreat
open Go.RowKit
set_option linter.unusedVariables false
def GrowR (w : World) (base : Nat) (v : Value) (ds : List Rs) : Prop :=
  ∃ ps : List P2, w.ownsRow base 86 2 v ds.length (rows P2.c ps) ∧ All2 (Rs.O w base w.heap.size) ds ps ∧ Dis (ps.flatMap Rs.subs)
theorem GrowR.own {w : World} {base : Nat} {v : Value} {ds : List Rs} (h : GrowR w base v ds) : OwnRss w base w.heap.size v ds := by
  obtain ⟨ps, h1, h2, h3⟩ := h
  refine ⟨ps, own_of h1, h2, h3.cons ?_⟩
  intro u b hu hv
  obtain ⟨p, hp, hup⟩ := List.mem_flatMap.1 hu
  obtain ⟨i, hi', rfl⟩ := List.getElem_of_mem hp
  obtain ⟨x, hx, _, hr1⟩ := h2.get (List.getElem?_eq_getElem hi')
  simp only [Rs.subs, List.mem_cons, List.not_mem_nil, or_false] at hup
  subst hup
  exact own_type h1 hr1.1 (by decide) hv
theorem GrowR.grew {w : World} {base : Nat} {v : Value} {ds : List Rs} (h : GrowR w base v ds) {w' : World} (hg : Grew w w') : GrowR w' base v ds := by
  obtain ⟨ps, h1, h2, h3⟩ := h
  exact ⟨ps, ownsRow_grew h1 hg, h2.mono fun x p h => (h.grew hg).mono (Nat.le_refl _) hg.size, h3⟩
theorem GrowR.lit (w : World) : GrowR (w.alloc (.cells #[] 86)) w.heap.size (.slice (some ⟨w.heap.size, 0, none⟩) 0 0) [] :=
  ⟨[], lit_own w _ 2, All2.nil, Dis.nil⟩
theorem GrowR.base {w : World} {a b : Nat} {v : Value} {ds : List Rs} (h : GrowR w a v ds) (hb : b ≤ a) : GrowR w b v ds := by
  obtain ⟨ps, h1, h2, h3⟩ := h
  exact ⟨ps, ownsRow_base h1 hb, h2.mono fun x p h => h.mono hb (Nat.le_refl _), h3⟩
theorem GrowR.snoc {w w' : World} {base lo2 : Nat} {v v' : Value} {ds : List Rs} {d : Rs} {ps : List P2} {p : P2} (h1 : w.ownsRow base 86 2 v ds.length (rows P2.c ps)) (h2 : All2 (Rs.O w base lo2) ds ps) (h3 : Dis (ps.flatMap Rs.subs))
    (hp : Rs.O w lo2 w.heap.size d p) (hb : base ≤ lo2) (hl : lo2 ≤ w.heap.size)
    (hown : w'.ownsRow base 86 2 v' (ds.length + 1) (rows P2.c ps ++ P2.c p)) (hg : w.grownBy w' v.ownBlock) (hs : w.heap.size ≤ w'.heap.size) : GrowR w' base v' (ds ++ [d]) := by
  refine ⟨ps ++ [p], ?_, ?_, ?_⟩
  · rw [List.length_append, rows_append]; simpa [rows] using hown
  · refine All2.snoc (h2.mono fun x q hr => ?_) ?_
    · exact ⟨hr.1, (own_grown hr.2 h1 (by decide) hg).mono (Nat.le_refl _) (Nat.le_trans hl hs)⟩
    · exact ⟨hp.1, (own_grown hp.2 h1 (by decide) hg).mono hb hs⟩
  · rw [List.flatMap_append]
    refine Dis.app h3 (by simpa [Rs.subs] using Dis.one p.q) ?_
    intro u v b hu hv hub hvb
    have h4 := All2.blk (subs := Rs.subs) (fun x p v b h hv hb => Rs.O.blk h hv hb) h2 hu hub
    have h5 := hp.blk (by simpa using hv) hvb
    omega
theorem news2r {w : World} {a b : Value} {e : TypeId} {g : Nat} (hg : g = w.heap.size) : ∀ j u, [a, b][j]? = some u → (w.alloc (.cells #[a, b] e)).cell? ((⟨g, 0, none⟩ : Addr).add j) = some u := by
  subst hg
  intro j u hu
  match j with
  | 0 => simp at hu; subst hu; simp [Addr.add]
  | 1 => simp at hu; subst hu; simp [Addr.add]
  | j + 2 => simp at hu
theorem Dis.put : ∀ {L : List Value} {i : Nat} {u : Value}, Dis L → (∀ v b, v ∈ L → u.ownBlock = some b → v.ownBlock ≠ some b) → Dis (L.set i u)
  | [], i, u, h, _ => by simpa using h
  | v :: vs, 0, u, h, hf => by
    rw [List.set_cons_zero]
    exact h.tail.cons (fun z b hz hb => hf z b (List.mem_cons_of_mem _ hz) hb)
  | v :: vs, i + 1, u, h, hf => by
    rw [List.set_cons_succ]
    refine (Dis.put h.tail (fun z b hz hb => hf z b (List.mem_cons_of_mem _ hz) hb)).cons (fun z b hz hb => ?_)
    rcases List.mem_or_eq_of_mem_set hz with h1 | rfl
    · exact h.head h1 hb
    · intro he; exact hf v b (List.mem_cons_self ..) he hb
theorem subs_map (ps : List P2) : ps.flatMap Rs.subs = ps.map P2.q := by
  induction ps with
  | nil => rfl
  | cons p ps ih => rw [List.flatMap_cons, ih]; rfl
theorem GrowR.at {w : World} {base g n cap i : Nat} {rs : List Rs} (h : GrowR w base (.slice (some ⟨g, 0, none⟩) n cap) rs) (hn : rs.length = n) (hi : i < n) :
    ∃ r a c, Hid (rs[i]? = some r) ∧ w.cell? ⟨g, i * 2, none⟩ = some (.string r.name) ∧ w.cell? ⟨g, i * 2 + 1, none⟩ = some (.slice a r.ids.length c) ∧ Hid (Rd w (.slice a r.ids.length c) 1 r.ids.length (ints r.ids)) ∧ w.frozen? ⟨g, i * 2 + 1, none⟩ = false ∧ g < w.heap.size ∧ base ≤ g := by
  obtain ⟨ps, h1, h2, h3⟩ := h
  rw [hn] at h1
  have hpl := h2.1
  have hp : ps[i]? = some ps[i] := List.getElem?_eq_getElem (by omega)
  have hr : rs[i]? = some rs[i] := List.getElem?_eq_getElem (by omega)
  have hO := h2.2 i _ _ hr hp
  obtain ⟨p', hp', hc⟩ := own_row P2.len (by decide) h1 hi
  obtain rfl := Option.some.inj (hp'.out.symm.trans hp)
  obtain ⟨a, c, hq⟩ := own_slice hO.2.1
  refine ⟨rs[i], a, c, Lib.hid hr, ?_, ?_, ?_, h1.frozenAt _, (h1.lt g rfl).2, (h1.lt g rfl).1⟩
  · have := hc 0 (.string ps[i].name) rfl
    rw [hO.1] at this; exact this
  · have := hc 1 ps[i].q rfl
    rw [hq] at this; exact this
  · have := hO.2.rd
    rw [hq] at this; exact Lib.hid this
theorem GrowR.put {w w1 : World} {base g n cap i : Nat} {rs : List Rs} {r : Rs} {u : Value} {l : List Int} (h : GrowR w base (.slice (some ⟨g, 0, none⟩) n cap) rs) (hn : rs.length = n) (hg : Grew w w1)
    (hu : w1.ownsRow w.heap.size 3 1 u l.length (ints l)) (hr : rs[i]? = some r) : GrowR (w1.setCell ⟨g, i * 2 + 1, none⟩ u) base (.slice (some ⟨g, 0, none⟩) n cap) (rs.set i ⟨r.name, l⟩) := by
  obtain ⟨ps, h1, h2, h3⟩ := h
  rw [hn] at h1
  have hpl := h2.1
  have hi := (List.getElem?_eq_some_iff.1 hr).1
  have hp : ps[i]? = some ps[i] := List.getElem?_eq_getElem (by omega)
  have hO := h2.2 i r ps[i] hr hp
  have hgl := h1.lt g rfl
  have hsz := hg.size
  have ht : Touch g (g + 1) w1 (w1.setCell ⟨g, i * 2 + 1, none⟩ u) := Touch.setCell (p := ⟨g, i * 2 + 1, none⟩) (Touch.refl g (g + 1) w1) (Nat.le_refl g) (Nat.lt_succ_self g) u
  have hss : (w1.setCell ⟨g, i * 2 + 1, none⟩ u).heap.size = w1.heap.size := by simp
  refine ⟨ps.set i ⟨ps[i].name, u⟩, ?_, ?_, ?_⟩
  · have e := ownsRow_stores (ownsRow_grew h1 hg) (i * 2 + 1) u
    rw [List.length_set, hn]
    have e2 : (rows P2.c ps).set (i * 2 + 1) u = rows P2.c (ps.set i ⟨ps[i].name, u⟩) := by
      have h5 := setsP2 ps i (by omega) ⟨ps[i].name, u⟩
      have h6 : (rows P2.c ps).set (i * 2) (.string ps[i].name) = rows P2.c ps := set_noop (rows_at P2.len ps i 0 ps[i] hp (by decide))
      simp only at h5
      rw [h6] at h5
      exact h5
    rw [← e2]; exact e
  · refine (h2.mono fun x q hq => ?_).set i _ _ ?_
    · have h5 : Rs.O w1 base w.heap.size x q := hq.grew hg
      have h6 := h5.touch' ht (fun v c hv hc => by
        simp only [Rs.subs, List.mem_cons, List.not_mem_nil, or_false] at hv
        subst hv
        have h7 := own_type hq.2.1 h1 (by decide) hc
        have h8 : c ≠ g := fun e => h7 (by rw [e]; rfl)
        omega)
      exact h6.mono (Nat.le_refl _) (by omega)
    · refine ⟨hO.1, ?_⟩
      have h5 : Own w1 w.heap.size w1.heap.size 3 1 u l.length (ints l) := ⟨hu, fun b hb => (hu.lt b hb).2⟩
      exact (h5.touch ht (.inr (by omega))).mono (by omega) (by omega)
  · rw [subs_map] at h3 ⊢
    rw [List.map_set]
    refine Dis.put h3 (fun v b hv hb he => ?_)
    obtain ⟨p, hpm, rfl⟩ := List.mem_map.1 hv
    obtain ⟨j, hj, rfl⟩ := List.getElem_of_mem hpm
    obtain ⟨x, hx, hq⟩ := h2.get (List.getElem?_eq_getElem hj)
    have h5 := (hu.lt b hb).1
    have h6 := (hq.2.1.lt b he).2
    omega
def totW (w : World) (g n : Nat) : Nat := sumN ((List.range n).map fun j => match w.cell? ⟨g, j * 2 + 1, none⟩ with | some (.slice _ l _) => l | _ => 0)
theorem totW_of {w : World} {base g n cap : Nat} {rs : List Rs} (h : GrowR w base (.slice (some ⟨g, 0, none⟩) n cap) rs) (hn : rs.length = n) : totW w g n = tot rs := by
  unfold totW tot
  congr 1
  apply List.ext_getElem (by simp [hn])
  intro i h1 h2
  obtain ⟨r, a, c, hr, _, hc, _⟩ := h.at hn (i := i) (by simpa using h1)
  simp only [List.getElem_map, List.getElem_range, hc]
  have h3 := hr.out
  have h4 : i < rs.length := by simpa using h2
  rw [List.getElem?_eq_getElem h4] at h3
  cases h3
  rfl
end Go.Proofs.YtkkbhhmhkpgbkaaGreat
namespace Go.Proofs.YtkkbhhmhkpgbkaaGreat
open Go.RowKit Go.Sort
set_option linter.unusedVariables false
theorem step_le {xs : List Dr} {fs : List Fl} {k : Nat} {rs : List Rs} (hb : stB xs = true) (h : EvI xs fs k rs) {i : Nat} {x : Dr} (hx : xs[i]? = some x) (hk : gt (stL xs) i = k) (hne : selL x.query fs rs ≠ idsAt rs i) :
    LeK xs k rs (rs.set i ⟨x.name, selL x.query fs rs⟩) := by
  have hi := (List.getElem?_eq_some_iff.1 hx).1
  have hil : i < rs.length := by rw [h.rlen]; exact hi
  have hs := (h.step hb hx hk hne).1
  refine ⟨h.names, hs.names, fun j hj => ?_, fun j hj z hz => ?_⟩
  · rw [idsAt_set_ne (fun e => hj (by rw [← e]; exact hk))]
  · by_cases hij : i = j
    · subst hij
      rw [idsAt_set hil]
      rcases h.pre i x hx hk with e | ⟨r0, h1, h2⟩
      · rw [e] at hz; cases hz
      · rw [h2] at hz; exact selL_sub hb hx hk h1 fs hz
    · rw [idsAt_set_ne hij]; exact hz
structure PassI (xs : List Dr) (fs : List Fl) (k : Nat) (rs : List Rs) (i : Nat) (a : List Rs × Bool) : Prop where
  ev : EvI xs fs k a.1
  le : LeK xs k rs a.1
  t0 : tot rs ≤ tot a.1
  t1 : a.2 = true → tot rs < tot a.1
  same : a.2 = false → a.1 = rs ∧ ∀ j x, j < i → xs[j]? = some x → gt (stL xs) j = k → selL x.query fs rs = idsAt rs j
theorem passTo_inv {xs : List Dr} {fs : List Fl} {k : Nat} {rs : List Rs} (hb : stB xs = true) (h : EvI xs fs k rs) : ∀ i, PassI xs fs k rs i (passTo xs fs k rs i)
  | 0 => by
    rw [passTo_zero]
    exact ⟨h, h.le, Nat.le_refl _, fun e => (by cases e), fun _ => ⟨rfl, fun j x hj => absurd hj (Nat.not_lt_zero j)⟩⟩
  | i + 1 => by
    have ih := passTo_inv hb h i
    rw [passTo_succ]
    generalize hp : passTo xs fs k rs i = a at ih
    obtain ⟨r, b⟩ := a
    have keep : ∀ (hs : b = false → ∀ x, xs[i]? = some x → gt (stL xs) i = k → selL x.query fs rs = idsAt rs i), PassI xs fs k rs (i + 1) (r, b) := fun hs =>
      ⟨ih.ev, ih.le, ih.t0, ih.t1, fun e => ⟨(ih.same e).1, fun j x hj hx hk => by
        rcases Nat.lt_succ_iff_lt_or_eq.1 hj with h1 | rfl
        · exact (ih.same e).2 j x h1 hx hk
        · exact hs e x hx hk⟩⟩
    cases hx : xs[i]? with
    | none =>
      have e1 : st1 xs fs k (r, b) i = (r, b) := by unfold st1; rw [hx]
      rw [e1]
      exact keep (fun _ x hx2 => by rw [hx] at hx2; cases hx2)
    | some x =>
      by_cases hk : gt (stL xs) i = k
      · by_cases hq : selL x.query fs r = idsAt r i
        · rw [st1_same hx hq]
          refine keep (fun e y hy _ => ?_)
          obtain rfl := Option.some.inj (hx.symm.trans hy)
          have e2 := (ih.same e).1
          simp only at e2
          rw [← e2]; exact hq
        · rw [st1_new hx hk hq]
          have h1 := ih.ev.step hb hx hk hq
          exact ⟨h1.1, ih.le.trans (step_le hb ih.ev hx hk hq), Nat.le_trans ih.t0 (Nat.le_of_lt h1.2), fun _ => Nat.lt_of_le_of_lt ih.t0 h1.2, fun e => (by cases e)⟩
      · rw [st1_skip hk]
        exact keep (fun _ y _ hy => absurd hy hk)
theorem passN_inv {xs : List Dr} {fs : List Fl} {k : Nat} {rs : List Rs} (hb : stB xs = true) (h : EvI xs fs k rs) : ∀ m, EvI xs fs k (passN xs fs k rs m).1 ∧ LeK xs k rs (passN xs fs k rs m).1
  | 0 => ⟨h, h.le⟩
  | m + 1 => by
    have ih := passN_inv hb h m
    have h1 := passTo_inv hb ih.1 xs.length
    exact ⟨h1.ev, ih.2.trans h1.le⟩
theorem lvl_ex {xs : List Dr} {fs : List Fl} {k : Nat} {rs : List Rs} (hb : stB xs = true) (h : EvI xs fs k rs) : ∃ m, LvlEnd xs fs k rs m := by
  apply Classical.byContradiction
  intro hno
  have all : ∀ m j, j ≤ m → (passN xs fs k rs j).2 = true := by
    intro m
    induction m with
    | zero => intro j hj; obtain rfl : j = 0 := by omega
              rfl
    | succ m ih =>
      intro j hj
      rcases Nat.lt_or_eq_of_le hj with h1 | rfl
      · exact ih j (by omega)
      · cases hc : (passN xs fs k rs (m + 1)).2 with
        | true => rfl
        | false => exact absurd ⟨m, ih, hc⟩ hno
  have grow : ∀ m, m ≤ tot (passN xs fs k rs m).1 := by
    intro m
    induction m with
    | zero => exact Nat.zero_le _
    | succ m ih =>
      have h1 := (passTo_inv hb (passN_inv hb h m).1 xs.length).t1 (all (m + 1) (m + 1) (Nat.le_refl _))
      have h2 : tot (passN xs fs k rs m).1 < tot (passN xs fs k rs (m + 1)).1 := h1
      omega
  have hi := (passN_inv hb h (xs.length * fs.length + 1)).1
  have h1 := tot_le (rs := (passN xs fs k rs (xs.length * fs.length + 1)).1) (b := fs.length) hi.len
  rw [hi.rlen] at h1
  have := grow (xs.length * fs.length + 1)
  omega
theorem ev_ex {xs : List Dr} {fs : List Fl} (hb : stB xs = true) : ∀ k, ∃ rs t, EvR xs fs k rs t
  | 0 => ⟨_, _, .zero⟩
  | k + 1 => by
    obtain ⟨rs, t, h⟩ := ev_ex hb k
    have hi : ∀ {k rs t}, EvR xs fs k rs t → EvI xs fs k rs := by
      intro k rs t h
      induction h with
      | zero => exact EvI.start _ _
      | succ _ _ ih => exact ((passN_inv hb ih _).1).next
    obtain ⟨m, hm⟩ := lvl_ex hb (hi h)
    exact ⟨_, _, .succ h hm⟩
theorem ev_inv {xs : List Dr} {fs : List Fl} (hb : stB xs = true) {k : Nat} {rs : List Rs} {t : Nat} (h : EvR xs fs k rs t) : EvI xs fs k rs := by
  induction h with
  | zero => exact EvI.start _ _
  | succ _ _ ih => exact ((passN_inv hb ih _).1).next
theorem sel_congr {xs : List Dr} (hb : stB xs = true) {i : Nat} {x : Dr} (hx : xs[i]? = some x) {r s : List Rs} (n1 : r.map Rs.name = xs.map Dr.name) (n2 : s.map Rs.name = xs.map Dr.name) (h : ∀ j, gt (stL xs) j ≤ gt (stL xs) i → idsAt r j = idsAt s j) (fs : List Fl) : selL x.query fs r = selL x.query fs s := by
  have hi := (List.getElem?_eq_some_iff.1 hx).1
  have hs := stB_sat hb i hi
  rw [dirE_at hx] at hs
  have hd : ∀ u n, n ∈ depsL x.query u → resIds r n = resIds s n := fun u n hn => by
    rw [resIds_pl n1, resIds_pl n2]
    cases hp : plcF xs n with
    | none => rfl
    | some j =>
      refine h j ?_
      cases u
      · have := hs (j, 0) (List.mem_append_left _ (edg_mem hn hp)); simp only at this; omega
      · have := hs (j, 1) (List.mem_append_right _ (edg_mem hn hp)); simp only at this; omega
  unfold selL
  congr 1
  apply List.filter_congr
  intro f _
  have a1 := matB_mono (f := f) (rs := r) (rt := s) (fun n hn => hd true n hn) (fun n hn z hz => by rw [← hd false n hn]; exact hz)
  have a2 := matB_mono (f := f) (rs := s) (rt := r) (fun n hn => (hd true n hn).symm) (fun n hn z hz => by rw [hd false n hn]; exact hz)
  cases h1 : matB x.query f r with
  | true => exact (a1 h1).symm
  | false =>
    cases h2 : matB x.query f s with
    | false => rfl
    | true => rw [a2 h2] at h1; cases h1
def FixTo (xs : List Dr) (fs : List Fl) (k : Nat) (rs : List Rs) : Prop := ∀ i x, xs[i]? = some x → gt (stL xs) i < k → selL x.query fs rs = idsAt rs i
theorem ev_fix {xs : List Dr} {fs : List Fl} (hb : stB xs = true) {k : Nat} {rs : List Rs} {t : Nat} (h : EvR xs fs k rs t) : FixTo xs fs k rs := by
  induction h with
  | zero => intro i x _ hk; omega
  | @succ k rs t m h1 h2 ih =>
    have hi := ev_inv hb h1
    have hm := passN_inv hb hi m
    have hp := passTo_inv hb hm.1 xs.length
    have he := hp.same h2.2
    have e1 : (passN xs fs k rs (m + 1)).1 = (passN xs fs k rs m).1 := he.1
    rw [e1]
    intro i x hx hk
    by_cases hc : gt (stL xs) i = k
    · exact he.2 i x (List.getElem?_eq_some_iff.1 hx).1 hx hc
    · have h3 := ih i x hx (by omega)
      rw [← hm.2.other i hc, ← h3]
      exact sel_congr hb hx hm.1.names hi.names (fun j hj => (hm.2.other j (by omega)).symm) fs
theorem mxL_at : ∀ {L : List Nat} {i : Nat}, i < L.length → (gt L i : Int) ≤ mxL L
  | [], i, h => by simp at h
  | y :: ys, 0, _ => by simp [gt, mxL]; omega
  | y :: ys, i + 1, h => by
    have := mxL_at (L := ys) (i := i) (by simpa using h)
    have e : gt (y :: ys) (i + 1) = gt ys i := by unfold gt; simp
    rw [e]; unfold mxL; omega
theorem gt_lvls {xs : List Dr} (hb : stB xs = true) {i : Nat} (hi : i < xs.length) : gt (stL xs) i < lvls xs := by
  have hl : (stL xs).length = xs.length := by unfold stL; rw [if_pos hb]; exact strL_len _ _
  have := mxL_at (L := stL xs) (i := i) (by omega)
  unfold lvls mxS; omega
theorem evP_fix {xs : List Dr} (hb : stB xs = true) (fs : List Fl) : (evP xs fs).1.map Rs.name = xs.map Dr.name ∧ ∀ i x, xs[i]? = some x → selL x.query fs (evP xs fs).1 = idsAt (evP xs fs).1 i := by
  obtain ⟨rs, t, h⟩ := ev_ex (fs := fs) hb (lvls xs)
  rw [evP_of h]
  exact ⟨(ev_inv hb h).names, fun i x hx => ev_fix hb h i x hx (gt_lvls hb (List.getElem?_eq_some_iff.1 hx).1)⟩
end Go.Proofs.YtkkbhhmhkpgbkaaGreat
namespace Go.Proofs.YtkkbhhmhkpgbkaaGreat
theorem j3 : (Tryz.pinned.checked.prog.mayEnter && ((Rows.fnNoninterferenceRow.lifted == Tryz.pinned.checked.prog.liftsFinal) && (Tryz.pinned.checked.prog.make == some Rows.fnNoninterferenceRow.make))) = true := by kernel_rfl
theorem j_may : Tryz.pinned.checked.prog.mayEnter = true := (Bool.and_eq_true_iff.1 j3).1
theorem j_lift : Tryz.pinned.checked.prog.liftsFinal = Rows.fnNoninterferenceRow.lifted := (eq_of_beq (Bool.and_eq_true_iff.1 (Bool.and_eq_true_iff.1 j3).2).1).symm
theorem j_make : Tryz.pinned.checked.prog.make = some Rows.fnNoninterferenceRow.make := eq_of_beq (Bool.and_eq_true_iff.1 (Bool.and_eq_true_iff.1 j3).2).2
end Go.Proofs.YtkkbhhmhkpgbkaaGreat
namespace Go.Proofs.YtkkbhhmhkpgbkaaGreat
open Go.ChangeShapes Go.WideShapes Go.ChangeAt Go.RowKit
open Go.ChangeMaps (open_string shut_string)
set_option linter.unusedVariables false
theorem own : ownKnob Tryz.prog.godebug = none := by kernel_rfl
theorem laidOut : laidOutB Tryz.prog = true := by kernel_rfl
theorem list_of {α : Type} {Q : Nat → α → Prop} : ∀ (n : Nat), (∀ i, i < n → ∃ a, Q i a) → ∃ xs : List α, xs.length = n ∧ ∀ i a, xs[i]? = some a → Q i a := by
  intro n
  induction n with
  | zero => intro _; exact ⟨[], rfl, fun i a h => by simp at h⟩
  | succ n ih =>
    intro h
    obtain ⟨xs, hl, hx⟩ := ih (fun i hi => h i (by omega))
    obtain ⟨a, ha⟩ := h n (by omega)
    refine ⟨xs ++ [a], by simp [hl], fun i b hb => ?_⟩
    by_cases hi : i < n
    · rw [List.getElem?_append_left (by omega)] at hb; exact hx i b hb
    · rw [List.getElem?_append_right (by omega)] at hb
      have : i = n := by
        have := (List.getElem?_eq_some_iff.1 hb).1
        simp at this; omega
      subst this
      rw [hl, Nat.sub_self] at hb
      simp at hb; subst hb; exact ha
theorem mapM_get {α β : Type} (f : α → Option β) : ∀ (l : List α) (r : List β), l.mapM f = some r → r.length = l.length ∧ ∀ (i : Nat) (a : α), l[i]? = some a → f a = r[i]? := by
  intro l
  induction l with
  | nil => intro r h; simp at h; subst h; exact ⟨rfl, fun i a h => by simp at h⟩
  | cons x l ih =>
    intro r h
    rw [List.mapM_cons] at h
    cases hx : f x with
    | none => simp [hx] at h
    | some y =>
      cases hl : l.mapM f with
      | none => simp [hx, hl] at h
      | some ys =>
        simp [hx, hl] at h
        subst h
        obtain ⟨h1, h2⟩ := ih ys hl
        refine ⟨by simp [h1], fun i a ha => ?_⟩
        cases i with
        | zero => simp at ha; subst ha; simpa using hx
        | succ i => simpa using h2 i a (by simpa using ha)
section
variable {H : Type} {enc : TypeId × Value → H} {P : Program} {w : World} {base : Nat} {spare : Nat → Bool} {held : Bool}
theorem open_rows {α : Type} {f : α → List Value} {ok : α → Prop} {t e : TypeId} {k fuel : Nat} {v : Value} {x : DataW H × List MemPlace} (ht : P.underlying t = some (.slice e)) (hk : P.cellsOf e = k) (h0 : 0 < k) (hf : ∀ a, (f a).length = k)
    (hE : ∀ n cs y, DataW.trod enc P w base spare held n e cs = some y → ∃ a, cs = f a ∧ ok a) (h : DataW.trod enc P w base spare held fuel t [v] = some x) :
    ∃ n xs, Rd w v k n (rows f xs) ∧ n ≤ maxLen ∧ ∀ a, a ∈ xs → ok a := by
  rcases Deep.open_slice ht h with ⟨hv, _⟩ | ⟨a, len, cap, m, n, D, Pl, hv, _, hl, hm, rfl, _, hel⟩
  · simp at hv; subst hv
    exact ⟨0, [], ⟨none, 0, rfl, Nat.le_refl _, by simp [rows], fun h => absurd h (by omega)⟩, Nat.zero_le _, fun a h => by simp at h⟩
  · simp at hv; subst hv
    have hlm : len ≤ (if spare a.block then cap else len) := by split <;> omega
    have hx : ∀ i, i < len → ∃ z, (ok z ∧ w.cells? base (a.add (i * k)) k = some (f z)) := by
      intro i hi
      obtain ⟨cs, hc, ht'⟩ := hel i (by omega)
      obtain ⟨z, rfl, hz⟩ := hE _ _ _ ht'
      rw [hk] at hc
      exact ⟨z, hz, hc⟩
    obtain ⟨xs, hxl, hxs⟩ := list_of len hx
    refine ⟨len, xs, ⟨some a, cap, rfl, hl, by rw [rows_length hf, hxl], fun hn => ?_⟩, by omega, fun z hz => ?_⟩
    · have cell : ∀ i z, xs[i]? = some z → ∀ j u, (f z)[j]? = some u → w.cell? (a.add (i * k + j)) = some u := by
        intro i z hi j u hu
        have hc := (hxs i z hi).2
        unfold World.cells? at hc
        split at hc
        · obtain ⟨h1, h2⟩ := mapM_get _ _ _ hc
          have hj : j < k := by rw [← hf z]; exact (List.getElem?_eq_some_iff.1 hu).1
          have := h2 j j (by rw [List.getElem?_range hj])
          rw [hu] at this
          rw [← this]
          congr 1
          simp only [Addr.add]
          by_cases h3 : i * k = 0
          · by_cases h4 : j = 0
            · simp [h3, h4]
            · simp [h3]
          · by_cases h4 : j = 0
            · simp [h4]
            · simp [h3, h4]; omega
        · cases hc
      obtain ⟨b, o, s⟩ := a
      have hs : s = none := by
        have h1 := cell 0 xs[0] (List.getElem?_eq_getElem (by omega)) 0 _ (List.getElem?_eq_getElem (by rw [hf]; exact h0))
        simpa [Addr.add] using World.cell?_spot h1
      subst hs
      refine ⟨b, o, rfl, fun j hj => ?_⟩
      have hd : j / k < len := (Nat.div_lt_iff_lt_mul h0).2 hj
      have hmd := Nat.mod_lt j h0
      have he : j = j / k * k + j % k := by rw [Nat.mul_comm]; exact (Nat.div_add_mod j k).symm
      have hg : xs[j / k]? = some (xs[j / k]'(by omega)) := List.getElem?_eq_getElem (by omega)
      have hu : (f (xs[j / k]'(by omega)))[j % k]? = some ((f (xs[j / k]'(by omega)))[j % k]'(by rw [hf]; exact hmd)) := List.getElem?_eq_getElem (by rw [hf]; exact hmd)
      have h1 := cell _ _ hg _ _ hu
      have h2 := rows_at hf xs (j / k) (j % k) _ hg hmd
      rw [← he] at h1 h2
      rw [h2, hu, ← h1]
      congr 1
      simp only [Addr.add]
      by_cases hz : j = 0
      · simp [hz]
      · simp [hz]
    · obtain ⟨i, hi, rfl⟩ := List.getElem_of_mem hz
      exact (hxs i _ (List.getElem?_eq_getElem hi)).1
theorem rows_one {α : Type} (f : α → Value) (xs : List α) : rows (fun a => [f a]) xs = xs.map f := by
  induction xs with
  | nil => rfl
  | cons x xs ih => rw [rows_cons, ih]; rfl
end
def I64 (n : Int) : Prop := -9223372036854775808 ≤ n ∧ n ≤ 9223372036854775807
def V.ok (x : V) : Prop := I64 x.kind ∧ I64 x.int ∧ x.str.size ≤ maxLen
def N.ok (x : N) : Prop := I64 x.op ∧ I64 x.left ∧ I64 x.right ∧ x.name.size ≤ maxLen ∧ x.val.ok
def Fd.ok (x : Fd) : Prop := x.name.size ≤ maxLen ∧ I64 x.kind
def At.ok (x : At) : Prop := x.name.size ≤ maxLen ∧ x.val.ok
section
variable {H : Type} {enc : TypeId × Value → H} {w : World} {base : Nat} {spare : Nat → Bool} {held : Bool}
end
end Go.Proofs.YtkkbhhmhkpgbkaaGreat
namespace Go.Proofs.YtkkbhhmhkpgbkaaGreat
open Go.ChangeShapes Go.WideShapes Go.ChangeAt Go.RowKit
open Go.ChangeMaps (open_string shut_string)
set_option linter.unusedVariables false
section
variable {H : Type} {enc : TypeId × Value → H} {w : World} {base : Nat} {spare : Nat → Bool} {held : Bool}
theorem getU {n : Nat} {cs : List Value} {y : DataW H × List MemPlace} (h : DataW.trod enc Tryz.prog w base spare held n 5 cs = some y) : ∃ a : Int, cs = [.int .u8 a] ∧ 0 ≤ a ∧ a ≤ 255 := by
  obtain ⟨a, rfl, _, hw⟩ := DataW.trod_int Tryz.underlying5 h
  exact ⟨a, rfl, by simpa [Lit.wf, IntKind.min, IntKind.max, IntKind.signed, IntKind.bits] using hw⟩
theorem open_bytes {fuel : Nat} {v : Value} {x : DataW H × List MemPlace} (h : DataW.trod enc Tryz.prog w base spare held fuel 22 [v] = some x) :
    ∃ n, ∃ xs : List Int, Rd w v 1 n (xs.map (Value.int .u8)) ∧ n ≤ maxLen ∧ ∀ a : Int, a ∈ xs → 0 ≤ a ∧ a ≤ 255 := by
  obtain ⟨n, xs, h1, h2⟩ := open_rows (f := fun a => [Value.int .u8 a]) (ok := fun a : Int => 0 ≤ a ∧ a ≤ 255) Tryz.underlying22 (by kernel_rfl) (by decide) (fun _ => rfl) (fun n cs y h => getU h) h
  exact ⟨n, xs, by rw [rows_one] at h1; exact h1, h2⟩
end
end Go.Proofs.YtkkbhhmhkpgbkaaGreat
