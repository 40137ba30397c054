/- Contracts of DiffResults. -/
import Derived.Test.YtgchpdmkphagnaaR1
import Derived.Test.YtgchpdmkphagnaaD2
import Derived.Test.YtgchpdmkphagnaaG
import Derived.Test.YtgchpdmkphagnaaS
namespace Go.Proofs.Ytgchpdmkphagnaa
open Go.RowKit
set_option linter.unusedVariables false
/-- Rows of two types lie in two blocks. -/
theorem own_type {w : World} {B B' : Nat} {e e' : TypeId} {k k' n n' : Nat} {v v' : Value} {xs xs' : List Value} (h : w.ownsRow B e k v n xs) (h' : w.ownsRow B' e' k' v' n' xs') (hne : e ≠ e') {b : Nat} (hb : v.ownBlock = some b) : v'.ownBlock ≠ some b := by
  intro hb'
  obtain ⟨_, ⟨rfl, _⟩ | ⟨g, cap, cur, rfl, _, hh, _⟩⟩ := h
  · cases hb
  obtain ⟨_, ⟨rfl, _⟩ | ⟨g', cap', cur', rfl, _, hh', _⟩⟩ := h'
  · cases hb'
  cases hb; cases hb'
  rw [hh] at hh'
  injection Option.some.inj hh' with h1 h2
  exact hne h2
/-- A row outlives the growth of a row of another type. -/
theorem own_grown {w w' : World} {B lo hi : Nat} {e e' : TypeId} {k k' n n' : Nat} {v v' : Value} {xs xs' : List Value} (h : Own w lo hi e k v n xs) (h' : w.ownsRow B e' k' v' n' xs') (hne : e ≠ e') (hg : w.grownBy w' v'.ownBlock) : Own w' lo hi e k v n xs := by
  refine ⟨h.1.kept hg ?_, h.2⟩
  cases hb : v.ownBlock with
  | none => exact .inl rfl
  | some b => exact .inr (fun h3 => own_type h.1 h' hne hb h3.symm)
/-- What differs between a listing and the listing of that name. -/
def difOne (xs : List Rs) (y : Rs) : Df := ⟨y.name, wo y.ids (resIds xs y.name), wo (resIds xs y.name) y.ids⟩
def difHas (d : Df) : Bool := decide (0 < d.added.length + d.removed.length)
def difRes (xs ys : List Rs) : List Df := (ys.map (difOne xs)).filter difHas
theorem difRes_yes {xs ys : List Rs} {k : Nat} {y : Rs} (h : ys[k]? = some y) (hh : difHas (difOne xs y) = true) : difRes xs (ys.take (k + 1)) = difRes xs (ys.take k) ++ [difOne xs y] := by
  rw [take_snoc h]; unfold difRes; rw [List.map_append, List.filter_append]; simp [hh]
theorem difRes_no {xs ys : List Rs} {k : Nat} {y : Rs} (h : ys[k]? = some y) (hh : difHas (difOne xs y) = false) : difRes xs (ys.take (k + 1)) = difRes xs (ys.take k) := by
  rw [take_snoc h]; unfold difRes; rw [List.map_append, List.filter_append]; simp [hh]
theorem difRes_le (xs ys : List Rs) : (difRes xs ys).length ≤ ys.length := by
  unfold difRes; exact Nat.le_trans (List.length_filter_le _ _) (by simp)
theorem difOne_small {xs : List Rs} {y : Rs} (hx : ∀ x, x ∈ xs → x.small) (hy : y.small) : (difOne xs y).small :=
  ⟨Nat.le_trans (wo_le _ _) hy, Nat.le_trans (wo_le _ _) (resIds_small hx)⟩
theorem difRes_small {xs ys : List Rs} (hx : ∀ x, x ∈ xs → x.small) (hy : ∀ y, y ∈ ys → y.small) : ∀ d, d ∈ difRes xs ys → d.small := by
  intro d hd
  unfold difRes at hd
  obtain ⟨y, hy2, rfl⟩ := List.mem_map.1 (List.mem_filter.1 hd).1
  exact difOne_small hx (hy y hy2)
theorem cnt_small : ∀ (ds : List Df), (∀ d, d ∈ ds → d.small) → 0 ≤ cntL cntDf ds ∧ cntL cntDf ds ≤ (ds.length : Int) * 8000001
  | [], _ => by simp [cntL]
  | d :: ds, h => by
    have h1 := h d (List.mem_cons_self ..)
    have h2 := cnt_small ds (fun x hx => h x (List.mem_cons_of_mem _ hx))
    unfold Df.small at h1
    simp only [cntL, List.map_cons, List.sum_cons, List.length_cons, cntDf] at h2 ⊢
    omega
/-- The rows of a growing list of differences. -/
def Grows (w : World) (base : Nat) (v : Value) (ds : List Df) : Prop :=
  ∃ ps : List P3, w.ownsRow base 86 3 v ds.length (rows P3.c ps) ∧ All2 (Df.O w base w.heap.size) ds ps ∧ Dis (ps.flatMap Df.subs)
theorem Grows.own {w : World} {base : Nat} {v : Value} {ds : List Df} (h : Grows w base v ds) : OwnDfs w base w.heap.size v ds := by
  obtain ⟨ps, h1, h2, h3⟩ := h
  refine ⟨ps, own_of h1, h2, h3.cons ?_⟩
  intro u b hu hv
  obtain ⟨p, hp, hup⟩ := List.mem_flatMap.1 hu
  obtain ⟨i, hi', rfl⟩ := List.getElem_of_mem hp
  obtain ⟨x, hx, _, hr1, hr2⟩ := h2.get (List.getElem?_eq_getElem hi')
  simp only [Df.subs, List.mem_cons, List.not_mem_nil, or_false] at hup
  rcases hup with rfl | rfl
  · exact own_type h1 hr1.1 (by decide) hv
  · exact own_type h1 hr2.1 (by decide) hv
theorem Grows.alloc {w : World} {base : Nat} {v : Value} {ds : List Df} (h : Grows w base v ds) {w' : World} (hg : Grew w w') : Grows w' base v ds := by
  obtain ⟨ps, h1, h2, h3⟩ := h
  exact ⟨ps, ownsRow_grew h1 hg, h2.mono fun x p h => (h.grew hg).mono (Nat.le_refl _) hg.size, h3⟩
theorem Grows.lit (w : World) : Grows (w.alloc (.cells #[] 86)) w.heap.size (.slice (some ⟨w.heap.size, 0, none⟩) 0 0) [] :=
  ⟨[], lit_own w _ 3, All2.nil, Dis.nil⟩
theorem Grows.snoc {w w' : World} {base lo2 : Nat} {v v' : Value} {ds : List Df} {d : Df} {ps : List P3} {p : P3} (h1 : w.ownsRow base 86 3 v ds.length (rows P3.c ps)) (h2 : All2 (Df.O w base lo2) ds ps) (h3 : Dis (ps.flatMap Df.subs))
    (hp : Df.O w lo2 w.heap.size d p) (hd : Dis (Df.subs p)) (hb : base ≤ lo2) (hl : lo2 ≤ w.heap.size)
    (hown : w'.ownsRow base 86 3 v' (ds.length + 1) (rows P3.c ps ++ P3.c p)) (hg : w.grownBy w' v.ownBlock) (hs : w.heap.size ≤ w'.heap.size) : Grows w' base v' (ds ++ [d]) := by
  refine ⟨ps ++ [p], ?_, ?_, ?_⟩
  · rw [List.length_append, rows_append]; simpa [rows] using hown
  · refine All2.snoc (h2.mono fun x q hr => ?_) ?_
    · exact ⟨hr.1, (own_grown hr.2.1 h1 (by decide) hg).mono (Nat.le_refl _) (Nat.le_trans hl hs), (own_grown hr.2.2 h1 (by decide) hg).mono (Nat.le_refl _) (Nat.le_trans hl hs)⟩
    · exact ⟨hp.1, (own_grown hp.2.1 h1 (by decide) hg).mono hb hs, (own_grown hp.2.2 h1 (by decide) hg).mono hb hs⟩
  · rw [List.flatMap_append]
    refine Dis.app h3 (by simpa using hd) ?_
    intro u v b hu hv hub hvb
    have h4 := All2.blk (subs := Df.subs) (fun x p v b h hv hb => Df.O.blk h hv hb) h2 hu hub
    have h5 := hp.blk (by simpa using hv) hvb
    omega
theorem news3 {w : World} {a b c : Value} {e : TypeId} {g : Nat} (hg : g = w.heap.size) : ∀ j u, [a, b, c][j]? = some u → (w.alloc (.cells #[a, b, c] e)).cell? ((⟨g, 0, none⟩ : Addr).add j) = some u := by
  subst hg
  intro j u hu
  match j with
  | 0 => simp at hu; subst hu; simp [Addr.add]
  | 1 => simp at hu; subst hu; simp [Addr.add]
  | 2 => simp at hu; subst hu; simp [Addr.add]
  | j + 3 => simp at hu
theorem implDiffIDs2 (va vb : Value) (n m : Nat) (xs ys : List Int) (w : World) (ha : Rd w va 1 n (ints xs)) (hb : Rd w vb 1 m (ints ys)) (hx : n ≤ 4000000) (hy : m ≤ 4000000) :
    Calls Try.prog 91 #[va, vb] w fun e w' => ∃ u v, e = .returned (.tuple #[u, v]) ∧ (∀ b, u.ownBlock = some b → v.ownBlock ≠ some b) ∧ w'.ownsRow w.heap.size 3 1 u (wo ys xs).length (ints (wo ys xs)) ∧ w'.ownsRow w.heap.size 3 1 v (wo xs ys).length (ints (wo xs ys)) ∧ Grew w w' :=
  (implDiffIDs va vb n m xs ys w ha hb hx hy).mono fun e w' ⟨u, v, mid, h1, h2, h3, h4, h5⟩ => ⟨u, v, h1, fun b hu hv => by have := h3.blk hu; have := h4.blk hv; omega, h3.1, ownsRow_base h4.1 h2.1, h5⟩
set_option maxRecDepth 100000 in
set_option maxHeartbeats 2000000 in
theorem specDiffResults (va vb : Value) (xs ys : List Rs) (w : World) (ha : RdRs w va xs) (hb : RdRs w vb ys) (hx : xs.length ≤ 4000000) (hy : ys.length ≤ 4000000) (hsx : ∀ x, x ∈ xs → x.small) (hsy : ∀ y, y ∈ ys → y.small) :
    Calls Try.prog 29 #[va, vb] w fun e w' => ∃ v, e = .returned v ∧ OwnDfs w' w.heap.size w'.heap.size v (difRes xs ys) ∧ Grew w w' := by
  have HXR := Lib.hid ha
  have HSX := Lib.hid hsx
  have HSY := Lib.hid hsy
  obtain ⟨_, ⟨a, ca, rfl, _, hra⟩, hall⟩ := ha
  clear hra hall hsx hsy
  obtain ⟨qs, ⟨b, cb, rfl, hcb, hrb⟩, hall⟩ := hb
  have HB := Lib.hid hall
  clear hall
  generalize hn : ys.length = m at hy hrb
  have HM := Lib.hid hn
  clear hn
  obtain ⟨i0, hi, hz0, hz1, hz2⟩ := info_parts Try.infoDf
  go_enter Try.func29, Try.ntmps29
  go_wp2
  go_loopw [5, 6] (fun v i wr => ∃ k : Nat, k ≤ m ∧ i = .int .i64 k ∧ Hid (Grows wr w.heap.size v (difRes xs (ys.take k))) ∧ Grew w wr) (fun _ i _ => m - (intOf i).toNat)
  case atStart => exact ⟨0, Nat.zero_le _, rfl, Lib.hid (Grows.lit w), (Grew.refl _).alloc _⟩
  case round =>
    obtain ⟨k, hk, rfl, hgr, hbel⟩ := hrel
    by_cases hlt : k < m
    · obtain ⟨b1, o1, p, rfl, hpk, c0, c1⟩ := (hrb.grew hbel).getP2 hlt
      obtain ⟨y, hyk, hyr⟩ := HB.out.get hpk.out
      have hys := HSY.out y (List.mem_of_getElem? hyk.out)
      unfold Rs.small at hys
      have hrs := resIds_small (s := y.name) HSX.out
      obtain ⟨pn, pq⟩ := p
      obtain ⟨hyn, hyq⟩ := hyr
      simp only at hyn hyq c0 c1
      subst hyn
      have HQ := Lib.hid hyq
      obtain ⟨pa, pc, rfl, hpc, hpr⟩ := hyq
      clear hpr
      obtain ⟨R, hR⟩ : ∃ R, resIds xs y.name = R := ⟨_, rfl⟩
      rw [hR] at hrs
      have HR := Lib.hid hR
      clear hR
      obtain ⟨l1, hl1⟩ : ∃ l, (wo y.ids R).length = l := ⟨_, rfl⟩
      obtain ⟨l2, hl2⟩ : ∃ l, (wo R y.ids).length = l := ⟨_, rfl⟩
      have hb1 : l1 ≤ 4000000 := by have := wo_le y.ids R; omega
      have hb2 : l2 ≤ 4000000 := by have := wo_le R y.ids; omega
      have HL1 := Lib.hid hl1
      have HL2 := Lib.hid hl2
      clear hl1 hl2
      have HO := Lib.hid (show difOne xs y = ⟨y.name, wo y.ids R, wo R y.ids⟩ by unfold difOne; rw [HR.out])
      have HH := Lib.hid (show difHas (difOne xs y) = decide (0 < l1 + l2) by rw [HO.out]; unfold difHas; rw [HL1.out, HL2.out])
      have hkm : k ≤ m := hk
      obtain ⟨ps, g1, g2, g3⟩ := hgr.out
      have G1 := Lib.hid g1
      have G2 := Lib.hid g2
      have G3 := Lib.hid g3
      have hlen : (difRes xs (ys.take k)).length ≤ 4000000 := by have := difRes_le xs (ys.take k); rw [List.length_take] at this; omega
      clear g1 g2 g3
      go_wp2_with fail
      have hal := Grew.refl wr
      refine wp_region_noPanic ?_
      refine wp_region_held_drew (S := (fun w' => (w'.cell? ⟨b1, o1 + k * 2, none⟩ = some (.string y.name) ∧ w'.cell? ⟨b1, o1 + k * 2 + 1, none⟩ = some (.slice pa y.ids.length pc) ∧ Grew wr w'))) (by kernel_rfl) ?h1_S ?h1_r
      case h1_S => exact ⟨c0, c1, (Grew.refl _).drew⟩
      case h1_r =>
        intro HS
        first
          | refine sk 0 rfl (by kernel_rfl) rfl HS ?_
          | (refine tk (v := ?v1_0) 0 rfl (by kernel_rfl) rfl ?y1_0 HS ?_; case y1_0 => (intro w' hSw; (try dsimp only at hSw); go_simp <;> (with_reducible rfl)))
        try simp only [Act.put, List.setIfInBounds_toArray, List.set_cons_zero, List.set_cons_succ]
        first
          | refine sk 1 rfl (by kernel_rfl) rfl HS ?_
          | (refine tk (v := ?v1_1) 1 rfl (by kernel_rfl) rfl ?y1_1 HS ?_; case y1_1 => (intro w' hSw; (try dsimp only at hSw); go_simp <;> (with_reducible rfl)))
        try simp only [Act.put, List.setIfInBounds_toArray, List.set_cons_zero, List.set_cons_succ]
        first
          | refine sk 2 rfl (by kernel_rfl) rfl HS ?_
          | (refine tk (v := ?v1_2) 2 rfl (by kernel_rfl) rfl ?y1_2 HS ?_; case y1_2 => (intro w' hSw; (try dsimp only at hSw); go_simp <;> (with_reducible rfl)))
        try simp only [Act.put, List.setIfInBounds_toArray, List.set_cons_zero, List.set_cons_succ]
        first
          | refine sk 3 rfl (by kernel_rfl) rfl HS ?_
          | (refine tk (v := ?v1_3) 3 rfl (by kernel_rfl) rfl ?y1_3 HS ?_; case y1_3 => (intro w' hSw; (try dsimp only at hSw); go_simp <;> (with_reducible rfl)))
        try simp only [Act.put, List.setIfInBounds_toArray, List.set_cons_zero, List.set_cons_succ]
        first
          | refine sk 4 rfl (by kernel_rfl) rfl HS ?_
          | (refine tk (v := ?v1_4) 4 rfl (by kernel_rfl) rfl ?y1_4 HS ?_; case y1_4 => (intro w' hSw; (try dsimp only at hSw); go_simp <;> (with_reducible rfl)))
        try simp only [Act.put, List.setIfInBounds_toArray, List.set_cons_zero, List.set_cons_succ]
        first
          | refine sk 5 rfl (by kernel_rfl) rfl HS ?_
          | (refine tk (v := ?v1_5) 5 rfl (by kernel_rfl) rfl ?y1_5 HS ?_; case y1_5 => (intro w' hSw; (try dsimp only at hSw); go_simp <;> (with_reducible rfl)))
        try simp only [Act.put, List.setIfInBounds_toArray, List.set_cons_zero, List.set_cons_succ]
        first
          | refine sk 7 rfl (by kernel_rfl) rfl HS ?_
          | (refine tk (v := ?v1_7) 7 rfl (by kernel_rfl) rfl ?y1_7 HS ?_; case y1_7 => (intro w' hSw; (try dsimp only at hSw); go_simp <;> (with_reducible rfl)))
        try simp only [Act.put, List.setIfInBounds_toArray, List.set_cons_zero, List.set_cons_succ]
        first
          | refine sk 8 rfl (by kernel_rfl) rfl HS ?_
          | (refine tk (v := ?v1_8) 8 rfl (by kernel_rfl) rfl ?y1_8 HS ?_; case y1_8 => (intro w' hSw; (try dsimp only at hSw); go_simp <;> (with_reducible rfl)))
        try simp only [Act.put, List.setIfInBounds_toArray, List.set_cons_zero, List.set_cons_succ]
        first
          | refine sk 9 rfl (by kernel_rfl) rfl HS ?_
          | (refine tk (v := ?v1_9) 9 rfl (by kernel_rfl) rfl ?y1_9 HS ?_; case y1_9 => (intro w' hSw; (try dsimp only at hSw); go_simp <;> (with_reducible rfl)))
        try simp only [Act.put, List.setIfInBounds_toArray, List.set_cons_zero, List.set_cons_succ]
        first
          | refine sk 10 rfl (by kernel_rfl) rfl HS ?_
          | (refine tk (v := ?v1_10) 10 rfl (by kernel_rfl) rfl ?y1_10 HS ?_; case y1_10 => (intro w' hSw; (try dsimp only at hSw); go_simp <;> (with_reducible rfl)))
        try simp only [Act.put, List.setIfInBounds_toArray, List.set_cons_zero, List.set_cons_succ]
        first
          | refine sk 11 rfl (by kernel_rfl) rfl HS ?_
          | (refine tk (v := ?v1_11) 11 rfl (by kernel_rfl) rfl ?y1_11 HS ?_; case y1_11 => (intro w' hSw; (try dsimp only at hSw); go_simp <;> (with_reducible rfl)))
        try simp only [Act.put, List.setIfInBounds_toArray, List.set_cons_zero, List.set_cons_succ]
        refine cl 6 rfl (by kernel_rfl) (fun K hK => ?_)
        go_simp
        go_at_call 89; refine (specResultIDs _ xs y.name _ (HXR.out.grew (hbel.trans (hal.trans HS.2.2))) hx HSX.out).mono ?_; rintro e w1 ⟨rv, rfl, hrv, hb⟩; rw [HR.out] at hrv; have HRV := Lib.hid hrv; obtain ⟨ra, rc, rfl⟩ := own_slice hrv; clear hrv; have hw1 := (hal.trans HS.2.2).trans hb
        refine hK.out _ _ ?s1_6 ?r1_6
        case s1_6 => (try dsimp only); exact held2 HS hb
        case r1_6 =>
          clear HS
          intro HS
          clear hK K
          try simp only [Act.put, List.setIfInBounds_toArray, List.set_cons_zero, List.set_cons_succ]
          refine cl 12 rfl (by kernel_rfl) (fun K hK => ?_)
          go_simp
          go_at_call 88; refine (specDiffIDs2 _ _ R.length y.ids.length R y.ids _ (rd_of_own HRV.out) (HQ.out.grew (hbel.trans (hal.trans HS.2.2))) hrs hys).mono ?_; rintro e w2 ⟨u, v2, rfl, hdis, hu, hv, hb⟩; rw [HL1.out] at hu; rw [HL2.out] at hv; have HU := Lib.hid hu; have HV := Lib.hid hv; have HD := Lib.hid hdis; obtain ⟨ua, uc, rfl⟩ := own_slice hu; obtain ⟨va2, vc, rfl⟩ := own_slice hv; clear hu hv hdis
          refine hK.out _ _ ?s1_12 ?r1_12
          case s1_12 => (try dsimp only); exact held2 HS hb
          case r1_12 =>
            clear HS
            intro HS
            clear hK K
            try simp only [Act.put, List.setIfInBounds_toArray, List.set_cons_zero, List.set_cons_succ]
            first
              | refine sk 13 rfl (by kernel_rfl) rfl HS ?_
              | (refine tk (v := ?v1_13) 13 rfl (by kernel_rfl) rfl ?y1_13 HS ?_; case y1_13 => (intro w' hSw; (try dsimp only at hSw); go_simp <;> (with_reducible rfl)))
            try simp only [Act.put, List.setIfInBounds_toArray, List.set_cons_zero, List.set_cons_succ]
            first
              | refine sk 14 rfl (by kernel_rfl) rfl HS ?_
              | (refine tk (v := ?v1_14) 14 rfl (by kernel_rfl) rfl ?y1_14 HS ?_; case y1_14 => (intro w' hSw; (try dsimp only at hSw); go_simp <;> (with_reducible rfl)))
            try simp only [Act.put, List.setIfInBounds_toArray, List.set_cons_zero, List.set_cons_succ]
            first
              | refine sk 15 rfl (by kernel_rfl) rfl HS ?_
              | (refine tk (v := ?v1_15) 15 rfl (by kernel_rfl) rfl ?y1_15 HS ?_; case y1_15 => (intro w' hSw; (try dsimp only at hSw); go_simp <;> (with_reducible rfl)))
            try simp only [Act.put, List.setIfInBounds_toArray, List.set_cons_zero, List.set_cons_succ]
            first
              | refine sk 16 rfl (by kernel_rfl) rfl HS ?_
              | (refine tk (v := ?v1_16) 16 rfl (by kernel_rfl) rfl ?y1_16 HS ?_; case y1_16 => (intro w' hSw; (try dsimp only at hSw); go_simp <;> (with_reducible rfl)))
            try simp only [Act.put, List.setIfInBounds_toArray, List.set_cons_zero, List.set_cons_succ]
            first
              | refine sk 17 rfl (by kernel_rfl) rfl HS ?_
              | (refine tk (v := ?v1_17) 17 rfl (by kernel_rfl) rfl ?y1_17 HS ?_; case y1_17 => (intro w' hSw; (try dsimp only at hSw); go_simp <;> (with_reducible rfl)))
            try simp only [Act.put, List.setIfInBounds_toArray, List.set_cons_zero, List.set_cons_succ]
            refine wpAnyH_done (by kernel_rfl) ?_ _
            refine NoPanic.normal ?_
            have d0 := HS.1
            have hgw := hal.trans HS.2.2
            have hs1 := hw1.size
            clear HS c0 c1
            have hcs : 0 < l1 ∨ (¬ (0 < l1) ∧ 0 < l2) ∨ (¬ (0 < l1) ∧ ¬ (0 < l2)) := by omega
            rcases hcs with hp | ⟨hp0, hp⟩ | ⟨hp0, hp⟩
            · have hk0 := hk
              go_wp2_with (at_builtin; refine wpList_append_own _ rfl _ _ 35 rfl w.heap.size 86 i0 _ 3 64 Try.underlying35 hi hz0 hz1 hz2 rfl (by decide) _ _ _ rfl (ownsRow_grew (ownsRow_grew G1.out hgw) ((Grew.refl _).alloc (.cells #[.string y.name, .slice ua l1 uc, .slice va2 l2 vc] 86))) ⟨_, 0, none⟩ 1 1 [.string y.name, .slice ua l1 uc, .slice va2 l2 vc] rfl rfl (news3 (by simp)) (fun x hx => by simp at hx; rcases hx with rfl | rfl | rfl <;> rfl) (by unfold maxLen; omega) (by omega) (by have := (hbel.trans hgw).size; simp; omega) ?_; intro v' w' hown' hgr2 _)
              go_roundw
              case rel =>
                refine ⟨k + 1, by omega, by go_num, Lib.hid ?_, ((hbel.trans hgw).alloc _).grown hgr2 (fun g h => (G1.out.lt g h).1)⟩
                rw [difRes_yes hyk.out (by rw [HH.out]; simp; omega), HO.out]
                refine Grows.snoc (lo2 := wr.heap.size) (p := ⟨y.name, .slice ua l1 uc, .slice va2 l2 vc⟩) (ownsRow_grew (ownsRow_grew G1.out hgw) ((Grew.refl _).alloc _)) (G2.out.mono fun x q h => (h.grew hgw).grew ((Grew.refl _).alloc _)) G3.out ⟨rfl, ?_, ?_⟩ ?_ hbel.size ?_ ?_ hgr2 ?_
                · rw [HL1.out]; exact own_of (ownsRow_grew (ownsRow_base HU.out hs1) ((Grew.refl _).alloc _))
                · rw [HL2.out]; exact own_of (ownsRow_grew (ownsRow_base HV.out hs1) ((Grew.refl _).alloc _))
                · exact Dis.cons (Dis.one _) (fun x c hx h1 => by simp at hx; subst hx; exact HD.out c h1)
                · exact (hgw.alloc _).size
                · simpa [P3.c] using hown'
                · exact hgr2.size
              case measure => simp [intOf]; omega
            · have hk0 := hk
              go_wp2_with (at_builtin; refine wpList_append_own _ rfl _ _ 35 rfl w.heap.size 86 i0 _ 3 64 Try.underlying35 hi hz0 hz1 hz2 rfl (by decide) _ _ _ rfl (ownsRow_grew (ownsRow_grew G1.out hgw) ((Grew.refl _).alloc (.cells #[.string y.name, .slice ua l1 uc, .slice va2 l2 vc] 86))) ⟨_, 0, none⟩ 1 1 [.string y.name, .slice ua l1 uc, .slice va2 l2 vc] rfl rfl (news3 (by simp)) (fun x hx => by simp at hx; rcases hx with rfl | rfl | rfl <;> rfl) (by unfold maxLen; omega) (by omega) (by have := (hbel.trans hgw).size; simp; omega) ?_; intro v' w' hown' hgr2 _)
              go_roundw
              case rel =>
                refine ⟨k + 1, by omega, by go_num, Lib.hid ?_, ((hbel.trans hgw).alloc _).grown hgr2 (fun g h => (G1.out.lt g h).1)⟩
                rw [difRes_yes hyk.out (by rw [HH.out]; simp; omega), HO.out]
                refine Grows.snoc (lo2 := wr.heap.size) (p := ⟨y.name, .slice ua l1 uc, .slice va2 l2 vc⟩) (ownsRow_grew (ownsRow_grew G1.out hgw) ((Grew.refl _).alloc _)) (G2.out.mono fun x q h => (h.grew hgw).grew ((Grew.refl _).alloc _)) G3.out ⟨rfl, ?_, ?_⟩ ?_ hbel.size ?_ ?_ hgr2 ?_
                · rw [HL1.out]; exact own_of (ownsRow_grew (ownsRow_base HU.out hs1) ((Grew.refl _).alloc _))
                · rw [HL2.out]; exact own_of (ownsRow_grew (ownsRow_base HV.out hs1) ((Grew.refl _).alloc _))
                · exact Dis.cons (Dis.one _) (fun x c hx h1 => by simp at hx; subst hx; exact HD.out c h1)
                · exact (hgw.alloc _).size
                · simpa [P3.c] using hown'
                · exact hgr2.size
              case measure => simp [intOf]; omega
            · have hk0 := hk
              go_wp2
              go_roundw
              case rel =>
                refine ⟨k + 1, by omega, by go_num, Lib.hid ?_, hbel.trans hgw⟩
                rw [difRes_no hyk.out (by rw [HH.out]; simp; omega)]
                exact hgr.out.alloc hgw
              case measure => simp [intOf]; omega
    · obtain rfl : k = m := by omega
      go_wp2
      go_ret
      have h1 := hgr.out.own
      rw [take_all HM.out] at h1
      exact ⟨_, rfl, h1, hbel⟩
set_option maxRecDepth 100000 in
set_option maxHeartbeats 2000000 in
theorem implDiffResults (va vb : Value) (xs ys : List Rs) (w : World) (ha : RdRs w va xs) (hb : RdRs w vb ys) (hx : xs.length ≤ 4000000) (hy : ys.length ≤ 4000000) (hsx : ∀ x, x ∈ xs → x.small) (hsy : ∀ y, y ∈ ys → y.small) :
    Calls Try.prog 31 #[va, vb] w fun e w' => ∃ v, e = .returned v ∧ OwnDfs w' w.heap.size w'.heap.size v (difRes xs ys) ∧ Grew w w' := by
  have HXR := Lib.hid ha
  have HSX := Lib.hid hsx
  have HSY := Lib.hid hsy
  obtain ⟨_, ⟨a, ca, rfl, _, hra⟩, hall⟩ := ha
  clear hra hall hsx hsy
  obtain ⟨qs, ⟨b, cb, rfl, hcb, hrb⟩, hall⟩ := hb
  have HB := Lib.hid hall
  clear hall
  generalize hn : ys.length = m at hy hrb
  have HM := Lib.hid hn
  clear hn
  obtain ⟨i0, hi, hz0, hz1, hz2⟩ := info_parts Try.infoDf
  go_enter Try.func31, Try.ntmps31
  go_wp2
  go_loopw [5, 13] (fun v i wr => ∃ k : Nat, k ≤ m ∧ i = .int .i64 k ∧ Hid (Grows wr w.heap.size v (difRes xs (ys.take k))) ∧ Grew w wr) (fun _ i _ => m - (intOf i).toNat)
  case atStart => exact ⟨0, Nat.zero_le _, rfl, Lib.hid (Grows.lit w), (Grew.refl _).alloc _⟩
  case round =>
    obtain ⟨k, hk, rfl, hgr, hbel⟩ := hrel
    by_cases hlt : k < m
    · obtain ⟨b1, o1, p, rfl, hpk, c0, c1⟩ := (hrb.grew hbel).getP2 hlt
      obtain ⟨y, hyk, hyr⟩ := HB.out.get hpk.out
      have hys := HSY.out y (List.mem_of_getElem? hyk.out)
      unfold Rs.small at hys
      have hrs := resIds_small (s := y.name) HSX.out
      obtain ⟨pn, pq⟩ := p
      obtain ⟨hyn, hyq⟩ := hyr
      simp only at hyn hyq c0 c1
      subst hyn
      have HQ := Lib.hid hyq
      obtain ⟨pa, pc, rfl, hpc, hpr⟩ := hyq
      clear hpr
      obtain ⟨R, hR⟩ : ∃ R, resIds xs y.name = R := ⟨_, rfl⟩
      rw [hR] at hrs
      have HR := Lib.hid hR
      clear hR
      obtain ⟨l1, hl1⟩ : ∃ l, (wo y.ids R).length = l := ⟨_, rfl⟩
      obtain ⟨l2, hl2⟩ : ∃ l, (wo R y.ids).length = l := ⟨_, rfl⟩
      have hb1 : l1 ≤ 4000000 := by have := wo_le y.ids R; omega
      have hb2 : l2 ≤ 4000000 := by have := wo_le R y.ids; omega
      have HL1 := Lib.hid hl1
      have HL2 := Lib.hid hl2
      clear hl1 hl2
      have HO := Lib.hid (show difOne xs y = ⟨y.name, wo y.ids R, wo R y.ids⟩ by unfold difOne; rw [HR.out])
      have HH := Lib.hid (show difHas (difOne xs y) = decide (0 < l1 + l2) by rw [HO.out]; unfold difHas; rw [HL1.out, HL2.out])
      have hkm : k ≤ m := hk
      obtain ⟨ps, g1, g2, g3⟩ := hgr.out
      have G1 := Lib.hid g1
      have G2 := Lib.hid g2
      have G3 := Lib.hid g3
      have hlen : (difRes xs (ys.take k)).length ≤ 4000000 := by have := difRes_le xs (ys.take k); rw [List.length_take] at this; omega
      clear g1 g2 g3
      go_wp2_with fail
      have c0 : (wr.alloc (.cells #[.string y.name, .slice pa y.ids.length pc] 119)).cell? ⟨wr.heap.size, 0, none⟩ = some (.string y.name) := by simp
      have c1 : (wr.alloc (.cells #[.string y.name, .slice pa y.ids.length pc] 119)).cell? ⟨wr.heap.size, 1, none⟩ = some (.slice pa y.ids.length pc) := by simp
      have hal := (Grew.refl wr).alloc (.cells #[.string y.name, .slice pa y.ids.length pc] 119)
      have hsz := hal.size
      generalize wr.alloc (.cells #[.string y.name, .slice pa y.ids.length pc] 119) = W at c0 c1 hal hsz ⊢
      refine wp_region_noPanic ?_
      refine wp_region_held_drew (S := (fun w' => (w'.cell? ⟨wr.heap.size, 0, none⟩ = some (.string y.name) ∧ w'.cell? ⟨wr.heap.size, 1, none⟩ = some (.slice pa y.ids.length pc) ∧ Grew W w'))) (by kernel_rfl) ?h2_S ?h2_r
      case h2_S => exact ⟨c0, c1, (Grew.refl _).drew⟩
      case h2_r =>
        intro HS
        first
          | refine sk 0 rfl (by kernel_rfl) rfl HS ?_
          | (refine tk (v := ?v2_0) 0 rfl (by kernel_rfl) rfl ?y2_0 HS ?_; case y2_0 => (intro w' hSw; (try dsimp only at hSw); go_simp <;> (with_reducible rfl)))
        try simp only [Act.put, List.setIfInBounds_toArray, List.set_cons_zero, List.set_cons_succ]
        first
          | refine sk 1 rfl (by kernel_rfl) rfl HS ?_
          | (refine tk (v := ?v2_1) 1 rfl (by kernel_rfl) rfl ?y2_1 HS ?_; case y2_1 => (intro w' hSw; (try dsimp only at hSw); go_simp <;> (with_reducible rfl)))
        try simp only [Act.put, List.setIfInBounds_toArray, List.set_cons_zero, List.set_cons_succ]
        first
          | refine sk 2 rfl (by kernel_rfl) rfl HS ?_
          | (refine tk (v := ?v2_2) 2 rfl (by kernel_rfl) rfl ?y2_2 HS ?_; case y2_2 => (intro w' hSw; (try dsimp only at hSw); go_simp <;> (with_reducible rfl)))
        try simp only [Act.put, List.setIfInBounds_toArray, List.set_cons_zero, List.set_cons_succ]
        first
          | refine sk 4 rfl (by kernel_rfl) rfl HS ?_
          | (refine tk (v := ?v2_4) 4 rfl (by kernel_rfl) rfl ?y2_4 HS ?_; case y2_4 => (intro w' hSw; (try dsimp only at hSw); go_simp <;> (with_reducible rfl)))
        try simp only [Act.put, List.setIfInBounds_toArray, List.set_cons_zero, List.set_cons_succ]
        first
          | refine sk 5 rfl (by kernel_rfl) rfl HS ?_
          | (refine tk (v := ?v2_5) 5 rfl (by kernel_rfl) rfl ?y2_5 HS ?_; case y2_5 => (intro w' hSw; (try dsimp only at hSw); go_simp <;> (with_reducible rfl)))
        try simp only [Act.put, List.setIfInBounds_toArray, List.set_cons_zero, List.set_cons_succ]
        refine cl 3 rfl (by kernel_rfl) (fun K hK => ?_)
        go_simp
        go_at_call 92; refine (implResultIDs _ xs y.name _ (HXR.out.grew (hbel.trans (hal.trans HS.2.2))) hx HSX.out).mono ?_; rintro e w1 ⟨rv, rfl, hrv, hb⟩; rw [HR.out] at hrv; have HRV := Lib.hid hrv; obtain ⟨ra, rc, rfl⟩ := own_slice hrv; clear hrv; have hw1 := (hal.trans HS.2.2).trans hb
        refine hK.out _ _ ?s2_3 ?r2_3
        case s2_3 => (try dsimp only); exact held2 HS hb
        case r2_3 =>
          clear HS
          intro HS
          clear hK K
          try simp only [Act.put, List.setIfInBounds_toArray, List.set_cons_zero, List.set_cons_succ]
          refine cl 6 rfl (by kernel_rfl) (fun K hK => ?_)
          go_simp
          go_at_call 91; refine (implDiffIDs2 _ _ R.length y.ids.length R y.ids _ (rd_of_own HRV.out) (HQ.out.grew (hbel.trans (hal.trans HS.2.2))) hrs hys).mono ?_; rintro e w2 ⟨u, v2, rfl, hdis, hu, hv, hb⟩; rw [HL1.out] at hu; rw [HL2.out] at hv; have HU := Lib.hid hu; have HV := Lib.hid hv; have HD := Lib.hid hdis; obtain ⟨ua, uc, rfl⟩ := own_slice hu; obtain ⟨va2, vc, rfl⟩ := own_slice hv; clear hu hv hdis
          refine hK.out _ _ ?s2_6 ?r2_6
          case s2_6 => (try dsimp only); exact held2 HS hb
          case r2_6 =>
            clear HS
            intro HS
            clear hK K
            try simp only [Act.put, List.setIfInBounds_toArray, List.set_cons_zero, List.set_cons_succ]
            first
              | refine sk 7 rfl (by kernel_rfl) rfl HS ?_
              | (refine tk (v := ?v2_7) 7 rfl (by kernel_rfl) rfl ?y2_7 HS ?_; case y2_7 => (intro w' hSw; (try dsimp only at hSw); go_simp <;> (with_reducible rfl)))
            try simp only [Act.put, List.setIfInBounds_toArray, List.set_cons_zero, List.set_cons_succ]
            first
              | refine sk 8 rfl (by kernel_rfl) rfl HS ?_
              | (refine tk (v := ?v2_8) 8 rfl (by kernel_rfl) rfl ?y2_8 HS ?_; case y2_8 => (intro w' hSw; (try dsimp only at hSw); go_simp <;> (with_reducible rfl)))
            try simp only [Act.put, List.setIfInBounds_toArray, List.set_cons_zero, List.set_cons_succ]
            first
              | refine sk 9 rfl (by kernel_rfl) rfl HS ?_
              | (refine tk (v := ?v2_9) 9 rfl (by kernel_rfl) rfl ?y2_9 HS ?_; case y2_9 => (intro w' hSw; (try dsimp only at hSw); go_simp <;> (with_reducible rfl)))
            try simp only [Act.put, List.setIfInBounds_toArray, List.set_cons_zero, List.set_cons_succ]
            first
              | refine sk 10 rfl (by kernel_rfl) rfl HS ?_
              | (refine tk (v := ?v2_10) 10 rfl (by kernel_rfl) rfl ?y2_10 HS ?_; case y2_10 => (intro w' hSw; (try dsimp only at hSw); go_simp <;> (with_reducible rfl)))
            try simp only [Act.put, List.setIfInBounds_toArray, List.set_cons_zero, List.set_cons_succ]
            first
              | refine sk 11 rfl (by kernel_rfl) rfl HS ?_
              | (refine tk (v := ?v2_11) 11 rfl (by kernel_rfl) rfl ?y2_11 HS ?_; case y2_11 => (intro w' hSw; (try dsimp only at hSw); go_simp <;> (with_reducible rfl)))
            try simp only [Act.put, List.setIfInBounds_toArray, List.set_cons_zero, List.set_cons_succ]
            refine wpAnyH_done (by kernel_rfl) ?_ _
            refine NoPanic.normal ?_
            have d0 := HS.1
            have hgw := hal.trans HS.2.2
            have hs1 := hw1.size
            clear HS c0 c1
            have hw : IntKind.i64.wrap ((l1 : Int) + (l2 : Int)) = (l1 : Int) + (l2 : Int) := by simp [IntKind.wrap, IntKind.bits, IntKind.signed]; omega
            have hcs : (0 : Int) < (l1 : Int) + (l2 : Int) ∨ ¬ ((0 : Int) < (l1 : Int) + (l2 : Int)) := by omega
            rcases hcs with hp | hp
            · have hk0 := hk
              go_wp2_with (at_builtin; refine wpList_append_own _ rfl _ _ 35 rfl w.heap.size 86 i0 _ 3 64 Try.underlying35 hi hz0 hz1 hz2 rfl (by decide) _ _ _ rfl (ownsRow_grew (ownsRow_grew G1.out hgw) ((Grew.refl _).alloc (.cells #[.string y.name, .slice ua l1 uc, .slice va2 l2 vc] 86))) ⟨_, 0, none⟩ 1 1 [.string y.name, .slice ua l1 uc, .slice va2 l2 vc] rfl rfl (news3 (by simp)) (fun x hx => by simp at hx; rcases hx with rfl | rfl | rfl <;> rfl) (by unfold maxLen; omega) (by omega) (by have := (hbel.trans hgw).size; simp; omega) ?_; intro v' w' hown' hgr2 _)
              go_roundw
              case rel =>
                refine ⟨k + 1, by omega, by go_num, Lib.hid ?_, ((hbel.trans hgw).alloc _).grown hgr2 (fun g h => (G1.out.lt g h).1)⟩
                rw [difRes_yes hyk.out (by rw [HH.out]; simp; omega), HO.out]
                refine Grows.snoc (lo2 := wr.heap.size) (p := ⟨y.name, .slice ua l1 uc, .slice va2 l2 vc⟩) (ownsRow_grew (ownsRow_grew G1.out hgw) ((Grew.refl _).alloc _)) (G2.out.mono fun x q h => (h.grew hgw).grew ((Grew.refl _).alloc _)) G3.out ⟨rfl, ?_, ?_⟩ ?_ hbel.size ?_ ?_ hgr2 ?_
                · rw [HL1.out]; exact own_of (ownsRow_grew (ownsRow_base HU.out hs1) ((Grew.refl _).alloc _))
                · rw [HL2.out]; exact own_of (ownsRow_grew (ownsRow_base HV.out hs1) ((Grew.refl _).alloc _))
                · exact Dis.cons (Dis.one _) (fun x c hx h1 => by simp at hx; subst hx; exact HD.out c h1)
                · exact (hgw.alloc _).size
                · simpa [P3.c] using hown'
                · exact hgr2.size
              case measure => simp [intOf]; omega
            · have hk0 := hk
              go_wp2
              go_roundw
              case rel =>
                refine ⟨k + 1, by omega, by go_num, Lib.hid ?_, hbel.trans hgw⟩
                rw [difRes_no hyk.out (by rw [HH.out]; simp; omega)]
                exact hgr.out.alloc hgw
              case measure => simp [intOf]; omega
    · obtain rfl : k = m := by omega
      go_wp2
      go_ret
      have h1 := hgr.out.own
      rw [take_all HM.out] at h1
      exact ⟨_, rfl, h1, hbel⟩
end Go.Proofs.Ytgchpdmkphagnaa
