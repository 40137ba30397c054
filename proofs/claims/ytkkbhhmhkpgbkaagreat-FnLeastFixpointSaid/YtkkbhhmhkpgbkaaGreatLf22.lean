/- Texts U2, Z25, U4, Y11, WLeastFixpoint, as far as they are needed. -/
import Derived.Test.YtkkbhhmhkpgbkaaGreatLf21
import Derived.Test.YtkkbhhmhkpgbkaaGreatLf3
import Derived.Test.YtkkbhhmhkpgbkaaGreatLf20
import Derived.Test.YtkkbhhmhkpgbkaaGreatLf7
import Derived.Test.YtkkbhhmhkpgbkaaGreatLf16
import Derived.Test.YtkkbhhmhkpgbkaaGreatLf1
import Derived.Test.YtkkbhhmhkpgbkaaGreatLf0
import Derived.BigQuiet
import Derived.Test.YtkkbhhmhkpgbkaaGreatLf17
import Derived.Test.YtkkbhhmhkpgbkaaGreatLf11
import Derived.Test.YtkkbhhmhkpgbkaaGreatLf14
import Derived.Test.YtkkbhhmhkpgbkaaGreatLf8
namespace Go.Proofs.YtkkbhhmhkpgbkaaGreat
open Go.RowKit
set_option linter.unusedVariables false
theorem OwnRss.lo {w : World} {lo lo' hi : Nat} {v : Value} {xs : List Rs} (h : OwnRss w lo hi v xs) (hl : lo' ≤ lo) : OwnRss w lo' hi v xs := by
  obtain ⟨ps, h1, h2, h3⟩ := h
  exact ⟨ps, h1.mono hl (Nat.le_refl _), h2.mono fun x p h => h.mono hl (Nat.le_refl _), h3⟩
theorem ownRss_slice {w : World} {lo hi : Nat} {v : Value} {xs : List Rs} (h : OwnRss w lo hi v xs) : ∃ a c, v = .slice a xs.length c := by
  obtain ⟨ps, h1, _⟩ := h
  exact own_slice h1.1
theorem EvI.turn {xs : List Dr} {fs : List Fl} {k : Nat} (hb : stB xs = true) {a : List Rs × Bool} (h : EvI xs fs k a.1) (i : Nat) : EvI xs fs k (st1 xs fs k a i).1 := by
  cases hx : xs[i]? with
  | none => unfold st1; rw [hx]; exact h
  | some x =>
    by_cases hk : gt (stL xs) i = k
    · by_cases hs : selL x.query fs a.1 = idsAt a.1 i
      · rw [st1_same hx hs]; exact h
      · rw [st1_new hx hk hs]; exact (EvI.step hb h hx hk hs).1
    · rw [st1_skip hk]; exact h
theorem EvI.pass {xs : List Dr} {fs : List Fl} {k : Nat} (hb : stB xs = true) {rs : List Rs} (h : EvI xs fs k rs) : ∀ i, EvI xs fs k (passTo xs fs k rs i).1
  | 0 => h
  | i + 1 => by rw [passTo_succ]; exact EvI.turn hb (EvI.pass hb h i) i
theorem EvI.passes {xs : List Dr} {fs : List Fl} {k : Nat} (hb : stB xs = true) {rs : List Rs} (h : EvI xs fs k rs) : ∀ m, EvI xs fs k (passN xs fs k rs m).1
  | 0 => h
  | m + 1 => EvI.pass hb (EvI.passes hb h m) xs.length
theorem EvR.inv {xs : List Dr} {fs : List Fl} (hb : stB xs = true) {k : Nat} {rs : List Rs} {t : Nat} (h : EvR xs fs k rs t) : EvI xs fs k rs := by
  induction h with
  | zero => exact EvI.start xs fs
  | succ _ _ ih => exact (EvI.passes hb ih _).next
theorem evRs_ok (xs : List Dr) (s : St) : (evRs xs s).length ≤ xs.length ∧ ∀ x, x ∈ evRs xs s → x.ids.length ≤ s.files.length := by
  unfold evRs
  cases hk : evOk xs s with
  | false => simp
  | true =>
    rw [if_pos rfl]
    have hb : stB xs = true := by unfold evOk at hk; simp only [Bool.and_eq_true] at hk; exact hk.1
    by_cases hx : ∃ p : List Rs × Nat, EvR xs s.files (lvls xs) p.1 p.2
    · have e : (evP xs s.files).1 = hx.choose.1 := by unfold evP; rw [dif_pos hx]
      have h1 := EvR.inv hb hx.choose_spec
      rw [e]
      refine ⟨by rw [h1.rlen]; exact Nat.le_refl _, fun x hxm => ?_⟩
      obtain ⟨i, hi⟩ := List.getElem?_of_mem hxm
      have h2 := h1.len i
      rw [idsAt_get hi] at h2; exact h2
    · have e : (evP xs s.files).1 = [] := by unfold evP; rw [dif_neg hx]
      rw [e]; simp
theorem evRs_small {xs : List Dr} {s : St} (hs : s.sz ≤ 4000000) : ∀ x, x ∈ evRs xs s → x.small := fun x hx => by
  have h1 := (evRs_ok xs s).2 x hx
  unfold St.sz at hs
  unfold Rs.small; omega
set_option maxRecDepth 100000 in
set_option maxHeartbeats 2000000 in
theorem specEvaluate (s : St) (p : PS) (va : Value) (xs : List Dr) (w : World) (hs : St.R w s p) (ha : RdDs w va xs) (hx : xs.length ≤ 1900000) (hz : szAll Dr.sz xs ≤ 4000000) (hzs : s.sz ≤ 4000000) :
    Calls Tryz.prog 25 #[p.v, va] w fun e w' => ∃ v, e = .returned (.tuple #[v, .bool (evOk xs s)]) ∧ OwnRss w' w.heap.size w'.heap.size v (evRs xs s) ∧ Grew w w' := by
  obtain ⟨p_q, p_r, p_n⟩ := p
  have hsn : p_n = s.next := hs.2.2
  subst hsn
  have HST := Lib.hid hs
  have HD := Lib.hid ha
  clear hs
  obtain ⟨qs, ⟨a, ca, rfl, hca, hra⟩, hall⟩ := ha
  clear hall hca hra
  have hg0 := (Grew.refl w).alloc (.cells #[p_q, p_r, .int .i64 s.next] 27)
  have x0 : (w.alloc (.cells #[p_q, p_r, .int .i64 s.next] 27)).cell? ⟨w.heap.size, 0, none⟩ = some p_q := by simp
  have x1 : (w.alloc (.cells #[p_q, p_r, .int .i64 s.next] 27)).cell? ⟨w.heap.size, 1, none⟩ = some p_r := by simp
  have x2 : (w.alloc (.cells #[p_q, p_r, .int .i64 s.next] 27)).cell? ⟨w.heap.size, 2, none⟩ = some (.int .i64 s.next) := by simp
  change Calls Tryz.prog _ #[.agg #[p_q, p_r, .int .i64 s.next], _] w _
  go_enter Tryz.func25, Tryz.ntmps25
  go_wp2_with (go_at_call 68; refine (specL15Run s ⟨p_q, p_r, s.next⟩ _ xs _ (HST.out.grew hg0) (HD.out.grew hg0) hx hz hzs).mono ?_; rintro e w1 ⟨v, rfl, ho, hb⟩; have HO := Lib.hid ho; obtain ⟨ra, rc, rfl⟩ := ownRss_slice ho; clear ho)
  go_ret2
  exact ⟨_, rfl, OwnRss.lo HO.out hg0.size, hg0.trans hb⟩
set_option maxRecDepth 100000 in
set_option maxHeartbeats 2000000 in
theorem implEvaluate (s : St) (p : PS) (va : Value) (xs : List Dr) (w : World) (hs : St.R w s p) (ha : RdDs w va xs) (hx : xs.length ≤ 1900000) (hz : szAll Dr.sz xs ≤ 4000000) (hzs : s.sz ≤ 4000000) :
    Calls Tryz.prog 19 #[p.v, va] w fun e w' => ∃ v, e = .returned (.tuple #[v, .bool (evOk xs s)]) ∧ OwnRss w' w.heap.size w'.heap.size v (evRs xs s) ∧ Grew w w' := by
  obtain ⟨p_q, p_r, p_n⟩ := p
  have hsn : p_n = s.next := hs.2.2
  subst hsn
  have HST := Lib.hid hs
  have HD := Lib.hid ha
  clear hs
  obtain ⟨qs, ⟨a, ca, rfl, hca, hra⟩, hall⟩ := ha
  clear hall hca hra
  have hg0 := (Grew.refl w).alloc (.cells #[p_q, p_r, .int .i64 s.next] 27)
  have x0 : (w.alloc (.cells #[p_q, p_r, .int .i64 s.next] 27)).cell? ⟨w.heap.size, 0, none⟩ = some p_q := by simp
  have x1 : (w.alloc (.cells #[p_q, p_r, .int .i64 s.next] 27)).cell? ⟨w.heap.size, 1, none⟩ = some p_r := by simp
  have x2 : (w.alloc (.cells #[p_q, p_r, .int .i64 s.next] 27)).cell? ⟨w.heap.size, 2, none⟩ = some (.int .i64 s.next) := by simp
  change Calls Tryz.prog _ #[.agg #[p_q, p_r, .int .i64 s.next], _] w _
  go_enter Tryz.func19, Tryz.ntmps19
  go_wp2_with fail
  refine wp_region_noPanic ?_
  refine wp_region_held_drew (S := (fun w' => (w'.cell? ⟨w.heap.size, 0, none⟩ = some (p_q) ∧ w'.cell? ⟨w.heap.size, 1, none⟩ = some (p_r) ∧ w'.cell? ⟨w.heap.size, 2, none⟩ = some (.int .i64 s.next) ∧ Grew (w.alloc (.cells #[p_q, p_r, .int .i64 s.next] 27)) w'))) (by kernel_rfl) ?h1_S ?h1_r
  case h1_S => exact ⟨grew_cell (Grew.refl _).drew x0, grew_cell (Grew.refl _).drew x1, grew_cell (Grew.refl _).drew x2, (Grew.refl _).drew⟩
  case h1_r =>
    intro HS
    first | refine sk' 0 HS ?_ | refine tk' 0 HS ?_
    first | refine sk' 1 HS ?_ | refine tk' 1 HS ?_
    first | refine sk' 2 HS ?_ | refine tk' 2 HS ?_
    refine cl' 3 fun K hK => ?_
    go_simp
    go_at_call 65
    refine (implDirNames _ xs _ (HD.out.grew (hg0.trans HS.2.2.2)) (by omega)).mono ?_
    rintro e w1 ⟨v1, rfl, hv1, hb⟩
    have HVN := Lib.hid (show Rd w1 v1 1 xs.length (strs (xs.map Dr.name)) by have h0 := rd_of_own hv1; rw [List.length_map] at h0; exact h0)
    obtain ⟨na, nc, rfl⟩ := own_slice hv1
    clear hv1
    refine hK.out _ _ ?s1_3 ?r1_3
    case s1_3 => (try dsimp only); exact ⟨grew_cell hb HS.1, grew_cell hb HS.2.1, grew_cell hb HS.2.2.1, HS.2.2.2.trans hb⟩
    case r1_3 =>
      clear HS hK K; intro HS
      try simp only [Act.put, lpa, lpb, lpc]
      refine cl' 4 fun K hK => ?_
      go_simp
      go_at_call 64
      refine (implEvaluated s ⟨p_q, p_r, s.next⟩ _ xs _ _ (HST.out.grew (hg0.trans HS.2.2.2)) (HD.out.grew (hg0.trans HS.2.2.2)) (by simpa using HVN.out) hx hz hzs).mono ?_
      rintro e w5 ⟨v, rfl, ho, hb⟩
      have HO := Lib.hid (OwnRss.lo ho ((hg0.trans HS.2.2.2).size))
      obtain ⟨ra, rc, rfl⟩ := ownRss_slice ho
      clear ho
      refine hK.out _ _ ?s1_4 ?r1_4
      case s1_4 => (try dsimp only); exact ⟨grew_cell hb HS.1, grew_cell hb HS.2.1, grew_cell hb HS.2.2.1, HS.2.2.2.trans hb⟩
      case r1_4 =>
        clear HS hK K; intro HS
        try simp only [Act.put, lpa, lpb, lpc]
        first | refine sk' 5 HS ?_ | refine tk' 5 HS ?_
        first | refine sk' 6 HS ?_ | refine tk' 6 HS ?_
        first | refine sk' 7 HS ?_ | refine tk' 7 HS ?_
        first | refine sk' 8 HS ?_ | refine tk' 8 HS ?_
        first | refine sk' 9 HS ?_ | refine tk' 9 HS ?_
        first | refine sk' 10 HS ?_ | refine tk' 10 HS ?_
        first | refine sk' 11 HS ?_ | refine tk' 11 HS ?_
        refine wpAnyH_done (by kernel_rfl) ?_ _
        refine NoPanic.normal ?_
        go_wp2
        go_ret2
        exact ⟨_, rfl, HO.out, (hg0.trans HS.2.2.2)⟩
end Go.Proofs.YtkkbhhmhkpgbkaaGreat
namespace Go.Proofs.YtkkbhhmhkpgbkaaGreat
open Go.RowKit
set_option linter.unusedVariables false
set_option linter.unusedSimpArgs false
def rsSm (rs : List Rs) : Prop := rs.length ≤ 6 ∧ ∀ x, x ∈ rs → x.ids.length ≤ 12
theorem rsSm.small {rs : List Rs} (h : rsSm rs) : ∀ x, x ∈ rs → x.small := fun x hx => by have := h.2 x hx; unfold Rs.small; omega
theorem rsSm.ans {rs : List Rs} (h : ansOk rs) : rsSm rs := ⟨by have := h.1; omega, fun x hx => by have := (h.2 x hx).2.2.2; omega⟩
theorem rsSm.ev {d : List Dr} {s : St} (hs : stOk 12 s) (hd : dirsOk 6 d) : rsSm (evRs d s) := by
  obtain ⟨h1, h2⟩ := evRs_ok d s
  exact ⟨Nat.le_trans h1 hd.1, fun x hx => Nat.le_trans (h2 x hx) hs.2.1⟩
theorem rsSm.set {rs : List Rs} (h : rsSm rs) {i : Nat} {y : Rs} (hy : y.ids.length ≤ 12) : rsSm (rs.set i y) := ⟨by rw [List.length_set]; exact h.1, fun z hz => (List.mem_or_eq_of_mem_set hz).elim (h.2 z) (fun e => e ▸ hy)⟩
theorem GLr.of {w : World} {lo hi : Nat} {v : Value} {rs : List Rs} (h : OwnRss w lo hi v rs) (hh : hi ≤ w.heap.size) : GLr w lo v rs := by
  obtain ⟨ps, h1, h2, _⟩ := h
  exact ⟨ps, h1.1, h2.mono fun x p k => k.mono (Nat.le_refl _) hh⟩
theorem OwnRss.shape {w : World} {lo hi : Nat} {v : Value} {rs : List Rs} (h : OwnRss w lo hi v rs) : ∃ a c, v = .slice a rs.length c := by
  obtain ⟨ps, h1, _⟩ := h
  exact own_slice h1.1
theorem GLr.put {w : World} {base g n cap i : Nat} {xs : List Rs} {ps : List P2} {p : P2} {v : Value} {ids : List Int} {nm : ByteArray} (h1 : w.ownsRow base 86 2 (.slice (some ⟨g, 0, none⟩) n cap) n (rows P2.c ps)) (h2 : All2 (Rs.O w base w.heap.size) xs ps) (hn : xs.length = n)
    (hp : ps[i]? = some p) (hnm : p.name = nm) (hy : w.ownsRow base 3 1 v ids.length (ints ids)) : GLr (w.setCell ⟨g, i * 2 + 1, none⟩ v) base (.slice (some ⟨g, 0, none⟩) n cap) (xs.set i ⟨nm, ids⟩) := by
  have ht : Touch g (g + 1) w (w.setCell ⟨g, i * 2 + 1, none⟩ v) := Touch.setCell (p := ⟨g, i * 2 + 1, none⟩) (Touch.refl g (g + 1) w) (Nat.le_refl g) (Nat.lt_succ_self g) _
  have T : ∀ x q, Rs.O w base w.heap.size x q → Rs.O (w.setCell ⟨g, i * 2 + 1, none⟩ v) base (w.setCell ⟨g, i * 2 + 1, none⟩ v).heap.size x q := fun x q hq => by
    have h6 := hq.touch' ht (fun u c hu hc => by
      simp only [Rs.subs, List.mem_cons, List.not_mem_nil, or_false] at hu
      subst hu
      have h7 := own_type hq.2.1 h1 (by decide) hc
      have h8 : c ≠ g := fun e => h7 (by rw [e]; rfl)
      omega)
    exact h6.mono (Nat.le_refl _) (by simp)
  refine ⟨ps.set i ⟨p.name, v⟩, ?_, (h2.mono T).set i ⟨nm, ids⟩ ⟨p.name, v⟩ (T _ _ ⟨hnm, own_of hy⟩)⟩
  have e := ownsRow_stores h1 (i * 2 + 1) v
  rw [rows_set1 P2.len ps i 1 p ⟨p.name, v⟩ v hp (by decide) rfl] at e
  rw [List.length_set, hn]; exact e
set_option maxRecDepth 100000 in
set_option maxHeartbeats 8000000 in
theorem drawIsFixpoint (v : Value) (w : World) (hc : Cd w v) :
    Calls Tryz.prog 16 #[v] w fun e w' => ∃ (p : PS) (u t : Value), e = .returned (.tuple #[p.v, u, t]) ∧ ∃ s d, Ev w' w.heap.size p u s d ∧ ∃ rs, rsSm rs ∧ GLr w' w.heap.size t rs ∧ Grew w w' := by
  obtain ⟨n, bs, hr, hn⟩ := hc
  have B0 := Box.new w #[.slice none 0 0, .slice none 0 0, .int .i64 0] 27 3 rfl
  have g0 := (Grew.refl w).alloc (.cells #[.slice none 0 0, .slice none 0 0, .int .i64 0] 27)
  have hs0 : (w.alloc (.cells #[.slice none 0 0, .slice none 0 0, .int .i64 0] 27)).heap.size = w.heap.size + 1 := by simp
  go_enter Tryz.func16, Tryz.ntmps16
  go_wp2_with fail
  refine (l01New v n bs _ (hr.grew g0) hn).mono ?_
  rintro e w1 ⟨rfl, hc1, hg1, hs1⟩
  rw [hs0] at hc1 hs1
  go_wp2_with fail
  refine (l15Case _ _ hc1).mono ?_
  rintro e w2 ⟨p, u, rfl, s, d, hok, hdo, hst, hgl, hd⟩
  have hne : w.heap.size ≠ w.heap.size + 1 := by omega
  have B2 := (B0.grew hg1).d hd hne
  have G2 : Grew (w.alloc (.cells #[.slice none 0 0, .slice none 0 0, .int .i64 0] 27)) w2 := D.out hg1 hd (by rw [hs0]; exact Nat.le_refl _)
  have HST := Lib.hid hst
  have HGL := Lib.hid hgl
  obtain ⟨xa, xc, ya, yc, hp⟩ := hst.slices
  subst hp
  obtain ⟨da, dc, rfl⟩ := GL.slice hgl
  clear hst hgl B0
  have hs2 := hd.size
  have gA := (Grew.refl w2).alloc (.cells #[.slice xa s.schema.length xc, .slice ya s.files.length yc, .int .i64 s.next] 27)
  have CA : CS (w2.alloc (.cells #[.slice xa s.schema.length xc, .slice ya s.files.length yc, .int .i64 s.next] 27)) w2.heap.size ⟨.slice xa s.schema.length xc, .slice ya s.files.length yc, s.next⟩ := CS.new rfl
  have HST3 := Lib.hid (HST.out.grew gA)
  have HGL3 := Lib.hid (HGL.out.grew gA)
  have B3 := B2.grew gA
  have D3 := hd.grew gA
  have G3 := G2.trans gA
  have hz := hok.sz (by decide)
  have hdz := ds_szZ hdo
  have hdl := hdo.1
  have HSO := Lib.hid hok
  have HDO := Lib.hid hdo
  have hfl := hok.2.1
  clear HST HGL B2 hok hdo
  go_wp2_with fail
  generalize w2.alloc (.cells #[.slice xa s.schema.length xc, .slice ya s.files.length yc, .int .i64 s.next] 27) = W at CA HST3 HGL3 B3 D3 G3 ⊢
  have hsW := CA.lt
  refine (specEvaluate s ⟨.slice xa s.schema.length xc, .slice ya s.files.length yc, s.next⟩ _ d _ HST3.out.rd HGL3.out.rd (by omega) (by omega) (by omega)).mono ?_
  rintro e w3 ⟨t, rfl, hev, g3⟩
  have HRS := Lib.hid (GLr.of hev (Nat.le_refl _))
  have HSM := Lib.hid (rsSm.ev HSO.out HDO.out)
  obtain ⟨ta, tc, rfl⟩ := GL.slice HRS.out
  clear hev
  have CB := CA.grew g3
  have DW := (D.refl D3.cur).grew g3
  have D1 := D3.grew g3
  obtain ⟨ok, hok⟩ : ∃ b, evOk d s = b := ⟨_, rfl⟩
  rw [hok]
  clear hok
  generalize evRs d s = rs at HRS HSM ⊢
  obtain ⟨m, hm⟩ : ∃ m, rs.length = m := ⟨_, rfl⟩
  have HM := Lib.hid hm
  rw [hm] at HRS ⊢
  clear hm
  go_wp2_with fail
  refine (l01Below _ _ D1.cur 4 (by omega) (by omega)).mono ?_
  rintro e w4 ⟨x, rfl, hx, e4⟩
  have CC := CB.d e4 (by omega)
  have DX := DW.trans e4
  have D2 := D1.trans e4
  have HRT := Lib.hid (HRS.out.d e4 (by omega))
  clear CA CB DW D1 HRS
  have hxs : x = 0 ∨ x = 1 ∨ 2 ≤ x := by omega
  rcases hxs with rfl | rfl | hx2
  · go_wp2_with fail
    refine (l14Answers _ _ D2.cur).mono ?_
    rintro e w5 ⟨tt, xs, rfl, hxs, hgx, e5⟩
    have HX := Lib.hid hgx
    obtain ⟨xb, xd, rfl⟩ := GL.slice hgx
    have hs5 := D2.size
    have hs3 := DX.size
    clear hgx
    obtain ⟨c0, c1, c2, _⟩ := (CC.d e5 (by omega))
    dsimp only at c0 c1 c2
    have B4 := B3.d (DX.trans e5) hne
    obtain ⟨b0, f0⟩ := B4.2.1 0 (by decide)
    obtain ⟨b1, f1⟩ := B4.2.1 1 (by decide)
    obtain ⟨b2, f2⟩ := B4.2.1 2 (by decide)
    have z0 := B4.2.2
    have HE : Hid (Ev (World.put3 w5 w.heap.size ⟨.slice xa s.schema.length xc, .slice ya s.files.length yc, s.next⟩) w.heap.size ⟨.slice xa s.schema.length xc, .slice ya s.files.length yc, s.next⟩ (.slice da d.length dc) s d) := Lib.hid ⟨HSO.out, HDO.out, ((HST3.out.d (DX.trans e5) (by omega)).tch (touch3 w5 w.heap.size ⟨.slice xa s.schema.length xc, .slice ya s.files.length yc, s.next⟩) (by omega)).base (b := w.heap.size) (by omega), ((HGL3.out.d (DX.trans e5) (by omega)).tch (touch3 w5 w.heap.size ⟨.slice xa s.schema.length xc, .slice ya s.files.length yc, s.next⟩) (by omega)).base (base' := w.heap.size) (by omega)⟩
    have HR9 := Lib.hid ((HX.out.tch (touch3 w5 w.heap.size ⟨.slice xa s.schema.length xc, .slice ya s.files.length yc, s.next⟩) (by omega)).base (base' := w.heap.size) (by omega))
    have HG : Grew w (World.put3 w5 w.heap.size ⟨.slice xa s.schema.length xc, .slice ya s.files.length yc, s.next⟩) := Touch.new (g0.trans (D.out hg1 (D2.trans e5) (by rw [hs0]; exact Nat.le_refl _))) (touch3 w5 w.heap.size ⟨.slice xa s.schema.length xc, .slice ya s.files.length yc, s.next⟩) (Nat.le_refl _)
    have HG9 := Lib.hid HG
    clear HG B4
    go_wp2
    refine bodyPost_ret (v := .tuple #[PS.v ⟨.slice xa s.schema.length xc, .slice ya s.files.length yc, s.next⟩, .slice da d.length dc, .slice xb xs.length xd]) (by simp [results, Tryz.results16, go_sem, f0, f1, f2]) rfl ⟨⟨.slice xa s.schema.length xc, .slice ya s.files.length yc, s.next⟩, .slice da d.length dc, .slice xb xs.length xd, rfl, s, d, HE.out, xs, rsSm.ans hxs, HR9.out, HG9.out⟩
  · by_cases hm0 : 0 < m
    · have hm0' : (0 : Int) < m := by omega
      go_wp2_with fail
      refine (l14Ids _ _ D2.cur).mono ?_
      rintro e w5 ⟨tt, ids, rfl, hids, hown, e5⟩
      have HI := Lib.hid hown
      obtain ⟨xb, xd, rfl⟩ := own_slice hown
      have hs4 := DX.size
      clear hown
      obtain ⟨ps, r1, r2⟩ := HRT.out.d e5 (by omega)
      rw [HM.out] at r1
      obtain ⟨fg, fc, hfg⟩ := own_at0 r1 hm0
      simp only [Value.slice.injEq] at hfg
      obtain ⟨rfl, _, rfl⟩ := hfg
      have hpl : ps.length = m := by rw [← r2.1, HM.out]
      obtain ⟨y, hy⟩ : ∃ y, ps[0]? = some y := ⟨_, List.getElem?_eq_getElem (by omega)⟩
      obtain ⟨rx, hrx, hO⟩ := r2.get hy
      have hgl := GLr.put r1 r2 HM.out hy rfl (ownsRow_base HI.out (by omega))
      have HGN := Lib.hid hgl
      have hfgl := (r1.lt fg rfl)
      obtain ⟨cb0, hcb0⟩ := own_some r1 1 (by omega)
      have hfz := r1.frozenAt
      have DY := (DX.trans e5).setCell (p := ⟨fg, 0 * 2 + 1, none⟩) (by dsimp only; omega) (.slice xb ids.length xd)
      have DZ := (D2.trans e5).setCell (p := ⟨fg, 0 * 2 + 1, none⟩) (by have := D3.size; dsimp only; omega) (.slice xb ids.length xd)
      have HSY := Lib.hid (HSM.out.set (i := 0) (y := ⟨y.name, ids⟩) (by have := hids.2.2; dsimp only; omega))
      have CY := (CC.d e5 (by omega)).off (q := ⟨fg, 0 * 2 + 1, none⟩) (by dsimp only; omega) (.slice xb ids.length xd)
      clear hgl r1 r2 hO hrx hy hpl HRT
      obtain ⟨c0, c1, c2, _⟩ := CY
      dsimp only at c0 c1 c2
      have B4 := B3.d DY hne
      obtain ⟨b0, f0⟩ := B4.2.1 0 (by decide)
      obtain ⟨b1, f1⟩ := B4.2.1 1 (by decide)
      obtain ⟨b2, f2⟩ := B4.2.1 2 (by decide)
      have z0 := B4.2.2
      have HE : Hid (Ev (World.put3 (w5.setCell ⟨fg, 0 * 2 + 1, none⟩ (.slice xb ids.length xd)) w.heap.size ⟨.slice xa s.schema.length xc, .slice ya s.files.length yc, s.next⟩) w.heap.size ⟨.slice xa s.schema.length xc, .slice ya s.files.length yc, s.next⟩ (.slice da d.length dc) s d) := Lib.hid ⟨HSO.out, HDO.out, ((HST3.out.d DY (by omega)).tch (touch3 (w5.setCell ⟨fg, 0 * 2 + 1, none⟩ (.slice xb ids.length xd)) w.heap.size ⟨.slice xa s.schema.length xc, .slice ya s.files.length yc, s.next⟩) (by omega)).base (b := w.heap.size) (by omega), ((HGL3.out.d DY (by omega)).tch (touch3 (w5.setCell ⟨fg, 0 * 2 + 1, none⟩ (.slice xb ids.length xd)) w.heap.size ⟨.slice xa s.schema.length xc, .slice ya s.files.length yc, s.next⟩) (by omega)).base (base' := w.heap.size) (by omega)⟩
      have HR9 := Lib.hid ((HGN.out.tch (touch3 (w5.setCell ⟨fg, 0 * 2 + 1, none⟩ (.slice xb ids.length xd)) w.heap.size ⟨.slice xa s.schema.length xc, .slice ya s.files.length yc, s.next⟩) (by omega)).base (base' := w.heap.size) (by omega))
      have HG : Grew w (World.put3 (w5.setCell ⟨fg, 0 * 2 + 1, none⟩ (.slice xb ids.length xd)) w.heap.size ⟨.slice xa s.schema.length xc, .slice ya s.files.length yc, s.next⟩) := Touch.new (g0.trans (D.out hg1 DZ (by rw [hs0]; exact Nat.le_refl _))) (touch3 (w5.setCell ⟨fg, 0 * 2 + 1, none⟩ (.slice xb ids.length xd)) w.heap.size ⟨.slice xa s.schema.length xc, .slice ya s.files.length yc, s.next⟩) (Nat.le_refl _)
      have HG9 := Lib.hid HG
      clear HG B4
      go_wp2
      refine bodyPost_ret (v := .tuple #[PS.v ⟨.slice xa s.schema.length xc, .slice ya s.files.length yc, s.next⟩, .slice da d.length dc, .slice (some ⟨fg, 0, none⟩) m tc]) (by simp [results, Tryz.results16, go_sem, f0, f1, f2]) rfl ⟨⟨.slice xa s.schema.length xc, .slice ya s.files.length yc, s.next⟩, .slice da d.length dc, .slice (some ⟨fg, 0, none⟩) m tc, rfl, s, d, HE.out, _, HSY.out, HR9.out, HG9.out⟩
    · have hm0' : ¬ ((0 : Int) < m) := by omega
      obtain ⟨c0, c1, c2, _⟩ := CC
      dsimp only at c0 c1 c2
      have B4 := B3.d DX hne
      obtain ⟨b0, f0⟩ := B4.2.1 0 (by decide)
      obtain ⟨b1, f1⟩ := B4.2.1 1 (by decide)
      obtain ⟨b2, f2⟩ := B4.2.1 2 (by decide)
      have z0 := B4.2.2
      have HE : Hid (Ev (World.put3 w4 w.heap.size ⟨.slice xa s.schema.length xc, .slice ya s.files.length yc, s.next⟩) w.heap.size ⟨.slice xa s.schema.length xc, .slice ya s.files.length yc, s.next⟩ (.slice da d.length dc) s d) := Lib.hid ⟨HSO.out, HDO.out, ((HST3.out.d DX (by omega)).tch (touch3 w4 w.heap.size ⟨.slice xa s.schema.length xc, .slice ya s.files.length yc, s.next⟩) (by omega)).base (b := w.heap.size) (by omega), ((HGL3.out.d DX (by omega)).tch (touch3 w4 w.heap.size ⟨.slice xa s.schema.length xc, .slice ya s.files.length yc, s.next⟩) (by omega)).base (base' := w.heap.size) (by omega)⟩
      have HR9 := Lib.hid ((HRT.out.tch (touch3 w4 w.heap.size ⟨.slice xa s.schema.length xc, .slice ya s.files.length yc, s.next⟩) (by omega)).base (base' := w.heap.size) (by omega))
      have HG : Grew w (World.put3 w4 w.heap.size ⟨.slice xa s.schema.length xc, .slice ya s.files.length yc, s.next⟩) := Touch.new (g0.trans (D.out hg1 D2 (by rw [hs0]; exact Nat.le_refl _))) (touch3 w4 w.heap.size ⟨.slice xa s.schema.length xc, .slice ya s.files.length yc, s.next⟩) (Nat.le_refl _)
      have HG9 := Lib.hid HG
      clear HG B4
      go_wp2
      refine bodyPost_ret (v := .tuple #[PS.v ⟨.slice xa s.schema.length xc, .slice ya s.files.length yc, s.next⟩, .slice da d.length dc, .slice ta m tc]) (by simp [results, Tryz.results16, go_sem, f0, f1, f2]) rfl ⟨⟨.slice xa s.schema.length xc, .slice ya s.files.length yc, s.next⟩, .slice da d.length dc, .slice ta m tc, rfl, s, d, HE.out, _, HSM.out, HR9.out, HG9.out⟩
  · have hx0 : ¬ (x = 0) := by omega
    have hx1 : ¬ (x = 1) := by omega
    obtain ⟨c0, c1, c2, _⟩ := CC
    dsimp only at c0 c1 c2
    have B4 := B3.d DX hne
    obtain ⟨b0, f0⟩ := B4.2.1 0 (by decide)
    obtain ⟨b1, f1⟩ := B4.2.1 1 (by decide)
    obtain ⟨b2, f2⟩ := B4.2.1 2 (by decide)
    have z0 := B4.2.2
    have HE : Hid (Ev (World.put3 w4 w.heap.size ⟨.slice xa s.schema.length xc, .slice ya s.files.length yc, s.next⟩) w.heap.size ⟨.slice xa s.schema.length xc, .slice ya s.files.length yc, s.next⟩ (.slice da d.length dc) s d) := Lib.hid ⟨HSO.out, HDO.out, ((HST3.out.d DX (by omega)).tch (touch3 w4 w.heap.size ⟨.slice xa s.schema.length xc, .slice ya s.files.length yc, s.next⟩) (by omega)).base (b := w.heap.size) (by omega), ((HGL3.out.d DX (by omega)).tch (touch3 w4 w.heap.size ⟨.slice xa s.schema.length xc, .slice ya s.files.length yc, s.next⟩) (by omega)).base (base' := w.heap.size) (by omega)⟩
    have HR9 := Lib.hid ((HRT.out.tch (touch3 w4 w.heap.size ⟨.slice xa s.schema.length xc, .slice ya s.files.length yc, s.next⟩) (by omega)).base (base' := w.heap.size) (by omega))
    have HG : Grew w (World.put3 w4 w.heap.size ⟨.slice xa s.schema.length xc, .slice ya s.files.length yc, s.next⟩) := Touch.new (g0.trans (D.out hg1 D2 (by rw [hs0]; exact Nat.le_refl _))) (touch3 w4 w.heap.size ⟨.slice xa s.schema.length xc, .slice ya s.files.length yc, s.next⟩) (Nat.le_refl _)
    have HG9 := Lib.hid HG
    clear HG B4
    go_wp2
    refine bodyPost_ret (v := .tuple #[PS.v ⟨.slice xa s.schema.length xc, .slice ya s.files.length yc, s.next⟩, .slice da d.length dc, .slice ta m tc]) (by simp [results, Tryz.results16, go_sem, f0, f1, f2]) rfl ⟨⟨.slice xa s.schema.length xc, .slice ya s.files.length yc, s.next⟩, .slice da d.length dc, .slice ta m tc, rfl, s, d, HE.out, _, HSM.out, HR9.out, HG9.out⟩
end Go.Proofs.YtkkbhhmhkpgbkaaGreat
namespace Go.Proofs.YtkkbhhmhkpgbkaaGreat
open Go.RowKit
set_option linter.unusedVariables false
end Go.Proofs.YtkkbhhmhkpgbkaaGreat
namespace Go.Proofs.YtkkbhhmhkpgbkaaGreat
open Go.RowKit
set_option linter.unusedVariables false
theorem same_eq {α : Type} {a b : List α} (h : sameB a b = true) : a = b := Classical.byContradiction fun hn => by rw [sameB_no hn] at h; cases h
theorem fix_parts {xs : List Dr} {s : St} {rs : List Rs} (h : fixB xs s rs = true) : stoB s = true ∧ stB xs = true ∧ rs.map Rs.name = xs.map Dr.name ∧ ∀ i x, xs[i]? = some x → selL x.query s.files rs = idsAt rs i := by
  unfold fixB namesB at h
  simp only [Bool.and_eq_true, decide_eq_true_eq] at h
  obtain ⟨h1, h2, ⟨hl, h3⟩, h4⟩ := h
  have hr : ∀ i (x : Dr), xs[i]? = some x → ∃ r, rs[i]? = some r := fun i x hx => ⟨_, List.getElem?_eq_getElem (by have := (List.getElem?_eq_some_iff.1 hx).1; omega)⟩
  refine ⟨h1, h2, ?_, fun i x hx => ?_⟩
  · apply List.ext_getElem?
    intro i
    rw [List.getElem?_map, List.getElem?_map]
    cases hx : xs[i]? with
    | none =>
      have : rs[i]? = none := List.getElem?_eq_none (by have := List.getElem?_eq_none_iff.1 hx; omega)
      rw [this]; rfl
    | some x =>
      obtain ⟨r, hr⟩ := hr i x hx
      have h5 := allFrom_at h3 hx
      rw [nmAt_at hr] at h5
      rw [hr]; simp only [Option.map_some]; rw [beqB.1 h5]
  · obtain ⟨r, hr⟩ := hr i x hx
    have h5 := allFrom_at h4 hx
    rw [fxAt_at hr] at h5
    rw [idsAt_get hr]; exact same_eq h5
theorem ev_parts {xs : List Dr} {s : St} (h : evOk xs s = true) : stB xs = true ∧ stoB s = true ∧ evRs xs s = (evP xs s.files).1 := by
  have h1 := h
  unfold evOk at h1
  simp only [Bool.and_eq_true] at h1
  exact ⟨h1.1, h1.2, by unfold evRs; rw [if_pos h]⟩
theorem ev_leastB {xs : List Dr} {s : St} {rt : List Rs} (hf : fixB xs s rt = true) (hm : mxS xs ≤ 0) (nm : ByteArray) {z : Int} (hz : z ∈ resIds (evRs xs s) nm) : has (resIds rt nm) z = true := by
  obtain ⟨h1, h2, h3, h4⟩ := fix_parts hf
  have hok : evOk xs s = true := by unfold evOk; rw [h1, h2]; rfl
  obtain ⟨_, _, h5⟩ := ev_parts hok
  have h6 := (evP_fix h2 s.files).1
  rw [h5, resIds_pl h6] at hz
  rw [resIds_pl h3]
  cases hp : plcF xs nm with
  | none => rw [hp] at hz; cases hz
  | some j =>
    rw [hp] at hz
    unfold has
    exact decide_eq_true (evP_least h2 hm h3 h4 j z hz)
theorem fix_ok {xs : List Dr} {s : St} {rt : List Rs} (hf : fixB xs s rt = true) : evOk xs s = true := by
  obtain ⟨h1, h2, _⟩ := fix_parts hf
  unfold evOk; rw [h1, h2]; rfl
end Go.Proofs.YtkkbhhmhkpgbkaaGreat
namespace Go.Proofs.YtkkbhhmhkpgbkaaGreat.fnLeastFixpoint
open Go.RowKit
set_option linter.unusedVariables false
set_option maxRecDepth 100000 in
set_option maxHeartbeats 16000000 in
theorem walkLaw (w : World) (v : Value) (n : Nat) (xs : List Int) (hr : Rd w v 1 n (xs.map (Value.int .u8))) (hn : n ≤ maxLen) (ho : ∀ a : Int, a ∈ xs → 0 ≤ a ∧ a ≤ 255) :
    Calls Tryz.prog 4 #[v] w fun e w' => e = .returned (.bool true) ∧ Grew w w' := by
  clear ho
  by_cases hbig : (1048576 : Int) < (n : Int)
  · have hd : decide ((1048576 : Int) < (n : Int)) = true := by simp [hbig]
    go_enter Tryz.func4, Tryz.ntmps4
    go_wp2_with fail
    refine (big v n _ _ hr hn).mono ?_
    rintro e w1 ⟨rfl, rfl⟩
    go_wp2
    go_ret
    exact ⟨rfl, Grew.refl _⟩
  have hd : decide ((1048576 : Int) < (n : Int)) = false := by simp [hbig]
  have hcd : Cd w v := ⟨n, xs, hr, by omega⟩
  have G0 := Grew.refl w
  go_enter Tryz.func4, Tryz.ntmps4
  go_wp2_with fail
  refine (big v n _ _ hr hn).mono ?_
  rintro e w1 ⟨rfl, rfl⟩
  go_wp2_with fail
  refine (drawIsFixpoint v _ hcd).mono ?_
  rintro e w1 ⟨p, u, t, rfl, s_a, d_a, hev, rs, hsm, hgr, g1⟩
  have G1 := G0.trans g1
  have so_a := hev.so
  have hz_a := so_a.sz (by decide)
  have hdz_a := ds_szZ hev.dk
  have hdl_a := hev.dk.1
  have R_sa := Lib.hid hev.st.rd
  have R_da := Lib.hid hev.dl.rd
  have HDK_a := Lib.hid hev.dk
  obtain ⟨xa_a, xc_a, ya_a, yc_a, da_a, dc_a, rfl, rfl⟩ := hev.shapes
  have hfl_a := so_a.2.1
  have HSO_a := Lib.hid so_a
  clear hev so_a
  have R_r := Lib.hid hgr.rd
  obtain ⟨ta, tc, rfl⟩ := GL.slice hgr
  clear hgr
  have hrl := hsm.1
  have HRS := Lib.hid hsm.small
  clear hsm
  have g2 := (Grew.refl w1).alloc (.cells #[.slice xa_a s_a.schema.length xc_a, .slice ya_a s_a.files.length yc_a, .int .i64 s_a.next] 27)
  have ba0 : (w1.alloc (.cells #[.slice xa_a s_a.schema.length xc_a, .slice ya_a s_a.files.length yc_a, .int .i64 s_a.next] 27)).cell? ⟨w1.heap.size, 0, none⟩ = some (.slice xa_a s_a.schema.length xc_a) := by simp
  have ba1 : (w1.alloc (.cells #[.slice xa_a s_a.schema.length xc_a, .slice ya_a s_a.files.length yc_a, .int .i64 s_a.next] 27)).cell? ⟨w1.heap.size, 1, none⟩ = some (.slice ya_a s_a.files.length yc_a) := by simp
  have ba2 : (w1.alloc (.cells #[.slice xa_a s_a.schema.length xc_a, .slice ya_a s_a.files.length yc_a, .int .i64 s_a.next] 27)).cell? ⟨w1.heap.size, 2, none⟩ = some (.int .i64 s_a.next) := by simp
  go_wp2_with fail
  generalize w1.alloc (.cells #[.slice xa_a s_a.schema.length xc_a, .slice ya_a s_a.files.length yc_a, .int .i64 s_a.next] 27) = w2 at g2 ba0 ba1 ba2 ⊢
  have G2 := G1.trans g2
  obtain ⟨fb, hfb_⟩ : ∃ b, fixB d_a s_a rs = b := ⟨_, rfl⟩
  have H_fb := Lib.hid hfb_
  clear hfb_
  refine (implIsFixpoint s_a ⟨.slice xa_a s_a.schema.length xc_a, .slice ya_a s_a.files.length yc_a, s_a.next⟩ _ d_a _ rs _ (St.R.grew R_sa.out (g2)) (RdDs.grew R_da.out (g2)) (RdRs.grew R_r.out (g2)) (by omega) (by omega) (by omega) (by omega) HRS.out).mono ?_
  rintro e w3 ⟨he, g3⟩
  have G3 := G2.trans g3
  replace ba0 := grew_cell g3 ba0
  replace ba1 := grew_cell g3 ba1
  replace ba2 := grew_cell g3 ba2
  rw [H_fb.out] at he
  subst he
  cases fb
  · skip
    go_wp2_with fail
    refine (specIsFixpoint s_a ⟨.slice xa_a s_a.schema.length xc_a, .slice ya_a s_a.files.length yc_a, s_a.next⟩ _ d_a _ rs _ (St.R.grew R_sa.out ((g2.trans g3))) (RdDs.grew R_da.out ((g2.trans g3))) (RdRs.grew R_r.out ((g2.trans g3))) (by omega) (by omega) (by omega) (by omega) HRS.out).mono ?_
    rintro e w4 ⟨he, g4⟩
    have G4 := G3.trans g4
    replace ba0 := grew_cell g4 ba0
    replace ba1 := grew_cell g4 ba1
    replace ba2 := grew_cell g4 ba2
    rw [H_fb.out] at he
    subst he
    go_wp2
    go_ret
    exact ⟨rfl, G4⟩
  have HOK := Lib.hid (fix_ok H_fb.out)
  go_wp2_with fail
  refine (implEvaluate s_a ⟨.slice xa_a s_a.schema.length xc_a, .slice ya_a s_a.files.length yc_a, s_a.next⟩ _ d_a _ (St.R.grew R_sa.out ((g2.trans g3))) (RdDs.grew R_da.out ((g2.trans g3))) (by omega) (by omega) (by omega)).mono ?_
  rintro e w4 ⟨v_e, rfl, o_e, g4⟩
  have G4 := G3.trans g4
  replace ba0 := grew_cell g4 ba0
  replace ba1 := grew_cell g4 ba1
  replace ba2 := grew_cell g4 ba2
  have R_e := Lib.hid (OwnRss.rd o_e)
  rw [HOK.out]
  obtain ⟨ea, ec, rfl⟩ := OwnRss.shape o_e
  clear o_e
  have HRK := Lib.hid (evRs_ok d_a s_a)
  have hel := HRK.out.1
  have HES := Lib.hid (evRs_small (xs := d_a) (s := s_a) (by omega))
  obtain ⟨mx, hmx⟩ : ∃ m, mxS d_a = m := ⟨_, rfl⟩
  have HMX := Lib.hid hmx
  clear hmx
  go_wp2_with fail
  refine (specMaxStratum _ d_a _ (RdDs.grew R_da.out (((g2.trans g3).trans g4))) (by omega) (by omega)).mono ?_
  rintro e w5 ⟨he, g5⟩
  have G5 := G4.trans g5
  replace ba0 := grew_cell g5 ba0
  replace ba1 := grew_cell g5 ba1
  replace ba2 := grew_cell g5 ba2
  rw [HMX.out] at he
  subst he
  have RD := Lib.hid (RdDs.grew R_da.out ((((g2.trans g3).trans g4).trans g5)))
  have RE := Lib.hid (RdRs.grew R_e.out (g5))
  have RR := Lib.hid (RdRs.grew R_r.out ((((g2.trans g3).trans g4).trans g5)))
  by_cases hpos : 0 < mx
  · go_wp2
    go_ret
    exact ⟨rfl, G5⟩
  have HLE := Lib.hid (fun nm z (hz : z ∈ resIds (evRs d_a s_a) nm) => ev_leastB H_fb.out (by rw [HMX.out]; omega) nm hz)
  have HG := Lib.hid G5
  clear R_sa R_da R_r R_e ba0 ba1 ba2 G0 G1 G2 G3 G4 G5 g1 g2 g3 g4 g5 hbig hn hd hr hcd hz_a hdz_a hfl_a
  obtain ⟨qs, ⟨_, _, h1, _, hra⟩, hall⟩ := RD.out
  cases h1
  have HA := Lib.hid hall
  clear hall
  generalize hnn : d_a.length = n at hra hdl_a hel ⊢
  clear hnn RD
  generalize hee : (evRs d_a s_a).length = el at hel RE ⊢
  have HEE := Lib.hid hee
  clear hee
  go_wp2
  go_loopw [8] (fun i wr => ∃ k : Nat, k ≤ n ∧ i = .int .i64 k ∧ Grew w5 wr) (fun i _ => n - (intOf i).toNat)
  case atStart => exact ⟨0, Nat.zero_le _, rfl, Grew.refl _⟩
  case round =>
    obtain ⟨k, hk, rfl, hbel⟩ := hrel
    by_cases hlt : k < n
    · obtain ⟨b0, o0, p, rfl, hpk, c0, c1⟩ := (hra.grew hbel).getP2 hlt
      obtain ⟨x, hxk, hxr⟩ := HA.out.get hpk.out
      obtain ⟨pn, pq⟩ := p
      obtain ⟨hxn, hxq⟩ := hxr
      simp only at hxn c0 c1
      subst hxn
      have HX := Lib.hid (HLE.out x.name)
      have hk0 : (0 : Int) ≤ k := by omega
      have hkm : (k : Int) < n := by omega
      go_wp2_with fail
      refine (implResultIDs _ (evRs d_a s_a) x.name _ (RdRs.grew RE.out hbel) (by rw [HEE.out]; omega) HES.out).mono ?_
      rintro e wm ⟨v3, rfl, o3, gm⟩
      have R3 := Lib.hid (rd_of_own o3)
      obtain ⟨a3, c3, rfl⟩ := own_slice o3
      clear o3
      obtain ⟨_, _, h1, _, hrm⟩ := R3.out
      cases h1
      have d0 := grew_cell gm c0
      have hbm := hbel.trans gm
      have hmd4 := resIds_small HES.out (s := x.name)
      generalize hmd : (resIds (evRs d_a s_a) x.name).length = md at hrm hmd4 ⊢
      clear hmd R3 c0 c1 hxq
      go_wp2
      go_loopw [10] (fun i wr => ∃ j : Nat, j ≤ md ∧ i = .int .i64 j ∧ Grew wm wr) (fun i _ => md - (intOf i).toNat)
      case atStart => exact ⟨0, Nat.zero_le _, rfl, Grew.refl _⟩
      case round =>
        obtain ⟨j, hj, rfl, hbj⟩ := hrel
        by_cases hjt : j < md
        · obtain ⟨b1, o1, z, rfl, hzk, e1⟩ := hrm.one hjt
          have HH := Lib.hid (HX.out z (List.mem_of_getElem? hzk.out))
          have hj0 : (0 : Int) ≤ j := by omega
          have hjm : (j : Int) < md := by omega
          have f0 := grew_cell hbj d0
          have f1 := grew_cell hbj e1
          have hW0 := Grew.refl wr
          have hbz := hbm.trans hbj
          go_wp2_with fail
          refine wp_region_noPanic ?_
          refine wp_region_held_drew (S := (fun w' => (w'.cell? ⟨b0, o0 + k * 2, none⟩ = some (.string x.name) ∧ w'.cell? ⟨b1, o1 + j, none⟩ = some (.int .i64 z) ∧ Grew wr w'))) (by kernel_rfl) ?h1_S ?h1_r
          case h1_S => exact ⟨f0, f1, hW0.drew⟩
          case h1_r =>
            intro HS
            first | refine sk' 0 HS ?_ | refine tk' 0 HS ?_
            first | refine sk' 1 HS ?_ | refine tk' 1 HS ?_
            first | refine sk' 2 HS ?_ | refine tk' 2 HS ?_
            first | refine sk' 3 HS ?_ | refine tk' 3 HS ?_
            first | refine sk' 4 HS ?_ | refine tk' 4 HS ?_
            first | refine sk' 5 HS ?_ | refine tk' 5 HS ?_
            first | refine sk' 7 HS ?_ | refine tk' 7 HS ?_
            first | refine sk' 8 HS ?_ | refine tk' 8 HS ?_
            first | refine sk' 9 HS ?_ | refine tk' 9 HS ?_
            first | refine sk' 10 HS ?_ | refine tk' 10 HS ?_
            refine cl' 6 fun K hK => ?_
            rw [if_pos (by rfl)]
            go_simp
            go_at_call 23
            refine (specResultIDs _ rs x.name _ (RdRs.grew RR.out (hbz.trans HS.2.2)) (by omega) HRS.out).mono ?_
            rintro e wx ⟨v5, rfl, o5, hb⟩
            have R5 := Lib.hid (rd_of_own o5)
            obtain ⟨a5, c5, rfl⟩ := own_slice o5
            clear o5
            refine hK.out _ _ ?s1_6 ?r1_6
            case s1_6 => exact ⟨grew_cell hb HS.1, grew_cell hb HS.2.1, HS.2.2.trans hb⟩
            case r1_6 =>
              clear HS hK K; intro HS
              try simp only [Act.put, lpa, lpb, lpc]
              refine cl' 11 fun K hK => ?_
              rw [if_pos (by rfl)]
              go_simp
              go_at_call 22
              refine (specContainsID _ _ _ z _ R5.out (resIds_small HRS.out)).mono ?_
              rintro e wy ⟨he, rfl⟩
              rw [HH.out] at he
              subst he
              refine hK.out _ _ ?s1_11 ?r1_11
              case s1_11 => exact HS
              case r1_11 =>
                clear HS hK K; intro HS
                try simp only [Act.put, lpa, lpb, lpc]
                first | refine sk' 12 HS ?_ | refine tk' 12 HS ?_
                refine wpAnyH_done (by kernel_rfl) ?_ _
                refine NoPanic.normal ?_
                have GR := HS.2.2
                clear HS
                go_wp2
                go_roundw
                case rel => exact ⟨j + 1, by omega, by go_num, hbj.trans GR⟩
                case measure => simp [intOf]; omega
        · obtain rfl : j = md := by omega
          go_wp2
          go_roundw
          case rel => exact ⟨k + 1, by omega, by go_num, hbm.trans hbj⟩
          case measure => simp [intOf]; omega
    · obtain rfl : k = n := by omega
      go_wp2
      go_ret
      exact ⟨rfl, HG.out.trans hbel⟩
end Go.Proofs.YtkkbhhmhkpgbkaaGreat.fnLeastFixpoint
