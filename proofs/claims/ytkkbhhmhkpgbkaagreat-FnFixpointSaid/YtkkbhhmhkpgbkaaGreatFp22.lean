/- Texts U2, Z25, U4, Y11, WFixpoint, as far as they are needed. -/
import Derived.Test.YtkkbhhmhkpgbkaaGreatFp21
import Derived.Test.YtkkbhhmhkpgbkaaGreatFp3
import Derived.Test.YtkkbhhmhkpgbkaaGreatFp20
import Derived.Test.YtkkbhhmhkpgbkaaGreatFp7
import Derived.Test.YtkkbhhmhkpgbkaaGreatFp16
import Derived.Test.YtkkbhhmhkpgbkaaGreatFp1
import Derived.Test.YtkkbhhmhkpgbkaaGreatFp0
import Derived.BigQuiet
import Derived.Test.YtkkbhhmhkpgbkaaGreatFp17
import Derived.Test.YtkkbhhmhkpgbkaaGreatFp11
import Derived.Test.YtkkbhhmhkpgbkaaGreatFp14
import Derived.Test.YtkkbhhmhkpgbkaaGreatFp8
namespace Go.Proofs.YtkkbhhmhkpgbkaaGreat
open Go.RowKit
set_option linter.unusedVariables false
theorem OwnRss.lo {w : World} {lo lo' hi : Nat} {v : Value} {xs : List Rs} (h : OwnRss w lo hi v xs) (hl : lo' ≤ lo) : OwnRss w lo' hi v xs := by
  obtain ⟨ps, h1, h2, h3⟩ := h
  exact ⟨ps, h1.mono hl (Nat.le_refl _), h2.mono fun x p h => h.mono hl (Nat.le_refl _), h3⟩
theorem ownRss_slice {w : World} {lo hi : Nat} {v : Value} {xs : List Rs} (h : OwnRss w lo hi v xs) : ∃ a c, v = .slice a xs.length c := by
  obtain ⟨ps, h1, _⟩ := h
  exact own_slice h1.1
theorem EvI.turn {xs : List Dr} {fs : List Fl} {k : Nat} (hb : stB xs = true) {a : List Rs × Bool} (h : EvI xs fs k a.1) (i : Nat) : EvI xs fs k (st1 xs fs k a i).1 := by
  cases hx : xs[i]? with
  | none => unfold st1; rw [hx]; exact h
  | some x =>
    by_cases hk : gt (stL xs) i = k
    · by_cases hs : selL x.query fs a.1 = idsAt a.1 i
      · rw [st1_same hx hs]; exact h
      · rw [st1_new hx hk hs]; exact (EvI.step hb h hx hk hs).1
    · rw [st1_skip hk]; exact h
theorem EvI.pass {xs : List Dr} {fs : List Fl} {k : Nat} (hb : stB xs = true) {rs : List Rs} (h : EvI xs fs k rs) : ∀ i, EvI xs fs k (passTo xs fs k rs i).1
  | 0 => h
  | i + 1 => by rw [passTo_succ]; exact EvI.turn hb (EvI.pass hb h i) i
theorem EvI.passes {xs : List Dr} {fs : List Fl} {k : Nat} (hb : stB xs = true) {rs : List Rs} (h : EvI xs fs k rs) : ∀ m, EvI xs fs k (passN xs fs k rs m).1
  | 0 => h
  | m + 1 => EvI.pass hb (EvI.passes hb h m) xs.length
theorem EvR.inv {xs : List Dr} {fs : List Fl} (hb : stB xs = true) {k : Nat} {rs : List Rs} {t : Nat} (h : EvR xs fs k rs t) : EvI xs fs k rs := by
  induction h with
  | zero => exact EvI.start xs fs
  | succ _ _ ih => exact (EvI.passes hb ih _).next
theorem evRs_ok (xs : List Dr) (s : St) : (evRs xs s).length ≤ xs.length ∧ ∀ x, x ∈ evRs xs s → x.ids.length ≤ s.files.length := by
  unfold evRs
  cases hk : evOk xs s with
  | false => simp
  | true =>
    rw [if_pos rfl]
    have hb : stB xs = true := by unfold evOk at hk; simp only [Bool.and_eq_true] at hk; exact hk.1
    by_cases hx : ∃ p : List Rs × Nat, EvR xs s.files (lvls xs) p.1 p.2
    · have e : (evP xs s.files).1 = hx.choose.1 := by unfold evP; rw [dif_pos hx]
      have h1 := EvR.inv hb hx.choose_spec
      rw [e]
      refine ⟨by rw [h1.rlen]; exact Nat.le_refl _, fun x hxm => ?_⟩
      obtain ⟨i, hi⟩ := List.getElem?_of_mem hxm
      have h2 := h1.len i
      rw [idsAt_get hi] at h2; exact h2
    · have e : (evP xs s.files).1 = [] := by unfold evP; rw [dif_neg hx]
      rw [e]; simp
theorem evRs_small {xs : List Dr} {s : St} (hs : s.sz ≤ 4000000) : ∀ x, x ∈ evRs xs s → x.small := fun x hx => by
  have h1 := (evRs_ok xs s).2 x hx
  unfold St.sz at hs
  unfold Rs.small; omega
set_option maxRecDepth 100000 in
set_option maxHeartbeats 2000000 in
theorem specEvaluate (s : St) (p : PS) (va : Value) (xs : List Dr) (w : World) (hs : St.R w s p) (ha : RdDs w va xs) (hx : xs.length ≤ 1900000) (hz : szAll Dr.sz xs ≤ 4000000) (hzs : s.sz ≤ 4000000) :
    Calls Tryz.prog 25 #[p.v, va] w fun e w' => ∃ v, e = .returned (.tuple #[v, .bool (evOk xs s)]) ∧ OwnRss w' w.heap.size w'.heap.size v (evRs xs s) ∧ Grew w w' := by
  obtain ⟨p_q, p_r, p_n⟩ := p
  have hsn : p_n = s.next := hs.2.2
  subst hsn
  have HST := Lib.hid hs
  have HD := Lib.hid ha
  clear hs
  obtain ⟨qs, ⟨a, ca, rfl, hca, hra⟩, hall⟩ := ha
  clear hall hca hra
  have hg0 := (Grew.refl w).alloc (.cells #[p_q, p_r, .int .i64 s.next] 27)
  have x0 : (w.alloc (.cells #[p_q, p_r, .int .i64 s.next] 27)).cell? ⟨w.heap.size, 0, none⟩ = some p_q := by simp
  have x1 : (w.alloc (.cells #[p_q, p_r, .int .i64 s.next] 27)).cell? ⟨w.heap.size, 1, none⟩ = some p_r := by simp
  have x2 : (w.alloc (.cells #[p_q, p_r, .int .i64 s.next] 27)).cell? ⟨w.heap.size, 2, none⟩ = some (.int .i64 s.next) := by simp
  change Calls Tryz.prog _ #[.agg #[p_q, p_r, .int .i64 s.next], _] w _
  go_enter Tryz.func25, Tryz.ntmps25
  go_wp2_with (go_at_call 68; refine (specL15Run s ⟨p_q, p_r, s.next⟩ _ xs _ (HST.out.grew hg0) (HD.out.grew hg0) hx hz hzs).mono ?_; rintro e w1 ⟨v, rfl, ho, hb⟩; have HO := Lib.hid ho; obtain ⟨ra, rc, rfl⟩ := ownRss_slice ho; clear ho)
  go_ret2
  exact ⟨_, rfl, OwnRss.lo HO.out hg0.size, hg0.trans hb⟩
set_option maxRecDepth 100000 in
set_option maxHeartbeats 2000000 in
theorem specEvaluationPasses (s : St) (p : PS) (va : Value) (xs : List Dr) (w : World) (hs : St.R w s p) (ha : RdDs w va xs) (hx : xs.length ≤ 1900000) (hz : szAll Dr.sz xs ≤ 4000000) (hzs : s.sz ≤ 4000000) :
    Calls Tryz.prog 28 #[p.v, va] w fun e w' => e = .returned (.int .i64 (evT xs s)) ∧ Grew w w' := by
  obtain ⟨p_q, p_r, p_n⟩ := p
  have hsn : p_n = s.next := hs.2.2
  subst hsn
  have HST := Lib.hid hs
  have HD := Lib.hid ha
  clear hs
  obtain ⟨qs, ⟨a, ca, rfl, hca, hra⟩, hall⟩ := ha
  clear hall hca hra
  have hg0 := (Grew.refl w).alloc (.cells #[p_q, p_r, .int .i64 s.next] 27)
  have x0 : (w.alloc (.cells #[p_q, p_r, .int .i64 s.next] 27)).cell? ⟨w.heap.size, 0, none⟩ = some p_q := by simp
  have x1 : (w.alloc (.cells #[p_q, p_r, .int .i64 s.next] 27)).cell? ⟨w.heap.size, 1, none⟩ = some p_r := by simp
  have x2 : (w.alloc (.cells #[p_q, p_r, .int .i64 s.next] 27)).cell? ⟨w.heap.size, 2, none⟩ = some (.int .i64 s.next) := by simp
  change Calls Tryz.prog _ #[.agg #[p_q, p_r, .int .i64 s.next], _] w _
  go_enter Tryz.func28, Tryz.ntmps28
  go_wp2_with (go_at_call 68; refine (specL15Run s ⟨p_q, p_r, s.next⟩ _ xs _ (HST.out.grew hg0) (HD.out.grew hg0) hx hz hzs).mono ?_; rintro e w1 ⟨v, rfl, ho, hb⟩; have HO := Lib.hid ho; obtain ⟨ra, rc, rfl⟩ := ownRss_slice ho; clear ho)
  go_ret
  exact ⟨rfl, hg0.trans hb⟩
set_option maxRecDepth 100000 in
set_option maxHeartbeats 2000000 in
theorem specDirContents (s : St) (p : PS) (va : Value) (xs : List Dr) (nm : ByteArray) (w : World) (hs : St.R w s p) (ha : RdDs w va xs) (hx : xs.length ≤ 1900000) (hz : szAll Dr.sz xs ≤ 4000000) (hzs : s.sz ≤ 4000000) :
    Calls Tryz.prog 31 #[p.v, va, .string nm] w fun e w' => ∃ v, e = .returned v ∧ w'.ownsRow w.heap.size 3 1 v (resIds (evRs xs s) nm).length (ints (resIds (evRs xs s) nm)) ∧ Grew w w' := by
  obtain ⟨p_q, p_r, p_n⟩ := p
  have hsn : p_n = s.next := hs.2.2
  subst hsn
  have HST := Lib.hid hs
  have HD := Lib.hid ha
  clear hs
  obtain ⟨qs, ⟨a, ca, rfl, hca, hra⟩, hall⟩ := ha
  clear hall hca hra
  have hg0 := (Grew.refl w).alloc (.cells #[p_q, p_r, .int .i64 s.next] 27)
  have x0 : (w.alloc (.cells #[p_q, p_r, .int .i64 s.next] 27)).cell? ⟨w.heap.size, 0, none⟩ = some p_q := by simp
  have x1 : (w.alloc (.cells #[p_q, p_r, .int .i64 s.next] 27)).cell? ⟨w.heap.size, 1, none⟩ = some p_r := by simp
  have x2 : (w.alloc (.cells #[p_q, p_r, .int .i64 s.next] 27)).cell? ⟨w.heap.size, 2, none⟩ = some (.int .i64 s.next) := by simp
  change Calls Tryz.prog _ #[.agg #[p_q, p_r, .int .i64 s.next], _, _] w _
  go_enter Tryz.func31, Tryz.ntmps31
  go_wp2_with (first | (go_at_call 25; refine (specEvaluate s ⟨p_q, p_r, s.next⟩ _ xs _ (HST.out.grew hg0) (HD.out.grew hg0) hx hz hzs).mono ?_; rintro e w1 ⟨v, rfl, ho, hb⟩; have HO := Lib.hid ho; obtain ⟨ra, rc, rfl⟩ := ownRss_slice ho; clear ho) | (go_at_call 23; refine (specResultIDs _ (evRs xs s) nm _ HO.out.rd (by have := (evRs_ok xs s).1; omega) (evRs_small hzs)).mono ?_; rintro e w2 ⟨v2, rfl, hv2, hb2⟩; have HV2 := Lib.hid hv2; obtain ⟨ia, ic, rfl⟩ := own_slice hv2; clear hv2))
  go_ret
  exact ⟨_, rfl, ownsRow_base HV2.out (hg0.trans hb).size, (hg0.trans hb).trans hb2⟩
set_option maxRecDepth 100000 in
set_option maxHeartbeats 2000000 in
theorem implEvaluate (s : St) (p : PS) (va : Value) (xs : List Dr) (w : World) (hs : St.R w s p) (ha : RdDs w va xs) (hx : xs.length ≤ 1900000) (hz : szAll Dr.sz xs ≤ 4000000) (hzs : s.sz ≤ 4000000) :
    Calls Tryz.prog 19 #[p.v, va] w fun e w' => ∃ v, e = .returned (.tuple #[v, .bool (evOk xs s)]) ∧ OwnRss w' w.heap.size w'.heap.size v (evRs xs s) ∧ Grew w w' := by
  obtain ⟨p_q, p_r, p_n⟩ := p
  have hsn : p_n = s.next := hs.2.2
  subst hsn
  have HST := Lib.hid hs
  have HD := Lib.hid ha
  clear hs
  obtain ⟨qs, ⟨a, ca, rfl, hca, hra⟩, hall⟩ := ha
  clear hall hca hra
  have hg0 := (Grew.refl w).alloc (.cells #[p_q, p_r, .int .i64 s.next] 27)
  have x0 : (w.alloc (.cells #[p_q, p_r, .int .i64 s.next] 27)).cell? ⟨w.heap.size, 0, none⟩ = some p_q := by simp
  have x1 : (w.alloc (.cells #[p_q, p_r, .int .i64 s.next] 27)).cell? ⟨w.heap.size, 1, none⟩ = some p_r := by simp
  have x2 : (w.alloc (.cells #[p_q, p_r, .int .i64 s.next] 27)).cell? ⟨w.heap.size, 2, none⟩ = some (.int .i64 s.next) := by simp
  change Calls Tryz.prog _ #[.agg #[p_q, p_r, .int .i64 s.next], _] w _
  go_enter Tryz.func19, Tryz.ntmps19
  go_wp2_with fail
  refine wp_region_noPanic ?_
  refine wp_region_held_drew (S := (fun w' => (w'.cell? ⟨w.heap.size, 0, none⟩ = some (p_q) ∧ w'.cell? ⟨w.heap.size, 1, none⟩ = some (p_r) ∧ w'.cell? ⟨w.heap.size, 2, none⟩ = some (.int .i64 s.next) ∧ Grew (w.alloc (.cells #[p_q, p_r, .int .i64 s.next] 27)) w'))) (by kernel_rfl) ?h1_S ?h1_r
  case h1_S => exact ⟨grew_cell (Grew.refl _).drew x0, grew_cell (Grew.refl _).drew x1, grew_cell (Grew.refl _).drew x2, (Grew.refl _).drew⟩
  case h1_r =>
    intro HS
    first | refine sk' 0 HS ?_ | refine tk' 0 HS ?_
    first | refine sk' 1 HS ?_ | refine tk' 1 HS ?_
    first | refine sk' 2 HS ?_ | refine tk' 2 HS ?_
    refine cl' 3 fun K hK => ?_
    go_simp
    go_at_call 65
    refine (implDirNames _ xs _ (HD.out.grew (hg0.trans HS.2.2.2)) (by omega)).mono ?_
    rintro e w1 ⟨v1, rfl, hv1, hb⟩
    have HVN := Lib.hid (show Rd w1 v1 1 xs.length (strs (xs.map Dr.name)) by have h0 := rd_of_own hv1; rw [List.length_map] at h0; exact h0)
    obtain ⟨na, nc, rfl⟩ := own_slice hv1
    clear hv1
    refine hK.out _ _ ?s1_3 ?r1_3
    case s1_3 => (try dsimp only); exact ⟨grew_cell hb HS.1, grew_cell hb HS.2.1, grew_cell hb HS.2.2.1, HS.2.2.2.trans hb⟩
    case r1_3 =>
      clear HS hK K; intro HS
      try simp only [Act.put, lpa, lpb, lpc]
      refine cl' 4 fun K hK => ?_
      go_simp
      go_at_call 64
      refine (implEvaluated s ⟨p_q, p_r, s.next⟩ _ xs _ _ (HST.out.grew (hg0.trans HS.2.2.2)) (HD.out.grew (hg0.trans HS.2.2.2)) (by simpa using HVN.out) hx hz hzs).mono ?_
      rintro e w5 ⟨v, rfl, ho, hb⟩
      have HO := Lib.hid (OwnRss.lo ho ((hg0.trans HS.2.2.2).size))
      obtain ⟨ra, rc, rfl⟩ := ownRss_slice ho
      clear ho
      refine hK.out _ _ ?s1_4 ?r1_4
      case s1_4 => (try dsimp only); exact ⟨grew_cell hb HS.1, grew_cell hb HS.2.1, grew_cell hb HS.2.2.1, HS.2.2.2.trans hb⟩
      case r1_4 =>
        clear HS hK K; intro HS
        try simp only [Act.put, lpa, lpb, lpc]
        first | refine sk' 5 HS ?_ | refine tk' 5 HS ?_
        first | refine sk' 6 HS ?_ | refine tk' 6 HS ?_
        first | refine sk' 7 HS ?_ | refine tk' 7 HS ?_
        first | refine sk' 8 HS ?_ | refine tk' 8 HS ?_
        first | refine sk' 9 HS ?_ | refine tk' 9 HS ?_
        first | refine sk' 10 HS ?_ | refine tk' 10 HS ?_
        first | refine sk' 11 HS ?_ | refine tk' 11 HS ?_
        refine wpAnyH_done (by kernel_rfl) ?_ _
        refine NoPanic.normal ?_
        go_wp2
        go_ret2
        exact ⟨_, rfl, HO.out, (hg0.trans HS.2.2.2)⟩
set_option maxRecDepth 100000 in
set_option maxHeartbeats 2000000 in
theorem implEvaluationPasses (s : St) (p : PS) (va : Value) (xs : List Dr) (w : World) (hs : St.R w s p) (ha : RdDs w va xs) (hx : xs.length ≤ 1900000) (hz : szAll Dr.sz xs ≤ 4000000) (hzs : s.sz ≤ 4000000) :
    Calls Tryz.prog 27 #[p.v, va] w fun e w' => e = .returned (.int .i64 (evT xs s)) ∧ Grew w w' := by
  obtain ⟨p_q, p_r, p_n⟩ := p
  have hsn : p_n = s.next := hs.2.2
  subst hsn
  have HST := Lib.hid hs
  have HD := Lib.hid ha
  clear hs
  obtain ⟨qs, ⟨a, ca, rfl, hca, hra⟩, hall⟩ := ha
  clear hall hca hra
  have hg0 := (Grew.refl w).alloc (.cells #[p_q, p_r, .int .i64 s.next] 27)
  have x0 : (w.alloc (.cells #[p_q, p_r, .int .i64 s.next] 27)).cell? ⟨w.heap.size, 0, none⟩ = some p_q := by simp
  have x1 : (w.alloc (.cells #[p_q, p_r, .int .i64 s.next] 27)).cell? ⟨w.heap.size, 1, none⟩ = some p_r := by simp
  have x2 : (w.alloc (.cells #[p_q, p_r, .int .i64 s.next] 27)).cell? ⟨w.heap.size, 2, none⟩ = some (.int .i64 s.next) := by simp
  change Calls Tryz.prog _ #[.agg #[p_q, p_r, .int .i64 s.next], _] w _
  go_enter Tryz.func27, Tryz.ntmps27
  go_wp2_with fail
  refine wp_region_noPanic ?_
  refine wp_region_held_drew (S := (fun w' => (w'.cell? ⟨w.heap.size, 0, none⟩ = some (p_q) ∧ w'.cell? ⟨w.heap.size, 1, none⟩ = some (p_r) ∧ w'.cell? ⟨w.heap.size, 2, none⟩ = some (.int .i64 s.next) ∧ Grew (w.alloc (.cells #[p_q, p_r, .int .i64 s.next] 27)) w'))) (by kernel_rfl) ?h2_S ?h2_r
  case h2_S => exact ⟨grew_cell (Grew.refl _).drew x0, grew_cell (Grew.refl _).drew x1, grew_cell (Grew.refl _).drew x2, (Grew.refl _).drew⟩
  case h2_r =>
    intro HS
    first | refine sk' 0 HS ?_ | refine tk' 0 HS ?_
    first | refine sk' 1 HS ?_ | refine tk' 1 HS ?_
    first | refine sk' 2 HS ?_ | refine tk' 2 HS ?_
    refine cl' 3 fun K hK => ?_
    go_simp
    go_at_call 65
    refine (implDirNames _ xs _ (HD.out.grew (hg0.trans HS.2.2.2)) (by omega)).mono ?_
    rintro e w1 ⟨v1, rfl, hv1, hb⟩
    have HVN := Lib.hid (show Rd w1 v1 1 xs.length (strs (xs.map Dr.name)) by have h0 := rd_of_own hv1; rw [List.length_map] at h0; exact h0)
    obtain ⟨na, nc, rfl⟩ := own_slice hv1
    clear hv1
    refine hK.out _ _ ?s2_3 ?r2_3
    case s2_3 => (try dsimp only); exact ⟨grew_cell hb HS.1, grew_cell hb HS.2.1, grew_cell hb HS.2.2.1, HS.2.2.2.trans hb⟩
    case r2_3 =>
      clear HS hK K; intro HS
      try simp only [Act.put, lpa, lpb, lpc]
      refine cl' 4 fun K hK => ?_
      go_simp
      go_at_call 64
      refine (implEvaluated s ⟨p_q, p_r, s.next⟩ _ xs _ _ (HST.out.grew (hg0.trans HS.2.2.2)) (HD.out.grew (hg0.trans HS.2.2.2)) (by simpa using HVN.out) hx hz hzs).mono ?_
      rintro e w5 ⟨v, rfl, ho, hb⟩
      have HO := Lib.hid (OwnRss.lo ho ((hg0.trans HS.2.2.2).size))
      obtain ⟨ra, rc, rfl⟩ := ownRss_slice ho
      clear ho
      refine hK.out _ _ ?s2_4 ?r2_4
      case s2_4 => (try dsimp only); exact ⟨grew_cell hb HS.1, grew_cell hb HS.2.1, grew_cell hb HS.2.2.1, HS.2.2.2.trans hb⟩
      case r2_4 =>
        clear HS hK K; intro HS
        try simp only [Act.put, lpa, lpb, lpc]
        first | refine sk' 5 HS ?_ | refine tk' 5 HS ?_
        first | refine sk' 6 HS ?_ | refine tk' 6 HS ?_
        first | refine sk' 7 HS ?_ | refine tk' 7 HS ?_
        first | refine sk' 8 HS ?_ | refine tk' 8 HS ?_
        first | refine sk' 9 HS ?_ | refine tk' 9 HS ?_
        first | refine sk' 10 HS ?_ | refine tk' 10 HS ?_
        first | refine sk' 11 HS ?_ | refine tk' 11 HS ?_
        refine wpAnyH_done (by kernel_rfl) ?_ _
        refine NoPanic.normal ?_
        go_wp2
        go_ret
        exact ⟨rfl, (hg0.trans HS.2.2.2)⟩
set_option maxRecDepth 100000 in
set_option maxHeartbeats 2000000 in
theorem implDirContents (s : St) (p : PS) (va : Value) (xs : List Dr) (nm : ByteArray) (w : World) (hs : St.R w s p) (ha : RdDs w va xs) (hx : xs.length ≤ 1900000) (hz : szAll Dr.sz xs ≤ 4000000) (hzs : s.sz ≤ 4000000) :
    Calls Tryz.prog 30 #[p.v, va, .string nm] w fun e w' => ∃ v, e = .returned v ∧ w'.ownsRow w.heap.size 3 1 v (resIds (evRs xs s) nm).length (ints (resIds (evRs xs s) nm)) ∧ Grew w w' := by
  obtain ⟨p_q, p_r, p_n⟩ := p
  have hsn : p_n = s.next := hs.2.2
  subst hsn
  have HST := Lib.hid hs
  have HD := Lib.hid ha
  clear hs
  obtain ⟨qs, ⟨a, ca, rfl, hca, hra⟩, hall⟩ := ha
  clear hall hca hra
  have hg0 := (Grew.refl w).alloc (.cells #[p_q, p_r, .int .i64 s.next] 27)
  have x0 : (w.alloc (.cells #[p_q, p_r, .int .i64 s.next] 27)).cell? ⟨w.heap.size, 0, none⟩ = some p_q := by simp
  have x1 : (w.alloc (.cells #[p_q, p_r, .int .i64 s.next] 27)).cell? ⟨w.heap.size, 1, none⟩ = some p_r := by simp
  have x2 : (w.alloc (.cells #[p_q, p_r, .int .i64 s.next] 27)).cell? ⟨w.heap.size, 2, none⟩ = some (.int .i64 s.next) := by simp
  change Calls Tryz.prog _ #[.agg #[p_q, p_r, .int .i64 s.next], _, _] w _
  go_enter Tryz.func30, Tryz.ntmps30
  go_wp2_with (first | (go_at_call 19; refine (implEvaluate s ⟨p_q, p_r, s.next⟩ _ xs _ (HST.out.grew hg0) (HD.out.grew hg0) hx hz hzs).mono ?_; rintro e w1 ⟨v, rfl, ho, hb⟩; have HO := Lib.hid ho; obtain ⟨ra, rc, rfl⟩ := ownRss_slice ho; clear ho) | (go_at_call 21; refine (implResultIDs _ (evRs xs s) nm _ HO.out.rd (by have := (evRs_ok xs s).1; omega) (evRs_small hzs)).mono ?_; rintro e w2 ⟨v2, rfl, hv2, hb2⟩; have HV2 := Lib.hid hv2; obtain ⟨ia, ic, rfl⟩ := own_slice hv2; clear hv2))
  go_ret
  exact ⟨_, rfl, ownsRow_base HV2.out (hg0.trans hb).size, (hg0.trans hb).trans hb2⟩
end Go.Proofs.YtkkbhhmhkpgbkaaGreat
namespace Go.Proofs.YtkkbhhmhkpgbkaaGreat
open Go.RowKit
set_option linter.unusedVariables false
set_option linter.unusedSimpArgs false
def rsSm (rs : List Rs) : Prop := rs.length ≤ 6 ∧ ∀ x, x ∈ rs → x.ids.length ≤ 12
theorem rsSm.small {rs : List Rs} (h : rsSm rs) : ∀ x, x ∈ rs → x.small := fun x hx => by have := h.2 x hx; unfold Rs.small; omega
theorem rsSm.ans {rs : List Rs} (h : ansOk rs) : rsSm rs := ⟨by have := h.1; omega, fun x hx => by have := (h.2 x hx).2.2.2; omega⟩
theorem rsSm.ev {d : List Dr} {s : St} (hs : stOk 12 s) (hd : dirsOk 6 d) : rsSm (evRs d s) := by
  obtain ⟨h1, h2⟩ := evRs_ok d s
  exact ⟨Nat.le_trans h1 hd.1, fun x hx => Nat.le_trans (h2 x hx) hs.2.1⟩
theorem rsSm.set {rs : List Rs} (h : rsSm rs) {i : Nat} {y : Rs} (hy : y.ids.length ≤ 12) : rsSm (rs.set i y) := ⟨by rw [List.length_set]; exact h.1, fun z hz => (List.mem_or_eq_of_mem_set hz).elim (h.2 z) (fun e => e ▸ hy)⟩
theorem GLr.of {w : World} {lo hi : Nat} {v : Value} {rs : List Rs} (h : OwnRss w lo hi v rs) (hh : hi ≤ w.heap.size) : GLr w lo v rs := by
  obtain ⟨ps, h1, h2, _⟩ := h
  exact ⟨ps, h1.1, h2.mono fun x p k => k.mono (Nat.le_refl _) hh⟩
theorem OwnRss.shape {w : World} {lo hi : Nat} {v : Value} {rs : List Rs} (h : OwnRss w lo hi v rs) : ∃ a c, v = .slice a rs.length c := by
  obtain ⟨ps, h1, _⟩ := h
  exact own_slice h1.1
theorem GLr.put {w : World} {base g n cap i : Nat} {xs : List Rs} {ps : List P2} {p : P2} {v : Value} {ids : List Int} {nm : ByteArray} (h1 : w.ownsRow base 86 2 (.slice (some ⟨g, 0, none⟩) n cap) n (rows P2.c ps)) (h2 : All2 (Rs.O w base w.heap.size) xs ps) (hn : xs.length = n)
    (hp : ps[i]? = some p) (hnm : p.name = nm) (hy : w.ownsRow base 3 1 v ids.length (ints ids)) : GLr (w.setCell ⟨g, i * 2 + 1, none⟩ v) base (.slice (some ⟨g, 0, none⟩) n cap) (xs.set i ⟨nm, ids⟩) := by
  have ht : Touch g (g + 1) w (w.setCell ⟨g, i * 2 + 1, none⟩ v) := Touch.setCell (p := ⟨g, i * 2 + 1, none⟩) (Touch.refl g (g + 1) w) (Nat.le_refl g) (Nat.lt_succ_self g) _
  have T : ∀ x q, Rs.O w base w.heap.size x q → Rs.O (w.setCell ⟨g, i * 2 + 1, none⟩ v) base (w.setCell ⟨g, i * 2 + 1, none⟩ v).heap.size x q := fun x q hq => by
    have h6 := hq.touch' ht (fun u c hu hc => by
      simp only [Rs.subs, List.mem_cons, List.not_mem_nil, or_false] at hu
      subst hu
      have h7 := own_type hq.2.1 h1 (by decide) hc
      have h8 : c ≠ g := fun e => h7 (by rw [e]; rfl)
      omega)
    exact h6.mono (Nat.le_refl _) (by simp)
  refine ⟨ps.set i ⟨p.name, v⟩, ?_, (h2.mono T).set i ⟨nm, ids⟩ ⟨p.name, v⟩ (T _ _ ⟨hnm, own_of hy⟩)⟩
  have e := ownsRow_stores h1 (i * 2 + 1) v
  rw [rows_set1 P2.len ps i 1 p ⟨p.name, v⟩ v hp (by decide) rfl] at e
  rw [List.length_set, hn]; exact e
set_option maxRecDepth 100000 in
set_option maxHeartbeats 8000000 in
theorem drawIsFixpoint (v : Value) (w : World) (hc : Cd w v) :
    Calls Tryz.prog 16 #[v] w fun e w' => ∃ (p : PS) (u t : Value), e = .returned (.tuple #[p.v, u, t]) ∧ ∃ s d, Ev w' w.heap.size p u s d ∧ ∃ rs, rsSm rs ∧ GLr w' w.heap.size t rs ∧ Grew w w' := by
  obtain ⟨n, bs, hr, hn⟩ := hc
  have B0 := Box.new w #[.slice none 0 0, .slice none 0 0, .int .i64 0] 27 3 rfl
  have g0 := (Grew.refl w).alloc (.cells #[.slice none 0 0, .slice none 0 0, .int .i64 0] 27)
  have hs0 : (w.alloc (.cells #[.slice none 0 0, .slice none 0 0, .int .i64 0] 27)).heap.size = w.heap.size + 1 := by simp
  go_enter Tryz.func16, Tryz.ntmps16
  go_wp2_with fail
  refine (l01New v n bs _ (hr.grew g0) hn).mono ?_
  rintro e w1 ⟨rfl, hc1, hg1, hs1⟩
  rw [hs0] at hc1 hs1
  go_wp2_with fail
  refine (l15Case _ _ hc1).mono ?_
  rintro e w2 ⟨p, u, rfl, s, d, hok, hdo, hst, hgl, hd⟩
  have hne : w.heap.size ≠ w.heap.size + 1 := by omega
  have B2 := (B0.grew hg1).d hd hne
  have G2 : Grew (w.alloc (.cells #[.slice none 0 0, .slice none 0 0, .int .i64 0] 27)) w2 := D.out hg1 hd (by rw [hs0]; exact Nat.le_refl _)
  have HST := Lib.hid hst
  have HGL := Lib.hid hgl
  obtain ⟨xa, xc, ya, yc, hp⟩ := hst.slices
  subst hp
  obtain ⟨da, dc, rfl⟩ := GL.slice hgl
  clear hst hgl B0
  have hs2 := hd.size
  have gA := (Grew.refl w2).alloc (.cells #[.slice xa s.schema.length xc, .slice ya s.files.length yc, .int .i64 s.next] 27)
  have CA : CS (w2.alloc (.cells #[.slice xa s.schema.length xc, .slice ya s.files.length yc, .int .i64 s.next] 27)) w2.heap.size ⟨.slice xa s.schema.length xc, .slice ya s.files.length yc, s.next⟩ := CS.new rfl
  have HST3 := Lib.hid (HST.out.grew gA)
  have HGL3 := Lib.hid (HGL.out.grew gA)
  have B3 := B2.grew gA
  have D3 := hd.grew gA
  have G3 := G2.trans gA
  have hz := hok.sz (by decide)
  have hdz := ds_szZ hdo
  have hdl := hdo.1
  have HSO := Lib.hid hok
  have HDO := Lib.hid hdo
  have hfl := hok.2.1
  clear HST HGL B2 hok hdo
  go_wp2_with fail
  generalize w2.alloc (.cells #[.slice xa s.schema.length xc, .slice ya s.files.length yc, .int .i64 s.next] 27) = W at CA HST3 HGL3 B3 D3 G3 ⊢
  have hsW := CA.lt
  refine (specEvaluate s ⟨.slice xa s.schema.length xc, .slice ya s.files.length yc, s.next⟩ _ d _ HST3.out.rd HGL3.out.rd (by omega) (by omega) (by omega)).mono ?_
  rintro e w3 ⟨t, rfl, hev, g3⟩
  have HRS := Lib.hid (GLr.of hev (Nat.le_refl _))
  have HSM := Lib.hid (rsSm.ev HSO.out HDO.out)
  obtain ⟨ta, tc, rfl⟩ := GL.slice HRS.out
  clear hev
  have CB := CA.grew g3
  have DW := (D.refl D3.cur).grew g3
  have D1 := D3.grew g3
  obtain ⟨ok, hok⟩ : ∃ b, evOk d s = b := ⟨_, rfl⟩
  rw [hok]
  clear hok
  generalize evRs d s = rs at HRS HSM ⊢
  obtain ⟨m, hm⟩ : ∃ m, rs.length = m := ⟨_, rfl⟩
  have HM := Lib.hid hm
  rw [hm] at HRS ⊢
  clear hm
  go_wp2_with fail
  refine (l01Below _ _ D1.cur 4 (by omega) (by omega)).mono ?_
  rintro e w4 ⟨x, rfl, hx, e4⟩
  have CC := CB.d e4 (by omega)
  have DX := DW.trans e4
  have D2 := D1.trans e4
  have HRT := Lib.hid (HRS.out.d e4 (by omega))
  clear CA CB DW D1 HRS
  have hxs : x = 0 ∨ x = 1 ∨ 2 ≤ x := by omega
  rcases hxs with rfl | rfl | hx2
  · go_wp2_with fail
    refine (l14Answers _ _ D2.cur).mono ?_
    rintro e w5 ⟨tt, xs, rfl, hxs, hgx, e5⟩
    have HX := Lib.hid hgx
    obtain ⟨xb, xd, rfl⟩ := GL.slice hgx
    have hs5 := D2.size
    have hs3 := DX.size
    clear hgx
    obtain ⟨c0, c1, c2, _⟩ := (CC.d e5 (by omega))
    dsimp only at c0 c1 c2
    have B4 := B3.d (DX.trans e5) hne
    obtain ⟨b0, f0⟩ := B4.2.1 0 (by decide)
    obtain ⟨b1, f1⟩ := B4.2.1 1 (by decide)
    obtain ⟨b2, f2⟩ := B4.2.1 2 (by decide)
    have z0 := B4.2.2
    have HE : Hid (Ev (World.put3 w5 w.heap.size ⟨.slice xa s.schema.length xc, .slice ya s.files.length yc, s.next⟩) w.heap.size ⟨.slice xa s.schema.length xc, .slice ya s.files.length yc, s.next⟩ (.slice da d.length dc) s d) := Lib.hid ⟨HSO.out, HDO.out, ((HST3.out.d (DX.trans e5) (by omega)).tch (touch3 w5 w.heap.size ⟨.slice xa s.schema.length xc, .slice ya s.files.length yc, s.next⟩) (by omega)).base (b := w.heap.size) (by omega), ((HGL3.out.d (DX.trans e5) (by omega)).tch (touch3 w5 w.heap.size ⟨.slice xa s.schema.length xc, .slice ya s.files.length yc, s.next⟩) (by omega)).base (base' := w.heap.size) (by omega)⟩
    have HR9 := Lib.hid ((HX.out.tch (touch3 w5 w.heap.size ⟨.slice xa s.schema.length xc, .slice ya s.files.length yc, s.next⟩) (by omega)).base (base' := w.heap.size) (by omega))
    have HG : Grew w (World.put3 w5 w.heap.size ⟨.slice xa s.schema.length xc, .slice ya s.files.length yc, s.next⟩) := Touch.new (g0.trans (D.out hg1 (D2.trans e5) (by rw [hs0]; exact Nat.le_refl _))) (touch3 w5 w.heap.size ⟨.slice xa s.schema.length xc, .slice ya s.files.length yc, s.next⟩) (Nat.le_refl _)
    have HG9 := Lib.hid HG
    clear HG B4
    go_wp2
    refine bodyPost_ret (v := .tuple #[PS.v ⟨.slice xa s.schema.length xc, .slice ya s.files.length yc, s.next⟩, .slice da d.length dc, .slice xb xs.length xd]) (by simp [results, Tryz.results16, go_sem, f0, f1, f2]) rfl ⟨⟨.slice xa s.schema.length xc, .slice ya s.files.length yc, s.next⟩, .slice da d.length dc, .slice xb xs.length xd, rfl, s, d, HE.out, xs, rsSm.ans hxs, HR9.out, HG9.out⟩
  · by_cases hm0 : 0 < m
    · have hm0' : (0 : Int) < m := by omega
      go_wp2_with fail
      refine (l14Ids _ _ D2.cur).mono ?_
      rintro e w5 ⟨tt, ids, rfl, hids, hown, e5⟩
      have HI := Lib.hid hown
      obtain ⟨xb, xd, rfl⟩ := own_slice hown
      have hs4 := DX.size
      clear hown
      obtain ⟨ps, r1, r2⟩ := HRT.out.d e5 (by omega)
      rw [HM.out] at r1
      obtain ⟨fg, fc, hfg⟩ := own_at0 r1 hm0
      simp only [Value.slice.injEq] at hfg
      obtain ⟨rfl, _, rfl⟩ := hfg
      have hpl : ps.length = m := by rw [← r2.1, HM.out]
      obtain ⟨y, hy⟩ : ∃ y, ps[0]? = some y := ⟨_, List.getElem?_eq_getElem (by omega)⟩
      obtain ⟨rx, hrx, hO⟩ := r2.get hy
      have hgl := GLr.put r1 r2 HM.out hy rfl (ownsRow_base HI.out (by omega))
      have HGN := Lib.hid hgl
      have hfgl := (r1.lt fg rfl)
      obtain ⟨cb0, hcb0⟩ := own_some r1 1 (by omega)
      have hfz := r1.frozenAt
      have DY := (DX.trans e5).setCell (p := ⟨fg, 0 * 2 + 1, none⟩) (by dsimp only; omega) (.slice xb ids.length xd)
      have DZ := (D2.trans e5).setCell (p := ⟨fg, 0 * 2 + 1, none⟩) (by have := D3.size; dsimp only; omega) (.slice xb ids.length xd)
      have HSY := Lib.hid (HSM.out.set (i := 0) (y := ⟨y.name, ids⟩) (by have := hids.2.2; dsimp only; omega))
      have CY := (CC.d e5 (by omega)).off (q := ⟨fg, 0 * 2 + 1, none⟩) (by dsimp only; omega) (.slice xb ids.length xd)
      clear hgl r1 r2 hO hrx hy hpl HRT
      obtain ⟨c0, c1, c2, _⟩ := CY
      dsimp only at c0 c1 c2
      have B4 := B3.d DY hne
      obtain ⟨b0, f0⟩ := B4.2.1 0 (by decide)
      obtain ⟨b1, f1⟩ := B4.2.1 1 (by decide)
      obtain ⟨b2, f2⟩ := B4.2.1 2 (by decide)
      have z0 := B4.2.2
      have HE : Hid (Ev (World.put3 (w5.setCell ⟨fg, 0 * 2 + 1, none⟩ (.slice xb ids.length xd)) w.heap.size ⟨.slice xa s.schema.length xc, .slice ya s.files.length yc, s.next⟩) w.heap.size ⟨.slice xa s.schema.length xc, .slice ya s.files.length yc, s.next⟩ (.slice da d.length dc) s d) := Lib.hid ⟨HSO.out, HDO.out, ((HST3.out.d DY (by omega)).tch (touch3 (w5.setCell ⟨fg, 0 * 2 + 1, none⟩ (.slice xb ids.length xd)) w.heap.size ⟨.slice xa s.schema.length xc, .slice ya s.files.length yc, s.next⟩) (by omega)).base (b := w.heap.size) (by omega), ((HGL3.out.d DY (by omega)).tch (touch3 (w5.setCell ⟨fg, 0 * 2 + 1, none⟩ (.slice xb ids.length xd)) w.heap.size ⟨.slice xa s.schema.length xc, .slice ya s.files.length yc, s.next⟩) (by omega)).base (base' := w.heap.size) (by omega)⟩
      have HR9 := Lib.hid ((HGN.out.tch (touch3 (w5.setCell ⟨fg, 0 * 2 + 1, none⟩ (.slice xb ids.length xd)) w.heap.size ⟨.slice xa s.schema.length xc, .slice ya s.files.length yc, s.next⟩) (by omega)).base (base' := w.heap.size) (by omega))
      have HG : Grew w (World.put3 (w5.setCell ⟨fg, 0 * 2 + 1, none⟩ (.slice xb ids.length xd)) w.heap.size ⟨.slice xa s.schema.length xc, .slice ya s.files.length yc, s.next⟩) := Touch.new (g0.trans (D.out hg1 DZ (by rw [hs0]; exact Nat.le_refl _))) (touch3 (w5.setCell ⟨fg, 0 * 2 + 1, none⟩ (.slice xb ids.length xd)) w.heap.size ⟨.slice xa s.schema.length xc, .slice ya s.files.length yc, s.next⟩) (Nat.le_refl _)
      have HG9 := Lib.hid HG
      clear HG B4
      go_wp2
      refine bodyPost_ret (v := .tuple #[PS.v ⟨.slice xa s.schema.length xc, .slice ya s.files.length yc, s.next⟩, .slice da d.length dc, .slice (some ⟨fg, 0, none⟩) m tc]) (by simp [results, Tryz.results16, go_sem, f0, f1, f2]) rfl ⟨⟨.slice xa s.schema.length xc, .slice ya s.files.length yc, s.next⟩, .slice da d.length dc, .slice (some ⟨fg, 0, none⟩) m tc, rfl, s, d, HE.out, _, HSY.out, HR9.out, HG9.out⟩
    · have hm0' : ¬ ((0 : Int) < m) := by omega
      obtain ⟨c0, c1, c2, _⟩ := CC
      dsimp only at c0 c1 c2
      have B4 := B3.d DX hne
      obtain ⟨b0, f0⟩ := B4.2.1 0 (by decide)
      obtain ⟨b1, f1⟩ := B4.2.1 1 (by decide)
      obtain ⟨b2, f2⟩ := B4.2.1 2 (by decide)
      have z0 := B4.2.2
      have HE : Hid (Ev (World.put3 w4 w.heap.size ⟨.slice xa s.schema.length xc, .slice ya s.files.length yc, s.next⟩) w.heap.size ⟨.slice xa s.schema.length xc, .slice ya s.files.length yc, s.next⟩ (.slice da d.length dc) s d) := Lib.hid ⟨HSO.out, HDO.out, ((HST3.out.d DX (by omega)).tch (touch3 w4 w.heap.size ⟨.slice xa s.schema.length xc, .slice ya s.files.length yc, s.next⟩) (by omega)).base (b := w.heap.size) (by omega), ((HGL3.out.d DX (by omega)).tch (touch3 w4 w.heap.size ⟨.slice xa s.schema.length xc, .slice ya s.files.length yc, s.next⟩) (by omega)).base (base' := w.heap.size) (by omega)⟩
      have HR9 := Lib.hid ((HRT.out.tch (touch3 w4 w.heap.size ⟨.slice xa s.schema.length xc, .slice ya s.files.length yc, s.next⟩) (by omega)).base (base' := w.heap.size) (by omega))
      have HG : Grew w (World.put3 w4 w.heap.size ⟨.slice xa s.schema.length xc, .slice ya s.files.length yc, s.next⟩) := Touch.new (g0.trans (D.out hg1 D2 (by rw [hs0]; exact Nat.le_refl _))) (touch3 w4 w.heap.size ⟨.slice xa s.schema.length xc, .slice ya s.files.length yc, s.next⟩) (Nat.le_refl _)
      have HG9 := Lib.hid HG
      clear HG B4
      go_wp2
      refine bodyPost_ret (v := .tuple #[PS.v ⟨.slice xa s.schema.length xc, .slice ya s.files.length yc, s.next⟩, .slice da d.length dc, .slice ta m tc]) (by simp [results, Tryz.results16, go_sem, f0, f1, f2]) rfl ⟨⟨.slice xa s.schema.length xc, .slice ya s.files.length yc, s.next⟩, .slice da d.length dc, .slice ta m tc, rfl, s, d, HE.out, _, HSM.out, HR9.out, HG9.out⟩
  · have hx0 : ¬ (x = 0) := by omega
    have hx1 : ¬ (x = 1) := by omega
    obtain ⟨c0, c1, c2, _⟩ := CC
    dsimp only at c0 c1 c2
    have B4 := B3.d DX hne
    obtain ⟨b0, f0⟩ := B4.2.1 0 (by decide)
    obtain ⟨b1, f1⟩ := B4.2.1 1 (by decide)
    obtain ⟨b2, f2⟩ := B4.2.1 2 (by decide)
    have z0 := B4.2.2
    have HE : Hid (Ev (World.put3 w4 w.heap.size ⟨.slice xa s.schema.length xc, .slice ya s.files.length yc, s.next⟩) w.heap.size ⟨.slice xa s.schema.length xc, .slice ya s.files.length yc, s.next⟩ (.slice da d.length dc) s d) := Lib.hid ⟨HSO.out, HDO.out, ((HST3.out.d DX (by omega)).tch (touch3 w4 w.heap.size ⟨.slice xa s.schema.length xc, .slice ya s.files.length yc, s.next⟩) (by omega)).base (b := w.heap.size) (by omega), ((HGL3.out.d DX (by omega)).tch (touch3 w4 w.heap.size ⟨.slice xa s.schema.length xc, .slice ya s.files.length yc, s.next⟩) (by omega)).base (base' := w.heap.size) (by omega)⟩
    have HR9 := Lib.hid ((HRT.out.tch (touch3 w4 w.heap.size ⟨.slice xa s.schema.length xc, .slice ya s.files.length yc, s.next⟩) (by omega)).base (base' := w.heap.size) (by omega))
    have HG : Grew w (World.put3 w4 w.heap.size ⟨.slice xa s.schema.length xc, .slice ya s.files.length yc, s.next⟩) := Touch.new (g0.trans (D.out hg1 D2 (by rw [hs0]; exact Nat.le_refl _))) (touch3 w4 w.heap.size ⟨.slice xa s.schema.length xc, .slice ya s.files.length yc, s.next⟩) (Nat.le_refl _)
    have HG9 := Lib.hid HG
    clear HG B4
    go_wp2
    refine bodyPost_ret (v := .tuple #[PS.v ⟨.slice xa s.schema.length xc, .slice ya s.files.length yc, s.next⟩, .slice da d.length dc, .slice ta m tc]) (by simp [results, Tryz.results16, go_sem, f0, f1, f2]) rfl ⟨⟨.slice xa s.schema.length xc, .slice ya s.files.length yc, s.next⟩, .slice da d.length dc, .slice ta m tc, rfl, s, d, HE.out, _, HSM.out, HR9.out, HG9.out⟩
end Go.Proofs.YtkkbhhmhkpgbkaaGreat
namespace Go.Proofs.YtkkbhhmhkpgbkaaGreat
open Go.RowKit
set_option linter.unusedVariables false
end Go.Proofs.YtkkbhhmhkpgbkaaGreat
namespace Go.Proofs.YtkkbhhmhkpgbkaaGreat
open Go.RowKit
set_option linter.unusedVariables false
theorem names_rs {xs : List Dr} {rs : List Rs} (h : rs.map Rs.name = xs.map Dr.name) {i : Nat} {x : Dr} (hx : xs[i]? = some x) : ∃ r, rs[i]? = some r ∧ r.name = x.name := by
  have h1 := congrArg (·[i]?) h
  simp only [List.getElem?_map, hx, Option.map_some] at h1
  cases hr : rs[i]? with
  | none => rw [hr] at h1; cases h1
  | some r => rw [hr] at h1; exact ⟨r, rfl, by simpa using h1⟩
theorem fix_of {xs : List Dr} {s : St} {rs : List Rs} (h1 : stoB s = true) (h2 : stB xs = true) (hn : rs.map Rs.name = xs.map Dr.name) (hf : ∀ i x, xs[i]? = some x → selL x.query s.files rs = idsAt rs i) : fixB xs s rs = true := by
  have hl : xs.length = rs.length := by have := congrArg List.length hn; simpa using this.symm
  unfold fixB namesB
  simp only [Bool.and_eq_true, decide_eq_true_eq]
  refine ⟨h1, h2, ⟨hl, allFrom_yes fun k x hx => ?_⟩, allFrom_yes fun k x hx => ?_⟩
  · rw [Nat.zero_add]
    obtain ⟨r, hr, he⟩ := names_rs hn hx
    rw [nmAt_at hr, he]; exact beqB.2 rfl
  · rw [Nat.zero_add]
    obtain ⟨r, hr, he⟩ := names_rs hn hx
    rw [fxAt_at hr, hf k x hx, idsAt_get hr]
    exact sameB_yes rfl
theorem ev_parts {xs : List Dr} {s : St} (h : evOk xs s = true) : stB xs = true ∧ stoB s = true ∧ evRs xs s = (evP xs s.files).1 := by
  have h1 := h
  unfold evOk at h1
  simp only [Bool.and_eq_true] at h1
  exact ⟨h1.1, h1.2, by unfold evRs; rw [if_pos h]⟩
theorem ev_fixB {xs : List Dr} {s : St} (h : evOk xs s = true) : fixB xs s (evRs xs s) = true ∧ (evRs xs s).length = xs.length := by
  obtain ⟨h1, h2, h3⟩ := ev_parts h
  have h4 := evP_fix h1 s.files
  rw [h3]
  exact ⟨fix_of h2 h1 h4.1 h4.2, by have := congrArg List.length h4.1; simpa using this⟩
theorem ev_none {xs : List Dr} {s : St} (h : evOk xs s = false) : evRs xs s = [] := by unfold evRs; rw [if_neg (by rw [h]; decide)]
end Go.Proofs.YtkkbhhmhkpgbkaaGreat
namespace Go.Proofs.YtkkbhhmhkpgbkaaGreat.fnFixpoint
open Go.RowKit
set_option linter.unusedVariables false
theorem sameRs_me (x : Rs) : sameRs x x = true := by
  unfold sameRs
  rw [sameB_yes rfl]
  simp
theorem eqRs_me (xs : List Rs) : eqL sameRs xs xs = true := by
  unfold eqL
  exact @decide_eq_true _ (Classical.propDecidable _) ⟨rfl, fun j x y h1 h2 => by rw [h1] at h2; cases h2; exact sameRs_me _⟩
set_option maxRecDepth 100000 in
set_option maxHeartbeats 16000000 in
theorem walkLaw (w : World) (v : Value) (n : Nat) (xs : List Int) (hr : Rd w v 1 n (xs.map (Value.int .u8))) (hn : n ≤ maxLen) (ho : ∀ a : Int, a ∈ xs → 0 ≤ a ∧ a ≤ 255) :
    Calls Tryz.prog 5 #[v] w fun e w' => e = .returned (.bool true) ∧ Grew w w' := by
  clear ho
  by_cases hbig : (1048576 : Int) < (n : Int)
  · have hd : decide ((1048576 : Int) < (n : Int)) = true := by simp [hbig]
    go_enter Tryz.func5, Tryz.ntmps5
    go_wp2_with fail
    refine (big v n _ _ hr hn).mono ?_
    rintro e w1 ⟨rfl, rfl⟩
    go_wp2
    go_ret
    exact ⟨rfl, Grew.refl _⟩
  have hd : decide ((1048576 : Int) < (n : Int)) = false := by simp [hbig]
  have hcd : Cd w v := ⟨n, xs, hr, by omega⟩
  have G0 := Grew.refl w
  go_enter Tryz.func5, Tryz.ntmps5
  go_wp2_with fail
  refine (big v n _ _ hr hn).mono ?_
  rintro e w1 ⟨rfl, rfl⟩
  go_wp2_with fail
  refine (drawEvaluate v _ hcd).mono ?_
  rintro e w1 ⟨p, u, rfl, s_a, d_a, hev, g1⟩
  have G1 := G0.trans g1
  have so_a := hev.so
  have hz_a := so_a.sz (by decide)
  have hdz_a := ds_szZ hev.dk
  have hdl_a := hev.dk.1
  have R_sa := Lib.hid hev.st.rd
  have R_da := Lib.hid hev.dl.rd
  have HDK_a := Lib.hid hev.dk
  obtain ⟨xa_a, xc_a, ya_a, yc_a, da_a, dc_a, rfl, rfl⟩ := hev.shapes
  have hfl_a := so_a.2.1
  have HSO_a := Lib.hid so_a
  clear hev so_a
  have g2 := (Grew.refl w1).alloc (.cells #[.slice xa_a s_a.schema.length xc_a, .slice ya_a s_a.files.length yc_a, .int .i64 s_a.next] 27)
  have ba0 : (w1.alloc (.cells #[.slice xa_a s_a.schema.length xc_a, .slice ya_a s_a.files.length yc_a, .int .i64 s_a.next] 27)).cell? ⟨w1.heap.size, 0, none⟩ = some (.slice xa_a s_a.schema.length xc_a) := by simp
  have ba1 : (w1.alloc (.cells #[.slice xa_a s_a.schema.length xc_a, .slice ya_a s_a.files.length yc_a, .int .i64 s_a.next] 27)).cell? ⟨w1.heap.size, 1, none⟩ = some (.slice ya_a s_a.files.length yc_a) := by simp
  have ba2 : (w1.alloc (.cells #[.slice xa_a s_a.schema.length xc_a, .slice ya_a s_a.files.length yc_a, .int .i64 s_a.next] 27)).cell? ⟨w1.heap.size, 2, none⟩ = some (.int .i64 s_a.next) := by simp
  go_wp2_with fail
  generalize w1.alloc (.cells #[.slice xa_a s_a.schema.length xc_a, .slice ya_a s_a.files.length yc_a, .int .i64 s_a.next] 27) = w2 at g2 ba0 ba1 ba2 ⊢
  have G2 := G1.trans g2
  obtain ⟨ok, hok_⟩ : ∃ b, evOk d_a s_a = b := ⟨_, rfl⟩
  have H_ok := Lib.hid hok_
  clear hok_
  have HOK2 := Lib.hid (show evOk d_a s_a = (stB d_a && stoB s_a) from rfl)
  have HRK := evRs_ok d_a s_a
  have HES0 := evRs_small (xs := d_a) (s := s_a) (by omega)
  have HNO0 := fun (h : evOk d_a s_a = false) => ev_none h
  have HFX0 := fun (h : evOk d_a s_a = true) => ev_fixB h
  obtain ⟨RS, hRS⟩ : ∃ x, evRs d_a s_a = x := ⟨_, rfl⟩
  have HRS := Lib.hid hRS
  rw [hRS] at HRK HES0 HNO0 HFX0
  have hel := HRK.1
  have HES := Lib.hid HES0
  have HNO := Lib.hid HNO0
  have HFX := Lib.hid HFX0
  clear hRS HRK HES0 HNO0 HFX0
  obtain ⟨el, hel_⟩ : ∃ x, RS.length = x := ⟨_, rfl⟩
  have HEL := Lib.hid hel_
  rw [hel_] at hel
  clear hel_
  obtain ⟨tt, htt⟩ : ∃ x, evT d_a s_a = x := ⟨_, rfl⟩
  have HTT := Lib.hid htt
  clear htt
  refine (implEvaluate s_a ⟨.slice xa_a s_a.schema.length xc_a, .slice ya_a s_a.files.length yc_a, s_a.next⟩ _ d_a _ (St.R.grew R_sa.out (g2)) (RdDs.grew R_da.out (g2)) (by omega) (by omega) (by omega)).mono ?_
  rintro e w3 ⟨v_e, rfl, o_e, g3⟩
  have G3 := G2.trans g3
  replace ba0 := grew_cell g3 ba0
  replace ba1 := grew_cell g3 ba1
  replace ba2 := grew_cell g3 ba2
  rw [HRS.out] at o_e
  rw [H_ok.out]
  have R_e := Lib.hid (OwnRss.rd o_e)
  obtain ⟨eea, eec, rfl⟩ := OwnRss.shape o_e
  clear o_e
  rw [HEL.out] at R_e ⊢
  go_wp2_with fail
  refine (specEvaluate s_a ⟨.slice xa_a s_a.schema.length xc_a, .slice ya_a s_a.files.length yc_a, s_a.next⟩ _ d_a _ (St.R.grew R_sa.out ((g2.trans g3))) (RdDs.grew R_da.out ((g2.trans g3))) (by omega) (by omega) (by omega)).mono ?_
  rintro e w4 ⟨v_w, rfl, o_w, g4⟩
  have G4 := G3.trans g4
  replace ba0 := grew_cell g4 ba0
  replace ba1 := grew_cell g4 ba1
  replace ba2 := grew_cell g4 ba2
  rw [HRS.out] at o_w
  rw [H_ok.out]
  have R_w := Lib.hid (OwnRss.rd o_w)
  obtain ⟨ewa, ewc, rfl⟩ := OwnRss.shape o_w
  clear o_w
  rw [HEL.out] at R_w ⊢
  have HSE := Lib.hid (eqRs_me RS)
  have HLE : RS.length ≤ 4000000 := by rw [HEL.out]; omega
  have T_sa := Lib.hid (St.R.grew R_sa.out (((g2.trans g3).trans g4)))
  have T_da := Lib.hid (RdDs.grew R_da.out (((g2.trans g3).trans g4)))
  have T_e := Lib.hid (RdRs.grew R_e.out (g4))
  have T_w := Lib.hid R_w.out
  go_wp2_with fail
  refine wp_region_noPanic ?_
  refine wp_region_held_drew (S := (fun w' => (w'.cell? ⟨w1.heap.size, 0, none⟩ = some (.slice xa_a s_a.schema.length xc_a) ∧ w'.cell? ⟨w1.heap.size, 1, none⟩ = some (.slice ya_a s_a.files.length yc_a) ∧ w'.cell? ⟨w1.heap.size, 2, none⟩ = some (.int .i64 s_a.next) ∧ Grew w4 w'))) (by kernel_rfl) ?h1_S ?h1_r
  case h1_S => exact ⟨grew_cell (Grew.refl _).drew ba0, grew_cell (Grew.refl _).drew ba1, grew_cell (Grew.refl _).drew ba2, (Grew.refl _).drew⟩
  case h1_r =>
    intro HS
    first | refine sk' 0 HS ?_ | refine tk' 0 HS ?_
    first | refine sk' 1 HS ?_ | refine tk' 1 HS ?_
    first | refine sk' 2 HS ?_ | refine tk' 2 HS ?_
    first | refine sk' 3 HS ?_ | refine tk' 3 HS ?_
    first | refine sk' 4 HS ?_ | refine tk' 4 HS ?_
    first | refine sk' 5 HS ?_ | refine tk' 5 HS ?_
    refine cl' 6 fun K hK => ?_
    rw [if_pos (by rfl)]
    go_simp
    go_at_call 26
    refine (sameResults _ _ RS RS _ (RdRs.grew T_e.out HS.2.2.2) (RdRs.grew T_w.out HS.2.2.2) HLE HLE HES.out HES.out).mono ?_
    rintro e wr1 ⟨he, hb⟩
    rw [HSE.out] at he
    subst he
    refine hK.out _ _ ?s1_6 ?r1_6
    case s1_6 => exact ⟨grew_cell hb HS.1, grew_cell hb HS.2.1, grew_cell hb HS.2.2.1, HS.2.2.2.trans hb⟩
    case r1_6 =>
      clear HS hK K; intro HS
      try simp only [Act.put, lpa, lpb, lpc]
      first | refine sk' 7 HS ?_ | refine tk' 7 HS ?_
      first | refine sk' 8 HS ?_ | refine tk' 8 HS ?_
      first | refine sk' 9 HS ?_ | refine tk' 9 HS ?_
      first | refine sk' 10 HS ?_ | refine tk' 10 HS ?_
      first | refine sk' 11 HS ?_ | refine tk' 11 HS ?_
      first | refine sk' 13 HS ?_ | refine tk' 13 HS ?_
      first | refine sk' 14 HS ?_ | refine tk' 14 HS ?_
      refine cl' 12 fun K hK => ?_
      rw [if_pos (by rfl)]
      go_simp
      go_at_call 27
      refine (implEvaluationPasses s_a ⟨.slice xa_a s_a.schema.length xc_a, .slice ya_a s_a.files.length yc_a, s_a.next⟩ _ d_a _ (T_sa.out.grew HS.2.2.2) (RdDs.grew T_da.out HS.2.2.2) (by omega) (by omega) (by omega)).mono ?_
      rintro e wr2 ⟨he, hb⟩
      rw [HTT.out] at he
      subst he
      refine hK.out _ _ ?s1_12 ?r1_12
      case s1_12 => exact ⟨grew_cell hb HS.1, grew_cell hb HS.2.1, grew_cell hb HS.2.2.1, HS.2.2.2.trans hb⟩
      case r1_12 =>
        clear HS hK K; intro HS
        try simp only [Act.put, lpa, lpb, lpc]
        refine cl' 15 fun K hK => ?_
        rw [if_pos (by rfl)]
        go_simp
        go_at_call 28
        refine (specEvaluationPasses s_a ⟨.slice xa_a s_a.schema.length xc_a, .slice ya_a s_a.files.length yc_a, s_a.next⟩ _ d_a _ (T_sa.out.grew HS.2.2.2) (RdDs.grew T_da.out HS.2.2.2) (by omega) (by omega) (by omega)).mono ?_
        rintro e wr3 ⟨he, hb⟩
        rw [HTT.out] at he
        subst he
        refine hK.out _ _ ?s1_15 ?r1_15
        case s1_15 => exact ⟨grew_cell hb HS.1, grew_cell hb HS.2.1, grew_cell hb HS.2.2.1, HS.2.2.2.trans hb⟩
        case r1_15 =>
          clear HS hK K; intro HS
          try simp only [Act.put, lpa, lpb, lpc]
          first | refine sk' 16 HS ?_ | refine tk' 16 HS ?_
          first | refine sk' 17 HS ?_ | refine tk' 17 HS ?_
          refine wpAnyH_done (by kernel_rfl) ?_ _
          refine NoPanic.normal ?_
          obtain ⟨w5, hw5⟩ : ∃ x, x = wr3 := ⟨_, rfl⟩
          rw [← hw5] at HS ⊢
          have g5 := HS.2.2.2
          have G5 := G4.trans g5
          clear HS hw5
          replace ba0 := grew_cell g5 ba0
          replace ba1 := grew_cell g5 ba1
          replace ba2 := grew_cell g5 ba2
          go_wp2_with fail
          refine (drawIsFixpoint v _ (hcd.grew ((((g1.trans g2).trans g3).trans g4).trans g5))).mono ?_
          rintro e w6 ⟨p2, u2, t2, rfl, s_b, d_b, hevb, rsb, hsm, hgr, g6⟩
          have G6 := G5.trans g6
          replace ba0 := grew_cell g6 ba0
          replace ba1 := grew_cell g6 ba1
          replace ba2 := grew_cell g6 ba2
          have so_b := hevb.so
          have hz_b := so_b.sz (by decide)
          have hdz_b := ds_szZ hevb.dk
          have hdl_b := hevb.dk.1
          have R_sb := Lib.hid hevb.st.rd
          have R_db := Lib.hid hevb.dl.rd
          have HDK_b := Lib.hid hevb.dk
          obtain ⟨xa_b, xc_b, ya_b, yc_b, da_b, dc_b, rfl, rfl⟩ := hevb.shapes
          have hfl_b := so_b.2.1
          have HSO_b := Lib.hid so_b
          clear hevb so_b
          have R_r := Lib.hid hgr.rd
          obtain ⟨tb, tcb, rfl⟩ := GL.slice hgr
          clear hgr
          have hrl := hsm.1
          have HRB := Lib.hid hsm.small
          clear hsm
          have g7 := (Grew.refl w6).alloc (.cells #[.slice xa_b s_b.schema.length xc_b, .slice ya_b s_b.files.length yc_b, .int .i64 s_b.next] 27)
          have bb0 : (w6.alloc (.cells #[.slice xa_b s_b.schema.length xc_b, .slice ya_b s_b.files.length yc_b, .int .i64 s_b.next] 27)).cell? ⟨w6.heap.size, 0, none⟩ = some (.slice xa_b s_b.schema.length xc_b) := by simp
          have bb1 : (w6.alloc (.cells #[.slice xa_b s_b.schema.length xc_b, .slice ya_b s_b.files.length yc_b, .int .i64 s_b.next] 27)).cell? ⟨w6.heap.size, 1, none⟩ = some (.slice ya_b s_b.files.length yc_b) := by simp
          have bb2 : (w6.alloc (.cells #[.slice xa_b s_b.schema.length xc_b, .slice ya_b s_b.files.length yc_b, .int .i64 s_b.next] 27)).cell? ⟨w6.heap.size, 2, none⟩ = some (.int .i64 s_b.next) := by simp
          go_wp2_with fail
          generalize w6.alloc (.cells #[.slice xa_b s_b.schema.length xc_b, .slice ya_b s_b.files.length yc_b, .int .i64 s_b.next] 27) = w7 at g7 bb0 bb1 bb2 ⊢
          have G7 := G6.trans g7
          replace ba0 := grew_cell g7 ba0
          replace ba1 := grew_cell g7 ba1
          replace ba2 := grew_cell g7 ba2
          refine (drawDirContents v _ (hcd.grew ((((((g1.trans g2).trans g3).trans g4).trans g5).trans g6).trans g7))).mono ?_
          rintro e w8 ⟨p3, u3, nm3, rfl, hnm3, s_c, d_c, hevc, g8⟩
          have G8 := G7.trans g8
          replace ba0 := grew_cell g8 ba0
          replace ba1 := grew_cell g8 ba1
          replace ba2 := grew_cell g8 ba2
          replace bb0 := grew_cell g8 bb0
          replace bb1 := grew_cell g8 bb1
          replace bb2 := grew_cell g8 bb2
          have so_c := hevc.so
          have hz_c := so_c.sz (by decide)
          have hdz_c := ds_szZ hevc.dk
          have hdl_c := hevc.dk.1
          have R_sc := Lib.hid hevc.st.rd
          have R_dc := Lib.hid hevc.dl.rd
          have HDK_c := Lib.hid hevc.dk
          obtain ⟨xa_c, xc_c, ya_c, yc_c, da_c, dc_c, rfl, rfl⟩ := hevc.shapes
          have hfl_c := so_c.2.1
          have HSO_c := Lib.hid so_c
          clear hevc so_c
          have g9 := (Grew.refl w8).alloc (.cells #[.slice xa_c s_c.schema.length xc_c, .slice ya_c s_c.files.length yc_c, .int .i64 s_c.next] 27)
          have bc0 : (w8.alloc (.cells #[.slice xa_c s_c.schema.length xc_c, .slice ya_c s_c.files.length yc_c, .int .i64 s_c.next] 27)).cell? ⟨w8.heap.size, 0, none⟩ = some (.slice xa_c s_c.schema.length xc_c) := by simp
          have bc1 : (w8.alloc (.cells #[.slice xa_c s_c.schema.length xc_c, .slice ya_c s_c.files.length yc_c, .int .i64 s_c.next] 27)).cell? ⟨w8.heap.size, 1, none⟩ = some (.slice ya_c s_c.files.length yc_c) := by simp
          have bc2 : (w8.alloc (.cells #[.slice xa_c s_c.schema.length xc_c, .slice ya_c s_c.files.length yc_c, .int .i64 s_c.next] 27)).cell? ⟨w8.heap.size, 2, none⟩ = some (.int .i64 s_c.next) := by simp
          go_wp2_with fail
          generalize w8.alloc (.cells #[.slice xa_c s_c.schema.length xc_c, .slice ya_c s_c.files.length yc_c, .int .i64 s_c.next] 27) = w9 at g9 bc0 bc1 bc2 ⊢
          have G9 := G8.trans g9
          replace ba0 := grew_cell g9 ba0
          replace ba1 := grew_cell g9 ba1
          replace ba2 := grew_cell g9 ba2
          replace bb0 := grew_cell g9 bb0
          replace bb1 := grew_cell g9 bb1
          replace bb2 := grew_cell g9 bb2
          obtain ⟨fb, hfb_⟩ : ∃ b, fixB d_b s_b rsb = b := ⟨_, rfl⟩
          have H_fb := Lib.hid hfb_
          clear hfb_
          have HES2 := Lib.hid (evRs_small (xs := d_c) (s := s_c) (by omega))
          obtain ⟨IDS, hids⟩ : ∃ x, resIds (evRs d_c s_c) nm3 = x := ⟨_, rfl⟩
          have HIDS := Lib.hid hids
          have hidl := resIds_small HES2.out (s := nm3)
          rw [hids] at hidl
          clear hids
          have HSI := Lib.hid (sameB_yes (rfl : IDS = IDS))
          have T_sb := Lib.hid (St.R.grew R_sb.out (((g7.trans g8).trans g9)))
          have T_db := Lib.hid (RdDs.grew R_db.out (((g7.trans g8).trans g9)))
          have T_r := Lib.hid (RdRs.grew R_r.out (((g7.trans g8).trans g9)))
          have T_sc := Lib.hid (St.R.grew R_sc.out (g9))
          have T_dc := Lib.hid (RdDs.grew R_dc.out (g9))
          refine wp_region_noPanic ?_
          refine wp_region_held_drew (S := (fun w' => (w'.cell? ⟨w6.heap.size, 0, none⟩ = some (.slice xa_b s_b.schema.length xc_b) ∧ w'.cell? ⟨w6.heap.size, 1, none⟩ = some (.slice ya_b s_b.files.length yc_b) ∧ w'.cell? ⟨w6.heap.size, 2, none⟩ = some (.int .i64 s_b.next) ∧ w'.cell? ⟨w8.heap.size, 0, none⟩ = some (.slice xa_c s_c.schema.length xc_c) ∧ w'.cell? ⟨w8.heap.size, 1, none⟩ = some (.slice ya_c s_c.files.length yc_c) ∧ w'.cell? ⟨w8.heap.size, 2, none⟩ = some (.int .i64 s_c.next) ∧ Grew w9 w'))) (by kernel_rfl) ?h2_S ?h2_r
          case h2_S => exact ⟨grew_cell (Grew.refl _).drew bb0, grew_cell (Grew.refl _).drew bb1, grew_cell (Grew.refl _).drew bb2, grew_cell (Grew.refl _).drew bc0, grew_cell (Grew.refl _).drew bc1, grew_cell (Grew.refl _).drew bc2, (Grew.refl _).drew⟩
          case h2_r =>
            intro HS
            first | refine sk' 0 HS ?_ | refine tk' 0 HS ?_
            first | refine sk' 1 HS ?_ | refine tk' 1 HS ?_
            first | refine sk' 2 HS ?_ | refine tk' 2 HS ?_
            first | refine sk' 4 HS ?_ | refine tk' 4 HS ?_
            first | refine sk' 5 HS ?_ | refine tk' 5 HS ?_
            first | refine sk' 6 HS ?_ | refine tk' 6 HS ?_
            refine cl' 3 fun K hK => ?_
            rw [if_pos (by rfl)]
            go_simp
            go_at_call 17
            refine (implIsFixpoint s_b ⟨.slice xa_b s_b.schema.length xc_b, .slice ya_b s_b.files.length yc_b, s_b.next⟩ _ d_b _ rsb _ (T_sb.out.grew HS.2.2.2.2.2.2) (RdDs.grew T_db.out HS.2.2.2.2.2.2) (RdRs.grew T_r.out HS.2.2.2.2.2.2) (by omega) (by omega) (by omega) (by omega) HRB.out).mono ?_
            rintro e wr1 ⟨he, hb⟩
            rw [H_fb.out] at he
            subst he
            refine hK.out _ _ ?s2_3 ?r2_3
            case s2_3 => exact ⟨grew_cell hb HS.1, grew_cell hb HS.2.1, grew_cell hb HS.2.2.1, grew_cell hb HS.2.2.2.1, grew_cell hb HS.2.2.2.2.1, grew_cell hb HS.2.2.2.2.2.1, HS.2.2.2.2.2.2.trans hb⟩
            case r2_3 =>
              clear HS hK K; intro HS
              try simp only [Act.put, lpa, lpb, lpc]
              refine cl' 7 fun K hK => ?_
              rw [if_pos (by rfl)]
              go_simp
              go_at_call 18
              refine (specIsFixpoint s_b ⟨.slice xa_b s_b.schema.length xc_b, .slice ya_b s_b.files.length yc_b, s_b.next⟩ _ d_b _ rsb _ (T_sb.out.grew HS.2.2.2.2.2.2) (RdDs.grew T_db.out HS.2.2.2.2.2.2) (RdRs.grew T_r.out HS.2.2.2.2.2.2) (by omega) (by omega) (by omega) (by omega) HRB.out).mono ?_
              rintro e wr2 ⟨he, hb⟩
              rw [H_fb.out] at he
              subst he
              refine hK.out _ _ ?s2_7 ?r2_7
              case s2_7 => exact ⟨grew_cell hb HS.1, grew_cell hb HS.2.1, grew_cell hb HS.2.2.1, grew_cell hb HS.2.2.2.1, grew_cell hb HS.2.2.2.2.1, grew_cell hb HS.2.2.2.2.2.1, HS.2.2.2.2.2.2.trans hb⟩
              case r2_7 =>
                clear HS hK K; intro HS
                try simp only [Act.put, lpa, lpb, lpc]
                first | refine sk' 8 HS ?_ | refine tk' 8 HS ?_
                first | refine sk' 9 HS ?_ | refine tk' 9 HS ?_
                first | refine sk' 10 HS ?_ | refine tk' 10 HS ?_
                first | refine sk' 11 HS ?_ | refine tk' 11 HS ?_
                first | refine sk' 12 HS ?_ | refine tk' 12 HS ?_
                first | refine sk' 14 HS ?_ | refine tk' 14 HS ?_
                first | refine sk' 15 HS ?_ | refine tk' 15 HS ?_
                first | refine sk' 16 HS ?_ | refine tk' 16 HS ?_
                refine cl' 13 fun K hK => ?_
                rw [if_pos (by rfl)]
                go_simp
                go_at_call 30
                refine (implDirContents s_c ⟨.slice xa_c s_c.schema.length xc_c, .slice ya_c s_c.files.length yc_c, s_c.next⟩ _ d_c nm3 _ (T_sc.out.grew HS.2.2.2.2.2.2) (RdDs.grew T_dc.out HS.2.2.2.2.2.2) (by omega) (by omega) (by omega)).mono ?_
                rintro e wr3 ⟨v13, rfl, o13, hb⟩
                rw [HIDS.out] at o13
                have I13 := Lib.hid (rd_of_own o13)
                obtain ⟨i13a, i13c, rfl⟩ := own_slice o13
                clear o13
                refine hK.out _ _ ?s2_13 ?r2_13
                case s2_13 => exact ⟨grew_cell hb HS.1, grew_cell hb HS.2.1, grew_cell hb HS.2.2.1, grew_cell hb HS.2.2.2.1, grew_cell hb HS.2.2.2.2.1, grew_cell hb HS.2.2.2.2.2.1, HS.2.2.2.2.2.2.trans hb⟩
                case r2_13 =>
                  clear HS hK K; intro HS
                  try simp only [Act.put, lpa, lpb, lpc]
                  refine cl' 17 fun K hK => ?_
                  rw [if_pos (by rfl)]
                  go_simp
                  go_at_call 31
                  refine (specDirContents s_c ⟨.slice xa_c s_c.schema.length xc_c, .slice ya_c s_c.files.length yc_c, s_c.next⟩ _ d_c nm3 _ (T_sc.out.grew HS.2.2.2.2.2.2) (RdDs.grew T_dc.out HS.2.2.2.2.2.2) (by omega) (by omega) (by omega)).mono ?_
                  rintro e wr4 ⟨v17, rfl, o17, hb⟩
                  have I13b := Lib.hid (I13.out.grew hb)
                  rw [HIDS.out] at o17
                  have I17 := Lib.hid (rd_of_own o17)
                  obtain ⟨i17a, i17c, rfl⟩ := own_slice o17
                  clear o17
                  refine hK.out _ _ ?s2_17 ?r2_17
                  case s2_17 => exact ⟨grew_cell hb HS.1, grew_cell hb HS.2.1, grew_cell hb HS.2.2.1, grew_cell hb HS.2.2.2.1, grew_cell hb HS.2.2.2.2.1, grew_cell hb HS.2.2.2.2.2.1, HS.2.2.2.2.2.2.trans hb⟩
                  case r2_17 =>
                    clear HS hK K; intro HS
                    try simp only [Act.put, lpa, lpb, lpc]
                    refine cl' 18 fun K hK => ?_
                    rw [if_pos (by rfl)]
                    go_simp
                    go_at_call 13
                    refine (sameInts _ _ _ _ IDS IDS _ I13b.out I17.out hidl hidl).mono ?_
                    rintro e wr5 ⟨he, hb⟩
                    rw [HSI.out] at he
                    subst he
                    refine hK.out _ _ ?s2_18 ?r2_18
                    case s2_18 => exact ⟨grew_cell hb HS.1, grew_cell hb HS.2.1, grew_cell hb HS.2.2.1, grew_cell hb HS.2.2.2.1, grew_cell hb HS.2.2.2.2.1, grew_cell hb HS.2.2.2.2.2.1, HS.2.2.2.2.2.2.trans hb⟩
                    case r2_18 =>
                      clear HS hK K; intro HS
                      try simp only [Act.put, lpa, lpb, lpc]
                      first | refine sk' 19 HS ?_ | refine tk' 19 HS ?_
                      first | refine sk' 20 HS ?_ | refine tk' 20 HS ?_
                      refine wpAnyH_done (by kernel_rfl) ?_ _
                      refine NoPanic.normal ?_
                      obtain ⟨w10, hw10⟩ : ∃ x, x = wr5 := ⟨_, rfl⟩
                      rw [← hw10] at HS ⊢
                      have g10 := HS.2.2.2.2.2.2
                      have G10 := G9.trans g10
                      clear HS hw10
                      replace ba0 := grew_cell g10 ba0
                      replace ba1 := grew_cell g10 ba1
                      replace ba2 := grew_cell g10 ba2
                      replace bb0 := grew_cell g10 bb0
                      replace bb1 := grew_cell g10 bb1
                      replace bb2 := grew_cell g10 bb2
                      replace bc0 := grew_cell g10 bc0
                      replace bc1 := grew_cell g10 bc1
                      replace bc2 := grew_cell g10 bc2
                      cases ok
                      ·
                        have e0 : el = 0 := by rw [← HEL.out, HNO.out H_ok.out]; rfl
                        subst e0
                        obtain ⟨sb, hsb_⟩ : ∃ b, stoB s_a = b := ⟨_, rfl⟩
                        have H_sb := Lib.hid hsb_
                        clear hsb_
                        cases sb
                        ·
                          go_wp2_with fail
                          refine (specIsValidStore s_a ⟨.slice xa_a s_a.schema.length xc_a, .slice ya_a s_a.files.length yc_a, s_a.next⟩ _ (St.R.grew R_sa.out (((((((((g2.trans g3).trans g4).trans g5).trans g6).trans g7).trans g8).trans g9).trans g10))) (by omega)).mono ?_
                          rintro e w11 ⟨he, g11⟩
                          have G11 := G10.trans g11
                          replace ba0 := grew_cell g11 ba0
                          replace ba1 := grew_cell g11 ba1
                          replace ba2 := grew_cell g11 ba2
                          replace bb0 := grew_cell g11 bb0
                          replace bb1 := grew_cell g11 bb1
                          replace bb2 := grew_cell g11 bb2
                          replace bc0 := grew_cell g11 bc0
                          replace bc1 := grew_cell g11 bc1
                          replace bc2 := grew_cell g11 bc2
                          rw [H_sb.out] at he
                          subst he
                          go_wp2
                          go_ret
                          exact ⟨rfl, G11⟩
                        ·
                          go_wp2_with fail
                          refine (specIsValidStore s_a ⟨.slice xa_a s_a.schema.length xc_a, .slice ya_a s_a.files.length yc_a, s_a.next⟩ _ (St.R.grew R_sa.out (((((((((g2.trans g3).trans g4).trans g5).trans g6).trans g7).trans g8).trans g9).trans g10))) (by omega)).mono ?_
                          rintro e w11 ⟨he, g11⟩
                          have G11 := G10.trans g11
                          replace ba0 := grew_cell g11 ba0
                          replace ba1 := grew_cell g11 ba1
                          replace ba2 := grew_cell g11 ba2
                          replace bb0 := grew_cell g11 bb0
                          replace bb1 := grew_cell g11 bb1
                          replace bb2 := grew_cell g11 bb2
                          replace bc0 := grew_cell g11 bc0
                          replace bc1 := grew_cell g11 bc1
                          replace bc2 := grew_cell g11 bc2
                          rw [H_sb.out] at he
                          subst he
                          have HST := Lib.hid (show stB d_a = false by have h1 := HOK2.out; rw [H_ok.out, H_sb.out] at h1; cases h : stB d_a ; rfl ; (rw [h] at h1; cases h1))
                          go_wp2_with fail
                          refine (specIsStratified _ d_a _ (RdDs.grew R_da.out ((((((((((g2.trans g3).trans g4).trans g5).trans g6).trans g7).trans g8).trans g9).trans g10).trans g11))) (by omega) (by omega)).mono ?_
                          rintro e w12 ⟨he, g12⟩
                          have G12 := G11.trans g12
                          replace ba0 := grew_cell g12 ba0
                          replace ba1 := grew_cell g12 ba1
                          replace ba2 := grew_cell g12 ba2
                          replace bb0 := grew_cell g12 bb0
                          replace bb1 := grew_cell g12 bb1
                          replace bb2 := grew_cell g12 bb2
                          replace bc0 := grew_cell g12 bc0
                          replace bc1 := grew_cell g12 bc1
                          replace bc2 := grew_cell g12 bc2
                          rw [HST.out] at he
                          subst he
                          go_wp2
                          go_ret
                          exact ⟨rfl, G12⟩
                      ·
                        have HFF := HFX.out H_ok.out
                        have e0 : el = d_a.length := by rw [← HEL.out]; exact HFF.2
                        subst e0
                        have HF1 := Lib.hid HFF.1
                        clear HFF
                        have HP := Lib.hid (show stB d_a = true ∧ stoB s_a = true by have h1 := HOK2.out; rw [H_ok.out] at h1; simpa using h1.symm)
                        go_wp2_with fail
                        refine (implIsFixpoint s_a ⟨.slice xa_a s_a.schema.length xc_a, .slice ya_a s_a.files.length yc_a, s_a.next⟩ _ d_a _ RS _ (St.R.grew R_sa.out (((((((((g2.trans g3).trans g4).trans g5).trans g6).trans g7).trans g8).trans g9).trans g10))) (RdDs.grew R_da.out (((((((((g2.trans g3).trans g4).trans g5).trans g6).trans g7).trans g8).trans g9).trans g10))) (RdRs.grew R_e.out (((((((g4.trans g5).trans g6).trans g7).trans g8).trans g9).trans g10))) (by omega) (by omega) (by omega) HLE HES.out).mono ?_
                        rintro e w11 ⟨he, g11⟩
                        have G11 := G10.trans g11
                        replace ba0 := grew_cell g11 ba0
                        replace ba1 := grew_cell g11 ba1
                        replace ba2 := grew_cell g11 ba2
                        replace bb0 := grew_cell g11 bb0
                        replace bb1 := grew_cell g11 bb1
                        replace bb2 := grew_cell g11 bb2
                        replace bc0 := grew_cell g11 bc0
                        replace bc1 := grew_cell g11 bc1
                        replace bc2 := grew_cell g11 bc2
                        rw [HF1.out] at he
                        subst he
                        go_wp2_with fail
                        refine (specIsValidStore s_a ⟨.slice xa_a s_a.schema.length xc_a, .slice ya_a s_a.files.length yc_a, s_a.next⟩ _ (St.R.grew R_sa.out ((((((((((g2.trans g3).trans g4).trans g5).trans g6).trans g7).trans g8).trans g9).trans g10).trans g11))) (by omega)).mono ?_
                        rintro e w12 ⟨he, g12⟩
                        have G12 := G11.trans g12
                        replace ba0 := grew_cell g12 ba0
                        replace ba1 := grew_cell g12 ba1
                        replace ba2 := grew_cell g12 ba2
                        replace bb0 := grew_cell g12 bb0
                        replace bb1 := grew_cell g12 bb1
                        replace bb2 := grew_cell g12 bb2
                        replace bc0 := grew_cell g12 bc0
                        replace bc1 := grew_cell g12 bc1
                        replace bc2 := grew_cell g12 bc2
                        rw [HP.out.2] at he
                        subst he
                        go_wp2_with fail
                        refine (specIsStratified _ d_a _ (RdDs.grew R_da.out (((((((((((g2.trans g3).trans g4).trans g5).trans g6).trans g7).trans g8).trans g9).trans g10).trans g11).trans g12))) (by omega) (by omega)).mono ?_
                        rintro e w13 ⟨he, g13⟩
                        have G13 := G12.trans g13
                        replace ba0 := grew_cell g13 ba0
                        replace ba1 := grew_cell g13 ba1
                        replace ba2 := grew_cell g13 ba2
                        replace bb0 := grew_cell g13 bb0
                        replace bb1 := grew_cell g13 bb1
                        replace bb2 := grew_cell g13 bb2
                        replace bc0 := grew_cell g13 bc0
                        replace bc1 := grew_cell g13 bc1
                        replace bc2 := grew_cell g13 bc2
                        rw [HP.out.1] at he
                        subst he
                        go_wp2
                        go_ret
                        exact ⟨rfl, G13⟩
end Go.Proofs.YtkkbhhmhkpgbkaaGreat.fnFixpoint
