/- Contracts of Evaluate, EvaluationPasses and DirContents. -/
import Derived.Test.YtopcdojekjlijaaGreatU1
import Derived.Test.YtopcdojekjlijaaGreatN1
namespace Go.Proofs.YtopcdojekjlijaaGreat
open Go.RowKit
set_option linter.unusedVariables false
theorem OwnRss.lo {w : World} {lo lo' hi : Nat} {v : Value} {xs : List Rs} (h : OwnRss w lo hi v xs) (hl : lo' ≤ lo) : OwnRss w lo' hi v xs := by
  obtain ⟨ps, h1, h2, h3⟩ := h
  exact ⟨ps, h1.mono hl (Nat.le_refl _), h2.mono fun x p h => h.mono hl (Nat.le_refl _), h3⟩
theorem ownRss_slice {w : World} {lo hi : Nat} {v : Value} {xs : List Rs} (h : OwnRss w lo hi v xs) : ∃ a c, v = .slice a xs.length c := by
  obtain ⟨ps, h1, _⟩ := h
  exact own_slice h1.1
theorem EvI.turn {xs : List Dr} {fs : List Fl} {k : Nat} (hb : stB xs = true) {a : List Rs × Bool} (h : EvI xs fs k a.1) (i : Nat) : EvI xs fs k (st1 xs fs k a i).1 := by
  cases hx : xs[i]? with
  | none => unfold st1; rw [hx]; exact h
  | some x =>
    by_cases hk : gt (stL xs) i = k
    · by_cases hs : selL x.query fs a.1 = idsAt a.1 i
      · rw [st1_same hx hs]; exact h
      · rw [st1_new hx hk hs]; exact (EvI.step hb h hx hk hs).1
    · rw [st1_skip hk]; exact h
theorem EvI.pass {xs : List Dr} {fs : List Fl} {k : Nat} (hb : stB xs = true) {rs : List Rs} (h : EvI xs fs k rs) : ∀ i, EvI xs fs k (passTo xs fs k rs i).1
  | 0 => h
  | i + 1 => by rw [passTo_succ]; exact EvI.turn hb (EvI.pass hb h i) i
theorem EvI.passes {xs : List Dr} {fs : List Fl} {k : Nat} (hb : stB xs = true) {rs : List Rs} (h : EvI xs fs k rs) : ∀ m, EvI xs fs k (passN xs fs k rs m).1
  | 0 => h
  | m + 1 => EvI.pass hb (EvI.passes hb h m) xs.length
theorem EvR.inv {xs : List Dr} {fs : List Fl} (hb : stB xs = true) {k : Nat} {rs : List Rs} {t : Nat} (h : EvR xs fs k rs t) : EvI xs fs k rs := by
  induction h with
  | zero => exact EvI.start xs fs
  | succ _ _ ih => exact (EvI.passes hb ih _).next
theorem evRs_ok (xs : List Dr) (s : St) : (evRs xs s).length ≤ xs.length ∧ ∀ x, x ∈ evRs xs s → x.ids.length ≤ s.files.length := by
  unfold evRs
  cases hk : evOk xs s with
  | false => simp
  | true =>
    rw [if_pos rfl]
    have hb : stB xs = true := by unfold evOk at hk; simp only [Bool.and_eq_true] at hk; exact hk.1
    by_cases hx : ∃ p : List Rs × Nat, EvR xs s.files (lvls xs) p.1 p.2
    · have e : (evP xs s.files).1 = hx.choose.1 := by unfold evP; rw [dif_pos hx]
      have h1 := EvR.inv hb hx.choose_spec
      rw [e]
      refine ⟨by rw [h1.rlen]; exact Nat.le_refl _, fun x hxm => ?_⟩
      obtain ⟨i, hi⟩ := List.getElem?_of_mem hxm
      have h2 := h1.len i
      rw [idsAt_get hi] at h2; exact h2
    · have e : (evP xs s.files).1 = [] := by unfold evP; rw [dif_neg hx]
      rw [e]; simp
theorem evRs_small {xs : List Dr} {s : St} (hs : s.sz ≤ 4000000) : ∀ x, x ∈ evRs xs s → x.small := fun x hx => by
  have h1 := (evRs_ok xs s).2 x hx
  unfold St.sz at hs
  unfold Rs.small; omega
theorem cnt_smallR : ∀ (ds : List Rs), (∀ d, d ∈ ds → d.small) → 0 ≤ cntL cntRs ds ∧ cntL cntRs ds ≤ (ds.length : Int) * 4000001
  | [], _ => by simp [cntL]
  | d :: ds, h => by
    have h1 := h d (List.mem_cons_self ..)
    have h2 := cnt_smallR ds (fun x hx => h x (List.mem_cons_of_mem _ hx))
    unfold Rs.small at h1
    simp only [cntL, List.map_cons, List.sum_cons, List.length_cons, cntRs] at h2 ⊢
    omega
theorem evRs_cnt {xs : List Dr} {s : St} (hs : s.sz ≤ 4000000) (hx : xs.length ≤ 4000000) : 0 ≤ cntL cntRs (evRs xs s) ∧ cntL cntRs (evRs xs s) ≤ 40000000000000 := by
  have h1 := cnt_smallR (evRs xs s) (evRs_small hs)
  have h2 := (evRs_ok xs s).1
  omega
set_option maxRecDepth 100000 in
set_option maxHeartbeats 2000000 in
theorem specEvaluate (s : St) (p : PS) (va : Value) (xs : List Dr) (w : World) (hs : St.R w s p) (ha : RdDs w va xs) (hx : xs.length ≤ 1900000) (hz : szAll Dr.sz xs ≤ 4000000) (hzs : s.sz ≤ 4000000) :
    Calls Tryz.prog 20 #[p.v, va] w fun e w' => ∃ v, e = .returned (.tuple #[v, .bool (evOk xs s)]) ∧ OwnRss w' w.heap.size w'.heap.size v (evRs xs s) ∧ Grew w w' := by
  obtain ⟨p_q, p_r, p_n⟩ := p
  have hsn : p_n = s.next := hs.2.2
  subst hsn
  have HST := Lib.hid hs
  have HD := Lib.hid ha
  clear hs
  obtain ⟨qs, ⟨a, ca, rfl, hca, hra⟩, hall⟩ := ha
  clear hall hca hra
  have hg0 := (Grew.refl w).alloc (.cells #[p_q, p_r, .int .i64 s.next] 33)
  have x0 : (w.alloc (.cells #[p_q, p_r, .int .i64 s.next] 33)).cell? ⟨w.heap.size, 0, none⟩ = some p_q := by simp
  have x1 : (w.alloc (.cells #[p_q, p_r, .int .i64 s.next] 33)).cell? ⟨w.heap.size, 1, none⟩ = some p_r := by simp
  have x2 : (w.alloc (.cells #[p_q, p_r, .int .i64 s.next] 33)).cell? ⟨w.heap.size, 2, none⟩ = some (.int .i64 s.next) := by simp
  change Calls Tryz.prog _ #[.agg #[p_q, p_r, .int .i64 s.next], _] w _
  go_enter Tryz.func20, Tryz.ntmps20
  go_wp2_with (go_at_call 34; refine (specL15Run s ⟨p_q, p_r, s.next⟩ _ xs _ (HST.out.grew hg0) (HD.out.grew hg0) hx hz hzs).mono ?_; rintro e w1 ⟨v, rfl, ho, hb⟩; have HO := Lib.hid ho; obtain ⟨ra, rc, rfl⟩ := ownRss_slice ho; clear ho)
  go_ret2
  exact ⟨_, rfl, OwnRss.lo HO.out hg0.size, hg0.trans hb⟩
set_option maxRecDepth 100000 in
set_option maxHeartbeats 2000000 in
theorem specEvaluationPasses (s : St) (p : PS) (va : Value) (xs : List Dr) (w : World) (hs : St.R w s p) (ha : RdDs w va xs) (hx : xs.length ≤ 1900000) (hz : szAll Dr.sz xs ≤ 4000000) (hzs : s.sz ≤ 4000000) :
    Calls Tryz.prog 9 #[p.v, va] w fun e w' => e = .returned (.int .i64 (evT xs s)) ∧ Grew w w' := by
  obtain ⟨p_q, p_r, p_n⟩ := p
  have hsn : p_n = s.next := hs.2.2
  subst hsn
  have HST := Lib.hid hs
  have HD := Lib.hid ha
  clear hs
  obtain ⟨qs, ⟨a, ca, rfl, hca, hra⟩, hall⟩ := ha
  clear hall hca hra
  have hg0 := (Grew.refl w).alloc (.cells #[p_q, p_r, .int .i64 s.next] 33)
  have x0 : (w.alloc (.cells #[p_q, p_r, .int .i64 s.next] 33)).cell? ⟨w.heap.size, 0, none⟩ = some p_q := by simp
  have x1 : (w.alloc (.cells #[p_q, p_r, .int .i64 s.next] 33)).cell? ⟨w.heap.size, 1, none⟩ = some p_r := by simp
  have x2 : (w.alloc (.cells #[p_q, p_r, .int .i64 s.next] 33)).cell? ⟨w.heap.size, 2, none⟩ = some (.int .i64 s.next) := by simp
  change Calls Tryz.prog _ #[.agg #[p_q, p_r, .int .i64 s.next], _] w _
  go_enter Tryz.func9, Tryz.ntmps9
  go_wp2_with (go_at_call 34; refine (specL15Run s ⟨p_q, p_r, s.next⟩ _ xs _ (HST.out.grew hg0) (HD.out.grew hg0) hx hz hzs).mono ?_; rintro e w1 ⟨v, rfl, ho, hb⟩; have HO := Lib.hid ho; obtain ⟨ra, rc, rfl⟩ := ownRss_slice ho; clear ho)
  go_ret
  exact ⟨rfl, hg0.trans hb⟩
set_option maxRecDepth 100000 in
set_option maxHeartbeats 2000000 in
theorem specDirContents (s : St) (p : PS) (va : Value) (xs : List Dr) (nm : ByteArray) (w : World) (hs : St.R w s p) (ha : RdDs w va xs) (hx : xs.length ≤ 1900000) (hz : szAll Dr.sz xs ≤ 4000000) (hzs : s.sz ≤ 4000000) :
    Calls Tryz.prog 26 #[p.v, va, .string nm] w fun e w' => ∃ v, e = .returned v ∧ w'.ownsRow w.heap.size 3 1 v (resIds (evRs xs s) nm).length (ints (resIds (evRs xs s) nm)) ∧ Grew w w' := by
  obtain ⟨p_q, p_r, p_n⟩ := p
  have hsn : p_n = s.next := hs.2.2
  subst hsn
  have HST := Lib.hid hs
  have HD := Lib.hid ha
  clear hs
  obtain ⟨qs, ⟨a, ca, rfl, hca, hra⟩, hall⟩ := ha
  clear hall hca hra
  have hg0 := (Grew.refl w).alloc (.cells #[p_q, p_r, .int .i64 s.next] 33)
  have x0 : (w.alloc (.cells #[p_q, p_r, .int .i64 s.next] 33)).cell? ⟨w.heap.size, 0, none⟩ = some p_q := by simp
  have x1 : (w.alloc (.cells #[p_q, p_r, .int .i64 s.next] 33)).cell? ⟨w.heap.size, 1, none⟩ = some p_r := by simp
  have x2 : (w.alloc (.cells #[p_q, p_r, .int .i64 s.next] 33)).cell? ⟨w.heap.size, 2, none⟩ = some (.int .i64 s.next) := by simp
  change Calls Tryz.prog _ #[.agg #[p_q, p_r, .int .i64 s.next], _, _] w _
  go_enter Tryz.func26, Tryz.ntmps26
  go_wp2_with (first | (go_at_call 20; refine (specEvaluate s ⟨p_q, p_r, s.next⟩ _ xs _ (HST.out.grew hg0) (HD.out.grew hg0) hx hz hzs).mono ?_; rintro e w1 ⟨v, rfl, ho, hb⟩; have HO := Lib.hid ho; obtain ⟨ra, rc, rfl⟩ := ownRss_slice ho; clear ho) | (go_at_call 59; refine (specResultIDs _ (evRs xs s) nm _ HO.out.rd (by have := (evRs_ok xs s).1; omega) (evRs_small hzs)).mono ?_; rintro e w2 ⟨v2, rfl, hv2, hb2⟩; have HV2 := Lib.hid hv2; obtain ⟨ia, ic, rfl⟩ := own_slice hv2; clear hv2))
  go_ret
  exact ⟨_, rfl, ownsRow_base HV2.out (hg0.trans hb).size, (hg0.trans hb).trans hb2⟩
set_option maxRecDepth 100000 in
set_option maxHeartbeats 2000000 in
theorem implEvaluate (s : St) (p : PS) (va : Value) (xs : List Dr) (w : World) (hs : St.R w s p) (ha : RdDs w va xs) (hx : xs.length ≤ 1900000) (hz : szAll Dr.sz xs ≤ 4000000) (hzs : s.sz ≤ 4000000) :
    Calls Tryz.prog 21 #[p.v, va] w fun e w' => ∃ v, e = .returned (.tuple #[v, .bool (evOk xs s)]) ∧ OwnRss w' w.heap.size w'.heap.size v (evRs xs s) ∧ Grew w w' := by
  obtain ⟨p_q, p_r, p_n⟩ := p
  have hsn : p_n = s.next := hs.2.2
  subst hsn
  have HST := Lib.hid hs
  have HD := Lib.hid ha
  clear hs
  obtain ⟨qs, ⟨a, ca, rfl, hca, hra⟩, hall⟩ := ha
  clear hall hca hra
  have hg0 := (Grew.refl w).alloc (.cells #[p_q, p_r, .int .i64 s.next] 33)
  have x0 : (w.alloc (.cells #[p_q, p_r, .int .i64 s.next] 33)).cell? ⟨w.heap.size, 0, none⟩ = some p_q := by simp
  have x1 : (w.alloc (.cells #[p_q, p_r, .int .i64 s.next] 33)).cell? ⟨w.heap.size, 1, none⟩ = some p_r := by simp
  have x2 : (w.alloc (.cells #[p_q, p_r, .int .i64 s.next] 33)).cell? ⟨w.heap.size, 2, none⟩ = some (.int .i64 s.next) := by simp
  change Calls Tryz.prog _ #[.agg #[p_q, p_r, .int .i64 s.next], _] w _
  go_enter Tryz.func21, Tryz.ntmps21
  go_wp2_with fail
  refine wp_region_noPanic ?_
  refine wp_region_held_drew (S := (fun w' => (w'.cell? ⟨w.heap.size, 0, none⟩ = some (p_q) ∧ w'.cell? ⟨w.heap.size, 1, none⟩ = some (p_r) ∧ w'.cell? ⟨w.heap.size, 2, none⟩ = some (.int .i64 s.next) ∧ Grew (w.alloc (.cells #[p_q, p_r, .int .i64 s.next] 33)) w'))) (by kernel_rfl) ?h1_S ?h1_r
  case h1_S => exact ⟨grew_cell (Grew.refl _).drew x0, grew_cell (Grew.refl _).drew x1, grew_cell (Grew.refl _).drew x2, (Grew.refl _).drew⟩
  case h1_r =>
    intro HS
    first
      | refine sk 0 rfl (by kernel_rfl) rfl HS ?_
      | (refine tk (v := ?v1_0) 0 rfl (by kernel_rfl) rfl ?y1_0 HS ?_; case y1_0 => (intro w' hSw; (try dsimp only at hSw); go_simp <;> (with_reducible rfl)))
    try simp only [Act.put, List.setIfInBounds_toArray, List.set_cons_zero, List.set_cons_succ]
    first
      | refine sk 1 rfl (by kernel_rfl) rfl HS ?_
      | (refine tk (v := ?v1_1) 1 rfl (by kernel_rfl) rfl ?y1_1 HS ?_; case y1_1 => (intro w' hSw; (try dsimp only at hSw); go_simp <;> (with_reducible rfl)))
    try simp only [Act.put, List.setIfInBounds_toArray, List.set_cons_zero, List.set_cons_succ]
    first
      | refine sk 2 rfl (by kernel_rfl) rfl HS ?_
      | (refine tk (v := ?v1_2) 2 rfl (by kernel_rfl) rfl ?y1_2 HS ?_; case y1_2 => (intro w' hSw; (try dsimp only at hSw); go_simp <;> (with_reducible rfl)))
    try simp only [Act.put, List.setIfInBounds_toArray, List.set_cons_zero, List.set_cons_succ]
    refine cl 3 rfl (by kernel_rfl) (fun K hK => ?_)
    go_simp
    go_at_call 39
    refine (implDirNames _ xs _ (HD.out.grew (hg0.trans HS.2.2.2)) (by omega)).mono ?_
    rintro e w1 ⟨v1, rfl, hv1, hb⟩
    have HVN := Lib.hid (show Rd w1 v1 1 xs.length (strs (xs.map Dr.name)) by have h0 := rd_of_own hv1; rw [List.length_map] at h0; exact h0)
    obtain ⟨na, nc, rfl⟩ := own_slice hv1
    clear hv1
    refine hK.out _ _ ?s1_3 ?r1_3
    case s1_3 => (try dsimp only); exact ⟨grew_cell hb HS.1, grew_cell hb HS.2.1, grew_cell hb HS.2.2.1, HS.2.2.2.trans hb⟩
    case r1_3 =>
      clear HS
      intro HS
      clear hK K
      try simp only [Act.put, List.setIfInBounds_toArray, List.set_cons_zero, List.set_cons_succ]
      refine cl 4 rfl (by kernel_rfl) (fun K hK => ?_)
      go_simp
      go_at_call 38
      refine (implEvaluated s ⟨p_q, p_r, s.next⟩ _ xs _ _ (HST.out.grew (hg0.trans HS.2.2.2)) (HD.out.grew (hg0.trans HS.2.2.2)) (by simpa using HVN.out) hx hz hzs).mono ?_
      rintro e w5 ⟨v, rfl, ho, hb⟩
      have HO := Lib.hid (OwnRss.lo ho ((hg0.trans HS.2.2.2).size))
      obtain ⟨ra, rc, rfl⟩ := ownRss_slice ho
      clear ho
      refine hK.out _ _ ?s1_4 ?r1_4
      case s1_4 => (try dsimp only); exact ⟨grew_cell hb HS.1, grew_cell hb HS.2.1, grew_cell hb HS.2.2.1, HS.2.2.2.trans hb⟩
      case r1_4 =>
        clear HS
        intro HS
        clear hK K
        try simp only [Act.put, List.setIfInBounds_toArray, List.set_cons_zero, List.set_cons_succ]
        first
          | refine sk 5 rfl (by kernel_rfl) rfl HS ?_
          | (refine tk (v := ?v1_5) 5 rfl (by kernel_rfl) rfl ?y1_5 HS ?_; case y1_5 => (intro w' hSw; (try dsimp only at hSw); go_simp <;> (with_reducible rfl)))
        try simp only [Act.put, List.setIfInBounds_toArray, List.set_cons_zero, List.set_cons_succ]
        first
          | refine sk 6 rfl (by kernel_rfl) rfl HS ?_
          | (refine tk (v := ?v1_6) 6 rfl (by kernel_rfl) rfl ?y1_6 HS ?_; case y1_6 => (intro w' hSw; (try dsimp only at hSw); go_simp <;> (with_reducible rfl)))
        try simp only [Act.put, List.setIfInBounds_toArray, List.set_cons_zero, List.set_cons_succ]
        first
          | refine sk 7 rfl (by kernel_rfl) rfl HS ?_
          | (refine tk (v := ?v1_7) 7 rfl (by kernel_rfl) rfl ?y1_7 HS ?_; case y1_7 => (intro w' hSw; (try dsimp only at hSw); go_simp <;> (with_reducible rfl)))
        try simp only [Act.put, List.setIfInBounds_toArray, List.set_cons_zero, List.set_cons_succ]
        first
          | refine sk 8 rfl (by kernel_rfl) rfl HS ?_
          | (refine tk (v := ?v1_8) 8 rfl (by kernel_rfl) rfl ?y1_8 HS ?_; case y1_8 => (intro w' hSw; (try dsimp only at hSw); go_simp <;> (with_reducible rfl)))
        try simp only [Act.put, List.setIfInBounds_toArray, List.set_cons_zero, List.set_cons_succ]
        first
          | refine sk 9 rfl (by kernel_rfl) rfl HS ?_
          | (refine tk (v := ?v1_9) 9 rfl (by kernel_rfl) rfl ?y1_9 HS ?_; case y1_9 => (intro w' hSw; (try dsimp only at hSw); go_simp <;> (with_reducible rfl)))
        try simp only [Act.put, List.setIfInBounds_toArray, List.set_cons_zero, List.set_cons_succ]
        first
          | refine sk 10 rfl (by kernel_rfl) rfl HS ?_
          | (refine tk (v := ?v1_10) 10 rfl (by kernel_rfl) rfl ?y1_10 HS ?_; case y1_10 => (intro w' hSw; (try dsimp only at hSw); go_simp <;> (with_reducible rfl)))
        try simp only [Act.put, List.setIfInBounds_toArray, List.set_cons_zero, List.set_cons_succ]
        first
          | refine sk 11 rfl (by kernel_rfl) rfl HS ?_
          | (refine tk (v := ?v1_11) 11 rfl (by kernel_rfl) rfl ?y1_11 HS ?_; case y1_11 => (intro w' hSw; (try dsimp only at hSw); go_simp <;> (with_reducible rfl)))
        try simp only [Act.put, List.setIfInBounds_toArray, List.set_cons_zero, List.set_cons_succ]
        refine wpAnyH_done (by kernel_rfl) ?_ _
        refine NoPanic.normal ?_
        go_wp2
        go_ret2
        exact ⟨_, rfl, HO.out, (hg0.trans HS.2.2.2)⟩
set_option maxRecDepth 100000 in
set_option maxHeartbeats 2000000 in
theorem implEvaluationPasses (s : St) (p : PS) (va : Value) (xs : List Dr) (w : World) (hs : St.R w s p) (ha : RdDs w va xs) (hx : xs.length ≤ 1900000) (hz : szAll Dr.sz xs ≤ 4000000) (hzs : s.sz ≤ 4000000) :
    Calls Tryz.prog 12 #[p.v, va] w fun e w' => e = .returned (.int .i64 (evT xs s)) ∧ Grew w w' := by
  obtain ⟨p_q, p_r, p_n⟩ := p
  have hsn : p_n = s.next := hs.2.2
  subst hsn
  have HST := Lib.hid hs
  have HD := Lib.hid ha
  clear hs
  obtain ⟨qs, ⟨a, ca, rfl, hca, hra⟩, hall⟩ := ha
  clear hall hca hra
  have hg0 := (Grew.refl w).alloc (.cells #[p_q, p_r, .int .i64 s.next] 33)
  have x0 : (w.alloc (.cells #[p_q, p_r, .int .i64 s.next] 33)).cell? ⟨w.heap.size, 0, none⟩ = some p_q := by simp
  have x1 : (w.alloc (.cells #[p_q, p_r, .int .i64 s.next] 33)).cell? ⟨w.heap.size, 1, none⟩ = some p_r := by simp
  have x2 : (w.alloc (.cells #[p_q, p_r, .int .i64 s.next] 33)).cell? ⟨w.heap.size, 2, none⟩ = some (.int .i64 s.next) := by simp
  change Calls Tryz.prog _ #[.agg #[p_q, p_r, .int .i64 s.next], _] w _
  go_enter Tryz.func12, Tryz.ntmps12
  go_wp2_with fail
  refine wp_region_noPanic ?_
  refine wp_region_held_drew (S := (fun w' => (w'.cell? ⟨w.heap.size, 0, none⟩ = some (p_q) ∧ w'.cell? ⟨w.heap.size, 1, none⟩ = some (p_r) ∧ w'.cell? ⟨w.heap.size, 2, none⟩ = some (.int .i64 s.next) ∧ Grew (w.alloc (.cells #[p_q, p_r, .int .i64 s.next] 33)) w'))) (by kernel_rfl) ?h2_S ?h2_r
  case h2_S => exact ⟨grew_cell (Grew.refl _).drew x0, grew_cell (Grew.refl _).drew x1, grew_cell (Grew.refl _).drew x2, (Grew.refl _).drew⟩
  case h2_r =>
    intro HS
    first
      | refine sk 0 rfl (by kernel_rfl) rfl HS ?_
      | (refine tk (v := ?v2_0) 0 rfl (by kernel_rfl) rfl ?y2_0 HS ?_; case y2_0 => (intro w' hSw; (try dsimp only at hSw); go_simp <;> (with_reducible rfl)))
    try simp only [Act.put, List.setIfInBounds_toArray, List.set_cons_zero, List.set_cons_succ]
    first
      | refine sk 1 rfl (by kernel_rfl) rfl HS ?_
      | (refine tk (v := ?v2_1) 1 rfl (by kernel_rfl) rfl ?y2_1 HS ?_; case y2_1 => (intro w' hSw; (try dsimp only at hSw); go_simp <;> (with_reducible rfl)))
    try simp only [Act.put, List.setIfInBounds_toArray, List.set_cons_zero, List.set_cons_succ]
    first
      | refine sk 2 rfl (by kernel_rfl) rfl HS ?_
      | (refine tk (v := ?v2_2) 2 rfl (by kernel_rfl) rfl ?y2_2 HS ?_; case y2_2 => (intro w' hSw; (try dsimp only at hSw); go_simp <;> (with_reducible rfl)))
    try simp only [Act.put, List.setIfInBounds_toArray, List.set_cons_zero, List.set_cons_succ]
    refine cl 3 rfl (by kernel_rfl) (fun K hK => ?_)
    go_simp
    go_at_call 39
    refine (implDirNames _ xs _ (HD.out.grew (hg0.trans HS.2.2.2)) (by omega)).mono ?_
    rintro e w1 ⟨v1, rfl, hv1, hb⟩
    have HVN := Lib.hid (show Rd w1 v1 1 xs.length (strs (xs.map Dr.name)) by have h0 := rd_of_own hv1; rw [List.length_map] at h0; exact h0)
    obtain ⟨na, nc, rfl⟩ := own_slice hv1
    clear hv1
    refine hK.out _ _ ?s2_3 ?r2_3
    case s2_3 => (try dsimp only); exact ⟨grew_cell hb HS.1, grew_cell hb HS.2.1, grew_cell hb HS.2.2.1, HS.2.2.2.trans hb⟩
    case r2_3 =>
      clear HS
      intro HS
      clear hK K
      try simp only [Act.put, List.setIfInBounds_toArray, List.set_cons_zero, List.set_cons_succ]
      refine cl 4 rfl (by kernel_rfl) (fun K hK => ?_)
      go_simp
      go_at_call 38
      refine (implEvaluated s ⟨p_q, p_r, s.next⟩ _ xs _ _ (HST.out.grew (hg0.trans HS.2.2.2)) (HD.out.grew (hg0.trans HS.2.2.2)) (by simpa using HVN.out) hx hz hzs).mono ?_
      rintro e w5 ⟨v, rfl, ho, hb⟩
      have HO := Lib.hid (OwnRss.lo ho ((hg0.trans HS.2.2.2).size))
      obtain ⟨ra, rc, rfl⟩ := ownRss_slice ho
      clear ho
      refine hK.out _ _ ?s2_4 ?r2_4
      case s2_4 => (try dsimp only); exact ⟨grew_cell hb HS.1, grew_cell hb HS.2.1, grew_cell hb HS.2.2.1, HS.2.2.2.trans hb⟩
      case r2_4 =>
        clear HS
        intro HS
        clear hK K
        try simp only [Act.put, List.setIfInBounds_toArray, List.set_cons_zero, List.set_cons_succ]
        first
          | refine sk 5 rfl (by kernel_rfl) rfl HS ?_
          | (refine tk (v := ?v2_5) 5 rfl (by kernel_rfl) rfl ?y2_5 HS ?_; case y2_5 => (intro w' hSw; (try dsimp only at hSw); go_simp <;> (with_reducible rfl)))
        try simp only [Act.put, List.setIfInBounds_toArray, List.set_cons_zero, List.set_cons_succ]
        first
          | refine sk 6 rfl (by kernel_rfl) rfl HS ?_
          | (refine tk (v := ?v2_6) 6 rfl (by kernel_rfl) rfl ?y2_6 HS ?_; case y2_6 => (intro w' hSw; (try dsimp only at hSw); go_simp <;> (with_reducible rfl)))
        try simp only [Act.put, List.setIfInBounds_toArray, List.set_cons_zero, List.set_cons_succ]
        first
          | refine sk 7 rfl (by kernel_rfl) rfl HS ?_
          | (refine tk (v := ?v2_7) 7 rfl (by kernel_rfl) rfl ?y2_7 HS ?_; case y2_7 => (intro w' hSw; (try dsimp only at hSw); go_simp <;> (with_reducible rfl)))
        try simp only [Act.put, List.setIfInBounds_toArray, List.set_cons_zero, List.set_cons_succ]
        first
          | refine sk 8 rfl (by kernel_rfl) rfl HS ?_
          | (refine tk (v := ?v2_8) 8 rfl (by kernel_rfl) rfl ?y2_8 HS ?_; case y2_8 => (intro w' hSw; (try dsimp only at hSw); go_simp <;> (with_reducible rfl)))
        try simp only [Act.put, List.setIfInBounds_toArray, List.set_cons_zero, List.set_cons_succ]
        first
          | refine sk 9 rfl (by kernel_rfl) rfl HS ?_
          | (refine tk (v := ?v2_9) 9 rfl (by kernel_rfl) rfl ?y2_9 HS ?_; case y2_9 => (intro w' hSw; (try dsimp only at hSw); go_simp <;> (with_reducible rfl)))
        try simp only [Act.put, List.setIfInBounds_toArray, List.set_cons_zero, List.set_cons_succ]
        first
          | refine sk 10 rfl (by kernel_rfl) rfl HS ?_
          | (refine tk (v := ?v2_10) 10 rfl (by kernel_rfl) rfl ?y2_10 HS ?_; case y2_10 => (intro w' hSw; (try dsimp only at hSw); go_simp <;> (with_reducible rfl)))
        try simp only [Act.put, List.setIfInBounds_toArray, List.set_cons_zero, List.set_cons_succ]
        first
          | refine sk 11 rfl (by kernel_rfl) rfl HS ?_
          | (refine tk (v := ?v2_11) 11 rfl (by kernel_rfl) rfl ?y2_11 HS ?_; case y2_11 => (intro w' hSw; (try dsimp only at hSw); go_simp <;> (with_reducible rfl)))
        try simp only [Act.put, List.setIfInBounds_toArray, List.set_cons_zero, List.set_cons_succ]
        refine wpAnyH_done (by kernel_rfl) ?_ _
        refine NoPanic.normal ?_
        go_wp2
        go_ret
        exact ⟨rfl, (hg0.trans HS.2.2.2)⟩
set_option maxRecDepth 100000 in
set_option maxHeartbeats 2000000 in
theorem implDirContents (s : St) (p : PS) (va : Value) (xs : List Dr) (nm : ByteArray) (w : World) (hs : St.R w s p) (ha : RdDs w va xs) (hx : xs.length ≤ 1900000) (hz : szAll Dr.sz xs ≤ 4000000) (hzs : s.sz ≤ 4000000) :
    Calls Tryz.prog 27 #[p.v, va, .string nm] w fun e w' => ∃ v, e = .returned v ∧ w'.ownsRow w.heap.size 3 1 v (resIds (evRs xs s) nm).length (ints (resIds (evRs xs s) nm)) ∧ Grew w w' := by
  obtain ⟨p_q, p_r, p_n⟩ := p
  have hsn : p_n = s.next := hs.2.2
  subst hsn
  have HST := Lib.hid hs
  have HD := Lib.hid ha
  clear hs
  obtain ⟨qs, ⟨a, ca, rfl, hca, hra⟩, hall⟩ := ha
  clear hall hca hra
  have hg0 := (Grew.refl w).alloc (.cells #[p_q, p_r, .int .i64 s.next] 33)
  have x0 : (w.alloc (.cells #[p_q, p_r, .int .i64 s.next] 33)).cell? ⟨w.heap.size, 0, none⟩ = some p_q := by simp
  have x1 : (w.alloc (.cells #[p_q, p_r, .int .i64 s.next] 33)).cell? ⟨w.heap.size, 1, none⟩ = some p_r := by simp
  have x2 : (w.alloc (.cells #[p_q, p_r, .int .i64 s.next] 33)).cell? ⟨w.heap.size, 2, none⟩ = some (.int .i64 s.next) := by simp
  change Calls Tryz.prog _ #[.agg #[p_q, p_r, .int .i64 s.next], _, _] w _
  go_enter Tryz.func27, Tryz.ntmps27
  go_wp2_with (first | (go_at_call 21; refine (implEvaluate s ⟨p_q, p_r, s.next⟩ _ xs _ (HST.out.grew hg0) (HD.out.grew hg0) hx hz hzs).mono ?_; rintro e w1 ⟨v, rfl, ho, hb⟩; have HO := Lib.hid ho; obtain ⟨ra, rc, rfl⟩ := ownRss_slice ho; clear ho) | (go_at_call 60; refine (implResultIDs _ (evRs xs s) nm _ HO.out.rd (by have := (evRs_ok xs s).1; omega) (evRs_small hzs)).mono ?_; rintro e w2 ⟨v2, rfl, hv2, hb2⟩; have HV2 := Lib.hid hv2; obtain ⟨ia, ic, rfl⟩ := own_slice hv2; clear hv2))
  go_ret
  exact ⟨_, rfl, ownsRow_base HV2.out (hg0.trans hb).size, (hg0.trans hb).trans hb2⟩
end Go.Proofs.YtopcdojekjlijaaGreat
