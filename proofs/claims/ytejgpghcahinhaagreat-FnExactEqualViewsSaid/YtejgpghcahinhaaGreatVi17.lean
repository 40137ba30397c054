/- Texts U2, U4, WXEvaluateForUser, as far as they are needed. -/
import Derived.Test.YtejgpghcahinhaaGreatVi16
import Derived.Test.YtejgpghcahinhaaGreatVi5
import Derived.Test.YtejgpghcahinhaaGreatVi7
import Derived.Test.YtejgpghcahinhaaGreatVi14
import Derived.Test.YtejgpghcahinhaaGreatVi2
import Derived.Test.YtejgpghcahinhaaGreatVi0
import Derived.BigQuiet
import Derived.Test.YtejgpghcahinhaaGreatVi3
import Derived.Test.YtejgpghcahinhaaGreatVi4
import Derived.Test.YtejgpghcahinhaaGreatVi6
namespace Go.Proofs.YtejgpghcahinhaaGreat
open Go.RowKit
set_option linter.unusedVariables false
theorem OwnRss.lo {w : World} {lo lo' hi : Nat} {v : Value} {xs : List Rs} (h : OwnRss w lo hi v xs) (hl : lo' ≤ lo) : OwnRss w lo' hi v xs := by
  obtain ⟨ps, h1, h2, h3⟩ := h
  exact ⟨ps, h1.mono hl (Nat.le_refl _), h2.mono fun x p h => h.mono hl (Nat.le_refl _), h3⟩
theorem ownRss_slice {w : World} {lo hi : Nat} {v : Value} {xs : List Rs} (h : OwnRss w lo hi v xs) : ∃ a c, v = .slice a xs.length c := by
  obtain ⟨ps, h1, _⟩ := h
  exact own_slice h1.1
theorem EvI.turn {xs : List Dr} {fs : List Fl} {k : Nat} (hb : stB xs = true) {a : List Rs × Bool} (h : EvI xs fs k a.1) (i : Nat) : EvI xs fs k (st1 xs fs k a i).1 := by
  cases hx : xs[i]? with
  | none => unfold st1; rw [hx]; exact h
  | some x =>
    by_cases hk : gt (stL xs) i = k
    · by_cases hs : selL x.query fs a.1 = idsAt a.1 i
      · rw [st1_same hx hs]; exact h
      · rw [st1_new hx hk hs]; exact (EvI.step hb h hx hk hs).1
    · rw [st1_skip hk]; exact h
theorem EvI.pass {xs : List Dr} {fs : List Fl} {k : Nat} (hb : stB xs = true) {rs : List Rs} (h : EvI xs fs k rs) : ∀ i, EvI xs fs k (passTo xs fs k rs i).1
  | 0 => h
  | i + 1 => by rw [passTo_succ]; exact EvI.turn hb (EvI.pass hb h i) i
theorem EvI.passes {xs : List Dr} {fs : List Fl} {k : Nat} (hb : stB xs = true) {rs : List Rs} (h : EvI xs fs k rs) : ∀ m, EvI xs fs k (passN xs fs k rs m).1
  | 0 => h
  | m + 1 => EvI.pass hb (EvI.passes hb h m) xs.length
theorem EvR.inv {xs : List Dr} {fs : List Fl} (hb : stB xs = true) {k : Nat} {rs : List Rs} {t : Nat} (h : EvR xs fs k rs t) : EvI xs fs k rs := by
  induction h with
  | zero => exact EvI.start xs fs
  | succ _ _ ih => exact (EvI.passes hb ih _).next
theorem evRs_ok (xs : List Dr) (s : St) : (evRs xs s).length ≤ xs.length ∧ ∀ x, x ∈ evRs xs s → x.ids.length ≤ s.files.length := by
  unfold evRs
  cases hk : evOk xs s with
  | false => simp
  | true =>
    rw [if_pos rfl]
    have hb : stB xs = true := by unfold evOk at hk; simp only [Bool.and_eq_true] at hk; exact hk.1
    by_cases hx : ∃ p : List Rs × Nat, EvR xs s.files (lvls xs) p.1 p.2
    · have e : (evP xs s.files).1 = hx.choose.1 := by unfold evP; rw [dif_pos hx]
      have h1 := EvR.inv hb hx.choose_spec
      rw [e]
      refine ⟨by rw [h1.rlen]; exact Nat.le_refl _, fun x hxm => ?_⟩
      obtain ⟨i, hi⟩ := List.getElem?_of_mem hxm
      have h2 := h1.len i
      rw [idsAt_get hi] at h2; exact h2
    · have e : (evP xs s.files).1 = [] := by unfold evP; rw [dif_neg hx]
      rw [e]; simp
theorem evRs_small {xs : List Dr} {s : St} (hs : s.sz ≤ 4000000) : ∀ x, x ∈ evRs xs s → x.small := fun x hx => by
  have h1 := (evRs_ok xs s).2 x hx
  unfold St.sz at hs
  unfold Rs.small; omega
theorem cnt_smallR : ∀ (ds : List Rs), (∀ d, d ∈ ds → d.small) → 0 ≤ cntL cntRs ds ∧ cntL cntRs ds ≤ (ds.length : Int) * 4000001
  | [], _ => by simp [cntL]
  | d :: ds, h => by
    have h1 := h d (List.mem_cons_self ..)
    have h2 := cnt_smallR ds (fun x hx => h x (List.mem_cons_of_mem _ hx))
    unfold Rs.small at h1
    simp only [cntL, List.map_cons, List.sum_cons, List.length_cons, cntRs] at h2 ⊢
    omega
set_option maxRecDepth 100000 in
set_option maxHeartbeats 2000000 in
theorem specEvaluate (s : St) (p : PS) (va : Value) (xs : List Dr) (w : World) (hs : St.R w s p) (ha : RdDs w va xs) (hx : xs.length ≤ 1900000) (hz : szAll Dr.sz xs ≤ 4000000) (hzs : s.sz ≤ 4000000) :
    Calls Tryz.prog 47 #[p.v, va] w fun e w' => ∃ v, e = .returned (.tuple #[v, .bool (evOk xs s)]) ∧ OwnRss w' w.heap.size w'.heap.size v (evRs xs s) ∧ Grew w w' := by
  obtain ⟨p_q, p_r, p_n⟩ := p
  have hsn : p_n = s.next := hs.2.2
  subst hsn
  have HST := Lib.hid hs
  have HD := Lib.hid ha
  clear hs
  obtain ⟨qs, ⟨a, ca, rfl, hca, hra⟩, hall⟩ := ha
  clear hall hca hra
  have hg0 := (Grew.refl w).alloc (.cells #[p_q, p_r, .int .i64 s.next] 27)
  have x0 : (w.alloc (.cells #[p_q, p_r, .int .i64 s.next] 27)).cell? ⟨w.heap.size, 0, none⟩ = some p_q := by simp
  have x1 : (w.alloc (.cells #[p_q, p_r, .int .i64 s.next] 27)).cell? ⟨w.heap.size, 1, none⟩ = some p_r := by simp
  have x2 : (w.alloc (.cells #[p_q, p_r, .int .i64 s.next] 27)).cell? ⟨w.heap.size, 2, none⟩ = some (.int .i64 s.next) := by simp
  change Calls Tryz.prog _ #[.agg #[p_q, p_r, .int .i64 s.next], _] w _
  go_enter Tryz.func47, Tryz.ntmps47
  go_wp2_with (go_at_call 120; refine (specL15Run s ⟨p_q, p_r, s.next⟩ _ xs _ (HST.out.grew hg0) (HD.out.grew hg0) hx hz hzs).mono ?_; rintro e w1 ⟨v, rfl, ho, hb⟩; have HO := Lib.hid ho; obtain ⟨ra, rc, rfl⟩ := ownRss_slice ho; clear ho)
  go_ret2
  exact ⟨_, rfl, OwnRss.lo HO.out hg0.size, hg0.trans hb⟩
set_option maxRecDepth 100000 in
set_option maxHeartbeats 2000000 in
theorem implEvaluate (s : St) (p : PS) (va : Value) (xs : List Dr) (w : World) (hs : St.R w s p) (ha : RdDs w va xs) (hx : xs.length ≤ 1900000) (hz : szAll Dr.sz xs ≤ 4000000) (hzs : s.sz ≤ 4000000) :
    Calls Tryz.prog 42 #[p.v, va] w fun e w' => ∃ v, e = .returned (.tuple #[v, .bool (evOk xs s)]) ∧ OwnRss w' w.heap.size w'.heap.size v (evRs xs s) ∧ Grew w w' := by
  obtain ⟨p_q, p_r, p_n⟩ := p
  have hsn : p_n = s.next := hs.2.2
  subst hsn
  have HST := Lib.hid hs
  have HD := Lib.hid ha
  clear hs
  obtain ⟨qs, ⟨a, ca, rfl, hca, hra⟩, hall⟩ := ha
  clear hall hca hra
  have hg0 := (Grew.refl w).alloc (.cells #[p_q, p_r, .int .i64 s.next] 27)
  have x0 : (w.alloc (.cells #[p_q, p_r, .int .i64 s.next] 27)).cell? ⟨w.heap.size, 0, none⟩ = some p_q := by simp
  have x1 : (w.alloc (.cells #[p_q, p_r, .int .i64 s.next] 27)).cell? ⟨w.heap.size, 1, none⟩ = some p_r := by simp
  have x2 : (w.alloc (.cells #[p_q, p_r, .int .i64 s.next] 27)).cell? ⟨w.heap.size, 2, none⟩ = some (.int .i64 s.next) := by simp
  change Calls Tryz.prog _ #[.agg #[p_q, p_r, .int .i64 s.next], _] w _
  go_enter Tryz.func42, Tryz.ntmps42
  go_wp2_with fail
  refine wp_region_noPanic ?_
  refine wp_region_held_drew (S := (fun w' => (w'.cell? ⟨w.heap.size, 0, none⟩ = some (p_q) ∧ w'.cell? ⟨w.heap.size, 1, none⟩ = some (p_r) ∧ w'.cell? ⟨w.heap.size, 2, none⟩ = some (.int .i64 s.next) ∧ Grew (w.alloc (.cells #[p_q, p_r, .int .i64 s.next] 27)) w'))) (by kernel_rfl) ?h1_S ?h1_r
  case h1_S => exact ⟨grew_cell (Grew.refl _).drew x0, grew_cell (Grew.refl _).drew x1, grew_cell (Grew.refl _).drew x2, (Grew.refl _).drew⟩
  case h1_r =>
    intro HS
    first
      | refine sk 0 rfl (by kernel_rfl) rfl HS ?_
      | (refine tk (v := ?v1_0) 0 rfl (by kernel_rfl) rfl ?y1_0 HS ?_; case y1_0 => (intro w' hSw; (try dsimp only at hSw); go_simp <;> (with_reducible rfl)))
    try simp only [Act.put, List.setIfInBounds_toArray, List.set_cons_zero, List.set_cons_succ]
    first
      | refine sk 1 rfl (by kernel_rfl) rfl HS ?_
      | (refine tk (v := ?v1_1) 1 rfl (by kernel_rfl) rfl ?y1_1 HS ?_; case y1_1 => (intro w' hSw; (try dsimp only at hSw); go_simp <;> (with_reducible rfl)))
    try simp only [Act.put, List.setIfInBounds_toArray, List.set_cons_zero, List.set_cons_succ]
    first
      | refine sk 2 rfl (by kernel_rfl) rfl HS ?_
      | (refine tk (v := ?v1_2) 2 rfl (by kernel_rfl) rfl ?y1_2 HS ?_; case y1_2 => (intro w' hSw; (try dsimp only at hSw); go_simp <;> (with_reducible rfl)))
    try simp only [Act.put, List.setIfInBounds_toArray, List.set_cons_zero, List.set_cons_succ]
    refine cl 3 rfl (by kernel_rfl) (fun K hK => ?_)
    go_simp
    go_at_call 118
    refine (implDirNames _ xs _ (HD.out.grew (hg0.trans HS.2.2.2)) (by omega)).mono ?_
    rintro e w1 ⟨v1, rfl, hv1, hb⟩
    have HVN := Lib.hid (show Rd w1 v1 1 xs.length (strs (xs.map Dr.name)) by have h0 := rd_of_own hv1; rw [List.length_map] at h0; exact h0)
    obtain ⟨na, nc, rfl⟩ := own_slice hv1
    clear hv1
    refine hK.out _ _ ?s1_3 ?r1_3
    case s1_3 => (try dsimp only); exact ⟨grew_cell hb HS.1, grew_cell hb HS.2.1, grew_cell hb HS.2.2.1, HS.2.2.2.trans hb⟩
    case r1_3 =>
      clear HS
      intro HS
      clear hK K
      try simp only [Act.put, List.setIfInBounds_toArray, List.set_cons_zero, List.set_cons_succ]
      refine cl 4 rfl (by kernel_rfl) (fun K hK => ?_)
      go_simp
      go_at_call 117
      refine (implEvaluated s ⟨p_q, p_r, s.next⟩ _ xs _ _ (HST.out.grew (hg0.trans HS.2.2.2)) (HD.out.grew (hg0.trans HS.2.2.2)) (by simpa using HVN.out) hx hz hzs).mono ?_
      rintro e w5 ⟨v, rfl, ho, hb⟩
      have HO := Lib.hid (OwnRss.lo ho ((hg0.trans HS.2.2.2).size))
      obtain ⟨ra, rc, rfl⟩ := ownRss_slice ho
      clear ho
      refine hK.out _ _ ?s1_4 ?r1_4
      case s1_4 => (try dsimp only); exact ⟨grew_cell hb HS.1, grew_cell hb HS.2.1, grew_cell hb HS.2.2.1, HS.2.2.2.trans hb⟩
      case r1_4 =>
        clear HS
        intro HS
        clear hK K
        try simp only [Act.put, List.setIfInBounds_toArray, List.set_cons_zero, List.set_cons_succ]
        first
          | refine sk 5 rfl (by kernel_rfl) rfl HS ?_
          | (refine tk (v := ?v1_5) 5 rfl (by kernel_rfl) rfl ?y1_5 HS ?_; case y1_5 => (intro w' hSw; (try dsimp only at hSw); go_simp <;> (with_reducible rfl)))
        try simp only [Act.put, List.setIfInBounds_toArray, List.set_cons_zero, List.set_cons_succ]
        first
          | refine sk 6 rfl (by kernel_rfl) rfl HS ?_
          | (refine tk (v := ?v1_6) 6 rfl (by kernel_rfl) rfl ?y1_6 HS ?_; case y1_6 => (intro w' hSw; (try dsimp only at hSw); go_simp <;> (with_reducible rfl)))
        try simp only [Act.put, List.setIfInBounds_toArray, List.set_cons_zero, List.set_cons_succ]
        first
          | refine sk 7 rfl (by kernel_rfl) rfl HS ?_
          | (refine tk (v := ?v1_7) 7 rfl (by kernel_rfl) rfl ?y1_7 HS ?_; case y1_7 => (intro w' hSw; (try dsimp only at hSw); go_simp <;> (with_reducible rfl)))
        try simp only [Act.put, List.setIfInBounds_toArray, List.set_cons_zero, List.set_cons_succ]
        first
          | refine sk 8 rfl (by kernel_rfl) rfl HS ?_
          | (refine tk (v := ?v1_8) 8 rfl (by kernel_rfl) rfl ?y1_8 HS ?_; case y1_8 => (intro w' hSw; (try dsimp only at hSw); go_simp <;> (with_reducible rfl)))
        try simp only [Act.put, List.setIfInBounds_toArray, List.set_cons_zero, List.set_cons_succ]
        first
          | refine sk 9 rfl (by kernel_rfl) rfl HS ?_
          | (refine tk (v := ?v1_9) 9 rfl (by kernel_rfl) rfl ?y1_9 HS ?_; case y1_9 => (intro w' hSw; (try dsimp only at hSw); go_simp <;> (with_reducible rfl)))
        try simp only [Act.put, List.setIfInBounds_toArray, List.set_cons_zero, List.set_cons_succ]
        first
          | refine sk 10 rfl (by kernel_rfl) rfl HS ?_
          | (refine tk (v := ?v1_10) 10 rfl (by kernel_rfl) rfl ?y1_10 HS ?_; case y1_10 => (intro w' hSw; (try dsimp only at hSw); go_simp <;> (with_reducible rfl)))
        try simp only [Act.put, List.setIfInBounds_toArray, List.set_cons_zero, List.set_cons_succ]
        first
          | refine sk 11 rfl (by kernel_rfl) rfl HS ?_
          | (refine tk (v := ?v1_11) 11 rfl (by kernel_rfl) rfl ?y1_11 HS ?_; case y1_11 => (intro w' hSw; (try dsimp only at hSw); go_simp <;> (with_reducible rfl)))
        try simp only [Act.put, List.setIfInBounds_toArray, List.set_cons_zero, List.set_cons_succ]
        refine wpAnyH_done (by kernel_rfl) ?_ _
        refine NoPanic.normal ?_
        go_wp2
        go_ret2
        exact ⟨_, rfl, HO.out, (hg0.trans HS.2.2.2)⟩
end Go.Proofs.YtejgpghcahinhaaGreat
namespace Go.Proofs.YtejgpghcahinhaaGreat
open Go.RowKit
set_option linter.unusedVariables false
noncomputable def efRs (xs : List Dr) (s : St) (u : Int) : List Rs := if (inB u 0 2 && stoB s) = true then evRs xs (visS s u) else []
noncomputable def efOk (xs : List Dr) (s : St) (u : Int) : Bool := (inB u 0 2 && stoB s) && evOk xs (visS s u)
noncomputable def lsI (xs : List Dr) (s : St) (u : Int) (nm : ByteArray) : List Int := resIds (efRs xs s u) nm
theorem efRs_len (xs : List Dr) (s : St) (u : Int) : (efRs xs s u).length ≤ xs.length := by
  unfold efRs
  split
  · exact (evRs_ok xs (visS s u)).1
  · simp
theorem efRs_small {xs : List Dr} {s : St} {u : Int} (hs : s.sz ≤ 4000000) : ∀ x, x ∈ efRs xs s u → x.small := by
  unfold efRs
  split
  · exact evRs_small (Nat.le_trans (visS_sz s u) hs)
  · intro x hx; cases hx
theorem efRs_cnt {xs : List Dr} {s : St} {u : Int} (hs : s.sz ≤ 4000000) (hx : xs.length ≤ 4000000) : 0 ≤ cntL cntRs (efRs xs s u) ∧ cntL cntRs (efRs xs s u) ≤ 40000000000000 := by
  have h1 := cnt_smallR (efRs xs s u) (efRs_small hs)
  have h2 := efRs_len xs s u
  omega
set_option maxRecDepth 100000 in
set_option maxHeartbeats 2000000 in
theorem specEvaluateForUser (s : St) (p : PS) (va : Value) (xs : List Dr) (u : Int) (w : World) (hs : St.R w s p) (ha : RdDs w va xs) (hx : xs.length ≤ 1900000) (hz : szAll Dr.sz xs ≤ 4000000) (hzs : s.sz ≤ 4000000) :
    Calls Tryz.prog 57 #[p.v, va, .int .i64 u] w fun e w' => ∃ v, e = .returned (.tuple #[v, .bool (efOk xs s u)]) ∧ OwnRss w' w.heap.size w'.heap.size v (efRs xs s u) ∧ Grew w w' := by
  obtain ⟨p_q, p_r, p_n⟩ := p
  have hsn : p_n = s.next := hs.2.2
  subst hsn
  have HST := Lib.hid hs
  have HD := Lib.hid ha
  clear hs
  obtain ⟨qs, ⟨a, ca, rfl, hca, hra⟩, hall⟩ := ha
  clear hall hca hra
  have hg0 := (Grew.refl w).alloc (.cells #[p_q, p_r, .int .i64 s.next] 27)
  have x0 : (w.alloc (.cells #[p_q, p_r, .int .i64 s.next] 27)).cell? ⟨w.heap.size, 0, none⟩ = some p_q := by simp
  have x1 : (w.alloc (.cells #[p_q, p_r, .int .i64 s.next] 27)).cell? ⟨w.heap.size, 1, none⟩ = some p_r := by simp
  have x2 : (w.alloc (.cells #[p_q, p_r, .int .i64 s.next] 27)).cell? ⟨w.heap.size, 2, none⟩ = some (.int .i64 s.next) := by simp
  change Calls Tryz.prog _ #[.agg #[p_q, p_r, .int .i64 s.next], _, .int .i64 u] w _
  obtain ⟨bt, hbt⟩ : ∃ b, inB u 0 2 = b := ⟨_, rfl⟩
  obtain ⟨bo, hbo⟩ : ∃ b, stoB s = b := ⟨_, rfl⟩
  have HIN := Lib.hid hbt
  have HSO := Lib.hid hbo
  have HNO := Lib.hid (show (bt && bo) = false → efOk xs s u = false ∧ efRs xs s u = [] from fun h => by
    unfold efOk efRs
    rw [hbt, hbo, h]
    exact ⟨rfl, rfl⟩)
  have HYES := Lib.hid (show (bt && bo) = true → efOk xs s u = evOk xs (visS s u) ∧ efRs xs s u = evRs xs (visS s u) from fun h => by
    unfold efOk efRs
    rw [hbt, hbo, h]
    exact ⟨rfl, rfl⟩)
  clear hbt hbo
  have hcs : bt = false ∨ bt = true := by cases bt <;> simp
  have hco : bo = false ∨ bo = true := by cases bo <;> simp
  rcases hcs with rfl | rfl
  · go_enter Tryz.func57, Tryz.ntmps57
    go_wp2_with (go_at_call 89; refine (l01In _ _ _ _).mono ?_; rintro e w1 ⟨he, rfl⟩; rw [HIN.out] at he; subst he)
    go_ret2
    have h1 := HNO.out rfl
    rw [h1.1, h1.2]
    have h2 := (GrowR.base (GrowR.lit (w.alloc (.cells #[p_q, p_r, .int .i64 s.next] 27))) hg0.size).own
    rw [show (w.alloc (.cells #[p_q, p_r, .int .i64 s.next] 27)).heap.size = w.heap.size + 1 by simp] at h2
    exact ⟨.slice (some ⟨w.heap.size + 1, 0, none⟩) 0 0, rfl, h2, hg0.alloc _⟩
  rcases hco with rfl | rfl
  · go_enter Tryz.func57, Tryz.ntmps57
    go_wp2_with (first | (go_at_call 89; refine (l01In _ _ _ _).mono ?_; rintro e w1 ⟨he, rfl⟩; rw [HIN.out] at he; subst he) | (go_at_call 18; refine (specIsValidStore s ⟨p_q, p_r, s.next⟩ _ (HST.out.grew hg0) hzs).mono ?_; rintro e w2 ⟨he, hb2⟩; rw [HSO.out] at he; subst he; have y0 := grew_cell hb2 x0; have y1 := grew_cell hb2 x1; have y2 := grew_cell hb2 x2))
    go_ret2
    have h1 := HNO.out rfl
    rw [h1.1, h1.2]
    exact ⟨_, rfl, (GrowR.base (GrowR.lit _) (hg0.trans hb2).size).own, (hg0.trans hb2).alloc _⟩
  go_enter Tryz.func57, Tryz.ntmps57
  go_wp2_with (first | (go_at_call 89; refine (l01In _ _ _ _).mono ?_; rintro e w1 ⟨he, rfl⟩; rw [HIN.out] at he; subst he) | (go_at_call 18; refine (specIsValidStore s ⟨p_q, p_r, s.next⟩ _ (HST.out.grew hg0) hzs).mono ?_; rintro e w2 ⟨he, hb2⟩; rw [HSO.out] at he; subst he; have y0 := grew_cell hb2 x0; have y1 := grew_cell hb2 x1; have y2 := grew_cell hb2 x2) | (go_at_call 85; refine (specVisibleStore s ⟨p_q, p_r, s.next⟩ u _ (HST.out.grew (hg0.trans hb2)) hzs).mono ?_; rintro e w3 ⟨p3, rfl, hv, hb3⟩; have HV := Lib.hid hv; obtain ⟨v_q, v_r, v_n⟩ := p3; clear hv) | (go_at_call 47; refine (specEvaluate (visS s u) ⟨v_q, v_r, v_n⟩ _ xs _ HV.out (HD.out.grew ((hg0.trans hb2).trans hb3)) hx hz (Nat.le_trans (visS_sz s u) hzs)).mono ?_; rintro e w4 ⟨v, rfl, ho, hb4⟩; have HO := Lib.hid ho; obtain ⟨ra, rc, rfl⟩ := ownRss_slice ho; clear ho))
  go_ret2
  have h1 := HYES.out rfl
  rw [h1.1, h1.2]
  exact ⟨_, rfl, OwnRss.lo HO.out ((hg0.trans hb2).trans hb3).size, ((hg0.trans hb2).trans hb3).trans hb4⟩
set_option maxRecDepth 100000 in
set_option maxHeartbeats 2000000 in
theorem implEvaluateForUser (s : St) (p : PS) (va : Value) (xs : List Dr) (u : Int) (w : World) (hs : St.R w s p) (ha : RdDs w va xs) (hx : xs.length ≤ 1900000) (hz : szAll Dr.sz xs ≤ 4000000) (hzs : s.sz ≤ 4000000) :
    Calls Tryz.prog 56 #[p.v, va, .int .i64 u] w fun e w' => ∃ v, e = .returned (.tuple #[v, .bool (efOk xs s u)]) ∧ OwnRss w' w.heap.size w'.heap.size v (efRs xs s u) ∧ Grew w w' := by
  obtain ⟨p_q, p_r, p_n⟩ := p
  have hsn : p_n = s.next := hs.2.2
  subst hsn
  have HST := Lib.hid hs
  have HD := Lib.hid ha
  clear hs
  obtain ⟨qs, ⟨a, ca, rfl, hca, hra⟩, hall⟩ := ha
  clear hall hca hra
  have hg0 := (Grew.refl w).alloc (.cells #[p_q, p_r, .int .i64 s.next] 27)
  have x0 : (w.alloc (.cells #[p_q, p_r, .int .i64 s.next] 27)).cell? ⟨w.heap.size, 0, none⟩ = some p_q := by simp
  have x1 : (w.alloc (.cells #[p_q, p_r, .int .i64 s.next] 27)).cell? ⟨w.heap.size, 1, none⟩ = some p_r := by simp
  have x2 : (w.alloc (.cells #[p_q, p_r, .int .i64 s.next] 27)).cell? ⟨w.heap.size, 2, none⟩ = some (.int .i64 s.next) := by simp
  change Calls Tryz.prog _ #[.agg #[p_q, p_r, .int .i64 s.next], _, .int .i64 u] w _
  obtain ⟨bt, hbt⟩ : ∃ b, inB u 0 2 = b := ⟨_, rfl⟩
  obtain ⟨bo, hbo⟩ : ∃ b, stoB s = b := ⟨_, rfl⟩
  have HIN := Lib.hid hbt
  have HSO := Lib.hid hbo
  have HNO := Lib.hid (show (bt && bo) = false → efOk xs s u = false ∧ efRs xs s u = [] from fun h => by
    unfold efOk efRs
    rw [hbt, hbo, h]
    exact ⟨rfl, rfl⟩)
  have HYES := Lib.hid (show (bt && bo) = true → efOk xs s u = evOk xs (visS s u) ∧ efRs xs s u = evRs xs (visS s u) from fun h => by
    unfold efOk efRs
    rw [hbt, hbo, h]
    exact ⟨rfl, rfl⟩)
  clear hbt hbo
  have hcs : bt = false ∨ bt = true := by cases bt <;> simp
  have hco : bo = false ∨ bo = true := by cases bo <;> simp
  rcases hco with rfl | rfl
  · have hbb : (bt && false) = false := by cases bt <;> rfl
    replace HNO := Lib.hid (fun (_ : True) => HNO.out hbb)
    clear hcs hbb HYES
    go_enter Tryz.func56, Tryz.ntmps56
    go_wp2_with (go_at_call 112; refine (implIsValidStore s ⟨p_q, p_r, s.next⟩ _ (HST.out.grew hg0) hzs).mono ?_; rintro e w2 ⟨he, hb2⟩; rw [HSO.out] at he; subst he; have y0 := grew_cell hb2 x0; have y1 := grew_cell hb2 x1; have y2 := grew_cell hb2 x2)
    go_ret2
    have h1 := HNO.out trivial
    rw [h1.1, h1.2]
    exact ⟨_, rfl, ⟨[], own_of (World.ownsRow_nil _ _ _ _), All2.nil, by simpa using Dis.one (.slice none 0 0)⟩, hg0.trans hb2⟩
  rcases hcs with rfl | rfl
  · go_enter Tryz.func56, Tryz.ntmps56
    go_wp2_with (first | (go_at_call 124; refine (implIsUser _ _).mono ?_; rintro e w1 ⟨he, rfl⟩; rw [HIN.out] at he; subst he) | (go_at_call 112; refine (implIsValidStore s ⟨p_q, p_r, s.next⟩ _ (HST.out.grew hg0) hzs).mono ?_; rintro e w2 ⟨he, hb2⟩; rw [HSO.out] at he; subst he; have y0 := grew_cell hb2 x0; have y1 := grew_cell hb2 x1; have y2 := grew_cell hb2 x2))
    go_ret2
    have h1 := HNO.out rfl
    rw [h1.1, h1.2]
    exact ⟨_, rfl, ⟨[], own_of (World.ownsRow_nil _ _ _ _), All2.nil, by simpa using Dis.one (.slice none 0 0)⟩, (hg0.trans hb2)⟩
  go_enter Tryz.func56, Tryz.ntmps56
  go_wp2_with (first | (go_at_call 124; refine (implIsUser _ _).mono ?_; rintro e w1 ⟨he, rfl⟩; rw [HIN.out] at he; subst he) | (go_at_call 112; refine (implIsValidStore s ⟨p_q, p_r, s.next⟩ _ (HST.out.grew hg0) hzs).mono ?_; rintro e w2 ⟨he, hb2⟩; rw [HSO.out] at he; subst he; have y0 := grew_cell hb2 x0; have y1 := grew_cell hb2 x1; have y2 := grew_cell hb2 x2) | (go_at_call 125; refine (implVisibleStore s ⟨p_q, p_r, s.next⟩ u _ (HST.out.grew (hg0.trans hb2)) hzs).mono ?_; rintro e w3 ⟨p3, rfl, hv, hb3⟩; have HV := Lib.hid hv; obtain ⟨v_q, v_r, v_n⟩ := p3; clear hv) | (go_at_call 42; refine (implEvaluate (visS s u) ⟨v_q, v_r, v_n⟩ _ xs _ HV.out (HD.out.grew ((hg0.trans hb2).trans hb3)) hx hz (Nat.le_trans (visS_sz s u) hzs)).mono ?_; rintro e w4 ⟨v, rfl, ho, hb4⟩; have HO := Lib.hid ho; obtain ⟨ra, rc, rfl⟩ := ownRss_slice ho; clear ho))
  go_ret2
  have h1 := HYES.out rfl
  rw [h1.1, h1.2]
  exact ⟨_, rfl, OwnRss.lo HO.out ((hg0.trans hb2).trans hb3).size, ((hg0.trans hb2).trans hb3).trans hb4⟩
set_option maxRecDepth 100000 in
set_option maxHeartbeats 2000000 in
theorem specListDir (s : St) (p : PS) (va : Value) (xs : List Dr) (u : Int) (nm : ByteArray) (w : World) (hs : St.R w s p) (ha : RdDs w va xs) (hx : xs.length ≤ 1900000) (hz : szAll Dr.sz xs ≤ 4000000) (hzs : s.sz ≤ 4000000) :
    Calls Tryz.prog 60 #[p.v, va, .int .i64 u, .string nm] w fun e w' => ∃ v, e = .returned v ∧ w'.ownsRow w.heap.size 3 1 v (lsI xs s u nm).length (ints (lsI xs s u nm)) ∧ Grew w w' := by
  obtain ⟨p_q, p_r, p_n⟩ := p
  have hsn : p_n = s.next := hs.2.2
  subst hsn
  have HST := Lib.hid hs
  have HD := Lib.hid ha
  clear hs
  obtain ⟨qs, ⟨a, ca, rfl, hca, hra⟩, hall⟩ := ha
  clear hall hca hra
  have hg0 := (Grew.refl w).alloc (.cells #[p_q, p_r, .int .i64 s.next] 27)
  have x0 : (w.alloc (.cells #[p_q, p_r, .int .i64 s.next] 27)).cell? ⟨w.heap.size, 0, none⟩ = some p_q := by simp
  have x1 : (w.alloc (.cells #[p_q, p_r, .int .i64 s.next] 27)).cell? ⟨w.heap.size, 1, none⟩ = some p_r := by simp
  have x2 : (w.alloc (.cells #[p_q, p_r, .int .i64 s.next] 27)).cell? ⟨w.heap.size, 2, none⟩ = some (.int .i64 s.next) := by simp
  change Calls Tryz.prog _ #[.agg #[p_q, p_r, .int .i64 s.next], _, .int .i64 u, .string nm] w _
  go_enter Tryz.func60, Tryz.ntmps60
  go_wp2_with (first | (go_at_call 57; refine (specEvaluateForUser s ⟨p_q, p_r, s.next⟩ _ xs u _ (HST.out.grew hg0) (HD.out.grew hg0) hx hz hzs).mono ?_; rintro e w1 ⟨v, rfl, ho, hb⟩; have HO := Lib.hid ho; obtain ⟨ra, rc, rfl⟩ := ownRss_slice ho; clear ho) | (go_at_call 45; refine (specResultIDs _ (efRs xs s u) nm _ HO.out.rd (by have := efRs_len xs s u; omega) (efRs_small hzs)).mono ?_; rintro e w2 ⟨v2, rfl, hv2, hb2⟩; have HV2 := Lib.hid hv2; obtain ⟨ia, ic, rfl⟩ := own_slice hv2; clear hv2))
  go_ret
  exact ⟨_, rfl, ownsRow_base HV2.out (hg0.trans hb).size, (hg0.trans hb).trans hb2⟩
set_option maxRecDepth 100000 in
set_option maxHeartbeats 2000000 in
theorem implListDir (s : St) (p : PS) (va : Value) (xs : List Dr) (u : Int) (nm : ByteArray) (w : World) (hs : St.R w s p) (ha : RdDs w va xs) (hx : xs.length ≤ 1900000) (hz : szAll Dr.sz xs ≤ 4000000) (hzs : s.sz ≤ 4000000) :
    Calls Tryz.prog 20 #[p.v, va, .int .i64 u, .string nm] w fun e w' => ∃ v, e = .returned v ∧ w'.ownsRow w.heap.size 3 1 v (lsI xs s u nm).length (ints (lsI xs s u nm)) ∧ Grew w w' := by
  obtain ⟨p_q, p_r, p_n⟩ := p
  have hsn : p_n = s.next := hs.2.2
  subst hsn
  have HST := Lib.hid hs
  have HD := Lib.hid ha
  clear hs
  obtain ⟨qs, ⟨a, ca, rfl, hca, hra⟩, hall⟩ := ha
  clear hall hca hra
  have hg0 := (Grew.refl w).alloc (.cells #[p_q, p_r, .int .i64 s.next] 27)
  have x0 : (w.alloc (.cells #[p_q, p_r, .int .i64 s.next] 27)).cell? ⟨w.heap.size, 0, none⟩ = some p_q := by simp
  have x1 : (w.alloc (.cells #[p_q, p_r, .int .i64 s.next] 27)).cell? ⟨w.heap.size, 1, none⟩ = some p_r := by simp
  have x2 : (w.alloc (.cells #[p_q, p_r, .int .i64 s.next] 27)).cell? ⟨w.heap.size, 2, none⟩ = some (.int .i64 s.next) := by simp
  change Calls Tryz.prog _ #[.agg #[p_q, p_r, .int .i64 s.next], _, .int .i64 u, .string nm] w _
  go_enter Tryz.func20, Tryz.ntmps20
  go_wp2_with (first | (go_at_call 56; refine (implEvaluateForUser s ⟨p_q, p_r, s.next⟩ _ xs u _ (HST.out.grew hg0) (HD.out.grew hg0) hx hz hzs).mono ?_; rintro e w1 ⟨v, rfl, ho, hb⟩; have HO := Lib.hid ho; obtain ⟨ra, rc, rfl⟩ := ownRss_slice ho; clear ho) | (go_at_call 43; refine (implResultIDs _ (efRs xs s u) nm _ HO.out.rd (by have := efRs_len xs s u; omega) (efRs_small hzs)).mono ?_; rintro e w2 ⟨v2, rfl, hv2, hb2⟩; have HV2 := Lib.hid hv2; obtain ⟨ia, ic, rfl⟩ := own_slice hv2; clear hv2))
  go_ret
  exact ⟨_, rfl, ownsRow_base HV2.out (hg0.trans hb).size, (hg0.trans hb).trans hb2⟩
theorem lsI_le {xs : List Dr} {s : St} {u : Int} {nm : ByteArray} (hs : s.sz ≤ 4000000) : (lsI xs s u nm).length ≤ 4000000 := resIds_small (efRs_small hs)
set_option maxRecDepth 100000 in
set_option maxHeartbeats 2000000 in
theorem specIsListed (s : St) (p : PS) (va : Value) (xs : List Dr) (u : Int) (nm : ByteArray) (id : Int) (w : World) (hs : St.R w s p) (ha : RdDs w va xs) (hx : xs.length ≤ 1900000) (hz : szAll Dr.sz xs ≤ 4000000) (hzs : s.sz ≤ 4000000) :
    Calls Tryz.prog 62 #[p.v, va, .int .i64 u, .string nm, .int .i64 id] w fun e w' => e = .returned (.bool (has (lsI xs s u nm) id)) ∧ Grew w w' := by
  obtain ⟨p_q, p_r, p_n⟩ := p
  have hsn : p_n = s.next := hs.2.2
  subst hsn
  have HST := Lib.hid hs
  have HD := Lib.hid ha
  clear hs
  obtain ⟨qs, ⟨a, ca, rfl, hca, hra⟩, hall⟩ := ha
  clear hall hca hra
  have hg0 := (Grew.refl w).alloc (.cells #[p_q, p_r, .int .i64 s.next] 27)
  have x0 : (w.alloc (.cells #[p_q, p_r, .int .i64 s.next] 27)).cell? ⟨w.heap.size, 0, none⟩ = some p_q := by simp
  have x1 : (w.alloc (.cells #[p_q, p_r, .int .i64 s.next] 27)).cell? ⟨w.heap.size, 1, none⟩ = some p_r := by simp
  have x2 : (w.alloc (.cells #[p_q, p_r, .int .i64 s.next] 27)).cell? ⟨w.heap.size, 2, none⟩ = some (.int .i64 s.next) := by simp
  change Calls Tryz.prog _ #[.agg #[p_q, p_r, .int .i64 s.next], _, .int .i64 u, .string nm, .int .i64 id] w _
  go_enter Tryz.func62, Tryz.ntmps62
  go_wp2_with (first | (go_at_call 60; refine (specListDir s ⟨p_q, p_r, s.next⟩ _ xs u nm _ (HST.out.grew hg0) (HD.out.grew hg0) hx hz hzs).mono ?_; rintro e w1 ⟨v, rfl, ho, hb⟩; have HO := Lib.hid ho; obtain ⟨ra, rc, rfl⟩ := own_slice ho; clear ho) | (go_at_call 44; refine (specContainsID _ _ (lsI xs s u nm) id _ (rd_of_own HO.out) (lsI_le hzs)).mono ?_; rintro e w2 ⟨rfl, rfl⟩))
  go_ret
  exact ⟨rfl, hg0.trans hb⟩
set_option maxRecDepth 100000 in
set_option maxHeartbeats 2000000 in
theorem specCountListed (s : St) (p : PS) (va : Value) (xs : List Dr) (u : Int) (nm : ByteArray) (w : World) (hs : St.R w s p) (ha : RdDs w va xs) (hx : xs.length ≤ 1900000) (hz : szAll Dr.sz xs ≤ 4000000) (hzs : s.sz ≤ 4000000) :
    Calls Tryz.prog 67 #[p.v, va, .int .i64 u, .string nm] w fun e w' => e = .returned (.int .i64 ((lsI xs s u nm).length : Int)) ∧ Grew w w' := by
  obtain ⟨p_q, p_r, p_n⟩ := p
  have hsn : p_n = s.next := hs.2.2
  subst hsn
  have HST := Lib.hid hs
  have HD := Lib.hid ha
  clear hs
  obtain ⟨qs, ⟨a, ca, rfl, hca, hra⟩, hall⟩ := ha
  clear hall hca hra
  have hg0 := (Grew.refl w).alloc (.cells #[p_q, p_r, .int .i64 s.next] 27)
  have x0 : (w.alloc (.cells #[p_q, p_r, .int .i64 s.next] 27)).cell? ⟨w.heap.size, 0, none⟩ = some p_q := by simp
  have x1 : (w.alloc (.cells #[p_q, p_r, .int .i64 s.next] 27)).cell? ⟨w.heap.size, 1, none⟩ = some p_r := by simp
  have x2 : (w.alloc (.cells #[p_q, p_r, .int .i64 s.next] 27)).cell? ⟨w.heap.size, 2, none⟩ = some (.int .i64 s.next) := by simp
  change Calls Tryz.prog _ #[.agg #[p_q, p_r, .int .i64 s.next], _, .int .i64 u, .string nm] w _
  go_enter Tryz.func67, Tryz.ntmps67
  go_wp2_with (go_at_call 60; refine (specListDir s ⟨p_q, p_r, s.next⟩ _ xs u nm _ (HST.out.grew hg0) (HD.out.grew hg0) hx hz hzs).mono ?_; rintro e w1 ⟨v, rfl, ho, hb⟩; have HO := Lib.hid ho; obtain ⟨ra, rc, rfl⟩ := own_slice ho; clear ho)
  go_ret
  exact ⟨rfl, hg0.trans hb⟩
set_option maxRecDepth 100000 in
set_option maxHeartbeats 2000000 in
theorem implIsListed (s : St) (p : PS) (va : Value) (xs : List Dr) (u : Int) (nm : ByteArray) (id : Int) (w : World) (hs : St.R w s p) (ha : RdDs w va xs) (hx : xs.length ≤ 1900000) (hz : szAll Dr.sz xs ≤ 4000000) (hzs : s.sz ≤ 4000000) :
    Calls Tryz.prog 61 #[p.v, va, .int .i64 u, .string nm, .int .i64 id] w fun e w' => e = .returned (.bool (has (lsI xs s u nm) id)) ∧ Grew w w' := by
  obtain ⟨p_q, p_r, p_n⟩ := p
  have hsn : p_n = s.next := hs.2.2
  subst hsn
  have HST := Lib.hid hs
  have HD := Lib.hid ha
  clear hs
  obtain ⟨qs, ⟨a, ca, rfl, hca, hra⟩, hall⟩ := ha
  clear hall hca hra
  have hg0 := (Grew.refl w).alloc (.cells #[p_q, p_r, .int .i64 s.next] 27)
  have x0 : (w.alloc (.cells #[p_q, p_r, .int .i64 s.next] 27)).cell? ⟨w.heap.size, 0, none⟩ = some p_q := by simp
  have x1 : (w.alloc (.cells #[p_q, p_r, .int .i64 s.next] 27)).cell? ⟨w.heap.size, 1, none⟩ = some p_r := by simp
  have x2 : (w.alloc (.cells #[p_q, p_r, .int .i64 s.next] 27)).cell? ⟨w.heap.size, 2, none⟩ = some (.int .i64 s.next) := by simp
  change Calls Tryz.prog _ #[.agg #[p_q, p_r, .int .i64 s.next], _, .int .i64 u, .string nm, .int .i64 id] w _
  go_enter Tryz.func61, Tryz.ntmps61
  go_wp2_with (first | (go_at_call 20; refine (implListDir s ⟨p_q, p_r, s.next⟩ _ xs u nm _ (HST.out.grew hg0) (HD.out.grew hg0) hx hz hzs).mono ?_; rintro e w1 ⟨v, rfl, ho, hb⟩; have HO := Lib.hid ho; obtain ⟨ra, rc, rfl⟩ := own_slice ho; clear ho) | (go_at_call 127; refine (implContainsID _ _ (lsI xs s u nm) id _ (rd_of_own HO.out) (lsI_le hzs)).mono ?_; rintro e w2 ⟨rfl, rfl⟩))
  go_ret
  exact ⟨rfl, hg0.trans hb⟩
set_option maxRecDepth 100000 in
set_option maxHeartbeats 2000000 in
theorem implCountListed (s : St) (p : PS) (va : Value) (xs : List Dr) (u : Int) (nm : ByteArray) (w : World) (hs : St.R w s p) (ha : RdDs w va xs) (hx : xs.length ≤ 1900000) (hz : szAll Dr.sz xs ≤ 4000000) (hzs : s.sz ≤ 4000000) :
    Calls Tryz.prog 21 #[p.v, va, .int .i64 u, .string nm] w fun e w' => e = .returned (.int .i64 ((lsI xs s u nm).length : Int)) ∧ Grew w w' := by
  obtain ⟨p_q, p_r, p_n⟩ := p
  have hsn : p_n = s.next := hs.2.2
  subst hsn
  have HST := Lib.hid hs
  have HD := Lib.hid ha
  clear hs
  obtain ⟨qs, ⟨a, ca, rfl, hca, hra⟩, hall⟩ := ha
  clear hall hca hra
  have hg0 := (Grew.refl w).alloc (.cells #[p_q, p_r, .int .i64 s.next] 27)
  have x0 : (w.alloc (.cells #[p_q, p_r, .int .i64 s.next] 27)).cell? ⟨w.heap.size, 0, none⟩ = some p_q := by simp
  have x1 : (w.alloc (.cells #[p_q, p_r, .int .i64 s.next] 27)).cell? ⟨w.heap.size, 1, none⟩ = some p_r := by simp
  have x2 : (w.alloc (.cells #[p_q, p_r, .int .i64 s.next] 27)).cell? ⟨w.heap.size, 2, none⟩ = some (.int .i64 s.next) := by simp
  change Calls Tryz.prog _ #[.agg #[p_q, p_r, .int .i64 s.next], _, .int .i64 u, .string nm] w _
  go_enter Tryz.func21, Tryz.ntmps21
  go_wp2_with (go_at_call 20; refine (implListDir s ⟨p_q, p_r, s.next⟩ _ xs u nm _ (HST.out.grew hg0) (HD.out.grew hg0) hx hz hzs).mono ?_; rintro e w1 ⟨v, rfl, ho, hb⟩; have HO := Lib.hid ho; obtain ⟨ra, rc, rfl⟩ := own_slice ho; clear ho)
  go_ret
  exact ⟨rfl, hg0.trans hb⟩
set_option maxRecDepth 100000 in
set_option maxHeartbeats 2000000 in
theorem specEqualViews (s : St) (p : PS) (t : St) (p2 : PS) (va : Value) (xs : List Dr) (u : Int) (w : World) (hs : St.R w s p) (ht : St.R w t p2) (ha : RdDs w va xs) (hx : xs.length ≤ 1900000) (hz : szAll Dr.sz xs ≤ 4000000) (hzs : s.sz ≤ 4000000) (hzt : t.sz ≤ 4000000) :
    Calls Tryz.prog 16 #[p.v, p2.v, va, .int .i64 u] w fun e w' => e = .returned (.bool ((efOk xs s u == efOk xs t u) && eqL sameRs (efRs xs s u) (efRs xs t u))) ∧ Grew w w' := by
  obtain ⟨p_q, p_r, p_n⟩ := p
  have hsn : p_n = s.next := hs.2.2
  subst hsn
  obtain ⟨t_q, t_r, t_n⟩ := p2
  have htn : t_n = t.next := ht.2.2
  subst htn
  have HST := Lib.hid hs
  have HTT := Lib.hid ht
  have HD := Lib.hid ha
  clear hs ht
  obtain ⟨qs, ⟨a, ca, rfl, hca, hra⟩, hall⟩ := ha
  clear hall hca hra
  have hg0 := ((Grew.refl w).alloc (.cells #[p_q, p_r, .int .i64 s.next] 27)).alloc (.cells #[t_q, t_r, .int .i64 t.next] 27)
  have x0 : ((w.alloc (.cells #[p_q, p_r, .int .i64 s.next] 27)).alloc (.cells #[t_q, t_r, .int .i64 t.next] 27)).cell? ⟨w.heap.size, 0, none⟩ = some p_q := by simp
  have x1 : ((w.alloc (.cells #[p_q, p_r, .int .i64 s.next] 27)).alloc (.cells #[t_q, t_r, .int .i64 t.next] 27)).cell? ⟨w.heap.size, 1, none⟩ = some p_r := by simp
  have x2 : ((w.alloc (.cells #[p_q, p_r, .int .i64 s.next] 27)).alloc (.cells #[t_q, t_r, .int .i64 t.next] 27)).cell? ⟨w.heap.size, 2, none⟩ = some (.int .i64 s.next) := by simp
  have z0 : ((w.alloc (.cells #[p_q, p_r, .int .i64 s.next] 27)).alloc (.cells #[t_q, t_r, .int .i64 t.next] 27)).cell? ⟨w.heap.size + 1, 0, none⟩ = some t_q := by simp
  have z1 : ((w.alloc (.cells #[p_q, p_r, .int .i64 s.next] 27)).alloc (.cells #[t_q, t_r, .int .i64 t.next] 27)).cell? ⟨w.heap.size + 1, 1, none⟩ = some t_r := by simp
  have z2 : ((w.alloc (.cells #[p_q, p_r, .int .i64 s.next] 27)).alloc (.cells #[t_q, t_r, .int .i64 t.next] 27)).cell? ⟨w.heap.size + 1, 2, none⟩ = some (.int .i64 t.next) := by simp
  change Calls Tryz.prog _ #[.agg #[p_q, p_r, .int .i64 s.next], .agg #[t_q, t_r, .int .i64 t.next], _, .int .i64 u] w _
  obtain ⟨k1, hk1⟩ : ∃ b, efOk xs s u = b := ⟨_, rfl⟩
  obtain ⟨k2, hk2⟩ : ∃ b, efOk xs t u = b := ⟨_, rfl⟩
  have HK1 := Lib.hid hk1
  have HK2 := Lib.hid hk2
  rw [hk1, hk2]
  clear hk1 hk2
  go_enter Tryz.func16, Tryz.ntmps16
  go_wp2_with fail
  refine (specEvaluateForUser s ⟨p_q, p_r, s.next⟩ _ xs u _ (HST.out.grew hg0) (HD.out.grew hg0) hx hz hzs).mono ?_
  rintro e w1 ⟨v, he, ho, hb⟩
  rw [HK1.out] at he
  subst he
  have HO := Lib.hid ho
  obtain ⟨ra, rc, rfl⟩ := ownRss_slice ho
  clear ho
  replace z0 := grew_cell hb z0
  replace z1 := grew_cell hb z1
  replace z2 := grew_cell hb z2
  clear x0 x1 x2
  go_wp2_with fail
  refine (specEvaluateForUser t ⟨t_q, t_r, t.next⟩ _ xs u _ (HTT.out.grew (hg0.trans hb)) (HD.out.grew (hg0.trans hb)) hx hz hzt).mono ?_
  rintro e w2 ⟨v2, he, ho2, hb2⟩
  rw [HK2.out] at he
  subst he
  have HO2 := Lib.hid ho2
  obtain ⟨sa, sc, rfl⟩ := ownRss_slice ho2
  clear ho2 z0 z1 z2
  have hl1 := efRs_len xs s u
  have hl2 := efRs_len xs t u
  have hcs : (k1 == k2) = true ∨ (k1 == k2) = false := by cases k1 == k2 <;> simp
  rcases hcs with hq | hq
  · obtain rfl : k1 = k2 := by simpa using hq
    go_wp2_with (go_at_call 84; refine (specEqualResults _ _ (efRs xs s u) (efRs xs t u) _ (HO.out.rd.grew hb2) HO2.out.rd (by omega) (by omega) (efRs_small hzs) (efRs_small hzt)).mono ?_; rintro e w3 ⟨rfl, hb3⟩)
    go_ret
    exact ⟨ret_bool (by simp), ((hg0.trans hb).trans hb2).trans hb3⟩
  · go_wp2
    go_ret
    exact ⟨ret_bool (by rw [hq]; simp), (hg0.trans hb).trans hb2⟩
set_option maxRecDepth 100000 in
set_option maxHeartbeats 2000000 in
theorem implEqualViews (s : St) (p : PS) (t : St) (p2 : PS) (va : Value) (xs : List Dr) (u : Int) (w : World) (hs : St.R w s p) (ht : St.R w t p2) (ha : RdDs w va xs) (hx : xs.length ≤ 1900000) (hz : szAll Dr.sz xs ≤ 4000000) (hzs : s.sz ≤ 4000000) (hzt : t.sz ≤ 4000000) :
    Calls Tryz.prog 15 #[p.v, p2.v, va, .int .i64 u] w fun e w' => e = .returned (.bool ((efOk xs s u == efOk xs t u) && eqL sameRs (efRs xs s u) (efRs xs t u))) ∧ Grew w w' := by
  obtain ⟨p_q, p_r, p_n⟩ := p
  have hsn : p_n = s.next := hs.2.2
  subst hsn
  obtain ⟨t_q, t_r, t_n⟩ := p2
  have htn : t_n = t.next := ht.2.2
  subst htn
  have HST := Lib.hid hs
  have HTT := Lib.hid ht
  have HD := Lib.hid ha
  clear hs ht
  obtain ⟨qs, ⟨a, ca, rfl, hca, hra⟩, hall⟩ := ha
  clear hall hca hra
  have hg0 := ((Grew.refl w).alloc (.cells #[p_q, p_r, .int .i64 s.next] 27)).alloc (.cells #[t_q, t_r, .int .i64 t.next] 27)
  have x0 : ((w.alloc (.cells #[p_q, p_r, .int .i64 s.next] 27)).alloc (.cells #[t_q, t_r, .int .i64 t.next] 27)).cell? ⟨w.heap.size, 0, none⟩ = some p_q := by simp
  have x1 : ((w.alloc (.cells #[p_q, p_r, .int .i64 s.next] 27)).alloc (.cells #[t_q, t_r, .int .i64 t.next] 27)).cell? ⟨w.heap.size, 1, none⟩ = some p_r := by simp
  have x2 : ((w.alloc (.cells #[p_q, p_r, .int .i64 s.next] 27)).alloc (.cells #[t_q, t_r, .int .i64 t.next] 27)).cell? ⟨w.heap.size, 2, none⟩ = some (.int .i64 s.next) := by simp
  have z0 : ((w.alloc (.cells #[p_q, p_r, .int .i64 s.next] 27)).alloc (.cells #[t_q, t_r, .int .i64 t.next] 27)).cell? ⟨w.heap.size + 1, 0, none⟩ = some t_q := by simp
  have z1 : ((w.alloc (.cells #[p_q, p_r, .int .i64 s.next] 27)).alloc (.cells #[t_q, t_r, .int .i64 t.next] 27)).cell? ⟨w.heap.size + 1, 1, none⟩ = some t_r := by simp
  have z2 : ((w.alloc (.cells #[p_q, p_r, .int .i64 s.next] 27)).alloc (.cells #[t_q, t_r, .int .i64 t.next] 27)).cell? ⟨w.heap.size + 1, 2, none⟩ = some (.int .i64 t.next) := by simp
  change Calls Tryz.prog _ #[.agg #[p_q, p_r, .int .i64 s.next], .agg #[t_q, t_r, .int .i64 t.next], _, .int .i64 u] w _
  obtain ⟨k1, hk1⟩ : ∃ b, efOk xs s u = b := ⟨_, rfl⟩
  obtain ⟨k2, hk2⟩ : ∃ b, efOk xs t u = b := ⟨_, rfl⟩
  have HK1 := Lib.hid hk1
  have HK2 := Lib.hid hk2
  rw [hk1, hk2]
  clear hk1 hk2
  go_enter Tryz.func15, Tryz.ntmps15
  go_wp2_with fail
  refine (implEvaluateForUser s ⟨p_q, p_r, s.next⟩ _ xs u _ (HST.out.grew hg0) (HD.out.grew hg0) hx hz hzs).mono ?_
  rintro e w1 ⟨v, he, ho, hb⟩
  rw [HK1.out] at he
  subst he
  have HO := Lib.hid ho
  obtain ⟨ra, rc, rfl⟩ := ownRss_slice ho
  clear ho
  replace z0 := grew_cell hb z0
  replace z1 := grew_cell hb z1
  replace z2 := grew_cell hb z2
  clear x0 x1 x2
  go_wp2_with fail
  refine (implEvaluateForUser t ⟨t_q, t_r, t.next⟩ _ xs u _ (HTT.out.grew (hg0.trans hb)) (HD.out.grew (hg0.trans hb)) hx hz hzt).mono ?_
  rintro e w2 ⟨v2, he, ho2, hb2⟩
  rw [HK2.out] at he
  subst he
  have HO2 := Lib.hid ho2
  obtain ⟨sa, sc, rfl⟩ := ownRss_slice ho2
  clear ho2 z0 z1 z2
  have hl1 := efRs_len xs s u
  have hl2 := efRs_len xs t u
  have hcs : (k1 == k2) = true ∨ (k1 == k2) = false := by cases k1 == k2 <;> simp
  rcases hcs with hq | hq
  · obtain rfl : k1 = k2 := by simpa using hq
    go_wp2_with (go_at_call 83; refine (implEqualResults _ _ (efRs xs s u) (efRs xs t u) _ (HO.out.rd.grew hb2) HO2.out.rd (by omega) (by omega) (efRs_small hzs) (efRs_small hzt)).mono ?_; rintro e w3 ⟨rfl, hb3⟩)
    go_ret
    exact ⟨ret_bool (by simp), ((hg0.trans hb).trans hb2).trans hb3⟩
  · go_wp2
    go_ret
    exact ⟨ret_bool (by rw [hq]; simp), (hg0.trans hb).trans hb2⟩
end Go.Proofs.YtejgpghcahinhaaGreat
namespace Go.Proofs.YtejgpghcahinhaaGreat.fnExactEvaluateForUser
open Go.RowKit
set_option linter.unusedVariables false
set_option maxRecDepth 100000 in
set_option maxHeartbeats 1000000 in
theorem walkLaw (w : World) (q0 : PS) (x0 : St) (hr0 : St.R w x0 q0) (ho0 : x0.ok0) (u1 : Value) (x1 : List Dr) (hr1 : RdDs w u1 x1) (hn1 : x1.length ≤ maxLen) (ho1 : ∀ x, x ∈ x1 → x.ok0) (a2 : Int) (h2 : I64 a2) :
    Calls Tryz.prog 12 #[.agg (q0.c).toArray, u1, .int .i64 a2] w fun e w' => e = .returned (.bool true) ∧ Grew w w' := by
  have R0 := Lib.hid hr0
  have O0 := Lib.hid ho0
  obtain ⟨f0q, f0r, f0n⟩ := q0
  clear hr0 ho0
  have R1 := Lib.hid hr1
  have O1 := Lib.hid ho1
  obtain ⟨ps1, ⟨sa1, sc1, rfl, hc1, hra1⟩, hall1⟩ := hr1
  clear ho1 hra1 hall1
  clear h2
  change Calls Tryz.prog 12 #[.agg #[f0q, f0r, .int .i64 f0n], _, .int .i64 a2] w _
  go_enter Tryz.func12, Tryz.ntmps12
  have bxf0_0 : (w.alloc (.cells #[f0q, f0r, .int .i64 f0n] 84)).cell? ⟨w.heap.size, 0, none⟩ = some (f0q) := by simp
  have bxf0_1 : (w.alloc (.cells #[f0q, f0r, .int .i64 f0n] 84)).cell? ⟨w.heap.size, 1, none⟩ = some (f0r) := by simp
  have bxf0_2 : (w.alloc (.cells #[f0q, f0r, .int .i64 f0n] 84)).cell? ⟨w.heap.size, 2, none⟩ = some (.int .i64 f0n) := by simp
  have ga1 := Grew.alloc (Grew.refl w) (.cells #[f0q, f0r, .int .i64 f0n] 84)
  have pz1 : Hid (w.heap.size ≤ (w.alloc (.cells #[f0q, f0r, .int .i64 f0n] 84)).heap.size) := Lib.hid (by simp)
  have pbf0 : Hid (w.heap.size < (w.alloc (.cells #[f0q, f0r, .int .i64 f0n] 84)).heap.size) := Lib.hid (by simp)
  go_wp2_with fail
  refine (szStore x0 ⟨f0q, f0r, f0n⟩ _ _ (R0.out.grew ga1) O0.out (by omega) (by omega)).mono ?_
  rintro e w1 ⟨r0, rfl, hl0, s1⟩
  have g1 : Grew w w1 := ga1.trans s1
  have pz2 := Lib.hid s1.size
  replace bxf0_0 := grew_cell s1 bxf0_0
  replace bxf0_1 := grew_cell s1 bxf0_1
  replace bxf0_2 := grew_cell s1 bxf0_2
  rcases hl0 with rfl | ⟨hl0, hp0⟩
  · go_wp2
    go_ret
    exact ⟨rfl, g1⟩
  · have hle0 : r0 ≤ 1048576 := by omega
    have hzt0 : x0.sz ≤ 1048576 := by omega
    have hzz0 : x0.sz ≤ 4000000 := by omega
    have hms0 := Lib.hid (St.small_of hzz0)
    have HL0 := Lib.hid hl0
    clear hl0
    go_wp2_with fail
    refine (szDirS _ x1 _ _ (R1.out.grew g1) hn1 O1.out (by omega) (by omega)).mono ?_
    rintro e w2 ⟨r1, rfl, hl1, s2⟩
    have g2 : Grew w w2 := g1.trans s2
    have pz3 := Lib.hid s2.size
    replace bxf0_0 := grew_cell s2 bxf0_0
    replace bxf0_1 := grew_cell s2 bxf0_1
    replace bxf0_2 := grew_cell s2 bxf0_2
    rcases hl1 with rfl | ⟨hl1, hp1⟩
    · go_wp2
      go_ret
      exact ⟨rfl, g2⟩
    · have hle1 : r1 ≤ 1048576 := by omega
      have hst1 : x1.length ≤ 1048576 := by omega
      have hsm1 : x1.length ≤ 4000000 := by omega
      have hzz1 : szAll Dr.sz x1 ≤ 4000000 := by omega
      have hms1 := Lib.hid (fun x (hx : x ∈ x1) => Dr.small_of (Nat.le_trans (mem_szAll hx) hzz1))
      have HL1 := Lib.hid hl1
      clear hl1
      have BD0 : (efRs x1 x0 a2).length ≤ 4000000 := Nat.le_trans (efRs_len x1 x0 a2) (by omega)
      have SM0 : ∀ x, x ∈ efRs x1 x0 a2 → x.small := efRs_small hzz0
      have CN0 : 0 ≤ cntL cntRs (efRs x1 x0 a2) ∧ cntL cntRs (efRs x1 x0 a2) ≤ 40000000000000 := efRs_cnt hzz0 (by omega)
      have SP := fun (w : World) (v0 : PS) (h0 : St.R w x0 v0) (v1 : Value) (h1 : RdDs w v1 x1) => specEvaluateForUser x0 v0 v1 x1 a2 w h0 h1 (by omega) hzz1 hzz0
      have IM := fun (w : World) (v0 : PS) (h0 : St.R w x0 v0) (v1 : Value) (h1 : RdDs w v1 x1) => implEvaluateForUser x0 v0 v1 x1 a2 w h0 h1 (by omega) hzz1 hzz0
      generalize efRs x1 x0 a2 = rv0 at SP IM BD0 SM0 CN0
      replace SM0 := Lib.hid SM0
      generalize efOk x1 x0 a2 = rv1 at SP IM
      replace SP := Lib.hid SP
      replace IM := Lib.hid IM
      go_wp2_with fail
      refine (toStore x0 ⟨f0q, f0r, f0n⟩ _ (R0.out.grew g2) hms0.out).mono ?_
      rintro e w3 ⟨⟨c0q, c0r, c0n⟩, rfl, o_c0, d_c0, s3⟩
      have g3 : Grew w w3 := g2.trans s3
      have pz4 := Lib.hid s3.size
      replace bxf0_0 := grew_cell s3 bxf0_0
      replace bxf0_1 := grew_cell s3 bxf0_1
      replace bxf0_2 := grew_cell s3 bxf0_2
      replace d_c0 := Lib.hid d_c0
      go_wp2_with fail
      refine (toDirS _ x1 _ (R1.out.grew g3) (by omega) hms1.out).mono ?_
      rintro e w4 ⟨c1, rfl, o_c1, s4⟩
      have g4 : Grew w w4 := g3.trans s4
      have pz5 := Lib.hid s4.size
      replace bxf0_0 := grew_cell s4 bxf0_0
      replace bxf0_1 := grew_cell s4 bxf0_1
      replace bxf0_2 := grew_cell s4 bxf0_2
      replace o_c0 := o_c0.grew s4
      go_wp2_with fail
      refine (SP.out _ ⟨c0q, c0r, c0n⟩ o_c0.rd c1 o_c1.rd).mono ?_
      rintro e w5 ⟨rw0, rfl, o_rw0, s5⟩
      have g5 : Grew w w5 := g4.trans s5
      have pz6 := Lib.hid s5.size
      replace bxf0_0 := grew_cell s5 bxf0_0
      replace bxf0_1 := grew_cell s5 bxf0_1
      replace bxf0_2 := grew_cell s5 bxf0_2
      replace o_c0 := o_c0.grew s5
      replace o_c1 := o_c1.grew s5
      go_wp2_with fail
      refine (toStore x0 ⟨f0q, f0r, f0n⟩ _ (R0.out.grew g5) hms0.out).mono ?_
      rintro e w6 ⟨⟨y0q, y0r, y0n⟩, rfl, o_y0, d_y0, s6⟩
      have g6 : Grew w w6 := g5.trans s6
      have pz7 := Lib.hid s6.size
      replace bxf0_0 := grew_cell s6 bxf0_0
      replace bxf0_1 := grew_cell s6 bxf0_1
      replace bxf0_2 := grew_cell s6 bxf0_2
      replace d_y0 := Lib.hid d_y0
      replace o_rw0 := o_rw0.grew s6
      obtain ⟨y0qa, y0qc, y0ra, y0rc, he_y0⟩ := o_y0.slices
      cases he_y0
      replace o_rw0 := o_rw0.grew ((Grew.refl _).alloc (.cells #[.slice y0qa x0.schema.length y0qc, .slice y0ra x0.files.length y0rc, .int .i64 x0.next] 27))
      replace o_y0 := o_y0.grew ((Grew.refl _).alloc (.cells #[.slice y0qa x0.schema.length y0qc, .slice y0ra x0.files.length y0rc, .int .i64 x0.next] 27))
      replace bxf0_0 := grew_cell ((Grew.refl _).alloc (.cells #[.slice y0qa x0.schema.length y0qc, .slice y0ra x0.files.length y0rc, .int .i64 x0.next] 27)) bxf0_0
      replace bxf0_1 := grew_cell ((Grew.refl _).alloc (.cells #[.slice y0qa x0.schema.length y0qc, .slice y0ra x0.files.length y0rc, .int .i64 x0.next] 27)) bxf0_1
      replace bxf0_2 := grew_cell ((Grew.refl _).alloc (.cells #[.slice y0qa x0.schema.length y0qc, .slice y0ra x0.files.length y0rc, .int .i64 x0.next] 27)) bxf0_2
      have bxy0_0 : (w6.alloc (.cells #[.slice y0qa x0.schema.length y0qc, .slice y0ra x0.files.length y0rc, .int .i64 x0.next] 27)).cell? ⟨w6.heap.size, 0, none⟩ = some (.slice y0qa x0.schema.length y0qc) := by simp
      have bxy0_1 : (w6.alloc (.cells #[.slice y0qa x0.schema.length y0qc, .slice y0ra x0.files.length y0rc, .int .i64 x0.next] 27)).cell? ⟨w6.heap.size, 1, none⟩ = some (.slice y0ra x0.files.length y0rc) := by simp
      have bxy0_2 : (w6.alloc (.cells #[.slice y0qa x0.schema.length y0qc, .slice y0ra x0.files.length y0rc, .int .i64 x0.next] 27)).cell? ⟨w6.heap.size, 2, none⟩ = some (.int .i64 x0.next) := by simp
      have ga2 := Grew.alloc g6 (.cells #[.slice y0qa x0.schema.length y0qc, .slice y0ra x0.files.length y0rc, .int .i64 x0.next] 27)
      have pz8 : Hid (w6.heap.size ≤ (w6.alloc (.cells #[.slice y0qa x0.schema.length y0qc, .slice y0ra x0.files.length y0rc, .int .i64 x0.next] 27)).heap.size) := Lib.hid (by simp)
      have pby0 : Hid (w6.heap.size < (w6.alloc (.cells #[.slice y0qa x0.schema.length y0qc, .slice y0ra x0.files.length y0rc, .int .i64 x0.next] 27)).heap.size) := Lib.hid (by simp)
      go_wp2_with fail
      refine (toDirS _ x1 _ (R1.out.grew ga2) (by omega) hms1.out).mono ?_
      rintro e w7 ⟨y1, rfl, o_y1, s7⟩
      have g7 : Grew w w7 := ga2.trans s7
      have pz9 := Lib.hid s7.size
      replace bxf0_0 := grew_cell s7 bxf0_0
      replace bxf0_1 := grew_cell s7 bxf0_1
      replace bxf0_2 := grew_cell s7 bxf0_2
      replace bxy0_0 := grew_cell s7 bxy0_0
      replace bxy0_1 := grew_cell s7 bxy0_1
      replace bxy0_2 := grew_cell s7 bxy0_2
      replace o_rw0 := o_rw0.grew s7
      replace o_y0 := o_y0.grew s7
      go_wp2_with fail
      refine (IM.out _ ⟨.slice y0qa x0.schema.length y0qc, .slice y0ra x0.files.length y0rc, x0.next⟩ o_y0.rd y1 o_y1.rd).mono ?_
      rintro e w8 ⟨rg0, rfl, o_rg0, s8⟩
      have g8 : Grew w w8 := g7.trans s8
      have pz10 := Lib.hid s8.size
      replace bxf0_0 := grew_cell s8 bxf0_0
      replace bxf0_1 := grew_cell s8 bxf0_1
      replace bxf0_2 := grew_cell s8 bxf0_2
      replace bxy0_0 := grew_cell s8 bxy0_0
      replace bxy0_1 := grew_cell s8 bxy0_1
      replace bxy0_2 := grew_cell s8 bxy0_2
      replace o_rw0 := o_rw0.grew s8
      replace o_y0 := o_y0.grew s8
      replace o_y1 := o_y1.grew s8
      go_wp2_with fail
      refine (eqResultS _ _ rv0 _ o_rg0.rd o_rw0.rd (by omega) SM0.out).mono ?_
      rintro e w9 ⟨rfl, s9⟩
      have g9 : Grew w w9 := g8.trans s9
      have pz11 := Lib.hid s9.size
      replace bxf0_0 := grew_cell s9 bxf0_0
      replace bxf0_1 := grew_cell s9 bxf0_1
      replace bxf0_2 := grew_cell s9 bxf0_2
      replace bxy0_0 := grew_cell s9 bxy0_0
      replace bxy0_1 := grew_cell s9 bxy0_1
      replace bxy0_2 := grew_cell s9 bxy0_2
      replace o_rw0 := o_rw0.grew s9
      replace o_y0 := o_y0.grew s9
      replace o_y1 := o_y1.grew s9
      replace o_rg0 := o_rg0.grew s9
      go_wp2
      refine wp_region_noPanic ?_
      refine wp_region_held_drew (S := (fun w' => (w'.cell? ⟨w.heap.size, 0, none⟩ = some (f0q) ∧ w'.cell? ⟨w.heap.size, 1, none⟩ = some (f0r) ∧ w'.cell? ⟨w.heap.size, 2, none⟩ = some (.int .i64 f0n) ∧ w'.cell? ⟨w6.heap.size, 0, none⟩ = some (.slice y0qa x0.schema.length y0qc) ∧ w'.cell? ⟨w6.heap.size, 1, none⟩ = some (.slice y0ra x0.files.length y0rc) ∧ w'.cell? ⟨w6.heap.size, 2, none⟩ = some (.int .i64 x0.next) ∧ Grew (w9) w'))) (by kernel_rfl) ?h1_S ?h1_r
      case h1_S => exact ⟨bxf0_0, bxf0_1, bxf0_2, bxy0_0, bxy0_1, bxy0_2, (Grew.refl _).drew⟩
      case h1_r =>
        intro HS
        first
          | refine sk 0 rfl (by kernel_rfl) rfl HS ?_
          | (refine tk (v := ?v1_0) 0 rfl (by kernel_rfl) rfl ?y1_0 HS ?_; case y1_0 => (intro w' hSw; (try dsimp only at hSw); go_simp <;> (with_reducible rfl)))
        try simp only [Act.put, List.setIfInBounds_toArray, List.set_cons_zero, List.set_cons_succ]
        first
          | refine sk 1 rfl (by kernel_rfl) rfl HS ?_
          | (refine tk (v := ?v1_1) 1 rfl (by kernel_rfl) rfl ?y1_1 HS ?_; case y1_1 => (intro w' hSw; (try dsimp only at hSw); go_simp <;> (with_reducible rfl)))
        try simp only [Act.put, List.setIfInBounds_toArray, List.set_cons_zero, List.set_cons_succ]
        refine cl 2 rfl (by kernel_rfl) (fun K hK => ?_)
        go_simp
        go_at_call 68; refine (toStore x0 ⟨f0q, f0r, f0n⟩ _ (R0.out.grew (g9.trans HS.2.2.2.2.2.2)) hms0.out).mono ?_; rintro e wz0 ⟨⟨z0q, z0r, z0n⟩, rfl, o_z0, d_z0, hb⟩
        refine hK.out _ _ ?s1_2 ?r1_2
        case s1_2 => (try dsimp only); exact ⟨grew_cell hb HS.1, grew_cell hb HS.2.1, grew_cell hb HS.2.2.1, grew_cell hb HS.2.2.2.1, grew_cell hb HS.2.2.2.2.1, grew_cell hb HS.2.2.2.2.2.1, HS.2.2.2.2.2.2.trans hb⟩
        case r1_2 =>
          clear HS
          intro HS
          clear hK K
          try simp only [Act.put, List.setIfInBounds_toArray, List.set_cons_zero, List.set_cons_succ]
          refine cl 3 rfl (by kernel_rfl) (fun K hK => ?_)
          go_simp
          go_at_call 70; refine (eqStore x0 ⟨.slice y0qa x0.schema.length y0qc, .slice y0ra x0.files.length y0rc, x0.next⟩ ⟨z0q, z0r, z0n⟩ _ (o_y0.grew HS.2.2.2.2.2.2).rd o_z0.rd hms0.out).mono ?_; rintro e wy0 ⟨rfl, hb⟩
          refine hK.out _ _ ?s1_3 ?r1_3
          case s1_3 => (try dsimp only); exact ⟨grew_cell hb HS.1, grew_cell hb HS.2.1, grew_cell hb HS.2.2.1, grew_cell hb HS.2.2.2.1, grew_cell hb HS.2.2.2.2.1, grew_cell hb HS.2.2.2.2.2.1, HS.2.2.2.2.2.2.trans hb⟩
          case r1_3 =>
            clear HS
            intro HS
            clear hK K
            try simp only [Act.put, List.setIfInBounds_toArray, List.set_cons_zero, List.set_cons_succ]
            first
              | refine sk 4 rfl (by kernel_rfl) rfl HS ?_
              | (refine tk (v := ?v1_4) 4 rfl (by kernel_rfl) rfl ?y1_4 HS ?_; case y1_4 => (intro w' hSw; (try dsimp only at hSw); go_simp <;> (with_reducible rfl)))
            try simp only [Act.put, List.setIfInBounds_toArray, List.set_cons_zero, List.set_cons_succ]
            refine wpAnyH_done (by kernel_rfl) ?_ _
            refine NoPanic.normal ?_
            have sd1 : Grew (w9) wy0 := HS.2.2.2.2.2.2
            have gd1 := g9.trans sd1
            have pz12 := Lib.hid sd1.size
            replace o_rw0 := o_rw0.grew sd1
            replace o_y0 := o_y0.grew sd1
            replace o_y1 := o_y1.grew sd1
            replace o_rg0 := o_rg0.grew sd1
            replace bxf0_0 := HS.1
            replace bxf0_1 := HS.2.1
            replace bxf0_2 := HS.2.2.1
            replace bxy0_0 := HS.2.2.2.1
            replace bxy0_1 := HS.2.2.2.2.1
            replace bxy0_2 := HS.2.2.2.2.2.1
            clear HS
            go_wp2_with fail
            refine (toDirS _ x1 _ (R1.out.grew gd1) (by omega) hms1.out).mono ?_
            rintro e w10 ⟨z1, rfl, o_z1, s10⟩
            have g10 : Grew w w10 := gd1.trans s10
            have pz13 := Lib.hid s10.size
            replace bxf0_0 := grew_cell s10 bxf0_0
            replace bxf0_1 := grew_cell s10 bxf0_1
            replace bxf0_2 := grew_cell s10 bxf0_2
            replace bxy0_0 := grew_cell s10 bxy0_0
            replace bxy0_1 := grew_cell s10 bxy0_1
            replace bxy0_2 := grew_cell s10 bxy0_2
            replace o_rw0 := o_rw0.grew s10
            replace o_y0 := o_y0.grew s10
            replace o_y1 := o_y1.grew s10
            replace o_rg0 := o_rg0.grew s10
            go_wp2_with fail
            refine (eqDirS _ _ x1 _ o_y1.rd o_z1.rd (by omega) hms1.out).mono ?_
            rintro e w11 ⟨rfl, s11⟩
            have g11 : Grew w w11 := g10.trans s11
            have pz14 := Lib.hid s11.size
            replace bxf0_0 := grew_cell s11 bxf0_0
            replace bxf0_1 := grew_cell s11 bxf0_1
            replace bxf0_2 := grew_cell s11 bxf0_2
            replace bxy0_0 := grew_cell s11 bxy0_0
            replace bxy0_1 := grew_cell s11 bxy0_1
            replace bxy0_2 := grew_cell s11 bxy0_2
            replace o_rw0 := o_rw0.grew s11
            replace o_y0 := o_y0.grew s11
            replace o_y1 := o_y1.grew s11
            replace o_rg0 := o_rg0.grew s11
            replace o_z1 := o_z1.grew s11
            go_wp2_with fail
            refine (markStore x0 ⟨.slice y0qa x0.schema.length y0qc, .slice y0ra x0.files.length y0rc, x0.next⟩ 1 _ _ _ o_y0 hms0.out (by omega) (by omega) ⟨(St.cnt_ok hzz0).1, (St.cnt_ok hzz0).2.1⟩).mono ?_
            rintro e w12 ⟨he, om, s12⟩
            clear om
            obtain ⟨kk0, ka0, kb0, rfl⟩ : ∃ k : Int, 0 ≤ k ∧ k ≤ 64000001 ∧ e = .returned (.int .i64 k) := ⟨_, by have := St.cnt_ok hzz0; omega, by have := St.cnt_ok hzz0; omega, he⟩
            have pz15 := Lib.hid s12.size
            have g12 : Grew w w12 := Touch.new g11 s12 (Nat.le_trans (Nat.le_trans (Nat.le_trans (Nat.le_trans (Nat.le_trans (pz1.out) pz2.out) pz3.out) pz4.out) pz5.out) pz6.out)
            replace o_rw0 := o_rw0.touch s12 (.inl (Nat.le_refl _))
            replace o_y1 := o_y1.touch s12 (.inr (pz8.out))
            replace o_rg0 := o_rg0.touch s12 (.inr (Nat.le_trans (pz8.out) pz9.out))
            replace bxf0_0 := touch_cell s12 (.inl (Nat.lt_of_lt_of_le pbf0.out (Nat.le_trans (Nat.le_trans (Nat.le_trans (Nat.le_trans (pz2.out) pz3.out) pz4.out) pz5.out) pz6.out))) bxf0_0
            replace bxf0_1 := touch_cell s12 (.inl (Nat.lt_of_lt_of_le pbf0.out (Nat.le_trans (Nat.le_trans (Nat.le_trans (Nat.le_trans (pz2.out) pz3.out) pz4.out) pz5.out) pz6.out))) bxf0_1
            replace bxf0_2 := touch_cell s12 (.inl (Nat.lt_of_lt_of_le pbf0.out (Nat.le_trans (Nat.le_trans (Nat.le_trans (Nat.le_trans (pz2.out) pz3.out) pz4.out) pz5.out) pz6.out))) bxf0_2
            replace bxy0_0 := touch_cell s12 (.inr (Nat.le_refl _)) bxy0_0
            replace bxy0_1 := touch_cell s12 (.inr (Nat.le_refl _)) bxy0_1
            replace bxy0_2 := touch_cell s12 (.inr (Nat.le_refl _)) bxy0_2
            go_wp2_with fail
            refine (markDirS _ x1 kk0 _ _ _ o_y1 (by omega) hms1.out (by omega) (by have := Dr.cnt_ok (xs := x1) (by omega) hzz1; omega)).mono ?_
            rintro e w13 ⟨he, om, s13⟩
            clear om
            obtain ⟨kk1, ka1, kb1, rfl⟩ : ∃ k : Int, 0 ≤ k ∧ k ≤ 120000001 ∧ e = .returned (.int .i64 k) := ⟨_, by have := Dr.cnt_ok (xs := x1) (by omega) hzz1; omega, by have := Dr.cnt_ok (xs := x1) (by omega) hzz1; omega, he⟩
            have pz16 := Lib.hid s13.size
            have g13 : Grew w w13 := Touch.new g12 s13 (Nat.le_trans (Nat.le_trans (Nat.le_trans (Nat.le_trans (Nat.le_trans (Nat.le_trans (Nat.le_trans (pz1.out) pz2.out) pz3.out) pz4.out) pz5.out) pz6.out) pz7.out) pz8.out)
            replace o_rw0 := o_rw0.touch s13 (.inl (Nat.le_trans (pz7.out) pz8.out))
            replace o_rg0 := o_rg0.touch s13 (.inr (Nat.le_refl _))
            replace bxf0_0 := touch_cell s13 (.inl (Nat.lt_of_lt_of_le pbf0.out (Nat.le_trans (Nat.le_trans (Nat.le_trans (Nat.le_trans (Nat.le_trans (Nat.le_trans (pz2.out) pz3.out) pz4.out) pz5.out) pz6.out) pz7.out) pz8.out))) bxf0_0
            replace bxf0_1 := touch_cell s13 (.inl (Nat.lt_of_lt_of_le pbf0.out (Nat.le_trans (Nat.le_trans (Nat.le_trans (Nat.le_trans (Nat.le_trans (Nat.le_trans (pz2.out) pz3.out) pz4.out) pz5.out) pz6.out) pz7.out) pz8.out))) bxf0_1
            replace bxf0_2 := touch_cell s13 (.inl (Nat.lt_of_lt_of_le pbf0.out (Nat.le_trans (Nat.le_trans (Nat.le_trans (Nat.le_trans (Nat.le_trans (Nat.le_trans (pz2.out) pz3.out) pz4.out) pz5.out) pz6.out) pz7.out) pz8.out))) bxf0_2
            replace bxy0_0 := touch_cell s13 (.inl (Nat.lt_of_lt_of_le pby0.out (Nat.le_refl _))) bxy0_0
            replace bxy0_1 := touch_cell s13 (.inl (Nat.lt_of_lt_of_le pby0.out (Nat.le_refl _))) bxy0_1
            replace bxy0_2 := touch_cell s13 (.inl (Nat.lt_of_lt_of_le pby0.out (Nat.le_refl _))) bxy0_2
            go_wp2_with fail
            refine (eqResultS _ _ rv0 _ o_rg0.rd o_rw0.rd (by omega) SM0.out).mono ?_
            rintro e w14 ⟨rfl, s14⟩
            have g14 : Grew w w14 := g13.trans s14
            have pz17 := Lib.hid s14.size
            replace bxf0_0 := grew_cell s14 bxf0_0
            replace bxf0_1 := grew_cell s14 bxf0_1
            replace bxf0_2 := grew_cell s14 bxf0_2
            replace bxy0_0 := grew_cell s14 bxy0_0
            replace bxy0_1 := grew_cell s14 bxy0_1
            replace bxy0_2 := grew_cell s14 bxy0_2
            replace o_rw0 := o_rw0.grew s14
            replace o_rg0 := o_rg0.grew s14
            go_wp2_with fail
            refine (markResultS _ rv0 (1) _ _ _ o_rg0 (by omega) SM0.out (by omega) (by omega)).mono ?_
            rintro e w15 ⟨rfl, om_rg0, s15⟩
            have pz18 := Lib.hid s15.size
            have g15 : Grew w w15 := Touch.new g14 s15 (Nat.le_trans (Nat.le_trans (Nat.le_trans (Nat.le_trans (Nat.le_trans (Nat.le_trans (Nat.le_trans (Nat.le_trans (pz1.out) pz2.out) pz3.out) pz4.out) pz5.out) pz6.out) pz7.out) pz8.out) pz9.out)
            replace o_rw0 := o_rw0.touch s15 (.inl (Nat.le_trans (Nat.le_trans (pz7.out) pz8.out) pz9.out))
            replace bxf0_0 := touch_cell s15 (.inl (Nat.lt_of_lt_of_le pbf0.out (Nat.le_trans (Nat.le_trans (Nat.le_trans (Nat.le_trans (Nat.le_trans (Nat.le_trans (Nat.le_trans (pz2.out) pz3.out) pz4.out) pz5.out) pz6.out) pz7.out) pz8.out) pz9.out))) bxf0_0
            replace bxf0_1 := touch_cell s15 (.inl (Nat.lt_of_lt_of_le pbf0.out (Nat.le_trans (Nat.le_trans (Nat.le_trans (Nat.le_trans (Nat.le_trans (Nat.le_trans (Nat.le_trans (pz2.out) pz3.out) pz4.out) pz5.out) pz6.out) pz7.out) pz8.out) pz9.out))) bxf0_1
            replace bxf0_2 := touch_cell s15 (.inl (Nat.lt_of_lt_of_le pbf0.out (Nat.le_trans (Nat.le_trans (Nat.le_trans (Nat.le_trans (Nat.le_trans (Nat.le_trans (Nat.le_trans (pz2.out) pz3.out) pz4.out) pz5.out) pz6.out) pz7.out) pz8.out) pz9.out))) bxf0_2
            replace bxy0_0 := touch_cell s15 (.inl (Nat.lt_of_lt_of_le pby0.out (pz9.out))) bxy0_0
            replace bxy0_1 := touch_cell s15 (.inl (Nat.lt_of_lt_of_le pby0.out (pz9.out))) bxy0_1
            replace bxy0_2 := touch_cell s15 (.inl (Nat.lt_of_lt_of_le pby0.out (pz9.out))) bxy0_2
            go_wp2_with fail
            refine (heldResultS _ rv0 (1) _ om_rg0.rd (by omega) SM0.out (by omega) (by omega)).mono ?_
            rintro e w16 ⟨rfl, s16⟩
            have g16 : Grew w w16 := g15.trans s16
            have pz19 := Lib.hid s16.size
            replace bxf0_0 := grew_cell s16 bxf0_0
            replace bxf0_1 := grew_cell s16 bxf0_1
            replace bxf0_2 := grew_cell s16 bxf0_2
            replace bxy0_0 := grew_cell s16 bxy0_0
            replace bxy0_1 := grew_cell s16 bxy0_1
            replace bxy0_2 := grew_cell s16 bxy0_2
            replace o_rw0 := o_rw0.grew s16
            replace om_rg0 := om_rg0.grew s16
            go_wp2_with fail
            refine (toStore x0 ⟨f0q, f0r, f0n⟩ _ (R0.out.grew g16) hms0.out).mono ?_
            rintro e w17 ⟨⟨v0q, v0r, v0n⟩, rfl, o_v0, d_v0, s17⟩
            have g17 : Grew w w17 := g16.trans s17
            have pz20 := Lib.hid s17.size
            replace bxf0_0 := grew_cell s17 bxf0_0
            replace bxf0_1 := grew_cell s17 bxf0_1
            replace bxf0_2 := grew_cell s17 bxf0_2
            replace bxy0_0 := grew_cell s17 bxy0_0
            replace bxy0_1 := grew_cell s17 bxy0_1
            replace bxy0_2 := grew_cell s17 bxy0_2
            replace d_v0 := Lib.hid d_v0
            replace o_rw0 := o_rw0.grew s17
            replace om_rg0 := om_rg0.grew s17
            go_wp2_with fail
            refine (toDirS _ x1 _ (R1.out.grew g17) (by omega) hms1.out).mono ?_
            rintro e w18 ⟨v1, rfl, o_v1, s18⟩
            have g18 : Grew w w18 := g17.trans s18
            have pz21 := Lib.hid s18.size
            replace bxf0_0 := grew_cell s18 bxf0_0
            replace bxf0_1 := grew_cell s18 bxf0_1
            replace bxf0_2 := grew_cell s18 bxf0_2
            replace bxy0_0 := grew_cell s18 bxy0_0
            replace bxy0_1 := grew_cell s18 bxy0_1
            replace bxy0_2 := grew_cell s18 bxy0_2
            replace o_rw0 := o_rw0.grew s18
            replace om_rg0 := om_rg0.grew s18
            replace o_v0 := o_v0.grew s18
            go_wp2_with fail
            refine (IM.out _ ⟨v0q, v0r, v0n⟩ o_v0.rd v1 o_v1.rd).mono ?_
            rintro e w19 ⟨rh0, rfl, o_rh0, s19⟩
            have g19 : Grew w w19 := g18.trans s19
            have pz22 := Lib.hid s19.size
            replace bxf0_0 := grew_cell s19 bxf0_0
            replace bxf0_1 := grew_cell s19 bxf0_1
            replace bxf0_2 := grew_cell s19 bxf0_2
            replace bxy0_0 := grew_cell s19 bxy0_0
            replace bxy0_1 := grew_cell s19 bxy0_1
            replace bxy0_2 := grew_cell s19 bxy0_2
            replace o_rw0 := o_rw0.grew s19
            replace om_rg0 := om_rg0.grew s19
            replace o_v0 := o_v0.grew s19
            replace o_v1 := o_v1.grew s19
            go_wp2_with fail
            refine (eqResultS _ _ rv0 _ o_rh0.rd o_rw0.rd (by omega) SM0.out).mono ?_
            rintro e w20 ⟨rfl, s20⟩
            have g20 : Grew w w20 := g19.trans s20
            have pz23 := Lib.hid s20.size
            replace bxf0_0 := grew_cell s20 bxf0_0
            replace bxf0_1 := grew_cell s20 bxf0_1
            replace bxf0_2 := grew_cell s20 bxf0_2
            replace bxy0_0 := grew_cell s20 bxy0_0
            replace bxy0_1 := grew_cell s20 bxy0_1
            replace bxy0_2 := grew_cell s20 bxy0_2
            replace o_rw0 := o_rw0.grew s20
            replace om_rg0 := om_rg0.grew s20
            replace o_v0 := o_v0.grew s20
            replace o_v1 := o_v1.grew s20
            replace o_rh0 := o_rh0.grew s20
            go_wp2_with fail
            refine (heldResultS _ rv0 (1) _ om_rg0.rd (by omega) SM0.out (by omega) (by omega)).mono ?_
            rintro e w21 ⟨rfl, s21⟩
            have g21 : Grew w w21 := g20.trans s21
            have pz24 := Lib.hid s21.size
            replace bxf0_0 := grew_cell s21 bxf0_0
            replace bxf0_1 := grew_cell s21 bxf0_1
            replace bxf0_2 := grew_cell s21 bxf0_2
            replace bxy0_0 := grew_cell s21 bxy0_0
            replace bxy0_1 := grew_cell s21 bxy0_1
            replace bxy0_2 := grew_cell s21 bxy0_2
            replace o_rw0 := o_rw0.grew s21
            replace om_rg0 := om_rg0.grew s21
            replace o_v0 := o_v0.grew s21
            replace o_v1 := o_v1.grew s21
            replace o_rh0 := o_rh0.grew s21
            go_wp2
            go_ret
            exact ⟨rfl, g21⟩
end Go.Proofs.YtejgpghcahinhaaGreat.fnExactEvaluateForUser
