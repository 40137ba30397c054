/- Texts U2, U4, Y11, WNoninterference, as far as they are needed. -/
import Derived.Test.YtemikjbfjhebnaaGreatNi23
import Derived.Test.YtemikjbfjhebnaaGreatNi3
import Derived.Test.YtemikjbfjhebnaaGreatNi12
import Derived.Test.YtemikjbfjhebnaaGreatNi18
import Derived.Test.YtemikjbfjhebnaaGreatNi1
import Derived.Test.YtemikjbfjhebnaaGreatNi0
import Derived.BigQuiet
import Derived.Test.YtemikjbfjhebnaaGreatNi19
import Derived.Test.YtemikjbfjhebnaaGreatNi11
import Derived.Test.YtemikjbfjhebnaaGreatNi16
import Derived.Test.YtemikjbfjhebnaaGreatNi22
import Derived.Test.YtemikjbfjhebnaaGreatNi13
namespace Go.Proofs.YtemikjbfjhebnaaGreat
open Go.RowKit
set_option linter.unusedVariables false
theorem OwnRss.lo {w : World} {lo lo' hi : Nat} {v : Value} {xs : List Rs} (h : OwnRss w lo hi v xs) (hl : lo' ≤ lo) : OwnRss w lo' hi v xs := by
  obtain ⟨ps, h1, h2, h3⟩ := h
  exact ⟨ps, h1.mono hl (Nat.le_refl _), h2.mono fun x p h => h.mono hl (Nat.le_refl _), h3⟩
theorem ownRss_slice {w : World} {lo hi : Nat} {v : Value} {xs : List Rs} (h : OwnRss w lo hi v xs) : ∃ a c, v = .slice a xs.length c := by
  obtain ⟨ps, h1, _⟩ := h
  exact own_slice h1.1
theorem EvI.turn {xs : List Dr} {fs : List Fl} {k : Nat} (hb : stB xs = true) {a : List Rs × Bool} (h : EvI xs fs k a.1) (i : Nat) : EvI xs fs k (st1 xs fs k a i).1 := by
  cases hx : xs[i]? with
  | none => unfold st1; rw [hx]; exact h
  | some x =>
    by_cases hk : gt (stL xs) i = k
    · by_cases hs : selL x.query fs a.1 = idsAt a.1 i
      · rw [st1_same hx hs]; exact h
      · rw [st1_new hx hk hs]; exact (EvI.step hb h hx hk hs).1
    · rw [st1_skip hk]; exact h
theorem EvI.pass {xs : List Dr} {fs : List Fl} {k : Nat} (hb : stB xs = true) {rs : List Rs} (h : EvI xs fs k rs) : ∀ i, EvI xs fs k (passTo xs fs k rs i).1
  | 0 => h
  | i + 1 => by rw [passTo_succ]; exact EvI.turn hb (EvI.pass hb h i) i
theorem EvI.passes {xs : List Dr} {fs : List Fl} {k : Nat} (hb : stB xs = true) {rs : List Rs} (h : EvI xs fs k rs) : ∀ m, EvI xs fs k (passN xs fs k rs m).1
  | 0 => h
  | m + 1 => EvI.pass hb (EvI.passes hb h m) xs.length
theorem EvR.inv {xs : List Dr} {fs : List Fl} (hb : stB xs = true) {k : Nat} {rs : List Rs} {t : Nat} (h : EvR xs fs k rs t) : EvI xs fs k rs := by
  induction h with
  | zero => exact EvI.start xs fs
  | succ _ _ ih => exact (EvI.passes hb ih _).next
theorem evRs_ok (xs : List Dr) (s : St) : (evRs xs s).length ≤ xs.length ∧ ∀ x, x ∈ evRs xs s → x.ids.length ≤ s.files.length := by
  unfold evRs
  cases hk : evOk xs s with
  | false => simp
  | true =>
    rw [if_pos rfl]
    have hb : stB xs = true := by unfold evOk at hk; simp only [Bool.and_eq_true] at hk; exact hk.1
    by_cases hx : ∃ p : List Rs × Nat, EvR xs s.files (lvls xs) p.1 p.2
    · have e : (evP xs s.files).1 = hx.choose.1 := by unfold evP; rw [dif_pos hx]
      have h1 := EvR.inv hb hx.choose_spec
      rw [e]
      refine ⟨by rw [h1.rlen]; exact Nat.le_refl _, fun x hxm => ?_⟩
      obtain ⟨i, hi⟩ := List.getElem?_of_mem hxm
      have h2 := h1.len i
      rw [idsAt_get hi] at h2; exact h2
    · have e : (evP xs s.files).1 = [] := by unfold evP; rw [dif_neg hx]
      rw [e]; simp
theorem evRs_small {xs : List Dr} {s : St} (hs : s.sz ≤ 4000000) : ∀ x, x ∈ evRs xs s → x.small := fun x hx => by
  have h1 := (evRs_ok xs s).2 x hx
  unfold St.sz at hs
  unfold Rs.small; omega
set_option maxRecDepth 100000 in
set_option maxHeartbeats 2000000 in
theorem specEvaluate (s : St) (p : PS) (va : Value) (xs : List Dr) (w : World) (hs : St.R w s p) (ha : RdDs w va xs) (hx : xs.length ≤ 1900000) (hz : szAll Dr.sz xs ≤ 4000000) (hzs : s.sz ≤ 4000000) :
    Calls Tryz.prog 41 #[p.v, va] w fun e w' => ∃ v, e = .returned (.tuple #[v, .bool (evOk xs s)]) ∧ OwnRss w' w.heap.size w'.heap.size v (evRs xs s) ∧ Grew w w' := by
  obtain ⟨p_q, p_r, p_n⟩ := p
  have hsn : p_n = s.next := hs.2.2
  subst hsn
  have HST := Lib.hid hs
  have HD := Lib.hid ha
  clear hs
  obtain ⟨qs, ⟨a, ca, rfl, hca, hra⟩, hall⟩ := ha
  clear hall hca hra
  have hg0 := (Grew.refl w).alloc (.cells #[p_q, p_r, .int .i64 s.next] 27)
  have x0 : (w.alloc (.cells #[p_q, p_r, .int .i64 s.next] 27)).cell? ⟨w.heap.size, 0, none⟩ = some p_q := by simp
  have x1 : (w.alloc (.cells #[p_q, p_r, .int .i64 s.next] 27)).cell? ⟨w.heap.size, 1, none⟩ = some p_r := by simp
  have x2 : (w.alloc (.cells #[p_q, p_r, .int .i64 s.next] 27)).cell? ⟨w.heap.size, 2, none⟩ = some (.int .i64 s.next) := by simp
  change Calls Tryz.prog _ #[.agg #[p_q, p_r, .int .i64 s.next], _] w _
  go_enter Tryz.func41, Tryz.ntmps41
  go_wp2_with (go_at_call 72; refine (specL15Run s ⟨p_q, p_r, s.next⟩ _ xs _ (HST.out.grew hg0) (HD.out.grew hg0) hx hz hzs).mono ?_; rintro e w1 ⟨v, rfl, ho, hb⟩; have HO := Lib.hid ho; obtain ⟨ra, rc, rfl⟩ := ownRss_slice ho; clear ho)
  go_ret2
  exact ⟨_, rfl, OwnRss.lo HO.out hg0.size, hg0.trans hb⟩
set_option maxRecDepth 100000 in
set_option maxHeartbeats 2000000 in
theorem implEvaluate (s : St) (p : PS) (va : Value) (xs : List Dr) (w : World) (hs : St.R w s p) (ha : RdDs w va xs) (hx : xs.length ≤ 1900000) (hz : szAll Dr.sz xs ≤ 4000000) (hzs : s.sz ≤ 4000000) :
    Calls Tryz.prog 36 #[p.v, va] w fun e w' => ∃ v, e = .returned (.tuple #[v, .bool (evOk xs s)]) ∧ OwnRss w' w.heap.size w'.heap.size v (evRs xs s) ∧ Grew w w' := by
  obtain ⟨p_q, p_r, p_n⟩ := p
  have hsn : p_n = s.next := hs.2.2
  subst hsn
  have HST := Lib.hid hs
  have HD := Lib.hid ha
  clear hs
  obtain ⟨qs, ⟨a, ca, rfl, hca, hra⟩, hall⟩ := ha
  clear hall hca hra
  have hg0 := (Grew.refl w).alloc (.cells #[p_q, p_r, .int .i64 s.next] 27)
  have x0 : (w.alloc (.cells #[p_q, p_r, .int .i64 s.next] 27)).cell? ⟨w.heap.size, 0, none⟩ = some p_q := by simp
  have x1 : (w.alloc (.cells #[p_q, p_r, .int .i64 s.next] 27)).cell? ⟨w.heap.size, 1, none⟩ = some p_r := by simp
  have x2 : (w.alloc (.cells #[p_q, p_r, .int .i64 s.next] 27)).cell? ⟨w.heap.size, 2, none⟩ = some (.int .i64 s.next) := by simp
  change Calls Tryz.prog _ #[.agg #[p_q, p_r, .int .i64 s.next], _] w _
  go_enter Tryz.func36, Tryz.ntmps36
  go_wp2_with fail
  refine wp_region_noPanic ?_
  refine wp_region_held_drew (S := (fun w' => (w'.cell? ⟨w.heap.size, 0, none⟩ = some (p_q) ∧ w'.cell? ⟨w.heap.size, 1, none⟩ = some (p_r) ∧ w'.cell? ⟨w.heap.size, 2, none⟩ = some (.int .i64 s.next) ∧ Grew (w.alloc (.cells #[p_q, p_r, .int .i64 s.next] 27)) w'))) (by kernel_rfl) ?h1_S ?h1_r
  case h1_S => exact ⟨grew_cell (Grew.refl _).drew x0, grew_cell (Grew.refl _).drew x1, grew_cell (Grew.refl _).drew x2, (Grew.refl _).drew⟩
  case h1_r =>
    intro HS
    first | refine sk' 0 HS ?_ | refine tk' 0 HS ?_
    first | refine sk' 1 HS ?_ | refine tk' 1 HS ?_
    first | refine sk' 2 HS ?_ | refine tk' 2 HS ?_
    refine cl' 3 fun K hK => ?_
    go_simp
    go_at_call 67
    refine (implDirNames _ xs _ (HD.out.grew (hg0.trans HS.2.2.2)) (by omega)).mono ?_
    rintro e w1 ⟨v1, rfl, hv1, hb⟩
    have HVN := Lib.hid (show Rd w1 v1 1 xs.length (strs (xs.map Dr.name)) by have h0 := rd_of_own hv1; rw [List.length_map] at h0; exact h0)
    obtain ⟨na, nc, rfl⟩ := own_slice hv1
    clear hv1
    refine hK.out _ _ ?s1_3 ?r1_3
    case s1_3 => (try dsimp only); exact ⟨grew_cell hb HS.1, grew_cell hb HS.2.1, grew_cell hb HS.2.2.1, HS.2.2.2.trans hb⟩
    case r1_3 =>
      clear HS hK K; intro HS
      try simp only [Act.put, lpa, lpb, lpc]
      refine cl' 4 fun K hK => ?_
      go_simp
      go_at_call 66
      refine (implEvaluated s ⟨p_q, p_r, s.next⟩ _ xs _ _ (HST.out.grew (hg0.trans HS.2.2.2)) (HD.out.grew (hg0.trans HS.2.2.2)) (by simpa using HVN.out) hx hz hzs).mono ?_
      rintro e w5 ⟨v, rfl, ho, hb⟩
      have HO := Lib.hid (OwnRss.lo ho ((hg0.trans HS.2.2.2).size))
      obtain ⟨ra, rc, rfl⟩ := ownRss_slice ho
      clear ho
      refine hK.out _ _ ?s1_4 ?r1_4
      case s1_4 => (try dsimp only); exact ⟨grew_cell hb HS.1, grew_cell hb HS.2.1, grew_cell hb HS.2.2.1, HS.2.2.2.trans hb⟩
      case r1_4 =>
        clear HS hK K; intro HS
        try simp only [Act.put, lpa, lpb, lpc]
        first | refine sk' 5 HS ?_ | refine tk' 5 HS ?_
        first | refine sk' 6 HS ?_ | refine tk' 6 HS ?_
        first | refine sk' 7 HS ?_ | refine tk' 7 HS ?_
        first | refine sk' 8 HS ?_ | refine tk' 8 HS ?_
        first | refine sk' 9 HS ?_ | refine tk' 9 HS ?_
        first | refine sk' 10 HS ?_ | refine tk' 10 HS ?_
        first | refine sk' 11 HS ?_ | refine tk' 11 HS ?_
        refine wpAnyH_done (by kernel_rfl) ?_ _
        refine NoPanic.normal ?_
        go_wp2
        go_ret2
        exact ⟨_, rfl, HO.out, (hg0.trans HS.2.2.2)⟩
end Go.Proofs.YtemikjbfjhebnaaGreat
namespace Go.Proofs.YtemikjbfjhebnaaGreat
open Go.RowKit
set_option linter.unusedVariables false
noncomputable def efRs (xs : List Dr) (s : St) (u : Int) : List Rs := if (inB u 0 2 && stoB s) = true then evRs xs (visS s u) else []
noncomputable def efOk (xs : List Dr) (s : St) (u : Int) : Bool := (inB u 0 2 && stoB s) && evOk xs (visS s u)
noncomputable def lsI (xs : List Dr) (s : St) (u : Int) (nm : ByteArray) : List Int := resIds (efRs xs s u) nm
theorem efRs_len (xs : List Dr) (s : St) (u : Int) : (efRs xs s u).length ≤ xs.length := by
  unfold efRs
  split
  · exact (evRs_ok xs (visS s u)).1
  · simp
theorem efRs_small {xs : List Dr} {s : St} {u : Int} (hs : s.sz ≤ 4000000) : ∀ x, x ∈ efRs xs s u → x.small := by
  unfold efRs
  split
  · exact evRs_small (Nat.le_trans (visS_sz s u) hs)
  · intro x hx; cases hx
set_option maxRecDepth 100000 in
set_option maxHeartbeats 2000000 in
theorem specEvaluateForUser (s : St) (p : PS) (va : Value) (xs : List Dr) (u : Int) (w : World) (hs : St.R w s p) (ha : RdDs w va xs) (hx : xs.length ≤ 1900000) (hz : szAll Dr.sz xs ≤ 4000000) (hzs : s.sz ≤ 4000000) :
    Calls Tryz.prog 18 #[p.v, va, .int .i64 u] w fun e w' => ∃ v, e = .returned (.tuple #[v, .bool (efOk xs s u)]) ∧ OwnRss w' w.heap.size w'.heap.size v (efRs xs s u) ∧ Grew w w' := by
  obtain ⟨p_q, p_r, p_n⟩ := p
  have hsn : p_n = s.next := hs.2.2
  subst hsn
  have HST := Lib.hid hs
  have HD := Lib.hid ha
  clear hs
  obtain ⟨qs, ⟨a, ca, rfl, hca, hra⟩, hall⟩ := ha
  clear hall hca hra
  have hg0 := (Grew.refl w).alloc (.cells #[p_q, p_r, .int .i64 s.next] 27)
  have x0 : (w.alloc (.cells #[p_q, p_r, .int .i64 s.next] 27)).cell? ⟨w.heap.size, 0, none⟩ = some p_q := by simp
  have x1 : (w.alloc (.cells #[p_q, p_r, .int .i64 s.next] 27)).cell? ⟨w.heap.size, 1, none⟩ = some p_r := by simp
  have x2 : (w.alloc (.cells #[p_q, p_r, .int .i64 s.next] 27)).cell? ⟨w.heap.size, 2, none⟩ = some (.int .i64 s.next) := by simp
  change Calls Tryz.prog _ #[.agg #[p_q, p_r, .int .i64 s.next], _, .int .i64 u] w _
  obtain ⟨bt, hbt⟩ : ∃ b, inB u 0 2 = b := ⟨_, rfl⟩
  obtain ⟨bo, hbo⟩ : ∃ b, stoB s = b := ⟨_, rfl⟩
  have HIN := Lib.hid hbt
  have HSO := Lib.hid hbo
  have HNO := Lib.hid (show (bt && bo) = false → efOk xs s u = false ∧ efRs xs s u = [] from fun h => by
    unfold efOk efRs
    rw [hbt, hbo, h]
    exact ⟨rfl, rfl⟩)
  have HYES := Lib.hid (show (bt && bo) = true → efOk xs s u = evOk xs (visS s u) ∧ efRs xs s u = evRs xs (visS s u) from fun h => by
    unfold efOk efRs
    rw [hbt, hbo, h]
    exact ⟨rfl, rfl⟩)
  clear hbt hbo
  have hcs : bt = false ∨ bt = true := by cases bt <;> simp
  have hco : bo = false ∨ bo = true := by cases bo <;> simp
  rcases hcs with rfl | rfl
  · go_enter Tryz.func18, Tryz.ntmps18
    go_wp2_with (go_at_call 24; refine (l01In _ _ _ _).mono ?_; rintro e w1 ⟨he, rfl⟩; rw [HIN.out] at he; subst he)
    go_ret2
    have h1 := HNO.out rfl
    rw [h1.1, h1.2]
    have h2 := (GrowR.base (GrowR.lit (w.alloc (.cells #[p_q, p_r, .int .i64 s.next] 27))) hg0.size).own
    rw [show (w.alloc (.cells #[p_q, p_r, .int .i64 s.next] 27)).heap.size = w.heap.size + 1 by simp] at h2
    exact ⟨.slice (some ⟨w.heap.size + 1, 0, none⟩) 0 0, rfl, h2, hg0.alloc _⟩
  rcases hco with rfl | rfl
  · go_enter Tryz.func18, Tryz.ntmps18
    go_wp2_with (first | (go_at_call 24; refine (l01In _ _ _ _).mono ?_; rintro e w1 ⟨he, rfl⟩; rw [HIN.out] at he; subst he) | (go_at_call 9; refine (specIsValidStore s ⟨p_q, p_r, s.next⟩ _ (HST.out.grew hg0) hzs).mono ?_; rintro e w2 ⟨he, hb2⟩; rw [HSO.out] at he; subst he; have y0 := grew_cell hb2 x0; have y1 := grew_cell hb2 x1; have y2 := grew_cell hb2 x2))
    go_ret2
    have h1 := HNO.out rfl
    rw [h1.1, h1.2]
    exact ⟨_, rfl, (GrowR.base (GrowR.lit _) (hg0.trans hb2).size).own, (hg0.trans hb2).alloc _⟩
  go_enter Tryz.func18, Tryz.ntmps18
  go_wp2_with (first | (go_at_call 24; refine (l01In _ _ _ _).mono ?_; rintro e w1 ⟨he, rfl⟩; rw [HIN.out] at he; subst he) | (go_at_call 9; refine (specIsValidStore s ⟨p_q, p_r, s.next⟩ _ (HST.out.grew hg0) hzs).mono ?_; rintro e w2 ⟨he, hb2⟩; rw [HSO.out] at he; subst he; have y0 := grew_cell hb2 x0; have y1 := grew_cell hb2 x1; have y2 := grew_cell hb2 x2) | (go_at_call 20; refine (specVisibleStore s ⟨p_q, p_r, s.next⟩ u _ (HST.out.grew (hg0.trans hb2)) hzs).mono ?_; rintro e w3 ⟨p3, rfl, hv, hb3⟩; have HV := Lib.hid hv; obtain ⟨v_q, v_r, v_n⟩ := p3; clear hv) | (go_at_call 41; refine (specEvaluate (visS s u) ⟨v_q, v_r, v_n⟩ _ xs _ HV.out (HD.out.grew ((hg0.trans hb2).trans hb3)) hx hz (Nat.le_trans (visS_sz s u) hzs)).mono ?_; rintro e w4 ⟨v, rfl, ho, hb4⟩; have HO := Lib.hid ho; obtain ⟨ra, rc, rfl⟩ := ownRss_slice ho; clear ho))
  go_ret2
  have h1 := HYES.out rfl
  rw [h1.1, h1.2]
  exact ⟨_, rfl, OwnRss.lo HO.out ((hg0.trans hb2).trans hb3).size, ((hg0.trans hb2).trans hb3).trans hb4⟩
set_option maxRecDepth 100000 in
set_option maxHeartbeats 2000000 in
theorem implEvaluateForUser (s : St) (p : PS) (va : Value) (xs : List Dr) (u : Int) (w : World) (hs : St.R w s p) (ha : RdDs w va xs) (hx : xs.length ≤ 1900000) (hz : szAll Dr.sz xs ≤ 4000000) (hzs : s.sz ≤ 4000000) :
    Calls Tryz.prog 16 #[p.v, va, .int .i64 u] w fun e w' => ∃ v, e = .returned (.tuple #[v, .bool (efOk xs s u)]) ∧ OwnRss w' w.heap.size w'.heap.size v (efRs xs s u) ∧ Grew w w' := by
  obtain ⟨p_q, p_r, p_n⟩ := p
  have hsn : p_n = s.next := hs.2.2
  subst hsn
  have HST := Lib.hid hs
  have HD := Lib.hid ha
  clear hs
  obtain ⟨qs, ⟨a, ca, rfl, hca, hra⟩, hall⟩ := ha
  clear hall hca hra
  have hg0 := (Grew.refl w).alloc (.cells #[p_q, p_r, .int .i64 s.next] 27)
  have x0 : (w.alloc (.cells #[p_q, p_r, .int .i64 s.next] 27)).cell? ⟨w.heap.size, 0, none⟩ = some p_q := by simp
  have x1 : (w.alloc (.cells #[p_q, p_r, .int .i64 s.next] 27)).cell? ⟨w.heap.size, 1, none⟩ = some p_r := by simp
  have x2 : (w.alloc (.cells #[p_q, p_r, .int .i64 s.next] 27)).cell? ⟨w.heap.size, 2, none⟩ = some (.int .i64 s.next) := by simp
  change Calls Tryz.prog _ #[.agg #[p_q, p_r, .int .i64 s.next], _, .int .i64 u] w _
  obtain ⟨bt, hbt⟩ : ∃ b, inB u 0 2 = b := ⟨_, rfl⟩
  obtain ⟨bo, hbo⟩ : ∃ b, stoB s = b := ⟨_, rfl⟩
  have HIN := Lib.hid hbt
  have HSO := Lib.hid hbo
  have HNO := Lib.hid (show (bt && bo) = false → efOk xs s u = false ∧ efRs xs s u = [] from fun h => by
    unfold efOk efRs
    rw [hbt, hbo, h]
    exact ⟨rfl, rfl⟩)
  have HYES := Lib.hid (show (bt && bo) = true → efOk xs s u = evOk xs (visS s u) ∧ efRs xs s u = evRs xs (visS s u) from fun h => by
    unfold efOk efRs
    rw [hbt, hbo, h]
    exact ⟨rfl, rfl⟩)
  clear hbt hbo
  have hcs : bt = false ∨ bt = true := by cases bt <;> simp
  have hco : bo = false ∨ bo = true := by cases bo <;> simp
  rcases hco with rfl | rfl
  · have hbb : (bt && false) = false := by cases bt <;> rfl
    replace HNO := Lib.hid (fun (_ : True) => HNO.out hbb)
    clear hcs hbb HYES
    go_enter Tryz.func16, Tryz.ntmps16
    go_wp2_with (go_at_call 34; refine (implIsValidStore s ⟨p_q, p_r, s.next⟩ _ (HST.out.grew hg0) hzs).mono ?_; rintro e w2 ⟨he, hb2⟩; rw [HSO.out] at he; subst he; have y0 := grew_cell hb2 x0; have y1 := grew_cell hb2 x1; have y2 := grew_cell hb2 x2)
    go_ret2
    have h1 := HNO.out trivial
    rw [h1.1, h1.2]
    exact ⟨_, rfl, ⟨[], own_of (World.ownsRow_nil _ _ _ _), All2.nil, by simpa using Dis.one (.slice none 0 0)⟩, hg0.trans hb2⟩
  rcases hcs with rfl | rfl
  · go_enter Tryz.func16, Tryz.ntmps16
    go_wp2_with (first | (go_at_call 35; refine (implIsUser _ _).mono ?_; rintro e w1 ⟨he, rfl⟩; rw [HIN.out] at he; subst he) | (go_at_call 34; refine (implIsValidStore s ⟨p_q, p_r, s.next⟩ _ (HST.out.grew hg0) hzs).mono ?_; rintro e w2 ⟨he, hb2⟩; rw [HSO.out] at he; subst he; have y0 := grew_cell hb2 x0; have y1 := grew_cell hb2 x1; have y2 := grew_cell hb2 x2))
    go_ret2
    have h1 := HNO.out rfl
    rw [h1.1, h1.2]
    exact ⟨_, rfl, ⟨[], own_of (World.ownsRow_nil _ _ _ _), All2.nil, by simpa using Dis.one (.slice none 0 0)⟩, (hg0.trans hb2)⟩
  go_enter Tryz.func16, Tryz.ntmps16
  go_wp2_with (first | (go_at_call 35; refine (implIsUser _ _).mono ?_; rintro e w1 ⟨he, rfl⟩; rw [HIN.out] at he; subst he) | (go_at_call 34; refine (implIsValidStore s ⟨p_q, p_r, s.next⟩ _ (HST.out.grew hg0) hzs).mono ?_; rintro e w2 ⟨he, hb2⟩; rw [HSO.out] at he; subst he; have y0 := grew_cell hb2 x0; have y1 := grew_cell hb2 x1; have y2 := grew_cell hb2 x2) | (go_at_call 37; refine (implVisibleStore s ⟨p_q, p_r, s.next⟩ u _ (HST.out.grew (hg0.trans hb2)) hzs).mono ?_; rintro e w3 ⟨p3, rfl, hv, hb3⟩; have HV := Lib.hid hv; obtain ⟨v_q, v_r, v_n⟩ := p3; clear hv) | (go_at_call 36; refine (implEvaluate (visS s u) ⟨v_q, v_r, v_n⟩ _ xs _ HV.out (HD.out.grew ((hg0.trans hb2).trans hb3)) hx hz (Nat.le_trans (visS_sz s u) hzs)).mono ?_; rintro e w4 ⟨v, rfl, ho, hb4⟩; have HO := Lib.hid ho; obtain ⟨ra, rc, rfl⟩ := ownRss_slice ho; clear ho))
  go_ret2
  have h1 := HYES.out rfl
  rw [h1.1, h1.2]
  exact ⟨_, rfl, OwnRss.lo HO.out ((hg0.trans hb2).trans hb3).size, ((hg0.trans hb2).trans hb3).trans hb4⟩
set_option maxRecDepth 100000 in
set_option maxHeartbeats 2000000 in
theorem implListDir (s : St) (p : PS) (va : Value) (xs : List Dr) (u : Int) (nm : ByteArray) (w : World) (hs : St.R w s p) (ha : RdDs w va xs) (hx : xs.length ≤ 1900000) (hz : szAll Dr.sz xs ≤ 4000000) (hzs : s.sz ≤ 4000000) :
    Calls Tryz.prog 11 #[p.v, va, .int .i64 u, .string nm] w fun e w' => ∃ v, e = .returned v ∧ w'.ownsRow w.heap.size 3 1 v (lsI xs s u nm).length (ints (lsI xs s u nm)) ∧ Grew w w' := by
  obtain ⟨p_q, p_r, p_n⟩ := p
  have hsn : p_n = s.next := hs.2.2
  subst hsn
  have HST := Lib.hid hs
  have HD := Lib.hid ha
  clear hs
  obtain ⟨qs, ⟨a, ca, rfl, hca, hra⟩, hall⟩ := ha
  clear hall hca hra
  have hg0 := (Grew.refl w).alloc (.cells #[p_q, p_r, .int .i64 s.next] 27)
  have x0 : (w.alloc (.cells #[p_q, p_r, .int .i64 s.next] 27)).cell? ⟨w.heap.size, 0, none⟩ = some p_q := by simp
  have x1 : (w.alloc (.cells #[p_q, p_r, .int .i64 s.next] 27)).cell? ⟨w.heap.size, 1, none⟩ = some p_r := by simp
  have x2 : (w.alloc (.cells #[p_q, p_r, .int .i64 s.next] 27)).cell? ⟨w.heap.size, 2, none⟩ = some (.int .i64 s.next) := by simp
  change Calls Tryz.prog _ #[.agg #[p_q, p_r, .int .i64 s.next], _, .int .i64 u, .string nm] w _
  go_enter Tryz.func11, Tryz.ntmps11
  go_wp2_with (first | (go_at_call 16; refine (implEvaluateForUser s ⟨p_q, p_r, s.next⟩ _ xs u _ (HST.out.grew hg0) (HD.out.grew hg0) hx hz hzs).mono ?_; rintro e w1 ⟨v, rfl, ho, hb⟩; have HO := Lib.hid ho; obtain ⟨ra, rc, rfl⟩ := ownRss_slice ho; clear ho) | (go_at_call 25; refine (implResultIDs _ (efRs xs s u) nm _ HO.out.rd (by have := efRs_len xs s u; omega) (efRs_small hzs)).mono ?_; rintro e w2 ⟨v2, rfl, hv2, hb2⟩; have HV2 := Lib.hid hv2; obtain ⟨ia, ic, rfl⟩ := own_slice hv2; clear hv2))
  go_ret
  exact ⟨_, rfl, ownsRow_base HV2.out (hg0.trans hb).size, (hg0.trans hb).trans hb2⟩
theorem lsI_le {xs : List Dr} {s : St} {u : Int} {nm : ByteArray} (hs : s.sz ≤ 4000000) : (lsI xs s u nm).length ≤ 4000000 := resIds_small (efRs_small hs)
set_option maxRecDepth 100000 in
set_option maxHeartbeats 2000000 in
theorem implCountListed (s : St) (p : PS) (va : Value) (xs : List Dr) (u : Int) (nm : ByteArray) (w : World) (hs : St.R w s p) (ha : RdDs w va xs) (hx : xs.length ≤ 1900000) (hz : szAll Dr.sz xs ≤ 4000000) (hzs : s.sz ≤ 4000000) :
    Calls Tryz.prog 12 #[p.v, va, .int .i64 u, .string nm] w fun e w' => e = .returned (.int .i64 ((lsI xs s u nm).length : Int)) ∧ Grew w w' := by
  obtain ⟨p_q, p_r, p_n⟩ := p
  have hsn : p_n = s.next := hs.2.2
  subst hsn
  have HST := Lib.hid hs
  have HD := Lib.hid ha
  clear hs
  obtain ⟨qs, ⟨a, ca, rfl, hca, hra⟩, hall⟩ := ha
  clear hall hca hra
  have hg0 := (Grew.refl w).alloc (.cells #[p_q, p_r, .int .i64 s.next] 27)
  have x0 : (w.alloc (.cells #[p_q, p_r, .int .i64 s.next] 27)).cell? ⟨w.heap.size, 0, none⟩ = some p_q := by simp
  have x1 : (w.alloc (.cells #[p_q, p_r, .int .i64 s.next] 27)).cell? ⟨w.heap.size, 1, none⟩ = some p_r := by simp
  have x2 : (w.alloc (.cells #[p_q, p_r, .int .i64 s.next] 27)).cell? ⟨w.heap.size, 2, none⟩ = some (.int .i64 s.next) := by simp
  change Calls Tryz.prog _ #[.agg #[p_q, p_r, .int .i64 s.next], _, .int .i64 u, .string nm] w _
  go_enter Tryz.func12, Tryz.ntmps12
  go_wp2_with (go_at_call 11; refine (implListDir s ⟨p_q, p_r, s.next⟩ _ xs u nm _ (HST.out.grew hg0) (HD.out.grew hg0) hx hz hzs).mono ?_; rintro e w1 ⟨v, rfl, ho, hb⟩; have HO := Lib.hid ho; obtain ⟨ra, rc, rfl⟩ := own_slice ho; clear ho)
  go_ret
  exact ⟨rfl, hg0.trans hb⟩
set_option maxRecDepth 100000 in
set_option maxHeartbeats 2000000 in
theorem specEqualViews (s : St) (p : PS) (t : St) (p2 : PS) (va : Value) (xs : List Dr) (u : Int) (w : World) (hs : St.R w s p) (ht : St.R w t p2) (ha : RdDs w va xs) (hx : xs.length ≤ 1900000) (hz : szAll Dr.sz xs ≤ 4000000) (hzs : s.sz ≤ 4000000) (hzt : t.sz ≤ 4000000) :
    Calls Tryz.prog 7 #[p.v, p2.v, va, .int .i64 u] w fun e w' => e = .returned (.bool ((efOk xs s u == efOk xs t u) && eqL sameRs (efRs xs s u) (efRs xs t u))) ∧ Grew w w' := by
  obtain ⟨p_q, p_r, p_n⟩ := p
  have hsn : p_n = s.next := hs.2.2
  subst hsn
  obtain ⟨t_q, t_r, t_n⟩ := p2
  have htn : t_n = t.next := ht.2.2
  subst htn
  have HST := Lib.hid hs
  have HTT := Lib.hid ht
  have HD := Lib.hid ha
  clear hs ht
  obtain ⟨qs, ⟨a, ca, rfl, hca, hra⟩, hall⟩ := ha
  clear hall hca hra
  have hg0 := ((Grew.refl w).alloc (.cells #[p_q, p_r, .int .i64 s.next] 27)).alloc (.cells #[t_q, t_r, .int .i64 t.next] 27)
  have x0 : ((w.alloc (.cells #[p_q, p_r, .int .i64 s.next] 27)).alloc (.cells #[t_q, t_r, .int .i64 t.next] 27)).cell? ⟨w.heap.size, 0, none⟩ = some p_q := by simp
  have x1 : ((w.alloc (.cells #[p_q, p_r, .int .i64 s.next] 27)).alloc (.cells #[t_q, t_r, .int .i64 t.next] 27)).cell? ⟨w.heap.size, 1, none⟩ = some p_r := by simp
  have x2 : ((w.alloc (.cells #[p_q, p_r, .int .i64 s.next] 27)).alloc (.cells #[t_q, t_r, .int .i64 t.next] 27)).cell? ⟨w.heap.size, 2, none⟩ = some (.int .i64 s.next) := by simp
  have z0 : ((w.alloc (.cells #[p_q, p_r, .int .i64 s.next] 27)).alloc (.cells #[t_q, t_r, .int .i64 t.next] 27)).cell? ⟨w.heap.size + 1, 0, none⟩ = some t_q := by simp
  have z1 : ((w.alloc (.cells #[p_q, p_r, .int .i64 s.next] 27)).alloc (.cells #[t_q, t_r, .int .i64 t.next] 27)).cell? ⟨w.heap.size + 1, 1, none⟩ = some t_r := by simp
  have z2 : ((w.alloc (.cells #[p_q, p_r, .int .i64 s.next] 27)).alloc (.cells #[t_q, t_r, .int .i64 t.next] 27)).cell? ⟨w.heap.size + 1, 2, none⟩ = some (.int .i64 t.next) := by simp
  change Calls Tryz.prog _ #[.agg #[p_q, p_r, .int .i64 s.next], .agg #[t_q, t_r, .int .i64 t.next], _, .int .i64 u] w _
  obtain ⟨k1, hk1⟩ : ∃ b, efOk xs s u = b := ⟨_, rfl⟩
  obtain ⟨k2, hk2⟩ : ∃ b, efOk xs t u = b := ⟨_, rfl⟩
  have HK1 := Lib.hid hk1
  have HK2 := Lib.hid hk2
  rw [hk1, hk2]
  clear hk1 hk2
  go_enter Tryz.func7, Tryz.ntmps7
  go_wp2_with fail
  refine (specEvaluateForUser s ⟨p_q, p_r, s.next⟩ _ xs u _ (HST.out.grew hg0) (HD.out.grew hg0) hx hz hzs).mono ?_
  rintro e w1 ⟨v, he, ho, hb⟩
  rw [HK1.out] at he
  subst he
  have HO := Lib.hid ho
  obtain ⟨ra, rc, rfl⟩ := ownRss_slice ho
  clear ho
  replace z0 := grew_cell hb z0
  replace z1 := grew_cell hb z1
  replace z2 := grew_cell hb z2
  clear x0 x1 x2
  go_wp2_with fail
  refine (specEvaluateForUser t ⟨t_q, t_r, t.next⟩ _ xs u _ (HTT.out.grew (hg0.trans hb)) (HD.out.grew (hg0.trans hb)) hx hz hzt).mono ?_
  rintro e w2 ⟨v2, he, ho2, hb2⟩
  rw [HK2.out] at he
  subst he
  have HO2 := Lib.hid ho2
  obtain ⟨sa, sc, rfl⟩ := ownRss_slice ho2
  clear ho2 z0 z1 z2
  have hl1 := efRs_len xs s u
  have hl2 := efRs_len xs t u
  have hcs : (k1 == k2) = true ∨ (k1 == k2) = false := by cases k1 == k2 <;> simp
  rcases hcs with hq | hq
  · obtain rfl : k1 = k2 := by simpa using hq
    go_wp2_with (go_at_call 19; refine (specEqualResults _ _ (efRs xs s u) (efRs xs t u) _ (HO.out.rd.grew hb2) HO2.out.rd (by omega) (by omega) (efRs_small hzs) (efRs_small hzt)).mono ?_; rintro e w3 ⟨rfl, hb3⟩)
    go_ret
    exact ⟨ret_bool (by simp), ((hg0.trans hb).trans hb2).trans hb3⟩
  · go_wp2
    go_ret
    exact ⟨ret_bool (by rw [hq]; simp), (hg0.trans hb).trans hb2⟩
set_option maxRecDepth 100000 in
set_option maxHeartbeats 2000000 in
theorem implEqualViews (s : St) (p : PS) (t : St) (p2 : PS) (va : Value) (xs : List Dr) (u : Int) (w : World) (hs : St.R w s p) (ht : St.R w t p2) (ha : RdDs w va xs) (hx : xs.length ≤ 1900000) (hz : szAll Dr.sz xs ≤ 4000000) (hzs : s.sz ≤ 4000000) (hzt : t.sz ≤ 4000000) :
    Calls Tryz.prog 6 #[p.v, p2.v, va, .int .i64 u] w fun e w' => e = .returned (.bool ((efOk xs s u == efOk xs t u) && eqL sameRs (efRs xs s u) (efRs xs t u))) ∧ Grew w w' := by
  obtain ⟨p_q, p_r, p_n⟩ := p
  have hsn : p_n = s.next := hs.2.2
  subst hsn
  obtain ⟨t_q, t_r, t_n⟩ := p2
  have htn : t_n = t.next := ht.2.2
  subst htn
  have HST := Lib.hid hs
  have HTT := Lib.hid ht
  have HD := Lib.hid ha
  clear hs ht
  obtain ⟨qs, ⟨a, ca, rfl, hca, hra⟩, hall⟩ := ha
  clear hall hca hra
  have hg0 := ((Grew.refl w).alloc (.cells #[p_q, p_r, .int .i64 s.next] 27)).alloc (.cells #[t_q, t_r, .int .i64 t.next] 27)
  have x0 : ((w.alloc (.cells #[p_q, p_r, .int .i64 s.next] 27)).alloc (.cells #[t_q, t_r, .int .i64 t.next] 27)).cell? ⟨w.heap.size, 0, none⟩ = some p_q := by simp
  have x1 : ((w.alloc (.cells #[p_q, p_r, .int .i64 s.next] 27)).alloc (.cells #[t_q, t_r, .int .i64 t.next] 27)).cell? ⟨w.heap.size, 1, none⟩ = some p_r := by simp
  have x2 : ((w.alloc (.cells #[p_q, p_r, .int .i64 s.next] 27)).alloc (.cells #[t_q, t_r, .int .i64 t.next] 27)).cell? ⟨w.heap.size, 2, none⟩ = some (.int .i64 s.next) := by simp
  have z0 : ((w.alloc (.cells #[p_q, p_r, .int .i64 s.next] 27)).alloc (.cells #[t_q, t_r, .int .i64 t.next] 27)).cell? ⟨w.heap.size + 1, 0, none⟩ = some t_q := by simp
  have z1 : ((w.alloc (.cells #[p_q, p_r, .int .i64 s.next] 27)).alloc (.cells #[t_q, t_r, .int .i64 t.next] 27)).cell? ⟨w.heap.size + 1, 1, none⟩ = some t_r := by simp
  have z2 : ((w.alloc (.cells #[p_q, p_r, .int .i64 s.next] 27)).alloc (.cells #[t_q, t_r, .int .i64 t.next] 27)).cell? ⟨w.heap.size + 1, 2, none⟩ = some (.int .i64 t.next) := by simp
  change Calls Tryz.prog _ #[.agg #[p_q, p_r, .int .i64 s.next], .agg #[t_q, t_r, .int .i64 t.next], _, .int .i64 u] w _
  obtain ⟨k1, hk1⟩ : ∃ b, efOk xs s u = b := ⟨_, rfl⟩
  obtain ⟨k2, hk2⟩ : ∃ b, efOk xs t u = b := ⟨_, rfl⟩
  have HK1 := Lib.hid hk1
  have HK2 := Lib.hid hk2
  rw [hk1, hk2]
  clear hk1 hk2
  go_enter Tryz.func6, Tryz.ntmps6
  go_wp2_with fail
  refine (implEvaluateForUser s ⟨p_q, p_r, s.next⟩ _ xs u _ (HST.out.grew hg0) (HD.out.grew hg0) hx hz hzs).mono ?_
  rintro e w1 ⟨v, he, ho, hb⟩
  rw [HK1.out] at he
  subst he
  have HO := Lib.hid ho
  obtain ⟨ra, rc, rfl⟩ := ownRss_slice ho
  clear ho
  replace z0 := grew_cell hb z0
  replace z1 := grew_cell hb z1
  replace z2 := grew_cell hb z2
  clear x0 x1 x2
  go_wp2_with fail
  refine (implEvaluateForUser t ⟨t_q, t_r, t.next⟩ _ xs u _ (HTT.out.grew (hg0.trans hb)) (HD.out.grew (hg0.trans hb)) hx hz hzt).mono ?_
  rintro e w2 ⟨v2, he, ho2, hb2⟩
  rw [HK2.out] at he
  subst he
  have HO2 := Lib.hid ho2
  obtain ⟨sa, sc, rfl⟩ := ownRss_slice ho2
  clear ho2 z0 z1 z2
  have hl1 := efRs_len xs s u
  have hl2 := efRs_len xs t u
  have hcs : (k1 == k2) = true ∨ (k1 == k2) = false := by cases k1 == k2 <;> simp
  rcases hcs with hq | hq
  · obtain rfl : k1 = k2 := by simpa using hq
    go_wp2_with (go_at_call 17; refine (implEqualResults _ _ (efRs xs s u) (efRs xs t u) _ (HO.out.rd.grew hb2) HO2.out.rd (by omega) (by omega) (efRs_small hzs) (efRs_small hzt)).mono ?_; rintro e w3 ⟨rfl, hb3⟩)
    go_ret
    exact ⟨ret_bool (by simp), ((hg0.trans hb).trans hb2).trans hb3⟩
  · go_wp2
    go_ret
    exact ⟨ret_bool (by rw [hq]; simp), (hg0.trans hb).trans hb2⟩
end Go.Proofs.YtemikjbfjhebnaaGreat
namespace Go.Proofs.YtemikjbfjhebnaaGreat
open Go.RowKit
set_option linter.unusedVariables false
theorem ef_ok (xs : List Dr) (s : St) (u : Int) : efOk xs s u = (inB u 0 2 && (stoB s && stB xs)) := by
  unfold efOk evOk
  cases hs : stoB s with
  | false => simp
  | true => rw [sto_vis hs u]; simp
theorem ni {a b : St} {u : Int} (ha : stoB a = true) (hb : stoB b = true) (hf : (visS a u).files = (visS b u).files) (xs : List Dr) : efRs xs a u = efRs xs b u ∧ efOk xs a u = efOk xs b u := by
  have h1 : efOk xs a u = efOk xs b u := by rw [ef_ok, ef_ok, ha, hb]
  refine ⟨?_, h1⟩
  have e1 : evOk xs (visS a u) = stB xs := by unfold evOk; rw [sto_vis ha u, Bool.and_true]
  have e2 : evOk xs (visS b u) = stB xs := by unfold evOk; rw [sto_vis hb u, Bool.and_true]
  unfold efRs evRs
  rw [ha, hb, e1, e2, hf]
end Go.Proofs.YtemikjbfjhebnaaGreat
namespace Go.Proofs.YtemikjbfjhebnaaGreat.fnNoninterference
open Go.RowKit
set_option linter.unusedVariables false
theorem sameRs_me (x : Rs) : sameRs x x = true := by
  unfold sameRs
  rw [sameB_yes rfl]
  simp
theorem eqRs_me (xs : List Rs) : eqL sameRs xs xs = true := by
  unfold eqL
  exact @decide_eq_true _ (Classical.propDecidable _) ⟨rfl, fun j x y h1 h2 => by rw [h1] at h2; cases h2; exact sameRs_me _⟩
set_option maxRecDepth 100000 in
set_option maxHeartbeats 16000000 in
theorem walkLaw (w : World) (v : Value) (n : Nat) (xs : List Int) (hr : Rd w v 1 n (xs.map (Value.int .u8))) (hn : n ≤ maxLen) (ho : ∀ a : Int, a ∈ xs → 0 ≤ a ∧ a ≤ 255) :
    Calls Tryz.prog 3 #[v] w fun e w' => e = .returned (.bool true) ∧ Grew w w' := by
  clear ho
  by_cases hbig : (1048576 : Int) < (n : Int)
  · have hd : decide ((1048576 : Int) < (n : Int)) = true := by simp [hbig]
    go_enter Tryz.func3, Tryz.ntmps3
    go_wp2_with fail
    refine (big v n _ _ hr hn).mono ?_
    rintro e w1 ⟨rfl, rfl⟩
    go_wp2
    go_ret
    exact ⟨rfl, Grew.refl _⟩
  have hd : decide ((1048576 : Int) < (n : Int)) = false := by simp [hbig]
  have hcd : Cd w v := ⟨n, xs, hr, by omega⟩
  have G0 := Grew.refl w
  go_enter Tryz.func3, Tryz.ntmps3
  go_wp2_with fail
  refine (big v n _ _ hr hn).mono ?_
  rintro e w1 ⟨rfl, rfl⟩
  go_wp2_with fail
  refine (drawEqualViews v _ hcd).mono ?_
  rintro e w1 ⟨p, p2, dv, ua, rfl, ⟨s_a, s_b, d_a, so_a, so_b, hdk, hst, hst2, hgl⟩, g1⟩
  have G1 := G0.trans g1
  have hz_a := so_a.sz (by decide)
  have HZ_a := Lib.hid (show s_a.sz ≤ 4000000 by omega)
  have R_sa := Lib.hid hst.rd
  obtain ⟨xa_a, xc_a, ya_a, yc_a, hp⟩ := hst.slices
  subst hp
  have hz_b := so_b.sz (by decide)
  have HZ_b := Lib.hid (show s_b.sz ≤ 4000000 by omega)
  have R_sb := Lib.hid hst2.rd
  obtain ⟨xa_b, xc_b, ya_b, yc_b, hp⟩ := hst2.slices
  subst hp
  have hdz := ds_szZ hdk
  have hdl := hdk.1
  have HDL := Lib.hid (show d_a.length ≤ 1900000 by omega)
  have HDZ := Lib.hid (show szAll Dr.sz d_a ≤ 4000000 by omega)
  have R_da := Lib.hid hgl.rd
  obtain ⟨da_a, dc_a, rfl⟩ := GL.slice hgl
  clear hst hst2 hgl so_a so_b hdk hz_a hz_b hdz
  have g2 := ((Grew.refl w1).alloc (.cells #[.slice xa_a s_a.schema.length xc_a, .slice ya_a s_a.files.length yc_a, .int .i64 s_a.next] 27)).alloc (.cells #[.slice xa_b s_b.schema.length xc_b, .slice ya_b s_b.files.length yc_b, .int .i64 s_b.next] 27)
  have ba0 : ((w1.alloc (.cells #[.slice xa_a s_a.schema.length xc_a, .slice ya_a s_a.files.length yc_a, .int .i64 s_a.next] 27)).alloc (.cells #[.slice xa_b s_b.schema.length xc_b, .slice ya_b s_b.files.length yc_b, .int .i64 s_b.next] 27)).cell? ⟨w1.heap.size, 0, none⟩ = some (.slice xa_a s_a.schema.length xc_a) := by simp
  have ba1 : ((w1.alloc (.cells #[.slice xa_a s_a.schema.length xc_a, .slice ya_a s_a.files.length yc_a, .int .i64 s_a.next] 27)).alloc (.cells #[.slice xa_b s_b.schema.length xc_b, .slice ya_b s_b.files.length yc_b, .int .i64 s_b.next] 27)).cell? ⟨w1.heap.size, 1, none⟩ = some (.slice ya_a s_a.files.length yc_a) := by simp
  have ba2 : ((w1.alloc (.cells #[.slice xa_a s_a.schema.length xc_a, .slice ya_a s_a.files.length yc_a, .int .i64 s_a.next] 27)).alloc (.cells #[.slice xa_b s_b.schema.length xc_b, .slice ya_b s_b.files.length yc_b, .int .i64 s_b.next] 27)).cell? ⟨w1.heap.size, 2, none⟩ = some (.int .i64 s_a.next) := by simp
  have bb0 : ((w1.alloc (.cells #[.slice xa_a s_a.schema.length xc_a, .slice ya_a s_a.files.length yc_a, .int .i64 s_a.next] 27)).alloc (.cells #[.slice xa_b s_b.schema.length xc_b, .slice ya_b s_b.files.length yc_b, .int .i64 s_b.next] 27)).cell? ⟨w1.heap.size + 1, 0, none⟩ = some (.slice xa_b s_b.schema.length xc_b) := by simp
  have bb1 : ((w1.alloc (.cells #[.slice xa_a s_a.schema.length xc_a, .slice ya_a s_a.files.length yc_a, .int .i64 s_a.next] 27)).alloc (.cells #[.slice xa_b s_b.schema.length xc_b, .slice ya_b s_b.files.length yc_b, .int .i64 s_b.next] 27)).cell? ⟨w1.heap.size + 1, 1, none⟩ = some (.slice ya_b s_b.files.length yc_b) := by simp
  have bb2 : ((w1.alloc (.cells #[.slice xa_a s_a.schema.length xc_a, .slice ya_a s_a.files.length yc_a, .int .i64 s_a.next] 27)).alloc (.cells #[.slice xa_b s_b.schema.length xc_b, .slice ya_b s_b.files.length yc_b, .int .i64 s_b.next] 27)).cell? ⟨w1.heap.size + 1, 2, none⟩ = some (.int .i64 s_b.next) := by simp
  go_wp2_with fail
  generalize (w1.alloc (.cells #[.slice xa_a s_a.schema.length xc_a, .slice ya_a s_a.files.length yc_a, .int .i64 s_a.next] 27)).alloc (.cells #[.slice xa_b s_b.schema.length xc_b, .slice ya_b s_b.files.length yc_b, .int .i64 s_b.next] 27) = w2 at g2 ba0 ba1 ba2 bb0 bb1 bb2 ⊢
  have G2 := G1.trans g2
  obtain ⟨iv, hiv_⟩ : ∃ b, ((efOk d_a s_a ua == efOk d_a s_b ua) && eqL sameRs (efRs d_a s_a ua) (efRs d_a s_b ua)) = b := ⟨_, rfl⟩
  have H_iv := Lib.hid hiv_
  clear hiv_
  obtain ⟨fu, hfu_⟩ : ∃ b, efU s_a s_b ua = b := ⟨_, rfl⟩
  have H_fu := Lib.hid hfu_
  clear hfu_
  obtain ⟨va, hva_⟩ : ∃ b, stoB s_a = b := ⟨_, rfl⟩
  have H_va := Lib.hid hva_
  clear hva_
  obtain ⟨vb, hvb_⟩ : ∃ b, stoB s_b = b := ⟨_, rfl⟩
  have H_vb := Lib.hid hvb_
  clear hvb_
  have HAA := Lib.hid (show ((efOk d_a s_a ua == efOk d_a s_a ua) && eqL sameRs (efRs d_a s_a ua) (efRs d_a s_a ua)) = true by rw [eqRs_me]; simp)
  refine (implEqualViews s_a ⟨.slice xa_a s_a.schema.length xc_a, .slice ya_a s_a.files.length yc_a, s_a.next⟩ s_b ⟨.slice xa_b s_b.schema.length xc_b, .slice ya_b s_b.files.length yc_b, s_b.next⟩ _ d_a ua _ (St.R.grew R_sa.out (g2)) (St.R.grew R_sb.out (g2)) (RdDs.grew R_da.out (g2)) HDL.out HDZ.out HZ_a.out HZ_b.out).mono ?_
  rintro e w3 ⟨he, g3⟩
  have G3 := G2.trans g3
  replace ba0 := grew_cell g3 ba0
  replace ba1 := grew_cell g3 ba1
  replace ba2 := grew_cell g3 ba2
  replace bb0 := grew_cell g3 bb0
  replace bb1 := grew_cell g3 bb1
  replace bb2 := grew_cell g3 bb2
  rw [H_iv.out] at he
  subst he
  go_wp2_with fail
  refine (specEqualViews s_a ⟨.slice xa_a s_a.schema.length xc_a, .slice ya_a s_a.files.length yc_a, s_a.next⟩ s_b ⟨.slice xa_b s_b.schema.length xc_b, .slice ya_b s_b.files.length yc_b, s_b.next⟩ _ d_a ua _ (St.R.grew R_sa.out ((g2.trans g3))) (St.R.grew R_sb.out ((g2.trans g3))) (RdDs.grew R_da.out ((g2.trans g3))) HDL.out HDZ.out HZ_a.out HZ_b.out).mono ?_
  rintro e w4 ⟨he, g4⟩
  have G4 := G3.trans g4
  replace ba0 := grew_cell g4 ba0
  replace ba1 := grew_cell g4 ba1
  replace ba2 := grew_cell g4 ba2
  replace bb0 := grew_cell g4 bb0
  replace bb1 := grew_cell g4 bb1
  replace bb2 := grew_cell g4 bb2
  rw [H_iv.out] at he
  subst he
  go_wp2_with fail
  refine (specEqualForUser s_a s_b ⟨.slice xa_a s_a.schema.length xc_a, .slice ya_a s_a.files.length yc_a, s_a.next⟩ ⟨.slice xa_b s_b.schema.length xc_b, .slice ya_b s_b.files.length yc_b, s_b.next⟩ ua _ (St.R.grew R_sa.out (((g2.trans g3).trans g4))) (St.R.grew R_sb.out (((g2.trans g3).trans g4))) HZ_a.out HZ_b.out).mono ?_
  rintro e w5 ⟨he, g5⟩
  have G5 := G4.trans g5
  replace ba0 := grew_cell g5 ba0
  replace ba1 := grew_cell g5 ba1
  replace ba2 := grew_cell g5 ba2
  replace bb0 := grew_cell g5 bb0
  replace bb1 := grew_cell g5 bb1
  replace bb2 := grew_cell g5 bb2
  rw [H_fu.out] at he
  subst he
  cases fu
  · skip
    go_wp2_with fail
    refine (implEqualViews s_a ⟨.slice xa_a s_a.schema.length xc_a, .slice ya_a s_a.files.length yc_a, s_a.next⟩ s_a ⟨.slice xa_a s_a.schema.length xc_a, .slice ya_a s_a.files.length yc_a, s_a.next⟩ _ d_a ua _ (St.R.grew R_sa.out ((((g2.trans g3).trans g4).trans g5))) (St.R.grew R_sa.out ((((g2.trans g3).trans g4).trans g5))) (RdDs.grew R_da.out ((((g2.trans g3).trans g4).trans g5))) HDL.out HDZ.out HZ_a.out HZ_a.out).mono ?_
    rintro e w6 ⟨he, g6⟩
    have G6 := G5.trans g6
    replace ba0 := grew_cell g6 ba0
    replace ba1 := grew_cell g6 ba1
    replace ba2 := grew_cell g6 ba2
    replace bb0 := grew_cell g6 bb0
    replace bb1 := grew_cell g6 bb1
    replace bb2 := grew_cell g6 bb2
    rw [HAA.out] at he
    subst he
    go_wp2
    go_ret
    exact ⟨rfl, G6⟩
  · skip
    go_wp2_with fail
    refine (specIsValidStore s_a ⟨.slice xa_a s_a.schema.length xc_a, .slice ya_a s_a.files.length yc_a, s_a.next⟩ _ (St.R.grew R_sa.out ((((g2.trans g3).trans g4).trans g5))) (by have := HZ_a.out; omega)).mono ?_
    rintro e w6 ⟨he, g6⟩
    have G6 := G5.trans g6
    replace ba0 := grew_cell g6 ba0
    replace ba1 := grew_cell g6 ba1
    replace ba2 := grew_cell g6 ba2
    replace bb0 := grew_cell g6 bb0
    replace bb1 := grew_cell g6 bb1
    replace bb2 := grew_cell g6 bb2
    rw [H_va.out] at he
    subst he
    cases va
    · skip
      go_wp2_with fail
      refine (implEqualViews s_a ⟨.slice xa_a s_a.schema.length xc_a, .slice ya_a s_a.files.length yc_a, s_a.next⟩ s_a ⟨.slice xa_a s_a.schema.length xc_a, .slice ya_a s_a.files.length yc_a, s_a.next⟩ _ d_a ua _ (St.R.grew R_sa.out (((((g2.trans g3).trans g4).trans g5).trans g6))) (St.R.grew R_sa.out (((((g2.trans g3).trans g4).trans g5).trans g6))) (RdDs.grew R_da.out (((((g2.trans g3).trans g4).trans g5).trans g6))) HDL.out HDZ.out HZ_a.out HZ_a.out).mono ?_
      rintro e w7 ⟨he, g7⟩
      have G7 := G6.trans g7
      replace ba0 := grew_cell g7 ba0
      replace ba1 := grew_cell g7 ba1
      replace ba2 := grew_cell g7 ba2
      replace bb0 := grew_cell g7 bb0
      replace bb1 := grew_cell g7 bb1
      replace bb2 := grew_cell g7 bb2
      rw [HAA.out] at he
      subst he
      go_wp2
      go_ret
      exact ⟨rfl, G7⟩
    · skip
      go_wp2_with fail
      refine (specIsValidStore s_b ⟨.slice xa_b s_b.schema.length xc_b, .slice ya_b s_b.files.length yc_b, s_b.next⟩ _ (St.R.grew R_sb.out (((((g2.trans g3).trans g4).trans g5).trans g6))) (by have := HZ_b.out; omega)).mono ?_
      rintro e w7 ⟨he, g7⟩
      have G7 := G6.trans g7
      replace ba0 := grew_cell g7 ba0
      replace ba1 := grew_cell g7 ba1
      replace ba2 := grew_cell g7 ba2
      replace bb0 := grew_cell g7 bb0
      replace bb1 := grew_cell g7 bb1
      replace bb2 := grew_cell g7 bb2
      rw [H_vb.out] at he
      subst he
      cases vb
      · skip
        go_wp2_with fail
        refine (implEqualViews s_a ⟨.slice xa_a s_a.schema.length xc_a, .slice ya_a s_a.files.length yc_a, s_a.next⟩ s_a ⟨.slice xa_a s_a.schema.length xc_a, .slice ya_a s_a.files.length yc_a, s_a.next⟩ _ d_a ua _ (St.R.grew R_sa.out ((((((g2.trans g3).trans g4).trans g5).trans g6).trans g7))) (St.R.grew R_sa.out ((((((g2.trans g3).trans g4).trans g5).trans g6).trans g7))) (RdDs.grew R_da.out ((((((g2.trans g3).trans g4).trans g5).trans g6).trans g7))) HDL.out HDZ.out HZ_a.out HZ_a.out).mono ?_
        rintro e w8 ⟨he, g8⟩
        have G8 := G7.trans g8
        replace ba0 := grew_cell g8 ba0
        replace ba1 := grew_cell g8 ba1
        replace ba2 := grew_cell g8 ba2
        replace bb0 := grew_cell g8 bb0
        replace bb1 := grew_cell g8 bb1
        replace bb2 := grew_cell g8 bb2
        rw [HAA.out] at he
        subst he
        go_wp2
        go_ret
        exact ⟨rfl, G8⟩
      · skip
        have NI := ni H_va.out H_vb.out (efU_files H_fu.out) d_a
        obtain rfl : iv = true := by rw [← H_iv.out, NI.1, NI.2, eqRs_me]; simp
        have HLS := Lib.hid (show ∀ nm, lsI d_a s_b ua nm = lsI d_a s_a ua nm from fun nm => by unfold lsI; rw [NI.1])
        have HLE := Lib.hid (fun nm => lsI_le (xs := d_a) (s := s_a) (u := ua) (nm := nm) HZ_a.out)
        have T_sa := Lib.hid (St.R.grew R_sa.out ((((((g2.trans g3).trans g4).trans g5).trans g6).trans g7)))
        have T_sb := Lib.hid (St.R.grew R_sb.out ((((((g2.trans g3).trans g4).trans g5).trans g6).trans g7)))
        have T_da := Lib.hid (RdDs.grew R_da.out ((((((g2.trans g3).trans g4).trans g5).trans g6).trans g7)))
        have HG := Lib.hid G7
        clear NI R_sa R_sb R_da HAA H_iv H_fu H_va H_vb G0 G1 G2 G3 G4 G5 G6 G7 g1 g2 g3 g4 g5 g6 g7 hbig hn hd hr hcd
        obtain ⟨qs, ⟨_, _, h1, _, hra⟩, hall⟩ := T_da.out
        cases h1
        have HA := Lib.hid hall
        clear hall
        obtain ⟨n_, hn_⟩ : ∃ z, d_a.length = z := ⟨_, rfl⟩
        rw [hn_] at hra hdl T_da ⊢
        clear hn_
        go_wp2
        go_loopw [8] (fun i wr => ∃ k : Nat, k ≤ n_ ∧ i = .int .i64 k ∧ Grew w7 wr) (fun i _ => n_ - (intOf i).toNat)
        case atStart => exact ⟨0, Nat.zero_le _, rfl, Grew.refl _⟩
        case round =>
          obtain ⟨k, hk, rfl, hbel⟩ := hrel
          have ba0' := grew_cell hbel ba0
          have ba1' := grew_cell hbel ba1
          have ba2' := grew_cell hbel ba2
          have bb0' := grew_cell hbel bb0
          have bb1' := grew_cell hbel bb1
          have bb2' := grew_cell hbel bb2
          by_cases hlt : k < n_
          · skip
            obtain ⟨b0, o0, p, rfl, hpk, c0, c1⟩ := (hra.grew hbel).getP2 hlt
            obtain ⟨x, hxk, hxr⟩ := HA.out.get hpk.out
            obtain ⟨pn, pq⟩ := p
            obtain ⟨hxn, hxq⟩ := hxr
            simp only at hxn c0 c1
            subst hxn
            obtain ⟨LI, hLI⟩ : ∃ z, lsI d_a s_a ua x.name = z := ⟨_, rfl⟩
            have HLI := Lib.hid hLI
            have HLB := Lib.hid ((HLS.out x.name).trans hLI)
            have hll0 := HLE.out x.name
            rw [hLI] at hll0
            clear hLI
            obtain ⟨ll, hll_⟩ : ∃ z, LI.length = z := ⟨_, rfl⟩
            have HLL := Lib.hid hll_
            rw [hll_] at hll0
            clear hll_
            have HSI := Lib.hid (sameB_yes (rfl : LI = LI))
            have hk0 : (0 : Int) ≤ k := by omega
            have hkn : (k : Int) < n_ := by omega
            clear hxk hxq hpk c1
            go_wp2_with fail
            refine wp_region_noPanic ?_
            refine wp_region_held_drew (S := (fun w' => (w'.cell? ⟨w1.heap.size, 0, none⟩ = some (.slice xa_a s_a.schema.length xc_a) ∧ w'.cell? ⟨w1.heap.size, 1, none⟩ = some (.slice ya_a s_a.files.length yc_a) ∧ w'.cell? ⟨w1.heap.size, 2, none⟩ = some (.int .i64 s_a.next) ∧ w'.cell? ⟨w1.heap.size + 1, 0, none⟩ = some (.slice xa_b s_b.schema.length xc_b) ∧ w'.cell? ⟨w1.heap.size + 1, 1, none⟩ = some (.slice ya_b s_b.files.length yc_b) ∧ w'.cell? ⟨w1.heap.size + 1, 2, none⟩ = some (.int .i64 s_b.next) ∧ w'.cell? ⟨b0, o0 + k * 2, none⟩ = some (.string x.name) ∧ Grew wr w'))) (by kernel_rfl) ?h1_S ?h1_r
            case h1_S => exact ⟨grew_cell (Grew.refl _).drew ba0', grew_cell (Grew.refl _).drew ba1', grew_cell (Grew.refl _).drew ba2', grew_cell (Grew.refl _).drew bb0', grew_cell (Grew.refl _).drew bb1', grew_cell (Grew.refl _).drew bb2', grew_cell (Grew.refl _).drew c0, (Grew.refl _).drew⟩
            case h1_r =>
              intro HS
              first | refine sk' 0 HS ?_ | refine tk' 0 HS ?_
              first | refine sk' 1 HS ?_ | refine tk' 1 HS ?_
              first | refine sk' 2 HS ?_ | refine tk' 2 HS ?_
              first | refine sk' 3 HS ?_ | refine tk' 3 HS ?_
              first | refine sk' 4 HS ?_ | refine tk' 4 HS ?_
              first | refine sk' 5 HS ?_ | refine tk' 5 HS ?_
              first | refine sk' 6 HS ?_ | refine tk' 6 HS ?_
              first | refine sk' 7 HS ?_ | refine tk' 7 HS ?_
              first | refine sk' 9 HS ?_ | refine tk' 9 HS ?_
              first | refine sk' 10 HS ?_ | refine tk' 10 HS ?_
              first | refine sk' 11 HS ?_ | refine tk' 11 HS ?_
              first | refine sk' 12 HS ?_ | refine tk' 12 HS ?_
              first | refine sk' 13 HS ?_ | refine tk' 13 HS ?_
              first | refine sk' 14 HS ?_ | refine tk' 14 HS ?_
              first | refine sk' 15 HS ?_ | refine tk' 15 HS ?_
              first | refine sk' 16 HS ?_ | refine tk' 16 HS ?_
              refine cl' 8 fun K hK => ?_
              rw [if_pos (by rfl)]
              go_simp
              go_at_call 11
              refine (implListDir s_a ⟨.slice xa_a s_a.schema.length xc_a, .slice ya_a s_a.files.length yc_a, s_a.next⟩ _ d_a ua x.name _ (T_sa.out.grew (hbel.trans HS.2.2.2.2.2.2.2)) (RdDs.grew T_da.out (hbel.trans HS.2.2.2.2.2.2.2)) HDL.out HDZ.out HZ_a.out).mono ?_
              rintro e wr1 ⟨v8, rfl, o8, hb⟩
              rw [HLI.out, HLL.out] at o8
              have I8 := Lib.hid (rd_of_own o8)
              obtain ⟨i8a, i8c, rfl⟩ := own_slice o8
              clear o8
              refine hK.out _ _ ?s1_8 ?r1_8
              case s1_8 => exact ⟨grew_cell hb HS.1, grew_cell hb HS.2.1, grew_cell hb HS.2.2.1, grew_cell hb HS.2.2.2.1, grew_cell hb HS.2.2.2.2.1, grew_cell hb HS.2.2.2.2.2.1, grew_cell hb HS.2.2.2.2.2.2.1, HS.2.2.2.2.2.2.2.trans hb⟩
              case r1_8 =>
                clear HS hK K; intro HS
                try simp only [Act.put, lpa, lpb, lpc]
                refine cl' 17 fun K hK => ?_
                rw [if_pos (by rfl)]
                go_simp
                go_at_call 11
                refine (implListDir s_b ⟨.slice xa_b s_b.schema.length xc_b, .slice ya_b s_b.files.length yc_b, s_b.next⟩ _ d_a ua x.name _ (T_sb.out.grew (hbel.trans HS.2.2.2.2.2.2.2)) (RdDs.grew T_da.out (hbel.trans HS.2.2.2.2.2.2.2)) HDL.out HDZ.out HZ_b.out).mono ?_
                rintro e wr2 ⟨v17, rfl, o17, hb⟩
                have I8b := Lib.hid (I8.out.grew hb)
                rw [HLB.out, HLL.out] at o17
                have I17 := Lib.hid (rd_of_own o17)
                obtain ⟨i17a, i17c, rfl⟩ := own_slice o17
                clear o17
                refine hK.out _ _ ?s1_17 ?r1_17
                case s1_17 => exact ⟨grew_cell hb HS.1, grew_cell hb HS.2.1, grew_cell hb HS.2.2.1, grew_cell hb HS.2.2.2.1, grew_cell hb HS.2.2.2.2.1, grew_cell hb HS.2.2.2.2.2.1, grew_cell hb HS.2.2.2.2.2.2.1, HS.2.2.2.2.2.2.2.trans hb⟩
                case r1_17 =>
                  clear HS hK K; intro HS
                  try simp only [Act.put, lpa, lpb, lpc]
                  refine cl' 18 fun K hK => ?_
                  rw [if_pos (by rfl)]
                  go_simp
                  go_at_call 10
                  refine (sameInts _ _ _ _ LI LI _ I8b.out I17.out hll0 hll0).mono ?_
                  rintro e wr3 ⟨he, hb⟩
                  rw [HSI.out] at he
                  subst he
                  refine hK.out _ _ ?s1_18 ?r1_18
                  case s1_18 => exact ⟨grew_cell hb HS.1, grew_cell hb HS.2.1, grew_cell hb HS.2.2.1, grew_cell hb HS.2.2.2.1, grew_cell hb HS.2.2.2.2.1, grew_cell hb HS.2.2.2.2.2.1, grew_cell hb HS.2.2.2.2.2.2.1, HS.2.2.2.2.2.2.2.trans hb⟩
                  case r1_18 =>
                    clear HS hK K; intro HS
                    try simp only [Act.put, lpa, lpb, lpc]
                    first | refine sk' 19 HS ?_ | refine tk' 19 HS ?_
                    first | refine sk' 20 HS ?_ | refine tk' 20 HS ?_
                    first | refine sk' 21 HS ?_ | refine tk' 21 HS ?_
                    first | refine sk' 22 HS ?_ | refine tk' 22 HS ?_
                    first | refine sk' 23 HS ?_ | refine tk' 23 HS ?_
                    first | refine sk' 24 HS ?_ | refine tk' 24 HS ?_
                    first | refine sk' 25 HS ?_ | refine tk' 25 HS ?_
                    first | refine sk' 26 HS ?_ | refine tk' 26 HS ?_
                    first | refine sk' 27 HS ?_ | refine tk' 27 HS ?_
                    first | refine sk' 28 HS ?_ | refine tk' 28 HS ?_
                    first | refine sk' 30 HS ?_ | refine tk' 30 HS ?_
                    first | refine sk' 31 HS ?_ | refine tk' 31 HS ?_
                    first | refine sk' 32 HS ?_ | refine tk' 32 HS ?_
                    first | refine sk' 33 HS ?_ | refine tk' 33 HS ?_
                    first | refine sk' 34 HS ?_ | refine tk' 34 HS ?_
                    first | refine sk' 35 HS ?_ | refine tk' 35 HS ?_
                    first | refine sk' 36 HS ?_ | refine tk' 36 HS ?_
                    first | refine sk' 37 HS ?_ | refine tk' 37 HS ?_
                    refine cl' 29 fun K hK => ?_
                    rw [if_pos (by rfl)]
                    go_simp
                    go_at_call 12
                    refine (implCountListed s_a ⟨.slice xa_a s_a.schema.length xc_a, .slice ya_a s_a.files.length yc_a, s_a.next⟩ _ d_a ua x.name _ (T_sa.out.grew (hbel.trans HS.2.2.2.2.2.2.2)) (RdDs.grew T_da.out (hbel.trans HS.2.2.2.2.2.2.2)) HDL.out HDZ.out HZ_a.out).mono ?_
                    rintro e wr4 ⟨he, hb⟩
                    rw [HLI.out, HLL.out] at he
                    subst he
                    refine hK.out _ _ ?s1_29 ?r1_29
                    case s1_29 => exact ⟨grew_cell hb HS.1, grew_cell hb HS.2.1, grew_cell hb HS.2.2.1, grew_cell hb HS.2.2.2.1, grew_cell hb HS.2.2.2.2.1, grew_cell hb HS.2.2.2.2.2.1, grew_cell hb HS.2.2.2.2.2.2.1, HS.2.2.2.2.2.2.2.trans hb⟩
                    case r1_29 =>
                      clear HS hK K; intro HS
                      try simp only [Act.put, lpa, lpb, lpc]
                      refine cl' 38 fun K hK => ?_
                      rw [if_pos (by rfl)]
                      go_simp
                      go_at_call 12
                      refine (implCountListed s_b ⟨.slice xa_b s_b.schema.length xc_b, .slice ya_b s_b.files.length yc_b, s_b.next⟩ _ d_a ua x.name _ (T_sb.out.grew (hbel.trans HS.2.2.2.2.2.2.2)) (RdDs.grew T_da.out (hbel.trans HS.2.2.2.2.2.2.2)) HDL.out HDZ.out HZ_b.out).mono ?_
                      rintro e wr5 ⟨he, hb⟩
                      rw [HLB.out, HLL.out] at he
                      subst he
                      refine hK.out _ _ ?s1_38 ?r1_38
                      case s1_38 => exact ⟨grew_cell hb HS.1, grew_cell hb HS.2.1, grew_cell hb HS.2.2.1, grew_cell hb HS.2.2.2.1, grew_cell hb HS.2.2.2.2.1, grew_cell hb HS.2.2.2.2.2.1, grew_cell hb HS.2.2.2.2.2.2.1, HS.2.2.2.2.2.2.2.trans hb⟩
                      case r1_38 =>
                        clear HS hK K; intro HS
                        try simp only [Act.put, lpa, lpb, lpc]
                        first | refine sk' 39 HS ?_ | refine tk' 39 HS ?_
                        first | refine sk' 40 HS ?_ | refine tk' 40 HS ?_
                        refine wpAnyH_done (by kernel_rfl) ?_ _
                        refine NoPanic.normal ?_
                        have GR := HS.2.2.2.2.2.2.2
                        clear HS
                        go_wp2
                        go_roundw
                        case rel => exact ⟨k + 1, by omega, by go_num, hbel.trans GR⟩
                        case measure => simp [intOf]; omega
          · obtain rfl : k = n_ := by omega
            go_wp2
            go_ret
            exact ⟨rfl, HG.out.trans hbel⟩
end Go.Proofs.YtemikjbfjhebnaaGreat.fnNoninterference
