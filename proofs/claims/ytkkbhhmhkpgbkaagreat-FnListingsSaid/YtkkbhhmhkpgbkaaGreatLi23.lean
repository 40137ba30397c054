/- Texts U2, Z25, U4, Y11, Z26, WListings, as far as they are needed. -/
import Derived.Test.YtkkbhhmhkpgbkaaGreatLi22
import Derived.Test.YtkkbhhmhkpgbkaaGreatLi3
import Derived.Test.YtkkbhhmhkpgbkaaGreatLi21
import Derived.Test.YtkkbhhmhkpgbkaaGreatLi16
import Derived.Test.YtkkbhhmhkpgbkaaGreatLi17
import Derived.Test.YtkkbhhmhkpgbkaaGreatLi1
import Derived.Test.YtkkbhhmhkpgbkaaGreatLi0
import Derived.BigQuiet
import Derived.Test.YtkkbhhmhkpgbkaaGreatLi18
import Derived.Test.YtkkbhhmhkpgbkaaGreatLi11
import Derived.Test.YtkkbhhmhkpgbkaaGreatLi14
import Derived.Test.YtkkbhhmhkpgbkaaGreatLi19
import Derived.Test.YtkkbhhmhkpgbkaaGreatLi8
namespace Go.Proofs.YtkkbhhmhkpgbkaaGreat
open Go.RowKit
set_option linter.unusedVariables false
theorem OwnRss.lo {w : World} {lo lo' hi : Nat} {v : Value} {xs : List Rs} (h : OwnRss w lo hi v xs) (hl : lo' ≤ lo) : OwnRss w lo' hi v xs := by
  obtain ⟨ps, h1, h2, h3⟩ := h
  exact ⟨ps, h1.mono hl (Nat.le_refl _), h2.mono fun x p h => h.mono hl (Nat.le_refl _), h3⟩
theorem ownRss_slice {w : World} {lo hi : Nat} {v : Value} {xs : List Rs} (h : OwnRss w lo hi v xs) : ∃ a c, v = .slice a xs.length c := by
  obtain ⟨ps, h1, _⟩ := h
  exact own_slice h1.1
theorem EvI.turn {xs : List Dr} {fs : List Fl} {k : Nat} (hb : stB xs = true) {a : List Rs × Bool} (h : EvI xs fs k a.1) (i : Nat) : EvI xs fs k (st1 xs fs k a i).1 := by
  cases hx : xs[i]? with
  | none => unfold st1; rw [hx]; exact h
  | some x =>
    by_cases hk : gt (stL xs) i = k
    · by_cases hs : selL x.query fs a.1 = idsAt a.1 i
      · rw [st1_same hx hs]; exact h
      · rw [st1_new hx hk hs]; exact (EvI.step hb h hx hk hs).1
    · rw [st1_skip hk]; exact h
theorem EvI.pass {xs : List Dr} {fs : List Fl} {k : Nat} (hb : stB xs = true) {rs : List Rs} (h : EvI xs fs k rs) : ∀ i, EvI xs fs k (passTo xs fs k rs i).1
  | 0 => h
  | i + 1 => by rw [passTo_succ]; exact EvI.turn hb (EvI.pass hb h i) i
theorem EvI.passes {xs : List Dr} {fs : List Fl} {k : Nat} (hb : stB xs = true) {rs : List Rs} (h : EvI xs fs k rs) : ∀ m, EvI xs fs k (passN xs fs k rs m).1
  | 0 => h
  | m + 1 => EvI.pass hb (EvI.passes hb h m) xs.length
theorem EvR.inv {xs : List Dr} {fs : List Fl} (hb : stB xs = true) {k : Nat} {rs : List Rs} {t : Nat} (h : EvR xs fs k rs t) : EvI xs fs k rs := by
  induction h with
  | zero => exact EvI.start xs fs
  | succ _ _ ih => exact (EvI.passes hb ih _).next
theorem evRs_ok (xs : List Dr) (s : St) : (evRs xs s).length ≤ xs.length ∧ ∀ x, x ∈ evRs xs s → x.ids.length ≤ s.files.length := by
  unfold evRs
  cases hk : evOk xs s with
  | false => simp
  | true =>
    rw [if_pos rfl]
    have hb : stB xs = true := by unfold evOk at hk; simp only [Bool.and_eq_true] at hk; exact hk.1
    by_cases hx : ∃ p : List Rs × Nat, EvR xs s.files (lvls xs) p.1 p.2
    · have e : (evP xs s.files).1 = hx.choose.1 := by unfold evP; rw [dif_pos hx]
      have h1 := EvR.inv hb hx.choose_spec
      rw [e]
      refine ⟨by rw [h1.rlen]; exact Nat.le_refl _, fun x hxm => ?_⟩
      obtain ⟨i, hi⟩ := List.getElem?_of_mem hxm
      have h2 := h1.len i
      rw [idsAt_get hi] at h2; exact h2
    · have e : (evP xs s.files).1 = [] := by unfold evP; rw [dif_neg hx]
      rw [e]; simp
theorem evRs_small {xs : List Dr} {s : St} (hs : s.sz ≤ 4000000) : ∀ x, x ∈ evRs xs s → x.small := fun x hx => by
  have h1 := (evRs_ok xs s).2 x hx
  unfold St.sz at hs
  unfold Rs.small; omega
set_option maxRecDepth 100000 in
set_option maxHeartbeats 2000000 in
theorem specEvaluate (s : St) (p : PS) (va : Value) (xs : List Dr) (w : World) (hs : St.R w s p) (ha : RdDs w va xs) (hx : xs.length ≤ 1900000) (hz : szAll Dr.sz xs ≤ 4000000) (hzs : s.sz ≤ 4000000) :
    Calls Tryz.prog 25 #[p.v, va] w fun e w' => ∃ v, e = .returned (.tuple #[v, .bool (evOk xs s)]) ∧ OwnRss w' w.heap.size w'.heap.size v (evRs xs s) ∧ Grew w w' := by
  obtain ⟨p_q, p_r, p_n⟩ := p
  have hsn : p_n = s.next := hs.2.2
  subst hsn
  have HST := Lib.hid hs
  have HD := Lib.hid ha
  clear hs
  obtain ⟨qs, ⟨a, ca, rfl, hca, hra⟩, hall⟩ := ha
  clear hall hca hra
  have hg0 := (Grew.refl w).alloc (.cells #[p_q, p_r, .int .i64 s.next] 27)
  have x0 : (w.alloc (.cells #[p_q, p_r, .int .i64 s.next] 27)).cell? ⟨w.heap.size, 0, none⟩ = some p_q := by simp
  have x1 : (w.alloc (.cells #[p_q, p_r, .int .i64 s.next] 27)).cell? ⟨w.heap.size, 1, none⟩ = some p_r := by simp
  have x2 : (w.alloc (.cells #[p_q, p_r, .int .i64 s.next] 27)).cell? ⟨w.heap.size, 2, none⟩ = some (.int .i64 s.next) := by simp
  change Calls Tryz.prog _ #[.agg #[p_q, p_r, .int .i64 s.next], _] w _
  go_enter Tryz.func25, Tryz.ntmps25
  go_wp2_with (go_at_call 68; refine (specL15Run s ⟨p_q, p_r, s.next⟩ _ xs _ (HST.out.grew hg0) (HD.out.grew hg0) hx hz hzs).mono ?_; rintro e w1 ⟨v, rfl, ho, hb⟩; have HO := Lib.hid ho; obtain ⟨ra, rc, rfl⟩ := ownRss_slice ho; clear ho)
  go_ret2
  exact ⟨_, rfl, OwnRss.lo HO.out hg0.size, hg0.trans hb⟩
set_option maxRecDepth 100000 in
set_option maxHeartbeats 2000000 in
theorem implEvaluate (s : St) (p : PS) (va : Value) (xs : List Dr) (w : World) (hs : St.R w s p) (ha : RdDs w va xs) (hx : xs.length ≤ 1900000) (hz : szAll Dr.sz xs ≤ 4000000) (hzs : s.sz ≤ 4000000) :
    Calls Tryz.prog 19 #[p.v, va] w fun e w' => ∃ v, e = .returned (.tuple #[v, .bool (evOk xs s)]) ∧ OwnRss w' w.heap.size w'.heap.size v (evRs xs s) ∧ Grew w w' := by
  obtain ⟨p_q, p_r, p_n⟩ := p
  have hsn : p_n = s.next := hs.2.2
  subst hsn
  have HST := Lib.hid hs
  have HD := Lib.hid ha
  clear hs
  obtain ⟨qs, ⟨a, ca, rfl, hca, hra⟩, hall⟩ := ha
  clear hall hca hra
  have hg0 := (Grew.refl w).alloc (.cells #[p_q, p_r, .int .i64 s.next] 27)
  have x0 : (w.alloc (.cells #[p_q, p_r, .int .i64 s.next] 27)).cell? ⟨w.heap.size, 0, none⟩ = some p_q := by simp
  have x1 : (w.alloc (.cells #[p_q, p_r, .int .i64 s.next] 27)).cell? ⟨w.heap.size, 1, none⟩ = some p_r := by simp
  have x2 : (w.alloc (.cells #[p_q, p_r, .int .i64 s.next] 27)).cell? ⟨w.heap.size, 2, none⟩ = some (.int .i64 s.next) := by simp
  change Calls Tryz.prog _ #[.agg #[p_q, p_r, .int .i64 s.next], _] w _
  go_enter Tryz.func19, Tryz.ntmps19
  go_wp2_with fail
  refine wp_region_noPanic ?_
  refine wp_region_held_drew (S := (fun w' => (w'.cell? ⟨w.heap.size, 0, none⟩ = some (p_q) ∧ w'.cell? ⟨w.heap.size, 1, none⟩ = some (p_r) ∧ w'.cell? ⟨w.heap.size, 2, none⟩ = some (.int .i64 s.next) ∧ Grew (w.alloc (.cells #[p_q, p_r, .int .i64 s.next] 27)) w'))) (by kernel_rfl) ?h1_S ?h1_r
  case h1_S => exact ⟨grew_cell (Grew.refl _).drew x0, grew_cell (Grew.refl _).drew x1, grew_cell (Grew.refl _).drew x2, (Grew.refl _).drew⟩
  case h1_r =>
    intro HS
    first | refine sk' 0 HS ?_ | refine tk' 0 HS ?_
    first | refine sk' 1 HS ?_ | refine tk' 1 HS ?_
    first | refine sk' 2 HS ?_ | refine tk' 2 HS ?_
    refine cl' 3 fun K hK => ?_
    go_simp
    go_at_call 65
    refine (implDirNames _ xs _ (HD.out.grew (hg0.trans HS.2.2.2)) (by omega)).mono ?_
    rintro e w1 ⟨v1, rfl, hv1, hb⟩
    have HVN := Lib.hid (show Rd w1 v1 1 xs.length (strs (xs.map Dr.name)) by have h0 := rd_of_own hv1; rw [List.length_map] at h0; exact h0)
    obtain ⟨na, nc, rfl⟩ := own_slice hv1
    clear hv1
    refine hK.out _ _ ?s1_3 ?r1_3
    case s1_3 => (try dsimp only); exact ⟨grew_cell hb HS.1, grew_cell hb HS.2.1, grew_cell hb HS.2.2.1, HS.2.2.2.trans hb⟩
    case r1_3 =>
      clear HS hK K; intro HS
      try simp only [Act.put, lpa, lpb, lpc]
      refine cl' 4 fun K hK => ?_
      go_simp
      go_at_call 64
      refine (implEvaluated s ⟨p_q, p_r, s.next⟩ _ xs _ _ (HST.out.grew (hg0.trans HS.2.2.2)) (HD.out.grew (hg0.trans HS.2.2.2)) (by simpa using HVN.out) hx hz hzs).mono ?_
      rintro e w5 ⟨v, rfl, ho, hb⟩
      have HO := Lib.hid (OwnRss.lo ho ((hg0.trans HS.2.2.2).size))
      obtain ⟨ra, rc, rfl⟩ := ownRss_slice ho
      clear ho
      refine hK.out _ _ ?s1_4 ?r1_4
      case s1_4 => (try dsimp only); exact ⟨grew_cell hb HS.1, grew_cell hb HS.2.1, grew_cell hb HS.2.2.1, HS.2.2.2.trans hb⟩
      case r1_4 =>
        clear HS hK K; intro HS
        try simp only [Act.put, lpa, lpb, lpc]
        first | refine sk' 5 HS ?_ | refine tk' 5 HS ?_
        first | refine sk' 6 HS ?_ | refine tk' 6 HS ?_
        first | refine sk' 7 HS ?_ | refine tk' 7 HS ?_
        first | refine sk' 8 HS ?_ | refine tk' 8 HS ?_
        first | refine sk' 9 HS ?_ | refine tk' 9 HS ?_
        first | refine sk' 10 HS ?_ | refine tk' 10 HS ?_
        first | refine sk' 11 HS ?_ | refine tk' 11 HS ?_
        refine wpAnyH_done (by kernel_rfl) ?_ _
        refine NoPanic.normal ?_
        go_wp2
        go_ret2
        exact ⟨_, rfl, HO.out, (hg0.trans HS.2.2.2)⟩
end Go.Proofs.YtkkbhhmhkpgbkaaGreat
namespace Go.Proofs.YtkkbhhmhkpgbkaaGreat
open Go.RowKit
set_option linter.unusedVariables false
set_option linter.unusedSimpArgs false
theorem OwnRss.shape {w : World} {lo hi : Nat} {v : Value} {rs : List Rs} (h : OwnRss w lo hi v rs) : ∃ a c, v = .slice a rs.length c := by
  obtain ⟨ps, h1, _⟩ := h
  exact own_slice h1.1
end Go.Proofs.YtkkbhhmhkpgbkaaGreat
namespace Go.Proofs.YtkkbhhmhkpgbkaaGreat
open Go.RowKit
set_option linter.unusedVariables false
noncomputable def efRs (xs : List Dr) (s : St) (u : Int) : List Rs := if (inB u 0 2 && stoB s) = true then evRs xs (visS s u) else []
noncomputable def efOk (xs : List Dr) (s : St) (u : Int) : Bool := (inB u 0 2 && stoB s) && evOk xs (visS s u)
noncomputable def lsI (xs : List Dr) (s : St) (u : Int) (nm : ByteArray) : List Int := resIds (efRs xs s u) nm
theorem efRs_len (xs : List Dr) (s : St) (u : Int) : (efRs xs s u).length ≤ xs.length := by
  unfold efRs
  split
  · exact (evRs_ok xs (visS s u)).1
  · simp
theorem efRs_small {xs : List Dr} {s : St} {u : Int} (hs : s.sz ≤ 4000000) : ∀ x, x ∈ efRs xs s u → x.small := by
  unfold efRs
  split
  · exact evRs_small (Nat.le_trans (visS_sz s u) hs)
  · intro x hx; cases hx
set_option maxRecDepth 100000 in
set_option maxHeartbeats 2000000 in
theorem specEvaluateForUser (s : St) (p : PS) (va : Value) (xs : List Dr) (u : Int) (w : World) (hs : St.R w s p) (ha : RdDs w va xs) (hx : xs.length ≤ 1900000) (hz : szAll Dr.sz xs ≤ 4000000) (hzs : s.sz ≤ 4000000) :
    Calls Tryz.prog 35 #[p.v, va, .int .i64 u] w fun e w' => ∃ v, e = .returned (.tuple #[v, .bool (efOk xs s u)]) ∧ OwnRss w' w.heap.size w'.heap.size v (efRs xs s u) ∧ Grew w w' := by
  obtain ⟨p_q, p_r, p_n⟩ := p
  have hsn : p_n = s.next := hs.2.2
  subst hsn
  have HST := Lib.hid hs
  have HD := Lib.hid ha
  clear hs
  obtain ⟨qs, ⟨a, ca, rfl, hca, hra⟩, hall⟩ := ha
  clear hall hca hra
  have hg0 := (Grew.refl w).alloc (.cells #[p_q, p_r, .int .i64 s.next] 27)
  have x0 : (w.alloc (.cells #[p_q, p_r, .int .i64 s.next] 27)).cell? ⟨w.heap.size, 0, none⟩ = some p_q := by simp
  have x1 : (w.alloc (.cells #[p_q, p_r, .int .i64 s.next] 27)).cell? ⟨w.heap.size, 1, none⟩ = some p_r := by simp
  have x2 : (w.alloc (.cells #[p_q, p_r, .int .i64 s.next] 27)).cell? ⟨w.heap.size, 2, none⟩ = some (.int .i64 s.next) := by simp
  change Calls Tryz.prog _ #[.agg #[p_q, p_r, .int .i64 s.next], _, .int .i64 u] w _
  obtain ⟨bt, hbt⟩ : ∃ b, inB u 0 2 = b := ⟨_, rfl⟩
  obtain ⟨bo, hbo⟩ : ∃ b, stoB s = b := ⟨_, rfl⟩
  have HIN := Lib.hid hbt
  have HSO := Lib.hid hbo
  have HNO := Lib.hid (show (bt && bo) = false → efOk xs s u = false ∧ efRs xs s u = [] from fun h => by
    unfold efOk efRs
    rw [hbt, hbo, h]
    exact ⟨rfl, rfl⟩)
  have HYES := Lib.hid (show (bt && bo) = true → efOk xs s u = evOk xs (visS s u) ∧ efRs xs s u = evRs xs (visS s u) from fun h => by
    unfold efOk efRs
    rw [hbt, hbo, h]
    exact ⟨rfl, rfl⟩)
  clear hbt hbo
  have hcs : bt = false ∨ bt = true := by cases bt <;> simp
  have hco : bo = false ∨ bo = true := by cases bo <;> simp
  rcases hcs with rfl | rfl
  · go_enter Tryz.func35, Tryz.ntmps35
    go_wp2_with (go_at_call 52; refine (l01In _ _ _ _).mono ?_; rintro e w1 ⟨he, rfl⟩; rw [HIN.out] at he; subst he)
    go_ret2
    have h1 := HNO.out rfl
    rw [h1.1, h1.2]
    have h2 := (GrowR.base (GrowR.lit (w.alloc (.cells #[p_q, p_r, .int .i64 s.next] 27))) hg0.size).own
    rw [show (w.alloc (.cells #[p_q, p_r, .int .i64 s.next] 27)).heap.size = w.heap.size + 1 by simp] at h2
    exact ⟨.slice (some ⟨w.heap.size + 1, 0, none⟩) 0 0, rfl, h2, hg0.alloc _⟩
  rcases hco with rfl | rfl
  · go_enter Tryz.func35, Tryz.ntmps35
    go_wp2_with (first | (go_at_call 52; refine (l01In _ _ _ _).mono ?_; rintro e w1 ⟨he, rfl⟩; rw [HIN.out] at he; subst he) | (go_at_call 12; refine (specIsValidStore s ⟨p_q, p_r, s.next⟩ _ (HST.out.grew hg0) hzs).mono ?_; rintro e w2 ⟨he, hb2⟩; rw [HSO.out] at he; subst he; have y0 := grew_cell hb2 x0; have y1 := grew_cell hb2 x1; have y2 := grew_cell hb2 x2))
    go_ret2
    have h1 := HNO.out rfl
    rw [h1.1, h1.2]
    exact ⟨_, rfl, (GrowR.base (GrowR.lit _) (hg0.trans hb2).size).own, (hg0.trans hb2).alloc _⟩
  go_enter Tryz.func35, Tryz.ntmps35
  go_wp2_with (first | (go_at_call 52; refine (l01In _ _ _ _).mono ?_; rintro e w1 ⟨he, rfl⟩; rw [HIN.out] at he; subst he) | (go_at_call 12; refine (specIsValidStore s ⟨p_q, p_r, s.next⟩ _ (HST.out.grew hg0) hzs).mono ?_; rintro e w2 ⟨he, hb2⟩; rw [HSO.out] at he; subst he; have y0 := grew_cell hb2 x0; have y1 := grew_cell hb2 x1; have y2 := grew_cell hb2 x2) | (go_at_call 48; refine (specVisibleStore s ⟨p_q, p_r, s.next⟩ u _ (HST.out.grew (hg0.trans hb2)) hzs).mono ?_; rintro e w3 ⟨p3, rfl, hv, hb3⟩; have HV := Lib.hid hv; obtain ⟨v_q, v_r, v_n⟩ := p3; clear hv) | (go_at_call 25; refine (specEvaluate (visS s u) ⟨v_q, v_r, v_n⟩ _ xs _ HV.out (HD.out.grew ((hg0.trans hb2).trans hb3)) hx hz (Nat.le_trans (visS_sz s u) hzs)).mono ?_; rintro e w4 ⟨v, rfl, ho, hb4⟩; have HO := Lib.hid ho; obtain ⟨ra, rc, rfl⟩ := ownRss_slice ho; clear ho))
  go_ret2
  have h1 := HYES.out rfl
  rw [h1.1, h1.2]
  exact ⟨_, rfl, OwnRss.lo HO.out ((hg0.trans hb2).trans hb3).size, ((hg0.trans hb2).trans hb3).trans hb4⟩
set_option maxRecDepth 100000 in
set_option maxHeartbeats 2000000 in
theorem implEvaluateForUser (s : St) (p : PS) (va : Value) (xs : List Dr) (u : Int) (w : World) (hs : St.R w s p) (ha : RdDs w va xs) (hx : xs.length ≤ 1900000) (hz : szAll Dr.sz xs ≤ 4000000) (hzs : s.sz ≤ 4000000) :
    Calls Tryz.prog 34 #[p.v, va, .int .i64 u] w fun e w' => ∃ v, e = .returned (.tuple #[v, .bool (efOk xs s u)]) ∧ OwnRss w' w.heap.size w'.heap.size v (efRs xs s u) ∧ Grew w w' := by
  obtain ⟨p_q, p_r, p_n⟩ := p
  have hsn : p_n = s.next := hs.2.2
  subst hsn
  have HST := Lib.hid hs
  have HD := Lib.hid ha
  clear hs
  obtain ⟨qs, ⟨a, ca, rfl, hca, hra⟩, hall⟩ := ha
  clear hall hca hra
  have hg0 := (Grew.refl w).alloc (.cells #[p_q, p_r, .int .i64 s.next] 27)
  have x0 : (w.alloc (.cells #[p_q, p_r, .int .i64 s.next] 27)).cell? ⟨w.heap.size, 0, none⟩ = some p_q := by simp
  have x1 : (w.alloc (.cells #[p_q, p_r, .int .i64 s.next] 27)).cell? ⟨w.heap.size, 1, none⟩ = some p_r := by simp
  have x2 : (w.alloc (.cells #[p_q, p_r, .int .i64 s.next] 27)).cell? ⟨w.heap.size, 2, none⟩ = some (.int .i64 s.next) := by simp
  change Calls Tryz.prog _ #[.agg #[p_q, p_r, .int .i64 s.next], _, .int .i64 u] w _
  obtain ⟨bt, hbt⟩ : ∃ b, inB u 0 2 = b := ⟨_, rfl⟩
  obtain ⟨bo, hbo⟩ : ∃ b, stoB s = b := ⟨_, rfl⟩
  have HIN := Lib.hid hbt
  have HSO := Lib.hid hbo
  have HNO := Lib.hid (show (bt && bo) = false → efOk xs s u = false ∧ efRs xs s u = [] from fun h => by
    unfold efOk efRs
    rw [hbt, hbo, h]
    exact ⟨rfl, rfl⟩)
  have HYES := Lib.hid (show (bt && bo) = true → efOk xs s u = evOk xs (visS s u) ∧ efRs xs s u = evRs xs (visS s u) from fun h => by
    unfold efOk efRs
    rw [hbt, hbo, h]
    exact ⟨rfl, rfl⟩)
  clear hbt hbo
  have hcs : bt = false ∨ bt = true := by cases bt <;> simp
  have hco : bo = false ∨ bo = true := by cases bo <;> simp
  rcases hco with rfl | rfl
  · have hbb : (bt && false) = false := by cases bt <;> rfl
    replace HNO := Lib.hid (fun (_ : True) => HNO.out hbb)
    clear hcs hbb HYES
    go_enter Tryz.func34, Tryz.ntmps34
    go_wp2_with (go_at_call 57; refine (implIsValidStore s ⟨p_q, p_r, s.next⟩ _ (HST.out.grew hg0) hzs).mono ?_; rintro e w2 ⟨he, hb2⟩; rw [HSO.out] at he; subst he; have y0 := grew_cell hb2 x0; have y1 := grew_cell hb2 x1; have y2 := grew_cell hb2 x2)
    go_ret2
    have h1 := HNO.out trivial
    rw [h1.1, h1.2]
    exact ⟨_, rfl, ⟨[], own_of (World.ownsRow_nil _ _ _ _), All2.nil, by simpa using Dis.one (.slice none 0 0)⟩, hg0.trans hb2⟩
  rcases hcs with rfl | rfl
  · go_enter Tryz.func34, Tryz.ntmps34
    go_wp2_with (first | (go_at_call 72; refine (implIsUser _ _).mono ?_; rintro e w1 ⟨he, rfl⟩; rw [HIN.out] at he; subst he) | (go_at_call 57; refine (implIsValidStore s ⟨p_q, p_r, s.next⟩ _ (HST.out.grew hg0) hzs).mono ?_; rintro e w2 ⟨he, hb2⟩; rw [HSO.out] at he; subst he; have y0 := grew_cell hb2 x0; have y1 := grew_cell hb2 x1; have y2 := grew_cell hb2 x2))
    go_ret2
    have h1 := HNO.out rfl
    rw [h1.1, h1.2]
    exact ⟨_, rfl, ⟨[], own_of (World.ownsRow_nil _ _ _ _), All2.nil, by simpa using Dis.one (.slice none 0 0)⟩, (hg0.trans hb2)⟩
  go_enter Tryz.func34, Tryz.ntmps34
  go_wp2_with (first | (go_at_call 72; refine (implIsUser _ _).mono ?_; rintro e w1 ⟨he, rfl⟩; rw [HIN.out] at he; subst he) | (go_at_call 57; refine (implIsValidStore s ⟨p_q, p_r, s.next⟩ _ (HST.out.grew hg0) hzs).mono ?_; rintro e w2 ⟨he, hb2⟩; rw [HSO.out] at he; subst he; have y0 := grew_cell hb2 x0; have y1 := grew_cell hb2 x1; have y2 := grew_cell hb2 x2) | (go_at_call 73; refine (implVisibleStore s ⟨p_q, p_r, s.next⟩ u _ (HST.out.grew (hg0.trans hb2)) hzs).mono ?_; rintro e w3 ⟨p3, rfl, hv, hb3⟩; have HV := Lib.hid hv; obtain ⟨v_q, v_r, v_n⟩ := p3; clear hv) | (go_at_call 19; refine (implEvaluate (visS s u) ⟨v_q, v_r, v_n⟩ _ xs _ HV.out (HD.out.grew ((hg0.trans hb2).trans hb3)) hx hz (Nat.le_trans (visS_sz s u) hzs)).mono ?_; rintro e w4 ⟨v, rfl, ho, hb4⟩; have HO := Lib.hid ho; obtain ⟨ra, rc, rfl⟩ := ownRss_slice ho; clear ho))
  go_ret2
  have h1 := HYES.out rfl
  rw [h1.1, h1.2]
  exact ⟨_, rfl, OwnRss.lo HO.out ((hg0.trans hb2).trans hb3).size, ((hg0.trans hb2).trans hb3).trans hb4⟩
set_option maxRecDepth 100000 in
set_option maxHeartbeats 2000000 in
theorem specListDir (s : St) (p : PS) (va : Value) (xs : List Dr) (u : Int) (nm : ByteArray) (w : World) (hs : St.R w s p) (ha : RdDs w va xs) (hx : xs.length ≤ 1900000) (hz : szAll Dr.sz xs ≤ 4000000) (hzs : s.sz ≤ 4000000) :
    Calls Tryz.prog 38 #[p.v, va, .int .i64 u, .string nm] w fun e w' => ∃ v, e = .returned v ∧ w'.ownsRow w.heap.size 3 1 v (lsI xs s u nm).length (ints (lsI xs s u nm)) ∧ Grew w w' := by
  obtain ⟨p_q, p_r, p_n⟩ := p
  have hsn : p_n = s.next := hs.2.2
  subst hsn
  have HST := Lib.hid hs
  have HD := Lib.hid ha
  clear hs
  obtain ⟨qs, ⟨a, ca, rfl, hca, hra⟩, hall⟩ := ha
  clear hall hca hra
  have hg0 := (Grew.refl w).alloc (.cells #[p_q, p_r, .int .i64 s.next] 27)
  have x0 : (w.alloc (.cells #[p_q, p_r, .int .i64 s.next] 27)).cell? ⟨w.heap.size, 0, none⟩ = some p_q := by simp
  have x1 : (w.alloc (.cells #[p_q, p_r, .int .i64 s.next] 27)).cell? ⟨w.heap.size, 1, none⟩ = some p_r := by simp
  have x2 : (w.alloc (.cells #[p_q, p_r, .int .i64 s.next] 27)).cell? ⟨w.heap.size, 2, none⟩ = some (.int .i64 s.next) := by simp
  change Calls Tryz.prog _ #[.agg #[p_q, p_r, .int .i64 s.next], _, .int .i64 u, .string nm] w _
  go_enter Tryz.func38, Tryz.ntmps38
  go_wp2_with (first | (go_at_call 35; refine (specEvaluateForUser s ⟨p_q, p_r, s.next⟩ _ xs u _ (HST.out.grew hg0) (HD.out.grew hg0) hx hz hzs).mono ?_; rintro e w1 ⟨v, rfl, ho, hb⟩; have HO := Lib.hid ho; obtain ⟨ra, rc, rfl⟩ := ownRss_slice ho; clear ho) | (go_at_call 23; refine (specResultIDs _ (efRs xs s u) nm _ HO.out.rd (by have := efRs_len xs s u; omega) (efRs_small hzs)).mono ?_; rintro e w2 ⟨v2, rfl, hv2, hb2⟩; have HV2 := Lib.hid hv2; obtain ⟨ia, ic, rfl⟩ := own_slice hv2; clear hv2))
  go_ret
  exact ⟨_, rfl, ownsRow_base HV2.out (hg0.trans hb).size, (hg0.trans hb).trans hb2⟩
set_option maxRecDepth 100000 in
set_option maxHeartbeats 2000000 in
theorem implListDir (s : St) (p : PS) (va : Value) (xs : List Dr) (u : Int) (nm : ByteArray) (w : World) (hs : St.R w s p) (ha : RdDs w va xs) (hx : xs.length ≤ 1900000) (hz : szAll Dr.sz xs ≤ 4000000) (hzs : s.sz ≤ 4000000) :
    Calls Tryz.prog 14 #[p.v, va, .int .i64 u, .string nm] w fun e w' => ∃ v, e = .returned v ∧ w'.ownsRow w.heap.size 3 1 v (lsI xs s u nm).length (ints (lsI xs s u nm)) ∧ Grew w w' := by
  obtain ⟨p_q, p_r, p_n⟩ := p
  have hsn : p_n = s.next := hs.2.2
  subst hsn
  have HST := Lib.hid hs
  have HD := Lib.hid ha
  clear hs
  obtain ⟨qs, ⟨a, ca, rfl, hca, hra⟩, hall⟩ := ha
  clear hall hca hra
  have hg0 := (Grew.refl w).alloc (.cells #[p_q, p_r, .int .i64 s.next] 27)
  have x0 : (w.alloc (.cells #[p_q, p_r, .int .i64 s.next] 27)).cell? ⟨w.heap.size, 0, none⟩ = some p_q := by simp
  have x1 : (w.alloc (.cells #[p_q, p_r, .int .i64 s.next] 27)).cell? ⟨w.heap.size, 1, none⟩ = some p_r := by simp
  have x2 : (w.alloc (.cells #[p_q, p_r, .int .i64 s.next] 27)).cell? ⟨w.heap.size, 2, none⟩ = some (.int .i64 s.next) := by simp
  change Calls Tryz.prog _ #[.agg #[p_q, p_r, .int .i64 s.next], _, .int .i64 u, .string nm] w _
  go_enter Tryz.func14, Tryz.ntmps14
  go_wp2_with (first | (go_at_call 34; refine (implEvaluateForUser s ⟨p_q, p_r, s.next⟩ _ xs u _ (HST.out.grew hg0) (HD.out.grew hg0) hx hz hzs).mono ?_; rintro e w1 ⟨v, rfl, ho, hb⟩; have HO := Lib.hid ho; obtain ⟨ra, rc, rfl⟩ := ownRss_slice ho; clear ho) | (go_at_call 21; refine (implResultIDs _ (efRs xs s u) nm _ HO.out.rd (by have := efRs_len xs s u; omega) (efRs_small hzs)).mono ?_; rintro e w2 ⟨v2, rfl, hv2, hb2⟩; have HV2 := Lib.hid hv2; obtain ⟨ia, ic, rfl⟩ := own_slice hv2; clear hv2))
  go_ret
  exact ⟨_, rfl, ownsRow_base HV2.out (hg0.trans hb).size, (hg0.trans hb).trans hb2⟩
theorem lsI_le {xs : List Dr} {s : St} {u : Int} {nm : ByteArray} (hs : s.sz ≤ 4000000) : (lsI xs s u nm).length ≤ 4000000 := resIds_small (efRs_small hs)
set_option maxRecDepth 100000 in
set_option maxHeartbeats 2000000 in
theorem specIsListed (s : St) (p : PS) (va : Value) (xs : List Dr) (u : Int) (nm : ByteArray) (id : Int) (w : World) (hs : St.R w s p) (ha : RdDs w va xs) (hx : xs.length ≤ 1900000) (hz : szAll Dr.sz xs ≤ 4000000) (hzs : s.sz ≤ 4000000) :
    Calls Tryz.prog 40 #[p.v, va, .int .i64 u, .string nm, .int .i64 id] w fun e w' => e = .returned (.bool (has (lsI xs s u nm) id)) ∧ Grew w w' := by
  obtain ⟨p_q, p_r, p_n⟩ := p
  have hsn : p_n = s.next := hs.2.2
  subst hsn
  have HST := Lib.hid hs
  have HD := Lib.hid ha
  clear hs
  obtain ⟨qs, ⟨a, ca, rfl, hca, hra⟩, hall⟩ := ha
  clear hall hca hra
  have hg0 := (Grew.refl w).alloc (.cells #[p_q, p_r, .int .i64 s.next] 27)
  have x0 : (w.alloc (.cells #[p_q, p_r, .int .i64 s.next] 27)).cell? ⟨w.heap.size, 0, none⟩ = some p_q := by simp
  have x1 : (w.alloc (.cells #[p_q, p_r, .int .i64 s.next] 27)).cell? ⟨w.heap.size, 1, none⟩ = some p_r := by simp
  have x2 : (w.alloc (.cells #[p_q, p_r, .int .i64 s.next] 27)).cell? ⟨w.heap.size, 2, none⟩ = some (.int .i64 s.next) := by simp
  change Calls Tryz.prog _ #[.agg #[p_q, p_r, .int .i64 s.next], _, .int .i64 u, .string nm, .int .i64 id] w _
  go_enter Tryz.func40, Tryz.ntmps40
  go_wp2_with (first | (go_at_call 38; refine (specListDir s ⟨p_q, p_r, s.next⟩ _ xs u nm _ (HST.out.grew hg0) (HD.out.grew hg0) hx hz hzs).mono ?_; rintro e w1 ⟨v, rfl, ho, hb⟩; have HO := Lib.hid ho; obtain ⟨ra, rc, rfl⟩ := own_slice ho; clear ho) | (go_at_call 22; refine (specContainsID _ _ (lsI xs s u nm) id _ (rd_of_own HO.out) (lsI_le hzs)).mono ?_; rintro e w2 ⟨rfl, rfl⟩))
  go_ret
  exact ⟨rfl, hg0.trans hb⟩
set_option maxRecDepth 100000 in
set_option maxHeartbeats 2000000 in
theorem implIsListed (s : St) (p : PS) (va : Value) (xs : List Dr) (u : Int) (nm : ByteArray) (id : Int) (w : World) (hs : St.R w s p) (ha : RdDs w va xs) (hx : xs.length ≤ 1900000) (hz : szAll Dr.sz xs ≤ 4000000) (hzs : s.sz ≤ 4000000) :
    Calls Tryz.prog 39 #[p.v, va, .int .i64 u, .string nm, .int .i64 id] w fun e w' => e = .returned (.bool (has (lsI xs s u nm) id)) ∧ Grew w w' := by
  obtain ⟨p_q, p_r, p_n⟩ := p
  have hsn : p_n = s.next := hs.2.2
  subst hsn
  have HST := Lib.hid hs
  have HD := Lib.hid ha
  clear hs
  obtain ⟨qs, ⟨a, ca, rfl, hca, hra⟩, hall⟩ := ha
  clear hall hca hra
  have hg0 := (Grew.refl w).alloc (.cells #[p_q, p_r, .int .i64 s.next] 27)
  have x0 : (w.alloc (.cells #[p_q, p_r, .int .i64 s.next] 27)).cell? ⟨w.heap.size, 0, none⟩ = some p_q := by simp
  have x1 : (w.alloc (.cells #[p_q, p_r, .int .i64 s.next] 27)).cell? ⟨w.heap.size, 1, none⟩ = some p_r := by simp
  have x2 : (w.alloc (.cells #[p_q, p_r, .int .i64 s.next] 27)).cell? ⟨w.heap.size, 2, none⟩ = some (.int .i64 s.next) := by simp
  change Calls Tryz.prog _ #[.agg #[p_q, p_r, .int .i64 s.next], _, .int .i64 u, .string nm, .int .i64 id] w _
  go_enter Tryz.func39, Tryz.ntmps39
  go_wp2_with (first | (go_at_call 14; refine (implListDir s ⟨p_q, p_r, s.next⟩ _ xs u nm _ (HST.out.grew hg0) (HD.out.grew hg0) hx hz hzs).mono ?_; rintro e w1 ⟨v, rfl, ho, hb⟩; have HO := Lib.hid ho; obtain ⟨ra, rc, rfl⟩ := own_slice ho; clear ho) | (go_at_call 75; refine (implContainsID _ _ (lsI xs s u nm) id _ (rd_of_own HO.out) (lsI_le hzs)).mono ?_; rintro e w2 ⟨rfl, rfl⟩))
  go_ret
  exact ⟨rfl, hg0.trans hb⟩
set_option maxRecDepth 100000 in
set_option maxHeartbeats 2000000 in
theorem implCountListed (s : St) (p : PS) (va : Value) (xs : List Dr) (u : Int) (nm : ByteArray) (w : World) (hs : St.R w s p) (ha : RdDs w va xs) (hx : xs.length ≤ 1900000) (hz : szAll Dr.sz xs ≤ 4000000) (hzs : s.sz ≤ 4000000) :
    Calls Tryz.prog 15 #[p.v, va, .int .i64 u, .string nm] w fun e w' => e = .returned (.int .i64 ((lsI xs s u nm).length : Int)) ∧ Grew w w' := by
  obtain ⟨p_q, p_r, p_n⟩ := p
  have hsn : p_n = s.next := hs.2.2
  subst hsn
  have HST := Lib.hid hs
  have HD := Lib.hid ha
  clear hs
  obtain ⟨qs, ⟨a, ca, rfl, hca, hra⟩, hall⟩ := ha
  clear hall hca hra
  have hg0 := (Grew.refl w).alloc (.cells #[p_q, p_r, .int .i64 s.next] 27)
  have x0 : (w.alloc (.cells #[p_q, p_r, .int .i64 s.next] 27)).cell? ⟨w.heap.size, 0, none⟩ = some p_q := by simp
  have x1 : (w.alloc (.cells #[p_q, p_r, .int .i64 s.next] 27)).cell? ⟨w.heap.size, 1, none⟩ = some p_r := by simp
  have x2 : (w.alloc (.cells #[p_q, p_r, .int .i64 s.next] 27)).cell? ⟨w.heap.size, 2, none⟩ = some (.int .i64 s.next) := by simp
  change Calls Tryz.prog _ #[.agg #[p_q, p_r, .int .i64 s.next], _, .int .i64 u, .string nm] w _
  go_enter Tryz.func15, Tryz.ntmps15
  go_wp2_with (go_at_call 14; refine (implListDir s ⟨p_q, p_r, s.next⟩ _ xs u nm _ (HST.out.grew hg0) (HD.out.grew hg0) hx hz hzs).mono ?_; rintro e w1 ⟨v, rfl, ho, hb⟩; have HO := Lib.hid ho; obtain ⟨ra, rc, rfl⟩ := own_slice ho; clear ho)
  go_ret
  exact ⟨rfl, hg0.trans hb⟩
end Go.Proofs.YtkkbhhmhkpgbkaaGreat
namespace Go.Proofs.YtkkbhhmhkpgbkaaGreat
open Go.RowKit
set_option linter.unusedVariables false
theorem ev_parts {xs : List Dr} {s : St} (h : evOk xs s = true) : stB xs = true ∧ stoB s = true ∧ evRs xs s = (evP xs s.files).1 := by
  have h1 := h
  unfold evOk at h1
  simp only [Bool.and_eq_true] at h1
  exact ⟨h1.1, h1.2, by unfold evRs; rw [if_pos h]⟩
theorem ev_none {xs : List Dr} {s : St} (h : evOk xs s = false) : evRs xs s = [] := by unfold evRs; rw [if_neg (by rw [h]; decide)]
theorem res_mem : ∀ {rs : List Rs} {nm : ByteArray} {z : Int}, z ∈ resIds rs nm → ∃ j, z ∈ idsAt rs j
  | [], nm, z, h => by unfold resIds at h; cases h
  | r :: rs, nm, z, h => by
    unfold resIds at h
    split at h
    · exact ⟨0, h⟩
    · obtain ⟨j, hj⟩ := res_mem h
      exact ⟨j + 1, by simpa [idsAt] using hj⟩
theorem ls_can {xs : List Dr} {s : St} {u : Int} {nm : ByteArray} {z : Int} (h : z ∈ lsI xs s u nm) : ∃ f, flFind s.files z = some f ∧ canB f u = true := by
  unfold lsI efRs at h
  by_cases hc : (inB u 0 2 && stoB s) = true
  · rw [if_pos hc] at h
    simp only [Bool.and_eq_true] at hc
    cases hok : evOk xs (visS s u) with
    | false => rw [ev_none hok] at h; unfold resIds at h; cases h
    | true =>
      obtain ⟨h1, h2, h3⟩ := ev_parts hok
      have h4 := evP_fix h1 (visS s u).files
      rw [h3] at h
      obtain ⟨j, hj⟩ := res_mem h
      have hjl : j < xs.length := by
        apply Classical.byContradiction
        intro hge
        have hl : (evP xs (visS s u).files).1.length = xs.length := by have := congrArg List.length h4.1; simpa using this
        unfold idsAt at hj
        rw [List.getElem?_eq_none (by omega)] at hj
        cases hj
      rw [← h4.2 j _ (List.getElem?_eq_getElem hjl)] at hj
      unfold selL at hj
      obtain ⟨f, hf, rfl⟩ := List.mem_map.1 hj
      obtain ⟨g, hg, hcan, he⟩ := vis_mem (List.mem_filter.1 hf).1
      exact ⟨g, by rw [← he]; exact flFind_of hc.2 hg, hcan⟩
  · rw [if_neg hc] at h; unfold resIds at h; cases h
theorem ef_ok (xs : List Dr) (s : St) (u : Int) : efOk xs s u = (inB u 0 2 && (stoB s && stB xs)) := by
  unfold efOk evOk
  cases hs : stoB s with
  | false => simp
  | true => rw [sto_vis hs u]; simp
end Go.Proofs.YtkkbhhmhkpgbkaaGreat
namespace Go.Proofs.YtkkbhhmhkpgbkaaGreat
open Go.RowKit
set_option linter.unusedVariables false
set_option linter.unusedSimpArgs false
theorem find_at : ∀ {fs : List Fl} {k : Nat} {f g : Fl} {id : Int}, fs[k]? = some f → f.id = id → hasF (fs.take k) id = false → flFind fs id = some g → f = g
  | [], k, f, g, id, h, _, _, _ => by simp at h
  | y :: ys, 0, f, g, id, h, he, _, hg => by
    simp at h; subst h
    unfold flFind at hg
    rw [List.find?_cons_of_pos (by simpa using he)] at hg
    exact Option.some.inj hg
  | y :: ys, k + 1, f, g, id, h, he, hn, hg => by
    unfold hasF at hn
    rw [List.take_succ_cons, List.any_cons, Bool.or_eq_false_iff] at hn
    unfold flFind at hg
    rw [List.find?_cons_of_neg (by rw [hn.1]; simp)] at hg
    exact find_at (by simpa using h) he hn.2 hg
theorem find_has {fs : List Fl} {id : Int} {f : Fl} (h : flFind fs id = some f) : hasF fs id = true := by
  unfold flFind at h
  have h1 := List.find?_some h
  have h2 := List.mem_of_find?_eq_some h
  unfold hasF
  exact List.any_eq_true.2 ⟨f, h2, h1⟩
set_option maxRecDepth 100000 in
set_option maxHeartbeats 4000000 in
theorem specFindFile (s : St) (p : PS) (id : Int) (f : Fl) (w : World) (hs : St.R w s p) (hz : s.sz ≤ 4000000) (hf : flFind s.files id = some f) :
    Calls Tryz.prog 76 #[p.v, .int .i64 id] w fun e w' => ∃ q : P5, e = .returned (.tuple #[q.v, .bool true]) ∧ Fl.O w' w.heap.size w'.heap.size f q ∧ Grew w w' := by
  have HF := Lib.hid hf
  obtain ⟨p_q, p_r, p_n⟩ := p
  obtain ⟨⟨qa, qc, hq, _, _⟩, hrl, hn⟩ := hs
  have HRL := Lib.hid hrl
  obtain ⟨ps, ⟨ra, rc, hr, _, hra⟩, hall⟩ := hrl
  simp only at hq hr hn
  subst hq
  subst hr
  subst hn
  have HA := Lib.hid hall
  have hsm := St.small_of hz
  have hsf := hsm.2.1
  have HSM := Lib.hid hsm.2.2
  clear hsm hall hf
  have gW := ((Grew.refl w).alloc (.cells #[.slice qa s.schema.length qc, .slice ra s.files.length rc, .int .i64 s.next] 27)).alloc (.cells #[.int .i64 0, .int .i64 0, .bool false, .int .i64 0, .slice none 0 0] 69)
  have SA := (CS.new rfl : CS (w.alloc (.cells #[.slice qa s.schema.length qc, .slice ra s.files.length rc, .int .i64 s.next] 27)) w.heap.size ⟨.slice qa s.schema.length qc, .slice ra s.files.length rc, s.next⟩).grew ((Grew.refl _).alloc (.cells #[.int .i64 0, .int .i64 0, .bool false, .int .i64 0, .slice none 0 0] 69))
  have SF : CF ((w.alloc (.cells #[.slice qa s.schema.length qc, .slice ra s.files.length rc, .int .i64 s.next] 27)).alloc (.cells #[.int .i64 0, .int .i64 0, .bool false, .int .i64 0, .slice none 0 0] 69)) (w.heap.size + 1) P5.z := CF.new (p := P5.z) (by simp)
  go_enter Tryz.func76, Tryz.ntmps76
  go_wp2_with fail
  generalize (w.alloc (.cells #[.slice qa s.schema.length qc, .slice ra s.files.length rc, .int .i64 s.next] 27)).alloc (.cells #[.int .i64 0, .int .i64 0, .bool false, .int .i64 0, .slice none 0 0] 69) = W at gW SA SF ⊢
  refine (l05PlaceAt _ _ _ s.files id _ (RdLs.grew HRL.out gW) hsf).mono ?_
  rintro e w3 ⟨i, rfl, hat, g3⟩
  rcases hat with ⟨k, y, rfl, hyk, hye, hyn⟩ | ⟨hno, _⟩
  rotate_left
  · have := find_has HF.out; rw [hno] at this; cases this
  obtain rfl := find_at hyk hye hyn HF.out
  have hkl : k < s.files.length := (List.getElem?_eq_some_iff.1 hyk).1
  have G3 := gW.trans g3
  obtain ⟨b1, o1, q, rfl, hpk, c0, c1, c2, c3, c4⟩ := (hra.grew G3).getP5 hkl
  obtain ⟨x, hxk, hxr⟩ := HA.out.get hpk.out
  obtain rfl : y = x := Option.some.inj (hyk.symm.trans hxk.out)
  have HXR := Lib.hid (hxr.grew G3)
  have hys := HSM.out y (List.mem_of_getElem? hyk)
  obtain ⟨A0, A1, A2, zA⟩ := SA.grew g3
  obtain ⟨B0, B1, B2, B3, B4, zB⟩ := SF.grew g3
  obtain ⟨q_1, q_2, q_3, q_4, q_5⟩ := q
  dsimp only [P5.z] at A0 A1 A2 B0 B1 B2 B3 B4 c0 c1 c2 c3 c4
  have hk0 : (0 : Int) ≤ k := by omega
  have hk1 : ¬ ((k : Int) < 0) := by omega
  have hkn : (k : Int) < s.files.length := by omega
  clear hra hxr hyn hye
  go_wp2_with fail
  refine (l04Copy y ⟨q_1, q_2, q_3, q_4, q_5⟩ _ HXR.out hys).mono ?_
  rintro e w4 ⟨⟨r_1, r_2, r_3, r_4, r_5⟩, rfl, hO, g4⟩
  obtain ⟨fa, fc, rfl⟩ := own_slice hO.2.2.2.2.1
  have G4 := G3.trans g4
  have d0 := grew_cell g4 B0
  have d1 := grew_cell g4 B1
  have d2 := grew_cell g4 B2
  have d3 := grew_cell g4 B3
  have d4 := grew_cell g4 B4
  have zd := fun j => grew_frozen (a := ⟨w.heap.size + 1, j, none⟩) g4 (lt_of_cell B0 : (⟨w.heap.size + 1, 0, none⟩ : Addr).block < _) (zB j)
  have hO5 := hO.2.2.2.2.1
  have hsz := gW.size
  have hsz3 := g3.size
  have hlt := lt_of_cell B0
  dsimp only at hlt
  go_wp2
  refine bodyPost_ret (v := .tuple #[P5.v ⟨r_1, r_2, r_3, r_4, .slice fa y.attrs.length fc⟩, .bool true]) (by simp [results, Tryz.results76, go_sem, d0, d1, d2, d3, d4]) rfl ⟨⟨r_1, r_2, r_3, r_4, .slice fa y.attrs.length fc⟩, rfl, ⟨hO.1, hO.2.1, hO.2.2.1, hO.2.2.2.1, ?_, fun b hb => by have := hO.2.2.2.2.2 b hb; simpa using this⟩, ?_⟩
  · refine ownsRow_base (base := w3.heap.size) ?_ (by omega)
    repeat' (first | with_reducible exact hO5 | with_reducible refine ownsRow_setCell_below ?_ ?_ _ | (dsimp only; omega))
  · repeat' (first | with_reducible exact G4 | with_reducible refine Grew.setCell ?_ ?_ _ | (dsimp only; omega))
set_option maxRecDepth 100000 in
set_option maxHeartbeats 4000000 in
theorem fileOf (s : St) (p : PS) (id : Int) (f : Fl) (w : World) (hs : St.R w s p) (hz : s.sz ≤ 4000000) (hf : flFind s.files id = some f) :
    Calls Tryz.prog 42 #[p.v, .int .i64 id] w fun e w' => ∃ q : P5, e = .returned q.v ∧ Fl.R w' f q ∧ Grew w w' := by
  have HF := Lib.hid hf
  have HS := Lib.hid hs
  obtain ⟨p_q, p_r, p_n⟩ := p
  obtain ⟨⟨qa, qc, hq, _, _⟩, ⟨_, ⟨ra, rc, hr, _, _⟩, _⟩, hn⟩ := hs
  simp only at hq hr hn
  subst hq
  subst hr
  subst hn
  clear hf
  have gW := ((Grew.refl w).alloc (.cells #[.slice qa s.schema.length qc, .slice ra s.files.length rc, .int .i64 s.next] 27)).alloc (.cells #[.int .i64 0, .int .i64 0, .bool false, .int .i64 0, .slice none 0 0] 69)
  have SF : CF ((w.alloc (.cells #[.slice qa s.schema.length qc, .slice ra s.files.length rc, .int .i64 s.next] 27)).alloc (.cells #[.int .i64 0, .int .i64 0, .bool false, .int .i64 0, .slice none 0 0] 69)) (w.heap.size + 1) P5.z := CF.new (p := P5.z) (by simp)
  go_enter Tryz.func42, Tryz.ntmps42
  go_wp2_with fail
  generalize (w.alloc (.cells #[.slice qa s.schema.length qc, .slice ra s.files.length rc, .int .i64 s.next] 27)).alloc (.cells #[.int .i64 0, .int .i64 0, .bool false, .int .i64 0, .slice none 0 0] 69) = W at gW SF ⊢
  refine (specFindFile s ⟨.slice qa s.schema.length qc, .slice ra s.files.length rc, s.next⟩ id f _ (HS.out.grew gW) hz HF.out).mono ?_
  rintro e w3 ⟨⟨r_1, r_2, r_3, r_4, r_5⟩, rfl, hR, g3⟩
  have HR := Lib.hid hR
  obtain ⟨e1, e2, e3, e4, hfo, _⟩ := hR
  obtain ⟨fa, fc, hfa⟩ := own_slice hfo
  simp only at hfa e1 e2 e3 e4
  subst hfa
  subst e1
  subst e2
  subst e3
  subst e4
  have gA := (Grew.refl w3).alloc (.cells #[.int .i64 f.id, .int .i64 f.owner, .bool f.shared, .int .i64 f.link, .slice fa f.attrs.length fc] 69)
  obtain ⟨B0, B1, B2, B3, B4, zB⟩ := (SF.grew g3).grew gA
  dsimp only [P5.z] at B0 B1 B2 B3 B4
  have G3 := (gW.trans g3).trans gA
  have ho2 := ownsRow_grew hfo gA
  have hlt := lt_of_cell B0
  have hwl : w.heap.size + 1 < W.heap.size := SF.lt
  clear hfo
  go_wp2
  refine bodyPost_ret (v := P5.v ⟨f.id, f.owner, f.shared, f.link, .slice fa f.attrs.length fc⟩) (by simp [results, Tryz.results42, go_sem, B0, B1, B2, B3, B4]) rfl ⟨⟨f.id, f.owner, f.shared, f.link, .slice fa f.attrs.length fc⟩, rfl, ⟨rfl, rfl, rfl, rfl, rd_of_own (base := W.heap.size) (e := 119) ?_⟩, ?_⟩
  · repeat' (first | with_reducible exact ho2 | with_reducible refine ownsRow_setCell_below ?_ ?_ _ | (dsimp only; omega))
  · repeat' (first | with_reducible exact G3 | with_reducible refine Grew.setCell ?_ ?_ _ | (dsimp only; omega))
end Go.Proofs.YtkkbhhmhkpgbkaaGreat
namespace Go.Proofs.YtkkbhhmhkpgbkaaGreat.fnListings
open Go.RowKit
set_option linter.unusedVariables false
theorem sameRs_me (x : Rs) : sameRs x x = true := by
  unfold sameRs
  rw [sameB_yes rfl]
  simp
theorem eqRs_me (xs : List Rs) : eqL sameRs xs xs = true := by
  unfold eqL
  exact @decide_eq_true _ (Classical.propDecidable _) ⟨rfl, fun j x y h1 h2 => by rw [h1] at h2; cases h2; exact sameRs_me _⟩
theorem has_mem {xs : List Int} {z : Int} (h : z ∈ xs) : has xs z = true := by unfold has; exact decide_eq_true h
set_option maxRecDepth 100000 in
set_option maxHeartbeats 16000000 in
theorem walkLaw (w : World) (v : Value) (n : Nat) (xs : List Int) (hr : Rd w v 1 n (xs.map (Value.int .u8))) (hn : n ≤ maxLen) (ho : ∀ a : Int, a ∈ xs → 0 ≤ a ∧ a ≤ 255) :
    Calls Tryz.prog 6 #[v] w fun e w' => e = .returned (.bool true) ∧ Grew w w' := by
  clear ho
  by_cases hbig : (1048576 : Int) < (n : Int)
  · have hd : decide ((1048576 : Int) < (n : Int)) = true := by simp [hbig]
    go_enter Tryz.func6, Tryz.ntmps6
    go_wp2_with fail
    refine (big v n _ _ hr hn).mono ?_
    rintro e w1 ⟨rfl, rfl⟩
    go_wp2
    go_ret
    exact ⟨rfl, Grew.refl _⟩
  have hd : decide ((1048576 : Int) < (n : Int)) = false := by simp [hbig]
  have hcd : Cd w v := ⟨n, xs, hr, by omega⟩
  have G0 := Grew.refl w
  go_enter Tryz.func6, Tryz.ntmps6
  go_wp2_with fail
  refine (big v n _ _ hr hn).mono ?_
  rintro e w1 ⟨rfl, rfl⟩
  go_wp2_with fail
  refine (drawEvaluateForUser v _ hcd).mono ?_
  rintro e w1 ⟨p, u, ua, rfl, s_a, d_a, hev, g1⟩
  have G1 := G0.trans g1
  have so_a := hev.so
  have hz_a := so_a.sz (by decide)
  have hdz_a := ds_szZ hev.dk
  have hdl_a := hev.dk.1
  have R_sa := Lib.hid hev.st.rd
  have R_da := Lib.hid hev.dl.rd
  have HDK_a := Lib.hid hev.dk
  obtain ⟨xa_a, xc_a, ya_a, yc_a, da_a, dc_a, rfl, rfl⟩ := hev.shapes
  have hfl_a := so_a.2.1
  have HSO_a := Lib.hid so_a
  clear hev so_a
  have g2 := (Grew.refl w1).alloc (.cells #[.slice xa_a s_a.schema.length xc_a, .slice ya_a s_a.files.length yc_a, .int .i64 s_a.next] 27)
  have ba0 : (w1.alloc (.cells #[.slice xa_a s_a.schema.length xc_a, .slice ya_a s_a.files.length yc_a, .int .i64 s_a.next] 27)).cell? ⟨w1.heap.size, 0, none⟩ = some (.slice xa_a s_a.schema.length xc_a) := by simp
  have ba1 : (w1.alloc (.cells #[.slice xa_a s_a.schema.length xc_a, .slice ya_a s_a.files.length yc_a, .int .i64 s_a.next] 27)).cell? ⟨w1.heap.size, 1, none⟩ = some (.slice ya_a s_a.files.length yc_a) := by simp
  have ba2 : (w1.alloc (.cells #[.slice xa_a s_a.schema.length xc_a, .slice ya_a s_a.files.length yc_a, .int .i64 s_a.next] 27)).cell? ⟨w1.heap.size, 2, none⟩ = some (.int .i64 s_a.next) := by simp
  go_wp2_with fail
  generalize w1.alloc (.cells #[.slice xa_a s_a.schema.length xc_a, .slice ya_a s_a.files.length yc_a, .int .i64 s_a.next] 27) = w2 at g2 ba0 ba1 ba2 ⊢
  have G2 := G1.trans g2
  obtain ⟨ok, hok_⟩ : ∃ b, efOk d_a s_a ua = b := ⟨_, rfl⟩
  have H_ok := Lib.hid hok_
  clear hok_
  have HOK2 := Lib.hid (ef_ok d_a s_a ua)
  have HRK := efRs_len d_a s_a ua
  have HES0 := efRs_small (xs := d_a) (s := s_a) (u := ua) (by omega)
  obtain ⟨RS, hRS⟩ : ∃ x, efRs d_a s_a ua = x := ⟨_, rfl⟩
  have HRS := Lib.hid hRS
  rw [hRS] at HRK HES0
  have hel := HRK
  have HES := Lib.hid HES0
  clear hRS HRK HES0
  obtain ⟨el, hel_⟩ : ∃ x, RS.length = x := ⟨_, rfl⟩
  have HEL := Lib.hid hel_
  rw [hel_] at hel
  clear hel_
  refine (implEvaluateForUser s_a ⟨.slice xa_a s_a.schema.length xc_a, .slice ya_a s_a.files.length yc_a, s_a.next⟩ _ d_a ua _ (St.R.grew R_sa.out (g2)) (RdDs.grew R_da.out (g2)) (by omega) (by omega) (by omega)).mono ?_
  rintro e w3 ⟨v_e, rfl, o_e, g3⟩
  have G3 := G2.trans g3
  replace ba0 := grew_cell g3 ba0
  replace ba1 := grew_cell g3 ba1
  replace ba2 := grew_cell g3 ba2
  rw [HRS.out] at o_e
  rw [H_ok.out]
  have R_e := Lib.hid (OwnRss.rd o_e)
  obtain ⟨eea, eec, rfl⟩ := OwnRss.shape o_e
  clear o_e
  rw [HEL.out] at R_e ⊢
  go_wp2_with fail
  refine (specEvaluateForUser s_a ⟨.slice xa_a s_a.schema.length xc_a, .slice ya_a s_a.files.length yc_a, s_a.next⟩ _ d_a ua _ (St.R.grew R_sa.out ((g2.trans g3))) (RdDs.grew R_da.out ((g2.trans g3))) (by omega) (by omega) (by omega)).mono ?_
  rintro e w4 ⟨v_w, rfl, o_w, g4⟩
  have G4 := G3.trans g4
  replace ba0 := grew_cell g4 ba0
  replace ba1 := grew_cell g4 ba1
  replace ba2 := grew_cell g4 ba2
  rw [HRS.out] at o_w
  rw [H_ok.out]
  have R_w := Lib.hid (OwnRss.rd o_w)
  obtain ⟨ewa, ewc, rfl⟩ := OwnRss.shape o_w
  clear o_w
  rw [HEL.out] at R_w ⊢
  have HSE := Lib.hid (eqRs_me RS)
  have HLE : RS.length ≤ 4000000 := by rw [HEL.out]; omega
  go_wp2_with fail
  refine (drawListDir v _ (hcd.grew (((g1.trans g2).trans g3).trans g4))).mono ?_
  rintro e w5 ⟨p2, u2, ub, nmb, rfl, hnmb, s_b, d_b, hevb, g5⟩
  have G5 := G4.trans g5
  replace ba0 := grew_cell g5 ba0
  replace ba1 := grew_cell g5 ba1
  replace ba2 := grew_cell g5 ba2
  have so_b := hevb.so
  have hz_b := so_b.sz (by decide)
  have hdz_b := ds_szZ hevb.dk
  have hdl_b := hevb.dk.1
  have R_sb := Lib.hid hevb.st.rd
  have R_db := Lib.hid hevb.dl.rd
  have HDK_b := Lib.hid hevb.dk
  obtain ⟨xa_b, xc_b, ya_b, yc_b, da_b, dc_b, rfl, rfl⟩ := hevb.shapes
  have hfl_b := so_b.2.1
  have HSO_b := Lib.hid so_b
  clear hevb so_b
  have g6 := (Grew.refl w5).alloc (.cells #[.slice xa_b s_b.schema.length xc_b, .slice ya_b s_b.files.length yc_b, .int .i64 s_b.next] 27)
  have bb0 : (w5.alloc (.cells #[.slice xa_b s_b.schema.length xc_b, .slice ya_b s_b.files.length yc_b, .int .i64 s_b.next] 27)).cell? ⟨w5.heap.size, 0, none⟩ = some (.slice xa_b s_b.schema.length xc_b) := by simp
  have bb1 : (w5.alloc (.cells #[.slice xa_b s_b.schema.length xc_b, .slice ya_b s_b.files.length yc_b, .int .i64 s_b.next] 27)).cell? ⟨w5.heap.size, 1, none⟩ = some (.slice ya_b s_b.files.length yc_b) := by simp
  have bb2 : (w5.alloc (.cells #[.slice xa_b s_b.schema.length xc_b, .slice ya_b s_b.files.length yc_b, .int .i64 s_b.next] 27)).cell? ⟨w5.heap.size, 2, none⟩ = some (.int .i64 s_b.next) := by simp
  go_wp2_with fail
  generalize w5.alloc (.cells #[.slice xa_b s_b.schema.length xc_b, .slice ya_b s_b.files.length yc_b, .int .i64 s_b.next] 27) = w6 at g6 bb0 bb1 bb2 ⊢
  have G6 := G5.trans g6
  replace ba0 := grew_cell g6 ba0
  replace ba1 := grew_cell g6 ba1
  replace ba2 := grew_cell g6 ba2
  have HCAN := Lib.hid (fun z (hz : z ∈ lsI d_b s_b ub nmb) => ls_can hz)
  have hll0 := lsI_le (xs := d_b) (s := s_b) (u := ub) (nm := nmb) (by omega)
  obtain ⟨LI, hLI⟩ : ∃ x, lsI d_b s_b ub nmb = x := ⟨_, rfl⟩
  have HLI := Lib.hid hLI
  rw [hLI] at hll0 HCAN
  clear hLI
  obtain ⟨ll, hll_⟩ : ∃ x, LI.length = x := ⟨_, rfl⟩
  have HLL := Lib.hid hll_
  rw [hll_] at hll0
  clear hll_
  have HSI := Lib.hid (sameB_yes (rfl : LI = LI))
  refine (implListDir s_b ⟨.slice xa_b s_b.schema.length xc_b, .slice ya_b s_b.files.length yc_b, s_b.next⟩ _ d_b ub nmb _ (St.R.grew R_sb.out (g6)) (RdDs.grew R_db.out (g6)) (by omega) (by omega) (by omega)).mono ?_
  rintro e w7 ⟨v_l, rfl, o_l, g7⟩
  have G7 := G6.trans g7
  replace ba0 := grew_cell g7 ba0
  replace ba1 := grew_cell g7 ba1
  replace ba2 := grew_cell g7 ba2
  replace bb0 := grew_cell g7 bb0
  replace bb1 := grew_cell g7 bb1
  replace bb2 := grew_cell g7 bb2
  rw [HLI.out, HLL.out] at o_l
  have R_l := Lib.hid (rd_of_own o_l)
  obtain ⟨la, lc, rfl⟩ := own_slice o_l
  clear o_l
  go_wp2_with fail
  refine (drawIsListed v _ (hcd.grew ((((((g1.trans g2).trans g3).trans g4).trans g5).trans g6).trans g7))).mono ?_
  rintro e w8 ⟨p3, u3, uc, nmc, idc, rfl, hnmc, s_c, d_c, hevc, g8⟩
  have G8 := G7.trans g8
  replace ba0 := grew_cell g8 ba0
  replace ba1 := grew_cell g8 ba1
  replace ba2 := grew_cell g8 ba2
  replace bb0 := grew_cell g8 bb0
  replace bb1 := grew_cell g8 bb1
  replace bb2 := grew_cell g8 bb2
  have so_c := hevc.so
  have hz_c := so_c.sz (by decide)
  have hdz_c := ds_szZ hevc.dk
  have hdl_c := hevc.dk.1
  have R_sc := Lib.hid hevc.st.rd
  have R_dc := Lib.hid hevc.dl.rd
  have HDK_c := Lib.hid hevc.dk
  obtain ⟨xa_c, xc_c, ya_c, yc_c, da_c, dc_c, rfl, rfl⟩ := hevc.shapes
  have hfl_c := so_c.2.1
  have HSO_c := Lib.hid so_c
  clear hevc so_c
  have g9 := (Grew.refl w8).alloc (.cells #[.slice xa_c s_c.schema.length xc_c, .slice ya_c s_c.files.length yc_c, .int .i64 s_c.next] 27)
  have bc0 : (w8.alloc (.cells #[.slice xa_c s_c.schema.length xc_c, .slice ya_c s_c.files.length yc_c, .int .i64 s_c.next] 27)).cell? ⟨w8.heap.size, 0, none⟩ = some (.slice xa_c s_c.schema.length xc_c) := by simp
  have bc1 : (w8.alloc (.cells #[.slice xa_c s_c.schema.length xc_c, .slice ya_c s_c.files.length yc_c, .int .i64 s_c.next] 27)).cell? ⟨w8.heap.size, 1, none⟩ = some (.slice ya_c s_c.files.length yc_c) := by simp
  have bc2 : (w8.alloc (.cells #[.slice xa_c s_c.schema.length xc_c, .slice ya_c s_c.files.length yc_c, .int .i64 s_c.next] 27)).cell? ⟨w8.heap.size, 2, none⟩ = some (.int .i64 s_c.next) := by simp
  go_wp2_with fail
  generalize w8.alloc (.cells #[.slice xa_c s_c.schema.length xc_c, .slice ya_c s_c.files.length yc_c, .int .i64 s_c.next] 27) = w9 at g9 bc0 bc1 bc2 ⊢
  have G9 := G8.trans g9
  replace ba0 := grew_cell g9 ba0
  replace ba1 := grew_cell g9 ba1
  replace ba2 := grew_cell g9 ba2
  replace bb0 := grew_cell g9 bb0
  replace bb1 := grew_cell g9 bb1
  replace bb2 := grew_cell g9 bb2
  obtain ⟨hb, hhb_⟩ : ∃ b, has (lsI d_c s_c uc nmc) idc = b := ⟨_, rfl⟩
  have H_hb := Lib.hid hhb_
  clear hhb_
  have T_sa := Lib.hid (St.R.grew R_sa.out ((((((((g2.trans g3).trans g4).trans g5).trans g6).trans g7).trans g8).trans g9)))
  have T_da := Lib.hid (RdDs.grew R_da.out ((((((((g2.trans g3).trans g4).trans g5).trans g6).trans g7).trans g8).trans g9)))
  have T_e := Lib.hid (RdRs.grew R_e.out ((((((g4.trans g5).trans g6).trans g7).trans g8).trans g9)))
  have T_w := Lib.hid (RdRs.grew R_w.out (((((g5.trans g6).trans g7).trans g8).trans g9)))
  have T_sb := Lib.hid (St.R.grew R_sb.out ((((g6.trans g7).trans g8).trans g9)))
  have T_db := Lib.hid (RdDs.grew R_db.out ((((g6.trans g7).trans g8).trans g9)))
  have T_l := Lib.hid (R_l.out.grew (g8.trans g9))
  have T_sc := Lib.hid (St.R.grew R_sc.out (g9))
  have T_dc := Lib.hid (RdDs.grew R_dc.out (g9))
  refine wp_region_noPanic ?_
  refine wp_region_held_drew (S := (fun w' => (w'.cell? ⟨w5.heap.size, 0, none⟩ = some (.slice xa_b s_b.schema.length xc_b) ∧ w'.cell? ⟨w5.heap.size, 1, none⟩ = some (.slice ya_b s_b.files.length yc_b) ∧ w'.cell? ⟨w5.heap.size, 2, none⟩ = some (.int .i64 s_b.next) ∧ w'.cell? ⟨w8.heap.size, 0, none⟩ = some (.slice xa_c s_c.schema.length xc_c) ∧ w'.cell? ⟨w8.heap.size, 1, none⟩ = some (.slice ya_c s_c.files.length yc_c) ∧ w'.cell? ⟨w8.heap.size, 2, none⟩ = some (.int .i64 s_c.next) ∧ Grew w9 w'))) (by kernel_rfl) ?h1_S ?h1_r
  case h1_S => exact ⟨grew_cell (Grew.refl _).drew bb0, grew_cell (Grew.refl _).drew bb1, grew_cell (Grew.refl _).drew bb2, grew_cell (Grew.refl _).drew bc0, grew_cell (Grew.refl _).drew bc1, grew_cell (Grew.refl _).drew bc2, (Grew.refl _).drew⟩
  case h1_r =>
    intro HS
    first | refine sk' 0 HS ?_ | refine tk' 0 HS ?_
    first | refine sk' 1 HS ?_ | refine tk' 1 HS ?_
    first | refine sk' 2 HS ?_ | refine tk' 2 HS ?_
    first | refine sk' 3 HS ?_ | refine tk' 3 HS ?_
    first | refine sk' 4 HS ?_ | refine tk' 4 HS ?_
    first | refine sk' 5 HS ?_ | refine tk' 5 HS ?_
    refine cl' 6 fun K hK => ?_
    rw [if_pos (by rfl)]
    go_simp
    go_at_call 26
    refine (sameResults _ _ RS RS _ (RdRs.grew T_e.out HS.2.2.2.2.2.2) (RdRs.grew T_w.out HS.2.2.2.2.2.2) HLE HLE HES.out HES.out).mono ?_
    rintro e wr1 ⟨he, hb⟩
    rw [HSE.out] at he
    subst he
    refine hK.out _ _ ?s1_6 ?r1_6
    case s1_6 => exact ⟨grew_cell hb HS.1, grew_cell hb HS.2.1, grew_cell hb HS.2.2.1, grew_cell hb HS.2.2.2.1, grew_cell hb HS.2.2.2.2.1, grew_cell hb HS.2.2.2.2.2.1, HS.2.2.2.2.2.2.trans hb⟩
    case r1_6 =>
      clear HS hK K; intro HS
      try simp only [Act.put, lpa, lpb, lpc]
      first | refine sk' 7 HS ?_ | refine tk' 7 HS ?_
      first | refine sk' 8 HS ?_ | refine tk' 8 HS ?_
      first | refine sk' 9 HS ?_ | refine tk' 9 HS ?_
      first | refine sk' 10 HS ?_ | refine tk' 10 HS ?_
      first | refine sk' 11 HS ?_ | refine tk' 11 HS ?_
      first | refine sk' 12 HS ?_ | refine tk' 12 HS ?_
      first | refine sk' 13 HS ?_ | refine tk' 13 HS ?_
      first | refine sk' 14 HS ?_ | refine tk' 14 HS ?_
      refine cl' 15 fun K hK => ?_
      rw [if_pos (by rfl)]
      go_simp
      go_at_call 38
      refine (specListDir s_b ⟨.slice xa_b s_b.schema.length xc_b, .slice ya_b s_b.files.length yc_b, s_b.next⟩ _ d_b ub nmb _ (T_sb.out.grew HS.2.2.2.2.2.2) (RdDs.grew T_db.out HS.2.2.2.2.2.2) (by omega) (by omega) (by omega)).mono ?_
      rintro e wr2 ⟨v15, rfl, o15, hb⟩
      rw [HLI.out, HLL.out] at o15
      have I15 := Lib.hid (rd_of_own o15)
      obtain ⟨i15a, i15c, rfl⟩ := own_slice o15
      clear o15
      refine hK.out _ _ ?s1_15 ?r1_15
      case s1_15 => exact ⟨grew_cell hb HS.1, grew_cell hb HS.2.1, grew_cell hb HS.2.2.1, grew_cell hb HS.2.2.2.1, grew_cell hb HS.2.2.2.2.1, grew_cell hb HS.2.2.2.2.2.1, HS.2.2.2.2.2.2.trans hb⟩
      case r1_15 =>
        clear HS hK K; intro HS
        try simp only [Act.put, lpa, lpb, lpc]
        refine cl' 16 fun K hK => ?_
        rw [if_pos (by rfl)]
        go_simp
        go_at_call 13
        refine (sameInts _ _ _ _ LI LI _ (T_l.out.grew HS.2.2.2.2.2.2) I15.out hll0 hll0).mono ?_
        rintro e wr3 ⟨he, hb⟩
        rw [HSI.out] at he
        subst he
        refine hK.out _ _ ?s1_16 ?r1_16
        case s1_16 => exact ⟨grew_cell hb HS.1, grew_cell hb HS.2.1, grew_cell hb HS.2.2.1, grew_cell hb HS.2.2.2.1, grew_cell hb HS.2.2.2.2.1, grew_cell hb HS.2.2.2.2.2.1, HS.2.2.2.2.2.2.trans hb⟩
        case r1_16 =>
          clear HS hK K; intro HS
          try simp only [Act.put, lpa, lpb, lpc]
          first | refine sk' 17 HS ?_ | refine tk' 17 HS ?_
          first | refine sk' 18 HS ?_ | refine tk' 18 HS ?_
          first | refine sk' 19 HS ?_ | refine tk' 19 HS ?_
          first | refine sk' 20 HS ?_ | refine tk' 20 HS ?_
          first | refine sk' 21 HS ?_ | refine tk' 21 HS ?_
          first | refine sk' 22 HS ?_ | refine tk' 22 HS ?_
          first | refine sk' 23 HS ?_ | refine tk' 23 HS ?_
          first | refine sk' 24 HS ?_ | refine tk' 24 HS ?_
          first | refine sk' 26 HS ?_ | refine tk' 26 HS ?_
          first | refine sk' 27 HS ?_ | refine tk' 27 HS ?_
          first | refine sk' 28 HS ?_ | refine tk' 28 HS ?_
          first | refine sk' 29 HS ?_ | refine tk' 29 HS ?_
          first | refine sk' 30 HS ?_ | refine tk' 30 HS ?_
          refine cl' 25 fun K hK => ?_
          rw [if_pos (by rfl)]
          go_simp
          go_at_call 39
          refine (implIsListed s_c ⟨.slice xa_c s_c.schema.length xc_c, .slice ya_c s_c.files.length yc_c, s_c.next⟩ _ d_c uc nmc idc _ (T_sc.out.grew HS.2.2.2.2.2.2) (RdDs.grew T_dc.out HS.2.2.2.2.2.2) (by omega) (by omega) (by omega)).mono ?_
          rintro e wr4 ⟨he, hb⟩
          rw [H_hb.out] at he
          subst he
          refine hK.out _ _ ?s1_25 ?r1_25
          case s1_25 => exact ⟨grew_cell hb HS.1, grew_cell hb HS.2.1, grew_cell hb HS.2.2.1, grew_cell hb HS.2.2.2.1, grew_cell hb HS.2.2.2.2.1, grew_cell hb HS.2.2.2.2.2.1, HS.2.2.2.2.2.2.trans hb⟩
          case r1_25 =>
            clear HS hK K; intro HS
            try simp only [Act.put, lpa, lpb, lpc]
            refine cl' 31 fun K hK => ?_
            rw [if_pos (by rfl)]
            go_simp
            go_at_call 40
            refine (specIsListed s_c ⟨.slice xa_c s_c.schema.length xc_c, .slice ya_c s_c.files.length yc_c, s_c.next⟩ _ d_c uc nmc idc _ (T_sc.out.grew HS.2.2.2.2.2.2) (RdDs.grew T_dc.out HS.2.2.2.2.2.2) (by omega) (by omega) (by omega)).mono ?_
            rintro e wr5 ⟨he, hb⟩
            rw [H_hb.out] at he
            subst he
            refine hK.out _ _ ?s1_31 ?r1_31
            case s1_31 => exact ⟨grew_cell hb HS.1, grew_cell hb HS.2.1, grew_cell hb HS.2.2.1, grew_cell hb HS.2.2.2.1, grew_cell hb HS.2.2.2.2.1, grew_cell hb HS.2.2.2.2.2.1, HS.2.2.2.2.2.2.trans hb⟩
            case r1_31 =>
              clear HS hK K; intro HS
              try simp only [Act.put, lpa, lpb, lpc]
              first | refine sk' 32 HS ?_ | refine tk' 32 HS ?_
              first | refine sk' 33 HS ?_ | refine tk' 33 HS ?_
              first | refine sk' 34 HS ?_ | refine tk' 34 HS ?_
              first | refine sk' 35 HS ?_ | refine tk' 35 HS ?_
              first | refine sk' 36 HS ?_ | refine tk' 36 HS ?_
              first | refine sk' 37 HS ?_ | refine tk' 37 HS ?_
              first | refine sk' 38 HS ?_ | refine tk' 38 HS ?_
              first | refine sk' 40 HS ?_ | refine tk' 40 HS ?_
              first | refine sk' 41 HS ?_ | refine tk' 41 HS ?_
              refine cl' 39 fun K hK => ?_
              rw [if_pos (by rfl)]
              go_simp
              go_at_call 15
              refine (implCountListed s_b ⟨.slice xa_b s_b.schema.length xc_b, .slice ya_b s_b.files.length yc_b, s_b.next⟩ _ d_b ub nmb _ (T_sb.out.grew HS.2.2.2.2.2.2) (RdDs.grew T_db.out HS.2.2.2.2.2.2) (by omega) (by omega) (by omega)).mono ?_
              rintro e wr6 ⟨he, hb⟩
              rw [HLI.out, HLL.out] at he
              subst he
              refine hK.out _ _ ?s1_39 ?r1_39
              case s1_39 => exact ⟨grew_cell hb HS.1, grew_cell hb HS.2.1, grew_cell hb HS.2.2.1, grew_cell hb HS.2.2.2.1, grew_cell hb HS.2.2.2.2.1, grew_cell hb HS.2.2.2.2.2.1, HS.2.2.2.2.2.2.trans hb⟩
              case r1_39 =>
                clear HS hK K; intro HS
                try simp only [Act.put, lpa, lpb, lpc]
                first | refine sk' 42 HS ?_ | refine tk' 42 HS ?_
                first | refine sk' 43 HS ?_ | refine tk' 43 HS ?_
                refine wpAnyH_done (by kernel_rfl) ?_ _
                refine NoPanic.normal ?_
                obtain ⟨w10, hw10⟩ : ∃ x, x = wr6 := ⟨_, rfl⟩
                rw [← hw10] at HS ⊢
                have g10 := HS.2.2.2.2.2.2
                have G10 := G9.trans g10
                clear HS hw10
                replace ba0 := grew_cell g10 ba0
                replace ba1 := grew_cell g10 ba1
                replace ba2 := grew_cell g10 ba2
                replace bb0 := grew_cell g10 bb0
                replace bb1 := grew_cell g10 bb1
                replace bb2 := grew_cell g10 bb2
                replace bc0 := grew_cell g10 bc0
                replace bc1 := grew_cell g10 bc1
                replace bc2 := grew_cell g10 bc2
                replace T_sa := Lib.hid (St.R.grew R_sa.out (((((((((g2.trans g3).trans g4).trans g5).trans g6).trans g7).trans g8).trans g9).trans g10)))
                replace T_da := Lib.hid (RdDs.grew R_da.out (((((((((g2.trans g3).trans g4).trans g5).trans g6).trans g7).trans g8).trans g9).trans g10)))
                replace T_sb := Lib.hid (St.R.grew R_sb.out (((((g6.trans g7).trans g8).trans g9).trans g10)))
                replace T_db := Lib.hid (RdDs.grew R_db.out (((((g6.trans g7).trans g8).trans g9).trans g10)))
                replace T_l := Lib.hid (R_l.out.grew ((g8.trans g9).trans g10))
                have HG := Lib.hid G10
                obtain ⟨_, _, h1, _, hra⟩ := T_l.out
                cases h1
                clear R_sa R_da R_sb R_db R_sc R_dc R_e R_w R_l T_e T_w T_sc T_dc HSE HSI HLE bc0 bc1 bc2 G0 G1 G2 G3 G4 G5 G6 G7 G8 G9 G10 g1 g2 g3 g4 g5 g6 g7 g8 g9 g10 hbig hn hd hr hcd
                go_wp2
                go_loopw [20] (fun i wr => ∃ k : Nat, k ≤ ll ∧ i = .int .i64 k ∧ Grew w10 wr) (fun i _ => ll - (intOf i).toNat)
                case atStart => exact ⟨0, Nat.zero_le _, rfl, Grew.refl _⟩
                case round =>
                  obtain ⟨k, hk, rfl, hbel⟩ := hrel
                  have ba0' := grew_cell hbel ba0
                  have ba1' := grew_cell hbel ba1
                  have ba2' := grew_cell hbel ba2
                  have bb0' := grew_cell hbel bb0
                  have bb1' := grew_cell hbel bb1
                  have bb2' := grew_cell hbel bb2
                  by_cases hlt : k < ll
                  ·
                    obtain ⟨b0, o0, z, rfl, hzk, e0⟩ := hra.one hlt
                    have e1 := grew_cell hbel e0
                    have hzm := List.mem_of_getElem? hzk.out
                    obtain ⟨f, hf1, hf2⟩ := HCAN.out z hzm
                    have HF1 := Lib.hid hf1
                    have HF2 := Lib.hid hf2
                    have HHZ := Lib.hid (has_mem hzm)
                    have hk0 : (0 : Int) ≤ k := by omega
                    have hkl : (k : Int) < ll := by omega
                    clear hf1 hf2 hzm
                    go_wp2_with fail
                    refine wp_region_noPanic ?_
                    refine wp_region_held_drew (S := (fun w' => (w'.cell? ⟨w5.heap.size, 0, none⟩ = some (.slice xa_b s_b.schema.length xc_b) ∧ w'.cell? ⟨w5.heap.size, 1, none⟩ = some (.slice ya_b s_b.files.length yc_b) ∧ w'.cell? ⟨w5.heap.size, 2, none⟩ = some (.int .i64 s_b.next) ∧ w'.cell? ⟨b0, o0 + k, none⟩ = some (.int .i64 z) ∧ Grew wr w'))) (by kernel_rfl) ?h2_S ?h2_r
                    case h2_S => exact ⟨grew_cell (Grew.refl _).drew bb0', grew_cell (Grew.refl _).drew bb1', grew_cell (Grew.refl _).drew bb2', grew_cell (Grew.refl _).drew e1, (Grew.refl _).drew⟩
                    case h2_r =>
                      intro HS
                      first | refine sk' 0 HS ?_ | refine tk' 0 HS ?_
                      first | refine sk' 1 HS ?_ | refine tk' 1 HS ?_
                      first | refine sk' 2 HS ?_ | refine tk' 2 HS ?_
                      first | refine sk' 3 HS ?_ | refine tk' 3 HS ?_
                      first | refine sk' 4 HS ?_ | refine tk' 4 HS ?_
                      first | refine sk' 6 HS ?_ | refine tk' 6 HS ?_
                      refine cl' 5 fun K hK => ?_
                      rw [if_pos (by rfl)]
                      go_simp
                      go_at_call 42
                      refine (fileOf s_b ⟨.slice xa_b s_b.schema.length xc_b, .slice ya_b s_b.files.length yc_b, s_b.next⟩ z f _ (T_sb.out.grew (hbel.trans HS.2.2.2.2)) (by omega) HF1.out).mono ?_
                      rintro e wr1 ⟨q, rfl, hfr, hb⟩
                      have HFR := Lib.hid hfr
                      clear hfr
                      refine hK.out _ _ ?s2_5 ?r2_5
                      case s2_5 => exact ⟨grew_cell hb HS.1, grew_cell hb HS.2.1, grew_cell hb HS.2.2.1, grew_cell hb HS.2.2.2.1, HS.2.2.2.2.trans hb⟩
                      case r2_5 =>
                        clear HS hK K; intro HS
                        try simp only [Act.put, lpa, lpb, lpc]
                        refine cl' 7 fun K hK => ?_
                        rw [if_pos (by rfl)]
                        go_simp
                        go_at_call 41
                        refine (specCanRead f q ub _ HFR.out).mono ?_
                        rintro e wr2 ⟨he, hb⟩
                        rw [HF2.out] at he
                        subst he
                        refine hK.out _ _ ?s2_7 ?r2_7
                        case s2_7 => exact ⟨grew_cell hb HS.1, grew_cell hb HS.2.1, grew_cell hb HS.2.2.1, grew_cell hb HS.2.2.2.1, HS.2.2.2.2.trans hb⟩
                        case r2_7 =>
                          clear HS hK K; intro HS
                          try simp only [Act.put, lpa, lpb, lpc]
                          first | refine sk' 8 HS ?_ | refine tk' 8 HS ?_
                          first | refine sk' 9 HS ?_ | refine tk' 9 HS ?_
                          first | refine sk' 10 HS ?_ | refine tk' 10 HS ?_
                          first | refine sk' 11 HS ?_ | refine tk' 11 HS ?_
                          first | refine sk' 12 HS ?_ | refine tk' 12 HS ?_
                          first | refine sk' 13 HS ?_ | refine tk' 13 HS ?_
                          first | refine sk' 14 HS ?_ | refine tk' 14 HS ?_
                          first | refine sk' 15 HS ?_ | refine tk' 15 HS ?_
                          first | refine sk' 16 HS ?_ | refine tk' 16 HS ?_
                          first | refine sk' 17 HS ?_ | refine tk' 17 HS ?_
                          refine cl' 18 fun K hK => ?_
                          rw [if_pos (by rfl)]
                          go_simp
                          go_at_call 39
                          refine (implIsListed s_b ⟨.slice xa_b s_b.schema.length xc_b, .slice ya_b s_b.files.length yc_b, s_b.next⟩ _ d_b ub nmb z _ (T_sb.out.grew (hbel.trans HS.2.2.2.2)) (RdDs.grew T_db.out (hbel.trans HS.2.2.2.2)) (by omega) (by omega) (by omega)).mono ?_
                          rintro e wr3 ⟨he, hb⟩
                          rw [HLI.out, HHZ.out] at he
                          subst he
                          refine hK.out _ _ ?s2_18 ?r2_18
                          case s2_18 => exact ⟨grew_cell hb HS.1, grew_cell hb HS.2.1, grew_cell hb HS.2.2.1, grew_cell hb HS.2.2.2.1, HS.2.2.2.2.trans hb⟩
                          case r2_18 =>
                            clear HS hK K; intro HS
                            try simp only [Act.put, lpa, lpb, lpc]
                            first | refine sk' 19 HS ?_ | refine tk' 19 HS ?_
                            first | refine sk' 20 HS ?_ | refine tk' 20 HS ?_
                            refine wpAnyH_done (by kernel_rfl) ?_ _
                            refine NoPanic.normal ?_
                            have GR := HS.2.2.2.2
                            clear HS
                            go_wp2
                            go_roundw
                            case rel => exact ⟨k + 1, by omega, by go_num, hbel.trans GR⟩
                            case measure => simp [intOf]; omega
                  · obtain rfl : k = ll := by omega
                    have GX := HG.out.trans hbel
                    have HSA := Lib.hid (T_sa.out.grew hbel)
                    have HDA := Lib.hid (RdDs.grew T_da.out hbel)
                    have HOV := HOK2.out
                    rw [H_ok.out] at HOV
                    have HOW := Lib.hid HOV
                    clear HOV
                    by_cases h0 : 0 ≤ ua
                    ·
                      by_cases h3 : ua < 3
                      ·
                        have hin : inB ua 0 2 = true := by unfold inB; simp; omega
                        obtain ⟨sb, hsb_⟩ : ∃ b, stoB s_a = b := ⟨_, rfl⟩
                        have H_sb := Lib.hid hsb_
                        clear hsb_
                        obtain ⟨tb, htb_⟩ : ∃ b, stB d_a = b := ⟨_, rfl⟩
                        have H_tb := Lib.hid htb_
                        clear htb_
                        have HOZ := Lib.hid (show ok = (sb && tb) by have h := HOW.out; rw [hin, H_sb.out, H_tb.out, Bool.true_and] at h; exact h)
                        cases sb
                        ·
                          obtain rfl : ok = false := HOZ.out
                          go_wp2_with fail
                          refine (specIsValidStore s_a ⟨.slice xa_a s_a.schema.length xc_a, .slice ya_a s_a.files.length yc_a, s_a.next⟩ _ HSA.out (by omega)).mono ?_
                          rintro e wy ⟨he, gy⟩
                          rw [H_sb.out] at he
                          subst he
                          go_wp2
                          go_ret
                          exact ⟨rfl, GX.trans gy⟩
                        ·
                          obtain rfl : ok = tb := by rw [HOZ.out]; exact Bool.true_and _
                          go_wp2_with fail
                          refine (specIsValidStore s_a ⟨.slice xa_a s_a.schema.length xc_a, .slice ya_a s_a.files.length yc_a, s_a.next⟩ _ HSA.out (by omega)).mono ?_
                          rintro e wy ⟨he, gy⟩
                          rw [H_sb.out] at he
                          subst he
                          go_wp2_with fail
                          refine (specIsStratified _ d_a _ (RdDs.grew HDA.out gy) (by omega) (by omega)).mono ?_
                          rintro e wz ⟨he, gz⟩
                          rw [H_tb.out] at he
                          subst he
                          cases ok
                          all_goals
                            go_wp2
                            go_ret
                            exact ⟨rfl, (GX.trans gy).trans gz⟩
                      · have hin : inB ua 0 2 = false := by unfold inB; simp; omega
                        obtain rfl : ok = false := by have h := HOW.out; rw [hin] at h; simpa using h
                        go_wp2
                        go_ret
                        exact ⟨rfl, GX⟩
                    · have hin : inB ua 0 2 = false := by unfold inB; simp; omega
                      obtain rfl : ok = false := by have h := HOW.out; rw [hin] at h; simpa using h
                      go_wp2
                      go_ret
                      exact ⟨rfl, GX⟩
end Go.Proofs.YtkkbhhmhkpgbkaaGreat.fnListings
