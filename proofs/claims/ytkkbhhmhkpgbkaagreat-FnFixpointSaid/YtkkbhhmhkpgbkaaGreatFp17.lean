/- Texts U3, as far as they are needed. -/
import Derived.Test.YtkkbhhmhkpgbkaaGreatFp16
import Derived.Test.YtkkbhhmhkpgbkaaGreatFp8
import Derived.Test.YtkkbhhmhkpgbkaaGreatFp10
import Derived.Test.YtkkbhhmhkpgbkaaGreatFp0
namespace Go.Proofs.YtkkbhhmhkpgbkaaGreat
open Go.RowKit
set_option linter.unusedVariables false
def nmAt (rs : List Rs) (i : Nat) (x : Dr) : Bool := match rs[i]? with
  | some r => x.name.toList == r.name.toList
  | none => true
theorem nmAt_at {rs : List Rs} {i : Nat} {x : Dr} {r : Rs} (h : rs[i]? = some r) : nmAt rs i x = (x.name.toList == r.name.toList) := by unfold nmAt; rw [h]
noncomputable def fxAt (s : St) (rs : List Rs) (i : Nat) (x : Dr) : Bool := match rs[i]? with
  | some r => sameB (selL x.query s.files rs) r.ids
  | none => true
theorem fxAt_at {s : St} {rs : List Rs} {i : Nat} {x : Dr} {r : Rs} (h : rs[i]? = some r) : fxAt s rs i x = sameB (selL x.query s.files rs) r.ids := by unfold fxAt; rw [h]
def namesB (xs : List Dr) (rs : List Rs) : Bool := decide (xs.length = rs.length) && allFrom (nmAt rs) 0 xs
noncomputable def fixB (xs : List Dr) (s : St) (rs : List Rs) : Bool := stoB s && (stB xs && (namesB xs rs && allFrom (fxAt s rs) 0 xs))
theorem same_comm {α : Type} (a b : List α) : sameB a b = sameB b a := by
  by_cases h : a = b
  · subst h; rfl
  · rw [sameB_no h, sameB_no (fun e => h e.symm)]
theorem beq_sym (a b : List UInt8) : (a == b) = (b == a) := by rw [Bool.eq_iff_iff, beq_iff_eq, beq_iff_eq]; exact ⟨Eq.symm, Eq.symm⟩
theorem up_both {xs : List Dr} {f g : Nat → Dr → Bool} {k : Nat} (h : upTo (fun i x => f i x && g i x) xs k) : upTo f xs k ∧ upTo g xs k := by
  refine ⟨fun j y hj hy => ?_, fun j y hj hy => ?_⟩
  · have := h j y hj hy; simp only [Bool.and_eq_true] at this; exact this.1
  · have := h j y hj hy; simp only [Bool.and_eq_true] at this; exact this.2
set_option maxHeartbeats 1000000 in
theorem cloNames (x : Dr) (y : Rs) (p p' : P2) (w : World) (h : Dr.R w x p) (h' : Rs.R w y p') :
    Calls Tryz.prog 97 #[p.v, p'.v] w fun e w' => e = .returned (.bool (x.name.toList == y.name.toList)) ∧ Grew w w' := by
  obtain ⟨pn, pq⟩ := p
  obtain ⟨qn, qq⟩ := p'
  obtain ⟨hxn, hxq⟩ := h
  obtain ⟨hyn, hyq⟩ := h'
  simp only at hxn hyn hxq hyq
  subst hxn hyn
  obtain ⟨a, c, rfl, _, _⟩ := hxq
  obtain ⟨b, d, rfl, _, _⟩ := hyq
  go_enter Tryz.func97, Tryz.ntmps97
  go_wp2
  go_ret
  exact ⟨rfl, ((Grew.refl w).alloc _).alloc _⟩
set_option maxRecDepth 100000 in
set_option maxHeartbeats 1000000 in
theorem slEqualNames (va vb : Value) (xs : List Dr) (ys : List Rs) (w : World) (ha : RdDs w va xs) (hb : RdRs w vb ys) (hx : xs.length ≤ 4000000) (hy : ys.length ≤ 4000000) :
    Calls Tryz.prog 96 #[va, vb, .func (.func 97) #[] #[]] w fun e w' => e = .returned (.bool (namesB xs ys)) ∧ Grew w w' := by
  obtain ⟨qs, ⟨a, ca, rfl, hca, hra⟩, hall⟩ := ha
  obtain ⟨rs, ⟨b, cb, rfl, hcb, hrb⟩, hbll⟩ := hb
  have HA := Lib.hid hall
  have HB := Lib.hid hbll
  clear hall hbll
  generalize hn : xs.length = n at hx hra
  generalize hm : ys.length = m at hy hrb
  have HX := Lib.hid hn
  have HY := Lib.hid hm
  clear hn hm
  by_cases hnm : n = m
  · subst hnm
    go_enter Tryz.func96, Tryz.ntmps96
    go_wp2
    go_loopw [7, 17] (fun _ i wr => ∃ k : Nat, k ≤ n ∧ i = .int .i64 k ∧ Hid (upTo (nmAt ys) xs k) ∧ Grew w wr) (fun _ i _ => n - (intOf i).toNat)
    case atStart => exact ⟨0, Nat.zero_le _, rfl, Lib.hid (upTo_zero _ _), Grew.refl _⟩
    case round =>
      obtain ⟨k, hk, rfl, hsame, hbel⟩ := hrel
      by_cases hlt : k < n
      · obtain ⟨b1, o1, p, rfl, hpk, c0, c1⟩ := (hra.grew hbel).getP2 hlt
        obtain ⟨b2, o2, q, rfl, hqk, d0, d1⟩ := (hrb.grew hbel).getP2 hlt
        obtain ⟨x, hxk, hxr⟩ := HA.out.get hpk.out
        obtain ⟨y, hyk, hyr⟩ := HB.out.get hqk.out
        obtain ⟨pn, pq⟩ := p
        obtain ⟨qn, qq⟩ := q
        have HXR := Lib.hid hxr
        have HYR := Lib.hid hyr
        obtain ⟨hxn, hxq⟩ := hxr
        obtain ⟨hyn, hyq⟩ := hyr
        simp only at hxn hyn hxq hyq c0 c1 d0 d1
        clear hxn hyn
        obtain ⟨pa, pc, rfl, hpc, hpr⟩ := hxq
        obtain ⟨qa, qc, rfl, hqc, hqr⟩ := hyq
        clear hpr hqr hpc hqc
        obtain ⟨v, hv⟩ : ∃ v, (x.name.toList == y.name.toList) = v := ⟨_, rfl⟩
        have HV := Lib.hid hv
        clear hv
        have hv : v = false ∨ v = true := by cases v <;> simp
        have e0 := grew_cell ((Grew.refl wr).alloc (.cells #[.string pn, .slice pa x.query.length pc] 39)) d0
        have e1 := grew_cell ((Grew.refl wr).alloc (.cells #[.string pn, .slice pa x.query.length pc] 39)) d1
        rcases hv with rfl | rfl
        all_goals
          go_wp2_with (go_at_call 97; refine (cloNames x y ⟨pn, _⟩ ⟨qn, _⟩ _ (HXR.out.grew ((hbel.alloc _).alloc _)) (HYR.out.grew ((hbel.alloc _).alloc _))).mono ?_; rintro e w1 ⟨he, hb⟩; rw [HV.out] at he; subst he)
        · go_ret
          exact ⟨ret_bool (show namesB xs ys = false by unfold namesB; rw [all_not hxk.out (by rw [nmAt_at hyk.out]; exact HV.out)]; simp).symm, ((hbel.alloc _).alloc _).trans hb⟩
        · refine ⟨⟨k + 1, by omega, by go_num, Lib.hid (upTo_snoc hsame.out hxk.out (by rw [nmAt_at hyk.out]; exact HV.out)), ((hbel.alloc _).alloc _).trans hb⟩, ?_⟩
          simp [intOf]; omega
      · go_wp2
        go_ret
        obtain rfl : k = n := by omega
        exact ⟨ret_bool (show namesB xs ys = true by unfold namesB; rw [all_up HX.out hsame.out, HX.out, HY.out]; simp).symm, hbel⟩
  · go_enter Tryz.func96, Tryz.ntmps96
    go_wp2
    go_ret
    exact ⟨ret_bool (show namesB xs ys = false by unfold namesB; rw [HX.out, HY.out]; simp [hnm]).symm, Grew.refl _⟩
theorem implHasNames (va vb : Value) (xs : List Dr) (ys : List Rs) (w : World) (ha : RdDs w va xs) (hb : RdRs w vb ys) (hx : xs.length ≤ 4000000) (hy : ys.length ≤ 4000000) :
    Calls Tryz.prog 59 #[va, vb] w fun e w' => e = .returned (.bool (namesB xs ys)) ∧ Grew w w' := by
  go_enter Tryz.func59, Tryz.ntmps59
  go_wp2_with (go_at_call 96; refine (slEqualNames va vb xs ys _ ha hb hx hy).mono ?_; rintro e w1 ⟨rfl, hb⟩)
  go_ret
  exact ⟨rfl, hb⟩
set_option maxRecDepth 100000 in
set_option maxHeartbeats 4000000 in
theorem specIsFixpoint (s : St) (p : PS) (va : Value) (xs : List Dr) (vb : Value) (rs : List Rs) (w : World) (hs : St.R w s p) (ha : RdDs w va xs) (hb : RdRs w vb rs) (hx : xs.length ≤ 4000000) (hz : szAll Dr.sz xs ≤ 4000000) (hzs : s.sz ≤ 4000000) (hy : rs.length ≤ 4000000) (hrs : ∀ x, x ∈ rs → x.small) :
    Calls Tryz.prog 18 #[p.v, va, vb] w fun e w' => e = .returned (.bool (fixB xs s rs)) ∧ Grew w w' := by
  obtain ⟨p_q, p_r, p_n⟩ := p
  have hsn : p_n = s.next := hs.2.2
  subst hsn
  have HST := Lib.hid hs
  have HD := Lib.hid ha
  have HR := Lib.hid hb
  have HZ := Lib.hid hz
  have HZS := Lib.hid hzs
  have HRS := Lib.hid hrs
  have HFM := Lib.hid (show ∀ y, y ∈ s.files → y.small from (St.small_of hzs).2.2)
  have hFb : s.files.length ≤ 4000000 := by unfold St.sz at hzs; omega
  clear hs hrs
  obtain ⟨qs, ⟨a, ca, rfl, hca, hra⟩, hall⟩ := ha
  obtain ⟨ts, ⟨b, cb, rfl, hcb, hrb⟩, hbll⟩ := hb
  have HA := Lib.hid hall
  have HB := Lib.hid hbll
  clear hall hbll hca hcb
  have hg0 := (Grew.refl w).alloc (.cells #[p_q, p_r, .int .i64 s.next] 27)
  have x0 : (w.alloc (.cells #[p_q, p_r, .int .i64 s.next] 27)).cell? ⟨w.heap.size, 0, none⟩ = some p_q := by simp
  have x1 : (w.alloc (.cells #[p_q, p_r, .int .i64 s.next] 27)).cell? ⟨w.heap.size, 1, none⟩ = some p_r := by simp
  have x2 : (w.alloc (.cells #[p_q, p_r, .int .i64 s.next] 27)).cell? ⟨w.heap.size, 2, none⟩ = some (.int .i64 s.next) := by simp
  obtain ⟨n, hn⟩ : ∃ n, xs.length = n := ⟨_, rfl⟩
  obtain ⟨m, hm⟩ : ∃ m, rs.length = m := ⟨_, rfl⟩
  have HX := Lib.hid hn
  have HY := Lib.hid hm
  have HD2 := Lib.hid (show RdDs w (.slice a n ca) xs by have := HD.out; rw [hn] at this; exact this)
  have HR2 := Lib.hid (show RdRs w (.slice b m cb) rs by have := HR.out; rw [hm] at this; exact this)
  have hx0 := Lib.hid hx
  have hy0 := Lib.hid hy
  rw [hn] at hra hx ⊢
  rw [hm] at hrb hy ⊢
  clear HD HR hn hm hz hzs
  obtain ⟨bo, hbo⟩ : ∃ b, stoB s = b := ⟨_, rfl⟩
  obtain ⟨bt, hbt⟩ : ∃ b, stB xs = b := ⟨_, rfl⟩
  obtain ⟨bn, hbn⟩ : ∃ b, decide (xs.length = rs.length) = b := ⟨_, rfl⟩
  have HSO := Lib.hid hbo
  have HSB := Lib.hid hbt
  have HNB := Lib.hid hbn
  clear hbo hbt hbn
  have hco : bo = false ∨ bo = true := by cases bo <;> simp
  have hct : bt = false ∨ bt = true := by cases bt <;> simp
  have hcn : bn = false ∨ bn = true := by cases bn <;> simp
  change Calls Tryz.prog _ #[.agg #[p_q, p_r, .int .i64 s.next], _, _] w _
  rcases hco with rfl | rfl
  · go_enter Tryz.func18, Tryz.ntmps18
    go_wp2_with (first | (go_at_call 12; refine (specIsValidStore s ⟨p_q, p_r, s.next⟩ _ (HST.out.grew hg0) HZS.out).mono ?_; rintro e w1 ⟨he, hb1⟩; rw [HSO.out] at he; subst he; have hgg := hg0.trans hb1; have y0 := grew_cell hb1 x0; have y1 := grew_cell hb1 x1; have y2 := grew_cell hb1 x2) | (go_at_call 32; refine (specIsStratified _ xs _ (HD2.out.grew hgg) hx0.out HZ.out).mono ?_; rintro e w2 ⟨he, hb2⟩; rw [HSB.out] at he; subst he; have hgh := hgg.trans hb2; have z0 := grew_cell hb2 y0; have z1 := grew_cell hb2 y1; have z2 := grew_cell hb2 y2))
    go_ret
    refine ⟨ret_bool ?_, hgg⟩
    unfold fixB; rw [HSO.out]; simp
  rcases hct with rfl | rfl
  · go_enter Tryz.func18, Tryz.ntmps18
    go_wp2_with (first | (go_at_call 12; refine (specIsValidStore s ⟨p_q, p_r, s.next⟩ _ (HST.out.grew hg0) HZS.out).mono ?_; rintro e w1 ⟨he, hb1⟩; rw [HSO.out] at he; subst he; have hgg := hg0.trans hb1; have y0 := grew_cell hb1 x0; have y1 := grew_cell hb1 x1; have y2 := grew_cell hb1 x2) | (go_at_call 32; refine (specIsStratified _ xs _ (HD2.out.grew hgg) hx0.out HZ.out).mono ?_; rintro e w2 ⟨he, hb2⟩; rw [HSB.out] at he; subst he; have hgh := hgg.trans hb2; have z0 := grew_cell hb2 y0; have z1 := grew_cell hb2 y1; have z2 := grew_cell hb2 y2))
    go_ret
    refine ⟨ret_bool ?_, hgh⟩
    unfold fixB; rw [HSO.out, HSB.out]; simp
  rcases hcn with rfl | rfl
  · have hne : ¬ ((m : Int) = (n : Int)) := by have h1 := HNB.out; rw [HX.out, HY.out] at h1; simp at h1; omega
    have hnb : ((m : Int) != (n : Int)) = true := by simp; omega
    go_enter Tryz.func18, Tryz.ntmps18
    go_wp2_with (first | (go_at_call 12; refine (specIsValidStore s ⟨p_q, p_r, s.next⟩ _ (HST.out.grew hg0) HZS.out).mono ?_; rintro e w1 ⟨he, hb1⟩; rw [HSO.out] at he; subst he; have hgg := hg0.trans hb1; have y0 := grew_cell hb1 x0; have y1 := grew_cell hb1 x1; have y2 := grew_cell hb1 x2) | (go_at_call 32; refine (specIsStratified _ xs _ (HD2.out.grew hgg) hx0.out HZ.out).mono ?_; rintro e w2 ⟨he, hb2⟩; rw [HSB.out] at he; subst he; have hgh := hgg.trans hb2; have z0 := grew_cell hb2 y0; have z1 := grew_cell hb2 y1; have z2 := grew_cell hb2 y2))
    go_ret
    refine ⟨ret_bool ?_, hgh⟩
    unfold fixB namesB; rw [HSO.out, HSB.out, HNB.out]; simp
  have hmn : m = n := by have h1 := HNB.out; rw [HX.out, HY.out] at h1; simp at h1; omega
  subst hmn
  go_enter Tryz.func18, Tryz.ntmps18
  go_wp2_with (first | (go_at_call 12; refine (specIsValidStore s ⟨p_q, p_r, s.next⟩ _ (HST.out.grew hg0) HZS.out).mono ?_; rintro e w1 ⟨he, hb1⟩; rw [HSO.out] at he; subst he; have hgg := hg0.trans hb1; have y0 := grew_cell hb1 x0; have y1 := grew_cell hb1 x1; have y2 := grew_cell hb1 x2) | (go_at_call 32; refine (specIsStratified _ xs _ (HD2.out.grew hgg) hx0.out HZ.out).mono ?_; rintro e w2 ⟨he, hb2⟩; rw [HSB.out] at he; subst he; have hgh := hgg.trans hb2; have z0 := grew_cell hb2 y0; have z1 := grew_cell hb2 y1; have z2 := grew_cell hb2 y2))
  go_loopw [7] (fun i wr => ∃ k : Nat, k ≤ m ∧ i = .int .i64 k ∧ Hid (upTo (fun i x => nmAt rs i x && fxAt s rs i x) xs k) ∧ Grew w2 wr) (fun i _ => m - (intOf i).toNat)
  case atStart => exact ⟨0, Nat.zero_le _, rfl, Lib.hid (upTo_zero _ _), Grew.refl _⟩
  case round =>
    obtain ⟨i, hi, rfl, hsame, hbel⟩ := hrel
    have hbw := hgh.trans hbel
    by_cases hlt : i < m
    · obtain ⟨b1, o1, p, rfl, hpk, c0, c1⟩ := (hra.grew hbw).getP2 hlt
      obtain ⟨b2, o2, q, rfl, hqk, d0, d1⟩ := (hrb.grew hbw).getP2 hlt
      obtain ⟨x, hxk, hxr⟩ := HA.out.get hpk.out
      obtain ⟨y, hyk, hyr⟩ := HB.out.get hqk.out
      have hxs := dir_sz HZ.out hxk.out
      have hys : y.ids.length ≤ 4000000 := HRS.out y (List.mem_of_getElem? hyk.out)
      obtain ⟨pn, pq⟩ := p
      obtain ⟨qn, qq⟩ := q
      obtain ⟨hxn, hxq⟩ := hxr
      obtain ⟨hyn, hyq⟩ := hyr
      simp only at hxn hyn hxq hyq c0 c1 d0 d1
      subst hxn hyn
      have HXQ := Lib.hid hxq
      have HYQ := Lib.hid hyq
      obtain ⟨pa, pc, rfl, hpc, hpr⟩ := hxq
      obtain ⟨qa, qc, rfl, hqc, hqr⟩ := hyq
      clear hpr hqr hpc hqc
      have hsl := selL_len x.query s.files rs
      have HSEL := Lib.hid (show (selL x.query s.files rs).length ≤ 4000000 by omega)
      clear hsl
      obtain ⟨sv, hsv⟩ : ∃ v, sameB (selL x.query s.files rs) y.ids = v := ⟨_, rfl⟩
      have HSV := Lib.hid hsv
      clear hsv
      have hcs : sv = false ∨ sv = true := by cases sv <;> simp
      have q0 := grew_cell hbel z0
      have q1 := grew_cell hbel z1
      have q2 := grew_cell hbel z2
      have him : (i : Int) < (m : Int) := by omega
      have hcq : (y.name.toList == x.name.toList) = false ∨ (y.name.toList == x.name.toList) = true := by cases y.name.toList == x.name.toList <;> simp
      rcases hcq with hq | hq
      · have hk0 := hi
        go_wp2_with fail
        refine wp_region_noPanic ?_
        refine wp_region_held_drew (S := (fun w' => (w'.cell? ⟨w.heap.size, 0, none⟩ = some (p_q) ∧ w'.cell? ⟨w.heap.size, 1, none⟩ = some (p_r) ∧ w'.cell? ⟨w.heap.size, 2, none⟩ = some (.int .i64 s.next) ∧ w'.cell? ⟨b1, o1 + i * 2, none⟩ = some (.string x.name) ∧ w'.cell? ⟨b1, o1 + i * 2 + 1, none⟩ = some (.slice pa x.query.length pc) ∧ w'.cell? ⟨b2, o2 + i * 2, none⟩ = some (.string y.name) ∧ w'.cell? ⟨b2, o2 + i * 2 + 1, none⟩ = some (.slice qa y.ids.length qc) ∧ Grew wr w'))) (by kernel_rfl) ?h1_S ?h1_r
        case h1_S => exact ⟨grew_cell (Grew.refl _).drew q0, grew_cell (Grew.refl _).drew q1, grew_cell (Grew.refl _).drew q2, grew_cell (Grew.refl _).drew c0, grew_cell (Grew.refl _).drew c1, grew_cell (Grew.refl _).drew d0, grew_cell (Grew.refl _).drew d1, (Grew.refl _).drew⟩
        case h1_r =>
          intro HS
          first | refine sk' 0 HS ?_ | refine tk' 0 HS ?_
          first | refine sk' 1 HS ?_ | refine tk' 1 HS ?_
          first | refine sk' 2 HS ?_ | refine tk' 2 HS ?_
          first | refine sk' 3 HS ?_ | refine tk' 3 HS ?_
          first | refine sk' 4 HS ?_ | refine tk' 4 HS ?_
          first | refine sk' 5 HS ?_ | refine tk' 5 HS ?_
          first | refine sk' 6 HS ?_ | refine tk' 6 HS ?_
          first | refine sk' 7 HS ?_ | refine tk' 7 HS ?_
          first | refine sk' 8 HS ?_ | refine tk' 8 HS ?_
          first | refine sk' 9 HS ?_ | refine tk' 9 HS ?_
          first | refine sk' 10 HS ?_ | refine tk' 10 HS ?_
          first | refine sk' 11 HS ?_ | refine tk' 11 HS ?_
          first | refine sk' 12 HS ?_ | refine tk' 12 HS ?_
          first | refine sk' 13 HS ?_ | refine tk' 13 HS ?_
          first | refine sk' 14 HS ?_ | refine tk' 14 HS ?_
          first | refine sk' 15 HS ?_ | refine tk' 15 HS ?_
          first | refine sk' 16 HS ?_ | refine tk' 16 HS ?_
          first | refine sk' 17 HS ?_ | refine tk' 17 HS ?_
          first | refine sk' 18 HS ?_ | refine tk' 18 HS ?_
          first | refine sk' 19 HS ?_ | refine tk' 19 HS ?_
          first | refine sk' 20 HS ?_ | refine tk' 20 HS ?_
          first | refine sk' 21 HS ?_ | refine tk' 21 HS ?_
          first | refine sk' 22 HS ?_ | refine tk' 22 HS ?_
          first | refine sk' 23 HS ?_ | refine tk' 23 HS ?_
          refine cl' 24 fun K hK => ?_
          go_simp
          refine hK.out _ _ HS ?r1_24
          case r1_24 =>
            clear HS hK K; intro HS
            try simp only [Act.put, lpa, lpb, lpc]
            refine cl' 25 fun K hK => ?_
            go_simp
            refine hK.out _ _ HS ?r1_25
            case r1_25 =>
              clear HS hK K; intro HS
              try simp only [Act.put, lpa, lpb, lpc]
              first | refine sk' 26 HS ?_ | refine tk' 26 HS ?_
              first | refine sk' 27 HS ?_ | refine tk' 27 HS ?_
              refine wpAnyH_done (by kernel_rfl) ?_ _
              refine NoPanic.normal ?_
              go_wp2
              go_ret
              refine ⟨ret_bool ?_, hbw.trans HS.2.2.2.2.2.2.2⟩
              unfold fixB namesB; rw [all_not hxk.out (by rw [nmAt_at hyk.out, beq_sym]; exact hq)]; simp
      · rcases hcs with rfl | rfl
        · have hk0 := hi
          go_wp2_with fail
          refine wp_region_noPanic ?_
          refine wp_region_held_drew (S := (fun w' => (w'.cell? ⟨w.heap.size, 0, none⟩ = some (p_q) ∧ w'.cell? ⟨w.heap.size, 1, none⟩ = some (p_r) ∧ w'.cell? ⟨w.heap.size, 2, none⟩ = some (.int .i64 s.next) ∧ w'.cell? ⟨b1, o1 + i * 2, none⟩ = some (.string x.name) ∧ w'.cell? ⟨b1, o1 + i * 2 + 1, none⟩ = some (.slice pa x.query.length pc) ∧ w'.cell? ⟨b2, o2 + i * 2, none⟩ = some (.string y.name) ∧ w'.cell? ⟨b2, o2 + i * 2 + 1, none⟩ = some (.slice qa y.ids.length qc) ∧ Grew wr w'))) (by kernel_rfl) ?h2_S ?h2_r
          case h2_S => exact ⟨grew_cell (Grew.refl _).drew q0, grew_cell (Grew.refl _).drew q1, grew_cell (Grew.refl _).drew q2, grew_cell (Grew.refl _).drew c0, grew_cell (Grew.refl _).drew c1, grew_cell (Grew.refl _).drew d0, grew_cell (Grew.refl _).drew d1, (Grew.refl _).drew⟩
          case h2_r =>
            intro HS
            first | refine sk' 0 HS ?_ | refine tk' 0 HS ?_
            first | refine sk' 1 HS ?_ | refine tk' 1 HS ?_
            first | refine sk' 2 HS ?_ | refine tk' 2 HS ?_
            first | refine sk' 3 HS ?_ | refine tk' 3 HS ?_
            first | refine sk' 4 HS ?_ | refine tk' 4 HS ?_
            first | refine sk' 5 HS ?_ | refine tk' 5 HS ?_
            first | refine sk' 6 HS ?_ | refine tk' 6 HS ?_
            first | refine sk' 7 HS ?_ | refine tk' 7 HS ?_
            first | refine sk' 8 HS ?_ | refine tk' 8 HS ?_
            first | refine sk' 9 HS ?_ | refine tk' 9 HS ?_
            first | refine sk' 10 HS ?_ | refine tk' 10 HS ?_
            first | refine sk' 11 HS ?_ | refine tk' 11 HS ?_
            first | refine sk' 12 HS ?_ | refine tk' 12 HS ?_
            first | refine sk' 13 HS ?_ | refine tk' 13 HS ?_
            first | refine sk' 14 HS ?_ | refine tk' 14 HS ?_
            first | refine sk' 15 HS ?_ | refine tk' 15 HS ?_
            first | refine sk' 16 HS ?_ | refine tk' 16 HS ?_
            first | refine sk' 17 HS ?_ | refine tk' 17 HS ?_
            first | refine sk' 18 HS ?_ | refine tk' 18 HS ?_
            first | refine sk' 19 HS ?_ | refine tk' 19 HS ?_
            first | refine sk' 20 HS ?_ | refine tk' 20 HS ?_
            first | refine sk' 21 HS ?_ | refine tk' 21 HS ?_
            first | refine sk' 22 HS ?_ | refine tk' 22 HS ?_
            first | refine sk' 23 HS ?_ | refine tk' 23 HS ?_
            refine cl' 24 fun K hK => ?_
            go_simp
            go_at_call 63
            refine (specSelectFiles s ⟨p_q, p_r, s.next⟩ _ x.query _ rs _ (HST.out.grew (hbw.trans HS.2.2.2.2.2.2.2)) (HXQ.out.grew (hbw.trans HS.2.2.2.2.2.2.2)) (HR2.out.grew (hbw.trans HS.2.2.2.2.2.2.2)) hFb HFM.out hxs.2.1 hxs.2.2 hy0.out HRS.out).mono ?_
            rintro e w7 ⟨v7, rfl, hv7, hb⟩
            have HV7 := Lib.hid (rd_of_own hv7)
            obtain ⟨ia, ic, rfl⟩ := own_slice hv7
            clear hv7
            refine hK.out _ _ ?s2_24 ?r2_24
            case s2_24 => (try dsimp only); exact ⟨grew_cell hb HS.1, grew_cell hb HS.2.1, grew_cell hb HS.2.2.1, grew_cell hb HS.2.2.2.1, grew_cell hb HS.2.2.2.2.1, grew_cell hb HS.2.2.2.2.2.1, grew_cell hb HS.2.2.2.2.2.2.1, HS.2.2.2.2.2.2.2.trans hb⟩
            case r2_24 =>
              clear HS hK K; intro HS
              try simp only [Act.put, lpa, lpb, lpc]
              refine cl' 25 fun K hK => ?_
              go_simp
              go_at_call 62
              refine (l07Ints _ _ _ _ _ _ _ (HYQ.out.grew (hbw.trans HS.2.2.2.2.2.2.2)) HV7.out hys HSEL.out).mono ?_
              rintro e w8 ⟨he, hb⟩
              rw [same_comm, HSV.out] at he
              subst he
              refine hK.out _ _ ?s2_25 ?r2_25
              case s2_25 => (try dsimp only); exact ⟨grew_cell hb HS.1, grew_cell hb HS.2.1, grew_cell hb HS.2.2.1, grew_cell hb HS.2.2.2.1, grew_cell hb HS.2.2.2.2.1, grew_cell hb HS.2.2.2.2.2.1, grew_cell hb HS.2.2.2.2.2.2.1, HS.2.2.2.2.2.2.2.trans hb⟩
              case r2_25 =>
                clear HS hK K; intro HS
                try simp only [Act.put, lpa, lpb, lpc]
                first | refine sk' 26 HS ?_ | refine tk' 26 HS ?_
                first | refine sk' 27 HS ?_ | refine tk' 27 HS ?_
                refine wpAnyH_done (by kernel_rfl) ?_ _
                refine NoPanic.normal ?_
                go_wp2
                go_ret
                refine ⟨ret_bool ?_, hbw.trans HS.2.2.2.2.2.2.2⟩
                unfold fixB; rw [all_not (f := fxAt s rs) hxk.out (by rw [fxAt_at hyk.out]; exact HSV.out)]; simp
        · have hk0 := hi
          go_wp2_with fail
          refine wp_region_noPanic ?_
          refine wp_region_held_drew (S := (fun w' => (w'.cell? ⟨w.heap.size, 0, none⟩ = some (p_q) ∧ w'.cell? ⟨w.heap.size, 1, none⟩ = some (p_r) ∧ w'.cell? ⟨w.heap.size, 2, none⟩ = some (.int .i64 s.next) ∧ w'.cell? ⟨b1, o1 + i * 2, none⟩ = some (.string x.name) ∧ w'.cell? ⟨b1, o1 + i * 2 + 1, none⟩ = some (.slice pa x.query.length pc) ∧ w'.cell? ⟨b2, o2 + i * 2, none⟩ = some (.string y.name) ∧ w'.cell? ⟨b2, o2 + i * 2 + 1, none⟩ = some (.slice qa y.ids.length qc) ∧ Grew wr w'))) (by kernel_rfl) ?h3_S ?h3_r
          case h3_S => exact ⟨grew_cell (Grew.refl _).drew q0, grew_cell (Grew.refl _).drew q1, grew_cell (Grew.refl _).drew q2, grew_cell (Grew.refl _).drew c0, grew_cell (Grew.refl _).drew c1, grew_cell (Grew.refl _).drew d0, grew_cell (Grew.refl _).drew d1, (Grew.refl _).drew⟩
          case h3_r =>
            intro HS
            first | refine sk' 0 HS ?_ | refine tk' 0 HS ?_
            first | refine sk' 1 HS ?_ | refine tk' 1 HS ?_
            first | refine sk' 2 HS ?_ | refine tk' 2 HS ?_
            first | refine sk' 3 HS ?_ | refine tk' 3 HS ?_
            first | refine sk' 4 HS ?_ | refine tk' 4 HS ?_
            first | refine sk' 5 HS ?_ | refine tk' 5 HS ?_
            first | refine sk' 6 HS ?_ | refine tk' 6 HS ?_
            first | refine sk' 7 HS ?_ | refine tk' 7 HS ?_
            first | refine sk' 8 HS ?_ | refine tk' 8 HS ?_
            first | refine sk' 9 HS ?_ | refine tk' 9 HS ?_
            first | refine sk' 10 HS ?_ | refine tk' 10 HS ?_
            first | refine sk' 11 HS ?_ | refine tk' 11 HS ?_
            first | refine sk' 12 HS ?_ | refine tk' 12 HS ?_
            first | refine sk' 13 HS ?_ | refine tk' 13 HS ?_
            first | refine sk' 14 HS ?_ | refine tk' 14 HS ?_
            first | refine sk' 15 HS ?_ | refine tk' 15 HS ?_
            first | refine sk' 16 HS ?_ | refine tk' 16 HS ?_
            first | refine sk' 17 HS ?_ | refine tk' 17 HS ?_
            first | refine sk' 18 HS ?_ | refine tk' 18 HS ?_
            first | refine sk' 19 HS ?_ | refine tk' 19 HS ?_
            first | refine sk' 20 HS ?_ | refine tk' 20 HS ?_
            first | refine sk' 21 HS ?_ | refine tk' 21 HS ?_
            first | refine sk' 22 HS ?_ | refine tk' 22 HS ?_
            first | refine sk' 23 HS ?_ | refine tk' 23 HS ?_
            refine cl' 24 fun K hK => ?_
            go_simp
            go_at_call 63
            refine (specSelectFiles s ⟨p_q, p_r, s.next⟩ _ x.query _ rs _ (HST.out.grew (hbw.trans HS.2.2.2.2.2.2.2)) (HXQ.out.grew (hbw.trans HS.2.2.2.2.2.2.2)) (HR2.out.grew (hbw.trans HS.2.2.2.2.2.2.2)) hFb HFM.out hxs.2.1 hxs.2.2 hy0.out HRS.out).mono ?_
            rintro e w7 ⟨v7, rfl, hv7, hb⟩
            have HV7 := Lib.hid (rd_of_own hv7)
            obtain ⟨ia, ic, rfl⟩ := own_slice hv7
            clear hv7
            refine hK.out _ _ ?s3_24 ?r3_24
            case s3_24 => (try dsimp only); exact ⟨grew_cell hb HS.1, grew_cell hb HS.2.1, grew_cell hb HS.2.2.1, grew_cell hb HS.2.2.2.1, grew_cell hb HS.2.2.2.2.1, grew_cell hb HS.2.2.2.2.2.1, grew_cell hb HS.2.2.2.2.2.2.1, HS.2.2.2.2.2.2.2.trans hb⟩
            case r3_24 =>
              clear HS hK K; intro HS
              try simp only [Act.put, lpa, lpb, lpc]
              refine cl' 25 fun K hK => ?_
              go_simp
              go_at_call 62
              refine (l07Ints _ _ _ _ _ _ _ (HYQ.out.grew (hbw.trans HS.2.2.2.2.2.2.2)) HV7.out hys HSEL.out).mono ?_
              rintro e w8 ⟨he, hb⟩
              rw [same_comm, HSV.out] at he
              subst he
              refine hK.out _ _ ?s3_25 ?r3_25
              case s3_25 => (try dsimp only); exact ⟨grew_cell hb HS.1, grew_cell hb HS.2.1, grew_cell hb HS.2.2.1, grew_cell hb HS.2.2.2.1, grew_cell hb HS.2.2.2.2.1, grew_cell hb HS.2.2.2.2.2.1, grew_cell hb HS.2.2.2.2.2.2.1, HS.2.2.2.2.2.2.2.trans hb⟩
              case r3_25 =>
                clear HS hK K; intro HS
                try simp only [Act.put, lpa, lpb, lpc]
                first | refine sk' 26 HS ?_ | refine tk' 26 HS ?_
                first | refine sk' 27 HS ?_ | refine tk' 27 HS ?_
                refine wpAnyH_done (by kernel_rfl) ?_ _
                refine NoPanic.normal ?_
                go_wp2
                go_roundw
                case rel => exact ⟨i + 1, by omega, by go_num, Lib.hid (upTo_snoc hsame.out hxk.out (by show (nmAt rs i x && fxAt s rs i x) = true; rw [nmAt_at hyk.out, fxAt_at hyk.out, beq_sym, hq, HSV.out]; rfl)), hbel.trans HS.2.2.2.2.2.2.2⟩
                case measure => simp [intOf]; omega
    · obtain rfl : m = i := by omega
      have hup := up_both hsame.out
      have hy1 := Lib.hid (all_up HX.out hup.1)
      have hy2 := Lib.hid (all_up HX.out hup.2)
      clear hup
      go_wp2
      go_ret
      refine ⟨ret_bool ?_, hbw⟩
      unfold fixB namesB; rw [HSO.out, HSB.out, HNB.out, hy1.out, hy2.out]; rfl
set_option maxRecDepth 100000 in
set_option maxHeartbeats 4000000 in
theorem implIsFixpoint (s : St) (p : PS) (va : Value) (xs : List Dr) (vb : Value) (rs : List Rs) (w : World) (hs : St.R w s p) (ha : RdDs w va xs) (hb : RdRs w vb rs) (hx : xs.length ≤ 4000000) (hz : szAll Dr.sz xs ≤ 4000000) (hzs : s.sz ≤ 4000000) (hy : rs.length ≤ 4000000) (hrs : ∀ x, x ∈ rs → x.small) :
    Calls Tryz.prog 17 #[p.v, va, vb] w fun e w' => e = .returned (.bool (fixB xs s rs)) ∧ Grew w w' := by
  obtain ⟨p_q, p_r, p_n⟩ := p
  have hsn : p_n = s.next := hs.2.2
  subst hsn
  have HST := Lib.hid hs
  have HD := Lib.hid ha
  have HR := Lib.hid hb
  have HZ := Lib.hid hz
  have HZS := Lib.hid hzs
  have HRS := Lib.hid hrs
  have HFM := Lib.hid (show ∀ y, y ∈ s.files → y.small from (St.small_of hzs).2.2)
  have hFb : s.files.length ≤ 4000000 := by unfold St.sz at hzs; omega
  clear hs hrs
  obtain ⟨qs, ⟨a, ca, rfl, hca, hra⟩, hall⟩ := ha
  obtain ⟨ts, ⟨b, cb, rfl, hcb, hrb⟩, hbll⟩ := hb
  have HA := Lib.hid hall
  have HB := Lib.hid hbll
  clear hall hbll hca hcb
  have hg0 := (Grew.refl w).alloc (.cells #[p_q, p_r, .int .i64 s.next] 27)
  have x0 : (w.alloc (.cells #[p_q, p_r, .int .i64 s.next] 27)).cell? ⟨w.heap.size, 0, none⟩ = some p_q := by simp
  have x1 : (w.alloc (.cells #[p_q, p_r, .int .i64 s.next] 27)).cell? ⟨w.heap.size, 1, none⟩ = some p_r := by simp
  have x2 : (w.alloc (.cells #[p_q, p_r, .int .i64 s.next] 27)).cell? ⟨w.heap.size, 2, none⟩ = some (.int .i64 s.next) := by simp
  obtain ⟨n, hn⟩ : ∃ n, xs.length = n := ⟨_, rfl⟩
  obtain ⟨m, hm⟩ : ∃ m, rs.length = m := ⟨_, rfl⟩
  have HX := Lib.hid hn
  have HY := Lib.hid hm
  have HD2 := Lib.hid (show RdDs w (.slice a n ca) xs by have := HD.out; rw [hn] at this; exact this)
  have HR2 := Lib.hid (show RdRs w (.slice b m cb) rs by have := HR.out; rw [hm] at this; exact this)
  have hx0 := Lib.hid hx
  have hy0 := Lib.hid hy
  rw [hn] at hra hx ⊢
  rw [hm] at hrb hy ⊢
  clear HD HR hn hm hz hzs
  obtain ⟨bo, hbo⟩ : ∃ b, stoB s = b := ⟨_, rfl⟩
  obtain ⟨bt, hbt⟩ : ∃ b, stB xs = b := ⟨_, rfl⟩
  obtain ⟨bn, hbn⟩ : ∃ b, namesB xs rs = b := ⟨_, rfl⟩
  have HSO := Lib.hid hbo
  have HSB := Lib.hid hbt
  have HNB := Lib.hid hbn
  clear hbo hbt hbn
  have hco : bo = false ∨ bo = true := by cases bo <;> simp
  have hct : bt = false ∨ bt = true := by cases bt <;> simp
  have hcn : bn = false ∨ bn = true := by cases bn <;> simp
  change Calls Tryz.prog _ #[.agg #[p_q, p_r, .int .i64 s.next], _, _] w _
  rcases hco with rfl | rfl
  · go_enter Tryz.func17, Tryz.ntmps17
    go_wp2_with (first | (go_at_call 57; refine (implIsValidStore s ⟨p_q, p_r, s.next⟩ _ (HST.out.grew hg0) HZS.out).mono ?_; rintro e w1 ⟨he, hb1⟩; rw [HSO.out] at he; subst he; have hgg := hg0.trans hb1; have y0 := grew_cell hb1 x0; have y1 := grew_cell hb1 x1; have y2 := grew_cell hb1 x2) | (go_at_call 58; refine (implIsStratified _ xs _ (HD2.out.grew hgg) hx0.out HZ.out).mono ?_; rintro e w2 ⟨he, hb2⟩; rw [HSB.out] at he; subst he; have hgh := hgg.trans hb2; have z0 := grew_cell hb2 y0; have z1 := grew_cell hb2 y1; have z2 := grew_cell hb2 y2) | (go_at_call 59; refine (implHasNames _ _ xs rs _ (HD2.out.grew hgh) (HR2.out.grew hgh) hx0.out hy0.out).mono ?_; rintro e w3 ⟨he, hb3⟩; rw [HNB.out] at he; subst he; have hgk := hgh.trans hb3; have t0 := grew_cell hb3 z0; have t1 := grew_cell hb3 z1; have t2 := grew_cell hb3 z2))
    go_ret
    refine ⟨ret_bool ?_, hgg⟩
    unfold fixB; rw [HSO.out]; simp
  rcases hct with rfl | rfl
  · go_enter Tryz.func17, Tryz.ntmps17
    go_wp2_with (first | (go_at_call 57; refine (implIsValidStore s ⟨p_q, p_r, s.next⟩ _ (HST.out.grew hg0) HZS.out).mono ?_; rintro e w1 ⟨he, hb1⟩; rw [HSO.out] at he; subst he; have hgg := hg0.trans hb1; have y0 := grew_cell hb1 x0; have y1 := grew_cell hb1 x1; have y2 := grew_cell hb1 x2) | (go_at_call 58; refine (implIsStratified _ xs _ (HD2.out.grew hgg) hx0.out HZ.out).mono ?_; rintro e w2 ⟨he, hb2⟩; rw [HSB.out] at he; subst he; have hgh := hgg.trans hb2; have z0 := grew_cell hb2 y0; have z1 := grew_cell hb2 y1; have z2 := grew_cell hb2 y2) | (go_at_call 59; refine (implHasNames _ _ xs rs _ (HD2.out.grew hgh) (HR2.out.grew hgh) hx0.out hy0.out).mono ?_; rintro e w3 ⟨he, hb3⟩; rw [HNB.out] at he; subst he; have hgk := hgh.trans hb3; have t0 := grew_cell hb3 z0; have t1 := grew_cell hb3 z1; have t2 := grew_cell hb3 z2))
    go_ret
    refine ⟨ret_bool ?_, hgh⟩
    unfold fixB; rw [HSO.out, HSB.out]; simp
  rcases hcn with rfl | rfl
  · have hk0 := hx
    go_enter Tryz.func17, Tryz.ntmps17
    go_wp2_with (first | (go_at_call 57; refine (implIsValidStore s ⟨p_q, p_r, s.next⟩ _ (HST.out.grew hg0) HZS.out).mono ?_; rintro e w1 ⟨he, hb1⟩; rw [HSO.out] at he; subst he; have hgg := hg0.trans hb1; have y0 := grew_cell hb1 x0; have y1 := grew_cell hb1 x1; have y2 := grew_cell hb1 x2) | (go_at_call 58; refine (implIsStratified _ xs _ (HD2.out.grew hgg) hx0.out HZ.out).mono ?_; rintro e w2 ⟨he, hb2⟩; rw [HSB.out] at he; subst he; have hgh := hgg.trans hb2; have z0 := grew_cell hb2 y0; have z1 := grew_cell hb2 y1; have z2 := grew_cell hb2 y2) | (go_at_call 59; refine (implHasNames _ _ xs rs _ (HD2.out.grew hgh) (HR2.out.grew hgh) hx0.out hy0.out).mono ?_; rintro e w3 ⟨he, hb3⟩; rw [HNB.out] at he; subst he; have hgk := hgh.trans hb3; have t0 := grew_cell hb3 z0; have t1 := grew_cell hb3 z1; have t2 := grew_cell hb3 z2))
    go_ret
    refine ⟨ret_bool ?_, hgk⟩
    unfold fixB; rw [HSO.out, HSB.out, HNB.out]; simp
  have hmn : m = n := by have h1 := HNB.out; unfold namesB at h1; rw [HX.out, HY.out] at h1; simp at h1; omega
  subst hmn
  go_enter Tryz.func17, Tryz.ntmps17
  go_wp2_with (first | (go_at_call 57; refine (implIsValidStore s ⟨p_q, p_r, s.next⟩ _ (HST.out.grew hg0) HZS.out).mono ?_; rintro e w1 ⟨he, hb1⟩; rw [HSO.out] at he; subst he; have hgg := hg0.trans hb1; have y0 := grew_cell hb1 x0; have y1 := grew_cell hb1 x1; have y2 := grew_cell hb1 x2) | (go_at_call 58; refine (implIsStratified _ xs _ (HD2.out.grew hgg) hx0.out HZ.out).mono ?_; rintro e w2 ⟨he, hb2⟩; rw [HSB.out] at he; subst he; have hgh := hgg.trans hb2; have z0 := grew_cell hb2 y0; have z1 := grew_cell hb2 y1; have z2 := grew_cell hb2 y2) | (go_at_call 59; refine (implHasNames _ _ xs rs _ (HD2.out.grew hgh) (HR2.out.grew hgh) hx0.out hy0.out).mono ?_; rintro e w3 ⟨he, hb3⟩; rw [HNB.out] at he; subst he; have hgk := hgh.trans hb3; have t0 := grew_cell hb3 z0; have t1 := grew_cell hb3 z1; have t2 := grew_cell hb3 z2))
  go_loopw [25] (fun i wr => ∃ k : Nat, k ≤ m ∧ i = .int .i64 k ∧ Hid (upTo (fxAt s rs) xs k) ∧ Grew w3 wr) (fun i _ => m - (intOf i).toNat)
  case atStart => exact ⟨0, Nat.zero_le _, rfl, Lib.hid (upTo_zero _ _), Grew.refl _⟩
  case round =>
    obtain ⟨i, hi, rfl, hsame, hbel⟩ := hrel
    have hbw := hgk.trans hbel
    by_cases hlt : i < m
    · obtain ⟨b1, o1, p, rfl, hpk, c0, c1⟩ := (hra.grew hbw).getP2 hlt
      obtain ⟨b2, o2, q, rfl, hqk, d0, d1⟩ := (hrb.grew hbw).getP2 hlt
      obtain ⟨x, hxk, hxr⟩ := HA.out.get hpk.out
      obtain ⟨y, hyk, hyr⟩ := HB.out.get hqk.out
      have hxs := dir_sz HZ.out hxk.out
      have hys : y.ids.length ≤ 4000000 := HRS.out y (List.mem_of_getElem? hyk.out)
      obtain ⟨pn, pq⟩ := p
      obtain ⟨qn, qq⟩ := q
      obtain ⟨hxn, hxq⟩ := hxr
      obtain ⟨hyn, hyq⟩ := hyr
      simp only at hxn hyn hxq hyq c0 c1 d0 d1
      subst hxn hyn
      have HXQ := Lib.hid hxq
      have HYQ := Lib.hid hyq
      obtain ⟨pa, pc, rfl, hpc, hpr⟩ := hxq
      obtain ⟨qa, qc, rfl, hqc, hqr⟩ := hyq
      clear hpr hqr hpc hqc
      have hsl := selL_len x.query s.files rs
      have HSEL := Lib.hid (show (selL x.query s.files rs).length ≤ 4000000 by omega)
      clear hsl
      obtain ⟨sv, hsv⟩ : ∃ v, sameB (selL x.query s.files rs) y.ids = v := ⟨_, rfl⟩
      have HSV := Lib.hid hsv
      clear hsv
      have hcs : sv = false ∨ sv = true := by cases sv <;> simp
      have q0 := grew_cell hbel t0
      have q1 := grew_cell hbel t1
      have q2 := grew_cell hbel t2
      have him : (i : Int) < (m : Int) := by omega
      have hgy := (Grew.refl wr).alloc (.cells #[.string x.name, .slice pa x.query.length pc] 39)
      have v0 := grew_cell hgy q0
      have v1 := grew_cell hgy q1
      have v2 := grew_cell hgy q2
      have v3 := grew_cell hgy d1
      have w1 : (wr.alloc (.cells #[.string x.name, .slice pa x.query.length pc] 39)).cell? ⟨wr.heap.size, 1, none⟩ = some (.slice pa x.query.length pc) := by simp
      rcases hcs with rfl | rfl
      · have hk0 := hi
        go_wp2_with fail
        refine wp_region_noPanic ?_
        refine wp_region_held_drew (S := (fun w' => (w'.cell? ⟨w.heap.size, 0, none⟩ = some (p_q) ∧ w'.cell? ⟨w.heap.size, 1, none⟩ = some (p_r) ∧ w'.cell? ⟨w.heap.size, 2, none⟩ = some (.int .i64 s.next) ∧ w'.cell? ⟨wr.heap.size, 1, none⟩ = some (.slice pa x.query.length pc) ∧ w'.cell? ⟨b2, o2 + i * 2 + 1, none⟩ = some (.slice qa y.ids.length qc) ∧ Grew (wr.alloc (.cells #[.string x.name, .slice pa x.query.length pc] 39)) w'))) (by kernel_rfl) ?h4_S ?h4_r
        case h4_S => exact ⟨grew_cell (Grew.refl _).drew v0, grew_cell (Grew.refl _).drew v1, grew_cell (Grew.refl _).drew v2, grew_cell (Grew.refl _).drew w1, grew_cell (Grew.refl _).drew v3, (Grew.refl _).drew⟩
        case h4_r =>
          intro HS
          first | refine sk' 0 HS ?_ | refine tk' 0 HS ?_
          first | refine sk' 1 HS ?_ | refine tk' 1 HS ?_
          first | refine sk' 2 HS ?_ | refine tk' 2 HS ?_
          first | refine sk' 3 HS ?_ | refine tk' 3 HS ?_
          first | refine sk' 5 HS ?_ | refine tk' 5 HS ?_
          first | refine sk' 6 HS ?_ | refine tk' 6 HS ?_
          first | refine sk' 7 HS ?_ | refine tk' 7 HS ?_
          first | refine sk' 8 HS ?_ | refine tk' 8 HS ?_
          first | refine sk' 9 HS ?_ | refine tk' 9 HS ?_
          refine cl' 4 fun K hK => ?_
          go_simp
          go_at_call 61
          refine (implSelectFiles s ⟨p_q, p_r, s.next⟩ _ x.query _ rs _ (HST.out.grew (hbw.trans (hgy.trans HS.2.2.2.2.2))) (HXQ.out.grew (hbw.trans (hgy.trans HS.2.2.2.2.2))) (HR2.out.grew (hbw.trans (hgy.trans HS.2.2.2.2.2))) hFb HFM.out hxs.2.1 hxs.2.2 hy0.out HRS.out).mono ?_
          rintro e w7 ⟨v7, rfl, hv7, hb⟩
          have HV7 := Lib.hid (rd_of_own hv7)
          obtain ⟨ia, ic, rfl⟩ := own_slice hv7
          clear hv7
          refine hK.out _ _ ?s4_4 ?r4_4
          case s4_4 => (try dsimp only); exact ⟨grew_cell hb HS.1, grew_cell hb HS.2.1, grew_cell hb HS.2.2.1, grew_cell hb HS.2.2.2.1, grew_cell hb HS.2.2.2.2.1, HS.2.2.2.2.2.trans hb⟩
          case r4_4 =>
            clear HS hK K; intro HS
            try simp only [Act.put, lpa, lpb, lpc]
            refine cl' 10 fun K hK => ?_
            go_simp
            go_at_call 60
            refine (slEqualInt _ _ _ _ _ _ _ HV7.out (HYQ.out.grew (hbw.trans (hgy.trans HS.2.2.2.2.2))) HSEL.out hys).mono ?_
            rintro e w8 ⟨he, hb⟩
            rw [HSV.out] at he
            subst he
            refine hK.out _ _ ?s4_10 ?r4_10
            case s4_10 => (try dsimp only); exact ⟨grew_cell hb HS.1, grew_cell hb HS.2.1, grew_cell hb HS.2.2.1, grew_cell hb HS.2.2.2.1, grew_cell hb HS.2.2.2.2.1, HS.2.2.2.2.2.trans hb⟩
            case r4_10 =>
              clear HS hK K; intro HS
              try simp only [Act.put, lpa, lpb, lpc]
              first | refine sk' 11 HS ?_ | refine tk' 11 HS ?_
              refine wpAnyH_done (by kernel_rfl) ?_ _
              refine NoPanic.normal ?_
              go_wp2
              go_ret
              refine ⟨ret_bool ?_, hbw.trans (hgy.trans HS.2.2.2.2.2)⟩
              unfold fixB; rw [all_not (f := fxAt s rs) hxk.out (by rw [fxAt_at hyk.out]; exact HSV.out)]; simp
      · have hk0 := hi
        go_wp2_with fail
        refine wp_region_noPanic ?_
        refine wp_region_held_drew (S := (fun w' => (w'.cell? ⟨w.heap.size, 0, none⟩ = some (p_q) ∧ w'.cell? ⟨w.heap.size, 1, none⟩ = some (p_r) ∧ w'.cell? ⟨w.heap.size, 2, none⟩ = some (.int .i64 s.next) ∧ w'.cell? ⟨wr.heap.size, 1, none⟩ = some (.slice pa x.query.length pc) ∧ w'.cell? ⟨b2, o2 + i * 2 + 1, none⟩ = some (.slice qa y.ids.length qc) ∧ Grew (wr.alloc (.cells #[.string x.name, .slice pa x.query.length pc] 39)) w'))) (by kernel_rfl) ?h5_S ?h5_r
        case h5_S => exact ⟨grew_cell (Grew.refl _).drew v0, grew_cell (Grew.refl _).drew v1, grew_cell (Grew.refl _).drew v2, grew_cell (Grew.refl _).drew w1, grew_cell (Grew.refl _).drew v3, (Grew.refl _).drew⟩
        case h5_r =>
          intro HS
          first | refine sk' 0 HS ?_ | refine tk' 0 HS ?_
          first | refine sk' 1 HS ?_ | refine tk' 1 HS ?_
          first | refine sk' 2 HS ?_ | refine tk' 2 HS ?_
          first | refine sk' 3 HS ?_ | refine tk' 3 HS ?_
          first | refine sk' 5 HS ?_ | refine tk' 5 HS ?_
          first | refine sk' 6 HS ?_ | refine tk' 6 HS ?_
          first | refine sk' 7 HS ?_ | refine tk' 7 HS ?_
          first | refine sk' 8 HS ?_ | refine tk' 8 HS ?_
          first | refine sk' 9 HS ?_ | refine tk' 9 HS ?_
          refine cl' 4 fun K hK => ?_
          go_simp
          go_at_call 61
          refine (implSelectFiles s ⟨p_q, p_r, s.next⟩ _ x.query _ rs _ (HST.out.grew (hbw.trans (hgy.trans HS.2.2.2.2.2))) (HXQ.out.grew (hbw.trans (hgy.trans HS.2.2.2.2.2))) (HR2.out.grew (hbw.trans (hgy.trans HS.2.2.2.2.2))) hFb HFM.out hxs.2.1 hxs.2.2 hy0.out HRS.out).mono ?_
          rintro e w7 ⟨v7, rfl, hv7, hb⟩
          have HV7 := Lib.hid (rd_of_own hv7)
          obtain ⟨ia, ic, rfl⟩ := own_slice hv7
          clear hv7
          refine hK.out _ _ ?s5_4 ?r5_4
          case s5_4 => (try dsimp only); exact ⟨grew_cell hb HS.1, grew_cell hb HS.2.1, grew_cell hb HS.2.2.1, grew_cell hb HS.2.2.2.1, grew_cell hb HS.2.2.2.2.1, HS.2.2.2.2.2.trans hb⟩
          case r5_4 =>
            clear HS hK K; intro HS
            try simp only [Act.put, lpa, lpb, lpc]
            refine cl' 10 fun K hK => ?_
            go_simp
            go_at_call 60
            refine (slEqualInt _ _ _ _ _ _ _ HV7.out (HYQ.out.grew (hbw.trans (hgy.trans HS.2.2.2.2.2))) HSEL.out hys).mono ?_
            rintro e w8 ⟨he, hb⟩
            rw [HSV.out] at he
            subst he
            refine hK.out _ _ ?s5_10 ?r5_10
            case s5_10 => (try dsimp only); exact ⟨grew_cell hb HS.1, grew_cell hb HS.2.1, grew_cell hb HS.2.2.1, grew_cell hb HS.2.2.2.1, grew_cell hb HS.2.2.2.2.1, HS.2.2.2.2.2.trans hb⟩
            case r5_10 =>
              clear HS hK K; intro HS
              try simp only [Act.put, lpa, lpb, lpc]
              first | refine sk' 11 HS ?_ | refine tk' 11 HS ?_
              refine wpAnyH_done (by kernel_rfl) ?_ _
              refine NoPanic.normal ?_
              go_wp2
              go_roundw
              case rel => exact ⟨i + 1, by omega, by go_num, Lib.hid (upTo_snoc hsame.out hxk.out (by rw [fxAt_at hyk.out]; exact HSV.out)), hbel.trans (hgy.trans HS.2.2.2.2.2)⟩
              case measure => simp [intOf]; omega
    · obtain rfl : m = i := by omega
      have hy2 := Lib.hid (all_up HX.out hsame.out)
      go_wp2
      go_ret
      refine ⟨ret_bool ?_, hbw⟩
      unfold fixB; rw [HSO.out, HSB.out, HNB.out, hy2.out]; rfl
end Go.Proofs.YtkkbhhmhkpgbkaaGreat
