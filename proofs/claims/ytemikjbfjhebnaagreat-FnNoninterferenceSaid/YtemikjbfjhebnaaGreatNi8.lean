/- Texts K6, Z15, M1, as far as they are needed. -/
import Derived.Test.YtemikjbfjhebnaaGreatNi7
import Derived.Test.YtemikjbfjhebnaaGreatNi3
import Derived.Test.YtemikjbfjhebnaaGreatNi2
import Derived.Test.YtemikjbfjhebnaaGreatNi0
import Derived.Test.YtemikjbfjhebnaaGreatNi1
namespace Go.Proofs.YtemikjbfjhebnaaGreat
open Go.RowKit Go.Sort
set_option linter.unusedVariables false
theorem stB_yes {xs : List Dr} {n : Nat} (hn : xs.length = n) (h1 : dirsB xs = true) (h2 : strB n (dirE xs) = true) : stB xs = true ∧ stL xs = strL n (dirE xs) := by
  subst hn
  have h : stB xs = true := by unfold stB; rw [h1, h2]; rfl
  exact ⟨h, by unfold stL; rw [if_pos h]⟩
theorem stB_no1 {xs : List Dr} (h1 : dirsB xs = false) : stB xs = false ∧ stL xs = [] := by
  have h : stB xs = false := by unfold stB; rw [h1]; rfl
  exact ⟨h, by unfold stL; rw [h]; rfl⟩
theorem stB_no2 {xs : List Dr} {n : Nat} (hn : xs.length = n) (h2 : strB n (dirE xs) = false) : stB xs = false ∧ stL xs = [] := by
  subst hn
  have h : stB xs = false := by unfold stB; rw [h2]; simp
  exact ⟨h, by unfold stL; rw [h]; rfl⟩
theorem stL_len {xs : List Dr} (h : stB xs = true) : (stL xs).length = xs.length := by unfold stL; rw [if_pos h]; exact strL_len _ _
theorem stL_le (xs : List Dr) : (stL xs).length ≤ xs.length := by
  cases h : stB xs with
  | true => rw [stL_len h]; exact Nat.le_refl _
  | false => unfold stL; rw [h]; exact Nat.zero_le _
theorem same_nats {L M : List Nat} : sameB (L.map fun (x : Nat) => (x : Int)) (M.map fun (x : Nat) => (x : Int)) = decide (L = M) := by
  by_cases h : L = M
  · subst h; rw [sameB_yes rfl]; simp
  · rw [sameB_no (fun e => h ?_)]
    · simp [h]
    · have := congrArg (List.map Int.toNat) e
      simpa [List.map_map, Function.comp_def] using this
theorem bd_strL {xs : List Dr} {n r : Nat} (hn : xs.length = n) (h5 : n ≤ 5) (h9 : ∀ x, x ∈ xs → x.query.length ≤ 9) (hr : r ≤ 30) : Bd 900000 (iter n (dirE xs) r) := by
  refine bd_mono (bd_iter hn h9 r) ?_
  have h1 : 18 * n * r ≤ 90 * 30 := Nat.mul_le_mul (by omega) hr
  omega
theorem rd_nats {w : World} {v : Value} {n : Nat} {L : List Nat} (h : Rd w v 1 n (natsV L)) : Rd w v 1 n (ints (L.map fun (x : Nat) => (x : Int))) := by rw [← natsV_ints]; exact h
def oneIf : Value → Nat | .bool true => 1 | _ => 0
set_option maxRecDepth 100000 in
set_option maxHeartbeats 2000000 in
theorem specStrata (va : Value) (xs : List Dr) (w : World) (ha : RdDs w va xs) (hx : xs.length ≤ 4000000) (hz : szAll Dr.sz xs ≤ 4000000) :
    Calls Tryz.prog 62 #[va] w fun e w' => ∃ v, e = .returned (.tuple #[v, .bool (stB xs)]) ∧ w'.ownsRow w.heap.size 3 1 v (stL xs).length (natsV (stL xs)) ∧ Grew w w' := by
  have HD := Lib.hid ha
  have HZ := Lib.hid hz
  have HX0 := Lib.hid hx
  obtain ⟨qs, ⟨a, ca, rfl, hca, hra⟩, hall⟩ := ha
  clear hall hra hca
  obtain ⟨vb, hvb⟩ : ∃ b, dirsB xs = b := ⟨_, rfl⟩
  have HV := Lib.hid hvb
  clear hvb hz
  have hcs : vb = true ∨ vb = false := by cases vb <;> simp
  rcases hcs with rfl | rfl
  · have H9 := Lib.hid (dirs_use HV.out).2
    have h5 := (dirs_use HV.out).1
    obtain ⟨n, hn⟩ : ∃ n, xs.length = n := ⟨_, rfl⟩
    have HX := Lib.hid hn
    have HD2 := Lib.hid (show RdDs w (.slice a n ca) xs by have := HD.out; rw [hn] at this; exact this)
    rw [hn] at h5 ⊢
    clear HD hx
    obtain ⟨N, hN⟩ : ∃ N, n * n = N := ⟨_, rfl⟩
    have hN25 : N ≤ 25 := by have := Nat.mul_le_mul h5 h5; omega
    have hnn : IntKind.i64.wrap ((n : Int) * (n : Int)) = (N : Int) := by
      have : (n : Int) * (n : Int) = (N : Int) := by rw [← hN]; exact (Int.natCast_mul n n).symm
      rw [this]; simp [IntKind.wrap, IntKind.bits, IntKind.signed]; omega
    have hnn1 : IntKind.i64.wrap ((N : Int) + 1) = ((N + 1 : Nat) : Int) := by simp [IntKind.wrap, IntKind.bits, IntKind.signed]; omega
    have HN := Lib.hid hN
    clear hN hn
    obtain ⟨i0, hi, hz0, hz1, hz2⟩ := info_parts Tryz.infoInt
    obtain ⟨sb, hsb⟩ : ∃ b, strB n (dirE xs) = b := ⟨_, rfl⟩
    have HSB := Lib.hid hsb
    clear hsb
    go_enter Tryz.func62, Tryz.ntmps62
    go_wp2_with fail
    refine (specIsValidDirs _ xs _ HD2.out HX0.out HZ.out).mono ?_
    rintro e w1 ⟨he, hb⟩
    rw [HV.out] at he; subst he
    go_wp2_with (at_make; refine wpList_make_full _ rfl _ _ 35 rfl w1.heap.size 3 i0 (.int .i64 0) 1 Tryz.underlying35 hi hz0 hz1 _ _ _ _ n rfl rfl rfl rfl ?b2 ?b3 (Nat.le_refl _) ?_)
    case b2 => rw [hz2]; omega
    case b3 => unfold maxLen; omega
    intro w0 hown0 hgrow0
    clear hi hz0 hz1 hz2
    have hb0 : Grew w1 w0 := (Grew.refl _).grown hgrow0 (fun k h => by cases h)
    have HO := Lib.hid (show w0.ownsRow w.heap.size 3 1 (.slice (some ⟨w1.heap.size, 0, none⟩) n n) n (natsV (iter n (dirE xs) 0)) from ownsRow_base (by simpa [Value.cells, toList_madeCells_one, iter, natsV] using hown0) hb.size)
    clear hown0 hgrow0
    have hg0 := hb.trans hb0
    go_wp2
    go_loopw [4, 5] (fun v i wr => ∃ r : Nat, r ≤ N + 2 ∧ i = .int .i64 r ∧ Hid (wr.ownsRow w.heap.size 3 1 v n (natsV (iter n (dirE xs) r))) ∧ Grew w wr) (fun _ i _ => N + 2 - (intOf i).toNat)
    case atStart => exact ⟨0, Nat.zero_le _, rfl, HO, hg0⟩
    case round =>
      obtain ⟨r, hr, rfl, hown, hbel⟩ := hrel
      obtain ⟨oa, oc, rfl⟩ := own_slice hown.out
      have HR := Lib.hid (rd_of_own hown.out)
      by_cases hlt : r ≤ N + 1
      · go_wp2_with (go_at_call 85; refine (l13Raise _ oa oc xs (iter n (dirE xs) r) n _ (HD2.out.grew hbel) HR.out.rda (by rw [iter_len, HX.out]) HX.out h5 H9.out HZ.out (bd_strL HX.out h5 H9.out (by omega))).mono ?_; rintro e w2 ⟨v2, rfl, hown2, hb2⟩; have HO2 := Lib.hid hown2; clear hown2)
        go_roundw
        case rel => exact ⟨r + 1, by omega, by go_num, Lib.hid (ownsRow_base HO2.out hbel.size), hbel.trans hb2⟩
        case measure => simp [intOf]; omega
      · obtain rfl : r = N + 2 := by omega
        have HSL := Lib.hid (show iter n (dirE xs) (N + 2) = strL n (dirE xs) by unfold strL; rw [HN.out])
        rw [HSL.out] at hown HR
        have HSD := Lib.hid (show decide (raise n (dirE xs) (strL n (dirE xs)) = strL n (dirE xs)) = sb from HSB.out)
        have hcs : sb = true ∨ sb = false := by cases sb <;> simp
        rcases hcs with rfl | rfl
        all_goals
          go_wp2_with (first | (go_at_call 85; refine (l13Raise _ oa oc xs (strL n (dirE xs)) n _ (HD2.out.grew hbel) HR.out.rda (by rw [strL_len, HX.out]) HX.out h5 H9.out HZ.out (by rw [← HSL.out]; exact bd_strL HX.out h5 H9.out (by omega))).mono ?_; rintro e w2 ⟨v2, rfl, hown2, hb2⟩; have HO2 := Lib.hid (rd_of_own hown2); clear hown2) | (go_at_call 42; refine (l07Ints _ _ n n _ _ _ (rd_nats HO2.out) (rd_nats (HR.out.grew hb2)) (by omega) (by omega)).mono ?_; rintro e w3 ⟨he, hb3⟩; rw [same_nats, HSD.out] at he; subst he))
          go_ret2
        · have h1 := stB_yes HX.out HV.out HSB.out
          rw [h1.1]
          refine ⟨_, rfl, ?_, (hbel.trans hb2).trans hb3⟩
          rw [h1.2, strL_len]
          exact ownsRow_grew hown.out (hb2.trans hb3)
        · have h1 := stB_no2 HX.out HSB.out
          rw [h1.1]
          refine ⟨_, rfl, ?_, ((hbel.trans hb2).trans hb3).alloc _⟩
          rw [h1.2]
          exact ownsRow_base (lit_own w3 3 1) ((hbel.trans hb2).trans hb3).size
  · have h1 := stB_no1 HV.out
    have H1 := Lib.hid h1
    clear h1
    go_enter Tryz.func62, Tryz.ntmps62
    go_wp2_with (go_at_call 84; refine (specIsValidDirs _ xs _ HD.out HX0.out HZ.out).mono ?_; rintro e w1 ⟨he, hb⟩; rw [HV.out] at he; subst he)
    go_ret2
    rw [H1.out.1]
    refine ⟨_, rfl, ?_, hb.alloc _⟩
    rw [H1.out.2]
    exact ownsRow_base (lit_own w1 3 1) hb.size
theorem way_sum {w : World} {b g n N : Nat} {es : Edges} {L : List Nat} (h : w.ownsRow b 3 1 (.slice (some ⟨g, 0, none⟩) n n) n (natsV L)) (hw : Way n es L) (hN : n * n = N) : sumW w g n = sumN L ∧ sumN L ≤ N := by
  refine ⟨sumW_of hw.len (fun j hj => ?_), ?_⟩
  · obtain ⟨x, hx, hc⟩ := own_one (f := fun x : Nat => Value.int .i64 (x : Int)) h hj
    rw [hc, gt_at hx.out]
  · rw [← hN]
    exact sum_bound (fun x hx => by obtain ⟨i, hi, rfl⟩ := mem_gt hx; exact hw.top i (by rw [← hw.len]; exact hi)) hw.len
theorem rd_len {α : Type} {f : α → Value} {w : World} {v : Value} {n : Nat} {L : List α} (h : Rd w v 1 n (L.map f)) (hl : L.length = n) : Rd w v 1 L.length (L.map f) := by rw [hl]; exact h
set_option maxRecDepth 100000 in
set_option maxHeartbeats 4000000 in
theorem implStrata (va : Value) (xs : List Dr) (w : World) (ha : RdDs w va xs) (hx : xs.length ≤ 4000000) (hz : szAll Dr.sz xs ≤ 4000000) :
    Calls Tryz.prog 88 #[va] w fun e w' => ∃ v, e = .returned (.tuple #[v, .bool (stB xs)]) ∧ w'.ownsRow w.heap.size 3 1 v (stL xs).length (natsV (stL xs)) ∧ Grew w w' := by
  have HD := Lib.hid ha
  have HZ := Lib.hid hz
  have HX0 := Lib.hid hx
  obtain ⟨qs, ⟨a, ca, rfl, hca, hra⟩, hall⟩ := ha
  have HA := Lib.hid hall
  clear hall hca
  obtain ⟨vb, hvb⟩ : ∃ b, dirsB xs = b := ⟨_, rfl⟩
  have HV := Lib.hid hvb
  clear hvb hz
  have hcs : vb = true ∨ vb = false := by cases vb <;> simp
  rcases hcs with rfl | rfl
  · have H9 := Lib.hid (dirs_use HV.out).2
    have h5 := (dirs_use HV.out).1
    obtain ⟨n, hn⟩ : ∃ n, xs.length = n := ⟨_, rfl⟩
    have HX := Lib.hid hn
    have HD2 := Lib.hid (show RdDs w (.slice a n ca) xs by have := HD.out; rw [hn] at this; exact this)
    rw [hn] at h5 hra ⊢
    clear HD hx
    have HOK := Lib.hid (dirE_ok (xs := xs) hn)
    obtain ⟨N, hN⟩ : ∃ N, n * n = N := ⟨_, rfl⟩
    have HN := Lib.hid hN
    clear hN hn
    obtain ⟨i0, hi, hz0, hz1, hz2⟩ := info_parts Tryz.infoInt
    go_enter Tryz.func88, Tryz.ntmps88
    go_wp2_with fail
    refine (implIsValidDirs _ xs _ HD2.out HX0.out HZ.out).mono ?_
    rintro e w1 ⟨he, hb⟩
    rw [HV.out] at he; subst he
    go_wp2_with (at_make; refine wpList_make_full _ rfl _ _ 35 rfl w1.heap.size 3 i0 (.int .i64 0) 1 Tryz.underlying35 hi hz0 hz1 _ _ _ _ n rfl rfl rfl rfl ?b2 ?b3 (Nat.le_refl _) ?_)
    case b2 => rw [hz2]; omega
    case b3 => unfold maxLen; omega
    intro w0 hown0 hgrow0
    clear hi hz0 hz1 hz2
    have hb0 : Grew w1 w0 := (Grew.refl _).grown hgrow0 (fun k h => by cases h)
    have HO := Lib.hid (show w0.ownsRow w.heap.size 3 1 (.slice (some ⟨w1.heap.size, 0, none⟩) n n) n (natsV (List.replicate n 0)) from ownsRow_base (by simpa [Value.cells, toList_madeCells_one, natsV] using hown0) hb.size)
    clear hown0 hgrow0
    have hg0 := hb.trans hb0
    have hg1 := hb.size
    obtain ⟨g, hgdef⟩ : ∃ g, w1.heap.size = g := ⟨_, rfl⟩
    rw [hgdef] at HO hg1 ⊢
    clear hgdef hb0
    go_wp2
    go_loopw [5] (fun c wr => ∃ (L : List Nat) (b : Bool), c = .bool b ∧ Hid (wr.ownsRow w.heap.size 3 1 (.slice (some ⟨g, 0, none⟩) n n) n (natsV L)) ∧ Hid (Way n (dirE xs) L) ∧ Hid (b = false → MetTo (dirE xs) L n) ∧ Grew w wr) (fun c wr => 2 * (N - sumW wr g n) + oneIf c)
    case atStart => exact ⟨_, true, rfl, HO, Lib.hid (Way.start n _), Lib.hid (fun h => by cases h), hg0⟩
    case round =>
      obtain ⟨L, b, rfl, hown, hway, hmet, hbel⟩ := hrel
      have hcs : b = true ∨ b = false := by cases b <;> simp
      rcases hcs with rfl | rfl
      · clear hmet
        have HW0 := Lib.hid (way_sum hown.out hway.out HN.out)
        obtain ⟨W1, rfl⟩ : ∃ y, y = wr := ⟨_, rfl⟩
        go_wp2
        go_loopw [5, 18] (fun c i wr => ∃ (k : Nat) (L' : List Nat) (b' : Bool), k ≤ n ∧ i = .int .i64 k ∧ c = .bool b' ∧ Hid (wr.ownsRow w.heap.size 3 1 (.slice (some ⟨g, 0, none⟩) n n) n (natsV L')) ∧ Hid (Way n (dirE xs) L') ∧ Hid ((b' = false → L' = L ∧ MetTo (dirE xs) L' k) ∧ (b' = true → sumN L < sumN L')) ∧ Grew w wr) (fun _ i _ => n - (intOf i).toNat)
        case atStart => exact ⟨0, L, false, Nat.zero_le _, rfl, rfl, hown, hway, Lib.hid ⟨fun _ => ⟨rfl, MetTo.start _ _⟩, fun h => by cases h⟩, hbel⟩
        case round =>
          obtain ⟨k, L', b', hk, rfl, rfl, hown', hway', hst, hbel'⟩ := hrel
          by_cases hlt : k < n
          · obtain ⟨b1, o1, p, rfl, hpk, c0, c1⟩ := (hra.grew hbel').getP2 hlt
            obtain ⟨x, hxk, hxr⟩ := HA.out.get hpk.out
            have hxs := dir_sz HZ.out hxk.out
            have hq9 := H9.out x (List.mem_of_getElem? hxk.out)
            obtain ⟨pn, pq⟩ := p
            obtain ⟨hxn, hxq⟩ := hxr
            simp only at hxn hxq c0 c1
            subst hxn
            have HQ := Lib.hid hxq
            obtain ⟨pa, pc, rfl, hpc, hpr⟩ := hxq
            clear hpr hpc
            have HE := Lib.hid (dirE_at hxk.out)
            have hd1 := depsL_le x.query false
            have hd2 := depsL_le x.query true
            obtain ⟨z, hzk, e2⟩ := own_one hown'.out hlt
            have hzg := Lib.hid (gt_at hzk.out)
            have hfz := hown'.out.frozenAt k
            have hgw := (hown'.out.lt g rfl).2
            have HLL := Lib.hid hway'.out.len
            have HTOP := Lib.hid (show Bd 1000000 L' from fun i => by
              by_cases hi : i < n
              · exact Nat.le_trans (hway'.out.top i hi) (by omega)
              · unfold gt; rw [List.getD_eq_getElem?_getD, List.getElem?_eq_none (by rw [hway'.out.len]; omega)]; exact Nat.zero_le _)
            obtain ⟨p1, hp1⟩ : ∃ t, abv L' (edg xs (depsL x.query false) 0) = t := ⟨_, rfl⟩
            obtain ⟨p2, hp2⟩ : ∃ t, abv L' (edg xs (depsL x.query true) 1) = t := ⟨_, rfl⟩
            have HP1 := Lib.hid hp1
            have HP2 := Lib.hid hp2
            have hpb1 : p1 ≤ 1000001 := by rw [← hp1]; exact abv_bd HTOP.out (by omega)
            have hpb2 : p2 ≤ 1000001 := by rw [← hp2]; exact abv_bd HTOP.out (by omega)
            have HLS := Lib.hid (show lst L' (edg xs (depsL x.query false) 0) (edg xs (depsL x.query true) 1) = max p1 p2 by unfold lst; rw [hp1, hp2])
            clear hp1 hp2
            obtain ⟨lv, hlv⟩ : ∃ t, max p1 p2 = t := ⟨_, rfl⟩
            have hmx : max (p1 : Int) (p2 : Int) = (lv : Int) := by omega
            rw [hlv] at HLS
            have hcase : (n < lv) ∨ (lv ≤ n ∧ z < lv) ∨ (lv ≤ n ∧ lv ≤ z) := by omega
            have hkq2 : (k : Int) < (n : Int) := by omega
            rcases hcase with hc | ⟨hc0, hc⟩ | ⟨hc0, hc⟩
            · have hal := (Grew.refl wr).alloc (.cells #[.string x.name, .slice pa x.query.length pc] 39)
              have hc2 : (n : Int) < (lv : Int) := by omega
              go_wp2_with fail
              refine wp_region_noPanic ?_
              refine wp_region_held_drew (S := (fun w' => (w'.cell? ⟨wr.heap.size, 1, none⟩ = some (.slice pa x.query.length pc) ∧ Grew (wr.alloc (.cells #[.string x.name, .slice pa x.query.length pc] 39)) w'))) (by kernel_rfl) ?h1_S ?h1_r
              case h1_S => exact ⟨grew_cell (Grew.refl _).drew (by simp), (Grew.refl _).drew⟩
              case h1_r =>
                intro HS
                first | refine sk' 0 HS ?_ | refine tk' 0 HS ?_
                first | refine sk' 1 HS ?_ | refine tk' 1 HS ?_
                first | refine sk' 2 HS ?_ | refine tk' 2 HS ?_
                first | refine sk' 3 HS ?_ | refine tk' 3 HS ?_
                first | refine sk' 6 HS ?_ | refine tk' 6 HS ?_
                first | refine sk' 7 HS ?_ | refine tk' 7 HS ?_
                first | refine sk' 8 HS ?_ | refine tk' 8 HS ?_
                first | refine sk' 9 HS ?_ | refine tk' 9 HS ?_
                refine cl' 4 fun K hK => ?_
                go_simp
                go_at_call 108
                refine (implPositiveDeps _ x.query.length x.query _ (HQ.out.grew (hbel'.trans (hal.trans HS.2))) hxs.2.1 hxs.2.2).mono ?_
                rintro e wa ⟨va, rfl, hva, hbq⟩
                have HVa := Lib.hid (rd_of_own hva)
                clear hva
                refine hK.out _ _ ?s1_4 ?r1_4
                case s1_4 => (try dsimp only); exact ⟨grew_cell hbq HS.1, HS.2.trans hbq⟩
                case r1_4 =>
                  clear HS hK K; intro HS
                  try simp only [Act.put, lpa, lpb, lpc]
                  refine cl' 5 fun K hK => ?_
                  go_simp
                  go_at_call 107
                  refine (implStrataAbove _ _ _ xs L' (depsL x.query false) 0 _ (HD2.out.grew (hbel'.trans (hal.trans HS.2))) (rd_len (rd_of_own (ownsRow_grew hown'.out (hal.trans HS.2))) HLL.out) HVa.out (by rw [HX.out]; omega) (by rw [HLL.out, HX.out]) (by omega) HTOP.out (by omega)).mono ?_
                  rintro e wa2 ⟨he, hbq⟩
                  rw [HP1.out] at he
                  subst he
                  refine hK.out _ _ ?s1_5 ?r1_5
                  case s1_5 => (try dsimp only); exact ⟨grew_cell hbq HS.1, HS.2.trans hbq⟩
                  case r1_5 =>
                    clear HS hK K; intro HS
                    try simp only [Act.put, lpa, lpb, lpc]
                    refine cl' 10 fun K hK => ?_
                    go_simp
                    go_at_call 109
                    refine (implNegativeDeps _ x.query.length x.query _ (HQ.out.grew (hbel'.trans (hal.trans HS.2))) hxs.2.1 hxs.2.2).mono ?_
                    rintro e wb ⟨vb, rfl, hvb, hbq⟩
                    have HVb := Lib.hid (rd_of_own hvb)
                    clear hvb
                    refine hK.out _ _ ?s1_10 ?r1_10
                    case s1_10 => (try dsimp only); exact ⟨grew_cell hbq HS.1, HS.2.trans hbq⟩
                    case r1_10 =>
                      clear HS hK K; intro HS
                      try simp only [Act.put, lpa, lpb, lpc]
                      refine cl' 11 fun K hK => ?_
                      go_simp
                      go_at_call 107
                      refine (implStrataAbove _ _ _ xs L' (depsL x.query true) 1 _ (HD2.out.grew (hbel'.trans (hal.trans HS.2))) (rd_len (rd_of_own (ownsRow_grew hown'.out (hal.trans HS.2))) HLL.out) HVb.out (by rw [HX.out]; omega) (by rw [HLL.out, HX.out]) (by omega) HTOP.out (by omega)).mono ?_
                      rintro e wb2 ⟨he, hbq⟩
                      rw [HP2.out] at he
                      subst he
                      refine hK.out _ _ ?s1_11 ?r1_11
                      case s1_11 => (try dsimp only); exact ⟨grew_cell hbq HS.1, HS.2.trans hbq⟩
                      case r1_11 =>
                        clear HS hK K; intro HS
                        try simp only [Act.put, lpa, lpb, lpc]
                        first | refine sk' 12 HS ?_ | refine tk' 12 HS ?_
                        first | refine sk' 13 HS ?_ | refine tk' 13 HS ?_
                        refine wpAnyH_done (by kernel_rfl) ?_ _
                        refine NoPanic.normal ?_
                        have hgx := hal.trans HS.2
                        have e3 := grew_cell hgx e2
                        have f3 := grew_frozen hgx hgw hfz
                        go_wp2
                        go_ret2
                        have h1 := stB_no2 HX.out (Way.fails HOK.out hway'.out hlt HE.out (by rw [HLS.out]; exact hc))
                        rw [h1.1]
                        refine ⟨_, rfl, ?_, hbel'.trans hgx⟩
                        rw [h1.2]
                        exact World.ownsRow_nil _ _ _ _
            · have hal := (Grew.refl wr).alloc (.cells #[.string x.name, .slice pa x.query.length pc] 39)
              have hc1 : ¬ ((n : Int) < (lv : Int)) := by omega
              have hc2 : (z : Int) < (lv : Int) := by omega
              go_wp2_with fail
              refine wp_region_noPanic ?_
              refine wp_region_held_drew (S := (fun w' => (w'.cell? ⟨wr.heap.size, 1, none⟩ = some (.slice pa x.query.length pc) ∧ Grew (wr.alloc (.cells #[.string x.name, .slice pa x.query.length pc] 39)) w'))) (by kernel_rfl) ?h2_S ?h2_r
              case h2_S => exact ⟨grew_cell (Grew.refl _).drew (by simp), (Grew.refl _).drew⟩
              case h2_r =>
                intro HS
                first | refine sk' 0 HS ?_ | refine tk' 0 HS ?_
                first | refine sk' 1 HS ?_ | refine tk' 1 HS ?_
                first | refine sk' 2 HS ?_ | refine tk' 2 HS ?_
                first | refine sk' 3 HS ?_ | refine tk' 3 HS ?_
                first | refine sk' 6 HS ?_ | refine tk' 6 HS ?_
                first | refine sk' 7 HS ?_ | refine tk' 7 HS ?_
                first | refine sk' 8 HS ?_ | refine tk' 8 HS ?_
                first | refine sk' 9 HS ?_ | refine tk' 9 HS ?_
                refine cl' 4 fun K hK => ?_
                go_simp
                go_at_call 108
                refine (implPositiveDeps _ x.query.length x.query _ (HQ.out.grew (hbel'.trans (hal.trans HS.2))) hxs.2.1 hxs.2.2).mono ?_
                rintro e wa ⟨va, rfl, hva, hbq⟩
                have HVa := Lib.hid (rd_of_own hva)
                clear hva
                refine hK.out _ _ ?s2_4 ?r2_4
                case s2_4 => (try dsimp only); exact ⟨grew_cell hbq HS.1, HS.2.trans hbq⟩
                case r2_4 =>
                  clear HS hK K; intro HS
                  try simp only [Act.put, lpa, lpb, lpc]
                  refine cl' 5 fun K hK => ?_
                  go_simp
                  go_at_call 107
                  refine (implStrataAbove _ _ _ xs L' (depsL x.query false) 0 _ (HD2.out.grew (hbel'.trans (hal.trans HS.2))) (rd_len (rd_of_own (ownsRow_grew hown'.out (hal.trans HS.2))) HLL.out) HVa.out (by rw [HX.out]; omega) (by rw [HLL.out, HX.out]) (by omega) HTOP.out (by omega)).mono ?_
                  rintro e wa2 ⟨he, hbq⟩
                  rw [HP1.out] at he
                  subst he
                  refine hK.out _ _ ?s2_5 ?r2_5
                  case s2_5 => (try dsimp only); exact ⟨grew_cell hbq HS.1, HS.2.trans hbq⟩
                  case r2_5 =>
                    clear HS hK K; intro HS
                    try simp only [Act.put, lpa, lpb, lpc]
                    refine cl' 10 fun K hK => ?_
                    go_simp
                    go_at_call 109
                    refine (implNegativeDeps _ x.query.length x.query _ (HQ.out.grew (hbel'.trans (hal.trans HS.2))) hxs.2.1 hxs.2.2).mono ?_
                    rintro e wb ⟨vb, rfl, hvb, hbq⟩
                    have HVb := Lib.hid (rd_of_own hvb)
                    clear hvb
                    refine hK.out _ _ ?s2_10 ?r2_10
                    case s2_10 => (try dsimp only); exact ⟨grew_cell hbq HS.1, HS.2.trans hbq⟩
                    case r2_10 =>
                      clear HS hK K; intro HS
                      try simp only [Act.put, lpa, lpb, lpc]
                      refine cl' 11 fun K hK => ?_
                      go_simp
                      go_at_call 107
                      refine (implStrataAbove _ _ _ xs L' (depsL x.query true) 1 _ (HD2.out.grew (hbel'.trans (hal.trans HS.2))) (rd_len (rd_of_own (ownsRow_grew hown'.out (hal.trans HS.2))) HLL.out) HVb.out (by rw [HX.out]; omega) (by rw [HLL.out, HX.out]) (by omega) HTOP.out (by omega)).mono ?_
                      rintro e wb2 ⟨he, hbq⟩
                      rw [HP2.out] at he
                      subst he
                      refine hK.out _ _ ?s2_11 ?r2_11
                      case s2_11 => (try dsimp only); exact ⟨grew_cell hbq HS.1, HS.2.trans hbq⟩
                      case r2_11 =>
                        clear HS hK K; intro HS
                        try simp only [Act.put, lpa, lpb, lpc]
                        first | refine sk' 12 HS ?_ | refine tk' 12 HS ?_
                        first | refine sk' 13 HS ?_ | refine tk' 13 HS ?_
                        refine wpAnyH_done (by kernel_rfl) ?_ _
                        refine NoPanic.normal ?_
                        have hgx := hal.trans HS.2
                        have e3 := grew_cell hgx e2
                        have f3 := grew_frozen hgx hgw hfz
                        go_wp2
                        go_roundw
                        case rel =>
                          refine ⟨k + 1, L'.set k lv, true, by omega, by go_num, rfl, Lib.hid (store_one (ownsRow_grew hown'.out hgx) k lv), Lib.hid ?_, Lib.hid ⟨fun h => (by cases h), fun _ => ?_⟩, (hbel'.trans hgx).setCell (p := ⟨g, k, none⟩) hg1 _⟩
                          · have h1 := hway'.out.lift HOK.out hlt HE.out (by rw [HLS.out]; exact hc0)
                            rw [HLS.out] at h1; exact h1
                          · have h1 := sum_set (L := L') (i := k) (x := lv) (by rw [HLL.out]; exact hlt) (by rw [hzg.out]; exact hc)
                            cases b' with
                            | false => have h2 := (hst.out.1 rfl).1; rw [← h2]; exact h1
                            | true => have h2 := hst.out.2 rfl; omega
                        case measure => simp [intOf]; omega
            · have hal := (Grew.refl wr).alloc (.cells #[.string x.name, .slice pa x.query.length pc] 39)
              have hc1 : ¬ ((n : Int) < (lv : Int)) := by omega
              have hc2 : ¬ ((z : Int) < (lv : Int)) := by omega
              go_wp2_with fail
              refine wp_region_noPanic ?_
              refine wp_region_held_drew (S := (fun w' => (w'.cell? ⟨wr.heap.size, 1, none⟩ = some (.slice pa x.query.length pc) ∧ Grew (wr.alloc (.cells #[.string x.name, .slice pa x.query.length pc] 39)) w'))) (by kernel_rfl) ?h3_S ?h3_r
              case h3_S => exact ⟨grew_cell (Grew.refl _).drew (by simp), (Grew.refl _).drew⟩
              case h3_r =>
                intro HS
                first | refine sk' 0 HS ?_ | refine tk' 0 HS ?_
                first | refine sk' 1 HS ?_ | refine tk' 1 HS ?_
                first | refine sk' 2 HS ?_ | refine tk' 2 HS ?_
                first | refine sk' 3 HS ?_ | refine tk' 3 HS ?_
                first | refine sk' 6 HS ?_ | refine tk' 6 HS ?_
                first | refine sk' 7 HS ?_ | refine tk' 7 HS ?_
                first | refine sk' 8 HS ?_ | refine tk' 8 HS ?_
                first | refine sk' 9 HS ?_ | refine tk' 9 HS ?_
                refine cl' 4 fun K hK => ?_
                go_simp
                go_at_call 108
                refine (implPositiveDeps _ x.query.length x.query _ (HQ.out.grew (hbel'.trans (hal.trans HS.2))) hxs.2.1 hxs.2.2).mono ?_
                rintro e wa ⟨va, rfl, hva, hbq⟩
                have HVa := Lib.hid (rd_of_own hva)
                clear hva
                refine hK.out _ _ ?s3_4 ?r3_4
                case s3_4 => (try dsimp only); exact ⟨grew_cell hbq HS.1, HS.2.trans hbq⟩
                case r3_4 =>
                  clear HS hK K; intro HS
                  try simp only [Act.put, lpa, lpb, lpc]
                  refine cl' 5 fun K hK => ?_
                  go_simp
                  go_at_call 107
                  refine (implStrataAbove _ _ _ xs L' (depsL x.query false) 0 _ (HD2.out.grew (hbel'.trans (hal.trans HS.2))) (rd_len (rd_of_own (ownsRow_grew hown'.out (hal.trans HS.2))) HLL.out) HVa.out (by rw [HX.out]; omega) (by rw [HLL.out, HX.out]) (by omega) HTOP.out (by omega)).mono ?_
                  rintro e wa2 ⟨he, hbq⟩
                  rw [HP1.out] at he
                  subst he
                  refine hK.out _ _ ?s3_5 ?r3_5
                  case s3_5 => (try dsimp only); exact ⟨grew_cell hbq HS.1, HS.2.trans hbq⟩
                  case r3_5 =>
                    clear HS hK K; intro HS
                    try simp only [Act.put, lpa, lpb, lpc]
                    refine cl' 10 fun K hK => ?_
                    go_simp
                    go_at_call 109
                    refine (implNegativeDeps _ x.query.length x.query _ (HQ.out.grew (hbel'.trans (hal.trans HS.2))) hxs.2.1 hxs.2.2).mono ?_
                    rintro e wb ⟨vb, rfl, hvb, hbq⟩
                    have HVb := Lib.hid (rd_of_own hvb)
                    clear hvb
                    refine hK.out _ _ ?s3_10 ?r3_10
                    case s3_10 => (try dsimp only); exact ⟨grew_cell hbq HS.1, HS.2.trans hbq⟩
                    case r3_10 =>
                      clear HS hK K; intro HS
                      try simp only [Act.put, lpa, lpb, lpc]
                      refine cl' 11 fun K hK => ?_
                      go_simp
                      go_at_call 107
                      refine (implStrataAbove _ _ _ xs L' (depsL x.query true) 1 _ (HD2.out.grew (hbel'.trans (hal.trans HS.2))) (rd_len (rd_of_own (ownsRow_grew hown'.out (hal.trans HS.2))) HLL.out) HVb.out (by rw [HX.out]; omega) (by rw [HLL.out, HX.out]) (by omega) HTOP.out (by omega)).mono ?_
                      rintro e wb2 ⟨he, hbq⟩
                      rw [HP2.out] at he
                      subst he
                      refine hK.out _ _ ?s3_11 ?r3_11
                      case s3_11 => (try dsimp only); exact ⟨grew_cell hbq HS.1, HS.2.trans hbq⟩
                      case r3_11 =>
                        clear HS hK K; intro HS
                        try simp only [Act.put, lpa, lpb, lpc]
                        first | refine sk' 12 HS ?_ | refine tk' 12 HS ?_
                        first | refine sk' 13 HS ?_ | refine tk' 13 HS ?_
                        refine wpAnyH_done (by kernel_rfl) ?_ _
                        refine NoPanic.normal ?_
                        have hgx := hal.trans HS.2
                        have e3 := grew_cell hgx e2
                        have f3 := grew_frozen hgx hgw hfz
                        go_wp2
                        go_roundw
                        case rel =>
                          refine ⟨k + 1, L', b', by omega, by go_num, rfl, Lib.hid (ownsRow_grew hown'.out hgx), hway', Lib.hid ⟨fun h => ⟨(hst.out.1 h).1, (hst.out.1 h).2.succ HE.out (by rw [HLS.out, hzg.out]; exact hc)⟩, hst.out.2⟩, hbel'.trans hgx⟩
                        case measure => simp [intOf]; omega
          · obtain rfl : k = n := by omega
            have HW1 := Lib.hid (way_sum hown'.out hway'.out HN.out)
            go_wp2
            go_roundw
            case rel => exact ⟨L', b', rfl, hown', hway', Lib.hid (fun h => (hst.out.1 h).2), hbel'⟩
            case measure =>
              have h1 := HW0.out
              have h2 := HW1.out
              rw [h1.1, h2.1]
              cases b' with
              | false => have h3 := (hst.out.1 rfl).1; rw [h3]; simp [oneIf]
              | true => have h3 := hst.out.2 rfl; simp [oneIf]; omega
      · go_wp2
        go_ret2
        have h0 := hway.out.done HOK.out (hmet.out (by first | rfl | trivial))
        have h1 := stB_yes HX.out HV.out h0.1
        rw [h1.1]
        refine ⟨_, rfl, ?_, hbel⟩
        rw [h1.2, ← h0.2, hway.out.len]
        exact hown.out
  · have H1 := Lib.hid (stB_no1 HV.out)
    go_enter Tryz.func88, Tryz.ntmps88
    go_wp2_with (go_at_call 106; refine (implIsValidDirs _ xs _ HD.out HX0.out HZ.out).mono ?_; rintro e w1 ⟨he, hb⟩; rw [HV.out] at he; subst he)
    go_ret2
    rw [H1.out.1]
    refine ⟨_, rfl, ?_, hb⟩
    rw [H1.out.2]
    exact World.ownsRow_nil _ _ _ _
set_option maxRecDepth 100000 in
set_option maxHeartbeats 1000000 in
theorem specIsStratified (va : Value) (xs : List Dr) (w : World) (ha : RdDs w va xs) (hx : xs.length ≤ 4000000) (hz : szAll Dr.sz xs ≤ 4000000) :
    Calls Tryz.prog 33 #[va] w fun e w' => e = .returned (.bool (stB xs)) ∧ Grew w w' := by
  have HD := Lib.hid ha
  obtain ⟨qs, ⟨a, ca, rfl, hca, hra⟩, hall⟩ := ha
  clear hall hra hca
  go_enter Tryz.func33, Tryz.ntmps33
  go_wp2_with (go_at_call 62; refine (specStrata _ xs _ HD.out hx hz).mono ?_; rintro e w1 ⟨v, rfl, hv, hb⟩; obtain ⟨oa, oc, rfl⟩ := own_slice hv; clear hv)
  go_ret
  exact ⟨rfl, hb⟩
theorem Rd.rda1' {w : World} {v : Value} {k n : Nat} {cs : List Value} (h : Rd w v k n cs) : ∀ a c, v = .slice a n c → RdA w a k n cs := fun a c e => by subst e; exact Rd.rda h
theorem mxL_ge (L : List Nat) : -1 ≤ mxL L := by
  induction L with
  | nil => exact Int.le_refl _
  | cons x xs ih => unfold mxL; omega
theorem mxL_bd {b : Nat} : ∀ {L : List Nat}, (∀ x, x ∈ L → x ≤ b) → mxL L ≤ b
  | [], _ => by unfold mxL; omega
  | x :: xs, h => by
    have h1 := h x (by simp)
    have h2 := mxL_bd (L := xs) (fun y hy => h y (by simp [hy]))
    unfold mxL; omega
set_option maxRecDepth 100000 in
set_option maxHeartbeats 1000000 in
theorem slMaxInt (va : Value) (n : Nat) (L : List Nat) (w : World) (ha : Rd w va 1 n (natsV L)) (hn : 0 < n) (hx : n ≤ 4000000) :
    Calls Tryz.prog 111 #[va] w fun e w' => e = .returned (.int .i64 (mxL L)) ∧ Grew w w' := by
  obtain ⟨a, ca, rfl, hca, hra⟩ := ha
  have HX := Lib.hid (show L.length = n from hra.len_map)
  obtain ⟨b1, o1, y0, rfl, hy0, c0⟩ := hra.one hn
  have c0' := c0
  simp at c0'
  have hn1 : ¬ ((n : Int) < 1) := by omega
  have hn0 : (0 : Int) < (n : Int) := by omega
  go_enter Tryz.func111, Tryz.ntmps111
  go_wp2
  go_loopw [3, 4] (fun v i wr => ∃ (k : Nat) (r : Int), 1 ≤ k ∧ k ≤ n ∧ i = .int .i64 k ∧ v = .int .i64 r ∧ Hid (r = mxL (L.take k)) ∧ wr = w) (fun _ i _ => n - (intOf i).toNat)
  case atStart => exact ⟨1, _, Nat.le_refl _, hn, rfl, rfl, Lib.hid (by rw [take_snoc (k := 0) hy0.out]; simp [mxL]; omega), by first | rfl | trivial⟩
  case round =>
    obtain ⟨k, r, h1, hk, rfl, rfl, hr, rfl⟩ := hrel
    by_cases hlt : k < n
    · obtain ⟨b2, o2, y, hab, hyk, d0⟩ := hra.one hlt
      cases hab
      go_wp2
      go_roundw
      case rel => exact ⟨k + 1, _, by omega, by omega, by go_num, rfl, Lib.hid (by rw [take_snoc hyk.out, mxL_snoc, ← hr.out]), by first | rfl | trivial⟩
      case measure => simp [intOf]; omega
    · obtain rfl : k = n := by omega
      go_wp2
      go_ret
      exact ⟨ret_int (by rw [hr.out, take_all HX.out]), Grew.refl _⟩
set_option maxRecDepth 100000 in
set_option maxHeartbeats 1000000 in
theorem implMaxStratum (va : Value) (xs : List Dr) (w : World) (ha : RdDs w va xs) (hx : xs.length ≤ 4000000) (hz : szAll Dr.sz xs ≤ 4000000) :
    Calls Tryz.prog 90 #[va] w fun e w' => e = .returned (.int .i64 (mxS xs)) ∧ Grew w w' := by
  have HD := Lib.hid ha
  obtain ⟨qs, ⟨a, ca, rfl, hca, hra⟩, hall⟩ := ha
  clear hall hra hca
  obtain ⟨sb, hsb⟩ : ∃ b, stB xs = b := ⟨_, rfl⟩
  have HSB := Lib.hid hsb
  have hll := stL_le xs
  obtain ⟨l, hl⟩ : ∃ l, (stL xs).length = l := ⟨_, rfl⟩
  have HL := Lib.hid hl
  rw [hl] at hll
  have HN := Lib.hid (show sb = false ∨ l = 0 → mxS xs = -1 by
    rintro (h | h)
    · unfold mxS stL; rw [hsb, h]; rfl
    · unfold mxS; rw [List.length_eq_zero_iff.1 (hl.trans h)]; rfl)
  clear hsb hl
  have hcs : sb = true ∨ sb = false := by cases sb <;> simp
  rcases hcs with rfl | rfl
  · by_cases h0 : l = 0
    · subst h0
      go_enter Tryz.func90, Tryz.ntmps90
      go_wp2_with (go_at_call 88; refine (implStrata _ xs _ HD.out hx hz).mono ?_; rintro e w1 ⟨v, he, hv, hb⟩; rw [HSB.out] at he; subst he; rw [HL.out] at hv; obtain ⟨oa, oc, rfl⟩ := own_slice hv; clear hv)
      go_ret
      exact ⟨ret_int (HN.out (by simp)).symm, hb⟩
    · have h1 : ((l : Int) == 0) = false := by simp; omega
      have h2 : ¬ ((l : Int) = 0) := by omega
      go_enter Tryz.func90, Tryz.ntmps90
      go_wp2_with (first | (go_at_call 88; refine (implStrata _ xs _ HD.out hx hz).mono ?_; rintro e w1 ⟨v, he, hv, hb⟩; rw [HSB.out] at he; subst he; rw [HL.out] at hv; have HR := Lib.hid (rd_of_own hv); obtain ⟨oa, oc, rfl⟩ := own_slice hv; clear hv) | (go_at_call 111; refine (slMaxInt _ l _ _ HR.out (by omega) (by omega)).mono ?_; rintro e w2 ⟨rfl, hb2⟩))
      go_ret
      exact ⟨rfl, hb.trans hb2⟩
  · go_enter Tryz.func90, Tryz.ntmps90
    go_wp2_with (go_at_call 88; refine (implStrata _ xs _ HD.out hx hz).mono ?_; rintro e w1 ⟨v, he, hv, hb⟩; rw [HSB.out] at he; subst he; obtain ⟨oa, oc, rfl⟩ := own_slice hv; clear hv)
    go_ret
    exact ⟨ret_int (HN.out (by simp)).symm, hb⟩
set_option maxRecDepth 100000 in
set_option maxHeartbeats 1000000 in
theorem specMaxStratum (va : Value) (xs : List Dr) (w : World) (ha : RdDs w va xs) (hx : xs.length ≤ 4000000) (hz : szAll Dr.sz xs ≤ 4000000) :
    Calls Tryz.prog 95 #[va] w fun e w' => e = .returned (.int .i64 (mxS xs)) ∧ Grew w w' := by
  have HD := Lib.hid ha
  obtain ⟨qs, ⟨a, ca, rfl, hca, hra⟩, hall⟩ := ha
  clear hall hra hca
  have hll := stL_le xs
  obtain ⟨l, hl⟩ : ∃ l, (stL xs).length = l := ⟨_, rfl⟩
  have HL := Lib.hid hl
  rw [hl] at hll
  clear hl
  go_enter Tryz.func95, Tryz.ntmps95
  go_wp2_with (go_at_call 62; refine (specStrata _ xs _ HD.out hx hz).mono ?_; rintro e w1 ⟨v, rfl, hv, hb⟩; rw [HL.out] at hv; have HR := Lib.hid (rd_of_own hv).rda1'; obtain ⟨oa, oc, rfl⟩ := own_slice hv; clear hv)
  have HR2 := Lib.hid (HR.out _ _ rfl)
  clear HR
  go_loopw [5, 6] (fun v i wr => ∃ (k : Nat) (r : Int), k ≤ l ∧ i = .int .i64 k ∧ v = .int .i64 r ∧ Hid (r = mxL ((stL xs).take k)) ∧ wr = w1) (fun _ i _ => l - (intOf i).toNat)
  case atStart => exact ⟨0, _, Nat.zero_le _, rfl, rfl, Lib.hid rfl, by first | rfl | trivial⟩
  case round =>
    obtain ⟨k, r, hk, rfl, rfl, hr, rfl⟩ := hrel
    by_cases hlt : k < l
    · obtain ⟨b2, o2, y, rfl, hyk, d0⟩ := HR2.out.one hlt
      by_cases hc : r < (y : Int)
      · go_wp2
        go_roundw
        case rel => exact ⟨k + 1, _, by omega, by go_num, rfl, Lib.hid (by rw [take_snoc hyk.out, mxL_snoc, ← hr.out]; omega), by first | rfl | trivial⟩
        case measure => simp [intOf]; omega
      · go_wp2
        go_roundw
        case rel => exact ⟨k + 1, _, by omega, by go_num, rfl, Lib.hid (by rw [take_snoc hyk.out, mxL_snoc, ← hr.out]; omega), by first | rfl | trivial⟩
        case measure => simp [intOf]; omega
    · obtain rfl : k = l := by omega
      go_wp2
      go_ret
      exact ⟨ret_int (by rw [hr.out, take_all HL.out]; rfl), hb⟩
end Go.Proofs.YtemikjbfjhebnaaGreat
namespace Go.Proofs.YtemikjbfjhebnaaGreat
open Go.RowKit
set_option linter.unusedVariables false
set_option maxRecDepth 100000 in
set_option maxHeartbeats 1000000 in
theorem l06User (g : Nat) (w : World) (hc : Cur w g) :
    Calls Tryz.prog 30 #[.pointer (some ⟨g, 0, none⟩)] w fun e w' => ∃ x : Int, e = .returned (.int .i64 x) ∧ D g w w' := by
  go_enter Tryz.func30, Tryz.ntmps30
  go_wp2_with fail
  refine (l01PickInt g _ (hc.grew ((Grew.refl w).alloc _)) _ 7 [0, 1, 2, 0, 1, 3, -1] (lit_rd w _ _ 1 7 7 rfl (Nat.le_refl _)) (cur_ne hc) (by decide) (by decide)).mono ?_
  rintro e w1 ⟨x, rfl, hx, hd⟩
  go_wp2
  go_ret
  exact ⟨_, rfl, (D.refl hc).alloc _ |>.trans hd⟩
theorem q_szZ {n : Nat} : ∀ {xs : List N}, qOk n xs → szAll N.sz xs ≤ xs.length * 16
  | [], _ => by simp [szAll]
  | x :: xs, h => by
    have h1 := q_szZ (n := n) (xs := xs) ⟨by have := h.1; simp at this; omega, fun y hy => h.2 y (List.mem_cons_of_mem _ hy)⟩
    have h2 := h.2 x (List.mem_cons_self ..)
    unfold N.okD at h2
    have h3 : N.sz x ≤ 16 := by unfold N.sz V.sz; omega
    simp only [szAll, List.map_cons, List.sum_cons, List.length_cons] at h1 ⊢
    omega
theorem ds_szZ {n : Nat} : ∀ {xs : List Dr}, dirsOk n xs → szAll Dr.sz xs ≤ xs.length * 144
  | [], _ => by simp [szAll]
  | x :: xs, h => by
    have h1 := ds_szZ (n := n) (xs := xs) ⟨by have := h.1; simp at this; omega, fun y hy => h.2 y (List.mem_cons_of_mem _ hy)⟩
    have h0 := h.2 x (List.mem_cons_self ..)
    have h3 := q_szZ h0.2
    have h4 := h0.2.1
    have h5 : Dr.sz x ≤ 144 := by unfold Dr.sz; omega
    simp only [szAll, List.map_cons, List.sum_cons, List.length_cons] at h1 ⊢
    omega
theorem GLd.pre {w : World} {base gb n c k : Nat} {xs : List Dr} (h : GLd w base (.slice (some ⟨gb, 0, none⟩) n c) xs) (hn : xs.length = n) (hk : k ≤ n) : GLd w base (.slice (some ⟨gb, 0, none⟩) k c) (xs.take k) := by
  obtain ⟨ps, h1, h2⟩ := h
  rw [hn] at h1
  have h3 := own_prefix h1 hk
  rw [rows_takeK P2.len] at h3
  refine ⟨ps.take k, ?_, h2.take k⟩
  rw [List.length_take, hn, Nat.min_eq_left hk]
  exact h3
def dirDa : List Dr := [⟨⟨#[100, 97]⟩, [⟨1, 0, 0, ⟨#[]⟩, ⟨0, 0, ⟨#[]⟩⟩⟩]⟩]
theorem dirDa_ok : dirsOk 4 dirDa := by
  refine ⟨by decide, fun x hx => ?_⟩
  simp [dirDa] at hx
  subst hx
  refine ⟨by decide, ⟨by decide, fun y hy => ?_⟩⟩
  simp at hy
  subst hy
  unfold N.okD
  decide
set_option maxRecDepth 100000 in
set_option maxHeartbeats 4000000 in
theorem l13Dirs (g : Nat) (w : World) (hc : Cur w g) :
    Calls Tryz.prog 15 #[.pointer (some ⟨g, 0, none⟩)] w fun e w' => ∃ v, e = .returned v ∧ ∃ xs, dirsOk 4 xs ∧ GLd w' w.heap.size v xs ∧ D g w w' := by
  have hl := hc.lt
  go_enter Tryz.func15, Tryz.ntmps15
  go_wp2_with fail
  refine (l11Dirs g _ hc).mono ?_
  rintro e w1 ⟨v, rfl, xs, hpos, hok, hgl, d1⟩
  have hxl := hok.1
  obtain ⟨gb, qc, rfl⟩ : ∃ gb qc, v = .slice (some ⟨gb, 0, none⟩) xs.length qc := by
    obtain ⟨ps, ho, _⟩ := hgl
    rcases ho.2 with ⟨_, h0⟩ | ⟨b, cap, cur, h, _⟩
    · omega
    · exact ⟨b, cap, h⟩
  have HGL := Lib.hid hgl
  have HOK := Lib.hid hok
  clear hgl hok
  go_wp2
  go_loopw [3] (fun v wr => ∃ (m : Nat) (ys : List Dr) (c : Nat), m ≤ 4 ∧ v = .slice (some ⟨gb, 0, none⟩) m c ∧ Hid (ys.length = m ∧ ∀ x, x ∈ ys → x.name.size ≤ 8 ∧ qOk 8 x.query) ∧ Hid (GLd wr w.heap.size (.slice (some ⟨gb, 0, none⟩) m c) ys) ∧ Hid (m ≤ c) ∧ D g w wr) (fun v _ => lenV v)
  case atStart => exact ⟨xs.length, xs, qc, by omega, rfl, Lib.hid ⟨rfl, HOK.out.2⟩, HGL, Lib.hid (by obtain ⟨ps, h1, _⟩ := HGL.out; obtain ⟨_, c, h3, h4, _⟩ := rd_of_own h1; cases h3; exact h4), d1⟩
  case round =>
    obtain ⟨k, ys, c, hk, rfl, hok, hown, hcap, hd⟩ := hrel
    have hkc := hcap.out
    have HXL := Lib.hid hok.out.1
    have HOY : Hid (dirsOk 4 ys) := Lib.hid ⟨by rw [HXL.out]; exact hk, hok.out.2⟩
    have hsd := hd.size
    by_cases h0 : k = 0
    · subst h0
      go_wp2
      go_ret
      refine ⟨_, rfl, dirDa, dirDa_ok, ⟨[⟨⟨#[100, 97]⟩, .slice (some ⟨wr.heap.size, 0, none⟩) 1 1⟩], ?_, All2.snoc (xs := []) (ys := []) All2.nil ⟨rfl, ?_⟩⟩, (hd.alloc _).alloc _⟩
      · have h := lit_owns (wr.alloc (.cells #[.int .i64 1, .int .i64 0, .int .i64 0, .string ⟨#[]⟩, .int .i64 0, .int .i64 0, .string ⟨#[]⟩] 70)) #[.string ⟨#[100, 97]⟩, .slice (some ⟨wr.heap.size, 0, none⟩) 1 1] 39 2 1 rfl (by decide)
        have e : (wr.alloc (.cells #[.int .i64 1, .int .i64 0, .int .i64 0, .string ⟨#[]⟩, .int .i64 0, .int .i64 0, .string ⟨#[]⟩] 70)).heap.size = wr.heap.size + 1 := by simp
        rw [e] at h
        exact ownsRow_base h (by omega)
      · have h := (lit_owns wr #[.int .i64 1, .int .i64 0, .int .i64 0, .string ⟨#[]⟩, .int .i64 0, .int .i64 0, .string ⟨#[]⟩] 70 7 1 rfl (by decide)).alloc (.cells #[.string ⟨#[100, 97]⟩, .slice (some ⟨wr.heap.size, 0, none⟩) 1 1] 39)
        exact (own_of h).mono (by omega) (Nat.le_refl _)
    · have hk1 : (0 : Int) < k := by omega
      obtain ⟨q, hq⟩ : ∃ q, stB ys = q := ⟨_, rfl⟩
      have HQ := Lib.hid hq
      clear hq
      have hne : ¬ ((k : Int) = 0) := by omega
      have hp0 : (0 : Int) ≤ (k : Int) - 1 := by omega
      have hpk : (k : Int) - 1 ≤ k := by omega
      have HSZ := Lib.hid (ds_szZ HOY.out)
      have HRD := Lib.hid (show RdDs wr (.slice (some ⟨gb, 0, none⟩) k c) ys from hown.out.rd)
      go_wp2_with fail
      refine (specIsStratified _ ys wr HRD.out (by rw [HXL.out]; omega) (by have := HSZ.out; have := HXL.out; omega)).mono ?_
      rintro e w2 ⟨he, g2⟩
      rw [HQ.out] at he
      subst he
      have hd2 := hd.grew g2
      have HG2 := Lib.hid (hown.out.grew g2)
      cases q
      · obtain ⟨j, rfl⟩ : ∃ j : Nat, k = j + 1 := ⟨k - 1, by omega⟩
        have hpj : ((j + 1 : Nat) : Int) - 1 = j := by omega
        have hwj : IntKind.i64.wrap (j : Int) = j := by rw [IntKind.wrap_i64]; omega
        have hj0 : (0 : Int) ≤ j := by omega
        have hjj : (j : Int) ≤ ((j + 1 : Nat) : Int) := by omega
        have hjc : j ≤ c := by omega
        go_wp2
        go_roundw
        case rel =>
          refine ⟨j, ys.take j, c, by omega, rfl, Lib.hid ⟨by rw [List.length_take, HXL.out]; omega, fun x hx => hok.out.2 x (List.mem_of_mem_take hx)⟩, Lib.hid (HG2.out.pre HXL.out (by omega)), Lib.hid (by omega), hd2⟩
        case measure => simp [lenV]
      · go_wp2
        go_ret
        exact ⟨_, rfl, ys, HOY.out, HG2.out, hd2⟩
end Go.Proofs.YtemikjbfjhebnaaGreat
namespace Go.Proofs.YtemikjbfjhebnaaGreat
open Go.RowKit
set_option linter.unusedVariables false
def getA : List At → ByteArray → V
  | [], _ => V.z
  | x :: xs, s => if x.name.toList == s.toList then x.val else getA xs s
theorem getA_yes : ∀ {xs : List At} {s : ByteArray} {k : Nat} {x : At}, (∀ (j : Nat) y, j < k → xs[j]? = some y → (y.name.toList == s.toList) = false) → xs[k]? = some x → (x.name.toList == s.toList) = true → getA xs s = x.val
  | [], s, k, x, _, h, _ => by simp at h
  | y :: ys, s, 0, x, _, h, h2 => by
    simp at h; subst h; unfold getA; rw [h2]; rfl
  | y :: ys, s, k + 1, x, h1, h, h2 => by
    have h3 := h1 0 y (Nat.succ_pos k) rfl
    unfold getA; rw [h3]
    exact getA_yes (k := k) (fun j z hj hz => h1 (j + 1) z (Nat.succ_lt_succ hj) (by simpa using hz)) (by simpa using h) h2
theorem getA_no : ∀ {xs : List At} {s : ByteArray}, (∀ (j : Nat) y, j < xs.length → xs[j]? = some y → (y.name.toList == s.toList) = false) → getA xs s = V.z
  | [], s, _ => rfl
  | y :: ys, s, h1 => by
    have h3 := h1 0 y (by simp) rfl
    unfold getA; rw [h3]
    exact getA_no (fun j z hj hz => h1 (j + 1) z (by simpa using hj) (by simpa using hz))
theorem noa_snoc {xs : List At} {s : ByteArray} {k : Nat} {x : At} (h : ∀ (j : Nat) y, j < k → xs[j]? = some y → (y.name.toList == s.toList) = false) (hx : xs[k]? = some x) (hn : (x.name.toList == s.toList) = false) : ∀ (j : Nat) y, j < k + 1 → xs[j]? = some y → (y.name.toList == s.toList) = false := fun j y hj hy => by
  rcases Nat.lt_succ_iff_lt_or_eq.1 hj with h1 | rfl
  · exact h j y h1 hy
  · obtain rfl := Option.some.inj (hx.symm.trans hy); exact hn
set_option maxRecDepth 100000 in
set_option maxHeartbeats 1000000 in
theorem specGetAttr (f : Fl) (p : P5) (s : ByteArray) (w : World) (h : Fl.R w f p) (hx : f.small) :
    Calls Tryz.prog 136 #[p.v, .string s] w fun e w' => e = .returned (getA f.attrs s).v ∧ Grew w w' := by
  obtain ⟨p1, p2, p3, p4, p5⟩ := p
  obtain ⟨h1, h2, h3, h4, h5⟩ := h
  simp only at h5
  clear h1 h2 h3 h4
  obtain ⟨a, ca, rfl, hca, hra⟩ := h5
  unfold Fl.small at hx
  generalize hn : f.attrs.length = n at hx hca hra
  have HN := Lib.hid hn
  clear hn
  go_enter Tryz.func136, Tryz.ntmps136
  go_wp2
  have hg := ((Grew.refl w).alloc (.cells #[.int .i64 p1, .int .i64 p2, .bool p3, .int .i64 p4, .slice a n ca] 55)).alloc (.cells #[.int .i64 0, .int .i64 0, .string ⟨#[]⟩] 68)
  have d4 : ((w.alloc (.cells #[.int .i64 p1, .int .i64 p2, .bool p3, .int .i64 p4, .slice a n ca] 55)).alloc (.cells #[.int .i64 0, .int .i64 0, .string ⟨#[]⟩] 68)).cell? ⟨w.heap.size, 4, none⟩ = some (.slice a n ca) := grew_cell ((Grew.refl _).alloc _) (by simp)
  have r0 : ((w.alloc (.cells #[.int .i64 p1, .int .i64 p2, .bool p3, .int .i64 p4, .slice a n ca] 55)).alloc (.cells #[.int .i64 0, .int .i64 0, .string ⟨#[]⟩] 68)).cell? ⟨w.heap.size + 1, 0, none⟩ = some (.int .i64 0) := by simp [go_sem]
  have r1 : ((w.alloc (.cells #[.int .i64 p1, .int .i64 p2, .bool p3, .int .i64 p4, .slice a n ca] 55)).alloc (.cells #[.int .i64 0, .int .i64 0, .string ⟨#[]⟩] 68)).cell? ⟨w.heap.size + 1, 1, none⟩ = some (.int .i64 0) := by simp [go_sem]
  have r2 : ((w.alloc (.cells #[.int .i64 p1, .int .i64 p2, .bool p3, .int .i64 p4, .slice a n ca] 55)).alloc (.cells #[.int .i64 0, .int .i64 0, .string ⟨#[]⟩] 68)).cell? ⟨w.heap.size + 1, 2, none⟩ = some (.string ⟨#[]⟩) := by simp [go_sem]
  have z1 : ∀ j, ((w.alloc (.cells #[.int .i64 p1, .int .i64 p2, .bool p3, .int .i64 p4, .slice a n ca] 55)).alloc (.cells #[.int .i64 0, .int .i64 0, .string ⟨#[]⟩] 68)).frozen? ⟨w.heap.size + 1, j, none⟩ = false := fun j => by simp [go_sem]
  generalize (w.alloc (.cells #[.int .i64 p1, .int .i64 p2, .bool p3, .int .i64 p4, .slice a n ca] 55)).alloc (.cells #[.int .i64 0, .int .i64 0, .string ⟨#[]⟩] 68) = W at hg d4 r0 r1 r2 z1 ⊢
  go_loopw [5] (fun i wr => ∃ k : Nat, k ≤ n ∧ i = .int .i64 k ∧ Hid (∀ (j : Nat) y, j < k → f.attrs[j]? = some y → (y.name.toList == s.toList) = false) ∧ wr = W) (fun i _ => n - (intOf i).toNat)
  case atStart => exact ⟨0, Nat.zero_le _, rfl, Lib.hid (fun j y h => absurd h (Nat.not_lt_zero j)), rfl⟩
  case round =>
    obtain ⟨k, hk, rfl, hall, rfl⟩ := hrel
    by_cases hlt : k < n
    · obtain ⟨b1, o1, x, rfl, hxk, c0, c1, c2, c3⟩ := (hra.grew hg).getAt hlt
      have hcs : (x.name.toList == s.toList) = true ∨ (x.name.toList == s.toList) = false := by cases x.name.toList == s.toList <;> simp
      rcases hcs with hn | hn
      · have HY := Lib.hid (getA_yes hall.out hxk.out hn)
        go_wp2
        refine bodyPost_ret (v := x.val.v) (by simp [results, Tryz.results136, go_sem, r0, r1, r2]) rfl ⟨by rw [HY.out], ?_⟩
        repeat' (first | with_reducible exact hg | with_reducible refine Grew.setCell ?_ ?_ _ | (dsimp only; omega))
      · go_wp2
        go_roundw
        case rel => exact ⟨k + 1, by omega, by go_num, Lib.hid (noa_snoc hall.out hxk.out hn), by trivial⟩
        case measure => simp [intOf]; omega
    · obtain rfl : k = n := by omega
      have HY := Lib.hid (getA_no (fun j y h h2 => hall.out j y (by rw [← HN.out]; exact h) h2))
      go_wp2
      refine bodyPost_ret (v := V.z.v) (by simp [results, Tryz.results136, go_sem, r0, r1, r2, V.z]) rfl ⟨by rw [HY.out], ?_⟩
      repeat' (first | with_reducible exact hg | with_reducible refine Grew.setCell ?_ ?_ _ | (dsimp only; omega))
set_option maxRecDepth 100000 in
set_option maxHeartbeats 1000000 in
theorem implGetAttr (f : Fl) (p : P5) (s : ByteArray) (w : World) (h : Fl.R w f p) (hx : f.small) :
    Calls Tryz.prog 133 #[p.v, .string s] w fun e w' => e = .returned (getA f.attrs s).v ∧ Grew w w' := by
  obtain ⟨p1, p2, p3, p4, p5⟩ := p
  obtain ⟨h1, h2, h3, h4, h5⟩ := h
  simp only at h5
  clear h1 h2 h3 h4
  obtain ⟨a, ca, rfl, hca, hra⟩ := h5
  unfold Fl.small at hx
  generalize hn : f.attrs.length = n at hx hca hra
  have HN := Lib.hid hn
  clear hn
  go_enter Tryz.func133, Tryz.ntmps133
  go_wp2
  have hg := ((Grew.refl w).alloc (.cells #[.int .i64 p1, .int .i64 p2, .bool p3, .int .i64 p4, .slice a n ca] 55)).alloc (.cells #[.int .i64 0, .int .i64 0, .string ⟨#[]⟩] 68)
  have d4 : ((w.alloc (.cells #[.int .i64 p1, .int .i64 p2, .bool p3, .int .i64 p4, .slice a n ca] 55)).alloc (.cells #[.int .i64 0, .int .i64 0, .string ⟨#[]⟩] 68)).cell? ⟨w.heap.size, 4, none⟩ = some (.slice a n ca) := grew_cell ((Grew.refl _).alloc _) (by simp)
  have r0 : ((w.alloc (.cells #[.int .i64 p1, .int .i64 p2, .bool p3, .int .i64 p4, .slice a n ca] 55)).alloc (.cells #[.int .i64 0, .int .i64 0, .string ⟨#[]⟩] 68)).cell? ⟨w.heap.size + 1, 0, none⟩ = some (.int .i64 0) := by simp [go_sem]
  have r1 : ((w.alloc (.cells #[.int .i64 p1, .int .i64 p2, .bool p3, .int .i64 p4, .slice a n ca] 55)).alloc (.cells #[.int .i64 0, .int .i64 0, .string ⟨#[]⟩] 68)).cell? ⟨w.heap.size + 1, 1, none⟩ = some (.int .i64 0) := by simp [go_sem]
  have r2 : ((w.alloc (.cells #[.int .i64 p1, .int .i64 p2, .bool p3, .int .i64 p4, .slice a n ca] 55)).alloc (.cells #[.int .i64 0, .int .i64 0, .string ⟨#[]⟩] 68)).cell? ⟨w.heap.size + 1, 2, none⟩ = some (.string ⟨#[]⟩) := by simp [go_sem]
  have z1 : ∀ j, ((w.alloc (.cells #[.int .i64 p1, .int .i64 p2, .bool p3, .int .i64 p4, .slice a n ca] 55)).alloc (.cells #[.int .i64 0, .int .i64 0, .string ⟨#[]⟩] 68)).frozen? ⟨w.heap.size + 1, j, none⟩ = false := fun j => by simp [go_sem]
  generalize (w.alloc (.cells #[.int .i64 p1, .int .i64 p2, .bool p3, .int .i64 p4, .slice a n ca] 55)).alloc (.cells #[.int .i64 0, .int .i64 0, .string ⟨#[]⟩] 68) = W at hg d4 r0 r1 r2 z1 ⊢
  go_loopw [10] (fun i wr => ∃ k : Nat, k ≤ n ∧ i = .int .i64 k ∧ Hid (∀ (j : Nat) y, j < k → f.attrs[j]? = some y → (y.name.toList == s.toList) = false) ∧ Grew W wr) (fun i _ => n - (intOf i).toNat)
  case atStart => exact ⟨0, Nat.zero_le _, rfl, Lib.hid (fun j y h => absurd h (Nat.not_lt_zero j)), Grew.refl _⟩
  case round =>
    obtain ⟨k, hk, rfl, hall, hbel⟩ := hrel
    have hgw := hg.trans hbel
    replace z1 : ∀ j, wr.frozen? ⟨w.heap.size + 1, j, none⟩ = false := fun j => grew_frozen (a := ⟨w.heap.size + 1, j, none⟩) hbel (show w.heap.size + 1 < W.heap.size from lt_of_cell r0) (z1 j)
    replace r0 := grew_cell hbel r0
    replace r1 := grew_cell hbel r1
    replace r2 := grew_cell hbel r2
    by_cases hlt : k < n
    · obtain ⟨b1, o1, x, rfl, hxk, c0, c1, c2, c3⟩ := (hra.grew hgw).getAt hlt
      have hcs : (x.name.toList == s.toList) = true ∨ (x.name.toList == s.toList) = false := by cases x.name.toList == s.toList <;> simp
      have hal := (Grew.refl wr).alloc (.cells #[.string x.name, .int .i64 x.val.kind, .int .i64 x.val.int, .string x.val.str] 84)
      have q0 := grew_cell hal r0
      have q1 := grew_cell hal r1
      have q2 := grew_cell hal r2
      have zq := fun j => grew_frozen (a := ⟨w.heap.size + 1, j, none⟩) hal (show w.heap.size + 1 < wr.heap.size from lt_of_cell r0) (z1 j)
      have hgal := hgw.alloc (.cells #[.string x.name, .int .i64 x.val.kind, .int .i64 x.val.int, .string x.val.str] 84)
      rcases hcs with hn | hn
      · have HY := Lib.hid (getA_yes hall.out hxk.out hn)
        go_wp2
        refine bodyPost_ret (v := x.val.v) (by simp [results, Tryz.results133, go_sem, q0, q1, q2]) rfl ⟨by rw [HY.out], ?_⟩
        repeat' (first | with_reducible exact hgw | with_reducible exact hgal | with_reducible refine Grew.alloc ?_ _ | with_reducible refine Grew.setCell ?_ ?_ _ | (dsimp only; omega))
      · go_wp2
        go_roundw
        case rel => exact ⟨k + 1, by omega, by go_num, Lib.hid (noa_snoc hall.out hxk.out hn), hbel.alloc _⟩
        case measure => simp [intOf]; omega
    · obtain rfl : k = n := by omega
      have HY := Lib.hid (getA_no (fun j y h h2 => hall.out j y (by rw [← HN.out]; exact h) h2))
      go_wp2
      refine bodyPost_ret (v := V.z.v) (by simp [results, Tryz.results133, go_sem, r0, r1, r2, V.z]) rfl ⟨by rw [HY.out], ?_⟩
      repeat' (first | with_reducible exact hgw | with_reducible refine Grew.setCell ?_ ?_ _ | (dsimp only; omega))
set_option maxRecDepth 100000 in
set_option maxHeartbeats 1000000 in
theorem implIntAttr (f : Fl) (p : P5) (s : ByteArray) (w : World) (h : Fl.R w f p) (hx : f.small) :
    Calls Tryz.prog 134 #[p.v, .string s] w fun e w' => e = .returned (.tuple #[.int .i64 (if (getA f.attrs s).kind = 1 then (getA f.attrs s).int else 0), .bool ((getA f.attrs s).kind == 1)]) ∧ Grew w w' := by
  obtain ⟨p1, p2, p3, p4, p5⟩ := p
  obtain ⟨v, hv⟩ : ∃ v, getA f.attrs s = v := ⟨_, rfl⟩
  have HV := Lib.hid hv
  rw [hv]
  obtain ⟨ti, hti⟩ : ∃ t, (if v.kind = 1 then v.int else 0) = t := ⟨_, rfl⟩
  obtain ⟨tb, htb⟩ : ∃ t, (v.kind == 1) = t := ⟨_, rfl⟩
  rw [hti, htb]
  have hg := (Grew.refl w).alloc (.cells #[.int .i64 p1, .int .i64 p2, .bool p3, .int .i64 p4, p5] 55)
  have HF := Lib.hid (h.grew hg)
  clear hv h
  obtain ⟨vk, vi, vs⟩ := v
  simp only at hti htb
  by_cases hk : vk = 1
  · subst hk
    have e1 : ti = vi := by rw [← hti]; rfl
    have e2 : tb = true := by rw [← htb]; rfl
    subst e1; subst e2
    clear hti htb
    go_enter Tryz.func134, Tryz.ntmps134
    go_wp2_with fail
    refine (implGetAttr f ⟨p1, p2, p3, p4, p5⟩ s _ HF.out hx).mono ?_
    rintro e w1 ⟨he, hb⟩
    rw [HV.out] at he
    subst he
    go_wp2
    go_ret2
    exact ⟨rfl, (hg.trans hb).alloc _⟩
  · have hq : (vk == 1) = false := by simp [hk]
    have e1 : ti = 0 := by rw [← hti, if_neg hk]
    have e2 : tb = false := by rw [← htb]; exact hq
    subst e1; subst e2
    clear hti htb hk
    go_enter Tryz.func134, Tryz.ntmps134
    go_wp2_with fail
    refine (implGetAttr f ⟨p1, p2, p3, p4, p5⟩ s _ HF.out hx).mono ?_
    rintro e w1 ⟨he, hb⟩
    rw [HV.out] at he
    subst he
    go_wp2
    go_ret2
    exact ⟨rfl, (hg.trans hb).alloc _⟩
end Go.Proofs.YtemikjbfjhebnaaGreat
