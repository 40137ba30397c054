/- Texts K6, as far as they are needed. -/
import Derived.Test.YtgekgokkbakcmaaGreatSt9
namespace Go.Proofs.YtgekgokkbakcmaaGreat
open Go.RowKit Go.Sort
set_option linter.unusedVariables false
theorem stB_yes {xs : List Dr} {n : Nat} (hn : xs.length = n) (h1 : dirsB xs = true) (h2 : strB n (dirE xs) = true) : stB xs = true ∧ stL xs = strL n (dirE xs) := by
  subst hn
  have h : stB xs = true := by unfold stB; rw [h1, h2]; rfl
  exact ⟨h, by unfold stL; rw [if_pos h]⟩
theorem stB_no1 {xs : List Dr} (h1 : dirsB xs = false) : stB xs = false ∧ stL xs = [] := by
  have h : stB xs = false := by unfold stB; rw [h1]; rfl
  exact ⟨h, by unfold stL; rw [h]; rfl⟩
theorem stB_no2 {xs : List Dr} {n : Nat} (hn : xs.length = n) (h2 : strB n (dirE xs) = false) : stB xs = false ∧ stL xs = [] := by
  subst hn
  have h : stB xs = false := by unfold stB; rw [h2]; simp
  exact ⟨h, by unfold stL; rw [h]; rfl⟩
theorem stL_len {xs : List Dr} (h : stB xs = true) : (stL xs).length = xs.length := by unfold stL; rw [if_pos h]; exact strL_len _ _
theorem stL_le (xs : List Dr) : (stL xs).length ≤ xs.length := by
  cases h : stB xs with
  | true => rw [stL_len h]; exact Nat.le_refl _
  | false => unfold stL; rw [h]; exact Nat.zero_le _
theorem same_nats {L M : List Nat} : sameB (L.map fun (x : Nat) => (x : Int)) (M.map fun (x : Nat) => (x : Int)) = decide (L = M) := by
  by_cases h : L = M
  · subst h; rw [sameB_yes rfl]; simp
  · rw [sameB_no (fun e => h ?_)]
    · simp [h]
    · have := congrArg (List.map Int.toNat) e
      simpa [List.map_map, Function.comp_def] using this
theorem bd_strL {xs : List Dr} {n r : Nat} (hn : xs.length = n) (h5 : n ≤ 5) (h9 : ∀ x, x ∈ xs → x.query.length ≤ 9) (hr : r ≤ 30) : Bd 900000 (iter n (dirE xs) r) := by
  refine bd_mono (bd_iter hn h9 r) ?_
  have h1 : 18 * n * r ≤ 90 * 30 := Nat.mul_le_mul (by omega) hr
  omega
theorem rd_nats {w : World} {v : Value} {n : Nat} {L : List Nat} (h : Rd w v 1 n (natsV L)) : Rd w v 1 n (ints (L.map fun (x : Nat) => (x : Int))) := by rw [← natsV_ints]; exact h
def oneIf : Value → Nat | .bool true => 1 | _ => 0
set_option maxRecDepth 100000 in
set_option maxHeartbeats 2000000 in
theorem specStrata (va : Value) (xs : List Dr) (w : World) (ha : RdDs w va xs) (hx : xs.length ≤ 4000000) (hz : szAll Dr.sz xs ≤ 4000000) :
    Calls Tryz.prog 19 #[va] w fun e w' => ∃ v, e = .returned (.tuple #[v, .bool (stB xs)]) ∧ w'.ownsRow w.heap.size 3 1 v (stL xs).length (natsV (stL xs)) ∧ Grew w w' := by
  have HD := Lib.hid ha
  have HZ := Lib.hid hz
  have HX0 := Lib.hid hx
  obtain ⟨qs, ⟨a, ca, rfl, hca, hra⟩, hall⟩ := ha
  clear hall hra hca
  obtain ⟨vb, hvb⟩ : ∃ b, dirsB xs = b := ⟨_, rfl⟩
  have HV := Lib.hid hvb
  clear hvb hz
  have hcs : vb = true ∨ vb = false := by cases vb <;> simp
  rcases hcs with rfl | rfl
  · have H9 := Lib.hid (dirs_use HV.out).2
    have h5 := (dirs_use HV.out).1
    obtain ⟨n, hn⟩ : ∃ n, xs.length = n := ⟨_, rfl⟩
    have HX := Lib.hid hn
    have HD2 := Lib.hid (show RdDs w (.slice a n ca) xs by have := HD.out; rw [hn] at this; exact this)
    rw [hn] at h5 ⊢
    clear HD hx
    obtain ⟨N, hN⟩ : ∃ N, n * n = N := ⟨_, rfl⟩
    have hN25 : N ≤ 25 := by have := Nat.mul_le_mul h5 h5; omega
    have hnn : IntKind.i64.wrap ((n : Int) * (n : Int)) = (N : Int) := by
      have : (n : Int) * (n : Int) = (N : Int) := by rw [← hN]; exact (Int.natCast_mul n n).symm
      rw [this]; simp [IntKind.wrap, IntKind.bits, IntKind.signed]; omega
    have hnn1 : IntKind.i64.wrap ((N : Int) + 1) = ((N + 1 : Nat) : Int) := by simp [IntKind.wrap, IntKind.bits, IntKind.signed]; omega
    have HN := Lib.hid hN
    clear hN hn
    obtain ⟨i0, hi, hz0, hz1, hz2⟩ := info_parts Tryz.infoInt
    obtain ⟨sb, hsb⟩ : ∃ b, strB n (dirE xs) = b := ⟨_, rfl⟩
    have HSB := Lib.hid hsb
    clear hsb
    go_enter Tryz.func19, Tryz.ntmps19
    go_wp2_with fail
    refine (specIsValidDirs _ xs _ HD2.out HX0.out HZ.out).mono ?_
    rintro e w1 ⟨he, hb⟩
    rw [HV.out] at he; subst he
    go_wp2_with (at_make; refine wpList_make_full _ rfl _ _ 35 rfl w1.heap.size 3 i0 (.int .i64 0) 1 Tryz.underlying35 hi hz0 hz1 _ _ _ _ n rfl rfl rfl rfl ?b2 ?b3 (Nat.le_refl _) ?_)
    case b2 => rw [hz2]; omega
    case b3 => unfold maxLen; omega
    intro w0 hown0 hgrow0
    clear hi hz0 hz1 hz2
    have hb0 : Grew w1 w0 := (Grew.refl _).grown hgrow0 (fun k h => by cases h)
    have HO := Lib.hid (show w0.ownsRow w.heap.size 3 1 (.slice (some ⟨w1.heap.size, 0, none⟩) n n) n (natsV (iter n (dirE xs) 0)) from ownsRow_base (by simpa [Value.cells, toList_madeCells_one, iter, natsV] using hown0) hb.size)
    clear hown0 hgrow0
    have hg0 := hb.trans hb0
    go_wp2
    go_loopw [4, 5] (fun v i wr => ∃ r : Nat, r ≤ N + 2 ∧ i = .int .i64 r ∧ Hid (wr.ownsRow w.heap.size 3 1 v n (natsV (iter n (dirE xs) r))) ∧ Grew w wr) (fun _ i _ => N + 2 - (intOf i).toNat)
    case atStart => exact ⟨0, Nat.zero_le _, rfl, HO, hg0⟩
    case round =>
      obtain ⟨r, hr, rfl, hown, hbel⟩ := hrel
      obtain ⟨oa, oc, rfl⟩ := own_slice hown.out
      have HR := Lib.hid (rd_of_own hown.out)
      by_cases hlt : r ≤ N + 1
      · go_wp2_with (go_at_call 75; refine (l13Raise _ oa oc xs (iter n (dirE xs) r) n _ (HD2.out.grew hbel) HR.out.rda (by rw [iter_len, HX.out]) HX.out h5 H9.out HZ.out (bd_strL HX.out h5 H9.out (by omega))).mono ?_; rintro e w2 ⟨v2, rfl, hown2, hb2⟩; have HO2 := Lib.hid hown2; clear hown2)
        go_roundw
        case rel => exact ⟨r + 1, by omega, by go_num, Lib.hid (ownsRow_base HO2.out hbel.size), hbel.trans hb2⟩
        case measure => simp [intOf]; omega
      · obtain rfl : r = N + 2 := by omega
        have HSL := Lib.hid (show iter n (dirE xs) (N + 2) = strL n (dirE xs) by unfold strL; rw [HN.out])
        rw [HSL.out] at hown HR
        have HSD := Lib.hid (show decide (raise n (dirE xs) (strL n (dirE xs)) = strL n (dirE xs)) = sb from HSB.out)
        have hcs : sb = true ∨ sb = false := by cases sb <;> simp
        rcases hcs with rfl | rfl
        all_goals
          go_wp2_with (first | (go_at_call 75; refine (l13Raise _ oa oc xs (strL n (dirE xs)) n _ (HD2.out.grew hbel) HR.out.rda (by rw [strL_len, HX.out]) HX.out h5 H9.out HZ.out (by rw [← HSL.out]; exact bd_strL HX.out h5 H9.out (by omega))).mono ?_; rintro e w2 ⟨v2, rfl, hown2, hb2⟩; have HO2 := Lib.hid (rd_of_own hown2); clear hown2) | (go_at_call 76; refine (l07Ints _ _ n n _ _ _ (rd_nats HO2.out) (rd_nats (HR.out.grew hb2)) (by omega) (by omega)).mono ?_; rintro e w3 ⟨he, hb3⟩; rw [same_nats, HSD.out] at he; subst he))
          go_ret2
        · have h1 := stB_yes HX.out HV.out HSB.out
          rw [h1.1]
          refine ⟨_, rfl, ?_, (hbel.trans hb2).trans hb3⟩
          rw [h1.2, strL_len]
          exact ownsRow_grew hown.out (hb2.trans hb3)
        · have h1 := stB_no2 HX.out HSB.out
          rw [h1.1]
          refine ⟨_, rfl, ?_, ((hbel.trans hb2).trans hb3).alloc _⟩
          rw [h1.2]
          exact ownsRow_base (lit_own w3 3 1) ((hbel.trans hb2).trans hb3).size
  · have h1 := stB_no1 HV.out
    have H1 := Lib.hid h1
    clear h1
    go_enter Tryz.func19, Tryz.ntmps19
    go_wp2_with (go_at_call 31; refine (specIsValidDirs _ xs _ HD.out HX0.out HZ.out).mono ?_; rintro e w1 ⟨he, hb⟩; rw [HV.out] at he; subst he)
    go_ret2
    rw [H1.out.1]
    refine ⟨_, rfl, ?_, hb.alloc _⟩
    rw [H1.out.2]
    exact ownsRow_base (lit_own w1 3 1) hb.size
theorem way_sum {w : World} {b g n N : Nat} {es : Edges} {L : List Nat} (h : w.ownsRow b 3 1 (.slice (some ⟨g, 0, none⟩) n n) n (natsV L)) (hw : Way n es L) (hN : n * n = N) : sumW w g n = sumN L ∧ sumN L ≤ N := by
  refine ⟨sumW_of hw.len (fun j hj => ?_), ?_⟩
  · obtain ⟨x, hx, hc⟩ := own_one (f := fun x : Nat => Value.int .i64 (x : Int)) h hj
    rw [hc, gt_at hx.out]
  · rw [← hN]
    exact sum_bound (fun x hx => by obtain ⟨i, hi, rfl⟩ := mem_gt hx; exact hw.top i (by rw [← hw.len]; exact hi)) hw.len
theorem rd_len {α : Type} {f : α → Value} {w : World} {v : Value} {n : Nat} {L : List α} (h : Rd w v 1 n (L.map f)) (hl : L.length = n) : Rd w v 1 L.length (L.map f) := by rw [hl]; exact h
set_option maxRecDepth 100000 in
set_option maxHeartbeats 4000000 in
theorem implStrata (va : Value) (xs : List Dr) (w : World) (ha : RdDs w va xs) (hx : xs.length ≤ 4000000) (hz : szAll Dr.sz xs ≤ 4000000) :
    Calls Tryz.prog 18 #[va] w fun e w' => ∃ v, e = .returned (.tuple #[v, .bool (stB xs)]) ∧ w'.ownsRow w.heap.size 3 1 v (stL xs).length (natsV (stL xs)) ∧ Grew w w' := by
  have HD := Lib.hid ha
  have HZ := Lib.hid hz
  have HX0 := Lib.hid hx
  obtain ⟨qs, ⟨a, ca, rfl, hca, hra⟩, hall⟩ := ha
  have HA := Lib.hid hall
  clear hall hca
  obtain ⟨vb, hvb⟩ : ∃ b, dirsB xs = b := ⟨_, rfl⟩
  have HV := Lib.hid hvb
  clear hvb hz
  have hcs : vb = true ∨ vb = false := by cases vb <;> simp
  rcases hcs with rfl | rfl
  · have H9 := Lib.hid (dirs_use HV.out).2
    have h5 := (dirs_use HV.out).1
    obtain ⟨n, hn⟩ : ∃ n, xs.length = n := ⟨_, rfl⟩
    have HX := Lib.hid hn
    have HD2 := Lib.hid (show RdDs w (.slice a n ca) xs by have := HD.out; rw [hn] at this; exact this)
    rw [hn] at h5 hra ⊢
    clear HD hx
    have HOK := Lib.hid (dirE_ok (xs := xs) hn)
    obtain ⟨N, hN⟩ : ∃ N, n * n = N := ⟨_, rfl⟩
    have HN := Lib.hid hN
    clear hN hn
    obtain ⟨i0, hi, hz0, hz1, hz2⟩ := info_parts Tryz.infoInt
    go_enter Tryz.func18, Tryz.ntmps18
    go_wp2_with fail
    refine (implIsValidDirs _ xs _ HD2.out HX0.out HZ.out).mono ?_
    rintro e w1 ⟨he, hb⟩
    rw [HV.out] at he; subst he
    go_wp2_with (at_make; refine wpList_make_full _ rfl _ _ 35 rfl w1.heap.size 3 i0 (.int .i64 0) 1 Tryz.underlying35 hi hz0 hz1 _ _ _ _ n rfl rfl rfl rfl ?b2 ?b3 (Nat.le_refl _) ?_)
    case b2 => rw [hz2]; omega
    case b3 => unfold maxLen; omega
    intro w0 hown0 hgrow0
    clear hi hz0 hz1 hz2
    have hb0 : Grew w1 w0 := (Grew.refl _).grown hgrow0 (fun k h => by cases h)
    have HO := Lib.hid (show w0.ownsRow w.heap.size 3 1 (.slice (some ⟨w1.heap.size, 0, none⟩) n n) n (natsV (List.replicate n 0)) from ownsRow_base (by simpa [Value.cells, toList_madeCells_one, natsV] using hown0) hb.size)
    clear hown0 hgrow0
    have hg0 := hb.trans hb0
    have hg1 := hb.size
    obtain ⟨g, hgdef⟩ : ∃ g, w1.heap.size = g := ⟨_, rfl⟩
    rw [hgdef] at HO hg1 ⊢
    clear hgdef hb0
    go_wp2
    go_loopw [5] (fun c wr => ∃ (L : List Nat) (b : Bool), c = .bool b ∧ Hid (wr.ownsRow w.heap.size 3 1 (.slice (some ⟨g, 0, none⟩) n n) n (natsV L)) ∧ Hid (Way n (dirE xs) L) ∧ Hid (b = false → MetTo (dirE xs) L n) ∧ Grew w wr) (fun c wr => 2 * (N - sumW wr g n) + oneIf c)
    case atStart => exact ⟨_, true, rfl, HO, Lib.hid (Way.start n _), Lib.hid (fun h => by cases h), hg0⟩
    case round =>
      obtain ⟨L, b, rfl, hown, hway, hmet, hbel⟩ := hrel
      have hcs : b = true ∨ b = false := by cases b <;> simp
      rcases hcs with rfl | rfl
      · clear hmet
        have HW0 := Lib.hid (way_sum hown.out hway.out HN.out)
        obtain ⟨W1, rfl⟩ : ∃ y, y = wr := ⟨_, rfl⟩
        go_wp2
        go_loopw [5, 18] (fun c i wr => ∃ (k : Nat) (L' : List Nat) (b' : Bool), k ≤ n ∧ i = .int .i64 k ∧ c = .bool b' ∧ Hid (wr.ownsRow w.heap.size 3 1 (.slice (some ⟨g, 0, none⟩) n n) n (natsV L')) ∧ Hid (Way n (dirE xs) L') ∧ Hid ((b' = false → L' = L ∧ MetTo (dirE xs) L' k) ∧ (b' = true → sumN L < sumN L')) ∧ Grew w wr) (fun _ i _ => n - (intOf i).toNat)
        case atStart => exact ⟨0, L, false, Nat.zero_le _, rfl, rfl, hown, hway, Lib.hid ⟨fun _ => ⟨rfl, MetTo.start _ _⟩, fun h => by cases h⟩, hbel⟩
        case round =>
          obtain ⟨k, L', b', hk, rfl, rfl, hown', hway', hst, hbel'⟩ := hrel
          by_cases hlt : k < n
          · obtain ⟨b1, o1, p, rfl, hpk, c0, c1⟩ := (hra.grew hbel').getP2 hlt
            obtain ⟨x, hxk, hxr⟩ := HA.out.get hpk.out
            have hxs := dir_sz HZ.out hxk.out
            have hq9 := H9.out x (List.mem_of_getElem? hxk.out)
            obtain ⟨pn, pq⟩ := p
            obtain ⟨hxn, hxq⟩ := hxr
            simp only at hxn hxq c0 c1
            subst hxn
            have HQ := Lib.hid hxq
            obtain ⟨pa, pc, rfl, hpc, hpr⟩ := hxq
            clear hpr hpc
            have HE := Lib.hid (dirE_at hxk.out)
            have hd1 := depsL_le x.query false
            have hd2 := depsL_le x.query true
            obtain ⟨z, hzk, e2⟩ := own_one hown'.out hlt
            have hzg := Lib.hid (gt_at hzk.out)
            have hfz := hown'.out.frozenAt k
            have hgw := (hown'.out.lt g rfl).2
            have HLL := Lib.hid hway'.out.len
            have HTOP := Lib.hid (show Bd 1000000 L' from fun i => by
              by_cases hi : i < n
              · exact Nat.le_trans (hway'.out.top i hi) (by omega)
              · unfold gt; rw [List.getD_eq_getElem?_getD, List.getElem?_eq_none (by rw [hway'.out.len]; omega)]; exact Nat.zero_le _)
            obtain ⟨p1, hp1⟩ : ∃ t, abv L' (edg xs (depsL x.query false) 0) = t := ⟨_, rfl⟩
            obtain ⟨p2, hp2⟩ : ∃ t, abv L' (edg xs (depsL x.query true) 1) = t := ⟨_, rfl⟩
            have HP1 := Lib.hid hp1
            have HP2 := Lib.hid hp2
            have hpb1 : p1 ≤ 1000001 := by rw [← hp1]; exact abv_bd HTOP.out (by omega)
            have hpb2 : p2 ≤ 1000001 := by rw [← hp2]; exact abv_bd HTOP.out (by omega)
            have HLS := Lib.hid (show lst L' (edg xs (depsL x.query false) 0) (edg xs (depsL x.query true) 1) = max p1 p2 by unfold lst; rw [hp1, hp2])
            clear hp1 hp2
            obtain ⟨lv, hlv⟩ : ∃ t, max p1 p2 = t := ⟨_, rfl⟩
            have hmx : max (p1 : Int) (p2 : Int) = (lv : Int) := by omega
            rw [hlv] at HLS
            have hcase : (n < lv) ∨ (lv ≤ n ∧ z < lv) ∨ (lv ≤ n ∧ lv ≤ z) := by omega
            have hkq2 : (k : Int) < (n : Int) := by omega
            rcases hcase with hc | ⟨hc0, hc⟩ | ⟨hc0, hc⟩
            · have hal := (Grew.refl wr).alloc (.cells #[.string x.name, .slice pa x.query.length pc] 39)
              have hc2 : (n : Int) < (lv : Int) := by omega
              go_wp2_with fail
              refine wp_region_noPanic ?_
              refine wp_region_held_drew (S := (fun w' => (w'.cell? ⟨wr.heap.size, 1, none⟩ = some (.slice pa x.query.length pc) ∧ Grew (wr.alloc (.cells #[.string x.name, .slice pa x.query.length pc] 39)) w'))) (by kernel_rfl) ?h1_S ?h1_r
              case h1_S => exact ⟨grew_cell (Grew.refl _).drew (by simp), (Grew.refl _).drew⟩
              case h1_r =>
                intro HS
                first
                  | refine sk 0 rfl (by kernel_rfl) rfl HS ?_
                  | (refine tk (v := ?v1_0) 0 rfl (by kernel_rfl) rfl ?y1_0 HS ?_; case y1_0 => (intro w' hSw; (try dsimp only at hSw); go_simp <;> (with_reducible rfl)))
                try simp only [Act.put, List.setIfInBounds_toArray, List.set_cons_zero, List.set_cons_succ]
                first
                  | refine sk 1 rfl (by kernel_rfl) rfl HS ?_
                  | (refine tk (v := ?v1_1) 1 rfl (by kernel_rfl) rfl ?y1_1 HS ?_; case y1_1 => (intro w' hSw; (try dsimp only at hSw); go_simp <;> (with_reducible rfl)))
                try simp only [Act.put, List.setIfInBounds_toArray, List.set_cons_zero, List.set_cons_succ]
                first
                  | refine sk 2 rfl (by kernel_rfl) rfl HS ?_
                  | (refine tk (v := ?v1_2) 2 rfl (by kernel_rfl) rfl ?y1_2 HS ?_; case y1_2 => (intro w' hSw; (try dsimp only at hSw); go_simp <;> (with_reducible rfl)))
                try simp only [Act.put, List.setIfInBounds_toArray, List.set_cons_zero, List.set_cons_succ]
                first
                  | refine sk 3 rfl (by kernel_rfl) rfl HS ?_
                  | (refine tk (v := ?v1_3) 3 rfl (by kernel_rfl) rfl ?y1_3 HS ?_; case y1_3 => (intro w' hSw; (try dsimp only at hSw); go_simp <;> (with_reducible rfl)))
                try simp only [Act.put, List.setIfInBounds_toArray, List.set_cons_zero, List.set_cons_succ]
                first
                  | refine sk 6 rfl (by kernel_rfl) rfl HS ?_
                  | (refine tk (v := ?v1_6) 6 rfl (by kernel_rfl) rfl ?y1_6 HS ?_; case y1_6 => (intro w' hSw; (try dsimp only at hSw); go_simp <;> (with_reducible rfl)))
                try simp only [Act.put, List.setIfInBounds_toArray, List.set_cons_zero, List.set_cons_succ]
                first
                  | refine sk 7 rfl (by kernel_rfl) rfl HS ?_
                  | (refine tk (v := ?v1_7) 7 rfl (by kernel_rfl) rfl ?y1_7 HS ?_; case y1_7 => (intro w' hSw; (try dsimp only at hSw); go_simp <;> (with_reducible rfl)))
                try simp only [Act.put, List.setIfInBounds_toArray, List.set_cons_zero, List.set_cons_succ]
                first
                  | refine sk 8 rfl (by kernel_rfl) rfl HS ?_
                  | (refine tk (v := ?v1_8) 8 rfl (by kernel_rfl) rfl ?y1_8 HS ?_; case y1_8 => (intro w' hSw; (try dsimp only at hSw); go_simp <;> (with_reducible rfl)))
                try simp only [Act.put, List.setIfInBounds_toArray, List.set_cons_zero, List.set_cons_succ]
                first
                  | refine sk 9 rfl (by kernel_rfl) rfl HS ?_
                  | (refine tk (v := ?v1_9) 9 rfl (by kernel_rfl) rfl ?y1_9 HS ?_; case y1_9 => (intro w' hSw; (try dsimp only at hSw); go_simp <;> (with_reducible rfl)))
                try simp only [Act.put, List.setIfInBounds_toArray, List.set_cons_zero, List.set_cons_succ]
                refine cl 4 rfl (by kernel_rfl) (fun K hK => ?_)
                go_simp
                go_at_call 73
                refine (implPositiveDeps _ x.query.length x.query _ (HQ.out.grew (hbel'.trans (hal.trans HS.2))) hxs.2.1 hxs.2.2).mono ?_
                rintro e wa ⟨va, rfl, hva, hbq⟩
                have HVa := Lib.hid (rd_of_own hva)
                clear hva
                refine hK.out _ _ ?s1_4 ?r1_4
                case s1_4 => (try dsimp only); exact ⟨grew_cell hbq HS.1, HS.2.trans hbq⟩
                case r1_4 =>
                  clear HS
                  intro HS
                  clear hK K
                  try simp only [Act.put, List.setIfInBounds_toArray, List.set_cons_zero, List.set_cons_succ]
                  refine cl 5 rfl (by kernel_rfl) (fun K hK => ?_)
                  go_simp
                  go_at_call 72
                  refine (implStrataAbove _ _ _ xs L' (depsL x.query false) 0 _ (HD2.out.grew (hbel'.trans (hal.trans HS.2))) (rd_len (rd_of_own (ownsRow_grew hown'.out (hal.trans HS.2))) HLL.out) HVa.out (by rw [HX.out]; omega) (by rw [HLL.out, HX.out]) (by omega) HTOP.out (by omega)).mono ?_
                  rintro e wa2 ⟨he, hbq⟩
                  rw [HP1.out] at he
                  subst he
                  refine hK.out _ _ ?s1_5 ?r1_5
                  case s1_5 => (try dsimp only); exact ⟨grew_cell hbq HS.1, HS.2.trans hbq⟩
                  case r1_5 =>
                    clear HS
                    intro HS
                    clear hK K
                    try simp only [Act.put, List.setIfInBounds_toArray, List.set_cons_zero, List.set_cons_succ]
                    refine cl 10 rfl (by kernel_rfl) (fun K hK => ?_)
                    go_simp
                    go_at_call 74
                    refine (implNegativeDeps _ x.query.length x.query _ (HQ.out.grew (hbel'.trans (hal.trans HS.2))) hxs.2.1 hxs.2.2).mono ?_
                    rintro e wb ⟨vb, rfl, hvb, hbq⟩
                    have HVb := Lib.hid (rd_of_own hvb)
                    clear hvb
                    refine hK.out _ _ ?s1_10 ?r1_10
                    case s1_10 => (try dsimp only); exact ⟨grew_cell hbq HS.1, HS.2.trans hbq⟩
                    case r1_10 =>
                      clear HS
                      intro HS
                      clear hK K
                      try simp only [Act.put, List.setIfInBounds_toArray, List.set_cons_zero, List.set_cons_succ]
                      refine cl 11 rfl (by kernel_rfl) (fun K hK => ?_)
                      go_simp
                      go_at_call 72
                      refine (implStrataAbove _ _ _ xs L' (depsL x.query true) 1 _ (HD2.out.grew (hbel'.trans (hal.trans HS.2))) (rd_len (rd_of_own (ownsRow_grew hown'.out (hal.trans HS.2))) HLL.out) HVb.out (by rw [HX.out]; omega) (by rw [HLL.out, HX.out]) (by omega) HTOP.out (by omega)).mono ?_
                      rintro e wb2 ⟨he, hbq⟩
                      rw [HP2.out] at he
                      subst he
                      refine hK.out _ _ ?s1_11 ?r1_11
                      case s1_11 => (try dsimp only); exact ⟨grew_cell hbq HS.1, HS.2.trans hbq⟩
                      case r1_11 =>
                        clear HS
                        intro HS
                        clear hK K
                        try simp only [Act.put, List.setIfInBounds_toArray, List.set_cons_zero, List.set_cons_succ]
                        first
                          | refine sk 12 rfl (by kernel_rfl) rfl HS ?_
                          | (refine tk (v := ?v1_12) 12 rfl (by kernel_rfl) rfl ?y1_12 HS ?_; case y1_12 => (intro w' hSw; (try dsimp only at hSw); go_simp <;> (with_reducible rfl)))
                        try simp only [Act.put, List.setIfInBounds_toArray, List.set_cons_zero, List.set_cons_succ]
                        first
                          | refine sk 13 rfl (by kernel_rfl) rfl HS ?_
                          | (refine tk (v := ?v1_13) 13 rfl (by kernel_rfl) rfl ?y1_13 HS ?_; case y1_13 => (intro w' hSw; (try dsimp only at hSw); go_simp <;> (with_reducible rfl)))
                        try simp only [Act.put, List.setIfInBounds_toArray, List.set_cons_zero, List.set_cons_succ]
                        refine wpAnyH_done (by kernel_rfl) ?_ _
                        refine NoPanic.normal ?_
                        have hgx := hal.trans HS.2
                        have e3 := grew_cell hgx e2
                        have f3 := grew_frozen hgx hgw hfz
                        go_wp2
                        go_ret2
                        have h1 := stB_no2 HX.out (Way.fails HOK.out hway'.out hlt HE.out (by rw [HLS.out]; exact hc))
                        rw [h1.1]
                        refine ⟨_, rfl, ?_, hbel'.trans hgx⟩
                        rw [h1.2]
                        exact World.ownsRow_nil _ _ _ _
            · have hal := (Grew.refl wr).alloc (.cells #[.string x.name, .slice pa x.query.length pc] 39)
              have hc1 : ¬ ((n : Int) < (lv : Int)) := by omega
              have hc2 : (z : Int) < (lv : Int) := by omega
              go_wp2_with fail
              refine wp_region_noPanic ?_
              refine wp_region_held_drew (S := (fun w' => (w'.cell? ⟨wr.heap.size, 1, none⟩ = some (.slice pa x.query.length pc) ∧ Grew (wr.alloc (.cells #[.string x.name, .slice pa x.query.length pc] 39)) w'))) (by kernel_rfl) ?h2_S ?h2_r
              case h2_S => exact ⟨grew_cell (Grew.refl _).drew (by simp), (Grew.refl _).drew⟩
              case h2_r =>
                intro HS
                first
                  | refine sk 0 rfl (by kernel_rfl) rfl HS ?_
                  | (refine tk (v := ?v2_0) 0 rfl (by kernel_rfl) rfl ?y2_0 HS ?_; case y2_0 => (intro w' hSw; (try dsimp only at hSw); go_simp <;> (with_reducible rfl)))
                try simp only [Act.put, List.setIfInBounds_toArray, List.set_cons_zero, List.set_cons_succ]
                first
                  | refine sk 1 rfl (by kernel_rfl) rfl HS ?_
                  | (refine tk (v := ?v2_1) 1 rfl (by kernel_rfl) rfl ?y2_1 HS ?_; case y2_1 => (intro w' hSw; (try dsimp only at hSw); go_simp <;> (with_reducible rfl)))
                try simp only [Act.put, List.setIfInBounds_toArray, List.set_cons_zero, List.set_cons_succ]
                first
                  | refine sk 2 rfl (by kernel_rfl) rfl HS ?_
                  | (refine tk (v := ?v2_2) 2 rfl (by kernel_rfl) rfl ?y2_2 HS ?_; case y2_2 => (intro w' hSw; (try dsimp only at hSw); go_simp <;> (with_reducible rfl)))
                try simp only [Act.put, List.setIfInBounds_toArray, List.set_cons_zero, List.set_cons_succ]
                first
                  | refine sk 3 rfl (by kernel_rfl) rfl HS ?_
                  | (refine tk (v := ?v2_3) 3 rfl (by kernel_rfl) rfl ?y2_3 HS ?_; case y2_3 => (intro w' hSw; (try dsimp only at hSw); go_simp <;> (with_reducible rfl)))
                try simp only [Act.put, List.setIfInBounds_toArray, List.set_cons_zero, List.set_cons_succ]
                first
                  | refine sk 6 rfl (by kernel_rfl) rfl HS ?_
                  | (refine tk (v := ?v2_6) 6 rfl (by kernel_rfl) rfl ?y2_6 HS ?_; case y2_6 => (intro w' hSw; (try dsimp only at hSw); go_simp <;> (with_reducible rfl)))
                try simp only [Act.put, List.setIfInBounds_toArray, List.set_cons_zero, List.set_cons_succ]
                first
                  | refine sk 7 rfl (by kernel_rfl) rfl HS ?_
                  | (refine tk (v := ?v2_7) 7 rfl (by kernel_rfl) rfl ?y2_7 HS ?_; case y2_7 => (intro w' hSw; (try dsimp only at hSw); go_simp <;> (with_reducible rfl)))
                try simp only [Act.put, List.setIfInBounds_toArray, List.set_cons_zero, List.set_cons_succ]
                first
                  | refine sk 8 rfl (by kernel_rfl) rfl HS ?_
                  | (refine tk (v := ?v2_8) 8 rfl (by kernel_rfl) rfl ?y2_8 HS ?_; case y2_8 => (intro w' hSw; (try dsimp only at hSw); go_simp <;> (with_reducible rfl)))
                try simp only [Act.put, List.setIfInBounds_toArray, List.set_cons_zero, List.set_cons_succ]
                first
                  | refine sk 9 rfl (by kernel_rfl) rfl HS ?_
                  | (refine tk (v := ?v2_9) 9 rfl (by kernel_rfl) rfl ?y2_9 HS ?_; case y2_9 => (intro w' hSw; (try dsimp only at hSw); go_simp <;> (with_reducible rfl)))
                try simp only [Act.put, List.setIfInBounds_toArray, List.set_cons_zero, List.set_cons_succ]
                refine cl 4 rfl (by kernel_rfl) (fun K hK => ?_)
                go_simp
                go_at_call 73
                refine (implPositiveDeps _ x.query.length x.query _ (HQ.out.grew (hbel'.trans (hal.trans HS.2))) hxs.2.1 hxs.2.2).mono ?_
                rintro e wa ⟨va, rfl, hva, hbq⟩
                have HVa := Lib.hid (rd_of_own hva)
                clear hva
                refine hK.out _ _ ?s2_4 ?r2_4
                case s2_4 => (try dsimp only); exact ⟨grew_cell hbq HS.1, HS.2.trans hbq⟩
                case r2_4 =>
                  clear HS
                  intro HS
                  clear hK K
                  try simp only [Act.put, List.setIfInBounds_toArray, List.set_cons_zero, List.set_cons_succ]
                  refine cl 5 rfl (by kernel_rfl) (fun K hK => ?_)
                  go_simp
                  go_at_call 72
                  refine (implStrataAbove _ _ _ xs L' (depsL x.query false) 0 _ (HD2.out.grew (hbel'.trans (hal.trans HS.2))) (rd_len (rd_of_own (ownsRow_grew hown'.out (hal.trans HS.2))) HLL.out) HVa.out (by rw [HX.out]; omega) (by rw [HLL.out, HX.out]) (by omega) HTOP.out (by omega)).mono ?_
                  rintro e wa2 ⟨he, hbq⟩
                  rw [HP1.out] at he
                  subst he
                  refine hK.out _ _ ?s2_5 ?r2_5
                  case s2_5 => (try dsimp only); exact ⟨grew_cell hbq HS.1, HS.2.trans hbq⟩
                  case r2_5 =>
                    clear HS
                    intro HS
                    clear hK K
                    try simp only [Act.put, List.setIfInBounds_toArray, List.set_cons_zero, List.set_cons_succ]
                    refine cl 10 rfl (by kernel_rfl) (fun K hK => ?_)
                    go_simp
                    go_at_call 74
                    refine (implNegativeDeps _ x.query.length x.query _ (HQ.out.grew (hbel'.trans (hal.trans HS.2))) hxs.2.1 hxs.2.2).mono ?_
                    rintro e wb ⟨vb, rfl, hvb, hbq⟩
                    have HVb := Lib.hid (rd_of_own hvb)
                    clear hvb
                    refine hK.out _ _ ?s2_10 ?r2_10
                    case s2_10 => (try dsimp only); exact ⟨grew_cell hbq HS.1, HS.2.trans hbq⟩
                    case r2_10 =>
                      clear HS
                      intro HS
                      clear hK K
                      try simp only [Act.put, List.setIfInBounds_toArray, List.set_cons_zero, List.set_cons_succ]
                      refine cl 11 rfl (by kernel_rfl) (fun K hK => ?_)
                      go_simp
                      go_at_call 72
                      refine (implStrataAbove _ _ _ xs L' (depsL x.query true) 1 _ (HD2.out.grew (hbel'.trans (hal.trans HS.2))) (rd_len (rd_of_own (ownsRow_grew hown'.out (hal.trans HS.2))) HLL.out) HVb.out (by rw [HX.out]; omega) (by rw [HLL.out, HX.out]) (by omega) HTOP.out (by omega)).mono ?_
                      rintro e wb2 ⟨he, hbq⟩
                      rw [HP2.out] at he
                      subst he
                      refine hK.out _ _ ?s2_11 ?r2_11
                      case s2_11 => (try dsimp only); exact ⟨grew_cell hbq HS.1, HS.2.trans hbq⟩
                      case r2_11 =>
                        clear HS
                        intro HS
                        clear hK K
                        try simp only [Act.put, List.setIfInBounds_toArray, List.set_cons_zero, List.set_cons_succ]
                        first
                          | refine sk 12 rfl (by kernel_rfl) rfl HS ?_
                          | (refine tk (v := ?v2_12) 12 rfl (by kernel_rfl) rfl ?y2_12 HS ?_; case y2_12 => (intro w' hSw; (try dsimp only at hSw); go_simp <;> (with_reducible rfl)))
                        try simp only [Act.put, List.setIfInBounds_toArray, List.set_cons_zero, List.set_cons_succ]
                        first
                          | refine sk 13 rfl (by kernel_rfl) rfl HS ?_
                          | (refine tk (v := ?v2_13) 13 rfl (by kernel_rfl) rfl ?y2_13 HS ?_; case y2_13 => (intro w' hSw; (try dsimp only at hSw); go_simp <;> (with_reducible rfl)))
                        try simp only [Act.put, List.setIfInBounds_toArray, List.set_cons_zero, List.set_cons_succ]
                        refine wpAnyH_done (by kernel_rfl) ?_ _
                        refine NoPanic.normal ?_
                        have hgx := hal.trans HS.2
                        have e3 := grew_cell hgx e2
                        have f3 := grew_frozen hgx hgw hfz
                        go_wp2
                        go_roundw
                        case rel =>
                          refine ⟨k + 1, L'.set k lv, true, by omega, by go_num, rfl, Lib.hid (store_one (ownsRow_grew hown'.out hgx) k lv), Lib.hid ?_, Lib.hid ⟨fun h => (by cases h), fun _ => ?_⟩, (hbel'.trans hgx).setCell (p := ⟨g, k, none⟩) hg1 _⟩
                          · have h1 := hway'.out.lift HOK.out hlt HE.out (by rw [HLS.out]; exact hc0)
                            rw [HLS.out] at h1; exact h1
                          · have h1 := sum_set (L := L') (i := k) (x := lv) (by rw [HLL.out]; exact hlt) (by rw [hzg.out]; exact hc)
                            cases b' with
                            | false => have h2 := (hst.out.1 rfl).1; rw [← h2]; exact h1
                            | true => have h2 := hst.out.2 rfl; omega
                        case measure => simp [intOf]; omega
            · have hal := (Grew.refl wr).alloc (.cells #[.string x.name, .slice pa x.query.length pc] 39)
              have hc1 : ¬ ((n : Int) < (lv : Int)) := by omega
              have hc2 : ¬ ((z : Int) < (lv : Int)) := by omega
              go_wp2_with fail
              refine wp_region_noPanic ?_
              refine wp_region_held_drew (S := (fun w' => (w'.cell? ⟨wr.heap.size, 1, none⟩ = some (.slice pa x.query.length pc) ∧ Grew (wr.alloc (.cells #[.string x.name, .slice pa x.query.length pc] 39)) w'))) (by kernel_rfl) ?h3_S ?h3_r
              case h3_S => exact ⟨grew_cell (Grew.refl _).drew (by simp), (Grew.refl _).drew⟩
              case h3_r =>
                intro HS
                first
                  | refine sk 0 rfl (by kernel_rfl) rfl HS ?_
                  | (refine tk (v := ?v3_0) 0 rfl (by kernel_rfl) rfl ?y3_0 HS ?_; case y3_0 => (intro w' hSw; (try dsimp only at hSw); go_simp <;> (with_reducible rfl)))
                try simp only [Act.put, List.setIfInBounds_toArray, List.set_cons_zero, List.set_cons_succ]
                first
                  | refine sk 1 rfl (by kernel_rfl) rfl HS ?_
                  | (refine tk (v := ?v3_1) 1 rfl (by kernel_rfl) rfl ?y3_1 HS ?_; case y3_1 => (intro w' hSw; (try dsimp only at hSw); go_simp <;> (with_reducible rfl)))
                try simp only [Act.put, List.setIfInBounds_toArray, List.set_cons_zero, List.set_cons_succ]
                first
                  | refine sk 2 rfl (by kernel_rfl) rfl HS ?_
                  | (refine tk (v := ?v3_2) 2 rfl (by kernel_rfl) rfl ?y3_2 HS ?_; case y3_2 => (intro w' hSw; (try dsimp only at hSw); go_simp <;> (with_reducible rfl)))
                try simp only [Act.put, List.setIfInBounds_toArray, List.set_cons_zero, List.set_cons_succ]
                first
                  | refine sk 3 rfl (by kernel_rfl) rfl HS ?_
                  | (refine tk (v := ?v3_3) 3 rfl (by kernel_rfl) rfl ?y3_3 HS ?_; case y3_3 => (intro w' hSw; (try dsimp only at hSw); go_simp <;> (with_reducible rfl)))
                try simp only [Act.put, List.setIfInBounds_toArray, List.set_cons_zero, List.set_cons_succ]
                first
                  | refine sk 6 rfl (by kernel_rfl) rfl HS ?_
                  | (refine tk (v := ?v3_6) 6 rfl (by kernel_rfl) rfl ?y3_6 HS ?_; case y3_6 => (intro w' hSw; (try dsimp only at hSw); go_simp <;> (with_reducible rfl)))
                try simp only [Act.put, List.setIfInBounds_toArray, List.set_cons_zero, List.set_cons_succ]
                first
                  | refine sk 7 rfl (by kernel_rfl) rfl HS ?_
                  | (refine tk (v := ?v3_7) 7 rfl (by kernel_rfl) rfl ?y3_7 HS ?_; case y3_7 => (intro w' hSw; (try dsimp only at hSw); go_simp <;> (with_reducible rfl)))
                try simp only [Act.put, List.setIfInBounds_toArray, List.set_cons_zero, List.set_cons_succ]
                first
                  | refine sk 8 rfl (by kernel_rfl) rfl HS ?_
                  | (refine tk (v := ?v3_8) 8 rfl (by kernel_rfl) rfl ?y3_8 HS ?_; case y3_8 => (intro w' hSw; (try dsimp only at hSw); go_simp <;> (with_reducible rfl)))
                try simp only [Act.put, List.setIfInBounds_toArray, List.set_cons_zero, List.set_cons_succ]
                first
                  | refine sk 9 rfl (by kernel_rfl) rfl HS ?_
                  | (refine tk (v := ?v3_9) 9 rfl (by kernel_rfl) rfl ?y3_9 HS ?_; case y3_9 => (intro w' hSw; (try dsimp only at hSw); go_simp <;> (with_reducible rfl)))
                try simp only [Act.put, List.setIfInBounds_toArray, List.set_cons_zero, List.set_cons_succ]
                refine cl 4 rfl (by kernel_rfl) (fun K hK => ?_)
                go_simp
                go_at_call 73
                refine (implPositiveDeps _ x.query.length x.query _ (HQ.out.grew (hbel'.trans (hal.trans HS.2))) hxs.2.1 hxs.2.2).mono ?_
                rintro e wa ⟨va, rfl, hva, hbq⟩
                have HVa := Lib.hid (rd_of_own hva)
                clear hva
                refine hK.out _ _ ?s3_4 ?r3_4
                case s3_4 => (try dsimp only); exact ⟨grew_cell hbq HS.1, HS.2.trans hbq⟩
                case r3_4 =>
                  clear HS
                  intro HS
                  clear hK K
                  try simp only [Act.put, List.setIfInBounds_toArray, List.set_cons_zero, List.set_cons_succ]
                  refine cl 5 rfl (by kernel_rfl) (fun K hK => ?_)
                  go_simp
                  go_at_call 72
                  refine (implStrataAbove _ _ _ xs L' (depsL x.query false) 0 _ (HD2.out.grew (hbel'.trans (hal.trans HS.2))) (rd_len (rd_of_own (ownsRow_grew hown'.out (hal.trans HS.2))) HLL.out) HVa.out (by rw [HX.out]; omega) (by rw [HLL.out, HX.out]) (by omega) HTOP.out (by omega)).mono ?_
                  rintro e wa2 ⟨he, hbq⟩
                  rw [HP1.out] at he
                  subst he
                  refine hK.out _ _ ?s3_5 ?r3_5
                  case s3_5 => (try dsimp only); exact ⟨grew_cell hbq HS.1, HS.2.trans hbq⟩
                  case r3_5 =>
                    clear HS
                    intro HS
                    clear hK K
                    try simp only [Act.put, List.setIfInBounds_toArray, List.set_cons_zero, List.set_cons_succ]
                    refine cl 10 rfl (by kernel_rfl) (fun K hK => ?_)
                    go_simp
                    go_at_call 74
                    refine (implNegativeDeps _ x.query.length x.query _ (HQ.out.grew (hbel'.trans (hal.trans HS.2))) hxs.2.1 hxs.2.2).mono ?_
                    rintro e wb ⟨vb, rfl, hvb, hbq⟩
                    have HVb := Lib.hid (rd_of_own hvb)
                    clear hvb
                    refine hK.out _ _ ?s3_10 ?r3_10
                    case s3_10 => (try dsimp only); exact ⟨grew_cell hbq HS.1, HS.2.trans hbq⟩
                    case r3_10 =>
                      clear HS
                      intro HS
                      clear hK K
                      try simp only [Act.put, List.setIfInBounds_toArray, List.set_cons_zero, List.set_cons_succ]
                      refine cl 11 rfl (by kernel_rfl) (fun K hK => ?_)
                      go_simp
                      go_at_call 72
                      refine (implStrataAbove _ _ _ xs L' (depsL x.query true) 1 _ (HD2.out.grew (hbel'.trans (hal.trans HS.2))) (rd_len (rd_of_own (ownsRow_grew hown'.out (hal.trans HS.2))) HLL.out) HVb.out (by rw [HX.out]; omega) (by rw [HLL.out, HX.out]) (by omega) HTOP.out (by omega)).mono ?_
                      rintro e wb2 ⟨he, hbq⟩
                      rw [HP2.out] at he
                      subst he
                      refine hK.out _ _ ?s3_11 ?r3_11
                      case s3_11 => (try dsimp only); exact ⟨grew_cell hbq HS.1, HS.2.trans hbq⟩
                      case r3_11 =>
                        clear HS
                        intro HS
                        clear hK K
                        try simp only [Act.put, List.setIfInBounds_toArray, List.set_cons_zero, List.set_cons_succ]
                        first
                          | refine sk 12 rfl (by kernel_rfl) rfl HS ?_
                          | (refine tk (v := ?v3_12) 12 rfl (by kernel_rfl) rfl ?y3_12 HS ?_; case y3_12 => (intro w' hSw; (try dsimp only at hSw); go_simp <;> (with_reducible rfl)))
                        try simp only [Act.put, List.setIfInBounds_toArray, List.set_cons_zero, List.set_cons_succ]
                        first
                          | refine sk 13 rfl (by kernel_rfl) rfl HS ?_
                          | (refine tk (v := ?v3_13) 13 rfl (by kernel_rfl) rfl ?y3_13 HS ?_; case y3_13 => (intro w' hSw; (try dsimp only at hSw); go_simp <;> (with_reducible rfl)))
                        try simp only [Act.put, List.setIfInBounds_toArray, List.set_cons_zero, List.set_cons_succ]
                        refine wpAnyH_done (by kernel_rfl) ?_ _
                        refine NoPanic.normal ?_
                        have hgx := hal.trans HS.2
                        have e3 := grew_cell hgx e2
                        have f3 := grew_frozen hgx hgw hfz
                        go_wp2
                        go_roundw
                        case rel =>
                          refine ⟨k + 1, L', b', by omega, by go_num, rfl, Lib.hid (ownsRow_grew hown'.out hgx), hway', Lib.hid ⟨fun h => ⟨(hst.out.1 h).1, (hst.out.1 h).2.succ HE.out (by rw [HLS.out, hzg.out]; exact hc)⟩, hst.out.2⟩, hbel'.trans hgx⟩
                        case measure => simp [intOf]; omega
          · obtain rfl : k = n := by omega
            have HW1 := Lib.hid (way_sum hown'.out hway'.out HN.out)
            go_wp2
            go_roundw
            case rel => exact ⟨L', b', rfl, hown', hway', Lib.hid (fun h => (hst.out.1 h).2), hbel'⟩
            case measure =>
              have h1 := HW0.out
              have h2 := HW1.out
              rw [h1.1, h2.1]
              cases b' with
              | false => have h3 := (hst.out.1 rfl).1; rw [h3]; simp [oneIf]
              | true => have h3 := hst.out.2 rfl; simp [oneIf]; omega
      · go_wp2
        go_ret2
        have h0 := hway.out.done HOK.out (hmet.out (by first | rfl | trivial))
        have h1 := stB_yes HX.out HV.out h0.1
        rw [h1.1]
        refine ⟨_, rfl, ?_, hbel⟩
        rw [h1.2, ← h0.2, hway.out.len]
        exact hown.out
  · have H1 := Lib.hid (stB_no1 HV.out)
    go_enter Tryz.func18, Tryz.ntmps18
    go_wp2_with (go_at_call 71; refine (implIsValidDirs _ xs _ HD.out HX0.out HZ.out).mono ?_; rintro e w1 ⟨he, hb⟩; rw [HV.out] at he; subst he)
    go_ret2
    rw [H1.out.1]
    refine ⟨_, rfl, ?_, hb⟩
    rw [H1.out.2]
    exact World.ownsRow_nil _ _ _ _
set_option maxRecDepth 100000 in
set_option maxHeartbeats 1000000 in
theorem specStratumOf (va : Value) (xs : List Dr) (s : ByteArray) (w : World) (ha : RdDs w va xs) (hx : xs.length ≤ 1900000) (hz : szAll Dr.sz xs ≤ 4000000) :
    Calls Tryz.prog 27 #[va, .string s] w fun e w' => e = .returned (.int .i64 (strOf xs s)) ∧ Grew w w' := by
  have HD := Lib.hid ha
  have HX := Lib.hid hx
  obtain ⟨qs, ⟨a, ca, rfl, hca, hra⟩, hall⟩ := ha
  clear hall hra hca
  obtain ⟨sb, hsb⟩ : ∃ b, stB xs = b := ⟨_, rfl⟩
  have HSB := Lib.hid hsb
  clear hsb
  cases hp : plcF xs s with
  | none =>
    have HP := Lib.hid hp
    clear hp
    have hcs : sb = true ∨ sb = false := by cases sb <;> simp
    rcases hcs with rfl | rfl
    all_goals
      go_enter Tryz.func27, Tryz.ntmps27
      go_wp2_with (first | (go_at_call 19; refine (specStrata _ xs _ HD.out (by omega) hz).mono ?_; rintro e w1 ⟨v, he, hv, hb⟩; rw [HSB.out] at he; subst he; obtain ⟨oa, oc, rfl⟩ := own_slice hv; clear hv) | (go_at_call 83; refine (l11Place _ xs s _ (HD.out.grew hb) (by omega)).mono ?_; rintro e w2 ⟨i2, rfl, hp2, rfl⟩; obtain rfl := plc_none HP.out hp2; clear hp2))
      go_ret
      exact ⟨ret_int (by unfold strOf; rw [HSB.out, HP.out]; rfl), hb⟩
  | some j =>
    have hj := plcF_lt hp
    have HP := Lib.hid hp
    clear hp
    have hcs : sb = true ∨ sb = false := by cases sb <;> simp
    rcases hcs with rfl | rfl
    · have HL := Lib.hid (stL_len HSB.out)
      have hjl : (j : Int) < (xs.length : Int) := by omega
      go_enter Tryz.func27, Tryz.ntmps27
      go_wp2_with (first | (go_at_call 19; refine (specStrata _ xs _ HD.out (by omega) hz).mono ?_; rintro e w1 ⟨v, he, hv, hb⟩; rw [HSB.out] at he; subst he; rw [HL.out] at hv; obtain ⟨oa, oc, rfl⟩ := own_slice hv; obtain ⟨b2, o2, y, rfl, hyk, d0⟩ := (rd_of_own hv).rda.one hj; clear hv) | (go_at_call 83; refine (l11Place _ xs s _ (HD.out.grew hb) (by omega)).mono ?_; rintro e w2 ⟨i2, rfl, hp2, rfl⟩; obtain rfl := plc_some HP.out hp2; clear hp2))
      go_ret
      exact ⟨ret_int (by unfold strOf; rw [HSB.out, HP.out, if_pos rfl]; simp only; rw [gt_at hyk.out]), hb⟩
    · go_enter Tryz.func27, Tryz.ntmps27
      go_wp2_with (first | (go_at_call 19; refine (specStrata _ xs _ HD.out (by omega) hz).mono ?_; rintro e w1 ⟨v, he, hv, hb⟩; rw [HSB.out] at he; subst he; obtain ⟨oa, oc, rfl⟩ := own_slice hv; clear hv) | (go_at_call 83; refine (l11Place _ xs s _ (HD.out.grew hb) (by omega)).mono ?_; rintro e w2 ⟨i2, rfl, hp2, rfl⟩; obtain rfl := plc_some HP.out hp2; clear hp2))
      go_ret
      exact ⟨ret_int (by unfold strOf; rw [HSB.out]; rfl), hb⟩
set_option maxRecDepth 100000 in
set_option maxHeartbeats 1000000 in
theorem implIsStratified (va : Value) (xs : List Dr) (w : World) (ha : RdDs w va xs) (hx : xs.length ≤ 4000000) (hz : szAll Dr.sz xs ≤ 4000000) :
    Calls Tryz.prog 30 #[va] w fun e w' => e = .returned (.bool (stB xs)) ∧ Grew w w' := by
  have HD := Lib.hid ha
  obtain ⟨qs, ⟨a, ca, rfl, hca, hra⟩, hall⟩ := ha
  clear hall hra hca
  go_enter Tryz.func30, Tryz.ntmps30
  go_wp2_with (go_at_call 18; refine (implStrata _ xs _ HD.out hx hz).mono ?_; rintro e w1 ⟨v, rfl, hv, hb⟩; obtain ⟨oa, oc, rfl⟩ := own_slice hv; clear hv)
  go_ret
  exact ⟨rfl, hb⟩
set_option maxRecDepth 100000 in
set_option maxHeartbeats 1000000 in
theorem implStratumOf (va : Value) (xs : List Dr) (s : ByteArray) (w : World) (ha : RdDs w va xs) (hx : xs.length ≤ 1900000) (hz : szAll Dr.sz xs ≤ 4000000) :
    Calls Tryz.prog 26 #[va, .string s] w fun e w' => e = .returned (.int .i64 (strOf xs s)) ∧ Grew w w' := by
  have HD := Lib.hid ha
  have HX := Lib.hid hx
  obtain ⟨qs, ⟨a, ca, rfl, hca, hra⟩, hall⟩ := ha
  clear hall hra hca
  obtain ⟨sb, hsb⟩ : ∃ b, stB xs = b := ⟨_, rfl⟩
  have HSB := Lib.hid hsb
  clear hsb
  cases hp : plcF xs s with
  | none =>
    have HP := Lib.hid hp
    clear hp
    have hcs : sb = true ∨ sb = false := by cases sb <;> simp
    rcases hcs with rfl | rfl
    all_goals
      go_enter Tryz.func26, Tryz.ntmps26
      go_wp2_with (first | (go_at_call 18; refine (implStrata _ xs _ HD.out (by omega) hz).mono ?_; rintro e w1 ⟨v, he, hv, hb⟩; rw [HSB.out] at he; subst he; obtain ⟨oa, oc, rfl⟩ := own_slice hv; clear hv) | (go_at_call 82; refine (implDirAt _ xs s _ (HD.out.grew hb) (by omega)).mono ?_; rintro e w2 ⟨i2, rfl, hp2, hb3⟩; obtain rfl := plc_none HP.out hp2; clear hp2))
      go_ret
      exact ⟨ret_int (by unfold strOf; rw [HSB.out, HP.out]; rfl), hb.trans hb3⟩
  | some j =>
    have hj := plcF_lt hp
    have HP := Lib.hid hp
    clear hp
    have hcs : sb = true ∨ sb = false := by cases sb <;> simp
    rcases hcs with rfl | rfl
    · have HL := Lib.hid (stL_len HSB.out)
      have hjl : (j : Int) < (xs.length : Int) := by omega
      go_enter Tryz.func26, Tryz.ntmps26
      go_wp2_with (first | (go_at_call 18; refine (implStrata _ xs _ HD.out (by omega) hz).mono ?_; rintro e w1 ⟨v, he, hv, hb⟩; rw [HSB.out] at he; subst he; rw [HL.out] at hv; obtain ⟨oa, oc, rfl⟩ := own_slice hv; obtain ⟨b2, o2, y, rfl, hyk, d0⟩ := (rd_of_own hv).rda.one hj; clear hv) | (go_at_call 82; refine (implDirAt _ xs s _ (HD.out.grew hb) (by omega)).mono ?_; rintro e w2 ⟨i2, rfl, hp2, hb3⟩; obtain rfl := plc_some HP.out hp2; clear hp2; have d1 := grew_cell hb3 d0))
      go_ret
      exact ⟨ret_int (by unfold strOf; rw [HSB.out, HP.out, if_pos rfl]; simp only; rw [gt_at hyk.out]), hb.trans hb3⟩
    · go_enter Tryz.func26, Tryz.ntmps26
      go_wp2_with (first | (go_at_call 18; refine (implStrata _ xs _ HD.out (by omega) hz).mono ?_; rintro e w1 ⟨v, he, hv, hb⟩; rw [HSB.out] at he; subst he; obtain ⟨oa, oc, rfl⟩ := own_slice hv; clear hv) | (go_at_call 82; refine (implDirAt _ xs s _ (HD.out.grew hb) (by omega)).mono ?_; rintro e w2 ⟨i2, rfl, hp2, hb3⟩; obtain rfl := plc_some HP.out hp2; clear hp2))
      go_ret
      exact ⟨ret_int (by unfold strOf; rw [HSB.out]; rfl), hb.trans hb3⟩
theorem Rd.rda1' {w : World} {v : Value} {k n : Nat} {cs : List Value} (h : Rd w v k n cs) : ∀ a c, v = .slice a n c → RdA w a k n cs := fun a c e => by subst e; exact Rd.rda h
set_option maxRecDepth 100000 in
set_option maxHeartbeats 1000000 in
theorem slMaxInt (va : Value) (n : Nat) (L : List Nat) (w : World) (ha : Rd w va 1 n (natsV L)) (hn : 0 < n) (hx : n ≤ 4000000) :
    Calls Tryz.prog 84 #[va] w fun e w' => e = .returned (.int .i64 (mxL L)) ∧ Grew w w' := by
  obtain ⟨a, ca, rfl, hca, hra⟩ := ha
  have HX := Lib.hid (show L.length = n from hra.len_map)
  obtain ⟨b1, o1, y0, rfl, hy0, c0⟩ := hra.one hn
  have c0' := c0
  simp at c0'
  have hn1 : ¬ ((n : Int) < 1) := by omega
  have hn0 : (0 : Int) < (n : Int) := by omega
  go_enter Tryz.func84, Tryz.ntmps84
  go_wp2
  go_loopw [3, 4] (fun v i wr => ∃ (k : Nat) (r : Int), 1 ≤ k ∧ k ≤ n ∧ i = .int .i64 k ∧ v = .int .i64 r ∧ Hid (r = mxL (L.take k)) ∧ wr = w) (fun _ i _ => n - (intOf i).toNat)
  case atStart => exact ⟨1, _, Nat.le_refl _, hn, rfl, rfl, Lib.hid (by rw [take_snoc (k := 0) hy0.out]; simp [mxL]; omega), by first | rfl | trivial⟩
  case round =>
    obtain ⟨k, r, h1, hk, rfl, rfl, hr, rfl⟩ := hrel
    by_cases hlt : k < n
    · obtain ⟨b2, o2, y, hab, hyk, d0⟩ := hra.one hlt
      cases hab
      go_wp2
      go_roundw
      case rel => exact ⟨k + 1, _, by omega, by omega, by go_num, rfl, Lib.hid (by rw [take_snoc hyk.out, mxL_snoc, ← hr.out]), by first | rfl | trivial⟩
      case measure => simp [intOf]; omega
    · obtain rfl : k = n := by omega
      go_wp2
      go_ret
      exact ⟨ret_int (by rw [hr.out, take_all HX.out]), Grew.refl _⟩
set_option maxRecDepth 100000 in
set_option maxHeartbeats 1000000 in
theorem implMaxStratum (va : Value) (xs : List Dr) (w : World) (ha : RdDs w va xs) (hx : xs.length ≤ 4000000) (hz : szAll Dr.sz xs ≤ 4000000) :
    Calls Tryz.prog 28 #[va] w fun e w' => e = .returned (.int .i64 (mxS xs)) ∧ Grew w w' := by
  have HD := Lib.hid ha
  obtain ⟨qs, ⟨a, ca, rfl, hca, hra⟩, hall⟩ := ha
  clear hall hra hca
  obtain ⟨sb, hsb⟩ : ∃ b, stB xs = b := ⟨_, rfl⟩
  have HSB := Lib.hid hsb
  have hll := stL_le xs
  obtain ⟨l, hl⟩ : ∃ l, (stL xs).length = l := ⟨_, rfl⟩
  have HL := Lib.hid hl
  rw [hl] at hll
  have HN := Lib.hid (show sb = false ∨ l = 0 → mxS xs = -1 by
    rintro (h | h)
    · unfold mxS stL; rw [hsb, h]; rfl
    · unfold mxS; rw [List.length_eq_zero_iff.1 (hl.trans h)]; rfl)
  clear hsb hl
  have hcs : sb = true ∨ sb = false := by cases sb <;> simp
  rcases hcs with rfl | rfl
  · by_cases h0 : l = 0
    · subst h0
      go_enter Tryz.func28, Tryz.ntmps28
      go_wp2_with (go_at_call 18; refine (implStrata _ xs _ HD.out hx hz).mono ?_; rintro e w1 ⟨v, he, hv, hb⟩; rw [HSB.out] at he; subst he; rw [HL.out] at hv; obtain ⟨oa, oc, rfl⟩ := own_slice hv; clear hv)
      go_ret
      exact ⟨ret_int (HN.out (by simp)).symm, hb⟩
    · have h1 : ((l : Int) == 0) = false := by simp; omega
      have h2 : ¬ ((l : Int) = 0) := by omega
      go_enter Tryz.func28, Tryz.ntmps28
      go_wp2_with (first | (go_at_call 18; refine (implStrata _ xs _ HD.out hx hz).mono ?_; rintro e w1 ⟨v, he, hv, hb⟩; rw [HSB.out] at he; subst he; rw [HL.out] at hv; have HR := Lib.hid (rd_of_own hv); obtain ⟨oa, oc, rfl⟩ := own_slice hv; clear hv) | (go_at_call 84; refine (slMaxInt _ l _ _ HR.out (by omega) (by omega)).mono ?_; rintro e w2 ⟨rfl, hb2⟩))
      go_ret
      exact ⟨rfl, hb.trans hb2⟩
  · go_enter Tryz.func28, Tryz.ntmps28
    go_wp2_with (go_at_call 18; refine (implStrata _ xs _ HD.out hx hz).mono ?_; rintro e w1 ⟨v, he, hv, hb⟩; rw [HSB.out] at he; subst he; obtain ⟨oa, oc, rfl⟩ := own_slice hv; clear hv)
    go_ret
    exact ⟨ret_int (HN.out (by simp)).symm, hb⟩
set_option maxRecDepth 100000 in
set_option maxHeartbeats 1000000 in
theorem specMaxStratum (va : Value) (xs : List Dr) (w : World) (ha : RdDs w va xs) (hx : xs.length ≤ 4000000) (hz : szAll Dr.sz xs ≤ 4000000) :
    Calls Tryz.prog 29 #[va] w fun e w' => e = .returned (.int .i64 (mxS xs)) ∧ Grew w w' := by
  have HD := Lib.hid ha
  obtain ⟨qs, ⟨a, ca, rfl, hca, hra⟩, hall⟩ := ha
  clear hall hra hca
  have hll := stL_le xs
  obtain ⟨l, hl⟩ : ∃ l, (stL xs).length = l := ⟨_, rfl⟩
  have HL := Lib.hid hl
  rw [hl] at hll
  clear hl
  go_enter Tryz.func29, Tryz.ntmps29
  go_wp2_with (go_at_call 19; refine (specStrata _ xs _ HD.out hx hz).mono ?_; rintro e w1 ⟨v, rfl, hv, hb⟩; rw [HL.out] at hv; have HR := Lib.hid (rd_of_own hv).rda1'; obtain ⟨oa, oc, rfl⟩ := own_slice hv; clear hv)
  have HR2 := Lib.hid (HR.out _ _ rfl)
  clear HR
  go_loopw [5, 6] (fun v i wr => ∃ (k : Nat) (r : Int), k ≤ l ∧ i = .int .i64 k ∧ v = .int .i64 r ∧ Hid (r = mxL ((stL xs).take k)) ∧ wr = w1) (fun _ i _ => l - (intOf i).toNat)
  case atStart => exact ⟨0, _, Nat.zero_le _, rfl, rfl, Lib.hid rfl, by first | rfl | trivial⟩
  case round =>
    obtain ⟨k, r, hk, rfl, rfl, hr, rfl⟩ := hrel
    by_cases hlt : k < l
    · obtain ⟨b2, o2, y, rfl, hyk, d0⟩ := HR2.out.one hlt
      by_cases hc : r < (y : Int)
      · go_wp2
        go_roundw
        case rel => exact ⟨k + 1, _, by omega, by go_num, rfl, Lib.hid (by rw [take_snoc hyk.out, mxL_snoc, ← hr.out]; omega), by first | rfl | trivial⟩
        case measure => simp [intOf]; omega
      · go_wp2
        go_roundw
        case rel => exact ⟨k + 1, _, by omega, by go_num, rfl, Lib.hid (by rw [take_snoc hyk.out, mxL_snoc, ← hr.out]; omega), by first | rfl | trivial⟩
        case measure => simp [intOf]; omega
    · obtain rfl : k = l := by omega
      go_wp2
      go_ret
      exact ⟨ret_int (by rw [hr.out, take_all HL.out]; rfl), hb⟩
noncomputable def stI (xs : List Dr) : List Int := (stL xs).map fun (x : Nat) => (x : Int)
theorem stI_le (xs : List Dr) : (stI xs).length ≤ xs.length := by unfold stI; rw [List.length_map]; exact stL_le xs
theorem specStrataI (va : Value) (xs : List Dr) (w : World) (ha : RdDs w va xs) (hx : xs.length ≤ 4000000) (hz : szAll Dr.sz xs ≤ 4000000) :
    Calls Tryz.prog 19 #[va] w fun e w' => ∃ v, e = .returned (.tuple #[v, .bool (stB xs)]) ∧ w'.ownsRow w.heap.size 3 1 v (stI xs).length (ints (stI xs)) ∧ Grew w w' :=
  (specStrata va xs w ha hx hz).mono fun e w' ⟨v, h1, h2, h3⟩ => ⟨v, h1, by rw [show (stI xs).length = (stL xs).length from List.length_map .., show ints (stI xs) = natsV (stL xs) from (natsV_ints _).symm]; exact h2, h3⟩
theorem implStrataI (va : Value) (xs : List Dr) (w : World) (ha : RdDs w va xs) (hx : xs.length ≤ 4000000) (hz : szAll Dr.sz xs ≤ 4000000) :
    Calls Tryz.prog 18 #[va] w fun e w' => ∃ v, e = .returned (.tuple #[v, .bool (stB xs)]) ∧ w'.ownsRow w.heap.size 3 1 v (stI xs).length (ints (stI xs)) ∧ Grew w w' :=
  (implStrata va xs w ha hx hz).mono fun e w' ⟨v, h1, h2, h3⟩ => ⟨v, h1, by rw [show (stI xs).length = (stL xs).length from List.length_map .., show ints (stI xs) = natsV (stL xs) from (natsV_ints _).symm]; exact h2, h3⟩
end Go.Proofs.YtgekgokkbakcmaaGreat
