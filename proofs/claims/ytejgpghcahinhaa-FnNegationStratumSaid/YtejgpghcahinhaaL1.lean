/- Contracts of NegativeDeps and PositiveDeps. -/
import Derived.Test.YtejgpghcahinhaaQ4
import Derived.Test.YtejgpghcahinhaaN4
import Derived.Test.YtejgpghcahinhaaN3
namespace Go.Proofs.Ytejgpghcahinhaa
open Go.RowKit Go.Sort
set_option linter.unusedVariables false

/-- The names that nodes of these kinds bear whose mark is as wanted. -/
def depsZ (zs : List (N × Bool)) (u : Bool) : List ByteArray := (zs.filter fun p => inB p.1.op 8 9 && (p.2 == u)).map fun p => p.1.name
theorem depsZ_yes {zs : List (N × Bool)} {u : Bool} {k : Nat} {p : N × Bool} (h : zs[k]? = some p) (h1 : inB p.1.op 8 9 = true) (h2 : (p.2 == u) = true) : depsZ (zs.take (k + 1)) u = depsZ (zs.take k) u ++ [p.1.name] := by
  rw [take_snoc h]; unfold depsZ; rw [List.filter_append, List.map_append]; simp [h1, h2]
theorem depsZ_no {zs : List (N × Bool)} {u : Bool} {k : Nat} {p : N × Bool} (h : zs[k]? = some p) (hh : inB p.1.op 8 9 = false ∨ (p.2 == u) = false) : depsZ (zs.take (k + 1)) u = depsZ (zs.take k) u := by
  rw [take_snoc h]; unfold depsZ; rw [List.filter_append, List.map_append]
  rcases hh with hh | hh
  · simp [hh]
  · simp [hh]
theorem depsZ_le (zs : List (N × Bool)) (u : Bool) : (depsZ zs u).length ≤ zs.length := by
  unfold depsZ; rw [List.length_map]; exact List.length_filter_le _ _
theorem depsZ_tk (zs : List (N × Bool)) (u : Bool) (k : Nat) : (depsZ (zs.take k) u).length ≤ k := Nat.le_trans (depsZ_le _ _) (by rw [List.length_take]; omega)
noncomputable def zipN (xs : List N) : List (N × Bool) := xs.zip (negL xs)
theorem zipN_len (xs : List N) : (zipN xs).length = (negL xs).length := by
  unfold zipN; rw [List.length_zip]; have := negL_le xs; omega
theorem zipN_get {xs : List N} {k : Nat} {x : N} {b : Bool} (h1 : xs[k]? = some x) (h2 : (negL xs)[k]? = some b) : (zipN xs)[k]? = some (x, b) := by
  unfold zipN; exact List.getElem?_zip_eq_some.2 ⟨h1, h2⟩
noncomputable def depsL (xs : List N) (u : Bool) : List ByteArray := so (depsZ (zipN xs) u)
theorem depsL_le (xs : List N) (u : Bool) : (depsL xs u).length ≤ xs.length :=
  Nat.le_trans (so_len _) (Nat.le_trans (depsZ_le _ _) (by rw [zipN_len]; exact negL_le xs))
theorem Rd.rda {w : World} {a : Option Addr} {k n c : Nat} {cs : List Value} (h : Rd w (.slice a n c) k n cs) : RdA w a k n cs := by
  obtain ⟨a', c', h1, _, h2⟩ := h
  cases h1
  exact h2
set_option maxRecDepth 100000 in
set_option maxHeartbeats 1000000 in
theorem l12Names (va : Value) (u : Bool) (n : Nat) (xs : List N) (w : World) (ha : Rd w va 7 n (rows N.c xs)) (hx : n ≤ 4000000) (hz : szAll N.sz xs ≤ 4000000) :
    Calls Try.prog 183 #[va, .bool u] w fun e w' => ∃ v, e = .returned v ∧ w'.ownsRow w.heap.size 9 1 v (depsL xs u).length (strs (depsL xs u)) ∧ Grew w w' := by
  have HA := Lib.hid ha
  obtain ⟨a, ca, rfl, hca, hra⟩ := ha
  have HX := Lib.hid (hra.len_rows N.len (by decide))
  obtain ⟨i0, hi, hz0, hz1, hz2⟩ := info_parts Try.infoString
  go_enter Try.func183, Try.ntmps183
  go_wp2_with fail
  refine (specNegatedNodes _ n xs _ (HA.out.grew ((Grew.refl w).alloc (.cells #[] 9))) hx hz).mono ?_
  rintro e w1 ⟨vb, rfl, hnb, hb1⟩
  have HNB := Lib.hid hnb
  obtain ⟨na, nc, rfl⟩ := own_slice hnb
  clear hnb
  have hml := negL_le xs
  rw [HX.out] at hml
  generalize hm : (negL xs).length = m at hml HNB ⊢
  have HM := Lib.hid hm
  clear hm
  have HZ := Lib.hid ((zipN_len xs).trans HM.out)
  have hbw : Grew w w1 := ((Grew.refl w).alloc (.cells #[] 9)).trans hb1
  have hst : RdS w1 (.slice (some ⟨w.heap.size, 0, none⟩) 0 0) (so (depsZ ((zipN xs).take 0) u)) := (rds_of_own (xs := []) (lit_own w 9 1) (by simp)).grew hb1
  have HST := Lib.hid hst
  clear hst
  go_wp2
  go_loopw [5, 7] (fun v i wr => ∃ k : Nat, k ≤ m ∧ i = .int .i64 k ∧ Hid (RdS wr v (so (depsZ ((zipN xs).take k) u))) ∧ Grew w1 wr) (fun _ i _ => m - (intOf i).toNat)
  case atStart => exact ⟨0, Nat.zero_le _, rfl, HST, Grew.refl _⟩
  case round =>
    obtain ⟨k, hk, rfl, hrd, hg2⟩ := hrel
    have hbel := hbw.trans hg2
    have hnl := depsZ_tk (zipN xs) u k
    by_cases hlt : k < m
    · obtain ⟨b1, o1, x, rfl, hxk, c0, c1, c2, c3, c4, c5, c6⟩ := (hra.grew hbel).getN (show k < n by omega)
      obtain ⟨nb, no, b, hnab, hbk, cb⟩ := ((rd_of_own HNB.out).rda.grew hg2).one hlt
      cases hnab
      have HZK := Lib.hid (zipN_get hxk.out hbk.out)
      obtain ⟨v, hv⟩ : ∃ v, inB x.op 8 9 = v := ⟨_, rfl⟩
      obtain ⟨t, ht⟩ : ∃ t, (b == u) = t := ⟨_, rfl⟩
      have HV := Lib.hid hv
      have HT := Lib.hid ht
      clear hv
      have hkn : (k : Int) < (n : Int) := by omega
      have hcs : v = true ∨ v = false := by cases v <;> simp
      have hct : t = true ∨ t = false := by cases t <;> simp
      have hsl : (so (depsZ ((zipN xs).take k) u)).length ≤ 4000000 := by have := so_len (depsZ ((zipN xs).take k) u); omega
      rcases hcs with rfl | rfl
      · rcases hct with rfl | rfl
        · go_wp2_with (first | (go_at_call 170; refine (l01In _ 8 9 _).mono ?_; rintro e w2 ⟨he, rfl⟩; rw [HV.out] at he; subst he) | (go_at_call 177; refine (l04Put _ _ x.name _ hrd.out hsl).mono ?_; rintro e w3 ⟨v2, rfl, hrd2, hb2⟩; have HR2 := Lib.hid hrd2; clear hrd2))
          go_roundw
          case rel =>
            refine ⟨k + 1, by omega, by go_num, Lib.hid ?_, hg2.trans hb2⟩
            rw [depsZ_yes HZK.out HV.out HT.out, so_snoc]; exact HR2.out
          case measure => simp [intOf]; omega
        · go_wp2_with (go_at_call 170; refine (l01In _ 8 9 _).mono ?_; rintro e w2 ⟨he, rfl⟩; rw [HV.out] at he; subst he)
          go_roundw
          case rel =>
            refine ⟨k + 1, by omega, by go_num, Lib.hid ?_, hg2⟩
            rw [depsZ_no HZK.out (.inr HT.out)]; exact hrd.out
          case measure => simp [intOf]; omega
      · clear ht
        go_wp2_with (go_at_call 170; refine (l01In _ 8 9 _).mono ?_; rintro e w2 ⟨he, rfl⟩; rw [HV.out] at he; subst he)
        go_roundw
        case rel =>
          refine ⟨k + 1, by omega, by go_num, Lib.hid ?_, hg2⟩
          rw [depsZ_no HZK.out (.inl HV.out)]; exact hrd.out
        case measure => simp [intOf]; omega
    · obtain rfl : k = m := by omega
      have h1 := hrd.out
      rw [take_all HZ.out] at h1
      have hql : (depsL xs u).length ≤ 4000000 := by have := depsL_le xs u; have := HX.out; omega
      obtain ⟨ad, c, rfl, hc, hr⟩ := h1
      have HR := Lib.hid hr
      clear hr hrd
      generalize hL : (so (depsZ (zipN xs) u)).length = L at hc HR
      have hL2 : (depsL xs u).length = L := hL
      rw [hL2] at hql
      have HL := Lib.hid hL2
      clear hL hL2
      go_wp2_with (at_builtin; refine wpList_append_own _ rfl _ _ 63 rfl wr.heap.size 9 i0 (.string ⟨#[]⟩) 1 16 Try.underlying63 hi hz0 hz1 hz2 rfl (by decide) _ 0 [] rfl (lit_own wr 9 1) _ L _ (strs (depsL xs u)) rfl (by rw [List.length_map, HL.out, Nat.mul_one]) (rd_news HR.out ((Grew.refl _).alloc _)) (one_strs _) (by unfold maxLen; omega) (by omega) (by simp) ?_)
      intro v' w' hown' hgr _
      go_wp2
      go_ret
      refine ⟨_, rfl, ?_, (hbel.alloc _).grown hgr (fun k h => by cases h; exact hbel.size)⟩
      rw [HL.out]
      exact ownsRow_base (by simpa using hown') hbel.size
set_option maxRecDepth 100000 in
set_option maxHeartbeats 1000000 in
theorem depsBelow (va : Value) (u : Bool) (n : Nat) (xs : List N) (w : World) (ha : Rd w va 7 n (rows N.c xs)) (hx : n ≤ 4000000) (hz : szAll N.sz xs ≤ 4000000) :
    Calls Try.prog 182 #[va, .bool u] w fun e w' => ∃ v, e = .returned v ∧ w'.ownsRow w.heap.size 9 1 v (depsL xs u).length (strs (depsL xs u)) ∧ Grew w w' := by
  have HA := Lib.hid ha
  obtain ⟨a, ca, rfl, hca, hra⟩ := ha
  have HX := Lib.hid (hra.len_rows N.len (by decide))
  obtain ⟨i0, hi, hz0, hz1, hz2⟩ := info_parts Try.infoString
  go_enter Try.func182, Try.ntmps182
  go_wp2_with fail
  refine (implNegatedNodes _ n xs _ (HA.out.grew ((Grew.refl w).alloc (.cells #[] 9))) hx hz).mono ?_
  rintro e w1 ⟨vb, rfl, hnb, hb1⟩
  have HNB := Lib.hid hnb
  obtain ⟨na, nc, rfl⟩ := own_slice hnb
  clear hnb
  have hml := negL_le xs
  rw [HX.out] at hml
  generalize hm : (negL xs).length = m at hml HNB ⊢
  have HM := Lib.hid hm
  clear hm
  have HZ := Lib.hid ((zipN_len xs).trans HM.out)
  have hbw : Grew w w1 := ((Grew.refl w).alloc (.cells #[] 9)).trans hb1
  have HST := Lib.hid (show w1.ownsRow w.heap.size 9 1 (.slice (some ⟨w.heap.size, 0, none⟩) 0 0) (depsZ ((zipN xs).take 0) u).length (strs (depsZ ((zipN xs).take 0) u)) from ownsRow_grew (lit_own w 9 1) hb1)
  have HNW := Lib.hid (ownsRow_base HNB.out ((Grew.refl w).alloc (.cells #[] 9)).size)
  go_wp2
  go_loopw [5, 12] (fun v i wr => ∃ k : Nat, k ≤ m ∧ i = .int .i64 k ∧ Hid (wr.ownsRow w.heap.size 9 1 v (depsZ ((zipN xs).take k) u).length (strs (depsZ ((zipN xs).take k) u))) ∧ Hid (wr.ownsRow w.heap.size 4 1 (.slice na m nc) m (bools (negL xs))) ∧ Grew w wr) (fun _ i _ => m - (intOf i).toNat)
  case atStart => exact ⟨0, Nat.zero_le _, rfl, HST, HNW, hbw⟩
  case round =>
    obtain ⟨k, hk, rfl, hown, hnw, hbel⟩ := hrel
    have hnl := depsZ_tk (zipN xs) u k
    by_cases hlt : k < m
    · obtain ⟨b1, o1, x, rfl, hxk, c0, c1, c2, c3, c4, c5, c6⟩ := (hra.grew hbel).getN (show k < n by omega)
      obtain ⟨nb, no, b, hnab, hbk, cb⟩ := (rd_of_own hnw.out).rda.one hlt
      cases hnab
      have HZK := Lib.hid (zipN_get hxk.out hbk.out)
      obtain ⟨v, hv⟩ : ∃ v, inB x.op 8 9 = v := ⟨_, rfl⟩
      obtain ⟨t, ht⟩ : ∃ t, (b == u) = t := ⟨_, rfl⟩
      have HV := Lib.hid hv
      have HT := Lib.hid ht
      clear hv
      have hkn : (k : Int) < (n : Int) := by omega
      have hcs : v = true ∨ v = false := by cases v <;> simp
      have hct : t = true ∨ t = false := by cases t <;> simp
      obtain ⟨op, l, r, nm, vv⟩ := x
      simp only at c0 c1 c2 c3 c4 c5 c6
      rcases hcs with rfl | rfl
      · rcases hct with rfl | rfl
        · go_wp2_with (first | (go_at_call 146; refine (namesDir ⟨op, l, r, nm, vv⟩ _).mono ?_; rintro e w2 ⟨he, hb⟩; rw [HV.out] at he; subst he; have c9 := grew_cell hb c3) | (at_builtin; refine wpList_append_own _ rfl _ _ 63 rfl w.heap.size 9 i0 (.string ⟨#[]⟩) 1 16 Try.underlying63 hi hz0 hz1 hz2 rfl (by decide) _ _ _ rfl ((ownsRow_grew hown.out hb).alloc _) ⟨_, 0, none⟩ 1 1 [.string nm] rfl rfl (cell_one_new _ _ _) (fun x hx => by simp at hx; subst hx; rfl) (by unfold maxLen; omega) (by omega) (by have := (hbel.trans hb).size; simp; omega) ?_; intro v' w' hown' hgr _))
          go_roundw
          case rel =>
            refine ⟨k + 1, by omega, by go_num, Lib.hid ?_, Lib.hid (own_grown (own_of ((ownsRow_grew hnw.out hb).alloc _)) ((ownsRow_grew hown.out hb).alloc _) (by decide) hgr).1, ((hbel.trans hb).alloc _).grown hgr (fun g h => (hown.out.lt g h).1)⟩
            rw [depsZ_yes HZK.out HV.out HT.out]; simpa using hown'
          case measure => simp [intOf]; omega
        · go_wp2_with (go_at_call 146; refine (namesDir ⟨op, l, r, nm, vv⟩ _).mono ?_; rintro e w2 ⟨he, hb⟩; rw [HV.out] at he; subst he)
          go_roundw
          case rel =>
            refine ⟨k + 1, by omega, by go_num, Lib.hid ?_, Lib.hid (ownsRow_grew hnw.out hb), hbel.trans hb⟩
            rw [depsZ_no HZK.out (.inr HT.out)]; exact ownsRow_grew hown.out hb
          case measure => simp [intOf]; omega
      · clear ht
        go_wp2_with (go_at_call 146; refine (namesDir ⟨op, l, r, nm, vv⟩ _).mono ?_; rintro e w2 ⟨he, hb⟩; rw [HV.out] at he; subst he)
        go_roundw
        case rel =>
          refine ⟨k + 1, by omega, by go_num, Lib.hid ?_, Lib.hid (ownsRow_grew hnw.out hb), hbel.trans hb⟩
          rw [depsZ_no HZK.out (.inl HV.out)]; exact ownsRow_grew hown.out hb
        case measure => simp [intOf]; omega
    · obtain rfl : k = m := by omega
      have h1 := hown.out
      rw [take_all HZ.out] at h1
      have H1 := Lib.hid h1
      have hql : (depsZ (zipN xs) u).length ≤ 4000000 := by have := depsZ_le (zipN xs) u; have := HZ.out; omega
      clear h1 hown
      go_wp2_with (go_at_call 147; refine (sortedOnce _ _ _ _ (rd_of_own H1.out) hql).mono ?_; rintro e w2 ⟨v2, rfl, hown2, hb2⟩)
      go_ret
      exact ⟨_, rfl, ownsRow_base hown2 hbel.size, hbel.trans hb2⟩
set_option maxRecDepth 100000 in
set_option maxHeartbeats 1000000 in
theorem specNegativeDeps (va : Value) (n : Nat) (xs : List N) (w : World) (ha : Rd w va 7 n (rows N.c xs)) (hx : n ≤ 4000000) (hz : szAll N.sz xs ≤ 4000000) :
    Calls Try.prog 102 #[va] w fun e w' => ∃ v, e = .returned v ∧ w'.ownsRow w.heap.size 9 1 v (depsL xs true).length (strs (depsL xs true)) ∧ Grew w w' := by
  have HA := Lib.hid ha
  obtain ⟨a, ca, rfl, hca, hra⟩ := ha
  clear hra
  go_enter Try.func102, Try.ntmps102
  go_wp2_with (go_at_call 183; refine (l12Names _ true n xs _ HA.out hx hz).mono ?_; rintro e w1 ⟨v, rfl, hown, hb⟩)
  go_ret
  exact ⟨_, rfl, hown, hb⟩
set_option maxRecDepth 100000 in
set_option maxHeartbeats 1000000 in
theorem implNegativeDeps (va : Value) (n : Nat) (xs : List N) (w : World) (ha : Rd w va 7 n (rows N.c xs)) (hx : n ≤ 4000000) (hz : szAll N.sz xs ≤ 4000000) :
    Calls Try.prog 98 #[va] w fun e w' => ∃ v, e = .returned v ∧ w'.ownsRow w.heap.size 9 1 v (depsL xs true).length (strs (depsL xs true)) ∧ Grew w w' := by
  have HA := Lib.hid ha
  obtain ⟨a, ca, rfl, hca, hra⟩ := ha
  clear hra
  go_enter Try.func98, Try.ntmps98
  go_wp2_with (go_at_call 182; refine (depsBelow _ true n xs _ HA.out hx hz).mono ?_; rintro e w1 ⟨v, rfl, hown, hb⟩)
  go_ret
  exact ⟨_, rfl, hown, hb⟩
set_option maxRecDepth 100000 in
set_option maxHeartbeats 1000000 in
theorem specPositiveDeps (va : Value) (n : Nat) (xs : List N) (w : World) (ha : Rd w va 7 n (rows N.c xs)) (hx : n ≤ 4000000) (hz : szAll N.sz xs ≤ 4000000) :
    Calls Try.prog 101 #[va] w fun e w' => ∃ v, e = .returned v ∧ w'.ownsRow w.heap.size 9 1 v (depsL xs false).length (strs (depsL xs false)) ∧ Grew w w' := by
  have HA := Lib.hid ha
  obtain ⟨a, ca, rfl, hca, hra⟩ := ha
  clear hra
  go_enter Try.func101, Try.ntmps101
  go_wp2_with (go_at_call 183; refine (l12Names _ false n xs _ HA.out hx hz).mono ?_; rintro e w1 ⟨v, rfl, hown, hb⟩)
  go_ret
  exact ⟨_, rfl, hown, hb⟩
set_option maxRecDepth 100000 in
set_option maxHeartbeats 1000000 in
theorem implPositiveDeps (va : Value) (n : Nat) (xs : List N) (w : World) (ha : Rd w va 7 n (rows N.c xs)) (hx : n ≤ 4000000) (hz : szAll N.sz xs ≤ 4000000) :
    Calls Try.prog 97 #[va] w fun e w' => ∃ v, e = .returned v ∧ w'.ownsRow w.heap.size 9 1 v (depsL xs false).length (strs (depsL xs false)) ∧ Grew w w' := by
  have HA := Lib.hid ha
  obtain ⟨a, ca, rfl, hca, hra⟩ := ha
  clear hra
  go_enter Try.func97, Try.ntmps97
  go_wp2_with (go_at_call 182; refine (depsBelow _ false n xs _ HA.out hx hz).mono ?_; rintro e w1 ⟨v, rfl, hown, hb⟩)
  go_ret
  exact ⟨_, rfl, hown, hb⟩
end Go.Proofs.Ytejgpghcahinhaa
