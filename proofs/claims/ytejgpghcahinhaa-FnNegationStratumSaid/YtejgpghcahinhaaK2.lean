/- Contracts of Dependents. -/
import Derived.Test.YtejgpghcahinhaaK1
import Derived.Test.YtejgpghcahinhaaQ4
import Derived.Test.YtejgpghcahinhaaH5
import Derived.Test.YtejgpghcahinhaaN1
namespace Go.Proofs.Ytejgpghcahinhaa
open Go.RowKit
set_option linter.unusedVariables false
/-- The names of the directories whose query names this one. -/
def dep (xs : List Dr) (s : ByteArray) : List ByteArray := (xs.filter fun x => hasB (qDirs x.query) s).map Dr.name
theorem dep_yes {xs : List Dr} {s : ByteArray} {k : Nat} {x : Dr} (h : xs[k]? = some x) (hh : hasB (qDirs x.query) s = true) : dep (xs.take (k + 1)) s = dep (xs.take k) s ++ [x.name] := by
  rw [take_snoc h]; unfold dep; rw [List.filter_append, List.map_append]; simp [hh]
theorem dep_no {xs : List Dr} {s : ByteArray} {k : Nat} {x : Dr} (h : xs[k]? = some x) (hh : hasB (qDirs x.query) s = false) : dep (xs.take (k + 1)) s = dep (xs.take k) s := by
  rw [take_snoc h]; unfold dep; rw [List.filter_append, List.map_append]; simp [hh]
theorem dep_le (xs : List Dr) (s : ByteArray) : (dep xs s).length ≤ xs.length := by
  unfold dep; rw [List.length_map]; exact List.length_filter_le _ _
theorem dep_tk (xs : List Dr) (s : ByteArray) (k : Nat) : (dep (xs.take k) s).length ≤ k := Nat.le_trans (dep_le _ _) (by rw [List.length_take]; omega)
set_option maxRecDepth 100000 in
set_option maxHeartbeats 1000000 in
theorem specDependents (va : Value) (xs : List Dr) (s : ByteArray) (w : World) (ha : RdDs w va xs) (hx : xs.length ≤ 4000000) (hs : ∀ x, x ∈ xs → x.small) :
    Calls Try.prog 88 #[va, .string s] w fun e w' => ∃ v, e = .returned v ∧ w'.ownsRow w.heap.size 9 1 v (dep xs s).length (strs (dep xs s)) ∧ Grew w w' := by
  obtain ⟨qs, ⟨a, ca, rfl, hca, hra⟩, hall⟩ := ha
  have HA := Lib.hid hall
  have HS := Lib.hid hs
  clear hall hs
  generalize hn : xs.length = n at hx hra
  have HX := Lib.hid hn
  clear hn
  obtain ⟨i0, hi, hz0, hz1, hz2⟩ := info_parts Try.infoString
  go_enter Try.func88, Try.ntmps88
  go_wp2
  go_loopw [5, 6] (fun v i wr => ∃ k : Nat, k ≤ n ∧ i = .int .i64 k ∧ Hid (wr.ownsRow w.heap.size 9 1 v (dep (xs.take k) s).length (strs (dep (xs.take k) s))) ∧ Grew w wr) (fun _ i _ => n - (intOf i).toNat)
  case atStart => exact ⟨0, Nat.zero_le _, rfl, Lib.hid (lit_own w 9 1), (Grew.refl _).alloc _⟩
  case round =>
    obtain ⟨k, hk, rfl, hown, hbel⟩ := hrel
    have hnl := dep_tk xs s k
    by_cases hlt : k < n
    · obtain ⟨b1, o1, p, rfl, hpk, c0, c1⟩ := (hra.grew hbel).getP2 hlt
      obtain ⟨x, hxk, hxr⟩ := HA.out.get hpk.out
      have hxs := HS.out x (List.mem_of_getElem? hxk.out)
      unfold Dr.small at hxs
      obtain ⟨pn, pq⟩ := p
      obtain ⟨hxn, hxq⟩ := hxr
      simp only at hxn hxq c0 c1
      subst hxn
      have HQ := Lib.hid hxq
      clear hxq
      have hql : (qDirs x.query).length ≤ 4000000 := by have := qDirs_le x.query; omega
      obtain ⟨v, hv⟩ : ∃ v, hasB (qDirs x.query) s = v := ⟨_, rfl⟩
      have HV := Lib.hid hv
      clear hv
      have hcs : v = true ∨ v = false := by cases v <;> simp
      rcases hcs with rfl | rfl
      · go_wp2_with (first | (go_at_call 103; refine (specQueryDirs _ x.query.length x.query _ (HQ.out.grew hbel) hxs).mono ?_; rintro e w1 ⟨v1, rfl, hq1, hb⟩; have c9 := grew_cell hb c0; have HQ1 := Lib.hid hq1; clear hq1) | (go_at_call 178; refine (l12Has _ _ (qDirs x.query) s _ (rd_of_own HQ1.out) hql).mono ?_; rintro e w2 ⟨he, rfl⟩; rw [HV.out] at he; subst he) | (at_builtin; refine wpList_append_own _ rfl _ _ 63 rfl w.heap.size 9 i0 (.string ⟨#[]⟩) 1 16 Try.underlying63 hi hz0 hz1 hz2 rfl (by decide) _ _ _ rfl ((ownsRow_grew hown.out hb).alloc _) ⟨_, 0, none⟩ 1 1 [.string x.name] rfl rfl (cell_one_new _ _ _) (fun x hx => by simp at hx; subst hx; rfl) (by unfold maxLen; omega) (by omega) (by have := (hbel.trans hb).size; simp; omega) ?_; intro v' w' hown' hgr _))
        go_roundw
        case rel =>
          refine ⟨k + 1, by omega, by go_num, Lib.hid ?_, ((hbel.trans hb).alloc _).grown hgr (fun g h => (hown.out.lt g h).1)⟩
          rw [dep_yes hxk.out HV.out]; simpa using hown'
        case measure => simp [intOf]; omega
      · go_wp2_with (first | (go_at_call 103; refine (specQueryDirs _ x.query.length x.query _ (HQ.out.grew hbel) hxs).mono ?_; rintro e w1 ⟨v1, rfl, hq1, hb⟩; have c9 := grew_cell hb c0; have HQ1 := Lib.hid hq1; clear hq1) | (go_at_call 178; refine (l12Has _ _ (qDirs x.query) s _ (rd_of_own HQ1.out) hql).mono ?_; rintro e w2 ⟨he, rfl⟩; rw [HV.out] at he; subst he))
        go_roundw
        case rel =>
          refine ⟨k + 1, by omega, by go_num, Lib.hid ?_, hbel.trans hb⟩
          rw [dep_no hxk.out HV.out]; exact ownsRow_grew hown.out hb
        case measure => simp [intOf]; omega
    · obtain rfl : k = n := by omega
      go_wp2
      go_ret
      refine ⟨_, rfl, ?_, hbel⟩
      have := hown.out
      rw [take_all HX.out] at this
      exact this
set_option maxRecDepth 100000 in
set_option maxHeartbeats 1000000 in
theorem implDependents (va : Value) (xs : List Dr) (s : ByteArray) (w : World) (ha : RdDs w va xs) (hx : xs.length ≤ 4000000) (hs : ∀ x, x ∈ xs → x.small) :
    Calls Try.prog 87 #[va, .string s] w fun e w' => ∃ v, e = .returned v ∧ w'.ownsRow w.heap.size 9 1 v (dep xs s).length (strs (dep xs s)) ∧ Grew w w' := by
  obtain ⟨qs, ⟨a, ca, rfl, hca, hra⟩, hall⟩ := ha
  have HA := Lib.hid hall
  have HS := Lib.hid hs
  clear hall hs
  generalize hn : xs.length = n at hx hra
  have HX := Lib.hid hn
  clear hn
  obtain ⟨i0, hi, hz0, hz1, hz2⟩ := info_parts Try.infoString
  go_enter Try.func87, Try.ntmps87
  go_wp2
  go_loopw [5, 11] (fun v i wr => ∃ k : Nat, k ≤ n ∧ i = .int .i64 k ∧ Hid (wr.ownsRow w.heap.size 9 1 v (dep (xs.take k) s).length (strs (dep (xs.take k) s))) ∧ Grew w wr) (fun _ i _ => n - (intOf i).toNat)
  case atStart => exact ⟨0, Nat.zero_le _, rfl, Lib.hid (lit_own w 9 1), (Grew.refl _).alloc _⟩
  case round =>
    obtain ⟨k, hk, rfl, hown, hbel⟩ := hrel
    have hnl := dep_tk xs s k
    by_cases hlt : k < n
    · obtain ⟨b1, o1, p, rfl, hpk, c0, c1⟩ := (hra.grew hbel).getP2 hlt
      obtain ⟨x, hxk, hxr⟩ := HA.out.get hpk.out
      have hxs := HS.out x (List.mem_of_getElem? hxk.out)
      unfold Dr.small at hxs
      obtain ⟨pn, pq⟩ := p
      obtain ⟨hxn, hxq⟩ := hxr
      simp only at hxn hxq c0 c1
      subst hxn
      have HQ := Lib.hid hxq
      obtain ⟨pa, pc, rfl, hpc, hpr⟩ := hxq
      clear hpr
      have hql : (qDirs x.query).length ≤ 4000000 := by have := qDirs_le x.query; omega
      obtain ⟨v, hv⟩ : ∃ v, hasB (qDirs x.query) s = v := ⟨_, rfl⟩
      have HV := Lib.hid hv
      clear hv
      have hal := (Grew.refl wr).alloc (.cells #[.string x.name, .slice pa x.query.length pc] 71)
      have bx0 : (wr.alloc (.cells #[.string x.name, .slice pa x.query.length pc] 71)).cell? ⟨wr.heap.size, 0, none⟩ = some (.string x.name) := by simp
      have hcs : v = true ∨ v = false := by cases v <;> simp
      rcases hcs with rfl | rfl
      · go_wp2_with (first | (go_at_call 45; refine (implQueryDirs _ x.query.length x.query _ (HQ.out.grew (hbel.trans hal)) hxs).mono ?_; rintro e w1 ⟨v1, rfl, hq1, hb⟩; have c9 := grew_cell hb bx0; have HQ1 := Lib.hid hq1; clear hq1) | (go_at_call 176; refine (slContainsStr _ _ (qDirs x.query) s _ (rd_of_own HQ1.out) hql).mono ?_; rintro e w2 ⟨he, rfl⟩; rw [HV.out] at he; subst he) | (at_builtin; refine wpList_append_own _ rfl _ _ 63 rfl w.heap.size 9 i0 (.string ⟨#[]⟩) 1 16 Try.underlying63 hi hz0 hz1 hz2 rfl (by decide) _ _ _ rfl ((ownsRow_grew hown.out (hal.trans hb)).alloc _) ⟨_, 0, none⟩ 1 1 [.string x.name] rfl rfl (cell_one_new _ _ _) (fun x hx => by simp at hx; subst hx; rfl) (by unfold maxLen; omega) (by omega) (by have := ((hbel.trans hal).trans hb).size; simp; omega) ?_; intro v' w' hown' hgr _))
        go_roundw
        case rel =>
          refine ⟨k + 1, by omega, by go_num, Lib.hid ?_, (((hbel.trans hal).trans hb).alloc _).grown hgr (fun g h => (hown.out.lt g h).1)⟩
          rw [dep_yes hxk.out HV.out]; simpa using hown'
        case measure => simp [intOf]; omega
      · go_wp2_with (first | (go_at_call 45; refine (implQueryDirs _ x.query.length x.query _ (HQ.out.grew (hbel.trans hal)) hxs).mono ?_; rintro e w1 ⟨v1, rfl, hq1, hb⟩; have c9 := grew_cell hb bx0; have HQ1 := Lib.hid hq1; clear hq1) | (go_at_call 176; refine (slContainsStr _ _ (qDirs x.query) s _ (rd_of_own HQ1.out) hql).mono ?_; rintro e w2 ⟨he, rfl⟩; rw [HV.out] at he; subst he))
        go_roundw
        case rel =>
          refine ⟨k + 1, by omega, by go_num, Lib.hid ?_, (hbel.trans hal).trans hb⟩
          rw [dep_no hxk.out HV.out]; exact ownsRow_grew hown.out (hal.trans hb)
        case measure => simp [intOf]; omega
    · obtain rfl : k = n := by omega
      go_wp2
      go_ret
      refine ⟨_, rfl, ?_, hbel⟩
      have := hown.out
      rw [take_all HX.out] at this
      exact this
end Go.Proofs.Ytejgpghcahinhaa
