/- Contracts of l13Asks, dependsOn, RecursiveDirs and UnstratifiedDirs. -/
import Derived.Test.YtejgpghcahinhaaK3
import Derived.Test.YtejgpghcahinhaaL1
import Derived.Test.YtejgpghcahinhaaS
import Derived.Test.YtejgpghcahinhaaG
namespace Go.Proofs.Ytejgpghcahinhaa
open Go.RowKit Go.Sort
set_option linter.unusedVariables false
theorem Rd.fix1 {α : Type} {f : α → Value} {w : World} {v : Value} {n : Nat} {xs : List α} (h : Rd w v 1 n (xs.map f)) : Rd w v 1 xs.length (xs.map f) := by rw [h.len1]; exact h
theorem rd_lit1 (w : World) (y : ByteArray) : Rd (w.alloc (.cells #[.string y] 9)) (.slice (some ⟨w.heap.size, 0, none⟩) 1 1) 1 [y].length (strs [y]) := by
  refine ⟨_, 1, rfl, Nat.le_refl _, by simp, fun _ => ⟨_, 0, rfl, fun j hj => ?_⟩⟩
  have : j = 0 := by simp at hj; exact hj
  subst this
  simp
theorem any_snoc_no {α : Type} {p : α → Bool} {l : List α} {k : Nat} {x : α} (h : (l.take k).any p = false) (hx : l[k]? = some x) (hp : p x = false) : (l.take (k + 1)).any p = false := by
  rw [take_snoc hx, List.any_append, h]; simp [hp]
theorem any_yes {α : Type} {p : α → Bool} {l : List α} {k : Nat} {x : α} (hx : l[k]? = some x) (hp : p x = true) : l.any p = true := List.any_eq_true.2 ⟨x, List.mem_of_getElem? hx, hp⟩
set_option maxRecDepth 100000 in
set_option maxHeartbeats 1000000 in
theorem implDependsOn (va : Value) (xs : List Dr) (f t : ByteArray) (w : World) (ha : RdDs w va xs) (hx : xs.length ≤ 1900000) (hs : ∀ x, x ∈ xs → x.small) :
    Calls Try.prog 181 #[va, .string f, .string t] w fun e w' => e = .returned (.bool (asksB xs f t)) ∧ Grew w w' := by
  have HD := Lib.hid ha
  have HS := Lib.hid hs
  obtain ⟨qs, ⟨a, ca, rfl, hca, hra⟩, hall⟩ := ha
  clear hall hs hra
  have hdl := dep_le xs t
  go_enter Try.func181, Try.ntmps181
  go_wp2_with fail
  refine (implDependents _ xs t _ HD.out (by omega) HS.out).mono ?_
  rintro e w1 ⟨v1, rfl, h1, hb1⟩
  have H1 := Lib.hid (rd_of_own h1)
  obtain ⟨da, dc, rfl⟩ := own_slice h1
  clear h1
  have HDA := Lib.hid H1.out.rda1
  clear H1
  generalize hq : (dep xs t).length = q at HDA hdl
  have HQ := Lib.hid hq
  clear hq
  go_wp2
  go_loopw [13] (fun i wr => ∃ k : Nat, k ≤ q ∧ i = .int .i64 k ∧ Hid (((dep xs t).take k).any (fun y => hasB (clo xs [y]) f) = false) ∧ Grew w1 wr) (fun i _ => q - (intOf i).toNat)
  case atStart => exact ⟨0, Nat.zero_le _, rfl, Lib.hid (by simp), Grew.refl _⟩
  case round =>
    obtain ⟨k, hk, rfl, hno, hg2⟩ := hrel
    by_cases hlt : k < q
    · obtain ⟨b2, o2, y, rfl, hyk, d0⟩ := (HDA.out.grew hg2).one hlt
      have hcl := clo_len xs [y]
      simp only [List.length_singleton] at hcl
      obtain ⟨v, hv⟩ : ∃ v, hasB (clo xs [y]) f = v := ⟨_, rfl⟩
      have HV := Lib.hid hv
      clear hv
      have hal := (Grew.refl wr).alloc (.cells #[.string y] 9)
      have hgw := (hb1.trans hg2).trans hal
      have hcs : v = true ∨ v = false := by cases v <;> simp
      rcases hcs with rfl | rfl
      · go_wp2_with (first | (go_at_call 84; refine (implTransDep _ _ xs [y] _ (HD.out.grew hgw) (rd_lit1 wr y) (by simp; omega) HS.out).mono ?_; rintro e w2 ⟨v2, rfl, h2, hb2⟩; have H2 := Lib.hid (rd_of_own h2); obtain ⟨ya, yc, rfl⟩ := own_slice h2; clear h2) | (go_at_call 176; refine (slContainsStr _ _ (clo xs [y]) f _ H2.out (by omega)).mono ?_; rintro e w5 ⟨he, rfl⟩; rw [HV.out] at he; subst he))
        go_ret
        exact ⟨ret_bool (by rw [asks_any]; exact (any_yes hyk.out HV.out).symm), hgw.trans hb2⟩
      · go_wp2_with (first | (go_at_call 84; refine (implTransDep _ _ xs [y] _ (HD.out.grew hgw) (rd_lit1 wr y) (by simp; omega) HS.out).mono ?_; rintro e w2 ⟨v2, rfl, h2, hb2⟩; have H2 := Lib.hid (rd_of_own h2); obtain ⟨ya, yc, rfl⟩ := own_slice h2; clear h2) | (go_at_call 176; refine (slContainsStr _ _ (clo xs [y]) f _ H2.out (by omega)).mono ?_; rintro e w5 ⟨he, rfl⟩; rw [HV.out] at he; subst he))
        go_roundw
        case rel => exact ⟨k + 1, by omega, by go_num, Lib.hid (any_snoc_no hno.out hyk.out HV.out), (hg2.trans hal).trans hb2⟩
        case measure => simp [intOf]; omega
    · obtain rfl : k = q := by omega
      go_wp2
      go_ret
      exact ⟨ret_bool (by rw [asks_any]; have := hno.out; rw [take_all HQ.out] at this; exact this.symm), hb1.trans hg2⟩
/-- The names of the directories of a list that meet a test. -/
def namesIf (p : ByteArray → Bool) (zs : List Dr) : List ByteArray := (zs.filter fun x => p x.name).map Dr.name
theorem namesIf_yes {p : ByteArray → Bool} {xs : List Dr} {k : Nat} {x : Dr} (h : xs[k]? = some x) (hh : p x.name = true) : namesIf p (xs.take (k + 1)) = namesIf p (xs.take k) ++ [x.name] := by
  rw [take_snoc h]; unfold namesIf; rw [List.filter_append, List.map_append]; simp [hh]
theorem namesIf_no {p : ByteArray → Bool} {xs : List Dr} {k : Nat} {x : Dr} (h : xs[k]? = some x) (hh : p x.name = false) : namesIf p (xs.take (k + 1)) = namesIf p (xs.take k) := by
  rw [take_snoc h]; unfold namesIf; rw [List.filter_append, List.map_append]; simp [hh]
theorem namesIf_le (p : ByteArray → Bool) (xs : List Dr) : (namesIf p xs).length ≤ xs.length := by
  unfold namesIf; rw [List.length_map]; exact List.length_filter_le _ _
theorem namesIf_tk (p : ByteArray → Bool) (xs : List Dr) (k : Nat) : (namesIf p (xs.take k)).length ≤ k := Nat.le_trans (namesIf_le _ _) (by rw [List.length_take]; omega)
noncomputable def recP (xs : List Dr) (s : ByteArray) : Bool := asksB xs s s
noncomputable def unsQ (xs : List Dr) (s : ByteArray) (y : Dr) : Bool := (y.name.toList == s.toList || asksB xs s y.name) && hasB (depsL y.query true) s
noncomputable def unsP (xs : List Dr) (s : ByteArray) : Bool := xs.any (unsQ xs s)
set_option maxRecDepth 100000 in
set_option maxHeartbeats 2000000 in
theorem implRecursiveDirs (va : Value) (xs : List Dr) (w : World) (ha : RdDs w va xs) (hx : xs.length ≤ 1900000) (hs : ∀ x, x ∈ xs → x.small) :
    Calls Try.prog 94 #[va] w fun e w' => ∃ v, e = .returned v ∧ w'.ownsRow w.heap.size 9 1 v (namesIf (recP xs) xs).length (strs (namesIf (recP xs) xs)) ∧ Grew w w' := by
  have HD := Lib.hid ha
  have HS := Lib.hid hs
  obtain ⟨qs, ⟨a, ca, rfl, hca, hra⟩, hall⟩ := ha
  have HA := Lib.hid hall
  clear hall hs
  have HX0 := Lib.hid hx
  generalize hn : xs.length = n at hx hra
  have HX := Lib.hid hn
  have HD2 := Lib.hid (show RdDs w (.slice a n ca) xs by have := HD.out; rw [hn] at this; exact this)
  clear hn HD
  obtain ⟨i0, hi, hz0, hz1, hz2⟩ := info_parts Try.infoString
  go_enter Try.func94, Try.ntmps94
  go_wp2
  go_loopw [3, 9] (fun v i wr => ∃ k : Nat, k ≤ n ∧ i = .int .i64 k ∧ Hid (wr.ownsRow w.heap.size 9 1 v (namesIf (recP xs) (xs.take k)).length (strs (namesIf (recP xs) (xs.take k)))) ∧ Grew w wr) (fun _ i _ => n - (intOf i).toNat)
  case atStart => exact ⟨0, Nat.zero_le _, rfl, Lib.hid (lit_own w 9 1), (Grew.refl _).alloc _⟩
  case round =>
    obtain ⟨k, hk, rfl, hown, hbel⟩ := hrel
    have hnl := namesIf_tk (recP xs) xs k
    by_cases hlt : k < n
    · obtain ⟨b1, o1, p, rfl, hpk, c0, c1⟩ := (hra.grew hbel).getP2 hlt
      obtain ⟨x, hxk, hxr⟩ := HA.out.get hpk.out
      obtain ⟨pn, pq⟩ := p
      obtain ⟨hxn, hxq⟩ := hxr
      simp only at hxn hxq c0 c1
      subst hxn
      obtain ⟨pa, pc, rfl, hpc, hpr⟩ := hxq
      clear hpr
      obtain ⟨v, hv⟩ : ∃ v, asksB xs x.name x.name = v := ⟨_, rfl⟩
      have HV := Lib.hid hv
      clear hv
      have hal := (Grew.refl wr).alloc (.cells #[.string x.name, .slice pa x.query.length pc] 71)
      have bx0 : (wr.alloc (.cells #[.string x.name, .slice pa x.query.length pc] 71)).cell? ⟨wr.heap.size, 0, none⟩ = some (.string x.name) := by simp
      have hcs : v = true ∨ v = false := by cases v <;> simp
      rcases hcs with rfl | rfl
      · go_wp2_with (first | (go_at_call 181; refine (implDependsOn _ xs x.name x.name _ (HD2.out.grew (hbel.trans hal)) HX0.out HS.out).mono ?_; rintro e w2 ⟨he, hb⟩; rw [HV.out] at he; subst he; have c9 := grew_cell hb bx0) | (at_builtin; refine wpList_append_own _ rfl _ _ 63 rfl w.heap.size 9 i0 (.string ⟨#[]⟩) 1 16 Try.underlying63 hi hz0 hz1 hz2 rfl (by decide) _ _ _ rfl ((ownsRow_grew hown.out (hal.trans hb)).alloc _) ⟨_, 0, none⟩ 1 1 [.string x.name] rfl rfl (cell_one_new _ _ _) (fun x hx => by simp at hx; subst hx; rfl) (by unfold maxLen; omega) (by omega) (by have := ((hbel.trans hal).trans hb).size; simp; omega) ?_; intro v' w' hown' hgr _))
        go_roundw
        case rel =>
          refine ⟨k + 1, by omega, by go_num, Lib.hid ?_, (((hbel.trans hal).trans hb).alloc _).grown hgr (fun g h => (hown.out.lt g h).1)⟩
          rw [namesIf_yes hxk.out (show recP xs x.name = true from HV.out)]; simpa using hown'
        case measure => simp [intOf]; omega
      · go_wp2_with (go_at_call 181; refine (implDependsOn _ xs x.name x.name _ (HD2.out.grew (hbel.trans hal)) HX0.out HS.out).mono ?_; rintro e w2 ⟨he, hb⟩; rw [HV.out] at he; subst he; have c9 := grew_cell hb bx0)
        go_roundw
        case rel =>
          refine ⟨k + 1, by omega, by go_num, Lib.hid ?_, (hbel.trans hal).trans hb⟩
          rw [namesIf_no hxk.out (show recP xs x.name = false from HV.out)]; exact ownsRow_grew hown.out (hal.trans hb)
        case measure => simp [intOf]; omega
    · obtain rfl : k = n := by omega
      go_wp2
      go_ret
      refine ⟨_, rfl, ?_, hbel⟩
      have := hown.out
      rw [take_all HX.out] at this
      exact this
end Go.Proofs.Ytejgpghcahinhaa
