/- Contracts of l13Asks, dependsOn, RecursiveDirs and UnstratifiedDirs. -/
import Derived.Test.YtopcdojekjlijaaK3
import Derived.Test.YtopcdojekjlijaaL1
import Derived.Test.YtopcdojekjlijaaS
import Derived.Test.YtopcdojekjlijaaG
namespace Go.Proofs.Ytopcdojekjlijaa
open Go.RowKit Go.Sort
set_option linter.unusedVariables false
theorem Rd.fix1 {α : Type} {f : α → Value} {w : World} {v : Value} {n : Nat} {xs : List α} (h : Rd w v 1 n (xs.map f)) : Rd w v 1 xs.length (xs.map f) := by rw [h.len1]; exact h
theorem rd_lit1 (w : World) (y : ByteArray) : Rd (w.alloc (.cells #[.string y] 9)) (.slice (some ⟨w.heap.size, 0, none⟩) 1 1) 1 [y].length (strs [y]) := by
  refine ⟨_, 1, rfl, Nat.le_refl _, by simp, fun _ => ⟨_, 0, rfl, fun j hj => ?_⟩⟩
  have : j = 0 := by simp at hj; exact hj
  subst this
  simp
set_option maxRecDepth 100000 in
set_option maxHeartbeats 1000000 in
theorem specAsks (va : Value) (xs : List Dr) (f t : ByteArray) (w : World) (ha : RdDs w va xs) (hx : xs.length ≤ 1900000) (hs : ∀ x, x ∈ xs → x.small) :
    Calls Try.prog 114 #[va, .string f, .string t] w fun e w' => e = .returned (.bool (asksB xs f t)) ∧ Grew w w' := by
  have HD := Lib.hid ha
  have HS := Lib.hid hs
  obtain ⟨qs, ⟨a, ca, rfl, hca, hra⟩, hall⟩ := ha
  clear hall hs hra
  have hdl := dep_le xs t
  have hcl := clo_len xs (dep xs t)
  go_enter Try.func114, Try.ntmps114
  go_wp2_with fail
  refine (specDependents _ xs t _ HD.out (by omega) HS.out).mono ?_
  rintro e w1 ⟨v1, rfl, h1, hb1⟩
  have H1 := Lib.hid (rd_of_own h1)
  obtain ⟨xa, xc, rfl⟩ := own_slice h1
  clear h1
  go_wp2_with fail
  refine (specTransDep _ _ xs (dep xs t) _ (HD.out.grew hb1) H1.out (by omega) HS.out).mono ?_
  rintro e w2 ⟨v2, rfl, h2, hb2⟩
  have H2 := Lib.hid (rd_of_own h2)
  obtain ⟨ya, yc, rfl⟩ := own_slice h2
  clear h2
  go_wp2_with fail
  refine (l12Has _ _ (clo xs (dep xs t)) f _ H2.out (by omega)).mono ?_
  rintro e w3 ⟨rfl, rfl⟩
  go_wp2
  go_ret
  exact ⟨rfl, hb1.trans hb2⟩
theorem any_snoc_no {α : Type} {p : α → Bool} {l : List α} {k : Nat} {x : α} (h : (l.take k).any p = false) (hx : l[k]? = some x) (hp : p x = false) : (l.take (k + 1)).any p = false := by
  rw [take_snoc hx, List.any_append, h]; simp [hp]
theorem any_yes {α : Type} {p : α → Bool} {l : List α} {k : Nat} {x : α} (hx : l[k]? = some x) (hp : p x = true) : l.any p = true := List.any_eq_true.2 ⟨x, List.mem_of_getElem? hx, hp⟩
set_option maxRecDepth 100000 in
set_option maxHeartbeats 1000000 in
theorem implDependsOn (va : Value) (xs : List Dr) (f t : ByteArray) (w : World) (ha : RdDs w va xs) (hx : xs.length ≤ 1900000) (hs : ∀ x, x ∈ xs → x.small) :
    Calls Try.prog 118 #[va, .string f, .string t] w fun e w' => e = .returned (.bool (asksB xs f t)) ∧ Grew w w' := by
  have HD := Lib.hid ha
  have HS := Lib.hid hs
  obtain ⟨qs, ⟨a, ca, rfl, hca, hra⟩, hall⟩ := ha
  clear hall hs hra
  have hdl := dep_le xs t
  go_enter Try.func118, Try.ntmps118
  go_wp2_with fail
  refine (implDependents _ xs t _ HD.out (by omega) HS.out).mono ?_
  rintro e w1 ⟨v1, rfl, h1, hb1⟩
  have H1 := Lib.hid (rd_of_own h1)
  obtain ⟨da, dc, rfl⟩ := own_slice h1
  clear h1
  have HDA := Lib.hid H1.out.rda1
  clear H1
  generalize hq : (dep xs t).length = q at HDA hdl
  have HQ := Lib.hid hq
  clear hq
  go_wp2
  go_loopw [13] (fun i wr => ∃ k : Nat, k ≤ q ∧ i = .int .i64 k ∧ Hid (((dep xs t).take k).any (fun y => hasB (clo xs [y]) f) = false) ∧ Grew w1 wr) (fun i _ => q - (intOf i).toNat)
  case atStart => exact ⟨0, Nat.zero_le _, rfl, Lib.hid (by simp), Grew.refl _⟩
  case round =>
    obtain ⟨k, hk, rfl, hno, hg2⟩ := hrel
    by_cases hlt : k < q
    · obtain ⟨b2, o2, y, rfl, hyk, d0⟩ := (HDA.out.grew hg2).one hlt
      have hcl := clo_len xs [y]
      simp only [List.length_singleton] at hcl
      obtain ⟨v, hv⟩ : ∃ v, hasB (clo xs [y]) f = v := ⟨_, rfl⟩
      have HV := Lib.hid hv
      clear hv
      have hal := (Grew.refl wr).alloc (.cells #[.string y] 9)
      have hgw := (hb1.trans hg2).trans hal
      have hcs : v = true ∨ v = false := by cases v <;> simp
      rcases hcs with rfl | rfl
      · go_wp2_with (first | (go_at_call 159; refine (implTransDep _ _ xs [y] _ (HD.out.grew hgw) (rd_lit1 wr y) (by simp; omega) HS.out).mono ?_; rintro e w2 ⟨v2, rfl, h2, hb2⟩; have H2 := Lib.hid (rd_of_own h2); obtain ⟨ya, yc, rfl⟩ := own_slice h2; clear h2) | (go_at_call 117; refine (slContainsStr _ _ (clo xs [y]) f _ H2.out (by omega)).mono ?_; rintro e w5 ⟨he, rfl⟩; rw [HV.out] at he; subst he))
        go_ret
        exact ⟨ret_bool (by rw [asks_any]; exact (any_yes hyk.out HV.out).symm), hgw.trans hb2⟩
      · go_wp2_with (first | (go_at_call 159; refine (implTransDep _ _ xs [y] _ (HD.out.grew hgw) (rd_lit1 wr y) (by simp; omega) HS.out).mono ?_; rintro e w2 ⟨v2, rfl, h2, hb2⟩; have H2 := Lib.hid (rd_of_own h2); obtain ⟨ya, yc, rfl⟩ := own_slice h2; clear h2) | (go_at_call 117; refine (slContainsStr _ _ (clo xs [y]) f _ H2.out (by omega)).mono ?_; rintro e w5 ⟨he, rfl⟩; rw [HV.out] at he; subst he))
        go_roundw
        case rel => exact ⟨k + 1, by omega, by go_num, Lib.hid (any_snoc_no hno.out hyk.out HV.out), (hg2.trans hal).trans hb2⟩
        case measure => simp [intOf]; omega
    · obtain rfl : k = q := by omega
      go_wp2
      go_ret
      exact ⟨ret_bool (by rw [asks_any]; have := hno.out; rw [take_all HQ.out] at this; exact this.symm), hb1.trans hg2⟩
/-- The names of the directories of a list that meet a test. -/
def namesIf (p : ByteArray → Bool) (zs : List Dr) : List ByteArray := (zs.filter fun x => p x.name).map Dr.name
theorem namesIf_yes {p : ByteArray → Bool} {xs : List Dr} {k : Nat} {x : Dr} (h : xs[k]? = some x) (hh : p x.name = true) : namesIf p (xs.take (k + 1)) = namesIf p (xs.take k) ++ [x.name] := by
  rw [take_snoc h]; unfold namesIf; rw [List.filter_append, List.map_append]; simp [hh]
theorem namesIf_no {p : ByteArray → Bool} {xs : List Dr} {k : Nat} {x : Dr} (h : xs[k]? = some x) (hh : p x.name = false) : namesIf p (xs.take (k + 1)) = namesIf p (xs.take k) := by
  rw [take_snoc h]; unfold namesIf; rw [List.filter_append, List.map_append]; simp [hh]
theorem namesIf_le (p : ByteArray → Bool) (xs : List Dr) : (namesIf p xs).length ≤ xs.length := by
  unfold namesIf; rw [List.length_map]; exact List.length_filter_le _ _
theorem namesIf_tk (p : ByteArray → Bool) (xs : List Dr) (k : Nat) : (namesIf p (xs.take k)).length ≤ k := Nat.le_trans (namesIf_le _ _) (by rw [List.length_take]; omega)
noncomputable def recP (xs : List Dr) (s : ByteArray) : Bool := asksB xs s s
noncomputable def unsQ (xs : List Dr) (s : ByteArray) (y : Dr) : Bool := (y.name.toList == s.toList || asksB xs s y.name) && hasB (depsL y.query true) s
noncomputable def unsP (xs : List Dr) (s : ByteArray) : Bool := xs.any (unsQ xs s)
end Go.Proofs.Ytopcdojekjlijaa
