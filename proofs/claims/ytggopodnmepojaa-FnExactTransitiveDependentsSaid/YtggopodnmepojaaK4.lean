/- Contracts of l13Asks, dependsOn, RecursiveDirs and UnstratifiedDirs. -/
import Derived.Test.YtggopodnmepojaaK3
import Derived.Test.YtggopodnmepojaaL1
import Derived.Test.YtggopodnmepojaaS
import Derived.Test.YtggopodnmepojaaG
namespace Go.Proofs.Ytggopodnmepojaa
open Go.RowKit Go.Sort
set_option linter.unusedVariables false
set_option maxRecDepth 100000 in
set_option maxHeartbeats 1000000 in
theorem szStringS (va : Value) (n : Nat) (xs : List ByteArray) (l : Int) (w : World) (ha : Rd w va 1 n (strs xs)) (hn : n ≤ maxLen) (hok : ∀ x : ByteArray, x ∈ xs → x.size ≤ maxLen) (hl : 0 ≤ l) (hl2 : l ≤ 4000000) :
    Calls Try.prog 56 #[va, .int .i64 l] w fun e w' => ∃ r : Int, e = .returned (.int .i64 r) ∧ Left l (n + szAll ByteArray.size xs) r ∧ Grew w w' := by
  unfold maxLen at hn hok
  obtain ⟨a, ca, rfl, hca, hra⟩ := ha
  have HX := Lib.hid hra.len_map
  have HO := Lib.hid hok
  clear hok
  by_cases h0 : l - (n : Int) < 0
  · go_enter Try.func56, Try.ntmps56
    go_wp2
    go_ret
    exact ⟨_, rfl, .inl rfl, Grew.refl _⟩
  · go_enter Try.func56, Try.ntmps56
    go_wp2
    go_loopw [1, 5] (fun c i wr => ∃ (k : Nat) (r : Int), k ≤ n ∧ i = .int .i64 k ∧ c = .int .i64 r ∧ 0 ≤ r ∧ r ≤ l ∧ Hid (r = l - (n : Int) - szAll ByteArray.size (xs.take k)) ∧ Grew w wr) (fun _ i _ => n - (intOf i).toNat)
    case atStart => exact ⟨0, _, Nat.zero_le _, rfl, rfl, by omega, by omega, Lib.hid (by simp [szAll]), Grew.refl _⟩
    case round =>
      obtain ⟨k, r, hk, rfl, rfl, hr0, hrl, hr, hbel⟩ := hrel
      by_cases hlt : k < n
      · obtain ⟨b1, o1, x, rfl, hxk, c0⟩ := (hra.grew hbel).one hlt
        have hxo := HO.out x (List.mem_of_getElem? hxk.out)
        by_cases h1 : r - (x.size : Int) < 0
        · go_wp2
          go_ret
          exact ⟨_, rfl, .inl rfl, hbel⟩
        · go_wp2
          go_roundw
          case rel => exact ⟨k + 1, r - (x.size : Int), by omega, by go_num, rfl, by omega, by omega, Lib.hid (by rw [take_snoc hxk.out, szAll_snoc]; have := hr.out; omega), hbel⟩
          case measure => simp [intOf]; omega
      · obtain rfl : k = n := by omega
        go_wp2
        go_ret
        exact ⟨_, rfl, .inr ⟨by have := hr.out; rw [take_all HX.out] at this; omega, hr0⟩, hbel⟩
theorem Rd.fix1 {α : Type} {f : α → Value} {w : World} {v : Value} {n : Nat} {xs : List α} (h : Rd w v 1 n (xs.map f)) : Rd w v 1 xs.length (xs.map f) := by rw [h.len1]; exact h
theorem rd_lit1 (w : World) (y : ByteArray) : Rd (w.alloc (.cells #[.string y] 9)) (.slice (some ⟨w.heap.size, 0, none⟩) 1 1) 1 [y].length (strs [y]) := by
  refine ⟨_, 1, rfl, Nat.le_refl _, by simp, fun _ => ⟨_, 0, rfl, fun j hj => ?_⟩⟩
  have : j = 0 := by simp at hj; exact hj
  subst this
  simp
set_option maxRecDepth 100000 in
set_option maxHeartbeats 1000000 in
theorem specAsks (va : Value) (xs : List Dr) (f t : ByteArray) (w : World) (ha : RdDs w va xs) (hx : xs.length ≤ 1900000) (hs : ∀ x, x ∈ xs → x.small) :
    Calls Try.prog 123 #[va, .string f, .string t] w fun e w' => e = .returned (.bool (asksB xs f t)) ∧ Grew w w' := by
  have HD := Lib.hid ha
  have HS := Lib.hid hs
  obtain ⟨qs, ⟨a, ca, rfl, hca, hra⟩, hall⟩ := ha
  clear hall hs hra
  have hdl := dep_le xs t
  have hcl := clo_len xs (dep xs t)
  go_enter Try.func123, Try.ntmps123
  go_wp2_with fail
  refine (specDependents _ xs t _ HD.out (by omega) HS.out).mono ?_
  rintro e w1 ⟨v1, rfl, h1, hb1⟩
  have H1 := Lib.hid (rd_of_own h1)
  obtain ⟨xa, xc, rfl⟩ := own_slice h1
  clear h1
  go_wp2_with fail
  refine (specTransDep _ _ xs (dep xs t) _ (HD.out.grew hb1) H1.out (by omega) HS.out).mono ?_
  rintro e w2 ⟨v2, rfl, h2, hb2⟩
  have H2 := Lib.hid (rd_of_own h2)
  obtain ⟨ya, yc, rfl⟩ := own_slice h2
  clear h2
  go_wp2_with fail
  refine (l12Has _ _ (clo xs (dep xs t)) f _ H2.out (by omega)).mono ?_
  rintro e w3 ⟨rfl, rfl⟩
  go_wp2
  go_ret
  exact ⟨rfl, hb1.trans hb2⟩
theorem any_snoc_no {α : Type} {p : α → Bool} {l : List α} {k : Nat} {x : α} (h : (l.take k).any p = false) (hx : l[k]? = some x) (hp : p x = false) : (l.take (k + 1)).any p = false := by
  rw [take_snoc hx, List.any_append, h]; simp [hp]
theorem any_yes {α : Type} {p : α → Bool} {l : List α} {k : Nat} {x : α} (hx : l[k]? = some x) (hp : p x = true) : l.any p = true := List.any_eq_true.2 ⟨x, List.mem_of_getElem? hx, hp⟩
set_option maxRecDepth 100000 in
set_option maxHeartbeats 1000000 in
theorem implDependsOn (va : Value) (xs : List Dr) (f t : ByteArray) (w : World) (ha : RdDs w va xs) (hx : xs.length ≤ 1900000) (hs : ∀ x, x ∈ xs → x.small) :
    Calls Try.prog 124 #[va, .string f, .string t] w fun e w' => e = .returned (.bool (asksB xs f t)) ∧ Grew w w' := by
  have HD := Lib.hid ha
  have HS := Lib.hid hs
  obtain ⟨qs, ⟨a, ca, rfl, hca, hra⟩, hall⟩ := ha
  clear hall hs hra
  have hdl := dep_le xs t
  go_enter Try.func124, Try.ntmps124
  go_wp2_with fail
  refine (implDependents _ xs t _ HD.out (by omega) HS.out).mono ?_
  rintro e w1 ⟨v1, rfl, h1, hb1⟩
  have H1 := Lib.hid (rd_of_own h1)
  obtain ⟨da, dc, rfl⟩ := own_slice h1
  clear h1
  have HDA := Lib.hid H1.out.rda1
  clear H1
  generalize hq : (dep xs t).length = q at HDA hdl
  have HQ := Lib.hid hq
  clear hq
  go_wp2
  go_loopw [13] (fun i wr => ∃ k : Nat, k ≤ q ∧ i = .int .i64 k ∧ Hid (((dep xs t).take k).any (fun y => hasB (clo xs [y]) f) = false) ∧ Grew w1 wr) (fun i _ => q - (intOf i).toNat)
  case atStart => exact ⟨0, Nat.zero_le _, rfl, Lib.hid (by simp), Grew.refl _⟩
  case round =>
    obtain ⟨k, hk, rfl, hno, hg2⟩ := hrel
    by_cases hlt : k < q
    · obtain ⟨b2, o2, y, rfl, hyk, d0⟩ := (HDA.out.grew hg2).one hlt
      have hcl := clo_len xs [y]
      simp only [List.length_singleton] at hcl
      obtain ⟨v, hv⟩ : ∃ v, hasB (clo xs [y]) f = v := ⟨_, rfl⟩
      have HV := Lib.hid hv
      clear hv
      have hal := (Grew.refl wr).alloc (.cells #[.string y] 9)
      have hgw := (hb1.trans hg2).trans hal
      have hcs : v = true ∨ v = false := by cases v <;> simp
      rcases hcs with rfl | rfl
      · go_wp2_with (first | (go_at_call 59; refine (implTransDep _ _ xs [y] _ (HD.out.grew hgw) (rd_lit1 wr y) (by simp; omega) HS.out).mono ?_; rintro e w2 ⟨v2, rfl, h2, hb2⟩; have H2 := Lib.hid (rd_of_own h2); obtain ⟨ya, yc, rfl⟩ := own_slice h2; clear h2) | (go_at_call 121; refine (slContainsStr _ _ (clo xs [y]) f _ H2.out (by omega)).mono ?_; rintro e w5 ⟨he, rfl⟩; rw [HV.out] at he; subst he))
        go_ret
        exact ⟨ret_bool (by rw [asks_any]; exact (any_yes hyk.out HV.out).symm), hgw.trans hb2⟩
      · go_wp2_with (first | (go_at_call 59; refine (implTransDep _ _ xs [y] _ (HD.out.grew hgw) (rd_lit1 wr y) (by simp; omega) HS.out).mono ?_; rintro e w2 ⟨v2, rfl, h2, hb2⟩; have H2 := Lib.hid (rd_of_own h2); obtain ⟨ya, yc, rfl⟩ := own_slice h2; clear h2) | (go_at_call 121; refine (slContainsStr _ _ (clo xs [y]) f _ H2.out (by omega)).mono ?_; rintro e w5 ⟨he, rfl⟩; rw [HV.out] at he; subst he))
        go_roundw
        case rel => exact ⟨k + 1, by omega, by go_num, Lib.hid (any_snoc_no hno.out hyk.out HV.out), (hg2.trans hal).trans hb2⟩
        case measure => simp [intOf]; omega
    · obtain rfl : k = q := by omega
      go_wp2
      go_ret
      exact ⟨ret_bool (by rw [asks_any]; have := hno.out; rw [take_all HQ.out] at this; exact this.symm), hb1.trans hg2⟩
/-- The names of the directories of a list that meet a test. -/
def namesIf (p : ByteArray → Bool) (zs : List Dr) : List ByteArray := (zs.filter fun x => p x.name).map Dr.name
theorem namesIf_yes {p : ByteArray → Bool} {xs : List Dr} {k : Nat} {x : Dr} (h : xs[k]? = some x) (hh : p x.name = true) : namesIf p (xs.take (k + 1)) = namesIf p (xs.take k) ++ [x.name] := by
  rw [take_snoc h]; unfold namesIf; rw [List.filter_append, List.map_append]; simp [hh]
theorem namesIf_no {p : ByteArray → Bool} {xs : List Dr} {k : Nat} {x : Dr} (h : xs[k]? = some x) (hh : p x.name = false) : namesIf p (xs.take (k + 1)) = namesIf p (xs.take k) := by
  rw [take_snoc h]; unfold namesIf; rw [List.filter_append, List.map_append]; simp [hh]
theorem namesIf_le (p : ByteArray → Bool) (xs : List Dr) : (namesIf p xs).length ≤ xs.length := by
  unfold namesIf; rw [List.length_map]; exact List.length_filter_le _ _
theorem namesIf_tk (p : ByteArray → Bool) (xs : List Dr) (k : Nat) : (namesIf p (xs.take k)).length ≤ k := Nat.le_trans (namesIf_le _ _) (by rw [List.length_take]; omega)
noncomputable def recP (xs : List Dr) (s : ByteArray) : Bool := asksB xs s s
noncomputable def unsQ (xs : List Dr) (s : ByteArray) (y : Dr) : Bool := (y.name.toList == s.toList || asksB xs s y.name) && hasB (depsL y.query true) s
noncomputable def unsP (xs : List Dr) (s : ByteArray) : Bool := xs.any (unsQ xs s)
set_option maxRecDepth 100000 in
set_option maxHeartbeats 2000000 in
theorem specRecursiveDirs (va : Value) (xs : List Dr) (w : World) (ha : RdDs w va xs) (hx : xs.length ≤ 1900000) (hs : ∀ x, x ∈ xs → x.small) :
    Calls Try.prog 60 #[va] w fun e w' => ∃ v, e = .returned v ∧ w'.ownsRow w.heap.size 9 1 v (namesIf (recP xs) xs).length (strs (namesIf (recP xs) xs)) ∧ Grew w w' := by
  have HD := Lib.hid ha
  have HS := Lib.hid hs
  obtain ⟨qs, ⟨a, ca, rfl, hca, hra⟩, hall⟩ := ha
  have HA := Lib.hid hall
  clear hall hs
  have HX0 := Lib.hid hx
  generalize hn : xs.length = n at hx hra
  have HX := Lib.hid hn
  have HD2 := Lib.hid (show RdDs w (.slice a n ca) xs by have := HD.out; rw [hn] at this; exact this)
  clear hn HD
  obtain ⟨i0, hi, hz0, hz1, hz2⟩ := info_parts Try.infoString
  go_enter Try.func60, Try.ntmps60
  go_wp2
  go_loopw [3, 4] (fun v i wr => ∃ k : Nat, k ≤ n ∧ i = .int .i64 k ∧ Hid (wr.ownsRow w.heap.size 9 1 v (namesIf (recP xs) (xs.take k)).length (strs (namesIf (recP xs) (xs.take k)))) ∧ Grew w wr) (fun _ i _ => n - (intOf i).toNat)
  case atStart => exact ⟨0, Nat.zero_le _, rfl, Lib.hid (lit_own w 9 1), (Grew.refl _).alloc _⟩
  case round =>
    obtain ⟨k, hk, rfl, hown, hbel⟩ := hrel
    have hnl := namesIf_tk (recP xs) xs k
    by_cases hlt : k < n
    · obtain ⟨b1, o1, p, rfl, hpk, c0, c1⟩ := (hra.grew hbel).getP2 hlt
      obtain ⟨x, hxk, hxr⟩ := HA.out.get hpk.out
      obtain ⟨pn, pq⟩ := p
      obtain ⟨hxn, hxq⟩ := hxr
      simp only at hxn hxq c0 c1
      subst hxn
      clear hxq
      obtain ⟨v, hv⟩ : ∃ v, asksB xs x.name x.name = v := ⟨_, rfl⟩
      have HV := Lib.hid hv
      clear hv
      have hcs : v = true ∨ v = false := by cases v <;> simp
      rcases hcs with rfl | rfl
      · have hk0 := hk
        go_wp2_with fail
        refine wp_region_noPanic ?_
        refine wp_region_held_drew (S := (fun w' => (w'.cell? ⟨b1, o1 + k * 2, none⟩ = some (.string x.name) ∧ Grew wr w'))) (by kernel_rfl) ?h1_S ?h1_r
        case h1_S => exact ⟨grew_cell (Grew.refl _).drew c0, (Grew.refl _).drew⟩
        case h1_r =>
          intro HS_
          first
            | refine sk 0 rfl (by kernel_rfl) rfl HS_ ?_
            | (refine tk (v := ?v1_0) 0 rfl (by kernel_rfl) rfl ?y1_0 HS_ ?_; case y1_0 => (intro w' hSw; (try dsimp only at hSw); go_simp <;> (with_reducible rfl)))
          try simp only [Act.put, List.setIfInBounds_toArray, List.set_cons_zero, List.set_cons_succ]
          first
            | refine sk 1 rfl (by kernel_rfl) rfl HS_ ?_
            | (refine tk (v := ?v1_1) 1 rfl (by kernel_rfl) rfl ?y1_1 HS_ ?_; case y1_1 => (intro w' hSw; (try dsimp only at hSw); go_simp <;> (with_reducible rfl)))
          try simp only [Act.put, List.setIfInBounds_toArray, List.set_cons_zero, List.set_cons_succ]
          first
            | refine sk 2 rfl (by kernel_rfl) rfl HS_ ?_
            | (refine tk (v := ?v1_2) 2 rfl (by kernel_rfl) rfl ?y1_2 HS_ ?_; case y1_2 => (intro w' hSw; (try dsimp only at hSw); go_simp <;> (with_reducible rfl)))
          try simp only [Act.put, List.setIfInBounds_toArray, List.set_cons_zero, List.set_cons_succ]
          first
            | refine sk 3 rfl (by kernel_rfl) rfl HS_ ?_
            | (refine tk (v := ?v1_3) 3 rfl (by kernel_rfl) rfl ?y1_3 HS_ ?_; case y1_3 => (intro w' hSw; (try dsimp only at hSw); go_simp <;> (with_reducible rfl)))
          try simp only [Act.put, List.setIfInBounds_toArray, List.set_cons_zero, List.set_cons_succ]
          first
            | refine sk 4 rfl (by kernel_rfl) rfl HS_ ?_
            | (refine tk (v := ?v1_4) 4 rfl (by kernel_rfl) rfl ?y1_4 HS_ ?_; case y1_4 => (intro w' hSw; (try dsimp only at hSw); go_simp <;> (with_reducible rfl)))
          try simp only [Act.put, List.setIfInBounds_toArray, List.set_cons_zero, List.set_cons_succ]
          first
            | refine sk 5 rfl (by kernel_rfl) rfl HS_ ?_
            | (refine tk (v := ?v1_5) 5 rfl (by kernel_rfl) rfl ?y1_5 HS_ ?_; case y1_5 => (intro w' hSw; (try dsimp only at hSw); go_simp <;> (with_reducible rfl)))
          try simp only [Act.put, List.setIfInBounds_toArray, List.set_cons_zero, List.set_cons_succ]
          first
            | refine sk 6 rfl (by kernel_rfl) rfl HS_ ?_
            | (refine tk (v := ?v1_6) 6 rfl (by kernel_rfl) rfl ?y1_6 HS_ ?_; case y1_6 => (intro w' hSw; (try dsimp only at hSw); go_simp <;> (with_reducible rfl)))
          try simp only [Act.put, List.setIfInBounds_toArray, List.set_cons_zero, List.set_cons_succ]
          first
            | refine sk 7 rfl (by kernel_rfl) rfl HS_ ?_
            | (refine tk (v := ?v1_7) 7 rfl (by kernel_rfl) rfl ?y1_7 HS_ ?_; case y1_7 => (intro w' hSw; (try dsimp only at hSw); go_simp <;> (with_reducible rfl)))
          try simp only [Act.put, List.setIfInBounds_toArray, List.set_cons_zero, List.set_cons_succ]
          first
            | refine sk 8 rfl (by kernel_rfl) rfl HS_ ?_
            | (refine tk (v := ?v1_8) 8 rfl (by kernel_rfl) rfl ?y1_8 HS_ ?_; case y1_8 => (intro w' hSw; (try dsimp only at hSw); go_simp <;> (with_reducible rfl)))
          try simp only [Act.put, List.setIfInBounds_toArray, List.set_cons_zero, List.set_cons_succ]
          first
            | refine sk 9 rfl (by kernel_rfl) rfl HS_ ?_
            | (refine tk (v := ?v1_9) 9 rfl (by kernel_rfl) rfl ?y1_9 HS_ ?_; case y1_9 => (intro w' hSw; (try dsimp only at hSw); go_simp <;> (with_reducible rfl)))
          try simp only [Act.put, List.setIfInBounds_toArray, List.set_cons_zero, List.set_cons_succ]
          first
            | refine sk 10 rfl (by kernel_rfl) rfl HS_ ?_
            | (refine tk (v := ?v1_10) 10 rfl (by kernel_rfl) rfl ?y1_10 HS_ ?_; case y1_10 => (intro w' hSw; (try dsimp only at hSw); go_simp <;> (with_reducible rfl)))
          try simp only [Act.put, List.setIfInBounds_toArray, List.set_cons_zero, List.set_cons_succ]
          refine cl 11 rfl (by kernel_rfl) (fun K hK => ?_)
          go_simp
          go_at_call 123
          refine (specAsks _ xs x.name x.name _ (HD2.out.grew (hbel.trans HS_.2)) HX0.out HS.out).mono ?_
          rintro e w2 ⟨he, hb⟩
          rw [HV.out] at he
          subst he
          refine hK.out _ _ ?s1_11 ?r1_11
          case s1_11 => (try dsimp only); exact ⟨grew_cell hb HS_.1, HS_.2.trans hb⟩
          case r1_11 =>
            clear HS_
            intro HS_
            clear hK K
            try simp only [Act.put, List.setIfInBounds_toArray, List.set_cons_zero, List.set_cons_succ]
            refine wpAnyH_done (by kernel_rfl) ?_ _
            refine NoPanic.normal ?_
            have c9 := HS_.1
            go_wp2_with (at_builtin; refine wpList_append_own _ rfl _ _ 43 rfl w.heap.size 9 i0 (.string ⟨#[]⟩) 1 16 Try.underlying43 hi hz0 hz1 hz2 rfl (by decide) _ _ _ rfl ((ownsRow_grew hown.out HS_.2).alloc _) ⟨_, 0, none⟩ 1 1 [.string x.name] rfl rfl (cell_one_new _ _ _) (fun x hx => by simp at hx; subst hx; rfl) (by unfold maxLen; omega) (by omega) (by have := (hbel.trans HS_.2).size; simp; omega) ?_; intro v' w' hown' hgr _)
            go_roundw
            case rel =>
              refine ⟨k + 1, by omega, by go_num, Lib.hid ?_, ((hbel.trans HS_.2).alloc _).grown hgr (fun g h => (hown.out.lt g h).1)⟩
              rw [namesIf_yes hxk.out (show recP xs x.name = true from HV.out)]; simpa using hown'
            case measure => simp [intOf]; omega
      · have hk0 := hk
        go_wp2_with fail
        refine wp_region_noPanic ?_
        refine wp_region_held_drew (S := (fun w' => (w'.cell? ⟨b1, o1 + k * 2, none⟩ = some (.string x.name) ∧ Grew wr w'))) (by kernel_rfl) ?h2_S ?h2_r
        case h2_S => exact ⟨grew_cell (Grew.refl _).drew c0, (Grew.refl _).drew⟩
        case h2_r =>
          intro HS_
          first
            | refine sk 0 rfl (by kernel_rfl) rfl HS_ ?_
            | (refine tk (v := ?v2_0) 0 rfl (by kernel_rfl) rfl ?y2_0 HS_ ?_; case y2_0 => (intro w' hSw; (try dsimp only at hSw); go_simp <;> (with_reducible rfl)))
          try simp only [Act.put, List.setIfInBounds_toArray, List.set_cons_zero, List.set_cons_succ]
          first
            | refine sk 1 rfl (by kernel_rfl) rfl HS_ ?_
            | (refine tk (v := ?v2_1) 1 rfl (by kernel_rfl) rfl ?y2_1 HS_ ?_; case y2_1 => (intro w' hSw; (try dsimp only at hSw); go_simp <;> (with_reducible rfl)))
          try simp only [Act.put, List.setIfInBounds_toArray, List.set_cons_zero, List.set_cons_succ]
          first
            | refine sk 2 rfl (by kernel_rfl) rfl HS_ ?_
            | (refine tk (v := ?v2_2) 2 rfl (by kernel_rfl) rfl ?y2_2 HS_ ?_; case y2_2 => (intro w' hSw; (try dsimp only at hSw); go_simp <;> (with_reducible rfl)))
          try simp only [Act.put, List.setIfInBounds_toArray, List.set_cons_zero, List.set_cons_succ]
          first
            | refine sk 3 rfl (by kernel_rfl) rfl HS_ ?_
            | (refine tk (v := ?v2_3) 3 rfl (by kernel_rfl) rfl ?y2_3 HS_ ?_; case y2_3 => (intro w' hSw; (try dsimp only at hSw); go_simp <;> (with_reducible rfl)))
          try simp only [Act.put, List.setIfInBounds_toArray, List.set_cons_zero, List.set_cons_succ]
          first
            | refine sk 4 rfl (by kernel_rfl) rfl HS_ ?_
            | (refine tk (v := ?v2_4) 4 rfl (by kernel_rfl) rfl ?y2_4 HS_ ?_; case y2_4 => (intro w' hSw; (try dsimp only at hSw); go_simp <;> (with_reducible rfl)))
          try simp only [Act.put, List.setIfInBounds_toArray, List.set_cons_zero, List.set_cons_succ]
          first
            | refine sk 5 rfl (by kernel_rfl) rfl HS_ ?_
            | (refine tk (v := ?v2_5) 5 rfl (by kernel_rfl) rfl ?y2_5 HS_ ?_; case y2_5 => (intro w' hSw; (try dsimp only at hSw); go_simp <;> (with_reducible rfl)))
          try simp only [Act.put, List.setIfInBounds_toArray, List.set_cons_zero, List.set_cons_succ]
          first
            | refine sk 6 rfl (by kernel_rfl) rfl HS_ ?_
            | (refine tk (v := ?v2_6) 6 rfl (by kernel_rfl) rfl ?y2_6 HS_ ?_; case y2_6 => (intro w' hSw; (try dsimp only at hSw); go_simp <;> (with_reducible rfl)))
          try simp only [Act.put, List.setIfInBounds_toArray, List.set_cons_zero, List.set_cons_succ]
          first
            | refine sk 7 rfl (by kernel_rfl) rfl HS_ ?_
            | (refine tk (v := ?v2_7) 7 rfl (by kernel_rfl) rfl ?y2_7 HS_ ?_; case y2_7 => (intro w' hSw; (try dsimp only at hSw); go_simp <;> (with_reducible rfl)))
          try simp only [Act.put, List.setIfInBounds_toArray, List.set_cons_zero, List.set_cons_succ]
          first
            | refine sk 8 rfl (by kernel_rfl) rfl HS_ ?_
            | (refine tk (v := ?v2_8) 8 rfl (by kernel_rfl) rfl ?y2_8 HS_ ?_; case y2_8 => (intro w' hSw; (try dsimp only at hSw); go_simp <;> (with_reducible rfl)))
          try simp only [Act.put, List.setIfInBounds_toArray, List.set_cons_zero, List.set_cons_succ]
          first
            | refine sk 9 rfl (by kernel_rfl) rfl HS_ ?_
            | (refine tk (v := ?v2_9) 9 rfl (by kernel_rfl) rfl ?y2_9 HS_ ?_; case y2_9 => (intro w' hSw; (try dsimp only at hSw); go_simp <;> (with_reducible rfl)))
          try simp only [Act.put, List.setIfInBounds_toArray, List.set_cons_zero, List.set_cons_succ]
          first
            | refine sk 10 rfl (by kernel_rfl) rfl HS_ ?_
            | (refine tk (v := ?v2_10) 10 rfl (by kernel_rfl) rfl ?y2_10 HS_ ?_; case y2_10 => (intro w' hSw; (try dsimp only at hSw); go_simp <;> (with_reducible rfl)))
          try simp only [Act.put, List.setIfInBounds_toArray, List.set_cons_zero, List.set_cons_succ]
          refine cl 11 rfl (by kernel_rfl) (fun K hK => ?_)
          go_simp
          go_at_call 123
          refine (specAsks _ xs x.name x.name _ (HD2.out.grew (hbel.trans HS_.2)) HX0.out HS.out).mono ?_
          rintro e w2 ⟨he, hb⟩
          rw [HV.out] at he
          subst he
          refine hK.out _ _ ?s2_11 ?r2_11
          case s2_11 => (try dsimp only); exact ⟨grew_cell hb HS_.1, HS_.2.trans hb⟩
          case r2_11 =>
            clear HS_
            intro HS_
            clear hK K
            try simp only [Act.put, List.setIfInBounds_toArray, List.set_cons_zero, List.set_cons_succ]
            refine wpAnyH_done (by kernel_rfl) ?_ _
            refine NoPanic.normal ?_
            go_wp2
            go_roundw
            case rel =>
              refine ⟨k + 1, by omega, by go_num, Lib.hid ?_, hbel.trans HS_.2⟩
              rw [namesIf_no hxk.out (show recP xs x.name = false from HV.out)]; exact ownsRow_grew hown.out HS_.2
            case measure => simp [intOf]; omega
    · obtain rfl : k = n := by omega
      go_wp2
      go_ret
      refine ⟨_, rfl, ?_, hbel⟩
      have := hown.out
      rw [take_all HX.out] at this
      exact this
set_option maxRecDepth 100000 in
set_option maxHeartbeats 2000000 in
theorem implRecursiveDirs (va : Value) (xs : List Dr) (w : World) (ha : RdDs w va xs) (hx : xs.length ≤ 1900000) (hs : ∀ x, x ∈ xs → x.small) :
    Calls Try.prog 61 #[va] w fun e w' => ∃ v, e = .returned v ∧ w'.ownsRow w.heap.size 9 1 v (namesIf (recP xs) xs).length (strs (namesIf (recP xs) xs)) ∧ Grew w w' := by
  have HD := Lib.hid ha
  have HS := Lib.hid hs
  obtain ⟨qs, ⟨a, ca, rfl, hca, hra⟩, hall⟩ := ha
  have HA := Lib.hid hall
  clear hall hs
  have HX0 := Lib.hid hx
  generalize hn : xs.length = n at hx hra
  have HX := Lib.hid hn
  have HD2 := Lib.hid (show RdDs w (.slice a n ca) xs by have := HD.out; rw [hn] at this; exact this)
  clear hn HD
  obtain ⟨i0, hi, hz0, hz1, hz2⟩ := info_parts Try.infoString
  go_enter Try.func61, Try.ntmps61
  go_wp2
  go_loopw [3, 9] (fun v i wr => ∃ k : Nat, k ≤ n ∧ i = .int .i64 k ∧ Hid (wr.ownsRow w.heap.size 9 1 v (namesIf (recP xs) (xs.take k)).length (strs (namesIf (recP xs) (xs.take k)))) ∧ Grew w wr) (fun _ i _ => n - (intOf i).toNat)
  case atStart => exact ⟨0, Nat.zero_le _, rfl, Lib.hid (lit_own w 9 1), (Grew.refl _).alloc _⟩
  case round =>
    obtain ⟨k, hk, rfl, hown, hbel⟩ := hrel
    have hnl := namesIf_tk (recP xs) xs k
    by_cases hlt : k < n
    · obtain ⟨b1, o1, p, rfl, hpk, c0, c1⟩ := (hra.grew hbel).getP2 hlt
      obtain ⟨x, hxk, hxr⟩ := HA.out.get hpk.out
      obtain ⟨pn, pq⟩ := p
      obtain ⟨hxn, hxq⟩ := hxr
      simp only at hxn hxq c0 c1
      subst hxn
      obtain ⟨pa, pc, rfl, hpc, hpr⟩ := hxq
      clear hpr
      obtain ⟨v, hv⟩ : ∃ v, asksB xs x.name x.name = v := ⟨_, rfl⟩
      have HV := Lib.hid hv
      clear hv
      have hal := (Grew.refl wr).alloc (.cells #[.string x.name, .slice pa x.query.length pc] 71)
      have bx0 : (wr.alloc (.cells #[.string x.name, .slice pa x.query.length pc] 71)).cell? ⟨wr.heap.size, 0, none⟩ = some (.string x.name) := by simp
      have hcs : v = true ∨ v = false := by cases v <;> simp
      rcases hcs with rfl | rfl
      · go_wp2_with (first | (go_at_call 124; refine (implDependsOn _ xs x.name x.name _ (HD2.out.grew (hbel.trans hal)) HX0.out HS.out).mono ?_; rintro e w2 ⟨he, hb⟩; rw [HV.out] at he; subst he; have c9 := grew_cell hb bx0) | (at_builtin; refine wpList_append_own _ rfl _ _ 43 rfl w.heap.size 9 i0 (.string ⟨#[]⟩) 1 16 Try.underlying43 hi hz0 hz1 hz2 rfl (by decide) _ _ _ rfl ((ownsRow_grew hown.out (hal.trans hb)).alloc _) ⟨_, 0, none⟩ 1 1 [.string x.name] rfl rfl (cell_one_new _ _ _) (fun x hx => by simp at hx; subst hx; rfl) (by unfold maxLen; omega) (by omega) (by have := ((hbel.trans hal).trans hb).size; simp; omega) ?_; intro v' w' hown' hgr _))
        go_roundw
        case rel =>
          refine ⟨k + 1, by omega, by go_num, Lib.hid ?_, (((hbel.trans hal).trans hb).alloc _).grown hgr (fun g h => (hown.out.lt g h).1)⟩
          rw [namesIf_yes hxk.out (show recP xs x.name = true from HV.out)]; simpa using hown'
        case measure => simp [intOf]; omega
      · go_wp2_with (go_at_call 124; refine (implDependsOn _ xs x.name x.name _ (HD2.out.grew (hbel.trans hal)) HX0.out HS.out).mono ?_; rintro e w2 ⟨he, hb⟩; rw [HV.out] at he; subst he; have c9 := grew_cell hb bx0)
        go_roundw
        case rel =>
          refine ⟨k + 1, by omega, by go_num, Lib.hid ?_, (hbel.trans hal).trans hb⟩
          rw [namesIf_no hxk.out (show recP xs x.name = false from HV.out)]; exact ownsRow_grew hown.out (hal.trans hb)
        case measure => simp [intOf]; omega
    · obtain rfl : k = n := by omega
      go_wp2
      go_ret
      refine ⟨_, rfl, ?_, hbel⟩
      have := hown.out
      rw [take_all HX.out] at this
      exact this
end Go.Proofs.Ytggopodnmepojaa
