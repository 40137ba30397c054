/- Contracts of ApplyDiffToIDs and of what it calls. -/
import Derived.Test.YtejgpghcahinhaaQ2
import Derived.Test.YtejgpghcahinhaaD2
import Derived.Test.YtejgpghcahinhaaN3
import Derived.Sort.OwnSortedInts
import Derived.BigQuiet
namespace Go.Proofs.Ytejgpghcahinhaa
open Go.RowKit Go.Sort
set_option linter.unusedVariables false
instance : Ordered Int := ⟨Int.lt_irrefl, fun _ _ _ => Int.lt_trans, Int.lt_trichotomy⟩
theorem sort_putI (bs : List Int) : Lib.compact (bs.mergeSort fun x y => decide (x ≤ y)) = putAll bs := by
  refine compact_put _ _ (List.mergeSort_perm _ _) ?_
  have h := List.pairwise_mergeSort (le := fun (x y : Int) => decide (x ≤ y)) (fun a b c h1 h2 => by simp at *; omega) (fun a b => by simp; omega) bs
  refine h.imp fun {a b} hab => ?_
  have h1 : a ≤ b := by simpa using hab
  omega
theorem putAll_len (bs : List Int) : (putAll bs).length ≤ bs.length := by
  rw [← sort_putI]
  have := Lib.compact_length_le (bs.mergeSort fun x y => decide (x ≤ y))
  rwa [List.length_mergeSort] at this
/-- A list of numbers that is not nil can be read. -/
def RdI (w : World) (v : Value) (xs : List Int) : Prop := ∃ ad c, v = .slice (some ad) xs.length c ∧ xs.length ≤ c ∧ RdA w (some ad) 1 xs.length (ints xs)
theorem RdI.grew {w w' : World} {v : Value} {xs : List Int} (h : RdI w v xs) (hg : Grew w w') : RdI w' v xs := by
  obtain ⟨ad, c, rfl, h1, h2⟩ := h
  exact ⟨ad, c, rfl, h1, h2.grew hg⟩
theorem rdi_of_own {w : World} {base : Nat} {e : TypeId} {n : Nat} {v : Value} {xs : List Int} (h : w.ownsRow base e 1 v n (ints xs)) (hn : v ≠ .slice none 0 0) : RdI w v xs := by
  have hl : xs.length = n := by have := h.1; simpa using this
  have h1 := rd_of_own h
  obtain ⟨_, ⟨rfl, _⟩ | ⟨g, cap, cur, rfl, _⟩⟩ := h
  · exact absurd rfl hn
  · obtain ⟨a, c, hv, hc, hr⟩ := h1
    cases hv
    subst hl
    exact ⟨_, _, rfl, hc, hr⟩
theorem rdi_of_own2 {w : World} {base : Nat} {e : TypeId} {n : Nat} {v : Value} {xs : List Int} {cs : List Value} (h : w.ownsRow base e 1 v n cs) (hc : cs = ints xs) (hn : v ≠ .slice none 0 0) : RdI w v xs := by
  subst hc; exact rdi_of_own h hn
theorem icells_drop {w : World} {ad : Addr} {n : Nat} {xs : List Int} (h : RdA w (some ad) 1 n (ints xs)) (k : Nat) {w' : World} (hg : Grew w w') : ∀ j u, (ints (xs.drop k))[j]? = some u → w'.cell? ((ad.add k).add j) = some u := by
  intro j u hu
  have hl := (List.getElem?_eq_some_iff.1 hu).1
  simp [ints] at hl
  have hn : xs.length = n := h.len_map
  obtain ⟨b, o, e, hc⟩ := h.2 (by omega)
  obtain rfl := Option.some.inj e
  have h1 := hc (k + j) (by omega)
  have h2 : (ints xs)[k + j]? = some u := by rw [← hu]; simp [ints]
  rw [h2] at h1
  have h3 := grew_cell hg h1
  have e2 : ((⟨b, o, none⟩ : Addr).add k).add j = ⟨b, o + (k + j), none⟩ := by
    by_cases hk : k = 0 <;> by_cases hj : j = 0 <;> simp [Addr.add, hk, hj] <;> omega
  rw [e2]; exact h3
theorem icells_drop2 {w : World} {b o : Nat} {n : Nat} {xs : List Int} (h : RdA w (some ⟨b, o, none⟩) 1 n (ints xs)) (k : Nat) {w' : World} (hg : Grew w w') : ∀ j u, (ints (xs.drop k))[j]? = some u → w'.cell? ((⟨b, o + k, none⟩ : Addr).add j) = some u := by
  intro j u hu
  have h1 := icells_drop h k hg j u hu
  rw [← h1]
  congr 1
  by_cases hk : k = 0 <;> by_cases hj : j = 0 <;> simp [Addr.add, hk, hj]
theorem icells_take {w : World} {ad : Addr} {n : Nat} {xs : List Int} (h : RdA w (some ad) 1 n (ints xs)) (k : Nat) {w' : World} (hg : Grew w w') : ∀ j u, (ints (xs.take k))[j]? = some u → w'.cell? (ad.add j) = some u := by
  intro j u hu
  refine rd_news h hg j u ?_
  have hl := (List.getElem?_eq_some_iff.1 hu).1
  simp [ints] at hl
  rw [← hu]
  simp [ints, hl]
theorem one_ints (xs : List Int) : ∀ u ∈ ints xs, u.oneCell' = true := by
  intro u hu; simp at hu; obtain ⟨x, _, rfl⟩ := hu; rfl
set_option maxRecDepth 100000 in
set_option maxHeartbeats 1000000 in
theorem l07PutId (va : Value) (xs : List Int) (s : Int) (w : World) (ha : RdI w va xs) (hx : xs.length ≤ 8000000) :
    Calls Try.prog 158 #[va, .int .i64 s] w fun e w' => ∃ v, e = .returned v ∧ RdI w' v (putL xs s) ∧ Grew w w' := by
  have HA := Lib.hid ha
  obtain ⟨ad, c, rfl, hc, hr⟩ := ha
  have HR := Lib.hid hr
  generalize hn : xs.length = n at hc hr hx
  have HN := Lib.hid hn
  clear hn
  obtain ⟨i0, hi, hz0, hz1, hz2⟩ := info_parts Try.infoInt
  go_enter Try.func158, Try.ntmps158
  go_wp2
  go_loop [5] (fun i => ∃ k : Nat, k ≤ n ∧ i = .int .i64 k ∧ Hid (∀ (j : Nat) y, j < k → xs[j]? = some y → y < s)) (fun i => n - (intOf i).toNat)
  case atStart => exact ⟨0, Nat.zero_le _, rfl, Lib.hid (fun j y h => absurd h (Nat.not_lt_zero j))⟩
  case round =>
    obtain ⟨k, hk, rfl, hall⟩ := hrel
    have HPA := Lib.hid (putL_at xs k s hall.out)
    by_cases hlt : k < n
    · obtain ⟨b, o, y, hab, hyk, e1⟩ := hr.one hlt
      cases hab
      by_cases hls : y < s
      · have HV := Lib.hid hls
        go_wp2
        exact ⟨⟨k + 1, by omega, by go_num, Lib.hid (fun j z hj hz => by
          rcases Nat.lt_succ_iff_lt_or_eq.1 hj with h | rfl
          · exact hall.out j z h hz
          · obtain rfl := Option.some.inj (hyk.out.symm.trans hz)
            exact HV.out)⟩, by simp [intOf]; omega⟩
      · by_cases heq : y = s
        · have HE := Lib.hid (HPA.out.2.1 y hyk.out hls heq)
          subst heq
          go_wp2
          go_ret
          refine ⟨.slice (some ⟨b, o, none⟩) n c, rfl, ?_, Grew.refl _⟩
          rw [HE.out, ← HN.out]; exact HA.out
        · have HE := Lib.hid ((HPA.out.2.2 y hyk.out hls heq).trans (by simp : xs.take k ++ s :: xs.drop k = xs.take k ++ [s] ++ xs.drop k))
          have hq : (y == s) = false := by simp [heq]
          have hkn : k ≤ n := hk
          clear HPA hyk heq
          have g0 := (Grew.refl w).alloc (.cells #[] 3)
          have kc : k ≤ c := by omega
          have htk : (xs.take k).length = k := by rw [List.length_take, HN.out]; omega
          have hdk : (xs.drop k).length = n - k := by rw [List.length_drop, HN.out]
          go_wp2_with (at_builtin; refine wpList_append_own _ rfl _ _ 27 rfl w.heap.size 3 i0 (.int .i64 0) 1 8 Try.underlying27 hi hz0 hz1 hz2 rfl (by decide) _ 0 [] rfl (lit_own w 3 1) _ k _ (ints (xs.take k)) rfl (by rw [List.length_map, htk, Nat.mul_one]) (icells_take HR.out k g0) (one_ints _) (by unfold maxLen; omega) (by omega) (by simp) ?_)
          intro v1 w1 hown1 hgr1 _
          have g1 : Grew w w1 := g0.grown hgr1 (fun j h => by cases h; exact Nat.le_refl _)
          have HO1 := Lib.hid (show w1.ownsRow w.heap.size 3 1 v1 k (ints (xs.take k)) by simpa using hown1)
          obtain ⟨a1, c1, rfl⟩ := own_slice (HO1.out)
          clear hown1 hgr1
          go_wp2_with (at_builtin; refine wpList_append_own _ rfl _ _ 27 rfl w.heap.size 3 i0 (.int .i64 0) 1 8 Try.underlying27 hi hz0 hz1 hz2 rfl (by decide) _ _ _ rfl (HO1.out.alloc _) ⟨_, 0, none⟩ 1 1 [.int .i64 s] rfl rfl (cell_one_new _ _ _) (fun x hx => by simp at hx; subst hx; rfl) (by unfold maxLen; omega) (by omega) (by have := g1.size; simp; omega) ?_)
          intro v2 w2 hown2 hgr2 hnil2
          have g2 : Grew w w2 := (g1.alloc _).grown hgr2 (fun j h => (HO1.out.lt j h).1)
          have HO2 := Lib.hid hown2
          have hne2 : v2 ≠ .slice none 0 0 := fun h => by first | exact hnil2 h | exact absurd (hnil2.1 h).2 (by omega)
          obtain ⟨a2, c2, rfl⟩ := own_slice (HO2.out)
          clear hown2 hgr2 hnil2
          go_wp2_with (at_builtin; refine wpList_append_own _ rfl _ _ 27 rfl w.heap.size 3 i0 (.int .i64 0) 1 8 Try.underlying27 hi hz0 hz1 hz2 rfl (by decide) _ _ _ rfl HO2.out _ (n - k) (c - k) (ints (xs.drop k)) rfl (by rw [List.length_map, hdk, Nat.mul_one]) (icells_drop2 HR.out k g2) (one_ints _) (by unfold maxLen; omega) (by omega) (by have := g2.size; omega) ?_)
          intro v3 w3 hown3 hgr3 hnil3
          have g3 : Grew w w3 := g2.grown hgr3 (fun j h => (HO2.out.lt j h).1)
          have hne3 : v3 ≠ .slice none 0 0 := fun h => by first | exact hnil3 h | exact hne2 (hnil3.1 h).1
          have HO3 := Lib.hid hown3
          obtain ⟨a3, c3, rfl⟩ := own_slice (HO3.out)
          clear hown3 hgr3 hnil3
          go_wp2
          go_ret
          refine ⟨_, rfl, ?_, g3⟩
          exact rdi_of_own2 HO3.out (by rw [HE.out]; simp [ints]) hne3
    · obtain rfl : k = n := by omega
      have hkn : k ≤ k := Nat.le_refl k
      have HE := Lib.hid ((HPA.out.1 (List.getElem?_eq_none (by rw [HN.out]; exact Nat.le_refl _)) (by rw [HN.out]; exact Nat.le_refl _)).trans (by simp : xs.take k ++ s :: xs.drop k = xs.take k ++ [s] ++ xs.drop k))
      clear HPA
      by_cases hck : c = k
      · have hck2 := hck.symm
        subst hck2
        have g0 := (Grew.refl w).alloc (.cells #[] 3)
        have kc : k ≤ k := by omega
        have htk : (xs.take k).length = k := by rw [List.length_take, HN.out]; omega
        have hdk : (xs.drop k).length = k - k := by rw [List.length_drop, HN.out]
        go_wp2_with (at_builtin; refine wpList_append_own _ rfl _ _ 27 rfl w.heap.size 3 i0 (.int .i64 0) 1 8 Try.underlying27 hi hz0 hz1 hz2 rfl (by decide) _ 0 [] rfl (lit_own w 3 1) _ k _ (ints (xs.take k)) rfl (by rw [List.length_map, htk, Nat.mul_one]) (icells_take HR.out k g0) (one_ints _) (by unfold maxLen; omega) (by omega) (by simp) ?_)
        intro v1 w1 hown1 hgr1 _
        have g1 : Grew w w1 := g0.grown hgr1 (fun j h => by cases h; exact Nat.le_refl _)
        have HO1 := Lib.hid (show w1.ownsRow w.heap.size 3 1 v1 k (ints (xs.take k)) by simpa using hown1)
        obtain ⟨a1, c1, rfl⟩ := own_slice (HO1.out)
        clear hown1 hgr1
        go_wp2_with (at_builtin; refine wpList_append_own _ rfl _ _ 27 rfl w.heap.size 3 i0 (.int .i64 0) 1 8 Try.underlying27 hi hz0 hz1 hz2 rfl (by decide) _ _ _ rfl (HO1.out.alloc _) ⟨_, 0, none⟩ 1 1 [.int .i64 s] rfl rfl (cell_one_new _ _ _) (fun x hx => by simp at hx; subst hx; rfl) (by unfold maxLen; omega) (by omega) (by have := g1.size; simp; omega) ?_)
        intro v2 w2 hown2 hgr2 hnil2
        have g2 : Grew w w2 := (g1.alloc _).grown hgr2 (fun j h => (HO1.out.lt j h).1)
        have HO2 := Lib.hid hown2
        have hne2 : v2 ≠ .slice none 0 0 := fun h => by first | exact hnil2 h | exact absurd (hnil2.1 h).2 (by omega)
        obtain ⟨a2, c2, rfl⟩ := own_slice (HO2.out)
        clear hown2 hgr2 hnil2
        go_wp2_with (at_builtin; refine wpList_append_own _ rfl _ _ 27 rfl w.heap.size 3 i0 (.int .i64 0) 1 8 Try.underlying27 hi hz0 hz1 hz2 rfl (by decide) _ _ _ rfl HO2.out _ _ _ [] rfl (by simp) (fun j u hu => by simp at hu) (fun u hu => by simp at hu) (by unfold maxLen; omega) (by omega) (by have := g2.size; omega) ?_)
        intro v3 w3 hown3 hgr3 hnil3
        have g3 : Grew w w3 := g2.grown hgr3 (fun j h => (HO2.out.lt j h).1)
        have hne3 : v3 ≠ .slice none 0 0 := fun h => by first | exact hnil3 h | exact hne2 (hnil3.1 h).1
        have HO3 := Lib.hid hown3
        obtain ⟨a3, c3, rfl⟩ := own_slice (HO3.out)
        clear hown3 hgr3 hnil3
        go_wp2
        go_ret
        refine ⟨_, rfl, ?_, g3⟩
        exact rdi_of_own2 HO3.out (by rw [HE.out, List.drop_eq_nil_of_le (by rw [HN.out]; omega)]; simp [ints]) hne3
      · have hck2 : k < c := by omega
        have g0 := (Grew.refl w).alloc (.cells #[] 3)
        have kc : k ≤ c := by omega
        have htk : (xs.take k).length = k := by rw [List.length_take, HN.out]; omega
        have hdk : (xs.drop k).length = k - k := by rw [List.length_drop, HN.out]
        go_wp2_with (at_builtin; refine wpList_append_own _ rfl _ _ 27 rfl w.heap.size 3 i0 (.int .i64 0) 1 8 Try.underlying27 hi hz0 hz1 hz2 rfl (by decide) _ 0 [] rfl (lit_own w 3 1) _ k _ (ints (xs.take k)) rfl (by rw [List.length_map, htk, Nat.mul_one]) (icells_take HR.out k g0) (one_ints _) (by unfold maxLen; omega) (by omega) (by simp) ?_)
        intro v1 w1 hown1 hgr1 _
        have g1 : Grew w w1 := g0.grown hgr1 (fun j h => by cases h; exact Nat.le_refl _)
        have HO1 := Lib.hid (show w1.ownsRow w.heap.size 3 1 v1 k (ints (xs.take k)) by simpa using hown1)
        obtain ⟨a1, c1, rfl⟩ := own_slice (HO1.out)
        clear hown1 hgr1
        go_wp2_with (at_builtin; refine wpList_append_own _ rfl _ _ 27 rfl w.heap.size 3 i0 (.int .i64 0) 1 8 Try.underlying27 hi hz0 hz1 hz2 rfl (by decide) _ _ _ rfl (HO1.out.alloc _) ⟨_, 0, none⟩ 1 1 [.int .i64 s] rfl rfl (cell_one_new _ _ _) (fun x hx => by simp at hx; subst hx; rfl) (by unfold maxLen; omega) (by omega) (by have := g1.size; simp; omega) ?_)
        intro v2 w2 hown2 hgr2 hnil2
        have g2 : Grew w w2 := (g1.alloc _).grown hgr2 (fun j h => (HO1.out.lt j h).1)
        have HO2 := Lib.hid hown2
        have hne2 : v2 ≠ .slice none 0 0 := fun h => by first | exact hnil2 h | exact absurd (hnil2.1 h).2 (by omega)
        obtain ⟨a2, c2, rfl⟩ := own_slice (HO2.out)
        clear hown2 hgr2 hnil2
        go_wp2_with (at_builtin; refine wpList_append_own _ rfl _ _ 27 rfl w.heap.size 3 i0 (.int .i64 0) 1 8 Try.underlying27 hi hz0 hz1 hz2 rfl (by decide) _ _ _ rfl HO2.out _ _ _ [] rfl (by simp) (fun j u hu => by simp at hu) (fun u hu => by simp at hu) (by unfold maxLen; omega) (by omega) (by have := g2.size; omega) ?_)
        intro v3 w3 hown3 hgr3 hnil3
        have g3 : Grew w w3 := g2.grown hgr3 (fun j h => (HO2.out.lt j h).1)
        have hne3 : v3 ≠ .slice none 0 0 := fun h => by first | exact hnil3 h | exact hne2 (hnil3.1 h).1
        have HO3 := Lib.hid hown3
        obtain ⟨a3, c3, rfl⟩ := own_slice (HO3.out)
        clear hown3 hgr3 hnil3
        go_wp2
        go_ret
        refine ⟨_, rfl, ?_, g3⟩
        exact rdi_of_own2 HO3.out (by rw [HE.out, List.drop_eq_nil_of_le (by rw [HN.out]; omega)]; simp [ints]) hne3
set_option maxRecDepth 100000 in
set_option maxHeartbeats 1000000 in
theorem replayed (va vb vc : Value) (n m q : Nat) (xs ys zs : List Int) (w : World) (ha : Rd w va 1 n (ints xs)) (hb : Rd w vb 1 m (ints ys)) (hc : Rd w vc 1 q (ints zs)) (hx : n ≤ 4000000) (hy : m ≤ 4000000) (hz : q ≤ 4000000) :
    Calls Try.prog 157 #[va, vb, vc] w fun e w' => ∃ v, e = .returned v ∧ w'.ownsRow w.heap.size 3 1 v (putAll (wo xs zs ++ ys)).length (ints (putAll (wo xs zs ++ ys))) ∧ Grew w w' := by
  have HA := Lib.hid ha
  have HC := Lib.hid hc
  have hwl : (wo xs zs).length ≤ 4000000 := by have := wo_le xs zs; have := Rd.len1 ha; omega
  have HM := Lib.hid (Rd.len1 hb)
  obtain ⟨a, ca, rfl, _, hra⟩ := ha
  obtain ⟨b, cb, rfl, _, hrb⟩ := hb
  obtain ⟨c, cc, rfl, _, hrc⟩ := hc
  clear hra hrc
  obtain ⟨l, hl⟩ : ∃ l, (wo xs zs).length = l := ⟨_, rfl⟩
  rw [hl] at hwl
  have HL := Lib.hid hl
  clear hl
  obtain ⟨i0, hi, hz0, hz1, hz2⟩ := info_parts Try.infoInt
  go_enter Try.func157, Try.ntmps157
  go_upto_region 1 with fail
  go_cut [7] (fun v wc => Hid (wc.ownsRow w.heap.size 3 1 v (wo xs zs ++ ys).length (ints (wo xs zs ++ ys))) ∧ Grew w wc)
  case first =>
    go_wp2_with fail
    refine (implWithout _ _ n q xs zs _ HA.out HC.out hx hz).mono ?_
    rintro e w1 ⟨v, rfl, hown, hb1⟩
    rw [HL.out] at hown
    have HO := Lib.hid hown
    cases b with
    | none =>
      have hm0 : m = 0 := by rcases Nat.eq_zero_or_pos m with h | h; exact h; obtain ⟨b, o, h2, _⟩ := hrb.2 h; cases h2
      subst hm0
      have hys : ys = [] := List.length_eq_zero_iff.1 HM.out
      subst hys
      have hfin : Hid (w1.ownsRow w.heap.size 3 1 v (wo xs zs ++ []).length (ints (wo xs zs ++ []))) := by rw [List.append_nil, HL.out]; exact HO
      clear hrb
      obtain ⟨_, ⟨rfl, rfl⟩ | ⟨g, cap, cur, rfl, _, _, hcap, hcm, _⟩⟩ := hown
      · go_wp2
        go_meet
        exact ⟨hfin, hb1⟩
      · go_wp2
        go_meet
        exact ⟨hfin, hb1⟩
    | some b =>
      have HB := Lib.hid hrb
      clear hrb hown
      go_wp2_with (at_builtin; refine wpList_append_own _ rfl _ _ 27 rfl w.heap.size 3 i0 (.int .i64 0) 1 8 Try.underlying27 hi hz0 hz1 hz2 rfl (by decide) _ _ _ rfl HO.out b m cb (ints ys) rfl (by rw [List.length_map, HM.out, Nat.mul_one]) (rd_news HB.out hb1) (one_ints _) (by unfold maxLen; omega) (by omega) (by have := hb1.size; omega) ?_)
      intro v' w' hown' hgr _
      have hfin : Hid (w'.ownsRow w.heap.size 3 1 v' (wo xs zs ++ ys).length (ints (wo xs zs ++ ys))) := by
        rw [List.length_append, HL.out, HM.out, show ints (wo xs zs ++ ys) = ints (wo xs zs) ++ ints ys from List.map_append]; exact Lib.hid hown'
      have hg2 := hb1.grown hgr (fun k h => (HO.out.lt k h).1)
      clear hown' hgr
      go_wp2
      go_meet
      exact ⟨hfin, hg2⟩
  case rest =>
    obtain ⟨hown, hb⟩ := hcut
    obtain ⟨w1, rfl⟩ : ∃ x, x = wc := ⟨_, rfl⟩
    obtain ⟨bs, hbs⟩ : ∃ bs, wo xs zs ++ ys = bs := ⟨_, rfl⟩
    have hbl : bs.length ≤ 8000000 := by rw [← hbs, List.length_append, HL.out, HM.out]; omega
    replace hown := hown.out
    rw [hbs] at hown
    have HBS := Lib.hid hbs
    obtain ⟨n2, hn2⟩ : ∃ n, bs.length = n := ⟨_, rfl⟩
    rw [hn2] at hown hbl
    have HN := Lib.hid hn2
    clear hn2 hbs HM HL HA HC
    rcases hown.2 with ⟨rfl, hn0⟩ | ⟨g, cap, cur, rfl, hbase, hcell, h1, h2, h3, h4⟩
    · rw [hn0] at hown
      clear hown
      have hxs : bs = [] := List.length_eq_zero_iff.1 (HN.out.trans hn0)
      subst hxs
      go_wp2_with fail
      refine (Try.slices_Sort_int_none _ _ _).mono ?_
      rintro e w2 ⟨rfl, rfl⟩
      go_wp2_with fail
      refine (Try.slices_Compact_int_empty _ _ _).mono ?_
      rintro e w3 ⟨rfl, rfl⟩
      go_wp2
      go_ret
      refine ⟨_, rfl, ?_, hb⟩
      rw [HBS.out]
      exact World.ownsRow_nil _ _ _ _
    · clear hown
      have hlen : bs.length = n2 := HN.out
      have hH := holds_of_blockI (ss := bs) hcell (by rw [hlen]; simpa using h4)
      have hgs : g < w1.heap.size := (Array.getElem?_eq_some_iff.1 hcell).1
      have HS := Lib.hid (Try.slices_Sort_int g 0 cap bs w1 hH hgs (by omega))
      obtain ⟨ts, hts⟩ : ∃ ts, bs.mergeSort (fun x y => decide (x ≤ y)) = ts := ⟨_, rfl⟩
      have htl : ts.length = n2 := by rw [← hts, List.length_mergeSort, hlen]
      have HT := Lib.hid hts
      have hs0 := HS.out
      rw [hts, hlen] at hs0
      replace HS := Lib.hid hs0
      clear hs0 hts hH h4
      go_wp2_with fail
      refine (HS.out).mono ?_
      rintro e w2 ⟨rfl, k2, os, hw2⟩
      have hO2 := ownsRow_sortedI (n := k2) (os := os) (ss := ts) (ts := ts) (e := 3) rfl hbase hcell (by omega) h2 h3
      have hG2 : w1.grownBy w2 (some g) := by rw [hw2]; exact grownBy_sortedI _
      rw [← hw2, htl] at hO2
      have HO2 := Lib.hid hO2
      have HG2 := Lib.hid hG2
      clear hw2 hcell h1 h2 h3 hO2 hG2
      obtain ⟨_, ⟨hc, _⟩ | ⟨g', cap', cur2, hc, hbase2, hcell2, h1, h2, h3, h4⟩⟩ := HO2.out
      · cases hc
      cases hc
      have hH2 := holds_of_blockI (ss := ts) hcell2 (by rw [htl]; simpa using h4)
      have HC := Lib.hid (Try.slices_Compact_int g 0 cap ts w2 hH2 (by omega) (by omega))
      have hc0 := HC.out
      rw [htl] at hc0
      replace HC := Lib.hid hc0
      have hcle : (Lib.compact ts).length ≤ n2 := by rw [← htl]; exact Lib.compact_length_le ts
      clear hc0 hH2 h4
      go_wp2_with fail
      refine (HC.out).mono ?_
      rintro e w3 ⟨rfl, q, hw3⟩
      have hO3 := ownsRow_sortedI (n := q) (os := #[]) (ss := ts) (ts := Lib.compact ts ++ List.replicate (n2 - (Lib.compact ts).length) (0 : Int)) (e := 3) (by simp; omega) hbase2 hcell2 (by omega) h2 h3
      have hG3 : w2.grownBy w3 (some g) := by
        have := grownBy_sortedI (w := w2) (g := g) (n := q) (os := #[]) (Lib.compact ts ++ List.replicate (n2 - (Lib.compact ts).length) (0 : Int)).toArray
        rw [hw3]; simpa [htl] using this
      have hO4 : w3.ownsRow w.heap.size 3 1 (.slice (some ⟨g, 0, none⟩) n2 cap) n2 ((Lib.compact ts ++ List.replicate (n2 - (Lib.compact ts).length) (0 : Int)).map (Value.int .i64)) := by
        rw [hw3]; simpa [htl] using hO3
      have HO4 := Lib.hid hO4
      have HG3 := Lib.hid hG3
      clear hw3 hcell2 hO3 hO4 hG3
      go_wp2
      go_ret
      have hso : putAll bs = Lib.compact ts := by rw [← sort_putI, HT.out]
      refine ⟨_, rfl, ?_, (hb.grown HG2.out (fun k h => by cases h; exact hbase)).grown HG3.out (fun k h => by cases h; exact hbase)⟩
      rw [HBS.out, hso]
      exact own_cut' HO4.out hcle (by rw [List.map_append]; exact List.take_left' (by simp))
/-- A listing with a difference applied. -/
def apd (xs : List Int) (d : Df) : List Int := putAll (wo xs d.removed ++ d.added)
theorem apd_len (xs : List Int) (d : Df) : (apd xs d).length ≤ xs.length + d.added.length := by
  unfold apd
  have h1 := putAll_len (wo xs d.removed ++ d.added)
  have h2 := wo_le xs d.removed
  rw [List.length_append] at h1; omega
theorem putAll_snoc (l : List Int) (s : Int) : putAll (l ++ [s]) = putL (putAll l) s := by
  unfold putAll; rw [List.foldl_append]; rfl
set_option maxRecDepth 100000 in
set_option maxHeartbeats 1000000 in
theorem implApplyDiffToIDs (va : Value) (n : Nat) (xs : List Int) (d : Df) (p : P3) (w : World) (ha : Rd w va 1 n (ints xs)) (hd : Df.R w d p) (hx : n ≤ 4000000) (hs : d.small) :
    Calls Try.prog 58 #[va, p.v] w fun e w' => ∃ v, e = .returned v ∧ w'.ownsRow w.heap.size 3 1 v (apd xs d).length (ints (apd xs d)) ∧ Grew w w' := by
  obtain ⟨pn, pq, pr⟩ := p
  obtain ⟨hpn, hq, hr⟩ := hd
  clear hpn
  simp only at hq hr
  obtain ⟨h1, h2⟩ := hs
  have HQ := Lib.hid hq
  have HR := Lib.hid hr
  have HA := Lib.hid ha
  obtain ⟨qa, qc, rfl, _, h3⟩ := hq
  obtain ⟨ra, rc, rfl, _, h4⟩ := hr
  clear h3 h4 ha
  have hg := (Grew.refl w).alloc (.cells #[.string pn, .slice qa d.added.length qc, .slice ra d.removed.length rc] 80)
  go_enter Try.func58, Try.ntmps58
  go_wp2_with fail
  refine (replayed va _ _ n _ _ xs d.added d.removed _ (HA.out.grew hg) (HQ.out.grew hg) (HR.out.grew hg) hx h1 h2).mono ?_
  rintro e w1 ⟨v, rfl, hown, hb⟩
  have HO := Lib.hid hown
  clear hown
  go_wp2
  go_ret
  exact ⟨_, rfl, ownsRow_base HO.out hg.size, hg.trans hb⟩
set_option maxRecDepth 100000 in
set_option maxHeartbeats 1000000 in
theorem specApplyDiffToIDs (va : Value) (n : Nat) (xs : List Int) (d : Df) (p : P3) (w : World) (ha : Rd w va 1 n (ints xs)) (hd : Df.R w d p) (hx : n ≤ 4000000) (hs : d.small) :
    Calls Try.prog 59 #[va, p.v] w fun e w' => ∃ v, e = .returned v ∧ w'.ownsRow w.heap.size 3 1 v (apd xs d).length (ints (apd xs d)) ∧ Grew w w' := by
  obtain ⟨pn, pq, pr⟩ := p
  obtain ⟨hpn, hq, hr⟩ := hd
  clear hpn
  simp only at hq hr
  obtain ⟨h1, h2⟩ := hs
  have HR := Lib.hid hr
  obtain ⟨a, ca, rfl, hca, hra⟩ := ha
  obtain ⟨qa, qc, rfl, hqc, hqr⟩ := hq
  obtain ⟨ra, rc, rfl, _, h4⟩ := hr
  clear h4
  have HX := Lib.hid hra.len_map
  obtain ⟨i0, hi, hz0, hz1, hz2⟩ := info_parts Try.infoInt
  generalize hm : d.added.length = m at h1 hqc hqr
  have HM := Lib.hid hm
  go_enter Try.func59, Try.ntmps59
  go_wp2
  have d1 : ((w.alloc (.cells #[.string pn, .slice qa m qc, .slice ra d.removed.length rc] 80)).alloc (.cells #[] 3)).cell? ⟨w.heap.size, 1, none⟩ = some (.slice qa m qc) := grew_cell ((Grew.refl _).alloc _) (by simp)
  have d2 : ((w.alloc (.cells #[.string pn, .slice qa m qc, .slice ra d.removed.length rc] 80)).alloc (.cells #[] 3)).cell? ⟨w.heap.size, 2, none⟩ = some (.slice ra d.removed.length rc) := grew_cell ((Grew.refl _).alloc _) (by simp)
  have hg := ((Grew.refl w).alloc (.cells #[.string pn, .slice qa m qc, .slice ra d.removed.length rc] 80)).alloc (.cells #[] 3)
  have hl := rdi_of_own (xs := []) (lit_own (w.alloc (.cells #[.string pn, .slice qa m qc, .slice ra d.removed.length rc] 80)) 3 1) (by simp)
  rw [show (w.alloc (.cells #[.string pn, .slice qa m qc, .slice ra d.removed.length rc] 80)).heap.size = w.heap.size + 1 by simp] at hl
  generalize (w.alloc (.cells #[.string pn, .slice qa m qc, .slice ra d.removed.length rc] 80)).alloc (.cells #[] 3) = W at d1 d2 hg hl ⊢
  have HLI := Lib.hid hl
  clear hl
  go_loopw [5, 6] (fun v i wr => ∃ k : Nat, k ≤ n ∧ i = .int .i64 k ∧ Hid (RdI wr v (putAll (wo (xs.take k) d.removed))) ∧ Grew W wr) (fun _ i _ => n - (intOf i).toNat)
  case atStart => exact ⟨0, Nat.zero_le _, rfl, HLI, Grew.refl _⟩
  case round =>
    obtain ⟨k, hk, rfl, hrd, hbel⟩ := hrel
    have g1 := grew_cell hbel d1
    have g2 := grew_cell hbel d2
    by_cases hlt : k < n
    · obtain ⟨b1, o1, y, rfl, hyk, e1⟩ := (hra.grew (hg.trans hbel)).one hlt
      obtain ⟨v, hv⟩ : ∃ v, has d.removed y = v := ⟨_, rfl⟩
      have HV := Lib.hid hv
      clear hv
      have CC := Lib.hid (fun w0 (h : Grew w w0) => (specContainsID _ _ d.removed y w0 (HR.out.grew h) h2).mono (fun e w' ⟨he, hw⟩ => (⟨by rw [he, HV.out], hw.symm⟩ : e = Ending.returned (.bool v) ∧ w' = w0)))
      have hsl : (putAll (wo (xs.take k) d.removed)).length ≤ 4000000 := by have := putAll_len (wo (xs.take k) d.removed); have := wo_take_le xs d.removed k; omega
      have hcs : v = true ∨ v = false := by cases v <;> simp
      rcases hcs with rfl | rfl
      · go_wp2_with fail
        go_quiet ((go_at_call 24; exact Calls.quiet_of_same (CC.out _ ((hg.trans hbel).drewN _))))
        go_wp2
        go_roundw
        case rel =>
          refine ⟨k + 1, by omega, by go_num, Lib.hid ?_, hbel.drewN _⟩
          rw [wo_yes hyk.out HV.out]; exact hrd.out.grew ((Grew.refl _).drewN _)
        case measure => simp [intOf]; omega
      · go_wp2_with fail
        go_quiet ((go_at_call 24; exact Calls.quiet_of_same (CC.out _ ((hg.trans hbel).drewN _))))
        go_wp2_with (go_at_call 158; refine (l07PutId _ _ y _ (hrd.out.grew ((Grew.refl _).drewN _)) (by omega)).mono ?_; rintro e w2 ⟨v2, rfl, hrd2, hb2⟩; have HR2 := Lib.hid hrd2; clear hrd2)
        go_roundw
        case rel =>
          refine ⟨k + 1, by omega, by go_num, Lib.hid ?_, (hbel.drewN _).trans hb2⟩
          rw [wo_no hyk.out HV.out, putAll_snoc]; exact HR2.out
        case measure => simp [intOf]; omega
    · obtain rfl : k = n := by omega
      have h5 := hrd.out
      rw [take_all HX.out] at h5
      have H5 := Lib.hid h5
      obtain ⟨W1, rfl⟩ : ∃ x, x = wr := ⟨_, rfl⟩
      clear h5 hrd hlt
      go_wp2
      go_loopw [5, 7] (fun v i wr => ∃ j : Nat, j ≤ m ∧ i = .int .i64 j ∧ Hid (RdI wr v (putAll (wo xs d.removed ++ d.added.take j))) ∧ Grew W1 wr) (fun _ i _ => m - (intOf i).toNat)
      case atStart => exact ⟨0, Nat.zero_le _, rfl, by rw [List.take_zero, List.append_nil]; exact H5, Grew.refl _⟩
      case round =>
        obtain ⟨j, hj, rfl, hrd, hbel2⟩ := hrel
        have k1 := grew_cell hbel2 g1
        have hsl : (putAll (wo xs d.removed ++ d.added.take j)).length ≤ 8000000 := by
          have h6 := putAll_len (wo xs d.removed ++ d.added.take j)
          have h7 := wo_le xs d.removed
          have h8 := HX.out
          rw [List.length_append, List.length_take] at h6; omega
        by_cases hlt : j < m
        · obtain ⟨b1, o1, y, rfl, hyk, e1⟩ := (hqr.grew ((hg.trans hbel).trans hbel2)).one hlt
          go_wp2_with (go_at_call 158; refine (l07PutId _ _ y _ hrd.out hsl).mono ?_; rintro e w2 ⟨v2, rfl, hrd2, hb2⟩; have HR2 := Lib.hid hrd2; clear hrd2)
          go_roundw
          case rel =>
            refine ⟨j + 1, by omega, by go_num, Lib.hid ?_, hbel2.trans hb2⟩
            rw [take_snoc hyk.out, ← List.append_assoc, putAll_snoc]; exact HR2.out
          case measure => simp [intOf]; omega
        · obtain rfl : j = m := by omega
          have h9 := hrd.out
          rw [take_all HM.out] at h9
          obtain ⟨ad, c, rfl, hc, hr⟩ := h9
          have HRR := Lib.hid hr
          clear hr hrd
          generalize hL : (putAll (wo xs d.removed ++ d.added)).length = L at hc HRR hsl
          have hL2 : (apd xs d).length = L := hL
          have hLs : L ≤ 8000000 := by
            have := apd_len xs d
            have h8 := HX.out
            have h9 := HM.out
            omega
          have HL := Lib.hid hL2
          clear hL hL2
          have hgw := (hg.trans hbel).trans hbel2
          go_wp2_with (at_builtin; refine wpList_append_own _ rfl _ _ 27 rfl wr.heap.size 3 i0 (.int .i64 0) 1 8 Try.underlying27 hi hz0 hz1 hz2 rfl (by decide) _ 0 [] rfl (lit_own wr 3 1) _ L _ (ints (apd xs d)) rfl (by rw [List.length_map, HL.out, Nat.mul_one]) (rd_news HRR.out ((Grew.refl _).alloc _)) (one_ints _) (by unfold maxLen; omega) (by omega) (by simp) ?_)
          intro v' w' hown' hgr _
          go_wp2
          go_ret
          refine ⟨_, rfl, ?_, (hgw.alloc _).grown hgr (fun k h => by cases h; exact hgw.size)⟩
          rw [HL.out]
          exact ownsRow_base (by simpa using hown') hgw.size
end Go.Proofs.Ytejgpghcahinhaa
