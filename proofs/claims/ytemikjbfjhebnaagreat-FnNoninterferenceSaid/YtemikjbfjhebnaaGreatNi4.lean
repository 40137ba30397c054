/- Texts Q2, K1, C3, C4, Q3, Q4, K2, Y0, Y1, C5, as far as they are needed. -/
import Derived.Test.YtemikjbfjhebnaaGreatNi3
import Derived.Test.YtemikjbfjhebnaaGreatNi0
import Derived.Test.YtemikjbfjhebnaaGreatNi1
namespace Go.Proofs.YtemikjbfjhebnaaGreat
open Go.RowKit Go.Sort
set_option linter.unusedVariables false
def putB (xs : List ByteArray) (s : ByteArray) : List ByteArray := (putL (xs.map dl) (dl s)).map mkb
theorem putL_at {α : Type} [LT α] [DecidableLT α] [DecidableEq α] : ∀ (xs : List α) (k : Nat) (s : α), (∀ (j : Nat) y, j < k → xs[j]? = some y → y < s) →
    (xs[k]? = none → k ≤ xs.length → putL xs s = xs.take k ++ s :: xs.drop k) ∧ (∀ y, xs[k]? = some y → ¬ y < s → y = s → putL xs s = xs) ∧ (∀ y, xs[k]? = some y → ¬ y < s → ¬ y = s → putL xs s = xs.take k ++ s :: xs.drop k)
  | [], k, s, _ => by
    refine ⟨fun _ hk => ?_, fun y h => by simp at h, fun y h => by simp at h⟩
    have : k = 0 := by simpa using hk
    subst this; simp [putL]
  | x :: xs, 0, s, _ => by
    refine ⟨fun h => by simp at h, fun y h h1 h2 => ?_, fun y h h1 h2 => ?_⟩
    · simp at h; subst h; subst h2
      unfold putL; rw [if_neg h1, if_pos rfl]
    · simp at h; subst h
      unfold putL; rw [if_neg h1, if_neg h2]; simp
  | x :: xs, k + 1, s, h => by
    have h0 : x < s := h 0 x (Nat.succ_pos k) rfl
    have ih := putL_at xs k s (fun j y hj hy => h (j + 1) y (Nat.succ_lt_succ hj) (by simpa using hy))
    have e : putL (x :: xs) s = x :: putL xs s := by
      conv => lhs; unfold putL
      rw [if_pos h0]
    rw [e]
    refine ⟨fun h1 h2 => ?_, fun y h1 h2 h3 => ?_, fun y h1 h2 h3 => ?_⟩
    · rw [ih.1 (by simpa using h1) (by simpa using h2)]; simp
    · rw [ih.2.1 y (by simpa using h1) h2 h3]
    · rw [ih.2.2 y (by simpa using h1) h2 h3]; simp
theorem putB_app {xs : List ByteArray} {s : ByteArray} {k : Nat} (h : putL (xs.map dl) (dl s) = (xs.map dl).take k ++ dl s :: (xs.map dl).drop k) : putB xs s = xs.take k ++ [s] ++ xs.drop k := by
  unfold putB; rw [h]; simp [mkb_dl, Function.comp_def]
theorem putB_same {xs : List ByteArray} {s : ByteArray} (h : putL (xs.map dl) (dl s) = xs.map dl) : putB xs s = xs := by
  unfold putB; rw [h]; simp [mkb_dl, Function.comp_def]
theorem less_iff (a b : ByteArray) (v : Bool) : Op.bytesLess a.toList b.toList = v ↔ decide (dl a < dl b) = v := by
  rw [ByteArray.toList_eq, ByteArray.toList_eq, bytesLess_eq]
theorem same_iff (a b : ByteArray) (v : Bool) : (a.toList == b.toList) = v ↔ decide (dl a = dl b) = v := by
  rw [ByteArray.toList_eq, ByteArray.toList_eq]
  rw [Bool.beq_eq_decide_eq]
def RdS (w : World) (v : Value) (xs : List ByteArray) : Prop := ∃ ad c, v = .slice (some ad) xs.length c ∧ xs.length ≤ c ∧ RdA w (some ad) 1 xs.length (strs xs)
theorem RdS.grew {w w' : World} {v : Value} {xs : List ByteArray} (h : RdS w v xs) (hg : Grew w w') : RdS w' v xs := by
  obtain ⟨ad, c, rfl, h1, h2⟩ := h
  exact ⟨ad, c, rfl, h1, h2.grew hg⟩
theorem rds_of_own {w : World} {base : Nat} {e : TypeId} {n : Nat} {v : Value} {xs : List ByteArray} (h : w.ownsRow base e 1 v n (strs xs)) (hn : v ≠ .slice none 0 0) : RdS w v xs := by
  have hl : xs.length = n := by have := h.1; simpa using this
  have h1 := rd_of_own h
  obtain ⟨_, ⟨rfl, _⟩ | ⟨g, cap, cur, rfl, _⟩⟩ := h
  · exact absurd rfl hn
  · obtain ⟨a, c, hv, hc, hr⟩ := h1
    cases hv
    subst hl
    exact ⟨_, _, rfl, hc, hr⟩
theorem rds_of_own2 {w : World} {base : Nat} {e : TypeId} {n : Nat} {v : Value} {xs : List ByteArray} {cs : List Value} (h : w.ownsRow base e 1 v n cs) (hc : cs = strs xs) (hn : v ≠ .slice none 0 0) : RdS w v xs := by
  subst hc; exact rds_of_own h hn
theorem cells_drop {w : World} {ad : Addr} {n : Nat} {xs : List ByteArray} (h : RdA w (some ad) 1 n (strs xs)) (k : Nat) {w' : World} (hg : Grew w w') : ∀ j u, (strs (xs.drop k))[j]? = some u → w'.cell? ((ad.add k).add j) = some u := by
  intro j u hu
  have hl := (List.getElem?_eq_some_iff.1 hu).1
  simp [strs] at hl
  have hn : xs.length = n := h.len_map
  obtain ⟨b, o, e, hc⟩ := h.2 (by omega)
  obtain rfl := Option.some.inj e
  have h1 := hc (k + j) (by omega)
  have h2 : (strs xs)[k + j]? = some u := by rw [← hu]; simp [strs]
  rw [h2] at h1
  have h3 := grew_cell hg h1
  have e2 : ((⟨b, o, none⟩ : Addr).add k).add j = ⟨b, o + (k + j), none⟩ := by
    by_cases hk : k = 0 <;> by_cases hj : j = 0 <;> simp [Addr.add, hk, hj] <;> omega
  rw [e2]; exact h3
theorem cells_drop2 {w : World} {b o : Nat} {n : Nat} {xs : List ByteArray} (h : RdA w (some ⟨b, o, none⟩) 1 n (strs xs)) (k : Nat) {w' : World} (hg : Grew w w') : ∀ j u, (strs (xs.drop k))[j]? = some u → w'.cell? ((⟨b, o + k, none⟩ : Addr).add j) = some u := by
  intro j u hu
  have h1 := cells_drop h k hg j u hu
  rw [← h1]
  congr 1
  by_cases hk : k = 0 <;> by_cases hj : j = 0 <;> simp [Addr.add, hk, hj]
theorem cells_take {w : World} {ad : Addr} {n : Nat} {xs : List ByteArray} (h : RdA w (some ad) 1 n (strs xs)) (k : Nat) {w' : World} (hg : Grew w w') : ∀ j u, (strs (xs.take k))[j]? = some u → w'.cell? (ad.add j) = some u := by
  intro j u hu
  refine rd_news h hg j u ?_
  have hl := (List.getElem?_eq_some_iff.1 hu).1
  simp [strs] at hl
  rw [← hu]
  simp [strs, hl]
theorem one_strs (xs : List ByteArray) : ∀ u ∈ strs xs, u.oneCell' = true := by
  intro u hu; simp at hu; obtain ⟨x, _, rfl⟩ := hu; rfl
set_option maxRecDepth 100000 in
set_option maxHeartbeats 1000000 in
theorem l04Put (va : Value) (xs : List ByteArray) (s : ByteArray) (w : World) (ha : RdS w va xs) (hx : xs.length ≤ 4000000) :
    Calls Tryz.prog 125 #[va, .string s] w fun e w' => ∃ v, e = .returned v ∧ RdS w' v (putB xs s) ∧ Grew w w' := by
  have HA := Lib.hid ha
  obtain ⟨ad, c, rfl, hc, hr⟩ := ha
  have HR := Lib.hid hr
  generalize hn : xs.length = n at hc hr hx
  have HN := Lib.hid hn
  clear hn
  obtain ⟨i0, hi, hz0, hz1, hz2⟩ := info_parts Tryz.infoString
  go_enter Tryz.func125, Tryz.ntmps125
  go_wp2
  go_loop [5] (fun i => ∃ k : Nat, k ≤ n ∧ i = .int .i64 k ∧ Hid (∀ (j : Nat) y, j < k → (xs.map dl)[j]? = some y → y < dl s)) (fun i => n - (intOf i).toNat)
  case atStart => exact ⟨0, Nat.zero_le _, rfl, Lib.hid (fun j y h => absurd h (Nat.not_lt_zero j))⟩
  case round =>
    obtain ⟨k, hk, rfl, hall⟩ := hrel
    have HPA := Lib.hid (putL_at (xs.map dl) k (dl s) hall.out)
    by_cases hlt : k < n
    · obtain ⟨b, o, y, hab, hyk, e1⟩ := hr.one hlt
      cases hab
      obtain ⟨v, hv⟩ : ∃ v, Op.bytesLess y.toList s.toList = v := ⟨_, rfl⟩
      obtain ⟨u, hu⟩ : ∃ u, (y.toList == s.toList) = u := ⟨_, rfl⟩
      have HV := Lib.hid ((less_iff y s v).1 hv)
      have HU := Lib.hid ((same_iff y s u).1 hu)
      have HY := Lib.hid (show (xs.map dl)[k]? = some (dl y) by rw [List.getElem?_map, hyk.out]; rfl)
      have hcs : v = true ∨ v = false := by cases v <;> simp
      have hcu : u = true ∨ u = false := by cases u <;> simp
      rcases hcs with rfl | rfl
      · go_wp2
        exact ⟨⟨k + 1, by omega, by go_num, Lib.hid (fun j z hj hz => by
          rcases Nat.lt_succ_iff_lt_or_eq.1 hj with h | rfl
          · exact hall.out j z h hz
          · obtain rfl := Option.some.inj (HY.out.symm.trans hz)
            simpa using HV.out)⟩, by simp [intOf]; omega⟩
      · rcases hcu with rfl | rfl
        · go_wp2
          go_ret
          refine ⟨.slice (some ⟨b, o, none⟩) n c, rfl, ?_, Grew.refl _⟩
          rw [putB_same (HPA.out.2.1 _ HY.out (by simpa using HV.out) (by simpa using HU.out))]
          rw [← HN.out]; exact HA.out
        · have HE := Lib.hid (putB_app (HPA.out.2.2 _ HY.out (by simpa using HV.out) (by simpa using HU.out)))
          have hkn : k ≤ n := hk
          clear HPA HY HV HU hyk
          have g0 := (Grew.refl w).alloc (.cells #[] 9)
          have kc : k ≤ c := by omega
          have htk : (xs.take k).length = k := by rw [List.length_take, HN.out]; omega
          have hdk : (xs.drop k).length = n - k := by rw [List.length_drop, HN.out]
          go_wp2_with (at_builtin; refine wpList_append_own _ rfl _ _ 100 rfl w.heap.size 9 i0 (.string ⟨#[]⟩) 1 16 Tryz.underlying100 hi hz0 hz1 hz2 rfl (by decide) _ 0 [] rfl (lit_own w 9 1) _ k _ (strs (xs.take k)) rfl (by rw [List.length_map, htk, Nat.mul_one]) (cells_take HR.out k g0) (one_strs _) (by unfold maxLen; omega) (by omega) (by simp) ?_)
          intro v1 w1 hown1 hgr1 _
          have g1 : Grew w w1 := g0.grown hgr1 (fun j h => by cases h; exact Nat.le_refl _)
          have HO1 := Lib.hid (show w1.ownsRow w.heap.size 9 1 v1 k (strs (xs.take k)) by simpa using hown1)
          obtain ⟨a1, c1, rfl⟩ := own_slice (HO1.out)
          clear hown1 hgr1
          go_wp2_with (at_builtin; refine wpList_append_own _ rfl _ _ 100 rfl w.heap.size 9 i0 (.string ⟨#[]⟩) 1 16 Tryz.underlying100 hi hz0 hz1 hz2 rfl (by decide) _ _ _ rfl (HO1.out.alloc _) ⟨_, 0, none⟩ 1 1 [.string s] rfl rfl (cell_one_new _ _ _) (fun x hx => by simp at hx; subst hx; rfl) (by unfold maxLen; omega) (by omega) (by have := g1.size; simp; omega) ?_)
          intro v2 w2 hown2 hgr2 hnil2
          have g2 : Grew w w2 := (g1.alloc _).grown hgr2 (fun j h => (HO1.out.lt j h).1)
          have HO2 := Lib.hid hown2
          have hne2 : v2 ≠ .slice none 0 0 := fun h => by first | exact hnil2 h | exact absurd (hnil2.1 h).2 (by omega)
          obtain ⟨a2, c2, rfl⟩ := own_slice (HO2.out)
          clear hown2 hgr2 hnil2
          go_wp2_with (at_builtin; refine wpList_append_own _ rfl _ _ 100 rfl w.heap.size 9 i0 (.string ⟨#[]⟩) 1 16 Tryz.underlying100 hi hz0 hz1 hz2 rfl (by decide) _ _ _ rfl HO2.out _ (n - k) (c - k) (strs (xs.drop k)) rfl (by rw [List.length_map, hdk, Nat.mul_one]) (cells_drop2 HR.out k g2) (one_strs _) (by unfold maxLen; omega) (by omega) (by have := g2.size; omega) ?_)
          intro v3 w3 hown3 hgr3 hnil3
          have g3 : Grew w w3 := g2.grown hgr3 (fun j h => (HO2.out.lt j h).1)
          have hne3 : v3 ≠ .slice none 0 0 := fun h => by first | exact hnil3 h | exact hne2 (hnil3.1 h).1
          have HO3 := Lib.hid hown3
          obtain ⟨a3, c3, rfl⟩ := own_slice (HO3.out)
          clear hown3 hgr3 hnil3
          go_wp2
          go_ret
          refine ⟨_, rfl, ?_, g3⟩
          exact rds_of_own2 HO3.out (by rw [HE.out]; simp [strs]) hne3
    · obtain rfl : k = n := by omega
      have hkn : k ≤ k := Nat.le_refl k
      have HE := Lib.hid (putB_app (HPA.out.1 (by rw [List.getElem?_eq_none]; simp [HN.out]) (by simp [HN.out])))
      clear HPA
      by_cases hck : c = k
      · have hck2 := hck.symm
        subst hck2
        have g0 := (Grew.refl w).alloc (.cells #[] 9)
        have kc : k ≤ k := by omega
        have htk : (xs.take k).length = k := by rw [List.length_take, HN.out]; omega
        have hdk : (xs.drop k).length = k - k := by rw [List.length_drop, HN.out]
        go_wp2_with (at_builtin; refine wpList_append_own _ rfl _ _ 100 rfl w.heap.size 9 i0 (.string ⟨#[]⟩) 1 16 Tryz.underlying100 hi hz0 hz1 hz2 rfl (by decide) _ 0 [] rfl (lit_own w 9 1) _ k _ (strs (xs.take k)) rfl (by rw [List.length_map, htk, Nat.mul_one]) (cells_take HR.out k g0) (one_strs _) (by unfold maxLen; omega) (by omega) (by simp) ?_)
        intro v1 w1 hown1 hgr1 _
        have g1 : Grew w w1 := g0.grown hgr1 (fun j h => by cases h; exact Nat.le_refl _)
        have HO1 := Lib.hid (show w1.ownsRow w.heap.size 9 1 v1 k (strs (xs.take k)) by simpa using hown1)
        obtain ⟨a1, c1, rfl⟩ := own_slice (HO1.out)
        clear hown1 hgr1
        go_wp2_with (at_builtin; refine wpList_append_own _ rfl _ _ 100 rfl w.heap.size 9 i0 (.string ⟨#[]⟩) 1 16 Tryz.underlying100 hi hz0 hz1 hz2 rfl (by decide) _ _ _ rfl (HO1.out.alloc _) ⟨_, 0, none⟩ 1 1 [.string s] rfl rfl (cell_one_new _ _ _) (fun x hx => by simp at hx; subst hx; rfl) (by unfold maxLen; omega) (by omega) (by have := g1.size; simp; omega) ?_)
        intro v2 w2 hown2 hgr2 hnil2
        have g2 : Grew w w2 := (g1.alloc _).grown hgr2 (fun j h => (HO1.out.lt j h).1)
        have HO2 := Lib.hid hown2
        have hne2 : v2 ≠ .slice none 0 0 := fun h => by first | exact hnil2 h | exact absurd (hnil2.1 h).2 (by omega)
        obtain ⟨a2, c2, rfl⟩ := own_slice (HO2.out)
        clear hown2 hgr2 hnil2
        go_wp2_with (at_builtin; refine wpList_append_own _ rfl _ _ 100 rfl w.heap.size 9 i0 (.string ⟨#[]⟩) 1 16 Tryz.underlying100 hi hz0 hz1 hz2 rfl (by decide) _ _ _ rfl HO2.out _ _ _ [] rfl (by simp) (fun j u hu => by simp at hu) (fun u hu => by simp at hu) (by unfold maxLen; omega) (by omega) (by have := g2.size; omega) ?_)
        intro v3 w3 hown3 hgr3 hnil3
        have g3 : Grew w w3 := g2.grown hgr3 (fun j h => (HO2.out.lt j h).1)
        have hne3 : v3 ≠ .slice none 0 0 := fun h => by first | exact hnil3 h | exact hne2 (hnil3.1 h).1
        have HO3 := Lib.hid hown3
        obtain ⟨a3, c3, rfl⟩ := own_slice (HO3.out)
        clear hown3 hgr3 hnil3
        go_wp2
        go_ret
        refine ⟨_, rfl, ?_, g3⟩
        exact rds_of_own2 HO3.out (by rw [HE.out, List.drop_eq_nil_of_le (by rw [HN.out]; omega)]; simp [strs]) hne3
      · have hck2 : k < c := by omega
        have g0 := (Grew.refl w).alloc (.cells #[] 9)
        have kc : k ≤ c := by omega
        have htk : (xs.take k).length = k := by rw [List.length_take, HN.out]; omega
        have hdk : (xs.drop k).length = k - k := by rw [List.length_drop, HN.out]
        go_wp2_with (at_builtin; refine wpList_append_own _ rfl _ _ 100 rfl w.heap.size 9 i0 (.string ⟨#[]⟩) 1 16 Tryz.underlying100 hi hz0 hz1 hz2 rfl (by decide) _ 0 [] rfl (lit_own w 9 1) _ k _ (strs (xs.take k)) rfl (by rw [List.length_map, htk, Nat.mul_one]) (cells_take HR.out k g0) (one_strs _) (by unfold maxLen; omega) (by omega) (by simp) ?_)
        intro v1 w1 hown1 hgr1 _
        have g1 : Grew w w1 := g0.grown hgr1 (fun j h => by cases h; exact Nat.le_refl _)
        have HO1 := Lib.hid (show w1.ownsRow w.heap.size 9 1 v1 k (strs (xs.take k)) by simpa using hown1)
        obtain ⟨a1, c1, rfl⟩ := own_slice (HO1.out)
        clear hown1 hgr1
        go_wp2_with (at_builtin; refine wpList_append_own _ rfl _ _ 100 rfl w.heap.size 9 i0 (.string ⟨#[]⟩) 1 16 Tryz.underlying100 hi hz0 hz1 hz2 rfl (by decide) _ _ _ rfl (HO1.out.alloc _) ⟨_, 0, none⟩ 1 1 [.string s] rfl rfl (cell_one_new _ _ _) (fun x hx => by simp at hx; subst hx; rfl) (by unfold maxLen; omega) (by omega) (by have := g1.size; simp; omega) ?_)
        intro v2 w2 hown2 hgr2 hnil2
        have g2 : Grew w w2 := (g1.alloc _).grown hgr2 (fun j h => (HO1.out.lt j h).1)
        have HO2 := Lib.hid hown2
        have hne2 : v2 ≠ .slice none 0 0 := fun h => by first | exact hnil2 h | exact absurd (hnil2.1 h).2 (by omega)
        obtain ⟨a2, c2, rfl⟩ := own_slice (HO2.out)
        clear hown2 hgr2 hnil2
        go_wp2_with (at_builtin; refine wpList_append_own _ rfl _ _ 100 rfl w.heap.size 9 i0 (.string ⟨#[]⟩) 1 16 Tryz.underlying100 hi hz0 hz1 hz2 rfl (by decide) _ _ _ rfl HO2.out _ _ _ [] rfl (by simp) (fun j u hu => by simp at hu) (fun u hu => by simp at hu) (by unfold maxLen; omega) (by omega) (by have := g2.size; omega) ?_)
        intro v3 w3 hown3 hgr3 hnil3
        have g3 : Grew w w3 := g2.grown hgr3 (fun j h => (HO2.out.lt j h).1)
        have hne3 : v3 ≠ .slice none 0 0 := fun h => by first | exact hnil3 h | exact hne2 (hnil3.1 h).1
        have HO3 := Lib.hid hown3
        obtain ⟨a3, c3, rfl⟩ := own_slice (HO3.out)
        clear hown3 hgr3 hnil3
        go_wp2
        go_ret
        refine ⟨_, rfl, ?_, g3⟩
        exact rds_of_own2 HO3.out (by rw [HE.out, List.drop_eq_nil_of_le (by rw [HN.out]; omega)]; simp [strs]) hne3
end Go.Proofs.YtemikjbfjhebnaaGreat
namespace Go.Proofs.YtemikjbfjhebnaaGreat
open Go.RowKit
set_option linter.unusedVariables false
def hasB (xs : List ByteArray) (s : ByteArray) : Bool := xs.any fun y => y.toList == s.toList
theorem hasB_no {xs : List ByteArray} {s y : ByteArray} {k : Nat} (h : hasB (xs.take k) s = false) (hy : xs[k]? = some y) (hn : (y.toList == s.toList) = false) : hasB (xs.take (k + 1)) s = false := by
  rw [take_snoc hy]; unfold hasB at h ⊢; rw [List.any_append, h]; simp [hn]
theorem hasB_yes {xs : List ByteArray} {s y : ByteArray} {k : Nat} (hy : xs[k]? = some y) (hn : (y.toList == s.toList) = true) : hasB xs s = true := by
  unfold hasB; rw [List.any_eq_true]; exact ⟨y, List.mem_of_getElem? hy, hn⟩
def idxS (xs : List ByteArray) (s : ByteArray) (i : Int) : Prop := (i = -1 ∧ hasB xs s = false) ∨ (0 ≤ i ∧ hasB xs s = true)
theorem beq_swap (a b : List UInt8) : (a == b) = (b == a) := by
  by_cases h : a = b
  · subst h; rfl
  · rw [beq_eq_false_iff_ne.2 h, beq_eq_false_iff_ne.2 (fun e => h e.symm)]
set_option maxRecDepth 100000 in
set_option maxHeartbeats 400000 in
theorem slIndexStr (va : Value) (n : Nat) (xs : List ByteArray) (s : ByteArray) (w : World) (ha : Rd w va 1 n (strs xs)) (hx : n ≤ 4000000) :
    Calls Tryz.prog 110 #[va, .string s] w fun e w' => ∃ i : Int, e = .returned (.int .i64 i) ∧ idxS xs s i ∧ w = w' := by
  obtain ⟨a, ca, rfl, hca, hra⟩ := ha
  have HX := Lib.hid hra.len_map
  go_enter Tryz.func110, Tryz.ntmps110
  go_wp2
  go_loop [5, 8] (fun _ i => ∃ k : Nat, k ≤ n ∧ i = .int .i64 k ∧ Hid (hasB (xs.take k) s = false)) (fun _ i => n - (intOf i).toNat)
  case atStart => exact ⟨0, Nat.zero_le _, rfl, Lib.hid (by simp [hasB])⟩
  case round =>
    obtain ⟨k, hk, rfl, hsame⟩ := hrel
    by_cases hlt : k < n
    · obtain ⟨b1, o1, y, rfl, hxk, e1⟩ := hra.one hlt
      have hcs : (y.toList == s.toList) = true ∨ (y.toList == s.toList) = false := by cases y.toList == s.toList <;> simp
      rcases hcs with hn | hn
      · have hn2 : (s.toList == y.toList) = true := by rw [beq_swap]; exact hn
        go_wp2
        go_ret
        exact ⟨_, rfl, .inr ⟨by omega, hasB_yes hxk.out hn⟩, rfl⟩
      · have hn2 : (s.toList == y.toList) = false := by rw [beq_swap]; exact hn
        go_wp2
        go_round
        case rel => exact ⟨k + 1, by omega, by go_num, Lib.hid (hasB_no hsame.out hxk.out hn)⟩
        case measure => simp [intOf]; omega
    · go_wp2
      go_ret
      obtain rfl : k = n := by omega
      exact ⟨_, rfl, .inl ⟨rfl, by have := hsame.out; rw [take_all HX.out] at this; exact this⟩, rfl⟩
set_option maxRecDepth 100000 in
set_option maxHeartbeats 400000 in
theorem slContainsStr (va : Value) (n : Nat) (xs : List ByteArray) (s : ByteArray) (w : World) (ha : Rd w va 1 n (strs xs)) (hx : n ≤ 4000000) :
    Calls Tryz.prog 89 #[va, .string s] w fun e w' => e = .returned (.bool (hasB xs s)) ∧ w = w' := by
  go_enter Tryz.func89, Tryz.ntmps89
  go_wp2_with (go_at_call 110; refine (slIndexStr va n xs s _ ha hx).mono ?_; rintro e w' ⟨i, rfl, hi, rfl⟩)
  go_ret
  refine ⟨ret_bool ?_, rfl⟩
  rcases hi with ⟨rfl, h⟩ | ⟨h0, h⟩
  · simp [h]
  · simp [h, h0]
end Go.Proofs.YtemikjbfjhebnaaGreat
namespace Go.Proofs.YtemikjbfjhebnaaGreat
open Go.RowKit
set_option linter.unusedVariables false
noncomputable def nodI (n : N) (at_ m : Int) : Bool :=
  if n.op == 1 then eqN n ⟨n.op, 0, 0, ⟨#[]⟩, V.z⟩
  else if n.op == 2 then eqN n ⟨n.op, 0, 0, n.name, V.z⟩ && txtB n.name 1
  else if n.op == 3 || n.op == 4 then eqN n ⟨n.op, 0, 0, n.name, n.val⟩ && (txtB n.name 1 && (valB n.val && (!(n.val.kind == 0) && (n.op == 3 || n.val.kind == 1))))
  else if n.op == 5 then eqN n ⟨n.op, n.left, 0, ⟨#[]⟩, V.z⟩ && (decide (0 < at_) && inB n.left 0 m)
  else if n.op == 6 || n.op == 7 then eqN n ⟨n.op, n.left, n.right, ⟨#[]⟩, V.z⟩ && (decide (0 < at_) && (inB n.left 0 m && inB n.right 0 m))
  else if n.op == 8 || n.op == 9 then eqN n ⟨n.op, 0, 0, n.name, V.z⟩ && txtB n.name 6
  else false
theorem nodI_eq (n : N) (at_ m : Int) : nodB n at_ m = nodI n at_ m := by
  obtain ⟨op, l, r, nm, v⟩ := n
  unfold nodB nodI
  have e1 : (ByteArray.mk #[]).toList = [] := by decide +kernel
  have ev : eqV v v = true := by simp [eqV]
  have hk : ∀ k : Int, k = 1 → k ≠ 0 := fun k h => by omega
  by_cases h1 : op = 1
  · subst h1; simp
  by_cases h2 : op = 2
  · subst h2; simp [Bool.and_comm]
  by_cases h3 : op = 3
  · subst h3; simp only [eqN, ev]; rw [Bool.eq_iff_iff]; simp; constructor <;> (intro h; simp_all)
  by_cases h4 : op = 4
  · subst h4; simp only [eqN, ev]; rw [Bool.eq_iff_iff]; simp; constructor <;> (intro h; simp_all)
  by_cases h5 : op = 5
  · subst h5; simp only [eqN]; rw [Bool.eq_iff_iff]; simp [e1]; constructor <;> (intro h; simp_all)
  by_cases h6 : op = 6
  · subst h6; simp only [eqN]; rw [Bool.eq_iff_iff]; simp [e1]; constructor <;> (intro h; simp_all)
  by_cases h7 : op = 7
  · subst h7; simp only [eqN]; rw [Bool.eq_iff_iff]; simp [e1]; constructor <;> (intro h; simp_all)
  by_cases h8 : op = 8
  · subst h8; simp [Bool.and_comm]
  by_cases h9 : op = 9
  · subst h9; simp [Bool.and_comm]
  · simp [h1, h2, h3, h4, h5, h6, h7, h8, h9]
set_option maxRecDepth 100000 in
set_option maxHeartbeats 4000000 in
theorem implIsValidNode (n : N) (at_ : Int) (w : World) (hs : n.name.size ≤ 4000000) (hv : n.val.str.size ≤ 4000000) :
    Calls Tryz.prog 126 #[n.v, .int .i64 at_] w fun e w' => e = .returned (.bool (nodB n at_ (wrap64 (at_ - 1)))) ∧ Grew w w' := by
  obtain ⟨op, l, r, nm, v⟩ := n
  simp only at hs hv
  have h1 := fun o w => runEqN ⟨o, l, r, nm, v⟩ ⟨o, 0, 0, ⟨#[]⟩, V.z⟩ w
  have h2 := fun o w => runEqN ⟨o, l, r, nm, v⟩ ⟨o, 0, 0, nm, V.z⟩ w
  have h3 := fun o w => runEqN ⟨o, l, r, nm, v⟩ ⟨o, 0, 0, nm, v⟩ w
  have h4 := fun o w => runEqN ⟨o, l, r, nm, v⟩ ⟨o, l, 0, ⟨#[]⟩, V.z⟩ w
  have h5 := fun o w => runEqN ⟨o, l, r, nm, v⟩ ⟨o, l, r, ⟨#[]⟩, V.z⟩ w
  simp only [V.z] at h1 h2 h3 h4 h5
  have hop : (op = 1 ∨ op = 2 ∨ op = 5 ∨ op = 8 ∨ op = 9 ∨ ((op == 1) = false ∧ (op == 2) = false ∧ (op == 3) = false ∧ (op == 4) = false ∧ (op == 5) = false ∧ (op == 6) = false ∧ (op == 7) = false ∧ (op == 8) = false ∧ (op == 9) = false)) ∨ (op = 3 ∨ op = 4 ∨ op = 6 ∨ op = 7) := by
    simp only [beq_eq_false_iff_ne]; omega
  rcases hop with hop | hop
  · rcases hop with rfl | rfl | rfl | rfl | rfl | ⟨p1, p2, p3, p4, p5, p6, p7, p8, p9⟩
    all_goals
      go_enter Tryz.func126, Tryz.ntmps126
      go_wp2_with (first | (go_at_call 65; refine (within _ _ _ _).mono ?_; rintro e w' ⟨rfl, rfl⟩) | (go_at_call 118; refine (implIsValidString _ _ hs).mono ?_; rintro e w' ⟨rfl, rfl⟩) | (go_at_call 87; refine (implIsValidAttrName _ _ hs).mono ?_; rintro e w' ⟨rfl, rfl⟩) | (go_at_call 104; refine (implIsValidValue _ _ hv).mono ?_; rintro e w1 ⟨rfl, hb⟩; obtain ⟨hc, hf⟩ := hb.cells))
      all_goals go_ret
      all_goals refine ⟨ret_bool ?_, ?_⟩
      all_goals first
        | (rw [nodI_eq]; go_light; clear h1 h2 h3 h4 h5; (try clear hc hf hb); simp [nodI, V.z, *]; done)
        | (have hn : ¬ (0 < at_) := by omega
           rw [nodI_eq]; go_light; clear h1 h2 h3 h4 h5; simp [nodI, V.z, hn]; done)
        | (repeat' (first | with_reducible exact Grew.refl _ | with_reducible apply Grew.alloc | with_reducible apply Grew.drew | with_reducible refine Grew.trans ?_ (by assumption)))
  · rcases hop with rfl | rfl | rfl | rfl
    all_goals
      go_enter Tryz.func126, Tryz.ntmps126
      go_wp2
      go_region
      all_goals go_wp2_with (first | (go_at_call 65; refine (within _ _ _ _).mono ?_; rintro e w' ⟨rfl, rfl⟩) | (go_at_call 118; refine (implIsValidString _ _ hs).mono ?_; rintro e w' ⟨rfl, rfl⟩) | (go_at_call 87; refine (implIsValidAttrName _ _ hs).mono ?_; rintro e w' ⟨rfl, rfl⟩) | (go_at_call 104; refine (implIsValidValue _ _ hv).mono ?_; rintro e w1 ⟨rfl, hb⟩; obtain ⟨hc, hf⟩ := hb.cells))
      all_goals go_ret
      all_goals refine ⟨ret_bool ?_, ?_⟩
      all_goals first
        | (rw [nodI_eq]; go_light; clear h1 h2 h3 h4 h5; (try clear hc hf hb); simp [nodI, V.z, *]; done)
        | (rw [nodI_eq]; go_light; clear h1 h2 h3 h4 h5; (try clear hc hf hb); simp [nodI, V.z, bne, *]; done)
        | (have hn : ¬ (0 < at_) := by omega
           rw [nodI_eq]; go_light; clear h1 h2 h3 h4 h5; simp [nodI, V.z, hn]; done)
        | (repeat' (first | with_reducible exact Grew.refl _ | with_reducible apply Grew.alloc | with_reducible apply Grew.drew | with_reducible refine Grew.trans ?_ (by assumption)))
end Go.Proofs.YtemikjbfjhebnaaGreat
namespace Go.Proofs.YtemikjbfjhebnaaGreat
open Go.RowKit
set_option linter.unusedVariables false
def ref1 (n : N) (at_ : Int) : Int := (if (n.op == 6 || (n.op == 7 || n.op == 5)) && n.left == at_ then 1 else 0) + (if (n.op == 6 || n.op == 7) && n.right == at_ then 1 else 0)
def refs (q : List N) (at_ : Int) : Int := (q.map (ref1 · at_)).sum
theorem refs_snoc (q : List N) (n : N) (at_ : Int) : refs (q ++ [n]) at_ = refs q at_ + ref1 n at_ := by simp [refs]
theorem ref1_b (n : N) (at_ : Int) : 0 ≤ ref1 n at_ ∧ ref1 n at_ ≤ 2 := by unfold ref1; split <;> split <;> omega
theorem ref1_cases (n : N) (at_ : Int) : (n.op = 5 ∨ n.op = 6 ∨ n.op = 7 ∨ ((n.op == 5) = false ∧ (n.op == 6) = false ∧ (n.op == 7) = false)) ∧ ((n.left == at_) = true ∨ (n.left == at_) = false) ∧ ((n.right == at_) = true ∨ (n.right == at_) = false) := by
  refine ⟨?_, ?_, ?_⟩
  · simp only [beq_eq_false_iff_ne]; omega
  · cases n.left == at_ <;> simp
  · cases n.right == at_ <;> simp
set_option maxRecDepth 100000 in
set_option maxHeartbeats 4000000 in
theorem specCountReferences (va : Value) (n : Nat) (xs : List N) (at_ : Int) (w : World) (ha : Rd w va 7 n (rows N.c xs)) (hx : n ≤ 4000000) :
    Calls Tryz.prog 116 #[va, .int .i64 at_] w fun e w' => e = .returned (.int .i64 (refs xs at_)) ∧ Grew w w' := by
  obtain ⟨a, ca, rfl, hca, hra⟩ := ha
  have HX := Lib.hid (hra.len_rows N.len (by decide))
  go_enter Tryz.func116, Tryz.ntmps116
  go_wp2
  go_loopw [5, 6, 7] (fun c i _ wr => ∃ (k : Nat) (r : Int), k ≤ n ∧ i = .int .i64 k ∧ c = .int .i64 r ∧ 0 ≤ r ∧ r ≤ 2 * k ∧ Hid (r = refs (xs.take k) at_) ∧ Grew w wr) (fun _ i _ _ => n - (intOf i).toNat)
  case atStart => exact ⟨0, 0, Nat.zero_le _, rfl, rfl, by omega, by omega, Lib.hid (by simp [refs]), Grew.refl _⟩
  case round =>
    obtain ⟨k, r, hk, rfl, rfl, h0, h1, hr, hbel⟩ := hrel
    by_cases hlt : k < n
    · obtain ⟨b1, o1, x, rfl, hxk, c0, c1, c2, c3, c4, c5, c6⟩ := (hra.grew hbel).getN hlt
      have hstep : ∀ d, ref1 x at_ = d → r + d = refs (xs.take (k + 1)) at_ := fun d h => by rw [take_snoc hxk.out, refs_snoc, ← hr.out, h]
      have HS := Lib.hid hstep
      clear hstep
      obtain ⟨op, l, rr, nm, v⟩ := x
      have hcs := ref1_cases ⟨op, l, rr, nm, v⟩ at_
      simp only at hcs
      obtain ⟨hop, hl, hr2⟩ := hcs
      rcases hop with rfl | rfl | rfl | ⟨p5, p6, p7⟩ <;> rcases hl with hl | hl <;> rcases hr2 with hr2 | hr2
      all_goals
        go_wp2
        go_roundw
        case rel =>
          have hd := HS.out _ rfl
          clear HS
          go_light
          simp [ref1, *] at hd
          exact ⟨k + 1, _, by omega, by go_num, rfl, by omega, by omega, Lib.hid (by omega), hbel⟩
        case measure => simp [intOf]; omega
    · go_wp2
      go_ret
      obtain rfl : k = n := by omega
      exact ⟨ret_int (by rw [hr.out, take_all HX.out]), hbel⟩
set_option maxRecDepth 100000 in
set_option maxHeartbeats 4000000 in
theorem implCountReferences (va : Value) (n : Nat) (xs : List N) (at_ : Int) (w : World) (ha : Rd w va 7 n (rows N.c xs)) (hx : n ≤ 4000000) :
    Calls Tryz.prog 127 #[va, .int .i64 at_] w fun e w' => e = .returned (.int .i64 (refs xs at_)) ∧ Grew w w' := by
  obtain ⟨a, ca, rfl, hca, hra⟩ := ha
  have HX := Lib.hid (hra.len_rows N.len (by decide))
  go_enter Tryz.func127, Tryz.ntmps127
  go_wp2
  go_loopw [5, 8, 11] (fun c _ i wr => ∃ (k : Nat) (r : Int), k ≤ n ∧ i = .int .i64 k ∧ c = .int .i64 r ∧ 0 ≤ r ∧ r ≤ 2 * k ∧ Hid (r = refs (xs.take k) at_) ∧ Grew w wr) (fun _ _ i _ => n - (intOf i).toNat)
  case atStart => exact ⟨0, 0, Nat.zero_le _, rfl, rfl, by omega, by omega, Lib.hid (by simp [refs]), Grew.refl _⟩
  case round =>
    obtain ⟨k, r, hk, rfl, rfl, h0, h1, hr, hbel⟩ := hrel
    by_cases hlt : k < n
    · obtain ⟨b1, o1, x, rfl, hxk, c0, c1, c2, c3, c4, c5, c6⟩ := (hra.grew hbel).getN hlt
      have hstep : ∀ d, ref1 x at_ = d → r + d = refs (xs.take (k + 1)) at_ := fun d h => by rw [take_snoc hxk.out, refs_snoc, ← hr.out, h]
      have HS := Lib.hid hstep
      clear hstep
      obtain ⟨op, l, rr, nm, v⟩ := x
      have hcs := ref1_cases ⟨op, l, rr, nm, v⟩ at_
      simp only at hcs
      obtain ⟨hop, hl, hr2⟩ := hcs
      rcases hop with rfl | rfl | rfl | ⟨p5, p6, p7⟩ <;> rcases hl with hl | hl <;> rcases hr2 with hr2 | hr2
      all_goals
        go_wp2
        go_roundw
        case rel =>
          have hd := HS.out _ rfl
          clear HS
          go_light
          simp [ref1, *] at hd
          exact ⟨k + 1, _, by omega, by go_num, rfl, by omega, by omega, Lib.hid (by omega), hbel.alloc _⟩
        case measure => simp [intOf]; omega
    · go_wp2
      go_ret
      obtain rfl : k = n := by omega
      exact ⟨ret_int (by rw [hr.out, take_all HX.out]), hbel⟩
end Go.Proofs.YtemikjbfjhebnaaGreat
namespace Go.Proofs.YtemikjbfjhebnaaGreat
open Go.RowKit Go.Sort
set_option linter.unusedVariables false
theorem so_snoc (xs : List ByteArray) (s : ByteArray) : so (xs ++ [s]) = putB (so xs) s := by
  unfold so putB putAll
  rw [List.map_append, List.foldl_append, List.map_map]
  simp [Function.comp_def]
theorem so_len (xs : List ByteArray) : (so xs).length ≤ xs.length := by
  unfold so
  rw [List.length_map, ← sort_put]
  have := Lib.compact_length_le ((xs.map dl).mergeSort fun x y => decide (x ≤ y))
  rw [List.length_mergeSort, List.length_map] at this
  exact this
end Go.Proofs.YtemikjbfjhebnaaGreat
namespace Go.Proofs.YtemikjbfjhebnaaGreat
open Go.RowKit Go.Sort
set_option linter.unusedVariables false
def qDirsN (xs : List N) : List ByteArray := (xs.filter fun x => inB x.op 8 9).map N.name
def qDirs (xs : List N) : List ByteArray := so (qDirsN xs)
set_option maxRecDepth 100000 in
set_option maxHeartbeats 400000 in
theorem namesDir (x : N) (w : World) :
    Calls Tryz.prog 131 #[x.v] w fun e w' => e = .returned (.bool (inB x.op 8 9)) ∧ Grew w w' := by
  obtain ⟨op, l, r, nm, v⟩ := x
  have hop : op = 8 ∨ op = 9 ∨ (¬ op = 8 ∧ ¬ op = 9) := by omega
  rcases hop with rfl | rfl | ⟨h8, h9⟩
  · go_enter Tryz.func131, Tryz.ntmps131
    go_wp2
    go_ret
    exact ⟨rfl, (Grew.refl _).alloc _⟩
  · go_enter Tryz.func131, Tryz.ntmps131
    go_wp2
    go_ret
    exact ⟨rfl, (Grew.refl _).alloc _⟩
  · have HV := Lib.hid (show inB op 8 9 = false by unfold inB; simp; omega)
    have e8 : (op == 8) = false := by simp [h8]
    have e9 : (op == 9) = false := by simp [h9]
    clear h8 h9
    go_enter Tryz.func131, Tryz.ntmps131
    go_wp2
    go_ret
    exact ⟨ret_bool HV.out.symm, (Grew.refl _).alloc _⟩
end Go.Proofs.YtemikjbfjhebnaaGreat
namespace Go.Proofs.YtemikjbfjhebnaaGreat
open Go.RowKit
set_option linter.unusedVariables false
end Go.Proofs.YtemikjbfjhebnaaGreat
namespace Go.Proofs.YtemikjbfjhebnaaGreat
open Go.RowKit Go.Sort
set_option linter.unusedVariables false
theorem beqB {a b : ByteArray} : (a.toList == b.toList) = true ↔ a = b := by
  rw [ByteArray.toList_eq, ByteArray.toList_eq]
  constructor
  · intro h
    have h1 : dl a = dl b := by simpa using h
    have h2 : mkb (dl a) = mkb (dl b) := by rw [h1]
    simpa only [mkb_dl] using h2
  · rintro rfl; simp
theorem hasB_iff {xs : List ByteArray} {s : ByteArray} : hasB xs s = true ↔ s ∈ xs := by
  unfold hasB
  rw [List.any_eq_true]
  constructor
  · rintro ⟨y, hy, h⟩; rw [beqB.1 h] at hy; exact hy
  · intro h; exact ⟨s, h, beqB.2 rfl⟩
theorem hasB_not {xs : List ByteArray} {s : ByteArray} : hasB xs s = false ↔ ¬ s ∈ xs := by
  rw [← hasB_iff]; simp
theorem mem_so {l : List ByteArray} {y : ByteArray} : y ∈ so l ↔ y ∈ l := by
  unfold so putAll
  have h := foldPut (l.map dl) [] (List.Pairwise.nil)
  rw [List.mem_map]
  constructor
  · rintro ⟨z, hz, rfl⟩
    rcases (h.2 z).1 hz with hz | hz
    · cases hz
    · obtain ⟨b, hb, rfl⟩ := List.mem_map.1 hz
      exact hb
  · intro hy
    exact ⟨dl y, (h.2 _).2 (.inr (List.mem_map_of_mem hy)), rfl⟩
inductive Reach (xs : List Dr) (ns : List ByteArray) : ByteArray → Prop
  | base {s : ByteArray} : s ∈ ns → Reach xs ns s
  | step {s : ByteArray} {x : Dr} : Reach xs ns s → x ∈ xs → s ∈ qDirs x.query → Reach xs ns x.name
theorem filt_le {α : Type} {p q : α → Bool} : ∀ {xs : List α}, (∀ x, x ∈ xs → q x = true → p x = true) → (xs.filter q).length ≤ (xs.filter p).length
  | [], _ => by simp
  | y :: ys, h => by
    have ih := filt_le (xs := ys) (fun x hx => h x (List.mem_cons_of_mem _ hx))
    have h0 := h y (List.mem_cons_self ..)
    rw [List.filter_cons, List.filter_cons]
    cases hq : q y with
    | true => rw [h0 hq]; simpa using ih
    | false =>
      cases p y
      · simpa using ih
      · simp; omega
theorem filt_lt {α : Type} {p q : α → Bool} : ∀ {xs : List α}, (∀ x, x ∈ xs → q x = true → p x = true) → ∀ {x : α}, x ∈ xs → p x = true → q x = false → (xs.filter q).length < (xs.filter p).length
  | [], _, x, hx, _, _ => by cases hx
  | y :: ys, h, x, hx, hp, hn => by
    have hr : ∀ x, x ∈ ys → q x = true → p x = true := fun x hx => h x (List.mem_cons_of_mem _ hx)
    rw [List.filter_cons, List.filter_cons]
    rcases List.mem_cons.1 hx with rfl | hx
    · rw [hp, hn]
      have := filt_le hr
      simp; omega
    · have ih := filt_lt hr hx hp hn
      have h0 := h y (List.mem_cons_self ..)
      cases hq : q y with
      | true => rw [h0 hq]; simpa using ih
      | false =>
        cases p y
        · simpa using ih
        · simp; omega
def addN (L : List ByteArray) (s : ByteArray) : List ByteArray := if hasB L s then L else L ++ [s]
theorem addN_yes {L : List ByteArray} {s : ByteArray} (h : hasB L s = true) : addN L s = L := by unfold addN; rw [h]; rfl
theorem addN_no {L : List ByteArray} {s : ByteArray} (h : hasB L s = false) : addN L s = L ++ [s] := by unfold addN; rw [h]; rfl
theorem mem_addN {L : List ByteArray} {s y : ByteArray} : y ∈ addN L s ↔ y ∈ L ∨ y = s := by
  cases h : hasB L s with
  | true =>
    rw [addN_yes h]
    constructor
    · exact .inl
    · rintro (h1 | rfl)
      · exact h1
      · exact hasB_iff.1 h
  | false => rw [addN_no h]; simp
def cntN (xs : List Dr) (L : List ByteArray) : Nat := (xs.filter fun x => !hasB L x.name).length
theorem cnt_add {xs : List Dr} {L : List ByteArray} {x : Dr} (hx : x ∈ xs) : (addN L x.name).length + cntN xs (addN L x.name) ≤ L.length + cntN xs L := by
  cases h : hasB L x.name with
  | true => rw [addN_yes h]; exact Nat.le_refl _
  | false =>
    have h2 : cntN xs (addN L x.name) < cntN xs L := by
      unfold cntN
      refine filt_lt (fun y _ hy => ?_) hx (by simp [h]) (by simp [hasB_iff, mem_addN])
      have h3 : ¬ y.name ∈ addN L x.name := hasB_not.1 (by simpa using hy)
      rw [mem_addN] at h3
      have h4 : hasB L y.name = false := hasB_not.2 fun h => h3 (.inl h)
      rw [h4]; rfl
    rw [addN_no h]
    rw [addN_no h] at h2
    simp; omega
structure Good (xs : List Dr) (ns L : List ByteArray) : Prop where
  snd : ∀ y, y ∈ L → Reach xs ns y
  all : ∀ y, y ∈ ns → y ∈ L
  len : L.length + cntN xs L ≤ ns.length + xs.length
theorem Good.start (xs : List Dr) (ns : List ByteArray) : Good xs ns ns :=
  ⟨fun y h => .base h, fun y h => h, by have : cntN xs ns ≤ xs.length := List.length_filter_le _ _; omega⟩
theorem Good.le {xs : List Dr} {ns L : List ByteArray} (h : Good xs ns L) : L.length ≤ ns.length + xs.length := by have := h.len; omega
theorem Good.add {xs : List Dr} {ns L : List ByteArray} {s : ByteArray} {x : Dr} (h : Good xs ns L) (hx : x ∈ xs) (hs : s ∈ L) (hq : s ∈ qDirs x.query) : Good xs ns (addN L x.name) := by
  refine ⟨fun y hy => ?_, fun y hy => mem_addN.2 (.inl (h.all y hy)), Nat.le_trans (cnt_add hx) h.len⟩
  rcases mem_addN.1 hy with h1 | rfl
  · exact h.snd y h1
  · exact .step (h.snd s hs) hx hq
def turn1 (L : List ByteArray) (x : Dr) : List ByteArray := if (qDirs x.query).any (hasB L) then addN L x.name else L
def pass (xs : List Dr) (L : List ByteArray) : List ByteArray := xs.foldl turn1 L
def passes (xs : List Dr) (ns : List ByteArray) : Nat → List ByteArray
  | 0 => ns
  | r + 1 => pass xs (passes xs ns r)
theorem any_iff {l L : List ByteArray} : l.any (hasB L) = true ↔ ∃ s, s ∈ l ∧ s ∈ L := by
  rw [List.any_eq_true]
  exact ⟨fun ⟨s, h, k⟩ => ⟨s, h, hasB_iff.1 k⟩, fun ⟨s, h, k⟩ => ⟨s, h, hasB_iff.2 k⟩⟩
theorem Good.turn {xs : List Dr} {ns L : List ByteArray} {x : Dr} (h : Good xs ns L) (hx : x ∈ xs) : Good xs ns (turn1 L x) := by
  unfold turn1; split
  · rename_i ha
    obtain ⟨s, hs, hl⟩ := any_iff.1 ha
    exact h.add hx hl hs
  · exact h
theorem Good.fold {xs : List Dr} {ns : List ByteArray} : ∀ (ys : List Dr) {L : List ByteArray}, Good xs ns L → (∀ y, y ∈ ys → y ∈ xs) → Good xs ns (ys.foldl turn1 L)
  | [], L, h, _ => h
  | y :: ys, L, h, hs => Good.fold ys (h.turn (hs y (List.mem_cons_self ..))) (fun z hz => hs z (List.mem_cons_of_mem _ hz))
theorem Good.passes {xs : List Dr} {ns : List ByteArray} : ∀ (r : Nat), Good xs ns (passes xs ns r)
  | 0 => Good.start xs ns
  | r + 1 => Good.fold xs (Good.passes r) (fun _ h => h)
def midL (xs : List Dr) (ns : List ByteArray) (r i : Nat) : List ByteArray := (xs.take i).foldl turn1 (passes xs ns r)
theorem Good.mid {xs : List Dr} {ns : List ByteArray} (r i : Nat) : Good xs ns (midL xs ns r i) := Good.fold _ (Good.passes r) (fun _ h => List.mem_of_mem_take h)
end Go.Proofs.YtemikjbfjhebnaaGreat
namespace Go.Proofs.YtemikjbfjhebnaaGreat
open Go.RowKit
set_option linter.unusedVariables false
def gt (L : List Nat) (i : Nat) : Nat := L.getD i 0
theorem gt_at {L : List Nat} {i x : Nat} (h : L[i]? = some x) : gt L i = x := by unfold gt; simp [h]
theorem gt_set_self {L : List Nat} {i x : Nat} (h : i < L.length) : gt (L.set i x) i = x := by unfold gt; simp [h]
theorem gt_set_ne {L : List Nat} {i j x : Nat} (h : i ≠ j) : gt (L.set i x) j = gt L j := by unfold gt; simp [h]
theorem gt_ext {L M : List Nat} (h : L.length = M.length) (hg : ∀ i, i < L.length → gt L i = gt M i) : L = M := by
  apply List.ext_getElem h
  intro i h1 h2
  have := hg i h1
  unfold gt at this
  simpa [h1, h2] using this
abbrev Edges := Nat → List (Nat × Nat)
def SatN (n : Nat) (es : Edges) (M : List Nat) : Prop := ∀ i, i < n → ∀ e, e ∈ es i → gt M e.1 + e.2 ≤ gt M i
def LeN (n : Nat) (L M : List Nat) : Prop := ∀ i, i < n → gt L i ≤ gt M i
theorem LeN.refl (n : Nat) (L : List Nat) : LeN n L L := fun _ _ => Nat.le_refl _
theorem LeN.trans {n : Nat} {L M K : List Nat} (h : LeN n L M) (k : LeN n M K) : LeN n L K := fun i hi => Nat.le_trans (h i hi) (k i hi)
theorem LeN.anti {n : Nat} {L M : List Nat} (h : LeN n L M) (k : LeN n M L) (hl : L.length = n) (hm : M.length = n) : L = M :=
  gt_ext (by omega) (fun i hi => Nat.le_antisymm (h i (by omega)) (k i (by omega)))
def OkE (n : Nat) (es : Edges) : Prop := ∀ i, i < n → ∀ e, e ∈ es i → e.1 < n ∧ e.2 ≤ 1
def LeastN (n : Nat) (es : Edges) (L : List Nat) : Prop := ∀ M, SatN n es M → LeN n L M
theorem gt_map {f : Nat → Nat} (h0 : f 0 = 0) (L : List Nat) (i : Nat) : gt (L.map f) i = f (gt L i) := by
  unfold gt
  by_cases h : i < L.length
  · simp [h]
  · simp [h, h0]
theorem least_lt {n : Nat} {es : Edges} {L : List Nat} (ho : OkE n es) (hs : SatN n es L) (hl : LeastN n es L) : ∀ i, i < n → gt L i < n := by
  intro i hi
  apply Classical.byContradiction
  intro hge
  have key : ∀ m, m ≤ n → ((List.range n).filter fun j => decide (m ≤ gt L j)).length + m ≤ n := by
    intro m
    induction m with
    | zero => intro _; exact Nat.le_trans (List.length_filter_le _ _) (by simp)
    | succ v ih =>
      intro hv
      have h1 := ih (by omega)
      by_cases hex : ∃ j, j < n ∧ gt L j = v
      · obtain ⟨j, hj, hjv⟩ := hex
        have := filt_lt (xs := List.range n) (p := fun j => decide (v ≤ gt L j)) (q := fun j => decide (v + 1 ≤ gt L j)) (fun x _ hx => by simp at hx ⊢; omega) (x := j) (by simpa using hj) (by simp [hjv]) (by simp [hjv])
        omega
      · exfalso
        have hM : SatN n es (L.map fun x => if v < x then x - 1 else x) := by
          intro a ha e he
          have h2 := hs a ha e he
          have h3 := (ho a ha e he).1
          have h4 := (ho a ha e he).2
          have h5 : gt L e.1 ≠ v := fun h => hex ⟨_, h3, h⟩
          rw [gt_map (by simp), gt_map (by simp)]
          split <;> split <;> omega
        have h2 := hl _ hM i hi
        rw [gt_map (by simp)] at h2
        split at h2 <;> omega
  have h1 := key n (Nat.le_refl _)
  have h2 : 0 < ((List.range n).filter fun j => decide (n ≤ gt L j)).length := by
    apply List.length_pos_of_mem (a := i)
    simp only [List.mem_filter, List.mem_range, decide_eq_true_eq]
    exact ⟨hi, by omega⟩
  omega
def upd (i : Nat) (L : List Nat) (e : Nat × Nat) : List Nat := if gt L i < gt L e.1 + e.2 then L.set i (gt L e.1 + e.2) else L
def raise1 (es : Edges) (L : List Nat) (i : Nat) : List Nat := (es i).foldl (upd i) L
def raise (n : Nat) (es : Edges) (L : List Nat) : List Nat := (List.range n).foldl (raise1 es) L
theorem upd_len (i : Nat) (L : List Nat) (e : Nat × Nat) : (upd i L e).length = L.length := by unfold upd; split <;> simp
theorem updF_len (i : Nat) : ∀ (l : List (Nat × Nat)) (L : List Nat), (l.foldl (upd i) L).length = L.length
  | [], L => rfl
  | e :: l, L => by rw [List.foldl_cons, updF_len i l, upd_len]
theorem raiseF_len (es : Edges) : ∀ (l : List Nat) (L : List Nat), (l.foldl (raise1 es) L).length = L.length
  | [], L => rfl
  | i :: l, L => by rw [List.foldl_cons, raiseF_len es l]; exact updF_len i _ L
theorem raise_len (n : Nat) (es : Edges) (L : List Nat) : (raise n es L).length = L.length := raiseF_len es _ L
theorem upd_up (n i : Nat) (L : List Nat) (e : Nat × Nat) : LeN n L (upd i L e) := by
  intro k _
  unfold upd; split
  · by_cases h : i = k
    · subst h
      by_cases hi : i < L.length
      · rw [gt_set_self hi]; omega
      · rw [List.set_eq_of_length_le (by omega)]; exact Nat.le_refl _
    · rw [gt_set_ne h]; exact Nat.le_refl _
  · exact Nat.le_refl _
theorem updF_up (n i : Nat) : ∀ (l : List (Nat × Nat)) (L : List Nat), LeN n L (l.foldl (upd i) L)
  | [], L => LeN.refl n L
  | e :: l, L => (upd_up n i L e).trans (updF_up n i l _)
theorem raiseF_up (n : Nat) (es : Edges) : ∀ (l : List Nat) (L : List Nat), LeN n L (l.foldl (raise1 es) L)
  | [], L => LeN.refl n L
  | i :: l, L => (updF_up n i (es i) L).trans (raiseF_up n es l _)
theorem upd_le {n i : Nat} {L M : List Nat} {e : Nat × Nat} (h : LeN n L M) (h1 : e.1 < n) (h2 : gt M e.1 + e.2 ≤ gt M i) (hl : L.length = n) : LeN n (upd i L e) M := by
  intro k hk
  unfold upd; split
  · by_cases hik : i = k
    · subst hik
      rw [gt_set_self (by omega)]
      have := h _ h1; omega
    · rw [gt_set_ne hik]; exact h k hk
  · exact h k hk
theorem updF_le {n i : Nat} {M : List Nat} : ∀ (l : List (Nat × Nat)) {L : List Nat}, LeN n L M → (∀ e, e ∈ l → e.1 < n ∧ gt M e.1 + e.2 ≤ gt M i) → L.length = n → LeN n (l.foldl (upd i) L) M
  | [], L, h, _, _ => h
  | e :: l, L, h, hs, hl => by
    rw [List.foldl_cons]
    have h1 := hs e (List.mem_cons_self ..)
    exact updF_le l (upd_le h h1.1 h1.2 hl) (fun e he => hs e (List.mem_cons_of_mem _ he)) (by rw [upd_len]; exact hl)
theorem raiseF_le {n : Nat} {es : Edges} {M : List Nat} (ho : OkE n es) (hM : SatN n es M) : ∀ (l : List Nat) {L : List Nat}, LeN n L M → (∀ i, i ∈ l → i < n) → L.length = n → LeN n (l.foldl (raise1 es) L) M
  | [], L, h, _, _ => h
  | i :: l, L, h, hs, hl => by
    rw [List.foldl_cons]
    have hi := hs i (List.mem_cons_self ..)
    exact raiseF_le ho hM l (updF_le (es i) h (fun e he => ⟨(ho i hi e he).1, hM i hi e he⟩) hl) (fun i hi => hs i (List.mem_cons_of_mem _ hi)) (by unfold raise1; rw [updF_len]; exact hl)
theorem raise_le {n : Nat} {es : Edges} {L M : List Nat} (ho : OkE n es) (hM : SatN n es M) (h : LeN n L M) (hl : L.length = n) : LeN n (raise n es L) M :=
  raiseF_le ho hM _ h (fun i hi => by simpa using hi) hl
theorem updF_same {n i : Nat} : ∀ (l : List (Nat × Nat)) {L : List Nat}, L.length = n → LeN n (l.foldl (upd i) L) L → ∀ e, e ∈ l → upd i L e = L
  | [], L, _, _, e, he => by cases he
  | e0 :: l, L, hl, h, e, he => by
    rw [List.foldl_cons] at h
    have h1 : upd i L e0 = L := (LeN.anti (LeN.trans (updF_up n i l _) h) (upd_up n i L e0) (by rw [upd_len]; exact hl) hl)
    rw [h1] at h
    rcases List.mem_cons.1 he with rfl | he
    · exact h1
    · exact updF_same l hl h e he
theorem raiseF_same {n : Nat} {es : Edges} : ∀ (l : List Nat) {L : List Nat}, L.length = n → LeN n (l.foldl (raise1 es) L) L → ∀ i, i ∈ l → ∀ e, e ∈ es i → upd i L e = L
  | [], L, _, _, i, hi, _, _ => by cases hi
  | i0 :: l, L, hl, h, i, hi, e, he => by
    rw [List.foldl_cons] at h
    have h1 : raise1 es L i0 = L := (LeN.anti (LeN.trans (raiseF_up n es l _) h) (updF_up n i0 (es i0) L) (by unfold raise1; rw [updF_len]; exact hl) hl)
    rcases List.mem_cons.1 hi with rfl | hi
    · exact updF_same (es i) hl (by unfold raise1 at h1; rw [h1]; exact LeN.refl n L) e he
    · rw [h1] at h
      exact raiseF_same l hl h i hi e he
theorem sat_of_same {n : Nat} {es : Edges} {L : List Nat} (hl : L.length = n) (h : raise n es L = L) : SatN n es L := by
  intro i hi e he
  have h1 := raiseF_same (List.range n) hl (by show LeN n (raise n es L) L; rw [h]; exact LeN.refl n L) i (by simpa using hi) e he
  unfold upd at h1
  split at h1
  · rename_i hlt
    have h2 : gt (L.set i (gt L e.1 + e.2)) i = gt L i := by rw [h1]
    rw [gt_set_self (by omega)] at h2
    omega
  · omega
def sumN : List Nat → Nat
  | [] => 0
  | x :: xs => x + sumN xs
theorem sum_le : ∀ {L M : List Nat}, L.length = M.length → (∀ i, i < L.length → gt L i ≤ gt M i) → sumN L ≤ sumN M ∧ (sumN L = sumN M → L = M)
  | [], [], _, _ => ⟨Nat.le_refl _, fun _ => rfl⟩
  | [], y :: ys, h, _ => by simp at h
  | x :: xs, [], h, _ => by simp at h
  | x :: xs, y :: ys, h, hg => by
    have ih := sum_le (L := xs) (M := ys) (by simpa using h) (fun i hi => by have := hg (i + 1) (by simpa using hi); simpa [gt] using this)
    have h0 := hg 0 (by simp)
    simp [gt] at h0
    unfold sumN
    refine ⟨by omega, fun h => ?_⟩
    have h1 : sumN xs = sumN ys := by omega
    have h2 : x = y := by omega
    rw [ih.2 h1, h2]
theorem sum_bound {n b : Nat} : ∀ {L : List Nat}, (∀ x, x ∈ L → x ≤ b) → L.length = n → sumN L ≤ n * b := by
  intro L
  induction L generalizing n with
  | nil => intro _ _; simp [sumN]
  | cons x xs ih =>
    intro h hl
    obtain ⟨m, rfl⟩ : ∃ m, n = m + 1 := ⟨xs.length, by simpa using hl.symm⟩
    have := ih (n := m) (fun y hy => h y (List.mem_cons_of_mem _ hy)) (by simpa using hl)
    have h0 := h x (List.mem_cons_self ..)
    unfold sumN; rw [Nat.succ_mul]; omega
def iter (n : Nat) (es : Edges) : Nat → List Nat
  | 0 => List.replicate n 0
  | r + 1 => raise n es (iter n es r)
theorem iter_len (n : Nat) (es : Edges) : ∀ r, (iter n es r).length = n
  | 0 => by simp [iter]
  | r + 1 => by unfold iter; rw [raise_len]; exact iter_len n es r
theorem zero_le (n : Nat) (M : List Nat) : LeN n (List.replicate n 0) M := by
  intro i hi
  have : gt (List.replicate n 0) i = 0 := by unfold gt; simp [hi]
  omega
theorem iter_le {n : Nat} {es : Edges} {M : List Nat} (ho : OkE n es) (hM : SatN n es M) : ∀ r, LeN n (iter n es r) M
  | 0 => zero_le n M
  | r + 1 => raise_le ho hM (iter_le ho hM r) (iter_len n es r)
theorem iter_or (n : Nat) (es : Edges) : ∀ r, raise n es (iter n es r) = iter n es r ∨ r ≤ sumN (iter n es r)
  | 0 => .inr (Nat.zero_le _)
  | r + 1 => by
    by_cases hs : raise n es (iter n es r) = iter n es r
    · left; unfold iter; rw [hs, hs]
    · right
      rcases iter_or n es r with h | h
      · exact absurd h hs
      · have h1 := sum_le (L := iter n es r) (M := raise n es (iter n es r)) (by rw [raise_len]) (fun i hi => raiseF_up n es _ _ i (by rw [iter_len] at hi; exact hi))
        have h2 : sumN (iter n es r) ≠ sumN (raise n es (iter n es r)) := fun h => hs (h1.2 h).symm
        show r + 1 ≤ sumN (raise n es (iter n es r))
        omega
theorem mem_gt {L : List Nat} {x : Nat} (h : x ∈ L) : ∃ i, i < L.length ∧ gt L i = x := by
  obtain ⟨i, hi, rfl⟩ := List.getElem_of_mem h
  exact ⟨i, hi, gt_at (List.getElem?_eq_getElem hi)⟩
theorem iter_rest {n : Nat} {es : Edges} {M : List Nat} (ho : OkE n es) (hM : SatN n es M) (hl : M.length = n) : raise n es (iter n es (n * n + 2)) = iter n es (n * n + 2) := by
  have hsum : ∀ K, SatN n es K → K.length = n → ∀ r, sumN (iter n es r) ≤ sumN K := fun K hK hk r =>
    (sum_le (by rw [iter_len, hk]) (fun i hi => iter_le ho hK r i (by rw [iter_len] at hi; exact hi))).1
  have h1 : raise n es (iter n es (sumN M + 1)) = iter n es (sumN M + 1) := by
    rcases iter_or n es (sumN M + 1) with h | h
    · exact h
    · have := hsum M hM hl (sumN M + 1); omega
  have h2 := sat_of_same (iter_len n es _) h1
  have h3 : ∀ i, i < n → gt (iter n es (sumN M + 1)) i < n := least_lt ho h2 (fun K hK => iter_le ho hK _)
  have h4 : sumN (iter n es (sumN M + 1)) ≤ n * n := sum_bound (fun x hx => by
    obtain ⟨i, hi, rfl⟩ := mem_gt hx
    exact Nat.le_of_lt (h3 i (by rw [iter_len] at hi; exact hi))) (iter_len n es _)
  rcases iter_or n es (n * n + 2) with h | h
  · exact h
  · have := hsum _ h2 (iter_len n es _) (n * n + 2); omega
def strL (n : Nat) (es : Edges) : List Nat := iter n es (n * n + 2)
def strB (n : Nat) (es : Edges) : Bool := decide (raise n es (strL n es) = strL n es)
theorem strL_len (n : Nat) (es : Edges) : (strL n es).length = n := iter_len n es _
theorem strB_sat {n : Nat} {es : Edges} (h : strB n es = true) : SatN n es (strL n es) := by
  unfold strB at h; exact sat_of_same (strL_len n es) (by simpa using h)
theorem strB_least {n : Nat} {es : Edges} (ho : OkE n es) : LeastN n es (strL n es) := fun M hM => iter_le ho hM _
theorem strB_lt {n : Nat} {es : Edges} (ho : OkE n es) (h : strB n es = true) : ∀ i, i < n → gt (strL n es) i < n := least_lt ho (strB_sat h) (strB_least ho)
theorem strB_of {n : Nat} {es : Edges} {M : List Nat} (ho : OkE n es) (hM : SatN n es M) (hl : M.length = n) : strB n es = true := by
  unfold strB; simp only [decide_eq_true_eq]; exact iter_rest ho hM hl
def abv (L : List Nat) (l : List (Nat × Nat)) : Nat := l.foldl (fun m e => max m (gt L e.1 + e.2)) 0
theorem abv_snoc (L : List Nat) (l : List (Nat × Nat)) (e : Nat × Nat) : abv L (l ++ [e]) = max (abv L l) (gt L e.1 + e.2) := by unfold abv; rw [List.foldl_append]; rfl
theorem abvF (L : List Nat) : ∀ (l : List (Nat × Nat)) (m : Nat), m ≤ l.foldl (fun m e => max m (gt L e.1 + e.2)) m ∧ (∀ e, e ∈ l → gt L e.1 + e.2 ≤ l.foldl (fun m e => max m (gt L e.1 + e.2)) m) ∧ (l.foldl (fun m e => max m (gt L e.1 + e.2)) m = m ∨ ∃ e, e ∈ l ∧ l.foldl (fun m e => max m (gt L e.1 + e.2)) m = gt L e.1 + e.2)
  | [], m => ⟨Nat.le_refl _, fun e h => by simp at h, .inl rfl⟩
  | e :: l, m => by
    obtain ⟨h1, h2, h3⟩ := abvF L l (max m (gt L e.1 + e.2))
    rw [List.foldl_cons]
    refine ⟨by omega, fun e' he => ?_, ?_⟩
    · rcases List.mem_cons.1 he with rfl | he
      · omega
      · exact h2 e' he
    · rcases h3 with h3 | ⟨e', he, h3⟩
      · rw [h3]
        rcases Nat.le_total m (gt L e.1 + e.2) with h | h
        · right; exact ⟨e, List.mem_cons_self .., by omega⟩
        · left; omega
      · right; exact ⟨e', List.mem_cons_of_mem _ he, h3⟩
theorem abv_ge {L : List Nat} {l : List (Nat × Nat)} {e : Nat × Nat} (h : e ∈ l) : gt L e.1 + e.2 ≤ abv L l := (abvF L l 0).2.1 e h
theorem abv_or (L : List Nat) (l : List (Nat × Nat)) : abv L l = 0 ∨ ∃ e, e ∈ l ∧ abv L l = gt L e.1 + e.2 := (abvF L l 0).2.2
theorem abv_le {L : List Nat} {l : List (Nat × Nat)} {b : Nat} (h : ∀ e, e ∈ l → gt L e.1 + e.2 ≤ b) : abv L l ≤ b := by
  rcases abv_or L l with h1 | ⟨e, he, h1⟩
  · omega
  · rw [h1]; exact h e he
def lst (L : List Nat) (p q : List (Nat × Nat)) : Nat := max (abv L p) (abv L q)
structure Way (n : Nat) (es : Edges) (L : List Nat) : Prop where
  len : L.length = n
  top : ∀ i, i < n → gt L i ≤ n
  least : LeastN n es L
theorem Way.start (n : Nat) (es : Edges) : Way n es (List.replicate n 0) := ⟨by simp, fun i hi => by unfold gt; simp [hi], fun M _ => zero_le n M⟩
theorem Way.lst_le {n : Nat} {es : Edges} {L M : List Nat} (ho : OkE n es) (h : Way n es L) (hM : SatN n es M) {i : Nat} (hi : i < n) {p q : List (Nat × Nat)} (he : es i = p ++ q) : lst L p q ≤ gt M i := by
  have hx : ∀ e, e ∈ es i → gt L e.1 + e.2 ≤ gt M i := fun e h1 => by
    have h2 := h.least M hM e.1 (ho i hi e h1).1
    have h3 := hM i hi e h1
    omega
  have h1 : abv L p ≤ gt M i := abv_le fun e h => hx e (by rw [he]; exact List.mem_append_left _ h)
  have h2 : abv L q ≤ gt M i := abv_le fun e h => hx e (by rw [he]; exact List.mem_append_right _ h)
  unfold lst; omega
theorem Way.fails {n : Nat} {es : Edges} {L : List Nat} (ho : OkE n es) (h : Way n es L) {i : Nat} (hi : i < n) {p q : List (Nat × Nat)} (he : es i = p ++ q) (hg : n < lst L p q) : strB n es = false := by
  cases hb : strB n es with
  | false => rfl
  | true =>
    have h1 := h.lst_le ho (strB_sat hb) hi he
    have h2 := strB_lt ho hb i hi
    omega
theorem Way.lift {n : Nat} {es : Edges} {L : List Nat} (ho : OkE n es) (h : Way n es L) {i : Nat} (hi : i < n) {p q : List (Nat × Nat)} (he : es i = p ++ q) (hg : lst L p q ≤ n) : Way n es (L.set i (lst L p q)) := by
  refine ⟨by simp [h.len], fun k hk => ?_, fun M hM k hk => ?_⟩
  · by_cases hik : i = k
    · subst hik; rw [gt_set_self (by rw [h.len]; exact hi)]; exact hg
    · rw [gt_set_ne hik]; exact h.top k hk
  · by_cases hik : i = k
    · subst hik; rw [gt_set_self (by rw [h.len]; exact hi)]; exact h.lst_le ho hM hi he
    · rw [gt_set_ne hik]; exact h.least M hM k hk
theorem sum_set : ∀ {L : List Nat} {i x : Nat}, i < L.length → gt L i < x → sumN L < sumN (L.set i x)
  | [], i, x, h, _ => by simp at h
  | y :: ys, 0, x, h, hg => by simp [gt] at hg; simp [sumN]; omega
  | y :: ys, i + 1, x, h, hg => by
    have := sum_set (L := ys) (i := i) (x := x) (by simpa using h) (by simpa [gt] using hg)
    simp [sumN]; omega
def MetTo (es : Edges) (L : List Nat) (k : Nat) : Prop := ∀ i, i < k → ∀ e, e ∈ es i → gt L e.1 + e.2 ≤ gt L i
theorem MetTo.start (es : Edges) (L : List Nat) : MetTo es L 0 := fun i h => absurd h (Nat.not_lt_zero i)
theorem MetTo.succ {es : Edges} {L : List Nat} {k : Nat} (h : MetTo es L k) {p q : List (Nat × Nat)} (he : es k = p ++ q) (hg : lst L p q ≤ gt L k) : MetTo es L (k + 1) := by
  intro i hi e h1
  rcases Nat.lt_succ_iff_lt_or_eq.1 hi with h2 | rfl
  · exact h i h2 e h1
  · rw [he] at h1
    unfold lst at hg
    rcases List.mem_append.1 h1 with h2 | h2
    · have := abv_ge (L := L) h2; omega
    · have := abv_ge (L := L) h2; omega
theorem Way.done {n : Nat} {es : Edges} {L : List Nat} (ho : OkE n es) (h : Way n es L) (hm : MetTo es L n) : strB n es = true ∧ L = strL n es := by
  have h1 := strB_of ho hm h.len
  exact ⟨h1, LeN.anti (h.least _ (strB_sat h1)) (strB_least ho L hm) h.len (strL_len n es)⟩
end Go.Proofs.YtemikjbfjhebnaaGreat
namespace Go.Proofs.YtemikjbfjhebnaaGreat
open Go.RowKit
set_option linter.unusedVariables false
noncomputable def qryAt (xs : List N) (i : Nat) (x : N) : Bool := nodB x i (wrap64 ((i : Int) - 1)) && (decide (xs.length ≤ i + 1) || refs xs i == 1)
theorem qryAt_eq {xs : List N} {i : Nat} {x : N} {b : Bool} {r : Int} (h : b = nodB x i (wrap64 ((i : Int) - 1))) (h2 : r = refs xs i) : qryAt xs i x = (b && (decide (xs.length ≤ i + 1) || r == 1)) := by
  subst h; subst h2; rfl
theorem qry_ex (xs : List N) : ∃ b : Bool, b = true ↔ ∀ (i : Nat) x, xs[i]? = some x → qryAt xs i x = true := by
  cases Classical.em (∀ (i : Nat) x, xs[i]? = some x → qryAt xs i x = true) with
  | inl h => exact ⟨true, ⟨fun _ => h, fun _ => rfl⟩⟩
  | inr h => exact ⟨false, ⟨fun e => Bool.noConfusion e, fun e => absurd e h⟩⟩
noncomputable def qryB (xs : List N) : Bool := (qry_ex xs).choose && inB xs.length 1 9
theorem qryB_no {xs : List N} {i : Nat} {x : N} (h : xs[i]? = some x) (hn : qryAt xs i x = false) : qryB xs = false := by
  have h1 := (qry_ex xs).choose_spec
  unfold qryB
  cases hc : (qry_ex xs).choose with
  | false => rfl
  | true => rw [h1.1 hc i x h] at hn; cases hn
theorem qryB_yes {xs : List N} (h : ∀ (i : Nat) x, i < xs.length → xs[i]? = some x → qryAt xs i x = true) : qryB xs = inB xs.length 1 9 := by
  have h1 := (qry_ex xs).choose_spec
  unfold qryB
  rw [h1.2 (fun i x hx => h i x (List.getElem?_eq_some_iff.1 hx).1 hx)]; rfl
theorem small_sz {xs : List N} {x : N} {i : Nat} (hz : szAll N.sz xs ≤ 4000000) (h : xs[i]? = some x) : x.name.size ≤ 4000000 ∧ x.val.str.size ≤ 4000000 := by
  have h1 := mem_szAll (f := N.sz) (List.mem_of_getElem? h)
  unfold N.sz V.sz at h1
  unfold N.sz V.sz at hz
  constructor <;> omega
set_option maxRecDepth 100000 in
set_option maxHeartbeats 4000000 in
theorem specIsValidQuery (va : Value) (n : Nat) (xs : List N) (w : World) (ha : Rd w va 7 n (rows N.c xs)) (hx : n ≤ 4000000) (hz : szAll N.sz xs ≤ 4000000) :
    Calls Tryz.prog 100 #[va] w fun e w' => e = .returned (.bool (qryB xs)) ∧ Grew w w' := by
  have HR := Lib.hid ha
  obtain ⟨a, ca, rfl, hca, hra⟩ := ha
  have HX := Lib.hid (hra.len_rows N.len (by decide))
  have HZ := Lib.hid hz
  clear hz
  go_enter Tryz.func100, Tryz.ntmps100
  go_wp2
  go_loopw [3] (fun i wr => ∃ k : Nat, k ≤ n ∧ i = .int .i64 k ∧ Hid (∀ j y, j < k → xs[j]? = some y → qryAt xs j y = true) ∧ Grew w wr) (fun i _ => n - (intOf i).toNat)
  case atStart => exact ⟨0, Nat.zero_le _, rfl, Lib.hid (fun j y h => absurd h (Nat.not_lt_zero j)), Grew.refl _⟩
  case round =>
    obtain ⟨k, hk, rfl, hall, hbel⟩ := hrel
    by_cases hlt : k < n
    · have hr2 := hra.grew hbel
      obtain ⟨b1, o1, x, rfl, hxk, c0, c1, c2, c3, c4, c5, c6⟩ := hr2.getN hlt
      have hsz := small_sz HZ.out hxk.out
      obtain ⟨hs1, hs2⟩ := hsz
      obtain ⟨nb, hnb⟩ : ∃ b, b = nodB x k (wrap64 ((k : Int) - 1)) := ⟨_, rfl⟩
      obtain ⟨r, hr⟩ : ∃ r, r = refs xs k := ⟨_, rfl⟩
      have hq := qryAt_eq hnb hr
      rw [HX.out] at hq
      have HQ := Lib.hid hq
      have HN := Lib.hid hnb
      have HC := Lib.hid hr
      clear hq hnb hr
      have hcs : nb = false ∨ (nb = true ∧ ¬ (k + 1 < n)) ∨ (nb = true ∧ k + 1 < n ∧ ((r = 1) ∨ (r == 1) = false)) := by
        cases nb
        · exact .inl rfl
        · by_cases h1 : k + 1 < n
          · refine .inr (.inr ⟨rfl, h1, ?_⟩); by_cases h2 : r = 1
            · exact .inl h2
            · exact .inr (by simp [h2])
          · exact .inr (.inl ⟨rfl, h1⟩)
      rcases hcs with rfl | ⟨rfl, hk1⟩ | ⟨rfl, hk1, rfl | hr1⟩
      all_goals
        go_wp2_with (first | (go_at_call 115; refine (specIsValidNode x (k : Int) _ hs1 hs2).mono ?_; rintro e w1 ⟨he, hb⟩; rw [← HN.out] at he; subst he; obtain ⟨hc, hf⟩ := hb.cells) | (go_at_call 116; refine (specCountReferences _ n xs (k : Int) _ ⟨_, ca, rfl, hca, hra.grew (hbel.trans hb)⟩ hx).mono ?_; rintro e w2 ⟨he, hb2⟩; rw [← HC.out] at he; subst he; obtain ⟨hc2, hf2⟩ := hb2.cells))
      all_goals first | go_ret | go_roundw
      all_goals first
        | (refine ⟨ret_bool ?_, by first | exact hbel.trans hb | exact (hbel.trans hb).trans hb2⟩
           exact (qryB_no hxk.out (by rw [HQ.out]; simp [*])).symm)
        | (refine ⟨k + 1, by omega, by go_num, Lib.hid ?_, by first | exact hbel.trans hb | exact (hbel.trans hb).trans hb2⟩
           intro j y hj hy
           rcases Nat.lt_succ_iff_lt_or_eq.1 hj with h | rfl
           · exact hall.out j y h hy
           · obtain rfl := Option.some.inj (hxk.out.symm.trans hy)
             rw [HQ.out]; simp; try omega)
        | (simp [intOf]; omega)
    · obtain rfl : k = n := by omega
      have hy := qryB_yes (xs := xs) (fun j y h h2 => hall.out j y (by rw [← HX.out]; exact h) h2)
      go_wp2_with (go_at_call 24; refine (l01In _ 1 9 _).mono ?_; rintro e w' ⟨rfl, rfl⟩)
      go_ret
      exact ⟨ret_bool (by rw [hy, HX.out]), hbel⟩
set_option maxRecDepth 100000 in
set_option maxHeartbeats 4000000 in
theorem implIsValidQuery (va : Value) (n : Nat) (xs : List N) (w : World) (ha : Rd w va 7 n (rows N.c xs)) (hx : n ≤ 4000000) (hz : szAll N.sz xs ≤ 4000000) :
    Calls Tryz.prog 119 #[va] w fun e w' => e = .returned (.bool (qryB xs)) ∧ Grew w w' := by
  have HR := Lib.hid ha
  obtain ⟨a, ca, rfl, hca, hra⟩ := ha
  have HX := Lib.hid (hra.len_rows N.len (by decide))
  have HZ := Lib.hid hz
  clear hz
  go_enter Tryz.func119, Tryz.ntmps119
  go_wp2
  go_loopw [3, 7] (fun _ i wr => ∃ k : Nat, k ≤ n ∧ i = .int .i64 k ∧ Hid (∀ j y, j < k → xs[j]? = some y → qryAt xs j y = true) ∧ Grew w wr) (fun _ i _ => n - (intOf i).toNat)
  case atStart => exact ⟨0, Nat.zero_le _, rfl, Lib.hid (fun j y h => absurd h (Nat.not_lt_zero j)), Grew.refl _⟩
  case round =>
    obtain ⟨k, hk, rfl, hall, hbel⟩ := hrel
    by_cases hlt : k < n
    · have hr2 := hra.grew hbel
      obtain ⟨b1, o1, x, rfl, hxk, c0, c1, c2, c3, c4, c5, c6⟩ := hr2.getN hlt
      have hsz := small_sz HZ.out hxk.out
      obtain ⟨hs1, hs2⟩ := hsz
      obtain ⟨nb, hnb⟩ : ∃ b, b = nodB x k (wrap64 ((k : Int) - 1)) := ⟨_, rfl⟩
      obtain ⟨r, hr⟩ : ∃ r, r = refs xs k := ⟨_, rfl⟩
      have hq := qryAt_eq hnb hr
      rw [HX.out] at hq
      have HQ := Lib.hid hq
      have HN := Lib.hid hnb
      have HC := Lib.hid hr
      clear hq hnb hr
      have hcs : nb = false ∨ (nb = true ∧ ¬ (k + 1 < n)) ∨ (nb = true ∧ k + 1 < n ∧ ((r = 1) ∨ (r == 1) = false)) := by
        cases nb
        · exact .inl rfl
        · by_cases h1 : k + 1 < n
          · refine .inr (.inr ⟨rfl, h1, ?_⟩); by_cases h2 : r = 1
            · exact .inl h2
            · exact .inr (by simp [h2])
          · exact .inr (.inl ⟨rfl, h1⟩)
      rcases hcs with rfl | ⟨rfl, hk1⟩ | ⟨rfl, hk1, rfl | hr1⟩
      all_goals
        go_wp2_with (first | (go_at_call 126; refine (implIsValidNode x (k : Int) _ hs1 hs2).mono ?_; rintro e w1 ⟨he, hb⟩; rw [← HN.out] at he; subst he; obtain ⟨hc, hf⟩ := hb.cells) | (go_at_call 127; refine (implCountReferences _ n xs (k : Int) _ ⟨_, ca, rfl, hca, hra.grew ((hbel.alloc _).trans hb)⟩ hx).mono ?_; rintro e w2 ⟨he, hb2⟩; rw [← HC.out] at he; subst he; obtain ⟨hc2, hf2⟩ := hb2.cells))
      all_goals first | go_ret | go_roundw
      all_goals first
        | (refine ⟨ret_bool ?_, by first | exact (hbel.alloc _).trans hb | exact ((hbel.alloc _).trans hb).trans hb2⟩
           exact (qryB_no hxk.out (by rw [HQ.out]; simp [*])).symm)
        | (refine ⟨k + 1, by omega, by go_num, Lib.hid ?_, by first | exact (hbel.alloc _).trans hb | exact ((hbel.alloc _).trans hb).trans hb2⟩
           intro j y hj hy
           rcases Nat.lt_succ_iff_lt_or_eq.1 hj with h | rfl
           · exact hall.out j y h hy
           · obtain rfl := Option.some.inj (hxk.out.symm.trans hy)
             rw [HQ.out]; simp; try omega)
        | (simp [intOf]; omega)
    · obtain rfl : k = n := by omega
      have hy := qryB_yes (xs := xs) (fun j y h h2 => hall.out j y (by rw [← HX.out]; exact h) h2)
      go_wp2_with (go_at_call 65; refine (within _ 1 9 _).mono ?_; rintro e w' ⟨rfl, rfl⟩)
      go_ret
      exact ⟨ret_bool (by rw [hy, HX.out]), hbel⟩
end Go.Proofs.YtemikjbfjhebnaaGreat
