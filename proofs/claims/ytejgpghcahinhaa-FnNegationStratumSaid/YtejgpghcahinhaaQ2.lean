/- Contracts of l04Put. -/
import Derived.Test.YtejgpghcahinhaaQ1
import Derived.Test.YtejgpghcahinhaaH4
namespace Go.Proofs.Ytejgpghcahinhaa
open Go.RowKit Go.Sort
set_option linter.unusedVariables false
def putB (xs : List ByteArray) (s : ByteArray) : List ByteArray := (putL (xs.map dl) (dl s)).map mkb
theorem putL_at {α : Type} [LT α] [DecidableLT α] [DecidableEq α] : ∀ (xs : List α) (k : Nat) (s : α), (∀ (j : Nat) y, j < k → xs[j]? = some y → y < s) →
    (xs[k]? = none → k ≤ xs.length → putL xs s = xs.take k ++ s :: xs.drop k) ∧ (∀ y, xs[k]? = some y → ¬ y < s → y = s → putL xs s = xs) ∧ (∀ y, xs[k]? = some y → ¬ y < s → ¬ y = s → putL xs s = xs.take k ++ s :: xs.drop k)
  | [], k, s, _ => by
    refine ⟨fun _ hk => ?_, fun y h => by simp at h, fun y h => by simp at h⟩
    have : k = 0 := by simpa using hk
    subst this; simp [putL]
  | x :: xs, 0, s, _ => by
    refine ⟨fun h => by simp at h, fun y h h1 h2 => ?_, fun y h h1 h2 => ?_⟩
    · simp at h; subst h; subst h2
      unfold putL; rw [if_neg h1, if_pos rfl]
    · simp at h; subst h
      unfold putL; rw [if_neg h1, if_neg h2]; simp
  | x :: xs, k + 1, s, h => by
    have h0 : x < s := h 0 x (Nat.succ_pos k) rfl
    have ih := putL_at xs k s (fun j y hj hy => h (j + 1) y (Nat.succ_lt_succ hj) (by simpa using hy))
    have e : putL (x :: xs) s = x :: putL xs s := by
      conv => lhs; unfold putL
      rw [if_pos h0]
    rw [e]
    refine ⟨fun h1 h2 => ?_, fun y h1 h2 h3 => ?_, fun y h1 h2 h3 => ?_⟩
    · rw [ih.1 (by simpa using h1) (by simpa using h2)]; simp
    · rw [ih.2.1 y (by simpa using h1) h2 h3]
    · rw [ih.2.2 y (by simpa using h1) h2 h3]; simp
theorem putB_app {xs : List ByteArray} {s : ByteArray} {k : Nat} (h : putL (xs.map dl) (dl s) = (xs.map dl).take k ++ dl s :: (xs.map dl).drop k) : putB xs s = xs.take k ++ [s] ++ xs.drop k := by
  unfold putB; rw [h]; simp [mkb_dl, Function.comp_def]
theorem putB_same {xs : List ByteArray} {s : ByteArray} (h : putL (xs.map dl) (dl s) = xs.map dl) : putB xs s = xs := by
  unfold putB; rw [h]; simp [mkb_dl, Function.comp_def]
theorem less_iff (a b : ByteArray) (v : Bool) : Op.bytesLess a.toList b.toList = v ↔ decide (dl a < dl b) = v := by
  rw [ByteArray.toList_eq, ByteArray.toList_eq, bytesLess_eq]
theorem same_iff (a b : ByteArray) (v : Bool) : (a.toList == b.toList) = v ↔ decide (dl a = dl b) = v := by
  rw [ByteArray.toList_eq, ByteArray.toList_eq]
  rw [Bool.beq_eq_decide_eq]
theorem putL_len {α : Type} [LT α] [DecidableLT α] [DecidableEq α] : ∀ (xs : List α) (s : α), (putL xs s).length ≤ xs.length + 1
  | [], s => by simp [putL]
  | x :: xs, s => by
    unfold putL
    have := putL_len xs s
    split
    · simp; omega
    · split <;> simp
theorem putB_len (xs : List ByteArray) (s : ByteArray) : (putB xs s).length ≤ xs.length + 1 := by
  unfold putB; have := putL_len (xs.map dl) (dl s); simpa using this
/-- A list of texts that is not nil can be read. -/
def RdS (w : World) (v : Value) (xs : List ByteArray) : Prop := ∃ ad c, v = .slice (some ad) xs.length c ∧ xs.length ≤ c ∧ RdA w (some ad) 1 xs.length (strs xs)
theorem RdS.grew {w w' : World} {v : Value} {xs : List ByteArray} (h : RdS w v xs) (hg : Grew w w') : RdS w' v xs := by
  obtain ⟨ad, c, rfl, h1, h2⟩ := h
  exact ⟨ad, c, rfl, h1, h2.grew hg⟩
theorem rds_of_own {w : World} {base : Nat} {e : TypeId} {n : Nat} {v : Value} {xs : List ByteArray} (h : w.ownsRow base e 1 v n (strs xs)) (hn : v ≠ .slice none 0 0) : RdS w v xs := by
  have hl : xs.length = n := by have := h.1; simpa using this
  have h1 := rd_of_own h
  obtain ⟨_, ⟨rfl, _⟩ | ⟨g, cap, cur, rfl, _⟩⟩ := h
  · exact absurd rfl hn
  · obtain ⟨a, c, hv, hc, hr⟩ := h1
    cases hv
    subst hl
    exact ⟨_, _, rfl, hc, hr⟩
theorem rds_of_own2 {w : World} {base : Nat} {e : TypeId} {n : Nat} {v : Value} {xs : List ByteArray} {cs : List Value} (h : w.ownsRow base e 1 v n cs) (hc : cs = strs xs) (hn : v ≠ .slice none 0 0) : RdS w v xs := by
  subst hc; exact rds_of_own h hn
theorem cells_drop {w : World} {ad : Addr} {n : Nat} {xs : List ByteArray} (h : RdA w (some ad) 1 n (strs xs)) (k : Nat) {w' : World} (hg : Grew w w') : ∀ j u, (strs (xs.drop k))[j]? = some u → w'.cell? ((ad.add k).add j) = some u := by
  intro j u hu
  have hl := (List.getElem?_eq_some_iff.1 hu).1
  simp [strs] at hl
  have hn : xs.length = n := h.len_map
  obtain ⟨b, o, e, hc⟩ := h.2 (by omega)
  obtain rfl := Option.some.inj e
  have h1 := hc (k + j) (by omega)
  have h2 : (strs xs)[k + j]? = some u := by rw [← hu]; simp [strs]
  rw [h2] at h1
  have h3 := grew_cell hg h1
  have e2 : ((⟨b, o, none⟩ : Addr).add k).add j = ⟨b, o + (k + j), none⟩ := by
    by_cases hk : k = 0 <;> by_cases hj : j = 0 <;> simp [Addr.add, hk, hj] <;> omega
  rw [e2]; exact h3
theorem cells_drop2 {w : World} {b o : Nat} {n : Nat} {xs : List ByteArray} (h : RdA w (some ⟨b, o, none⟩) 1 n (strs xs)) (k : Nat) {w' : World} (hg : Grew w w') : ∀ j u, (strs (xs.drop k))[j]? = some u → w'.cell? ((⟨b, o + k, none⟩ : Addr).add j) = some u := by
  intro j u hu
  have h1 := cells_drop h k hg j u hu
  rw [← h1]
  congr 1
  by_cases hk : k = 0 <;> by_cases hj : j = 0 <;> simp [Addr.add, hk, hj]
theorem cells_take {w : World} {ad : Addr} {n : Nat} {xs : List ByteArray} (h : RdA w (some ad) 1 n (strs xs)) (k : Nat) {w' : World} (hg : Grew w w') : ∀ j u, (strs (xs.take k))[j]? = some u → w'.cell? (ad.add j) = some u := by
  intro j u hu
  refine rd_news h hg j u ?_
  have hl := (List.getElem?_eq_some_iff.1 hu).1
  simp [strs] at hl
  rw [← hu]
  simp [strs, hl]
theorem one_strs (xs : List ByteArray) : ∀ u ∈ strs xs, u.oneCell' = true := by
  intro u hu; simp at hu; obtain ⟨x, _, rfl⟩ := hu; rfl
set_option maxRecDepth 100000 in
set_option maxHeartbeats 1000000 in
theorem l04Put (va : Value) (xs : List ByteArray) (s : ByteArray) (w : World) (ha : RdS w va xs) (hx : xs.length ≤ 4000000) :
    Calls Try.prog 177 #[va, .string s] w fun e w' => ∃ v, e = .returned v ∧ RdS w' v (putB xs s) ∧ Grew w w' := by
  have HA := Lib.hid ha
  obtain ⟨ad, c, rfl, hc, hr⟩ := ha
  have HR := Lib.hid hr
  generalize hn : xs.length = n at hc hr hx
  have HN := Lib.hid hn
  clear hn
  obtain ⟨i0, hi, hz0, hz1, hz2⟩ := info_parts Try.infoString
  go_enter Try.func177, Try.ntmps177
  go_wp2
  go_loop [5] (fun i => ∃ k : Nat, k ≤ n ∧ i = .int .i64 k ∧ Hid (∀ (j : Nat) y, j < k → (xs.map dl)[j]? = some y → y < dl s)) (fun i => n - (intOf i).toNat)
  case atStart => exact ⟨0, Nat.zero_le _, rfl, Lib.hid (fun j y h => absurd h (Nat.not_lt_zero j))⟩
  case round =>
    obtain ⟨k, hk, rfl, hall⟩ := hrel
    have HPA := Lib.hid (putL_at (xs.map dl) k (dl s) hall.out)
    by_cases hlt : k < n
    · obtain ⟨b, o, y, hab, hyk, e1⟩ := hr.one hlt
      cases hab
      obtain ⟨v, hv⟩ : ∃ v, Op.bytesLess y.toList s.toList = v := ⟨_, rfl⟩
      obtain ⟨u, hu⟩ : ∃ u, (y.toList == s.toList) = u := ⟨_, rfl⟩
      have HV := Lib.hid ((less_iff y s v).1 hv)
      have HU := Lib.hid ((same_iff y s u).1 hu)
      have HY := Lib.hid (show (xs.map dl)[k]? = some (dl y) by rw [List.getElem?_map, hyk.out]; rfl)
      have hcs : v = true ∨ v = false := by cases v <;> simp
      have hcu : u = true ∨ u = false := by cases u <;> simp
      rcases hcs with rfl | rfl
      · go_wp2
        exact ⟨⟨k + 1, by omega, by go_num, Lib.hid (fun j z hj hz => by
          rcases Nat.lt_succ_iff_lt_or_eq.1 hj with h | rfl
          · exact hall.out j z h hz
          · obtain rfl := Option.some.inj (HY.out.symm.trans hz)
            simpa using HV.out)⟩, by simp [intOf]; omega⟩
      · rcases hcu with rfl | rfl
        · go_wp2
          go_ret
          refine ⟨.slice (some ⟨b, o, none⟩) n c, rfl, ?_, Grew.refl _⟩
          rw [putB_same (HPA.out.2.1 _ HY.out (by simpa using HV.out) (by simpa using HU.out))]
          rw [← HN.out]; exact HA.out
        · have HE := Lib.hid (putB_app (HPA.out.2.2 _ HY.out (by simpa using HV.out) (by simpa using HU.out)))
          have hkn : k ≤ n := hk
          clear HPA HY HV HU hyk
          have g0 := (Grew.refl w).alloc (.cells #[] 9)
          have kc : k ≤ c := by omega
          have htk : (xs.take k).length = k := by rw [List.length_take, HN.out]; omega
          have hdk : (xs.drop k).length = n - k := by rw [List.length_drop, HN.out]
          go_wp2_with (at_builtin; refine wpList_append_own _ rfl _ _ 63 rfl w.heap.size 9 i0 (.string ⟨#[]⟩) 1 16 Try.underlying63 hi hz0 hz1 hz2 rfl (by decide) _ 0 [] rfl (lit_own w 9 1) _ k _ (strs (xs.take k)) rfl (by rw [List.length_map, htk, Nat.mul_one]) (cells_take HR.out k g0) (one_strs _) (by unfold maxLen; omega) (by omega) (by simp) ?_)
          intro v1 w1 hown1 hgr1 _
          have g1 : Grew w w1 := g0.grown hgr1 (fun j h => by cases h; exact Nat.le_refl _)
          have HO1 := Lib.hid (show w1.ownsRow w.heap.size 9 1 v1 k (strs (xs.take k)) by simpa using hown1)
          obtain ⟨a1, c1, rfl⟩ := own_slice (HO1.out)
          clear hown1 hgr1
          go_wp2_with (at_builtin; refine wpList_append_own _ rfl _ _ 63 rfl w.heap.size 9 i0 (.string ⟨#[]⟩) 1 16 Try.underlying63 hi hz0 hz1 hz2 rfl (by decide) _ _ _ rfl (HO1.out.alloc _) ⟨_, 0, none⟩ 1 1 [.string s] rfl rfl (cell_one_new _ _ _) (fun x hx => by simp at hx; subst hx; rfl) (by unfold maxLen; omega) (by omega) (by have := g1.size; simp; omega) ?_)
          intro v2 w2 hown2 hgr2 hnil2
          have g2 : Grew w w2 := (g1.alloc _).grown hgr2 (fun j h => (HO1.out.lt j h).1)
          have HO2 := Lib.hid hown2
          have hne2 : v2 ≠ .slice none 0 0 := fun h => by first | exact hnil2 h | exact absurd (hnil2.1 h).2 (by omega)
          obtain ⟨a2, c2, rfl⟩ := own_slice (HO2.out)
          clear hown2 hgr2 hnil2
          go_wp2_with (at_builtin; refine wpList_append_own _ rfl _ _ 63 rfl w.heap.size 9 i0 (.string ⟨#[]⟩) 1 16 Try.underlying63 hi hz0 hz1 hz2 rfl (by decide) _ _ _ rfl HO2.out _ (n - k) (c - k) (strs (xs.drop k)) rfl (by rw [List.length_map, hdk, Nat.mul_one]) (cells_drop2 HR.out k g2) (one_strs _) (by unfold maxLen; omega) (by omega) (by have := g2.size; omega) ?_)
          intro v3 w3 hown3 hgr3 hnil3
          have g3 : Grew w w3 := g2.grown hgr3 (fun j h => (HO2.out.lt j h).1)
          have hne3 : v3 ≠ .slice none 0 0 := fun h => by first | exact hnil3 h | exact hne2 (hnil3.1 h).1
          have HO3 := Lib.hid hown3
          obtain ⟨a3, c3, rfl⟩ := own_slice (HO3.out)
          clear hown3 hgr3 hnil3
          go_wp2
          go_ret
          refine ⟨_, rfl, ?_, g3⟩
          exact rds_of_own2 HO3.out (by rw [HE.out]; simp [strs]) hne3
    · obtain rfl : k = n := by omega
      have hkn : k ≤ k := Nat.le_refl k
      have HE := Lib.hid (putB_app (HPA.out.1 (by rw [List.getElem?_eq_none]; simp [HN.out]) (by simp [HN.out])))
      clear HPA
      by_cases hck : c = k
      · have hck2 := hck.symm
        subst hck2
        have g0 := (Grew.refl w).alloc (.cells #[] 9)
        have kc : k ≤ k := by omega
        have htk : (xs.take k).length = k := by rw [List.length_take, HN.out]; omega
        have hdk : (xs.drop k).length = k - k := by rw [List.length_drop, HN.out]
        go_wp2_with (at_builtin; refine wpList_append_own _ rfl _ _ 63 rfl w.heap.size 9 i0 (.string ⟨#[]⟩) 1 16 Try.underlying63 hi hz0 hz1 hz2 rfl (by decide) _ 0 [] rfl (lit_own w 9 1) _ k _ (strs (xs.take k)) rfl (by rw [List.length_map, htk, Nat.mul_one]) (cells_take HR.out k g0) (one_strs _) (by unfold maxLen; omega) (by omega) (by simp) ?_)
        intro v1 w1 hown1 hgr1 _
        have g1 : Grew w w1 := g0.grown hgr1 (fun j h => by cases h; exact Nat.le_refl _)
        have HO1 := Lib.hid (show w1.ownsRow w.heap.size 9 1 v1 k (strs (xs.take k)) by simpa using hown1)
        obtain ⟨a1, c1, rfl⟩ := own_slice (HO1.out)
        clear hown1 hgr1
        go_wp2_with (at_builtin; refine wpList_append_own _ rfl _ _ 63 rfl w.heap.size 9 i0 (.string ⟨#[]⟩) 1 16 Try.underlying63 hi hz0 hz1 hz2 rfl (by decide) _ _ _ rfl (HO1.out.alloc _) ⟨_, 0, none⟩ 1 1 [.string s] rfl rfl (cell_one_new _ _ _) (fun x hx => by simp at hx; subst hx; rfl) (by unfold maxLen; omega) (by omega) (by have := g1.size; simp; omega) ?_)
        intro v2 w2 hown2 hgr2 hnil2
        have g2 : Grew w w2 := (g1.alloc _).grown hgr2 (fun j h => (HO1.out.lt j h).1)
        have HO2 := Lib.hid hown2
        have hne2 : v2 ≠ .slice none 0 0 := fun h => by first | exact hnil2 h | exact absurd (hnil2.1 h).2 (by omega)
        obtain ⟨a2, c2, rfl⟩ := own_slice (HO2.out)
        clear hown2 hgr2 hnil2
        go_wp2_with (at_builtin; refine wpList_append_own _ rfl _ _ 63 rfl w.heap.size 9 i0 (.string ⟨#[]⟩) 1 16 Try.underlying63 hi hz0 hz1 hz2 rfl (by decide) _ _ _ rfl HO2.out _ _ _ [] rfl (by simp) (fun j u hu => by simp at hu) (fun u hu => by simp at hu) (by unfold maxLen; omega) (by omega) (by have := g2.size; omega) ?_)
        intro v3 w3 hown3 hgr3 hnil3
        have g3 : Grew w w3 := g2.grown hgr3 (fun j h => (HO2.out.lt j h).1)
        have hne3 : v3 ≠ .slice none 0 0 := fun h => by first | exact hnil3 h | exact hne2 (hnil3.1 h).1
        have HO3 := Lib.hid hown3
        obtain ⟨a3, c3, rfl⟩ := own_slice (HO3.out)
        clear hown3 hgr3 hnil3
        go_wp2
        go_ret
        refine ⟨_, rfl, ?_, g3⟩
        exact rds_of_own2 HO3.out (by rw [HE.out, List.drop_eq_nil_of_le (by rw [HN.out]; omega)]; simp [strs]) hne3
      · have hck2 : k < c := by omega
        have g0 := (Grew.refl w).alloc (.cells #[] 9)
        have kc : k ≤ c := by omega
        have htk : (xs.take k).length = k := by rw [List.length_take, HN.out]; omega
        have hdk : (xs.drop k).length = k - k := by rw [List.length_drop, HN.out]
        go_wp2_with (at_builtin; refine wpList_append_own _ rfl _ _ 63 rfl w.heap.size 9 i0 (.string ⟨#[]⟩) 1 16 Try.underlying63 hi hz0 hz1 hz2 rfl (by decide) _ 0 [] rfl (lit_own w 9 1) _ k _ (strs (xs.take k)) rfl (by rw [List.length_map, htk, Nat.mul_one]) (cells_take HR.out k g0) (one_strs _) (by unfold maxLen; omega) (by omega) (by simp) ?_)
        intro v1 w1 hown1 hgr1 _
        have g1 : Grew w w1 := g0.grown hgr1 (fun j h => by cases h; exact Nat.le_refl _)
        have HO1 := Lib.hid (show w1.ownsRow w.heap.size 9 1 v1 k (strs (xs.take k)) by simpa using hown1)
        obtain ⟨a1, c1, rfl⟩ := own_slice (HO1.out)
        clear hown1 hgr1
        go_wp2_with (at_builtin; refine wpList_append_own _ rfl _ _ 63 rfl w.heap.size 9 i0 (.string ⟨#[]⟩) 1 16 Try.underlying63 hi hz0 hz1 hz2 rfl (by decide) _ _ _ rfl (HO1.out.alloc _) ⟨_, 0, none⟩ 1 1 [.string s] rfl rfl (cell_one_new _ _ _) (fun x hx => by simp at hx; subst hx; rfl) (by unfold maxLen; omega) (by omega) (by have := g1.size; simp; omega) ?_)
        intro v2 w2 hown2 hgr2 hnil2
        have g2 : Grew w w2 := (g1.alloc _).grown hgr2 (fun j h => (HO1.out.lt j h).1)
        have HO2 := Lib.hid hown2
        have hne2 : v2 ≠ .slice none 0 0 := fun h => by first | exact hnil2 h | exact absurd (hnil2.1 h).2 (by omega)
        obtain ⟨a2, c2, rfl⟩ := own_slice (HO2.out)
        clear hown2 hgr2 hnil2
        go_wp2_with (at_builtin; refine wpList_append_own _ rfl _ _ 63 rfl w.heap.size 9 i0 (.string ⟨#[]⟩) 1 16 Try.underlying63 hi hz0 hz1 hz2 rfl (by decide) _ _ _ rfl HO2.out _ _ _ [] rfl (by simp) (fun j u hu => by simp at hu) (fun u hu => by simp at hu) (by unfold maxLen; omega) (by omega) (by have := g2.size; omega) ?_)
        intro v3 w3 hown3 hgr3 hnil3
        have g3 : Grew w w3 := g2.grown hgr3 (fun j h => (HO2.out.lt j h).1)
        have hne3 : v3 ≠ .slice none 0 0 := fun h => by first | exact hnil3 h | exact hne2 (hnil3.1 h).1
        have HO3 := Lib.hid hown3
        obtain ⟨a3, c3, rfl⟩ := own_slice (HO3.out)
        clear hown3 hgr3 hnil3
        go_wp2
        go_ret
        refine ⟨_, rfl, ?_, g3⟩
        exact rds_of_own2 HO3.out (by rw [HE.out, List.drop_eq_nil_of_le (by rw [HN.out]; omega)]; simp [strs]) hne3
end Go.Proofs.Ytejgpghcahinhaa
