/- Contracts of IsValidQuery. -/
import Derived.Test.YtodbohmbdgbheaaGreatDoorC4
namespace Go.Proofs.YtodbohmbdgbheaaGreatDoor
open Go.RowKit
set_option linter.unusedVariables false
/-- A valid query, node by node. -/
noncomputable def qryAt (xs : List N) (i : Nat) (x : N) : Bool := nodB x i (wrap64 ((i : Int) - 1)) && (decide (xs.length ≤ i + 1) || refs xs i == 1)
theorem qryAt_eq {xs : List N} {i : Nat} {x : N} {b : Bool} {r : Int} (h : b = nodB x i (wrap64 ((i : Int) - 1))) (h2 : r = refs xs i) : qryAt xs i x = (b && (decide (xs.length ≤ i + 1) || r == 1)) := by
  subst h; subst h2; rfl
theorem qry_ex (xs : List N) : ∃ b : Bool, b = true ↔ ∀ (i : Nat) x, xs[i]? = some x → qryAt xs i x = true := by
  cases Classical.em (∀ (i : Nat) x, xs[i]? = some x → qryAt xs i x = true) with
  | inl h => exact ⟨true, ⟨fun _ => h, fun _ => rfl⟩⟩
  | inr h => exact ⟨false, ⟨fun e => Bool.noConfusion e, fun e => absurd e h⟩⟩
noncomputable def qryB (xs : List N) : Bool := (qry_ex xs).choose && inB xs.length 1 9
theorem qryB_no {xs : List N} {i : Nat} {x : N} (h : xs[i]? = some x) (hn : qryAt xs i x = false) : qryB xs = false := by
  have h1 := (qry_ex xs).choose_spec
  unfold qryB
  cases hc : (qry_ex xs).choose with
  | false => rfl
  | true => rw [h1.1 hc i x h] at hn; cases hn
theorem qryB_yes {xs : List N} (h : ∀ (i : Nat) x, i < xs.length → xs[i]? = some x → qryAt xs i x = true) : qryB xs = inB xs.length 1 9 := by
  have h1 := (qry_ex xs).choose_spec
  unfold qryB
  rw [h1.2 (fun i x hx => h i x (List.getElem?_eq_some_iff.1 hx).1 hx)]; rfl
theorem small_sz {xs : List N} {x : N} {i : Nat} (hz : szAll N.sz xs ≤ 4000000) (h : xs[i]? = some x) : x.name.size ≤ 4000000 ∧ x.val.str.size ≤ 4000000 := by
  have h1 := mem_szAll (f := N.sz) (List.mem_of_getElem? h)
  unfold N.sz V.sz at h1
  unfold N.sz V.sz at hz
  constructor <;> omega
set_option maxRecDepth 100000 in
set_option maxHeartbeats 4000000 in
theorem specIsValidQuery (va : Value) (n : Nat) (xs : List N) (w : World) (ha : Rd w va 7 n (rows N.c xs)) (hx : n ≤ 4000000) (hz : szAll N.sz xs ≤ 4000000) :
    Calls Tryz.prog 35 #[va] w fun e w' => e = .returned (.bool (qryB xs)) ∧ Grew w w' := by
  have HR := Lib.hid ha
  obtain ⟨a, ca, rfl, hca, hra⟩ := ha
  have HX := Lib.hid (hra.len_rows N.len (by decide))
  have HZ := Lib.hid hz
  clear hz
  go_enter Tryz.func35, Tryz.ntmps35
  go_wp2
  go_loopw [3] (fun i wr => ∃ k : Nat, k ≤ n ∧ i = .int .i64 k ∧ Hid (∀ j y, j < k → xs[j]? = some y → qryAt xs j y = true) ∧ Grew w wr) (fun i _ => n - (intOf i).toNat)
  case atStart => exact ⟨0, Nat.zero_le _, rfl, Lib.hid (fun j y h => absurd h (Nat.not_lt_zero j)), Grew.refl _⟩
  case round =>
    obtain ⟨k, hk, rfl, hall, hbel⟩ := hrel
    by_cases hlt : k < n
    · have hr2 := hra.grew hbel
      obtain ⟨b1, o1, x, rfl, hxk, c0, c1, c2, c3, c4, c5, c6⟩ := hr2.getN hlt
      have hsz := small_sz HZ.out hxk.out
      obtain ⟨hs1, hs2⟩ := hsz
      obtain ⟨nb, hnb⟩ : ∃ b, b = nodB x k (wrap64 ((k : Int) - 1)) := ⟨_, rfl⟩
      obtain ⟨r, hr⟩ : ∃ r, r = refs xs k := ⟨_, rfl⟩
      have hq := qryAt_eq hnb hr
      rw [HX.out] at hq
      have HQ := Lib.hid hq
      have HN := Lib.hid hnb
      have HC := Lib.hid hr
      clear hq hnb hr
      have hcs : nb = false ∨ (nb = true ∧ ¬ (k + 1 < n)) ∨ (nb = true ∧ k + 1 < n ∧ ((r = 1) ∨ (r == 1) = false)) := by
        cases nb
        · exact .inl rfl
        · by_cases h1 : k + 1 < n
          · refine .inr (.inr ⟨rfl, h1, ?_⟩); by_cases h2 : r = 1
            · exact .inl h2
            · exact .inr (by simp [h2])
          · exact .inr (.inl ⟨rfl, h1⟩)
      rcases hcs with rfl | ⟨rfl, hk1⟩ | ⟨rfl, hk1, rfl | hr1⟩
      all_goals
        go_wp2_with (first | (go_at_call 57; refine (specIsValidNode x (k : Int) _ hs1 hs2).mono ?_; rintro e w1 ⟨he, hb⟩; rw [← HN.out] at he; subst he; obtain ⟨hc, hf⟩ := hb.cells) | (go_at_call 58; refine (specCountReferences _ n xs (k : Int) _ ⟨_, ca, rfl, hca, hra.grew (hbel.trans hb)⟩ hx).mono ?_; rintro e w2 ⟨he, hb2⟩; rw [← HC.out] at he; subst he; obtain ⟨hc2, hf2⟩ := hb2.cells))
      all_goals first | go_ret | go_roundw
      all_goals first
        | (refine ⟨ret_bool ?_, by first | exact hbel.trans hb | exact (hbel.trans hb).trans hb2⟩
           exact (qryB_no hxk.out (by rw [HQ.out]; simp [*])).symm)
        | (refine ⟨k + 1, by omega, by go_num, Lib.hid ?_, by first | exact hbel.trans hb | exact (hbel.trans hb).trans hb2⟩
           intro j y hj hy
           rcases Nat.lt_succ_iff_lt_or_eq.1 hj with h | rfl
           · exact hall.out j y h hy
           · obtain rfl := Option.some.inj (hxk.out.symm.trans hy)
             rw [HQ.out]; simp; try omega)
        | (simp [intOf]; omega)
    · obtain rfl : k = n := by omega
      have hy := qryB_yes (xs := xs) (fun j y h h2 => hall.out j y (by rw [← HX.out]; exact h) h2)
      go_wp2_with (go_at_call 38; refine (l01In _ 1 9 _).mono ?_; rintro e w' ⟨rfl, rfl⟩)
      go_ret
      exact ⟨ret_bool (by rw [hy, HX.out]), hbel⟩
set_option maxRecDepth 100000 in
set_option maxHeartbeats 4000000 in
theorem implIsValidQuery (va : Value) (n : Nat) (xs : List N) (w : World) (ha : Rd w va 7 n (rows N.c xs)) (hx : n ≤ 4000000) (hz : szAll N.sz xs ≤ 4000000) :
    Calls Tryz.prog 18 #[va] w fun e w' => e = .returned (.bool (qryB xs)) ∧ Grew w w' := by
  have HR := Lib.hid ha
  obtain ⟨a, ca, rfl, hca, hra⟩ := ha
  have HX := Lib.hid (hra.len_rows N.len (by decide))
  have HZ := Lib.hid hz
  clear hz
  go_enter Tryz.func18, Tryz.ntmps18
  go_wp2
  go_loopw [3, 7] (fun _ i wr => ∃ k : Nat, k ≤ n ∧ i = .int .i64 k ∧ Hid (∀ j y, j < k → xs[j]? = some y → qryAt xs j y = true) ∧ Grew w wr) (fun _ i _ => n - (intOf i).toNat)
  case atStart => exact ⟨0, Nat.zero_le _, rfl, Lib.hid (fun j y h => absurd h (Nat.not_lt_zero j)), Grew.refl _⟩
  case round =>
    obtain ⟨k, hk, rfl, hall, hbel⟩ := hrel
    by_cases hlt : k < n
    · have hr2 := hra.grew hbel
      obtain ⟨b1, o1, x, rfl, hxk, c0, c1, c2, c3, c4, c5, c6⟩ := hr2.getN hlt
      have hsz := small_sz HZ.out hxk.out
      obtain ⟨hs1, hs2⟩ := hsz
      obtain ⟨nb, hnb⟩ : ∃ b, b = nodB x k (wrap64 ((k : Int) - 1)) := ⟨_, rfl⟩
      obtain ⟨r, hr⟩ : ∃ r, r = refs xs k := ⟨_, rfl⟩
      have hq := qryAt_eq hnb hr
      rw [HX.out] at hq
      have HQ := Lib.hid hq
      have HN := Lib.hid hnb
      have HC := Lib.hid hr
      clear hq hnb hr
      have hcs : nb = false ∨ (nb = true ∧ ¬ (k + 1 < n)) ∨ (nb = true ∧ k + 1 < n ∧ ((r = 1) ∨ (r == 1) = false)) := by
        cases nb
        · exact .inl rfl
        · by_cases h1 : k + 1 < n
          · refine .inr (.inr ⟨rfl, h1, ?_⟩); by_cases h2 : r = 1
            · exact .inl h2
            · exact .inr (by simp [h2])
          · exact .inr (.inl ⟨rfl, h1⟩)
      rcases hcs with rfl | ⟨rfl, hk1⟩ | ⟨rfl, hk1, rfl | hr1⟩
      all_goals
        go_wp2_with (first | (go_at_call 39; refine (implIsValidNode x (k : Int) _ hs1 hs2).mono ?_; rintro e w1 ⟨he, hb⟩; rw [← HN.out] at he; subst he; obtain ⟨hc, hf⟩ := hb.cells) | (go_at_call 40; refine (implCountReferences _ n xs (k : Int) _ ⟨_, ca, rfl, hca, hra.grew ((hbel.alloc _).trans hb)⟩ hx).mono ?_; rintro e w2 ⟨he, hb2⟩; rw [← HC.out] at he; subst he; obtain ⟨hc2, hf2⟩ := hb2.cells))
      all_goals first | go_ret | go_roundw
      all_goals first
        | (refine ⟨ret_bool ?_, by first | exact (hbel.alloc _).trans hb | exact ((hbel.alloc _).trans hb).trans hb2⟩
           exact (qryB_no hxk.out (by rw [HQ.out]; simp [*])).symm)
        | (refine ⟨k + 1, by omega, by go_num, Lib.hid ?_, by first | exact (hbel.alloc _).trans hb | exact ((hbel.alloc _).trans hb).trans hb2⟩
           intro j y hj hy
           rcases Nat.lt_succ_iff_lt_or_eq.1 hj with h | rfl
           · exact hall.out j y h hy
           · obtain rfl := Option.some.inj (hxk.out.symm.trans hy)
             rw [HQ.out]; simp; try omega)
        | (simp [intOf]; omega)
    · obtain rfl : k = n := by omega
      have hy := qryB_yes (xs := xs) (fun j y h h2 => hall.out j y (by rw [← HX.out]; exact h) h2)
      go_wp2_with (go_at_call 37; refine (within _ 1 9 _).mono ?_; rintro e w' ⟨rfl, rfl⟩)
      go_ret
      exact ⟨ret_bool (by rw [hy, HX.out]), hbel⟩
end Go.Proofs.YtodbohmbdgbheaaGreatDoor
