/- Contracts: SplitFields of the program; a row of words that is read from its front. -/
import Derived.Test.YtodbohmbdgbheaaGreatDoorTx14
import Derived.Test.YtodbohmbdgbheaaGreatDoorTx5
namespace Go.Proofs.YtodbohmbdgbheaaGreatDoor
open Go.RowKit
set_option linter.unusedVariables false
/-- A slice of words in block F. -/
def RdF (w : World) (F : Nat) (v : Value) (ws : List By) : Prop :=
  ∃ o c, v = .slice (some ⟨F, o, none⟩) ws.length c ∧ ws.length ≤ c ∧ F < w.heap.size ∧ ∀ (j : Nat) x, ws[j]? = some x → w.cell? ⟨F, o + j, none⟩ = some (.string x)
theorem RdF.rd {w : World} {F : Nat} {v : Value} {ws : List By} (h : RdF w F v ws) : Rd w v 1 ws.length (strs ws) := by
  obtain ⟨o, c, rfl, hc, _, hx⟩ := h
  refine ⟨_, c, rfl, hc, by simp, fun _ => ⟨F, o, rfl, fun j hj => ?_⟩⟩
  have hj' : j < ws.length := by omega
  rw [hx j ws[j] (List.getElem?_eq_getElem hj')]
  simp [hj']
theorem RdF.grew {w w' : World} {F : Nat} {v : Value} {ws : List By} (h : RdF w F v ws) (hg : Grew w w') : RdF w' F v ws := by
  obtain ⟨o, c, h1, hc, hf, hx⟩ := h
  exact ⟨o, c, h1, hc, Nat.lt_of_lt_of_le hf hg.size, fun j x h => grew_cell hg (hx j x h)⟩
/-- The table of the blanks is laid. -/
def TabA (w : World) : Prop := Lib.TabIs Tryz.prog w "strings.asciiSpace" .u8 Lib.asciiSpaceTab
theorem TabA.grew {w w' : World} (h : TabA w) (hb : Grew w w') : TabA w' := var_grew h hb
set_option maxRecDepth 100000 in
set_option maxHeartbeats 4000000 in
theorem implSplitFields (s : By) (hs : s.size ≤ 4000000) (w : World) (ht : TabA w) :
    Calls Tryz.prog 27 #[.string s] w fun e w' => ∃ v, e = .returned (.tuple #[v, .bool (sfB s)]) ∧ (sfB s = true → RdF w' w.heap.size v (sfL s)) ∧ Grew w w' := by
  have HT := Lib.hid ht
  clear ht
  by_cases h600 : (600 : Int) < (s.size : Int)
  · have HP := Lib.hid (show sfB s = false by unfold sfB; rw [decide_eq_false (by omega)]; rfl)
    go_enter Tryz.func27, Tryz.ntmps27
    go_wp2
    go_ret2
    exact ⟨_, (by rw [HP.out] <;> rfl), (fun h => by rw [HP.out] at h; cases h), Grew.refl _⟩
  · have HS := Lib.hid (size_list' s)
    have HAS := Lib.hid (fun (k : Nat) (h : k < s.size) => byte_at' s h)
    have hsz : (s.size : Int) ≤ 600 := by omega
    go_enter Tryz.func27, Tryz.ntmps27
    go_wp2
    go_loop [4, 11] (fun _ i => ∃ k : Nat, k ≤ s.size ∧ i = .int .i64 k ∧ Hid (∀ j x, j < k → s.data.toList[j]? = some x → 32 ≤ x.toNat ∧ x.toNat ≤ 126)) (fun _ i => s.size - (intOf i).toNat)
    case atStart => exact ⟨0, Nat.zero_le _, rfl, fun j x h => absurd h (Nat.not_lt_zero _)⟩
    case round =>
      obtain ⟨k, hk, rfl, hR⟩ := hrel
      by_cases hlt : k < s.size
      · have HB := Lib.hid (HAS.out k hlt)
        by_cases h1 : 32 ≤ s[k].toNat ∧ s[k].toNat ≤ 126
        · have HW := Lib.hid (show inB (s[k].toNat : Int) 32 126 = true by simp [inB]; omega)
          go_wp2_with (go_at_call 37; refine (within _ _ _ _).mono ?_; rintro e w2 ⟨he, rfl⟩; rw [HW.out] at he; subst he)
          go_round
          case rel => exact ⟨k + 1, by omega, by go_num, fun j x hj hx => by
            by_cases e : j = k
            · subst e; rw [HB.out] at hx; injection hx with hx; subst hx; exact h1
            · exact hR.out j x (by omega) hx⟩
          case measure => simp [intOf]; omega
        · have HW := Lib.hid (show inB (s[k].toNat : Int) 32 126 = false by simp [inB]; omega)
          have HP := Lib.hid (show sfB s = false by unfold sfB; rw [asc_no HB.out (by omega)]; simp)
          clear h1
          have hwr : wrap64 (s[k].toNat : Int) = (s[k].toNat : Int) := by unfold wrap64; have := s[k].toNat_lt; omega
          go_wp2_with (go_at_call 37; refine (within _ _ _ _).mono ?_; rintro e w2 ⟨he, rfl⟩; rw [HW.out] at he; subst he)
          go_ret2
          exact ⟨_, (by rw [HP.out] <;> rfl), (fun h => by rw [HP.out] at h; cases h), Grew.refl _⟩
      · obtain rfl : k = s.size := by omega
        have HALL := Lib.hid (show ∀ x ∈ s.data.toList, 32 ≤ x.toNat ∧ x.toNat ≤ 126 from fun x hx => by
          obtain ⟨j, hj⟩ := List.getElem?_of_mem hx
          exact hR.out j x (by have := (List.getElem?_eq_some_iff.1 hj).1; rw [HS.out]; omega) hj)
        have HA := Lib.hid (show ascB s.data.toList = true from List.all_eq_true.2 fun x hx => by
          simp only [decide_eq_true_eq]; exact HALL.out x hx)
        have HASC := Lib.hid (show ∀ (j : Nat) b, s.data.toList[j]? = some b → b.toNat < 128 from fun j b h => by have := HALL.out b (List.mem_of_getElem? h); omega)
        have cF := Lib.hid (fun (w : World) (h : TabA w) => Tryz.strings_Fields_laid s w (by omega) HASC.out h)
        obtain ⟨n, hn⟩ : ∃ n, (Lib.fields s.data.toList).length = n := ⟨_, rfl⟩
        have HN := Lib.hid hn
        clear hn
        have arm := Lib.hid (show ∀ w : World, TabA w → Calls Tryz.prog 50 #[.string s] w fun e w' => e = .returned (.slice (some ⟨w.heap.size, 0, none⟩) n n) ∧ w' = w.alloc (.cells ((Lib.fieldsB s).map Value.string).toArray 9) from fun w h => by
          have h1 := cF.out w h
          rw [HN.out, Lib.fields_pieces] at h1
          exact h1)
        by_cases h24 : (24 : Int) < n
        · have HP := Lib.hid (show sfB s = false by unfold sfB; rw [HN.out, decide_eq_false (by omega : ¬ n ≤ 24)]; simp)
          go_wp2_with (go_at_call 50; refine (arm.out _ HT.out).mono ?_; rintro e w2 ⟨rfl, rfl⟩)
          go_ret2
          exact ⟨_, (by rw [HP.out] <;> rfl), (fun h => by rw [HP.out] at h; cases h), (Grew.refl _).alloc _⟩
        · have HP := Lib.hid (show sfB s = true by unfold sfB; rw [HN.out, HA.out, decide_eq_true (by omega : n ≤ 24), decide_eq_true (by omega : s.size ≤ 600)]; rfl)
          go_wp2_with (go_at_call 50; refine (arm.out _ HT.out).mono ?_; rintro e w2 ⟨rfl, rfl⟩)
          go_ret2
          refine ⟨_, (by rw [HP.out] <;> rfl), fun _ => ?_, (Grew.refl _).alloc _⟩
          rw [sf_yes HP.out]
          have hl : (Lib.fieldsB s).length = n := by rw [Lib.fieldsB_length, HN.out]
          exact ⟨0, n, (by rw [hl] <;> rfl), by omega, by simp, Lib.pieces_cell _ _ _⟩
end Go.Proofs.YtodbohmbdgbheaaGreatDoor
