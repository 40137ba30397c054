/- Contracts: ParseUint. -/
import Derived.Test.YtodbohmbdgbheaaGreatDoorTx6
import Derived.Lib.AtoiBound
namespace Go.Proofs.YtodbohmbdgbheaaGreatDoor
open Go.RowKit
set_option linter.unusedVariables false
theorem str_ne {a b : By} (h : a ≠ b) : (a.toList == b.toList) = false := by
  rw [Lib.toList_data, Lib.toList_data, beq_eq_false_iff_ne]
  exact fun e => h (ba_ext e)
theorem size_list (s : By) : s.size = s.data.toList.length := by rw [Array.length_toList]; rfl
theorem byte_at (s : By) {k : Nat} (h : k < s.size) : s.data.toList[k]? = some (s[k]'h) := by
  rw [Array.getElem?_toList]
  exact Array.getElem?_eq_getElem h
/-- What ParseUint returns. -/
def puI (s : By) : Int := match puN s.data.toList with
  | some n => n
  | none => 0
def puB (s : By) : Bool := (puN s.data.toList).isSome
theorem pu_no {s : By} (h : puN s.data.toList = none) : puI s = 0 ∧ puB s = false := by unfold puI puB; rw [h]; exact ⟨rfl, rfl⟩
theorem pu_yes {s : By} {n : Nat} (h : puN s.data.toList = some n) : puI s = n ∧ puB s = true := by unfold puI puB; rw [h]; exact ⟨rfl, rfl⟩
theorem pu_bad {l : List UInt8} {k : Nat} {b : UInt8} (h : l[k]? = some b) (hd : Lib.digitVal b = none) : puN l = none := by
  unfold puN
  cases hp : Lib.decFrom 0 l with
  | none => rfl
  | some n =>
    obtain ⟨d, h2⟩ := Lib.digit_of_decFrom l 0 n hp k b h
    rw [hd] at h2; cases h2
theorem dec_bound {l : List UInt8} {k m : Nat} (hl : l.length ≤ 10) (h : Lib.decFrom 0 (l.take k) = some m) : m < 10000000000 := by
  have h1 := Lib.decFrom_lt _ _ _ h
  have h2 : (l.take k).length ≤ 10 := by rw [List.length_take]; omega
  have h3 : 10 ^ (l.take k).length ≤ 10 ^ 10 := Nat.pow_le_pow_right (by decide) h2
  have h4 : (10 : Nat) ^ 10 = 10000000000 := by decide
  omega
theorem pu_big {l : List UInt8} {m : Nat} (h : Lib.decFrom 0 l = some m) (hm : 1000000000 < m) : puN l = none := by
  unfold puN
  rw [h]
  dsimp only
  rw [if_neg (by omega)]
theorem pu_other {l : List UInt8} {m : Nat} (h : Lib.decFrom 0 l = some m) (hm : Lib.decDigits m ≠ l) : puN l = none := by
  unfold puN
  rw [h]
  dsimp only
  rw [if_neg (by simp [hm])]
set_option maxRecDepth 100000 in
set_option maxHeartbeats 4000000 in
theorem specParseUint (s : By) (hs : s.size ≤ 4000000) (w : World) :
    Calls Tryz.prog 80 #[.string s] w fun e w' => e = .returned (.tuple #[.int .i64 (puI s), .bool (puB s)]) ∧ Grew w w' := by
  by_cases h10 : (10 : Int) < (s.size : Int)
  · have HP := Lib.hid (pu_no (s := s) (puN_long (by rw [← size_list]; omega)))
    go_enter Tryz.func80, Tryz.ntmps80
    go_wp2
    go_ret2
    exact ⟨(by rw [HP.out.1, HP.out.2] <;> rfl), Grew.refl _⟩
  · have hlen : s.data.toList.length ≤ 10 := by rw [← size_list]; omega
    have HLEN := Lib.hid hlen
    clear hlen
    go_enter Tryz.func80, Tryz.ntmps80
    go_wp2
    go_loop [4, 5] (fun n i => ∃ k m : Nat, k ≤ s.size ∧ m < 10000000000 ∧ i = .int .i64 k ∧ n = .int .i64 m ∧ Hid (Lib.decFrom 0 (s.data.toList.take k) = some m)) (fun n i => s.size - (intOf i).toNat)
    case atStart => exact ⟨0, 0, Nat.zero_le _, by decide, rfl, rfl, rfl⟩
    case round =>
      obtain ⟨k, m, hk, hm, rfl, rfl, hl⟩ := hrel
      by_cases hlt : k < s.size
      · have HB := Lib.hid (byte_at s hlt)
        by_cases h1 : (s[k].toNat : Int) < 48
        · have HP := Lib.hid (pu_no (s := s) (pu_bad HB.out (by unfold Lib.digitVal; rw [if_neg (by omega)])))
          go_wp2
          go_ret2
          exact ⟨(by rw [HP.out.1, HP.out.2] <;> rfl), Grew.refl _⟩
        · by_cases h2 : (57 : Int) < (s[k].toNat : Int)
          · have HP := Lib.hid (pu_no (s := s) (pu_bad HB.out (by unfold Lib.digitVal; rw [if_neg (by omega)])))
            go_wp2
            go_ret2
            exact ⟨(by rw [HP.out.1, HP.out.2] <;> rfl), Grew.refl _⟩
          · have HN := Lib.hid (Lib.decFrom_take _ k 0 m s[k] (s[k].toNat - 48) hl.out HB.out (by unfold Lib.digitVal; rw [if_pos (by omega)]))
            have hm2 := dec_bound HLEN.out HN.out
            go_wp2
            go_round
            case rel => exact ⟨k + 1, m * 10 + (s[k].toNat - 48), by omega, hm2, by go_num, congrArg (Value.int .i64) (by omega), HN.out⟩
            case measure => simp [intOf]; omega
      · obtain rfl : k = s.size := by omega
        have HA := Lib.hid (show Lib.decFrom 0 s.data.toList = some m by have h := hl.out; rw [size_list, List.take_length] at h; exact h)
        by_cases hbig : (1000000000 : Int) < m
        · have HP := Lib.hid (pu_no (s := s) (pu_big HA.out (by omega)))
          go_wp2
          go_ret2
          exact ⟨(by rw [HP.out.1, HP.out.2] <;> rfl), Grew.refl _⟩
        · obtain ⟨t, ht⟩ : ∃ t : By, (⟨(Lib.decDigits m).toArray⟩ : By) = t := ⟨_, rfl⟩
          have HT := Lib.hid ht
          clear ht
          by_cases he : t = s
          · subst he
            have HP := Lib.hid (pu_yes (s := t) (n := m) (by have h1 : t.data.toList = Lib.decDigits m := by rw [← HT.out]
                                                             rw [h1]; exact puN_dec (by omega)))
            go_wp2_with (go_at_call 84; refine (specFormatInt m (by omega) _).mono ?_; rintro e w1 ⟨he, g1⟩; rw [HT.out] at he; subst he)
            go_ret2
            exact ⟨(by rw [HP.out.1, HP.out.2] <;> rfl), g1⟩
          · have hne := str_ne he
            have HP := Lib.hid (pu_no (s := s) (pu_other HA.out (fun h => he (by rw [← HT.out, h]))))
            go_wp2_with (go_at_call 84; refine (specFormatInt m (by omega) _).mono ?_; rintro e w1 ⟨he, g1⟩; rw [HT.out] at he; subst he)
            go_ret2
            exact ⟨(by rw [HP.out.1, HP.out.2] <;> rfl), g1⟩
/-- What the parse's failure reads: the variable ErrSyntax holds an interface value. -/
def ErrS (w : World) : Prop := ∃ tp p, w.var? Tryz.prog "strconv.ErrSyntax" = some #[.iface tp p]
theorem ErrS.grew {w w' : World} (h : ErrS w) (hb : Grew w w') : ErrS w' := by
  obtain ⟨tp, p, h⟩ := h
  exact ⟨tp, p, var_grew h hb⟩
set_option maxRecDepth 100000 in
set_option maxHeartbeats 4000000 in
theorem implParseUint (s : By) (hs : s.size ≤ 4000000) (w : World) (ht : TabP w) (hE : ErrS w) :
    Calls Tryz.prog 76 #[.string s] w fun e w' => e = .returned (.tuple #[.int .i64 (puI s), .bool (puB s)]) ∧ Grew w w' := by
  have HTP := Lib.hid ht
  have HES := Lib.hid hE
  clear ht hE
  by_cases h10 : (10 : Int) < (s.size : Int)
  · have HP := Lib.hid (pu_no (s := s) (puN_long (by rw [← size_list]; omega)))
    go_enter Tryz.func76, Tryz.ntmps76
    go_wp2
    go_ret2
    exact ⟨(by rw [HP.out.1, HP.out.2] <;> rfl), Grew.refl _⟩
  · cases ha : Lib.atoi s.data.toList with
    | none =>
      have HA := Lib.hid ha
      have HP := Lib.hid (pu_no (s := s) (pu_atoi_none ha))
      clear ha
      obtain ⟨tp, p, hv⟩ := HES.out
      have HV := Lib.hid hv
      clear hv
      go_enter Tryz.func76, Tryz.ntmps76
      go_wp2_with (go_at_call 89; refine (Tryz.strconv_Atoi_err_var s (by omega) HA.out tp p _ HV.out).mono ?_; rintro e w1 ⟨N, rfl, _, _, g1⟩)
      go_ret2
      exact ⟨(by rw [HP.out.1, HP.out.2] <;> rfl), g1⟩
    | some v =>
      have HA := Lib.hid ha
      have HX := Lib.hid (pu_atoi ha)
      have hb := Lib.atoi_bound ha (by rw [← size_list]; omega)
      clear ha
      by_cases hr : 0 ≤ v ∧ v ≤ 1000000000
      · obtain ⟨m, rfl⟩ : ∃ m : Nat, v = m := ⟨v.toNat, by omega⟩
        have hw : inB (m : Int) 0 1000000000 = true := by simp [inB]; omega
        have HW := Lib.hid hw
        clear hw
        obtain ⟨t, ht⟩ : ∃ t : By, (⟨(Lib.decDigits m).toArray⟩ : By) = t := ⟨_, rfl⟩
        have HT := Lib.hid ht
        clear ht
        have arm := fun (w : World) => Tryz.strconv_Atoi s (m : Int) (by omega) HA.out w
        by_cases he : t = s
        · subst he
          have HP := Lib.hid (pu_yes (s := t) (n := m) (by have h1 : t.data.toList = Lib.decDigits m := by rw [← HT.out]
                                                           rw [h1]; exact puN_dec (by omega)))
          go_enter Tryz.func76, Tryz.ntmps76
          go_wp2_with (first | (go_at_call 89; refine (arm _).mono ?_; rintro e w1 ⟨rfl, t1, rfl⟩) | (go_at_call 37; refine (within _ _ _ _).mono ?_; rintro e w2 ⟨he, rfl⟩; rw [HW.out] at he; subst he) | (go_at_call 70; refine (implFormatInt m (by omega) _ (HTP.out.grew (Lib.bytesWorld_below _ _ _))).mono ?_; rintro e w3 ⟨he, g3⟩; rw [HT.out] at he; subst he))
          go_ret2
          exact ⟨(by rw [HP.out.1, HP.out.2] <;> rfl), Grew.trans (Lib.bytesWorld_below _ _ _) g3⟩
        · have hne := str_ne he
          have HP := Lib.hid (pu_no (s := s) (by rw [HX.out, if_neg]; rintro ⟨_, _, h⟩; rw [itoa_nat] at h; exact he (by rw [← HT.out, h])))
          go_enter Tryz.func76, Tryz.ntmps76
          go_wp2_with (first | (go_at_call 89; refine (arm _).mono ?_; rintro e w1 ⟨rfl, t1, rfl⟩) | (go_at_call 37; refine (within _ _ _ _).mono ?_; rintro e w2 ⟨he, rfl⟩; rw [HW.out] at he; subst he) | (go_at_call 70; refine (implFormatInt m (by omega) _ (HTP.out.grew (Lib.bytesWorld_below _ _ _))).mono ?_; rintro e w3 ⟨he, g3⟩; rw [HT.out] at he; subst he))
          go_ret2
          exact ⟨(by rw [HP.out.1, HP.out.2] <;> rfl), Grew.trans (Lib.bytesWorld_below _ _ _) g3⟩
      · have hw : inB v 0 1000000000 = false := by simp [inB]; omega
        have HW := Lib.hid hw
        clear hw
        have HP := Lib.hid (pu_no (s := s) (by rw [HX.out, if_neg (fun h => hr ⟨h.1, h.2.1⟩)]))
        go_enter Tryz.func76, Tryz.ntmps76
        go_wp2_with (first | (go_at_call 89; refine (Tryz.strconv_Atoi s v (by omega) HA.out _).mono ?_; rintro e w1 ⟨rfl, t1, rfl⟩) | (go_at_call 37; refine (within _ _ _ _).mono ?_; rintro e w2 ⟨he, rfl⟩; rw [HW.out] at he; subst he))
        go_ret2
        exact ⟨(by rw [HP.out.1, HP.out.2] <;> rfl), Lib.bytesWorld_below _ _ _⟩
end Go.Proofs.YtodbohmbdgbheaaGreatDoor
