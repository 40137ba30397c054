/- Texts N2, Y2, Y13, Y12, G2, Z16, Z3, Z4, Z6, as far as they are needed. -/
import Derived.Test.YtemikjbfjhebnaaGreatNi4
import Derived.Test.YtemikjbfjhebnaaGreatNi1
import Derived.Test.YtemikjbfjhebnaaGreatNi5
import Derived.Test.YtemikjbfjhebnaaGreatNi2
import Derived.Test.YtemikjbfjhebnaaGreatNi3
namespace Go.Proofs.YtemikjbfjhebnaaGreat
open Go.RowKit
set_option linter.unusedVariables false
theorem held3c {wr w' w1 : World} {a b c : Addr} {u v x : Value} (h : w'.cell? a = some u ∧ w'.cell? b = some v ∧ w'.cell? c = some x ∧ Grew wr w') (hb : Grew w' w1) : w1.cell? a = some u ∧ w1.cell? b = some v ∧ w1.cell? c = some x ∧ Grew wr w1 :=
 ⟨grew_cell hb h.1, grew_cell hb h.2.1, grew_cell hb h.2.2.1, h.2.2.2.trans hb⟩
noncomputable def ascB (xs : List Dr) (i : Nat) (x : Dr) : Bool := match i with
 | 0 => true
 | j + 1 => match xs[j]? with
  | some y => Op.bytesLess y.name.toList x.name.toList
  | none => true
noncomputable def dirAt (xs : List Dr) (i : Nat) (x : Dr) : Bool := txtB x.name 6 && (qryB x.query && ascB xs i x)
theorem dirs_ex (xs : List Dr) : ∃ b : Bool, b = true ↔ ∀ (i : Nat) x, xs[i]? = some x → dirAt xs i x = true := by
 cases Classical.em (∀ (i : Nat) x, xs[i]? = some x → dirAt xs i x = true) with
 | inl h => exact ⟨true, ⟨fun _ => h, fun _ => rfl⟩⟩
 | inr h => exact ⟨false, ⟨fun e => Bool.noConfusion e, fun e => absurd e h⟩⟩
noncomputable def dirsB (xs : List Dr) : Bool := (dirs_ex xs).choose && decide (xs.length ≤ 5)
theorem dirsB_no {xs : List Dr} {i : Nat} {x : Dr} (h : xs[i]? = some x) (hn : dirAt xs i x = false) : dirsB xs = false := by
 have h1 := (dirs_ex xs).choose_spec
 unfold dirsB
 cases hc : (dirs_ex xs).choose with
 | false => rfl
 | true => rw [h1.1 hc i x h] at hn; cases hn
theorem dirsB_yes {xs : List Dr} (h : ∀ (i : Nat) x, i < xs.length → xs[i]? = some x → dirAt xs i x = true) : dirsB xs = decide (xs.length ≤ 5) := by
 have h1 := (dirs_ex xs).choose_spec
 unfold dirsB
 rw [h1.2 (fun i x hx => h i x (List.getElem?_eq_some_iff.1 hx).1 hx)]; rfl
theorem dir_sz {xs : List Dr} {x : Dr} {i : Nat} (hz : szAll Dr.sz xs ≤ 4000000) (h : xs[i]? = some x) : x.name.size ≤ 4000000 ∧ x.query.length ≤ 4000000 ∧ szAll N.sz x.query ≤ 4000000 := by
 have h1 := mem_szAll (f := Dr.sz) (List.mem_of_getElem? h)
 unfold Dr.sz at h1
 unfold Dr.sz at hz
 refine ⟨?_, ?_, ?_⟩ <;> omega
theorem alls_snoc {xs : List Dr} {k : Nat} {x : Dr} (h : ∀ (j : Nat) y, j < k → xs[j]? = some y → dirAt xs j y = true) (hx : xs[k]? = some x) (hn : dirAt xs k x = true) : ∀ (j : Nat) y, j < k + 1 → xs[j]? = some y → dirAt xs j y = true := fun j y hj hy => by
 rcases Nat.lt_succ_iff_lt_or_eq.1 hj with h1 | rfl
 ·
  exact h j y h1 hy
 ·
  obtain rfl := Option.some.inj (hx.symm.trans hy); exact hn
set_option maxRecDepth 100000 in
set_option maxHeartbeats 2000000 in
theorem specIsValidDirs (va : Value) (xs : List Dr) (w : World) (ha : RdDs w va xs) (hx : xs.length ≤ 4000000) (hz : szAll Dr.sz xs ≤ 4000000) :
  Calls Tryz.prog 84 #[va] w fun e w' => e = .returned (.bool (dirsB xs)) ∧ Grew w w' := by
 obtain ⟨qs, ⟨a, ca, rfl, hca, hra⟩, hall⟩ := ha
 have HA := Lib.hid hall
 have HZ := Lib.hid hz
 clear hall hz
 generalize hn : xs.length = n at hx hra
 have HX := Lib.hid hn
 clear hn
 go_enter Tryz.func84, Tryz.ntmps84
 go_wp2
 go_loopw [3] (fun i wr => ∃ k : Nat, k ≤ n ∧ i = .int .i64 k ∧ Hid (∀ (j : Nat) y, j < k → xs[j]? = some y → dirAt xs j y = true) ∧ Grew w wr) (fun i _ => n - (intOf i).toNat)
 case atStart => exact ⟨0, Nat.zero_le _, rfl, Lib.hid (fun j y h => absurd h (Nat.not_lt_zero j)), Grew.refl _⟩
 case round =>
  obtain ⟨k, hk, rfl, hsame, hbel⟩ := hrel
  by_cases hlt : k < n
  ·
   obtain ⟨b1, o1, p, rfl, hpk, c0, c1⟩ := (hra.grew hbel).getP2 hlt
   obtain ⟨x, hxk, hxr⟩ := HA.out.get hpk.out
   obtain ⟨hs1, hs2, hs3⟩ := dir_sz HZ.out hxk.out
   obtain ⟨pn, pq⟩ := p
   obtain ⟨hxn, hxq⟩ := hxr
   simp only at hxn hxq c0 c1
   subst hxn
   have HQ := Lib.hid hxq
   obtain ⟨pa, pc, rfl, hpc, hpr⟩ := hxq
   clear hpr
   obtain ⟨tv, htv⟩ : ∃ b, b = txtB x.name 6 := ⟨_, rfl⟩
   obtain ⟨qv, hqv⟩ : ∃ b, b = qryB x.query := ⟨_, rfl⟩
   have HT := Lib.hid htv
   have HV := Lib.hid hqv
   clear htv hqv
   have DA := Lib.hid (show ∀ (xs : List Dr) (i : Nat), dirAt xs i x = (tv && (qv && ascB xs i x)) from fun xs i => by rw [HT.out, HV.out]; rfl)
   have hcs : tv = false ∨ tv = true := by cases tv <;> simp
   have hcq : qv = false ∨ qv = true := by cases qv <;> simp
   rcases hcs with rfl | rfl
   ·
    have hk0 := hk
    go_wp2_with fail
    refine wp_region_noPanic ?_
    refine wp_region_held_drew (S := (fun w' => (w'.cell? ⟨b1, o1 + k * 2, none⟩ = some (.string x.name) ∧ w'.cell? ⟨b1, o1 + k * 2 + 1, none⟩ = some (.slice pa x.query.length pc) ∧ Grew wr w'))) (by kernel_rfl) ?h1_S ?h1_r
    case h1_S => exact ⟨c0, c1, (Grew.refl _).drew⟩
    case h1_r =>
     intro HS
     refine tk' 0 HS ?_
     refine tk' 1 HS ?_
     refine tk' 2 HS ?_
     refine tk' 3 HS ?_
     refine tk' 4 HS ?_
     refine cl' 5 fun K hK => ?_
     go_simp
     go_at_call 97; refine (specIsValidString _ _ hs1).mono ?_; rintro e w1 ⟨he, rfl⟩; rw [← HT.out] at he; subst he
     refine hK.out _ _ ?s1_5 ?r1_5
     case s1_5 => (try dsimp only); first | exact HS | exact held2 HS hb
     case r1_5 =>
      clear HS hK K; intro HS
      try simp only [Act.put, lpa, lpb, lpc]
      refine tk' 6 HS ?_
      refine tk' 7 HS ?_
      refine sk' 8 HS ?_
      refine sk' 9 HS ?_
      refine sk' 10 HS ?_
      refine sk' 11 HS ?_
      refine sk' 12 HS ?_
      refine cl' 13 fun K hK => ?_
      go_simp
      refine hK.out _ _ HS ?r1_13
      case r1_13 =>
       clear HS hK K; intro HS
       try simp only [Act.put, lpa, lpb, lpc]
       refine sk' 14 HS ?_
       refine tk' 15 HS ?_
       refine tk' 16 HS ?_
       refine sk' 17 HS ?_
       refine sk' 18 HS ?_
       refine sk' 19 HS ?_
       refine sk' 20 HS ?_
       refine sk' 21 HS ?_
       refine sk' 22 HS ?_
       refine sk' 23 HS ?_
       refine sk' 24 HS ?_
       refine sk' 25 HS ?_
       refine sk' 26 HS ?_
       refine sk' 27 HS ?_
       refine sk' 28 HS ?_
       refine sk' 29 HS ?_
       refine sk' 30 HS ?_
       refine sk' 31 HS ?_
       refine sk' 32 HS ?_
       refine tk' 33 HS ?_
       refine wpAnyH_done (by kernel_rfl) ?_ _
       refine NoPanic.normal ?_
       go_wp2
       go_ret
       refine ⟨ret_bool ?_, hbel.trans (HS.2.2)⟩
       exact (dirsB_no hxk.out (by rw [DA.out]; rfl)).symm
   ·
    rcases hcq with rfl | rfl
    ·
     have hk0 := hk
     go_wp2_with fail
     refine wp_region_noPanic ?_
     refine wp_region_held_drew (S := (fun w' => (w'.cell? ⟨b1, o1 + k * 2, none⟩ = some (.string x.name) ∧ w'.cell? ⟨b1, o1 + k * 2 + 1, none⟩ = some (.slice pa x.query.length pc) ∧ Grew wr w'))) (by kernel_rfl) ?h2_S ?h2_r
     case h2_S => exact ⟨c0, c1, (Grew.refl _).drew⟩
     case h2_r =>
      intro HS
      refine tk' 0 HS ?_
      refine tk' 1 HS ?_
      refine tk' 2 HS ?_
      refine tk' 3 HS ?_
      refine tk' 4 HS ?_
      refine cl' 5 fun K hK => ?_
      go_simp
      go_at_call 97; refine (specIsValidString _ _ hs1).mono ?_; rintro e w1 ⟨he, rfl⟩; rw [← HT.out] at he; subst he
      refine hK.out _ _ ?s2_5 ?r2_5
      case s2_5 => (try dsimp only); first | exact HS | exact held2 HS hb
      case r2_5 =>
       clear HS hK K; intro HS
       try simp only [Act.put, lpa, lpb, lpc]
       refine tk' 6 HS ?_
       refine tk' 7 HS ?_
       refine tk' 8 HS ?_
       refine tk' 9 HS ?_
       refine tk' 10 HS ?_
       refine tk' 11 HS ?_
       refine tk' 12 HS ?_
       refine cl' 13 fun K hK => ?_
       go_simp
       go_at_call 100; refine (specIsValidQuery _ x.query.length x.query _ (HQ.out.grew (hbel.trans (HS.2.2))) hs2 hs3).mono ?_; rintro e w1 ⟨he, hb⟩; rw [← HV.out] at he; subst he
       refine hK.out _ _ ?s2_13 ?r2_13
       case s2_13 => (try dsimp only); first | exact HS | exact held2 HS hb
       case r2_13 =>
        clear HS hK K; intro HS
        try simp only [Act.put, lpa, lpb, lpc]
        refine tk' 14 HS ?_
        refine tk' 15 HS ?_
        refine tk' 16 HS ?_
        refine sk' 17 HS ?_
        refine sk' 18 HS ?_
        refine sk' 19 HS ?_
        refine sk' 20 HS ?_
        refine sk' 21 HS ?_
        refine sk' 22 HS ?_
        refine sk' 23 HS ?_
        refine sk' 24 HS ?_
        refine sk' 25 HS ?_
        refine sk' 26 HS ?_
        refine sk' 27 HS ?_
        refine sk' 28 HS ?_
        refine sk' 29 HS ?_
        refine sk' 30 HS ?_
        refine sk' 31 HS ?_
        refine sk' 32 HS ?_
        refine tk' 33 HS ?_
        refine wpAnyH_done (by kernel_rfl) ?_ _
        refine NoPanic.normal ?_
        go_wp2
        go_ret
        refine ⟨ret_bool ?_, hbel.trans (HS.2.2)⟩
        exact (dirsB_no hxk.out (by rw [DA.out]; rfl)).symm
    ·
     by_cases hk1 : ¬ (0 < k)
     ·
      have hk0 := hk
      go_wp2_with fail
      refine wp_region_noPanic ?_
      refine wp_region_held_drew (S := (fun w' => (w'.cell? ⟨b1, o1 + k * 2, none⟩ = some (.string x.name) ∧ w'.cell? ⟨b1, o1 + k * 2 + 1, none⟩ = some (.slice pa x.query.length pc) ∧ Grew wr w'))) (by kernel_rfl) ?h3_S ?h3_r
      case h3_S => exact ⟨c0, c1, (Grew.refl _).drew⟩
      case h3_r =>
       intro HS
       refine tk' 0 HS ?_
       refine tk' 1 HS ?_
       refine tk' 2 HS ?_
       refine tk' 3 HS ?_
       refine tk' 4 HS ?_
       refine cl' 5 fun K hK => ?_
       go_simp
       go_at_call 97; refine (specIsValidString _ _ hs1).mono ?_; rintro e w1 ⟨he, rfl⟩; rw [← HT.out] at he; subst he
       refine hK.out _ _ ?s3_5 ?r3_5
       case s3_5 => (try dsimp only); first | exact HS | exact held2 HS hb
       case r3_5 =>
        clear HS hK K; intro HS
        try simp only [Act.put, lpa, lpb, lpc]
        refine tk' 6 HS ?_
        refine tk' 7 HS ?_
        refine tk' 8 HS ?_
        refine tk' 9 HS ?_
        refine tk' 10 HS ?_
        refine tk' 11 HS ?_
        refine tk' 12 HS ?_
        refine cl' 13 fun K hK => ?_
        go_simp
        go_at_call 100; refine (specIsValidQuery _ x.query.length x.query _ (HQ.out.grew (hbel.trans (HS.2.2))) hs2 hs3).mono ?_; rintro e w1 ⟨he, hb⟩; rw [← HV.out] at he; subst he
        refine hK.out _ _ ?s3_13 ?r3_13
        case s3_13 => (try dsimp only); first | exact HS | exact held2 HS hb
        case r3_13 =>
         clear HS hK K; intro HS
         try simp only [Act.put, lpa, lpb, lpc]
         refine tk' 14 HS ?_
         refine tk' 15 HS ?_
         refine tk' 16 HS ?_
         refine tk' 17 HS ?_
         refine tk' 18 HS ?_
         refine tk' 19 HS ?_
         refine sk' 20 HS ?_
         refine sk' 21 HS ?_
         refine sk' 22 HS ?_
         refine sk' 23 HS ?_
         refine sk' 24 HS ?_
         refine sk' 25 HS ?_
         refine sk' 26 HS ?_
         refine sk' 27 HS ?_
         refine sk' 28 HS ?_
         refine sk' 29 HS ?_
         refine sk' 30 HS ?_
         refine sk' 31 HS ?_
         refine tk' 32 HS ?_
         refine tk' 33 HS ?_
         refine wpAnyH_done (by kernel_rfl) ?_ _
         refine NoPanic.normal ?_
         go_wp2
         go_roundw
         case rel => exact ⟨k + 1, by omega, by go_num, Lib.hid (alls_snoc hsame.out hxk.out (by rw [DA.out, Nat.eq_zero_of_not_pos hk1]; rfl)), hbel.trans (HS.2.2)⟩
         case measure => simp [intOf]; omega
     ·
      obtain ⟨p, rfl⟩ : ∃ p, k = p + 1 := ⟨k - 1, by omega⟩
      obtain ⟨b2, o2, pp, hab, hyp, d0, d1⟩ := (hra.grew hbel).getP2 (show p < n by omega)
      obtain ⟨y, hyk, hyr⟩ := HA.out.get hyp.out
      obtain ⟨rfl, rfl⟩ : b1 = b2 ∧ o1 = o2 := by cases hab; exact ⟨rfl, rfl⟩
      clear hab
      obtain ⟨yn, yq⟩ := pp
      obtain ⟨hyn, hyq⟩ := hyr
      simp only at hyn hyq d0 d1
      subst hyn
      clear hyq d1
      have hpp : ((p + 1 : Nat) : Int) - 1 = (p : Int) := by omega
      have hp0 : (0 : Int) ≤ (p : Int) + 1 := by omega
      have hp1 : (p : Int) < (n : Int) := by omega
      have hwp : IntKind.i64.wrap (p : Int) = (p : Int) := by simp [IntKind.wrap, IntKind.bits, IntKind.signed]; omega
      obtain ⟨lv, hlv⟩ : ∃ b, Op.bytesLess y.name.toList x.name.toList = b := ⟨_, rfl⟩
      have DS := Lib.hid (show dirAt xs (p + 1) x = (true && (true && lv)) by rw [DA.out]; unfold ascB; simp only; rw [hyk.out]; simp only; rw [hlv])
      have hcl : lv = false ∨ lv = true := by cases lv <;> simp
      rcases hcl with rfl | rfl
      ·
       have hk0 := hk
       go_wp2_with fail
       refine wp_region_noPanic ?_
       refine wp_region_held_drew (S := (fun w' => (w'.cell? ⟨b1, o1 + (p + 1) * 2, none⟩ = some (.string x.name) ∧ w'.cell? ⟨b1, o1 + (p + 1) * 2 + 1, none⟩ = some (.slice pa x.query.length pc) ∧ w'.cell? ⟨b1, o1 + p * 2, none⟩ = some (.string y.name) ∧ Grew wr w'))) (by kernel_rfl) ?h4_S ?h4_r
       case h4_S => exact ⟨c0, c1, d0, (Grew.refl _).drew⟩
       case h4_r =>
        intro HS
        refine tk' 0 HS ?_
        refine tk' 1 HS ?_
        refine tk' 2 HS ?_
        refine tk' 3 HS ?_
        refine tk' 4 HS ?_
        refine cl' 5 fun K hK => ?_
        go_simp
        go_at_call 97; refine (specIsValidString _ _ hs1).mono ?_; rintro e w1 ⟨he, rfl⟩; rw [← HT.out] at he; subst he
        refine hK.out _ _ ?s4_5 ?r4_5
        case s4_5 => (try dsimp only); first | exact HS | exact held3c HS hb
        case r4_5 =>
         clear HS hK K; intro HS
         try simp only [Act.put, lpa, lpb, lpc]
         refine tk' 6 HS ?_
         refine tk' 7 HS ?_
         refine tk' 8 HS ?_
         refine tk' 9 HS ?_
         refine tk' 10 HS ?_
         refine tk' 11 HS ?_
         refine tk' 12 HS ?_
         refine cl' 13 fun K hK => ?_
         go_simp
         go_at_call 100; refine (specIsValidQuery _ x.query.length x.query _ (HQ.out.grew (hbel.trans (HS.2.2.2))) hs2 hs3).mono ?_; rintro e w1 ⟨he, hb⟩; rw [← HV.out] at he; subst he
         refine hK.out _ _ ?s4_13 ?r4_13
         case s4_13 => (try dsimp only); first | exact HS | exact held3c HS hb
         case r4_13 =>
          clear HS hK K; intro HS
          try simp only [Act.put, lpa, lpb, lpc]
          refine tk' 14 HS ?_
          refine tk' 15 HS ?_
          refine tk' 16 HS ?_
          refine tk' 17 HS ?_
          refine tk' 18 HS ?_
          refine tk' 19 HS ?_
          refine tk' 20 HS ?_
          refine tk' 21 HS ?_
          refine tk' 22 HS ?_
          refine tk' 23 HS ?_
          refine tk' 24 HS ?_
          refine tk' 25 HS ?_
          refine tk' 26 HS ?_
          refine tk' 27 HS ?_
          refine tk' 28 HS ?_
          refine tk' 29 HS ?_
          refine tk' 30 HS ?_
          refine tk' 31 HS ?_
          refine tk' 32 HS ?_
          refine tk' 33 HS ?_
          refine wpAnyH_done (by kernel_rfl) ?_ _
          refine NoPanic.normal ?_
          go_wp2
          go_ret
          refine ⟨ret_bool ?_, hbel.trans (HS.2.2.2)⟩
          exact (dirsB_no hxk.out (by rw [DS.out]; rfl)).symm
      ·
       have hk0 := hk
       go_wp2_with fail
       refine wp_region_noPanic ?_
       refine wp_region_held_drew (S := (fun w' => (w'.cell? ⟨b1, o1 + (p + 1) * 2, none⟩ = some (.string x.name) ∧ w'.cell? ⟨b1, o1 + (p + 1) * 2 + 1, none⟩ = some (.slice pa x.query.length pc) ∧ w'.cell? ⟨b1, o1 + p * 2, none⟩ = some (.string y.name) ∧ Grew wr w'))) (by kernel_rfl) ?h5_S ?h5_r
       case h5_S => exact ⟨c0, c1, d0, (Grew.refl _).drew⟩
       case h5_r =>
        intro HS
        refine tk' 0 HS ?_
        refine tk' 1 HS ?_
        refine tk' 2 HS ?_
        refine tk' 3 HS ?_
        refine tk' 4 HS ?_
        refine cl' 5 fun K hK => ?_
        go_simp
        go_at_call 97; refine (specIsValidString _ _ hs1).mono ?_; rintro e w1 ⟨he, rfl⟩; rw [← HT.out] at he; subst he
        refine hK.out _ _ ?s5_5 ?r5_5
        case s5_5 => (try dsimp only); first | exact HS | exact held3c HS hb
        case r5_5 =>
         clear HS hK K; intro HS
         try simp only [Act.put, lpa, lpb, lpc]
         refine tk' 6 HS ?_
         refine tk' 7 HS ?_
         refine tk' 8 HS ?_
         refine tk' 9 HS ?_
         refine tk' 10 HS ?_
         refine tk' 11 HS ?_
         refine tk' 12 HS ?_
         refine cl' 13 fun K hK => ?_
         go_simp
         go_at_call 100; refine (specIsValidQuery _ x.query.length x.query _ (HQ.out.grew (hbel.trans (HS.2.2.2))) hs2 hs3).mono ?_; rintro e w1 ⟨he, hb⟩; rw [← HV.out] at he; subst he
         refine hK.out _ _ ?s5_13 ?r5_13
         case s5_13 => (try dsimp only); first | exact HS | exact held3c HS hb
         case r5_13 =>
          clear HS hK K; intro HS
          try simp only [Act.put, lpa, lpb, lpc]
          refine tk' 14 HS ?_
          refine tk' 15 HS ?_
          refine tk' 16 HS ?_
          refine tk' 17 HS ?_
          refine tk' 18 HS ?_
          refine tk' 19 HS ?_
          refine tk' 20 HS ?_
          refine tk' 21 HS ?_
          refine tk' 22 HS ?_
          refine tk' 23 HS ?_
          refine tk' 24 HS ?_
          refine tk' 25 HS ?_
          refine tk' 26 HS ?_
          refine tk' 27 HS ?_
          refine tk' 28 HS ?_
          refine tk' 29 HS ?_
          refine tk' 30 HS ?_
          refine tk' 31 HS ?_
          refine tk' 32 HS ?_
          refine tk' 33 HS ?_
          refine wpAnyH_done (by kernel_rfl) ?_ _
          refine NoPanic.normal ?_
          go_wp2
          go_roundw
          case rel => exact ⟨p + 1 + 1, by omega, by go_num, Lib.hid (alls_snoc hsame.out hxk.out (by rw [DS.out]; rfl)), hbel.trans (HS.2.2.2)⟩
          case measure => simp [intOf]; omega
  ·
   obtain rfl : k = n := by omega
   have hy := dirsB_yes (xs := xs) (fun j y h h2 => hsame.out j y (by rw [← HX.out]; exact h) h2)
   go_wp2
   go_ret
   refine ⟨ret_bool ?_, hbel⟩
   rw [hy, HX.out]; simp; omega
set_option maxRecDepth 100000 in
set_option maxHeartbeats 2000000 in
theorem implIsValidDirs (va : Value) (xs : List Dr) (w : World) (ha : RdDs w va xs) (hx : xs.length ≤ 4000000) (hz : szAll Dr.sz xs ≤ 4000000) :
  Calls Tryz.prog 106 #[va] w fun e w' => e = .returned (.bool (dirsB xs)) ∧ Grew w w' := by
 obtain ⟨qs, ⟨a, ca, rfl, hca, hra⟩, hall⟩ := ha
 have HA := Lib.hid hall
 have HZ := Lib.hid hz
 clear hall hz
 generalize hn : xs.length = n at hx hra
 have HX := Lib.hid hn
 clear hn
 go_enter Tryz.func106, Tryz.ntmps106
 go_wp2
 go_loopw [7] (fun i wr => ∃ k : Nat, k ≤ n ∧ i = .int .i64 k ∧ Hid (∀ (j : Nat) y, j < k → xs[j]? = some y → dirAt xs j y = true) ∧ Grew w wr) (fun i _ => n - (intOf i).toNat)
 case atStart => exact ⟨0, Nat.zero_le _, rfl, Lib.hid (fun j y h => absurd h (Nat.not_lt_zero j)), Grew.refl _⟩
 case round =>
  obtain ⟨k, hk, rfl, hsame, hbel⟩ := hrel
  by_cases hlt : k < n
  ·
   obtain ⟨b1, o1, p, rfl, hpk, c0, c1⟩ := (hra.grew hbel).getP2 hlt
   obtain ⟨x, hxk, hxr⟩ := HA.out.get hpk.out
   obtain ⟨hs1, hs2, hs3⟩ := dir_sz HZ.out hxk.out
   obtain ⟨pn, pq⟩ := p
   obtain ⟨hxn, hxq⟩ := hxr
   simp only at hxn hxq c0 c1
   subst hxn
   have HQ := Lib.hid hxq
   obtain ⟨pa, pc, rfl, hpc, hpr⟩ := hxq
   clear hpr
   obtain ⟨tv, htv⟩ : ∃ b, b = txtB x.name 6 := ⟨_, rfl⟩
   obtain ⟨qv, hqv⟩ : ∃ b, b = qryB x.query := ⟨_, rfl⟩
   have HT := Lib.hid htv
   have HV := Lib.hid hqv
   clear htv hqv
   have DA := Lib.hid (show ∀ (xs : List Dr) (i : Nat), dirAt xs i x = (tv && (qv && ascB xs i x)) from fun xs i => by rw [HT.out, HV.out]; rfl)
   have hcs : tv = false ∨ tv = true := by cases tv <;> simp
   have hcq : qv = false ∨ qv = true := by cases qv <;> simp
   rcases hcs with rfl | rfl
   ·
    have hk0 := hk
    go_wp2_with fail
    have c0 : (wr.alloc (.cells #[.string x.name, .slice pa x.query.length pc] 39)).cell? ⟨wr.heap.size, 0, none⟩ = some (.string x.name) := by simp
    have c1 : (wr.alloc (.cells #[.string x.name, .slice pa x.query.length pc] 39)).cell? ⟨wr.heap.size, 1, none⟩ = some (.slice pa x.query.length pc) := by simp
    have hal := (Grew.refl wr).alloc (.cells #[.string x.name, .slice pa x.query.length pc] 39)
    generalize wr.alloc (.cells #[.string x.name, .slice pa x.query.length pc] 39) = W at c0 c1 hal ⊢
    refine wp_region_noPanic ?_
    refine wp_region_held_drew (S := (fun w' => (w'.cell? ⟨wr.heap.size, 0, none⟩ = some (.string x.name) ∧ w'.cell? ⟨wr.heap.size, 1, none⟩ = some (.slice pa x.query.length pc) ∧ Grew W w'))) (by kernel_rfl) ?h6_S ?h6_r
    case h6_S => exact ⟨c0, c1, (Grew.refl _).drew⟩
    case h6_r =>
     intro HS
     refine tk' 0 HS ?_
     refine tk' 1 HS ?_
     refine cl' 2 fun K hK => ?_
     go_simp
     go_at_call 118; refine (implIsValidString _ _ hs1).mono ?_; rintro e w1 ⟨he, rfl⟩; rw [← HT.out] at he; subst he
     refine hK.out _ _ ?s6_2 ?r6_2
     case s6_2 => (try dsimp only); first | exact HS | exact held2 HS hb
     case r6_2 =>
      clear HS hK K; intro HS
      try simp only [Act.put, lpa, lpb, lpc]
      refine tk' 3 HS ?_
      refine tk' 4 HS ?_
      refine sk' 5 HS ?_
      refine sk' 6 HS ?_
      refine sk' 7 HS ?_
      refine sk' 8 HS ?_
      refine sk' 9 HS ?_
      refine sk' 10 HS ?_
      refine sk' 11 HS ?_
      refine sk' 12 HS ?_
      refine sk' 13 HS ?_
      refine sk' 14 HS ?_
      refine sk' 15 HS ?_
      refine sk' 16 HS ?_
      refine sk' 17 HS ?_
      refine tk' 18 HS ?_
      refine tk' 19 HS ?_
      refine sk' 20 HS ?_
      refine sk' 21 HS ?_
      refine cl' 22 fun K hK => ?_
      go_simp
      refine hK.out _ _ HS ?r6_22
      case r6_22 =>
       clear HS hK K; intro HS
       try simp only [Act.put, lpa, lpb, lpc]
       refine sk' 23 HS ?_
       refine tk' 24 HS ?_
       refine wpAnyH_done (by kernel_rfl) ?_ _
       refine NoPanic.normal ?_
       go_wp2
       go_ret
       refine ⟨ret_bool ?_, hbel.trans (hal.trans HS.2.2)⟩
       exact (dirsB_no hxk.out (by rw [DA.out]; rfl)).symm
   ·
    by_cases hk1 : ¬ (0 < k)
    ·
     rcases hcq with rfl | rfl
     ·
      have hk0 := hk
      go_wp2_with fail
      have c0 : (wr.alloc (.cells #[.string x.name, .slice pa x.query.length pc] 39)).cell? ⟨wr.heap.size, 0, none⟩ = some (.string x.name) := by simp
      have c1 : (wr.alloc (.cells #[.string x.name, .slice pa x.query.length pc] 39)).cell? ⟨wr.heap.size, 1, none⟩ = some (.slice pa x.query.length pc) := by simp
      have hal := (Grew.refl wr).alloc (.cells #[.string x.name, .slice pa x.query.length pc] 39)
      generalize wr.alloc (.cells #[.string x.name, .slice pa x.query.length pc] 39) = W at c0 c1 hal ⊢
      refine wp_region_noPanic ?_
      refine wp_region_held_drew (S := (fun w' => (w'.cell? ⟨wr.heap.size, 0, none⟩ = some (.string x.name) ∧ w'.cell? ⟨wr.heap.size, 1, none⟩ = some (.slice pa x.query.length pc) ∧ Grew W w'))) (by kernel_rfl) ?h7_S ?h7_r
      case h7_S => exact ⟨c0, c1, (Grew.refl _).drew⟩
      case h7_r =>
       intro HS
       refine tk' 0 HS ?_
       refine tk' 1 HS ?_
       refine cl' 2 fun K hK => ?_
       go_simp
       go_at_call 118; refine (implIsValidString _ _ hs1).mono ?_; rintro e w1 ⟨he, rfl⟩; rw [← HT.out] at he; subst he
       refine hK.out _ _ ?s7_2 ?r7_2
       case s7_2 => (try dsimp only); first | exact HS | exact held2 HS hb
       case r7_2 =>
        clear HS hK K; intro HS
        try simp only [Act.put, lpa, lpb, lpc]
        refine tk' 3 HS ?_
        refine tk' 4 HS ?_
        refine tk' 5 HS ?_
        refine tk' 6 HS ?_
        refine tk' 7 HS ?_
        refine sk' 8 HS ?_
        refine sk' 9 HS ?_
        refine sk' 10 HS ?_
        refine sk' 11 HS ?_
        refine sk' 12 HS ?_
        refine sk' 13 HS ?_
        refine sk' 14 HS ?_
        refine sk' 15 HS ?_
        refine sk' 16 HS ?_
        refine tk' 17 HS ?_
        refine tk' 18 HS ?_
        refine tk' 19 HS ?_
        refine tk' 20 HS ?_
        refine tk' 21 HS ?_
        refine cl' 22 fun K hK => ?_
        go_simp
        go_at_call 119; refine (implIsValidQuery _ x.query.length x.query _ (HQ.out.grew (hbel.trans (hal.trans HS.2.2))) hs2 hs3).mono ?_; rintro e w1 ⟨he, hb⟩; rw [← HV.out] at he; subst he
        refine hK.out _ _ ?s7_22 ?r7_22
        case s7_22 => (try dsimp only); first | exact HS | exact held2 HS hb
        case r7_22 =>
         clear HS hK K; intro HS
         try simp only [Act.put, lpa, lpb, lpc]
         refine tk' 23 HS ?_
         refine tk' 24 HS ?_
         refine wpAnyH_done (by kernel_rfl) ?_ _
         refine NoPanic.normal ?_
         go_wp2
         go_ret
         refine ⟨ret_bool ?_, hbel.trans (hal.trans HS.2.2)⟩
         exact (dirsB_no hxk.out (by rw [DA.out]; rfl)).symm
     ·
      have hk0 := hk
      go_wp2_with fail
      have c0 : (wr.alloc (.cells #[.string x.name, .slice pa x.query.length pc] 39)).cell? ⟨wr.heap.size, 0, none⟩ = some (.string x.name) := by simp
      have c1 : (wr.alloc (.cells #[.string x.name, .slice pa x.query.length pc] 39)).cell? ⟨wr.heap.size, 1, none⟩ = some (.slice pa x.query.length pc) := by simp
      have hal := (Grew.refl wr).alloc (.cells #[.string x.name, .slice pa x.query.length pc] 39)
      generalize wr.alloc (.cells #[.string x.name, .slice pa x.query.length pc] 39) = W at c0 c1 hal ⊢
      refine wp_region_noPanic ?_
      refine wp_region_held_drew (S := (fun w' => (w'.cell? ⟨wr.heap.size, 0, none⟩ = some (.string x.name) ∧ w'.cell? ⟨wr.heap.size, 1, none⟩ = some (.slice pa x.query.length pc) ∧ Grew W w'))) (by kernel_rfl) ?h8_S ?h8_r
      case h8_S => exact ⟨c0, c1, (Grew.refl _).drew⟩
      case h8_r =>
       intro HS
       refine tk' 0 HS ?_
       refine tk' 1 HS ?_
       refine cl' 2 fun K hK => ?_
       go_simp
       go_at_call 118; refine (implIsValidString _ _ hs1).mono ?_; rintro e w1 ⟨he, rfl⟩; rw [← HT.out] at he; subst he
       refine hK.out _ _ ?s8_2 ?r8_2
       case s8_2 => (try dsimp only); first | exact HS | exact held2 HS hb
       case r8_2 =>
        clear HS hK K; intro HS
        try simp only [Act.put, lpa, lpb, lpc]
        refine tk' 3 HS ?_
        refine tk' 4 HS ?_
        refine tk' 5 HS ?_
        refine tk' 6 HS ?_
        refine tk' 7 HS ?_
        refine sk' 8 HS ?_
        refine sk' 9 HS ?_
        refine sk' 10 HS ?_
        refine sk' 11 HS ?_
        refine sk' 12 HS ?_
        refine sk' 13 HS ?_
        refine sk' 14 HS ?_
        refine sk' 15 HS ?_
        refine sk' 16 HS ?_
        refine tk' 17 HS ?_
        refine tk' 18 HS ?_
        refine tk' 19 HS ?_
        refine tk' 20 HS ?_
        refine tk' 21 HS ?_
        refine cl' 22 fun K hK => ?_
        go_simp
        go_at_call 119; refine (implIsValidQuery _ x.query.length x.query _ (HQ.out.grew (hbel.trans (hal.trans HS.2.2))) hs2 hs3).mono ?_; rintro e w1 ⟨he, hb⟩; rw [← HV.out] at he; subst he
        refine hK.out _ _ ?s8_22 ?r8_22
        case s8_22 => (try dsimp only); first | exact HS | exact held2 HS hb
        case r8_22 =>
         clear HS hK K; intro HS
         try simp only [Act.put, lpa, lpb, lpc]
         refine tk' 23 HS ?_
         refine tk' 24 HS ?_
         refine wpAnyH_done (by kernel_rfl) ?_ _
         refine NoPanic.normal ?_
         go_wp2
         go_roundw
         case rel => exact ⟨k + 1, by omega, by go_num, Lib.hid (alls_snoc hsame.out hxk.out (by rw [DA.out, Nat.eq_zero_of_not_pos hk1]; rfl)), hbel.trans (hal.trans HS.2.2)⟩
         case measure => simp [intOf]; omega
    ·
     obtain ⟨p, rfl⟩ : ∃ p, k = p + 1 := ⟨k - 1, by omega⟩
     obtain ⟨b2, o2, pp, hab, hyp, d0, d1⟩ := (hra.grew hbel).getP2 (show p < n by omega)
     obtain ⟨y, hyk, hyr⟩ := HA.out.get hyp.out
     obtain ⟨rfl, rfl⟩ : b1 = b2 ∧ o1 = o2 := by cases hab; exact ⟨rfl, rfl⟩
     clear hab
     obtain ⟨yn, yq⟩ := pp
     obtain ⟨hyn, hyq⟩ := hyr
     simp only at hyn hyq d0 d1
     subst hyn
     clear hyq d1
     have hpp : ((p + 1 : Nat) : Int) - 1 = (p : Int) := by omega
     have hp0 : (0 : Int) ≤ (p : Int) + 1 := by omega
     have hp1 : (p : Int) < (n : Int) := by omega
     have hwp : IntKind.i64.wrap (p : Int) = (p : Int) := by simp [IntKind.wrap, IntKind.bits, IntKind.signed]; omega
     obtain ⟨lv, hlv⟩ : ∃ b, Op.bytesLess y.name.toList x.name.toList = b := ⟨_, rfl⟩
     have DS := Lib.hid (show dirAt xs (p + 1) x = (true && (qv && lv)) by rw [DA.out]; unfold ascB; simp only; rw [hyk.out]; simp only; rw [hlv])
     have hcl : lv = false ∨ lv = true := by cases lv <;> simp
     rcases hcl with rfl | rfl
     ·
      have hk0 := hk
      go_wp2_with fail
      have c0 : (wr.alloc (.cells #[.string x.name, .slice pa x.query.length pc] 39)).cell? ⟨wr.heap.size, 0, none⟩ = some (.string x.name) := by simp
      have c1 : (wr.alloc (.cells #[.string x.name, .slice pa x.query.length pc] 39)).cell? ⟨wr.heap.size, 1, none⟩ = some (.slice pa x.query.length pc) := by simp
      have hal := (Grew.refl wr).alloc (.cells #[.string x.name, .slice pa x.query.length pc] 39)
      replace d0 := grew_cell hal d0
      generalize wr.alloc (.cells #[.string x.name, .slice pa x.query.length pc] 39) = W at c0 c1 hal d0 ⊢
      refine wp_region_noPanic ?_
      refine wp_region_held_drew (S := (fun w' => (w'.cell? ⟨wr.heap.size, 0, none⟩ = some (.string x.name) ∧ w'.cell? ⟨wr.heap.size, 1, none⟩ = some (.slice pa x.query.length pc) ∧ w'.cell? ⟨b1, o1 + p * 2, none⟩ = some (.string y.name) ∧ Grew W w'))) (by kernel_rfl) ?h9_S ?h9_r
      case h9_S => exact ⟨c0, c1, d0, (Grew.refl _).drew⟩
      case h9_r =>
       intro HS
       refine tk' 0 HS ?_
       refine tk' 1 HS ?_
       refine cl' 2 fun K hK => ?_
       go_simp
       go_at_call 118; refine (implIsValidString _ _ hs1).mono ?_; rintro e w1 ⟨he, rfl⟩; rw [← HT.out] at he; subst he
       refine hK.out _ _ ?s9_2 ?r9_2
       case s9_2 => (try dsimp only); first | exact HS | exact held3c HS hb
       case r9_2 =>
        clear HS hK K; intro HS
        try simp only [Act.put, lpa, lpb, lpc]
        refine tk' 3 HS ?_
        refine tk' 4 HS ?_
        refine tk' 5 HS ?_
        refine tk' 6 HS ?_
        refine tk' 7 HS ?_
        refine tk' 8 HS ?_
        refine tk' 9 HS ?_
        refine tk' 10 HS ?_
        refine tk' 11 HS ?_
        refine tk' 12 HS ?_
        refine tk' 13 HS ?_
        refine tk' 14 HS ?_
        refine tk' 15 HS ?_
        refine tk' 16 HS ?_
        refine tk' 17 HS ?_
        refine tk' 18 HS ?_
        refine tk' 19 HS ?_
        refine sk' 20 HS ?_
        refine sk' 21 HS ?_
        refine cl' 22 fun K hK => ?_
        go_simp
        refine hK.out _ _ HS ?r9_22
        case r9_22 =>
         clear HS hK K; intro HS
         try simp only [Act.put, lpa, lpb, lpc]
         refine sk' 23 HS ?_
         refine tk' 24 HS ?_
         refine wpAnyH_done (by kernel_rfl) ?_ _
         refine NoPanic.normal ?_
         go_wp2
         go_ret
         refine ⟨ret_bool ?_, hbel.trans (hal.trans HS.2.2.2)⟩
         exact (dirsB_no hxk.out (by rw [DS.out]; simp)).symm
     ·
      rcases hcq with rfl | rfl
      ·
       have hk0 := hk
       go_wp2_with fail
       have c0 : (wr.alloc (.cells #[.string x.name, .slice pa x.query.length pc] 39)).cell? ⟨wr.heap.size, 0, none⟩ = some (.string x.name) := by simp
       have c1 : (wr.alloc (.cells #[.string x.name, .slice pa x.query.length pc] 39)).cell? ⟨wr.heap.size, 1, none⟩ = some (.slice pa x.query.length pc) := by simp
       have hal := (Grew.refl wr).alloc (.cells #[.string x.name, .slice pa x.query.length pc] 39)
       replace d0 := grew_cell hal d0
       generalize wr.alloc (.cells #[.string x.name, .slice pa x.query.length pc] 39) = W at c0 c1 hal d0 ⊢
       refine wp_region_noPanic ?_
       refine wp_region_held_drew (S := (fun w' => (w'.cell? ⟨wr.heap.size, 0, none⟩ = some (.string x.name) ∧ w'.cell? ⟨wr.heap.size, 1, none⟩ = some (.slice pa x.query.length pc) ∧ w'.cell? ⟨b1, o1 + p * 2, none⟩ = some (.string y.name) ∧ Grew W w'))) (by kernel_rfl) ?h10_S ?h10_r
       case h10_S => exact ⟨c0, c1, d0, (Grew.refl _).drew⟩
       case h10_r =>
        intro HS
        refine tk' 0 HS ?_
        refine tk' 1 HS ?_
        refine cl' 2 fun K hK => ?_
        go_simp
        go_at_call 118; refine (implIsValidString _ _ hs1).mono ?_; rintro e w1 ⟨he, rfl⟩; rw [← HT.out] at he; subst he
        refine hK.out _ _ ?s10_2 ?r10_2
        case s10_2 => (try dsimp only); first | exact HS | exact held3c HS hb
        case r10_2 =>
         clear HS hK K; intro HS
         try simp only [Act.put, lpa, lpb, lpc]
         refine tk' 3 HS ?_
         refine tk' 4 HS ?_
         refine tk' 5 HS ?_
         refine tk' 6 HS ?_
         refine tk' 7 HS ?_
         refine tk' 8 HS ?_
         refine tk' 9 HS ?_
         refine tk' 10 HS ?_
         refine tk' 11 HS ?_
         refine tk' 12 HS ?_
         refine tk' 13 HS ?_
         refine tk' 14 HS ?_
         refine tk' 15 HS ?_
         refine tk' 16 HS ?_
         refine tk' 17 HS ?_
         refine tk' 18 HS ?_
         refine tk' 19 HS ?_
         refine tk' 20 HS ?_
         refine tk' 21 HS ?_
         refine cl' 22 fun K hK => ?_
         go_simp
         go_at_call 119; refine (implIsValidQuery _ x.query.length x.query _ (HQ.out.grew (hbel.trans (hal.trans HS.2.2.2))) hs2 hs3).mono ?_; rintro e w1 ⟨he, hb⟩; rw [← HV.out] at he; subst he
         refine hK.out _ _ ?s10_22 ?r10_22
         case s10_22 => (try dsimp only); first | exact HS | exact held3c HS hb
         case r10_22 =>
          clear HS hK K; intro HS
          try simp only [Act.put, lpa, lpb, lpc]
          refine tk' 23 HS ?_
          refine tk' 24 HS ?_
          refine wpAnyH_done (by kernel_rfl) ?_ _
          refine NoPanic.normal ?_
          go_wp2
          go_ret
          refine ⟨ret_bool ?_, hbel.trans (hal.trans HS.2.2.2)⟩
          exact (dirsB_no hxk.out (by rw [DS.out]; rfl)).symm
      ·
       have hk0 := hk
       go_wp2_with fail
       have c0 : (wr.alloc (.cells #[.string x.name, .slice pa x.query.length pc] 39)).cell? ⟨wr.heap.size, 0, none⟩ = some (.string x.name) := by simp
       have c1 : (wr.alloc (.cells #[.string x.name, .slice pa x.query.length pc] 39)).cell? ⟨wr.heap.size, 1, none⟩ = some (.slice pa x.query.length pc) := by simp
       have hal := (Grew.refl wr).alloc (.cells #[.string x.name, .slice pa x.query.length pc] 39)
       replace d0 := grew_cell hal d0
       generalize wr.alloc (.cells #[.string x.name, .slice pa x.query.length pc] 39) = W at c0 c1 hal d0 ⊢
       refine wp_region_noPanic ?_
       refine wp_region_held_drew (S := (fun w' => (w'.cell? ⟨wr.heap.size, 0, none⟩ = some (.string x.name) ∧ w'.cell? ⟨wr.heap.size, 1, none⟩ = some (.slice pa x.query.length pc) ∧ w'.cell? ⟨b1, o1 + p * 2, none⟩ = some (.string y.name) ∧ Grew W w'))) (by kernel_rfl) ?h11_S ?h11_r
       case h11_S => exact ⟨c0, c1, d0, (Grew.refl _).drew⟩
       case h11_r =>
        intro HS
        refine tk' 0 HS ?_
        refine tk' 1 HS ?_
        refine cl' 2 fun K hK => ?_
        go_simp
        go_at_call 118; refine (implIsValidString _ _ hs1).mono ?_; rintro e w1 ⟨he, rfl⟩; rw [← HT.out] at he; subst he
        refine hK.out _ _ ?s11_2 ?r11_2
        case s11_2 => (try dsimp only); first | exact HS | exact held3c HS hb
        case r11_2 =>
         clear HS hK K; intro HS
         try simp only [Act.put, lpa, lpb, lpc]
         refine tk' 3 HS ?_
         refine tk' 4 HS ?_
         refine tk' 5 HS ?_
         refine tk' 6 HS ?_
         refine tk' 7 HS ?_
         refine tk' 8 HS ?_
         refine tk' 9 HS ?_
         refine tk' 10 HS ?_
         refine tk' 11 HS ?_
         refine tk' 12 HS ?_
         refine tk' 13 HS ?_
         refine tk' 14 HS ?_
         refine tk' 15 HS ?_
         refine tk' 16 HS ?_
         refine tk' 17 HS ?_
         refine tk' 18 HS ?_
         refine tk' 19 HS ?_
         refine tk' 20 HS ?_
         refine tk' 21 HS ?_
         refine cl' 22 fun K hK => ?_
         go_simp
         go_at_call 119; refine (implIsValidQuery _ x.query.length x.query _ (HQ.out.grew (hbel.trans (hal.trans HS.2.2.2))) hs2 hs3).mono ?_; rintro e w1 ⟨he, hb⟩; rw [← HV.out] at he; subst he
         refine hK.out _ _ ?s11_22 ?r11_22
         case s11_22 => (try dsimp only); first | exact HS | exact held3c HS hb
         case r11_22 =>
          clear HS hK K; intro HS
          try simp only [Act.put, lpa, lpb, lpc]
          refine tk' 23 HS ?_
          refine tk' 24 HS ?_
          refine wpAnyH_done (by kernel_rfl) ?_ _
          refine NoPanic.normal ?_
          go_wp2
          go_roundw
          case rel => exact ⟨p + 1 + 1, by omega, by go_num, Lib.hid (alls_snoc hsame.out hxk.out (by rw [DS.out]; rfl)), hbel.trans (hal.trans HS.2.2.2)⟩
          case measure => simp [intOf]; omega
  ·
   obtain rfl : k = n := by omega
   have hy := dirsB_yes (xs := xs) (fun j y h h2 => hsame.out j y (by rw [← HX.out]; exact h) h2)
   go_wp2
   go_ret
   refine ⟨ret_bool ?_, hbel⟩
   rw [hy, HX.out]; simp; omega
end Go.Proofs.YtemikjbfjhebnaaGreat
namespace Go.Proofs.YtemikjbfjhebnaaGreat
open Go.RowKit Go.Sort
set_option linter.unusedVariables false
def plcF : List Dr → ByteArray → Option Nat
  | [], _ => none
  | x :: xs, s => if x.name.toList == s.toList then some 0 else (plcF xs s).map (· + 1)
theorem plcF_no : ∀ {xs : List Dr} {s : ByteArray}, (∀ (j : Nat) y, j < xs.length → xs[j]? = some y → (y.name.toList == s.toList) = false) → plcF xs s = none
  | [], s, h => rfl
  | x :: xs, s, h => by
    have h0 := h 0 x (by simp) (by simp)
    have ih := plcF_no (xs := xs) (s := s) (fun j y hj hy => h (j + 1) y (by simpa using hj) (by simpa using hy))
    unfold plcF; rw [h0, ih]; rfl
theorem plcF_yes : ∀ {xs : List Dr} {s : ByteArray} {k : Nat} {x : Dr}, (∀ (j : Nat) y, j < k → xs[j]? = some y → (y.name.toList == s.toList) = false) → xs[k]? = some x → (x.name.toList == s.toList) = true → plcF xs s = some k
  | [], s, k, x, _, h, _ => by simp at h
  | y :: ys, s, 0, x, h, hx, hn => by
    obtain rfl : y = x := by simpa using hx
    unfold plcF; rw [hn]; rfl
  | y :: ys, s, k + 1, x, h, hx, hn => by
    have h0 := h 0 y (by omega) (by simp)
    have ih := plcF_yes (xs := ys) (s := s) (k := k) (x := x) (fun j z hj hz => h (j + 1) z (by omega) (by simpa using hz)) (by simpa using hx) hn
    unfold plcF; rw [h0, ih]; rfl
theorem plc_cases {xs : List Dr} {s : ByteArray} {n : Nat} {i : Int} (hn : xs.length = n) (h : plc xs s n i) : (i = -1 ∧ Hid (plcF xs s = none)) ∨ ∃ k : Nat, i = k ∧ k < n ∧ Hid (plcF xs s = some k) := by
  rcases h with ⟨h1, h2⟩ | ⟨k, h1, h2, h3, y, h4, h5⟩
  · exact .inl ⟨h1, Lib.hid (plcF_no (by rw [hn]; exact h2))⟩
  · exact .inr ⟨k, h1, h2, Lib.hid (plcF_yes h3 h4 h5)⟩
theorem plcF_lt : ∀ {xs : List Dr} {s : ByteArray} {k : Nat}, plcF xs s = some k → k < xs.length
  | [], s, k, h => by simp [plcF] at h
  | x :: xs, s, k, h => by
    unfold plcF at h
    split at h
    · simp at h; subst h; simp
    · cases hp : plcF xs s with
      | none => rw [hp] at h; simp at h
      | some j => rw [hp] at h; simp at h; have := plcF_lt hp; simp; omega
def edg (xs : List Dr) (l : List ByteArray) (m : Nat) : List (Nat × Nat) := l.filterMap fun s => (plcF xs s).map fun k => (k, m)
theorem edg_zero (xs : List Dr) (l : List ByteArray) (m : Nat) : edg xs (l.take 0) m = [] := by simp [edg]
theorem edg_no {xs : List Dr} {l : List ByteArray} {m k : Nat} {s : ByteArray} (h : l[k]? = some s) (hp : plcF xs s = none) : edg xs (l.take (k + 1)) m = edg xs (l.take k) m := by
  rw [take_snoc h]; unfold edg; rw [List.filterMap_append]; simp [hp]
theorem edg_yes {xs : List Dr} {l : List ByteArray} {m k j : Nat} {s : ByteArray} (h : l[k]? = some s) (hp : plcF xs s = some j) : edg xs (l.take (k + 1)) m = edg xs (l.take k) m ++ [(j, m)] := by
  rw [take_snoc h]; unfold edg; rw [List.filterMap_append]; simp [hp]
theorem edg_len (xs : List Dr) (l : List ByteArray) (m : Nat) : (edg xs l m).length ≤ l.length := by unfold edg; exact List.length_filterMap_le _ _
theorem mem_edg {xs : List Dr} {l : List ByteArray} {m : Nat} {e : Nat × Nat} (h : e ∈ edg xs l m) : e.1 < xs.length ∧ e.2 = m := by
  unfold edg at h
  obtain ⟨s, _, h2⟩ := List.mem_filterMap.1 h
  cases hp : plcF xs s with
  | none => rw [hp] at h2; simp at h2
  | some k => rw [hp] at h2; simp at h2; subst h2; exact ⟨plcF_lt hp, rfl⟩
noncomputable def dirE (xs : List Dr) : Edges := fun i => match xs[i]? with
  | none => []
  | some x => edg xs (depsL x.query false) 0 ++ edg xs (depsL x.query true) 1
theorem dirE_at {xs : List Dr} {i : Nat} {x : Dr} (h : xs[i]? = some x) : dirE xs i = edg xs (depsL x.query false) 0 ++ edg xs (depsL x.query true) 1 := by unfold dirE; rw [h]
theorem dirE_ok {xs : List Dr} {n : Nat} (h : xs.length = n) : OkE n (dirE xs) := by
  intro i hi e he
  unfold dirE at he
  split at he
  · simp at he
  · rcases List.mem_append.1 he with h1 | h1
    · have := mem_edg h1; omega
    · have := mem_edg h1; omega
theorem dirE_two {xs : List Dr} {i : Nat} {e : Nat × Nat} (he : e ∈ dirE xs i) : e.2 ≤ 1 := by
  unfold dirE at he
  split at he
  · simp at he
  · rcases List.mem_append.1 he with h1 | h1
    · have := mem_edg h1; omega
    · have := mem_edg h1; omega
theorem dirE_len {xs : List Dr} (h9 : ∀ x, x ∈ xs → x.query.length ≤ 9) (i : Nat) : (dirE xs i).length ≤ 18 := by
  unfold dirE
  split
  · simp
  · rename_i x hx
    have h1 := h9 x (List.mem_of_getElem? hx)
    have h2 := edg_len xs (depsL x.query false) 0
    have h3 := edg_len xs (depsL x.query true) 1
    have h4 := depsL_le x.query false
    have h5 := depsL_le x.query true
    rw [List.length_append]; omega
def Bd (b : Nat) (L : List Nat) : Prop := ∀ i, gt L i ≤ b
theorem bd_mono {a b : Nat} {L : List Nat} (h : Bd a L) (hab : a ≤ b) : Bd b L := fun i => Nat.le_trans (h i) hab
theorem gt_set_le (L : List Nat) (i x k : Nat) : gt (L.set i x) k ≤ x ∨ gt (L.set i x) k = gt L k := by
  by_cases h : i = k
  · subst h
    by_cases h2 : i < L.length
    · left; rw [gt_set_self h2]; exact Nat.le_refl _
    · right; rw [List.set_eq_of_length_le (by omega)]
  · right; exact gt_set_ne h
theorem bd_upd {b i : Nat} {L : List Nat} {e : Nat × Nat} (h : Bd b L) (he : e.2 ≤ 1) : Bd (b + 1) (upd i L e) := by
  intro k
  have h1 := h k
  have h2 := h e.1
  unfold upd
  split
  · rcases gt_set_le L i (gt L e.1 + e.2) k with h3 | h3 <;> omega
  · omega
theorem bd_fold {i : Nat} : ∀ (l : List (Nat × Nat)) {b : Nat} {L : List Nat}, Bd b L → (∀ e, e ∈ l → e.2 ≤ 1) → Bd (b + l.length) (l.foldl (upd i) L)
  | [], b, L, h, _ => h
  | e :: l, b, L, h, he => by
    have h1 := bd_fold (i := i) l (bd_upd (i := i) h (he e (by simp))) (fun e h => he e (by simp [h]))
    rw [List.foldl_cons]
    intro k; have := h1 k; simp only [List.length_cons]; omega
noncomputable def rsT (xs : List Dr) (L : List Nat) (i : Nat) : List Nat := (List.range i).foldl (raise1 (dirE xs)) L
theorem rsT_all (xs : List Dr) (L : List Nat) (n : Nat) : rsT xs L n = raise n (dirE xs) L := rfl
theorem rsT_len (xs : List Dr) (L : List Nat) (i : Nat) : (rsT xs L i).length = L.length := raiseF_len _ _ _
noncomputable def rsP (xs : List Dr) (L : List Nat) (i : Nat) (p : List ByteArray) (m : Nat) (k : Nat) : List Nat := (edg xs (p.take k) m).foldl (upd i) L
theorem rsP_zero (xs : List Dr) (L : List Nat) (i : Nat) (p : List ByteArray) (m : Nat) : rsP xs L i p m 0 = L := by simp [rsP, edg]
theorem rsP_no {xs : List Dr} {L : List Nat} {i : Nat} {p : List ByteArray} {m k : Nat} {s : ByteArray} (h : p[k]? = some s) (hp : plcF xs s = none) : rsP xs L i p m (k + 1) = rsP xs L i p m k := by
  unfold rsP; rw [edg_no h hp]
theorem rsP_yes {xs : List Dr} {L : List Nat} {i : Nat} {p : List ByteArray} {m k j : Nat} {s : ByteArray} (h : p[k]? = some s) (hp : plcF xs s = some j) : rsP xs L i p m (k + 1) = upd i (rsP xs L i p m k) (j, m) := by
  unfold rsP; rw [edg_yes h hp, List.foldl_append]; rfl
theorem upd_yes {L : List Nat} {i j m : Nat} (h : gt L i < gt L j + m) : upd i L (j, m) = L.set i (gt L j + m) := by unfold upd; rw [if_pos h]
theorem upd_no {L : List Nat} {i j m : Nat} (h : ¬ gt L i < gt L j + m) : upd i L (j, m) = L := by unfold upd; rw [if_neg h]
theorem rsT_succ {xs : List Dr} {L : List Nat} {i : Nat} {x : Dr} (h : xs[i]? = some x) {q r : Nat} (hq : (depsL x.query false).length = q) (hr : (depsL x.query true).length = r) : rsT xs L (i + 1) = rsP xs (rsP xs (rsT xs L i) i (depsL x.query false) 0 q) i (depsL x.query true) 1 r := by
  unfold rsT rsP
  rw [List.range_succ, List.foldl_append, take_all hq, take_all hr]
  show raise1 (dirE xs) _ i = _
  unfold raise1
  rw [dirE_at h, List.foldl_append]
theorem bd_rsP {xs : List Dr} {L : List Nat} {b : Nat} (h : Bd b L) (i : Nat) (p : List ByteArray) (m : Nat) (hm : m ≤ 1) (k : Nat) : Bd (b + p.length) (rsP xs L i p m k) := by
  unfold rsP
  refine bd_mono (bd_fold _ h (fun e he => by have := mem_edg he; omega)) ?_
  have h1 := edg_len xs (p.take k) m
  rw [List.length_take] at h1
  omega
theorem bd_rsT {xs : List Dr} {L : List Nat} {b : Nat} (h : Bd b L) (h9 : ∀ x, x ∈ xs → x.query.length ≤ 9) : ∀ i, Bd (b + 18 * i) (rsT xs L i)
  | 0 => h
  | i + 1 => by
    have ih := bd_rsT h h9 i
    unfold rsT
    rw [List.range_succ, List.foldl_append]
    show Bd _ (raise1 (dirE xs) _ i)
    unfold raise1
    refine bd_mono (bd_fold _ ih (fun e he => dirE_two he)) ?_
    have := dirE_len h9 i
    omega
theorem bd_iter {xs : List Dr} {n : Nat} (hn : xs.length = n) (h9 : ∀ x, x ∈ xs → x.query.length ≤ 9) : ∀ r, Bd (18 * n * r) (iter n (dirE xs) r)
  | 0 => fun i => by
    have := zero_le n (List.replicate n 0)
    show gt (List.replicate n 0) i ≤ _
    unfold gt
    by_cases h : i < n
    · simp [h]
    · simp [h]
  | r + 1 => by
    have ih := bd_iter hn h9 r
    have h1 := bd_rsT ih h9 n
    refine bd_mono (L := iter n (dirE xs) (r + 1)) h1 ?_
    rw [Nat.mul_succ]; omega
theorem dirs_use {xs : List Dr} (h : dirsB xs = true) : xs.length ≤ 5 ∧ ∀ x, x ∈ xs → x.query.length ≤ 9 := by
  have h1 := (dirs_ex xs).choose_spec
  unfold dirsB at h
  simp only [Bool.and_eq_true] at h
  refine ⟨by simpa using h.2, fun x hx => ?_⟩
  obtain ⟨i, hi⟩ := List.getElem?_of_mem hx
  have h2 := h1.1 h.1 i x hi
  unfold dirAt at h2
  simp only [Bool.and_eq_true] at h2
  have h3 := h2.2.1
  unfold qryB at h3
  simp only [Bool.and_eq_true] at h3
  have h4 := h3.2
  unfold inB at h4
  simp at h4
  omega
noncomputable def stB (xs : List Dr) : Bool := dirsB xs && strB xs.length (dirE xs)
noncomputable def stL (xs : List Dr) : List Nat := if stB xs then strL xs.length (dirE xs) else []
abbrev natsV (L : List Nat) : List Value := L.map fun (x : Nat) => Value.int .i64 (x : Int)
theorem natsV_ints (L : List Nat) : natsV L = ints (L.map fun (x : Nat) => (x : Int)) := by unfold natsV ints; rw [List.map_map]; rfl
def mxL : List Nat → Int
  | [] => -1
  | x :: xs => max (x : Int) (mxL xs)
noncomputable def mxS (xs : List Dr) : Int := mxL (stL xs)
theorem mxL_snoc : ∀ (L : List Nat) (x : Nat), mxL (L ++ [x]) = max (mxL L) (x : Int)
  | [], x => by simp [mxL]; omega
  | y :: ys, x => by
    have h := mxL_snoc ys x
    simp only [List.cons_append, mxL, h]; omega
def sumW (w : World) (g n : Nat) : Nat := sumN ((List.range n).map fun j => match w.cell? ⟨g, j, none⟩ with | some (.int _ x) => x.toNat | _ => 0)
theorem sumW_of {w : World} {g n : Nat} {L : List Nat} (hl : L.length = n) (h : ∀ j, j < n → w.cell? ⟨g, j, none⟩ = some (.int .i64 (gt L j))) : sumW w g n = sumN L := by
  unfold sumW
  congr 1
  apply List.ext_getElem (by simp [hl])
  intro i h1 h2
  have h3 := h i (by simpa using h1)
  simp only [List.getElem_map, List.getElem_range, h3]
  unfold gt
  simp [h2]
end Go.Proofs.YtemikjbfjhebnaaGreat
namespace Go.Proofs.YtemikjbfjhebnaaGreat
open Go.RowKit Go.Sort
set_option linter.unusedVariables false
end Go.Proofs.YtemikjbfjhebnaaGreat
namespace Go.Proofs.YtemikjbfjhebnaaGreat
open Go.RowKit Go.Sort
set_option linter.unusedVariables false
theorem eq_dl {a b : ByteArray} : (a.toList == b.toList) = true ↔ dl a = dl b := by
  rw [same_iff a b true]; simp
theorem ne_dl {a b : ByteArray} : (a.toList == b.toList) = false ↔ dl a ≠ dl b := by
  rw [same_iff a b false]; simp
def setN (x : Dr) : List Dr → List Dr
  | [] => [x]
  | d :: ds => if d.name.toList == x.name.toList then x :: ds else if Op.bytesLess x.name.toList d.name.toList then x :: d :: ds else d :: setN x ds
end Go.Proofs.YtemikjbfjhebnaaGreat
namespace Go.Proofs.YtemikjbfjhebnaaGreat
section
variable {P : Program} {md : Region.Mode} {ops : Array Oper} {Q : Exit → Act → World → Prop} {S : World → Prop} {T : Nat}
def wpT (P : Program) (md : Region.Mode) (ops : Array Oper) (Q : Exit → Act → World → Prop) (T : Nat) (S : World → Prop) : Nat → Array Bool → Act → World → Prop
  | 0, L, a, w => Region.ready md ops L = [] ∧ Q .normal a w
  | n + 1, L, a, w => (Region.ready md ops L = [] → Q .normal a w) ∧ ∀ i ∈ Region.ready md ops L, wpOp P ops Q i (fun a' w' => ((L.setIfInBounds i true).getD T false = true ∨ S w') ∧ wpT P md ops Q T S n (L.setIfInBounds i true) a' w') a w
theorem wpT_any : ∀ (n : Nat) (L : Array Bool) (a : Act) (w : World), wpT P md ops Q T S n L a w → wpAny P md ops Q n L a w
  | 0, _, _, _, h => h
  | n + 1, _, _, _, h => ⟨h.1, fun i hi => wpOp_mono (fun _ _ k => wpT_any n _ _ _ k.2) (h.2 i hi)⟩
def waits (md : Region.Mode) (ops : Array Oper) (L : Array Bool) : Nat → List Nat → Bool
  | _, [] => true
  | x, c :: cs => (!L.getD c false) && (match ops[c]? with | some o => o.after.any fun e => Region.binds md e && e.on == x | none => false) && waits md ops L c cs
theorem not_ready {L : Array Bool} : ∀ {cs : List Nat} {x : Nat}, waits md ops L x cs = true → L.getD x false = false → ∀ c, c ∈ cs → c ∉ Region.ready md ops L
  | [], _, _, _, c, hc, _ => by cases hc
  | d :: cs, x, h, hx, c, hc, hr => by
    unfold waits at h
    simp only [Bool.and_eq_true, Bool.not_eq_true'] at h
    obtain ⟨⟨h1, h2⟩, h3⟩ := h
    rcases List.mem_cons.1 hc with rfl | hc
    · obtain ⟨_, o, ho, hall⟩ := mem_ready.1 hr
      rw [ho] at h2
      simp only [Array.any_eq_true] at h2
      obtain ⟨j, hj, he⟩ := h2
      simp only [Bool.and_eq_true, beq_iff_eq] at he
      have h4 := hall _ (Array.getElem_mem hj) he.1
      rw [he.2, hx] at h4
      cases h4
    · exact not_ready h3 h1 c hc hr
theorem waits_set {L : Array Bool} {j : Nat} : ∀ {cs : List Nat} {x : Nat}, waits md ops L x cs = true → j ∉ cs → waits md ops (L.setIfInBounds j true) x cs = true
  | [], _, _, _ => rfl
  | d :: cs, x, h, hj => by
    unfold waits at h ⊢
    simp only [Bool.and_eq_true] at h ⊢
    have hne : j ≠ d := fun e => hj (by rw [e]; exact List.mem_cons_self ..)
    exact ⟨⟨by rw [getD_set_ne false hne]; exact h.1.1, h.1.2⟩, waits_set h.2 fun k => hj (List.mem_cons_of_mem _ k)⟩
theorem waits_off {L : Array Bool} : ∀ {cs : List Nat} {x : Nat}, waits md ops L x cs = true → ∀ c, c ∈ cs → L.getD c false = false
  | [], _, _, c, hc => by cases hc
  | d :: cs, x, h, c, hc => by
    unfold waits at h
    simp only [Bool.and_eq_true, Bool.not_eq_true'] at h
    rcases List.mem_cons.1 hc with rfl | hc
    · exact h.1.1
    · exact waits_off h.2 c hc
theorem off_of_ready {L : Array Bool} {i : Nat} (h : i ∈ Region.ready md ops L) : L.getD i false = false := by
  have h1 := (mem_ready.1 h).1
  rcases Nat.lt_or_ge i L.size with h2 | h2
  · simp [h2] at h1 ⊢; exact h1
  · simp [Array.getElem?_eq_none h2] at h1
theorem takeT {i : Nat} {oi : Oper} {v : Value} {X : World → Prop} {cs : List Nat} (hi : ops[i]? = some oi) (hsel : ∀ (j : Nat) (o : Oper) k b, ops[j]? = some o → o.op ≠ .select k b)
    (hQ : ∀ c a w, Q (.panic c) (a.put oi.dst v) w → Q (.panic c) a w) (hiT : i ≠ T) (hX : (∀ w, X w) ∨ ((∀ w, S w → X w) ∧ T ∈ cs)) :
    ∀ (n : Nat) (L : Array Bool) (a : Act) (w : World),
      (∀ j oj, ops[j]? = some oj → j ≠ i → L.getD j true = false → (∀ e ∈ oj.after, Region.binds md e = true → e.on ≠ i) → oi.apart ops oj = true) →
      i ∈ Region.ready md ops L → ((∀ w, X w) ∨ waits md ops L i cs = true) → YieldsIf P ops X oi v a → X w → (L.getD T false = true ∨ S w) →
      wpT P md ops Q T S n (L.setIfInBounds i true) (a.put oi.dst v) w → wpT P md ops Q T S (n + 1) L a w := by
  intro n
  induction n with
  | zero =>
    intro L a w _ hr _ hy hx hS H
    refine ⟨fun h => (by rw [h] at hr; cases hr), fun j hj => ?_⟩
    by_cases hji : j = i
    · subst hji
      exact hy.wpOp hi hx ⟨by rw [getD_set_ne false hiT]; exact hS, H⟩
    · have := ready_mono hj hji
      rw [H.1] at this
      cases this
  | succ n ih =>
    intro L a w hfree hr hch hy hx hS H
    refine ⟨fun h => (by rw [h] at hr; cases hr), fun j hj => ?_⟩
    by_cases hji : j = i
    · subst hji
      exact hy.wpOp hi hx ⟨by rw [getD_set_ne false hiT]; exact hS, H⟩
    · obtain ⟨hjun, oj, hoj, hall⟩ := mem_ready.1 hj
      have hno : ∀ e ∈ oj.after, Region.binds md e = true → e.on ≠ i := fun e he hb heq => by
        have k1 := hall e he hb
        rw [heq, off_of_ready hr] at k1
        cases k1
      have hput := wpOp_putIf hoj (hfree j oj hoj hji hjun hno) (fun k b => hsel i oi k b hi) (fun k b => hsel j oj k b hoj) hQ hy (H.2 j (ready_mono hj hji))
      have hoff := off_of_ready hr
      refine wpOp_mono (fun a' w' h3 => ?_) hput
      obtain ⟨hy', hc', H'⟩ := h3
      rw [Array.setIfInBounds_comm _ _ (Ne.symm hji), getD_set_ne false hiT] at hc'
      have hx' : X w' := by
        rcases hX with h | ⟨h, hT⟩
        · exact h w'
        · rcases hch with h5 | h5
          · exact h5 w'
          · rcases hc' with h6 | h6
            · have hjT : j ≠ T := fun e => not_ready h5 hoff T hT (by rw [← e]; exact hj)
              rw [getD_set_ne false hjT, waits_off h5 T hT] at h6
              cases h6
            · exact h w' h6
      have hch' : (∀ w, X w) ∨ waits md ops (L.setIfInBounds j true) i cs = true := by
        rcases hch with h5 | h5
        · exact .inl h5
        · exact .inr (waits_set h5 fun hm => not_ready h5 hoff j hm hj)
      have hfree' : ∀ k ok, ops[k]? = some ok → k ≠ i → (L.setIfInBounds j true).getD k true = false → (∀ e ∈ ok.after, Region.binds md e = true → e.on ≠ i) → oi.apart ops ok = true := fun k ok hk hki hun hn => by
        refine hfree k ok hk hki ?_ hn
        by_cases hjk : j = k
        · subst hjk; exact hjun
        · rw [getD_set_ne true hjk] at hun; exact hun
      refine ⟨hc', ih _ a' w' hfree' (ready_mono hr (Ne.symm hji)) hch' hy' hx' hc' ?_⟩
      rw [Array.setIfInBounds_comm _ _ hji]
      exact H'
theorem wp_region_T {id : Nat} {a : Act} {w : World} (T : Nat) (S : World → Prop) (hm : P.follows .mixedOrders = true) (hS : S w.drew)
    (h : (((Array.replicate ops.size false).getD T false = true) ∨ S w.drew) → wpT P .any ops Q T S ops.size (Array.replicate ops.size false) a w.drew) : (Code.region id ops true).wp P Q a w :=
  wp_region_any hm (wpT_any _ _ _ _ (h (.inr hS)))
theorem tkT (i : Nat) (cs : List Nat) {oi : Oper} {rs : List Oper} {v : Value} {n : Nat} {L L' : Array Bool} {a a' : Act} {w : World} (hS : S w)
    (h : wpT P md ops (NoPanic Q) T S n L' a' w)
    (hi : ops.toList.drop i = oi :: rs := by rfl)
    (hc : (Region.noSelect ops && (Region.free md ops L i && (Region.ready md ops L).contains i)) = true := by kernel_rfl)
    (hch : (waits md ops L i cs && (cs.contains T && !(i == T))) = true := by kernel_rfl)
    (hw : Region.wanted oi (yielded ops a.tmps) = true := by rfl)
    (hy : ∀ w, S w → (execOp a.eval oi).run P w = .ok (.value v) w := by (intro w' hSw; (try dsimp only at hSw); go_simp <;> (with_reducible rfl)))
    (hl : L.setIfInBounds i true = L' := by ((try simp only [lpa, lpb, lpc]) <;> rfl))
    (ha : a.put oi.dst v = a' := by ((try simp only [Act.put, lpa, lpb, lpc]) <;> rfl)) :
    wpT P md ops (NoPanic Q) T S (n + 1) L a w := by
  subst hl; subst ha
  have h3 := chk3 hch
  exact takeT (X := S) (cs := cs) (at_of_drop hi) (Region.noSelect_spec (chk3 hc).1) (fun _ _ _ h => h) (by have := h3.2.2; simpa using this) (.inr ⟨fun _ h => h, by have := h3.2.1; simpa using this⟩) n L a w (Region.free_spec (at_of_drop hi) (chk3 hc).2.1) (by have := (chk3 hc).2.2; simpa using this) (.inr h3.1) (.inl ⟨hw, hy⟩) hS (.inr hS) h
theorem tkP (i : Nat) {oi : Oper} {rs : List Oper} {v : Value} {n : Nat} {L L' : Array Bool} {a a' : Act} {w : World} (hS : L.getD T false = true ∨ S w)
    (h : wpT P md ops (NoPanic Q) T S n L' a' w)
    (hi : ops.toList.drop i = oi :: rs := by rfl)
    (hc : (Region.noSelect ops && (Region.free md ops L i && (Region.ready md ops L).contains i)) = true := by kernel_rfl)
    (hiT : (i == T) = false := by kernel_rfl)
    (hw : Region.wanted oi (yielded ops a.tmps) = true := by rfl)
    (hy : ∀ w, (execOp a.eval oi).run P w = .ok (.value v) w := by (intro w'; go_simp <;> (with_reducible rfl)))
    (hl : L.setIfInBounds i true = L' := by ((try simp only [lpa, lpb, lpc]) <;> rfl))
    (ha : a.put oi.dst v = a' := by ((try simp only [Act.put, lpa, lpb, lpc]) <;> rfl)) :
    wpT P md ops (NoPanic Q) T S (n + 1) L a w := by
  subst hl; subst ha
  exact takeT (X := fun _ => True) (cs := []) (at_of_drop hi) (Region.noSelect_spec (chk3 hc).1) (fun _ _ _ h => h) (by simpa using hiT) (.inl fun _ => trivial) n L a w (Region.free_spec (at_of_drop hi) (chk3 hc).2.1) (by have := (chk3 hc).2.2; simpa using this) (.inl fun _ => trivial) (.inl ⟨hw, fun w _ => hy w⟩) trivial hS h
theorem clT (i : Nat) {oi : Oper} {rs : List Oper} {n : Nat} {L : Array Bool} {a : Act} {w : World}
    (h : ∀ K' : Act → World → Prop, Shut (∀ a w, S w → (S w → wpT P md ops Q T S n (L.setIfInBounds i true) a w) → K' a w) → if Region.wanted oi (yielded ops a.tmps) = true then Oper.wp P oi a w K' Q else K' (a.put oi.dst undef) w)
    (hi : ops.toList.drop i = oi :: rs := by rfl) (hr : Region.ready md ops L = [i] := by kernel_rfl) : wpT P md ops Q T S (n + 1) L a w :=
  ⟨fun h0 => absurd (hr ▸ h0) (by simp), fun j hj => by
    rw [hr] at hj
    obtain rfl : j = i := by simpa using hj
    exact wpOp_step (at_of_drop hi) fun K' hK => h K' fun a w hS hW => hK a w ⟨.inr hS, hW hS⟩⟩
theorem clE {oi : Oper} {rs : List Oper} {n : Nat} {L : Array Bool} {a : Act} {w : World}
    (h : ∀ K' : Act → World → Prop, Shut (∀ a w, (((L.setIfInBounds T true).getD T false = true ∨ S w) → wpT P md ops Q T S n (L.setIfInBounds T true) a w) → K' a w) → if Region.wanted oi (yielded ops a.tmps) = true then Oper.wp P oi a w K' Q else K' (a.put oi.dst undef) w)
    (hi : ops.toList.drop T = oi :: rs := by rfl) (hr : Region.ready md ops L = [T] := by kernel_rfl) (hl : (L.setIfInBounds T true).getD T false = true := by kernel_rfl) : wpT P md ops Q T S (n + 1) L a w :=
  ⟨fun h0 => absurd (hr ▸ h0) (by simp), fun j hj => by
    rw [hr] at hj
    obtain rfl : j = T := by simpa using hj
    exact wpOp_step (at_of_drop hi) fun K' hK => h K' fun a w hW => hK a w ⟨.inl hl, hW (.inl hl)⟩⟩
theorem doneT {n : Nat} {L : Array Bool} {a : Act} {w : World} (h : Q .normal a w) (hr : Region.ready md ops L = [] := by kernel_rfl) : wpT P md ops Q T S n L a w := by
  cases n with
  | zero => exact ⟨hr, h⟩
  | succ n => exact ⟨fun _ => h, by rw [hr]; simp⟩
end
end Go.Proofs.YtemikjbfjhebnaaGreat
namespace Go.Proofs.YtemikjbfjhebnaaGreat
open Go.RowKit
set_option linter.unusedVariables false
def atF (fs : List Fl) (id i : Int) : Prop := (∃ (k : Nat) (f : Fl), i = k ∧ fs[k]? = some f ∧ f.id = id ∧ hasF (fs.take k) id = false) ∨ (hasF fs id = false ∧ i = -1)
set_option maxRecDepth 100000 in
set_option maxHeartbeats 1000000 in
theorem l05PlaceAt (p_q p_r : Value) (nx : Int) (fs : List Fl) (id : Int) (w : World) (hr : RdLs w p_r fs) (hx : fs.length ≤ 4000000) :
    Calls Tryz.prog 45 #[.agg #[p_q, p_r, .int .i64 nx], .int .i64 id] w fun e w' => ∃ i : Int, e = .returned (.int .i64 i) ∧ atF fs id i ∧ Grew w w' := by
  have hg0 := (Grew.refl w).alloc (.cells #[p_q, p_r, .int .i64 nx] 27)
  have HR := Lib.hid (RdLs.grew hr hg0)
  obtain ⟨qs, ⟨a, ca, rfl, hca, hra⟩, hall⟩ := hr
  clear hra hall
  obtain ⟨qs, ⟨_, _, h1, _, hra⟩, hall⟩ := HR.out
  cases h1
  have HA := Lib.hid hall
  clear hall
  generalize hn : fs.length = n at hx hra
  have HX := Lib.hid hn
  clear hn
  go_enter Tryz.func45, Tryz.ntmps45
  go_wp2
  go_loop [5] (fun i => ∃ k : Nat, k ≤ n ∧ i = .int .i64 k ∧ Hid (hasF (fs.take k) id = false)) (fun i => n - (intOf i).toNat)
  case atStart => exact ⟨0, Nat.zero_le _, rfl, Lib.hid rfl⟩
  case round =>
    obtain ⟨k, hk, rfl, hno⟩ := hrel
    by_cases hlt : k < n
    · obtain ⟨b1, o1, p, rfl, hpk, c0, c1, c2, c3, c4⟩ := hra.getP5 hlt
      obtain ⟨x, hxk, hxr⟩ := HA.out.get hpk.out
      have hid := hxr.1
      rw [hid] at c0
      have hcs : (x.id == id) = true ∨ (x.id == id) = false := by cases x.id == id <;> simp
      rcases hcs with hn | hn
      · have HE := Lib.hid (show x.id = id by simpa using hn)
        go_wp2
        go_ret
        exact ⟨_, rfl, .inl ⟨k, x, rfl, hxk.out, HE.out, hno.out⟩, (Grew.refl w).alloc _⟩
      · have HF := Lib.hid (hasF_no hno.out hxk.out hn)
        go_wp2
        exact ⟨⟨k + 1, by omega, by go_num, HF⟩, by simp [intOf]; omega⟩
    · obtain rfl : k = n := by omega
      have h1 := hno.out
      rw [take_all HX.out] at h1
      have H1 := Lib.hid h1
      clear h1 hno
      go_wp2
      go_ret
      exact ⟨_, rfl, .inr ⟨H1.out, rfl⟩, (Grew.refl w).alloc _⟩
end Go.Proofs.YtemikjbfjhebnaaGreat
namespace Go.Proofs.YtemikjbfjhebnaaGreat
open Go.RowKit
set_option linter.unusedVariables false
theorem names_at (k : Nat) (h : k < 4) : ∃ x : ByteArray, (#[Value.string ⟨#[100, 97]⟩, .string ⟨#[100, 98]⟩, .string ⟨#[100, 99]⟩, .string ⟨#[100, 100]⟩] : Array Value)[k]? = some (.string x) ∧ x.size = 2 := by
  have : k = 0 ∨ k = 1 ∨ k = 2 ∨ k = 3 := by omega
  rcases this with rfl | rfl | rfl | rfl <;> exact ⟨_, rfl, rfl⟩
end Go.Proofs.YtemikjbfjhebnaaGreat
namespace Go.Proofs.YtemikjbfjhebnaaGreat
open Go.RowKit
set_option linter.unusedVariables false
def Cd (w : World) (v : Value) : Prop := ∃ (n : Nat) (bs : List Int), Rd w v 1 n (bs.map (Value.int .u8)) ∧ n ≤ 1048576
theorem Cd.grew {w w' : World} {v : Value} (h : Cd w v) (hg : Grew w w') : Cd w' v := by
  obtain ⟨n, bs, h1, h2⟩ := h
  exact ⟨n, bs, h1.grew hg, h2⟩
theorem D.out {g : Nat} {a b c : World} (h : Grew a b) (k : D g b c) (hl : a.heap.size ≤ g) : Grew a c := k.2.1.new h hl
end Go.Proofs.YtemikjbfjhebnaaGreat
namespace Go.Proofs.YtemikjbfjhebnaaGreat
open Go.RowKit
set_option linter.unusedVariables false
end Go.Proofs.YtemikjbfjhebnaaGreat
