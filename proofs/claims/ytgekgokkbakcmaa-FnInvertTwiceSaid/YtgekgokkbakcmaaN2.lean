/- Contracts of IsValidDirs. -/
import Derived.Test.YtgekgokkbakcmaaC5
import Derived.Test.YtgekgokkbakcmaaH5
import Derived.Test.YtgekgokkbakcmaaG
namespace Go.Proofs.Ytgekgokkbakcmaa
open Go.RowKit
set_option linter.unusedVariables false
theorem held3c {wr w' w1 : World} {a b c : Addr} {u v x : Value} (h : w'.cell? a = some u ∧ w'.cell? b = some v ∧ w'.cell? c = some x ∧ Grew wr w') (hb : Grew w' w1) : w1.cell? a = some u ∧ w1.cell? b = some v ∧ w1.cell? c = some x ∧ Grew wr w1 :=
 ⟨grew_cell hb h.1, grew_cell hb h.2.1, grew_cell hb h.2.2.1, h.2.2.2.trans hb⟩
/-- Whether the directory ahead has a lower name. -/
noncomputable def ascB (xs : List Dr) (i : Nat) (x : Dr) : Bool := match i with
 | 0 => true
 | j + 1 => match xs[j]? with
  | some y => Op.bytesLess y.name.toList x.name.toList
  | none => true
/-- A valid directory at its place. -/
noncomputable def dirAt (xs : List Dr) (i : Nat) (x : Dr) : Bool := txtB x.name 6 && (qryB x.query && ascB xs i x)
theorem dirs_ex (xs : List Dr) : ∃ b : Bool, b = true ↔ ∀ (i : Nat) x, xs[i]? = some x → dirAt xs i x = true := by
 cases Classical.em (∀ (i : Nat) x, xs[i]? = some x → dirAt xs i x = true) with
 | inl h => exact ⟨true, ⟨fun _ => h, fun _ => rfl⟩⟩
 | inr h => exact ⟨false, ⟨fun e => Bool.noConfusion e, fun e => absurd e h⟩⟩
noncomputable def dirsB (xs : List Dr) : Bool := (dirs_ex xs).choose && decide (xs.length ≤ 5)
theorem dirsB_no {xs : List Dr} {i : Nat} {x : Dr} (h : xs[i]? = some x) (hn : dirAt xs i x = false) : dirsB xs = false := by
 have h1 := (dirs_ex xs).choose_spec
 unfold dirsB
 cases hc : (dirs_ex xs).choose with
 | false => rfl
 | true => rw [h1.1 hc i x h] at hn; cases hn
theorem dirsB_yes {xs : List Dr} (h : ∀ (i : Nat) x, i < xs.length → xs[i]? = some x → dirAt xs i x = true) : dirsB xs = decide (xs.length ≤ 5) := by
 have h1 := (dirs_ex xs).choose_spec
 unfold dirsB
 rw [h1.2 (fun i x hx => h i x (List.getElem?_eq_some_iff.1 hx).1 hx)]; rfl
theorem dir_sz {xs : List Dr} {x : Dr} {i : Nat} (hz : szAll Dr.sz xs ≤ 4000000) (h : xs[i]? = some x) : x.name.size ≤ 4000000 ∧ x.query.length ≤ 4000000 ∧ szAll N.sz x.query ≤ 4000000 := by
 have h1 := mem_szAll (f := Dr.sz) (List.mem_of_getElem? h)
 unfold Dr.sz at h1
 unfold Dr.sz at hz
 refine ⟨?_, ?_, ?_⟩ <;> omega
theorem alls_snoc {xs : List Dr} {k : Nat} {x : Dr} (h : ∀ (j : Nat) y, j < k → xs[j]? = some y → dirAt xs j y = true) (hx : xs[k]? = some x) (hn : dirAt xs k x = true) : ∀ (j : Nat) y, j < k + 1 → xs[j]? = some y → dirAt xs j y = true := fun j y hj hy => by
 rcases Nat.lt_succ_iff_lt_or_eq.1 hj with h1 | rfl
 ·
  exact h j y h1 hy
 ·
  obtain rfl := Option.some.inj (hx.symm.trans hy); exact hn
set_option maxRecDepth 100000 in
set_option maxHeartbeats 2000000 in
theorem specIsValidDirs (va : Value) (xs : List Dr) (w : World) (ha : RdDs w va xs) (hx : xs.length ≤ 4000000) (hz : szAll Dr.sz xs ≤ 4000000) :
  Calls Try.prog 51 #[va] w fun e w' => e = .returned (.bool (dirsB xs)) ∧ Grew w w' := by
 obtain ⟨qs, ⟨a, ca, rfl, hca, hra⟩, hall⟩ := ha
 have HA := Lib.hid hall
 have HZ := Lib.hid hz
 clear hall hz
 generalize hn : xs.length = n at hx hra
 have HX := Lib.hid hn
 clear hn
 go_enter Try.func51, Try.ntmps51
 go_wp2
 go_loopw [3] (fun i wr => ∃ k : Nat, k ≤ n ∧ i = .int .i64 k ∧ Hid (∀ (j : Nat) y, j < k → xs[j]? = some y → dirAt xs j y = true) ∧ Grew w wr) (fun i _ => n - (intOf i).toNat)
 case atStart => exact ⟨0, Nat.zero_le _, rfl, Lib.hid (fun j y h => absurd h (Nat.not_lt_zero j)), Grew.refl _⟩
 case round =>
  obtain ⟨k, hk, rfl, hsame, hbel⟩ := hrel
  by_cases hlt : k < n
  ·
   obtain ⟨b1, o1, p, rfl, hpk, c0, c1⟩ := (hra.grew hbel).getP2 hlt
   obtain ⟨x, hxk, hxr⟩ := HA.out.get hpk.out
   obtain ⟨hs1, hs2, hs3⟩ := dir_sz HZ.out hxk.out
   obtain ⟨pn, pq⟩ := p
   obtain ⟨hxn, hxq⟩ := hxr
   simp only at hxn hxq c0 c1
   subst hxn
   have HQ := Lib.hid hxq
   obtain ⟨pa, pc, rfl, hpc, hpr⟩ := hxq
   clear hpr
   obtain ⟨tv, htv⟩ : ∃ b, b = txtB x.name 6 := ⟨_, rfl⟩
   obtain ⟨qv, hqv⟩ : ∃ b, b = qryB x.query := ⟨_, rfl⟩
   have HT := Lib.hid htv
   have HV := Lib.hid hqv
   clear htv hqv
   have DA := Lib.hid (show ∀ (xs : List Dr) (i : Nat), dirAt xs i x = (tv && (qv && ascB xs i x)) from fun xs i => by rw [HT.out, HV.out]; rfl)
   have hcs : tv = false ∨ tv = true := by cases tv <;> simp
   have hcq : qv = false ∨ qv = true := by cases qv <;> simp
   rcases hcs with rfl | rfl
   ·
    have hk0 := hk
    go_wp2_with fail
    refine wp_region_noPanic ?_
    refine wp_region_held_drew (S := (fun w' => (w'.cell? ⟨b1, o1 + k * 2, none⟩ = some (.string x.name) ∧ w'.cell? ⟨b1, o1 + k * 2 + 1, none⟩ = some (.slice pa x.query.length pc) ∧ Grew wr w'))) (by kernel_rfl) ?h1_S ?h1_r
    case h1_S => exact ⟨c0, c1, (Grew.refl _).drew⟩
    case h1_r =>
     intro HS
     (refine tk (v := ?v1_0) 0 rfl (by kernel_rfl) rfl ?y1_0 HS ?_; case y1_0 => (intro w' hSw; (try dsimp only at hSw); go_simp <;> (with_reducible rfl)))
     try simp only [Act.put, lpa, lpb, lpc]
     (refine tk (v := ?v1_1) 1 rfl (by kernel_rfl) rfl ?y1_1 HS ?_; case y1_1 => (intro w' hSw; (try dsimp only at hSw); go_simp <;> (with_reducible rfl)))
     try simp only [Act.put, lpa, lpb, lpc]
     (refine tk (v := ?v1_2) 2 rfl (by kernel_rfl) rfl ?y1_2 HS ?_; case y1_2 => (intro w' hSw; (try dsimp only at hSw); go_simp <;> (with_reducible rfl)))
     try simp only [Act.put, lpa, lpb, lpc]
     (refine tk (v := ?v1_3) 3 rfl (by kernel_rfl) rfl ?y1_3 HS ?_; case y1_3 => (intro w' hSw; (try dsimp only at hSw); go_simp <;> (with_reducible rfl)))
     try simp only [Act.put, lpa, lpb, lpc]
     (refine tk (v := ?v1_4) 4 rfl (by kernel_rfl) rfl ?y1_4 HS ?_; case y1_4 => (intro w' hSw; (try dsimp only at hSw); go_simp <;> (with_reducible rfl)))
     try simp only [Act.put, lpa, lpb, lpc]
     refine cl 5 rfl (by kernel_rfl) (fun K hK => ?_)
     go_simp
     go_at_call 102; refine (specIsValidString _ _ hs1).mono ?_; rintro e w1 ⟨he, rfl⟩; rw [← HT.out] at he; subst he
     refine hK.out _ _ ?s1_5 ?r1_5
     case s1_5 => (try dsimp only); first | exact HS | exact held2 HS hb
     case r1_5 =>
      clear HS
      intro HS
      clear hK K
      try simp only [Act.put, lpa, lpb, lpc]
      (refine tk (v := ?v1_6) 6 rfl (by kernel_rfl) rfl ?y1_6 HS ?_; case y1_6 => (intro w' hSw; (try dsimp only at hSw); go_simp <;> (with_reducible rfl)))
      try simp only [Act.put, lpa, lpb, lpc]
      (refine tk (v := ?v1_7) 7 rfl (by kernel_rfl) rfl ?y1_7 HS ?_; case y1_7 => (intro w' hSw; (try dsimp only at hSw); go_simp <;> (with_reducible rfl)))
      try simp only [Act.put, lpa, lpb, lpc]
      refine sk 8 rfl (by kernel_rfl) rfl HS ?_
      try simp only [Act.put, lpa, lpb, lpc]
      refine sk 9 rfl (by kernel_rfl) rfl HS ?_
      try simp only [Act.put, lpa, lpb, lpc]
      refine sk 10 rfl (by kernel_rfl) rfl HS ?_
      try simp only [Act.put, lpa, lpb, lpc]
      refine sk 11 rfl (by kernel_rfl) rfl HS ?_
      try simp only [Act.put, lpa, lpb, lpc]
      refine sk 12 rfl (by kernel_rfl) rfl HS ?_
      try simp only [Act.put, lpa, lpb, lpc]
      refine cl 13 rfl (by kernel_rfl) (fun K hK => ?_)
      go_simp
      refine hK.out _ _ ?s1_13 ?r1_13
      case s1_13 => (try dsimp only); exact HS
      case r1_13 =>
       clear HS
       intro HS
       clear hK K
       try simp only [Act.put, lpa, lpb, lpc]
       refine sk 14 rfl (by kernel_rfl) rfl HS ?_
       try simp only [Act.put, lpa, lpb, lpc]
       (refine tk (v := ?v1_15) 15 rfl (by kernel_rfl) rfl ?y1_15 HS ?_; case y1_15 => (intro w' hSw; (try dsimp only at hSw); go_simp <;> (with_reducible rfl)))
       try simp only [Act.put, lpa, lpb, lpc]
       (refine tk (v := ?v1_16) 16 rfl (by kernel_rfl) rfl ?y1_16 HS ?_; case y1_16 => (intro w' hSw; (try dsimp only at hSw); go_simp <;> (with_reducible rfl)))
       try simp only [Act.put, lpa, lpb, lpc]
       refine sk 17 rfl (by kernel_rfl) rfl HS ?_
       try simp only [Act.put, lpa, lpb, lpc]
       refine sk 18 rfl (by kernel_rfl) rfl HS ?_
       try simp only [Act.put, lpa, lpb, lpc]
       refine sk 19 rfl (by kernel_rfl) rfl HS ?_
       try simp only [Act.put, lpa, lpb, lpc]
       refine sk 20 rfl (by kernel_rfl) rfl HS ?_
       try simp only [Act.put, lpa, lpb, lpc]
       refine sk 21 rfl (by kernel_rfl) rfl HS ?_
       try simp only [Act.put, lpa, lpb, lpc]
       refine sk 22 rfl (by kernel_rfl) rfl HS ?_
       try simp only [Act.put, lpa, lpb, lpc]
       refine sk 23 rfl (by kernel_rfl) rfl HS ?_
       try simp only [Act.put, lpa, lpb, lpc]
       refine sk 24 rfl (by kernel_rfl) rfl HS ?_
       try simp only [Act.put, lpa, lpb, lpc]
       refine sk 25 rfl (by kernel_rfl) rfl HS ?_
       try simp only [Act.put, lpa, lpb, lpc]
       refine sk 26 rfl (by kernel_rfl) rfl HS ?_
       try simp only [Act.put, lpa, lpb, lpc]
       refine sk 27 rfl (by kernel_rfl) rfl HS ?_
       try simp only [Act.put, lpa, lpb, lpc]
       refine sk 28 rfl (by kernel_rfl) rfl HS ?_
       try simp only [Act.put, lpa, lpb, lpc]
       refine sk 29 rfl (by kernel_rfl) rfl HS ?_
       try simp only [Act.put, lpa, lpb, lpc]
       refine sk 30 rfl (by kernel_rfl) rfl HS ?_
       try simp only [Act.put, lpa, lpb, lpc]
       refine sk 31 rfl (by kernel_rfl) rfl HS ?_
       try simp only [Act.put, lpa, lpb, lpc]
       refine sk 32 rfl (by kernel_rfl) rfl HS ?_
       try simp only [Act.put, lpa, lpb, lpc]
       (refine tk (v := ?v1_33) 33 rfl (by kernel_rfl) rfl ?y1_33 HS ?_; case y1_33 => (intro w' hSw; (try dsimp only at hSw); go_simp <;> (with_reducible rfl)))
       try simp only [Act.put, lpa, lpb, lpc]
       refine wpAnyH_done (by kernel_rfl) ?_ _
       refine NoPanic.normal ?_
       go_wp2
       go_ret
       refine ⟨ret_bool ?_, hbel.trans (HS.2.2)⟩
       exact (dirsB_no hxk.out (by rw [DA.out]; rfl)).symm
   ·
    rcases hcq with rfl | rfl
    ·
     have hk0 := hk
     go_wp2_with fail
     refine wp_region_noPanic ?_
     refine wp_region_held_drew (S := (fun w' => (w'.cell? ⟨b1, o1 + k * 2, none⟩ = some (.string x.name) ∧ w'.cell? ⟨b1, o1 + k * 2 + 1, none⟩ = some (.slice pa x.query.length pc) ∧ Grew wr w'))) (by kernel_rfl) ?h2_S ?h2_r
     case h2_S => exact ⟨c0, c1, (Grew.refl _).drew⟩
     case h2_r =>
      intro HS
      (refine tk (v := ?v2_0) 0 rfl (by kernel_rfl) rfl ?y2_0 HS ?_; case y2_0 => (intro w' hSw; (try dsimp only at hSw); go_simp <;> (with_reducible rfl)))
      try simp only [Act.put, lpa, lpb, lpc]
      (refine tk (v := ?v2_1) 1 rfl (by kernel_rfl) rfl ?y2_1 HS ?_; case y2_1 => (intro w' hSw; (try dsimp only at hSw); go_simp <;> (with_reducible rfl)))
      try simp only [Act.put, lpa, lpb, lpc]
      (refine tk (v := ?v2_2) 2 rfl (by kernel_rfl) rfl ?y2_2 HS ?_; case y2_2 => (intro w' hSw; (try dsimp only at hSw); go_simp <;> (with_reducible rfl)))
      try simp only [Act.put, lpa, lpb, lpc]
      (refine tk (v := ?v2_3) 3 rfl (by kernel_rfl) rfl ?y2_3 HS ?_; case y2_3 => (intro w' hSw; (try dsimp only at hSw); go_simp <;> (with_reducible rfl)))
      try simp only [Act.put, lpa, lpb, lpc]
      (refine tk (v := ?v2_4) 4 rfl (by kernel_rfl) rfl ?y2_4 HS ?_; case y2_4 => (intro w' hSw; (try dsimp only at hSw); go_simp <;> (with_reducible rfl)))
      try simp only [Act.put, lpa, lpb, lpc]
      refine cl 5 rfl (by kernel_rfl) (fun K hK => ?_)
      go_simp
      go_at_call 102; refine (specIsValidString _ _ hs1).mono ?_; rintro e w1 ⟨he, rfl⟩; rw [← HT.out] at he; subst he
      refine hK.out _ _ ?s2_5 ?r2_5
      case s2_5 => (try dsimp only); first | exact HS | exact held2 HS hb
      case r2_5 =>
       clear HS
       intro HS
       clear hK K
       try simp only [Act.put, lpa, lpb, lpc]
       (refine tk (v := ?v2_6) 6 rfl (by kernel_rfl) rfl ?y2_6 HS ?_; case y2_6 => (intro w' hSw; (try dsimp only at hSw); go_simp <;> (with_reducible rfl)))
       try simp only [Act.put, lpa, lpb, lpc]
       (refine tk (v := ?v2_7) 7 rfl (by kernel_rfl) rfl ?y2_7 HS ?_; case y2_7 => (intro w' hSw; (try dsimp only at hSw); go_simp <;> (with_reducible rfl)))
       try simp only [Act.put, lpa, lpb, lpc]
       (refine tk (v := ?v2_8) 8 rfl (by kernel_rfl) rfl ?y2_8 HS ?_; case y2_8 => (intro w' hSw; (try dsimp only at hSw); go_simp <;> (with_reducible rfl)))
       try simp only [Act.put, lpa, lpb, lpc]
       (refine tk (v := ?v2_9) 9 rfl (by kernel_rfl) rfl ?y2_9 HS ?_; case y2_9 => (intro w' hSw; (try dsimp only at hSw); go_simp <;> (with_reducible rfl)))
       try simp only [Act.put, lpa, lpb, lpc]
       (refine tk (v := ?v2_10) 10 rfl (by kernel_rfl) rfl ?y2_10 HS ?_; case y2_10 => (intro w' hSw; (try dsimp only at hSw); go_simp <;> (with_reducible rfl)))
       try simp only [Act.put, lpa, lpb, lpc]
       (refine tk (v := ?v2_11) 11 rfl (by kernel_rfl) rfl ?y2_11 HS ?_; case y2_11 => (intro w' hSw; (try dsimp only at hSw); go_simp <;> (with_reducible rfl)))
       try simp only [Act.put, lpa, lpb, lpc]
       (refine tk (v := ?v2_12) 12 rfl (by kernel_rfl) rfl ?y2_12 HS ?_; case y2_12 => (intro w' hSw; (try dsimp only at hSw); go_simp <;> (with_reducible rfl)))
       try simp only [Act.put, lpa, lpb, lpc]
       refine cl 13 rfl (by kernel_rfl) (fun K hK => ?_)
       go_simp
       go_at_call 41; refine (specIsValidQuery _ x.query.length x.query _ (HQ.out.grew (hbel.trans (HS.2.2))) hs2 hs3).mono ?_; rintro e w1 ⟨he, hb⟩; rw [← HV.out] at he; subst he
       refine hK.out _ _ ?s2_13 ?r2_13
       case s2_13 => (try dsimp only); first | exact HS | exact held2 HS hb
       case r2_13 =>
        clear HS
        intro HS
        clear hK K
        try simp only [Act.put, lpa, lpb, lpc]
        (refine tk (v := ?v2_14) 14 rfl (by kernel_rfl) rfl ?y2_14 HS ?_; case y2_14 => (intro w' hSw; (try dsimp only at hSw); go_simp <;> (with_reducible rfl)))
        try simp only [Act.put, lpa, lpb, lpc]
        (refine tk (v := ?v2_15) 15 rfl (by kernel_rfl) rfl ?y2_15 HS ?_; case y2_15 => (intro w' hSw; (try dsimp only at hSw); go_simp <;> (with_reducible rfl)))
        try simp only [Act.put, lpa, lpb, lpc]
        (refine tk (v := ?v2_16) 16 rfl (by kernel_rfl) rfl ?y2_16 HS ?_; case y2_16 => (intro w' hSw; (try dsimp only at hSw); go_simp <;> (with_reducible rfl)))
        try simp only [Act.put, lpa, lpb, lpc]
        refine sk 17 rfl (by kernel_rfl) rfl HS ?_
        try simp only [Act.put, lpa, lpb, lpc]
        refine sk 18 rfl (by kernel_rfl) rfl HS ?_
        try simp only [Act.put, lpa, lpb, lpc]
        refine sk 19 rfl (by kernel_rfl) rfl HS ?_
        try simp only [Act.put, lpa, lpb, lpc]
        refine sk 20 rfl (by kernel_rfl) rfl HS ?_
        try simp only [Act.put, lpa, lpb, lpc]
        refine sk 21 rfl (by kernel_rfl) rfl HS ?_
        try simp only [Act.put, lpa, lpb, lpc]
        refine sk 22 rfl (by kernel_rfl) rfl HS ?_
        try simp only [Act.put, lpa, lpb, lpc]
        refine sk 23 rfl (by kernel_rfl) rfl HS ?_
        try simp only [Act.put, lpa, lpb, lpc]
        refine sk 24 rfl (by kernel_rfl) rfl HS ?_
        try simp only [Act.put, lpa, lpb, lpc]
        refine sk 25 rfl (by kernel_rfl) rfl HS ?_
        try simp only [Act.put, lpa, lpb, lpc]
        refine sk 26 rfl (by kernel_rfl) rfl HS ?_
        try simp only [Act.put, lpa, lpb, lpc]
        refine sk 27 rfl (by kernel_rfl) rfl HS ?_
        try simp only [Act.put, lpa, lpb, lpc]
        refine sk 28 rfl (by kernel_rfl) rfl HS ?_
        try simp only [Act.put, lpa, lpb, lpc]
        refine sk 29 rfl (by kernel_rfl) rfl HS ?_
        try simp only [Act.put, lpa, lpb, lpc]
        refine sk 30 rfl (by kernel_rfl) rfl HS ?_
        try simp only [Act.put, lpa, lpb, lpc]
        refine sk 31 rfl (by kernel_rfl) rfl HS ?_
        try simp only [Act.put, lpa, lpb, lpc]
        refine sk 32 rfl (by kernel_rfl) rfl HS ?_
        try simp only [Act.put, lpa, lpb, lpc]
        (refine tk (v := ?v2_33) 33 rfl (by kernel_rfl) rfl ?y2_33 HS ?_; case y2_33 => (intro w' hSw; (try dsimp only at hSw); go_simp <;> (with_reducible rfl)))
        try simp only [Act.put, lpa, lpb, lpc]
        refine wpAnyH_done (by kernel_rfl) ?_ _
        refine NoPanic.normal ?_
        go_wp2
        go_ret
        refine ⟨ret_bool ?_, hbel.trans (HS.2.2)⟩
        exact (dirsB_no hxk.out (by rw [DA.out]; rfl)).symm
    ·
     by_cases hk1 : ¬ (0 < k)
     ·
      have hk0 := hk
      go_wp2_with fail
      refine wp_region_noPanic ?_
      refine wp_region_held_drew (S := (fun w' => (w'.cell? ⟨b1, o1 + k * 2, none⟩ = some (.string x.name) ∧ w'.cell? ⟨b1, o1 + k * 2 + 1, none⟩ = some (.slice pa x.query.length pc) ∧ Grew wr w'))) (by kernel_rfl) ?h3_S ?h3_r
      case h3_S => exact ⟨c0, c1, (Grew.refl _).drew⟩
      case h3_r =>
       intro HS
       (refine tk (v := ?v3_0) 0 rfl (by kernel_rfl) rfl ?y3_0 HS ?_; case y3_0 => (intro w' hSw; (try dsimp only at hSw); go_simp <;> (with_reducible rfl)))
       try simp only [Act.put, lpa, lpb, lpc]
       (refine tk (v := ?v3_1) 1 rfl (by kernel_rfl) rfl ?y3_1 HS ?_; case y3_1 => (intro w' hSw; (try dsimp only at hSw); go_simp <;> (with_reducible rfl)))
       try simp only [Act.put, lpa, lpb, lpc]
       (refine tk (v := ?v3_2) 2 rfl (by kernel_rfl) rfl ?y3_2 HS ?_; case y3_2 => (intro w' hSw; (try dsimp only at hSw); go_simp <;> (with_reducible rfl)))
       try simp only [Act.put, lpa, lpb, lpc]
       (refine tk (v := ?v3_3) 3 rfl (by kernel_rfl) rfl ?y3_3 HS ?_; case y3_3 => (intro w' hSw; (try dsimp only at hSw); go_simp <;> (with_reducible rfl)))
       try simp only [Act.put, lpa, lpb, lpc]
       (refine tk (v := ?v3_4) 4 rfl (by kernel_rfl) rfl ?y3_4 HS ?_; case y3_4 => (intro w' hSw; (try dsimp only at hSw); go_simp <;> (with_reducible rfl)))
       try simp only [Act.put, lpa, lpb, lpc]
       refine cl 5 rfl (by kernel_rfl) (fun K hK => ?_)
       go_simp
       go_at_call 102; refine (specIsValidString _ _ hs1).mono ?_; rintro e w1 ⟨he, rfl⟩; rw [← HT.out] at he; subst he
       refine hK.out _ _ ?s3_5 ?r3_5
       case s3_5 => (try dsimp only); first | exact HS | exact held2 HS hb
       case r3_5 =>
        clear HS
        intro HS
        clear hK K
        try simp only [Act.put, lpa, lpb, lpc]
        (refine tk (v := ?v3_6) 6 rfl (by kernel_rfl) rfl ?y3_6 HS ?_; case y3_6 => (intro w' hSw; (try dsimp only at hSw); go_simp <;> (with_reducible rfl)))
        try simp only [Act.put, lpa, lpb, lpc]
        (refine tk (v := ?v3_7) 7 rfl (by kernel_rfl) rfl ?y3_7 HS ?_; case y3_7 => (intro w' hSw; (try dsimp only at hSw); go_simp <;> (with_reducible rfl)))
        try simp only [Act.put, lpa, lpb, lpc]
        (refine tk (v := ?v3_8) 8 rfl (by kernel_rfl) rfl ?y3_8 HS ?_; case y3_8 => (intro w' hSw; (try dsimp only at hSw); go_simp <;> (with_reducible rfl)))
        try simp only [Act.put, lpa, lpb, lpc]
        (refine tk (v := ?v3_9) 9 rfl (by kernel_rfl) rfl ?y3_9 HS ?_; case y3_9 => (intro w' hSw; (try dsimp only at hSw); go_simp <;> (with_reducible rfl)))
        try simp only [Act.put, lpa, lpb, lpc]
        (refine tk (v := ?v3_10) 10 rfl (by kernel_rfl) rfl ?y3_10 HS ?_; case y3_10 => (intro w' hSw; (try dsimp only at hSw); go_simp <;> (with_reducible rfl)))
        try simp only [Act.put, lpa, lpb, lpc]
        (refine tk (v := ?v3_11) 11 rfl (by kernel_rfl) rfl ?y3_11 HS ?_; case y3_11 => (intro w' hSw; (try dsimp only at hSw); go_simp <;> (with_reducible rfl)))
        try simp only [Act.put, lpa, lpb, lpc]
        (refine tk (v := ?v3_12) 12 rfl (by kernel_rfl) rfl ?y3_12 HS ?_; case y3_12 => (intro w' hSw; (try dsimp only at hSw); go_simp <;> (with_reducible rfl)))
        try simp only [Act.put, lpa, lpb, lpc]
        refine cl 13 rfl (by kernel_rfl) (fun K hK => ?_)
        go_simp
        go_at_call 41; refine (specIsValidQuery _ x.query.length x.query _ (HQ.out.grew (hbel.trans (HS.2.2))) hs2 hs3).mono ?_; rintro e w1 ⟨he, hb⟩; rw [← HV.out] at he; subst he
        refine hK.out _ _ ?s3_13 ?r3_13
        case s3_13 => (try dsimp only); first | exact HS | exact held2 HS hb
        case r3_13 =>
         clear HS
         intro HS
         clear hK K
         try simp only [Act.put, lpa, lpb, lpc]
         (refine tk (v := ?v3_14) 14 rfl (by kernel_rfl) rfl ?y3_14 HS ?_; case y3_14 => (intro w' hSw; (try dsimp only at hSw); go_simp <;> (with_reducible rfl)))
         try simp only [Act.put, lpa, lpb, lpc]
         (refine tk (v := ?v3_15) 15 rfl (by kernel_rfl) rfl ?y3_15 HS ?_; case y3_15 => (intro w' hSw; (try dsimp only at hSw); go_simp <;> (with_reducible rfl)))
         try simp only [Act.put, lpa, lpb, lpc]
         (refine tk (v := ?v3_16) 16 rfl (by kernel_rfl) rfl ?y3_16 HS ?_; case y3_16 => (intro w' hSw; (try dsimp only at hSw); go_simp <;> (with_reducible rfl)))
         try simp only [Act.put, lpa, lpb, lpc]
         (refine tk (v := ?v3_17) 17 rfl (by kernel_rfl) rfl ?y3_17 HS ?_; case y3_17 => (intro w' hSw; (try dsimp only at hSw); go_simp <;> (with_reducible rfl)))
         try simp only [Act.put, lpa, lpb, lpc]
         (refine tk (v := ?v3_18) 18 rfl (by kernel_rfl) rfl ?y3_18 HS ?_; case y3_18 => (intro w' hSw; (try dsimp only at hSw); go_simp <;> (with_reducible rfl)))
         try simp only [Act.put, lpa, lpb, lpc]
         (refine tk (v := ?v3_19) 19 rfl (by kernel_rfl) rfl ?y3_19 HS ?_; case y3_19 => (intro w' hSw; (try dsimp only at hSw); go_simp <;> (with_reducible rfl)))
         try simp only [Act.put, lpa, lpb, lpc]
         refine sk 20 rfl (by kernel_rfl) rfl HS ?_
         try simp only [Act.put, lpa, lpb, lpc]
         refine sk 21 rfl (by kernel_rfl) rfl HS ?_
         try simp only [Act.put, lpa, lpb, lpc]
         refine sk 22 rfl (by kernel_rfl) rfl HS ?_
         try simp only [Act.put, lpa, lpb, lpc]
         refine sk 23 rfl (by kernel_rfl) rfl HS ?_
         try simp only [Act.put, lpa, lpb, lpc]
         refine sk 24 rfl (by kernel_rfl) rfl HS ?_
         try simp only [Act.put, lpa, lpb, lpc]
         refine sk 25 rfl (by kernel_rfl) rfl HS ?_
         try simp only [Act.put, lpa, lpb, lpc]
         refine sk 26 rfl (by kernel_rfl) rfl HS ?_
         try simp only [Act.put, lpa, lpb, lpc]
         refine sk 27 rfl (by kernel_rfl) rfl HS ?_
         try simp only [Act.put, lpa, lpb, lpc]
         refine sk 28 rfl (by kernel_rfl) rfl HS ?_
         try simp only [Act.put, lpa, lpb, lpc]
         refine sk 29 rfl (by kernel_rfl) rfl HS ?_
         try simp only [Act.put, lpa, lpb, lpc]
         refine sk 30 rfl (by kernel_rfl) rfl HS ?_
         try simp only [Act.put, lpa, lpb, lpc]
         refine sk 31 rfl (by kernel_rfl) rfl HS ?_
         try simp only [Act.put, lpa, lpb, lpc]
         (refine tk (v := ?v3_32) 32 rfl (by kernel_rfl) rfl ?y3_32 HS ?_; case y3_32 => (intro w' hSw; (try dsimp only at hSw); go_simp <;> (with_reducible rfl)))
         try simp only [Act.put, lpa, lpb, lpc]
         (refine tk (v := ?v3_33) 33 rfl (by kernel_rfl) rfl ?y3_33 HS ?_; case y3_33 => (intro w' hSw; (try dsimp only at hSw); go_simp <;> (with_reducible rfl)))
         try simp only [Act.put, lpa, lpb, lpc]
         refine wpAnyH_done (by kernel_rfl) ?_ _
         refine NoPanic.normal ?_
         go_wp2
         go_roundw
         case rel => exact ⟨k + 1, by omega, by go_num, Lib.hid (alls_snoc hsame.out hxk.out (by rw [DA.out, Nat.eq_zero_of_not_pos hk1]; rfl)), hbel.trans (HS.2.2)⟩
         case measure => simp [intOf]; omega
     ·
      obtain ⟨p, rfl⟩ : ∃ p, k = p + 1 := ⟨k - 1, by omega⟩
      obtain ⟨b2, o2, pp, hab, hyp, d0, d1⟩ := (hra.grew hbel).getP2 (show p < n by omega)
      obtain ⟨y, hyk, hyr⟩ := HA.out.get hyp.out
      obtain ⟨rfl, rfl⟩ : b1 = b2 ∧ o1 = o2 := by cases hab; exact ⟨rfl, rfl⟩
      clear hab
      obtain ⟨yn, yq⟩ := pp
      obtain ⟨hyn, hyq⟩ := hyr
      simp only at hyn hyq d0 d1
      subst hyn
      clear hyq d1
      have hpp : ((p + 1 : Nat) : Int) - 1 = (p : Int) := by omega
      have hp0 : (0 : Int) ≤ (p : Int) + 1 := by omega
      have hp1 : (p : Int) < (n : Int) := by omega
      have hwp : IntKind.i64.wrap (p : Int) = (p : Int) := by simp [IntKind.wrap, IntKind.bits, IntKind.signed]; omega
      obtain ⟨lv, hlv⟩ : ∃ b, Op.bytesLess y.name.toList x.name.toList = b := ⟨_, rfl⟩
      have DS := Lib.hid (show dirAt xs (p + 1) x = (true && (true && lv)) by rw [DA.out]; unfold ascB; simp only; rw [hyk.out]; simp only; rw [hlv])
      have hcl : lv = false ∨ lv = true := by cases lv <;> simp
      rcases hcl with rfl | rfl
      ·
       have hk0 := hk
       go_wp2_with fail
       refine wp_region_noPanic ?_
       refine wp_region_held_drew (S := (fun w' => (w'.cell? ⟨b1, o1 + (p + 1) * 2, none⟩ = some (.string x.name) ∧ w'.cell? ⟨b1, o1 + (p + 1) * 2 + 1, none⟩ = some (.slice pa x.query.length pc) ∧ w'.cell? ⟨b1, o1 + p * 2, none⟩ = some (.string y.name) ∧ Grew wr w'))) (by kernel_rfl) ?h4_S ?h4_r
       case h4_S => exact ⟨c0, c1, d0, (Grew.refl _).drew⟩
       case h4_r =>
        intro HS
        (refine tk (v := ?v4_0) 0 rfl (by kernel_rfl) rfl ?y4_0 HS ?_; case y4_0 => (intro w' hSw; (try dsimp only at hSw); go_simp <;> (with_reducible rfl)))
        try simp only [Act.put, lpa, lpb, lpc]
        (refine tk (v := ?v4_1) 1 rfl (by kernel_rfl) rfl ?y4_1 HS ?_; case y4_1 => (intro w' hSw; (try dsimp only at hSw); go_simp <;> (with_reducible rfl)))
        try simp only [Act.put, lpa, lpb, lpc]
        (refine tk (v := ?v4_2) 2 rfl (by kernel_rfl) rfl ?y4_2 HS ?_; case y4_2 => (intro w' hSw; (try dsimp only at hSw); go_simp <;> (with_reducible rfl)))
        try simp only [Act.put, lpa, lpb, lpc]
        (refine tk (v := ?v4_3) 3 rfl (by kernel_rfl) rfl ?y4_3 HS ?_; case y4_3 => (intro w' hSw; (try dsimp only at hSw); go_simp <;> (with_reducible rfl)))
        try simp only [Act.put, lpa, lpb, lpc]
        (refine tk (v := ?v4_4) 4 rfl (by kernel_rfl) rfl ?y4_4 HS ?_; case y4_4 => (intro w' hSw; (try dsimp only at hSw); go_simp <;> (with_reducible rfl)))
        try simp only [Act.put, lpa, lpb, lpc]
        refine cl 5 rfl (by kernel_rfl) (fun K hK => ?_)
        go_simp
        go_at_call 102; refine (specIsValidString _ _ hs1).mono ?_; rintro e w1 ⟨he, rfl⟩; rw [← HT.out] at he; subst he
        refine hK.out _ _ ?s4_5 ?r4_5
        case s4_5 => (try dsimp only); first | exact HS | exact held3c HS hb
        case r4_5 =>
         clear HS
         intro HS
         clear hK K
         try simp only [Act.put, lpa, lpb, lpc]
         (refine tk (v := ?v4_6) 6 rfl (by kernel_rfl) rfl ?y4_6 HS ?_; case y4_6 => (intro w' hSw; (try dsimp only at hSw); go_simp <;> (with_reducible rfl)))
         try simp only [Act.put, lpa, lpb, lpc]
         (refine tk (v := ?v4_7) 7 rfl (by kernel_rfl) rfl ?y4_7 HS ?_; case y4_7 => (intro w' hSw; (try dsimp only at hSw); go_simp <;> (with_reducible rfl)))
         try simp only [Act.put, lpa, lpb, lpc]
         (refine tk (v := ?v4_8) 8 rfl (by kernel_rfl) rfl ?y4_8 HS ?_; case y4_8 => (intro w' hSw; (try dsimp only at hSw); go_simp <;> (with_reducible rfl)))
         try simp only [Act.put, lpa, lpb, lpc]
         (refine tk (v := ?v4_9) 9 rfl (by kernel_rfl) rfl ?y4_9 HS ?_; case y4_9 => (intro w' hSw; (try dsimp only at hSw); go_simp <;> (with_reducible rfl)))
         try simp only [Act.put, lpa, lpb, lpc]
         (refine tk (v := ?v4_10) 10 rfl (by kernel_rfl) rfl ?y4_10 HS ?_; case y4_10 => (intro w' hSw; (try dsimp only at hSw); go_simp <;> (with_reducible rfl)))
         try simp only [Act.put, lpa, lpb, lpc]
         (refine tk (v := ?v4_11) 11 rfl (by kernel_rfl) rfl ?y4_11 HS ?_; case y4_11 => (intro w' hSw; (try dsimp only at hSw); go_simp <;> (with_reducible rfl)))
         try simp only [Act.put, lpa, lpb, lpc]
         (refine tk (v := ?v4_12) 12 rfl (by kernel_rfl) rfl ?y4_12 HS ?_; case y4_12 => (intro w' hSw; (try dsimp only at hSw); go_simp <;> (with_reducible rfl)))
         try simp only [Act.put, lpa, lpb, lpc]
         refine cl 13 rfl (by kernel_rfl) (fun K hK => ?_)
         go_simp
         go_at_call 41; refine (specIsValidQuery _ x.query.length x.query _ (HQ.out.grew (hbel.trans (HS.2.2.2))) hs2 hs3).mono ?_; rintro e w1 ⟨he, hb⟩; rw [← HV.out] at he; subst he
         refine hK.out _ _ ?s4_13 ?r4_13
         case s4_13 => (try dsimp only); first | exact HS | exact held3c HS hb
         case r4_13 =>
          clear HS
          intro HS
          clear hK K
          try simp only [Act.put, lpa, lpb, lpc]
          (refine tk (v := ?v4_14) 14 rfl (by kernel_rfl) rfl ?y4_14 HS ?_; case y4_14 => (intro w' hSw; (try dsimp only at hSw); go_simp <;> (with_reducible rfl)))
          try simp only [Act.put, lpa, lpb, lpc]
          (refine tk (v := ?v4_15) 15 rfl (by kernel_rfl) rfl ?y4_15 HS ?_; case y4_15 => (intro w' hSw; (try dsimp only at hSw); go_simp <;> (with_reducible rfl)))
          try simp only [Act.put, lpa, lpb, lpc]
          (refine tk (v := ?v4_16) 16 rfl (by kernel_rfl) rfl ?y4_16 HS ?_; case y4_16 => (intro w' hSw; (try dsimp only at hSw); go_simp <;> (with_reducible rfl)))
          try simp only [Act.put, lpa, lpb, lpc]
          (refine tk (v := ?v4_17) 17 rfl (by kernel_rfl) rfl ?y4_17 HS ?_; case y4_17 => (intro w' hSw; (try dsimp only at hSw); go_simp <;> (with_reducible rfl)))
          try simp only [Act.put, lpa, lpb, lpc]
          (refine tk (v := ?v4_18) 18 rfl (by kernel_rfl) rfl ?y4_18 HS ?_; case y4_18 => (intro w' hSw; (try dsimp only at hSw); go_simp <;> (with_reducible rfl)))
          try simp only [Act.put, lpa, lpb, lpc]
          (refine tk (v := ?v4_19) 19 rfl (by kernel_rfl) rfl ?y4_19 HS ?_; case y4_19 => (intro w' hSw; (try dsimp only at hSw); go_simp <;> (with_reducible rfl)))
          try simp only [Act.put, lpa, lpb, lpc]
          (refine tk (v := ?v4_20) 20 rfl (by kernel_rfl) rfl ?y4_20 HS ?_; case y4_20 => (intro w' hSw; (try dsimp only at hSw); go_simp <;> (with_reducible rfl)))
          try simp only [Act.put, lpa, lpb, lpc]
          (refine tk (v := ?v4_21) 21 rfl (by kernel_rfl) rfl ?y4_21 HS ?_; case y4_21 => (intro w' hSw; (try dsimp only at hSw); go_simp <;> (with_reducible rfl)))
          try simp only [Act.put, lpa, lpb, lpc]
          (refine tk (v := ?v4_22) 22 rfl (by kernel_rfl) rfl ?y4_22 HS ?_; case y4_22 => (intro w' hSw; (try dsimp only at hSw); go_simp <;> (with_reducible rfl)))
          try simp only [Act.put, lpa, lpb, lpc]
          (refine tk (v := ?v4_23) 23 rfl (by kernel_rfl) rfl ?y4_23 HS ?_; case y4_23 => (intro w' hSw; (try dsimp only at hSw); go_simp <;> (with_reducible rfl)))
          try simp only [Act.put, lpa, lpb, lpc]
          (refine tk (v := ?v4_24) 24 rfl (by kernel_rfl) rfl ?y4_24 HS ?_; case y4_24 => (intro w' hSw; (try dsimp only at hSw); go_simp <;> (with_reducible rfl)))
          try simp only [Act.put, lpa, lpb, lpc]
          (refine tk (v := ?v4_25) 25 rfl (by kernel_rfl) rfl ?y4_25 HS ?_; case y4_25 => (intro w' hSw; (try dsimp only at hSw); go_simp <;> (with_reducible rfl)))
          try simp only [Act.put, lpa, lpb, lpc]
          (refine tk (v := ?v4_26) 26 rfl (by kernel_rfl) rfl ?y4_26 HS ?_; case y4_26 => (intro w' hSw; (try dsimp only at hSw); go_simp <;> (with_reducible rfl)))
          try simp only [Act.put, lpa, lpb, lpc]
          (refine tk (v := ?v4_27) 27 rfl (by kernel_rfl) rfl ?y4_27 HS ?_; case y4_27 => (intro w' hSw; (try dsimp only at hSw); go_simp <;> (with_reducible rfl)))
          try simp only [Act.put, lpa, lpb, lpc]
          (refine tk (v := ?v4_28) 28 rfl (by kernel_rfl) rfl ?y4_28 HS ?_; case y4_28 => (intro w' hSw; (try dsimp only at hSw); go_simp <;> (with_reducible rfl)))
          try simp only [Act.put, lpa, lpb, lpc]
          (refine tk (v := ?v4_29) 29 rfl (by kernel_rfl) rfl ?y4_29 HS ?_; case y4_29 => (intro w' hSw; (try dsimp only at hSw); go_simp <;> (with_reducible rfl)))
          try simp only [Act.put, lpa, lpb, lpc]
          (refine tk (v := ?v4_30) 30 rfl (by kernel_rfl) rfl ?y4_30 HS ?_; case y4_30 => (intro w' hSw; (try dsimp only at hSw); go_simp <;> (with_reducible rfl)))
          try simp only [Act.put, lpa, lpb, lpc]
          (refine tk (v := ?v4_31) 31 rfl (by kernel_rfl) rfl ?y4_31 HS ?_; case y4_31 => (intro w' hSw; (try dsimp only at hSw); go_simp <;> (with_reducible rfl)))
          try simp only [Act.put, lpa, lpb, lpc]
          (refine tk (v := ?v4_32) 32 rfl (by kernel_rfl) rfl ?y4_32 HS ?_; case y4_32 => (intro w' hSw; (try dsimp only at hSw); go_simp <;> (with_reducible rfl)))
          try simp only [Act.put, lpa, lpb, lpc]
          (refine tk (v := ?v4_33) 33 rfl (by kernel_rfl) rfl ?y4_33 HS ?_; case y4_33 => (intro w' hSw; (try dsimp only at hSw); go_simp <;> (with_reducible rfl)))
          try simp only [Act.put, lpa, lpb, lpc]
          refine wpAnyH_done (by kernel_rfl) ?_ _
          refine NoPanic.normal ?_
          go_wp2
          go_ret
          refine ⟨ret_bool ?_, hbel.trans (HS.2.2.2)⟩
          exact (dirsB_no hxk.out (by rw [DS.out]; rfl)).symm
      ·
       have hk0 := hk
       go_wp2_with fail
       refine wp_region_noPanic ?_
       refine wp_region_held_drew (S := (fun w' => (w'.cell? ⟨b1, o1 + (p + 1) * 2, none⟩ = some (.string x.name) ∧ w'.cell? ⟨b1, o1 + (p + 1) * 2 + 1, none⟩ = some (.slice pa x.query.length pc) ∧ w'.cell? ⟨b1, o1 + p * 2, none⟩ = some (.string y.name) ∧ Grew wr w'))) (by kernel_rfl) ?h5_S ?h5_r
       case h5_S => exact ⟨c0, c1, d0, (Grew.refl _).drew⟩
       case h5_r =>
        intro HS
        (refine tk (v := ?v5_0) 0 rfl (by kernel_rfl) rfl ?y5_0 HS ?_; case y5_0 => (intro w' hSw; (try dsimp only at hSw); go_simp <;> (with_reducible rfl)))
        try simp only [Act.put, lpa, lpb, lpc]
        (refine tk (v := ?v5_1) 1 rfl (by kernel_rfl) rfl ?y5_1 HS ?_; case y5_1 => (intro w' hSw; (try dsimp only at hSw); go_simp <;> (with_reducible rfl)))
        try simp only [Act.put, lpa, lpb, lpc]
        (refine tk (v := ?v5_2) 2 rfl (by kernel_rfl) rfl ?y5_2 HS ?_; case y5_2 => (intro w' hSw; (try dsimp only at hSw); go_simp <;> (with_reducible rfl)))
        try simp only [Act.put, lpa, lpb, lpc]
        (refine tk (v := ?v5_3) 3 rfl (by kernel_rfl) rfl ?y5_3 HS ?_; case y5_3 => (intro w' hSw; (try dsimp only at hSw); go_simp <;> (with_reducible rfl)))
        try simp only [Act.put, lpa, lpb, lpc]
        (refine tk (v := ?v5_4) 4 rfl (by kernel_rfl) rfl ?y5_4 HS ?_; case y5_4 => (intro w' hSw; (try dsimp only at hSw); go_simp <;> (with_reducible rfl)))
        try simp only [Act.put, lpa, lpb, lpc]
        refine cl 5 rfl (by kernel_rfl) (fun K hK => ?_)
        go_simp
        go_at_call 102; refine (specIsValidString _ _ hs1).mono ?_; rintro e w1 ⟨he, rfl⟩; rw [← HT.out] at he; subst he
        refine hK.out _ _ ?s5_5 ?r5_5
        case s5_5 => (try dsimp only); first | exact HS | exact held3c HS hb
        case r5_5 =>
         clear HS
         intro HS
         clear hK K
         try simp only [Act.put, lpa, lpb, lpc]
         (refine tk (v := ?v5_6) 6 rfl (by kernel_rfl) rfl ?y5_6 HS ?_; case y5_6 => (intro w' hSw; (try dsimp only at hSw); go_simp <;> (with_reducible rfl)))
         try simp only [Act.put, lpa, lpb, lpc]
         (refine tk (v := ?v5_7) 7 rfl (by kernel_rfl) rfl ?y5_7 HS ?_; case y5_7 => (intro w' hSw; (try dsimp only at hSw); go_simp <;> (with_reducible rfl)))
         try simp only [Act.put, lpa, lpb, lpc]
         (refine tk (v := ?v5_8) 8 rfl (by kernel_rfl) rfl ?y5_8 HS ?_; case y5_8 => (intro w' hSw; (try dsimp only at hSw); go_simp <;> (with_reducible rfl)))
         try simp only [Act.put, lpa, lpb, lpc]
         (refine tk (v := ?v5_9) 9 rfl (by kernel_rfl) rfl ?y5_9 HS ?_; case y5_9 => (intro w' hSw; (try dsimp only at hSw); go_simp <;> (with_reducible rfl)))
         try simp only [Act.put, lpa, lpb, lpc]
         (refine tk (v := ?v5_10) 10 rfl (by kernel_rfl) rfl ?y5_10 HS ?_; case y5_10 => (intro w' hSw; (try dsimp only at hSw); go_simp <;> (with_reducible rfl)))
         try simp only [Act.put, lpa, lpb, lpc]
         (refine tk (v := ?v5_11) 11 rfl (by kernel_rfl) rfl ?y5_11 HS ?_; case y5_11 => (intro w' hSw; (try dsimp only at hSw); go_simp <;> (with_reducible rfl)))
         try simp only [Act.put, lpa, lpb, lpc]
         (refine tk (v := ?v5_12) 12 rfl (by kernel_rfl) rfl ?y5_12 HS ?_; case y5_12 => (intro w' hSw; (try dsimp only at hSw); go_simp <;> (with_reducible rfl)))
         try simp only [Act.put, lpa, lpb, lpc]
         refine cl 13 rfl (by kernel_rfl) (fun K hK => ?_)
         go_simp
         go_at_call 41; refine (specIsValidQuery _ x.query.length x.query _ (HQ.out.grew (hbel.trans (HS.2.2.2))) hs2 hs3).mono ?_; rintro e w1 ⟨he, hb⟩; rw [← HV.out] at he; subst he
         refine hK.out _ _ ?s5_13 ?r5_13
         case s5_13 => (try dsimp only); first | exact HS | exact held3c HS hb
         case r5_13 =>
          clear HS
          intro HS
          clear hK K
          try simp only [Act.put, lpa, lpb, lpc]
          (refine tk (v := ?v5_14) 14 rfl (by kernel_rfl) rfl ?y5_14 HS ?_; case y5_14 => (intro w' hSw; (try dsimp only at hSw); go_simp <;> (with_reducible rfl)))
          try simp only [Act.put, lpa, lpb, lpc]
          (refine tk (v := ?v5_15) 15 rfl (by kernel_rfl) rfl ?y5_15 HS ?_; case y5_15 => (intro w' hSw; (try dsimp only at hSw); go_simp <;> (with_reducible rfl)))
          try simp only [Act.put, lpa, lpb, lpc]
          (refine tk (v := ?v5_16) 16 rfl (by kernel_rfl) rfl ?y5_16 HS ?_; case y5_16 => (intro w' hSw; (try dsimp only at hSw); go_simp <;> (with_reducible rfl)))
          try simp only [Act.put, lpa, lpb, lpc]
          (refine tk (v := ?v5_17) 17 rfl (by kernel_rfl) rfl ?y5_17 HS ?_; case y5_17 => (intro w' hSw; (try dsimp only at hSw); go_simp <;> (with_reducible rfl)))
          try simp only [Act.put, lpa, lpb, lpc]
          (refine tk (v := ?v5_18) 18 rfl (by kernel_rfl) rfl ?y5_18 HS ?_; case y5_18 => (intro w' hSw; (try dsimp only at hSw); go_simp <;> (with_reducible rfl)))
          try simp only [Act.put, lpa, lpb, lpc]
          (refine tk (v := ?v5_19) 19 rfl (by kernel_rfl) rfl ?y5_19 HS ?_; case y5_19 => (intro w' hSw; (try dsimp only at hSw); go_simp <;> (with_reducible rfl)))
          try simp only [Act.put, lpa, lpb, lpc]
          (refine tk (v := ?v5_20) 20 rfl (by kernel_rfl) rfl ?y5_20 HS ?_; case y5_20 => (intro w' hSw; (try dsimp only at hSw); go_simp <;> (with_reducible rfl)))
          try simp only [Act.put, lpa, lpb, lpc]
          (refine tk (v := ?v5_21) 21 rfl (by kernel_rfl) rfl ?y5_21 HS ?_; case y5_21 => (intro w' hSw; (try dsimp only at hSw); go_simp <;> (with_reducible rfl)))
          try simp only [Act.put, lpa, lpb, lpc]
          (refine tk (v := ?v5_22) 22 rfl (by kernel_rfl) rfl ?y5_22 HS ?_; case y5_22 => (intro w' hSw; (try dsimp only at hSw); go_simp <;> (with_reducible rfl)))
          try simp only [Act.put, lpa, lpb, lpc]
          (refine tk (v := ?v5_23) 23 rfl (by kernel_rfl) rfl ?y5_23 HS ?_; case y5_23 => (intro w' hSw; (try dsimp only at hSw); go_simp <;> (with_reducible rfl)))
          try simp only [Act.put, lpa, lpb, lpc]
          (refine tk (v := ?v5_24) 24 rfl (by kernel_rfl) rfl ?y5_24 HS ?_; case y5_24 => (intro w' hSw; (try dsimp only at hSw); go_simp <;> (with_reducible rfl)))
          try simp only [Act.put, lpa, lpb, lpc]
          (refine tk (v := ?v5_25) 25 rfl (by kernel_rfl) rfl ?y5_25 HS ?_; case y5_25 => (intro w' hSw; (try dsimp only at hSw); go_simp <;> (with_reducible rfl)))
          try simp only [Act.put, lpa, lpb, lpc]
          (refine tk (v := ?v5_26) 26 rfl (by kernel_rfl) rfl ?y5_26 HS ?_; case y5_26 => (intro w' hSw; (try dsimp only at hSw); go_simp <;> (with_reducible rfl)))
          try simp only [Act.put, lpa, lpb, lpc]
          (refine tk (v := ?v5_27) 27 rfl (by kernel_rfl) rfl ?y5_27 HS ?_; case y5_27 => (intro w' hSw; (try dsimp only at hSw); go_simp <;> (with_reducible rfl)))
          try simp only [Act.put, lpa, lpb, lpc]
          (refine tk (v := ?v5_28) 28 rfl (by kernel_rfl) rfl ?y5_28 HS ?_; case y5_28 => (intro w' hSw; (try dsimp only at hSw); go_simp <;> (with_reducible rfl)))
          try simp only [Act.put, lpa, lpb, lpc]
          (refine tk (v := ?v5_29) 29 rfl (by kernel_rfl) rfl ?y5_29 HS ?_; case y5_29 => (intro w' hSw; (try dsimp only at hSw); go_simp <;> (with_reducible rfl)))
          try simp only [Act.put, lpa, lpb, lpc]
          (refine tk (v := ?v5_30) 30 rfl (by kernel_rfl) rfl ?y5_30 HS ?_; case y5_30 => (intro w' hSw; (try dsimp only at hSw); go_simp <;> (with_reducible rfl)))
          try simp only [Act.put, lpa, lpb, lpc]
          (refine tk (v := ?v5_31) 31 rfl (by kernel_rfl) rfl ?y5_31 HS ?_; case y5_31 => (intro w' hSw; (try dsimp only at hSw); go_simp <;> (with_reducible rfl)))
          try simp only [Act.put, lpa, lpb, lpc]
          (refine tk (v := ?v5_32) 32 rfl (by kernel_rfl) rfl ?y5_32 HS ?_; case y5_32 => (intro w' hSw; (try dsimp only at hSw); go_simp <;> (with_reducible rfl)))
          try simp only [Act.put, lpa, lpb, lpc]
          (refine tk (v := ?v5_33) 33 rfl (by kernel_rfl) rfl ?y5_33 HS ?_; case y5_33 => (intro w' hSw; (try dsimp only at hSw); go_simp <;> (with_reducible rfl)))
          try simp only [Act.put, lpa, lpb, lpc]
          refine wpAnyH_done (by kernel_rfl) ?_ _
          refine NoPanic.normal ?_
          go_wp2
          go_roundw
          case rel => exact ⟨p + 1 + 1, by omega, by go_num, Lib.hid (alls_snoc hsame.out hxk.out (by rw [DS.out]; rfl)), hbel.trans (HS.2.2.2)⟩
          case measure => simp [intOf]; omega
  ·
   obtain rfl : k = n := by omega
   have hy := dirsB_yes (xs := xs) (fun j y h h2 => hsame.out j y (by rw [← HX.out]; exact h) h2)
   go_wp2
   go_ret
   refine ⟨ret_bool ?_, hbel⟩
   rw [hy, HX.out]; simp; omega
set_option maxRecDepth 100000 in
set_option maxHeartbeats 2000000 in
theorem implIsValidDirs (va : Value) (xs : List Dr) (w : World) (ha : RdDs w va xs) (hx : xs.length ≤ 4000000) (hz : szAll Dr.sz xs ≤ 4000000) :
  Calls Try.prog 50 #[va] w fun e w' => e = .returned (.bool (dirsB xs)) ∧ Grew w w' := by
 obtain ⟨qs, ⟨a, ca, rfl, hca, hra⟩, hall⟩ := ha
 have HA := Lib.hid hall
 have HZ := Lib.hid hz
 clear hall hz
 generalize hn : xs.length = n at hx hra
 have HX := Lib.hid hn
 clear hn
 go_enter Try.func50, Try.ntmps50
 go_wp2
 go_loopw [7] (fun i wr => ∃ k : Nat, k ≤ n ∧ i = .int .i64 k ∧ Hid (∀ (j : Nat) y, j < k → xs[j]? = some y → dirAt xs j y = true) ∧ Grew w wr) (fun i _ => n - (intOf i).toNat)
 case atStart => exact ⟨0, Nat.zero_le _, rfl, Lib.hid (fun j y h => absurd h (Nat.not_lt_zero j)), Grew.refl _⟩
 case round =>
  obtain ⟨k, hk, rfl, hsame, hbel⟩ := hrel
  by_cases hlt : k < n
  ·
   obtain ⟨b1, o1, p, rfl, hpk, c0, c1⟩ := (hra.grew hbel).getP2 hlt
   obtain ⟨x, hxk, hxr⟩ := HA.out.get hpk.out
   obtain ⟨hs1, hs2, hs3⟩ := dir_sz HZ.out hxk.out
   obtain ⟨pn, pq⟩ := p
   obtain ⟨hxn, hxq⟩ := hxr
   simp only at hxn hxq c0 c1
   subst hxn
   have HQ := Lib.hid hxq
   obtain ⟨pa, pc, rfl, hpc, hpr⟩ := hxq
   clear hpr
   obtain ⟨tv, htv⟩ : ∃ b, b = txtB x.name 6 := ⟨_, rfl⟩
   obtain ⟨qv, hqv⟩ : ∃ b, b = qryB x.query := ⟨_, rfl⟩
   have HT := Lib.hid htv
   have HV := Lib.hid hqv
   clear htv hqv
   have DA := Lib.hid (show ∀ (xs : List Dr) (i : Nat), dirAt xs i x = (tv && (qv && ascB xs i x)) from fun xs i => by rw [HT.out, HV.out]; rfl)
   have hcs : tv = false ∨ tv = true := by cases tv <;> simp
   have hcq : qv = false ∨ qv = true := by cases qv <;> simp
   rcases hcs with rfl | rfl
   ·
    have hk0 := hk
    go_wp2_with fail
    have c0 : (wr.alloc (.cells #[.string x.name, .slice pa x.query.length pc] 49)).cell? ⟨wr.heap.size, 0, none⟩ = some (.string x.name) := by simp
    have c1 : (wr.alloc (.cells #[.string x.name, .slice pa x.query.length pc] 49)).cell? ⟨wr.heap.size, 1, none⟩ = some (.slice pa x.query.length pc) := by simp
    have hal := (Grew.refl wr).alloc (.cells #[.string x.name, .slice pa x.query.length pc] 49)
    generalize wr.alloc (.cells #[.string x.name, .slice pa x.query.length pc] 49) = W at c0 c1 hal ⊢
    refine wp_region_noPanic ?_
    refine wp_region_held_drew (S := (fun w' => (w'.cell? ⟨wr.heap.size, 0, none⟩ = some (.string x.name) ∧ w'.cell? ⟨wr.heap.size, 1, none⟩ = some (.slice pa x.query.length pc) ∧ Grew W w'))) (by kernel_rfl) ?h6_S ?h6_r
    case h6_S => exact ⟨c0, c1, (Grew.refl _).drew⟩
    case h6_r =>
     intro HS
     (refine tk (v := ?v6_0) 0 rfl (by kernel_rfl) rfl ?y6_0 HS ?_; case y6_0 => (intro w' hSw; (try dsimp only at hSw); go_simp <;> (with_reducible rfl)))
     try simp only [Act.put, lpa, lpb, lpc]
     (refine tk (v := ?v6_1) 1 rfl (by kernel_rfl) rfl ?y6_1 HS ?_; case y6_1 => (intro w' hSw; (try dsimp only at hSw); go_simp <;> (with_reducible rfl)))
     try simp only [Act.put, lpa, lpb, lpc]
     refine cl 2 rfl (by kernel_rfl) (fun K hK => ?_)
     go_simp
     go_at_call 101; refine (implIsValidString _ _ hs1).mono ?_; rintro e w1 ⟨he, rfl⟩; rw [← HT.out] at he; subst he
     refine hK.out _ _ ?s6_2 ?r6_2
     case s6_2 => (try dsimp only); first | exact HS | exact held2 HS hb
     case r6_2 =>
      clear HS
      intro HS
      clear hK K
      try simp only [Act.put, lpa, lpb, lpc]
      (refine tk (v := ?v6_3) 3 rfl (by kernel_rfl) rfl ?y6_3 HS ?_; case y6_3 => (intro w' hSw; (try dsimp only at hSw); go_simp <;> (with_reducible rfl)))
      try simp only [Act.put, lpa, lpb, lpc]
      (refine tk (v := ?v6_4) 4 rfl (by kernel_rfl) rfl ?y6_4 HS ?_; case y6_4 => (intro w' hSw; (try dsimp only at hSw); go_simp <;> (with_reducible rfl)))
      try simp only [Act.put, lpa, lpb, lpc]
      refine sk 5 rfl (by kernel_rfl) rfl HS ?_
      try simp only [Act.put, lpa, lpb, lpc]
      refine sk 6 rfl (by kernel_rfl) rfl HS ?_
      try simp only [Act.put, lpa, lpb, lpc]
      refine sk 7 rfl (by kernel_rfl) rfl HS ?_
      try simp only [Act.put, lpa, lpb, lpc]
      refine sk 8 rfl (by kernel_rfl) rfl HS ?_
      try simp only [Act.put, lpa, lpb, lpc]
      refine sk 9 rfl (by kernel_rfl) rfl HS ?_
      try simp only [Act.put, lpa, lpb, lpc]
      refine sk 10 rfl (by kernel_rfl) rfl HS ?_
      try simp only [Act.put, lpa, lpb, lpc]
      refine sk 11 rfl (by kernel_rfl) rfl HS ?_
      try simp only [Act.put, lpa, lpb, lpc]
      refine sk 12 rfl (by kernel_rfl) rfl HS ?_
      try simp only [Act.put, lpa, lpb, lpc]
      refine sk 13 rfl (by kernel_rfl) rfl HS ?_
      try simp only [Act.put, lpa, lpb, lpc]
      refine sk 14 rfl (by kernel_rfl) rfl HS ?_
      try simp only [Act.put, lpa, lpb, lpc]
      refine sk 15 rfl (by kernel_rfl) rfl HS ?_
      try simp only [Act.put, lpa, lpb, lpc]
      refine sk 16 rfl (by kernel_rfl) rfl HS ?_
      try simp only [Act.put, lpa, lpb, lpc]
      refine sk 17 rfl (by kernel_rfl) rfl HS ?_
      try simp only [Act.put, lpa, lpb, lpc]
      (refine tk (v := ?v6_18) 18 rfl (by kernel_rfl) rfl ?y6_18 HS ?_; case y6_18 => (intro w' hSw; (try dsimp only at hSw); go_simp <;> (with_reducible rfl)))
      try simp only [Act.put, lpa, lpb, lpc]
      (refine tk (v := ?v6_19) 19 rfl (by kernel_rfl) rfl ?y6_19 HS ?_; case y6_19 => (intro w' hSw; (try dsimp only at hSw); go_simp <;> (with_reducible rfl)))
      try simp only [Act.put, lpa, lpb, lpc]
      refine sk 20 rfl (by kernel_rfl) rfl HS ?_
      try simp only [Act.put, lpa, lpb, lpc]
      refine sk 21 rfl (by kernel_rfl) rfl HS ?_
      try simp only [Act.put, lpa, lpb, lpc]
      refine cl 22 rfl (by kernel_rfl) (fun K hK => ?_)
      go_simp
      refine hK.out _ _ ?s6_22 ?r6_22
      case s6_22 => (try dsimp only); exact HS
      case r6_22 =>
       clear HS
       intro HS
       clear hK K
       try simp only [Act.put, lpa, lpb, lpc]
       refine sk 23 rfl (by kernel_rfl) rfl HS ?_
       try simp only [Act.put, lpa, lpb, lpc]
       (refine tk (v := ?v6_24) 24 rfl (by kernel_rfl) rfl ?y6_24 HS ?_; case y6_24 => (intro w' hSw; (try dsimp only at hSw); go_simp <;> (with_reducible rfl)))
       try simp only [Act.put, lpa, lpb, lpc]
       refine wpAnyH_done (by kernel_rfl) ?_ _
       refine NoPanic.normal ?_
       go_wp2
       go_ret
       refine ⟨ret_bool ?_, hbel.trans (hal.trans HS.2.2)⟩
       exact (dirsB_no hxk.out (by rw [DA.out]; rfl)).symm
   ·
    by_cases hk1 : ¬ (0 < k)
    ·
     rcases hcq with rfl | rfl
     ·
      have hk0 := hk
      go_wp2_with fail
      have c0 : (wr.alloc (.cells #[.string x.name, .slice pa x.query.length pc] 49)).cell? ⟨wr.heap.size, 0, none⟩ = some (.string x.name) := by simp
      have c1 : (wr.alloc (.cells #[.string x.name, .slice pa x.query.length pc] 49)).cell? ⟨wr.heap.size, 1, none⟩ = some (.slice pa x.query.length pc) := by simp
      have hal := (Grew.refl wr).alloc (.cells #[.string x.name, .slice pa x.query.length pc] 49)
      generalize wr.alloc (.cells #[.string x.name, .slice pa x.query.length pc] 49) = W at c0 c1 hal ⊢
      refine wp_region_noPanic ?_
      refine wp_region_held_drew (S := (fun w' => (w'.cell? ⟨wr.heap.size, 0, none⟩ = some (.string x.name) ∧ w'.cell? ⟨wr.heap.size, 1, none⟩ = some (.slice pa x.query.length pc) ∧ Grew W w'))) (by kernel_rfl) ?h7_S ?h7_r
      case h7_S => exact ⟨c0, c1, (Grew.refl _).drew⟩
      case h7_r =>
       intro HS
       (refine tk (v := ?v7_0) 0 rfl (by kernel_rfl) rfl ?y7_0 HS ?_; case y7_0 => (intro w' hSw; (try dsimp only at hSw); go_simp <;> (with_reducible rfl)))
       try simp only [Act.put, lpa, lpb, lpc]
       (refine tk (v := ?v7_1) 1 rfl (by kernel_rfl) rfl ?y7_1 HS ?_; case y7_1 => (intro w' hSw; (try dsimp only at hSw); go_simp <;> (with_reducible rfl)))
       try simp only [Act.put, lpa, lpb, lpc]
       refine cl 2 rfl (by kernel_rfl) (fun K hK => ?_)
       go_simp
       go_at_call 101; refine (implIsValidString _ _ hs1).mono ?_; rintro e w1 ⟨he, rfl⟩; rw [← HT.out] at he; subst he
       refine hK.out _ _ ?s7_2 ?r7_2
       case s7_2 => (try dsimp only); first | exact HS | exact held2 HS hb
       case r7_2 =>
        clear HS
        intro HS
        clear hK K
        try simp only [Act.put, lpa, lpb, lpc]
        (refine tk (v := ?v7_3) 3 rfl (by kernel_rfl) rfl ?y7_3 HS ?_; case y7_3 => (intro w' hSw; (try dsimp only at hSw); go_simp <;> (with_reducible rfl)))
        try simp only [Act.put, lpa, lpb, lpc]
        (refine tk (v := ?v7_4) 4 rfl (by kernel_rfl) rfl ?y7_4 HS ?_; case y7_4 => (intro w' hSw; (try dsimp only at hSw); go_simp <;> (with_reducible rfl)))
        try simp only [Act.put, lpa, lpb, lpc]
        (refine tk (v := ?v7_5) 5 rfl (by kernel_rfl) rfl ?y7_5 HS ?_; case y7_5 => (intro w' hSw; (try dsimp only at hSw); go_simp <;> (with_reducible rfl)))
        try simp only [Act.put, lpa, lpb, lpc]
        (refine tk (v := ?v7_6) 6 rfl (by kernel_rfl) rfl ?y7_6 HS ?_; case y7_6 => (intro w' hSw; (try dsimp only at hSw); go_simp <;> (with_reducible rfl)))
        try simp only [Act.put, lpa, lpb, lpc]
        (refine tk (v := ?v7_7) 7 rfl (by kernel_rfl) rfl ?y7_7 HS ?_; case y7_7 => (intro w' hSw; (try dsimp only at hSw); go_simp <;> (with_reducible rfl)))
        try simp only [Act.put, lpa, lpb, lpc]
        refine sk 8 rfl (by kernel_rfl) rfl HS ?_
        try simp only [Act.put, lpa, lpb, lpc]
        refine sk 9 rfl (by kernel_rfl) rfl HS ?_
        try simp only [Act.put, lpa, lpb, lpc]
        refine sk 10 rfl (by kernel_rfl) rfl HS ?_
        try simp only [Act.put, lpa, lpb, lpc]
        refine sk 11 rfl (by kernel_rfl) rfl HS ?_
        try simp only [Act.put, lpa, lpb, lpc]
        refine sk 12 rfl (by kernel_rfl) rfl HS ?_
        try simp only [Act.put, lpa, lpb, lpc]
        refine sk 13 rfl (by kernel_rfl) rfl HS ?_
        try simp only [Act.put, lpa, lpb, lpc]
        refine sk 14 rfl (by kernel_rfl) rfl HS ?_
        try simp only [Act.put, lpa, lpb, lpc]
        refine sk 15 rfl (by kernel_rfl) rfl HS ?_
        try simp only [Act.put, lpa, lpb, lpc]
        refine sk 16 rfl (by kernel_rfl) rfl HS ?_
        try simp only [Act.put, lpa, lpb, lpc]
        (refine tk (v := ?v7_17) 17 rfl (by kernel_rfl) rfl ?y7_17 HS ?_; case y7_17 => (intro w' hSw; (try dsimp only at hSw); go_simp <;> (with_reducible rfl)))
        try simp only [Act.put, lpa, lpb, lpc]
        (refine tk (v := ?v7_18) 18 rfl (by kernel_rfl) rfl ?y7_18 HS ?_; case y7_18 => (intro w' hSw; (try dsimp only at hSw); go_simp <;> (with_reducible rfl)))
        try simp only [Act.put, lpa, lpb, lpc]
        (refine tk (v := ?v7_19) 19 rfl (by kernel_rfl) rfl ?y7_19 HS ?_; case y7_19 => (intro w' hSw; (try dsimp only at hSw); go_simp <;> (with_reducible rfl)))
        try simp only [Act.put, lpa, lpb, lpc]
        (refine tk (v := ?v7_20) 20 rfl (by kernel_rfl) rfl ?y7_20 HS ?_; case y7_20 => (intro w' hSw; (try dsimp only at hSw); go_simp <;> (with_reducible rfl)))
        try simp only [Act.put, lpa, lpb, lpc]
        (refine tk (v := ?v7_21) 21 rfl (by kernel_rfl) rfl ?y7_21 HS ?_; case y7_21 => (intro w' hSw; (try dsimp only at hSw); go_simp <;> (with_reducible rfl)))
        try simp only [Act.put, lpa, lpb, lpc]
        refine cl 22 rfl (by kernel_rfl) (fun K hK => ?_)
        go_simp
        go_at_call 85; refine (implIsValidQuery _ x.query.length x.query _ (HQ.out.grew (hbel.trans (hal.trans HS.2.2))) hs2 hs3).mono ?_; rintro e w1 ⟨he, hb⟩; rw [← HV.out] at he; subst he
        refine hK.out _ _ ?s7_22 ?r7_22
        case s7_22 => (try dsimp only); first | exact HS | exact held2 HS hb
        case r7_22 =>
         clear HS
         intro HS
         clear hK K
         try simp only [Act.put, lpa, lpb, lpc]
         (refine tk (v := ?v7_23) 23 rfl (by kernel_rfl) rfl ?y7_23 HS ?_; case y7_23 => (intro w' hSw; (try dsimp only at hSw); go_simp <;> (with_reducible rfl)))
         try simp only [Act.put, lpa, lpb, lpc]
         (refine tk (v := ?v7_24) 24 rfl (by kernel_rfl) rfl ?y7_24 HS ?_; case y7_24 => (intro w' hSw; (try dsimp only at hSw); go_simp <;> (with_reducible rfl)))
         try simp only [Act.put, lpa, lpb, lpc]
         refine wpAnyH_done (by kernel_rfl) ?_ _
         refine NoPanic.normal ?_
         go_wp2
         go_ret
         refine ⟨ret_bool ?_, hbel.trans (hal.trans HS.2.2)⟩
         exact (dirsB_no hxk.out (by rw [DA.out]; rfl)).symm
     ·
      have hk0 := hk
      go_wp2_with fail
      have c0 : (wr.alloc (.cells #[.string x.name, .slice pa x.query.length pc] 49)).cell? ⟨wr.heap.size, 0, none⟩ = some (.string x.name) := by simp
      have c1 : (wr.alloc (.cells #[.string x.name, .slice pa x.query.length pc] 49)).cell? ⟨wr.heap.size, 1, none⟩ = some (.slice pa x.query.length pc) := by simp
      have hal := (Grew.refl wr).alloc (.cells #[.string x.name, .slice pa x.query.length pc] 49)
      generalize wr.alloc (.cells #[.string x.name, .slice pa x.query.length pc] 49) = W at c0 c1 hal ⊢
      refine wp_region_noPanic ?_
      refine wp_region_held_drew (S := (fun w' => (w'.cell? ⟨wr.heap.size, 0, none⟩ = some (.string x.name) ∧ w'.cell? ⟨wr.heap.size, 1, none⟩ = some (.slice pa x.query.length pc) ∧ Grew W w'))) (by kernel_rfl) ?h8_S ?h8_r
      case h8_S => exact ⟨c0, c1, (Grew.refl _).drew⟩
      case h8_r =>
       intro HS
       (refine tk (v := ?v8_0) 0 rfl (by kernel_rfl) rfl ?y8_0 HS ?_; case y8_0 => (intro w' hSw; (try dsimp only at hSw); go_simp <;> (with_reducible rfl)))
       try simp only [Act.put, lpa, lpb, lpc]
       (refine tk (v := ?v8_1) 1 rfl (by kernel_rfl) rfl ?y8_1 HS ?_; case y8_1 => (intro w' hSw; (try dsimp only at hSw); go_simp <;> (with_reducible rfl)))
       try simp only [Act.put, lpa, lpb, lpc]
       refine cl 2 rfl (by kernel_rfl) (fun K hK => ?_)
       go_simp
       go_at_call 101; refine (implIsValidString _ _ hs1).mono ?_; rintro e w1 ⟨he, rfl⟩; rw [← HT.out] at he; subst he
       refine hK.out _ _ ?s8_2 ?r8_2
       case s8_2 => (try dsimp only); first | exact HS | exact held2 HS hb
       case r8_2 =>
        clear HS
        intro HS
        clear hK K
        try simp only [Act.put, lpa, lpb, lpc]
        (refine tk (v := ?v8_3) 3 rfl (by kernel_rfl) rfl ?y8_3 HS ?_; case y8_3 => (intro w' hSw; (try dsimp only at hSw); go_simp <;> (with_reducible rfl)))
        try simp only [Act.put, lpa, lpb, lpc]
        (refine tk (v := ?v8_4) 4 rfl (by kernel_rfl) rfl ?y8_4 HS ?_; case y8_4 => (intro w' hSw; (try dsimp only at hSw); go_simp <;> (with_reducible rfl)))
        try simp only [Act.put, lpa, lpb, lpc]
        (refine tk (v := ?v8_5) 5 rfl (by kernel_rfl) rfl ?y8_5 HS ?_; case y8_5 => (intro w' hSw; (try dsimp only at hSw); go_simp <;> (with_reducible rfl)))
        try simp only [Act.put, lpa, lpb, lpc]
        (refine tk (v := ?v8_6) 6 rfl (by kernel_rfl) rfl ?y8_6 HS ?_; case y8_6 => (intro w' hSw; (try dsimp only at hSw); go_simp <;> (with_reducible rfl)))
        try simp only [Act.put, lpa, lpb, lpc]
        (refine tk (v := ?v8_7) 7 rfl (by kernel_rfl) rfl ?y8_7 HS ?_; case y8_7 => (intro w' hSw; (try dsimp only at hSw); go_simp <;> (with_reducible rfl)))
        try simp only [Act.put, lpa, lpb, lpc]
        refine sk 8 rfl (by kernel_rfl) rfl HS ?_
        try simp only [Act.put, lpa, lpb, lpc]
        refine sk 9 rfl (by kernel_rfl) rfl HS ?_
        try simp only [Act.put, lpa, lpb, lpc]
        refine sk 10 rfl (by kernel_rfl) rfl HS ?_
        try simp only [Act.put, lpa, lpb, lpc]
        refine sk 11 rfl (by kernel_rfl) rfl HS ?_
        try simp only [Act.put, lpa, lpb, lpc]
        refine sk 12 rfl (by kernel_rfl) rfl HS ?_
        try simp only [Act.put, lpa, lpb, lpc]
        refine sk 13 rfl (by kernel_rfl) rfl HS ?_
        try simp only [Act.put, lpa, lpb, lpc]
        refine sk 14 rfl (by kernel_rfl) rfl HS ?_
        try simp only [Act.put, lpa, lpb, lpc]
        refine sk 15 rfl (by kernel_rfl) rfl HS ?_
        try simp only [Act.put, lpa, lpb, lpc]
        refine sk 16 rfl (by kernel_rfl) rfl HS ?_
        try simp only [Act.put, lpa, lpb, lpc]
        (refine tk (v := ?v8_17) 17 rfl (by kernel_rfl) rfl ?y8_17 HS ?_; case y8_17 => (intro w' hSw; (try dsimp only at hSw); go_simp <;> (with_reducible rfl)))
        try simp only [Act.put, lpa, lpb, lpc]
        (refine tk (v := ?v8_18) 18 rfl (by kernel_rfl) rfl ?y8_18 HS ?_; case y8_18 => (intro w' hSw; (try dsimp only at hSw); go_simp <;> (with_reducible rfl)))
        try simp only [Act.put, lpa, lpb, lpc]
        (refine tk (v := ?v8_19) 19 rfl (by kernel_rfl) rfl ?y8_19 HS ?_; case y8_19 => (intro w' hSw; (try dsimp only at hSw); go_simp <;> (with_reducible rfl)))
        try simp only [Act.put, lpa, lpb, lpc]
        (refine tk (v := ?v8_20) 20 rfl (by kernel_rfl) rfl ?y8_20 HS ?_; case y8_20 => (intro w' hSw; (try dsimp only at hSw); go_simp <;> (with_reducible rfl)))
        try simp only [Act.put, lpa, lpb, lpc]
        (refine tk (v := ?v8_21) 21 rfl (by kernel_rfl) rfl ?y8_21 HS ?_; case y8_21 => (intro w' hSw; (try dsimp only at hSw); go_simp <;> (with_reducible rfl)))
        try simp only [Act.put, lpa, lpb, lpc]
        refine cl 22 rfl (by kernel_rfl) (fun K hK => ?_)
        go_simp
        go_at_call 85; refine (implIsValidQuery _ x.query.length x.query _ (HQ.out.grew (hbel.trans (hal.trans HS.2.2))) hs2 hs3).mono ?_; rintro e w1 ⟨he, hb⟩; rw [← HV.out] at he; subst he
        refine hK.out _ _ ?s8_22 ?r8_22
        case s8_22 => (try dsimp only); first | exact HS | exact held2 HS hb
        case r8_22 =>
         clear HS
         intro HS
         clear hK K
         try simp only [Act.put, lpa, lpb, lpc]
         (refine tk (v := ?v8_23) 23 rfl (by kernel_rfl) rfl ?y8_23 HS ?_; case y8_23 => (intro w' hSw; (try dsimp only at hSw); go_simp <;> (with_reducible rfl)))
         try simp only [Act.put, lpa, lpb, lpc]
         (refine tk (v := ?v8_24) 24 rfl (by kernel_rfl) rfl ?y8_24 HS ?_; case y8_24 => (intro w' hSw; (try dsimp only at hSw); go_simp <;> (with_reducible rfl)))
         try simp only [Act.put, lpa, lpb, lpc]
         refine wpAnyH_done (by kernel_rfl) ?_ _
         refine NoPanic.normal ?_
         go_wp2
         go_roundw
         case rel => exact ⟨k + 1, by omega, by go_num, Lib.hid (alls_snoc hsame.out hxk.out (by rw [DA.out, Nat.eq_zero_of_not_pos hk1]; rfl)), hbel.trans (hal.trans HS.2.2)⟩
         case measure => simp [intOf]; omega
    ·
     obtain ⟨p, rfl⟩ : ∃ p, k = p + 1 := ⟨k - 1, by omega⟩
     obtain ⟨b2, o2, pp, hab, hyp, d0, d1⟩ := (hra.grew hbel).getP2 (show p < n by omega)
     obtain ⟨y, hyk, hyr⟩ := HA.out.get hyp.out
     obtain ⟨rfl, rfl⟩ : b1 = b2 ∧ o1 = o2 := by cases hab; exact ⟨rfl, rfl⟩
     clear hab
     obtain ⟨yn, yq⟩ := pp
     obtain ⟨hyn, hyq⟩ := hyr
     simp only at hyn hyq d0 d1
     subst hyn
     clear hyq d1
     have hpp : ((p + 1 : Nat) : Int) - 1 = (p : Int) := by omega
     have hp0 : (0 : Int) ≤ (p : Int) + 1 := by omega
     have hp1 : (p : Int) < (n : Int) := by omega
     have hwp : IntKind.i64.wrap (p : Int) = (p : Int) := by simp [IntKind.wrap, IntKind.bits, IntKind.signed]; omega
     obtain ⟨lv, hlv⟩ : ∃ b, Op.bytesLess y.name.toList x.name.toList = b := ⟨_, rfl⟩
     have DS := Lib.hid (show dirAt xs (p + 1) x = (true && (qv && lv)) by rw [DA.out]; unfold ascB; simp only; rw [hyk.out]; simp only; rw [hlv])
     have hcl : lv = false ∨ lv = true := by cases lv <;> simp
     rcases hcl with rfl | rfl
     ·
      have hk0 := hk
      go_wp2_with fail
      have c0 : (wr.alloc (.cells #[.string x.name, .slice pa x.query.length pc] 49)).cell? ⟨wr.heap.size, 0, none⟩ = some (.string x.name) := by simp
      have c1 : (wr.alloc (.cells #[.string x.name, .slice pa x.query.length pc] 49)).cell? ⟨wr.heap.size, 1, none⟩ = some (.slice pa x.query.length pc) := by simp
      have hal := (Grew.refl wr).alloc (.cells #[.string x.name, .slice pa x.query.length pc] 49)
      replace d0 := grew_cell hal d0
      generalize wr.alloc (.cells #[.string x.name, .slice pa x.query.length pc] 49) = W at c0 c1 hal d0 ⊢
      refine wp_region_noPanic ?_
      refine wp_region_held_drew (S := (fun w' => (w'.cell? ⟨wr.heap.size, 0, none⟩ = some (.string x.name) ∧ w'.cell? ⟨wr.heap.size, 1, none⟩ = some (.slice pa x.query.length pc) ∧ w'.cell? ⟨b1, o1 + p * 2, none⟩ = some (.string y.name) ∧ Grew W w'))) (by kernel_rfl) ?h9_S ?h9_r
      case h9_S => exact ⟨c0, c1, d0, (Grew.refl _).drew⟩
      case h9_r =>
       intro HS
       (refine tk (v := ?v9_0) 0 rfl (by kernel_rfl) rfl ?y9_0 HS ?_; case y9_0 => (intro w' hSw; (try dsimp only at hSw); go_simp <;> (with_reducible rfl)))
       try simp only [Act.put, lpa, lpb, lpc]
       (refine tk (v := ?v9_1) 1 rfl (by kernel_rfl) rfl ?y9_1 HS ?_; case y9_1 => (intro w' hSw; (try dsimp only at hSw); go_simp <;> (with_reducible rfl)))
       try simp only [Act.put, lpa, lpb, lpc]
       refine cl 2 rfl (by kernel_rfl) (fun K hK => ?_)
       go_simp
       go_at_call 101; refine (implIsValidString _ _ hs1).mono ?_; rintro e w1 ⟨he, rfl⟩; rw [← HT.out] at he; subst he
       refine hK.out _ _ ?s9_2 ?r9_2
       case s9_2 => (try dsimp only); first | exact HS | exact held3c HS hb
       case r9_2 =>
        clear HS
        intro HS
        clear hK K
        try simp only [Act.put, lpa, lpb, lpc]
        (refine tk (v := ?v9_3) 3 rfl (by kernel_rfl) rfl ?y9_3 HS ?_; case y9_3 => (intro w' hSw; (try dsimp only at hSw); go_simp <;> (with_reducible rfl)))
        try simp only [Act.put, lpa, lpb, lpc]
        (refine tk (v := ?v9_4) 4 rfl (by kernel_rfl) rfl ?y9_4 HS ?_; case y9_4 => (intro w' hSw; (try dsimp only at hSw); go_simp <;> (with_reducible rfl)))
        try simp only [Act.put, lpa, lpb, lpc]
        (refine tk (v := ?v9_5) 5 rfl (by kernel_rfl) rfl ?y9_5 HS ?_; case y9_5 => (intro w' hSw; (try dsimp only at hSw); go_simp <;> (with_reducible rfl)))
        try simp only [Act.put, lpa, lpb, lpc]
        (refine tk (v := ?v9_6) 6 rfl (by kernel_rfl) rfl ?y9_6 HS ?_; case y9_6 => (intro w' hSw; (try dsimp only at hSw); go_simp <;> (with_reducible rfl)))
        try simp only [Act.put, lpa, lpb, lpc]
        (refine tk (v := ?v9_7) 7 rfl (by kernel_rfl) rfl ?y9_7 HS ?_; case y9_7 => (intro w' hSw; (try dsimp only at hSw); go_simp <;> (with_reducible rfl)))
        try simp only [Act.put, lpa, lpb, lpc]
        (refine tk (v := ?v9_8) 8 rfl (by kernel_rfl) rfl ?y9_8 HS ?_; case y9_8 => (intro w' hSw; (try dsimp only at hSw); go_simp <;> (with_reducible rfl)))
        try simp only [Act.put, lpa, lpb, lpc]
        (refine tk (v := ?v9_9) 9 rfl (by kernel_rfl) rfl ?y9_9 HS ?_; case y9_9 => (intro w' hSw; (try dsimp only at hSw); go_simp <;> (with_reducible rfl)))
        try simp only [Act.put, lpa, lpb, lpc]
        (refine tk (v := ?v9_10) 10 rfl (by kernel_rfl) rfl ?y9_10 HS ?_; case y9_10 => (intro w' hSw; (try dsimp only at hSw); go_simp <;> (with_reducible rfl)))
        try simp only [Act.put, lpa, lpb, lpc]
        (refine tk (v := ?v9_11) 11 rfl (by kernel_rfl) rfl ?y9_11 HS ?_; case y9_11 => (intro w' hSw; (try dsimp only at hSw); go_simp <;> (with_reducible rfl)))
        try simp only [Act.put, lpa, lpb, lpc]
        (refine tk (v := ?v9_12) 12 rfl (by kernel_rfl) rfl ?y9_12 HS ?_; case y9_12 => (intro w' hSw; (try dsimp only at hSw); go_simp <;> (with_reducible rfl)))
        try simp only [Act.put, lpa, lpb, lpc]
        (refine tk (v := ?v9_13) 13 rfl (by kernel_rfl) rfl ?y9_13 HS ?_; case y9_13 => (intro w' hSw; (try dsimp only at hSw); go_simp <;> (with_reducible rfl)))
        try simp only [Act.put, lpa, lpb, lpc]
        (refine tk (v := ?v9_14) 14 rfl (by kernel_rfl) rfl ?y9_14 HS ?_; case y9_14 => (intro w' hSw; (try dsimp only at hSw); go_simp <;> (with_reducible rfl)))
        try simp only [Act.put, lpa, lpb, lpc]
        (refine tk (v := ?v9_15) 15 rfl (by kernel_rfl) rfl ?y9_15 HS ?_; case y9_15 => (intro w' hSw; (try dsimp only at hSw); go_simp <;> (with_reducible rfl)))
        try simp only [Act.put, lpa, lpb, lpc]
        (refine tk (v := ?v9_16) 16 rfl (by kernel_rfl) rfl ?y9_16 HS ?_; case y9_16 => (intro w' hSw; (try dsimp only at hSw); go_simp <;> (with_reducible rfl)))
        try simp only [Act.put, lpa, lpb, lpc]
        (refine tk (v := ?v9_17) 17 rfl (by kernel_rfl) rfl ?y9_17 HS ?_; case y9_17 => (intro w' hSw; (try dsimp only at hSw); go_simp <;> (with_reducible rfl)))
        try simp only [Act.put, lpa, lpb, lpc]
        (refine tk (v := ?v9_18) 18 rfl (by kernel_rfl) rfl ?y9_18 HS ?_; case y9_18 => (intro w' hSw; (try dsimp only at hSw); go_simp <;> (with_reducible rfl)))
        try simp only [Act.put, lpa, lpb, lpc]
        (refine tk (v := ?v9_19) 19 rfl (by kernel_rfl) rfl ?y9_19 HS ?_; case y9_19 => (intro w' hSw; (try dsimp only at hSw); go_simp <;> (with_reducible rfl)))
        try simp only [Act.put, lpa, lpb, lpc]
        refine sk 20 rfl (by kernel_rfl) rfl HS ?_
        try simp only [Act.put, lpa, lpb, lpc]
        refine sk 21 rfl (by kernel_rfl) rfl HS ?_
        try simp only [Act.put, lpa, lpb, lpc]
        refine cl 22 rfl (by kernel_rfl) (fun K hK => ?_)
        go_simp
        refine hK.out _ _ ?s9_22 ?r9_22
        case s9_22 => (try dsimp only); exact HS
        case r9_22 =>
         clear HS
         intro HS
         clear hK K
         try simp only [Act.put, lpa, lpb, lpc]
         refine sk 23 rfl (by kernel_rfl) rfl HS ?_
         try simp only [Act.put, lpa, lpb, lpc]
         (refine tk (v := ?v9_24) 24 rfl (by kernel_rfl) rfl ?y9_24 HS ?_; case y9_24 => (intro w' hSw; (try dsimp only at hSw); go_simp <;> (with_reducible rfl)))
         try simp only [Act.put, lpa, lpb, lpc]
         refine wpAnyH_done (by kernel_rfl) ?_ _
         refine NoPanic.normal ?_
         go_wp2
         go_ret
         refine ⟨ret_bool ?_, hbel.trans (hal.trans HS.2.2.2)⟩
         exact (dirsB_no hxk.out (by rw [DS.out]; simp)).symm
     ·
      rcases hcq with rfl | rfl
      ·
       have hk0 := hk
       go_wp2_with fail
       have c0 : (wr.alloc (.cells #[.string x.name, .slice pa x.query.length pc] 49)).cell? ⟨wr.heap.size, 0, none⟩ = some (.string x.name) := by simp
       have c1 : (wr.alloc (.cells #[.string x.name, .slice pa x.query.length pc] 49)).cell? ⟨wr.heap.size, 1, none⟩ = some (.slice pa x.query.length pc) := by simp
       have hal := (Grew.refl wr).alloc (.cells #[.string x.name, .slice pa x.query.length pc] 49)
       replace d0 := grew_cell hal d0
       generalize wr.alloc (.cells #[.string x.name, .slice pa x.query.length pc] 49) = W at c0 c1 hal d0 ⊢
       refine wp_region_noPanic ?_
       refine wp_region_held_drew (S := (fun w' => (w'.cell? ⟨wr.heap.size, 0, none⟩ = some (.string x.name) ∧ w'.cell? ⟨wr.heap.size, 1, none⟩ = some (.slice pa x.query.length pc) ∧ w'.cell? ⟨b1, o1 + p * 2, none⟩ = some (.string y.name) ∧ Grew W w'))) (by kernel_rfl) ?h10_S ?h10_r
       case h10_S => exact ⟨c0, c1, d0, (Grew.refl _).drew⟩
       case h10_r =>
        intro HS
        (refine tk (v := ?v10_0) 0 rfl (by kernel_rfl) rfl ?y10_0 HS ?_; case y10_0 => (intro w' hSw; (try dsimp only at hSw); go_simp <;> (with_reducible rfl)))
        try simp only [Act.put, lpa, lpb, lpc]
        (refine tk (v := ?v10_1) 1 rfl (by kernel_rfl) rfl ?y10_1 HS ?_; case y10_1 => (intro w' hSw; (try dsimp only at hSw); go_simp <;> (with_reducible rfl)))
        try simp only [Act.put, lpa, lpb, lpc]
        refine cl 2 rfl (by kernel_rfl) (fun K hK => ?_)
        go_simp
        go_at_call 101; refine (implIsValidString _ _ hs1).mono ?_; rintro e w1 ⟨he, rfl⟩; rw [← HT.out] at he; subst he
        refine hK.out _ _ ?s10_2 ?r10_2
        case s10_2 => (try dsimp only); first | exact HS | exact held3c HS hb
        case r10_2 =>
         clear HS
         intro HS
         clear hK K
         try simp only [Act.put, lpa, lpb, lpc]
         (refine tk (v := ?v10_3) 3 rfl (by kernel_rfl) rfl ?y10_3 HS ?_; case y10_3 => (intro w' hSw; (try dsimp only at hSw); go_simp <;> (with_reducible rfl)))
         try simp only [Act.put, lpa, lpb, lpc]
         (refine tk (v := ?v10_4) 4 rfl (by kernel_rfl) rfl ?y10_4 HS ?_; case y10_4 => (intro w' hSw; (try dsimp only at hSw); go_simp <;> (with_reducible rfl)))
         try simp only [Act.put, lpa, lpb, lpc]
         (refine tk (v := ?v10_5) 5 rfl (by kernel_rfl) rfl ?y10_5 HS ?_; case y10_5 => (intro w' hSw; (try dsimp only at hSw); go_simp <;> (with_reducible rfl)))
         try simp only [Act.put, lpa, lpb, lpc]
         (refine tk (v := ?v10_6) 6 rfl (by kernel_rfl) rfl ?y10_6 HS ?_; case y10_6 => (intro w' hSw; (try dsimp only at hSw); go_simp <;> (with_reducible rfl)))
         try simp only [Act.put, lpa, lpb, lpc]
         (refine tk (v := ?v10_7) 7 rfl (by kernel_rfl) rfl ?y10_7 HS ?_; case y10_7 => (intro w' hSw; (try dsimp only at hSw); go_simp <;> (with_reducible rfl)))
         try simp only [Act.put, lpa, lpb, lpc]
         (refine tk (v := ?v10_8) 8 rfl (by kernel_rfl) rfl ?y10_8 HS ?_; case y10_8 => (intro w' hSw; (try dsimp only at hSw); go_simp <;> (with_reducible rfl)))
         try simp only [Act.put, lpa, lpb, lpc]
         (refine tk (v := ?v10_9) 9 rfl (by kernel_rfl) rfl ?y10_9 HS ?_; case y10_9 => (intro w' hSw; (try dsimp only at hSw); go_simp <;> (with_reducible rfl)))
         try simp only [Act.put, lpa, lpb, lpc]
         (refine tk (v := ?v10_10) 10 rfl (by kernel_rfl) rfl ?y10_10 HS ?_; case y10_10 => (intro w' hSw; (try dsimp only at hSw); go_simp <;> (with_reducible rfl)))
         try simp only [Act.put, lpa, lpb, lpc]
         (refine tk (v := ?v10_11) 11 rfl (by kernel_rfl) rfl ?y10_11 HS ?_; case y10_11 => (intro w' hSw; (try dsimp only at hSw); go_simp <;> (with_reducible rfl)))
         try simp only [Act.put, lpa, lpb, lpc]
         (refine tk (v := ?v10_12) 12 rfl (by kernel_rfl) rfl ?y10_12 HS ?_; case y10_12 => (intro w' hSw; (try dsimp only at hSw); go_simp <;> (with_reducible rfl)))
         try simp only [Act.put, lpa, lpb, lpc]
         (refine tk (v := ?v10_13) 13 rfl (by kernel_rfl) rfl ?y10_13 HS ?_; case y10_13 => (intro w' hSw; (try dsimp only at hSw); go_simp <;> (with_reducible rfl)))
         try simp only [Act.put, lpa, lpb, lpc]
         (refine tk (v := ?v10_14) 14 rfl (by kernel_rfl) rfl ?y10_14 HS ?_; case y10_14 => (intro w' hSw; (try dsimp only at hSw); go_simp <;> (with_reducible rfl)))
         try simp only [Act.put, lpa, lpb, lpc]
         (refine tk (v := ?v10_15) 15 rfl (by kernel_rfl) rfl ?y10_15 HS ?_; case y10_15 => (intro w' hSw; (try dsimp only at hSw); go_simp <;> (with_reducible rfl)))
         try simp only [Act.put, lpa, lpb, lpc]
         (refine tk (v := ?v10_16) 16 rfl (by kernel_rfl) rfl ?y10_16 HS ?_; case y10_16 => (intro w' hSw; (try dsimp only at hSw); go_simp <;> (with_reducible rfl)))
         try simp only [Act.put, lpa, lpb, lpc]
         (refine tk (v := ?v10_17) 17 rfl (by kernel_rfl) rfl ?y10_17 HS ?_; case y10_17 => (intro w' hSw; (try dsimp only at hSw); go_simp <;> (with_reducible rfl)))
         try simp only [Act.put, lpa, lpb, lpc]
         (refine tk (v := ?v10_18) 18 rfl (by kernel_rfl) rfl ?y10_18 HS ?_; case y10_18 => (intro w' hSw; (try dsimp only at hSw); go_simp <;> (with_reducible rfl)))
         try simp only [Act.put, lpa, lpb, lpc]
         (refine tk (v := ?v10_19) 19 rfl (by kernel_rfl) rfl ?y10_19 HS ?_; case y10_19 => (intro w' hSw; (try dsimp only at hSw); go_simp <;> (with_reducible rfl)))
         try simp only [Act.put, lpa, lpb, lpc]
         (refine tk (v := ?v10_20) 20 rfl (by kernel_rfl) rfl ?y10_20 HS ?_; case y10_20 => (intro w' hSw; (try dsimp only at hSw); go_simp <;> (with_reducible rfl)))
         try simp only [Act.put, lpa, lpb, lpc]
         (refine tk (v := ?v10_21) 21 rfl (by kernel_rfl) rfl ?y10_21 HS ?_; case y10_21 => (intro w' hSw; (try dsimp only at hSw); go_simp <;> (with_reducible rfl)))
         try simp only [Act.put, lpa, lpb, lpc]
         refine cl 22 rfl (by kernel_rfl) (fun K hK => ?_)
         go_simp
         go_at_call 85; refine (implIsValidQuery _ x.query.length x.query _ (HQ.out.grew (hbel.trans (hal.trans HS.2.2.2))) hs2 hs3).mono ?_; rintro e w1 ⟨he, hb⟩; rw [← HV.out] at he; subst he
         refine hK.out _ _ ?s10_22 ?r10_22
         case s10_22 => (try dsimp only); first | exact HS | exact held3c HS hb
         case r10_22 =>
          clear HS
          intro HS
          clear hK K
          try simp only [Act.put, lpa, lpb, lpc]
          (refine tk (v := ?v10_23) 23 rfl (by kernel_rfl) rfl ?y10_23 HS ?_; case y10_23 => (intro w' hSw; (try dsimp only at hSw); go_simp <;> (with_reducible rfl)))
          try simp only [Act.put, lpa, lpb, lpc]
          (refine tk (v := ?v10_24) 24 rfl (by kernel_rfl) rfl ?y10_24 HS ?_; case y10_24 => (intro w' hSw; (try dsimp only at hSw); go_simp <;> (with_reducible rfl)))
          try simp only [Act.put, lpa, lpb, lpc]
          refine wpAnyH_done (by kernel_rfl) ?_ _
          refine NoPanic.normal ?_
          go_wp2
          go_ret
          refine ⟨ret_bool ?_, hbel.trans (hal.trans HS.2.2.2)⟩
          exact (dirsB_no hxk.out (by rw [DS.out]; rfl)).symm
      ·
       have hk0 := hk
       go_wp2_with fail
       have c0 : (wr.alloc (.cells #[.string x.name, .slice pa x.query.length pc] 49)).cell? ⟨wr.heap.size, 0, none⟩ = some (.string x.name) := by simp
       have c1 : (wr.alloc (.cells #[.string x.name, .slice pa x.query.length pc] 49)).cell? ⟨wr.heap.size, 1, none⟩ = some (.slice pa x.query.length pc) := by simp
       have hal := (Grew.refl wr).alloc (.cells #[.string x.name, .slice pa x.query.length pc] 49)
       replace d0 := grew_cell hal d0
       generalize wr.alloc (.cells #[.string x.name, .slice pa x.query.length pc] 49) = W at c0 c1 hal d0 ⊢
       refine wp_region_noPanic ?_
       refine wp_region_held_drew (S := (fun w' => (w'.cell? ⟨wr.heap.size, 0, none⟩ = some (.string x.name) ∧ w'.cell? ⟨wr.heap.size, 1, none⟩ = some (.slice pa x.query.length pc) ∧ w'.cell? ⟨b1, o1 + p * 2, none⟩ = some (.string y.name) ∧ Grew W w'))) (by kernel_rfl) ?h11_S ?h11_r
       case h11_S => exact ⟨c0, c1, d0, (Grew.refl _).drew⟩
       case h11_r =>
        intro HS
        (refine tk (v := ?v11_0) 0 rfl (by kernel_rfl) rfl ?y11_0 HS ?_; case y11_0 => (intro w' hSw; (try dsimp only at hSw); go_simp <;> (with_reducible rfl)))
        try simp only [Act.put, lpa, lpb, lpc]
        (refine tk (v := ?v11_1) 1 rfl (by kernel_rfl) rfl ?y11_1 HS ?_; case y11_1 => (intro w' hSw; (try dsimp only at hSw); go_simp <;> (with_reducible rfl)))
        try simp only [Act.put, lpa, lpb, lpc]
        refine cl 2 rfl (by kernel_rfl) (fun K hK => ?_)
        go_simp
        go_at_call 101; refine (implIsValidString _ _ hs1).mono ?_; rintro e w1 ⟨he, rfl⟩; rw [← HT.out] at he; subst he
        refine hK.out _ _ ?s11_2 ?r11_2
        case s11_2 => (try dsimp only); first | exact HS | exact held3c HS hb
        case r11_2 =>
         clear HS
         intro HS
         clear hK K
         try simp only [Act.put, lpa, lpb, lpc]
         (refine tk (v := ?v11_3) 3 rfl (by kernel_rfl) rfl ?y11_3 HS ?_; case y11_3 => (intro w' hSw; (try dsimp only at hSw); go_simp <;> (with_reducible rfl)))
         try simp only [Act.put, lpa, lpb, lpc]
         (refine tk (v := ?v11_4) 4 rfl (by kernel_rfl) rfl ?y11_4 HS ?_; case y11_4 => (intro w' hSw; (try dsimp only at hSw); go_simp <;> (with_reducible rfl)))
         try simp only [Act.put, lpa, lpb, lpc]
         (refine tk (v := ?v11_5) 5 rfl (by kernel_rfl) rfl ?y11_5 HS ?_; case y11_5 => (intro w' hSw; (try dsimp only at hSw); go_simp <;> (with_reducible rfl)))
         try simp only [Act.put, lpa, lpb, lpc]
         (refine tk (v := ?v11_6) 6 rfl (by kernel_rfl) rfl ?y11_6 HS ?_; case y11_6 => (intro w' hSw; (try dsimp only at hSw); go_simp <;> (with_reducible rfl)))
         try simp only [Act.put, lpa, lpb, lpc]
         (refine tk (v := ?v11_7) 7 rfl (by kernel_rfl) rfl ?y11_7 HS ?_; case y11_7 => (intro w' hSw; (try dsimp only at hSw); go_simp <;> (with_reducible rfl)))
         try simp only [Act.put, lpa, lpb, lpc]
         (refine tk (v := ?v11_8) 8 rfl (by kernel_rfl) rfl ?y11_8 HS ?_; case y11_8 => (intro w' hSw; (try dsimp only at hSw); go_simp <;> (with_reducible rfl)))
         try simp only [Act.put, lpa, lpb, lpc]
         (refine tk (v := ?v11_9) 9 rfl (by kernel_rfl) rfl ?y11_9 HS ?_; case y11_9 => (intro w' hSw; (try dsimp only at hSw); go_simp <;> (with_reducible rfl)))
         try simp only [Act.put, lpa, lpb, lpc]
         (refine tk (v := ?v11_10) 10 rfl (by kernel_rfl) rfl ?y11_10 HS ?_; case y11_10 => (intro w' hSw; (try dsimp only at hSw); go_simp <;> (with_reducible rfl)))
         try simp only [Act.put, lpa, lpb, lpc]
         (refine tk (v := ?v11_11) 11 rfl (by kernel_rfl) rfl ?y11_11 HS ?_; case y11_11 => (intro w' hSw; (try dsimp only at hSw); go_simp <;> (with_reducible rfl)))
         try simp only [Act.put, lpa, lpb, lpc]
         (refine tk (v := ?v11_12) 12 rfl (by kernel_rfl) rfl ?y11_12 HS ?_; case y11_12 => (intro w' hSw; (try dsimp only at hSw); go_simp <;> (with_reducible rfl)))
         try simp only [Act.put, lpa, lpb, lpc]
         (refine tk (v := ?v11_13) 13 rfl (by kernel_rfl) rfl ?y11_13 HS ?_; case y11_13 => (intro w' hSw; (try dsimp only at hSw); go_simp <;> (with_reducible rfl)))
         try simp only [Act.put, lpa, lpb, lpc]
         (refine tk (v := ?v11_14) 14 rfl (by kernel_rfl) rfl ?y11_14 HS ?_; case y11_14 => (intro w' hSw; (try dsimp only at hSw); go_simp <;> (with_reducible rfl)))
         try simp only [Act.put, lpa, lpb, lpc]
         (refine tk (v := ?v11_15) 15 rfl (by kernel_rfl) rfl ?y11_15 HS ?_; case y11_15 => (intro w' hSw; (try dsimp only at hSw); go_simp <;> (with_reducible rfl)))
         try simp only [Act.put, lpa, lpb, lpc]
         (refine tk (v := ?v11_16) 16 rfl (by kernel_rfl) rfl ?y11_16 HS ?_; case y11_16 => (intro w' hSw; (try dsimp only at hSw); go_simp <;> (with_reducible rfl)))
         try simp only [Act.put, lpa, lpb, lpc]
         (refine tk (v := ?v11_17) 17 rfl (by kernel_rfl) rfl ?y11_17 HS ?_; case y11_17 => (intro w' hSw; (try dsimp only at hSw); go_simp <;> (with_reducible rfl)))
         try simp only [Act.put, lpa, lpb, lpc]
         (refine tk (v := ?v11_18) 18 rfl (by kernel_rfl) rfl ?y11_18 HS ?_; case y11_18 => (intro w' hSw; (try dsimp only at hSw); go_simp <;> (with_reducible rfl)))
         try simp only [Act.put, lpa, lpb, lpc]
         (refine tk (v := ?v11_19) 19 rfl (by kernel_rfl) rfl ?y11_19 HS ?_; case y11_19 => (intro w' hSw; (try dsimp only at hSw); go_simp <;> (with_reducible rfl)))
         try simp only [Act.put, lpa, lpb, lpc]
         (refine tk (v := ?v11_20) 20 rfl (by kernel_rfl) rfl ?y11_20 HS ?_; case y11_20 => (intro w' hSw; (try dsimp only at hSw); go_simp <;> (with_reducible rfl)))
         try simp only [Act.put, lpa, lpb, lpc]
         (refine tk (v := ?v11_21) 21 rfl (by kernel_rfl) rfl ?y11_21 HS ?_; case y11_21 => (intro w' hSw; (try dsimp only at hSw); go_simp <;> (with_reducible rfl)))
         try simp only [Act.put, lpa, lpb, lpc]
         refine cl 22 rfl (by kernel_rfl) (fun K hK => ?_)
         go_simp
         go_at_call 85; refine (implIsValidQuery _ x.query.length x.query _ (HQ.out.grew (hbel.trans (hal.trans HS.2.2.2))) hs2 hs3).mono ?_; rintro e w1 ⟨he, hb⟩; rw [← HV.out] at he; subst he
         refine hK.out _ _ ?s11_22 ?r11_22
         case s11_22 => (try dsimp only); first | exact HS | exact held3c HS hb
         case r11_22 =>
          clear HS
          intro HS
          clear hK K
          try simp only [Act.put, lpa, lpb, lpc]
          (refine tk (v := ?v11_23) 23 rfl (by kernel_rfl) rfl ?y11_23 HS ?_; case y11_23 => (intro w' hSw; (try dsimp only at hSw); go_simp <;> (with_reducible rfl)))
          try simp only [Act.put, lpa, lpb, lpc]
          (refine tk (v := ?v11_24) 24 rfl (by kernel_rfl) rfl ?y11_24 HS ?_; case y11_24 => (intro w' hSw; (try dsimp only at hSw); go_simp <;> (with_reducible rfl)))
          try simp only [Act.put, lpa, lpb, lpc]
          refine wpAnyH_done (by kernel_rfl) ?_ _
          refine NoPanic.normal ?_
          go_wp2
          go_roundw
          case rel => exact ⟨p + 1 + 1, by omega, by go_num, Lib.hid (alls_snoc hsame.out hxk.out (by rw [DS.out]; rfl)), hbel.trans (hal.trans HS.2.2.2)⟩
          case measure => simp [intOf]; omega
  ·
   obtain rfl : k = n := by omega
   have hy := dirsB_yes (xs := xs) (fun j y h h2 => hsame.out j y (by rw [← HX.out]; exact h) h2)
   go_wp2
   go_ret
   refine ⟨ret_bool ?_, hbel⟩
   rw [hy, HX.out]; simp; omega
end Go.Proofs.Ytgekgokkbakcmaa
