/- Texts B2, as far as they are needed. -/
import Derived.Test.YtemikjbfjhebnaaGreatNi1
import Derived.Test.YtemikjbfjhebnaaGreatNi15
namespace Go.Proofs.YtemikjbfjhebnaaGreat
open Go.RowKit
set_option linter.unusedVariables false
set_option maxRecDepth 100000 in
set_option maxHeartbeats 4000000 in
theorem specIsValidStore (s : St) (p : PS) (w : World) (hs : St.R w s p) (hz : s.sz ≤ 4000000) :
  Calls Tryz.prog 9 #[p.v] w fun e w' => e = .returned (.bool (stoB s)) ∧ Grew w w' := by
 obtain ⟨p_q, p_r, p_n⟩ := p
 obtain ⟨hsq, hsr, hsn⟩ := hs
 simp only at hsq hsr hsn
 subst hsn
 have HZF := Lib.hid (show szAll Fl.sz s.files ≤ 4000000 by unfold St.sz at hz; omega)
 have hzs : szAll Fd.sz s.schema ≤ 4000000 := by unfold St.sz at hz; omega
 have hfl : s.files.length ≤ 4000000 := by unfold St.sz at hz; omega
 have hx : s.schema.length ≤ 4000000 := by unfold St.sz at hz; omega
 have HS0 := Lib.hid hsq
 obtain ⟨sa, sc, rfl, hsc, hsr0⟩ := hsq
 clear hsr0 hsc
 obtain ⟨ps, ⟨a, ca, rfl, hca, hra⟩, hall⟩ := hsr
 have HA := Lib.hid hall
 clear hall
 generalize hn : s.files.length = n at hfl hra hca
 generalize hm : s.schema.length = m at hx HS0
 have HX := Lib.hid hn
 obtain ⟨bn, hbn⟩ : ∃ b, inB s.next 1 61 = b := ⟨_, rfl⟩
 obtain ⟨bs, hbs⟩ : ∃ b, schB s.schema = b := ⟨_, rfl⟩
 have HI := Lib.hid hbn
 have HC := Lib.hid hbs
 clear hbn hbs
 have hg0 := (Grew.refl w).alloc (.cells #[.slice sa m sc, .slice a n ca, .int .i64 s.next] 27)
 have x0 : (w.alloc (.cells #[.slice sa m sc, .slice a n ca, .int .i64 s.next] 27)).cell? ⟨w.heap.size, 0, none⟩ = some (.slice sa m sc) := by simp
 have x1 : (w.alloc (.cells #[.slice sa m sc, .slice a n ca, .int .i64 s.next] 27)).cell? ⟨w.heap.size, 1, none⟩ = some (.slice a n ca) := by simp
 have x2 : (w.alloc (.cells #[.slice sa m sc, .slice a n ca, .int .i64 s.next] 27)).cell? ⟨w.heap.size, 2, none⟩ = some (.int .i64 s.next) := by simp
 change Calls Tryz.prog _ #[.agg #[.slice sa m sc, .slice a n ca, .int .i64 s.next]] w _
 clear hn hm hz
 go_enter Tryz.func9, Tryz.ntmps9
 go_wp2
 go_loopw [3] (fun i wr => ∃ k : Nat, k ≤ n ∧ i = .int .i64 k ∧ Hid (upTo (stoAt s) s.files k) ∧ Grew (w.alloc (.cells #[.slice sa m sc, .slice a n ca, .int .i64 s.next] 27)) wr) (fun i _ => n - (intOf i).toNat)
 case atStart => exact ⟨0, Nat.zero_le _, rfl, Lib.hid (upTo_zero _ _), Grew.refl _⟩
 case round =>
  obtain ⟨k, hk, rfl, hsame, hbel⟩ := hrel
  have hbw := hg0.trans hbel
  by_cases hlt : k < n
  ·
   obtain ⟨b1, o1, p5, rfl, hpk, c0, c1, c2, c3, c4⟩ := (hra.grew hbw).getP5 hlt
   obtain ⟨x, hxk, hfr⟩ := HA.out.get hpk.out
   have hxs := fl_sz HZF.out hxk.out
   have HF := Lib.hid hfr
   obtain ⟨pi, po, psh, pl, pa⟩ := p5
   obtain ⟨h1, h2, h3, h4, h5⟩ := hfr
   simp only at h1 h2 h3 h4 h5 c0 c1 c2 c3 c4
   subst h1 h2 h3 h4
   obtain ⟨fa, fc, rfl, h6, h7⟩ := h5
   clear h6 h7
   obtain ⟨fv, hfv⟩ : ∃ b, filB s.schema x = b := ⟨_, rfl⟩
   have HM := Lib.hid hfv
   clear hfv
   have hcm : fv = false ∨ fv = true := by cases fv <;> simp
   have ex0 := grew_cell hbel x0
   have ex1 := grew_cell hbel x1
   have ex2 := grew_cell hbel x2
   rcases hcm with rfl | rfl
   ·
    have hk0 := hk
    have hk00 := hk
    go_wp2_with fail
    refine wp_region_noPanic ?_
    refine wp_region_held_drew (S := (fun w' => (w'.cell? ⟨w.heap.size, 0, none⟩ = some (.slice sa m sc) ∧ w'.cell? ⟨w.heap.size, 1, none⟩ = some (.slice (some ⟨b1, o1, none⟩) n ca) ∧ w'.cell? ⟨w.heap.size, 2, none⟩ = some (.int .i64 s.next) ∧ w'.cell? ⟨b1, o1 + k * 5, none⟩ = some (.int .i64 x.id) ∧ w'.cell? ⟨b1, o1 + k * 5 + 1, none⟩ = some (.int .i64 x.owner) ∧ w'.cell? ⟨b1, o1 + k * 5 + 2, none⟩ = some (.bool x.shared) ∧ w'.cell? ⟨b1, o1 + k * 5 + 3, none⟩ = some (.int .i64 x.link) ∧ w'.cell? ⟨b1, o1 + k * 5 + 4, none⟩ = some (.slice fa x.attrs.length fc) ∧ Grew wr w'))) (by kernel_rfl) ?h29_S ?h29_r
    case h29_S => exact ⟨grew_cell (Grew.refl _).drew ex0, grew_cell (Grew.refl _).drew ex1, grew_cell (Grew.refl _).drew ex2, grew_cell (Grew.refl _).drew c0, grew_cell (Grew.refl _).drew c1, grew_cell (Grew.refl _).drew c2, grew_cell (Grew.refl _).drew c3, grew_cell (Grew.refl _).drew c4, (Grew.refl _).drew⟩
    case h29_r =>
     intro HS
     refine tk' 0 HS ?_
     refine tk' 1 HS ?_
     refine tk' 2 HS ?_
     refine tk' 3 HS ?_
     refine tk' 4 HS ?_
     refine tk' 5 HS ?_
     refine tk' 6 HS ?_
     refine cl' 7 fun K hK => ?_
     go_simp
     go_at_call 22
     refine (specIsValidFile _ m s.schema x ⟨x.id, x.owner, x.shared, x.link, .slice fa x.attrs.length fc⟩ _ (HS0.out.grew (hbw.trans HS.2.2.2.2.2.2.2.2)) (HF.out.grew (hbw.trans HS.2.2.2.2.2.2.2.2)) hx hzs hxs).mono ?_
     rintro e w1 ⟨he, hb⟩
     rw [HM.out] at he
     subst he
     refine hK.out _ _ ?s29_7 ?r29_7
     case s29_7 => (try dsimp only); first | exact HS | exact ⟨grew_cell hb HS.1, grew_cell hb HS.2.1, grew_cell hb HS.2.2.1, grew_cell hb HS.2.2.2.1, grew_cell hb HS.2.2.2.2.1, grew_cell hb HS.2.2.2.2.2.1, grew_cell hb HS.2.2.2.2.2.2.1, grew_cell hb HS.2.2.2.2.2.2.2.1, HS.2.2.2.2.2.2.2.2.trans hb⟩
     case r29_7 =>
      clear HS hK K; intro HS
      try simp only [Act.put, lpa, lpb, lpc]
      refine tk' 8 HS ?_
      refine tk' 9 HS ?_
      refine sk' 10 HS ?_
      refine sk' 11 HS ?_
      refine sk' 12 HS ?_
      refine sk' 13 HS ?_
      refine sk' 14 HS ?_
      refine sk' 15 HS ?_
      refine sk' 16 HS ?_
      refine sk' 17 HS ?_
      refine sk' 18 HS ?_
      refine tk' 19 HS ?_
      refine tk' 20 HS ?_
      refine sk' 21 HS ?_
      refine sk' 22 HS ?_
      refine sk' 23 HS ?_
      refine sk' 24 HS ?_
      refine sk' 25 HS ?_
      refine sk' 26 HS ?_
      refine sk' 27 HS ?_
      refine sk' 28 HS ?_
      refine sk' 29 HS ?_
      refine sk' 30 HS ?_
      refine sk' 31 HS ?_
      refine sk' 32 HS ?_
      refine sk' 33 HS ?_
      refine sk' 34 HS ?_
      refine sk' 35 HS ?_
      refine sk' 36 HS ?_
      refine sk' 37 HS ?_
      refine sk' 38 HS ?_
      refine tk' 39 HS ?_
      refine wpAnyH_done (by kernel_rfl) ?_ _
      refine NoPanic.normal ?_
      go_wp2
      go_ret
      refine ⟨ret_bool ?_, hbw.trans HS.2.2.2.2.2.2.2.2⟩
      exact (show stoB s = false by unfold stoB; rw [all_not hxk.out (show stoAt s _ x = false by unfold stoAt; rw [HM.out]; simp)]; rfl).symm
   ·
    have hk0 := hk
    by_cases hge : s.next ≤ x.id
    ·
     have hk0 := hk
     have hgd : ¬ (x.id < s.next) := by omega
     have hk00 := hk
     go_wp2_with fail
     refine wp_region_noPanic ?_
     refine wp_region_held_drew (S := (fun w' => (w'.cell? ⟨w.heap.size, 0, none⟩ = some (.slice sa m sc) ∧ w'.cell? ⟨w.heap.size, 1, none⟩ = some (.slice (some ⟨b1, o1, none⟩) n ca) ∧ w'.cell? ⟨w.heap.size, 2, none⟩ = some (.int .i64 s.next) ∧ w'.cell? ⟨b1, o1 + k * 5, none⟩ = some (.int .i64 x.id) ∧ w'.cell? ⟨b1, o1 + k * 5 + 1, none⟩ = some (.int .i64 x.owner) ∧ w'.cell? ⟨b1, o1 + k * 5 + 2, none⟩ = some (.bool x.shared) ∧ w'.cell? ⟨b1, o1 + k * 5 + 3, none⟩ = some (.int .i64 x.link) ∧ w'.cell? ⟨b1, o1 + k * 5 + 4, none⟩ = some (.slice fa x.attrs.length fc) ∧ Grew wr w'))) (by kernel_rfl) ?h30_S ?h30_r
     case h30_S => exact ⟨grew_cell (Grew.refl _).drew ex0, grew_cell (Grew.refl _).drew ex1, grew_cell (Grew.refl _).drew ex2, grew_cell (Grew.refl _).drew c0, grew_cell (Grew.refl _).drew c1, grew_cell (Grew.refl _).drew c2, grew_cell (Grew.refl _).drew c3, grew_cell (Grew.refl _).drew c4, (Grew.refl _).drew⟩
     case h30_r =>
      intro HS
      refine tk' 0 HS ?_
      refine tk' 1 HS ?_
      refine tk' 2 HS ?_
      refine tk' 3 HS ?_
      refine tk' 4 HS ?_
      refine tk' 5 HS ?_
      refine tk' 6 HS ?_
      refine cl' 7 fun K hK => ?_
      go_simp
      go_at_call 22
      refine (specIsValidFile _ m s.schema x ⟨x.id, x.owner, x.shared, x.link, .slice fa x.attrs.length fc⟩ _ (HS0.out.grew (hbw.trans HS.2.2.2.2.2.2.2.2)) (HF.out.grew (hbw.trans HS.2.2.2.2.2.2.2.2)) hx hzs hxs).mono ?_
      rintro e w1 ⟨he, hb⟩
      rw [HM.out] at he
      subst he
      refine hK.out _ _ ?s30_7 ?r30_7
      case s30_7 => (try dsimp only); first | exact HS | exact ⟨grew_cell hb HS.1, grew_cell hb HS.2.1, grew_cell hb HS.2.2.1, grew_cell hb HS.2.2.2.1, grew_cell hb HS.2.2.2.2.1, grew_cell hb HS.2.2.2.2.2.1, grew_cell hb HS.2.2.2.2.2.2.1, grew_cell hb HS.2.2.2.2.2.2.2.1, HS.2.2.2.2.2.2.2.2.trans hb⟩
      case r30_7 =>
       clear HS hK K; intro HS
       try simp only [Act.put, lpa, lpb, lpc]
       refine tk' 8 HS ?_
       refine tk' 9 HS ?_
       refine tk' 10 HS ?_
       refine tk' 11 HS ?_
       refine tk' 12 HS ?_
       refine tk' 13 HS ?_
       refine tk' 14 HS ?_
       refine tk' 15 HS ?_
       refine tk' 16 HS ?_
       refine tk' 17 HS ?_
       refine tk' 18 HS ?_
       refine tk' 19 HS ?_
       refine tk' 20 HS ?_
       refine sk' 21 HS ?_
       refine sk' 22 HS ?_
       refine sk' 23 HS ?_
       refine sk' 24 HS ?_
       refine sk' 25 HS ?_
       refine sk' 26 HS ?_
       refine sk' 27 HS ?_
       refine sk' 28 HS ?_
       refine sk' 29 HS ?_
       refine sk' 30 HS ?_
       refine sk' 31 HS ?_
       refine sk' 32 HS ?_
       refine sk' 33 HS ?_
       refine sk' 34 HS ?_
       refine sk' 35 HS ?_
       refine sk' 36 HS ?_
       refine sk' 37 HS ?_
       refine sk' 38 HS ?_
       refine tk' 39 HS ?_
       refine wpAnyH_done (by kernel_rfl) ?_ _
       refine NoPanic.normal ?_
       go_wp2
       go_ret
       refine ⟨ret_bool ?_, hbw.trans HS.2.2.2.2.2.2.2.2⟩
       exact (show stoB s = false by unfold stoB; rw [all_not hxk.out (show stoAt s _ x = false by unfold stoAt; rw [HM.out, decide_eq_false (show ¬ (x.id < s.next) by omega)]; rfl)]; rfl).symm
    ·
     have hk0 := hk
     have hgd : x.id < s.next := by omega
     have hgb : decide (s.next ≤ x.id) = false := decide_eq_false hge
     by_cases hk1 : ¬ (0 < k)
     ·
      have hk0 := hk
      have hk00 := hk
      go_wp2_with fail
      refine wp_region_noPanic ?_
      refine wp_region_held_drew (S := (fun w' => (w'.cell? ⟨w.heap.size, 0, none⟩ = some (.slice sa m sc) ∧ w'.cell? ⟨w.heap.size, 1, none⟩ = some (.slice (some ⟨b1, o1, none⟩) n ca) ∧ w'.cell? ⟨w.heap.size, 2, none⟩ = some (.int .i64 s.next) ∧ w'.cell? ⟨b1, o1 + k * 5, none⟩ = some (.int .i64 x.id) ∧ w'.cell? ⟨b1, o1 + k * 5 + 1, none⟩ = some (.int .i64 x.owner) ∧ w'.cell? ⟨b1, o1 + k * 5 + 2, none⟩ = some (.bool x.shared) ∧ w'.cell? ⟨b1, o1 + k * 5 + 3, none⟩ = some (.int .i64 x.link) ∧ w'.cell? ⟨b1, o1 + k * 5 + 4, none⟩ = some (.slice fa x.attrs.length fc) ∧ Grew wr w'))) (by kernel_rfl) ?h31_S ?h31_r
      case h31_S => exact ⟨grew_cell (Grew.refl _).drew ex0, grew_cell (Grew.refl _).drew ex1, grew_cell (Grew.refl _).drew ex2, grew_cell (Grew.refl _).drew c0, grew_cell (Grew.refl _).drew c1, grew_cell (Grew.refl _).drew c2, grew_cell (Grew.refl _).drew c3, grew_cell (Grew.refl _).drew c4, (Grew.refl _).drew⟩
      case h31_r =>
       intro HS
       refine tk' 0 HS ?_
       refine tk' 1 HS ?_
       refine tk' 2 HS ?_
       refine tk' 3 HS ?_
       refine tk' 4 HS ?_
       refine tk' 5 HS ?_
       refine tk' 6 HS ?_
       refine cl' 7 fun K hK => ?_
       go_simp
       go_at_call 22
       refine (specIsValidFile _ m s.schema x ⟨x.id, x.owner, x.shared, x.link, .slice fa x.attrs.length fc⟩ _ (HS0.out.grew (hbw.trans HS.2.2.2.2.2.2.2.2)) (HF.out.grew (hbw.trans HS.2.2.2.2.2.2.2.2)) hx hzs hxs).mono ?_
       rintro e w1 ⟨he, hb⟩
       rw [HM.out] at he
       subst he
       refine hK.out _ _ ?s31_7 ?r31_7
       case s31_7 => (try dsimp only); first | exact HS | exact ⟨grew_cell hb HS.1, grew_cell hb HS.2.1, grew_cell hb HS.2.2.1, grew_cell hb HS.2.2.2.1, grew_cell hb HS.2.2.2.2.1, grew_cell hb HS.2.2.2.2.2.1, grew_cell hb HS.2.2.2.2.2.2.1, grew_cell hb HS.2.2.2.2.2.2.2.1, HS.2.2.2.2.2.2.2.2.trans hb⟩
       case r31_7 =>
        clear HS hK K; intro HS
        try simp only [Act.put, lpa, lpb, lpc]
        refine tk' 8 HS ?_
        refine tk' 9 HS ?_
        refine tk' 10 HS ?_
        refine tk' 11 HS ?_
        refine tk' 12 HS ?_
        refine tk' 13 HS ?_
        refine tk' 14 HS ?_
        refine tk' 15 HS ?_
        refine tk' 16 HS ?_
        refine tk' 17 HS ?_
        refine tk' 18 HS ?_
        refine tk' 19 HS ?_
        refine tk' 20 HS ?_
        refine tk' 21 HS ?_
        refine tk' 22 HS ?_
        refine tk' 23 HS ?_
        refine sk' 24 HS ?_
        refine sk' 25 HS ?_
        refine sk' 26 HS ?_
        refine sk' 27 HS ?_
        refine sk' 28 HS ?_
        refine sk' 29 HS ?_
        refine sk' 30 HS ?_
        refine sk' 31 HS ?_
        refine sk' 32 HS ?_
        refine sk' 33 HS ?_
        refine sk' 34 HS ?_
        refine sk' 35 HS ?_
        refine sk' 36 HS ?_
        refine sk' 37 HS ?_
        refine tk' 38 HS ?_
        refine tk' 39 HS ?_
        refine wpAnyH_done (by kernel_rfl) ?_ _
        refine NoPanic.normal ?_
        go_wp2
        go_roundw
        case rel => exact ⟨k + 1, by omega, by go_num, Lib.hid (upTo_snoc hsame.out hxk.out (by show stoAt s _ x = true; unfold stoAt; rw [HM.out, decide_eq_true (show x.id < s.next by omega), Nat.eq_zero_of_not_pos hk1]; rfl)), hbel.trans HS.2.2.2.2.2.2.2.2⟩
        case measure => simp [intOf]; omega
     ·
      have hk0 := hk
      obtain ⟨p, rfl⟩ : ∃ p, k = p + 1 := ⟨k - 1, by omega⟩
      obtain ⟨b2, o2, q5, hab, hypk, d0, d1, d2, d3, d4⟩ := (hra.grew hbw).getP5 (show p < n by omega)
      obtain ⟨rfl, rfl⟩ : b1 = b2 ∧ o1 = o2 := by cases hab; exact ⟨rfl, rfl⟩
      clear hab
      obtain ⟨y, hyk, hyr⟩ := HA.out.get hypk.out
      obtain ⟨qi, qo, qsh, ql, qa⟩ := q5
      have hyi := hyr.1
      simp only at hyi d0
      subst hyi
      clear d1 d2 d3 d4 hyr
      have hpp : ((p + 1 : Nat) : Int) - 1 = (p : Int) := by omega
      have hp0 : (0 : Int) ≤ (p : Int) + 1 := by omega
      have hp1 : (p : Int) < (n : Int) := by omega
      have hp2 : (p : Int) + 1 < (n : Int) := by omega
      have hwp : IntKind.i64.wrap (p : Int) = (p : Int) := by simp [IntKind.wrap, IntKind.bits, IntKind.signed]; omega
      have HP := Lib.hid (prevOk_succ (lt := fun (y x : Fl) => decide (y.id < x.id)) (x := x) hyk.out)
      by_cases hid : x.id ≤ y.id
      ·
       have hk0 := hk
       have hil : ¬ (y.id < x.id) := by omega
       have hk00 := hk
       go_wp2_with fail
       refine wp_region_noPanic ?_
       refine wp_region_held_drew (S := (fun w' => (w'.cell? ⟨w.heap.size, 0, none⟩ = some (.slice sa m sc) ∧ w'.cell? ⟨w.heap.size, 1, none⟩ = some (.slice (some ⟨b1, o1, none⟩) n ca) ∧ w'.cell? ⟨w.heap.size, 2, none⟩ = some (.int .i64 s.next) ∧ w'.cell? ⟨b1, o1 + (p + 1) * 5, none⟩ = some (.int .i64 x.id) ∧ w'.cell? ⟨b1, o1 + (p + 1) * 5 + 1, none⟩ = some (.int .i64 x.owner) ∧ w'.cell? ⟨b1, o1 + (p + 1) * 5 + 2, none⟩ = some (.bool x.shared) ∧ w'.cell? ⟨b1, o1 + (p + 1) * 5 + 3, none⟩ = some (.int .i64 x.link) ∧ w'.cell? ⟨b1, o1 + (p + 1) * 5 + 4, none⟩ = some (.slice fa x.attrs.length fc) ∧ w'.cell? ⟨b1, o1 + p * 5, none⟩ = some (.int .i64 y.id) ∧ Grew wr w'))) (by kernel_rfl) ?h32_S ?h32_r
       case h32_S => exact ⟨grew_cell (Grew.refl _).drew ex0, grew_cell (Grew.refl _).drew ex1, grew_cell (Grew.refl _).drew ex2, grew_cell (Grew.refl _).drew c0, grew_cell (Grew.refl _).drew c1, grew_cell (Grew.refl _).drew c2, grew_cell (Grew.refl _).drew c3, grew_cell (Grew.refl _).drew c4, grew_cell (Grew.refl _).drew d0, (Grew.refl _).drew⟩
       case h32_r =>
        intro HS
        refine tk' 0 HS ?_
        refine tk' 1 HS ?_
        refine tk' 2 HS ?_
        refine tk' 3 HS ?_
        refine tk' 4 HS ?_
        refine tk' 5 HS ?_
        refine tk' 6 HS ?_
        refine cl' 7 fun K hK => ?_
        go_simp
        go_at_call 22
        refine (specIsValidFile _ m s.schema x ⟨x.id, x.owner, x.shared, x.link, .slice fa x.attrs.length fc⟩ _ (HS0.out.grew (hbw.trans HS.2.2.2.2.2.2.2.2.2)) (HF.out.grew (hbw.trans HS.2.2.2.2.2.2.2.2.2)) hx hzs hxs).mono ?_
        rintro e w1 ⟨he, hb⟩
        rw [HM.out] at he
        subst he
        refine hK.out _ _ ?s32_7 ?r32_7
        case s32_7 => (try dsimp only); first | exact HS | exact ⟨grew_cell hb HS.1, grew_cell hb HS.2.1, grew_cell hb HS.2.2.1, grew_cell hb HS.2.2.2.1, grew_cell hb HS.2.2.2.2.1, grew_cell hb HS.2.2.2.2.2.1, grew_cell hb HS.2.2.2.2.2.2.1, grew_cell hb HS.2.2.2.2.2.2.2.1, grew_cell hb HS.2.2.2.2.2.2.2.2.1, HS.2.2.2.2.2.2.2.2.2.trans hb⟩
        case r32_7 =>
         clear HS hK K; intro HS
         try simp only [Act.put, lpa, lpb, lpc]
         refine tk' 8 HS ?_
         refine tk' 9 HS ?_
         refine tk' 10 HS ?_
         refine tk' 11 HS ?_
         refine tk' 12 HS ?_
         refine tk' 13 HS ?_
         refine tk' 14 HS ?_
         refine tk' 15 HS ?_
         refine tk' 16 HS ?_
         refine tk' 17 HS ?_
         refine tk' 18 HS ?_
         refine tk' 19 HS ?_
         refine tk' 20 HS ?_
         refine tk' 21 HS ?_
         refine tk' 22 HS ?_
         refine tk' 23 HS ?_
         refine tk' 24 HS ?_
         refine tk' 25 HS ?_
         refine tk' 26 HS ?_
         refine tk' 27 HS ?_
         refine tk' 28 HS ?_
         refine tk' 29 HS ?_
         refine tk' 30 HS ?_
         refine tk' 31 HS ?_
         refine tk' 32 HS ?_
         refine tk' 33 HS ?_
         refine tk' 34 HS ?_
         refine tk' 35 HS ?_
         refine tk' 36 HS ?_
         refine tk' 37 HS ?_
         refine tk' 38 HS ?_
         refine tk' 39 HS ?_
         refine wpAnyH_done (by kernel_rfl) ?_ _
         refine NoPanic.normal ?_
         go_wp2
         go_ret
         refine ⟨ret_bool ?_, hbw.trans HS.2.2.2.2.2.2.2.2.2⟩
         exact (show stoB s = false by unfold stoB; rw [all_not hxk.out (show stoAt s _ x = false by unfold stoAt; rw [HM.out, decide_eq_true (show x.id < s.next by omega), HP.out]; exact decide_eq_false (show ¬ (y.id < x.id) by omega))]; rfl).symm
      ·
       have hk0 := hk
       have hil : y.id < x.id := by omega
       have hk00 := hk
       go_wp2_with fail
       refine wp_region_noPanic ?_
       refine wp_region_held_drew (S := (fun w' => (w'.cell? ⟨w.heap.size, 0, none⟩ = some (.slice sa m sc) ∧ w'.cell? ⟨w.heap.size, 1, none⟩ = some (.slice (some ⟨b1, o1, none⟩) n ca) ∧ w'.cell? ⟨w.heap.size, 2, none⟩ = some (.int .i64 s.next) ∧ w'.cell? ⟨b1, o1 + (p + 1) * 5, none⟩ = some (.int .i64 x.id) ∧ w'.cell? ⟨b1, o1 + (p + 1) * 5 + 1, none⟩ = some (.int .i64 x.owner) ∧ w'.cell? ⟨b1, o1 + (p + 1) * 5 + 2, none⟩ = some (.bool x.shared) ∧ w'.cell? ⟨b1, o1 + (p + 1) * 5 + 3, none⟩ = some (.int .i64 x.link) ∧ w'.cell? ⟨b1, o1 + (p + 1) * 5 + 4, none⟩ = some (.slice fa x.attrs.length fc) ∧ w'.cell? ⟨b1, o1 + p * 5, none⟩ = some (.int .i64 y.id) ∧ Grew wr w'))) (by kernel_rfl) ?h33_S ?h33_r
       case h33_S => exact ⟨grew_cell (Grew.refl _).drew ex0, grew_cell (Grew.refl _).drew ex1, grew_cell (Grew.refl _).drew ex2, grew_cell (Grew.refl _).drew c0, grew_cell (Grew.refl _).drew c1, grew_cell (Grew.refl _).drew c2, grew_cell (Grew.refl _).drew c3, grew_cell (Grew.refl _).drew c4, grew_cell (Grew.refl _).drew d0, (Grew.refl _).drew⟩
       case h33_r =>
        intro HS
        refine tk' 0 HS ?_
        refine tk' 1 HS ?_
        refine tk' 2 HS ?_
        refine tk' 3 HS ?_
        refine tk' 4 HS ?_
        refine tk' 5 HS ?_
        refine tk' 6 HS ?_
        refine cl' 7 fun K hK => ?_
        go_simp
        go_at_call 22
        refine (specIsValidFile _ m s.schema x ⟨x.id, x.owner, x.shared, x.link, .slice fa x.attrs.length fc⟩ _ (HS0.out.grew (hbw.trans HS.2.2.2.2.2.2.2.2.2)) (HF.out.grew (hbw.trans HS.2.2.2.2.2.2.2.2.2)) hx hzs hxs).mono ?_
        rintro e w1 ⟨he, hb⟩
        rw [HM.out] at he
        subst he
        refine hK.out _ _ ?s33_7 ?r33_7
        case s33_7 => (try dsimp only); first | exact HS | exact ⟨grew_cell hb HS.1, grew_cell hb HS.2.1, grew_cell hb HS.2.2.1, grew_cell hb HS.2.2.2.1, grew_cell hb HS.2.2.2.2.1, grew_cell hb HS.2.2.2.2.2.1, grew_cell hb HS.2.2.2.2.2.2.1, grew_cell hb HS.2.2.2.2.2.2.2.1, grew_cell hb HS.2.2.2.2.2.2.2.2.1, HS.2.2.2.2.2.2.2.2.2.trans hb⟩
        case r33_7 =>
         clear HS hK K; intro HS
         try simp only [Act.put, lpa, lpb, lpc]
         refine tk' 8 HS ?_
         refine tk' 9 HS ?_
         refine tk' 10 HS ?_
         refine tk' 11 HS ?_
         refine tk' 12 HS ?_
         refine tk' 13 HS ?_
         refine tk' 14 HS ?_
         refine tk' 15 HS ?_
         refine tk' 16 HS ?_
         refine tk' 17 HS ?_
         refine tk' 18 HS ?_
         refine tk' 19 HS ?_
         refine tk' 20 HS ?_
         refine tk' 21 HS ?_
         refine tk' 22 HS ?_
         refine tk' 23 HS ?_
         refine tk' 24 HS ?_
         refine tk' 25 HS ?_
         refine tk' 26 HS ?_
         refine tk' 27 HS ?_
         refine tk' 28 HS ?_
         refine tk' 29 HS ?_
         refine tk' 30 HS ?_
         refine tk' 31 HS ?_
         refine tk' 32 HS ?_
         refine tk' 33 HS ?_
         refine tk' 34 HS ?_
         refine tk' 35 HS ?_
         refine tk' 36 HS ?_
         refine tk' 37 HS ?_
         refine tk' 38 HS ?_
         refine tk' 39 HS ?_
         refine wpAnyH_done (by kernel_rfl) ?_ _
         refine NoPanic.normal ?_
         go_wp2
         go_roundw
         case rel => exact ⟨p + 1 + 1, by omega, by go_num, Lib.hid (upTo_snoc hsame.out hxk.out (by show stoAt s _ x = true; unfold stoAt; rw [HM.out, decide_eq_true (show x.id < s.next by omega), HP.out]; exact decide_eq_true (show y.id < x.id by omega))), hbel.trans HS.2.2.2.2.2.2.2.2.2⟩
         case measure => simp [intOf]; omega
  ·
   obtain rfl : k = n := by omega
   have hy := Lib.hid (all_up HX.out hsame.out)
   have ex0 := grew_cell hbel x0
   have ex1 := grew_cell hbel x1
   have ex2 := grew_cell hbel x2
   have hc_bs : bs = false ∨ bs = true := by cases bs <;> simp
   have hc_bn : bn = false ∨ bn = true := by cases bn <;> simp
   rcases hc_bs with rfl | rfl
   ·
    have hk0 := hk
    go_wp2_with (first | (go_at_call 24; refine (l01In _ _ _ _).mono ?_; rintro e w' ⟨he, rfl⟩; rw [HI.out] at he; subst he) | (go_at_call 23; refine (specIsValidSchema _ m s.schema _ (HS0.out.grew hbw) hx hzs).mono ?_; rintro e w9 ⟨he, hb9⟩; rw [HC.out] at he; subst he; have z1 := grew_cell hb9 ex1; have z2 := grew_cell hb9 ex2))
    go_ret
    refine ⟨ret_bool ?_, hbw.trans hb9⟩
    unfold stoB; rw [hy.out, HI.out, HC.out, HX.out]; simp
   ·
    by_cases h12 : (k : Int) ≤ 12
    ·
     rcases hc_bn with rfl | rfl
     ·
      have hk0 := hk
      go_wp2_with (first | (go_at_call 24; refine (l01In _ _ _ _).mono ?_; rintro e w' ⟨he, rfl⟩; rw [HI.out] at he; subst he) | (go_at_call 23; refine (specIsValidSchema _ m s.schema _ (HS0.out.grew hbw) hx hzs).mono ?_; rintro e w9 ⟨he, hb9⟩; rw [HC.out] at he; subst he; have z1 := grew_cell hb9 ex1; have z2 := grew_cell hb9 ex2))
      go_ret
      refine ⟨ret_bool ?_, hbw.trans hb9⟩
      unfold stoB; rw [hy.out, HI.out, HC.out, HX.out]; simp <;> omega
     ·
      have hk0 := hk
      go_wp2_with (first | (go_at_call 24; refine (l01In _ _ _ _).mono ?_; rintro e w' ⟨he, rfl⟩; rw [HI.out] at he; subst he) | (go_at_call 23; refine (specIsValidSchema _ m s.schema _ (HS0.out.grew hbw) hx hzs).mono ?_; rintro e w9 ⟨he, hb9⟩; rw [HC.out] at he; subst he; have z1 := grew_cell hb9 ex1; have z2 := grew_cell hb9 ex2))
      go_ret
      refine ⟨ret_bool ?_, hbw.trans hb9⟩
      unfold stoB; rw [hy.out, HI.out, HC.out, HX.out]; simp <;> omega
    ·
     have hk0 := hk
     go_wp2_with (first | (go_at_call 24; refine (l01In _ _ _ _).mono ?_; rintro e w' ⟨he, rfl⟩; rw [HI.out] at he; subst he) | (go_at_call 23; refine (specIsValidSchema _ m s.schema _ (HS0.out.grew hbw) hx hzs).mono ?_; rintro e w9 ⟨he, hb9⟩; rw [HC.out] at he; subst he; have z1 := grew_cell hb9 ex1; have z2 := grew_cell hb9 ex2))
     go_ret
     refine ⟨ret_bool ?_, hbw.trans hb9⟩
     unfold stoB; rw [hy.out, HI.out, HC.out, HX.out]; simp <;> omega
set_option maxRecDepth 100000 in
set_option maxHeartbeats 4000000 in
theorem implIsValidStore (s : St) (p : PS) (w : World) (hs : St.R w s p) (hz : s.sz ≤ 4000000) :
  Calls Tryz.prog 34 #[p.v] w fun e w' => e = .returned (.bool (stoB s)) ∧ Grew w w' := by
 obtain ⟨p_q, p_r, p_n⟩ := p
 obtain ⟨hsq, hsr, hsn⟩ := hs
 simp only at hsq hsr hsn
 subst hsn
 have HZF := Lib.hid (show szAll Fl.sz s.files ≤ 4000000 by unfold St.sz at hz; omega)
 have hzs : szAll Fd.sz s.schema ≤ 4000000 := by unfold St.sz at hz; omega
 have hfl : s.files.length ≤ 4000000 := by unfold St.sz at hz; omega
 have hx : s.schema.length ≤ 4000000 := by unfold St.sz at hz; omega
 have HS0 := Lib.hid hsq
 obtain ⟨sa, sc, rfl, hsc, hsr0⟩ := hsq
 clear hsr0 hsc
 obtain ⟨ps, ⟨a, ca, rfl, hca, hra⟩, hall⟩ := hsr
 have HA := Lib.hid hall
 clear hall
 generalize hn : s.files.length = n at hfl hra hca
 generalize hm : s.schema.length = m at hx HS0
 have HX := Lib.hid hn
 obtain ⟨bn, hbn⟩ : ∃ b, inB s.next 1 61 = b := ⟨_, rfl⟩
 obtain ⟨bs, hbs⟩ : ∃ b, schB s.schema = b := ⟨_, rfl⟩
 have HI := Lib.hid hbn
 have HC := Lib.hid hbs
 clear hbn hbs
 have hg0 := (Grew.refl w).alloc (.cells #[.slice sa m sc, .slice a n ca, .int .i64 s.next] 27)
 have x0 : (w.alloc (.cells #[.slice sa m sc, .slice a n ca, .int .i64 s.next] 27)).cell? ⟨w.heap.size, 0, none⟩ = some (.slice sa m sc) := by simp
 have x1 : (w.alloc (.cells #[.slice sa m sc, .slice a n ca, .int .i64 s.next] 27)).cell? ⟨w.heap.size, 1, none⟩ = some (.slice a n ca) := by simp
 have x2 : (w.alloc (.cells #[.slice sa m sc, .slice a n ca, .int .i64 s.next] 27)).cell? ⟨w.heap.size, 2, none⟩ = some (.int .i64 s.next) := by simp
 change Calls Tryz.prog _ #[.agg #[.slice sa m sc, .slice a n ca, .int .i64 s.next]] w _
 clear hn hm hz
 go_enter Tryz.func34, Tryz.ntmps34
 go_wp2
 go_loopw [8] (fun i wr => ∃ k : Nat, k ≤ n ∧ i = .int .i64 k ∧ Hid (upTo (stoAt s) s.files k) ∧ Grew (w.alloc (.cells #[.slice sa m sc, .slice a n ca, .int .i64 s.next] 27)) wr) (fun i _ => n - (intOf i).toNat)
 case atStart => exact ⟨0, Nat.zero_le _, rfl, Lib.hid (upTo_zero _ _), Grew.refl _⟩
 case round =>
  obtain ⟨k, hk, rfl, hsame, hbel⟩ := hrel
  have hbw := hg0.trans hbel
  by_cases hlt : k < n
  ·
   obtain ⟨b1, o1, p5, rfl, hpk, c0, c1, c2, c3, c4⟩ := (hra.grew hbw).getP5 hlt
   obtain ⟨x, hxk, hfr⟩ := HA.out.get hpk.out
   have hxs := fl_sz HZF.out hxk.out
   have HF := Lib.hid hfr
   obtain ⟨pi, po, psh, pl, pa⟩ := p5
   obtain ⟨h1, h2, h3, h4, h5⟩ := hfr
   simp only at h1 h2 h3 h4 h5 c0 c1 c2 c3 c4
   subst h1 h2 h3 h4
   obtain ⟨fa, fc, rfl, h6, h7⟩ := h5
   clear h6 h7
   obtain ⟨fv, hfv⟩ : ∃ b, filB s.schema x = b := ⟨_, rfl⟩
   have HM := Lib.hid hfv
   clear hfv
   have hcm : fv = false ∨ fv = true := by cases fv <;> simp
   have ex0 := grew_cell hbel x0
   have ex1 := grew_cell hbel x1
   have ex2 := grew_cell hbel x2
   rcases hcm with rfl | rfl
   ·
    have hk0 := hk
    have hk00 := hk
    go_wp2_with fail
    have hal := (Grew.refl wr).alloc (.cells #[.int .i64 x.id, .int .i64 x.owner, .bool x.shared, .int .i64 x.link, .slice fa x.attrs.length fc] 55)
    have g0 : (wr.alloc (.cells #[.int .i64 x.id, .int .i64 x.owner, .bool x.shared, .int .i64 x.link, .slice fa x.attrs.length fc] 55)).cell? ⟨wr.heap.size, 0, none⟩ = some (.int .i64 x.id) := by simp
    have g1 : (wr.alloc (.cells #[.int .i64 x.id, .int .i64 x.owner, .bool x.shared, .int .i64 x.link, .slice fa x.attrs.length fc] 55)).cell? ⟨wr.heap.size, 1, none⟩ = some (.int .i64 x.owner) := by simp
    have g2 : (wr.alloc (.cells #[.int .i64 x.id, .int .i64 x.owner, .bool x.shared, .int .i64 x.link, .slice fa x.attrs.length fc] 55)).cell? ⟨wr.heap.size, 2, none⟩ = some (.bool x.shared) := by simp
    have g3 : (wr.alloc (.cells #[.int .i64 x.id, .int .i64 x.owner, .bool x.shared, .int .i64 x.link, .slice fa x.attrs.length fc] 55)).cell? ⟨wr.heap.size, 3, none⟩ = some (.int .i64 x.link) := by simp
    have g4 : (wr.alloc (.cells #[.int .i64 x.id, .int .i64 x.owner, .bool x.shared, .int .i64 x.link, .slice fa x.attrs.length fc] 55)).cell? ⟨wr.heap.size, 4, none⟩ = some (.slice fa x.attrs.length fc) := by simp
    have ax0 := grew_cell hal ex0
    have ax1 := grew_cell hal ex1
    have ax2 := grew_cell hal ex2
    refine wp_region_noPanic ?_
    refine wp_region_held_drew (S := (fun w' => (w'.cell? ⟨w.heap.size, 0, none⟩ = some (.slice sa m sc) ∧ w'.cell? ⟨w.heap.size, 1, none⟩ = some (.slice (some ⟨b1, o1, none⟩) n ca) ∧ w'.cell? ⟨w.heap.size, 2, none⟩ = some (.int .i64 s.next) ∧ w'.cell? ⟨wr.heap.size, 0, none⟩ = some (.int .i64 x.id) ∧ w'.cell? ⟨wr.heap.size, 1, none⟩ = some (.int .i64 x.owner) ∧ w'.cell? ⟨wr.heap.size, 2, none⟩ = some (.bool x.shared) ∧ w'.cell? ⟨wr.heap.size, 3, none⟩ = some (.int .i64 x.link) ∧ w'.cell? ⟨wr.heap.size, 4, none⟩ = some (.slice fa x.attrs.length fc) ∧ Grew (wr.alloc (.cells #[.int .i64 x.id, .int .i64 x.owner, .bool x.shared, .int .i64 x.link, .slice fa x.attrs.length fc] 55)) w'))) (by kernel_rfl) ?h34_S ?h34_r
    case h34_S => exact ⟨grew_cell (Grew.refl _).drew ax0, grew_cell (Grew.refl _).drew ax1, grew_cell (Grew.refl _).drew ax2, grew_cell (Grew.refl _).drew g0, grew_cell (Grew.refl _).drew g1, grew_cell (Grew.refl _).drew g2, grew_cell (Grew.refl _).drew g3, grew_cell (Grew.refl _).drew g4, (Grew.refl _).drew⟩
    case h34_r =>
     intro HS
     refine tk' 0 HS ?_
     refine tk' 1 HS ?_
     refine tk' 2 HS ?_
     refine cl' 3 fun K hK => ?_
     go_simp
     go_at_call 63
     refine (implIsValidFile _ m s.schema x ⟨x.id, x.owner, x.shared, x.link, .slice fa x.attrs.length fc⟩ _ (HS0.out.grew (hbw.trans (hal.trans HS.2.2.2.2.2.2.2.2))) (HF.out.grew (hbw.trans (hal.trans HS.2.2.2.2.2.2.2.2))) hx hzs hxs).mono ?_
     rintro e w1 ⟨he, hb⟩
     rw [HM.out] at he
     subst he
     refine hK.out _ _ ?s34_3 ?r34_3
     case s34_3 => (try dsimp only); first | exact HS | exact ⟨grew_cell hb HS.1, grew_cell hb HS.2.1, grew_cell hb HS.2.2.1, grew_cell hb HS.2.2.2.1, grew_cell hb HS.2.2.2.2.1, grew_cell hb HS.2.2.2.2.2.1, grew_cell hb HS.2.2.2.2.2.2.1, grew_cell hb HS.2.2.2.2.2.2.2.1, HS.2.2.2.2.2.2.2.2.trans hb⟩
     case r34_3 =>
      clear HS hK K; intro HS
      try simp only [Act.put, lpa, lpb, lpc]
      refine tk' 4 HS ?_
      refine tk' 5 HS ?_
      refine sk' 6 HS ?_
      refine sk' 7 HS ?_
      refine sk' 8 HS ?_
      refine sk' 9 HS ?_
      refine sk' 10 HS ?_
      refine tk' 11 HS ?_
      refine tk' 12 HS ?_
      refine sk' 13 HS ?_
      refine sk' 14 HS ?_
      refine sk' 15 HS ?_
      refine sk' 16 HS ?_
      refine sk' 17 HS ?_
      refine sk' 18 HS ?_
      refine sk' 19 HS ?_
      refine sk' 20 HS ?_
      refine sk' 21 HS ?_
      refine sk' 22 HS ?_
      refine sk' 23 HS ?_
      refine sk' 24 HS ?_
      refine sk' 25 HS ?_
      refine sk' 26 HS ?_
      refine tk' 27 HS ?_
      refine wpAnyH_done (by kernel_rfl) ?_ _
      refine NoPanic.normal ?_
      go_wp2
      go_ret
      refine ⟨ret_bool ?_, hbw.trans (hal.trans HS.2.2.2.2.2.2.2.2)⟩
      exact (show stoB s = false by unfold stoB; rw [all_not hxk.out (show stoAt s _ x = false by unfold stoAt; rw [HM.out]; simp)]; rfl).symm
   ·
    have hk0 := hk
    by_cases hge : s.next ≤ x.id
    ·
     have hk0 := hk
     have hgd : ¬ (x.id < s.next) := by omega
     have hk00 := hk
     go_wp2_with fail
     have hal := (Grew.refl wr).alloc (.cells #[.int .i64 x.id, .int .i64 x.owner, .bool x.shared, .int .i64 x.link, .slice fa x.attrs.length fc] 55)
     have g0 : (wr.alloc (.cells #[.int .i64 x.id, .int .i64 x.owner, .bool x.shared, .int .i64 x.link, .slice fa x.attrs.length fc] 55)).cell? ⟨wr.heap.size, 0, none⟩ = some (.int .i64 x.id) := by simp
     have g1 : (wr.alloc (.cells #[.int .i64 x.id, .int .i64 x.owner, .bool x.shared, .int .i64 x.link, .slice fa x.attrs.length fc] 55)).cell? ⟨wr.heap.size, 1, none⟩ = some (.int .i64 x.owner) := by simp
     have g2 : (wr.alloc (.cells #[.int .i64 x.id, .int .i64 x.owner, .bool x.shared, .int .i64 x.link, .slice fa x.attrs.length fc] 55)).cell? ⟨wr.heap.size, 2, none⟩ = some (.bool x.shared) := by simp
     have g3 : (wr.alloc (.cells #[.int .i64 x.id, .int .i64 x.owner, .bool x.shared, .int .i64 x.link, .slice fa x.attrs.length fc] 55)).cell? ⟨wr.heap.size, 3, none⟩ = some (.int .i64 x.link) := by simp
     have g4 : (wr.alloc (.cells #[.int .i64 x.id, .int .i64 x.owner, .bool x.shared, .int .i64 x.link, .slice fa x.attrs.length fc] 55)).cell? ⟨wr.heap.size, 4, none⟩ = some (.slice fa x.attrs.length fc) := by simp
     have ax0 := grew_cell hal ex0
     have ax1 := grew_cell hal ex1
     have ax2 := grew_cell hal ex2
     refine wp_region_noPanic ?_
     refine wp_region_held_drew (S := (fun w' => (w'.cell? ⟨w.heap.size, 0, none⟩ = some (.slice sa m sc) ∧ w'.cell? ⟨w.heap.size, 1, none⟩ = some (.slice (some ⟨b1, o1, none⟩) n ca) ∧ w'.cell? ⟨w.heap.size, 2, none⟩ = some (.int .i64 s.next) ∧ w'.cell? ⟨wr.heap.size, 0, none⟩ = some (.int .i64 x.id) ∧ w'.cell? ⟨wr.heap.size, 1, none⟩ = some (.int .i64 x.owner) ∧ w'.cell? ⟨wr.heap.size, 2, none⟩ = some (.bool x.shared) ∧ w'.cell? ⟨wr.heap.size, 3, none⟩ = some (.int .i64 x.link) ∧ w'.cell? ⟨wr.heap.size, 4, none⟩ = some (.slice fa x.attrs.length fc) ∧ Grew (wr.alloc (.cells #[.int .i64 x.id, .int .i64 x.owner, .bool x.shared, .int .i64 x.link, .slice fa x.attrs.length fc] 55)) w'))) (by kernel_rfl) ?h35_S ?h35_r
     case h35_S => exact ⟨grew_cell (Grew.refl _).drew ax0, grew_cell (Grew.refl _).drew ax1, grew_cell (Grew.refl _).drew ax2, grew_cell (Grew.refl _).drew g0, grew_cell (Grew.refl _).drew g1, grew_cell (Grew.refl _).drew g2, grew_cell (Grew.refl _).drew g3, grew_cell (Grew.refl _).drew g4, (Grew.refl _).drew⟩
     case h35_r =>
      intro HS
      refine tk' 0 HS ?_
      refine tk' 1 HS ?_
      refine tk' 2 HS ?_
      refine cl' 3 fun K hK => ?_
      go_simp
      go_at_call 63
      refine (implIsValidFile _ m s.schema x ⟨x.id, x.owner, x.shared, x.link, .slice fa x.attrs.length fc⟩ _ (HS0.out.grew (hbw.trans (hal.trans HS.2.2.2.2.2.2.2.2))) (HF.out.grew (hbw.trans (hal.trans HS.2.2.2.2.2.2.2.2))) hx hzs hxs).mono ?_
      rintro e w1 ⟨he, hb⟩
      rw [HM.out] at he
      subst he
      refine hK.out _ _ ?s35_3 ?r35_3
      case s35_3 => (try dsimp only); first | exact HS | exact ⟨grew_cell hb HS.1, grew_cell hb HS.2.1, grew_cell hb HS.2.2.1, grew_cell hb HS.2.2.2.1, grew_cell hb HS.2.2.2.2.1, grew_cell hb HS.2.2.2.2.2.1, grew_cell hb HS.2.2.2.2.2.2.1, grew_cell hb HS.2.2.2.2.2.2.2.1, HS.2.2.2.2.2.2.2.2.trans hb⟩
      case r35_3 =>
       clear HS hK K; intro HS
       try simp only [Act.put, lpa, lpb, lpc]
       refine tk' 4 HS ?_
       refine tk' 5 HS ?_
       refine tk' 6 HS ?_
       refine tk' 7 HS ?_
       refine tk' 8 HS ?_
       refine tk' 9 HS ?_
       refine tk' 10 HS ?_
       refine tk' 11 HS ?_
       refine tk' 12 HS ?_
       refine sk' 13 HS ?_
       refine sk' 14 HS ?_
       refine sk' 15 HS ?_
       refine sk' 16 HS ?_
       refine sk' 17 HS ?_
       refine sk' 18 HS ?_
       refine sk' 19 HS ?_
       refine sk' 20 HS ?_
       refine sk' 21 HS ?_
       refine sk' 22 HS ?_
       refine sk' 23 HS ?_
       refine sk' 24 HS ?_
       refine sk' 25 HS ?_
       refine sk' 26 HS ?_
       refine tk' 27 HS ?_
       refine wpAnyH_done (by kernel_rfl) ?_ _
       refine NoPanic.normal ?_
       go_wp2
       go_ret
       refine ⟨ret_bool ?_, hbw.trans (hal.trans HS.2.2.2.2.2.2.2.2)⟩
       exact (show stoB s = false by unfold stoB; rw [all_not hxk.out (show stoAt s _ x = false by unfold stoAt; rw [HM.out, decide_eq_false (show ¬ (x.id < s.next) by omega)]; rfl)]; rfl).symm
    ·
     have hk0 := hk
     have hgd : x.id < s.next := by omega
     have hgb : decide (s.next ≤ x.id) = false := decide_eq_false hge
     by_cases hk1 : ¬ (0 < k)
     ·
      have hk0 := hk
      have hk00 := hk
      go_wp2_with fail
      have hal := (Grew.refl wr).alloc (.cells #[.int .i64 x.id, .int .i64 x.owner, .bool x.shared, .int .i64 x.link, .slice fa x.attrs.length fc] 55)
      have g0 : (wr.alloc (.cells #[.int .i64 x.id, .int .i64 x.owner, .bool x.shared, .int .i64 x.link, .slice fa x.attrs.length fc] 55)).cell? ⟨wr.heap.size, 0, none⟩ = some (.int .i64 x.id) := by simp
      have g1 : (wr.alloc (.cells #[.int .i64 x.id, .int .i64 x.owner, .bool x.shared, .int .i64 x.link, .slice fa x.attrs.length fc] 55)).cell? ⟨wr.heap.size, 1, none⟩ = some (.int .i64 x.owner) := by simp
      have g2 : (wr.alloc (.cells #[.int .i64 x.id, .int .i64 x.owner, .bool x.shared, .int .i64 x.link, .slice fa x.attrs.length fc] 55)).cell? ⟨wr.heap.size, 2, none⟩ = some (.bool x.shared) := by simp
      have g3 : (wr.alloc (.cells #[.int .i64 x.id, .int .i64 x.owner, .bool x.shared, .int .i64 x.link, .slice fa x.attrs.length fc] 55)).cell? ⟨wr.heap.size, 3, none⟩ = some (.int .i64 x.link) := by simp
      have g4 : (wr.alloc (.cells #[.int .i64 x.id, .int .i64 x.owner, .bool x.shared, .int .i64 x.link, .slice fa x.attrs.length fc] 55)).cell? ⟨wr.heap.size, 4, none⟩ = some (.slice fa x.attrs.length fc) := by simp
      have ax0 := grew_cell hal ex0
      have ax1 := grew_cell hal ex1
      have ax2 := grew_cell hal ex2
      refine wp_region_noPanic ?_
      refine wp_region_held_drew (S := (fun w' => (w'.cell? ⟨w.heap.size, 0, none⟩ = some (.slice sa m sc) ∧ w'.cell? ⟨w.heap.size, 1, none⟩ = some (.slice (some ⟨b1, o1, none⟩) n ca) ∧ w'.cell? ⟨w.heap.size, 2, none⟩ = some (.int .i64 s.next) ∧ w'.cell? ⟨wr.heap.size, 0, none⟩ = some (.int .i64 x.id) ∧ w'.cell? ⟨wr.heap.size, 1, none⟩ = some (.int .i64 x.owner) ∧ w'.cell? ⟨wr.heap.size, 2, none⟩ = some (.bool x.shared) ∧ w'.cell? ⟨wr.heap.size, 3, none⟩ = some (.int .i64 x.link) ∧ w'.cell? ⟨wr.heap.size, 4, none⟩ = some (.slice fa x.attrs.length fc) ∧ Grew (wr.alloc (.cells #[.int .i64 x.id, .int .i64 x.owner, .bool x.shared, .int .i64 x.link, .slice fa x.attrs.length fc] 55)) w'))) (by kernel_rfl) ?h36_S ?h36_r
      case h36_S => exact ⟨grew_cell (Grew.refl _).drew ax0, grew_cell (Grew.refl _).drew ax1, grew_cell (Grew.refl _).drew ax2, grew_cell (Grew.refl _).drew g0, grew_cell (Grew.refl _).drew g1, grew_cell (Grew.refl _).drew g2, grew_cell (Grew.refl _).drew g3, grew_cell (Grew.refl _).drew g4, (Grew.refl _).drew⟩
      case h36_r =>
       intro HS
       refine tk' 0 HS ?_
       refine tk' 1 HS ?_
       refine tk' 2 HS ?_
       refine cl' 3 fun K hK => ?_
       go_simp
       go_at_call 63
       refine (implIsValidFile _ m s.schema x ⟨x.id, x.owner, x.shared, x.link, .slice fa x.attrs.length fc⟩ _ (HS0.out.grew (hbw.trans (hal.trans HS.2.2.2.2.2.2.2.2))) (HF.out.grew (hbw.trans (hal.trans HS.2.2.2.2.2.2.2.2))) hx hzs hxs).mono ?_
       rintro e w1 ⟨he, hb⟩
       rw [HM.out] at he
       subst he
       refine hK.out _ _ ?s36_3 ?r36_3
       case s36_3 => (try dsimp only); first | exact HS | exact ⟨grew_cell hb HS.1, grew_cell hb HS.2.1, grew_cell hb HS.2.2.1, grew_cell hb HS.2.2.2.1, grew_cell hb HS.2.2.2.2.1, grew_cell hb HS.2.2.2.2.2.1, grew_cell hb HS.2.2.2.2.2.2.1, grew_cell hb HS.2.2.2.2.2.2.2.1, HS.2.2.2.2.2.2.2.2.trans hb⟩
       case r36_3 =>
        clear HS hK K; intro HS
        try simp only [Act.put, lpa, lpb, lpc]
        refine tk' 4 HS ?_
        refine tk' 5 HS ?_
        refine tk' 6 HS ?_
        refine tk' 7 HS ?_
        refine tk' 8 HS ?_
        refine tk' 9 HS ?_
        refine tk' 10 HS ?_
        refine tk' 11 HS ?_
        refine tk' 12 HS ?_
        refine tk' 13 HS ?_
        refine tk' 14 HS ?_
        refine tk' 15 HS ?_
        refine sk' 16 HS ?_
        refine sk' 17 HS ?_
        refine sk' 18 HS ?_
        refine sk' 19 HS ?_
        refine sk' 20 HS ?_
        refine sk' 21 HS ?_
        refine sk' 22 HS ?_
        refine sk' 23 HS ?_
        refine sk' 24 HS ?_
        refine sk' 25 HS ?_
        refine tk' 26 HS ?_
        refine tk' 27 HS ?_
        refine wpAnyH_done (by kernel_rfl) ?_ _
        refine NoPanic.normal ?_
        go_wp2
        go_roundw
        case rel => exact ⟨k + 1, by omega, by go_num, Lib.hid (upTo_snoc hsame.out hxk.out (by show stoAt s _ x = true; unfold stoAt; rw [HM.out, decide_eq_true (show x.id < s.next by omega), Nat.eq_zero_of_not_pos hk1]; rfl)), hbel.trans (hal.trans HS.2.2.2.2.2.2.2.2)⟩
        case measure => simp [intOf]; omega
     ·
      have hk0 := hk
      obtain ⟨p, rfl⟩ : ∃ p, k = p + 1 := ⟨k - 1, by omega⟩
      obtain ⟨b2, o2, q5, hab, hypk, d0, d1, d2, d3, d4⟩ := (hra.grew hbw).getP5 (show p < n by omega)
      obtain ⟨rfl, rfl⟩ : b1 = b2 ∧ o1 = o2 := by cases hab; exact ⟨rfl, rfl⟩
      clear hab
      obtain ⟨y, hyk, hyr⟩ := HA.out.get hypk.out
      obtain ⟨qi, qo, qsh, ql, qa⟩ := q5
      have hyi := hyr.1
      simp only at hyi d0
      subst hyi
      clear d1 d2 d3 d4 hyr
      have hpp : ((p + 1 : Nat) : Int) - 1 = (p : Int) := by omega
      have hp0 : (0 : Int) ≤ (p : Int) + 1 := by omega
      have hp1 : (p : Int) < (n : Int) := by omega
      have hp2 : (p : Int) + 1 < (n : Int) := by omega
      have hwp : IntKind.i64.wrap (p : Int) = (p : Int) := by simp [IntKind.wrap, IntKind.bits, IntKind.signed]; omega
      have HP := Lib.hid (prevOk_succ (lt := fun (y x : Fl) => decide (y.id < x.id)) (x := x) hyk.out)
      by_cases hid : x.id ≤ y.id
      ·
       have hk0 := hk
       have hil : ¬ (y.id < x.id) := by omega
       have hk00 := hk
       go_wp2_with fail
       have hal := (Grew.refl wr).alloc (.cells #[.int .i64 x.id, .int .i64 x.owner, .bool x.shared, .int .i64 x.link, .slice fa x.attrs.length fc] 55)
       have g0 : (wr.alloc (.cells #[.int .i64 x.id, .int .i64 x.owner, .bool x.shared, .int .i64 x.link, .slice fa x.attrs.length fc] 55)).cell? ⟨wr.heap.size, 0, none⟩ = some (.int .i64 x.id) := by simp
       have g1 : (wr.alloc (.cells #[.int .i64 x.id, .int .i64 x.owner, .bool x.shared, .int .i64 x.link, .slice fa x.attrs.length fc] 55)).cell? ⟨wr.heap.size, 1, none⟩ = some (.int .i64 x.owner) := by simp
       have g2 : (wr.alloc (.cells #[.int .i64 x.id, .int .i64 x.owner, .bool x.shared, .int .i64 x.link, .slice fa x.attrs.length fc] 55)).cell? ⟨wr.heap.size, 2, none⟩ = some (.bool x.shared) := by simp
       have g3 : (wr.alloc (.cells #[.int .i64 x.id, .int .i64 x.owner, .bool x.shared, .int .i64 x.link, .slice fa x.attrs.length fc] 55)).cell? ⟨wr.heap.size, 3, none⟩ = some (.int .i64 x.link) := by simp
       have g4 : (wr.alloc (.cells #[.int .i64 x.id, .int .i64 x.owner, .bool x.shared, .int .i64 x.link, .slice fa x.attrs.length fc] 55)).cell? ⟨wr.heap.size, 4, none⟩ = some (.slice fa x.attrs.length fc) := by simp
       have ax0 := grew_cell hal ex0
       have ax1 := grew_cell hal ex1
       have ax2 := grew_cell hal ex2
       replace d0 := grew_cell hal d0
       refine wp_region_noPanic ?_
       refine wp_region_held_drew (S := (fun w' => (w'.cell? ⟨w.heap.size, 0, none⟩ = some (.slice sa m sc) ∧ w'.cell? ⟨w.heap.size, 1, none⟩ = some (.slice (some ⟨b1, o1, none⟩) n ca) ∧ w'.cell? ⟨w.heap.size, 2, none⟩ = some (.int .i64 s.next) ∧ w'.cell? ⟨wr.heap.size, 0, none⟩ = some (.int .i64 x.id) ∧ w'.cell? ⟨wr.heap.size, 1, none⟩ = some (.int .i64 x.owner) ∧ w'.cell? ⟨wr.heap.size, 2, none⟩ = some (.bool x.shared) ∧ w'.cell? ⟨wr.heap.size, 3, none⟩ = some (.int .i64 x.link) ∧ w'.cell? ⟨wr.heap.size, 4, none⟩ = some (.slice fa x.attrs.length fc) ∧ w'.cell? ⟨b1, o1 + p * 5, none⟩ = some (.int .i64 y.id) ∧ Grew (wr.alloc (.cells #[.int .i64 x.id, .int .i64 x.owner, .bool x.shared, .int .i64 x.link, .slice fa x.attrs.length fc] 55)) w'))) (by kernel_rfl) ?h37_S ?h37_r
       case h37_S => exact ⟨grew_cell (Grew.refl _).drew ax0, grew_cell (Grew.refl _).drew ax1, grew_cell (Grew.refl _).drew ax2, grew_cell (Grew.refl _).drew g0, grew_cell (Grew.refl _).drew g1, grew_cell (Grew.refl _).drew g2, grew_cell (Grew.refl _).drew g3, grew_cell (Grew.refl _).drew g4, grew_cell (Grew.refl _).drew d0, (Grew.refl _).drew⟩
       case h37_r =>
        intro HS
        refine tk' 0 HS ?_
        refine tk' 1 HS ?_
        refine tk' 2 HS ?_
        refine cl' 3 fun K hK => ?_
        go_simp
        go_at_call 63
        refine (implIsValidFile _ m s.schema x ⟨x.id, x.owner, x.shared, x.link, .slice fa x.attrs.length fc⟩ _ (HS0.out.grew (hbw.trans (hal.trans HS.2.2.2.2.2.2.2.2.2))) (HF.out.grew (hbw.trans (hal.trans HS.2.2.2.2.2.2.2.2.2))) hx hzs hxs).mono ?_
        rintro e w1 ⟨he, hb⟩
        rw [HM.out] at he
        subst he
        refine hK.out _ _ ?s37_3 ?r37_3
        case s37_3 => (try dsimp only); first | exact HS | exact ⟨grew_cell hb HS.1, grew_cell hb HS.2.1, grew_cell hb HS.2.2.1, grew_cell hb HS.2.2.2.1, grew_cell hb HS.2.2.2.2.1, grew_cell hb HS.2.2.2.2.2.1, grew_cell hb HS.2.2.2.2.2.2.1, grew_cell hb HS.2.2.2.2.2.2.2.1, grew_cell hb HS.2.2.2.2.2.2.2.2.1, HS.2.2.2.2.2.2.2.2.2.trans hb⟩
        case r37_3 =>
         clear HS hK K; intro HS
         try simp only [Act.put, lpa, lpb, lpc]
         refine tk' 4 HS ?_
         refine tk' 5 HS ?_
         refine tk' 6 HS ?_
         refine tk' 7 HS ?_
         refine tk' 8 HS ?_
         refine tk' 9 HS ?_
         refine tk' 10 HS ?_
         refine tk' 11 HS ?_
         refine tk' 12 HS ?_
         refine tk' 13 HS ?_
         refine tk' 14 HS ?_
         refine tk' 15 HS ?_
         refine tk' 16 HS ?_
         refine tk' 17 HS ?_
         refine tk' 18 HS ?_
         refine tk' 19 HS ?_
         refine tk' 20 HS ?_
         refine tk' 21 HS ?_
         refine tk' 22 HS ?_
         refine tk' 23 HS ?_
         refine tk' 24 HS ?_
         refine tk' 25 HS ?_
         refine tk' 26 HS ?_
         refine tk' 27 HS ?_
         refine wpAnyH_done (by kernel_rfl) ?_ _
         refine NoPanic.normal ?_
         go_wp2
         go_ret
         refine ⟨ret_bool ?_, hbw.trans (hal.trans HS.2.2.2.2.2.2.2.2.2)⟩
         exact (show stoB s = false by unfold stoB; rw [all_not hxk.out (show stoAt s _ x = false by unfold stoAt; rw [HM.out, decide_eq_true (show x.id < s.next by omega), HP.out]; exact decide_eq_false (show ¬ (y.id < x.id) by omega))]; rfl).symm
      ·
       have hk0 := hk
       have hil : y.id < x.id := by omega
       have hk00 := hk
       go_wp2_with fail
       have hal := (Grew.refl wr).alloc (.cells #[.int .i64 x.id, .int .i64 x.owner, .bool x.shared, .int .i64 x.link, .slice fa x.attrs.length fc] 55)
       have g0 : (wr.alloc (.cells #[.int .i64 x.id, .int .i64 x.owner, .bool x.shared, .int .i64 x.link, .slice fa x.attrs.length fc] 55)).cell? ⟨wr.heap.size, 0, none⟩ = some (.int .i64 x.id) := by simp
       have g1 : (wr.alloc (.cells #[.int .i64 x.id, .int .i64 x.owner, .bool x.shared, .int .i64 x.link, .slice fa x.attrs.length fc] 55)).cell? ⟨wr.heap.size, 1, none⟩ = some (.int .i64 x.owner) := by simp
       have g2 : (wr.alloc (.cells #[.int .i64 x.id, .int .i64 x.owner, .bool x.shared, .int .i64 x.link, .slice fa x.attrs.length fc] 55)).cell? ⟨wr.heap.size, 2, none⟩ = some (.bool x.shared) := by simp
       have g3 : (wr.alloc (.cells #[.int .i64 x.id, .int .i64 x.owner, .bool x.shared, .int .i64 x.link, .slice fa x.attrs.length fc] 55)).cell? ⟨wr.heap.size, 3, none⟩ = some (.int .i64 x.link) := by simp
       have g4 : (wr.alloc (.cells #[.int .i64 x.id, .int .i64 x.owner, .bool x.shared, .int .i64 x.link, .slice fa x.attrs.length fc] 55)).cell? ⟨wr.heap.size, 4, none⟩ = some (.slice fa x.attrs.length fc) := by simp
       have ax0 := grew_cell hal ex0
       have ax1 := grew_cell hal ex1
       have ax2 := grew_cell hal ex2
       replace d0 := grew_cell hal d0
       refine wp_region_noPanic ?_
       refine wp_region_held_drew (S := (fun w' => (w'.cell? ⟨w.heap.size, 0, none⟩ = some (.slice sa m sc) ∧ w'.cell? ⟨w.heap.size, 1, none⟩ = some (.slice (some ⟨b1, o1, none⟩) n ca) ∧ w'.cell? ⟨w.heap.size, 2, none⟩ = some (.int .i64 s.next) ∧ w'.cell? ⟨wr.heap.size, 0, none⟩ = some (.int .i64 x.id) ∧ w'.cell? ⟨wr.heap.size, 1, none⟩ = some (.int .i64 x.owner) ∧ w'.cell? ⟨wr.heap.size, 2, none⟩ = some (.bool x.shared) ∧ w'.cell? ⟨wr.heap.size, 3, none⟩ = some (.int .i64 x.link) ∧ w'.cell? ⟨wr.heap.size, 4, none⟩ = some (.slice fa x.attrs.length fc) ∧ w'.cell? ⟨b1, o1 + p * 5, none⟩ = some (.int .i64 y.id) ∧ Grew (wr.alloc (.cells #[.int .i64 x.id, .int .i64 x.owner, .bool x.shared, .int .i64 x.link, .slice fa x.attrs.length fc] 55)) w'))) (by kernel_rfl) ?h38_S ?h38_r
       case h38_S => exact ⟨grew_cell (Grew.refl _).drew ax0, grew_cell (Grew.refl _).drew ax1, grew_cell (Grew.refl _).drew ax2, grew_cell (Grew.refl _).drew g0, grew_cell (Grew.refl _).drew g1, grew_cell (Grew.refl _).drew g2, grew_cell (Grew.refl _).drew g3, grew_cell (Grew.refl _).drew g4, grew_cell (Grew.refl _).drew d0, (Grew.refl _).drew⟩
       case h38_r =>
        intro HS
        refine tk' 0 HS ?_
        refine tk' 1 HS ?_
        refine tk' 2 HS ?_
        refine cl' 3 fun K hK => ?_
        go_simp
        go_at_call 63
        refine (implIsValidFile _ m s.schema x ⟨x.id, x.owner, x.shared, x.link, .slice fa x.attrs.length fc⟩ _ (HS0.out.grew (hbw.trans (hal.trans HS.2.2.2.2.2.2.2.2.2))) (HF.out.grew (hbw.trans (hal.trans HS.2.2.2.2.2.2.2.2.2))) hx hzs hxs).mono ?_
        rintro e w1 ⟨he, hb⟩
        rw [HM.out] at he
        subst he
        refine hK.out _ _ ?s38_3 ?r38_3
        case s38_3 => (try dsimp only); first | exact HS | exact ⟨grew_cell hb HS.1, grew_cell hb HS.2.1, grew_cell hb HS.2.2.1, grew_cell hb HS.2.2.2.1, grew_cell hb HS.2.2.2.2.1, grew_cell hb HS.2.2.2.2.2.1, grew_cell hb HS.2.2.2.2.2.2.1, grew_cell hb HS.2.2.2.2.2.2.2.1, grew_cell hb HS.2.2.2.2.2.2.2.2.1, HS.2.2.2.2.2.2.2.2.2.trans hb⟩
        case r38_3 =>
         clear HS hK K; intro HS
         try simp only [Act.put, lpa, lpb, lpc]
         refine tk' 4 HS ?_
         refine tk' 5 HS ?_
         refine tk' 6 HS ?_
         refine tk' 7 HS ?_
         refine tk' 8 HS ?_
         refine tk' 9 HS ?_
         refine tk' 10 HS ?_
         refine tk' 11 HS ?_
         refine tk' 12 HS ?_
         refine tk' 13 HS ?_
         refine tk' 14 HS ?_
         refine tk' 15 HS ?_
         refine tk' 16 HS ?_
         refine tk' 17 HS ?_
         refine tk' 18 HS ?_
         refine tk' 19 HS ?_
         refine tk' 20 HS ?_
         refine tk' 21 HS ?_
         refine tk' 22 HS ?_
         refine tk' 23 HS ?_
         refine tk' 24 HS ?_
         refine tk' 25 HS ?_
         refine tk' 26 HS ?_
         refine tk' 27 HS ?_
         refine wpAnyH_done (by kernel_rfl) ?_ _
         refine NoPanic.normal ?_
         go_wp2
         go_roundw
         case rel => exact ⟨p + 1 + 1, by omega, by go_num, Lib.hid (upTo_snoc hsame.out hxk.out (by show stoAt s _ x = true; unfold stoAt; rw [HM.out, decide_eq_true (show x.id < s.next by omega), HP.out]; exact decide_eq_true (show y.id < x.id by omega))), hbel.trans (hal.trans HS.2.2.2.2.2.2.2.2.2)⟩
         case measure => simp [intOf]; omega
  ·
   obtain rfl : k = n := by omega
   have hy := Lib.hid (all_up HX.out hsame.out)
   have ex0 := grew_cell hbel x0
   have ex1 := grew_cell hbel x1
   have ex2 := grew_cell hbel x2
   have hc_bs : bs = false ∨ bs = true := by cases bs <;> simp
   have hc_bn : bn = false ∨ bn = true := by cases bn <;> simp
   rcases hc_bs with rfl | rfl
   ·
    have hk0 := hk
    go_wp2_with (first | (go_at_call 65; refine (within _ _ _ _).mono ?_; rintro e w' ⟨he, rfl⟩; rw [HI.out] at he; subst he) | (go_at_call 64; refine (implIsValidSchema _ m s.schema _ (HS0.out.grew hbw) hx hzs).mono ?_; rintro e w9 ⟨he, hb9⟩; rw [HC.out] at he; subst he; have z1 := grew_cell hb9 ex1; have z2 := grew_cell hb9 ex2))
    go_ret
    refine ⟨ret_bool ?_, hbw.trans hb9⟩
    unfold stoB; rw [hy.out, HI.out, HC.out, HX.out]; simp
   ·
    by_cases h12 : (k : Int) ≤ 12
    ·
     rcases hc_bn with rfl | rfl
     ·
      have hk0 := hk
      go_wp2_with (first | (go_at_call 65; refine (within _ _ _ _).mono ?_; rintro e w' ⟨he, rfl⟩; rw [HI.out] at he; subst he) | (go_at_call 64; refine (implIsValidSchema _ m s.schema _ (HS0.out.grew hbw) hx hzs).mono ?_; rintro e w9 ⟨he, hb9⟩; rw [HC.out] at he; subst he; have z1 := grew_cell hb9 ex1; have z2 := grew_cell hb9 ex2))
      go_ret
      refine ⟨ret_bool ?_, hbw.trans hb9⟩
      unfold stoB; rw [hy.out, HI.out, HC.out, HX.out]; simp <;> omega
     ·
      have hk0 := hk
      go_wp2_with (first | (go_at_call 65; refine (within _ _ _ _).mono ?_; rintro e w' ⟨he, rfl⟩; rw [HI.out] at he; subst he) | (go_at_call 64; refine (implIsValidSchema _ m s.schema _ (HS0.out.grew hbw) hx hzs).mono ?_; rintro e w9 ⟨he, hb9⟩; rw [HC.out] at he; subst he; have z1 := grew_cell hb9 ex1; have z2 := grew_cell hb9 ex2))
      go_ret
      refine ⟨ret_bool ?_, hbw.trans hb9⟩
      unfold stoB; rw [hy.out, HI.out, HC.out, HX.out]; simp <;> omega
    ·
     have hk0 := hk
     go_wp2_with (first | (go_at_call 65; refine (within _ _ _ _).mono ?_; rintro e w' ⟨he, rfl⟩; rw [HI.out] at he; subst he) | (go_at_call 64; refine (implIsValidSchema _ m s.schema _ (HS0.out.grew hbw) hx hzs).mono ?_; rintro e w9 ⟨he, hb9⟩; rw [HC.out] at he; subst he; have z1 := grew_cell hb9 ex1; have z2 := grew_cell hb9 ex2))
     go_ret
     refine ⟨ret_bool ?_, hbw.trans hb9⟩
     unfold stoB; rw [hy.out, HI.out, HC.out, HX.out]; simp <;> omega
end Go.Proofs.YtemikjbfjhebnaaGreat
