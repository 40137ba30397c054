/- Texts B2, as far as they are needed. -/
import Derived.Test.YtejgpghcahinhaaGreatVi0
import Derived.Test.YtejgpghcahinhaaGreatVi13
namespace Go.Proofs.YtejgpghcahinhaaGreat
open Go.RowKit
set_option linter.unusedVariables false
set_option maxRecDepth 100000 in
set_option maxHeartbeats 4000000 in
theorem specIsValidStore (s : St) (p : PS) (w : World) (hs : St.R w s p) (hz : s.sz ≤ 4000000) :
  Calls Tryz.prog 18 #[p.v] w fun e w' => e = .returned (.bool (stoB s)) ∧ Grew w w' := by
 obtain ⟨p_q, p_r, p_n⟩ := p
 obtain ⟨hsq, hsr, hsn⟩ := hs
 simp only at hsq hsr hsn
 subst hsn
 have HZF := Lib.hid (show szAll Fl.sz s.files ≤ 4000000 by unfold St.sz at hz; omega)
 have hzs : szAll Fd.sz s.schema ≤ 4000000 := by unfold St.sz at hz; omega
 have hfl : s.files.length ≤ 4000000 := by unfold St.sz at hz; omega
 have hx : s.schema.length ≤ 4000000 := by unfold St.sz at hz; omega
 have HS0 := Lib.hid hsq
 obtain ⟨sa, sc, rfl, hsc, hsr0⟩ := hsq
 clear hsr0 hsc
 obtain ⟨ps, ⟨a, ca, rfl, hca, hra⟩, hall⟩ := hsr
 have HA := Lib.hid hall
 clear hall
 generalize hn : s.files.length = n at hfl hra hca
 generalize hm : s.schema.length = m at hx HS0
 have HX := Lib.hid hn
 obtain ⟨bn, hbn⟩ : ∃ b, inB s.next 1 61 = b := ⟨_, rfl⟩
 obtain ⟨bs, hbs⟩ : ∃ b, schB s.schema = b := ⟨_, rfl⟩
 have HI := Lib.hid hbn
 have HC := Lib.hid hbs
 clear hbn hbs
 have hg0 := (Grew.refl w).alloc (.cells #[.slice sa m sc, .slice a n ca, .int .i64 s.next] 27)
 have x0 : (w.alloc (.cells #[.slice sa m sc, .slice a n ca, .int .i64 s.next] 27)).cell? ⟨w.heap.size, 0, none⟩ = some (.slice sa m sc) := by simp
 have x1 : (w.alloc (.cells #[.slice sa m sc, .slice a n ca, .int .i64 s.next] 27)).cell? ⟨w.heap.size, 1, none⟩ = some (.slice a n ca) := by simp
 have x2 : (w.alloc (.cells #[.slice sa m sc, .slice a n ca, .int .i64 s.next] 27)).cell? ⟨w.heap.size, 2, none⟩ = some (.int .i64 s.next) := by simp
 change Calls Tryz.prog _ #[.agg #[.slice sa m sc, .slice a n ca, .int .i64 s.next]] w _
 clear hn hm hz
 go_enter Tryz.func18, Tryz.ntmps18
 go_wp2
 go_loopw [3] (fun i wr => ∃ k : Nat, k ≤ n ∧ i = .int .i64 k ∧ Hid (upTo (stoAt s) s.files k) ∧ Grew (w.alloc (.cells #[.slice sa m sc, .slice a n ca, .int .i64 s.next] 27)) wr) (fun i _ => n - (intOf i).toNat)
 case atStart => exact ⟨0, Nat.zero_le _, rfl, Lib.hid (upTo_zero _ _), Grew.refl _⟩
 case round =>
  obtain ⟨k, hk, rfl, hsame, hbel⟩ := hrel
  have hbw := hg0.trans hbel
  by_cases hlt : k < n
  ·
   obtain ⟨b1, o1, p5, rfl, hpk, c0, c1, c2, c3, c4⟩ := (hra.grew hbw).getP5 hlt
   obtain ⟨x, hxk, hfr⟩ := HA.out.get hpk.out
   have hxs := fl_sz HZF.out hxk.out
   have HF := Lib.hid hfr
   obtain ⟨pi, po, psh, pl, pa⟩ := p5
   obtain ⟨h1, h2, h3, h4, h5⟩ := hfr
   simp only at h1 h2 h3 h4 h5 c0 c1 c2 c3 c4
   subst h1 h2 h3 h4
   obtain ⟨fa, fc, rfl, h6, h7⟩ := h5
   clear h6 h7
   obtain ⟨fv, hfv⟩ : ∃ b, filB s.schema x = b := ⟨_, rfl⟩
   have HM := Lib.hid hfv
   clear hfv
   have hcm : fv = false ∨ fv = true := by cases fv <;> simp
   have ex0 := grew_cell hbel x0
   have ex1 := grew_cell hbel x1
   have ex2 := grew_cell hbel x2
   rcases hcm with rfl | rfl
   ·
    have hk0 := hk
    have hk00 := hk
    go_wp2_with fail
    refine wp_region_noPanic ?_
    refine wp_region_held_drew (S := (fun w' => (w'.cell? ⟨w.heap.size, 0, none⟩ = some (.slice sa m sc) ∧ w'.cell? ⟨w.heap.size, 1, none⟩ = some (.slice (some ⟨b1, o1, none⟩) n ca) ∧ w'.cell? ⟨w.heap.size, 2, none⟩ = some (.int .i64 s.next) ∧ w'.cell? ⟨b1, o1 + k * 5, none⟩ = some (.int .i64 x.id) ∧ w'.cell? ⟨b1, o1 + k * 5 + 1, none⟩ = some (.int .i64 x.owner) ∧ w'.cell? ⟨b1, o1 + k * 5 + 2, none⟩ = some (.bool x.shared) ∧ w'.cell? ⟨b1, o1 + k * 5 + 3, none⟩ = some (.int .i64 x.link) ∧ w'.cell? ⟨b1, o1 + k * 5 + 4, none⟩ = some (.slice fa x.attrs.length fc) ∧ Grew wr w'))) (by kernel_rfl) ?h29_S ?h29_r
    case h29_S => exact ⟨grew_cell (Grew.refl _).drew ex0, grew_cell (Grew.refl _).drew ex1, grew_cell (Grew.refl _).drew ex2, grew_cell (Grew.refl _).drew c0, grew_cell (Grew.refl _).drew c1, grew_cell (Grew.refl _).drew c2, grew_cell (Grew.refl _).drew c3, grew_cell (Grew.refl _).drew c4, (Grew.refl _).drew⟩
    case h29_r =>
     intro HS
     (refine tk (v := ?v29_0) 0 rfl (by kernel_rfl) rfl ?y29_0 HS ?_; case y29_0 => (intro w' hSw; (try dsimp only at hSw); go_simp <;> (with_reducible rfl)))
     try simp only [Act.put, lpa, lpb, lpc]
     (refine tk (v := ?v29_1) 1 rfl (by kernel_rfl) rfl ?y29_1 HS ?_; case y29_1 => (intro w' hSw; (try dsimp only at hSw); go_simp <;> (with_reducible rfl)))
     try simp only [Act.put, lpa, lpb, lpc]
     (refine tk (v := ?v29_2) 2 rfl (by kernel_rfl) rfl ?y29_2 HS ?_; case y29_2 => (intro w' hSw; (try dsimp only at hSw); go_simp <;> (with_reducible rfl)))
     try simp only [Act.put, lpa, lpb, lpc]
     (refine tk (v := ?v29_3) 3 rfl (by kernel_rfl) rfl ?y29_3 HS ?_; case y29_3 => (intro w' hSw; (try dsimp only at hSw); go_simp <;> (with_reducible rfl)))
     try simp only [Act.put, lpa, lpb, lpc]
     (refine tk (v := ?v29_4) 4 rfl (by kernel_rfl) rfl ?y29_4 HS ?_; case y29_4 => (intro w' hSw; (try dsimp only at hSw); go_simp <;> (with_reducible rfl)))
     try simp only [Act.put, lpa, lpb, lpc]
     (refine tk (v := ?v29_5) 5 rfl (by kernel_rfl) rfl ?y29_5 HS ?_; case y29_5 => (intro w' hSw; (try dsimp only at hSw); go_simp <;> (with_reducible rfl)))
     try simp only [Act.put, lpa, lpb, lpc]
     (refine tk (v := ?v29_6) 6 rfl (by kernel_rfl) rfl ?y29_6 HS ?_; case y29_6 => (intro w' hSw; (try dsimp only at hSw); go_simp <;> (with_reducible rfl)))
     try simp only [Act.put, lpa, lpb, lpc]
     refine cl 7 rfl (by kernel_rfl) (fun K hK => ?_)
     go_simp
     go_at_call 87
     refine (specIsValidFile _ m s.schema x ⟨x.id, x.owner, x.shared, x.link, .slice fa x.attrs.length fc⟩ _ (HS0.out.grew (hbw.trans HS.2.2.2.2.2.2.2.2)) (HF.out.grew (hbw.trans HS.2.2.2.2.2.2.2.2)) hx hzs hxs).mono ?_
     rintro e w1 ⟨he, hb⟩
     rw [HM.out] at he
     subst he
     refine hK.out _ _ ?s29_7 ?r29_7
     case s29_7 => (try dsimp only); first | exact HS | exact ⟨grew_cell hb HS.1, grew_cell hb HS.2.1, grew_cell hb HS.2.2.1, grew_cell hb HS.2.2.2.1, grew_cell hb HS.2.2.2.2.1, grew_cell hb HS.2.2.2.2.2.1, grew_cell hb HS.2.2.2.2.2.2.1, grew_cell hb HS.2.2.2.2.2.2.2.1, HS.2.2.2.2.2.2.2.2.trans hb⟩
     case r29_7 =>
      clear HS
      intro HS
      clear hK K
      try simp only [Act.put, lpa, lpb, lpc]
      (refine tk (v := ?v29_8) 8 rfl (by kernel_rfl) rfl ?y29_8 HS ?_; case y29_8 => (intro w' hSw; (try dsimp only at hSw); go_simp <;> (with_reducible rfl)))
      try simp only [Act.put, lpa, lpb, lpc]
      (refine tk (v := ?v29_9) 9 rfl (by kernel_rfl) rfl ?y29_9 HS ?_; case y29_9 => (intro w' hSw; (try dsimp only at hSw); go_simp <;> (with_reducible rfl)))
      try simp only [Act.put, lpa, lpb, lpc]
      refine sk 10 rfl (by kernel_rfl) rfl HS ?_
      try simp only [Act.put, lpa, lpb, lpc]
      refine sk 11 rfl (by kernel_rfl) rfl HS ?_
      try simp only [Act.put, lpa, lpb, lpc]
      refine sk 12 rfl (by kernel_rfl) rfl HS ?_
      try simp only [Act.put, lpa, lpb, lpc]
      refine sk 13 rfl (by kernel_rfl) rfl HS ?_
      try simp only [Act.put, lpa, lpb, lpc]
      refine sk 14 rfl (by kernel_rfl) rfl HS ?_
      try simp only [Act.put, lpa, lpb, lpc]
      refine sk 15 rfl (by kernel_rfl) rfl HS ?_
      try simp only [Act.put, lpa, lpb, lpc]
      refine sk 16 rfl (by kernel_rfl) rfl HS ?_
      try simp only [Act.put, lpa, lpb, lpc]
      refine sk 17 rfl (by kernel_rfl) rfl HS ?_
      try simp only [Act.put, lpa, lpb, lpc]
      refine sk 18 rfl (by kernel_rfl) rfl HS ?_
      try simp only [Act.put, lpa, lpb, lpc]
      (refine tk (v := ?v29_19) 19 rfl (by kernel_rfl) rfl ?y29_19 HS ?_; case y29_19 => (intro w' hSw; (try dsimp only at hSw); go_simp <;> (with_reducible rfl)))
      try simp only [Act.put, lpa, lpb, lpc]
      (refine tk (v := ?v29_20) 20 rfl (by kernel_rfl) rfl ?y29_20 HS ?_; case y29_20 => (intro w' hSw; (try dsimp only at hSw); go_simp <;> (with_reducible rfl)))
      try simp only [Act.put, lpa, lpb, lpc]
      refine sk 21 rfl (by kernel_rfl) rfl HS ?_
      try simp only [Act.put, lpa, lpb, lpc]
      refine sk 22 rfl (by kernel_rfl) rfl HS ?_
      try simp only [Act.put, lpa, lpb, lpc]
      refine sk 23 rfl (by kernel_rfl) rfl HS ?_
      try simp only [Act.put, lpa, lpb, lpc]
      refine sk 24 rfl (by kernel_rfl) rfl HS ?_
      try simp only [Act.put, lpa, lpb, lpc]
      refine sk 25 rfl (by kernel_rfl) rfl HS ?_
      try simp only [Act.put, lpa, lpb, lpc]
      refine sk 26 rfl (by kernel_rfl) rfl HS ?_
      try simp only [Act.put, lpa, lpb, lpc]
      refine sk 27 rfl (by kernel_rfl) rfl HS ?_
      try simp only [Act.put, lpa, lpb, lpc]
      refine sk 28 rfl (by kernel_rfl) rfl HS ?_
      try simp only [Act.put, lpa, lpb, lpc]
      refine sk 29 rfl (by kernel_rfl) rfl HS ?_
      try simp only [Act.put, lpa, lpb, lpc]
      refine sk 30 rfl (by kernel_rfl) rfl HS ?_
      try simp only [Act.put, lpa, lpb, lpc]
      refine sk 31 rfl (by kernel_rfl) rfl HS ?_
      try simp only [Act.put, lpa, lpb, lpc]
      refine sk 32 rfl (by kernel_rfl) rfl HS ?_
      try simp only [Act.put, lpa, lpb, lpc]
      refine sk 33 rfl (by kernel_rfl) rfl HS ?_
      try simp only [Act.put, lpa, lpb, lpc]
      refine sk 34 rfl (by kernel_rfl) rfl HS ?_
      try simp only [Act.put, lpa, lpb, lpc]
      refine sk 35 rfl (by kernel_rfl) rfl HS ?_
      try simp only [Act.put, lpa, lpb, lpc]
      refine sk 36 rfl (by kernel_rfl) rfl HS ?_
      try simp only [Act.put, lpa, lpb, lpc]
      refine sk 37 rfl (by kernel_rfl) rfl HS ?_
      try simp only [Act.put, lpa, lpb, lpc]
      refine sk 38 rfl (by kernel_rfl) rfl HS ?_
      try simp only [Act.put, lpa, lpb, lpc]
      (refine tk (v := ?v29_39) 39 rfl (by kernel_rfl) rfl ?y29_39 HS ?_; case y29_39 => (intro w' hSw; (try dsimp only at hSw); go_simp <;> (with_reducible rfl)))
      try simp only [Act.put, lpa, lpb, lpc]
      refine wpAnyH_done (by kernel_rfl) ?_ _
      refine NoPanic.normal ?_
      go_wp2
      go_ret
      refine ⟨ret_bool ?_, hbw.trans HS.2.2.2.2.2.2.2.2⟩
      exact (show stoB s = false by unfold stoB; rw [all_not hxk.out (show stoAt s _ x = false by unfold stoAt; rw [HM.out]; simp)]; rfl).symm
   ·
    have hk0 := hk
    by_cases hge : s.next ≤ x.id
    ·
     have hk0 := hk
     have hgd : ¬ (x.id < s.next) := by omega
     have hk00 := hk
     go_wp2_with fail
     refine wp_region_noPanic ?_
     refine wp_region_held_drew (S := (fun w' => (w'.cell? ⟨w.heap.size, 0, none⟩ = some (.slice sa m sc) ∧ w'.cell? ⟨w.heap.size, 1, none⟩ = some (.slice (some ⟨b1, o1, none⟩) n ca) ∧ w'.cell? ⟨w.heap.size, 2, none⟩ = some (.int .i64 s.next) ∧ w'.cell? ⟨b1, o1 + k * 5, none⟩ = some (.int .i64 x.id) ∧ w'.cell? ⟨b1, o1 + k * 5 + 1, none⟩ = some (.int .i64 x.owner) ∧ w'.cell? ⟨b1, o1 + k * 5 + 2, none⟩ = some (.bool x.shared) ∧ w'.cell? ⟨b1, o1 + k * 5 + 3, none⟩ = some (.int .i64 x.link) ∧ w'.cell? ⟨b1, o1 + k * 5 + 4, none⟩ = some (.slice fa x.attrs.length fc) ∧ Grew wr w'))) (by kernel_rfl) ?h30_S ?h30_r
     case h30_S => exact ⟨grew_cell (Grew.refl _).drew ex0, grew_cell (Grew.refl _).drew ex1, grew_cell (Grew.refl _).drew ex2, grew_cell (Grew.refl _).drew c0, grew_cell (Grew.refl _).drew c1, grew_cell (Grew.refl _).drew c2, grew_cell (Grew.refl _).drew c3, grew_cell (Grew.refl _).drew c4, (Grew.refl _).drew⟩
     case h30_r =>
      intro HS
      (refine tk (v := ?v30_0) 0 rfl (by kernel_rfl) rfl ?y30_0 HS ?_; case y30_0 => (intro w' hSw; (try dsimp only at hSw); go_simp <;> (with_reducible rfl)))
      try simp only [Act.put, lpa, lpb, lpc]
      (refine tk (v := ?v30_1) 1 rfl (by kernel_rfl) rfl ?y30_1 HS ?_; case y30_1 => (intro w' hSw; (try dsimp only at hSw); go_simp <;> (with_reducible rfl)))
      try simp only [Act.put, lpa, lpb, lpc]
      (refine tk (v := ?v30_2) 2 rfl (by kernel_rfl) rfl ?y30_2 HS ?_; case y30_2 => (intro w' hSw; (try dsimp only at hSw); go_simp <;> (with_reducible rfl)))
      try simp only [Act.put, lpa, lpb, lpc]
      (refine tk (v := ?v30_3) 3 rfl (by kernel_rfl) rfl ?y30_3 HS ?_; case y30_3 => (intro w' hSw; (try dsimp only at hSw); go_simp <;> (with_reducible rfl)))
      try simp only [Act.put, lpa, lpb, lpc]
      (refine tk (v := ?v30_4) 4 rfl (by kernel_rfl) rfl ?y30_4 HS ?_; case y30_4 => (intro w' hSw; (try dsimp only at hSw); go_simp <;> (with_reducible rfl)))
      try simp only [Act.put, lpa, lpb, lpc]
      (refine tk (v := ?v30_5) 5 rfl (by kernel_rfl) rfl ?y30_5 HS ?_; case y30_5 => (intro w' hSw; (try dsimp only at hSw); go_simp <;> (with_reducible rfl)))
      try simp only [Act.put, lpa, lpb, lpc]
      (refine tk (v := ?v30_6) 6 rfl (by kernel_rfl) rfl ?y30_6 HS ?_; case y30_6 => (intro w' hSw; (try dsimp only at hSw); go_simp <;> (with_reducible rfl)))
      try simp only [Act.put, lpa, lpb, lpc]
      refine cl 7 rfl (by kernel_rfl) (fun K hK => ?_)
      go_simp
      go_at_call 87
      refine (specIsValidFile _ m s.schema x ⟨x.id, x.owner, x.shared, x.link, .slice fa x.attrs.length fc⟩ _ (HS0.out.grew (hbw.trans HS.2.2.2.2.2.2.2.2)) (HF.out.grew (hbw.trans HS.2.2.2.2.2.2.2.2)) hx hzs hxs).mono ?_
      rintro e w1 ⟨he, hb⟩
      rw [HM.out] at he
      subst he
      refine hK.out _ _ ?s30_7 ?r30_7
      case s30_7 => (try dsimp only); first | exact HS | exact ⟨grew_cell hb HS.1, grew_cell hb HS.2.1, grew_cell hb HS.2.2.1, grew_cell hb HS.2.2.2.1, grew_cell hb HS.2.2.2.2.1, grew_cell hb HS.2.2.2.2.2.1, grew_cell hb HS.2.2.2.2.2.2.1, grew_cell hb HS.2.2.2.2.2.2.2.1, HS.2.2.2.2.2.2.2.2.trans hb⟩
      case r30_7 =>
       clear HS
       intro HS
       clear hK K
       try simp only [Act.put, lpa, lpb, lpc]
       (refine tk (v := ?v30_8) 8 rfl (by kernel_rfl) rfl ?y30_8 HS ?_; case y30_8 => (intro w' hSw; (try dsimp only at hSw); go_simp <;> (with_reducible rfl)))
       try simp only [Act.put, lpa, lpb, lpc]
       (refine tk (v := ?v30_9) 9 rfl (by kernel_rfl) rfl ?y30_9 HS ?_; case y30_9 => (intro w' hSw; (try dsimp only at hSw); go_simp <;> (with_reducible rfl)))
       try simp only [Act.put, lpa, lpb, lpc]
       (refine tk (v := ?v30_10) 10 rfl (by kernel_rfl) rfl ?y30_10 HS ?_; case y30_10 => (intro w' hSw; (try dsimp only at hSw); go_simp <;> (with_reducible rfl)))
       try simp only [Act.put, lpa, lpb, lpc]
       (refine tk (v := ?v30_11) 11 rfl (by kernel_rfl) rfl ?y30_11 HS ?_; case y30_11 => (intro w' hSw; (try dsimp only at hSw); go_simp <;> (with_reducible rfl)))
       try simp only [Act.put, lpa, lpb, lpc]
       (refine tk (v := ?v30_12) 12 rfl (by kernel_rfl) rfl ?y30_12 HS ?_; case y30_12 => (intro w' hSw; (try dsimp only at hSw); go_simp <;> (with_reducible rfl)))
       try simp only [Act.put, lpa, lpb, lpc]
       (refine tk (v := ?v30_13) 13 rfl (by kernel_rfl) rfl ?y30_13 HS ?_; case y30_13 => (intro w' hSw; (try dsimp only at hSw); go_simp <;> (with_reducible rfl)))
       try simp only [Act.put, lpa, lpb, lpc]
       (refine tk (v := ?v30_14) 14 rfl (by kernel_rfl) rfl ?y30_14 HS ?_; case y30_14 => (intro w' hSw; (try dsimp only at hSw); go_simp <;> (with_reducible rfl)))
       try simp only [Act.put, lpa, lpb, lpc]
       (refine tk (v := ?v30_15) 15 rfl (by kernel_rfl) rfl ?y30_15 HS ?_; case y30_15 => (intro w' hSw; (try dsimp only at hSw); go_simp <;> (with_reducible rfl)))
       try simp only [Act.put, lpa, lpb, lpc]
       (refine tk (v := ?v30_16) 16 rfl (by kernel_rfl) rfl ?y30_16 HS ?_; case y30_16 => (intro w' hSw; (try dsimp only at hSw); go_simp <;> (with_reducible rfl)))
       try simp only [Act.put, lpa, lpb, lpc]
       (refine tk (v := ?v30_17) 17 rfl (by kernel_rfl) rfl ?y30_17 HS ?_; case y30_17 => (intro w' hSw; (try dsimp only at hSw); go_simp <;> (with_reducible rfl)))
       try simp only [Act.put, lpa, lpb, lpc]
       (refine tk (v := ?v30_18) 18 rfl (by kernel_rfl) rfl ?y30_18 HS ?_; case y30_18 => (intro w' hSw; (try dsimp only at hSw); go_simp <;> (with_reducible rfl)))
       try simp only [Act.put, lpa, lpb, lpc]
       (refine tk (v := ?v30_19) 19 rfl (by kernel_rfl) rfl ?y30_19 HS ?_; case y30_19 => (intro w' hSw; (try dsimp only at hSw); go_simp <;> (with_reducible rfl)))
       try simp only [Act.put, lpa, lpb, lpc]
       (refine tk (v := ?v30_20) 20 rfl (by kernel_rfl) rfl ?y30_20 HS ?_; case y30_20 => (intro w' hSw; (try dsimp only at hSw); go_simp <;> (with_reducible rfl)))
       try simp only [Act.put, lpa, lpb, lpc]
       refine sk 21 rfl (by kernel_rfl) rfl HS ?_
       try simp only [Act.put, lpa, lpb, lpc]
       refine sk 22 rfl (by kernel_rfl) rfl HS ?_
       try simp only [Act.put, lpa, lpb, lpc]
       refine sk 23 rfl (by kernel_rfl) rfl HS ?_
       try simp only [Act.put, lpa, lpb, lpc]
       refine sk 24 rfl (by kernel_rfl) rfl HS ?_
       try simp only [Act.put, lpa, lpb, lpc]
       refine sk 25 rfl (by kernel_rfl) rfl HS ?_
       try simp only [Act.put, lpa, lpb, lpc]
       refine sk 26 rfl (by kernel_rfl) rfl HS ?_
       try simp only [Act.put, lpa, lpb, lpc]
       refine sk 27 rfl (by kernel_rfl) rfl HS ?_
       try simp only [Act.put, lpa, lpb, lpc]
       refine sk 28 rfl (by kernel_rfl) rfl HS ?_
       try simp only [Act.put, lpa, lpb, lpc]
       refine sk 29 rfl (by kernel_rfl) rfl HS ?_
       try simp only [Act.put, lpa, lpb, lpc]
       refine sk 30 rfl (by kernel_rfl) rfl HS ?_
       try simp only [Act.put, lpa, lpb, lpc]
       refine sk 31 rfl (by kernel_rfl) rfl HS ?_
       try simp only [Act.put, lpa, lpb, lpc]
       refine sk 32 rfl (by kernel_rfl) rfl HS ?_
       try simp only [Act.put, lpa, lpb, lpc]
       refine sk 33 rfl (by kernel_rfl) rfl HS ?_
       try simp only [Act.put, lpa, lpb, lpc]
       refine sk 34 rfl (by kernel_rfl) rfl HS ?_
       try simp only [Act.put, lpa, lpb, lpc]
       refine sk 35 rfl (by kernel_rfl) rfl HS ?_
       try simp only [Act.put, lpa, lpb, lpc]
       refine sk 36 rfl (by kernel_rfl) rfl HS ?_
       try simp only [Act.put, lpa, lpb, lpc]
       refine sk 37 rfl (by kernel_rfl) rfl HS ?_
       try simp only [Act.put, lpa, lpb, lpc]
       refine sk 38 rfl (by kernel_rfl) rfl HS ?_
       try simp only [Act.put, lpa, lpb, lpc]
       (refine tk (v := ?v30_39) 39 rfl (by kernel_rfl) rfl ?y30_39 HS ?_; case y30_39 => (intro w' hSw; (try dsimp only at hSw); go_simp <;> (with_reducible rfl)))
       try simp only [Act.put, lpa, lpb, lpc]
       refine wpAnyH_done (by kernel_rfl) ?_ _
       refine NoPanic.normal ?_
       go_wp2
       go_ret
       refine ⟨ret_bool ?_, hbw.trans HS.2.2.2.2.2.2.2.2⟩
       exact (show stoB s = false by unfold stoB; rw [all_not hxk.out (show stoAt s _ x = false by unfold stoAt; rw [HM.out, decide_eq_false (show ¬ (x.id < s.next) by omega)]; rfl)]; rfl).symm
    ·
     have hk0 := hk
     have hgd : x.id < s.next := by omega
     have hgb : decide (s.next ≤ x.id) = false := decide_eq_false hge
     by_cases hk1 : ¬ (0 < k)
     ·
      have hk0 := hk
      have hk00 := hk
      go_wp2_with fail
      refine wp_region_noPanic ?_
      refine wp_region_held_drew (S := (fun w' => (w'.cell? ⟨w.heap.size, 0, none⟩ = some (.slice sa m sc) ∧ w'.cell? ⟨w.heap.size, 1, none⟩ = some (.slice (some ⟨b1, o1, none⟩) n ca) ∧ w'.cell? ⟨w.heap.size, 2, none⟩ = some (.int .i64 s.next) ∧ w'.cell? ⟨b1, o1 + k * 5, none⟩ = some (.int .i64 x.id) ∧ w'.cell? ⟨b1, o1 + k * 5 + 1, none⟩ = some (.int .i64 x.owner) ∧ w'.cell? ⟨b1, o1 + k * 5 + 2, none⟩ = some (.bool x.shared) ∧ w'.cell? ⟨b1, o1 + k * 5 + 3, none⟩ = some (.int .i64 x.link) ∧ w'.cell? ⟨b1, o1 + k * 5 + 4, none⟩ = some (.slice fa x.attrs.length fc) ∧ Grew wr w'))) (by kernel_rfl) ?h31_S ?h31_r
      case h31_S => exact ⟨grew_cell (Grew.refl _).drew ex0, grew_cell (Grew.refl _).drew ex1, grew_cell (Grew.refl _).drew ex2, grew_cell (Grew.refl _).drew c0, grew_cell (Grew.refl _).drew c1, grew_cell (Grew.refl _).drew c2, grew_cell (Grew.refl _).drew c3, grew_cell (Grew.refl _).drew c4, (Grew.refl _).drew⟩
      case h31_r =>
       intro HS
       (refine tk (v := ?v31_0) 0 rfl (by kernel_rfl) rfl ?y31_0 HS ?_; case y31_0 => (intro w' hSw; (try dsimp only at hSw); go_simp <;> (with_reducible rfl)))
       try simp only [Act.put, lpa, lpb, lpc]
       (refine tk (v := ?v31_1) 1 rfl (by kernel_rfl) rfl ?y31_1 HS ?_; case y31_1 => (intro w' hSw; (try dsimp only at hSw); go_simp <;> (with_reducible rfl)))
       try simp only [Act.put, lpa, lpb, lpc]
       (refine tk (v := ?v31_2) 2 rfl (by kernel_rfl) rfl ?y31_2 HS ?_; case y31_2 => (intro w' hSw; (try dsimp only at hSw); go_simp <;> (with_reducible rfl)))
       try simp only [Act.put, lpa, lpb, lpc]
       (refine tk (v := ?v31_3) 3 rfl (by kernel_rfl) rfl ?y31_3 HS ?_; case y31_3 => (intro w' hSw; (try dsimp only at hSw); go_simp <;> (with_reducible rfl)))
       try simp only [Act.put, lpa, lpb, lpc]
       (refine tk (v := ?v31_4) 4 rfl (by kernel_rfl) rfl ?y31_4 HS ?_; case y31_4 => (intro w' hSw; (try dsimp only at hSw); go_simp <;> (with_reducible rfl)))
       try simp only [Act.put, lpa, lpb, lpc]
       (refine tk (v := ?v31_5) 5 rfl (by kernel_rfl) rfl ?y31_5 HS ?_; case y31_5 => (intro w' hSw; (try dsimp only at hSw); go_simp <;> (with_reducible rfl)))
       try simp only [Act.put, lpa, lpb, lpc]
       (refine tk (v := ?v31_6) 6 rfl (by kernel_rfl) rfl ?y31_6 HS ?_; case y31_6 => (intro w' hSw; (try dsimp only at hSw); go_simp <;> (with_reducible rfl)))
       try simp only [Act.put, lpa, lpb, lpc]
       refine cl 7 rfl (by kernel_rfl) (fun K hK => ?_)
       go_simp
       go_at_call 87
       refine (specIsValidFile _ m s.schema x ⟨x.id, x.owner, x.shared, x.link, .slice fa x.attrs.length fc⟩ _ (HS0.out.grew (hbw.trans HS.2.2.2.2.2.2.2.2)) (HF.out.grew (hbw.trans HS.2.2.2.2.2.2.2.2)) hx hzs hxs).mono ?_
       rintro e w1 ⟨he, hb⟩
       rw [HM.out] at he
       subst he
       refine hK.out _ _ ?s31_7 ?r31_7
       case s31_7 => (try dsimp only); first | exact HS | exact ⟨grew_cell hb HS.1, grew_cell hb HS.2.1, grew_cell hb HS.2.2.1, grew_cell hb HS.2.2.2.1, grew_cell hb HS.2.2.2.2.1, grew_cell hb HS.2.2.2.2.2.1, grew_cell hb HS.2.2.2.2.2.2.1, grew_cell hb HS.2.2.2.2.2.2.2.1, HS.2.2.2.2.2.2.2.2.trans hb⟩
       case r31_7 =>
        clear HS
        intro HS
        clear hK K
        try simp only [Act.put, lpa, lpb, lpc]
        (refine tk (v := ?v31_8) 8 rfl (by kernel_rfl) rfl ?y31_8 HS ?_; case y31_8 => (intro w' hSw; (try dsimp only at hSw); go_simp <;> (with_reducible rfl)))
        try simp only [Act.put, lpa, lpb, lpc]
        (refine tk (v := ?v31_9) 9 rfl (by kernel_rfl) rfl ?y31_9 HS ?_; case y31_9 => (intro w' hSw; (try dsimp only at hSw); go_simp <;> (with_reducible rfl)))
        try simp only [Act.put, lpa, lpb, lpc]
        (refine tk (v := ?v31_10) 10 rfl (by kernel_rfl) rfl ?y31_10 HS ?_; case y31_10 => (intro w' hSw; (try dsimp only at hSw); go_simp <;> (with_reducible rfl)))
        try simp only [Act.put, lpa, lpb, lpc]
        (refine tk (v := ?v31_11) 11 rfl (by kernel_rfl) rfl ?y31_11 HS ?_; case y31_11 => (intro w' hSw; (try dsimp only at hSw); go_simp <;> (with_reducible rfl)))
        try simp only [Act.put, lpa, lpb, lpc]
        (refine tk (v := ?v31_12) 12 rfl (by kernel_rfl) rfl ?y31_12 HS ?_; case y31_12 => (intro w' hSw; (try dsimp only at hSw); go_simp <;> (with_reducible rfl)))
        try simp only [Act.put, lpa, lpb, lpc]
        (refine tk (v := ?v31_13) 13 rfl (by kernel_rfl) rfl ?y31_13 HS ?_; case y31_13 => (intro w' hSw; (try dsimp only at hSw); go_simp <;> (with_reducible rfl)))
        try simp only [Act.put, lpa, lpb, lpc]
        (refine tk (v := ?v31_14) 14 rfl (by kernel_rfl) rfl ?y31_14 HS ?_; case y31_14 => (intro w' hSw; (try dsimp only at hSw); go_simp <;> (with_reducible rfl)))
        try simp only [Act.put, lpa, lpb, lpc]
        (refine tk (v := ?v31_15) 15 rfl (by kernel_rfl) rfl ?y31_15 HS ?_; case y31_15 => (intro w' hSw; (try dsimp only at hSw); go_simp <;> (with_reducible rfl)))
        try simp only [Act.put, lpa, lpb, lpc]
        (refine tk (v := ?v31_16) 16 rfl (by kernel_rfl) rfl ?y31_16 HS ?_; case y31_16 => (intro w' hSw; (try dsimp only at hSw); go_simp <;> (with_reducible rfl)))
        try simp only [Act.put, lpa, lpb, lpc]
        (refine tk (v := ?v31_17) 17 rfl (by kernel_rfl) rfl ?y31_17 HS ?_; case y31_17 => (intro w' hSw; (try dsimp only at hSw); go_simp <;> (with_reducible rfl)))
        try simp only [Act.put, lpa, lpb, lpc]
        (refine tk (v := ?v31_18) 18 rfl (by kernel_rfl) rfl ?y31_18 HS ?_; case y31_18 => (intro w' hSw; (try dsimp only at hSw); go_simp <;> (with_reducible rfl)))
        try simp only [Act.put, lpa, lpb, lpc]
        (refine tk (v := ?v31_19) 19 rfl (by kernel_rfl) rfl ?y31_19 HS ?_; case y31_19 => (intro w' hSw; (try dsimp only at hSw); go_simp <;> (with_reducible rfl)))
        try simp only [Act.put, lpa, lpb, lpc]
        (refine tk (v := ?v31_20) 20 rfl (by kernel_rfl) rfl ?y31_20 HS ?_; case y31_20 => (intro w' hSw; (try dsimp only at hSw); go_simp <;> (with_reducible rfl)))
        try simp only [Act.put, lpa, lpb, lpc]
        (refine tk (v := ?v31_21) 21 rfl (by kernel_rfl) rfl ?y31_21 HS ?_; case y31_21 => (intro w' hSw; (try dsimp only at hSw); go_simp <;> (with_reducible rfl)))
        try simp only [Act.put, lpa, lpb, lpc]
        (refine tk (v := ?v31_22) 22 rfl (by kernel_rfl) rfl ?y31_22 HS ?_; case y31_22 => (intro w' hSw; (try dsimp only at hSw); go_simp <;> (with_reducible rfl)))
        try simp only [Act.put, lpa, lpb, lpc]
        (refine tk (v := ?v31_23) 23 rfl (by kernel_rfl) rfl ?y31_23 HS ?_; case y31_23 => (intro w' hSw; (try dsimp only at hSw); go_simp <;> (with_reducible rfl)))
        try simp only [Act.put, lpa, lpb, lpc]
        refine sk 24 rfl (by kernel_rfl) rfl HS ?_
        try simp only [Act.put, lpa, lpb, lpc]
        refine sk 25 rfl (by kernel_rfl) rfl HS ?_
        try simp only [Act.put, lpa, lpb, lpc]
        refine sk 26 rfl (by kernel_rfl) rfl HS ?_
        try simp only [Act.put, lpa, lpb, lpc]
        refine sk 27 rfl (by kernel_rfl) rfl HS ?_
        try simp only [Act.put, lpa, lpb, lpc]
        refine sk 28 rfl (by kernel_rfl) rfl HS ?_
        try simp only [Act.put, lpa, lpb, lpc]
        refine sk 29 rfl (by kernel_rfl) rfl HS ?_
        try simp only [Act.put, lpa, lpb, lpc]
        refine sk 30 rfl (by kernel_rfl) rfl HS ?_
        try simp only [Act.put, lpa, lpb, lpc]
        refine sk 31 rfl (by kernel_rfl) rfl HS ?_
        try simp only [Act.put, lpa, lpb, lpc]
        refine sk 32 rfl (by kernel_rfl) rfl HS ?_
        try simp only [Act.put, lpa, lpb, lpc]
        refine sk 33 rfl (by kernel_rfl) rfl HS ?_
        try simp only [Act.put, lpa, lpb, lpc]
        refine sk 34 rfl (by kernel_rfl) rfl HS ?_
        try simp only [Act.put, lpa, lpb, lpc]
        refine sk 35 rfl (by kernel_rfl) rfl HS ?_
        try simp only [Act.put, lpa, lpb, lpc]
        refine sk 36 rfl (by kernel_rfl) rfl HS ?_
        try simp only [Act.put, lpa, lpb, lpc]
        refine sk 37 rfl (by kernel_rfl) rfl HS ?_
        try simp only [Act.put, lpa, lpb, lpc]
        (refine tk (v := ?v31_38) 38 rfl (by kernel_rfl) rfl ?y31_38 HS ?_; case y31_38 => (intro w' hSw; (try dsimp only at hSw); go_simp <;> (with_reducible rfl)))
        try simp only [Act.put, lpa, lpb, lpc]
        (refine tk (v := ?v31_39) 39 rfl (by kernel_rfl) rfl ?y31_39 HS ?_; case y31_39 => (intro w' hSw; (try dsimp only at hSw); go_simp <;> (with_reducible rfl)))
        try simp only [Act.put, lpa, lpb, lpc]
        refine wpAnyH_done (by kernel_rfl) ?_ _
        refine NoPanic.normal ?_
        go_wp2
        go_roundw
        case rel => exact ⟨k + 1, by omega, by go_num, Lib.hid (upTo_snoc hsame.out hxk.out (by show stoAt s _ x = true; unfold stoAt; rw [HM.out, decide_eq_true (show x.id < s.next by omega), Nat.eq_zero_of_not_pos hk1]; rfl)), hbel.trans HS.2.2.2.2.2.2.2.2⟩
        case measure => simp [intOf]; omega
     ·
      have hk0 := hk
      obtain ⟨p, rfl⟩ : ∃ p, k = p + 1 := ⟨k - 1, by omega⟩
      obtain ⟨b2, o2, q5, hab, hypk, d0, d1, d2, d3, d4⟩ := (hra.grew hbw).getP5 (show p < n by omega)
      obtain ⟨rfl, rfl⟩ : b1 = b2 ∧ o1 = o2 := by cases hab; exact ⟨rfl, rfl⟩
      clear hab
      obtain ⟨y, hyk, hyr⟩ := HA.out.get hypk.out
      obtain ⟨qi, qo, qsh, ql, qa⟩ := q5
      have hyi := hyr.1
      simp only at hyi d0
      subst hyi
      clear d1 d2 d3 d4 hyr
      have hpp : ((p + 1 : Nat) : Int) - 1 = (p : Int) := by omega
      have hp0 : (0 : Int) ≤ (p : Int) + 1 := by omega
      have hp1 : (p : Int) < (n : Int) := by omega
      have hp2 : (p : Int) + 1 < (n : Int) := by omega
      have hwp : IntKind.i64.wrap (p : Int) = (p : Int) := by simp [IntKind.wrap, IntKind.bits, IntKind.signed]; omega
      have HP := Lib.hid (prevOk_succ (lt := fun (y x : Fl) => decide (y.id < x.id)) (x := x) hyk.out)
      by_cases hid : x.id ≤ y.id
      ·
       have hk0 := hk
       have hil : ¬ (y.id < x.id) := by omega
       have hk00 := hk
       go_wp2_with fail
       refine wp_region_noPanic ?_
       refine wp_region_held_drew (S := (fun w' => (w'.cell? ⟨w.heap.size, 0, none⟩ = some (.slice sa m sc) ∧ w'.cell? ⟨w.heap.size, 1, none⟩ = some (.slice (some ⟨b1, o1, none⟩) n ca) ∧ w'.cell? ⟨w.heap.size, 2, none⟩ = some (.int .i64 s.next) ∧ w'.cell? ⟨b1, o1 + (p + 1) * 5, none⟩ = some (.int .i64 x.id) ∧ w'.cell? ⟨b1, o1 + (p + 1) * 5 + 1, none⟩ = some (.int .i64 x.owner) ∧ w'.cell? ⟨b1, o1 + (p + 1) * 5 + 2, none⟩ = some (.bool x.shared) ∧ w'.cell? ⟨b1, o1 + (p + 1) * 5 + 3, none⟩ = some (.int .i64 x.link) ∧ w'.cell? ⟨b1, o1 + (p + 1) * 5 + 4, none⟩ = some (.slice fa x.attrs.length fc) ∧ w'.cell? ⟨b1, o1 + p * 5, none⟩ = some (.int .i64 y.id) ∧ Grew wr w'))) (by kernel_rfl) ?h32_S ?h32_r
       case h32_S => exact ⟨grew_cell (Grew.refl _).drew ex0, grew_cell (Grew.refl _).drew ex1, grew_cell (Grew.refl _).drew ex2, grew_cell (Grew.refl _).drew c0, grew_cell (Grew.refl _).drew c1, grew_cell (Grew.refl _).drew c2, grew_cell (Grew.refl _).drew c3, grew_cell (Grew.refl _).drew c4, grew_cell (Grew.refl _).drew d0, (Grew.refl _).drew⟩
       case h32_r =>
        intro HS
        (refine tk (v := ?v32_0) 0 rfl (by kernel_rfl) rfl ?y32_0 HS ?_; case y32_0 => (intro w' hSw; (try dsimp only at hSw); go_simp <;> (with_reducible rfl)))
        try simp only [Act.put, lpa, lpb, lpc]
        (refine tk (v := ?v32_1) 1 rfl (by kernel_rfl) rfl ?y32_1 HS ?_; case y32_1 => (intro w' hSw; (try dsimp only at hSw); go_simp <;> (with_reducible rfl)))
        try simp only [Act.put, lpa, lpb, lpc]
        (refine tk (v := ?v32_2) 2 rfl (by kernel_rfl) rfl ?y32_2 HS ?_; case y32_2 => (intro w' hSw; (try dsimp only at hSw); go_simp <;> (with_reducible rfl)))
        try simp only [Act.put, lpa, lpb, lpc]
        (refine tk (v := ?v32_3) 3 rfl (by kernel_rfl) rfl ?y32_3 HS ?_; case y32_3 => (intro w' hSw; (try dsimp only at hSw); go_simp <;> (with_reducible rfl)))
        try simp only [Act.put, lpa, lpb, lpc]
        (refine tk (v := ?v32_4) 4 rfl (by kernel_rfl) rfl ?y32_4 HS ?_; case y32_4 => (intro w' hSw; (try dsimp only at hSw); go_simp <;> (with_reducible rfl)))
        try simp only [Act.put, lpa, lpb, lpc]
        (refine tk (v := ?v32_5) 5 rfl (by kernel_rfl) rfl ?y32_5 HS ?_; case y32_5 => (intro w' hSw; (try dsimp only at hSw); go_simp <;> (with_reducible rfl)))
        try simp only [Act.put, lpa, lpb, lpc]
        (refine tk (v := ?v32_6) 6 rfl (by kernel_rfl) rfl ?y32_6 HS ?_; case y32_6 => (intro w' hSw; (try dsimp only at hSw); go_simp <;> (with_reducible rfl)))
        try simp only [Act.put, lpa, lpb, lpc]
        refine cl 7 rfl (by kernel_rfl) (fun K hK => ?_)
        go_simp
        go_at_call 87
        refine (specIsValidFile _ m s.schema x ⟨x.id, x.owner, x.shared, x.link, .slice fa x.attrs.length fc⟩ _ (HS0.out.grew (hbw.trans HS.2.2.2.2.2.2.2.2.2)) (HF.out.grew (hbw.trans HS.2.2.2.2.2.2.2.2.2)) hx hzs hxs).mono ?_
        rintro e w1 ⟨he, hb⟩
        rw [HM.out] at he
        subst he
        refine hK.out _ _ ?s32_7 ?r32_7
        case s32_7 => (try dsimp only); first | exact HS | exact ⟨grew_cell hb HS.1, grew_cell hb HS.2.1, grew_cell hb HS.2.2.1, grew_cell hb HS.2.2.2.1, grew_cell hb HS.2.2.2.2.1, grew_cell hb HS.2.2.2.2.2.1, grew_cell hb HS.2.2.2.2.2.2.1, grew_cell hb HS.2.2.2.2.2.2.2.1, grew_cell hb HS.2.2.2.2.2.2.2.2.1, HS.2.2.2.2.2.2.2.2.2.trans hb⟩
        case r32_7 =>
         clear HS
         intro HS
         clear hK K
         try simp only [Act.put, lpa, lpb, lpc]
         (refine tk (v := ?v32_8) 8 rfl (by kernel_rfl) rfl ?y32_8 HS ?_; case y32_8 => (intro w' hSw; (try dsimp only at hSw); go_simp <;> (with_reducible rfl)))
         try simp only [Act.put, lpa, lpb, lpc]
         (refine tk (v := ?v32_9) 9 rfl (by kernel_rfl) rfl ?y32_9 HS ?_; case y32_9 => (intro w' hSw; (try dsimp only at hSw); go_simp <;> (with_reducible rfl)))
         try simp only [Act.put, lpa, lpb, lpc]
         (refine tk (v := ?v32_10) 10 rfl (by kernel_rfl) rfl ?y32_10 HS ?_; case y32_10 => (intro w' hSw; (try dsimp only at hSw); go_simp <;> (with_reducible rfl)))
         try simp only [Act.put, lpa, lpb, lpc]
         (refine tk (v := ?v32_11) 11 rfl (by kernel_rfl) rfl ?y32_11 HS ?_; case y32_11 => (intro w' hSw; (try dsimp only at hSw); go_simp <;> (with_reducible rfl)))
         try simp only [Act.put, lpa, lpb, lpc]
         (refine tk (v := ?v32_12) 12 rfl (by kernel_rfl) rfl ?y32_12 HS ?_; case y32_12 => (intro w' hSw; (try dsimp only at hSw); go_simp <;> (with_reducible rfl)))
         try simp only [Act.put, lpa, lpb, lpc]
         (refine tk (v := ?v32_13) 13 rfl (by kernel_rfl) rfl ?y32_13 HS ?_; case y32_13 => (intro w' hSw; (try dsimp only at hSw); go_simp <;> (with_reducible rfl)))
         try simp only [Act.put, lpa, lpb, lpc]
         (refine tk (v := ?v32_14) 14 rfl (by kernel_rfl) rfl ?y32_14 HS ?_; case y32_14 => (intro w' hSw; (try dsimp only at hSw); go_simp <;> (with_reducible rfl)))
         try simp only [Act.put, lpa, lpb, lpc]
         (refine tk (v := ?v32_15) 15 rfl (by kernel_rfl) rfl ?y32_15 HS ?_; case y32_15 => (intro w' hSw; (try dsimp only at hSw); go_simp <;> (with_reducible rfl)))
         try simp only [Act.put, lpa, lpb, lpc]
         (refine tk (v := ?v32_16) 16 rfl (by kernel_rfl) rfl ?y32_16 HS ?_; case y32_16 => (intro w' hSw; (try dsimp only at hSw); go_simp <;> (with_reducible rfl)))
         try simp only [Act.put, lpa, lpb, lpc]
         (refine tk (v := ?v32_17) 17 rfl (by kernel_rfl) rfl ?y32_17 HS ?_; case y32_17 => (intro w' hSw; (try dsimp only at hSw); go_simp <;> (with_reducible rfl)))
         try simp only [Act.put, lpa, lpb, lpc]
         (refine tk (v := ?v32_18) 18 rfl (by kernel_rfl) rfl ?y32_18 HS ?_; case y32_18 => (intro w' hSw; (try dsimp only at hSw); go_simp <;> (with_reducible rfl)))
         try simp only [Act.put, lpa, lpb, lpc]
         (refine tk (v := ?v32_19) 19 rfl (by kernel_rfl) rfl ?y32_19 HS ?_; case y32_19 => (intro w' hSw; (try dsimp only at hSw); go_simp <;> (with_reducible rfl)))
         try simp only [Act.put, lpa, lpb, lpc]
         (refine tk (v := ?v32_20) 20 rfl (by kernel_rfl) rfl ?y32_20 HS ?_; case y32_20 => (intro w' hSw; (try dsimp only at hSw); go_simp <;> (with_reducible rfl)))
         try simp only [Act.put, lpa, lpb, lpc]
         (refine tk (v := ?v32_21) 21 rfl (by kernel_rfl) rfl ?y32_21 HS ?_; case y32_21 => (intro w' hSw; (try dsimp only at hSw); go_simp <;> (with_reducible rfl)))
         try simp only [Act.put, lpa, lpb, lpc]
         (refine tk (v := ?v32_22) 22 rfl (by kernel_rfl) rfl ?y32_22 HS ?_; case y32_22 => (intro w' hSw; (try dsimp only at hSw); go_simp <;> (with_reducible rfl)))
         try simp only [Act.put, lpa, lpb, lpc]
         (refine tk (v := ?v32_23) 23 rfl (by kernel_rfl) rfl ?y32_23 HS ?_; case y32_23 => (intro w' hSw; (try dsimp only at hSw); go_simp <;> (with_reducible rfl)))
         try simp only [Act.put, lpa, lpb, lpc]
         (refine tk (v := ?v32_24) 24 rfl (by kernel_rfl) rfl ?y32_24 HS ?_; case y32_24 => (intro w' hSw; (try dsimp only at hSw); go_simp <;> (with_reducible rfl)))
         try simp only [Act.put, lpa, lpb, lpc]
         (refine tk (v := ?v32_25) 25 rfl (by kernel_rfl) rfl ?y32_25 HS ?_; case y32_25 => (intro w' hSw; (try dsimp only at hSw); go_simp <;> (with_reducible rfl)))
         try simp only [Act.put, lpa, lpb, lpc]
         (refine tk (v := ?v32_26) 26 rfl (by kernel_rfl) rfl ?y32_26 HS ?_; case y32_26 => (intro w' hSw; (try dsimp only at hSw); go_simp <;> (with_reducible rfl)))
         try simp only [Act.put, lpa, lpb, lpc]
         (refine tk (v := ?v32_27) 27 rfl (by kernel_rfl) rfl ?y32_27 HS ?_; case y32_27 => (intro w' hSw; (try dsimp only at hSw); go_simp <;> (with_reducible rfl)))
         try simp only [Act.put, lpa, lpb, lpc]
         (refine tk (v := ?v32_28) 28 rfl (by kernel_rfl) rfl ?y32_28 HS ?_; case y32_28 => (intro w' hSw; (try dsimp only at hSw); go_simp <;> (with_reducible rfl)))
         try simp only [Act.put, lpa, lpb, lpc]
         (refine tk (v := ?v32_29) 29 rfl (by kernel_rfl) rfl ?y32_29 HS ?_; case y32_29 => (intro w' hSw; (try dsimp only at hSw); go_simp <;> (with_reducible rfl)))
         try simp only [Act.put, lpa, lpb, lpc]
         (refine tk (v := ?v32_30) 30 rfl (by kernel_rfl) rfl ?y32_30 HS ?_; case y32_30 => (intro w' hSw; (try dsimp only at hSw); go_simp <;> (with_reducible rfl)))
         try simp only [Act.put, lpa, lpb, lpc]
         (refine tk (v := ?v32_31) 31 rfl (by kernel_rfl) rfl ?y32_31 HS ?_; case y32_31 => (intro w' hSw; (try dsimp only at hSw); go_simp <;> (with_reducible rfl)))
         try simp only [Act.put, lpa, lpb, lpc]
         (refine tk (v := ?v32_32) 32 rfl (by kernel_rfl) rfl ?y32_32 HS ?_; case y32_32 => (intro w' hSw; (try dsimp only at hSw); go_simp <;> (with_reducible rfl)))
         try simp only [Act.put, lpa, lpb, lpc]
         (refine tk (v := ?v32_33) 33 rfl (by kernel_rfl) rfl ?y32_33 HS ?_; case y32_33 => (intro w' hSw; (try dsimp only at hSw); go_simp <;> (with_reducible rfl)))
         try simp only [Act.put, lpa, lpb, lpc]
         (refine tk (v := ?v32_34) 34 rfl (by kernel_rfl) rfl ?y32_34 HS ?_; case y32_34 => (intro w' hSw; (try dsimp only at hSw); go_simp <;> (with_reducible rfl)))
         try simp only [Act.put, lpa, lpb, lpc]
         (refine tk (v := ?v32_35) 35 rfl (by kernel_rfl) rfl ?y32_35 HS ?_; case y32_35 => (intro w' hSw; (try dsimp only at hSw); go_simp <;> (with_reducible rfl)))
         try simp only [Act.put, lpa, lpb, lpc]
         (refine tk (v := ?v32_36) 36 rfl (by kernel_rfl) rfl ?y32_36 HS ?_; case y32_36 => (intro w' hSw; (try dsimp only at hSw); go_simp <;> (with_reducible rfl)))
         try simp only [Act.put, lpa, lpb, lpc]
         (refine tk (v := ?v32_37) 37 rfl (by kernel_rfl) rfl ?y32_37 HS ?_; case y32_37 => (intro w' hSw; (try dsimp only at hSw); go_simp <;> (with_reducible rfl)))
         try simp only [Act.put, lpa, lpb, lpc]
         (refine tk (v := ?v32_38) 38 rfl (by kernel_rfl) rfl ?y32_38 HS ?_; case y32_38 => (intro w' hSw; (try dsimp only at hSw); go_simp <;> (with_reducible rfl)))
         try simp only [Act.put, lpa, lpb, lpc]
         (refine tk (v := ?v32_39) 39 rfl (by kernel_rfl) rfl ?y32_39 HS ?_; case y32_39 => (intro w' hSw; (try dsimp only at hSw); go_simp <;> (with_reducible rfl)))
         try simp only [Act.put, lpa, lpb, lpc]
         refine wpAnyH_done (by kernel_rfl) ?_ _
         refine NoPanic.normal ?_
         go_wp2
         go_ret
         refine ⟨ret_bool ?_, hbw.trans HS.2.2.2.2.2.2.2.2.2⟩
         exact (show stoB s = false by unfold stoB; rw [all_not hxk.out (show stoAt s _ x = false by unfold stoAt; rw [HM.out, decide_eq_true (show x.id < s.next by omega), HP.out]; exact decide_eq_false (show ¬ (y.id < x.id) by omega))]; rfl).symm
      ·
       have hk0 := hk
       have hil : y.id < x.id := by omega
       have hk00 := hk
       go_wp2_with fail
       refine wp_region_noPanic ?_
       refine wp_region_held_drew (S := (fun w' => (w'.cell? ⟨w.heap.size, 0, none⟩ = some (.slice sa m sc) ∧ w'.cell? ⟨w.heap.size, 1, none⟩ = some (.slice (some ⟨b1, o1, none⟩) n ca) ∧ w'.cell? ⟨w.heap.size, 2, none⟩ = some (.int .i64 s.next) ∧ w'.cell? ⟨b1, o1 + (p + 1) * 5, none⟩ = some (.int .i64 x.id) ∧ w'.cell? ⟨b1, o1 + (p + 1) * 5 + 1, none⟩ = some (.int .i64 x.owner) ∧ w'.cell? ⟨b1, o1 + (p + 1) * 5 + 2, none⟩ = some (.bool x.shared) ∧ w'.cell? ⟨b1, o1 + (p + 1) * 5 + 3, none⟩ = some (.int .i64 x.link) ∧ w'.cell? ⟨b1, o1 + (p + 1) * 5 + 4, none⟩ = some (.slice fa x.attrs.length fc) ∧ w'.cell? ⟨b1, o1 + p * 5, none⟩ = some (.int .i64 y.id) ∧ Grew wr w'))) (by kernel_rfl) ?h33_S ?h33_r
       case h33_S => exact ⟨grew_cell (Grew.refl _).drew ex0, grew_cell (Grew.refl _).drew ex1, grew_cell (Grew.refl _).drew ex2, grew_cell (Grew.refl _).drew c0, grew_cell (Grew.refl _).drew c1, grew_cell (Grew.refl _).drew c2, grew_cell (Grew.refl _).drew c3, grew_cell (Grew.refl _).drew c4, grew_cell (Grew.refl _).drew d0, (Grew.refl _).drew⟩
       case h33_r =>
        intro HS
        (refine tk (v := ?v33_0) 0 rfl (by kernel_rfl) rfl ?y33_0 HS ?_; case y33_0 => (intro w' hSw; (try dsimp only at hSw); go_simp <;> (with_reducible rfl)))
        try simp only [Act.put, lpa, lpb, lpc]
        (refine tk (v := ?v33_1) 1 rfl (by kernel_rfl) rfl ?y33_1 HS ?_; case y33_1 => (intro w' hSw; (try dsimp only at hSw); go_simp <;> (with_reducible rfl)))
        try simp only [Act.put, lpa, lpb, lpc]
        (refine tk (v := ?v33_2) 2 rfl (by kernel_rfl) rfl ?y33_2 HS ?_; case y33_2 => (intro w' hSw; (try dsimp only at hSw); go_simp <;> (with_reducible rfl)))
        try simp only [Act.put, lpa, lpb, lpc]
        (refine tk (v := ?v33_3) 3 rfl (by kernel_rfl) rfl ?y33_3 HS ?_; case y33_3 => (intro w' hSw; (try dsimp only at hSw); go_simp <;> (with_reducible rfl)))
        try simp only [Act.put, lpa, lpb, lpc]
        (refine tk (v := ?v33_4) 4 rfl (by kernel_rfl) rfl ?y33_4 HS ?_; case y33_4 => (intro w' hSw; (try dsimp only at hSw); go_simp <;> (with_reducible rfl)))
        try simp only [Act.put, lpa, lpb, lpc]
        (refine tk (v := ?v33_5) 5 rfl (by kernel_rfl) rfl ?y33_5 HS ?_; case y33_5 => (intro w' hSw; (try dsimp only at hSw); go_simp <;> (with_reducible rfl)))
        try simp only [Act.put, lpa, lpb, lpc]
        (refine tk (v := ?v33_6) 6 rfl (by kernel_rfl) rfl ?y33_6 HS ?_; case y33_6 => (intro w' hSw; (try dsimp only at hSw); go_simp <;> (with_reducible rfl)))
        try simp only [Act.put, lpa, lpb, lpc]
        refine cl 7 rfl (by kernel_rfl) (fun K hK => ?_)
        go_simp
        go_at_call 87
        refine (specIsValidFile _ m s.schema x ⟨x.id, x.owner, x.shared, x.link, .slice fa x.attrs.length fc⟩ _ (HS0.out.grew (hbw.trans HS.2.2.2.2.2.2.2.2.2)) (HF.out.grew (hbw.trans HS.2.2.2.2.2.2.2.2.2)) hx hzs hxs).mono ?_
        rintro e w1 ⟨he, hb⟩
        rw [HM.out] at he
        subst he
        refine hK.out _ _ ?s33_7 ?r33_7
        case s33_7 => (try dsimp only); first | exact HS | exact ⟨grew_cell hb HS.1, grew_cell hb HS.2.1, grew_cell hb HS.2.2.1, grew_cell hb HS.2.2.2.1, grew_cell hb HS.2.2.2.2.1, grew_cell hb HS.2.2.2.2.2.1, grew_cell hb HS.2.2.2.2.2.2.1, grew_cell hb HS.2.2.2.2.2.2.2.1, grew_cell hb HS.2.2.2.2.2.2.2.2.1, HS.2.2.2.2.2.2.2.2.2.trans hb⟩
        case r33_7 =>
         clear HS
         intro HS
         clear hK K
         try simp only [Act.put, lpa, lpb, lpc]
         (refine tk (v := ?v33_8) 8 rfl (by kernel_rfl) rfl ?y33_8 HS ?_; case y33_8 => (intro w' hSw; (try dsimp only at hSw); go_simp <;> (with_reducible rfl)))
         try simp only [Act.put, lpa, lpb, lpc]
         (refine tk (v := ?v33_9) 9 rfl (by kernel_rfl) rfl ?y33_9 HS ?_; case y33_9 => (intro w' hSw; (try dsimp only at hSw); go_simp <;> (with_reducible rfl)))
         try simp only [Act.put, lpa, lpb, lpc]
         (refine tk (v := ?v33_10) 10 rfl (by kernel_rfl) rfl ?y33_10 HS ?_; case y33_10 => (intro w' hSw; (try dsimp only at hSw); go_simp <;> (with_reducible rfl)))
         try simp only [Act.put, lpa, lpb, lpc]
         (refine tk (v := ?v33_11) 11 rfl (by kernel_rfl) rfl ?y33_11 HS ?_; case y33_11 => (intro w' hSw; (try dsimp only at hSw); go_simp <;> (with_reducible rfl)))
         try simp only [Act.put, lpa, lpb, lpc]
         (refine tk (v := ?v33_12) 12 rfl (by kernel_rfl) rfl ?y33_12 HS ?_; case y33_12 => (intro w' hSw; (try dsimp only at hSw); go_simp <;> (with_reducible rfl)))
         try simp only [Act.put, lpa, lpb, lpc]
         (refine tk (v := ?v33_13) 13 rfl (by kernel_rfl) rfl ?y33_13 HS ?_; case y33_13 => (intro w' hSw; (try dsimp only at hSw); go_simp <;> (with_reducible rfl)))
         try simp only [Act.put, lpa, lpb, lpc]
         (refine tk (v := ?v33_14) 14 rfl (by kernel_rfl) rfl ?y33_14 HS ?_; case y33_14 => (intro w' hSw; (try dsimp only at hSw); go_simp <;> (with_reducible rfl)))
         try simp only [Act.put, lpa, lpb, lpc]
         (refine tk (v := ?v33_15) 15 rfl (by kernel_rfl) rfl ?y33_15 HS ?_; case y33_15 => (intro w' hSw; (try dsimp only at hSw); go_simp <;> (with_reducible rfl)))
         try simp only [Act.put, lpa, lpb, lpc]
         (refine tk (v := ?v33_16) 16 rfl (by kernel_rfl) rfl ?y33_16 HS ?_; case y33_16 => (intro w' hSw; (try dsimp only at hSw); go_simp <;> (with_reducible rfl)))
         try simp only [Act.put, lpa, lpb, lpc]
         (refine tk (v := ?v33_17) 17 rfl (by kernel_rfl) rfl ?y33_17 HS ?_; case y33_17 => (intro w' hSw; (try dsimp only at hSw); go_simp <;> (with_reducible rfl)))
         try simp only [Act.put, lpa, lpb, lpc]
         (refine tk (v := ?v33_18) 18 rfl (by kernel_rfl) rfl ?y33_18 HS ?_; case y33_18 => (intro w' hSw; (try dsimp only at hSw); go_simp <;> (with_reducible rfl)))
         try simp only [Act.put, lpa, lpb, lpc]
         (refine tk (v := ?v33_19) 19 rfl (by kernel_rfl) rfl ?y33_19 HS ?_; case y33_19 => (intro w' hSw; (try dsimp only at hSw); go_simp <;> (with_reducible rfl)))
         try simp only [Act.put, lpa, lpb, lpc]
         (refine tk (v := ?v33_20) 20 rfl (by kernel_rfl) rfl ?y33_20 HS ?_; case y33_20 => (intro w' hSw; (try dsimp only at hSw); go_simp <;> (with_reducible rfl)))
         try simp only [Act.put, lpa, lpb, lpc]
         (refine tk (v := ?v33_21) 21 rfl (by kernel_rfl) rfl ?y33_21 HS ?_; case y33_21 => (intro w' hSw; (try dsimp only at hSw); go_simp <;> (with_reducible rfl)))
         try simp only [Act.put, lpa, lpb, lpc]
         (refine tk (v := ?v33_22) 22 rfl (by kernel_rfl) rfl ?y33_22 HS ?_; case y33_22 => (intro w' hSw; (try dsimp only at hSw); go_simp <;> (with_reducible rfl)))
         try simp only [Act.put, lpa, lpb, lpc]
         (refine tk (v := ?v33_23) 23 rfl (by kernel_rfl) rfl ?y33_23 HS ?_; case y33_23 => (intro w' hSw; (try dsimp only at hSw); go_simp <;> (with_reducible rfl)))
         try simp only [Act.put, lpa, lpb, lpc]
         (refine tk (v := ?v33_24) 24 rfl (by kernel_rfl) rfl ?y33_24 HS ?_; case y33_24 => (intro w' hSw; (try dsimp only at hSw); go_simp <;> (with_reducible rfl)))
         try simp only [Act.put, lpa, lpb, lpc]
         (refine tk (v := ?v33_25) 25 rfl (by kernel_rfl) rfl ?y33_25 HS ?_; case y33_25 => (intro w' hSw; (try dsimp only at hSw); go_simp <;> (with_reducible rfl)))
         try simp only [Act.put, lpa, lpb, lpc]
         (refine tk (v := ?v33_26) 26 rfl (by kernel_rfl) rfl ?y33_26 HS ?_; case y33_26 => (intro w' hSw; (try dsimp only at hSw); go_simp <;> (with_reducible rfl)))
         try simp only [Act.put, lpa, lpb, lpc]
         (refine tk (v := ?v33_27) 27 rfl (by kernel_rfl) rfl ?y33_27 HS ?_; case y33_27 => (intro w' hSw; (try dsimp only at hSw); go_simp <;> (with_reducible rfl)))
         try simp only [Act.put, lpa, lpb, lpc]
         (refine tk (v := ?v33_28) 28 rfl (by kernel_rfl) rfl ?y33_28 HS ?_; case y33_28 => (intro w' hSw; (try dsimp only at hSw); go_simp <;> (with_reducible rfl)))
         try simp only [Act.put, lpa, lpb, lpc]
         (refine tk (v := ?v33_29) 29 rfl (by kernel_rfl) rfl ?y33_29 HS ?_; case y33_29 => (intro w' hSw; (try dsimp only at hSw); go_simp <;> (with_reducible rfl)))
         try simp only [Act.put, lpa, lpb, lpc]
         (refine tk (v := ?v33_30) 30 rfl (by kernel_rfl) rfl ?y33_30 HS ?_; case y33_30 => (intro w' hSw; (try dsimp only at hSw); go_simp <;> (with_reducible rfl)))
         try simp only [Act.put, lpa, lpb, lpc]
         (refine tk (v := ?v33_31) 31 rfl (by kernel_rfl) rfl ?y33_31 HS ?_; case y33_31 => (intro w' hSw; (try dsimp only at hSw); go_simp <;> (with_reducible rfl)))
         try simp only [Act.put, lpa, lpb, lpc]
         (refine tk (v := ?v33_32) 32 rfl (by kernel_rfl) rfl ?y33_32 HS ?_; case y33_32 => (intro w' hSw; (try dsimp only at hSw); go_simp <;> (with_reducible rfl)))
         try simp only [Act.put, lpa, lpb, lpc]
         (refine tk (v := ?v33_33) 33 rfl (by kernel_rfl) rfl ?y33_33 HS ?_; case y33_33 => (intro w' hSw; (try dsimp only at hSw); go_simp <;> (with_reducible rfl)))
         try simp only [Act.put, lpa, lpb, lpc]
         (refine tk (v := ?v33_34) 34 rfl (by kernel_rfl) rfl ?y33_34 HS ?_; case y33_34 => (intro w' hSw; (try dsimp only at hSw); go_simp <;> (with_reducible rfl)))
         try simp only [Act.put, lpa, lpb, lpc]
         (refine tk (v := ?v33_35) 35 rfl (by kernel_rfl) rfl ?y33_35 HS ?_; case y33_35 => (intro w' hSw; (try dsimp only at hSw); go_simp <;> (with_reducible rfl)))
         try simp only [Act.put, lpa, lpb, lpc]
         (refine tk (v := ?v33_36) 36 rfl (by kernel_rfl) rfl ?y33_36 HS ?_; case y33_36 => (intro w' hSw; (try dsimp only at hSw); go_simp <;> (with_reducible rfl)))
         try simp only [Act.put, lpa, lpb, lpc]
         (refine tk (v := ?v33_37) 37 rfl (by kernel_rfl) rfl ?y33_37 HS ?_; case y33_37 => (intro w' hSw; (try dsimp only at hSw); go_simp <;> (with_reducible rfl)))
         try simp only [Act.put, lpa, lpb, lpc]
         (refine tk (v := ?v33_38) 38 rfl (by kernel_rfl) rfl ?y33_38 HS ?_; case y33_38 => (intro w' hSw; (try dsimp only at hSw); go_simp <;> (with_reducible rfl)))
         try simp only [Act.put, lpa, lpb, lpc]
         (refine tk (v := ?v33_39) 39 rfl (by kernel_rfl) rfl ?y33_39 HS ?_; case y33_39 => (intro w' hSw; (try dsimp only at hSw); go_simp <;> (with_reducible rfl)))
         try simp only [Act.put, lpa, lpb, lpc]
         refine wpAnyH_done (by kernel_rfl) ?_ _
         refine NoPanic.normal ?_
         go_wp2
         go_roundw
         case rel => exact ⟨p + 1 + 1, by omega, by go_num, Lib.hid (upTo_snoc hsame.out hxk.out (by show stoAt s _ x = true; unfold stoAt; rw [HM.out, decide_eq_true (show x.id < s.next by omega), HP.out]; exact decide_eq_true (show y.id < x.id by omega))), hbel.trans HS.2.2.2.2.2.2.2.2.2⟩
         case measure => simp [intOf]; omega
  ·
   obtain rfl : k = n := by omega
   have hy := Lib.hid (all_up HX.out hsame.out)
   have ex0 := grew_cell hbel x0
   have ex1 := grew_cell hbel x1
   have ex2 := grew_cell hbel x2
   have hc_bs : bs = false ∨ bs = true := by cases bs <;> simp
   have hc_bn : bn = false ∨ bn = true := by cases bn <;> simp
   rcases hc_bs with rfl | rfl
   ·
    have hk0 := hk
    go_wp2_with (first | (go_at_call 89; refine (l01In _ _ _ _).mono ?_; rintro e w' ⟨he, rfl⟩; rw [HI.out] at he; subst he) | (go_at_call 88; refine (specIsValidSchema _ m s.schema _ (HS0.out.grew hbw) hx hzs).mono ?_; rintro e w9 ⟨he, hb9⟩; rw [HC.out] at he; subst he; have z1 := grew_cell hb9 ex1; have z2 := grew_cell hb9 ex2))
    go_ret
    refine ⟨ret_bool ?_, hbw.trans hb9⟩
    unfold stoB; rw [hy.out, HI.out, HC.out, HX.out]; simp
   ·
    by_cases h12 : (k : Int) ≤ 12
    ·
     rcases hc_bn with rfl | rfl
     ·
      have hk0 := hk
      go_wp2_with (first | (go_at_call 89; refine (l01In _ _ _ _).mono ?_; rintro e w' ⟨he, rfl⟩; rw [HI.out] at he; subst he) | (go_at_call 88; refine (specIsValidSchema _ m s.schema _ (HS0.out.grew hbw) hx hzs).mono ?_; rintro e w9 ⟨he, hb9⟩; rw [HC.out] at he; subst he; have z1 := grew_cell hb9 ex1; have z2 := grew_cell hb9 ex2))
      go_ret
      refine ⟨ret_bool ?_, hbw.trans hb9⟩
      unfold stoB; rw [hy.out, HI.out, HC.out, HX.out]; simp <;> omega
     ·
      have hk0 := hk
      go_wp2_with (first | (go_at_call 89; refine (l01In _ _ _ _).mono ?_; rintro e w' ⟨he, rfl⟩; rw [HI.out] at he; subst he) | (go_at_call 88; refine (specIsValidSchema _ m s.schema _ (HS0.out.grew hbw) hx hzs).mono ?_; rintro e w9 ⟨he, hb9⟩; rw [HC.out] at he; subst he; have z1 := grew_cell hb9 ex1; have z2 := grew_cell hb9 ex2))
      go_ret
      refine ⟨ret_bool ?_, hbw.trans hb9⟩
      unfold stoB; rw [hy.out, HI.out, HC.out, HX.out]; simp <;> omega
    ·
     have hk0 := hk
     go_wp2_with (first | (go_at_call 89; refine (l01In _ _ _ _).mono ?_; rintro e w' ⟨he, rfl⟩; rw [HI.out] at he; subst he) | (go_at_call 88; refine (specIsValidSchema _ m s.schema _ (HS0.out.grew hbw) hx hzs).mono ?_; rintro e w9 ⟨he, hb9⟩; rw [HC.out] at he; subst he; have z1 := grew_cell hb9 ex1; have z2 := grew_cell hb9 ex2))
     go_ret
     refine ⟨ret_bool ?_, hbw.trans hb9⟩
     unfold stoB; rw [hy.out, HI.out, HC.out, HX.out]; simp <;> omega
set_option maxRecDepth 100000 in
set_option maxHeartbeats 4000000 in
theorem implIsValidStore (s : St) (p : PS) (w : World) (hs : St.R w s p) (hz : s.sz ≤ 4000000) :
  Calls Tryz.prog 112 #[p.v] w fun e w' => e = .returned (.bool (stoB s)) ∧ Grew w w' := by
 obtain ⟨p_q, p_r, p_n⟩ := p
 obtain ⟨hsq, hsr, hsn⟩ := hs
 simp only at hsq hsr hsn
 subst hsn
 have HZF := Lib.hid (show szAll Fl.sz s.files ≤ 4000000 by unfold St.sz at hz; omega)
 have hzs : szAll Fd.sz s.schema ≤ 4000000 := by unfold St.sz at hz; omega
 have hfl : s.files.length ≤ 4000000 := by unfold St.sz at hz; omega
 have hx : s.schema.length ≤ 4000000 := by unfold St.sz at hz; omega
 have HS0 := Lib.hid hsq
 obtain ⟨sa, sc, rfl, hsc, hsr0⟩ := hsq
 clear hsr0 hsc
 obtain ⟨ps, ⟨a, ca, rfl, hca, hra⟩, hall⟩ := hsr
 have HA := Lib.hid hall
 clear hall
 generalize hn : s.files.length = n at hfl hra hca
 generalize hm : s.schema.length = m at hx HS0
 have HX := Lib.hid hn
 obtain ⟨bn, hbn⟩ : ∃ b, inB s.next 1 61 = b := ⟨_, rfl⟩
 obtain ⟨bs, hbs⟩ : ∃ b, schB s.schema = b := ⟨_, rfl⟩
 have HI := Lib.hid hbn
 have HC := Lib.hid hbs
 clear hbn hbs
 have hg0 := (Grew.refl w).alloc (.cells #[.slice sa m sc, .slice a n ca, .int .i64 s.next] 27)
 have x0 : (w.alloc (.cells #[.slice sa m sc, .slice a n ca, .int .i64 s.next] 27)).cell? ⟨w.heap.size, 0, none⟩ = some (.slice sa m sc) := by simp
 have x1 : (w.alloc (.cells #[.slice sa m sc, .slice a n ca, .int .i64 s.next] 27)).cell? ⟨w.heap.size, 1, none⟩ = some (.slice a n ca) := by simp
 have x2 : (w.alloc (.cells #[.slice sa m sc, .slice a n ca, .int .i64 s.next] 27)).cell? ⟨w.heap.size, 2, none⟩ = some (.int .i64 s.next) := by simp
 change Calls Tryz.prog _ #[.agg #[.slice sa m sc, .slice a n ca, .int .i64 s.next]] w _
 clear hn hm hz
 go_enter Tryz.func112, Tryz.ntmps112
 go_wp2
 go_loopw [8] (fun i wr => ∃ k : Nat, k ≤ n ∧ i = .int .i64 k ∧ Hid (upTo (stoAt s) s.files k) ∧ Grew (w.alloc (.cells #[.slice sa m sc, .slice a n ca, .int .i64 s.next] 27)) wr) (fun i _ => n - (intOf i).toNat)
 case atStart => exact ⟨0, Nat.zero_le _, rfl, Lib.hid (upTo_zero _ _), Grew.refl _⟩
 case round =>
  obtain ⟨k, hk, rfl, hsame, hbel⟩ := hrel
  have hbw := hg0.trans hbel
  by_cases hlt : k < n
  ·
   obtain ⟨b1, o1, p5, rfl, hpk, c0, c1, c2, c3, c4⟩ := (hra.grew hbw).getP5 hlt
   obtain ⟨x, hxk, hfr⟩ := HA.out.get hpk.out
   have hxs := fl_sz HZF.out hxk.out
   have HF := Lib.hid hfr
   obtain ⟨pi, po, psh, pl, pa⟩ := p5
   obtain ⟨h1, h2, h3, h4, h5⟩ := hfr
   simp only at h1 h2 h3 h4 h5 c0 c1 c2 c3 c4
   subst h1 h2 h3 h4
   obtain ⟨fa, fc, rfl, h6, h7⟩ := h5
   clear h6 h7
   obtain ⟨fv, hfv⟩ : ∃ b, filB s.schema x = b := ⟨_, rfl⟩
   have HM := Lib.hid hfv
   clear hfv
   have hcm : fv = false ∨ fv = true := by cases fv <;> simp
   have ex0 := grew_cell hbel x0
   have ex1 := grew_cell hbel x1
   have ex2 := grew_cell hbel x2
   rcases hcm with rfl | rfl
   ·
    have hk0 := hk
    have hk00 := hk
    go_wp2_with fail
    have hal := (Grew.refl wr).alloc (.cells #[.int .i64 x.id, .int .i64 x.owner, .bool x.shared, .int .i64 x.link, .slice fa x.attrs.length fc] 79)
    have g0 : (wr.alloc (.cells #[.int .i64 x.id, .int .i64 x.owner, .bool x.shared, .int .i64 x.link, .slice fa x.attrs.length fc] 79)).cell? ⟨wr.heap.size, 0, none⟩ = some (.int .i64 x.id) := by simp
    have g1 : (wr.alloc (.cells #[.int .i64 x.id, .int .i64 x.owner, .bool x.shared, .int .i64 x.link, .slice fa x.attrs.length fc] 79)).cell? ⟨wr.heap.size, 1, none⟩ = some (.int .i64 x.owner) := by simp
    have g2 : (wr.alloc (.cells #[.int .i64 x.id, .int .i64 x.owner, .bool x.shared, .int .i64 x.link, .slice fa x.attrs.length fc] 79)).cell? ⟨wr.heap.size, 2, none⟩ = some (.bool x.shared) := by simp
    have g3 : (wr.alloc (.cells #[.int .i64 x.id, .int .i64 x.owner, .bool x.shared, .int .i64 x.link, .slice fa x.attrs.length fc] 79)).cell? ⟨wr.heap.size, 3, none⟩ = some (.int .i64 x.link) := by simp
    have g4 : (wr.alloc (.cells #[.int .i64 x.id, .int .i64 x.owner, .bool x.shared, .int .i64 x.link, .slice fa x.attrs.length fc] 79)).cell? ⟨wr.heap.size, 4, none⟩ = some (.slice fa x.attrs.length fc) := by simp
    have ax0 := grew_cell hal ex0
    have ax1 := grew_cell hal ex1
    have ax2 := grew_cell hal ex2
    refine wp_region_noPanic ?_
    refine wp_region_held_drew (S := (fun w' => (w'.cell? ⟨w.heap.size, 0, none⟩ = some (.slice sa m sc) ∧ w'.cell? ⟨w.heap.size, 1, none⟩ = some (.slice (some ⟨b1, o1, none⟩) n ca) ∧ w'.cell? ⟨w.heap.size, 2, none⟩ = some (.int .i64 s.next) ∧ w'.cell? ⟨wr.heap.size, 0, none⟩ = some (.int .i64 x.id) ∧ w'.cell? ⟨wr.heap.size, 1, none⟩ = some (.int .i64 x.owner) ∧ w'.cell? ⟨wr.heap.size, 2, none⟩ = some (.bool x.shared) ∧ w'.cell? ⟨wr.heap.size, 3, none⟩ = some (.int .i64 x.link) ∧ w'.cell? ⟨wr.heap.size, 4, none⟩ = some (.slice fa x.attrs.length fc) ∧ Grew (wr.alloc (.cells #[.int .i64 x.id, .int .i64 x.owner, .bool x.shared, .int .i64 x.link, .slice fa x.attrs.length fc] 79)) w'))) (by kernel_rfl) ?h34_S ?h34_r
    case h34_S => exact ⟨grew_cell (Grew.refl _).drew ax0, grew_cell (Grew.refl _).drew ax1, grew_cell (Grew.refl _).drew ax2, grew_cell (Grew.refl _).drew g0, grew_cell (Grew.refl _).drew g1, grew_cell (Grew.refl _).drew g2, grew_cell (Grew.refl _).drew g3, grew_cell (Grew.refl _).drew g4, (Grew.refl _).drew⟩
    case h34_r =>
     intro HS
     (refine tk (v := ?v34_0) 0 rfl (by kernel_rfl) rfl ?y34_0 HS ?_; case y34_0 => (intro w' hSw; (try dsimp only at hSw); go_simp <;> (with_reducible rfl)))
     try simp only [Act.put, lpa, lpb, lpc]
     (refine tk (v := ?v34_1) 1 rfl (by kernel_rfl) rfl ?y34_1 HS ?_; case y34_1 => (intro w' hSw; (try dsimp only at hSw); go_simp <;> (with_reducible rfl)))
     try simp only [Act.put, lpa, lpb, lpc]
     (refine tk (v := ?v34_2) 2 rfl (by kernel_rfl) rfl ?y34_2 HS ?_; case y34_2 => (intro w' hSw; (try dsimp only at hSw); go_simp <;> (with_reducible rfl)))
     try simp only [Act.put, lpa, lpb, lpc]
     refine cl 3 rfl (by kernel_rfl) (fun K hK => ?_)
     go_simp
     go_at_call 175
     refine (implIsValidFile _ m s.schema x ⟨x.id, x.owner, x.shared, x.link, .slice fa x.attrs.length fc⟩ _ (HS0.out.grew (hbw.trans (hal.trans HS.2.2.2.2.2.2.2.2))) (HF.out.grew (hbw.trans (hal.trans HS.2.2.2.2.2.2.2.2))) hx hzs hxs).mono ?_
     rintro e w1 ⟨he, hb⟩
     rw [HM.out] at he
     subst he
     refine hK.out _ _ ?s34_3 ?r34_3
     case s34_3 => (try dsimp only); first | exact HS | exact ⟨grew_cell hb HS.1, grew_cell hb HS.2.1, grew_cell hb HS.2.2.1, grew_cell hb HS.2.2.2.1, grew_cell hb HS.2.2.2.2.1, grew_cell hb HS.2.2.2.2.2.1, grew_cell hb HS.2.2.2.2.2.2.1, grew_cell hb HS.2.2.2.2.2.2.2.1, HS.2.2.2.2.2.2.2.2.trans hb⟩
     case r34_3 =>
      clear HS
      intro HS
      clear hK K
      try simp only [Act.put, lpa, lpb, lpc]
      (refine tk (v := ?v34_4) 4 rfl (by kernel_rfl) rfl ?y34_4 HS ?_; case y34_4 => (intro w' hSw; (try dsimp only at hSw); go_simp <;> (with_reducible rfl)))
      try simp only [Act.put, lpa, lpb, lpc]
      (refine tk (v := ?v34_5) 5 rfl (by kernel_rfl) rfl ?y34_5 HS ?_; case y34_5 => (intro w' hSw; (try dsimp only at hSw); go_simp <;> (with_reducible rfl)))
      try simp only [Act.put, lpa, lpb, lpc]
      refine sk 6 rfl (by kernel_rfl) rfl HS ?_
      try simp only [Act.put, lpa, lpb, lpc]
      refine sk 7 rfl (by kernel_rfl) rfl HS ?_
      try simp only [Act.put, lpa, lpb, lpc]
      refine sk 8 rfl (by kernel_rfl) rfl HS ?_
      try simp only [Act.put, lpa, lpb, lpc]
      refine sk 9 rfl (by kernel_rfl) rfl HS ?_
      try simp only [Act.put, lpa, lpb, lpc]
      refine sk 10 rfl (by kernel_rfl) rfl HS ?_
      try simp only [Act.put, lpa, lpb, lpc]
      (refine tk (v := ?v34_11) 11 rfl (by kernel_rfl) rfl ?y34_11 HS ?_; case y34_11 => (intro w' hSw; (try dsimp only at hSw); go_simp <;> (with_reducible rfl)))
      try simp only [Act.put, lpa, lpb, lpc]
      (refine tk (v := ?v34_12) 12 rfl (by kernel_rfl) rfl ?y34_12 HS ?_; case y34_12 => (intro w' hSw; (try dsimp only at hSw); go_simp <;> (with_reducible rfl)))
      try simp only [Act.put, lpa, lpb, lpc]
      refine sk 13 rfl (by kernel_rfl) rfl HS ?_
      try simp only [Act.put, lpa, lpb, lpc]
      refine sk 14 rfl (by kernel_rfl) rfl HS ?_
      try simp only [Act.put, lpa, lpb, lpc]
      refine sk 15 rfl (by kernel_rfl) rfl HS ?_
      try simp only [Act.put, lpa, lpb, lpc]
      refine sk 16 rfl (by kernel_rfl) rfl HS ?_
      try simp only [Act.put, lpa, lpb, lpc]
      refine sk 17 rfl (by kernel_rfl) rfl HS ?_
      try simp only [Act.put, lpa, lpb, lpc]
      refine sk 18 rfl (by kernel_rfl) rfl HS ?_
      try simp only [Act.put, lpa, lpb, lpc]
      refine sk 19 rfl (by kernel_rfl) rfl HS ?_
      try simp only [Act.put, lpa, lpb, lpc]
      refine sk 20 rfl (by kernel_rfl) rfl HS ?_
      try simp only [Act.put, lpa, lpb, lpc]
      refine sk 21 rfl (by kernel_rfl) rfl HS ?_
      try simp only [Act.put, lpa, lpb, lpc]
      refine sk 22 rfl (by kernel_rfl) rfl HS ?_
      try simp only [Act.put, lpa, lpb, lpc]
      refine sk 23 rfl (by kernel_rfl) rfl HS ?_
      try simp only [Act.put, lpa, lpb, lpc]
      refine sk 24 rfl (by kernel_rfl) rfl HS ?_
      try simp only [Act.put, lpa, lpb, lpc]
      refine sk 25 rfl (by kernel_rfl) rfl HS ?_
      try simp only [Act.put, lpa, lpb, lpc]
      refine sk 26 rfl (by kernel_rfl) rfl HS ?_
      try simp only [Act.put, lpa, lpb, lpc]
      (refine tk (v := ?v34_27) 27 rfl (by kernel_rfl) rfl ?y34_27 HS ?_; case y34_27 => (intro w' hSw; (try dsimp only at hSw); go_simp <;> (with_reducible rfl)))
      try simp only [Act.put, lpa, lpb, lpc]
      refine wpAnyH_done (by kernel_rfl) ?_ _
      refine NoPanic.normal ?_
      go_wp2
      go_ret
      refine ⟨ret_bool ?_, hbw.trans (hal.trans HS.2.2.2.2.2.2.2.2)⟩
      exact (show stoB s = false by unfold stoB; rw [all_not hxk.out (show stoAt s _ x = false by unfold stoAt; rw [HM.out]; simp)]; rfl).symm
   ·
    have hk0 := hk
    by_cases hge : s.next ≤ x.id
    ·
     have hk0 := hk
     have hgd : ¬ (x.id < s.next) := by omega
     have hk00 := hk
     go_wp2_with fail
     have hal := (Grew.refl wr).alloc (.cells #[.int .i64 x.id, .int .i64 x.owner, .bool x.shared, .int .i64 x.link, .slice fa x.attrs.length fc] 79)
     have g0 : (wr.alloc (.cells #[.int .i64 x.id, .int .i64 x.owner, .bool x.shared, .int .i64 x.link, .slice fa x.attrs.length fc] 79)).cell? ⟨wr.heap.size, 0, none⟩ = some (.int .i64 x.id) := by simp
     have g1 : (wr.alloc (.cells #[.int .i64 x.id, .int .i64 x.owner, .bool x.shared, .int .i64 x.link, .slice fa x.attrs.length fc] 79)).cell? ⟨wr.heap.size, 1, none⟩ = some (.int .i64 x.owner) := by simp
     have g2 : (wr.alloc (.cells #[.int .i64 x.id, .int .i64 x.owner, .bool x.shared, .int .i64 x.link, .slice fa x.attrs.length fc] 79)).cell? ⟨wr.heap.size, 2, none⟩ = some (.bool x.shared) := by simp
     have g3 : (wr.alloc (.cells #[.int .i64 x.id, .int .i64 x.owner, .bool x.shared, .int .i64 x.link, .slice fa x.attrs.length fc] 79)).cell? ⟨wr.heap.size, 3, none⟩ = some (.int .i64 x.link) := by simp
     have g4 : (wr.alloc (.cells #[.int .i64 x.id, .int .i64 x.owner, .bool x.shared, .int .i64 x.link, .slice fa x.attrs.length fc] 79)).cell? ⟨wr.heap.size, 4, none⟩ = some (.slice fa x.attrs.length fc) := by simp
     have ax0 := grew_cell hal ex0
     have ax1 := grew_cell hal ex1
     have ax2 := grew_cell hal ex2
     refine wp_region_noPanic ?_
     refine wp_region_held_drew (S := (fun w' => (w'.cell? ⟨w.heap.size, 0, none⟩ = some (.slice sa m sc) ∧ w'.cell? ⟨w.heap.size, 1, none⟩ = some (.slice (some ⟨b1, o1, none⟩) n ca) ∧ w'.cell? ⟨w.heap.size, 2, none⟩ = some (.int .i64 s.next) ∧ w'.cell? ⟨wr.heap.size, 0, none⟩ = some (.int .i64 x.id) ∧ w'.cell? ⟨wr.heap.size, 1, none⟩ = some (.int .i64 x.owner) ∧ w'.cell? ⟨wr.heap.size, 2, none⟩ = some (.bool x.shared) ∧ w'.cell? ⟨wr.heap.size, 3, none⟩ = some (.int .i64 x.link) ∧ w'.cell? ⟨wr.heap.size, 4, none⟩ = some (.slice fa x.attrs.length fc) ∧ Grew (wr.alloc (.cells #[.int .i64 x.id, .int .i64 x.owner, .bool x.shared, .int .i64 x.link, .slice fa x.attrs.length fc] 79)) w'))) (by kernel_rfl) ?h35_S ?h35_r
     case h35_S => exact ⟨grew_cell (Grew.refl _).drew ax0, grew_cell (Grew.refl _).drew ax1, grew_cell (Grew.refl _).drew ax2, grew_cell (Grew.refl _).drew g0, grew_cell (Grew.refl _).drew g1, grew_cell (Grew.refl _).drew g2, grew_cell (Grew.refl _).drew g3, grew_cell (Grew.refl _).drew g4, (Grew.refl _).drew⟩
     case h35_r =>
      intro HS
      (refine tk (v := ?v35_0) 0 rfl (by kernel_rfl) rfl ?y35_0 HS ?_; case y35_0 => (intro w' hSw; (try dsimp only at hSw); go_simp <;> (with_reducible rfl)))
      try simp only [Act.put, lpa, lpb, lpc]
      (refine tk (v := ?v35_1) 1 rfl (by kernel_rfl) rfl ?y35_1 HS ?_; case y35_1 => (intro w' hSw; (try dsimp only at hSw); go_simp <;> (with_reducible rfl)))
      try simp only [Act.put, lpa, lpb, lpc]
      (refine tk (v := ?v35_2) 2 rfl (by kernel_rfl) rfl ?y35_2 HS ?_; case y35_2 => (intro w' hSw; (try dsimp only at hSw); go_simp <;> (with_reducible rfl)))
      try simp only [Act.put, lpa, lpb, lpc]
      refine cl 3 rfl (by kernel_rfl) (fun K hK => ?_)
      go_simp
      go_at_call 175
      refine (implIsValidFile _ m s.schema x ⟨x.id, x.owner, x.shared, x.link, .slice fa x.attrs.length fc⟩ _ (HS0.out.grew (hbw.trans (hal.trans HS.2.2.2.2.2.2.2.2))) (HF.out.grew (hbw.trans (hal.trans HS.2.2.2.2.2.2.2.2))) hx hzs hxs).mono ?_
      rintro e w1 ⟨he, hb⟩
      rw [HM.out] at he
      subst he
      refine hK.out _ _ ?s35_3 ?r35_3
      case s35_3 => (try dsimp only); first | exact HS | exact ⟨grew_cell hb HS.1, grew_cell hb HS.2.1, grew_cell hb HS.2.2.1, grew_cell hb HS.2.2.2.1, grew_cell hb HS.2.2.2.2.1, grew_cell hb HS.2.2.2.2.2.1, grew_cell hb HS.2.2.2.2.2.2.1, grew_cell hb HS.2.2.2.2.2.2.2.1, HS.2.2.2.2.2.2.2.2.trans hb⟩
      case r35_3 =>
       clear HS
       intro HS
       clear hK K
       try simp only [Act.put, lpa, lpb, lpc]
       (refine tk (v := ?v35_4) 4 rfl (by kernel_rfl) rfl ?y35_4 HS ?_; case y35_4 => (intro w' hSw; (try dsimp only at hSw); go_simp <;> (with_reducible rfl)))
       try simp only [Act.put, lpa, lpb, lpc]
       (refine tk (v := ?v35_5) 5 rfl (by kernel_rfl) rfl ?y35_5 HS ?_; case y35_5 => (intro w' hSw; (try dsimp only at hSw); go_simp <;> (with_reducible rfl)))
       try simp only [Act.put, lpa, lpb, lpc]
       (refine tk (v := ?v35_6) 6 rfl (by kernel_rfl) rfl ?y35_6 HS ?_; case y35_6 => (intro w' hSw; (try dsimp only at hSw); go_simp <;> (with_reducible rfl)))
       try simp only [Act.put, lpa, lpb, lpc]
       (refine tk (v := ?v35_7) 7 rfl (by kernel_rfl) rfl ?y35_7 HS ?_; case y35_7 => (intro w' hSw; (try dsimp only at hSw); go_simp <;> (with_reducible rfl)))
       try simp only [Act.put, lpa, lpb, lpc]
       (refine tk (v := ?v35_8) 8 rfl (by kernel_rfl) rfl ?y35_8 HS ?_; case y35_8 => (intro w' hSw; (try dsimp only at hSw); go_simp <;> (with_reducible rfl)))
       try simp only [Act.put, lpa, lpb, lpc]
       (refine tk (v := ?v35_9) 9 rfl (by kernel_rfl) rfl ?y35_9 HS ?_; case y35_9 => (intro w' hSw; (try dsimp only at hSw); go_simp <;> (with_reducible rfl)))
       try simp only [Act.put, lpa, lpb, lpc]
       (refine tk (v := ?v35_10) 10 rfl (by kernel_rfl) rfl ?y35_10 HS ?_; case y35_10 => (intro w' hSw; (try dsimp only at hSw); go_simp <;> (with_reducible rfl)))
       try simp only [Act.put, lpa, lpb, lpc]
       (refine tk (v := ?v35_11) 11 rfl (by kernel_rfl) rfl ?y35_11 HS ?_; case y35_11 => (intro w' hSw; (try dsimp only at hSw); go_simp <;> (with_reducible rfl)))
       try simp only [Act.put, lpa, lpb, lpc]
       (refine tk (v := ?v35_12) 12 rfl (by kernel_rfl) rfl ?y35_12 HS ?_; case y35_12 => (intro w' hSw; (try dsimp only at hSw); go_simp <;> (with_reducible rfl)))
       try simp only [Act.put, lpa, lpb, lpc]
       refine sk 13 rfl (by kernel_rfl) rfl HS ?_
       try simp only [Act.put, lpa, lpb, lpc]
       refine sk 14 rfl (by kernel_rfl) rfl HS ?_
       try simp only [Act.put, lpa, lpb, lpc]
       refine sk 15 rfl (by kernel_rfl) rfl HS ?_
       try simp only [Act.put, lpa, lpb, lpc]
       refine sk 16 rfl (by kernel_rfl) rfl HS ?_
       try simp only [Act.put, lpa, lpb, lpc]
       refine sk 17 rfl (by kernel_rfl) rfl HS ?_
       try simp only [Act.put, lpa, lpb, lpc]
       refine sk 18 rfl (by kernel_rfl) rfl HS ?_
       try simp only [Act.put, lpa, lpb, lpc]
       refine sk 19 rfl (by kernel_rfl) rfl HS ?_
       try simp only [Act.put, lpa, lpb, lpc]
       refine sk 20 rfl (by kernel_rfl) rfl HS ?_
       try simp only [Act.put, lpa, lpb, lpc]
       refine sk 21 rfl (by kernel_rfl) rfl HS ?_
       try simp only [Act.put, lpa, lpb, lpc]
       refine sk 22 rfl (by kernel_rfl) rfl HS ?_
       try simp only [Act.put, lpa, lpb, lpc]
       refine sk 23 rfl (by kernel_rfl) rfl HS ?_
       try simp only [Act.put, lpa, lpb, lpc]
       refine sk 24 rfl (by kernel_rfl) rfl HS ?_
       try simp only [Act.put, lpa, lpb, lpc]
       refine sk 25 rfl (by kernel_rfl) rfl HS ?_
       try simp only [Act.put, lpa, lpb, lpc]
       refine sk 26 rfl (by kernel_rfl) rfl HS ?_
       try simp only [Act.put, lpa, lpb, lpc]
       (refine tk (v := ?v35_27) 27 rfl (by kernel_rfl) rfl ?y35_27 HS ?_; case y35_27 => (intro w' hSw; (try dsimp only at hSw); go_simp <;> (with_reducible rfl)))
       try simp only [Act.put, lpa, lpb, lpc]
       refine wpAnyH_done (by kernel_rfl) ?_ _
       refine NoPanic.normal ?_
       go_wp2
       go_ret
       refine ⟨ret_bool ?_, hbw.trans (hal.trans HS.2.2.2.2.2.2.2.2)⟩
       exact (show stoB s = false by unfold stoB; rw [all_not hxk.out (show stoAt s _ x = false by unfold stoAt; rw [HM.out, decide_eq_false (show ¬ (x.id < s.next) by omega)]; rfl)]; rfl).symm
    ·
     have hk0 := hk
     have hgd : x.id < s.next := by omega
     have hgb : decide (s.next ≤ x.id) = false := decide_eq_false hge
     by_cases hk1 : ¬ (0 < k)
     ·
      have hk0 := hk
      have hk00 := hk
      go_wp2_with fail
      have hal := (Grew.refl wr).alloc (.cells #[.int .i64 x.id, .int .i64 x.owner, .bool x.shared, .int .i64 x.link, .slice fa x.attrs.length fc] 79)
      have g0 : (wr.alloc (.cells #[.int .i64 x.id, .int .i64 x.owner, .bool x.shared, .int .i64 x.link, .slice fa x.attrs.length fc] 79)).cell? ⟨wr.heap.size, 0, none⟩ = some (.int .i64 x.id) := by simp
      have g1 : (wr.alloc (.cells #[.int .i64 x.id, .int .i64 x.owner, .bool x.shared, .int .i64 x.link, .slice fa x.attrs.length fc] 79)).cell? ⟨wr.heap.size, 1, none⟩ = some (.int .i64 x.owner) := by simp
      have g2 : (wr.alloc (.cells #[.int .i64 x.id, .int .i64 x.owner, .bool x.shared, .int .i64 x.link, .slice fa x.attrs.length fc] 79)).cell? ⟨wr.heap.size, 2, none⟩ = some (.bool x.shared) := by simp
      have g3 : (wr.alloc (.cells #[.int .i64 x.id, .int .i64 x.owner, .bool x.shared, .int .i64 x.link, .slice fa x.attrs.length fc] 79)).cell? ⟨wr.heap.size, 3, none⟩ = some (.int .i64 x.link) := by simp
      have g4 : (wr.alloc (.cells #[.int .i64 x.id, .int .i64 x.owner, .bool x.shared, .int .i64 x.link, .slice fa x.attrs.length fc] 79)).cell? ⟨wr.heap.size, 4, none⟩ = some (.slice fa x.attrs.length fc) := by simp
      have ax0 := grew_cell hal ex0
      have ax1 := grew_cell hal ex1
      have ax2 := grew_cell hal ex2
      refine wp_region_noPanic ?_
      refine wp_region_held_drew (S := (fun w' => (w'.cell? ⟨w.heap.size, 0, none⟩ = some (.slice sa m sc) ∧ w'.cell? ⟨w.heap.size, 1, none⟩ = some (.slice (some ⟨b1, o1, none⟩) n ca) ∧ w'.cell? ⟨w.heap.size, 2, none⟩ = some (.int .i64 s.next) ∧ w'.cell? ⟨wr.heap.size, 0, none⟩ = some (.int .i64 x.id) ∧ w'.cell? ⟨wr.heap.size, 1, none⟩ = some (.int .i64 x.owner) ∧ w'.cell? ⟨wr.heap.size, 2, none⟩ = some (.bool x.shared) ∧ w'.cell? ⟨wr.heap.size, 3, none⟩ = some (.int .i64 x.link) ∧ w'.cell? ⟨wr.heap.size, 4, none⟩ = some (.slice fa x.attrs.length fc) ∧ Grew (wr.alloc (.cells #[.int .i64 x.id, .int .i64 x.owner, .bool x.shared, .int .i64 x.link, .slice fa x.attrs.length fc] 79)) w'))) (by kernel_rfl) ?h36_S ?h36_r
      case h36_S => exact ⟨grew_cell (Grew.refl _).drew ax0, grew_cell (Grew.refl _).drew ax1, grew_cell (Grew.refl _).drew ax2, grew_cell (Grew.refl _).drew g0, grew_cell (Grew.refl _).drew g1, grew_cell (Grew.refl _).drew g2, grew_cell (Grew.refl _).drew g3, grew_cell (Grew.refl _).drew g4, (Grew.refl _).drew⟩
      case h36_r =>
       intro HS
       (refine tk (v := ?v36_0) 0 rfl (by kernel_rfl) rfl ?y36_0 HS ?_; case y36_0 => (intro w' hSw; (try dsimp only at hSw); go_simp <;> (with_reducible rfl)))
       try simp only [Act.put, lpa, lpb, lpc]
       (refine tk (v := ?v36_1) 1 rfl (by kernel_rfl) rfl ?y36_1 HS ?_; case y36_1 => (intro w' hSw; (try dsimp only at hSw); go_simp <;> (with_reducible rfl)))
       try simp only [Act.put, lpa, lpb, lpc]
       (refine tk (v := ?v36_2) 2 rfl (by kernel_rfl) rfl ?y36_2 HS ?_; case y36_2 => (intro w' hSw; (try dsimp only at hSw); go_simp <;> (with_reducible rfl)))
       try simp only [Act.put, lpa, lpb, lpc]
       refine cl 3 rfl (by kernel_rfl) (fun K hK => ?_)
       go_simp
       go_at_call 175
       refine (implIsValidFile _ m s.schema x ⟨x.id, x.owner, x.shared, x.link, .slice fa x.attrs.length fc⟩ _ (HS0.out.grew (hbw.trans (hal.trans HS.2.2.2.2.2.2.2.2))) (HF.out.grew (hbw.trans (hal.trans HS.2.2.2.2.2.2.2.2))) hx hzs hxs).mono ?_
       rintro e w1 ⟨he, hb⟩
       rw [HM.out] at he
       subst he
       refine hK.out _ _ ?s36_3 ?r36_3
       case s36_3 => (try dsimp only); first | exact HS | exact ⟨grew_cell hb HS.1, grew_cell hb HS.2.1, grew_cell hb HS.2.2.1, grew_cell hb HS.2.2.2.1, grew_cell hb HS.2.2.2.2.1, grew_cell hb HS.2.2.2.2.2.1, grew_cell hb HS.2.2.2.2.2.2.1, grew_cell hb HS.2.2.2.2.2.2.2.1, HS.2.2.2.2.2.2.2.2.trans hb⟩
       case r36_3 =>
        clear HS
        intro HS
        clear hK K
        try simp only [Act.put, lpa, lpb, lpc]
        (refine tk (v := ?v36_4) 4 rfl (by kernel_rfl) rfl ?y36_4 HS ?_; case y36_4 => (intro w' hSw; (try dsimp only at hSw); go_simp <;> (with_reducible rfl)))
        try simp only [Act.put, lpa, lpb, lpc]
        (refine tk (v := ?v36_5) 5 rfl (by kernel_rfl) rfl ?y36_5 HS ?_; case y36_5 => (intro w' hSw; (try dsimp only at hSw); go_simp <;> (with_reducible rfl)))
        try simp only [Act.put, lpa, lpb, lpc]
        (refine tk (v := ?v36_6) 6 rfl (by kernel_rfl) rfl ?y36_6 HS ?_; case y36_6 => (intro w' hSw; (try dsimp only at hSw); go_simp <;> (with_reducible rfl)))
        try simp only [Act.put, lpa, lpb, lpc]
        (refine tk (v := ?v36_7) 7 rfl (by kernel_rfl) rfl ?y36_7 HS ?_; case y36_7 => (intro w' hSw; (try dsimp only at hSw); go_simp <;> (with_reducible rfl)))
        try simp only [Act.put, lpa, lpb, lpc]
        (refine tk (v := ?v36_8) 8 rfl (by kernel_rfl) rfl ?y36_8 HS ?_; case y36_8 => (intro w' hSw; (try dsimp only at hSw); go_simp <;> (with_reducible rfl)))
        try simp only [Act.put, lpa, lpb, lpc]
        (refine tk (v := ?v36_9) 9 rfl (by kernel_rfl) rfl ?y36_9 HS ?_; case y36_9 => (intro w' hSw; (try dsimp only at hSw); go_simp <;> (with_reducible rfl)))
        try simp only [Act.put, lpa, lpb, lpc]
        (refine tk (v := ?v36_10) 10 rfl (by kernel_rfl) rfl ?y36_10 HS ?_; case y36_10 => (intro w' hSw; (try dsimp only at hSw); go_simp <;> (with_reducible rfl)))
        try simp only [Act.put, lpa, lpb, lpc]
        (refine tk (v := ?v36_11) 11 rfl (by kernel_rfl) rfl ?y36_11 HS ?_; case y36_11 => (intro w' hSw; (try dsimp only at hSw); go_simp <;> (with_reducible rfl)))
        try simp only [Act.put, lpa, lpb, lpc]
        (refine tk (v := ?v36_12) 12 rfl (by kernel_rfl) rfl ?y36_12 HS ?_; case y36_12 => (intro w' hSw; (try dsimp only at hSw); go_simp <;> (with_reducible rfl)))
        try simp only [Act.put, lpa, lpb, lpc]
        (refine tk (v := ?v36_13) 13 rfl (by kernel_rfl) rfl ?y36_13 HS ?_; case y36_13 => (intro w' hSw; (try dsimp only at hSw); go_simp <;> (with_reducible rfl)))
        try simp only [Act.put, lpa, lpb, lpc]
        (refine tk (v := ?v36_14) 14 rfl (by kernel_rfl) rfl ?y36_14 HS ?_; case y36_14 => (intro w' hSw; (try dsimp only at hSw); go_simp <;> (with_reducible rfl)))
        try simp only [Act.put, lpa, lpb, lpc]
        (refine tk (v := ?v36_15) 15 rfl (by kernel_rfl) rfl ?y36_15 HS ?_; case y36_15 => (intro w' hSw; (try dsimp only at hSw); go_simp <;> (with_reducible rfl)))
        try simp only [Act.put, lpa, lpb, lpc]
        refine sk 16 rfl (by kernel_rfl) rfl HS ?_
        try simp only [Act.put, lpa, lpb, lpc]
        refine sk 17 rfl (by kernel_rfl) rfl HS ?_
        try simp only [Act.put, lpa, lpb, lpc]
        refine sk 18 rfl (by kernel_rfl) rfl HS ?_
        try simp only [Act.put, lpa, lpb, lpc]
        refine sk 19 rfl (by kernel_rfl) rfl HS ?_
        try simp only [Act.put, lpa, lpb, lpc]
        refine sk 20 rfl (by kernel_rfl) rfl HS ?_
        try simp only [Act.put, lpa, lpb, lpc]
        refine sk 21 rfl (by kernel_rfl) rfl HS ?_
        try simp only [Act.put, lpa, lpb, lpc]
        refine sk 22 rfl (by kernel_rfl) rfl HS ?_
        try simp only [Act.put, lpa, lpb, lpc]
        refine sk 23 rfl (by kernel_rfl) rfl HS ?_
        try simp only [Act.put, lpa, lpb, lpc]
        refine sk 24 rfl (by kernel_rfl) rfl HS ?_
        try simp only [Act.put, lpa, lpb, lpc]
        refine sk 25 rfl (by kernel_rfl) rfl HS ?_
        try simp only [Act.put, lpa, lpb, lpc]
        (refine tk (v := ?v36_26) 26 rfl (by kernel_rfl) rfl ?y36_26 HS ?_; case y36_26 => (intro w' hSw; (try dsimp only at hSw); go_simp <;> (with_reducible rfl)))
        try simp only [Act.put, lpa, lpb, lpc]
        (refine tk (v := ?v36_27) 27 rfl (by kernel_rfl) rfl ?y36_27 HS ?_; case y36_27 => (intro w' hSw; (try dsimp only at hSw); go_simp <;> (with_reducible rfl)))
        try simp only [Act.put, lpa, lpb, lpc]
        refine wpAnyH_done (by kernel_rfl) ?_ _
        refine NoPanic.normal ?_
        go_wp2
        go_roundw
        case rel => exact ⟨k + 1, by omega, by go_num, Lib.hid (upTo_snoc hsame.out hxk.out (by show stoAt s _ x = true; unfold stoAt; rw [HM.out, decide_eq_true (show x.id < s.next by omega), Nat.eq_zero_of_not_pos hk1]; rfl)), hbel.trans (hal.trans HS.2.2.2.2.2.2.2.2)⟩
        case measure => simp [intOf]; omega
     ·
      have hk0 := hk
      obtain ⟨p, rfl⟩ : ∃ p, k = p + 1 := ⟨k - 1, by omega⟩
      obtain ⟨b2, o2, q5, hab, hypk, d0, d1, d2, d3, d4⟩ := (hra.grew hbw).getP5 (show p < n by omega)
      obtain ⟨rfl, rfl⟩ : b1 = b2 ∧ o1 = o2 := by cases hab; exact ⟨rfl, rfl⟩
      clear hab
      obtain ⟨y, hyk, hyr⟩ := HA.out.get hypk.out
      obtain ⟨qi, qo, qsh, ql, qa⟩ := q5
      have hyi := hyr.1
      simp only at hyi d0
      subst hyi
      clear d1 d2 d3 d4 hyr
      have hpp : ((p + 1 : Nat) : Int) - 1 = (p : Int) := by omega
      have hp0 : (0 : Int) ≤ (p : Int) + 1 := by omega
      have hp1 : (p : Int) < (n : Int) := by omega
      have hp2 : (p : Int) + 1 < (n : Int) := by omega
      have hwp : IntKind.i64.wrap (p : Int) = (p : Int) := by simp [IntKind.wrap, IntKind.bits, IntKind.signed]; omega
      have HP := Lib.hid (prevOk_succ (lt := fun (y x : Fl) => decide (y.id < x.id)) (x := x) hyk.out)
      by_cases hid : x.id ≤ y.id
      ·
       have hk0 := hk
       have hil : ¬ (y.id < x.id) := by omega
       have hk00 := hk
       go_wp2_with fail
       have hal := (Grew.refl wr).alloc (.cells #[.int .i64 x.id, .int .i64 x.owner, .bool x.shared, .int .i64 x.link, .slice fa x.attrs.length fc] 79)
       have g0 : (wr.alloc (.cells #[.int .i64 x.id, .int .i64 x.owner, .bool x.shared, .int .i64 x.link, .slice fa x.attrs.length fc] 79)).cell? ⟨wr.heap.size, 0, none⟩ = some (.int .i64 x.id) := by simp
       have g1 : (wr.alloc (.cells #[.int .i64 x.id, .int .i64 x.owner, .bool x.shared, .int .i64 x.link, .slice fa x.attrs.length fc] 79)).cell? ⟨wr.heap.size, 1, none⟩ = some (.int .i64 x.owner) := by simp
       have g2 : (wr.alloc (.cells #[.int .i64 x.id, .int .i64 x.owner, .bool x.shared, .int .i64 x.link, .slice fa x.attrs.length fc] 79)).cell? ⟨wr.heap.size, 2, none⟩ = some (.bool x.shared) := by simp
       have g3 : (wr.alloc (.cells #[.int .i64 x.id, .int .i64 x.owner, .bool x.shared, .int .i64 x.link, .slice fa x.attrs.length fc] 79)).cell? ⟨wr.heap.size, 3, none⟩ = some (.int .i64 x.link) := by simp
       have g4 : (wr.alloc (.cells #[.int .i64 x.id, .int .i64 x.owner, .bool x.shared, .int .i64 x.link, .slice fa x.attrs.length fc] 79)).cell? ⟨wr.heap.size, 4, none⟩ = some (.slice fa x.attrs.length fc) := by simp
       have ax0 := grew_cell hal ex0
       have ax1 := grew_cell hal ex1
       have ax2 := grew_cell hal ex2
       replace d0 := grew_cell hal d0
       refine wp_region_noPanic ?_
       refine wp_region_held_drew (S := (fun w' => (w'.cell? ⟨w.heap.size, 0, none⟩ = some (.slice sa m sc) ∧ w'.cell? ⟨w.heap.size, 1, none⟩ = some (.slice (some ⟨b1, o1, none⟩) n ca) ∧ w'.cell? ⟨w.heap.size, 2, none⟩ = some (.int .i64 s.next) ∧ w'.cell? ⟨wr.heap.size, 0, none⟩ = some (.int .i64 x.id) ∧ w'.cell? ⟨wr.heap.size, 1, none⟩ = some (.int .i64 x.owner) ∧ w'.cell? ⟨wr.heap.size, 2, none⟩ = some (.bool x.shared) ∧ w'.cell? ⟨wr.heap.size, 3, none⟩ = some (.int .i64 x.link) ∧ w'.cell? ⟨wr.heap.size, 4, none⟩ = some (.slice fa x.attrs.length fc) ∧ w'.cell? ⟨b1, o1 + p * 5, none⟩ = some (.int .i64 y.id) ∧ Grew (wr.alloc (.cells #[.int .i64 x.id, .int .i64 x.owner, .bool x.shared, .int .i64 x.link, .slice fa x.attrs.length fc] 79)) w'))) (by kernel_rfl) ?h37_S ?h37_r
       case h37_S => exact ⟨grew_cell (Grew.refl _).drew ax0, grew_cell (Grew.refl _).drew ax1, grew_cell (Grew.refl _).drew ax2, grew_cell (Grew.refl _).drew g0, grew_cell (Grew.refl _).drew g1, grew_cell (Grew.refl _).drew g2, grew_cell (Grew.refl _).drew g3, grew_cell (Grew.refl _).drew g4, grew_cell (Grew.refl _).drew d0, (Grew.refl _).drew⟩
       case h37_r =>
        intro HS
        (refine tk (v := ?v37_0) 0 rfl (by kernel_rfl) rfl ?y37_0 HS ?_; case y37_0 => (intro w' hSw; (try dsimp only at hSw); go_simp <;> (with_reducible rfl)))
        try simp only [Act.put, lpa, lpb, lpc]
        (refine tk (v := ?v37_1) 1 rfl (by kernel_rfl) rfl ?y37_1 HS ?_; case y37_1 => (intro w' hSw; (try dsimp only at hSw); go_simp <;> (with_reducible rfl)))
        try simp only [Act.put, lpa, lpb, lpc]
        (refine tk (v := ?v37_2) 2 rfl (by kernel_rfl) rfl ?y37_2 HS ?_; case y37_2 => (intro w' hSw; (try dsimp only at hSw); go_simp <;> (with_reducible rfl)))
        try simp only [Act.put, lpa, lpb, lpc]
        refine cl 3 rfl (by kernel_rfl) (fun K hK => ?_)
        go_simp
        go_at_call 175
        refine (implIsValidFile _ m s.schema x ⟨x.id, x.owner, x.shared, x.link, .slice fa x.attrs.length fc⟩ _ (HS0.out.grew (hbw.trans (hal.trans HS.2.2.2.2.2.2.2.2.2))) (HF.out.grew (hbw.trans (hal.trans HS.2.2.2.2.2.2.2.2.2))) hx hzs hxs).mono ?_
        rintro e w1 ⟨he, hb⟩
        rw [HM.out] at he
        subst he
        refine hK.out _ _ ?s37_3 ?r37_3
        case s37_3 => (try dsimp only); first | exact HS | exact ⟨grew_cell hb HS.1, grew_cell hb HS.2.1, grew_cell hb HS.2.2.1, grew_cell hb HS.2.2.2.1, grew_cell hb HS.2.2.2.2.1, grew_cell hb HS.2.2.2.2.2.1, grew_cell hb HS.2.2.2.2.2.2.1, grew_cell hb HS.2.2.2.2.2.2.2.1, grew_cell hb HS.2.2.2.2.2.2.2.2.1, HS.2.2.2.2.2.2.2.2.2.trans hb⟩
        case r37_3 =>
         clear HS
         intro HS
         clear hK K
         try simp only [Act.put, lpa, lpb, lpc]
         (refine tk (v := ?v37_4) 4 rfl (by kernel_rfl) rfl ?y37_4 HS ?_; case y37_4 => (intro w' hSw; (try dsimp only at hSw); go_simp <;> (with_reducible rfl)))
         try simp only [Act.put, lpa, lpb, lpc]
         (refine tk (v := ?v37_5) 5 rfl (by kernel_rfl) rfl ?y37_5 HS ?_; case y37_5 => (intro w' hSw; (try dsimp only at hSw); go_simp <;> (with_reducible rfl)))
         try simp only [Act.put, lpa, lpb, lpc]
         (refine tk (v := ?v37_6) 6 rfl (by kernel_rfl) rfl ?y37_6 HS ?_; case y37_6 => (intro w' hSw; (try dsimp only at hSw); go_simp <;> (with_reducible rfl)))
         try simp only [Act.put, lpa, lpb, lpc]
         (refine tk (v := ?v37_7) 7 rfl (by kernel_rfl) rfl ?y37_7 HS ?_; case y37_7 => (intro w' hSw; (try dsimp only at hSw); go_simp <;> (with_reducible rfl)))
         try simp only [Act.put, lpa, lpb, lpc]
         (refine tk (v := ?v37_8) 8 rfl (by kernel_rfl) rfl ?y37_8 HS ?_; case y37_8 => (intro w' hSw; (try dsimp only at hSw); go_simp <;> (with_reducible rfl)))
         try simp only [Act.put, lpa, lpb, lpc]
         (refine tk (v := ?v37_9) 9 rfl (by kernel_rfl) rfl ?y37_9 HS ?_; case y37_9 => (intro w' hSw; (try dsimp only at hSw); go_simp <;> (with_reducible rfl)))
         try simp only [Act.put, lpa, lpb, lpc]
         (refine tk (v := ?v37_10) 10 rfl (by kernel_rfl) rfl ?y37_10 HS ?_; case y37_10 => (intro w' hSw; (try dsimp only at hSw); go_simp <;> (with_reducible rfl)))
         try simp only [Act.put, lpa, lpb, lpc]
         (refine tk (v := ?v37_11) 11 rfl (by kernel_rfl) rfl ?y37_11 HS ?_; case y37_11 => (intro w' hSw; (try dsimp only at hSw); go_simp <;> (with_reducible rfl)))
         try simp only [Act.put, lpa, lpb, lpc]
         (refine tk (v := ?v37_12) 12 rfl (by kernel_rfl) rfl ?y37_12 HS ?_; case y37_12 => (intro w' hSw; (try dsimp only at hSw); go_simp <;> (with_reducible rfl)))
         try simp only [Act.put, lpa, lpb, lpc]
         (refine tk (v := ?v37_13) 13 rfl (by kernel_rfl) rfl ?y37_13 HS ?_; case y37_13 => (intro w' hSw; (try dsimp only at hSw); go_simp <;> (with_reducible rfl)))
         try simp only [Act.put, lpa, lpb, lpc]
         (refine tk (v := ?v37_14) 14 rfl (by kernel_rfl) rfl ?y37_14 HS ?_; case y37_14 => (intro w' hSw; (try dsimp only at hSw); go_simp <;> (with_reducible rfl)))
         try simp only [Act.put, lpa, lpb, lpc]
         (refine tk (v := ?v37_15) 15 rfl (by kernel_rfl) rfl ?y37_15 HS ?_; case y37_15 => (intro w' hSw; (try dsimp only at hSw); go_simp <;> (with_reducible rfl)))
         try simp only [Act.put, lpa, lpb, lpc]
         (refine tk (v := ?v37_16) 16 rfl (by kernel_rfl) rfl ?y37_16 HS ?_; case y37_16 => (intro w' hSw; (try dsimp only at hSw); go_simp <;> (with_reducible rfl)))
         try simp only [Act.put, lpa, lpb, lpc]
         (refine tk (v := ?v37_17) 17 rfl (by kernel_rfl) rfl ?y37_17 HS ?_; case y37_17 => (intro w' hSw; (try dsimp only at hSw); go_simp <;> (with_reducible rfl)))
         try simp only [Act.put, lpa, lpb, lpc]
         (refine tk (v := ?v37_18) 18 rfl (by kernel_rfl) rfl ?y37_18 HS ?_; case y37_18 => (intro w' hSw; (try dsimp only at hSw); go_simp <;> (with_reducible rfl)))
         try simp only [Act.put, lpa, lpb, lpc]
         (refine tk (v := ?v37_19) 19 rfl (by kernel_rfl) rfl ?y37_19 HS ?_; case y37_19 => (intro w' hSw; (try dsimp only at hSw); go_simp <;> (with_reducible rfl)))
         try simp only [Act.put, lpa, lpb, lpc]
         (refine tk (v := ?v37_20) 20 rfl (by kernel_rfl) rfl ?y37_20 HS ?_; case y37_20 => (intro w' hSw; (try dsimp only at hSw); go_simp <;> (with_reducible rfl)))
         try simp only [Act.put, lpa, lpb, lpc]
         (refine tk (v := ?v37_21) 21 rfl (by kernel_rfl) rfl ?y37_21 HS ?_; case y37_21 => (intro w' hSw; (try dsimp only at hSw); go_simp <;> (with_reducible rfl)))
         try simp only [Act.put, lpa, lpb, lpc]
         (refine tk (v := ?v37_22) 22 rfl (by kernel_rfl) rfl ?y37_22 HS ?_; case y37_22 => (intro w' hSw; (try dsimp only at hSw); go_simp <;> (with_reducible rfl)))
         try simp only [Act.put, lpa, lpb, lpc]
         (refine tk (v := ?v37_23) 23 rfl (by kernel_rfl) rfl ?y37_23 HS ?_; case y37_23 => (intro w' hSw; (try dsimp only at hSw); go_simp <;> (with_reducible rfl)))
         try simp only [Act.put, lpa, lpb, lpc]
         (refine tk (v := ?v37_24) 24 rfl (by kernel_rfl) rfl ?y37_24 HS ?_; case y37_24 => (intro w' hSw; (try dsimp only at hSw); go_simp <;> (with_reducible rfl)))
         try simp only [Act.put, lpa, lpb, lpc]
         (refine tk (v := ?v37_25) 25 rfl (by kernel_rfl) rfl ?y37_25 HS ?_; case y37_25 => (intro w' hSw; (try dsimp only at hSw); go_simp <;> (with_reducible rfl)))
         try simp only [Act.put, lpa, lpb, lpc]
         (refine tk (v := ?v37_26) 26 rfl (by kernel_rfl) rfl ?y37_26 HS ?_; case y37_26 => (intro w' hSw; (try dsimp only at hSw); go_simp <;> (with_reducible rfl)))
         try simp only [Act.put, lpa, lpb, lpc]
         (refine tk (v := ?v37_27) 27 rfl (by kernel_rfl) rfl ?y37_27 HS ?_; case y37_27 => (intro w' hSw; (try dsimp only at hSw); go_simp <;> (with_reducible rfl)))
         try simp only [Act.put, lpa, lpb, lpc]
         refine wpAnyH_done (by kernel_rfl) ?_ _
         refine NoPanic.normal ?_
         go_wp2
         go_ret
         refine ⟨ret_bool ?_, hbw.trans (hal.trans HS.2.2.2.2.2.2.2.2.2)⟩
         exact (show stoB s = false by unfold stoB; rw [all_not hxk.out (show stoAt s _ x = false by unfold stoAt; rw [HM.out, decide_eq_true (show x.id < s.next by omega), HP.out]; exact decide_eq_false (show ¬ (y.id < x.id) by omega))]; rfl).symm
      ·
       have hk0 := hk
       have hil : y.id < x.id := by omega
       have hk00 := hk
       go_wp2_with fail
       have hal := (Grew.refl wr).alloc (.cells #[.int .i64 x.id, .int .i64 x.owner, .bool x.shared, .int .i64 x.link, .slice fa x.attrs.length fc] 79)
       have g0 : (wr.alloc (.cells #[.int .i64 x.id, .int .i64 x.owner, .bool x.shared, .int .i64 x.link, .slice fa x.attrs.length fc] 79)).cell? ⟨wr.heap.size, 0, none⟩ = some (.int .i64 x.id) := by simp
       have g1 : (wr.alloc (.cells #[.int .i64 x.id, .int .i64 x.owner, .bool x.shared, .int .i64 x.link, .slice fa x.attrs.length fc] 79)).cell? ⟨wr.heap.size, 1, none⟩ = some (.int .i64 x.owner) := by simp
       have g2 : (wr.alloc (.cells #[.int .i64 x.id, .int .i64 x.owner, .bool x.shared, .int .i64 x.link, .slice fa x.attrs.length fc] 79)).cell? ⟨wr.heap.size, 2, none⟩ = some (.bool x.shared) := by simp
       have g3 : (wr.alloc (.cells #[.int .i64 x.id, .int .i64 x.owner, .bool x.shared, .int .i64 x.link, .slice fa x.attrs.length fc] 79)).cell? ⟨wr.heap.size, 3, none⟩ = some (.int .i64 x.link) := by simp
       have g4 : (wr.alloc (.cells #[.int .i64 x.id, .int .i64 x.owner, .bool x.shared, .int .i64 x.link, .slice fa x.attrs.length fc] 79)).cell? ⟨wr.heap.size, 4, none⟩ = some (.slice fa x.attrs.length fc) := by simp
       have ax0 := grew_cell hal ex0
       have ax1 := grew_cell hal ex1
       have ax2 := grew_cell hal ex2
       replace d0 := grew_cell hal d0
       refine wp_region_noPanic ?_
       refine wp_region_held_drew (S := (fun w' => (w'.cell? ⟨w.heap.size, 0, none⟩ = some (.slice sa m sc) ∧ w'.cell? ⟨w.heap.size, 1, none⟩ = some (.slice (some ⟨b1, o1, none⟩) n ca) ∧ w'.cell? ⟨w.heap.size, 2, none⟩ = some (.int .i64 s.next) ∧ w'.cell? ⟨wr.heap.size, 0, none⟩ = some (.int .i64 x.id) ∧ w'.cell? ⟨wr.heap.size, 1, none⟩ = some (.int .i64 x.owner) ∧ w'.cell? ⟨wr.heap.size, 2, none⟩ = some (.bool x.shared) ∧ w'.cell? ⟨wr.heap.size, 3, none⟩ = some (.int .i64 x.link) ∧ w'.cell? ⟨wr.heap.size, 4, none⟩ = some (.slice fa x.attrs.length fc) ∧ w'.cell? ⟨b1, o1 + p * 5, none⟩ = some (.int .i64 y.id) ∧ Grew (wr.alloc (.cells #[.int .i64 x.id, .int .i64 x.owner, .bool x.shared, .int .i64 x.link, .slice fa x.attrs.length fc] 79)) w'))) (by kernel_rfl) ?h38_S ?h38_r
       case h38_S => exact ⟨grew_cell (Grew.refl _).drew ax0, grew_cell (Grew.refl _).drew ax1, grew_cell (Grew.refl _).drew ax2, grew_cell (Grew.refl _).drew g0, grew_cell (Grew.refl _).drew g1, grew_cell (Grew.refl _).drew g2, grew_cell (Grew.refl _).drew g3, grew_cell (Grew.refl _).drew g4, grew_cell (Grew.refl _).drew d0, (Grew.refl _).drew⟩
       case h38_r =>
        intro HS
        (refine tk (v := ?v38_0) 0 rfl (by kernel_rfl) rfl ?y38_0 HS ?_; case y38_0 => (intro w' hSw; (try dsimp only at hSw); go_simp <;> (with_reducible rfl)))
        try simp only [Act.put, lpa, lpb, lpc]
        (refine tk (v := ?v38_1) 1 rfl (by kernel_rfl) rfl ?y38_1 HS ?_; case y38_1 => (intro w' hSw; (try dsimp only at hSw); go_simp <;> (with_reducible rfl)))
        try simp only [Act.put, lpa, lpb, lpc]
        (refine tk (v := ?v38_2) 2 rfl (by kernel_rfl) rfl ?y38_2 HS ?_; case y38_2 => (intro w' hSw; (try dsimp only at hSw); go_simp <;> (with_reducible rfl)))
        try simp only [Act.put, lpa, lpb, lpc]
        refine cl 3 rfl (by kernel_rfl) (fun K hK => ?_)
        go_simp
        go_at_call 175
        refine (implIsValidFile _ m s.schema x ⟨x.id, x.owner, x.shared, x.link, .slice fa x.attrs.length fc⟩ _ (HS0.out.grew (hbw.trans (hal.trans HS.2.2.2.2.2.2.2.2.2))) (HF.out.grew (hbw.trans (hal.trans HS.2.2.2.2.2.2.2.2.2))) hx hzs hxs).mono ?_
        rintro e w1 ⟨he, hb⟩
        rw [HM.out] at he
        subst he
        refine hK.out _ _ ?s38_3 ?r38_3
        case s38_3 => (try dsimp only); first | exact HS | exact ⟨grew_cell hb HS.1, grew_cell hb HS.2.1, grew_cell hb HS.2.2.1, grew_cell hb HS.2.2.2.1, grew_cell hb HS.2.2.2.2.1, grew_cell hb HS.2.2.2.2.2.1, grew_cell hb HS.2.2.2.2.2.2.1, grew_cell hb HS.2.2.2.2.2.2.2.1, grew_cell hb HS.2.2.2.2.2.2.2.2.1, HS.2.2.2.2.2.2.2.2.2.trans hb⟩
        case r38_3 =>
         clear HS
         intro HS
         clear hK K
         try simp only [Act.put, lpa, lpb, lpc]
         (refine tk (v := ?v38_4) 4 rfl (by kernel_rfl) rfl ?y38_4 HS ?_; case y38_4 => (intro w' hSw; (try dsimp only at hSw); go_simp <;> (with_reducible rfl)))
         try simp only [Act.put, lpa, lpb, lpc]
         (refine tk (v := ?v38_5) 5 rfl (by kernel_rfl) rfl ?y38_5 HS ?_; case y38_5 => (intro w' hSw; (try dsimp only at hSw); go_simp <;> (with_reducible rfl)))
         try simp only [Act.put, lpa, lpb, lpc]
         (refine tk (v := ?v38_6) 6 rfl (by kernel_rfl) rfl ?y38_6 HS ?_; case y38_6 => (intro w' hSw; (try dsimp only at hSw); go_simp <;> (with_reducible rfl)))
         try simp only [Act.put, lpa, lpb, lpc]
         (refine tk (v := ?v38_7) 7 rfl (by kernel_rfl) rfl ?y38_7 HS ?_; case y38_7 => (intro w' hSw; (try dsimp only at hSw); go_simp <;> (with_reducible rfl)))
         try simp only [Act.put, lpa, lpb, lpc]
         (refine tk (v := ?v38_8) 8 rfl (by kernel_rfl) rfl ?y38_8 HS ?_; case y38_8 => (intro w' hSw; (try dsimp only at hSw); go_simp <;> (with_reducible rfl)))
         try simp only [Act.put, lpa, lpb, lpc]
         (refine tk (v := ?v38_9) 9 rfl (by kernel_rfl) rfl ?y38_9 HS ?_; case y38_9 => (intro w' hSw; (try dsimp only at hSw); go_simp <;> (with_reducible rfl)))
         try simp only [Act.put, lpa, lpb, lpc]
         (refine tk (v := ?v38_10) 10 rfl (by kernel_rfl) rfl ?y38_10 HS ?_; case y38_10 => (intro w' hSw; (try dsimp only at hSw); go_simp <;> (with_reducible rfl)))
         try simp only [Act.put, lpa, lpb, lpc]
         (refine tk (v := ?v38_11) 11 rfl (by kernel_rfl) rfl ?y38_11 HS ?_; case y38_11 => (intro w' hSw; (try dsimp only at hSw); go_simp <;> (with_reducible rfl)))
         try simp only [Act.put, lpa, lpb, lpc]
         (refine tk (v := ?v38_12) 12 rfl (by kernel_rfl) rfl ?y38_12 HS ?_; case y38_12 => (intro w' hSw; (try dsimp only at hSw); go_simp <;> (with_reducible rfl)))
         try simp only [Act.put, lpa, lpb, lpc]
         (refine tk (v := ?v38_13) 13 rfl (by kernel_rfl) rfl ?y38_13 HS ?_; case y38_13 => (intro w' hSw; (try dsimp only at hSw); go_simp <;> (with_reducible rfl)))
         try simp only [Act.put, lpa, lpb, lpc]
         (refine tk (v := ?v38_14) 14 rfl (by kernel_rfl) rfl ?y38_14 HS ?_; case y38_14 => (intro w' hSw; (try dsimp only at hSw); go_simp <;> (with_reducible rfl)))
         try simp only [Act.put, lpa, lpb, lpc]
         (refine tk (v := ?v38_15) 15 rfl (by kernel_rfl) rfl ?y38_15 HS ?_; case y38_15 => (intro w' hSw; (try dsimp only at hSw); go_simp <;> (with_reducible rfl)))
         try simp only [Act.put, lpa, lpb, lpc]
         (refine tk (v := ?v38_16) 16 rfl (by kernel_rfl) rfl ?y38_16 HS ?_; case y38_16 => (intro w' hSw; (try dsimp only at hSw); go_simp <;> (with_reducible rfl)))
         try simp only [Act.put, lpa, lpb, lpc]
         (refine tk (v := ?v38_17) 17 rfl (by kernel_rfl) rfl ?y38_17 HS ?_; case y38_17 => (intro w' hSw; (try dsimp only at hSw); go_simp <;> (with_reducible rfl)))
         try simp only [Act.put, lpa, lpb, lpc]
         (refine tk (v := ?v38_18) 18 rfl (by kernel_rfl) rfl ?y38_18 HS ?_; case y38_18 => (intro w' hSw; (try dsimp only at hSw); go_simp <;> (with_reducible rfl)))
         try simp only [Act.put, lpa, lpb, lpc]
         (refine tk (v := ?v38_19) 19 rfl (by kernel_rfl) rfl ?y38_19 HS ?_; case y38_19 => (intro w' hSw; (try dsimp only at hSw); go_simp <;> (with_reducible rfl)))
         try simp only [Act.put, lpa, lpb, lpc]
         (refine tk (v := ?v38_20) 20 rfl (by kernel_rfl) rfl ?y38_20 HS ?_; case y38_20 => (intro w' hSw; (try dsimp only at hSw); go_simp <;> (with_reducible rfl)))
         try simp only [Act.put, lpa, lpb, lpc]
         (refine tk (v := ?v38_21) 21 rfl (by kernel_rfl) rfl ?y38_21 HS ?_; case y38_21 => (intro w' hSw; (try dsimp only at hSw); go_simp <;> (with_reducible rfl)))
         try simp only [Act.put, lpa, lpb, lpc]
         (refine tk (v := ?v38_22) 22 rfl (by kernel_rfl) rfl ?y38_22 HS ?_; case y38_22 => (intro w' hSw; (try dsimp only at hSw); go_simp <;> (with_reducible rfl)))
         try simp only [Act.put, lpa, lpb, lpc]
         (refine tk (v := ?v38_23) 23 rfl (by kernel_rfl) rfl ?y38_23 HS ?_; case y38_23 => (intro w' hSw; (try dsimp only at hSw); go_simp <;> (with_reducible rfl)))
         try simp only [Act.put, lpa, lpb, lpc]
         (refine tk (v := ?v38_24) 24 rfl (by kernel_rfl) rfl ?y38_24 HS ?_; case y38_24 => (intro w' hSw; (try dsimp only at hSw); go_simp <;> (with_reducible rfl)))
         try simp only [Act.put, lpa, lpb, lpc]
         (refine tk (v := ?v38_25) 25 rfl (by kernel_rfl) rfl ?y38_25 HS ?_; case y38_25 => (intro w' hSw; (try dsimp only at hSw); go_simp <;> (with_reducible rfl)))
         try simp only [Act.put, lpa, lpb, lpc]
         (refine tk (v := ?v38_26) 26 rfl (by kernel_rfl) rfl ?y38_26 HS ?_; case y38_26 => (intro w' hSw; (try dsimp only at hSw); go_simp <;> (with_reducible rfl)))
         try simp only [Act.put, lpa, lpb, lpc]
         (refine tk (v := ?v38_27) 27 rfl (by kernel_rfl) rfl ?y38_27 HS ?_; case y38_27 => (intro w' hSw; (try dsimp only at hSw); go_simp <;> (with_reducible rfl)))
         try simp only [Act.put, lpa, lpb, lpc]
         refine wpAnyH_done (by kernel_rfl) ?_ _
         refine NoPanic.normal ?_
         go_wp2
         go_roundw
         case rel => exact ⟨p + 1 + 1, by omega, by go_num, Lib.hid (upTo_snoc hsame.out hxk.out (by show stoAt s _ x = true; unfold stoAt; rw [HM.out, decide_eq_true (show x.id < s.next by omega), HP.out]; exact decide_eq_true (show y.id < x.id by omega))), hbel.trans (hal.trans HS.2.2.2.2.2.2.2.2.2)⟩
         case measure => simp [intOf]; omega
  ·
   obtain rfl : k = n := by omega
   have hy := Lib.hid (all_up HX.out hsame.out)
   have ex0 := grew_cell hbel x0
   have ex1 := grew_cell hbel x1
   have ex2 := grew_cell hbel x2
   have hc_bs : bs = false ∨ bs = true := by cases bs <;> simp
   have hc_bn : bn = false ∨ bn = true := by cases bn <;> simp
   rcases hc_bs with rfl | rfl
   ·
    have hk0 := hk
    go_wp2_with (first | (go_at_call 177; refine (within _ _ _ _).mono ?_; rintro e w' ⟨he, rfl⟩; rw [HI.out] at he; subst he) | (go_at_call 176; refine (implIsValidSchema _ m s.schema _ (HS0.out.grew hbw) hx hzs).mono ?_; rintro e w9 ⟨he, hb9⟩; rw [HC.out] at he; subst he; have z1 := grew_cell hb9 ex1; have z2 := grew_cell hb9 ex2))
    go_ret
    refine ⟨ret_bool ?_, hbw.trans hb9⟩
    unfold stoB; rw [hy.out, HI.out, HC.out, HX.out]; simp
   ·
    by_cases h12 : (k : Int) ≤ 12
    ·
     rcases hc_bn with rfl | rfl
     ·
      have hk0 := hk
      go_wp2_with (first | (go_at_call 177; refine (within _ _ _ _).mono ?_; rintro e w' ⟨he, rfl⟩; rw [HI.out] at he; subst he) | (go_at_call 176; refine (implIsValidSchema _ m s.schema _ (HS0.out.grew hbw) hx hzs).mono ?_; rintro e w9 ⟨he, hb9⟩; rw [HC.out] at he; subst he; have z1 := grew_cell hb9 ex1; have z2 := grew_cell hb9 ex2))
      go_ret
      refine ⟨ret_bool ?_, hbw.trans hb9⟩
      unfold stoB; rw [hy.out, HI.out, HC.out, HX.out]; simp <;> omega
     ·
      have hk0 := hk
      go_wp2_with (first | (go_at_call 177; refine (within _ _ _ _).mono ?_; rintro e w' ⟨he, rfl⟩; rw [HI.out] at he; subst he) | (go_at_call 176; refine (implIsValidSchema _ m s.schema _ (HS0.out.grew hbw) hx hzs).mono ?_; rintro e w9 ⟨he, hb9⟩; rw [HC.out] at he; subst he; have z1 := grew_cell hb9 ex1; have z2 := grew_cell hb9 ex2))
      go_ret
      refine ⟨ret_bool ?_, hbw.trans hb9⟩
      unfold stoB; rw [hy.out, HI.out, HC.out, HX.out]; simp <;> omega
    ·
     have hk0 := hk
     go_wp2_with (first | (go_at_call 177; refine (within _ _ _ _).mono ?_; rintro e w' ⟨he, rfl⟩; rw [HI.out] at he; subst he) | (go_at_call 176; refine (implIsValidSchema _ m s.schema _ (HS0.out.grew hbw) hx hzs).mono ?_; rintro e w9 ⟨he, hb9⟩; rw [HC.out] at he; subst he; have z1 := grew_cell hb9 ex1; have z2 := grew_cell hb9 ex2))
     go_ret
     refine ⟨ret_bool ?_, hbw.trans hb9⟩
     unfold stoB; rw [hy.out, HI.out, HC.out, HX.out]; simp <;> omega
end Go.Proofs.YtejgpghcahinhaaGreat
