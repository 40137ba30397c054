/- The walk of laws.FnExactIsValidDiff, out of the contracts of the two functions. -/
import Derived.Deep.RegionHeld3
import Derived.Test.YtbbdeajfjconcaaV2
import Derived.Test.YtbbdeajfjconcaaO2
namespace Go.Proofs.Ytbbdeajfjconcaa.fnExactIsValidDiff
open Go.RowKit
set_option linter.unusedVariables false
set_option maxRecDepth 100000 in
set_option maxHeartbeats 1000000 in
theorem walkLaw (w : World) (q0 : P3) (x0 : Df) (hr0 : Df.R w x0 q0) (ho0 : x0.ok0) :
    Calls Try.prog 10 #[.agg (q0.c).toArray] w fun e w' => e = .returned (.bool true) ∧ Grew w w' := by
  have R0 := Lib.hid hr0
  have O0 := Lib.hid ho0
  obtain ⟨f0n, f0q, f0r⟩ := q0
  clear hr0 ho0
  change Calls Try.prog 10 #[.agg #[.string f0n, f0q, f0r]] w _
  go_enter Try.func10, Try.ntmps10
  go_wp2_with fail
  have bxf0_0 : (w.alloc (.cells #[.string f0n, f0q, f0r] 59)).cell? ⟨w.heap.size, 0, none⟩ = some (.string f0n) := by simp
  have bxf0_1 : (w.alloc (.cells #[.string f0n, f0q, f0r] 59)).cell? ⟨w.heap.size, 1, none⟩ = some (f0q) := by simp
  have bxf0_2 : (w.alloc (.cells #[.string f0n, f0q, f0r] 59)).cell? ⟨w.heap.size, 2, none⟩ = some (f0r) := by simp
  have ga1 := Grew.alloc (Grew.refl w) (.cells #[.string f0n, f0q, f0r] 59)
  refine (szDiff x0 ⟨f0n, f0q, f0r⟩ _ _ (R0.out.grew ga1) O0.out (by omega) (by omega)).mono ?_
  rintro e w1 ⟨r0, rfl, hl0, s1⟩
  have g1 : Grew w w1 := ga1.trans s1
  replace bxf0_0 := grew_cell s1 bxf0_0
  replace bxf0_1 := grew_cell s1 bxf0_1
  replace bxf0_2 := grew_cell s1 bxf0_2
  rcases hl0 with rfl | ⟨hl0, hp0⟩
  · go_wp2
    go_ret
    exact ⟨rfl, g1⟩
  · have hle0 : r0 ≤ 1048576 := by omega
    have hzz0 : x0.sz ≤ 4000000 := by omega
    have hms0 := Lib.hid (Df.small_of hzz0)
    have HL0 := Lib.hid hl0
    clear hl0
    go_wp2_with fail
    refine (toDiff x0 ⟨f0n, f0q, f0r⟩ _ (R0.out.grew g1) hms0.out).mono ?_
    rintro e w2 ⟨⟨c0n, c0q, c0r⟩, rfl, o_c0, d_c0, s2⟩
    have g2 : Grew w w2 := g1.trans s2
    replace bxf0_0 := grew_cell s2 bxf0_0
    replace bxf0_1 := grew_cell s2 bxf0_1
    replace bxf0_2 := grew_cell s2 bxf0_2
    replace d_c0 := Lib.hid d_c0
    go_wp2_with fail
    refine (specIsValidDiff x0 ⟨c0n, c0q, c0r⟩ _ o_c0.rd hms0.out (by unfold Df.sz at hzz0; omega)).mono ?_
    rintro e w3 ⟨rfl, s3⟩
    have g3 : Grew w w3 := g2.trans s3
    replace bxf0_0 := grew_cell s3 bxf0_0
    replace bxf0_1 := grew_cell s3 bxf0_1
    replace bxf0_2 := grew_cell s3 bxf0_2
    replace o_c0 := o_c0.grew s3
    go_wp2_with fail
    refine (toDiff x0 ⟨f0n, f0q, f0r⟩ _ (R0.out.grew g3) hms0.out).mono ?_
    rintro e w4 ⟨⟨y0n, y0q, y0r⟩, rfl, o_y0, d_y0, s4⟩
    have g4 : Grew w w4 := g3.trans s4
    replace bxf0_0 := grew_cell s4 bxf0_0
    replace bxf0_1 := grew_cell s4 bxf0_1
    replace bxf0_2 := grew_cell s4 bxf0_2
    replace d_y0 := Lib.hid d_y0
    obtain ⟨y0qa, y0qc, rfl⟩ := own_slice o_y0.2.1.1
    obtain ⟨y0ra, y0rc, rfl⟩ := own_slice o_y0.2.2.1
    go_wp2_with fail
    replace o_y0 := o_y0.grew ((Grew.refl _).alloc (.cells #[.string y0n, .slice y0qa x0.added.length y0qc, .slice y0ra x0.removed.length y0rc] 62))
    replace bxf0_0 := grew_cell ((Grew.refl _).alloc (.cells #[.string y0n, .slice y0qa x0.added.length y0qc, .slice y0ra x0.removed.length y0rc] 62)) bxf0_0
    replace bxf0_1 := grew_cell ((Grew.refl _).alloc (.cells #[.string y0n, .slice y0qa x0.added.length y0qc, .slice y0ra x0.removed.length y0rc] 62)) bxf0_1
    replace bxf0_2 := grew_cell ((Grew.refl _).alloc (.cells #[.string y0n, .slice y0qa x0.added.length y0qc, .slice y0ra x0.removed.length y0rc] 62)) bxf0_2
    have bxy0_0 : (w4.alloc (.cells #[.string y0n, .slice y0qa x0.added.length y0qc, .slice y0ra x0.removed.length y0rc] 62)).cell? ⟨w4.heap.size, 0, none⟩ = some (.string y0n) := by simp
    have bxy0_1 : (w4.alloc (.cells #[.string y0n, .slice y0qa x0.added.length y0qc, .slice y0ra x0.removed.length y0rc] 62)).cell? ⟨w4.heap.size, 1, none⟩ = some (.slice y0qa x0.added.length y0qc) := by simp
    have bxy0_2 : (w4.alloc (.cells #[.string y0n, .slice y0qa x0.added.length y0qc, .slice y0ra x0.removed.length y0rc] 62)).cell? ⟨w4.heap.size, 2, none⟩ = some (.slice y0ra x0.removed.length y0rc) := by simp
    have ga2 := Grew.alloc g4 (.cells #[.string y0n, .slice y0qa x0.added.length y0qc, .slice y0ra x0.removed.length y0rc] 62)
    refine (implIsValidDiff x0 ⟨y0n, .slice y0qa x0.added.length y0qc, .slice y0ra x0.removed.length y0rc⟩ _ o_y0.rd hms0.out (by unfold Df.sz at hzz0; omega)).mono ?_
    rintro e w5 ⟨rfl, s5⟩
    have g5 : Grew w w5 := ga2.trans s5
    replace bxf0_0 := grew_cell s5 bxf0_0
    replace bxf0_1 := grew_cell s5 bxf0_1
    replace bxf0_2 := grew_cell s5 bxf0_2
    replace bxy0_0 := grew_cell s5 bxy0_0
    replace bxy0_1 := grew_cell s5 bxy0_1
    replace bxy0_2 := grew_cell s5 bxy0_2
    replace o_y0 := o_y0.grew s5
    go_wp2
    refine wp_region_noPanic ?_
    refine wp_region_held_drew (S := (fun w' => (w'.cell? ⟨w.heap.size, 0, none⟩ = some (.string f0n) ∧ w'.cell? ⟨w.heap.size, 1, none⟩ = some (f0q) ∧ w'.cell? ⟨w.heap.size, 2, none⟩ = some (f0r) ∧ w'.cell? ⟨w4.heap.size, 0, none⟩ = some (.string y0n) ∧ w'.cell? ⟨w4.heap.size, 1, none⟩ = some (.slice y0qa x0.added.length y0qc) ∧ w'.cell? ⟨w4.heap.size, 2, none⟩ = some (.slice y0ra x0.removed.length y0rc) ∧ Grew (w5) w'))) (by kernel_rfl) ?hS ?hrest
    case hS => exact ⟨bxf0_0, bxf0_1, bxf0_2, bxy0_0, bxy0_1, bxy0_2, (Grew.refl _).drew⟩
    case hrest =>
      intro HS
      first
        | (refine wpAnyH_take (i := 0) (oi := ?oa0) (v := undef) ?ia0 (by kernel_rfl) (by kernel_rfl) (by kernel_rfl) ?qa0 (Or.inr ⟨?wa0, rfl⟩) HS ?_; (case ia0 => (simp only [List.getElem?_toArray, List.getElem?_cons_zero]; exact rfl)); (case qa0 => exact fun _ _ _ h => h); (case wa0 => rfl))
        | (refine wpAnyH_take (i := 0) (oi := ?ob0) (v := ?vb0) ?ib0 (by kernel_rfl) (by kernel_rfl) (by kernel_rfl) ?qb0 (Or.inl ⟨?wb0, ?yb0⟩) HS ?_; (case ib0 => (simp only [List.getElem?_toArray, List.getElem?_cons_zero]; exact rfl)); (case qb0 => exact fun _ _ _ h => h); (case wb0 => rfl); (case yb0 => (intro w' hSw; (try dsimp only at hSw); go_simp <;> (with_reducible rfl))))
      try simp only [Act.put, List.setIfInBounds_toArray, List.set_cons_zero, List.set_cons_succ]
      first
        | (refine wpAnyH_take (i := 1) (oi := ?oa1) (v := undef) ?ia1 (by kernel_rfl) (by kernel_rfl) (by kernel_rfl) ?qa1 (Or.inr ⟨?wa1, rfl⟩) HS ?_; (case ia1 => (simp only [List.getElem?_toArray, List.getElem?_cons_succ, List.getElem?_cons_zero]; exact rfl)); (case qa1 => exact fun _ _ _ h => h); (case wa1 => rfl))
        | (refine wpAnyH_take (i := 1) (oi := ?ob1) (v := ?vb1) ?ib1 (by kernel_rfl) (by kernel_rfl) (by kernel_rfl) ?qb1 (Or.inl ⟨?wb1, ?yb1⟩) HS ?_; (case ib1 => (simp only [List.getElem?_toArray, List.getElem?_cons_succ, List.getElem?_cons_zero]; exact rfl)); (case qb1 => exact fun _ _ _ h => h); (case wb1 => rfl); (case yb1 => (intro w' hSw; (try dsimp only at hSw); go_simp <;> (with_reducible rfl))))
      try simp only [Act.put, List.setIfInBounds_toArray, List.set_cons_zero, List.set_cons_succ]
      refine wpAnyH_ready (rs := [2]) (by kernel_rfl) (by simp) ?_
      refine AllReadyH.cons (o := ?o2) ?i2 (fun K hK => ?_) AllReadyH.nil
      case i2 => (simp only [List.getElem?_toArray, List.getElem?_cons_succ, List.getElem?_cons_zero]; exact rfl)
      go_simp
      go_at_call 43; refine (toDiff x0 ⟨f0n, f0q, f0r⟩ _ (R0.out.grew (g5.trans HS.2.2.2.2.2.2)) hms0.out).mono ?_; rintro e wz0 ⟨⟨z0n, z0q, z0r⟩, rfl, o_z0, d_z0, hb⟩
      refine hK.out _ _ ?s2 ?r2
      case s2 => (try dsimp only); exact ⟨grew_cell hb HS.1, grew_cell hb HS.2.1, grew_cell hb HS.2.2.1, grew_cell hb HS.2.2.2.1, grew_cell hb HS.2.2.2.2.1, grew_cell hb HS.2.2.2.2.2.1, HS.2.2.2.2.2.2.trans hb⟩
      case r2 =>
        clear HS
        intro HS
        clear hK K
        try simp only [Act.put, List.setIfInBounds_toArray, List.set_cons_zero, List.set_cons_succ]
        refine wpAnyH_ready (rs := [3]) (by kernel_rfl) (by simp) ?_
        refine AllReadyH.cons (o := ?o3) ?i3 (fun K hK => ?_) AllReadyH.nil
        case i3 => (simp only [List.getElem?_toArray, List.getElem?_cons_succ, List.getElem?_cons_zero]; exact rfl)
        go_simp
        go_at_call 45; refine (eqDiff x0 ⟨y0n, .slice y0qa x0.added.length y0qc, .slice y0ra x0.removed.length y0rc⟩ ⟨z0n, z0q, z0r⟩ _ (o_y0.grew HS.2.2.2.2.2.2).rd o_z0.rd hms0.out).mono ?_; rintro e wy0 ⟨rfl, hb⟩
        refine hK.out _ _ ?s3 ?r3
        case s3 => (try dsimp only); exact ⟨grew_cell hb HS.1, grew_cell hb HS.2.1, grew_cell hb HS.2.2.1, grew_cell hb HS.2.2.2.1, grew_cell hb HS.2.2.2.2.1, grew_cell hb HS.2.2.2.2.2.1, HS.2.2.2.2.2.2.trans hb⟩
        case r3 =>
          clear HS
          intro HS
          clear hK K
          try simp only [Act.put, List.setIfInBounds_toArray, List.set_cons_zero, List.set_cons_succ]
          first
            | (refine wpAnyH_take (i := 4) (oi := ?oa4) (v := undef) ?ia4 (by kernel_rfl) (by kernel_rfl) (by kernel_rfl) ?qa4 (Or.inr ⟨?wa4, rfl⟩) HS ?_; (case ia4 => (simp only [List.getElem?_toArray, List.getElem?_cons_succ, List.getElem?_cons_zero]; exact rfl)); (case qa4 => exact fun _ _ _ h => h); (case wa4 => rfl))
            | (refine wpAnyH_take (i := 4) (oi := ?ob4) (v := ?vb4) ?ib4 (by kernel_rfl) (by kernel_rfl) (by kernel_rfl) ?qb4 (Or.inl ⟨?wb4, ?yb4⟩) HS ?_; (case ib4 => (simp only [List.getElem?_toArray, List.getElem?_cons_succ, List.getElem?_cons_zero]; exact rfl)); (case qb4 => exact fun _ _ _ h => h); (case wb4 => rfl); (case yb4 => (intro w' hSw; (try dsimp only at hSw); go_simp <;> (with_reducible rfl))))
          try simp only [Act.put, List.setIfInBounds_toArray, List.set_cons_zero, List.set_cons_succ]
          refine wpAnyH_done (by kernel_rfl) ?_ _
          refine NoPanic.normal ?_
          have sd1 : Grew (w5) wy0 := HS.2.2.2.2.2.2
          have gd1 := g5.trans sd1
          replace o_y0 := o_y0.grew sd1
          replace bxf0_0 := HS.1
          replace bxf0_1 := HS.2.1
          replace bxf0_2 := HS.2.2.1
          replace bxy0_0 := HS.2.2.2.1
          replace bxy0_1 := HS.2.2.2.2.1
          replace bxy0_2 := HS.2.2.2.2.2.1
          clear HS
          go_wp2
          go_ret
          exact ⟨rfl, gd1⟩
end Go.Proofs.Ytbbdeajfjconcaa.fnExactIsValidDiff
