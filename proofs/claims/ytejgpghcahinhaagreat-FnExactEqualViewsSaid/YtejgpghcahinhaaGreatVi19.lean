/- Texts WXEqualViews, as far as they are needed. -/
import Derived.Test.YtejgpghcahinhaaGreatVi0
import Derived.Test.YtejgpghcahinhaaGreatVi17
import Derived.Test.YtejgpghcahinhaaGreatVi3
import Derived.Test.YtejgpghcahinhaaGreatVi6
namespace Go.Proofs.YtejgpghcahinhaaGreat.fnExactEqualViews
open Go.RowKit
set_option linter.unusedVariables false
set_option maxRecDepth 100000 in
set_option maxHeartbeats 1000000 in
theorem walkLaw (w : World) (q0 : PS) (x0 : St) (hr0 : St.R w x0 q0) (ho0 : x0.ok0) (q1 : PS) (x1 : St) (hr1 : St.R w x1 q1) (ho1 : x1.ok0) (u2 : Value) (x2 : List Dr) (hr2 : RdDs w u2 x2) (hn2 : x2.length ≤ maxLen) (ho2 : ∀ x, x ∈ x2 → x.ok0) (a3 : Int) (h3 : I64 a3) :
    Calls Tryz.prog 10 #[.agg (q0.c).toArray, .agg (q1.c).toArray, u2, .int .i64 a3] w fun e w' => e = .returned (.bool true) ∧ Grew w w' := by
  have R0 := Lib.hid hr0
  have O0 := Lib.hid ho0
  obtain ⟨f0q, f0r, f0n⟩ := q0
  clear hr0 ho0
  have R1 := Lib.hid hr1
  have O1 := Lib.hid ho1
  obtain ⟨f1q, f1r, f1n⟩ := q1
  clear hr1 ho1
  have R2 := Lib.hid hr2
  have O2 := Lib.hid ho2
  obtain ⟨ps2, ⟨sa2, sc2, rfl, hc2, hra2⟩, hall2⟩ := hr2
  clear ho2 hra2 hall2
  clear h3
  change Calls Tryz.prog 10 #[.agg #[f0q, f0r, .int .i64 f0n], .agg #[f1q, f1r, .int .i64 f1n], _, .int .i64 a3] w _
  go_enter Tryz.func10, Tryz.ntmps10
  have bxf0_0 : (w.alloc (.cells #[f0q, f0r, .int .i64 f0n] 84)).cell? ⟨w.heap.size, 0, none⟩ = some (f0q) := by simp
  have bxf0_1 : (w.alloc (.cells #[f0q, f0r, .int .i64 f0n] 84)).cell? ⟨w.heap.size, 1, none⟩ = some (f0r) := by simp
  have bxf0_2 : (w.alloc (.cells #[f0q, f0r, .int .i64 f0n] 84)).cell? ⟨w.heap.size, 2, none⟩ = some (.int .i64 f0n) := by simp
  have ga1 := Grew.alloc (Grew.refl w) (.cells #[f0q, f0r, .int .i64 f0n] 84)
  replace bxf0_0 := grew_cell ((Grew.refl _).alloc (.cells #[f1q, f1r, .int .i64 f1n] 84)) bxf0_0
  replace bxf0_1 := grew_cell ((Grew.refl _).alloc (.cells #[f1q, f1r, .int .i64 f1n] 84)) bxf0_1
  replace bxf0_2 := grew_cell ((Grew.refl _).alloc (.cells #[f1q, f1r, .int .i64 f1n] 84)) bxf0_2
  have bxf1_0 : ((w.alloc (.cells #[f0q, f0r, .int .i64 f0n] 84)).alloc (.cells #[f1q, f1r, .int .i64 f1n] 84)).cell? ⟨w.heap.size + 1, 0, none⟩ = some (f1q) := by simp
  have bxf1_1 : ((w.alloc (.cells #[f0q, f0r, .int .i64 f0n] 84)).alloc (.cells #[f1q, f1r, .int .i64 f1n] 84)).cell? ⟨w.heap.size + 1, 1, none⟩ = some (f1r) := by simp
  have bxf1_2 : ((w.alloc (.cells #[f0q, f0r, .int .i64 f0n] 84)).alloc (.cells #[f1q, f1r, .int .i64 f1n] 84)).cell? ⟨w.heap.size + 1, 2, none⟩ = some (.int .i64 f1n) := by simp
  have ga2 := Grew.alloc ga1 (.cells #[f1q, f1r, .int .i64 f1n] 84)
  go_wp2_with fail
  refine (szStore x0 ⟨f0q, f0r, f0n⟩ _ _ (R0.out.grew ga2) O0.out (by omega) (by omega)).mono ?_
  rintro e w1 ⟨r0, rfl, hl0, s1⟩
  have g1 : Grew w w1 := ga2.trans s1
  replace bxf0_0 := grew_cell s1 bxf0_0
  replace bxf0_1 := grew_cell s1 bxf0_1
  replace bxf0_2 := grew_cell s1 bxf0_2
  replace bxf1_0 := grew_cell s1 bxf1_0
  replace bxf1_1 := grew_cell s1 bxf1_1
  replace bxf1_2 := grew_cell s1 bxf1_2
  rcases hl0 with rfl | ⟨hl0, hp0⟩
  · go_wp2
    go_ret
    exact ⟨rfl, g1⟩
  · have hle0 : r0 ≤ 1048576 := by omega
    have hzt0 : x0.sz ≤ 1048576 := by omega
    have hzz0 : x0.sz ≤ 4000000 := by omega
    have hms0 := Lib.hid (St.small_of hzz0)
    have HL0 := Lib.hid hl0
    clear hl0
    go_wp2_with fail
    refine (szStore x1 ⟨f1q, f1r, f1n⟩ _ _ (R1.out.grew g1) O1.out (by omega) (by omega)).mono ?_
    rintro e w2 ⟨r1, rfl, hl1, s2⟩
    have g2 : Grew w w2 := g1.trans s2
    replace bxf0_0 := grew_cell s2 bxf0_0
    replace bxf0_1 := grew_cell s2 bxf0_1
    replace bxf0_2 := grew_cell s2 bxf0_2
    replace bxf1_0 := grew_cell s2 bxf1_0
    replace bxf1_1 := grew_cell s2 bxf1_1
    replace bxf1_2 := grew_cell s2 bxf1_2
    rcases hl1 with rfl | ⟨hl1, hp1⟩
    · go_wp2
      go_ret
      exact ⟨rfl, g2⟩
    · have hle1 : r1 ≤ 1048576 := by omega
      have hzt1 : x1.sz ≤ 1048576 := by omega
      have hzz1 : x1.sz ≤ 4000000 := by omega
      have hms1 := Lib.hid (St.small_of hzz1)
      have HL1 := Lib.hid hl1
      clear hl1
      go_wp2_with fail
      refine (szDirS _ x2 _ _ (R2.out.grew g2) hn2 O2.out (by omega) (by omega)).mono ?_
      rintro e w3 ⟨r2, rfl, hl2, s3⟩
      have g3 : Grew w w3 := g2.trans s3
      replace bxf0_0 := grew_cell s3 bxf0_0
      replace bxf0_1 := grew_cell s3 bxf0_1
      replace bxf0_2 := grew_cell s3 bxf0_2
      replace bxf1_0 := grew_cell s3 bxf1_0
      replace bxf1_1 := grew_cell s3 bxf1_1
      replace bxf1_2 := grew_cell s3 bxf1_2
      rcases hl2 with rfl | ⟨hl2, hp2⟩
      · go_wp2
        go_ret
        exact ⟨rfl, g3⟩
      · have hle2 : r2 ≤ 1048576 := by omega
        have hst2 : x2.length ≤ 1048576 := by omega
        have hsm2 : x2.length ≤ 4000000 := by omega
        have hzz2 : szAll Dr.sz x2 ≤ 4000000 := by omega
        have hms2 := Lib.hid (fun x (hx : x ∈ x2) => Dr.small_of (Nat.le_trans (mem_szAll hx) hzz2))
        have HL2 := Lib.hid hl2
        clear hl2
        go_wp2_with fail
        refine wp_region_noPanic ?_
        refine wp_region_held_drew (S := (fun w' => (w'.cell? ⟨w.heap.size, 0, none⟩ = some (f0q) ∧ w'.cell? ⟨w.heap.size, 1, none⟩ = some (f0r) ∧ w'.cell? ⟨w.heap.size, 2, none⟩ = some (.int .i64 f0n) ∧ w'.cell? ⟨w.heap.size + 1, 0, none⟩ = some (f1q) ∧ w'.cell? ⟨w.heap.size + 1, 1, none⟩ = some (f1r) ∧ w'.cell? ⟨w.heap.size + 1, 2, none⟩ = some (.int .i64 f1n) ∧ Grew (w3) w'))) (by kernel_rfl) ?h1_S ?h1_r
        case h1_S => exact ⟨bxf0_0, bxf0_1, bxf0_2, bxf1_0, bxf1_1, bxf1_2, (Grew.refl _).drew⟩
        case h1_r =>
          intro HS
          first
            | refine sk 0 rfl (by kernel_rfl) rfl HS ?_
            | (refine tk (v := ?v1_0) 0 rfl (by kernel_rfl) rfl ?y1_0 HS ?_; case y1_0 => (intro w' hSw; (try dsimp only at hSw); go_simp <;> (with_reducible rfl)))
          try simp only [Act.put, List.setIfInBounds_toArray, List.set_cons_zero, List.set_cons_succ]
          first
            | refine sk 2 rfl (by kernel_rfl) rfl HS ?_
            | (refine tk (v := ?v1_2) 2 rfl (by kernel_rfl) rfl ?y1_2 HS ?_; case y1_2 => (intro w' hSw; (try dsimp only at hSw); go_simp <;> (with_reducible rfl)))
          try simp only [Act.put, List.setIfInBounds_toArray, List.set_cons_zero, List.set_cons_succ]
          first
            | refine sk 4 rfl (by kernel_rfl) rfl HS ?_
            | (refine tk (v := ?v1_4) 4 rfl (by kernel_rfl) rfl ?y1_4 HS ?_; case y1_4 => (intro w' hSw; (try dsimp only at hSw); go_simp <;> (with_reducible rfl)))
          try simp only [Act.put, List.setIfInBounds_toArray, List.set_cons_zero, List.set_cons_succ]
          first
            | refine sk 6 rfl (by kernel_rfl) rfl HS ?_
            | (refine tk (v := ?v1_6) 6 rfl (by kernel_rfl) rfl ?y1_6 HS ?_; case y1_6 => (intro w' hSw; (try dsimp only at hSw); go_simp <;> (with_reducible rfl)))
          try simp only [Act.put, List.setIfInBounds_toArray, List.set_cons_zero, List.set_cons_succ]
          refine cl 1 rfl (by kernel_rfl) (fun K hK => ?_)
          go_simp
          go_at_call 68
          refine (toStore x0 ⟨f0q, f0r, f0n⟩ _ (R0.out.grew (g3.trans HS.2.2.2.2.2.2)) hms0.out).mono ?_
          rintro e w4 ⟨⟨c0q, c0r, c0n⟩, rfl, o_c0, d_c0, hb⟩
          have pz4 := Lib.hid hb.size
          clear d_c0
          refine hK.out _ _ ?s1_1 ?r1_1
          case s1_1 => (try dsimp only); exact ⟨grew_cell hb HS.1, grew_cell hb HS.2.1, grew_cell hb HS.2.2.1, grew_cell hb HS.2.2.2.1, grew_cell hb HS.2.2.2.2.1, grew_cell hb HS.2.2.2.2.2.1, HS.2.2.2.2.2.2.trans hb⟩
          case r1_1 =>
            clear HS
            intro HS
            clear hK K
            try simp only [Act.put, List.setIfInBounds_toArray, List.set_cons_zero, List.set_cons_succ]
            refine cl 3 rfl (by kernel_rfl) (fun K hK => ?_)
            go_simp
            go_at_call 68
            refine (toStore x1 ⟨f1q, f1r, f1n⟩ _ (R1.out.grew (g3.trans HS.2.2.2.2.2.2)) hms1.out).mono ?_
            rintro e w5 ⟨⟨c1q, c1r, c1n⟩, rfl, o_c1, d_c1, hb⟩
            have pz5 := Lib.hid hb.size
            clear d_c1
            replace o_c0 := o_c0.grew hb
            refine hK.out _ _ ?s1_3 ?r1_3
            case s1_3 => (try dsimp only); exact ⟨grew_cell hb HS.1, grew_cell hb HS.2.1, grew_cell hb HS.2.2.1, grew_cell hb HS.2.2.2.1, grew_cell hb HS.2.2.2.2.1, grew_cell hb HS.2.2.2.2.2.1, HS.2.2.2.2.2.2.trans hb⟩
            case r1_3 =>
              clear HS
              intro HS
              clear hK K
              try simp only [Act.put, List.setIfInBounds_toArray, List.set_cons_zero, List.set_cons_succ]
              refine cl 5 rfl (by kernel_rfl) (fun K hK => ?_)
              go_simp
              go_at_call 69
              refine (toDirS _ x2 _ (R2.out.grew (g3.trans HS.2.2.2.2.2.2)) (by omega) hms2.out).mono ?_
              rintro e w6 ⟨c2, rfl, o_c2, hb⟩
              have pz6 := Lib.hid hb.size
              replace o_c0 := o_c0.grew hb
              replace o_c1 := o_c1.grew hb
              refine hK.out _ _ ?s1_5 ?r1_5
              case s1_5 => (try dsimp only); exact ⟨grew_cell hb HS.1, grew_cell hb HS.2.1, grew_cell hb HS.2.2.1, grew_cell hb HS.2.2.2.1, grew_cell hb HS.2.2.2.2.1, grew_cell hb HS.2.2.2.2.2.1, HS.2.2.2.2.2.2.trans hb⟩
              case r1_5 =>
                clear HS
                intro HS
                clear hK K
                try simp only [Act.put, List.setIfInBounds_toArray, List.set_cons_zero, List.set_cons_succ]
                refine cl 7 rfl (by kernel_rfl) (fun K hK => ?_)
                go_simp
                go_at_call 16
                refine (specEqualViews x0 ⟨c0q, c0r, c0n⟩ x1 ⟨c1q, c1r, c1n⟩ c2 x2 a3 _ o_c0.rd o_c1.rd o_c2.rd (by omega) hzz2 hzz0 hzz1).mono ?_
                rintro e w7 ⟨rfl, hb⟩
                have pz7 := Lib.hid hb.size
                replace o_c0 := o_c0.grew hb
                replace o_c1 := o_c1.grew hb
                replace o_c2 := o_c2.grew hb
                refine hK.out _ _ ?s1_7 ?r1_7
                case s1_7 => (try dsimp only); exact ⟨grew_cell hb HS.1, grew_cell hb HS.2.1, grew_cell hb HS.2.2.1, grew_cell hb HS.2.2.2.1, grew_cell hb HS.2.2.2.2.1, grew_cell hb HS.2.2.2.2.2.1, HS.2.2.2.2.2.2.trans hb⟩
                case r1_7 =>
                  clear HS
                  intro HS
                  clear hK K
                  try simp only [Act.put, List.setIfInBounds_toArray, List.set_cons_zero, List.set_cons_succ]
                  first
                    | refine sk 8 rfl (by kernel_rfl) rfl HS ?_
                    | (refine tk (v := ?v1_8) 8 rfl (by kernel_rfl) rfl ?y1_8 HS ?_; case y1_8 => (intro w' hSw; (try dsimp only at hSw); go_simp <;> (with_reducible rfl)))
                  try simp only [Act.put, List.setIfInBounds_toArray, List.set_cons_zero, List.set_cons_succ]
                  refine wpAnyH_done (by kernel_rfl) ?_ _
                  refine NoPanic.normal ?_
                  have sd1 : Grew (w3) w7 := HS.2.2.2.2.2.2
                  have gd1 := g3.trans sd1
                  replace bxf0_0 := HS.1
                  replace bxf0_1 := HS.2.1
                  replace bxf0_2 := HS.2.2.1
                  replace bxf1_0 := HS.2.2.2.1
                  replace bxf1_1 := HS.2.2.2.2.1
                  replace bxf1_2 := HS.2.2.2.2.2.1
                  clear HS
                  go_wp2_with fail
                  refine (toStore x0 ⟨f0q, f0r, f0n⟩ _ (R0.out.grew gd1) hms0.out).mono ?_
                  rintro e w8 ⟨⟨y0q, y0r, y0n⟩, rfl, o_y0, d_y0, s8⟩
                  have g8 : Grew w w8 := gd1.trans s8
                  replace bxf0_0 := grew_cell s8 bxf0_0
                  replace bxf0_1 := grew_cell s8 bxf0_1
                  replace bxf0_2 := grew_cell s8 bxf0_2
                  replace bxf1_0 := grew_cell s8 bxf1_0
                  replace bxf1_1 := grew_cell s8 bxf1_1
                  replace bxf1_2 := grew_cell s8 bxf1_2
                  replace d_y0 := Lib.hid d_y0
                  obtain ⟨y0qa, y0qc, y0ra, y0rc, he_y0⟩ := o_y0.slices
                  cases he_y0
                  replace o_y0 := o_y0.grew ((Grew.refl _).alloc (.cells #[.slice y0qa x0.schema.length y0qc, .slice y0ra x0.files.length y0rc, .int .i64 x0.next] 27))
                  replace bxf0_0 := grew_cell ((Grew.refl _).alloc (.cells #[.slice y0qa x0.schema.length y0qc, .slice y0ra x0.files.length y0rc, .int .i64 x0.next] 27)) bxf0_0
                  replace bxf0_1 := grew_cell ((Grew.refl _).alloc (.cells #[.slice y0qa x0.schema.length y0qc, .slice y0ra x0.files.length y0rc, .int .i64 x0.next] 27)) bxf0_1
                  replace bxf0_2 := grew_cell ((Grew.refl _).alloc (.cells #[.slice y0qa x0.schema.length y0qc, .slice y0ra x0.files.length y0rc, .int .i64 x0.next] 27)) bxf0_2
                  replace bxf1_0 := grew_cell ((Grew.refl _).alloc (.cells #[.slice y0qa x0.schema.length y0qc, .slice y0ra x0.files.length y0rc, .int .i64 x0.next] 27)) bxf1_0
                  replace bxf1_1 := grew_cell ((Grew.refl _).alloc (.cells #[.slice y0qa x0.schema.length y0qc, .slice y0ra x0.files.length y0rc, .int .i64 x0.next] 27)) bxf1_1
                  replace bxf1_2 := grew_cell ((Grew.refl _).alloc (.cells #[.slice y0qa x0.schema.length y0qc, .slice y0ra x0.files.length y0rc, .int .i64 x0.next] 27)) bxf1_2
                  have bxy0_0 : (w8.alloc (.cells #[.slice y0qa x0.schema.length y0qc, .slice y0ra x0.files.length y0rc, .int .i64 x0.next] 27)).cell? ⟨w8.heap.size, 0, none⟩ = some (.slice y0qa x0.schema.length y0qc) := by simp
                  have bxy0_1 : (w8.alloc (.cells #[.slice y0qa x0.schema.length y0qc, .slice y0ra x0.files.length y0rc, .int .i64 x0.next] 27)).cell? ⟨w8.heap.size, 1, none⟩ = some (.slice y0ra x0.files.length y0rc) := by simp
                  have bxy0_2 : (w8.alloc (.cells #[.slice y0qa x0.schema.length y0qc, .slice y0ra x0.files.length y0rc, .int .i64 x0.next] 27)).cell? ⟨w8.heap.size, 2, none⟩ = some (.int .i64 x0.next) := by simp
                  have ga3 := Grew.alloc g8 (.cells #[.slice y0qa x0.schema.length y0qc, .slice y0ra x0.files.length y0rc, .int .i64 x0.next] 27)
                  go_wp2_with fail
                  refine (toStore x1 ⟨f1q, f1r, f1n⟩ _ (R1.out.grew ga3) hms1.out).mono ?_
                  rintro e w9 ⟨⟨y1q, y1r, y1n⟩, rfl, o_y1, d_y1, s9⟩
                  have g9 : Grew w w9 := ga3.trans s9
                  replace bxf0_0 := grew_cell s9 bxf0_0
                  replace bxf0_1 := grew_cell s9 bxf0_1
                  replace bxf0_2 := grew_cell s9 bxf0_2
                  replace bxf1_0 := grew_cell s9 bxf1_0
                  replace bxf1_1 := grew_cell s9 bxf1_1
                  replace bxf1_2 := grew_cell s9 bxf1_2
                  replace bxy0_0 := grew_cell s9 bxy0_0
                  replace bxy0_1 := grew_cell s9 bxy0_1
                  replace bxy0_2 := grew_cell s9 bxy0_2
                  replace d_y1 := Lib.hid d_y1
                  replace o_y0 := o_y0.grew s9
                  obtain ⟨y1qa, y1qc, y1ra, y1rc, he_y1⟩ := o_y1.slices
                  cases he_y1
                  replace o_y0 := o_y0.grew ((Grew.refl _).alloc (.cells #[.slice y1qa x1.schema.length y1qc, .slice y1ra x1.files.length y1rc, .int .i64 x1.next] 27))
                  replace o_y1 := o_y1.grew ((Grew.refl _).alloc (.cells #[.slice y1qa x1.schema.length y1qc, .slice y1ra x1.files.length y1rc, .int .i64 x1.next] 27))
                  replace bxf0_0 := grew_cell ((Grew.refl _).alloc (.cells #[.slice y1qa x1.schema.length y1qc, .slice y1ra x1.files.length y1rc, .int .i64 x1.next] 27)) bxf0_0
                  replace bxf0_1 := grew_cell ((Grew.refl _).alloc (.cells #[.slice y1qa x1.schema.length y1qc, .slice y1ra x1.files.length y1rc, .int .i64 x1.next] 27)) bxf0_1
                  replace bxf0_2 := grew_cell ((Grew.refl _).alloc (.cells #[.slice y1qa x1.schema.length y1qc, .slice y1ra x1.files.length y1rc, .int .i64 x1.next] 27)) bxf0_2
                  replace bxf1_0 := grew_cell ((Grew.refl _).alloc (.cells #[.slice y1qa x1.schema.length y1qc, .slice y1ra x1.files.length y1rc, .int .i64 x1.next] 27)) bxf1_0
                  replace bxf1_1 := grew_cell ((Grew.refl _).alloc (.cells #[.slice y1qa x1.schema.length y1qc, .slice y1ra x1.files.length y1rc, .int .i64 x1.next] 27)) bxf1_1
                  replace bxf1_2 := grew_cell ((Grew.refl _).alloc (.cells #[.slice y1qa x1.schema.length y1qc, .slice y1ra x1.files.length y1rc, .int .i64 x1.next] 27)) bxf1_2
                  replace bxy0_0 := grew_cell ((Grew.refl _).alloc (.cells #[.slice y1qa x1.schema.length y1qc, .slice y1ra x1.files.length y1rc, .int .i64 x1.next] 27)) bxy0_0
                  replace bxy0_1 := grew_cell ((Grew.refl _).alloc (.cells #[.slice y1qa x1.schema.length y1qc, .slice y1ra x1.files.length y1rc, .int .i64 x1.next] 27)) bxy0_1
                  replace bxy0_2 := grew_cell ((Grew.refl _).alloc (.cells #[.slice y1qa x1.schema.length y1qc, .slice y1ra x1.files.length y1rc, .int .i64 x1.next] 27)) bxy0_2
                  have bxy1_0 : (w9.alloc (.cells #[.slice y1qa x1.schema.length y1qc, .slice y1ra x1.files.length y1rc, .int .i64 x1.next] 27)).cell? ⟨w9.heap.size, 0, none⟩ = some (.slice y1qa x1.schema.length y1qc) := by simp
                  have bxy1_1 : (w9.alloc (.cells #[.slice y1qa x1.schema.length y1qc, .slice y1ra x1.files.length y1rc, .int .i64 x1.next] 27)).cell? ⟨w9.heap.size, 1, none⟩ = some (.slice y1ra x1.files.length y1rc) := by simp
                  have bxy1_2 : (w9.alloc (.cells #[.slice y1qa x1.schema.length y1qc, .slice y1ra x1.files.length y1rc, .int .i64 x1.next] 27)).cell? ⟨w9.heap.size, 2, none⟩ = some (.int .i64 x1.next) := by simp
                  have ga4 := Grew.alloc g9 (.cells #[.slice y1qa x1.schema.length y1qc, .slice y1ra x1.files.length y1rc, .int .i64 x1.next] 27)
                  go_wp2_with fail
                  refine (toDirS _ x2 _ (R2.out.grew ga4) (by omega) hms2.out).mono ?_
                  rintro e w10 ⟨y2, rfl, o_y2, s10⟩
                  have g10 : Grew w w10 := ga4.trans s10
                  replace bxf0_0 := grew_cell s10 bxf0_0
                  replace bxf0_1 := grew_cell s10 bxf0_1
                  replace bxf0_2 := grew_cell s10 bxf0_2
                  replace bxf1_0 := grew_cell s10 bxf1_0
                  replace bxf1_1 := grew_cell s10 bxf1_1
                  replace bxf1_2 := grew_cell s10 bxf1_2
                  replace bxy0_0 := grew_cell s10 bxy0_0
                  replace bxy0_1 := grew_cell s10 bxy0_1
                  replace bxy0_2 := grew_cell s10 bxy0_2
                  replace bxy1_0 := grew_cell s10 bxy1_0
                  replace bxy1_1 := grew_cell s10 bxy1_1
                  replace bxy1_2 := grew_cell s10 bxy1_2
                  replace o_y0 := o_y0.grew s10
                  replace o_y1 := o_y1.grew s10
                  go_wp2_with fail
                  refine (implEqualViews x0 ⟨.slice y0qa x0.schema.length y0qc, .slice y0ra x0.files.length y0rc, x0.next⟩ x1 ⟨.slice y1qa x1.schema.length y1qc, .slice y1ra x1.files.length y1rc, x1.next⟩ y2 x2 a3 _ o_y0.rd o_y1.rd o_y2.rd (by omega) hzz2 hzz0 hzz1).mono ?_
                  rintro e w11 ⟨rfl, s11⟩
                  have g11 : Grew w w11 := g10.trans s11
                  replace bxf0_0 := grew_cell s11 bxf0_0
                  replace bxf0_1 := grew_cell s11 bxf0_1
                  replace bxf0_2 := grew_cell s11 bxf0_2
                  replace bxf1_0 := grew_cell s11 bxf1_0
                  replace bxf1_1 := grew_cell s11 bxf1_1
                  replace bxf1_2 := grew_cell s11 bxf1_2
                  replace bxy0_0 := grew_cell s11 bxy0_0
                  replace bxy0_1 := grew_cell s11 bxy0_1
                  replace bxy0_2 := grew_cell s11 bxy0_2
                  replace bxy1_0 := grew_cell s11 bxy1_0
                  replace bxy1_1 := grew_cell s11 bxy1_1
                  replace bxy1_2 := grew_cell s11 bxy1_2
                  replace o_y0 := o_y0.grew s11
                  replace o_y1 := o_y1.grew s11
                  replace o_y2 := o_y2.grew s11
                  go_wp2
                  refine wp_region_noPanic ?_
                  refine wp_region_held_drew (S := (fun w' => (w'.cell? ⟨w.heap.size, 0, none⟩ = some (f0q) ∧ w'.cell? ⟨w.heap.size, 1, none⟩ = some (f0r) ∧ w'.cell? ⟨w.heap.size, 2, none⟩ = some (.int .i64 f0n) ∧ w'.cell? ⟨w.heap.size + 1, 0, none⟩ = some (f1q) ∧ w'.cell? ⟨w.heap.size + 1, 1, none⟩ = some (f1r) ∧ w'.cell? ⟨w.heap.size + 1, 2, none⟩ = some (.int .i64 f1n) ∧ w'.cell? ⟨w8.heap.size, 0, none⟩ = some (.slice y0qa x0.schema.length y0qc) ∧ w'.cell? ⟨w8.heap.size, 1, none⟩ = some (.slice y0ra x0.files.length y0rc) ∧ w'.cell? ⟨w8.heap.size, 2, none⟩ = some (.int .i64 x0.next) ∧ w'.cell? ⟨w9.heap.size, 0, none⟩ = some (.slice y1qa x1.schema.length y1qc) ∧ w'.cell? ⟨w9.heap.size, 1, none⟩ = some (.slice y1ra x1.files.length y1rc) ∧ w'.cell? ⟨w9.heap.size, 2, none⟩ = some (.int .i64 x1.next) ∧ Grew (w11) w'))) (by kernel_rfl) ?h2_S ?h2_r
                  case h2_S => exact ⟨bxf0_0, bxf0_1, bxf0_2, bxf1_0, bxf1_1, bxf1_2, bxy0_0, bxy0_1, bxy0_2, bxy1_0, bxy1_1, bxy1_2, (Grew.refl _).drew⟩
                  case h2_r =>
                    intro HS
                    first
                      | refine sk 0 rfl (by kernel_rfl) rfl HS ?_
                      | (refine tk (v := ?v2_0) 0 rfl (by kernel_rfl) rfl ?y2_0 HS ?_; case y2_0 => (intro w' hSw; (try dsimp only at hSw); go_simp <;> (with_reducible rfl)))
                    try simp only [Act.put, List.setIfInBounds_toArray, List.set_cons_zero, List.set_cons_succ]
                    first
                      | refine sk 1 rfl (by kernel_rfl) rfl HS ?_
                      | (refine tk (v := ?v2_1) 1 rfl (by kernel_rfl) rfl ?y2_1 HS ?_; case y2_1 => (intro w' hSw; (try dsimp only at hSw); go_simp <;> (with_reducible rfl)))
                    try simp only [Act.put, List.setIfInBounds_toArray, List.set_cons_zero, List.set_cons_succ]
                    refine cl 2 rfl (by kernel_rfl) (fun K hK => ?_)
                    go_simp
                    go_at_call 68; refine (toStore x0 ⟨f0q, f0r, f0n⟩ _ (R0.out.grew (g11.trans HS.2.2.2.2.2.2.2.2.2.2.2.2)) hms0.out).mono ?_; rintro e wz0 ⟨⟨z0q, z0r, z0n⟩, rfl, o_z0, d_z0, hb⟩
                    refine hK.out _ _ ?s2_2 ?r2_2
                    case s2_2 => (try dsimp only); exact ⟨grew_cell hb HS.1, grew_cell hb HS.2.1, grew_cell hb HS.2.2.1, grew_cell hb HS.2.2.2.1, grew_cell hb HS.2.2.2.2.1, grew_cell hb HS.2.2.2.2.2.1, grew_cell hb HS.2.2.2.2.2.2.1, grew_cell hb HS.2.2.2.2.2.2.2.1, grew_cell hb HS.2.2.2.2.2.2.2.2.1, grew_cell hb HS.2.2.2.2.2.2.2.2.2.1, grew_cell hb HS.2.2.2.2.2.2.2.2.2.2.1, grew_cell hb HS.2.2.2.2.2.2.2.2.2.2.2.1, HS.2.2.2.2.2.2.2.2.2.2.2.2.trans hb⟩
                    case r2_2 =>
                      clear HS
                      intro HS
                      clear hK K
                      try simp only [Act.put, List.setIfInBounds_toArray, List.set_cons_zero, List.set_cons_succ]
                      refine cl 3 rfl (by kernel_rfl) (fun K hK => ?_)
                      go_simp
                      go_at_call 70; refine (eqStore x0 ⟨.slice y0qa x0.schema.length y0qc, .slice y0ra x0.files.length y0rc, x0.next⟩ ⟨z0q, z0r, z0n⟩ _ (o_y0.grew HS.2.2.2.2.2.2.2.2.2.2.2.2).rd o_z0.rd hms0.out).mono ?_; rintro e wy0 ⟨rfl, hb⟩
                      refine hK.out _ _ ?s2_3 ?r2_3
                      case s2_3 => (try dsimp only); exact ⟨grew_cell hb HS.1, grew_cell hb HS.2.1, grew_cell hb HS.2.2.1, grew_cell hb HS.2.2.2.1, grew_cell hb HS.2.2.2.2.1, grew_cell hb HS.2.2.2.2.2.1, grew_cell hb HS.2.2.2.2.2.2.1, grew_cell hb HS.2.2.2.2.2.2.2.1, grew_cell hb HS.2.2.2.2.2.2.2.2.1, grew_cell hb HS.2.2.2.2.2.2.2.2.2.1, grew_cell hb HS.2.2.2.2.2.2.2.2.2.2.1, grew_cell hb HS.2.2.2.2.2.2.2.2.2.2.2.1, HS.2.2.2.2.2.2.2.2.2.2.2.2.trans hb⟩
                      case r2_3 =>
                        clear HS
                        intro HS
                        clear hK K
                        try simp only [Act.put, List.setIfInBounds_toArray, List.set_cons_zero, List.set_cons_succ]
                        first
                          | refine sk 4 rfl (by kernel_rfl) rfl HS ?_
                          | (refine tk (v := ?v2_4) 4 rfl (by kernel_rfl) rfl ?y2_4 HS ?_; case y2_4 => (intro w' hSw; (try dsimp only at hSw); go_simp <;> (with_reducible rfl)))
                        try simp only [Act.put, List.setIfInBounds_toArray, List.set_cons_zero, List.set_cons_succ]
                        refine wpAnyH_done (by kernel_rfl) ?_ _
                        refine NoPanic.normal ?_
                        have sd2 : Grew (w11) wy0 := HS.2.2.2.2.2.2.2.2.2.2.2.2
                        have gd2 := g11.trans sd2
                        replace o_y0 := o_y0.grew sd2
                        replace o_y1 := o_y1.grew sd2
                        replace o_y2 := o_y2.grew sd2
                        replace bxf0_0 := HS.1
                        replace bxf0_1 := HS.2.1
                        replace bxf0_2 := HS.2.2.1
                        replace bxf1_0 := HS.2.2.2.1
                        replace bxf1_1 := HS.2.2.2.2.1
                        replace bxf1_2 := HS.2.2.2.2.2.1
                        replace bxy0_0 := HS.2.2.2.2.2.2.1
                        replace bxy0_1 := HS.2.2.2.2.2.2.2.1
                        replace bxy0_2 := HS.2.2.2.2.2.2.2.2.1
                        replace bxy1_0 := HS.2.2.2.2.2.2.2.2.2.1
                        replace bxy1_1 := HS.2.2.2.2.2.2.2.2.2.2.1
                        replace bxy1_2 := HS.2.2.2.2.2.2.2.2.2.2.2.1
                        clear HS
                        go_wp2
                        refine wp_region_noPanic ?_
                        refine wp_region_held_drew (S := (fun w' => (w'.cell? ⟨w.heap.size, 0, none⟩ = some (f0q) ∧ w'.cell? ⟨w.heap.size, 1, none⟩ = some (f0r) ∧ w'.cell? ⟨w.heap.size, 2, none⟩ = some (.int .i64 f0n) ∧ w'.cell? ⟨w.heap.size + 1, 0, none⟩ = some (f1q) ∧ w'.cell? ⟨w.heap.size + 1, 1, none⟩ = some (f1r) ∧ w'.cell? ⟨w.heap.size + 1, 2, none⟩ = some (.int .i64 f1n) ∧ w'.cell? ⟨w8.heap.size, 0, none⟩ = some (.slice y0qa x0.schema.length y0qc) ∧ w'.cell? ⟨w8.heap.size, 1, none⟩ = some (.slice y0ra x0.files.length y0rc) ∧ w'.cell? ⟨w8.heap.size, 2, none⟩ = some (.int .i64 x0.next) ∧ w'.cell? ⟨w9.heap.size, 0, none⟩ = some (.slice y1qa x1.schema.length y1qc) ∧ w'.cell? ⟨w9.heap.size, 1, none⟩ = some (.slice y1ra x1.files.length y1rc) ∧ w'.cell? ⟨w9.heap.size, 2, none⟩ = some (.int .i64 x1.next) ∧ Grew (wy0) w'))) (by kernel_rfl) ?h3_S ?h3_r
                        case h3_S => exact ⟨bxf0_0, bxf0_1, bxf0_2, bxf1_0, bxf1_1, bxf1_2, bxy0_0, bxy0_1, bxy0_2, bxy1_0, bxy1_1, bxy1_2, (Grew.refl _).drew⟩
                        case h3_r =>
                          intro HS
                          first
                            | refine sk 0 rfl (by kernel_rfl) rfl HS ?_
                            | (refine tk (v := ?v3_0) 0 rfl (by kernel_rfl) rfl ?y3_0 HS ?_; case y3_0 => (intro w' hSw; (try dsimp only at hSw); go_simp <;> (with_reducible rfl)))
                          try simp only [Act.put, List.setIfInBounds_toArray, List.set_cons_zero, List.set_cons_succ]
                          first
                            | refine sk 1 rfl (by kernel_rfl) rfl HS ?_
                            | (refine tk (v := ?v3_1) 1 rfl (by kernel_rfl) rfl ?y3_1 HS ?_; case y3_1 => (intro w' hSw; (try dsimp only at hSw); go_simp <;> (with_reducible rfl)))
                          try simp only [Act.put, List.setIfInBounds_toArray, List.set_cons_zero, List.set_cons_succ]
                          refine cl 2 rfl (by kernel_rfl) (fun K hK => ?_)
                          go_simp
                          go_at_call 68; refine (toStore x1 ⟨f1q, f1r, f1n⟩ _ (R1.out.grew (gd2.trans HS.2.2.2.2.2.2.2.2.2.2.2.2)) hms1.out).mono ?_; rintro e wz1 ⟨⟨z1q, z1r, z1n⟩, rfl, o_z1, d_z1, hb⟩
                          refine hK.out _ _ ?s3_2 ?r3_2
                          case s3_2 => (try dsimp only); exact ⟨grew_cell hb HS.1, grew_cell hb HS.2.1, grew_cell hb HS.2.2.1, grew_cell hb HS.2.2.2.1, grew_cell hb HS.2.2.2.2.1, grew_cell hb HS.2.2.2.2.2.1, grew_cell hb HS.2.2.2.2.2.2.1, grew_cell hb HS.2.2.2.2.2.2.2.1, grew_cell hb HS.2.2.2.2.2.2.2.2.1, grew_cell hb HS.2.2.2.2.2.2.2.2.2.1, grew_cell hb HS.2.2.2.2.2.2.2.2.2.2.1, grew_cell hb HS.2.2.2.2.2.2.2.2.2.2.2.1, HS.2.2.2.2.2.2.2.2.2.2.2.2.trans hb⟩
                          case r3_2 =>
                            clear HS
                            intro HS
                            clear hK K
                            try simp only [Act.put, List.setIfInBounds_toArray, List.set_cons_zero, List.set_cons_succ]
                            refine cl 3 rfl (by kernel_rfl) (fun K hK => ?_)
                            go_simp
                            go_at_call 70; refine (eqStore x1 ⟨.slice y1qa x1.schema.length y1qc, .slice y1ra x1.files.length y1rc, x1.next⟩ ⟨z1q, z1r, z1n⟩ _ (o_y1.grew HS.2.2.2.2.2.2.2.2.2.2.2.2).rd o_z1.rd hms1.out).mono ?_; rintro e wy1 ⟨rfl, hb⟩
                            refine hK.out _ _ ?s3_3 ?r3_3
                            case s3_3 => (try dsimp only); exact ⟨grew_cell hb HS.1, grew_cell hb HS.2.1, grew_cell hb HS.2.2.1, grew_cell hb HS.2.2.2.1, grew_cell hb HS.2.2.2.2.1, grew_cell hb HS.2.2.2.2.2.1, grew_cell hb HS.2.2.2.2.2.2.1, grew_cell hb HS.2.2.2.2.2.2.2.1, grew_cell hb HS.2.2.2.2.2.2.2.2.1, grew_cell hb HS.2.2.2.2.2.2.2.2.2.1, grew_cell hb HS.2.2.2.2.2.2.2.2.2.2.1, grew_cell hb HS.2.2.2.2.2.2.2.2.2.2.2.1, HS.2.2.2.2.2.2.2.2.2.2.2.2.trans hb⟩
                            case r3_3 =>
                              clear HS
                              intro HS
                              clear hK K
                              try simp only [Act.put, List.setIfInBounds_toArray, List.set_cons_zero, List.set_cons_succ]
                              first
                                | refine sk 4 rfl (by kernel_rfl) rfl HS ?_
                                | (refine tk (v := ?v3_4) 4 rfl (by kernel_rfl) rfl ?y3_4 HS ?_; case y3_4 => (intro w' hSw; (try dsimp only at hSw); go_simp <;> (with_reducible rfl)))
                              try simp only [Act.put, List.setIfInBounds_toArray, List.set_cons_zero, List.set_cons_succ]
                              refine wpAnyH_done (by kernel_rfl) ?_ _
                              refine NoPanic.normal ?_
                              have sd3 : Grew (wy0) wy1 := HS.2.2.2.2.2.2.2.2.2.2.2.2
                              have gd3 := gd2.trans sd3
                              replace o_y0 := o_y0.grew sd3
                              replace o_y1 := o_y1.grew sd3
                              replace o_y2 := o_y2.grew sd3
                              replace bxf0_0 := HS.1
                              replace bxf0_1 := HS.2.1
                              replace bxf0_2 := HS.2.2.1
                              replace bxf1_0 := HS.2.2.2.1
                              replace bxf1_1 := HS.2.2.2.2.1
                              replace bxf1_2 := HS.2.2.2.2.2.1
                              replace bxy0_0 := HS.2.2.2.2.2.2.1
                              replace bxy0_1 := HS.2.2.2.2.2.2.2.1
                              replace bxy0_2 := HS.2.2.2.2.2.2.2.2.1
                              replace bxy1_0 := HS.2.2.2.2.2.2.2.2.2.1
                              replace bxy1_1 := HS.2.2.2.2.2.2.2.2.2.2.1
                              replace bxy1_2 := HS.2.2.2.2.2.2.2.2.2.2.2.1
                              clear HS
                              go_wp2_with fail
                              refine (toDirS _ x2 _ (R2.out.grew gd3) (by omega) hms2.out).mono ?_
                              rintro e w12 ⟨z2, rfl, o_z2, s12⟩
                              have g12 : Grew w w12 := gd3.trans s12
                              replace bxf0_0 := grew_cell s12 bxf0_0
                              replace bxf0_1 := grew_cell s12 bxf0_1
                              replace bxf0_2 := grew_cell s12 bxf0_2
                              replace bxf1_0 := grew_cell s12 bxf1_0
                              replace bxf1_1 := grew_cell s12 bxf1_1
                              replace bxf1_2 := grew_cell s12 bxf1_2
                              replace bxy0_0 := grew_cell s12 bxy0_0
                              replace bxy0_1 := grew_cell s12 bxy0_1
                              replace bxy0_2 := grew_cell s12 bxy0_2
                              replace bxy1_0 := grew_cell s12 bxy1_0
                              replace bxy1_1 := grew_cell s12 bxy1_1
                              replace bxy1_2 := grew_cell s12 bxy1_2
                              replace o_y0 := o_y0.grew s12
                              replace o_y1 := o_y1.grew s12
                              replace o_y2 := o_y2.grew s12
                              go_wp2_with fail
                              refine (eqDirS _ _ x2 _ o_y2.rd o_z2.rd (by omega) hms2.out).mono ?_
                              rintro e w13 ⟨rfl, s13⟩
                              have g13 : Grew w w13 := g12.trans s13
                              replace bxf0_0 := grew_cell s13 bxf0_0
                              replace bxf0_1 := grew_cell s13 bxf0_1
                              replace bxf0_2 := grew_cell s13 bxf0_2
                              replace bxf1_0 := grew_cell s13 bxf1_0
                              replace bxf1_1 := grew_cell s13 bxf1_1
                              replace bxf1_2 := grew_cell s13 bxf1_2
                              replace bxy0_0 := grew_cell s13 bxy0_0
                              replace bxy0_1 := grew_cell s13 bxy0_1
                              replace bxy0_2 := grew_cell s13 bxy0_2
                              replace bxy1_0 := grew_cell s13 bxy1_0
                              replace bxy1_1 := grew_cell s13 bxy1_1
                              replace bxy1_2 := grew_cell s13 bxy1_2
                              replace o_y0 := o_y0.grew s13
                              replace o_y1 := o_y1.grew s13
                              replace o_y2 := o_y2.grew s13
                              replace o_z2 := o_z2.grew s13
                              go_wp2
                              go_ret
                              exact ⟨rfl, g13⟩
end Go.Proofs.YtejgpghcahinhaaGreat.fnExactEqualViews
