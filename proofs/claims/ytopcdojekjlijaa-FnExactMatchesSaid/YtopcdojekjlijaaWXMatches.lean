/- The walk of laws.FnExactMatches, out of the contracts of the two functions. -/
import Derived.Test.YtopcdojekjlijaaG
import Derived.Test.YtopcdojekjlijaaM3
import Derived.Test.YtopcdojekjlijaaS
import Derived.Test.YtopcdojekjlijaaO2
namespace Go.Proofs.Ytopcdojekjlijaa.fnExactMatches
open Go.RowKit
set_option linter.unusedVariables false
set_option maxRecDepth 100000 in
set_option maxHeartbeats 1000000 in
theorem walkLaw (w : World) (u0 : Value) (n0 : Nat) (x0 : List N) (hr0 : Rd w u0 7 n0 (rows N.c x0)) (hn0 : n0 ≤ maxLen) (ho0 : ∀ a : N, a ∈ x0 → a.ok) (q1 : P5) (x1 : Fl) (hr1 : Fl.R w x1 q1) (ho1 : x1.ok0) (u2 : Value) (x2 : List Rs) (hr2 : RdRs w u2 x2) (hn2 : x2.length ≤ maxLen) (ho2 : ∀ x, x ∈ x2 → x.ok0) :
    Calls Try.prog 3 #[u0, .agg (q1.c).toArray, u2] w fun e w' => e = .returned (.bool true) ∧ Grew w w' := by
  have R0 := Lib.hid hr0
  have O0 : Hid (∀ a : N, a ∈ x0 → a.ok0) := fun a h => ⟨(ho0 a h).2.2.2.1, (ho0 a h).2.2.2.2.2.2⟩
  obtain ⟨sa0, sc0, rfl, hc0, hra0⟩ := hr0
  clear ho0 hra0
  have R1 := Lib.hid hr1
  have O1 := Lib.hid ho1
  obtain ⟨f1i, f1o, f1s, f1l, f1q⟩ := q1
  clear hr1 ho1
  have R2 := Lib.hid hr2
  have O2 := Lib.hid ho2
  obtain ⟨ps2, ⟨sa2, sc2, rfl, hc2, hra2⟩, hall2⟩ := hr2
  clear ho2 hra2 hall2
  change Calls Try.prog 3 #[_, .agg #[.int .i64 f1i, .int .i64 f1o, .bool f1s, .int .i64 f1l, f1q], _] w _
  go_enter Try.func3, Try.ntmps3
  have bxf1_0 : (w.alloc (.cells #[.int .i64 f1i, .int .i64 f1o, .bool f1s, .int .i64 f1l, f1q] 25)).cell? ⟨w.heap.size, 0, none⟩ = some (.int .i64 f1i) := by simp
  have bxf1_1 : (w.alloc (.cells #[.int .i64 f1i, .int .i64 f1o, .bool f1s, .int .i64 f1l, f1q] 25)).cell? ⟨w.heap.size, 1, none⟩ = some (.int .i64 f1o) := by simp
  have bxf1_2 : (w.alloc (.cells #[.int .i64 f1i, .int .i64 f1o, .bool f1s, .int .i64 f1l, f1q] 25)).cell? ⟨w.heap.size, 2, none⟩ = some (.bool f1s) := by simp
  have bxf1_3 : (w.alloc (.cells #[.int .i64 f1i, .int .i64 f1o, .bool f1s, .int .i64 f1l, f1q] 25)).cell? ⟨w.heap.size, 3, none⟩ = some (.int .i64 f1l) := by simp
  have bxf1_4 : (w.alloc (.cells #[.int .i64 f1i, .int .i64 f1o, .bool f1s, .int .i64 f1l, f1q] 25)).cell? ⟨w.heap.size, 4, none⟩ = some (f1q) := by simp
  have ga1 := Grew.alloc (Grew.refl w) (.cells #[.int .i64 f1i, .int .i64 f1o, .bool f1s, .int .i64 f1l, f1q] 25)
  go_wp2_with fail
  refine (szNodeS _ n0 x0 _ _ (R0.out.grew ga1) hn0 O0.out (by omega) (by omega)).mono ?_
  rintro e w1 ⟨r0, rfl, hl0, s1⟩
  have g1 : Grew w w1 := ga1.trans s1
  replace bxf1_0 := grew_cell s1 bxf1_0
  replace bxf1_1 := grew_cell s1 bxf1_1
  replace bxf1_2 := grew_cell s1 bxf1_2
  replace bxf1_3 := grew_cell s1 bxf1_3
  replace bxf1_4 := grew_cell s1 bxf1_4
  rcases hl0 with rfl | ⟨hl0, hp0⟩
  · go_wp2
    go_ret
    exact ⟨rfl, g1⟩
  · have hle0 : r0 ≤ 1048576 := by omega
    have hsm0 : n0 ≤ 4000000 := by omega
    have hzz0 : szAll N.sz x0 ≤ 4000000 := by omega
    have HL0 := Lib.hid hl0
    clear hl0
    go_wp2_with fail
    refine (szFile x1 ⟨f1i, f1o, f1s, f1l, f1q⟩ _ _ (R1.out.grew g1) O1.out (by omega) (by omega)).mono ?_
    rintro e w2 ⟨r1, rfl, hl1, s2⟩
    have g2 : Grew w w2 := g1.trans s2
    replace bxf1_0 := grew_cell s2 bxf1_0
    replace bxf1_1 := grew_cell s2 bxf1_1
    replace bxf1_2 := grew_cell s2 bxf1_2
    replace bxf1_3 := grew_cell s2 bxf1_3
    replace bxf1_4 := grew_cell s2 bxf1_4
    rcases hl1 with rfl | ⟨hl1, hp1⟩
    · go_wp2
      go_ret
      exact ⟨rfl, g2⟩
    · have hle1 : r1 ≤ 1048576 := by omega
      have hzt1 : x1.sz ≤ 1048576 := by omega
      have hzz1 : x1.sz ≤ 4000000 := by omega
      have hms1 := Lib.hid (Fl.small_of hzz1)
      have HL1 := Lib.hid hl1
      clear hl1
      go_wp2_with fail
      refine (szResultS _ x2 _ _ (R2.out.grew g2) hn2 O2.out (by omega) (by omega)).mono ?_
      rintro e w3 ⟨r2, rfl, hl2, s3⟩
      have g3 : Grew w w3 := g2.trans s3
      replace bxf1_0 := grew_cell s3 bxf1_0
      replace bxf1_1 := grew_cell s3 bxf1_1
      replace bxf1_2 := grew_cell s3 bxf1_2
      replace bxf1_3 := grew_cell s3 bxf1_3
      replace bxf1_4 := grew_cell s3 bxf1_4
      rcases hl2 with rfl | ⟨hl2, hp2⟩
      · go_wp2
        go_ret
        exact ⟨rfl, g3⟩
      · have hle2 : r2 ≤ 1048576 := by omega
        have hst2 : x2.length ≤ 1048576 := by omega
        have hsm2 : x2.length ≤ 4000000 := by omega
        have hzz2 : szAll Rs.sz x2 ≤ 4000000 := by omega
        have hms2 := Lib.hid (fun x (hx : x ∈ x2) => Rs.small_of (Nat.le_trans (mem_szAll hx) hzz2))
        have HL2 := Lib.hid hl2
        clear hl2
        go_wp2_with fail
        refine wp_region_noPanic ?_
        refine wp_region_held_drew (S := (fun w' => (w'.cell? ⟨w.heap.size, 0, none⟩ = some (.int .i64 f1i) ∧ w'.cell? ⟨w.heap.size, 1, none⟩ = some (.int .i64 f1o) ∧ w'.cell? ⟨w.heap.size, 2, none⟩ = some (.bool f1s) ∧ w'.cell? ⟨w.heap.size, 3, none⟩ = some (.int .i64 f1l) ∧ w'.cell? ⟨w.heap.size, 4, none⟩ = some (f1q) ∧ Grew (w3) w'))) (by kernel_rfl) ?h1_S ?h1_r
        case h1_S => exact ⟨bxf1_0, bxf1_1, bxf1_2, bxf1_3, bxf1_4, (Grew.refl _).drew⟩
        case h1_r =>
          intro HS
          first
            | refine sk 0 rfl (by kernel_rfl) rfl HS ?_
            | (refine tk (v := ?v1_0) 0 rfl (by kernel_rfl) rfl ?y1_0 HS ?_; case y1_0 => (intro w' hSw; (try dsimp only at hSw); go_simp <;> (with_reducible rfl)))
          try simp only [Act.put, List.setIfInBounds_toArray, List.set_cons_zero, List.set_cons_succ]
          first
            | refine sk 2 rfl (by kernel_rfl) rfl HS ?_
            | (refine tk (v := ?v1_2) 2 rfl (by kernel_rfl) rfl ?y1_2 HS ?_; case y1_2 => (intro w' hSw; (try dsimp only at hSw); go_simp <;> (with_reducible rfl)))
          try simp only [Act.put, List.setIfInBounds_toArray, List.set_cons_zero, List.set_cons_succ]
          first
            | refine sk 4 rfl (by kernel_rfl) rfl HS ?_
            | (refine tk (v := ?v1_4) 4 rfl (by kernel_rfl) rfl ?y1_4 HS ?_; case y1_4 => (intro w' hSw; (try dsimp only at hSw); go_simp <;> (with_reducible rfl)))
          try simp only [Act.put, List.setIfInBounds_toArray, List.set_cons_zero, List.set_cons_succ]
          refine cl 1 rfl (by kernel_rfl) (fun K hK => ?_)
          go_simp
          go_at_call 17
          refine (toNodeS _ n0 x0 _ (R0.out.grew (g3.trans HS.2.2.2.2.2)) (by omega)).mono ?_
          rintro e w4 ⟨c0, rfl, o_c0, hb⟩
          have pz4 := Lib.hid hb.size
          have o_c0 := Own.of o_c0
          refine hK.out _ _ ?s1_1 ?r1_1
          case s1_1 => (try dsimp only); exact ⟨grew_cell hb HS.1, grew_cell hb HS.2.1, grew_cell hb HS.2.2.1, grew_cell hb HS.2.2.2.1, grew_cell hb HS.2.2.2.2.1, HS.2.2.2.2.2.trans hb⟩
          case r1_1 =>
            clear HS
            intro HS
            clear hK K
            try simp only [Act.put, List.setIfInBounds_toArray, List.set_cons_zero, List.set_cons_succ]
            refine cl 3 rfl (by kernel_rfl) (fun K hK => ?_)
            go_simp
            go_at_call 18
            refine (toFile x1 ⟨f1i, f1o, f1s, f1l, f1q⟩ _ (R1.out.grew (g3.trans HS.2.2.2.2.2)) hms1.out).mono ?_
            rintro e w5 ⟨⟨c1i, c1o, c1s, c1l, c1q⟩, rfl, o_c1, d_c1, hb⟩
            have pz5 := Lib.hid hb.size
            clear d_c1
            replace o_c0 := o_c0.grew hb
            refine hK.out _ _ ?s1_3 ?r1_3
            case s1_3 => (try dsimp only); exact ⟨grew_cell hb HS.1, grew_cell hb HS.2.1, grew_cell hb HS.2.2.1, grew_cell hb HS.2.2.2.1, grew_cell hb HS.2.2.2.2.1, HS.2.2.2.2.2.trans hb⟩
            case r1_3 =>
              clear HS
              intro HS
              clear hK K
              try simp only [Act.put, List.setIfInBounds_toArray, List.set_cons_zero, List.set_cons_succ]
              refine cl 5 rfl (by kernel_rfl) (fun K hK => ?_)
              go_simp
              go_at_call 19
              refine (toResultS _ x2 _ (R2.out.grew (g3.trans HS.2.2.2.2.2)) (by omega) hms2.out).mono ?_
              rintro e w6 ⟨c2, rfl, o_c2, hb⟩
              have pz6 := Lib.hid hb.size
              replace o_c0 := o_c0.grew hb
              replace o_c1 := o_c1.grew hb
              refine hK.out _ _ ?s1_5 ?r1_5
              case s1_5 => (try dsimp only); exact ⟨grew_cell hb HS.1, grew_cell hb HS.2.1, grew_cell hb HS.2.2.1, grew_cell hb HS.2.2.2.1, grew_cell hb HS.2.2.2.2.1, HS.2.2.2.2.2.trans hb⟩
              case r1_5 =>
                clear HS
                intro HS
                clear hK K
                try simp only [Act.put, List.setIfInBounds_toArray, List.set_cons_zero, List.set_cons_succ]
                refine cl 6 rfl (by kernel_rfl) (fun K hK => ?_)
                go_simp
                go_at_call 16
                refine (specMatches c0 x0 x1 ⟨c1i, c1o, c1s, c1l, c1q⟩ c2 x2 _ (Rd.fix7 o_c0.rd) o_c1.rd o_c2.rd (by have := Rd.fix7n o_c0.rd; omega) hzz0 hms1.out (by omega) hms2.out).mono ?_
                rintro e w7 ⟨rfl, hb⟩
                have pz7 := Lib.hid hb.size
                replace o_c0 := o_c0.grew hb
                replace o_c1 := o_c1.grew hb
                replace o_c2 := o_c2.grew hb
                refine hK.out _ _ ?s1_6 ?r1_6
                case s1_6 => (try dsimp only); exact ⟨grew_cell hb HS.1, grew_cell hb HS.2.1, grew_cell hb HS.2.2.1, grew_cell hb HS.2.2.2.1, grew_cell hb HS.2.2.2.2.1, HS.2.2.2.2.2.trans hb⟩
                case r1_6 =>
                  clear HS
                  intro HS
                  clear hK K
                  try simp only [Act.put, List.setIfInBounds_toArray, List.set_cons_zero, List.set_cons_succ]
                  first
                    | refine sk 7 rfl (by kernel_rfl) rfl HS ?_
                    | (refine tk (v := ?v1_7) 7 rfl (by kernel_rfl) rfl ?y1_7 HS ?_; case y1_7 => (intro w' hSw; (try dsimp only at hSw); go_simp <;> (with_reducible rfl)))
                  try simp only [Act.put, List.setIfInBounds_toArray, List.set_cons_zero, List.set_cons_succ]
                  refine wpAnyH_done (by kernel_rfl) ?_ _
                  refine NoPanic.normal ?_
                  have sd1 : Grew (w3) w7 := HS.2.2.2.2.2
                  have gd1 := g3.trans sd1
                  replace bxf1_0 := HS.1
                  replace bxf1_1 := HS.2.1
                  replace bxf1_2 := HS.2.2.1
                  replace bxf1_3 := HS.2.2.2.1
                  replace bxf1_4 := HS.2.2.2.2.1
                  clear HS
                  go_wp2_with fail
                  refine (toNodeS _ n0 x0 _ (R0.out.grew gd1) (by omega)).mono ?_
                  rintro e w8 ⟨y0, rfl, o_y0, s8⟩
                  have g8 : Grew w w8 := gd1.trans s8
                  replace bxf1_0 := grew_cell s8 bxf1_0
                  replace bxf1_1 := grew_cell s8 bxf1_1
                  replace bxf1_2 := grew_cell s8 bxf1_2
                  replace bxf1_3 := grew_cell s8 bxf1_3
                  replace bxf1_4 := grew_cell s8 bxf1_4
                  have o_y0 := Own.of o_y0
                  go_wp2_with fail
                  refine (toFile x1 ⟨f1i, f1o, f1s, f1l, f1q⟩ _ (R1.out.grew g8) hms1.out).mono ?_
                  rintro e w9 ⟨⟨y1i, y1o, y1s, y1l, y1q⟩, rfl, o_y1, d_y1, s9⟩
                  have g9 : Grew w w9 := g8.trans s9
                  replace bxf1_0 := grew_cell s9 bxf1_0
                  replace bxf1_1 := grew_cell s9 bxf1_1
                  replace bxf1_2 := grew_cell s9 bxf1_2
                  replace bxf1_3 := grew_cell s9 bxf1_3
                  replace bxf1_4 := grew_cell s9 bxf1_4
                  replace d_y1 := Lib.hid d_y1
                  replace o_y0 := o_y0.grew s9
                  obtain ⟨y1qa, y1qc, rfl⟩ := own_slice o_y1.2.2.2.2.1
                  replace o_y0 := o_y0.grew ((Grew.refl _).alloc (.cells #[.int .i64 y1i, .int .i64 y1o, .bool y1s, .int .i64 y1l, .slice y1qa x1.attrs.length y1qc] 35))
                  replace o_y1 := o_y1.grew ((Grew.refl _).alloc (.cells #[.int .i64 y1i, .int .i64 y1o, .bool y1s, .int .i64 y1l, .slice y1qa x1.attrs.length y1qc] 35))
                  replace bxf1_0 := grew_cell ((Grew.refl _).alloc (.cells #[.int .i64 y1i, .int .i64 y1o, .bool y1s, .int .i64 y1l, .slice y1qa x1.attrs.length y1qc] 35)) bxf1_0
                  replace bxf1_1 := grew_cell ((Grew.refl _).alloc (.cells #[.int .i64 y1i, .int .i64 y1o, .bool y1s, .int .i64 y1l, .slice y1qa x1.attrs.length y1qc] 35)) bxf1_1
                  replace bxf1_2 := grew_cell ((Grew.refl _).alloc (.cells #[.int .i64 y1i, .int .i64 y1o, .bool y1s, .int .i64 y1l, .slice y1qa x1.attrs.length y1qc] 35)) bxf1_2
                  replace bxf1_3 := grew_cell ((Grew.refl _).alloc (.cells #[.int .i64 y1i, .int .i64 y1o, .bool y1s, .int .i64 y1l, .slice y1qa x1.attrs.length y1qc] 35)) bxf1_3
                  replace bxf1_4 := grew_cell ((Grew.refl _).alloc (.cells #[.int .i64 y1i, .int .i64 y1o, .bool y1s, .int .i64 y1l, .slice y1qa x1.attrs.length y1qc] 35)) bxf1_4
                  have bxy1_0 : (w9.alloc (.cells #[.int .i64 y1i, .int .i64 y1o, .bool y1s, .int .i64 y1l, .slice y1qa x1.attrs.length y1qc] 35)).cell? ⟨w9.heap.size, 0, none⟩ = some (.int .i64 y1i) := by simp
                  have bxy1_1 : (w9.alloc (.cells #[.int .i64 y1i, .int .i64 y1o, .bool y1s, .int .i64 y1l, .slice y1qa x1.attrs.length y1qc] 35)).cell? ⟨w9.heap.size, 1, none⟩ = some (.int .i64 y1o) := by simp
                  have bxy1_2 : (w9.alloc (.cells #[.int .i64 y1i, .int .i64 y1o, .bool y1s, .int .i64 y1l, .slice y1qa x1.attrs.length y1qc] 35)).cell? ⟨w9.heap.size, 2, none⟩ = some (.bool y1s) := by simp
                  have bxy1_3 : (w9.alloc (.cells #[.int .i64 y1i, .int .i64 y1o, .bool y1s, .int .i64 y1l, .slice y1qa x1.attrs.length y1qc] 35)).cell? ⟨w9.heap.size, 3, none⟩ = some (.int .i64 y1l) := by simp
                  have bxy1_4 : (w9.alloc (.cells #[.int .i64 y1i, .int .i64 y1o, .bool y1s, .int .i64 y1l, .slice y1qa x1.attrs.length y1qc] 35)).cell? ⟨w9.heap.size, 4, none⟩ = some (.slice y1qa x1.attrs.length y1qc) := by simp
                  have ga2 := Grew.alloc g9 (.cells #[.int .i64 y1i, .int .i64 y1o, .bool y1s, .int .i64 y1l, .slice y1qa x1.attrs.length y1qc] 35)
                  go_wp2_with fail
                  refine (toResultS _ x2 _ (R2.out.grew ga2) (by omega) hms2.out).mono ?_
                  rintro e w10 ⟨y2, rfl, o_y2, s10⟩
                  have g10 : Grew w w10 := ga2.trans s10
                  replace bxf1_0 := grew_cell s10 bxf1_0
                  replace bxf1_1 := grew_cell s10 bxf1_1
                  replace bxf1_2 := grew_cell s10 bxf1_2
                  replace bxf1_3 := grew_cell s10 bxf1_3
                  replace bxf1_4 := grew_cell s10 bxf1_4
                  replace bxy1_0 := grew_cell s10 bxy1_0
                  replace bxy1_1 := grew_cell s10 bxy1_1
                  replace bxy1_2 := grew_cell s10 bxy1_2
                  replace bxy1_3 := grew_cell s10 bxy1_3
                  replace bxy1_4 := grew_cell s10 bxy1_4
                  replace o_y0 := o_y0.grew s10
                  replace o_y1 := o_y1.grew s10
                  go_wp2_with fail
                  refine (implMatches y0 x0 x1 ⟨y1i, y1o, y1s, y1l, .slice y1qa x1.attrs.length y1qc⟩ y2 x2 _ (Rd.fix7 o_y0.rd) o_y1.rd o_y2.rd (by have := Rd.fix7n o_y0.rd; omega) hzz0 hms1.out (by omega) hms2.out).mono ?_
                  rintro e w11 ⟨rfl, s11⟩
                  have g11 : Grew w w11 := g10.trans s11
                  replace bxf1_0 := grew_cell s11 bxf1_0
                  replace bxf1_1 := grew_cell s11 bxf1_1
                  replace bxf1_2 := grew_cell s11 bxf1_2
                  replace bxf1_3 := grew_cell s11 bxf1_3
                  replace bxf1_4 := grew_cell s11 bxf1_4
                  replace bxy1_0 := grew_cell s11 bxy1_0
                  replace bxy1_1 := grew_cell s11 bxy1_1
                  replace bxy1_2 := grew_cell s11 bxy1_2
                  replace bxy1_3 := grew_cell s11 bxy1_3
                  replace bxy1_4 := grew_cell s11 bxy1_4
                  replace o_y0 := o_y0.grew s11
                  replace o_y1 := o_y1.grew s11
                  replace o_y2 := o_y2.grew s11
                  go_wp2_with fail
                  refine (toNodeS _ n0 x0 _ (R0.out.grew g11) (by omega)).mono ?_
                  rintro e w12 ⟨z0, rfl, o_z0, s12⟩
                  have g12 : Grew w w12 := g11.trans s12
                  replace bxf1_0 := grew_cell s12 bxf1_0
                  replace bxf1_1 := grew_cell s12 bxf1_1
                  replace bxf1_2 := grew_cell s12 bxf1_2
                  replace bxf1_3 := grew_cell s12 bxf1_3
                  replace bxf1_4 := grew_cell s12 bxf1_4
                  replace bxy1_0 := grew_cell s12 bxy1_0
                  replace bxy1_1 := grew_cell s12 bxy1_1
                  replace bxy1_2 := grew_cell s12 bxy1_2
                  replace bxy1_3 := grew_cell s12 bxy1_3
                  replace bxy1_4 := grew_cell s12 bxy1_4
                  replace o_y0 := o_y0.grew s12
                  replace o_y1 := o_y1.grew s12
                  replace o_y2 := o_y2.grew s12
                  have o_z0 := Own.of o_z0
                  go_wp2_with fail
                  refine (eqNodeS _ _ n0 x0 _ o_y0.rd o_z0.rd (by omega)).mono ?_
                  rintro e w13 ⟨rfl, s13⟩
                  have g13 : Grew w w13 := g12.trans s13
                  replace bxf1_0 := grew_cell s13 bxf1_0
                  replace bxf1_1 := grew_cell s13 bxf1_1
                  replace bxf1_2 := grew_cell s13 bxf1_2
                  replace bxf1_3 := grew_cell s13 bxf1_3
                  replace bxf1_4 := grew_cell s13 bxf1_4
                  replace bxy1_0 := grew_cell s13 bxy1_0
                  replace bxy1_1 := grew_cell s13 bxy1_1
                  replace bxy1_2 := grew_cell s13 bxy1_2
                  replace bxy1_3 := grew_cell s13 bxy1_3
                  replace bxy1_4 := grew_cell s13 bxy1_4
                  replace o_y0 := o_y0.grew s13
                  replace o_y1 := o_y1.grew s13
                  replace o_y2 := o_y2.grew s13
                  replace o_z0 := o_z0.grew s13
                  go_wp2
                  refine wp_region_noPanic ?_
                  refine wp_region_held_drew (S := (fun w' => (w'.cell? ⟨w.heap.size, 0, none⟩ = some (.int .i64 f1i) ∧ w'.cell? ⟨w.heap.size, 1, none⟩ = some (.int .i64 f1o) ∧ w'.cell? ⟨w.heap.size, 2, none⟩ = some (.bool f1s) ∧ w'.cell? ⟨w.heap.size, 3, none⟩ = some (.int .i64 f1l) ∧ w'.cell? ⟨w.heap.size, 4, none⟩ = some (f1q) ∧ w'.cell? ⟨w9.heap.size, 0, none⟩ = some (.int .i64 y1i) ∧ w'.cell? ⟨w9.heap.size, 1, none⟩ = some (.int .i64 y1o) ∧ w'.cell? ⟨w9.heap.size, 2, none⟩ = some (.bool y1s) ∧ w'.cell? ⟨w9.heap.size, 3, none⟩ = some (.int .i64 y1l) ∧ w'.cell? ⟨w9.heap.size, 4, none⟩ = some (.slice y1qa x1.attrs.length y1qc) ∧ Grew (w13) w'))) (by kernel_rfl) ?h2_S ?h2_r
                  case h2_S => exact ⟨bxf1_0, bxf1_1, bxf1_2, bxf1_3, bxf1_4, bxy1_0, bxy1_1, bxy1_2, bxy1_3, bxy1_4, (Grew.refl _).drew⟩
                  case h2_r =>
                    intro HS
                    first
                      | refine sk 0 rfl (by kernel_rfl) rfl HS ?_
                      | (refine tk (v := ?v2_0) 0 rfl (by kernel_rfl) rfl ?y2_0 HS ?_; case y2_0 => (intro w' hSw; (try dsimp only at hSw); go_simp <;> (with_reducible rfl)))
                    try simp only [Act.put, List.setIfInBounds_toArray, List.set_cons_zero, List.set_cons_succ]
                    first
                      | refine sk 1 rfl (by kernel_rfl) rfl HS ?_
                      | (refine tk (v := ?v2_1) 1 rfl (by kernel_rfl) rfl ?y2_1 HS ?_; case y2_1 => (intro w' hSw; (try dsimp only at hSw); go_simp <;> (with_reducible rfl)))
                    try simp only [Act.put, List.setIfInBounds_toArray, List.set_cons_zero, List.set_cons_succ]
                    refine cl 2 rfl (by kernel_rfl) (fun K hK => ?_)
                    go_simp
                    go_at_call 18; refine (toFile x1 ⟨f1i, f1o, f1s, f1l, f1q⟩ _ (R1.out.grew (g13.trans HS.2.2.2.2.2.2.2.2.2.2)) hms1.out).mono ?_; rintro e wz1 ⟨⟨z1i, z1o, z1s, z1l, z1q⟩, rfl, o_z1, d_z1, hb⟩
                    refine hK.out _ _ ?s2_2 ?r2_2
                    case s2_2 => (try dsimp only); exact ⟨grew_cell hb HS.1, grew_cell hb HS.2.1, grew_cell hb HS.2.2.1, grew_cell hb HS.2.2.2.1, grew_cell hb HS.2.2.2.2.1, grew_cell hb HS.2.2.2.2.2.1, grew_cell hb HS.2.2.2.2.2.2.1, grew_cell hb HS.2.2.2.2.2.2.2.1, grew_cell hb HS.2.2.2.2.2.2.2.2.1, grew_cell hb HS.2.2.2.2.2.2.2.2.2.1, HS.2.2.2.2.2.2.2.2.2.2.trans hb⟩
                    case r2_2 =>
                      clear HS
                      intro HS
                      clear hK K
                      try simp only [Act.put, List.setIfInBounds_toArray, List.set_cons_zero, List.set_cons_succ]
                      refine cl 3 rfl (by kernel_rfl) (fun K hK => ?_)
                      go_simp
                      go_at_call 22; refine (eqFile x1 ⟨y1i, y1o, y1s, y1l, .slice y1qa x1.attrs.length y1qc⟩ ⟨z1i, z1o, z1s, z1l, z1q⟩ _ (o_y1.grew HS.2.2.2.2.2.2.2.2.2.2).rd o_z1.rd hms1.out).mono ?_; rintro e wy1 ⟨rfl, hb⟩
                      refine hK.out _ _ ?s2_3 ?r2_3
                      case s2_3 => (try dsimp only); exact ⟨grew_cell hb HS.1, grew_cell hb HS.2.1, grew_cell hb HS.2.2.1, grew_cell hb HS.2.2.2.1, grew_cell hb HS.2.2.2.2.1, grew_cell hb HS.2.2.2.2.2.1, grew_cell hb HS.2.2.2.2.2.2.1, grew_cell hb HS.2.2.2.2.2.2.2.1, grew_cell hb HS.2.2.2.2.2.2.2.2.1, grew_cell hb HS.2.2.2.2.2.2.2.2.2.1, HS.2.2.2.2.2.2.2.2.2.2.trans hb⟩
                      case r2_3 =>
                        clear HS
                        intro HS
                        clear hK K
                        try simp only [Act.put, List.setIfInBounds_toArray, List.set_cons_zero, List.set_cons_succ]
                        first
                          | refine sk 4 rfl (by kernel_rfl) rfl HS ?_
                          | (refine tk (v := ?v2_4) 4 rfl (by kernel_rfl) rfl ?y2_4 HS ?_; case y2_4 => (intro w' hSw; (try dsimp only at hSw); go_simp <;> (with_reducible rfl)))
                        try simp only [Act.put, List.setIfInBounds_toArray, List.set_cons_zero, List.set_cons_succ]
                        refine wpAnyH_done (by kernel_rfl) ?_ _
                        refine NoPanic.normal ?_
                        have sd2 : Grew (w13) wy1 := HS.2.2.2.2.2.2.2.2.2.2
                        have gd2 := g13.trans sd2
                        replace o_y0 := o_y0.grew sd2
                        replace o_y1 := o_y1.grew sd2
                        replace o_y2 := o_y2.grew sd2
                        replace o_z0 := o_z0.grew sd2
                        replace bxf1_0 := HS.1
                        replace bxf1_1 := HS.2.1
                        replace bxf1_2 := HS.2.2.1
                        replace bxf1_3 := HS.2.2.2.1
                        replace bxf1_4 := HS.2.2.2.2.1
                        replace bxy1_0 := HS.2.2.2.2.2.1
                        replace bxy1_1 := HS.2.2.2.2.2.2.1
                        replace bxy1_2 := HS.2.2.2.2.2.2.2.1
                        replace bxy1_3 := HS.2.2.2.2.2.2.2.2.1
                        replace bxy1_4 := HS.2.2.2.2.2.2.2.2.2.1
                        clear HS
                        go_wp2_with fail
                        refine (toResultS _ x2 _ (R2.out.grew gd2) (by omega) hms2.out).mono ?_
                        rintro e w14 ⟨z2, rfl, o_z2, s14⟩
                        have g14 : Grew w w14 := gd2.trans s14
                        replace bxf1_0 := grew_cell s14 bxf1_0
                        replace bxf1_1 := grew_cell s14 bxf1_1
                        replace bxf1_2 := grew_cell s14 bxf1_2
                        replace bxf1_3 := grew_cell s14 bxf1_3
                        replace bxf1_4 := grew_cell s14 bxf1_4
                        replace bxy1_0 := grew_cell s14 bxy1_0
                        replace bxy1_1 := grew_cell s14 bxy1_1
                        replace bxy1_2 := grew_cell s14 bxy1_2
                        replace bxy1_3 := grew_cell s14 bxy1_3
                        replace bxy1_4 := grew_cell s14 bxy1_4
                        replace o_y0 := o_y0.grew s14
                        replace o_y1 := o_y1.grew s14
                        replace o_y2 := o_y2.grew s14
                        replace o_z0 := o_z0.grew s14
                        go_wp2_with fail
                        refine (eqResultS _ _ x2 _ o_y2.rd o_z2.rd (by omega) hms2.out).mono ?_
                        rintro e w15 ⟨rfl, s15⟩
                        have g15 : Grew w w15 := g14.trans s15
                        replace bxf1_0 := grew_cell s15 bxf1_0
                        replace bxf1_1 := grew_cell s15 bxf1_1
                        replace bxf1_2 := grew_cell s15 bxf1_2
                        replace bxf1_3 := grew_cell s15 bxf1_3
                        replace bxf1_4 := grew_cell s15 bxf1_4
                        replace bxy1_0 := grew_cell s15 bxy1_0
                        replace bxy1_1 := grew_cell s15 bxy1_1
                        replace bxy1_2 := grew_cell s15 bxy1_2
                        replace bxy1_3 := grew_cell s15 bxy1_3
                        replace bxy1_4 := grew_cell s15 bxy1_4
                        replace o_y0 := o_y0.grew s15
                        replace o_y1 := o_y1.grew s15
                        replace o_y2 := o_y2.grew s15
                        replace o_z0 := o_z0.grew s15
                        replace o_z2 := o_z2.grew s15
                        go_wp2
                        go_ret
                        exact ⟨rfl, g15⟩
end Go.Proofs.Ytopcdojekjlijaa.fnExactMatches
