/- The walk of laws.FnExactApplyDiffToIDs, out of the contracts of the two functions. -/
import Derived.Test.YtgchpdmkphagnaaG
import Derived.Test.YtgchpdmkphagnaaA1
import Derived.Test.YtgchpdmkphagnaaA2
import Derived.Test.YtgchpdmkphagnaaS
import Derived.Test.YtgchpdmkphagnaaH5
import Derived.Test.YtgchpdmkphagnaaO2
namespace Go.Proofs.Ytgchpdmkphagnaa.fnExactApplyDiffToIDs
open Go.RowKit
set_option linter.unusedVariables false
set_option maxRecDepth 100000 in
set_option maxHeartbeats 1000000 in
theorem walkLaw (w : World) (u0 : Value) (n0 : Nat) (x0 : List Int) (hr0 : Rd w u0 1 n0 (ints x0)) (hn0 : n0 ≤ maxLen) (ho0 : ∀ a, a ∈ x0 → I64 a) (q1 : P3) (x1 : Df) (hr1 : Df.R w x1 q1) (ho1 : x1.ok0) :
    Calls Try.prog 12 #[u0, .agg (q1.c).toArray] w fun e w' => e = .returned (.bool true) ∧ Grew w w' := by
  have R0 := Lib.hid hr0
  have O0 := Lib.hid ho0
  obtain ⟨sa0, sc0, rfl, hc0, hra0⟩ := hr0
  clear ho0 hra0
  have R1 := Lib.hid hr1
  have O1 := Lib.hid ho1
  obtain ⟨f1n, f1q, f1r⟩ := q1
  clear hr1 ho1
  change Calls Try.prog 12 #[_, .agg #[.string f1n, f1q, f1r]] w _
  by_cases hbig0 : (1048576 : Int) < (n0 : Int)
  · go_enter Try.func12, Try.ntmps12
    go_wp2
    go_ret
    exact ⟨rfl, by repeat' (first | with_reducible exact Grew.refl _ | with_reducible apply Grew.alloc)⟩
  · have hsm0 : (n0 : Int) ≤ 4000000 := by omega
    go_enter Try.func12, Try.ntmps12
    have bxf1_0 : (w.alloc (.cells #[.string f1n, f1q, f1r] 82)).cell? ⟨w.heap.size, 0, none⟩ = some (.string f1n) := by simp
    have bxf1_1 : (w.alloc (.cells #[.string f1n, f1q, f1r] 82)).cell? ⟨w.heap.size, 1, none⟩ = some (f1q) := by simp
    have bxf1_2 : (w.alloc (.cells #[.string f1n, f1q, f1r] 82)).cell? ⟨w.heap.size, 2, none⟩ = some (f1r) := by simp
    have ga1 := Grew.alloc (Grew.refl w) (.cells #[.string f1n, f1q, f1r] 82)
    have pz1 : Hid (w.heap.size ≤ (w.alloc (.cells #[.string f1n, f1q, f1r] 82)).heap.size) := Lib.hid (by simp)
    have pbf1 : Hid (w.heap.size < (w.alloc (.cells #[.string f1n, f1q, f1r] 82)).heap.size) := Lib.hid (by simp)
    go_wp2_with fail
    refine (szDiff x1 ⟨f1n, f1q, f1r⟩ _ _ (R1.out.grew ga1) O1.out (by omega) (by omega)).mono ?_
    rintro e w1 ⟨r1, rfl, hl1, s1⟩
    have g1 : Grew w w1 := ga1.trans s1
    have pz2 := Lib.hid s1.size
    replace bxf1_0 := grew_cell s1 bxf1_0
    replace bxf1_1 := grew_cell s1 bxf1_1
    replace bxf1_2 := grew_cell s1 bxf1_2
    rcases hl1 with rfl | ⟨hl1, hp1⟩
    · go_wp2
      go_ret
      exact ⟨rfl, g1⟩
    · have hle1 : r1 ≤ 1048576 := by omega
      have hzt1 : x1.sz ≤ 1048576 := by omega
      have hzz1 : x1.sz ≤ 4000000 := by omega
      have hms1 := Lib.hid (Df.small_of hzz1)
      have HL1 := Lib.hid hl1
      clear hl1
      have BD0 : (apd x0 x1).length ≤ 4000000 := Nat.le_trans (apd_len x0 x1) (by have := Rd.len1 R0.out; have := hzt1; unfold Df.sz at this; omega)
      have SP := fun (w : World) (v0 : Value) (h0 : Rd w v0 1 n0 (ints x0)) (v1 : P3) (h1 : Df.R w x1 v1) => specApplyDiffToIDs v0 n0 x0 x1 v1 w h0 h1 (by omega) hms1.out
      have IM := fun (w : World) (v0 : Value) (h0 : Rd w v0 1 n0 (ints x0)) (v1 : P3) (h1 : Df.R w x1 v1) => implApplyDiffToIDs v0 n0 x0 x1 v1 w h0 h1 (by omega) hms1.out
      generalize apd x0 x1 = rv0 at SP IM BD0
      replace SP := Lib.hid SP
      replace IM := Lib.hid IM
      go_wp2_with fail
      refine wp_region_noPanic ?_
      refine wp_region_held_drew (S := (fun w' => (w'.cell? ⟨w.heap.size, 0, none⟩ = some (.string f1n) ∧ w'.cell? ⟨w.heap.size, 1, none⟩ = some (f1q) ∧ w'.cell? ⟨w.heap.size, 2, none⟩ = some (f1r) ∧ Grew (w1) w'))) (by kernel_rfl) ?h1_S ?h1_r
      case h1_S => exact ⟨bxf1_0, bxf1_1, bxf1_2, (Grew.refl _).drew⟩
      case h1_r =>
        intro HS
        first
          | refine sk 0 rfl (by kernel_rfl) rfl HS ?_
          | (refine tk (v := ?v1_0) 0 rfl (by kernel_rfl) rfl ?y1_0 HS ?_; case y1_0 => (intro w' hSw; (try dsimp only at hSw); go_simp <;> (with_reducible rfl)))
        try simp only [Act.put, List.setIfInBounds_toArray, List.set_cons_zero, List.set_cons_succ]
        first
          | refine sk 2 rfl (by kernel_rfl) rfl HS ?_
          | (refine tk (v := ?v1_2) 2 rfl (by kernel_rfl) rfl ?y1_2 HS ?_; case y1_2 => (intro w' hSw; (try dsimp only at hSw); go_simp <;> (with_reducible rfl)))
        try simp only [Act.put, List.setIfInBounds_toArray, List.set_cons_zero, List.set_cons_succ]
        refine cl 1 rfl (by kernel_rfl) (fun K hK => ?_)
        go_simp
        go_at_call 65
        refine (toIntS _ n0 x0 _ (R0.out.grew (g1.trans HS.2.2.2)) (by omega)).mono ?_
        rintro e w2 ⟨c0, rfl, o_c0, hb⟩
        have pz3 := Lib.hid hb.size
        have o_c0 := Own.of o_c0
        refine hK.out _ _ ?s1_1 ?r1_1
        case s1_1 => (try dsimp only); exact ⟨grew_cell hb HS.1, grew_cell hb HS.2.1, grew_cell hb HS.2.2.1, HS.2.2.2.trans hb⟩
        case r1_1 =>
          clear HS
          intro HS
          clear hK K
          try simp only [Act.put, List.setIfInBounds_toArray, List.set_cons_zero, List.set_cons_succ]
          refine cl 3 rfl (by kernel_rfl) (fun K hK => ?_)
          go_simp
          go_at_call 66
          refine (toDiff x1 ⟨f1n, f1q, f1r⟩ _ (R1.out.grew (g1.trans HS.2.2.2)) hms1.out).mono ?_
          rintro e w3 ⟨⟨c1n, c1q, c1r⟩, rfl, o_c1, d_c1, hb⟩
          have pz4 := Lib.hid hb.size
          clear d_c1
          replace o_c0 := o_c0.grew hb
          refine hK.out _ _ ?s1_3 ?r1_3
          case s1_3 => (try dsimp only); exact ⟨grew_cell hb HS.1, grew_cell hb HS.2.1, grew_cell hb HS.2.2.1, HS.2.2.2.trans hb⟩
          case r1_3 =>
            clear HS
            intro HS
            clear hK K
            try simp only [Act.put, List.setIfInBounds_toArray, List.set_cons_zero, List.set_cons_succ]
            refine cl 4 rfl (by kernel_rfl) (fun K hK => ?_)
            go_simp
            go_at_call 64
            refine (SP.out _ c0 o_c0.rd ⟨c1n, c1q, c1r⟩ o_c1.rd).mono ?_
            rintro e w4 ⟨rw0, rfl, o_rw0, hb⟩
            have pz5 := Lib.hid hb.size
            replace o_c0 := o_c0.grew hb
            replace o_c1 := o_c1.grew hb
            have o_rw0 := Own.of o_rw0
            refine hK.out _ _ ?s1_4 ?r1_4
            case s1_4 => (try dsimp only); exact ⟨grew_cell hb HS.1, grew_cell hb HS.2.1, grew_cell hb HS.2.2.1, HS.2.2.2.trans hb⟩
            case r1_4 =>
              clear HS
              intro HS
              clear hK K
              try simp only [Act.put, List.setIfInBounds_toArray, List.set_cons_zero, List.set_cons_succ]
              first
                | refine sk 5 rfl (by kernel_rfl) rfl HS ?_
                | (refine tk (v := ?v1_5) 5 rfl (by kernel_rfl) rfl ?y1_5 HS ?_; case y1_5 => (intro w' hSw; (try dsimp only at hSw); go_simp <;> (with_reducible rfl)))
              try simp only [Act.put, List.setIfInBounds_toArray, List.set_cons_zero, List.set_cons_succ]
              refine wpAnyH_done (by kernel_rfl) ?_ _
              refine NoPanic.normal ?_
              have sd1 : Grew (w1) w4 := HS.2.2.2
              have gd1 := g1.trans sd1
              replace bxf1_0 := HS.1
              replace bxf1_1 := HS.2.1
              replace bxf1_2 := HS.2.2.1
              clear HS
              go_wp2_with fail
              refine (toIntS _ n0 x0 _ (R0.out.grew gd1) (by omega)).mono ?_
              rintro e w5 ⟨y0, rfl, o_y0, s5⟩
              have g5 : Grew w w5 := gd1.trans s5
              have pz6 := Lib.hid s5.size
              replace bxf1_0 := grew_cell s5 bxf1_0
              replace bxf1_1 := grew_cell s5 bxf1_1
              replace bxf1_2 := grew_cell s5 bxf1_2
              replace o_rw0 := o_rw0.grew s5
              have o_y0 := Own.of o_y0
              go_wp2_with fail
              refine (toDiff x1 ⟨f1n, f1q, f1r⟩ _ (R1.out.grew g5) hms1.out).mono ?_
              rintro e w6 ⟨⟨y1n, y1q, y1r⟩, rfl, o_y1, d_y1, s6⟩
              have g6 : Grew w w6 := g5.trans s6
              have pz7 := Lib.hid s6.size
              replace bxf1_0 := grew_cell s6 bxf1_0
              replace bxf1_1 := grew_cell s6 bxf1_1
              replace bxf1_2 := grew_cell s6 bxf1_2
              replace d_y1 := Lib.hid d_y1
              replace o_rw0 := o_rw0.grew s6
              replace o_y0 := o_y0.grew s6
              obtain ⟨y1qa, y1qc, rfl⟩ := own_slice o_y1.2.1.1
              obtain ⟨y1ra, y1rc, rfl⟩ := own_slice o_y1.2.2.1
              replace o_rw0 := o_rw0.grew ((Grew.refl _).alloc (.cells #[.string y1n, .slice y1qa x1.added.length y1qc, .slice y1ra x1.removed.length y1rc] 86))
              replace o_y0 := o_y0.grew ((Grew.refl _).alloc (.cells #[.string y1n, .slice y1qa x1.added.length y1qc, .slice y1ra x1.removed.length y1rc] 86))
              replace o_y1 := o_y1.grew ((Grew.refl _).alloc (.cells #[.string y1n, .slice y1qa x1.added.length y1qc, .slice y1ra x1.removed.length y1rc] 86))
              replace bxf1_0 := grew_cell ((Grew.refl _).alloc (.cells #[.string y1n, .slice y1qa x1.added.length y1qc, .slice y1ra x1.removed.length y1rc] 86)) bxf1_0
              replace bxf1_1 := grew_cell ((Grew.refl _).alloc (.cells #[.string y1n, .slice y1qa x1.added.length y1qc, .slice y1ra x1.removed.length y1rc] 86)) bxf1_1
              replace bxf1_2 := grew_cell ((Grew.refl _).alloc (.cells #[.string y1n, .slice y1qa x1.added.length y1qc, .slice y1ra x1.removed.length y1rc] 86)) bxf1_2
              have bxy1_0 : (w6.alloc (.cells #[.string y1n, .slice y1qa x1.added.length y1qc, .slice y1ra x1.removed.length y1rc] 86)).cell? ⟨w6.heap.size, 0, none⟩ = some (.string y1n) := by simp
              have bxy1_1 : (w6.alloc (.cells #[.string y1n, .slice y1qa x1.added.length y1qc, .slice y1ra x1.removed.length y1rc] 86)).cell? ⟨w6.heap.size, 1, none⟩ = some (.slice y1qa x1.added.length y1qc) := by simp
              have bxy1_2 : (w6.alloc (.cells #[.string y1n, .slice y1qa x1.added.length y1qc, .slice y1ra x1.removed.length y1rc] 86)).cell? ⟨w6.heap.size, 2, none⟩ = some (.slice y1ra x1.removed.length y1rc) := by simp
              have ga2 := Grew.alloc g6 (.cells #[.string y1n, .slice y1qa x1.added.length y1qc, .slice y1ra x1.removed.length y1rc] 86)
              have pz8 : Hid (w6.heap.size ≤ (w6.alloc (.cells #[.string y1n, .slice y1qa x1.added.length y1qc, .slice y1ra x1.removed.length y1rc] 86)).heap.size) := Lib.hid (by simp)
              have pby1 : Hid (w6.heap.size < (w6.alloc (.cells #[.string y1n, .slice y1qa x1.added.length y1qc, .slice y1ra x1.removed.length y1rc] 86)).heap.size) := Lib.hid (by simp)
              go_wp2_with fail
              refine (IM.out _ y0 o_y0.rd ⟨y1n, .slice y1qa x1.added.length y1qc, .slice y1ra x1.removed.length y1rc⟩ o_y1.rd).mono ?_
              rintro e w7 ⟨rg0, rfl, o_rg0, s7⟩
              have g7 : Grew w w7 := ga2.trans s7
              have pz9 := Lib.hid s7.size
              replace bxf1_0 := grew_cell s7 bxf1_0
              replace bxf1_1 := grew_cell s7 bxf1_1
              replace bxf1_2 := grew_cell s7 bxf1_2
              replace bxy1_0 := grew_cell s7 bxy1_0
              replace bxy1_1 := grew_cell s7 bxy1_1
              replace bxy1_2 := grew_cell s7 bxy1_2
              replace o_rw0 := o_rw0.grew s7
              replace o_y0 := o_y0.grew s7
              replace o_y1 := o_y1.grew s7
              have o_rg0 := Own.of o_rg0
              go_wp2_with fail
              refine (eqIntS _ _ rv0.length rv0 _ o_rg0.rd o_rw0.rd (by omega)).mono ?_
              rintro e w8 ⟨rfl, s8⟩
              have g8 : Grew w w8 := g7.trans s8
              have pz10 := Lib.hid s8.size
              replace bxf1_0 := grew_cell s8 bxf1_0
              replace bxf1_1 := grew_cell s8 bxf1_1
              replace bxf1_2 := grew_cell s8 bxf1_2
              replace bxy1_0 := grew_cell s8 bxy1_0
              replace bxy1_1 := grew_cell s8 bxy1_1
              replace bxy1_2 := grew_cell s8 bxy1_2
              replace o_rw0 := o_rw0.grew s8
              replace o_y0 := o_y0.grew s8
              replace o_y1 := o_y1.grew s8
              replace o_rg0 := o_rg0.grew s8
              go_wp2_with fail
              refine (toIntS _ n0 x0 _ (R0.out.grew g8) (by omega)).mono ?_
              rintro e w9 ⟨z0, rfl, o_z0, s9⟩
              have g9 : Grew w w9 := g8.trans s9
              have pz11 := Lib.hid s9.size
              replace bxf1_0 := grew_cell s9 bxf1_0
              replace bxf1_1 := grew_cell s9 bxf1_1
              replace bxf1_2 := grew_cell s9 bxf1_2
              replace bxy1_0 := grew_cell s9 bxy1_0
              replace bxy1_1 := grew_cell s9 bxy1_1
              replace bxy1_2 := grew_cell s9 bxy1_2
              replace o_rw0 := o_rw0.grew s9
              replace o_y0 := o_y0.grew s9
              replace o_y1 := o_y1.grew s9
              replace o_rg0 := o_rg0.grew s9
              have o_z0 := Own.of o_z0
              go_wp2_with fail
              refine (eqIntS _ _ n0 x0 _ o_y0.rd o_z0.rd (by omega)).mono ?_
              rintro e w10 ⟨rfl, s10⟩
              have g10 : Grew w w10 := g9.trans s10
              have pz12 := Lib.hid s10.size
              replace bxf1_0 := grew_cell s10 bxf1_0
              replace bxf1_1 := grew_cell s10 bxf1_1
              replace bxf1_2 := grew_cell s10 bxf1_2
              replace bxy1_0 := grew_cell s10 bxy1_0
              replace bxy1_1 := grew_cell s10 bxy1_1
              replace bxy1_2 := grew_cell s10 bxy1_2
              replace o_rw0 := o_rw0.grew s10
              replace o_y0 := o_y0.grew s10
              replace o_y1 := o_y1.grew s10
              replace o_rg0 := o_rg0.grew s10
              replace o_z0 := o_z0.grew s10
              go_wp2
              refine wp_region_noPanic ?_
              refine wp_region_held_drew (S := (fun w' => (w'.cell? ⟨w.heap.size, 0, none⟩ = some (.string f1n) ∧ w'.cell? ⟨w.heap.size, 1, none⟩ = some (f1q) ∧ w'.cell? ⟨w.heap.size, 2, none⟩ = some (f1r) ∧ w'.cell? ⟨w6.heap.size, 0, none⟩ = some (.string y1n) ∧ w'.cell? ⟨w6.heap.size, 1, none⟩ = some (.slice y1qa x1.added.length y1qc) ∧ w'.cell? ⟨w6.heap.size, 2, none⟩ = some (.slice y1ra x1.removed.length y1rc) ∧ Grew (w10) w'))) (by kernel_rfl) ?h2_S ?h2_r
              case h2_S => exact ⟨bxf1_0, bxf1_1, bxf1_2, bxy1_0, bxy1_1, bxy1_2, (Grew.refl _).drew⟩
              case h2_r =>
                intro HS
                first
                  | refine sk 0 rfl (by kernel_rfl) rfl HS ?_
                  | (refine tk (v := ?v2_0) 0 rfl (by kernel_rfl) rfl ?y2_0 HS ?_; case y2_0 => (intro w' hSw; (try dsimp only at hSw); go_simp <;> (with_reducible rfl)))
                try simp only [Act.put, List.setIfInBounds_toArray, List.set_cons_zero, List.set_cons_succ]
                first
                  | refine sk 1 rfl (by kernel_rfl) rfl HS ?_
                  | (refine tk (v := ?v2_1) 1 rfl (by kernel_rfl) rfl ?y2_1 HS ?_; case y2_1 => (intro w' hSw; (try dsimp only at hSw); go_simp <;> (with_reducible rfl)))
                try simp only [Act.put, List.setIfInBounds_toArray, List.set_cons_zero, List.set_cons_succ]
                refine cl 2 rfl (by kernel_rfl) (fun K hK => ?_)
                go_simp
                go_at_call 66; refine (toDiff x1 ⟨f1n, f1q, f1r⟩ _ (R1.out.grew (g10.trans HS.2.2.2.2.2.2)) hms1.out).mono ?_; rintro e wz1 ⟨⟨z1n, z1q, z1r⟩, rfl, o_z1, d_z1, hb⟩
                refine hK.out _ _ ?s2_2 ?r2_2
                case s2_2 => (try dsimp only); exact ⟨grew_cell hb HS.1, grew_cell hb HS.2.1, grew_cell hb HS.2.2.1, grew_cell hb HS.2.2.2.1, grew_cell hb HS.2.2.2.2.1, grew_cell hb HS.2.2.2.2.2.1, HS.2.2.2.2.2.2.trans hb⟩
                case r2_2 =>
                  clear HS
                  intro HS
                  clear hK K
                  try simp only [Act.put, List.setIfInBounds_toArray, List.set_cons_zero, List.set_cons_succ]
                  refine cl 3 rfl (by kernel_rfl) (fun K hK => ?_)
                  go_simp
                  go_at_call 69; refine (eqDiff x1 ⟨y1n, .slice y1qa x1.added.length y1qc, .slice y1ra x1.removed.length y1rc⟩ ⟨z1n, z1q, z1r⟩ _ (o_y1.grew HS.2.2.2.2.2.2).rd o_z1.rd hms1.out).mono ?_; rintro e wy1 ⟨rfl, hb⟩
                  refine hK.out _ _ ?s2_3 ?r2_3
                  case s2_3 => (try dsimp only); exact ⟨grew_cell hb HS.1, grew_cell hb HS.2.1, grew_cell hb HS.2.2.1, grew_cell hb HS.2.2.2.1, grew_cell hb HS.2.2.2.2.1, grew_cell hb HS.2.2.2.2.2.1, HS.2.2.2.2.2.2.trans hb⟩
                  case r2_3 =>
                    clear HS
                    intro HS
                    clear hK K
                    try simp only [Act.put, List.setIfInBounds_toArray, List.set_cons_zero, List.set_cons_succ]
                    first
                      | refine sk 4 rfl (by kernel_rfl) rfl HS ?_
                      | (refine tk (v := ?v2_4) 4 rfl (by kernel_rfl) rfl ?y2_4 HS ?_; case y2_4 => (intro w' hSw; (try dsimp only at hSw); go_simp <;> (with_reducible rfl)))
                    try simp only [Act.put, List.setIfInBounds_toArray, List.set_cons_zero, List.set_cons_succ]
                    refine wpAnyH_done (by kernel_rfl) ?_ _
                    refine NoPanic.normal ?_
                    have sd2 : Grew (w10) wy1 := HS.2.2.2.2.2.2
                    have gd2 := g10.trans sd2
                    have pz13 := Lib.hid sd2.size
                    replace o_rw0 := o_rw0.grew sd2
                    replace o_y0 := o_y0.grew sd2
                    replace o_y1 := o_y1.grew sd2
                    replace o_rg0 := o_rg0.grew sd2
                    replace bxf1_0 := HS.1
                    replace bxf1_1 := HS.2.1
                    replace bxf1_2 := HS.2.2.1
                    replace bxy1_0 := HS.2.2.2.1
                    replace bxy1_1 := HS.2.2.2.2.1
                    replace bxy1_2 := HS.2.2.2.2.2.1
                    clear HS
                    go_wp2_with fail
                    refine (markIntS _ n0 x0 1 _ _ _ o_y0 (by omega) (by omega) (by omega)).mono ?_
                    rintro e w11 ⟨he, om, s11⟩
                    clear om
                    obtain ⟨kk0, ka0, kb0, rfl⟩ : ∃ k : Int, 0 ≤ k ∧ k ≤ 4000001 ∧ e = .returned (.int .i64 k) := ⟨_, by omega, by omega, he⟩
                    have pz14 := Lib.hid s11.size
                    have g11 : Grew w w11 := Touch.new gd2 s11 (Nat.le_trans (Nat.le_trans (Nat.le_trans (Nat.le_trans (pz1.out) pz2.out) pz3.out) pz4.out) pz5.out)
                    replace o_rw0 := o_rw0.touch s11 (.inl (Nat.le_refl _))
                    replace o_y1 := o_y1.touch s11 (.inr (Nat.le_refl _))
                    replace o_rg0 := o_rg0.touch s11 (.inr (Nat.le_trans (pz7.out) pz8.out))
                    replace bxf1_0 := touch_cell s11 (.inl (Nat.lt_of_lt_of_le pbf1.out (Nat.le_trans (Nat.le_trans (Nat.le_trans (pz2.out) pz3.out) pz4.out) pz5.out))) bxf1_0
                    replace bxf1_1 := touch_cell s11 (.inl (Nat.lt_of_lt_of_le pbf1.out (Nat.le_trans (Nat.le_trans (Nat.le_trans (pz2.out) pz3.out) pz4.out) pz5.out))) bxf1_1
                    replace bxf1_2 := touch_cell s11 (.inl (Nat.lt_of_lt_of_le pbf1.out (Nat.le_trans (Nat.le_trans (Nat.le_trans (pz2.out) pz3.out) pz4.out) pz5.out))) bxf1_2
                    replace bxy1_0 := touch_cell s11 (.inr (pz7.out)) bxy1_0
                    replace bxy1_1 := touch_cell s11 (.inr (pz7.out)) bxy1_1
                    replace bxy1_2 := touch_cell s11 (.inr (pz7.out)) bxy1_2
                    go_wp2_with fail
                    refine (markDiff x1 ⟨y1n, .slice y1qa x1.added.length y1qc, .slice y1ra x1.removed.length y1rc⟩ kk0 _ _ _ o_y1 d_y1.out (by have := hzz1; unfold Df.sz at this; omega) (by omega) (by omega)).mono ?_
                    rintro e w12 ⟨he, om, s12⟩
                    clear om
                    obtain ⟨kk1, ka1, kb1, rfl⟩ : ∃ k : Int, 0 ≤ k ∧ k ≤ 34000001 ∧ e = .returned (.int .i64 k) := ⟨_, by have := hzz1; unfold Df.sz at this; omega, by have := hzz1; unfold Df.sz at this; omega, he⟩
                    have pz15 := Lib.hid s12.size
                    have g12 : Grew w w12 := Touch.new g11 s12 (Nat.le_trans (Nat.le_trans (Nat.le_trans (Nat.le_trans (Nat.le_trans (pz1.out) pz2.out) pz3.out) pz4.out) pz5.out) pz6.out)
                    replace o_rw0 := o_rw0.touch s12 (.inl (pz6.out))
                    replace o_rg0 := o_rg0.touch s12 (.inr (pz8.out))
                    replace bxf1_0 := touch_cell s12 (.inl (Nat.lt_of_lt_of_le pbf1.out (Nat.le_trans (Nat.le_trans (Nat.le_trans (Nat.le_trans (pz2.out) pz3.out) pz4.out) pz5.out) pz6.out))) bxf1_0
                    replace bxf1_1 := touch_cell s12 (.inl (Nat.lt_of_lt_of_le pbf1.out (Nat.le_trans (Nat.le_trans (Nat.le_trans (Nat.le_trans (pz2.out) pz3.out) pz4.out) pz5.out) pz6.out))) bxf1_1
                    replace bxf1_2 := touch_cell s12 (.inl (Nat.lt_of_lt_of_le pbf1.out (Nat.le_trans (Nat.le_trans (Nat.le_trans (Nat.le_trans (pz2.out) pz3.out) pz4.out) pz5.out) pz6.out))) bxf1_2
                    replace bxy1_0 := touch_cell s12 (.inr (Nat.le_refl _)) bxy1_0
                    replace bxy1_1 := touch_cell s12 (.inr (Nat.le_refl _)) bxy1_1
                    replace bxy1_2 := touch_cell s12 (.inr (Nat.le_refl _)) bxy1_2
                    go_wp2_with fail
                    refine (eqIntS _ _ rv0.length rv0 _ o_rg0.rd o_rw0.rd (by omega)).mono ?_
                    rintro e w13 ⟨rfl, s13⟩
                    have g13 : Grew w w13 := g12.trans s13
                    have pz16 := Lib.hid s13.size
                    replace bxf1_0 := grew_cell s13 bxf1_0
                    replace bxf1_1 := grew_cell s13 bxf1_1
                    replace bxf1_2 := grew_cell s13 bxf1_2
                    replace bxy1_0 := grew_cell s13 bxy1_0
                    replace bxy1_1 := grew_cell s13 bxy1_1
                    replace bxy1_2 := grew_cell s13 bxy1_2
                    replace o_rw0 := o_rw0.grew s13
                    replace o_rg0 := o_rg0.grew s13
                    go_wp2_with fail
                    refine (markIntS _ rv0.length rv0 (1) _ _ _ o_rg0 (by omega) (by omega) (by omega)).mono ?_
                    rintro e w14 ⟨rfl, om_rg0, s14⟩
                    have pz17 := Lib.hid s14.size
                    have g14 : Grew w w14 := Touch.new g13 s14 (Nat.le_trans (Nat.le_trans (Nat.le_trans (Nat.le_trans (Nat.le_trans (Nat.le_trans (Nat.le_trans (pz1.out) pz2.out) pz3.out) pz4.out) pz5.out) pz6.out) pz7.out) pz8.out)
                    replace o_rw0 := o_rw0.touch s14 (.inl (Nat.le_trans (Nat.le_trans (pz6.out) pz7.out) pz8.out))
                    replace bxf1_0 := touch_cell s14 (.inl (Nat.lt_of_lt_of_le pbf1.out (Nat.le_trans (Nat.le_trans (Nat.le_trans (Nat.le_trans (Nat.le_trans (Nat.le_trans (pz2.out) pz3.out) pz4.out) pz5.out) pz6.out) pz7.out) pz8.out))) bxf1_0
                    replace bxf1_1 := touch_cell s14 (.inl (Nat.lt_of_lt_of_le pbf1.out (Nat.le_trans (Nat.le_trans (Nat.le_trans (Nat.le_trans (Nat.le_trans (Nat.le_trans (pz2.out) pz3.out) pz4.out) pz5.out) pz6.out) pz7.out) pz8.out))) bxf1_1
                    replace bxf1_2 := touch_cell s14 (.inl (Nat.lt_of_lt_of_le pbf1.out (Nat.le_trans (Nat.le_trans (Nat.le_trans (Nat.le_trans (Nat.le_trans (Nat.le_trans (pz2.out) pz3.out) pz4.out) pz5.out) pz6.out) pz7.out) pz8.out))) bxf1_2
                    replace bxy1_0 := touch_cell s14 (.inl (Nat.lt_of_lt_of_le pby1.out (Nat.le_refl _))) bxy1_0
                    replace bxy1_1 := touch_cell s14 (.inl (Nat.lt_of_lt_of_le pby1.out (Nat.le_refl _))) bxy1_1
                    replace bxy1_2 := touch_cell s14 (.inl (Nat.lt_of_lt_of_le pby1.out (Nat.le_refl _))) bxy1_2
                    go_wp2_with fail
                    refine (heldIntS _ rv0.length (1) _ om_rg0.rd (by omega) (by omega) (by omega)).mono ?_
                    rintro e w15 ⟨rfl, s15⟩
                    have g15 : Grew w w15 := g14.trans s15
                    have pz18 := Lib.hid s15.size
                    replace bxf1_0 := grew_cell s15 bxf1_0
                    replace bxf1_1 := grew_cell s15 bxf1_1
                    replace bxf1_2 := grew_cell s15 bxf1_2
                    replace bxy1_0 := grew_cell s15 bxy1_0
                    replace bxy1_1 := grew_cell s15 bxy1_1
                    replace bxy1_2 := grew_cell s15 bxy1_2
                    replace o_rw0 := o_rw0.grew s15
                    replace om_rg0 := om_rg0.grew s15
                    go_wp2_with fail
                    refine wp_region_noPanic ?_
                    refine wp_region_held_drew (S := (fun w' => (w'.cell? ⟨w.heap.size, 0, none⟩ = some (.string f1n) ∧ w'.cell? ⟨w.heap.size, 1, none⟩ = some (f1q) ∧ w'.cell? ⟨w.heap.size, 2, none⟩ = some (f1r) ∧ w'.cell? ⟨w6.heap.size, 0, none⟩ = some (.string y1n) ∧ w'.cell? ⟨w6.heap.size, 1, none⟩ = some (.slice y1qa x1.added.length y1qc) ∧ w'.cell? ⟨w6.heap.size, 2, none⟩ = some (.slice y1ra x1.removed.length y1rc) ∧ Grew (w15) w'))) (by kernel_rfl) ?h3_S ?h3_r
                    case h3_S => exact ⟨bxf1_0, bxf1_1, bxf1_2, bxy1_0, bxy1_1, bxy1_2, (Grew.refl _).drew⟩
                    case h3_r =>
                      intro HS
                      first
                        | refine sk 0 rfl (by kernel_rfl) rfl HS ?_
                        | (refine tk (v := ?v3_0) 0 rfl (by kernel_rfl) rfl ?y3_0 HS ?_; case y3_0 => (intro w' hSw; (try dsimp only at hSw); go_simp <;> (with_reducible rfl)))
                      try simp only [Act.put, List.setIfInBounds_toArray, List.set_cons_zero, List.set_cons_succ]
                      first
                        | refine sk 2 rfl (by kernel_rfl) rfl HS ?_
                        | (refine tk (v := ?v3_2) 2 rfl (by kernel_rfl) rfl ?y3_2 HS ?_; case y3_2 => (intro w' hSw; (try dsimp only at hSw); go_simp <;> (with_reducible rfl)))
                      try simp only [Act.put, List.setIfInBounds_toArray, List.set_cons_zero, List.set_cons_succ]
                      refine cl 1 rfl (by kernel_rfl) (fun K hK => ?_)
                      go_simp
                      go_at_call 65
                      refine (toIntS _ n0 x0 _ (R0.out.grew (g15.trans HS.2.2.2.2.2.2)) (by omega)).mono ?_
                      rintro e w16 ⟨v0, rfl, o_v0, hb⟩
                      have pz19 := Lib.hid hb.size
                      have o_v0 := Own.of o_v0
                      refine hK.out _ _ ?s3_1 ?r3_1
                      case s3_1 => (try dsimp only); exact ⟨grew_cell hb HS.1, grew_cell hb HS.2.1, grew_cell hb HS.2.2.1, grew_cell hb HS.2.2.2.1, grew_cell hb HS.2.2.2.2.1, grew_cell hb HS.2.2.2.2.2.1, HS.2.2.2.2.2.2.trans hb⟩
                      case r3_1 =>
                        clear HS
                        intro HS
                        clear hK K
                        try simp only [Act.put, List.setIfInBounds_toArray, List.set_cons_zero, List.set_cons_succ]
                        refine cl 3 rfl (by kernel_rfl) (fun K hK => ?_)
                        go_simp
                        go_at_call 66
                        refine (toDiff x1 ⟨f1n, f1q, f1r⟩ _ (R1.out.grew (g15.trans HS.2.2.2.2.2.2)) hms1.out).mono ?_
                        rintro e w17 ⟨⟨v1n, v1q, v1r⟩, rfl, o_v1, d_v1, hb⟩
                        have pz20 := Lib.hid hb.size
                        clear d_v1
                        replace o_v0 := o_v0.grew hb
                        refine hK.out _ _ ?s3_3 ?r3_3
                        case s3_3 => (try dsimp only); exact ⟨grew_cell hb HS.1, grew_cell hb HS.2.1, grew_cell hb HS.2.2.1, grew_cell hb HS.2.2.2.1, grew_cell hb HS.2.2.2.2.1, grew_cell hb HS.2.2.2.2.2.1, HS.2.2.2.2.2.2.trans hb⟩
                        case r3_3 =>
                          clear HS
                          intro HS
                          clear hK K
                          try simp only [Act.put, List.setIfInBounds_toArray, List.set_cons_zero, List.set_cons_succ]
                          refine cl 4 rfl (by kernel_rfl) (fun K hK => ?_)
                          go_simp
                          go_at_call 67
                          refine (IM.out _ v0 o_v0.rd ⟨v1n, v1q, v1r⟩ o_v1.rd).mono ?_
                          rintro e w18 ⟨rh0, rfl, o_rh0, hb⟩
                          have pz21 := Lib.hid hb.size
                          replace o_v0 := o_v0.grew hb
                          replace o_v1 := o_v1.grew hb
                          have o_rh0 := Own.of o_rh0
                          refine hK.out _ _ ?s3_4 ?r3_4
                          case s3_4 => (try dsimp only); exact ⟨grew_cell hb HS.1, grew_cell hb HS.2.1, grew_cell hb HS.2.2.1, grew_cell hb HS.2.2.2.1, grew_cell hb HS.2.2.2.2.1, grew_cell hb HS.2.2.2.2.2.1, HS.2.2.2.2.2.2.trans hb⟩
                          case r3_4 =>
                            clear HS
                            intro HS
                            clear hK K
                            try simp only [Act.put, List.setIfInBounds_toArray, List.set_cons_zero, List.set_cons_succ]
                            first
                              | refine sk 5 rfl (by kernel_rfl) rfl HS ?_
                              | (refine tk (v := ?v3_5) 5 rfl (by kernel_rfl) rfl ?y3_5 HS ?_; case y3_5 => (intro w' hSw; (try dsimp only at hSw); go_simp <;> (with_reducible rfl)))
                            try simp only [Act.put, List.setIfInBounds_toArray, List.set_cons_zero, List.set_cons_succ]
                            refine wpAnyH_done (by kernel_rfl) ?_ _
                            refine NoPanic.normal ?_
                            have sd3 : Grew (w15) w18 := HS.2.2.2.2.2.2
                            have gd3 := g15.trans sd3
                            replace o_rw0 := o_rw0.grew sd3
                            replace om_rg0 := om_rg0.grew sd3
                            replace bxf1_0 := HS.1
                            replace bxf1_1 := HS.2.1
                            replace bxf1_2 := HS.2.2.1
                            replace bxy1_0 := HS.2.2.2.1
                            replace bxy1_1 := HS.2.2.2.2.1
                            replace bxy1_2 := HS.2.2.2.2.2.1
                            clear HS
                            go_wp2_with fail
                            refine (eqIntS _ _ rv0.length rv0 _ o_rh0.rd o_rw0.rd (by omega)).mono ?_
                            rintro e w19 ⟨rfl, s19⟩
                            have g19 : Grew w w19 := gd3.trans s19
                            have pz22 := Lib.hid s19.size
                            replace bxf1_0 := grew_cell s19 bxf1_0
                            replace bxf1_1 := grew_cell s19 bxf1_1
                            replace bxf1_2 := grew_cell s19 bxf1_2
                            replace bxy1_0 := grew_cell s19 bxy1_0
                            replace bxy1_1 := grew_cell s19 bxy1_1
                            replace bxy1_2 := grew_cell s19 bxy1_2
                            replace o_rw0 := o_rw0.grew s19
                            replace om_rg0 := om_rg0.grew s19
                            replace o_v0 := o_v0.grew s19
                            replace o_v1 := o_v1.grew s19
                            replace o_rh0 := o_rh0.grew s19
                            go_wp2_with fail
                            refine (heldIntS _ rv0.length (1) _ om_rg0.rd (by omega) (by omega) (by omega)).mono ?_
                            rintro e w20 ⟨rfl, s20⟩
                            have g20 : Grew w w20 := g19.trans s20
                            have pz23 := Lib.hid s20.size
                            replace bxf1_0 := grew_cell s20 bxf1_0
                            replace bxf1_1 := grew_cell s20 bxf1_1
                            replace bxf1_2 := grew_cell s20 bxf1_2
                            replace bxy1_0 := grew_cell s20 bxy1_0
                            replace bxy1_1 := grew_cell s20 bxy1_1
                            replace bxy1_2 := grew_cell s20 bxy1_2
                            replace o_rw0 := o_rw0.grew s20
                            replace om_rg0 := om_rg0.grew s20
                            replace o_v0 := o_v0.grew s20
                            replace o_v1 := o_v1.grew s20
                            replace o_rh0 := o_rh0.grew s20
                            go_wp2
                            go_ret
                            exact ⟨rfl, g20⟩
end Go.Proofs.Ytgchpdmkphagnaa.fnExactApplyDiffToIDs
