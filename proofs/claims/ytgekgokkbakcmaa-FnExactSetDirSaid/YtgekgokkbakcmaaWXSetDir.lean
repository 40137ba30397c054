/- The walk of laws.FnExactSetDir, out of the contracts of the two functions. -/
import Derived.Test.YtgekgokkbakcmaaG
import Derived.Test.YtgekgokkbakcmaaX7
import Derived.Test.YtgekgokkbakcmaaS
import Derived.Test.YtgekgokkbakcmaaH6
import Derived.Test.YtgekgokkbakcmaaN6
import Derived.Test.YtgekgokkbakcmaaO2
namespace Go.Proofs.Ytgekgokkbakcmaa.fnExactSetDir
open Go.RowKit
set_option linter.unusedVariables false
set_option maxRecDepth 100000 in
set_option maxHeartbeats 1000000 in
theorem walkLaw (w : World) (u0 : Value) (x0 : List Dr) (hr0 : RdDs w u0 x0) (hn0 : x0.length ≤ maxLen) (ho0 : ∀ x, x ∈ x0 → x.ok0) (q1 : P2) (x1 : Dr) (hr1 : Dr.R w x1 q1) (ho1 : x1.ok0) :
    Calls Try.prog 6 #[u0, .agg (q1.c).toArray] w fun e w' => e = .returned (.bool true) ∧ Grew w w' := by
  have R0 := Lib.hid hr0
  have O0 := Lib.hid ho0
  obtain ⟨ps0, ⟨sa0, sc0, rfl, hc0, hra0⟩, hall0⟩ := hr0
  clear ho0 hra0 hall0
  have R1 := Lib.hid hr1
  have O1 := Lib.hid ho1
  obtain ⟨f1n, f1q⟩ := q1
  clear hr1 ho1
  change Calls Try.prog 6 #[_, .agg #[.string f1n, f1q]] w _
  go_enter Try.func6, Try.ntmps6
  have bxf1_0 : (w.alloc (.cells #[.string f1n, f1q] 44)).cell? ⟨w.heap.size, 0, none⟩ = some (.string f1n) := by simp
  have bxf1_1 : (w.alloc (.cells #[.string f1n, f1q] 44)).cell? ⟨w.heap.size, 1, none⟩ = some (f1q) := by simp
  have ga1 := Grew.alloc (Grew.refl w) (.cells #[.string f1n, f1q] 44)
  have pz1 : Hid (w.heap.size ≤ (w.alloc (.cells #[.string f1n, f1q] 44)).heap.size) := Lib.hid (by simp)
  have pbf1 : Hid (w.heap.size < (w.alloc (.cells #[.string f1n, f1q] 44)).heap.size) := Lib.hid (by simp)
  go_wp2_with fail
  refine (szDirS _ x0 _ _ (R0.out.grew ga1) hn0 O0.out (by omega) (by omega)).mono ?_
  rintro e w1 ⟨r0, rfl, hl0, s1⟩
  have g1 : Grew w w1 := ga1.trans s1
  have pz2 := Lib.hid s1.size
  replace bxf1_0 := grew_cell s1 bxf1_0
  replace bxf1_1 := grew_cell s1 bxf1_1
  rcases hl0 with rfl | ⟨hl0, hp0⟩
  · go_wp2
    go_ret
    exact ⟨rfl, g1⟩
  · have hle0 : r0 ≤ 1048576 := by omega
    have hst0 : x0.length ≤ 1048576 := by omega
    have hsm0 : x0.length ≤ 4000000 := by omega
    have hzz0 : szAll Dr.sz x0 ≤ 4000000 := by omega
    have hms0 := Lib.hid (fun x (hx : x ∈ x0) => Dr.small_of (Nat.le_trans (mem_szAll hx) hzz0))
    have HL0 := Lib.hid hl0
    clear hl0
    go_wp2_with fail
    refine (szDir x1 ⟨f1n, f1q⟩ _ _ (R1.out.grew g1) O1.out (by omega) (by omega)).mono ?_
    rintro e w2 ⟨r1, rfl, hl1, s2⟩
    have g2 : Grew w w2 := g1.trans s2
    have pz3 := Lib.hid s2.size
    replace bxf1_0 := grew_cell s2 bxf1_0
    replace bxf1_1 := grew_cell s2 bxf1_1
    rcases hl1 with rfl | ⟨hl1, hp1⟩
    · go_wp2
      go_ret
      exact ⟨rfl, g2⟩
    · have hle1 : r1 ≤ 1048576 := by omega
      have hzt1 : x1.sz ≤ 1048576 := by omega
      have hzz1 : x1.sz ≤ 4000000 := by omega
      have hms1 := Lib.hid (Dr.small_of hzz1)
      have HL1 := Lib.hid hl1
      clear hl1
      have BD0 : (setD x0 x1).length ≤ 4000000 := Nat.le_trans (setD_len x0 x1) (by omega)
      have SM0 : ∀ x, x ∈ setD x0 x1 → x.small := fun x hx => (setD_mem hx).elim (fun e => e ▸ hms1.out) (hms0.out x)
      have CN0 : 0 ≤ cntL cntDr (setD x0 x1) ∧ cntL cntDr (setD x0 x1) ≤ 40000000000000 := cnt_dirs (Nat.le_trans (setD_sz x0 x1) (by omega)) (Nat.le_trans (setD_len x0 x1) (by omega))
      have SP := fun (w : World) (v0 : Value) (h0 : RdDs w v0 x0) (v1 : P2) (h1 : Dr.R w x1 v1) => specSetDirO v0 x0 x1 v1 w h0 h1 (by omega) hms0.out hms1.out (by have := HL0.out; omega) (by omega)
      have IM := fun (w : World) (v0 : Value) (h0 : RdDs w v0 x0) (v1 : P2) (h1 : Dr.R w x1 v1) => implSetDirO v0 x0 x1 v1 w h0 h1 (by omega) hms0.out hms1.out (by have := HL0.out; omega) (by omega)
      generalize setD x0 x1 = rv0 at SP IM BD0 SM0 CN0
      replace SM0 := Lib.hid SM0
      generalize setOk x0 x1 = rv1 at SP IM
      replace SP := Lib.hid SP
      replace IM := Lib.hid IM
      go_wp2_with fail
      refine wp_region_noPanic ?_
      refine wp_region_held_drew (S := (fun w' => (w'.cell? ⟨w.heap.size, 0, none⟩ = some (.string f1n) ∧ w'.cell? ⟨w.heap.size, 1, none⟩ = some (f1q) ∧ Grew (w2) w'))) (by kernel_rfl) ?h1_S ?h1_r
      case h1_S => exact ⟨bxf1_0, bxf1_1, (Grew.refl _).drew⟩
      case h1_r =>
        intro HS
        first
          | refine sk 0 rfl (by kernel_rfl) rfl HS ?_
          | (refine tk (v := ?v1_0) 0 rfl (by kernel_rfl) rfl ?y1_0 HS ?_; case y1_0 => (intro w' hSw; (try dsimp only at hSw); go_simp <;> (with_reducible rfl)))
        try simp only [Act.put, List.setIfInBounds_toArray, List.set_cons_zero, List.set_cons_succ]
        first
          | refine sk 2 rfl (by kernel_rfl) rfl HS ?_
          | (refine tk (v := ?v1_2) 2 rfl (by kernel_rfl) rfl ?y1_2 HS ?_; case y1_2 => (intro w' hSw; (try dsimp only at hSw); go_simp <;> (with_reducible rfl)))
        try simp only [Act.put, List.setIfInBounds_toArray, List.set_cons_zero, List.set_cons_succ]
        refine cl 1 rfl (by kernel_rfl) (fun K hK => ?_)
        go_simp
        go_at_call 21
        refine (toDirS _ x0 _ (R0.out.grew (g2.trans HS.2.2)) (by omega) hms0.out).mono ?_
        rintro e w3 ⟨c0, rfl, o_c0, hb⟩
        have pz4 := Lib.hid hb.size
        refine hK.out _ _ ?s1_1 ?r1_1
        case s1_1 => (try dsimp only); exact ⟨grew_cell hb HS.1, grew_cell hb HS.2.1, HS.2.2.trans hb⟩
        case r1_1 =>
          clear HS
          intro HS
          clear hK K
          try simp only [Act.put, List.setIfInBounds_toArray, List.set_cons_zero, List.set_cons_succ]
          refine cl 3 rfl (by kernel_rfl) (fun K hK => ?_)
          go_simp
          go_at_call 28
          refine (toDir x1 ⟨f1n, f1q⟩ _ (R1.out.grew (g2.trans HS.2.2)) hms1.out).mono ?_
          rintro e w4 ⟨⟨c1n, c1q⟩, rfl, o_c1, d_c1, hb⟩
          have pz5 := Lib.hid hb.size
          clear d_c1
          replace o_c0 := o_c0.grew hb
          refine hK.out _ _ ?s1_3 ?r1_3
          case s1_3 => (try dsimp only); exact ⟨grew_cell hb HS.1, grew_cell hb HS.2.1, HS.2.2.trans hb⟩
          case r1_3 =>
            clear HS
            intro HS
            clear hK K
            try simp only [Act.put, List.setIfInBounds_toArray, List.set_cons_zero, List.set_cons_succ]
            refine cl 4 rfl (by kernel_rfl) (fun K hK => ?_)
            go_simp
            go_at_call 27
            refine (SP.out _ c0 o_c0.rd ⟨c1n, c1q⟩ o_c1.rd).mono ?_
            rintro e w5 ⟨rw0, rfl, o_rw0, hb⟩
            have pz6 := Lib.hid hb.size
            replace o_c0 := o_c0.grew hb
            replace o_c1 := o_c1.grew hb
            refine hK.out _ _ ?s1_4 ?r1_4
            case s1_4 => (try dsimp only); exact ⟨grew_cell hb HS.1, grew_cell hb HS.2.1, HS.2.2.trans hb⟩
            case r1_4 =>
              clear HS
              intro HS
              clear hK K
              try simp only [Act.put, List.setIfInBounds_toArray, List.set_cons_zero, List.set_cons_succ]
              first
                | refine sk 5 rfl (by kernel_rfl) rfl HS ?_
                | (refine tk (v := ?v1_5) 5 rfl (by kernel_rfl) rfl ?y1_5 HS ?_; case y1_5 => (intro w' hSw; (try dsimp only at hSw); go_simp <;> (with_reducible rfl)))
              try simp only [Act.put, List.setIfInBounds_toArray, List.set_cons_zero, List.set_cons_succ]
              first
                | refine sk 6 rfl (by kernel_rfl) rfl HS ?_
                | (refine tk (v := ?v1_6) 6 rfl (by kernel_rfl) rfl ?y1_6 HS ?_; case y1_6 => (intro w' hSw; (try dsimp only at hSw); go_simp <;> (with_reducible rfl)))
              try simp only [Act.put, List.setIfInBounds_toArray, List.set_cons_zero, List.set_cons_succ]
              first
                | refine sk 7 rfl (by kernel_rfl) rfl HS ?_
                | (refine tk (v := ?v1_7) 7 rfl (by kernel_rfl) rfl ?y1_7 HS ?_; case y1_7 => (intro w' hSw; (try dsimp only at hSw); go_simp <;> (with_reducible rfl)))
              try simp only [Act.put, List.setIfInBounds_toArray, List.set_cons_zero, List.set_cons_succ]
              first
                | refine sk 8 rfl (by kernel_rfl) rfl HS ?_
                | (refine tk (v := ?v1_8) 8 rfl (by kernel_rfl) rfl ?y1_8 HS ?_; case y1_8 => (intro w' hSw; (try dsimp only at hSw); go_simp <;> (with_reducible rfl)))
              try simp only [Act.put, List.setIfInBounds_toArray, List.set_cons_zero, List.set_cons_succ]
              first
                | refine sk 9 rfl (by kernel_rfl) rfl HS ?_
                | (refine tk (v := ?v1_9) 9 rfl (by kernel_rfl) rfl ?y1_9 HS ?_; case y1_9 => (intro w' hSw; (try dsimp only at hSw); go_simp <;> (with_reducible rfl)))
              try simp only [Act.put, List.setIfInBounds_toArray, List.set_cons_zero, List.set_cons_succ]
              refine wpAnyH_done (by kernel_rfl) ?_ _
              refine NoPanic.normal ?_
              have sd1 : Grew (w2) w5 := HS.2.2
              have gd1 := g2.trans sd1
              replace bxf1_0 := HS.1
              replace bxf1_1 := HS.2.1
              clear HS
              go_wp2_with fail
              refine (toDirS _ x0 _ (R0.out.grew gd1) (by omega) hms0.out).mono ?_
              rintro e w6 ⟨y0, rfl, o_y0, s6⟩
              have g6 : Grew w w6 := gd1.trans s6
              have pz7 := Lib.hid s6.size
              replace bxf1_0 := grew_cell s6 bxf1_0
              replace bxf1_1 := grew_cell s6 bxf1_1
              replace o_rw0 := o_rw0.grew s6
              go_wp2_with fail
              refine (toDir x1 ⟨f1n, f1q⟩ _ (R1.out.grew g6) hms1.out).mono ?_
              rintro e w7 ⟨⟨y1n, y1q⟩, rfl, o_y1, d_y1, s7⟩
              have g7 : Grew w w7 := g6.trans s7
              have pz8 := Lib.hid s7.size
              replace bxf1_0 := grew_cell s7 bxf1_0
              replace bxf1_1 := grew_cell s7 bxf1_1
              replace d_y1 := Lib.hid d_y1
              replace o_rw0 := o_rw0.grew s7
              replace o_y0 := o_y0.grew s7
              obtain ⟨y1qa, y1qc, rfl⟩ := own_slice o_y1.2.1
              replace o_rw0 := o_rw0.grew ((Grew.refl _).alloc (.cells #[.string y1n, .slice y1qa x1.query.length y1qc] 49))
              replace o_y0 := o_y0.grew ((Grew.refl _).alloc (.cells #[.string y1n, .slice y1qa x1.query.length y1qc] 49))
              replace o_y1 := o_y1.grew ((Grew.refl _).alloc (.cells #[.string y1n, .slice y1qa x1.query.length y1qc] 49))
              replace bxf1_0 := grew_cell ((Grew.refl _).alloc (.cells #[.string y1n, .slice y1qa x1.query.length y1qc] 49)) bxf1_0
              replace bxf1_1 := grew_cell ((Grew.refl _).alloc (.cells #[.string y1n, .slice y1qa x1.query.length y1qc] 49)) bxf1_1
              have bxy1_0 : (w7.alloc (.cells #[.string y1n, .slice y1qa x1.query.length y1qc] 49)).cell? ⟨w7.heap.size, 0, none⟩ = some (.string y1n) := by simp
              have bxy1_1 : (w7.alloc (.cells #[.string y1n, .slice y1qa x1.query.length y1qc] 49)).cell? ⟨w7.heap.size, 1, none⟩ = some (.slice y1qa x1.query.length y1qc) := by simp
              have ga2 := Grew.alloc g7 (.cells #[.string y1n, .slice y1qa x1.query.length y1qc] 49)
              have pz9 : Hid (w7.heap.size ≤ (w7.alloc (.cells #[.string y1n, .slice y1qa x1.query.length y1qc] 49)).heap.size) := Lib.hid (by simp)
              have pby1 : Hid (w7.heap.size < (w7.alloc (.cells #[.string y1n, .slice y1qa x1.query.length y1qc] 49)).heap.size) := Lib.hid (by simp)
              go_wp2_with fail
              refine (IM.out _ y0 o_y0.rd ⟨y1n, .slice y1qa x1.query.length y1qc⟩ o_y1.rd).mono ?_
              rintro e w8 ⟨rg0, rfl, o_rg0, s8⟩
              have g8 : Grew w w8 := ga2.trans s8
              have pz10 := Lib.hid s8.size
              replace bxf1_0 := grew_cell s8 bxf1_0
              replace bxf1_1 := grew_cell s8 bxf1_1
              replace bxy1_0 := grew_cell s8 bxy1_0
              replace bxy1_1 := grew_cell s8 bxy1_1
              replace o_rw0 := o_rw0.grew s8
              replace o_y0 := o_y0.grew s8
              replace o_y1 := o_y1.grew s8
              go_wp2_with fail
              refine (eqDirS _ _ rv0 _ o_rg0.rd o_rw0.rd (by omega) SM0.out).mono ?_
              rintro e w9 ⟨rfl, s9⟩
              have g9 : Grew w w9 := g8.trans s9
              have pz11 := Lib.hid s9.size
              replace bxf1_0 := grew_cell s9 bxf1_0
              replace bxf1_1 := grew_cell s9 bxf1_1
              replace bxy1_0 := grew_cell s9 bxy1_0
              replace bxy1_1 := grew_cell s9 bxy1_1
              replace o_rw0 := o_rw0.grew s9
              replace o_y0 := o_y0.grew s9
              replace o_y1 := o_y1.grew s9
              replace o_rg0 := o_rg0.grew s9
              go_wp2_with fail
              refine (toDirS _ x0 _ (R0.out.grew g9) (by omega) hms0.out).mono ?_
              rintro e w10 ⟨z0, rfl, o_z0, s10⟩
              have g10 : Grew w w10 := g9.trans s10
              have pz12 := Lib.hid s10.size
              replace bxf1_0 := grew_cell s10 bxf1_0
              replace bxf1_1 := grew_cell s10 bxf1_1
              replace bxy1_0 := grew_cell s10 bxy1_0
              replace bxy1_1 := grew_cell s10 bxy1_1
              replace o_rw0 := o_rw0.grew s10
              replace o_y0 := o_y0.grew s10
              replace o_y1 := o_y1.grew s10
              replace o_rg0 := o_rg0.grew s10
              go_wp2_with fail
              refine (eqDirS _ _ x0 _ o_y0.rd o_z0.rd (by omega) hms0.out).mono ?_
              rintro e w11 ⟨rfl, s11⟩
              have g11 : Grew w w11 := g10.trans s11
              have pz13 := Lib.hid s11.size
              replace bxf1_0 := grew_cell s11 bxf1_0
              replace bxf1_1 := grew_cell s11 bxf1_1
              replace bxy1_0 := grew_cell s11 bxy1_0
              replace bxy1_1 := grew_cell s11 bxy1_1
              replace o_rw0 := o_rw0.grew s11
              replace o_y0 := o_y0.grew s11
              replace o_y1 := o_y1.grew s11
              replace o_rg0 := o_rg0.grew s11
              replace o_z0 := o_z0.grew s11
              go_wp2
              refine wp_region_noPanic ?_
              refine wp_region_held_drew (S := (fun w' => (w'.cell? ⟨w.heap.size, 0, none⟩ = some (.string f1n) ∧ w'.cell? ⟨w.heap.size, 1, none⟩ = some (f1q) ∧ w'.cell? ⟨w7.heap.size, 0, none⟩ = some (.string y1n) ∧ w'.cell? ⟨w7.heap.size, 1, none⟩ = some (.slice y1qa x1.query.length y1qc) ∧ Grew (w11) w'))) (by kernel_rfl) ?h2_S ?h2_r
              case h2_S => exact ⟨bxf1_0, bxf1_1, bxy1_0, bxy1_1, (Grew.refl _).drew⟩
              case h2_r =>
                intro HS
                first
                  | refine sk 0 rfl (by kernel_rfl) rfl HS ?_
                  | (refine tk (v := ?v2_0) 0 rfl (by kernel_rfl) rfl ?y2_0 HS ?_; case y2_0 => (intro w' hSw; (try dsimp only at hSw); go_simp <;> (with_reducible rfl)))
                try simp only [Act.put, List.setIfInBounds_toArray, List.set_cons_zero, List.set_cons_succ]
                first
                  | refine sk 1 rfl (by kernel_rfl) rfl HS ?_
                  | (refine tk (v := ?v2_1) 1 rfl (by kernel_rfl) rfl ?y2_1 HS ?_; case y2_1 => (intro w' hSw; (try dsimp only at hSw); go_simp <;> (with_reducible rfl)))
                try simp only [Act.put, List.setIfInBounds_toArray, List.set_cons_zero, List.set_cons_succ]
                refine cl 2 rfl (by kernel_rfl) (fun K hK => ?_)
                go_simp
                go_at_call 28; refine (toDir x1 ⟨f1n, f1q⟩ _ (R1.out.grew (g11.trans HS.2.2.2.2)) hms1.out).mono ?_; rintro e wz1 ⟨⟨z1n, z1q⟩, rfl, o_z1, d_z1, hb⟩
                refine hK.out _ _ ?s2_2 ?r2_2
                case s2_2 => (try dsimp only); exact ⟨grew_cell hb HS.1, grew_cell hb HS.2.1, grew_cell hb HS.2.2.1, grew_cell hb HS.2.2.2.1, HS.2.2.2.2.trans hb⟩
                case r2_2 =>
                  clear HS
                  intro HS
                  clear hK K
                  try simp only [Act.put, List.setIfInBounds_toArray, List.set_cons_zero, List.set_cons_succ]
                  refine cl 3 rfl (by kernel_rfl) (fun K hK => ?_)
                  go_simp
                  go_at_call 30; refine (eqDir x1 ⟨y1n, .slice y1qa x1.query.length y1qc⟩ ⟨z1n, z1q⟩ _ (o_y1.grew HS.2.2.2.2).rd o_z1.rd hms1.out).mono ?_; rintro e wy1 ⟨rfl, hb⟩
                  refine hK.out _ _ ?s2_3 ?r2_3
                  case s2_3 => (try dsimp only); exact ⟨grew_cell hb HS.1, grew_cell hb HS.2.1, grew_cell hb HS.2.2.1, grew_cell hb HS.2.2.2.1, HS.2.2.2.2.trans hb⟩
                  case r2_3 =>
                    clear HS
                    intro HS
                    clear hK K
                    try simp only [Act.put, List.setIfInBounds_toArray, List.set_cons_zero, List.set_cons_succ]
                    first
                      | refine sk 4 rfl (by kernel_rfl) rfl HS ?_
                      | (refine tk (v := ?v2_4) 4 rfl (by kernel_rfl) rfl ?y2_4 HS ?_; case y2_4 => (intro w' hSw; (try dsimp only at hSw); go_simp <;> (with_reducible rfl)))
                    try simp only [Act.put, List.setIfInBounds_toArray, List.set_cons_zero, List.set_cons_succ]
                    refine wpAnyH_done (by kernel_rfl) ?_ _
                    refine NoPanic.normal ?_
                    have sd2 : Grew (w11) wy1 := HS.2.2.2.2
                    have gd2 := g11.trans sd2
                    have pz14 := Lib.hid sd2.size
                    replace o_rw0 := o_rw0.grew sd2
                    replace o_y0 := o_y0.grew sd2
                    replace o_y1 := o_y1.grew sd2
                    replace o_rg0 := o_rg0.grew sd2
                    replace bxf1_0 := HS.1
                    replace bxf1_1 := HS.2.1
                    replace bxy1_0 := HS.2.2.1
                    replace bxy1_1 := HS.2.2.2.1
                    clear HS
                    go_wp2_with fail
                    refine (markDirS _ x0 1 _ _ _ o_y0 (by omega) hms0.out (by omega) (by have := Dr.cnt_ok (xs := x0) (by omega) hzz0; omega)).mono ?_
                    rintro e w12 ⟨he, om, s12⟩
                    clear om
                    obtain ⟨kk0, ka0, kb0, rfl⟩ : ∃ k : Int, 0 ≤ k ∧ k ≤ 56000001 ∧ e = .returned (.int .i64 k) := ⟨_, by have := Dr.cnt_ok (xs := x0) (by omega) hzz0; omega, by have := Dr.cnt_ok (xs := x0) (by omega) hzz0; omega, he⟩
                    have pz15 := Lib.hid s12.size
                    have g12 : Grew w w12 := Touch.new gd2 s12 (Nat.le_trans (Nat.le_trans (Nat.le_trans (Nat.le_trans (Nat.le_trans (pz1.out) pz2.out) pz3.out) pz4.out) pz5.out) pz6.out)
                    replace o_rw0 := o_rw0.touch s12 (.inl (Nat.le_refl _))
                    replace o_y1 := o_y1.touch s12 (.inr (Nat.le_refl _))
                    replace o_rg0 := o_rg0.touch s12 (.inr (Nat.le_trans (pz8.out) pz9.out))
                    replace bxf1_0 := touch_cell s12 (.inl (Nat.lt_of_lt_of_le pbf1.out (Nat.le_trans (Nat.le_trans (Nat.le_trans (Nat.le_trans (pz2.out) pz3.out) pz4.out) pz5.out) pz6.out))) bxf1_0
                    replace bxf1_1 := touch_cell s12 (.inl (Nat.lt_of_lt_of_le pbf1.out (Nat.le_trans (Nat.le_trans (Nat.le_trans (Nat.le_trans (pz2.out) pz3.out) pz4.out) pz5.out) pz6.out))) bxf1_1
                    replace bxy1_0 := touch_cell s12 (.inr (pz8.out)) bxy1_0
                    replace bxy1_1 := touch_cell s12 (.inr (pz8.out)) bxy1_1
                    go_wp2_with fail
                    refine (markDir x1 ⟨y1n, .slice y1qa x1.query.length y1qc⟩ kk0 _ _ _ o_y1 (by have := hzz1; unfold Dr.sz at this; omega) (by omega) (by omega)).mono ?_
                    rintro e w13 ⟨he, om, s13⟩
                    clear om
                    obtain ⟨kk1, ka1, kb1, rfl⟩ : ∃ k : Int, 0 ≤ k ∧ k ≤ 86000001 ∧ e = .returned (.int .i64 k) := ⟨_, by have := hzz1; unfold Dr.sz at this; omega, by have := hzz1; unfold Dr.sz at this; omega, he⟩
                    have pz16 := Lib.hid s13.size
                    have g13 : Grew w w13 := Touch.new g12 s13 (Nat.le_trans (Nat.le_trans (Nat.le_trans (Nat.le_trans (Nat.le_trans (Nat.le_trans (pz1.out) pz2.out) pz3.out) pz4.out) pz5.out) pz6.out) pz7.out)
                    replace o_rw0 := o_rw0.touch s13 (.inl (pz7.out))
                    replace o_rg0 := o_rg0.touch s13 (.inr (pz9.out))
                    replace bxf1_0 := touch_cell s13 (.inl (Nat.lt_of_lt_of_le pbf1.out (Nat.le_trans (Nat.le_trans (Nat.le_trans (Nat.le_trans (Nat.le_trans (pz2.out) pz3.out) pz4.out) pz5.out) pz6.out) pz7.out))) bxf1_0
                    replace bxf1_1 := touch_cell s13 (.inl (Nat.lt_of_lt_of_le pbf1.out (Nat.le_trans (Nat.le_trans (Nat.le_trans (Nat.le_trans (Nat.le_trans (pz2.out) pz3.out) pz4.out) pz5.out) pz6.out) pz7.out))) bxf1_1
                    replace bxy1_0 := touch_cell s13 (.inr (Nat.le_refl _)) bxy1_0
                    replace bxy1_1 := touch_cell s13 (.inr (Nat.le_refl _)) bxy1_1
                    go_wp2_with fail
                    refine (eqDirS _ _ rv0 _ o_rg0.rd o_rw0.rd (by omega) SM0.out).mono ?_
                    rintro e w14 ⟨rfl, s14⟩
                    have g14 : Grew w w14 := g13.trans s14
                    have pz17 := Lib.hid s14.size
                    replace bxf1_0 := grew_cell s14 bxf1_0
                    replace bxf1_1 := grew_cell s14 bxf1_1
                    replace bxy1_0 := grew_cell s14 bxy1_0
                    replace bxy1_1 := grew_cell s14 bxy1_1
                    replace o_rw0 := o_rw0.grew s14
                    replace o_rg0 := o_rg0.grew s14
                    go_wp2_with fail
                    refine (markDirS _ rv0 (1) _ _ _ o_rg0 (by omega) SM0.out (by omega) (by omega)).mono ?_
                    rintro e w15 ⟨rfl, om_rg0, s15⟩
                    have pz18 := Lib.hid s15.size
                    have g15 : Grew w w15 := Touch.new g14 s15 (Nat.le_trans (Nat.le_trans (Nat.le_trans (Nat.le_trans (Nat.le_trans (Nat.le_trans (Nat.le_trans (Nat.le_trans (pz1.out) pz2.out) pz3.out) pz4.out) pz5.out) pz6.out) pz7.out) pz8.out) pz9.out)
                    replace o_rw0 := o_rw0.touch s15 (.inl (Nat.le_trans (Nat.le_trans (pz7.out) pz8.out) pz9.out))
                    replace bxf1_0 := touch_cell s15 (.inl (Nat.lt_of_lt_of_le pbf1.out (Nat.le_trans (Nat.le_trans (Nat.le_trans (Nat.le_trans (Nat.le_trans (Nat.le_trans (Nat.le_trans (pz2.out) pz3.out) pz4.out) pz5.out) pz6.out) pz7.out) pz8.out) pz9.out))) bxf1_0
                    replace bxf1_1 := touch_cell s15 (.inl (Nat.lt_of_lt_of_le pbf1.out (Nat.le_trans (Nat.le_trans (Nat.le_trans (Nat.le_trans (Nat.le_trans (Nat.le_trans (Nat.le_trans (pz2.out) pz3.out) pz4.out) pz5.out) pz6.out) pz7.out) pz8.out) pz9.out))) bxf1_1
                    replace bxy1_0 := touch_cell s15 (.inl (Nat.lt_of_lt_of_le pby1.out (Nat.le_refl _))) bxy1_0
                    replace bxy1_1 := touch_cell s15 (.inl (Nat.lt_of_lt_of_le pby1.out (Nat.le_refl _))) bxy1_1
                    go_wp2_with fail
                    refine (heldDirS _ rv0 (1) _ om_rg0.rd (by omega) SM0.out (by omega) (by omega)).mono ?_
                    rintro e w16 ⟨rfl, s16⟩
                    have g16 : Grew w w16 := g15.trans s16
                    have pz19 := Lib.hid s16.size
                    replace bxf1_0 := grew_cell s16 bxf1_0
                    replace bxf1_1 := grew_cell s16 bxf1_1
                    replace bxy1_0 := grew_cell s16 bxy1_0
                    replace bxy1_1 := grew_cell s16 bxy1_1
                    replace o_rw0 := o_rw0.grew s16
                    replace om_rg0 := om_rg0.grew s16
                    go_wp2_with fail
                    refine wp_region_noPanic ?_
                    refine wp_region_held_drew (S := (fun w' => (w'.cell? ⟨w.heap.size, 0, none⟩ = some (.string f1n) ∧ w'.cell? ⟨w.heap.size, 1, none⟩ = some (f1q) ∧ w'.cell? ⟨w7.heap.size, 0, none⟩ = some (.string y1n) ∧ w'.cell? ⟨w7.heap.size, 1, none⟩ = some (.slice y1qa x1.query.length y1qc) ∧ Grew (w16) w'))) (by kernel_rfl) ?h3_S ?h3_r
                    case h3_S => exact ⟨bxf1_0, bxf1_1, bxy1_0, bxy1_1, (Grew.refl _).drew⟩
                    case h3_r =>
                      intro HS
                      first
                        | refine sk 0 rfl (by kernel_rfl) rfl HS ?_
                        | (refine tk (v := ?v3_0) 0 rfl (by kernel_rfl) rfl ?y3_0 HS ?_; case y3_0 => (intro w' hSw; (try dsimp only at hSw); go_simp <;> (with_reducible rfl)))
                      try simp only [Act.put, List.setIfInBounds_toArray, List.set_cons_zero, List.set_cons_succ]
                      first
                        | refine sk 2 rfl (by kernel_rfl) rfl HS ?_
                        | (refine tk (v := ?v3_2) 2 rfl (by kernel_rfl) rfl ?y3_2 HS ?_; case y3_2 => (intro w' hSw; (try dsimp only at hSw); go_simp <;> (with_reducible rfl)))
                      try simp only [Act.put, List.setIfInBounds_toArray, List.set_cons_zero, List.set_cons_succ]
                      refine cl 1 rfl (by kernel_rfl) (fun K hK => ?_)
                      go_simp
                      go_at_call 21
                      refine (toDirS _ x0 _ (R0.out.grew (g16.trans HS.2.2.2.2)) (by omega) hms0.out).mono ?_
                      rintro e w17 ⟨v0, rfl, o_v0, hb⟩
                      have pz20 := Lib.hid hb.size
                      refine hK.out _ _ ?s3_1 ?r3_1
                      case s3_1 => (try dsimp only); exact ⟨grew_cell hb HS.1, grew_cell hb HS.2.1, grew_cell hb HS.2.2.1, grew_cell hb HS.2.2.2.1, HS.2.2.2.2.trans hb⟩
                      case r3_1 =>
                        clear HS
                        intro HS
                        clear hK K
                        try simp only [Act.put, List.setIfInBounds_toArray, List.set_cons_zero, List.set_cons_succ]
                        refine cl 3 rfl (by kernel_rfl) (fun K hK => ?_)
                        go_simp
                        go_at_call 28
                        refine (toDir x1 ⟨f1n, f1q⟩ _ (R1.out.grew (g16.trans HS.2.2.2.2)) hms1.out).mono ?_
                        rintro e w18 ⟨⟨v1n, v1q⟩, rfl, o_v1, d_v1, hb⟩
                        have pz21 := Lib.hid hb.size
                        clear d_v1
                        replace o_v0 := o_v0.grew hb
                        refine hK.out _ _ ?s3_3 ?r3_3
                        case s3_3 => (try dsimp only); exact ⟨grew_cell hb HS.1, grew_cell hb HS.2.1, grew_cell hb HS.2.2.1, grew_cell hb HS.2.2.2.1, HS.2.2.2.2.trans hb⟩
                        case r3_3 =>
                          clear HS
                          intro HS
                          clear hK K
                          try simp only [Act.put, List.setIfInBounds_toArray, List.set_cons_zero, List.set_cons_succ]
                          refine cl 4 rfl (by kernel_rfl) (fun K hK => ?_)
                          go_simp
                          go_at_call 29
                          refine (IM.out _ v0 o_v0.rd ⟨v1n, v1q⟩ o_v1.rd).mono ?_
                          rintro e w19 ⟨rh0, rfl, o_rh0, hb⟩
                          have pz22 := Lib.hid hb.size
                          replace o_v0 := o_v0.grew hb
                          replace o_v1 := o_v1.grew hb
                          refine hK.out _ _ ?s3_4 ?r3_4
                          case s3_4 => (try dsimp only); exact ⟨grew_cell hb HS.1, grew_cell hb HS.2.1, grew_cell hb HS.2.2.1, grew_cell hb HS.2.2.2.1, HS.2.2.2.2.trans hb⟩
                          case r3_4 =>
                            clear HS
                            intro HS
                            clear hK K
                            try simp only [Act.put, List.setIfInBounds_toArray, List.set_cons_zero, List.set_cons_succ]
                            first
                              | refine sk 5 rfl (by kernel_rfl) rfl HS ?_
                              | (refine tk (v := ?v3_5) 5 rfl (by kernel_rfl) rfl ?y3_5 HS ?_; case y3_5 => (intro w' hSw; (try dsimp only at hSw); go_simp <;> (with_reducible rfl)))
                            try simp only [Act.put, List.setIfInBounds_toArray, List.set_cons_zero, List.set_cons_succ]
                            first
                              | refine sk 6 rfl (by kernel_rfl) rfl HS ?_
                              | (refine tk (v := ?v3_6) 6 rfl (by kernel_rfl) rfl ?y3_6 HS ?_; case y3_6 => (intro w' hSw; (try dsimp only at hSw); go_simp <;> (with_reducible rfl)))
                            try simp only [Act.put, List.setIfInBounds_toArray, List.set_cons_zero, List.set_cons_succ]
                            first
                              | refine sk 7 rfl (by kernel_rfl) rfl HS ?_
                              | (refine tk (v := ?v3_7) 7 rfl (by kernel_rfl) rfl ?y3_7 HS ?_; case y3_7 => (intro w' hSw; (try dsimp only at hSw); go_simp <;> (with_reducible rfl)))
                            try simp only [Act.put, List.setIfInBounds_toArray, List.set_cons_zero, List.set_cons_succ]
                            first
                              | refine sk 8 rfl (by kernel_rfl) rfl HS ?_
                              | (refine tk (v := ?v3_8) 8 rfl (by kernel_rfl) rfl ?y3_8 HS ?_; case y3_8 => (intro w' hSw; (try dsimp only at hSw); go_simp <;> (with_reducible rfl)))
                            try simp only [Act.put, List.setIfInBounds_toArray, List.set_cons_zero, List.set_cons_succ]
                            first
                              | refine sk 9 rfl (by kernel_rfl) rfl HS ?_
                              | (refine tk (v := ?v3_9) 9 rfl (by kernel_rfl) rfl ?y3_9 HS ?_; case y3_9 => (intro w' hSw; (try dsimp only at hSw); go_simp <;> (with_reducible rfl)))
                            try simp only [Act.put, List.setIfInBounds_toArray, List.set_cons_zero, List.set_cons_succ]
                            refine wpAnyH_done (by kernel_rfl) ?_ _
                            refine NoPanic.normal ?_
                            have sd3 : Grew (w16) w19 := HS.2.2.2.2
                            have gd3 := g16.trans sd3
                            replace o_rw0 := o_rw0.grew sd3
                            replace om_rg0 := om_rg0.grew sd3
                            replace bxf1_0 := HS.1
                            replace bxf1_1 := HS.2.1
                            replace bxy1_0 := HS.2.2.1
                            replace bxy1_1 := HS.2.2.2.1
                            clear HS
                            go_wp2_with fail
                            refine (eqDirS _ _ rv0 _ o_rh0.rd o_rw0.rd (by omega) SM0.out).mono ?_
                            rintro e w20 ⟨rfl, s20⟩
                            have g20 : Grew w w20 := gd3.trans s20
                            have pz23 := Lib.hid s20.size
                            replace bxf1_0 := grew_cell s20 bxf1_0
                            replace bxf1_1 := grew_cell s20 bxf1_1
                            replace bxy1_0 := grew_cell s20 bxy1_0
                            replace bxy1_1 := grew_cell s20 bxy1_1
                            replace o_rw0 := o_rw0.grew s20
                            replace om_rg0 := om_rg0.grew s20
                            replace o_v0 := o_v0.grew s20
                            replace o_v1 := o_v1.grew s20
                            replace o_rh0 := o_rh0.grew s20
                            go_wp2_with fail
                            refine (heldDirS _ rv0 (1) _ om_rg0.rd (by omega) SM0.out (by omega) (by omega)).mono ?_
                            rintro e w21 ⟨rfl, s21⟩
                            have g21 : Grew w w21 := g20.trans s21
                            have pz24 := Lib.hid s21.size
                            replace bxf1_0 := grew_cell s21 bxf1_0
                            replace bxf1_1 := grew_cell s21 bxf1_1
                            replace bxy1_0 := grew_cell s21 bxy1_0
                            replace bxy1_1 := grew_cell s21 bxy1_1
                            replace o_rw0 := o_rw0.grew s21
                            replace om_rg0 := om_rg0.grew s21
                            replace o_v0 := o_v0.grew s21
                            replace o_v1 := o_v1.grew s21
                            replace o_rh0 := o_rh0.grew s21
                            go_wp2
                            go_ret
                            exact ⟨rfl, g21⟩
end Go.Proofs.Ytgekgokkbakcmaa.fnExactSetDir
