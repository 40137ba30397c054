/- The statement of laws.FnExactIsFixpoint: for every input the call returns true and each argument reads as before. Conditions: none. -/
import Derived.Test.YtopcdojekjlijaaGreatG
import Derived.Test.YtopcdojekjlijaaGreatU3
import Derived.Test.YtopcdojekjlijaaGreatS
import Derived.Test.YtopcdojekjlijaaGreatH7
import Derived.Test.YtopcdojekjlijaaGreatO2
import Derived.Test.YtopcdojekjlijaaGreatJ
/- The walk of laws.FnExactIsFixpoint, out of the contracts of the two functions. -/
namespace Go.Proofs.YtopcdojekjlijaaGreat.fnExactIsFixpoint
open Go.RowKit
set_option linter.unusedVariables false
set_option maxRecDepth 100000 in
set_option maxHeartbeats 1000000 in
theorem walkLaw (w : World) (q0 : PS) (x0 : St) (hr0 : St.R w x0 q0) (ho0 : x0.ok0) (u1 : Value) (x1 : List Dr) (hr1 : RdDs w u1 x1) (hn1 : x1.length ≤ maxLen) (ho1 : ∀ x, x ∈ x1 → x.ok0) (u2 : Value) (x2 : List Rs) (hr2 : RdRs w u2 x2) (hn2 : x2.length ≤ maxLen) (ho2 : ∀ x, x ∈ x2 → x.ok0) :
    Calls Tryz.prog 4 #[.agg (q0.c).toArray, u1, u2] w fun e w' => e = .returned (.bool true) ∧ Grew w w' := by
  have R0 := Lib.hid hr0
  have O0 := Lib.hid ho0
  obtain ⟨f0q, f0r, f0n⟩ := q0
  clear hr0 ho0
  have R1 := Lib.hid hr1
  have O1 := Lib.hid ho1
  obtain ⟨ps1, ⟨sa1, sc1, rfl, hc1, hra1⟩, hall1⟩ := hr1
  clear ho1 hra1 hall1
  have R2 := Lib.hid hr2
  have O2 := Lib.hid ho2
  obtain ⟨ps2, ⟨sa2, sc2, rfl, hc2, hra2⟩, hall2⟩ := hr2
  clear ho2 hra2 hall2
  change Calls Tryz.prog 4 #[.agg #[f0q, f0r, .int .i64 f0n], _, _] w _
  go_enter Tryz.func4, Tryz.ntmps4
  have bxf0_0 : (w.alloc (.cells #[f0q, f0r, .int .i64 f0n] 25)).cell? ⟨w.heap.size, 0, none⟩ = some (f0q) := by simp
  have bxf0_1 : (w.alloc (.cells #[f0q, f0r, .int .i64 f0n] 25)).cell? ⟨w.heap.size, 1, none⟩ = some (f0r) := by simp
  have bxf0_2 : (w.alloc (.cells #[f0q, f0r, .int .i64 f0n] 25)).cell? ⟨w.heap.size, 2, none⟩ = some (.int .i64 f0n) := by simp
  have ga1 := Grew.alloc (Grew.refl w) (.cells #[f0q, f0r, .int .i64 f0n] 25)
  go_wp2_with fail
  refine (szStore x0 ⟨f0q, f0r, f0n⟩ _ _ (R0.out.grew ga1) O0.out (by omega) (by omega)).mono ?_
  rintro e w1 ⟨r0, rfl, hl0, s1⟩
  have g1 : Grew w w1 := ga1.trans s1
  replace bxf0_0 := grew_cell s1 bxf0_0
  replace bxf0_1 := grew_cell s1 bxf0_1
  replace bxf0_2 := grew_cell s1 bxf0_2
  rcases hl0 with rfl | ⟨hl0, hp0⟩
  · go_wp2
    go_ret
    exact ⟨rfl, g1⟩
  · have hle0 : r0 ≤ 1048576 := by omega
    have hzt0 : x0.sz ≤ 1048576 := by omega
    have hzz0 : x0.sz ≤ 4000000 := by omega
    have hms0 := Lib.hid (St.small_of hzz0)
    have HL0 := Lib.hid hl0
    clear hl0
    go_wp2_with fail
    refine (szDirS _ x1 _ _ (R1.out.grew g1) hn1 O1.out (by omega) (by omega)).mono ?_
    rintro e w2 ⟨r1, rfl, hl1, s2⟩
    have g2 : Grew w w2 := g1.trans s2
    replace bxf0_0 := grew_cell s2 bxf0_0
    replace bxf0_1 := grew_cell s2 bxf0_1
    replace bxf0_2 := grew_cell s2 bxf0_2
    rcases hl1 with rfl | ⟨hl1, hp1⟩
    · go_wp2
      go_ret
      exact ⟨rfl, g2⟩
    · have hle1 : r1 ≤ 1048576 := by omega
      have hst1 : x1.length ≤ 1048576 := by omega
      have hsm1 : x1.length ≤ 4000000 := by omega
      have hzz1 : szAll Dr.sz x1 ≤ 4000000 := by omega
      have hms1 := Lib.hid (fun x (hx : x ∈ x1) => Dr.small_of (Nat.le_trans (mem_szAll hx) hzz1))
      have HL1 := Lib.hid hl1
      clear hl1
      go_wp2_with fail
      refine (szResultS _ x2 _ _ (R2.out.grew g2) hn2 O2.out (by omega) (by omega)).mono ?_
      rintro e w3 ⟨r2, rfl, hl2, s3⟩
      have g3 : Grew w w3 := g2.trans s3
      replace bxf0_0 := grew_cell s3 bxf0_0
      replace bxf0_1 := grew_cell s3 bxf0_1
      replace bxf0_2 := grew_cell s3 bxf0_2
      rcases hl2 with rfl | ⟨hl2, hp2⟩
      · go_wp2
        go_ret
        exact ⟨rfl, g3⟩
      · have hle2 : r2 ≤ 1048576 := by omega
        have hst2 : x2.length ≤ 1048576 := by omega
        have hsm2 : x2.length ≤ 4000000 := by omega
        have hzz2 : szAll Rs.sz x2 ≤ 4000000 := by omega
        have hms2 := Lib.hid (fun x (hx : x ∈ x2) => Rs.small_of (Nat.le_trans (mem_szAll hx) hzz2))
        have HL2 := Lib.hid hl2
        clear hl2
        go_wp2_with fail
        refine (toStore x0 ⟨f0q, f0r, f0n⟩ _ (R0.out.grew g3) hms0.out).mono ?_
        rintro e w4 ⟨⟨c0q, c0r, c0n⟩, rfl, o_c0, d_c0, s4⟩
        have g4 : Grew w w4 := g3.trans s4
        replace bxf0_0 := grew_cell s4 bxf0_0
        replace bxf0_1 := grew_cell s4 bxf0_1
        replace bxf0_2 := grew_cell s4 bxf0_2
        replace d_c0 := Lib.hid d_c0
        go_wp2_with fail
        refine (toDirS _ x1 _ (R1.out.grew g4) (by omega) hms1.out).mono ?_
        rintro e w5 ⟨c1, rfl, o_c1, s5⟩
        have g5 : Grew w w5 := g4.trans s5
        replace bxf0_0 := grew_cell s5 bxf0_0
        replace bxf0_1 := grew_cell s5 bxf0_1
        replace bxf0_2 := grew_cell s5 bxf0_2
        replace o_c0 := o_c0.grew s5
        go_wp2_with fail
        refine (toResultS _ x2 _ (R2.out.grew g5) (by omega) hms2.out).mono ?_
        rintro e w6 ⟨c2, rfl, o_c2, s6⟩
        have g6 : Grew w w6 := g5.trans s6
        replace bxf0_0 := grew_cell s6 bxf0_0
        replace bxf0_1 := grew_cell s6 bxf0_1
        replace bxf0_2 := grew_cell s6 bxf0_2
        replace o_c0 := o_c0.grew s6
        replace o_c1 := o_c1.grew s6
        go_wp2_with fail
        refine (specIsFixpoint x0 ⟨c0q, c0r, c0n⟩ c1 x1 c2 x2 _ o_c0.rd o_c1.rd o_c2.rd (by omega) hzz1 hzz0 (by omega) hms2.out).mono ?_
        rintro e w7 ⟨rfl, s7⟩
        have g7 : Grew w w7 := g6.trans s7
        replace bxf0_0 := grew_cell s7 bxf0_0
        replace bxf0_1 := grew_cell s7 bxf0_1
        replace bxf0_2 := grew_cell s7 bxf0_2
        replace o_c0 := o_c0.grew s7
        replace o_c1 := o_c1.grew s7
        replace o_c2 := o_c2.grew s7
        go_wp2_with fail
        refine (toStore x0 ⟨f0q, f0r, f0n⟩ _ (R0.out.grew g7) hms0.out).mono ?_
        rintro e w8 ⟨⟨y0q, y0r, y0n⟩, rfl, o_y0, d_y0, s8⟩
        have g8 : Grew w w8 := g7.trans s8
        replace bxf0_0 := grew_cell s8 bxf0_0
        replace bxf0_1 := grew_cell s8 bxf0_1
        replace bxf0_2 := grew_cell s8 bxf0_2
        replace d_y0 := Lib.hid d_y0
        obtain ⟨y0qa, y0qc, y0ra, y0rc, he_y0⟩ := o_y0.slices
        cases he_y0
        replace o_y0 := o_y0.grew ((Grew.refl _).alloc (.cells #[.slice y0qa x0.schema.length y0qc, .slice y0ra x0.files.length y0rc, .int .i64 x0.next] 33))
        replace bxf0_0 := grew_cell ((Grew.refl _).alloc (.cells #[.slice y0qa x0.schema.length y0qc, .slice y0ra x0.files.length y0rc, .int .i64 x0.next] 33)) bxf0_0
        replace bxf0_1 := grew_cell ((Grew.refl _).alloc (.cells #[.slice y0qa x0.schema.length y0qc, .slice y0ra x0.files.length y0rc, .int .i64 x0.next] 33)) bxf0_1
        replace bxf0_2 := grew_cell ((Grew.refl _).alloc (.cells #[.slice y0qa x0.schema.length y0qc, .slice y0ra x0.files.length y0rc, .int .i64 x0.next] 33)) bxf0_2
        have bxy0_0 : (w8.alloc (.cells #[.slice y0qa x0.schema.length y0qc, .slice y0ra x0.files.length y0rc, .int .i64 x0.next] 33)).cell? ⟨w8.heap.size, 0, none⟩ = some (.slice y0qa x0.schema.length y0qc) := by simp
        have bxy0_1 : (w8.alloc (.cells #[.slice y0qa x0.schema.length y0qc, .slice y0ra x0.files.length y0rc, .int .i64 x0.next] 33)).cell? ⟨w8.heap.size, 1, none⟩ = some (.slice y0ra x0.files.length y0rc) := by simp
        have bxy0_2 : (w8.alloc (.cells #[.slice y0qa x0.schema.length y0qc, .slice y0ra x0.files.length y0rc, .int .i64 x0.next] 33)).cell? ⟨w8.heap.size, 2, none⟩ = some (.int .i64 x0.next) := by simp
        have ga2 := Grew.alloc g8 (.cells #[.slice y0qa x0.schema.length y0qc, .slice y0ra x0.files.length y0rc, .int .i64 x0.next] 33)
        go_wp2_with fail
        refine (toDirS _ x1 _ (R1.out.grew ga2) (by omega) hms1.out).mono ?_
        rintro e w9 ⟨y1, rfl, o_y1, s9⟩
        have g9 : Grew w w9 := ga2.trans s9
        replace bxf0_0 := grew_cell s9 bxf0_0
        replace bxf0_1 := grew_cell s9 bxf0_1
        replace bxf0_2 := grew_cell s9 bxf0_2
        replace bxy0_0 := grew_cell s9 bxy0_0
        replace bxy0_1 := grew_cell s9 bxy0_1
        replace bxy0_2 := grew_cell s9 bxy0_2
        replace o_y0 := o_y0.grew s9
        go_wp2_with fail
        refine (toResultS _ x2 _ (R2.out.grew g9) (by omega) hms2.out).mono ?_
        rintro e w10 ⟨y2, rfl, o_y2, s10⟩
        have g10 : Grew w w10 := g9.trans s10
        replace bxf0_0 := grew_cell s10 bxf0_0
        replace bxf0_1 := grew_cell s10 bxf0_1
        replace bxf0_2 := grew_cell s10 bxf0_2
        replace bxy0_0 := grew_cell s10 bxy0_0
        replace bxy0_1 := grew_cell s10 bxy0_1
        replace bxy0_2 := grew_cell s10 bxy0_2
        replace o_y0 := o_y0.grew s10
        replace o_y1 := o_y1.grew s10
        go_wp2_with fail
        refine (implIsFixpoint x0 ⟨.slice y0qa x0.schema.length y0qc, .slice y0ra x0.files.length y0rc, x0.next⟩ y1 x1 y2 x2 _ o_y0.rd o_y1.rd o_y2.rd (by omega) hzz1 hzz0 (by omega) hms2.out).mono ?_
        rintro e w11 ⟨rfl, s11⟩
        have g11 : Grew w w11 := g10.trans s11
        replace bxf0_0 := grew_cell s11 bxf0_0
        replace bxf0_1 := grew_cell s11 bxf0_1
        replace bxf0_2 := grew_cell s11 bxf0_2
        replace bxy0_0 := grew_cell s11 bxy0_0
        replace bxy0_1 := grew_cell s11 bxy0_1
        replace bxy0_2 := grew_cell s11 bxy0_2
        replace o_y0 := o_y0.grew s11
        replace o_y1 := o_y1.grew s11
        replace o_y2 := o_y2.grew s11
        go_wp2
        refine wp_region_noPanic ?_
        refine wp_region_held_drew (S := (fun w' => (w'.cell? ⟨w.heap.size, 0, none⟩ = some (f0q) ∧ w'.cell? ⟨w.heap.size, 1, none⟩ = some (f0r) ∧ w'.cell? ⟨w.heap.size, 2, none⟩ = some (.int .i64 f0n) ∧ w'.cell? ⟨w8.heap.size, 0, none⟩ = some (.slice y0qa x0.schema.length y0qc) ∧ w'.cell? ⟨w8.heap.size, 1, none⟩ = some (.slice y0ra x0.files.length y0rc) ∧ w'.cell? ⟨w8.heap.size, 2, none⟩ = some (.int .i64 x0.next) ∧ Grew (w11) w'))) (by kernel_rfl) ?h4_S ?h4_r
        case h4_S => exact ⟨bxf0_0, bxf0_1, bxf0_2, bxy0_0, bxy0_1, bxy0_2, (Grew.refl _).drew⟩
        case h4_r =>
          intro HS
          first
            | refine sk 0 rfl (by kernel_rfl) rfl HS ?_
            | (refine tk (v := ?v4_0) 0 rfl (by kernel_rfl) rfl ?y4_0 HS ?_; case y4_0 => (intro w' hSw; (try dsimp only at hSw); go_simp <;> (with_reducible rfl)))
          try simp only [Act.put, List.setIfInBounds_toArray, List.set_cons_zero, List.set_cons_succ]
          first
            | refine sk 1 rfl (by kernel_rfl) rfl HS ?_
            | (refine tk (v := ?v4_1) 1 rfl (by kernel_rfl) rfl ?y4_1 HS ?_; case y4_1 => (intro w' hSw; (try dsimp only at hSw); go_simp <;> (with_reducible rfl)))
          try simp only [Act.put, List.setIfInBounds_toArray, List.set_cons_zero, List.set_cons_succ]
          refine cl 2 rfl (by kernel_rfl) (fun K hK => ?_)
          go_simp
          go_at_call 10; refine (toStore x0 ⟨f0q, f0r, f0n⟩ _ (R0.out.grew (g11.trans HS.2.2.2.2.2.2)) hms0.out).mono ?_; rintro e wz0 ⟨⟨z0q, z0r, z0n⟩, rfl, o_z0, d_z0, hb⟩
          refine hK.out _ _ ?s4_2 ?r4_2
          case s4_2 => (try dsimp only); exact ⟨grew_cell hb HS.1, grew_cell hb HS.2.1, grew_cell hb HS.2.2.1, grew_cell hb HS.2.2.2.1, grew_cell hb HS.2.2.2.2.1, grew_cell hb HS.2.2.2.2.2.1, HS.2.2.2.2.2.2.trans hb⟩
          case r4_2 =>
            clear HS
            intro HS
            clear hK K
            try simp only [Act.put, List.setIfInBounds_toArray, List.set_cons_zero, List.set_cons_succ]
            refine cl 3 rfl (by kernel_rfl) (fun K hK => ?_)
            go_simp
            go_at_call 13; refine (eqStore x0 ⟨.slice y0qa x0.schema.length y0qc, .slice y0ra x0.files.length y0rc, x0.next⟩ ⟨z0q, z0r, z0n⟩ _ (o_y0.grew HS.2.2.2.2.2.2).rd o_z0.rd hms0.out).mono ?_; rintro e wy0 ⟨rfl, hb⟩
            refine hK.out _ _ ?s4_3 ?r4_3
            case s4_3 => (try dsimp only); exact ⟨grew_cell hb HS.1, grew_cell hb HS.2.1, grew_cell hb HS.2.2.1, grew_cell hb HS.2.2.2.1, grew_cell hb HS.2.2.2.2.1, grew_cell hb HS.2.2.2.2.2.1, HS.2.2.2.2.2.2.trans hb⟩
            case r4_3 =>
              clear HS
              intro HS
              clear hK K
              try simp only [Act.put, List.setIfInBounds_toArray, List.set_cons_zero, List.set_cons_succ]
              first
                | refine sk 4 rfl (by kernel_rfl) rfl HS ?_
                | (refine tk (v := ?v4_4) 4 rfl (by kernel_rfl) rfl ?y4_4 HS ?_; case y4_4 => (intro w' hSw; (try dsimp only at hSw); go_simp <;> (with_reducible rfl)))
              try simp only [Act.put, List.setIfInBounds_toArray, List.set_cons_zero, List.set_cons_succ]
              refine wpAnyH_done (by kernel_rfl) ?_ _
              refine NoPanic.normal ?_
              have sd1 : Grew (w11) wy0 := HS.2.2.2.2.2.2
              have gd1 := g11.trans sd1
              replace o_y0 := o_y0.grew sd1
              replace o_y1 := o_y1.grew sd1
              replace o_y2 := o_y2.grew sd1
              replace bxf0_0 := HS.1
              replace bxf0_1 := HS.2.1
              replace bxf0_2 := HS.2.2.1
              replace bxy0_0 := HS.2.2.2.1
              replace bxy0_1 := HS.2.2.2.2.1
              replace bxy0_2 := HS.2.2.2.2.2.1
              clear HS
              go_wp2_with fail
              refine (toDirS _ x1 _ (R1.out.grew gd1) (by omega) hms1.out).mono ?_
              rintro e w12 ⟨z1, rfl, o_z1, s12⟩
              have g12 : Grew w w12 := gd1.trans s12
              replace bxf0_0 := grew_cell s12 bxf0_0
              replace bxf0_1 := grew_cell s12 bxf0_1
              replace bxf0_2 := grew_cell s12 bxf0_2
              replace bxy0_0 := grew_cell s12 bxy0_0
              replace bxy0_1 := grew_cell s12 bxy0_1
              replace bxy0_2 := grew_cell s12 bxy0_2
              replace o_y0 := o_y0.grew s12
              replace o_y1 := o_y1.grew s12
              replace o_y2 := o_y2.grew s12
              go_wp2_with fail
              refine (eqDirS _ _ x1 _ o_y1.rd o_z1.rd (by omega) hms1.out).mono ?_
              rintro e w13 ⟨rfl, s13⟩
              have g13 : Grew w w13 := g12.trans s13
              replace bxf0_0 := grew_cell s13 bxf0_0
              replace bxf0_1 := grew_cell s13 bxf0_1
              replace bxf0_2 := grew_cell s13 bxf0_2
              replace bxy0_0 := grew_cell s13 bxy0_0
              replace bxy0_1 := grew_cell s13 bxy0_1
              replace bxy0_2 := grew_cell s13 bxy0_2
              replace o_y0 := o_y0.grew s13
              replace o_y1 := o_y1.grew s13
              replace o_y2 := o_y2.grew s13
              replace o_z1 := o_z1.grew s13
              go_wp2_with fail
              refine (toResultS _ x2 _ (R2.out.grew g13) (by omega) hms2.out).mono ?_
              rintro e w14 ⟨z2, rfl, o_z2, s14⟩
              have g14 : Grew w w14 := g13.trans s14
              replace bxf0_0 := grew_cell s14 bxf0_0
              replace bxf0_1 := grew_cell s14 bxf0_1
              replace bxf0_2 := grew_cell s14 bxf0_2
              replace bxy0_0 := grew_cell s14 bxy0_0
              replace bxy0_1 := grew_cell s14 bxy0_1
              replace bxy0_2 := grew_cell s14 bxy0_2
              replace o_y0 := o_y0.grew s14
              replace o_y1 := o_y1.grew s14
              replace o_y2 := o_y2.grew s14
              replace o_z1 := o_z1.grew s14
              go_wp2_with fail
              refine (eqResultS _ _ x2 _ o_y2.rd o_z2.rd (by omega) hms2.out).mono ?_
              rintro e w15 ⟨rfl, s15⟩
              have g15 : Grew w w15 := g14.trans s15
              replace bxf0_0 := grew_cell s15 bxf0_0
              replace bxf0_1 := grew_cell s15 bxf0_1
              replace bxf0_2 := grew_cell s15 bxf0_2
              replace bxy0_0 := grew_cell s15 bxy0_0
              replace bxy0_1 := grew_cell s15 bxy0_1
              replace bxy0_2 := grew_cell s15 bxy0_2
              replace o_y0 := o_y0.grew s15
              replace o_y1 := o_y1.grew s15
              replace o_y2 := o_y2.grew s15
              replace o_z1 := o_z1.grew s15
              replace o_z2 := o_z2.grew s15
              go_wp2
              go_ret
              exact ⟨rfl, g15⟩
end Go.Proofs.YtopcdojekjlijaaGreat.fnExactIsFixpoint
namespace Go.Proofs.YtopcdojekjlijaaGreat.fnExactIsFixpoint
open Go.ChangeShapes Go.WideShapes Go.ChangeAt Go.RowKit
open Go.ChangeMaps (open_string shut_string)
set_option linter.unusedVariables false
set_option maxRecDepth 100000 in
theorem lifted (os : Os) (started : os.Started) (H : Type) (enc : TypeId × Value → H) :
    ReturnsInHanded {} Tryz.checked os 4 .any (Rows.fnExactIsFixpointSpec.pre6 enc Tryz.prog Tryz.f4 Rows.fnExactIsFixpointRow.domain false) (Rows.fnExactIsFixpointSpec.post enc Tryz.prog Tryz.f4 false true false false) := by
  refine returnsInHanded_of_change (C := Tryz.checked) own started (by kernel_rfl) Tryz.func4
    (ChangeSpec.witness6 (enc := enc) (C := Tryz.checked) false ⟨#[], #[.agg #[.slice none 0 0, .slice none 0 0, .int .i64 0], .slice none 0 0, .slice none 0 0], []⟩ 8 (by kernel_rfl) (by kernel_rfl) (by kernel_rfl) (by kernel_rfl)) ?_
  intro W base args ds gs before hval0 hW hcnd _
  have hval : ∀ (j : Nat) t v, Tryz.f4.params[j]? = some t → args[j]? = some v → Value.okWide Tryz.prog W .any base t v := hval0
  have hW' := hW
  obtain ⟨p, q, hA0, hV, rfl, hfz, hnd⟩ := hW
  have hA : DataW.TrodAll enc Tryz.prog W 0 (fun _ => true) true Tryz.f4.params.toList args.toList ds p := hA0
  rw [Tryz.params4] at hA hval
  obtain ⟨v0, vs0, d0, ds0, p0, q0, hargs, rfl, rfl, h0, r0⟩ := trodAll_cons hA
  obtain ⟨v1, vs1, d1, ds1, p1, q1, rfl, rfl, rfl, h1, r1⟩ := trodAll_cons r0
  obtain ⟨v2, vs2, d2, ds2, p2, q2, rfl, rfl, rfl, h2, r2⟩ := trodAll_cons r1
  obtain ⟨rfl, rfl, rfl⟩ := trodAll_nil r2
  obtain rfl : args = #[v0, v1, v2] := by cases args; simp_all
  obtain ⟨rfl, rfl⟩ := trodVars_none hV
  have k0 := h0
  have lt0 : ∀ x ∈ p0, x.block < W.heap.size := by obtain ⟨m, hm⟩ := k0; exact DataW.trod_lt m _ _ _ hm
  obtain ⟨cs0, rfl, hsz0⟩ := okWide_struct Tryz.underlying25 (hval 0 25 v0 rfl rfl)
  obtain ⟨fu0, hf0⟩ := h0
  obtain ⟨ca0, cb0, a0, e0, hra0, hrb0, ho0⟩ := getStore hf0
  obtain rfl : cs0 = #[ca0, cb0, .int .i64 a0.next] := by apply Array.toList_inj.1; exact e0
  have k1 := h1
  have lt1 : ∀ x ∈ p1, x.block < W.heap.size := by obtain ⟨m, hm⟩ := k1; exact DataW.trod_lt m _ _ _ hm
  obtain ⟨s1, l1, c1, rfl⟩ := okWide_slice Tryz.underlying26 (hval 1 26 v1 rfl rfl)
  obtain ⟨fu1, hf1⟩ := h1
  obtain ⟨x1, hr1, hn1, ho1⟩ := open_dirs hf1
  have k2 := h2
  have lt2 : ∀ x ∈ p2, x.block < W.heap.size := by obtain ⟨m, hm⟩ := k2; exact DataW.trod_lt m _ _ _ hm
  obtain ⟨s2, l2, c2, rfl⟩ := okWide_slice Tryz.underlying40 (hval 2 40 v2 rfl rfl)
  obtain ⟨fu2, hf2⟩ := h2
  obtain ⟨x2, hr2, hn2, ho2⟩ := open_ress hf2
  clear hA0 hval0
  refine (walkLaw W ⟨ca0, cb0, a0.next⟩ a0 ⟨hra0, hrb0, rfl⟩ ho0 _ x1 hr1 hn1 ho1 _ x2 hr2 hn2 ho2).mono fun e W' ⟨he, bel⟩ => ?_
  subst he
  exact ⟨_, rfl, _, _, _, [], _, [], hW', trodAll_mk1 (shut_bool Tryz.underlying4 _), (trodAll_cons_mk (Below.trod laidOut (by kernel_rfl) (of_decide_eq_true (by kernel_rfl)) k0 bel lt0) (trodAll_cons_mk (Below.trod laidOut (by kernel_rfl) (of_decide_eq_true (by kernel_rfl)) k1 bel lt1) (trodAll_cons_mk (Below.trod laidOut (by kernel_rfl) (of_decide_eq_true (by kernel_rfl)) k2 bel lt2) trodAll_mk0))), rfl, bel.below.frame _, fun h => by cases h⟩
theorem joined : joinedFacts Tryz.pinned.checked.prog 4 Tryz.f4 Rows.fnExactIsFixpointSpec Rows.fnExactIsFixpointRow = true := by
  unfold joinedFacts
  rw [j_may, j_lift, j_make]
  kernel_rfl
theorem over : Rows.fnExactIsFixpointRow.holds Tryz.pinned (OpenSpec.ofChange Rows.fnExactIsFixpointSpec) :=
  OpenClaim.holds_of_wide 4 Tryz.f4 rfl rfl rfl rfl rfl rfl rfl ⟨rfl, rfl, rfl, rfl, rfl⟩ rfl rfl rfl rfl rfl (by kernel_rfl) Tryz.func4 joined
    (of_decide_eq_true (by kernel_rfl)) (by unfold Func.isWrapper; first | (rw [if_pos (by decide +kernel)]; kernel_rfl) | (rw [if_neg (by decide +kernel)]; exact ⟨rfl, rfl⟩))
    (fun os started H enc _ => lifted os started H enc)
theorem proved : Rows.FnExactIsFixpointSaid := over
end Go.Proofs.YtopcdojekjlijaaGreat.fnExactIsFixpoint
