/- The walk of laws.FnExactSelectFiles, out of the contracts of the two functions. -/
import Derived.Test.YtopcdojekjlijaaG
import Derived.Test.YtopcdojekjlijaaM4
import Derived.Test.YtopcdojekjlijaaS
import Derived.Test.YtopcdojekjlijaaH2
import Derived.Test.YtopcdojekjlijaaH6
import Derived.Test.YtopcdojekjlijaaH7
import Derived.Test.YtopcdojekjlijaaO2
namespace Go.Proofs.Ytopcdojekjlijaa.fnExactSelectFiles
open Go.RowKit
set_option linter.unusedVariables false
set_option maxRecDepth 100000 in
set_option maxHeartbeats 1000000 in
theorem walkLaw (w : World) (q0 : PS) (x0 : St) (hr0 : St.R w x0 q0) (ho0 : x0.ok0) (u1 : Value) (n1 : Nat) (x1 : List N) (hr1 : Rd w u1 7 n1 (rows N.c x1)) (hn1 : n1 ≤ maxLen) (ho1 : ∀ a : N, a ∈ x1 → a.ok) (u2 : Value) (x2 : List Rs) (hr2 : RdRs w u2 x2) (hn2 : x2.length ≤ maxLen) (ho2 : ∀ x, x ∈ x2 → x.ok0) :
    Calls Try.prog 7 #[.agg (q0.c).toArray, u1, u2] w fun e w' => e = .returned (.bool true) ∧ Grew w w' := by
  have R0 := Lib.hid hr0
  have O0 := Lib.hid ho0
  obtain ⟨f0q, f0r, f0n⟩ := q0
  clear hr0 ho0
  have R1 := Lib.hid hr1
  have O1 : Hid (∀ a : N, a ∈ x1 → a.ok0) := fun a h => ⟨(ho1 a h).2.2.2.1, (ho1 a h).2.2.2.2.2.2⟩
  obtain ⟨sa1, sc1, rfl, hc1, hra1⟩ := hr1
  clear ho1 hra1
  have R2 := Lib.hid hr2
  have O2 := Lib.hid ho2
  obtain ⟨ps2, ⟨sa2, sc2, rfl, hc2, hra2⟩, hall2⟩ := hr2
  clear ho2 hra2 hall2
  change Calls Try.prog 7 #[.agg #[f0q, f0r, .int .i64 f0n], _, _] w _
  go_enter Try.func7, Try.ntmps7
  have bxf0_0 : (w.alloc (.cells #[f0q, f0r, .int .i64 f0n] 73)).cell? ⟨w.heap.size, 0, none⟩ = some (f0q) := by simp
  have bxf0_1 : (w.alloc (.cells #[f0q, f0r, .int .i64 f0n] 73)).cell? ⟨w.heap.size, 1, none⟩ = some (f0r) := by simp
  have bxf0_2 : (w.alloc (.cells #[f0q, f0r, .int .i64 f0n] 73)).cell? ⟨w.heap.size, 2, none⟩ = some (.int .i64 f0n) := by simp
  have ga1 := Grew.alloc (Grew.refl w) (.cells #[f0q, f0r, .int .i64 f0n] 73)
  have pz1 : Hid (w.heap.size ≤ (w.alloc (.cells #[f0q, f0r, .int .i64 f0n] 73)).heap.size) := Lib.hid (by simp)
  have pbf0 : Hid (w.heap.size < (w.alloc (.cells #[f0q, f0r, .int .i64 f0n] 73)).heap.size) := Lib.hid (by simp)
  go_wp2_with fail
  refine (szStore x0 ⟨f0q, f0r, f0n⟩ _ _ (R0.out.grew ga1) O0.out (by omega) (by omega)).mono ?_
  rintro e w1 ⟨r0, rfl, hl0, s1⟩
  have g1 : Grew w w1 := ga1.trans s1
  have pz2 := Lib.hid s1.size
  replace bxf0_0 := grew_cell s1 bxf0_0
  replace bxf0_1 := grew_cell s1 bxf0_1
  replace bxf0_2 := grew_cell s1 bxf0_2
  rcases hl0 with rfl | ⟨hl0, hp0⟩
  · go_wp2
    go_ret
    exact ⟨rfl, g1⟩
  · have hle0 : r0 ≤ 1048576 := by omega
    have hzt0 : x0.sz ≤ 1048576 := by omega
    have hzz0 : x0.sz ≤ 4000000 := by omega
    have hms0 := Lib.hid (St.small_of hzz0)
    have HL0 := Lib.hid hl0
    clear hl0
    go_wp2_with fail
    refine (szNodeS _ n1 x1 _ _ (R1.out.grew g1) hn1 O1.out (by omega) (by omega)).mono ?_
    rintro e w2 ⟨r1, rfl, hl1, s2⟩
    have g2 : Grew w w2 := g1.trans s2
    have pz3 := Lib.hid s2.size
    replace bxf0_0 := grew_cell s2 bxf0_0
    replace bxf0_1 := grew_cell s2 bxf0_1
    replace bxf0_2 := grew_cell s2 bxf0_2
    rcases hl1 with rfl | ⟨hl1, hp1⟩
    · go_wp2
      go_ret
      exact ⟨rfl, g2⟩
    · have hle1 : r1 ≤ 1048576 := by omega
      have hsm1 : n1 ≤ 4000000 := by omega
      have hzz1 : szAll N.sz x1 ≤ 4000000 := by omega
      have HL1 := Lib.hid hl1
      clear hl1
      go_wp2_with fail
      refine (szResultS _ x2 _ _ (R2.out.grew g2) hn2 O2.out (by omega) (by omega)).mono ?_
      rintro e w3 ⟨r2, rfl, hl2, s3⟩
      have g3 : Grew w w3 := g2.trans s3
      have pz4 := Lib.hid s3.size
      replace bxf0_0 := grew_cell s3 bxf0_0
      replace bxf0_1 := grew_cell s3 bxf0_1
      replace bxf0_2 := grew_cell s3 bxf0_2
      rcases hl2 with rfl | ⟨hl2, hp2⟩
      · go_wp2
        go_ret
        exact ⟨rfl, g3⟩
      · have hle2 : r2 ≤ 1048576 := by omega
        have hst2 : x2.length ≤ 1048576 := by omega
        have hsm2 : x2.length ≤ 4000000 := by omega
        have hzz2 : szAll Rs.sz x2 ≤ 4000000 := by omega
        have hms2 := Lib.hid (fun x (hx : x ∈ x2) => Rs.small_of (Nat.le_trans (mem_szAll hx) hzz2))
        have HL2 := Lib.hid hl2
        clear hl2
        have BD0 : (selL x1 x0.files x2).length ≤ 4000000 := Nat.le_trans (selL_len x1 x0.files x2) hms0.out.2.1
        have SP := fun (w : World) (v0 : PS) (h0 : St.R w x0 v0) (v1 : Value) (h1 : Rd w v1 7 n1 (rows N.c x1)) (v2 : Value) (h2 : RdRs w v2 x2) => specSelectFiles x0 v0 v1 x1 v2 x2 w h0 (Rd.fix7 h1) h2 hms0.out.2.1 hms0.out.2.2 (by have := Rd.fix7n R1.out; omega) hzz1 (by omega) hms2.out
        have IM := fun (w : World) (v0 : PS) (h0 : St.R w x0 v0) (v1 : Value) (h1 : Rd w v1 7 n1 (rows N.c x1)) (v2 : Value) (h2 : RdRs w v2 x2) => implSelectFiles x0 v0 v1 x1 v2 x2 w h0 (Rd.fix7 h1) h2 hms0.out.2.1 hms0.out.2.2 (by have := Rd.fix7n R1.out; omega) hzz1 (by omega) hms2.out
        generalize selL x1 x0.files x2 = rv0 at SP IM BD0
        replace SP := Lib.hid SP
        replace IM := Lib.hid IM
        go_wp2_with fail
        refine (toStore x0 ⟨f0q, f0r, f0n⟩ _ (R0.out.grew g3) hms0.out).mono ?_
        rintro e w4 ⟨⟨c0q, c0r, c0n⟩, rfl, o_c0, d_c0, s4⟩
        have g4 : Grew w w4 := g3.trans s4
        have pz5 := Lib.hid s4.size
        replace bxf0_0 := grew_cell s4 bxf0_0
        replace bxf0_1 := grew_cell s4 bxf0_1
        replace bxf0_2 := grew_cell s4 bxf0_2
        replace d_c0 := Lib.hid d_c0
        go_wp2_with fail
        refine (toNodeS _ n1 x1 _ (R1.out.grew g4) (by omega)).mono ?_
        rintro e w5 ⟨c1, rfl, o_c1, s5⟩
        have g5 : Grew w w5 := g4.trans s5
        have pz6 := Lib.hid s5.size
        replace bxf0_0 := grew_cell s5 bxf0_0
        replace bxf0_1 := grew_cell s5 bxf0_1
        replace bxf0_2 := grew_cell s5 bxf0_2
        replace o_c0 := o_c0.grew s5
        have o_c1 := Own.of o_c1
        go_wp2_with fail
        refine (toResultS _ x2 _ (R2.out.grew g5) (by omega) hms2.out).mono ?_
        rintro e w6 ⟨c2, rfl, o_c2, s6⟩
        have g6 : Grew w w6 := g5.trans s6
        have pz7 := Lib.hid s6.size
        replace bxf0_0 := grew_cell s6 bxf0_0
        replace bxf0_1 := grew_cell s6 bxf0_1
        replace bxf0_2 := grew_cell s6 bxf0_2
        replace o_c0 := o_c0.grew s6
        replace o_c1 := o_c1.grew s6
        go_wp2_with fail
        refine (SP.out _ ⟨c0q, c0r, c0n⟩ o_c0.rd c1 o_c1.rd c2 o_c2.rd).mono ?_
        rintro e w7 ⟨rw0, rfl, o_rw0, s7⟩
        have g7 : Grew w w7 := g6.trans s7
        have pz8 := Lib.hid s7.size
        replace bxf0_0 := grew_cell s7 bxf0_0
        replace bxf0_1 := grew_cell s7 bxf0_1
        replace bxf0_2 := grew_cell s7 bxf0_2
        replace o_c0 := o_c0.grew s7
        replace o_c1 := o_c1.grew s7
        replace o_c2 := o_c2.grew s7
        have o_rw0 := Own.of o_rw0
        go_wp2_with fail
        refine (toStore x0 ⟨f0q, f0r, f0n⟩ _ (R0.out.grew g7) hms0.out).mono ?_
        rintro e w8 ⟨⟨y0q, y0r, y0n⟩, rfl, o_y0, d_y0, s8⟩
        have g8 : Grew w w8 := g7.trans s8
        have pz9 := Lib.hid s8.size
        replace bxf0_0 := grew_cell s8 bxf0_0
        replace bxf0_1 := grew_cell s8 bxf0_1
        replace bxf0_2 := grew_cell s8 bxf0_2
        replace d_y0 := Lib.hid d_y0
        replace o_rw0 := o_rw0.grew s8
        obtain ⟨y0qa, y0qc, y0ra, y0rc, he_y0⟩ := o_y0.slices
        cases he_y0
        replace o_rw0 := o_rw0.grew ((Grew.refl _).alloc (.cells #[.slice y0qa x0.schema.length y0qc, .slice y0ra x0.files.length y0rc, .int .i64 x0.next] 80))
        replace o_y0 := o_y0.grew ((Grew.refl _).alloc (.cells #[.slice y0qa x0.schema.length y0qc, .slice y0ra x0.files.length y0rc, .int .i64 x0.next] 80))
        replace bxf0_0 := grew_cell ((Grew.refl _).alloc (.cells #[.slice y0qa x0.schema.length y0qc, .slice y0ra x0.files.length y0rc, .int .i64 x0.next] 80)) bxf0_0
        replace bxf0_1 := grew_cell ((Grew.refl _).alloc (.cells #[.slice y0qa x0.schema.length y0qc, .slice y0ra x0.files.length y0rc, .int .i64 x0.next] 80)) bxf0_1
        replace bxf0_2 := grew_cell ((Grew.refl _).alloc (.cells #[.slice y0qa x0.schema.length y0qc, .slice y0ra x0.files.length y0rc, .int .i64 x0.next] 80)) bxf0_2
        have bxy0_0 : (w8.alloc (.cells #[.slice y0qa x0.schema.length y0qc, .slice y0ra x0.files.length y0rc, .int .i64 x0.next] 80)).cell? ⟨w8.heap.size, 0, none⟩ = some (.slice y0qa x0.schema.length y0qc) := by simp
        have bxy0_1 : (w8.alloc (.cells #[.slice y0qa x0.schema.length y0qc, .slice y0ra x0.files.length y0rc, .int .i64 x0.next] 80)).cell? ⟨w8.heap.size, 1, none⟩ = some (.slice y0ra x0.files.length y0rc) := by simp
        have bxy0_2 : (w8.alloc (.cells #[.slice y0qa x0.schema.length y0qc, .slice y0ra x0.files.length y0rc, .int .i64 x0.next] 80)).cell? ⟨w8.heap.size, 2, none⟩ = some (.int .i64 x0.next) := by simp
        have ga2 := Grew.alloc g8 (.cells #[.slice y0qa x0.schema.length y0qc, .slice y0ra x0.files.length y0rc, .int .i64 x0.next] 80)
        have pz10 : Hid (w8.heap.size ≤ (w8.alloc (.cells #[.slice y0qa x0.schema.length y0qc, .slice y0ra x0.files.length y0rc, .int .i64 x0.next] 80)).heap.size) := Lib.hid (by simp)
        have pby0 : Hid (w8.heap.size < (w8.alloc (.cells #[.slice y0qa x0.schema.length y0qc, .slice y0ra x0.files.length y0rc, .int .i64 x0.next] 80)).heap.size) := Lib.hid (by simp)
        go_wp2_with fail
        refine (toNodeS _ n1 x1 _ (R1.out.grew ga2) (by omega)).mono ?_
        rintro e w9 ⟨y1, rfl, o_y1, s9⟩
        have g9 : Grew w w9 := ga2.trans s9
        have pz11 := Lib.hid s9.size
        replace bxf0_0 := grew_cell s9 bxf0_0
        replace bxf0_1 := grew_cell s9 bxf0_1
        replace bxf0_2 := grew_cell s9 bxf0_2
        replace bxy0_0 := grew_cell s9 bxy0_0
        replace bxy0_1 := grew_cell s9 bxy0_1
        replace bxy0_2 := grew_cell s9 bxy0_2
        replace o_rw0 := o_rw0.grew s9
        replace o_y0 := o_y0.grew s9
        have o_y1 := Own.of o_y1
        go_wp2_with fail
        refine (toResultS _ x2 _ (R2.out.grew g9) (by omega) hms2.out).mono ?_
        rintro e w10 ⟨y2, rfl, o_y2, s10⟩
        have g10 : Grew w w10 := g9.trans s10
        have pz12 := Lib.hid s10.size
        replace bxf0_0 := grew_cell s10 bxf0_0
        replace bxf0_1 := grew_cell s10 bxf0_1
        replace bxf0_2 := grew_cell s10 bxf0_2
        replace bxy0_0 := grew_cell s10 bxy0_0
        replace bxy0_1 := grew_cell s10 bxy0_1
        replace bxy0_2 := grew_cell s10 bxy0_2
        replace o_rw0 := o_rw0.grew s10
        replace o_y0 := o_y0.grew s10
        replace o_y1 := o_y1.grew s10
        go_wp2_with fail
        refine (IM.out _ ⟨.slice y0qa x0.schema.length y0qc, .slice y0ra x0.files.length y0rc, x0.next⟩ o_y0.rd y1 o_y1.rd y2 o_y2.rd).mono ?_
        rintro e w11 ⟨rg0, rfl, o_rg0, s11⟩
        have g11 : Grew w w11 := g10.trans s11
        have pz13 := Lib.hid s11.size
        replace bxf0_0 := grew_cell s11 bxf0_0
        replace bxf0_1 := grew_cell s11 bxf0_1
        replace bxf0_2 := grew_cell s11 bxf0_2
        replace bxy0_0 := grew_cell s11 bxy0_0
        replace bxy0_1 := grew_cell s11 bxy0_1
        replace bxy0_2 := grew_cell s11 bxy0_2
        replace o_rw0 := o_rw0.grew s11
        replace o_y0 := o_y0.grew s11
        replace o_y1 := o_y1.grew s11
        replace o_y2 := o_y2.grew s11
        have o_rg0 := Own.of o_rg0
        go_wp2_with fail
        refine (eqIntS _ _ rv0.length rv0 _ o_rg0.rd o_rw0.rd (by omega)).mono ?_
        rintro e w12 ⟨rfl, s12⟩
        have g12 : Grew w w12 := g11.trans s12
        have pz14 := Lib.hid s12.size
        replace bxf0_0 := grew_cell s12 bxf0_0
        replace bxf0_1 := grew_cell s12 bxf0_1
        replace bxf0_2 := grew_cell s12 bxf0_2
        replace bxy0_0 := grew_cell s12 bxy0_0
        replace bxy0_1 := grew_cell s12 bxy0_1
        replace bxy0_2 := grew_cell s12 bxy0_2
        replace o_rw0 := o_rw0.grew s12
        replace o_y0 := o_y0.grew s12
        replace o_y1 := o_y1.grew s12
        replace o_y2 := o_y2.grew s12
        replace o_rg0 := o_rg0.grew s12
        go_wp2
        refine wp_region_noPanic ?_
        refine wp_region_held_drew (S := (fun w' => (w'.cell? ⟨w.heap.size, 0, none⟩ = some (f0q) ∧ w'.cell? ⟨w.heap.size, 1, none⟩ = some (f0r) ∧ w'.cell? ⟨w.heap.size, 2, none⟩ = some (.int .i64 f0n) ∧ w'.cell? ⟨w8.heap.size, 0, none⟩ = some (.slice y0qa x0.schema.length y0qc) ∧ w'.cell? ⟨w8.heap.size, 1, none⟩ = some (.slice y0ra x0.files.length y0rc) ∧ w'.cell? ⟨w8.heap.size, 2, none⟩ = some (.int .i64 x0.next) ∧ Grew (w12) w'))) (by kernel_rfl) ?h1_S ?h1_r
        case h1_S => exact ⟨bxf0_0, bxf0_1, bxf0_2, bxy0_0, bxy0_1, bxy0_2, (Grew.refl _).drew⟩
        case h1_r =>
          intro HS
          first
            | refine sk 0 rfl (by kernel_rfl) rfl HS ?_
            | (refine tk (v := ?v1_0) 0 rfl (by kernel_rfl) rfl ?y1_0 HS ?_; case y1_0 => (intro w' hSw; (try dsimp only at hSw); go_simp <;> (with_reducible rfl)))
          try simp only [Act.put, List.setIfInBounds_toArray, List.set_cons_zero, List.set_cons_succ]
          first
            | refine sk 1 rfl (by kernel_rfl) rfl HS ?_
            | (refine tk (v := ?v1_1) 1 rfl (by kernel_rfl) rfl ?y1_1 HS ?_; case y1_1 => (intro w' hSw; (try dsimp only at hSw); go_simp <;> (with_reducible rfl)))
          try simp only [Act.put, List.setIfInBounds_toArray, List.set_cons_zero, List.set_cons_succ]
          refine cl 2 rfl (by kernel_rfl) (fun K hK => ?_)
          go_simp
          go_at_call 46; refine (toStore x0 ⟨f0q, f0r, f0n⟩ _ (R0.out.grew (g12.trans HS.2.2.2.2.2.2)) hms0.out).mono ?_; rintro e wz0 ⟨⟨z0q, z0r, z0n⟩, rfl, o_z0, d_z0, hb⟩
          refine hK.out _ _ ?s1_2 ?r1_2
          case s1_2 => (try dsimp only); exact ⟨grew_cell hb HS.1, grew_cell hb HS.2.1, grew_cell hb HS.2.2.1, grew_cell hb HS.2.2.2.1, grew_cell hb HS.2.2.2.2.1, grew_cell hb HS.2.2.2.2.2.1, HS.2.2.2.2.2.2.trans hb⟩
          case r1_2 =>
            clear HS
            intro HS
            clear hK K
            try simp only [Act.put, List.setIfInBounds_toArray, List.set_cons_zero, List.set_cons_succ]
            refine cl 3 rfl (by kernel_rfl) (fun K hK => ?_)
            go_simp
            go_at_call 49; refine (eqStore x0 ⟨.slice y0qa x0.schema.length y0qc, .slice y0ra x0.files.length y0rc, x0.next⟩ ⟨z0q, z0r, z0n⟩ _ (o_y0.grew HS.2.2.2.2.2.2).rd o_z0.rd hms0.out).mono ?_; rintro e wy0 ⟨rfl, hb⟩
            refine hK.out _ _ ?s1_3 ?r1_3
            case s1_3 => (try dsimp only); exact ⟨grew_cell hb HS.1, grew_cell hb HS.2.1, grew_cell hb HS.2.2.1, grew_cell hb HS.2.2.2.1, grew_cell hb HS.2.2.2.2.1, grew_cell hb HS.2.2.2.2.2.1, HS.2.2.2.2.2.2.trans hb⟩
            case r1_3 =>
              clear HS
              intro HS
              clear hK K
              try simp only [Act.put, List.setIfInBounds_toArray, List.set_cons_zero, List.set_cons_succ]
              first
                | refine sk 4 rfl (by kernel_rfl) rfl HS ?_
                | (refine tk (v := ?v1_4) 4 rfl (by kernel_rfl) rfl ?y1_4 HS ?_; case y1_4 => (intro w' hSw; (try dsimp only at hSw); go_simp <;> (with_reducible rfl)))
              try simp only [Act.put, List.setIfInBounds_toArray, List.set_cons_zero, List.set_cons_succ]
              refine wpAnyH_done (by kernel_rfl) ?_ _
              refine NoPanic.normal ?_
              have sd1 : Grew (w12) wy0 := HS.2.2.2.2.2.2
              have gd1 := g12.trans sd1
              have pz15 := Lib.hid sd1.size
              replace o_rw0 := o_rw0.grew sd1
              replace o_y0 := o_y0.grew sd1
              replace o_y1 := o_y1.grew sd1
              replace o_y2 := o_y2.grew sd1
              replace o_rg0 := o_rg0.grew sd1
              replace bxf0_0 := HS.1
              replace bxf0_1 := HS.2.1
              replace bxf0_2 := HS.2.2.1
              replace bxy0_0 := HS.2.2.2.1
              replace bxy0_1 := HS.2.2.2.2.1
              replace bxy0_2 := HS.2.2.2.2.2.1
              clear HS
              go_wp2_with fail
              refine (toNodeS _ n1 x1 _ (R1.out.grew gd1) (by omega)).mono ?_
              rintro e w13 ⟨z1, rfl, o_z1, s13⟩
              have g13 : Grew w w13 := gd1.trans s13
              have pz16 := Lib.hid s13.size
              replace bxf0_0 := grew_cell s13 bxf0_0
              replace bxf0_1 := grew_cell s13 bxf0_1
              replace bxf0_2 := grew_cell s13 bxf0_2
              replace bxy0_0 := grew_cell s13 bxy0_0
              replace bxy0_1 := grew_cell s13 bxy0_1
              replace bxy0_2 := grew_cell s13 bxy0_2
              replace o_rw0 := o_rw0.grew s13
              replace o_y0 := o_y0.grew s13
              replace o_y1 := o_y1.grew s13
              replace o_y2 := o_y2.grew s13
              replace o_rg0 := o_rg0.grew s13
              have o_z1 := Own.of o_z1
              go_wp2_with fail
              refine (eqNodeS _ _ n1 x1 _ o_y1.rd o_z1.rd (by omega)).mono ?_
              rintro e w14 ⟨rfl, s14⟩
              have g14 : Grew w w14 := g13.trans s14
              have pz17 := Lib.hid s14.size
              replace bxf0_0 := grew_cell s14 bxf0_0
              replace bxf0_1 := grew_cell s14 bxf0_1
              replace bxf0_2 := grew_cell s14 bxf0_2
              replace bxy0_0 := grew_cell s14 bxy0_0
              replace bxy0_1 := grew_cell s14 bxy0_1
              replace bxy0_2 := grew_cell s14 bxy0_2
              replace o_rw0 := o_rw0.grew s14
              replace o_y0 := o_y0.grew s14
              replace o_y1 := o_y1.grew s14
              replace o_y2 := o_y2.grew s14
              replace o_rg0 := o_rg0.grew s14
              replace o_z1 := o_z1.grew s14
              go_wp2_with fail
              refine (toResultS _ x2 _ (R2.out.grew g14) (by omega) hms2.out).mono ?_
              rintro e w15 ⟨z2, rfl, o_z2, s15⟩
              have g15 : Grew w w15 := g14.trans s15
              have pz18 := Lib.hid s15.size
              replace bxf0_0 := grew_cell s15 bxf0_0
              replace bxf0_1 := grew_cell s15 bxf0_1
              replace bxf0_2 := grew_cell s15 bxf0_2
              replace bxy0_0 := grew_cell s15 bxy0_0
              replace bxy0_1 := grew_cell s15 bxy0_1
              replace bxy0_2 := grew_cell s15 bxy0_2
              replace o_rw0 := o_rw0.grew s15
              replace o_y0 := o_y0.grew s15
              replace o_y1 := o_y1.grew s15
              replace o_y2 := o_y2.grew s15
              replace o_rg0 := o_rg0.grew s15
              go_wp2_with fail
              refine (eqResultS _ _ x2 _ o_y2.rd o_z2.rd (by omega) hms2.out).mono ?_
              rintro e w16 ⟨rfl, s16⟩
              have g16 : Grew w w16 := g15.trans s16
              have pz19 := Lib.hid s16.size
              replace bxf0_0 := grew_cell s16 bxf0_0
              replace bxf0_1 := grew_cell s16 bxf0_1
              replace bxf0_2 := grew_cell s16 bxf0_2
              replace bxy0_0 := grew_cell s16 bxy0_0
              replace bxy0_1 := grew_cell s16 bxy0_1
              replace bxy0_2 := grew_cell s16 bxy0_2
              replace o_rw0 := o_rw0.grew s16
              replace o_y0 := o_y0.grew s16
              replace o_y1 := o_y1.grew s16
              replace o_y2 := o_y2.grew s16
              replace o_rg0 := o_rg0.grew s16
              replace o_z2 := o_z2.grew s16
              go_wp2_with fail
              refine (markStore x0 ⟨.slice y0qa x0.schema.length y0qc, .slice y0ra x0.files.length y0rc, x0.next⟩ 1 _ _ _ o_y0 hms0.out (by omega) (by omega) ⟨(St.cnt_ok hzz0).1, (St.cnt_ok hzz0).2.1⟩).mono ?_
              rintro e w17 ⟨he, om, s17⟩
              clear om
              obtain ⟨kk0, ka0, kb0, rfl⟩ : ∃ k : Int, 0 ≤ k ∧ k ≤ 64000001 ∧ e = .returned (.int .i64 k) := ⟨_, by have := St.cnt_ok hzz0; omega, by have := St.cnt_ok hzz0; omega, he⟩
              have pz20 := Lib.hid s17.size
              have g17 : Grew w w17 := Touch.new g16 s17 (Nat.le_trans (Nat.le_trans (Nat.le_trans (Nat.le_trans (Nat.le_trans (Nat.le_trans (Nat.le_trans (pz1.out) pz2.out) pz3.out) pz4.out) pz5.out) pz6.out) pz7.out) pz8.out)
              replace o_rw0 := o_rw0.touch s17 (.inl (Nat.le_refl _))
              replace o_y1 := o_y1.touch s17 (.inr (pz10.out))
              replace o_y2 := o_y2.touch s17 (.inr (Nat.le_trans (pz10.out) pz11.out))
              replace o_rg0 := o_rg0.touch s17 (.inr (Nat.le_trans (Nat.le_trans (pz10.out) pz11.out) pz12.out))
              replace bxf0_0 := touch_cell s17 (.inl (Nat.lt_of_lt_of_le pbf0.out (Nat.le_trans (Nat.le_trans (Nat.le_trans (Nat.le_trans (Nat.le_trans (Nat.le_trans (pz2.out) pz3.out) pz4.out) pz5.out) pz6.out) pz7.out) pz8.out))) bxf0_0
              replace bxf0_1 := touch_cell s17 (.inl (Nat.lt_of_lt_of_le pbf0.out (Nat.le_trans (Nat.le_trans (Nat.le_trans (Nat.le_trans (Nat.le_trans (Nat.le_trans (pz2.out) pz3.out) pz4.out) pz5.out) pz6.out) pz7.out) pz8.out))) bxf0_1
              replace bxf0_2 := touch_cell s17 (.inl (Nat.lt_of_lt_of_le pbf0.out (Nat.le_trans (Nat.le_trans (Nat.le_trans (Nat.le_trans (Nat.le_trans (Nat.le_trans (pz2.out) pz3.out) pz4.out) pz5.out) pz6.out) pz7.out) pz8.out))) bxf0_2
              replace bxy0_0 := touch_cell s17 (.inr (Nat.le_refl _)) bxy0_0
              replace bxy0_1 := touch_cell s17 (.inr (Nat.le_refl _)) bxy0_1
              replace bxy0_2 := touch_cell s17 (.inr (Nat.le_refl _)) bxy0_2
              go_wp2_with fail
              refine (markNodeS _ n1 x1 kk0 _ _ _ o_y1 (by omega) (by omega) (by omega)).mono ?_
              rintro e w18 ⟨he, om, s18⟩
              clear om
              obtain ⟨kk1, ka1, kb1, rfl⟩ : ∃ k : Int, 0 ≤ k ∧ k ≤ 92000001 ∧ e = .returned (.int .i64 k) := ⟨_, by omega, by omega, he⟩
              have pz21 := Lib.hid s18.size
              have g18 : Grew w w18 := Touch.new g17 s18 (Nat.le_trans (Nat.le_trans (Nat.le_trans (Nat.le_trans (Nat.le_trans (Nat.le_trans (Nat.le_trans (Nat.le_trans (Nat.le_trans (pz1.out) pz2.out) pz3.out) pz4.out) pz5.out) pz6.out) pz7.out) pz8.out) pz9.out) pz10.out)
              replace o_rw0 := o_rw0.touch s18 (.inl (Nat.le_trans (pz9.out) pz10.out))
              replace o_y2 := o_y2.touch s18 (.inr (Nat.le_refl _))
              replace o_rg0 := o_rg0.touch s18 (.inr (pz12.out))
              replace bxf0_0 := touch_cell s18 (.inl (Nat.lt_of_lt_of_le pbf0.out (Nat.le_trans (Nat.le_trans (Nat.le_trans (Nat.le_trans (Nat.le_trans (Nat.le_trans (Nat.le_trans (Nat.le_trans (pz2.out) pz3.out) pz4.out) pz5.out) pz6.out) pz7.out) pz8.out) pz9.out) pz10.out))) bxf0_0
              replace bxf0_1 := touch_cell s18 (.inl (Nat.lt_of_lt_of_le pbf0.out (Nat.le_trans (Nat.le_trans (Nat.le_trans (Nat.le_trans (Nat.le_trans (Nat.le_trans (Nat.le_trans (Nat.le_trans (pz2.out) pz3.out) pz4.out) pz5.out) pz6.out) pz7.out) pz8.out) pz9.out) pz10.out))) bxf0_1
              replace bxf0_2 := touch_cell s18 (.inl (Nat.lt_of_lt_of_le pbf0.out (Nat.le_trans (Nat.le_trans (Nat.le_trans (Nat.le_trans (Nat.le_trans (Nat.le_trans (Nat.le_trans (Nat.le_trans (pz2.out) pz3.out) pz4.out) pz5.out) pz6.out) pz7.out) pz8.out) pz9.out) pz10.out))) bxf0_2
              replace bxy0_0 := touch_cell s18 (.inl (Nat.lt_of_lt_of_le pby0.out (Nat.le_refl _))) bxy0_0
              replace bxy0_1 := touch_cell s18 (.inl (Nat.lt_of_lt_of_le pby0.out (Nat.le_refl _))) bxy0_1
              replace bxy0_2 := touch_cell s18 (.inl (Nat.lt_of_lt_of_le pby0.out (Nat.le_refl _))) bxy0_2
              go_wp2_with fail
              refine (markResultS _ x2 kk1 _ _ _ o_y2 (by omega) hms2.out (by omega) (by have := Rs.cnt_ok (xs := x2) (by omega) hzz2; omega)).mono ?_
              rintro e w19 ⟨he, om, s19⟩
              clear om
              obtain ⟨kk2, ka2, kb2, rfl⟩ : ∃ k : Int, 0 ≤ k ∧ k ≤ 148000001 ∧ e = .returned (.int .i64 k) := ⟨_, by have := Rs.cnt_ok (xs := x2) (by omega) hzz2; omega, by have := Rs.cnt_ok (xs := x2) (by omega) hzz2; omega, he⟩
              have pz22 := Lib.hid s19.size
              have g19 : Grew w w19 := Touch.new g18 s19 (Nat.le_trans (Nat.le_trans (Nat.le_trans (Nat.le_trans (Nat.le_trans (Nat.le_trans (Nat.le_trans (Nat.le_trans (Nat.le_trans (Nat.le_trans (pz1.out) pz2.out) pz3.out) pz4.out) pz5.out) pz6.out) pz7.out) pz8.out) pz9.out) pz10.out) pz11.out)
              replace o_rw0 := o_rw0.touch s19 (.inl (Nat.le_trans (Nat.le_trans (pz9.out) pz10.out) pz11.out))
              replace o_rg0 := o_rg0.touch s19 (.inr (Nat.le_refl _))
              replace bxf0_0 := touch_cell s19 (.inl (Nat.lt_of_lt_of_le pbf0.out (Nat.le_trans (Nat.le_trans (Nat.le_trans (Nat.le_trans (Nat.le_trans (Nat.le_trans (Nat.le_trans (Nat.le_trans (Nat.le_trans (pz2.out) pz3.out) pz4.out) pz5.out) pz6.out) pz7.out) pz8.out) pz9.out) pz10.out) pz11.out))) bxf0_0
              replace bxf0_1 := touch_cell s19 (.inl (Nat.lt_of_lt_of_le pbf0.out (Nat.le_trans (Nat.le_trans (Nat.le_trans (Nat.le_trans (Nat.le_trans (Nat.le_trans (Nat.le_trans (Nat.le_trans (Nat.le_trans (pz2.out) pz3.out) pz4.out) pz5.out) pz6.out) pz7.out) pz8.out) pz9.out) pz10.out) pz11.out))) bxf0_1
              replace bxf0_2 := touch_cell s19 (.inl (Nat.lt_of_lt_of_le pbf0.out (Nat.le_trans (Nat.le_trans (Nat.le_trans (Nat.le_trans (Nat.le_trans (Nat.le_trans (Nat.le_trans (Nat.le_trans (Nat.le_trans (pz2.out) pz3.out) pz4.out) pz5.out) pz6.out) pz7.out) pz8.out) pz9.out) pz10.out) pz11.out))) bxf0_2
              replace bxy0_0 := touch_cell s19 (.inl (Nat.lt_of_lt_of_le pby0.out (pz11.out))) bxy0_0
              replace bxy0_1 := touch_cell s19 (.inl (Nat.lt_of_lt_of_le pby0.out (pz11.out))) bxy0_1
              replace bxy0_2 := touch_cell s19 (.inl (Nat.lt_of_lt_of_le pby0.out (pz11.out))) bxy0_2
              go_wp2_with fail
              refine (eqIntS _ _ rv0.length rv0 _ o_rg0.rd o_rw0.rd (by omega)).mono ?_
              rintro e w20 ⟨rfl, s20⟩
              have g20 : Grew w w20 := g19.trans s20
              have pz23 := Lib.hid s20.size
              replace bxf0_0 := grew_cell s20 bxf0_0
              replace bxf0_1 := grew_cell s20 bxf0_1
              replace bxf0_2 := grew_cell s20 bxf0_2
              replace bxy0_0 := grew_cell s20 bxy0_0
              replace bxy0_1 := grew_cell s20 bxy0_1
              replace bxy0_2 := grew_cell s20 bxy0_2
              replace o_rw0 := o_rw0.grew s20
              replace o_rg0 := o_rg0.grew s20
              go_wp2_with fail
              refine (markIntS _ rv0.length rv0 (1) _ _ _ o_rg0 (by omega) (by omega) (by omega)).mono ?_
              rintro e w21 ⟨rfl, om_rg0, s21⟩
              have pz24 := Lib.hid s21.size
              have g21 : Grew w w21 := Touch.new g20 s21 (Nat.le_trans (Nat.le_trans (Nat.le_trans (Nat.le_trans (Nat.le_trans (Nat.le_trans (Nat.le_trans (Nat.le_trans (Nat.le_trans (Nat.le_trans (Nat.le_trans (pz1.out) pz2.out) pz3.out) pz4.out) pz5.out) pz6.out) pz7.out) pz8.out) pz9.out) pz10.out) pz11.out) pz12.out)
              replace o_rw0 := o_rw0.touch s21 (.inl (Nat.le_trans (Nat.le_trans (Nat.le_trans (pz9.out) pz10.out) pz11.out) pz12.out))
              replace bxf0_0 := touch_cell s21 (.inl (Nat.lt_of_lt_of_le pbf0.out (Nat.le_trans (Nat.le_trans (Nat.le_trans (Nat.le_trans (Nat.le_trans (Nat.le_trans (Nat.le_trans (Nat.le_trans (Nat.le_trans (Nat.le_trans (pz2.out) pz3.out) pz4.out) pz5.out) pz6.out) pz7.out) pz8.out) pz9.out) pz10.out) pz11.out) pz12.out))) bxf0_0
              replace bxf0_1 := touch_cell s21 (.inl (Nat.lt_of_lt_of_le pbf0.out (Nat.le_trans (Nat.le_trans (Nat.le_trans (Nat.le_trans (Nat.le_trans (Nat.le_trans (Nat.le_trans (Nat.le_trans (Nat.le_trans (Nat.le_trans (pz2.out) pz3.out) pz4.out) pz5.out) pz6.out) pz7.out) pz8.out) pz9.out) pz10.out) pz11.out) pz12.out))) bxf0_1
              replace bxf0_2 := touch_cell s21 (.inl (Nat.lt_of_lt_of_le pbf0.out (Nat.le_trans (Nat.le_trans (Nat.le_trans (Nat.le_trans (Nat.le_trans (Nat.le_trans (Nat.le_trans (Nat.le_trans (Nat.le_trans (Nat.le_trans (pz2.out) pz3.out) pz4.out) pz5.out) pz6.out) pz7.out) pz8.out) pz9.out) pz10.out) pz11.out) pz12.out))) bxf0_2
              replace bxy0_0 := touch_cell s21 (.inl (Nat.lt_of_lt_of_le pby0.out (Nat.le_trans (pz11.out) pz12.out))) bxy0_0
              replace bxy0_1 := touch_cell s21 (.inl (Nat.lt_of_lt_of_le pby0.out (Nat.le_trans (pz11.out) pz12.out))) bxy0_1
              replace bxy0_2 := touch_cell s21 (.inl (Nat.lt_of_lt_of_le pby0.out (Nat.le_trans (pz11.out) pz12.out))) bxy0_2
              go_wp2_with fail
              refine (heldIntS _ rv0.length (1) _ om_rg0.rd (by omega) (by omega) (by omega)).mono ?_
              rintro e w22 ⟨rfl, s22⟩
              have g22 : Grew w w22 := g21.trans s22
              have pz25 := Lib.hid s22.size
              replace bxf0_0 := grew_cell s22 bxf0_0
              replace bxf0_1 := grew_cell s22 bxf0_1
              replace bxf0_2 := grew_cell s22 bxf0_2
              replace bxy0_0 := grew_cell s22 bxy0_0
              replace bxy0_1 := grew_cell s22 bxy0_1
              replace bxy0_2 := grew_cell s22 bxy0_2
              replace o_rw0 := o_rw0.grew s22
              replace om_rg0 := om_rg0.grew s22
              go_wp2_with fail
              refine (toStore x0 ⟨f0q, f0r, f0n⟩ _ (R0.out.grew g22) hms0.out).mono ?_
              rintro e w23 ⟨⟨v0q, v0r, v0n⟩, rfl, o_v0, d_v0, s23⟩
              have g23 : Grew w w23 := g22.trans s23
              have pz26 := Lib.hid s23.size
              replace bxf0_0 := grew_cell s23 bxf0_0
              replace bxf0_1 := grew_cell s23 bxf0_1
              replace bxf0_2 := grew_cell s23 bxf0_2
              replace bxy0_0 := grew_cell s23 bxy0_0
              replace bxy0_1 := grew_cell s23 bxy0_1
              replace bxy0_2 := grew_cell s23 bxy0_2
              replace d_v0 := Lib.hid d_v0
              replace o_rw0 := o_rw0.grew s23
              replace om_rg0 := om_rg0.grew s23
              go_wp2_with fail
              refine (toNodeS _ n1 x1 _ (R1.out.grew g23) (by omega)).mono ?_
              rintro e w24 ⟨v1, rfl, o_v1, s24⟩
              have g24 : Grew w w24 := g23.trans s24
              have pz27 := Lib.hid s24.size
              replace bxf0_0 := grew_cell s24 bxf0_0
              replace bxf0_1 := grew_cell s24 bxf0_1
              replace bxf0_2 := grew_cell s24 bxf0_2
              replace bxy0_0 := grew_cell s24 bxy0_0
              replace bxy0_1 := grew_cell s24 bxy0_1
              replace bxy0_2 := grew_cell s24 bxy0_2
              replace o_rw0 := o_rw0.grew s24
              replace om_rg0 := om_rg0.grew s24
              replace o_v0 := o_v0.grew s24
              have o_v1 := Own.of o_v1
              go_wp2_with fail
              refine (toResultS _ x2 _ (R2.out.grew g24) (by omega) hms2.out).mono ?_
              rintro e w25 ⟨v2, rfl, o_v2, s25⟩
              have g25 : Grew w w25 := g24.trans s25
              have pz28 := Lib.hid s25.size
              replace bxf0_0 := grew_cell s25 bxf0_0
              replace bxf0_1 := grew_cell s25 bxf0_1
              replace bxf0_2 := grew_cell s25 bxf0_2
              replace bxy0_0 := grew_cell s25 bxy0_0
              replace bxy0_1 := grew_cell s25 bxy0_1
              replace bxy0_2 := grew_cell s25 bxy0_2
              replace o_rw0 := o_rw0.grew s25
              replace om_rg0 := om_rg0.grew s25
              replace o_v0 := o_v0.grew s25
              replace o_v1 := o_v1.grew s25
              go_wp2_with fail
              refine (IM.out _ ⟨v0q, v0r, v0n⟩ o_v0.rd v1 o_v1.rd v2 o_v2.rd).mono ?_
              rintro e w26 ⟨rh0, rfl, o_rh0, s26⟩
              have g26 : Grew w w26 := g25.trans s26
              have pz29 := Lib.hid s26.size
              replace bxf0_0 := grew_cell s26 bxf0_0
              replace bxf0_1 := grew_cell s26 bxf0_1
              replace bxf0_2 := grew_cell s26 bxf0_2
              replace bxy0_0 := grew_cell s26 bxy0_0
              replace bxy0_1 := grew_cell s26 bxy0_1
              replace bxy0_2 := grew_cell s26 bxy0_2
              replace o_rw0 := o_rw0.grew s26
              replace om_rg0 := om_rg0.grew s26
              replace o_v0 := o_v0.grew s26
              replace o_v1 := o_v1.grew s26
              replace o_v2 := o_v2.grew s26
              have o_rh0 := Own.of o_rh0
              go_wp2_with fail
              refine (eqIntS _ _ rv0.length rv0 _ o_rh0.rd o_rw0.rd (by omega)).mono ?_
              rintro e w27 ⟨rfl, s27⟩
              have g27 : Grew w w27 := g26.trans s27
              have pz30 := Lib.hid s27.size
              replace bxf0_0 := grew_cell s27 bxf0_0
              replace bxf0_1 := grew_cell s27 bxf0_1
              replace bxf0_2 := grew_cell s27 bxf0_2
              replace bxy0_0 := grew_cell s27 bxy0_0
              replace bxy0_1 := grew_cell s27 bxy0_1
              replace bxy0_2 := grew_cell s27 bxy0_2
              replace o_rw0 := o_rw0.grew s27
              replace om_rg0 := om_rg0.grew s27
              replace o_v0 := o_v0.grew s27
              replace o_v1 := o_v1.grew s27
              replace o_v2 := o_v2.grew s27
              replace o_rh0 := o_rh0.grew s27
              go_wp2_with fail
              refine (heldIntS _ rv0.length (1) _ om_rg0.rd (by omega) (by omega) (by omega)).mono ?_
              rintro e w28 ⟨rfl, s28⟩
              have g28 : Grew w w28 := g27.trans s28
              have pz31 := Lib.hid s28.size
              replace bxf0_0 := grew_cell s28 bxf0_0
              replace bxf0_1 := grew_cell s28 bxf0_1
              replace bxf0_2 := grew_cell s28 bxf0_2
              replace bxy0_0 := grew_cell s28 bxy0_0
              replace bxy0_1 := grew_cell s28 bxy0_1
              replace bxy0_2 := grew_cell s28 bxy0_2
              replace o_rw0 := o_rw0.grew s28
              replace om_rg0 := om_rg0.grew s28
              replace o_v0 := o_v0.grew s28
              replace o_v1 := o_v1.grew s28
              replace o_v2 := o_v2.grew s28
              replace o_rh0 := o_rh0.grew s28
              go_wp2
              go_ret
              exact ⟨rfl, g28⟩
end Go.Proofs.Ytopcdojekjlijaa.fnExactSelectFiles
