/- Texts WXListDir, WXIsListed, WXCountListed, as far as they are needed. -/
import Derived.Test.YtejgpghcahinhaaGreatVi0
import Derived.Test.YtejgpghcahinhaaGreatVi17
import Derived.Test.YtejgpghcahinhaaGreatVi3
import Derived.Test.YtejgpghcahinhaaGreatVi4
import Derived.Test.YtejgpghcahinhaaGreatVi6
namespace Go.Proofs.YtejgpghcahinhaaGreat.fnExactListDir
open Go.RowKit
set_option linter.unusedVariables false
set_option maxRecDepth 100000 in
set_option maxHeartbeats 1000000 in
theorem walkLaw (w : World) (q0 : PS) (x0 : St) (hr0 : St.R w x0 q0) (ho0 : x0.ok0) (u1 : Value) (x1 : List Dr) (hr1 : RdDs w u1 x1) (hn1 : x1.length ≤ maxLen) (ho1 : ∀ x, x ∈ x1 → x.ok0) (a2 : Int) (h2 : I64 a2) (a3 : ByteArray) (h3 : a3.size ≤ maxLen) :
    Calls Tryz.prog 11 #[.agg (q0.c).toArray, u1, .int .i64 a2, .string a3] w fun e w' => e = .returned (.bool true) ∧ Grew w w' := by
  have R0 := Lib.hid hr0
  have O0 := Lib.hid ho0
  obtain ⟨f0q, f0r, f0n⟩ := q0
  clear hr0 ho0
  have R1 := Lib.hid hr1
  have O1 := Lib.hid ho1
  obtain ⟨ps1, ⟨sa1, sc1, rfl, hc1, hra1⟩, hall1⟩ := hr1
  clear ho1 hra1 hall1
  clear h2
  unfold maxLen at h3
  change Calls Tryz.prog 11 #[.agg #[f0q, f0r, .int .i64 f0n], _, .int .i64 a2, .string a3] w _
  by_cases hbig3 : (1048576 : Int) < (a3.size : Int)
  · go_enter Tryz.func11, Tryz.ntmps11
    go_wp2
    go_ret
    exact ⟨rfl, by repeat' (first | with_reducible exact Grew.refl _ | with_reducible apply Grew.alloc)⟩
  · have hsm3 : (a3.size : Int) ≤ 4000000 := by omega
    go_enter Tryz.func11, Tryz.ntmps11
    have bxf0_0 : (w.alloc (.cells #[f0q, f0r, .int .i64 f0n] 84)).cell? ⟨w.heap.size, 0, none⟩ = some (f0q) := by simp
    have bxf0_1 : (w.alloc (.cells #[f0q, f0r, .int .i64 f0n] 84)).cell? ⟨w.heap.size, 1, none⟩ = some (f0r) := by simp
    have bxf0_2 : (w.alloc (.cells #[f0q, f0r, .int .i64 f0n] 84)).cell? ⟨w.heap.size, 2, none⟩ = some (.int .i64 f0n) := by simp
    have ga1 := Grew.alloc (Grew.refl w) (.cells #[f0q, f0r, .int .i64 f0n] 84)
    have pz1 : Hid (w.heap.size ≤ (w.alloc (.cells #[f0q, f0r, .int .i64 f0n] 84)).heap.size) := Lib.hid (by simp)
    have pbf0 : Hid (w.heap.size < (w.alloc (.cells #[f0q, f0r, .int .i64 f0n] 84)).heap.size) := Lib.hid (by simp)
    go_wp2_with fail
    refine (szStore x0 ⟨f0q, f0r, f0n⟩ _ _ (R0.out.grew ga1) O0.out (by omega) (by omega)).mono ?_
    rintro e w1 ⟨r0, rfl, hl0, s1⟩
    have g1 : Grew w w1 := ga1.trans s1
    have pz2 := Lib.hid s1.size
    replace bxf0_0 := grew_cell s1 bxf0_0
    replace bxf0_1 := grew_cell s1 bxf0_1
    replace bxf0_2 := grew_cell s1 bxf0_2
    rcases hl0 with rfl | ⟨hl0, hp0⟩
    · go_wp2
      go_ret
      exact ⟨rfl, g1⟩
    · have hle0 : r0 ≤ 1048576 := by omega
      have hzt0 : x0.sz ≤ 1048576 := by omega
      have hzz0 : x0.sz ≤ 4000000 := by omega
      have hms0 := Lib.hid (St.small_of hzz0)
      have HL0 := Lib.hid hl0
      clear hl0
      go_wp2_with fail
      refine (szDirS _ x1 _ _ (R1.out.grew g1) hn1 O1.out (by omega) (by omega)).mono ?_
      rintro e w2 ⟨r1, rfl, hl1, s2⟩
      have g2 : Grew w w2 := g1.trans s2
      have pz3 := Lib.hid s2.size
      replace bxf0_0 := grew_cell s2 bxf0_0
      replace bxf0_1 := grew_cell s2 bxf0_1
      replace bxf0_2 := grew_cell s2 bxf0_2
      rcases hl1 with rfl | ⟨hl1, hp1⟩
      · go_wp2
        go_ret
        exact ⟨rfl, g2⟩
      · have hle1 : r1 ≤ 1048576 := by omega
        have hst1 : x1.length ≤ 1048576 := by omega
        have hsm1 : x1.length ≤ 4000000 := by omega
        have hzz1 : szAll Dr.sz x1 ≤ 4000000 := by omega
        have hms1 := Lib.hid (fun x (hx : x ∈ x1) => Dr.small_of (Nat.le_trans (mem_szAll hx) hzz1))
        have HL1 := Lib.hid hl1
        clear hl1
        have BD0 : (lsI x1 x0 a2 a3).length ≤ 4000000 := resIds_small (efRs_small hzz0)
        have SP := fun (w : World) (v0 : PS) (h0 : St.R w x0 v0) (v1 : Value) (h1 : RdDs w v1 x1) => specListDir x0 v0 v1 x1 a2 a3 w h0 h1 (by omega) hzz1 hzz0
        have IM := fun (w : World) (v0 : PS) (h0 : St.R w x0 v0) (v1 : Value) (h1 : RdDs w v1 x1) => implListDir x0 v0 v1 x1 a2 a3 w h0 h1 (by omega) hzz1 hzz0
        generalize lsI x1 x0 a2 a3 = rv0 at SP IM BD0
        replace SP := Lib.hid SP
        replace IM := Lib.hid IM
        go_wp2_with fail
        refine (toStore x0 ⟨f0q, f0r, f0n⟩ _ (R0.out.grew g2) hms0.out).mono ?_
        rintro e w3 ⟨⟨c0q, c0r, c0n⟩, rfl, o_c0, d_c0, s3⟩
        have g3 : Grew w w3 := g2.trans s3
        have pz4 := Lib.hid s3.size
        replace bxf0_0 := grew_cell s3 bxf0_0
        replace bxf0_1 := grew_cell s3 bxf0_1
        replace bxf0_2 := grew_cell s3 bxf0_2
        replace d_c0 := Lib.hid d_c0
        go_wp2_with fail
        refine (toDirS _ x1 _ (R1.out.grew g3) (by omega) hms1.out).mono ?_
        rintro e w4 ⟨c1, rfl, o_c1, s4⟩
        have g4 : Grew w w4 := g3.trans s4
        have pz5 := Lib.hid s4.size
        replace bxf0_0 := grew_cell s4 bxf0_0
        replace bxf0_1 := grew_cell s4 bxf0_1
        replace bxf0_2 := grew_cell s4 bxf0_2
        replace o_c0 := o_c0.grew s4
        go_wp2_with fail
        refine (SP.out _ ⟨c0q, c0r, c0n⟩ o_c0.rd c1 o_c1.rd).mono ?_
        rintro e w5 ⟨rw0, rfl, o_rw0, s5⟩
        have g5 : Grew w w5 := g4.trans s5
        have pz6 := Lib.hid s5.size
        replace bxf0_0 := grew_cell s5 bxf0_0
        replace bxf0_1 := grew_cell s5 bxf0_1
        replace bxf0_2 := grew_cell s5 bxf0_2
        replace o_c0 := o_c0.grew s5
        replace o_c1 := o_c1.grew s5
        have o_rw0 := Own.of o_rw0
        go_wp2_with fail
        refine (toStore x0 ⟨f0q, f0r, f0n⟩ _ (R0.out.grew g5) hms0.out).mono ?_
        rintro e w6 ⟨⟨y0q, y0r, y0n⟩, rfl, o_y0, d_y0, s6⟩
        have g6 : Grew w w6 := g5.trans s6
        have pz7 := Lib.hid s6.size
        replace bxf0_0 := grew_cell s6 bxf0_0
        replace bxf0_1 := grew_cell s6 bxf0_1
        replace bxf0_2 := grew_cell s6 bxf0_2
        replace d_y0 := Lib.hid d_y0
        replace o_rw0 := o_rw0.grew s6
        obtain ⟨y0qa, y0qc, y0ra, y0rc, he_y0⟩ := o_y0.slices
        cases he_y0
        replace o_rw0 := o_rw0.grew ((Grew.refl _).alloc (.cells #[.slice y0qa x0.schema.length y0qc, .slice y0ra x0.files.length y0rc, .int .i64 x0.next] 27))
        replace o_y0 := o_y0.grew ((Grew.refl _).alloc (.cells #[.slice y0qa x0.schema.length y0qc, .slice y0ra x0.files.length y0rc, .int .i64 x0.next] 27))
        replace bxf0_0 := grew_cell ((Grew.refl _).alloc (.cells #[.slice y0qa x0.schema.length y0qc, .slice y0ra x0.files.length y0rc, .int .i64 x0.next] 27)) bxf0_0
        replace bxf0_1 := grew_cell ((Grew.refl _).alloc (.cells #[.slice y0qa x0.schema.length y0qc, .slice y0ra x0.files.length y0rc, .int .i64 x0.next] 27)) bxf0_1
        replace bxf0_2 := grew_cell ((Grew.refl _).alloc (.cells #[.slice y0qa x0.schema.length y0qc, .slice y0ra x0.files.length y0rc, .int .i64 x0.next] 27)) bxf0_2
        have bxy0_0 : (w6.alloc (.cells #[.slice y0qa x0.schema.length y0qc, .slice y0ra x0.files.length y0rc, .int .i64 x0.next] 27)).cell? ⟨w6.heap.size, 0, none⟩ = some (.slice y0qa x0.schema.length y0qc) := by simp
        have bxy0_1 : (w6.alloc (.cells #[.slice y0qa x0.schema.length y0qc, .slice y0ra x0.files.length y0rc, .int .i64 x0.next] 27)).cell? ⟨w6.heap.size, 1, none⟩ = some (.slice y0ra x0.files.length y0rc) := by simp
        have bxy0_2 : (w6.alloc (.cells #[.slice y0qa x0.schema.length y0qc, .slice y0ra x0.files.length y0rc, .int .i64 x0.next] 27)).cell? ⟨w6.heap.size, 2, none⟩ = some (.int .i64 x0.next) := by simp
        have ga2 := Grew.alloc g6 (.cells #[.slice y0qa x0.schema.length y0qc, .slice y0ra x0.files.length y0rc, .int .i64 x0.next] 27)
        have pz8 : Hid (w6.heap.size ≤ (w6.alloc (.cells #[.slice y0qa x0.schema.length y0qc, .slice y0ra x0.files.length y0rc, .int .i64 x0.next] 27)).heap.size) := Lib.hid (by simp)
        have pby0 : Hid (w6.heap.size < (w6.alloc (.cells #[.slice y0qa x0.schema.length y0qc, .slice y0ra x0.files.length y0rc, .int .i64 x0.next] 27)).heap.size) := Lib.hid (by simp)
        go_wp2_with fail
        refine (toDirS _ x1 _ (R1.out.grew ga2) (by omega) hms1.out).mono ?_
        rintro e w7 ⟨y1, rfl, o_y1, s7⟩
        have g7 : Grew w w7 := ga2.trans s7
        have pz9 := Lib.hid s7.size
        replace bxf0_0 := grew_cell s7 bxf0_0
        replace bxf0_1 := grew_cell s7 bxf0_1
        replace bxf0_2 := grew_cell s7 bxf0_2
        replace bxy0_0 := grew_cell s7 bxy0_0
        replace bxy0_1 := grew_cell s7 bxy0_1
        replace bxy0_2 := grew_cell s7 bxy0_2
        replace o_rw0 := o_rw0.grew s7
        replace o_y0 := o_y0.grew s7
        go_wp2_with fail
        refine (IM.out _ ⟨.slice y0qa x0.schema.length y0qc, .slice y0ra x0.files.length y0rc, x0.next⟩ o_y0.rd y1 o_y1.rd).mono ?_
        rintro e w8 ⟨rg0, rfl, o_rg0, s8⟩
        have g8 : Grew w w8 := g7.trans s8
        have pz10 := Lib.hid s8.size
        replace bxf0_0 := grew_cell s8 bxf0_0
        replace bxf0_1 := grew_cell s8 bxf0_1
        replace bxf0_2 := grew_cell s8 bxf0_2
        replace bxy0_0 := grew_cell s8 bxy0_0
        replace bxy0_1 := grew_cell s8 bxy0_1
        replace bxy0_2 := grew_cell s8 bxy0_2
        replace o_rw0 := o_rw0.grew s8
        replace o_y0 := o_y0.grew s8
        replace o_y1 := o_y1.grew s8
        have o_rg0 := Own.of o_rg0
        go_wp2_with fail
        refine (eqIntS _ _ rv0.length rv0 _ o_rg0.rd o_rw0.rd (by omega)).mono ?_
        rintro e w9 ⟨rfl, s9⟩
        have g9 : Grew w w9 := g8.trans s9
        have pz11 := Lib.hid s9.size
        replace bxf0_0 := grew_cell s9 bxf0_0
        replace bxf0_1 := grew_cell s9 bxf0_1
        replace bxf0_2 := grew_cell s9 bxf0_2
        replace bxy0_0 := grew_cell s9 bxy0_0
        replace bxy0_1 := grew_cell s9 bxy0_1
        replace bxy0_2 := grew_cell s9 bxy0_2
        replace o_rw0 := o_rw0.grew s9
        replace o_y0 := o_y0.grew s9
        replace o_y1 := o_y1.grew s9
        replace o_rg0 := o_rg0.grew s9
        go_wp2
        refine wp_region_noPanic ?_
        refine wp_region_held_drew (S := (fun w' => (w'.cell? ⟨w.heap.size, 0, none⟩ = some (f0q) ∧ w'.cell? ⟨w.heap.size, 1, none⟩ = some (f0r) ∧ w'.cell? ⟨w.heap.size, 2, none⟩ = some (.int .i64 f0n) ∧ w'.cell? ⟨w6.heap.size, 0, none⟩ = some (.slice y0qa x0.schema.length y0qc) ∧ w'.cell? ⟨w6.heap.size, 1, none⟩ = some (.slice y0ra x0.files.length y0rc) ∧ w'.cell? ⟨w6.heap.size, 2, none⟩ = some (.int .i64 x0.next) ∧ Grew (w9) w'))) (by kernel_rfl) ?h1_S ?h1_r
        case h1_S => exact ⟨bxf0_0, bxf0_1, bxf0_2, bxy0_0, bxy0_1, bxy0_2, (Grew.refl _).drew⟩
        case h1_r =>
          intro HS
          first
            | refine sk 0 rfl (by kernel_rfl) rfl HS ?_
            | (refine tk (v := ?v1_0) 0 rfl (by kernel_rfl) rfl ?y1_0 HS ?_; case y1_0 => (intro w' hSw; (try dsimp only at hSw); go_simp <;> (with_reducible rfl)))
          try simp only [Act.put, List.setIfInBounds_toArray, List.set_cons_zero, List.set_cons_succ]
          first
            | refine sk 1 rfl (by kernel_rfl) rfl HS ?_
            | (refine tk (v := ?v1_1) 1 rfl (by kernel_rfl) rfl ?y1_1 HS ?_; case y1_1 => (intro w' hSw; (try dsimp only at hSw); go_simp <;> (with_reducible rfl)))
          try simp only [Act.put, List.setIfInBounds_toArray, List.set_cons_zero, List.set_cons_succ]
          refine cl 2 rfl (by kernel_rfl) (fun K hK => ?_)
          go_simp
          go_at_call 68; refine (toStore x0 ⟨f0q, f0r, f0n⟩ _ (R0.out.grew (g9.trans HS.2.2.2.2.2.2)) hms0.out).mono ?_; rintro e wz0 ⟨⟨z0q, z0r, z0n⟩, rfl, o_z0, d_z0, hb⟩
          refine hK.out _ _ ?s1_2 ?r1_2
          case s1_2 => (try dsimp only); exact ⟨grew_cell hb HS.1, grew_cell hb HS.2.1, grew_cell hb HS.2.2.1, grew_cell hb HS.2.2.2.1, grew_cell hb HS.2.2.2.2.1, grew_cell hb HS.2.2.2.2.2.1, HS.2.2.2.2.2.2.trans hb⟩
          case r1_2 =>
            clear HS
            intro HS
            clear hK K
            try simp only [Act.put, List.setIfInBounds_toArray, List.set_cons_zero, List.set_cons_succ]
            refine cl 3 rfl (by kernel_rfl) (fun K hK => ?_)
            go_simp
            go_at_call 70; refine (eqStore x0 ⟨.slice y0qa x0.schema.length y0qc, .slice y0ra x0.files.length y0rc, x0.next⟩ ⟨z0q, z0r, z0n⟩ _ (o_y0.grew HS.2.2.2.2.2.2).rd o_z0.rd hms0.out).mono ?_; rintro e wy0 ⟨rfl, hb⟩
            refine hK.out _ _ ?s1_3 ?r1_3
            case s1_3 => (try dsimp only); exact ⟨grew_cell hb HS.1, grew_cell hb HS.2.1, grew_cell hb HS.2.2.1, grew_cell hb HS.2.2.2.1, grew_cell hb HS.2.2.2.2.1, grew_cell hb HS.2.2.2.2.2.1, HS.2.2.2.2.2.2.trans hb⟩
            case r1_3 =>
              clear HS
              intro HS
              clear hK K
              try simp only [Act.put, List.setIfInBounds_toArray, List.set_cons_zero, List.set_cons_succ]
              first
                | refine sk 4 rfl (by kernel_rfl) rfl HS ?_
                | (refine tk (v := ?v1_4) 4 rfl (by kernel_rfl) rfl ?y1_4 HS ?_; case y1_4 => (intro w' hSw; (try dsimp only at hSw); go_simp <;> (with_reducible rfl)))
              try simp only [Act.put, List.setIfInBounds_toArray, List.set_cons_zero, List.set_cons_succ]
              refine wpAnyH_done (by kernel_rfl) ?_ _
              refine NoPanic.normal ?_
              have sd1 : Grew (w9) wy0 := HS.2.2.2.2.2.2
              have gd1 := g9.trans sd1
              have pz12 := Lib.hid sd1.size
              replace o_rw0 := o_rw0.grew sd1
              replace o_y0 := o_y0.grew sd1
              replace o_y1 := o_y1.grew sd1
              replace o_rg0 := o_rg0.grew sd1
              replace bxf0_0 := HS.1
              replace bxf0_1 := HS.2.1
              replace bxf0_2 := HS.2.2.1
              replace bxy0_0 := HS.2.2.2.1
              replace bxy0_1 := HS.2.2.2.2.1
              replace bxy0_2 := HS.2.2.2.2.2.1
              clear HS
              go_wp2_with fail
              refine (toDirS _ x1 _ (R1.out.grew gd1) (by omega) hms1.out).mono ?_
              rintro e w10 ⟨z1, rfl, o_z1, s10⟩
              have g10 : Grew w w10 := gd1.trans s10
              have pz13 := Lib.hid s10.size
              replace bxf0_0 := grew_cell s10 bxf0_0
              replace bxf0_1 := grew_cell s10 bxf0_1
              replace bxf0_2 := grew_cell s10 bxf0_2
              replace bxy0_0 := grew_cell s10 bxy0_0
              replace bxy0_1 := grew_cell s10 bxy0_1
              replace bxy0_2 := grew_cell s10 bxy0_2
              replace o_rw0 := o_rw0.grew s10
              replace o_y0 := o_y0.grew s10
              replace o_y1 := o_y1.grew s10
              replace o_rg0 := o_rg0.grew s10
              go_wp2_with fail
              refine (eqDirS _ _ x1 _ o_y1.rd o_z1.rd (by omega) hms1.out).mono ?_
              rintro e w11 ⟨rfl, s11⟩
              have g11 : Grew w w11 := g10.trans s11
              have pz14 := Lib.hid s11.size
              replace bxf0_0 := grew_cell s11 bxf0_0
              replace bxf0_1 := grew_cell s11 bxf0_1
              replace bxf0_2 := grew_cell s11 bxf0_2
              replace bxy0_0 := grew_cell s11 bxy0_0
              replace bxy0_1 := grew_cell s11 bxy0_1
              replace bxy0_2 := grew_cell s11 bxy0_2
              replace o_rw0 := o_rw0.grew s11
              replace o_y0 := o_y0.grew s11
              replace o_y1 := o_y1.grew s11
              replace o_rg0 := o_rg0.grew s11
              replace o_z1 := o_z1.grew s11
              go_wp2_with fail
              refine (markStore x0 ⟨.slice y0qa x0.schema.length y0qc, .slice y0ra x0.files.length y0rc, x0.next⟩ 1 _ _ _ o_y0 hms0.out (by omega) (by omega) ⟨(St.cnt_ok hzz0).1, (St.cnt_ok hzz0).2.1⟩).mono ?_
              rintro e w12 ⟨he, om, s12⟩
              clear om
              obtain ⟨kk0, ka0, kb0, rfl⟩ : ∃ k : Int, 0 ≤ k ∧ k ≤ 64000001 ∧ e = .returned (.int .i64 k) := ⟨_, by have := St.cnt_ok hzz0; omega, by have := St.cnt_ok hzz0; omega, he⟩
              have pz15 := Lib.hid s12.size
              have g12 : Grew w w12 := Touch.new g11 s12 (Nat.le_trans (Nat.le_trans (Nat.le_trans (Nat.le_trans (Nat.le_trans (pz1.out) pz2.out) pz3.out) pz4.out) pz5.out) pz6.out)
              replace o_rw0 := o_rw0.touch s12 (.inl (Nat.le_refl _))
              replace o_y1 := o_y1.touch s12 (.inr (pz8.out))
              replace o_rg0 := o_rg0.touch s12 (.inr (Nat.le_trans (pz8.out) pz9.out))
              replace bxf0_0 := touch_cell s12 (.inl (Nat.lt_of_lt_of_le pbf0.out (Nat.le_trans (Nat.le_trans (Nat.le_trans (Nat.le_trans (pz2.out) pz3.out) pz4.out) pz5.out) pz6.out))) bxf0_0
              replace bxf0_1 := touch_cell s12 (.inl (Nat.lt_of_lt_of_le pbf0.out (Nat.le_trans (Nat.le_trans (Nat.le_trans (Nat.le_trans (pz2.out) pz3.out) pz4.out) pz5.out) pz6.out))) bxf0_1
              replace bxf0_2 := touch_cell s12 (.inl (Nat.lt_of_lt_of_le pbf0.out (Nat.le_trans (Nat.le_trans (Nat.le_trans (Nat.le_trans (pz2.out) pz3.out) pz4.out) pz5.out) pz6.out))) bxf0_2
              replace bxy0_0 := touch_cell s12 (.inr (Nat.le_refl _)) bxy0_0
              replace bxy0_1 := touch_cell s12 (.inr (Nat.le_refl _)) bxy0_1
              replace bxy0_2 := touch_cell s12 (.inr (Nat.le_refl _)) bxy0_2
              go_wp2_with fail
              refine (markDirS _ x1 kk0 _ _ _ o_y1 (by omega) hms1.out (by omega) (by have := Dr.cnt_ok (xs := x1) (by omega) hzz1; omega)).mono ?_
              rintro e w13 ⟨he, om, s13⟩
              clear om
              obtain ⟨kk1, ka1, kb1, rfl⟩ : ∃ k : Int, 0 ≤ k ∧ k ≤ 120000001 ∧ e = .returned (.int .i64 k) := ⟨_, by have := Dr.cnt_ok (xs := x1) (by omega) hzz1; omega, by have := Dr.cnt_ok (xs := x1) (by omega) hzz1; omega, he⟩
              have pz16 := Lib.hid s13.size
              have g13 : Grew w w13 := Touch.new g12 s13 (Nat.le_trans (Nat.le_trans (Nat.le_trans (Nat.le_trans (Nat.le_trans (Nat.le_trans (Nat.le_trans (pz1.out) pz2.out) pz3.out) pz4.out) pz5.out) pz6.out) pz7.out) pz8.out)
              replace o_rw0 := o_rw0.touch s13 (.inl (Nat.le_trans (pz7.out) pz8.out))
              replace o_rg0 := o_rg0.touch s13 (.inr (Nat.le_refl _))
              replace bxf0_0 := touch_cell s13 (.inl (Nat.lt_of_lt_of_le pbf0.out (Nat.le_trans (Nat.le_trans (Nat.le_trans (Nat.le_trans (Nat.le_trans (Nat.le_trans (pz2.out) pz3.out) pz4.out) pz5.out) pz6.out) pz7.out) pz8.out))) bxf0_0
              replace bxf0_1 := touch_cell s13 (.inl (Nat.lt_of_lt_of_le pbf0.out (Nat.le_trans (Nat.le_trans (Nat.le_trans (Nat.le_trans (Nat.le_trans (Nat.le_trans (pz2.out) pz3.out) pz4.out) pz5.out) pz6.out) pz7.out) pz8.out))) bxf0_1
              replace bxf0_2 := touch_cell s13 (.inl (Nat.lt_of_lt_of_le pbf0.out (Nat.le_trans (Nat.le_trans (Nat.le_trans (Nat.le_trans (Nat.le_trans (Nat.le_trans (pz2.out) pz3.out) pz4.out) pz5.out) pz6.out) pz7.out) pz8.out))) bxf0_2
              replace bxy0_0 := touch_cell s13 (.inl (Nat.lt_of_lt_of_le pby0.out (Nat.le_refl _))) bxy0_0
              replace bxy0_1 := touch_cell s13 (.inl (Nat.lt_of_lt_of_le pby0.out (Nat.le_refl _))) bxy0_1
              replace bxy0_2 := touch_cell s13 (.inl (Nat.lt_of_lt_of_le pby0.out (Nat.le_refl _))) bxy0_2
              go_wp2_with fail
              refine (eqIntS _ _ rv0.length rv0 _ o_rg0.rd o_rw0.rd (by omega)).mono ?_
              rintro e w14 ⟨rfl, s14⟩
              have g14 : Grew w w14 := g13.trans s14
              have pz17 := Lib.hid s14.size
              replace bxf0_0 := grew_cell s14 bxf0_0
              replace bxf0_1 := grew_cell s14 bxf0_1
              replace bxf0_2 := grew_cell s14 bxf0_2
              replace bxy0_0 := grew_cell s14 bxy0_0
              replace bxy0_1 := grew_cell s14 bxy0_1
              replace bxy0_2 := grew_cell s14 bxy0_2
              replace o_rw0 := o_rw0.grew s14
              replace o_rg0 := o_rg0.grew s14
              go_wp2_with fail
              refine (markIntS _ rv0.length rv0 (1) _ _ _ o_rg0 (by omega) (by omega) (by omega)).mono ?_
              rintro e w15 ⟨rfl, om_rg0, s15⟩
              have pz18 := Lib.hid s15.size
              have g15 : Grew w w15 := Touch.new g14 s15 (Nat.le_trans (Nat.le_trans (Nat.le_trans (Nat.le_trans (Nat.le_trans (Nat.le_trans (Nat.le_trans (Nat.le_trans (pz1.out) pz2.out) pz3.out) pz4.out) pz5.out) pz6.out) pz7.out) pz8.out) pz9.out)
              replace o_rw0 := o_rw0.touch s15 (.inl (Nat.le_trans (Nat.le_trans (pz7.out) pz8.out) pz9.out))
              replace bxf0_0 := touch_cell s15 (.inl (Nat.lt_of_lt_of_le pbf0.out (Nat.le_trans (Nat.le_trans (Nat.le_trans (Nat.le_trans (Nat.le_trans (Nat.le_trans (Nat.le_trans (pz2.out) pz3.out) pz4.out) pz5.out) pz6.out) pz7.out) pz8.out) pz9.out))) bxf0_0
              replace bxf0_1 := touch_cell s15 (.inl (Nat.lt_of_lt_of_le pbf0.out (Nat.le_trans (Nat.le_trans (Nat.le_trans (Nat.le_trans (Nat.le_trans (Nat.le_trans (Nat.le_trans (pz2.out) pz3.out) pz4.out) pz5.out) pz6.out) pz7.out) pz8.out) pz9.out))) bxf0_1
              replace bxf0_2 := touch_cell s15 (.inl (Nat.lt_of_lt_of_le pbf0.out (Nat.le_trans (Nat.le_trans (Nat.le_trans (Nat.le_trans (Nat.le_trans (Nat.le_trans (Nat.le_trans (pz2.out) pz3.out) pz4.out) pz5.out) pz6.out) pz7.out) pz8.out) pz9.out))) bxf0_2
              replace bxy0_0 := touch_cell s15 (.inl (Nat.lt_of_lt_of_le pby0.out (pz9.out))) bxy0_0
              replace bxy0_1 := touch_cell s15 (.inl (Nat.lt_of_lt_of_le pby0.out (pz9.out))) bxy0_1
              replace bxy0_2 := touch_cell s15 (.inl (Nat.lt_of_lt_of_le pby0.out (pz9.out))) bxy0_2
              go_wp2_with fail
              refine (heldIntS _ rv0.length (1) _ om_rg0.rd (by omega) (by omega) (by omega)).mono ?_
              rintro e w16 ⟨rfl, s16⟩
              have g16 : Grew w w16 := g15.trans s16
              have pz19 := Lib.hid s16.size
              replace bxf0_0 := grew_cell s16 bxf0_0
              replace bxf0_1 := grew_cell s16 bxf0_1
              replace bxf0_2 := grew_cell s16 bxf0_2
              replace bxy0_0 := grew_cell s16 bxy0_0
              replace bxy0_1 := grew_cell s16 bxy0_1
              replace bxy0_2 := grew_cell s16 bxy0_2
              replace o_rw0 := o_rw0.grew s16
              replace om_rg0 := om_rg0.grew s16
              go_wp2_with fail
              refine (toStore x0 ⟨f0q, f0r, f0n⟩ _ (R0.out.grew g16) hms0.out).mono ?_
              rintro e w17 ⟨⟨v0q, v0r, v0n⟩, rfl, o_v0, d_v0, s17⟩
              have g17 : Grew w w17 := g16.trans s17
              have pz20 := Lib.hid s17.size
              replace bxf0_0 := grew_cell s17 bxf0_0
              replace bxf0_1 := grew_cell s17 bxf0_1
              replace bxf0_2 := grew_cell s17 bxf0_2
              replace bxy0_0 := grew_cell s17 bxy0_0
              replace bxy0_1 := grew_cell s17 bxy0_1
              replace bxy0_2 := grew_cell s17 bxy0_2
              replace d_v0 := Lib.hid d_v0
              replace o_rw0 := o_rw0.grew s17
              replace om_rg0 := om_rg0.grew s17
              go_wp2_with fail
              refine (toDirS _ x1 _ (R1.out.grew g17) (by omega) hms1.out).mono ?_
              rintro e w18 ⟨v1, rfl, o_v1, s18⟩
              have g18 : Grew w w18 := g17.trans s18
              have pz21 := Lib.hid s18.size
              replace bxf0_0 := grew_cell s18 bxf0_0
              replace bxf0_1 := grew_cell s18 bxf0_1
              replace bxf0_2 := grew_cell s18 bxf0_2
              replace bxy0_0 := grew_cell s18 bxy0_0
              replace bxy0_1 := grew_cell s18 bxy0_1
              replace bxy0_2 := grew_cell s18 bxy0_2
              replace o_rw0 := o_rw0.grew s18
              replace om_rg0 := om_rg0.grew s18
              replace o_v0 := o_v0.grew s18
              go_wp2_with fail
              refine (IM.out _ ⟨v0q, v0r, v0n⟩ o_v0.rd v1 o_v1.rd).mono ?_
              rintro e w19 ⟨rh0, rfl, o_rh0, s19⟩
              have g19 : Grew w w19 := g18.trans s19
              have pz22 := Lib.hid s19.size
              replace bxf0_0 := grew_cell s19 bxf0_0
              replace bxf0_1 := grew_cell s19 bxf0_1
              replace bxf0_2 := grew_cell s19 bxf0_2
              replace bxy0_0 := grew_cell s19 bxy0_0
              replace bxy0_1 := grew_cell s19 bxy0_1
              replace bxy0_2 := grew_cell s19 bxy0_2
              replace o_rw0 := o_rw0.grew s19
              replace om_rg0 := om_rg0.grew s19
              replace o_v0 := o_v0.grew s19
              replace o_v1 := o_v1.grew s19
              have o_rh0 := Own.of o_rh0
              go_wp2_with fail
              refine (eqIntS _ _ rv0.length rv0 _ o_rh0.rd o_rw0.rd (by omega)).mono ?_
              rintro e w20 ⟨rfl, s20⟩
              have g20 : Grew w w20 := g19.trans s20
              have pz23 := Lib.hid s20.size
              replace bxf0_0 := grew_cell s20 bxf0_0
              replace bxf0_1 := grew_cell s20 bxf0_1
              replace bxf0_2 := grew_cell s20 bxf0_2
              replace bxy0_0 := grew_cell s20 bxy0_0
              replace bxy0_1 := grew_cell s20 bxy0_1
              replace bxy0_2 := grew_cell s20 bxy0_2
              replace o_rw0 := o_rw0.grew s20
              replace om_rg0 := om_rg0.grew s20
              replace o_v0 := o_v0.grew s20
              replace o_v1 := o_v1.grew s20
              replace o_rh0 := o_rh0.grew s20
              go_wp2_with fail
              refine (heldIntS _ rv0.length (1) _ om_rg0.rd (by omega) (by omega) (by omega)).mono ?_
              rintro e w21 ⟨rfl, s21⟩
              have g21 : Grew w w21 := g20.trans s21
              have pz24 := Lib.hid s21.size
              replace bxf0_0 := grew_cell s21 bxf0_0
              replace bxf0_1 := grew_cell s21 bxf0_1
              replace bxf0_2 := grew_cell s21 bxf0_2
              replace bxy0_0 := grew_cell s21 bxy0_0
              replace bxy0_1 := grew_cell s21 bxy0_1
              replace bxy0_2 := grew_cell s21 bxy0_2
              replace o_rw0 := o_rw0.grew s21
              replace om_rg0 := om_rg0.grew s21
              replace o_v0 := o_v0.grew s21
              replace o_v1 := o_v1.grew s21
              replace o_rh0 := o_rh0.grew s21
              go_wp2
              go_ret
              exact ⟨rfl, g21⟩
end Go.Proofs.YtejgpghcahinhaaGreat.fnExactListDir
namespace Go.Proofs.YtejgpghcahinhaaGreat.fnExactIsListed
open Go.RowKit
set_option linter.unusedVariables false
set_option maxRecDepth 100000 in
set_option maxHeartbeats 1000000 in
theorem walkLaw (w : World) (q0 : PS) (x0 : St) (hr0 : St.R w x0 q0) (ho0 : x0.ok0) (u1 : Value) (x1 : List Dr) (hr1 : RdDs w u1 x1) (hn1 : x1.length ≤ maxLen) (ho1 : ∀ x, x ∈ x1 → x.ok0) (a2 : Int) (h2 : I64 a2) (a3 : ByteArray) (h3 : a3.size ≤ maxLen) (a4 : Int) (h4 : I64 a4) :
    Calls Tryz.prog 9 #[.agg (q0.c).toArray, u1, .int .i64 a2, .string a3, .int .i64 a4] w fun e w' => e = .returned (.bool true) ∧ Grew w w' := by
  have R0 := Lib.hid hr0
  have O0 := Lib.hid ho0
  obtain ⟨f0q, f0r, f0n⟩ := q0
  clear hr0 ho0
  have R1 := Lib.hid hr1
  have O1 := Lib.hid ho1
  obtain ⟨ps1, ⟨sa1, sc1, rfl, hc1, hra1⟩, hall1⟩ := hr1
  clear ho1 hra1 hall1
  clear h2
  unfold maxLen at h3
  clear h4
  change Calls Tryz.prog 9 #[.agg #[f0q, f0r, .int .i64 f0n], _, .int .i64 a2, .string a3, .int .i64 a4] w _
  by_cases hbig3 : (1048576 : Int) < (a3.size : Int)
  · go_enter Tryz.func9, Tryz.ntmps9
    go_wp2
    go_ret
    exact ⟨rfl, by repeat' (first | with_reducible exact Grew.refl _ | with_reducible apply Grew.alloc)⟩
  · have hsm3 : (a3.size : Int) ≤ 4000000 := by omega
    go_enter Tryz.func9, Tryz.ntmps9
    have bxf0_0 : (w.alloc (.cells #[f0q, f0r, .int .i64 f0n] 84)).cell? ⟨w.heap.size, 0, none⟩ = some (f0q) := by simp
    have bxf0_1 : (w.alloc (.cells #[f0q, f0r, .int .i64 f0n] 84)).cell? ⟨w.heap.size, 1, none⟩ = some (f0r) := by simp
    have bxf0_2 : (w.alloc (.cells #[f0q, f0r, .int .i64 f0n] 84)).cell? ⟨w.heap.size, 2, none⟩ = some (.int .i64 f0n) := by simp
    have ga1 := Grew.alloc (Grew.refl w) (.cells #[f0q, f0r, .int .i64 f0n] 84)
    go_wp2_with fail
    refine (szStore x0 ⟨f0q, f0r, f0n⟩ _ _ (R0.out.grew ga1) O0.out (by omega) (by omega)).mono ?_
    rintro e w1 ⟨r0, rfl, hl0, s1⟩
    have g1 : Grew w w1 := ga1.trans s1
    replace bxf0_0 := grew_cell s1 bxf0_0
    replace bxf0_1 := grew_cell s1 bxf0_1
    replace bxf0_2 := grew_cell s1 bxf0_2
    rcases hl0 with rfl | ⟨hl0, hp0⟩
    · go_wp2
      go_ret
      exact ⟨rfl, g1⟩
    · have hle0 : r0 ≤ 1048576 := by omega
      have hzt0 : x0.sz ≤ 1048576 := by omega
      have hzz0 : x0.sz ≤ 4000000 := by omega
      have hms0 := Lib.hid (St.small_of hzz0)
      have HL0 := Lib.hid hl0
      clear hl0
      go_wp2_with fail
      refine (szDirS _ x1 _ _ (R1.out.grew g1) hn1 O1.out (by omega) (by omega)).mono ?_
      rintro e w2 ⟨r1, rfl, hl1, s2⟩
      have g2 : Grew w w2 := g1.trans s2
      replace bxf0_0 := grew_cell s2 bxf0_0
      replace bxf0_1 := grew_cell s2 bxf0_1
      replace bxf0_2 := grew_cell s2 bxf0_2
      rcases hl1 with rfl | ⟨hl1, hp1⟩
      · go_wp2
        go_ret
        exact ⟨rfl, g2⟩
      · have hle1 : r1 ≤ 1048576 := by omega
        have hst1 : x1.length ≤ 1048576 := by omega
        have hsm1 : x1.length ≤ 4000000 := by omega
        have hzz1 : szAll Dr.sz x1 ≤ 4000000 := by omega
        have hms1 := Lib.hid (fun x (hx : x ∈ x1) => Dr.small_of (Nat.le_trans (mem_szAll hx) hzz1))
        have HL1 := Lib.hid hl1
        clear hl1
        go_wp2_with fail
        refine (toStore x0 ⟨f0q, f0r, f0n⟩ _ (R0.out.grew g2) hms0.out).mono ?_
        rintro e w3 ⟨⟨c0q, c0r, c0n⟩, rfl, o_c0, d_c0, s3⟩
        have g3 : Grew w w3 := g2.trans s3
        replace bxf0_0 := grew_cell s3 bxf0_0
        replace bxf0_1 := grew_cell s3 bxf0_1
        replace bxf0_2 := grew_cell s3 bxf0_2
        replace d_c0 := Lib.hid d_c0
        go_wp2_with fail
        refine (toDirS _ x1 _ (R1.out.grew g3) (by omega) hms1.out).mono ?_
        rintro e w4 ⟨c1, rfl, o_c1, s4⟩
        have g4 : Grew w w4 := g3.trans s4
        replace bxf0_0 := grew_cell s4 bxf0_0
        replace bxf0_1 := grew_cell s4 bxf0_1
        replace bxf0_2 := grew_cell s4 bxf0_2
        replace o_c0 := o_c0.grew s4
        go_wp2_with fail
        refine (specIsListed x0 ⟨c0q, c0r, c0n⟩ c1 x1 a2 a3 a4 _ o_c0.rd o_c1.rd (by omega) hzz1 hzz0).mono ?_
        rintro e w5 ⟨rfl, s5⟩
        have g5 : Grew w w5 := g4.trans s5
        replace bxf0_0 := grew_cell s5 bxf0_0
        replace bxf0_1 := grew_cell s5 bxf0_1
        replace bxf0_2 := grew_cell s5 bxf0_2
        replace o_c0 := o_c0.grew s5
        replace o_c1 := o_c1.grew s5
        go_wp2_with fail
        refine (toStore x0 ⟨f0q, f0r, f0n⟩ _ (R0.out.grew g5) hms0.out).mono ?_
        rintro e w6 ⟨⟨y0q, y0r, y0n⟩, rfl, o_y0, d_y0, s6⟩
        have g6 : Grew w w6 := g5.trans s6
        replace bxf0_0 := grew_cell s6 bxf0_0
        replace bxf0_1 := grew_cell s6 bxf0_1
        replace bxf0_2 := grew_cell s6 bxf0_2
        replace d_y0 := Lib.hid d_y0
        obtain ⟨y0qa, y0qc, y0ra, y0rc, he_y0⟩ := o_y0.slices
        cases he_y0
        replace o_y0 := o_y0.grew ((Grew.refl _).alloc (.cells #[.slice y0qa x0.schema.length y0qc, .slice y0ra x0.files.length y0rc, .int .i64 x0.next] 27))
        replace bxf0_0 := grew_cell ((Grew.refl _).alloc (.cells #[.slice y0qa x0.schema.length y0qc, .slice y0ra x0.files.length y0rc, .int .i64 x0.next] 27)) bxf0_0
        replace bxf0_1 := grew_cell ((Grew.refl _).alloc (.cells #[.slice y0qa x0.schema.length y0qc, .slice y0ra x0.files.length y0rc, .int .i64 x0.next] 27)) bxf0_1
        replace bxf0_2 := grew_cell ((Grew.refl _).alloc (.cells #[.slice y0qa x0.schema.length y0qc, .slice y0ra x0.files.length y0rc, .int .i64 x0.next] 27)) bxf0_2
        have bxy0_0 : (w6.alloc (.cells #[.slice y0qa x0.schema.length y0qc, .slice y0ra x0.files.length y0rc, .int .i64 x0.next] 27)).cell? ⟨w6.heap.size, 0, none⟩ = some (.slice y0qa x0.schema.length y0qc) := by simp
        have bxy0_1 : (w6.alloc (.cells #[.slice y0qa x0.schema.length y0qc, .slice y0ra x0.files.length y0rc, .int .i64 x0.next] 27)).cell? ⟨w6.heap.size, 1, none⟩ = some (.slice y0ra x0.files.length y0rc) := by simp
        have bxy0_2 : (w6.alloc (.cells #[.slice y0qa x0.schema.length y0qc, .slice y0ra x0.files.length y0rc, .int .i64 x0.next] 27)).cell? ⟨w6.heap.size, 2, none⟩ = some (.int .i64 x0.next) := by simp
        have ga2 := Grew.alloc g6 (.cells #[.slice y0qa x0.schema.length y0qc, .slice y0ra x0.files.length y0rc, .int .i64 x0.next] 27)
        go_wp2_with fail
        refine (toDirS _ x1 _ (R1.out.grew ga2) (by omega) hms1.out).mono ?_
        rintro e w7 ⟨y1, rfl, o_y1, s7⟩
        have g7 : Grew w w7 := ga2.trans s7
        replace bxf0_0 := grew_cell s7 bxf0_0
        replace bxf0_1 := grew_cell s7 bxf0_1
        replace bxf0_2 := grew_cell s7 bxf0_2
        replace bxy0_0 := grew_cell s7 bxy0_0
        replace bxy0_1 := grew_cell s7 bxy0_1
        replace bxy0_2 := grew_cell s7 bxy0_2
        replace o_y0 := o_y0.grew s7
        go_wp2_with fail
        refine (implIsListed x0 ⟨.slice y0qa x0.schema.length y0qc, .slice y0ra x0.files.length y0rc, x0.next⟩ y1 x1 a2 a3 a4 _ o_y0.rd o_y1.rd (by omega) hzz1 hzz0).mono ?_
        rintro e w8 ⟨rfl, s8⟩
        have g8 : Grew w w8 := g7.trans s8
        replace bxf0_0 := grew_cell s8 bxf0_0
        replace bxf0_1 := grew_cell s8 bxf0_1
        replace bxf0_2 := grew_cell s8 bxf0_2
        replace bxy0_0 := grew_cell s8 bxy0_0
        replace bxy0_1 := grew_cell s8 bxy0_1
        replace bxy0_2 := grew_cell s8 bxy0_2
        replace o_y0 := o_y0.grew s8
        replace o_y1 := o_y1.grew s8
        go_wp2
        refine wp_region_noPanic ?_
        refine wp_region_held_drew (S := (fun w' => (w'.cell? ⟨w.heap.size, 0, none⟩ = some (f0q) ∧ w'.cell? ⟨w.heap.size, 1, none⟩ = some (f0r) ∧ w'.cell? ⟨w.heap.size, 2, none⟩ = some (.int .i64 f0n) ∧ w'.cell? ⟨w6.heap.size, 0, none⟩ = some (.slice y0qa x0.schema.length y0qc) ∧ w'.cell? ⟨w6.heap.size, 1, none⟩ = some (.slice y0ra x0.files.length y0rc) ∧ w'.cell? ⟨w6.heap.size, 2, none⟩ = some (.int .i64 x0.next) ∧ Grew (w8) w'))) (by kernel_rfl) ?h1_S ?h1_r
        case h1_S => exact ⟨bxf0_0, bxf0_1, bxf0_2, bxy0_0, bxy0_1, bxy0_2, (Grew.refl _).drew⟩
        case h1_r =>
          intro HS
          first
            | refine sk 0 rfl (by kernel_rfl) rfl HS ?_
            | (refine tk (v := ?v1_0) 0 rfl (by kernel_rfl) rfl ?y1_0 HS ?_; case y1_0 => (intro w' hSw; (try dsimp only at hSw); go_simp <;> (with_reducible rfl)))
          try simp only [Act.put, List.setIfInBounds_toArray, List.set_cons_zero, List.set_cons_succ]
          first
            | refine sk 1 rfl (by kernel_rfl) rfl HS ?_
            | (refine tk (v := ?v1_1) 1 rfl (by kernel_rfl) rfl ?y1_1 HS ?_; case y1_1 => (intro w' hSw; (try dsimp only at hSw); go_simp <;> (with_reducible rfl)))
          try simp only [Act.put, List.setIfInBounds_toArray, List.set_cons_zero, List.set_cons_succ]
          refine cl 2 rfl (by kernel_rfl) (fun K hK => ?_)
          go_simp
          go_at_call 68; refine (toStore x0 ⟨f0q, f0r, f0n⟩ _ (R0.out.grew (g8.trans HS.2.2.2.2.2.2)) hms0.out).mono ?_; rintro e wz0 ⟨⟨z0q, z0r, z0n⟩, rfl, o_z0, d_z0, hb⟩
          refine hK.out _ _ ?s1_2 ?r1_2
          case s1_2 => (try dsimp only); exact ⟨grew_cell hb HS.1, grew_cell hb HS.2.1, grew_cell hb HS.2.2.1, grew_cell hb HS.2.2.2.1, grew_cell hb HS.2.2.2.2.1, grew_cell hb HS.2.2.2.2.2.1, HS.2.2.2.2.2.2.trans hb⟩
          case r1_2 =>
            clear HS
            intro HS
            clear hK K
            try simp only [Act.put, List.setIfInBounds_toArray, List.set_cons_zero, List.set_cons_succ]
            refine cl 3 rfl (by kernel_rfl) (fun K hK => ?_)
            go_simp
            go_at_call 70; refine (eqStore x0 ⟨.slice y0qa x0.schema.length y0qc, .slice y0ra x0.files.length y0rc, x0.next⟩ ⟨z0q, z0r, z0n⟩ _ (o_y0.grew HS.2.2.2.2.2.2).rd o_z0.rd hms0.out).mono ?_; rintro e wy0 ⟨rfl, hb⟩
            refine hK.out _ _ ?s1_3 ?r1_3
            case s1_3 => (try dsimp only); exact ⟨grew_cell hb HS.1, grew_cell hb HS.2.1, grew_cell hb HS.2.2.1, grew_cell hb HS.2.2.2.1, grew_cell hb HS.2.2.2.2.1, grew_cell hb HS.2.2.2.2.2.1, HS.2.2.2.2.2.2.trans hb⟩
            case r1_3 =>
              clear HS
              intro HS
              clear hK K
              try simp only [Act.put, List.setIfInBounds_toArray, List.set_cons_zero, List.set_cons_succ]
              first
                | refine sk 4 rfl (by kernel_rfl) rfl HS ?_
                | (refine tk (v := ?v1_4) 4 rfl (by kernel_rfl) rfl ?y1_4 HS ?_; case y1_4 => (intro w' hSw; (try dsimp only at hSw); go_simp <;> (with_reducible rfl)))
              try simp only [Act.put, List.setIfInBounds_toArray, List.set_cons_zero, List.set_cons_succ]
              refine wpAnyH_done (by kernel_rfl) ?_ _
              refine NoPanic.normal ?_
              have sd1 : Grew (w8) wy0 := HS.2.2.2.2.2.2
              have gd1 := g8.trans sd1
              replace o_y0 := o_y0.grew sd1
              replace o_y1 := o_y1.grew sd1
              replace bxf0_0 := HS.1
              replace bxf0_1 := HS.2.1
              replace bxf0_2 := HS.2.2.1
              replace bxy0_0 := HS.2.2.2.1
              replace bxy0_1 := HS.2.2.2.2.1
              replace bxy0_2 := HS.2.2.2.2.2.1
              clear HS
              go_wp2_with fail
              refine (toDirS _ x1 _ (R1.out.grew gd1) (by omega) hms1.out).mono ?_
              rintro e w9 ⟨z1, rfl, o_z1, s9⟩
              have g9 : Grew w w9 := gd1.trans s9
              replace bxf0_0 := grew_cell s9 bxf0_0
              replace bxf0_1 := grew_cell s9 bxf0_1
              replace bxf0_2 := grew_cell s9 bxf0_2
              replace bxy0_0 := grew_cell s9 bxy0_0
              replace bxy0_1 := grew_cell s9 bxy0_1
              replace bxy0_2 := grew_cell s9 bxy0_2
              replace o_y0 := o_y0.grew s9
              replace o_y1 := o_y1.grew s9
              go_wp2_with fail
              refine (eqDirS _ _ x1 _ o_y1.rd o_z1.rd (by omega) hms1.out).mono ?_
              rintro e w10 ⟨rfl, s10⟩
              have g10 : Grew w w10 := g9.trans s10
              replace bxf0_0 := grew_cell s10 bxf0_0
              replace bxf0_1 := grew_cell s10 bxf0_1
              replace bxf0_2 := grew_cell s10 bxf0_2
              replace bxy0_0 := grew_cell s10 bxy0_0
              replace bxy0_1 := grew_cell s10 bxy0_1
              replace bxy0_2 := grew_cell s10 bxy0_2
              replace o_y0 := o_y0.grew s10
              replace o_y1 := o_y1.grew s10
              replace o_z1 := o_z1.grew s10
              go_wp2
              go_ret
              exact ⟨rfl, g10⟩
end Go.Proofs.YtejgpghcahinhaaGreat.fnExactIsListed
namespace Go.Proofs.YtejgpghcahinhaaGreat.fnExactCountListed
open Go.RowKit
set_option linter.unusedVariables false
set_option maxRecDepth 100000 in
set_option maxHeartbeats 1000000 in
theorem walkLaw (w : World) (q0 : PS) (x0 : St) (hr0 : St.R w x0 q0) (ho0 : x0.ok0) (u1 : Value) (x1 : List Dr) (hr1 : RdDs w u1 x1) (hn1 : x1.length ≤ maxLen) (ho1 : ∀ x, x ∈ x1 → x.ok0) (a2 : Int) (h2 : I64 a2) (a3 : ByteArray) (h3 : a3.size ≤ maxLen) :
    Calls Tryz.prog 8 #[.agg (q0.c).toArray, u1, .int .i64 a2, .string a3] w fun e w' => e = .returned (.bool true) ∧ Grew w w' := by
  have R0 := Lib.hid hr0
  have O0 := Lib.hid ho0
  obtain ⟨f0q, f0r, f0n⟩ := q0
  clear hr0 ho0
  have R1 := Lib.hid hr1
  have O1 := Lib.hid ho1
  obtain ⟨ps1, ⟨sa1, sc1, rfl, hc1, hra1⟩, hall1⟩ := hr1
  clear ho1 hra1 hall1
  clear h2
  unfold maxLen at h3
  change Calls Tryz.prog 8 #[.agg #[f0q, f0r, .int .i64 f0n], _, .int .i64 a2, .string a3] w _
  by_cases hbig3 : (1048576 : Int) < (a3.size : Int)
  · go_enter Tryz.func8, Tryz.ntmps8
    go_wp2
    go_ret
    exact ⟨rfl, by repeat' (first | with_reducible exact Grew.refl _ | with_reducible apply Grew.alloc)⟩
  · have hsm3 : (a3.size : Int) ≤ 4000000 := by omega
    go_enter Tryz.func8, Tryz.ntmps8
    have bxf0_0 : (w.alloc (.cells #[f0q, f0r, .int .i64 f0n] 84)).cell? ⟨w.heap.size, 0, none⟩ = some (f0q) := by simp
    have bxf0_1 : (w.alloc (.cells #[f0q, f0r, .int .i64 f0n] 84)).cell? ⟨w.heap.size, 1, none⟩ = some (f0r) := by simp
    have bxf0_2 : (w.alloc (.cells #[f0q, f0r, .int .i64 f0n] 84)).cell? ⟨w.heap.size, 2, none⟩ = some (.int .i64 f0n) := by simp
    have ga1 := Grew.alloc (Grew.refl w) (.cells #[f0q, f0r, .int .i64 f0n] 84)
    go_wp2_with fail
    refine (szStore x0 ⟨f0q, f0r, f0n⟩ _ _ (R0.out.grew ga1) O0.out (by omega) (by omega)).mono ?_
    rintro e w1 ⟨r0, rfl, hl0, s1⟩
    have g1 : Grew w w1 := ga1.trans s1
    replace bxf0_0 := grew_cell s1 bxf0_0
    replace bxf0_1 := grew_cell s1 bxf0_1
    replace bxf0_2 := grew_cell s1 bxf0_2
    rcases hl0 with rfl | ⟨hl0, hp0⟩
    · go_wp2
      go_ret
      exact ⟨rfl, g1⟩
    · have hle0 : r0 ≤ 1048576 := by omega
      have hzt0 : x0.sz ≤ 1048576 := by omega
      have hzz0 : x0.sz ≤ 4000000 := by omega
      have hms0 := Lib.hid (St.small_of hzz0)
      have HL0 := Lib.hid hl0
      clear hl0
      go_wp2_with fail
      refine (szDirS _ x1 _ _ (R1.out.grew g1) hn1 O1.out (by omega) (by omega)).mono ?_
      rintro e w2 ⟨r1, rfl, hl1, s2⟩
      have g2 : Grew w w2 := g1.trans s2
      replace bxf0_0 := grew_cell s2 bxf0_0
      replace bxf0_1 := grew_cell s2 bxf0_1
      replace bxf0_2 := grew_cell s2 bxf0_2
      rcases hl1 with rfl | ⟨hl1, hp1⟩
      · go_wp2
        go_ret
        exact ⟨rfl, g2⟩
      · have hle1 : r1 ≤ 1048576 := by omega
        have hst1 : x1.length ≤ 1048576 := by omega
        have hsm1 : x1.length ≤ 4000000 := by omega
        have hzz1 : szAll Dr.sz x1 ≤ 4000000 := by omega
        have hms1 := Lib.hid (fun x (hx : x ∈ x1) => Dr.small_of (Nat.le_trans (mem_szAll hx) hzz1))
        have HL1 := Lib.hid hl1
        clear hl1
        go_wp2_with fail
        refine (toStore x0 ⟨f0q, f0r, f0n⟩ _ (R0.out.grew g2) hms0.out).mono ?_
        rintro e w3 ⟨⟨c0q, c0r, c0n⟩, rfl, o_c0, d_c0, s3⟩
        have g3 : Grew w w3 := g2.trans s3
        replace bxf0_0 := grew_cell s3 bxf0_0
        replace bxf0_1 := grew_cell s3 bxf0_1
        replace bxf0_2 := grew_cell s3 bxf0_2
        replace d_c0 := Lib.hid d_c0
        go_wp2_with fail
        refine (toDirS _ x1 _ (R1.out.grew g3) (by omega) hms1.out).mono ?_
        rintro e w4 ⟨c1, rfl, o_c1, s4⟩
        have g4 : Grew w w4 := g3.trans s4
        replace bxf0_0 := grew_cell s4 bxf0_0
        replace bxf0_1 := grew_cell s4 bxf0_1
        replace bxf0_2 := grew_cell s4 bxf0_2
        replace o_c0 := o_c0.grew s4
        go_wp2_with fail
        refine (specCountListed x0 ⟨c0q, c0r, c0n⟩ c1 x1 a2 a3 _ o_c0.rd o_c1.rd (by omega) hzz1 hzz0).mono ?_
        rintro e w5 ⟨rfl, s5⟩
        have g5 : Grew w w5 := g4.trans s5
        replace bxf0_0 := grew_cell s5 bxf0_0
        replace bxf0_1 := grew_cell s5 bxf0_1
        replace bxf0_2 := grew_cell s5 bxf0_2
        replace o_c0 := o_c0.grew s5
        replace o_c1 := o_c1.grew s5
        go_wp2_with fail
        refine (toStore x0 ⟨f0q, f0r, f0n⟩ _ (R0.out.grew g5) hms0.out).mono ?_
        rintro e w6 ⟨⟨y0q, y0r, y0n⟩, rfl, o_y0, d_y0, s6⟩
        have g6 : Grew w w6 := g5.trans s6
        replace bxf0_0 := grew_cell s6 bxf0_0
        replace bxf0_1 := grew_cell s6 bxf0_1
        replace bxf0_2 := grew_cell s6 bxf0_2
        replace d_y0 := Lib.hid d_y0
        obtain ⟨y0qa, y0qc, y0ra, y0rc, he_y0⟩ := o_y0.slices
        cases he_y0
        replace o_y0 := o_y0.grew ((Grew.refl _).alloc (.cells #[.slice y0qa x0.schema.length y0qc, .slice y0ra x0.files.length y0rc, .int .i64 x0.next] 27))
        replace bxf0_0 := grew_cell ((Grew.refl _).alloc (.cells #[.slice y0qa x0.schema.length y0qc, .slice y0ra x0.files.length y0rc, .int .i64 x0.next] 27)) bxf0_0
        replace bxf0_1 := grew_cell ((Grew.refl _).alloc (.cells #[.slice y0qa x0.schema.length y0qc, .slice y0ra x0.files.length y0rc, .int .i64 x0.next] 27)) bxf0_1
        replace bxf0_2 := grew_cell ((Grew.refl _).alloc (.cells #[.slice y0qa x0.schema.length y0qc, .slice y0ra x0.files.length y0rc, .int .i64 x0.next] 27)) bxf0_2
        have bxy0_0 : (w6.alloc (.cells #[.slice y0qa x0.schema.length y0qc, .slice y0ra x0.files.length y0rc, .int .i64 x0.next] 27)).cell? ⟨w6.heap.size, 0, none⟩ = some (.slice y0qa x0.schema.length y0qc) := by simp
        have bxy0_1 : (w6.alloc (.cells #[.slice y0qa x0.schema.length y0qc, .slice y0ra x0.files.length y0rc, .int .i64 x0.next] 27)).cell? ⟨w6.heap.size, 1, none⟩ = some (.slice y0ra x0.files.length y0rc) := by simp
        have bxy0_2 : (w6.alloc (.cells #[.slice y0qa x0.schema.length y0qc, .slice y0ra x0.files.length y0rc, .int .i64 x0.next] 27)).cell? ⟨w6.heap.size, 2, none⟩ = some (.int .i64 x0.next) := by simp
        have ga2 := Grew.alloc g6 (.cells #[.slice y0qa x0.schema.length y0qc, .slice y0ra x0.files.length y0rc, .int .i64 x0.next] 27)
        go_wp2_with fail
        refine (toDirS _ x1 _ (R1.out.grew ga2) (by omega) hms1.out).mono ?_
        rintro e w7 ⟨y1, rfl, o_y1, s7⟩
        have g7 : Grew w w7 := ga2.trans s7
        replace bxf0_0 := grew_cell s7 bxf0_0
        replace bxf0_1 := grew_cell s7 bxf0_1
        replace bxf0_2 := grew_cell s7 bxf0_2
        replace bxy0_0 := grew_cell s7 bxy0_0
        replace bxy0_1 := grew_cell s7 bxy0_1
        replace bxy0_2 := grew_cell s7 bxy0_2
        replace o_y0 := o_y0.grew s7
        go_wp2_with fail
        refine (implCountListed x0 ⟨.slice y0qa x0.schema.length y0qc, .slice y0ra x0.files.length y0rc, x0.next⟩ y1 x1 a2 a3 _ o_y0.rd o_y1.rd (by omega) hzz1 hzz0).mono ?_
        rintro e w8 ⟨rfl, s8⟩
        have g8 : Grew w w8 := g7.trans s8
        replace bxf0_0 := grew_cell s8 bxf0_0
        replace bxf0_1 := grew_cell s8 bxf0_1
        replace bxf0_2 := grew_cell s8 bxf0_2
        replace bxy0_0 := grew_cell s8 bxy0_0
        replace bxy0_1 := grew_cell s8 bxy0_1
        replace bxy0_2 := grew_cell s8 bxy0_2
        replace o_y0 := o_y0.grew s8
        replace o_y1 := o_y1.grew s8
        go_wp2
        refine wp_region_noPanic ?_
        refine wp_region_held_drew (S := (fun w' => (w'.cell? ⟨w.heap.size, 0, none⟩ = some (f0q) ∧ w'.cell? ⟨w.heap.size, 1, none⟩ = some (f0r) ∧ w'.cell? ⟨w.heap.size, 2, none⟩ = some (.int .i64 f0n) ∧ w'.cell? ⟨w6.heap.size, 0, none⟩ = some (.slice y0qa x0.schema.length y0qc) ∧ w'.cell? ⟨w6.heap.size, 1, none⟩ = some (.slice y0ra x0.files.length y0rc) ∧ w'.cell? ⟨w6.heap.size, 2, none⟩ = some (.int .i64 x0.next) ∧ Grew (w8) w'))) (by kernel_rfl) ?h1_S ?h1_r
        case h1_S => exact ⟨bxf0_0, bxf0_1, bxf0_2, bxy0_0, bxy0_1, bxy0_2, (Grew.refl _).drew⟩
        case h1_r =>
          intro HS
          first
            | refine sk 0 rfl (by kernel_rfl) rfl HS ?_
            | (refine tk (v := ?v1_0) 0 rfl (by kernel_rfl) rfl ?y1_0 HS ?_; case y1_0 => (intro w' hSw; (try dsimp only at hSw); go_simp <;> (with_reducible rfl)))
          try simp only [Act.put, List.setIfInBounds_toArray, List.set_cons_zero, List.set_cons_succ]
          first
            | refine sk 1 rfl (by kernel_rfl) rfl HS ?_
            | (refine tk (v := ?v1_1) 1 rfl (by kernel_rfl) rfl ?y1_1 HS ?_; case y1_1 => (intro w' hSw; (try dsimp only at hSw); go_simp <;> (with_reducible rfl)))
          try simp only [Act.put, List.setIfInBounds_toArray, List.set_cons_zero, List.set_cons_succ]
          refine cl 2 rfl (by kernel_rfl) (fun K hK => ?_)
          go_simp
          go_at_call 68; refine (toStore x0 ⟨f0q, f0r, f0n⟩ _ (R0.out.grew (g8.trans HS.2.2.2.2.2.2)) hms0.out).mono ?_; rintro e wz0 ⟨⟨z0q, z0r, z0n⟩, rfl, o_z0, d_z0, hb⟩
          refine hK.out _ _ ?s1_2 ?r1_2
          case s1_2 => (try dsimp only); exact ⟨grew_cell hb HS.1, grew_cell hb HS.2.1, grew_cell hb HS.2.2.1, grew_cell hb HS.2.2.2.1, grew_cell hb HS.2.2.2.2.1, grew_cell hb HS.2.2.2.2.2.1, HS.2.2.2.2.2.2.trans hb⟩
          case r1_2 =>
            clear HS
            intro HS
            clear hK K
            try simp only [Act.put, List.setIfInBounds_toArray, List.set_cons_zero, List.set_cons_succ]
            refine cl 3 rfl (by kernel_rfl) (fun K hK => ?_)
            go_simp
            go_at_call 70; refine (eqStore x0 ⟨.slice y0qa x0.schema.length y0qc, .slice y0ra x0.files.length y0rc, x0.next⟩ ⟨z0q, z0r, z0n⟩ _ (o_y0.grew HS.2.2.2.2.2.2).rd o_z0.rd hms0.out).mono ?_; rintro e wy0 ⟨rfl, hb⟩
            refine hK.out _ _ ?s1_3 ?r1_3
            case s1_3 => (try dsimp only); exact ⟨grew_cell hb HS.1, grew_cell hb HS.2.1, grew_cell hb HS.2.2.1, grew_cell hb HS.2.2.2.1, grew_cell hb HS.2.2.2.2.1, grew_cell hb HS.2.2.2.2.2.1, HS.2.2.2.2.2.2.trans hb⟩
            case r1_3 =>
              clear HS
              intro HS
              clear hK K
              try simp only [Act.put, List.setIfInBounds_toArray, List.set_cons_zero, List.set_cons_succ]
              first
                | refine sk 4 rfl (by kernel_rfl) rfl HS ?_
                | (refine tk (v := ?v1_4) 4 rfl (by kernel_rfl) rfl ?y1_4 HS ?_; case y1_4 => (intro w' hSw; (try dsimp only at hSw); go_simp <;> (with_reducible rfl)))
              try simp only [Act.put, List.setIfInBounds_toArray, List.set_cons_zero, List.set_cons_succ]
              refine wpAnyH_done (by kernel_rfl) ?_ _
              refine NoPanic.normal ?_
              have sd1 : Grew (w8) wy0 := HS.2.2.2.2.2.2
              have gd1 := g8.trans sd1
              replace o_y0 := o_y0.grew sd1
              replace o_y1 := o_y1.grew sd1
              replace bxf0_0 := HS.1
              replace bxf0_1 := HS.2.1
              replace bxf0_2 := HS.2.2.1
              replace bxy0_0 := HS.2.2.2.1
              replace bxy0_1 := HS.2.2.2.2.1
              replace bxy0_2 := HS.2.2.2.2.2.1
              clear HS
              go_wp2_with fail
              refine (toDirS _ x1 _ (R1.out.grew gd1) (by omega) hms1.out).mono ?_
              rintro e w9 ⟨z1, rfl, o_z1, s9⟩
              have g9 : Grew w w9 := gd1.trans s9
              replace bxf0_0 := grew_cell s9 bxf0_0
              replace bxf0_1 := grew_cell s9 bxf0_1
              replace bxf0_2 := grew_cell s9 bxf0_2
              replace bxy0_0 := grew_cell s9 bxy0_0
              replace bxy0_1 := grew_cell s9 bxy0_1
              replace bxy0_2 := grew_cell s9 bxy0_2
              replace o_y0 := o_y0.grew s9
              replace o_y1 := o_y1.grew s9
              go_wp2_with fail
              refine (eqDirS _ _ x1 _ o_y1.rd o_z1.rd (by omega) hms1.out).mono ?_
              rintro e w10 ⟨rfl, s10⟩
              have g10 : Grew w w10 := g9.trans s10
              replace bxf0_0 := grew_cell s10 bxf0_0
              replace bxf0_1 := grew_cell s10 bxf0_1
              replace bxf0_2 := grew_cell s10 bxf0_2
              replace bxy0_0 := grew_cell s10 bxy0_0
              replace bxy0_1 := grew_cell s10 bxy0_1
              replace bxy0_2 := grew_cell s10 bxy0_2
              replace o_y0 := o_y0.grew s10
              replace o_y1 := o_y1.grew s10
              replace o_z1 := o_z1.grew s10
              go_wp2
              go_ret
              exact ⟨rfl, g10⟩
end Go.Proofs.YtejgpghcahinhaaGreat.fnExactCountListed
