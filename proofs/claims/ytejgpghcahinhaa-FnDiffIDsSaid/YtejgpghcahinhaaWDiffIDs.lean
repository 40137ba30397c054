/- The walk of laws.FnDiffIDs. -/
import Derived.Test.YtejgpghcahinhaaW0
import Derived.Test.YtejgpghcahinhaaZ10
import Derived.Test.YtejgpghcahinhaaA1
import Derived.Test.YtejgpghcahinhaaV2
import Derived.Test.YtejgpghcahinhaaN3
import Derived.Test.YtejgpghcahinhaaE1
import Derived.Test.YtejgpghcahinhaaC1
namespace Go.Proofs.Ytejgpghcahinhaa.fnDiffIDs
open Go.RowKit
set_option linter.unusedVariables false
theorem has_iff {xs : List Int} {x : Int} : has xs x = true ↔ x ∈ xs := by unfold has; simp
theorem mem_wo {xs ys : List Int} {x : Int} : x ∈ wo xs ys ↔ x ∈ xs ∧ x ∉ ys := by
  unfold wo
  rw [List.mem_filter]
  have := has_iff (xs := ys) (x := x)
  constructor
  · rintro ⟨h1, h2⟩; exact ⟨h1, fun h3 => by rw [this.2 h3] at h2; cases h2⟩
  · rintro ⟨h1, h2⟩
    refine ⟨h1, ?_⟩
    cases hc : has ys x with
    | false => rfl
    | true => exact absurd (this.1 hc) h2
theorem wo_apart {a b : List Int} {x : Int} (h : x ∈ wo b a) : has (wo a b) x = false := by
  cases hc : has (wo a b) x with
  | false => rfl
  | true => exact absurd (mem_wo.1 h).1 (mem_wo.1 (has_iff.1 hc)).2
theorem apd_diff {a b : List Int} (ha : a.Pairwise (· < ·)) (hb : b.Pairwise (· < ·)) (nm : ByteArray) : apd a ⟨nm, wo b a, wo a b⟩ = b := by
  have h := foldPut (wo a (wo a b) ++ wo b a) [] List.Pairwise.nil
  refine asc_ext _ _ h.1 hb (fun y => ?_)
  refine (h.2 y).trans ?_
  rw [List.mem_append, mem_wo, mem_wo, mem_wo]
  by_cases h1 : y ∈ a <;> by_cases h2 : y ∈ b <;> simp [h1, h2]
theorem wo_len0 {a b : List Int} (ha : a.Pairwise (· < ·)) (hb : b.Pairwise (· < ·)) (h : (wo b a).length + (wo a b).length = 0) : a = b := by
  refine asc_ext _ _ ha hb (fun y => ?_)
  have h1 : wo b a = [] := List.length_eq_zero_iff.1 (by omega)
  have h2 : wo a b = [] := List.length_eq_zero_iff.1 (by omega)
  constructor
  · intro hy; exact Classical.byContradiction fun hn => by have := mem_wo.2 ⟨hy, hn⟩; rw [h2] at this; cases this
  · intro hy; exact Classical.byContradiction fun hn => by have := mem_wo.2 ⟨hy, hn⟩; rw [h1] at this; cases this
theorem wo_self (a : List Int) : (wo a a).length = 0 := by
  rw [List.length_eq_zero_iff]
  refine List.eq_nil_iff_forall_not_mem.2 (fun y hy => ?_)
  exact (mem_wo.1 hy).2 (mem_wo.1 hy).1
set_option maxRecDepth 100000 in
set_option maxHeartbeats 4000000 in
theorem walkLaw (w : World) (v : Value) (n : Nat) (xs : List Int) (hr : Rd w v 1 n (xs.map (Value.int .u8))) (hn : n ≤ maxLen) (ho : ∀ a : Int, a ∈ xs → 0 ≤ a ∧ a ≤ 255) :
    Calls Try.prog 9 #[v] w fun e w' => e = .returned (.bool true) ∧ Grew w w' := by
  clear ho
  by_cases hbig : (1048576 : Int) < (n : Int)
  · have hd : decide ((1048576 : Int) < (n : Int)) = true := by simp [hbig]
    go_enter Try.func9, Try.ntmps9
    go_wp2_with fail
    refine (big v n _ _ hr hn).mono ?_
    rintro e w1 ⟨rfl, rfl⟩
    go_wp2
    go_ret
    exact ⟨rfl, Grew.refl _⟩
  have hd : decide ((1048576 : Int) < (n : Int)) = false := by simp [hbig]
  have hcd : Cd w v := ⟨n, xs, hr, by omega⟩
  have G0 := Grew.refl w
  go_enter Try.func9, Try.ntmps9
  go_wp2_with fail
  refine (big v n _ _ hr hn).mono ?_
  rintro e w1 ⟨rfl, rfl⟩
  go_wp2_with fail
  refine (drawDiffIDs v _ hcd).mono ?_
  rintro e w1 ⟨va, vb, rfl, ⟨a, ha8, o_a⟩, ⟨b, hb8, o_b⟩, g1⟩
  have G1 := G0.trans g1
  have R_a := Lib.hid (rd_of_own o_a)
  obtain ⟨a_a, c_a, rfl⟩ := own_slice o_a
  clear o_a
  have R_b := Lib.hid (rd_of_own o_b)
  obtain ⟨a_b, c_b, rfl⟩ := own_slice o_b
  clear o_b
  have hal := ha8.2.2
  have hbl := hb8.2.2
  have HAP := Lib.hid (apd_diff ha8.1 hb8.1 ⟨#[]⟩)
  have HEQ := Lib.hid (fun h => wo_len0 ha8.1 hb8.1 h)
  have L0 := wo_le a b
  have L1 := wo_le b a
  clear ha8 hb8
  go_wp2_with fail
  refine (implDiffIDs2 _ _ _ _ a b _ R_a.out R_b.out (by omega) (by omega)).mono ?_
  rintro e w2 ⟨vi, vo, rfl, dj, o_i, o_o, g2⟩
  have G2 := G1.trans g2
  clear dj
  have R_i := Lib.hid (rd_of_own o_i)
  obtain ⟨a_i, c_i, rfl⟩ := own_slice o_i
  clear o_i
  have R_o := Lib.hid (rd_of_own o_o)
  obtain ⟨a_o, c_o, rfl⟩ := own_slice o_o
  clear o_o
  go_wp2_with fail
  refine (specDiffIDs2 _ _ _ _ a b _ (R_a.out.grew g2) (R_b.out.grew g2) (by omega) (by omega)).mono ?_
  rintro e w3 ⟨vp, vq, rfl, dj, o_p, o_q, g3⟩
  have G3 := G2.trans g3
  clear dj
  have R_p := Lib.hid (rd_of_own o_p)
  obtain ⟨a_p, c_p, rfl⟩ := own_slice o_p
  clear o_p
  have R_q := Lib.hid (rd_of_own o_q)
  obtain ⟨a_q, c_q, rfl⟩ := own_slice o_q
  clear o_q
  go_wp2_with fail
  refine (drawApplyDiffToIDs v _ (hcd.grew ((g1.trans g2).trans g3))).mono ?_
  rintro e w4 ⟨idv, nm1, u0, t0, rfl, hn1, ⟨zs, hz8, rz⟩, ⟨xs1, hx1, rx⟩, ⟨ys1, hy1, ry⟩, g4⟩
  have G4 := G3.trans g4
  have R_z := Lib.hid rz
  obtain ⟨a_z, c_z, rfl, _, _⟩ := rz
  have R_u := Lib.hid rx
  obtain ⟨a_u, c_u, rfl, _, _⟩ := rx
  have R_v := Lib.hid ry
  obtain ⟨a_v, c_v, rfl, _, _⟩ := ry
  have g5 := (Grew.refl w4).alloc (.cells #[.string nm1, .slice a_u xs1.length c_u, .slice a_v ys1.length c_v] 80)
  have b10 : (w4.alloc (.cells #[.string nm1, .slice a_u xs1.length c_u, .slice a_v ys1.length c_v] 80)).cell? ⟨w4.heap.size, 0, none⟩ = some (.string nm1) := by simp
  have b11 : (w4.alloc (.cells #[.string nm1, .slice a_u xs1.length c_u, .slice a_v ys1.length c_v] 80)).cell? ⟨w4.heap.size, 1, none⟩ = some (.slice a_u xs1.length c_u) := by simp
  have b12 : (w4.alloc (.cells #[.string nm1, .slice a_u xs1.length c_u, .slice a_v ys1.length c_v] 80)).cell? ⟨w4.heap.size, 2, none⟩ = some (.slice a_v ys1.length c_v) := by simp
  go_wp2_with fail
  generalize w4.alloc (.cells #[.string nm1, .slice a_u xs1.length c_u, .slice a_v ys1.length c_v] 80) = w5 at g5 b10 b11 b12 ⊢
  have G5 := G4.trans g5
  have hzl := hz8.2.2
  refine (drawIsValidDiff v _ (hcd.grew ((((g1.trans g2).trans g3).trans g4).trans g5))).mono ?_
  rintro e w6 ⟨nm2, u0, t0, rfl, hn2, ⟨xs2, hx2, rx⟩, ⟨ys2, hy2, ry⟩, g6⟩
  have G6 := G5.trans g6
  have R_x := Lib.hid rx
  obtain ⟨a_x, c_x, rfl, _, _⟩ := rx
  have R_y := Lib.hid ry
  obtain ⟨a_y, c_y, rfl, _, _⟩ := ry
  have g7 := (Grew.refl w6).alloc (.cells #[.string nm2, .slice a_x xs2.length c_x, .slice a_y ys2.length c_y] 80)
  have b20 : (w6.alloc (.cells #[.string nm2, .slice a_x xs2.length c_x, .slice a_y ys2.length c_y] 80)).cell? ⟨w6.heap.size, 0, none⟩ = some (.string nm2) := by simp
  have b21 : (w6.alloc (.cells #[.string nm2, .slice a_x xs2.length c_x, .slice a_y ys2.length c_y] 80)).cell? ⟨w6.heap.size, 1, none⟩ = some (.slice a_x xs2.length c_x) := by simp
  have b22 : (w6.alloc (.cells #[.string nm2, .slice a_x xs2.length c_x, .slice a_y ys2.length c_y] 80)).cell? ⟨w6.heap.size, 2, none⟩ = some (.slice a_y ys2.length c_y) := by simp
  go_wp2_with fail
  generalize w6.alloc (.cells #[.string nm2, .slice a_x xs2.length c_x, .slice a_y ys2.length c_y] 80) = w7 at g7 b20 b21 b22 ⊢
  have G7 := G6.trans g7
  replace b10 := grew_cell (g6.trans g7) b10
  replace b11 := grew_cell (g6.trans g7) b11
  replace b12 := grew_cell (g6.trans g7) b12
  have hal0 := Grew.refl w7
  have SI := sameB_yes (rfl : wo b a = wo b a)
  have SO := sameB_yes (rfl : wo a b = wo a b)
  have SP := sameB_yes (rfl : apd zs ⟨nm1, xs1, ys1⟩ = apd zs ⟨nm1, xs1, ys1⟩)
  have LP : (apd zs ⟨nm1, xs1, ys1⟩).length ≤ 4000000 := by unfold apd; refine Nat.le_trans (putAll_len _) ?_; have := wo_le zs ys1; simp; omega
  obtain ⟨dv, hdv⟩ : ∃ c, difB ⟨nm2, xs2, ys2⟩ = c := ⟨_, rfl⟩
  refine wp_region_noPanic ?_
  refine wp_region_held_drew (S := (fun w' => (w'.cell? ⟨w4.heap.size, 0, none⟩ = some (.string nm1) ∧ w'.cell? ⟨w4.heap.size, 1, none⟩ = some (.slice a_u xs1.length c_u) ∧ w'.cell? ⟨w4.heap.size, 2, none⟩ = some (.slice a_v ys1.length c_v) ∧ w'.cell? ⟨w6.heap.size, 0, none⟩ = some (.string nm2) ∧ w'.cell? ⟨w6.heap.size, 1, none⟩ = some (.slice a_x xs2.length c_x) ∧ w'.cell? ⟨w6.heap.size, 2, none⟩ = some (.slice a_y ys2.length c_y) ∧ Grew w7 w'))) (by kernel_rfl) ?h1_S ?h1_r
  case h1_S => exact ⟨b10, b11, b12, b20, b21, b22, hal0.drew⟩
  case h1_r =>
   intro HS
   first
    | refine sk 0 rfl (by kernel_rfl) rfl HS ?_
    | (refine tk (v := ?v1_1_) 0 rfl (by kernel_rfl) rfl ?y1_1_ HS ?_; case y1_1_ => (intro w' hSw; (try dsimp only at hSw); go_simp <;> (with_reducible rfl)))
   try simp only [Act.put, lpa, lpb, lpc]
   first
    | refine sk 1 rfl (by kernel_rfl) rfl HS ?_
    | (refine tk (v := ?v1_2_) 1 rfl (by kernel_rfl) rfl ?y1_2_ HS ?_; case y1_2_ => (intro w' hSw; (try dsimp only at hSw); go_simp <;> (with_reducible rfl)))
   try simp only [Act.put, lpa, lpb, lpc]
   refine cl 2 rfl (by kernel_rfl) (fun K hK => ?_)
   rw [if_pos (by rfl)]
   go_simp
   go_at_call 20
   refine (sameInts _ _ _ _ (wo b a) (wo b a) _ (R_i.out.grew (((((g3.trans g4).trans g5).trans g6).trans g7).trans (HS.2.2.2.2.2.2))) (R_p.out.grew ((((g4.trans g5).trans g6).trans g7).trans (HS.2.2.2.2.2.2))) (by omega) (by omega)).mono ?_
   rintro e wx2 ⟨he, hb⟩
   rw [SI] at he
   subst he
   refine hK.out _ _ ?s1_3_ ?r1_3_
   case s1_3_ => exact ⟨grew_cell hb (HS.1), grew_cell hb (HS.2.1), grew_cell hb (HS.2.2.1), grew_cell hb (HS.2.2.2.1), grew_cell hb (HS.2.2.2.2.1), grew_cell hb (HS.2.2.2.2.2.1), (HS.2.2.2.2.2.2).trans hb⟩
   case r1_3_ =>
    clear HS
    intro HS
    clear hK K
    try simp only [Act.put, lpa, lpb, lpc]
    first
     | refine sk 3 rfl (by kernel_rfl) rfl HS ?_
     | (refine tk (v := ?v1_4_) 3 rfl (by kernel_rfl) rfl ?y1_4_ HS ?_; case y1_4_ => (intro w' hSw; (try dsimp only at hSw); go_simp <;> (with_reducible rfl)))
    try simp only [Act.put, lpa, lpb, lpc]
    first
     | refine sk 4 rfl (by kernel_rfl) rfl HS ?_
     | (refine tk (v := ?v1_5_) 4 rfl (by kernel_rfl) rfl ?y1_5_ HS ?_; case y1_5_ => (intro w' hSw; (try dsimp only at hSw); go_simp <;> (with_reducible rfl)))
    try simp only [Act.put, lpa, lpb, lpc]
    first
     | refine sk 5 rfl (by kernel_rfl) rfl HS ?_
     | (refine tk (v := ?v1_6_) 5 rfl (by kernel_rfl) rfl ?y1_6_ HS ?_; case y1_6_ => (intro w' hSw; (try dsimp only at hSw); go_simp <;> (with_reducible rfl)))
    try simp only [Act.put, lpa, lpb, lpc]
    first
     | refine sk 6 rfl (by kernel_rfl) rfl HS ?_
     | (refine tk (v := ?v1_7_) 6 rfl (by kernel_rfl) rfl ?y1_7_ HS ?_; case y1_7_ => (intro w' hSw; (try dsimp only at hSw); go_simp <;> (with_reducible rfl)))
    try simp only [Act.put, lpa, lpb, lpc]
    refine cl 7 rfl (by kernel_rfl) (fun K hK => ?_)
    rw [if_pos (by rfl)]
    go_simp
    go_at_call 20
    refine (sameInts _ _ _ _ (wo a b) (wo a b) _ (R_o.out.grew (((((g3.trans g4).trans g5).trans g6).trans g7).trans (HS.2.2.2.2.2.2))) (R_q.out.grew ((((g4.trans g5).trans g6).trans g7).trans (HS.2.2.2.2.2.2))) (by omega) (by omega)).mono ?_
    rintro e wx7 ⟨he, hb⟩
    rw [SO] at he
    subst he
    refine hK.out _ _ ?s1_8_ ?r1_8_
    case s1_8_ => exact ⟨grew_cell hb (HS.1), grew_cell hb (HS.2.1), grew_cell hb (HS.2.2.1), grew_cell hb (HS.2.2.2.1), grew_cell hb (HS.2.2.2.2.1), grew_cell hb (HS.2.2.2.2.2.1), (HS.2.2.2.2.2.2).trans hb⟩
    case r1_8_ =>
     clear HS
     intro HS
     clear hK K
     try simp only [Act.put, lpa, lpb, lpc]
     first
      | refine sk 8 rfl (by kernel_rfl) rfl HS ?_
      | (refine tk (v := ?v1_9_) 8 rfl (by kernel_rfl) rfl ?y1_9_ HS ?_; case y1_9_ => (intro w' hSw; (try dsimp only at hSw); go_simp <;> (with_reducible rfl)))
     try simp only [Act.put, lpa, lpb, lpc]
     first
      | refine sk 9 rfl (by kernel_rfl) rfl HS ?_
      | (refine tk (v := ?v1_10_) 9 rfl (by kernel_rfl) rfl ?y1_10_ HS ?_; case y1_10_ => (intro w' hSw; (try dsimp only at hSw); go_simp <;> (with_reducible rfl)))
     try simp only [Act.put, lpa, lpb, lpc]
     first
      | refine sk 10 rfl (by kernel_rfl) rfl HS ?_
      | (refine tk (v := ?v1_11_) 10 rfl (by kernel_rfl) rfl ?y1_11_ HS ?_; case y1_11_ => (intro w' hSw; (try dsimp only at hSw); go_simp <;> (with_reducible rfl)))
     try simp only [Act.put, lpa, lpb, lpc]
     first
      | refine sk 11 rfl (by kernel_rfl) rfl HS ?_
      | (refine tk (v := ?v1_12_) 11 rfl (by kernel_rfl) rfl ?y1_12_ HS ?_; case y1_12_ => (intro w' hSw; (try dsimp only at hSw); go_simp <;> (with_reducible rfl)))
     try simp only [Act.put, lpa, lpb, lpc]
     first
      | refine sk 12 rfl (by kernel_rfl) rfl HS ?_
      | (refine tk (v := ?v1_13_) 12 rfl (by kernel_rfl) rfl ?y1_13_ HS ?_; case y1_13_ => (intro w' hSw; (try dsimp only at hSw); go_simp <;> (with_reducible rfl)))
     try simp only [Act.put, lpa, lpb, lpc]
     first
      | refine sk 14 rfl (by kernel_rfl) rfl HS ?_
      | (refine tk (v := ?v1_14_) 14 rfl (by kernel_rfl) rfl ?y1_14_ HS ?_; case y1_14_ => (intro w' hSw; (try dsimp only at hSw); go_simp <;> (with_reducible rfl)))
     try simp only [Act.put, lpa, lpb, lpc]
     first
      | refine sk 15 rfl (by kernel_rfl) rfl HS ?_
      | (refine tk (v := ?v1_15_) 15 rfl (by kernel_rfl) rfl ?y1_15_ HS ?_; case y1_15_ => (intro w' hSw; (try dsimp only at hSw); go_simp <;> (with_reducible rfl)))
     try simp only [Act.put, lpa, lpb, lpc]
     refine cl 13 rfl (by kernel_rfl) (fun K hK => ?_)
     rw [if_pos (by rfl)]
     go_simp
     go_at_call 58
     refine (implApplyDiffToIDs _ zs.length zs ⟨nm1, xs1, ys1⟩ ⟨nm1, .slice a_u xs1.length c_u, .slice a_v ys1.length c_v⟩ _ (R_z.out.grew (((g5.trans g6).trans g7).trans (HS.2.2.2.2.2.2))) ⟨rfl, (R_u.out.grew (((g5.trans g6).trans g7).trans (HS.2.2.2.2.2.2))), (R_v.out.grew (((g5.trans g6).trans g7).trans (HS.2.2.2.2.2.2)))⟩ (by omega) ⟨by dsimp only; omega, by dsimp only; omega⟩).mono ?_
     rintro e wx13 ⟨vm1, rfl, om1, hb⟩
     have Rm1 := Lib.hid (rd_of_own om1)
     obtain ⟨am1, cm1, rfl⟩ := own_slice om1
     clear om1
     refine hK.out _ _ ?s1_16_ ?r1_16_
     case s1_16_ => exact ⟨grew_cell hb (HS.1), grew_cell hb (HS.2.1), grew_cell hb (HS.2.2.1), grew_cell hb (HS.2.2.2.1), grew_cell hb (HS.2.2.2.2.1), grew_cell hb (HS.2.2.2.2.2.1), (HS.2.2.2.2.2.2).trans hb⟩
     case r1_16_ =>
      clear HS
      intro HS
      clear hK K
      try simp only [Act.put, lpa, lpb, lpc]
      refine cl 16 rfl (by kernel_rfl) (fun K hK => ?_)
      rw [if_pos (by rfl)]
      go_simp
      go_at_call 59
      refine (specApplyDiffToIDs _ zs.length zs ⟨nm1, xs1, ys1⟩ ⟨nm1, .slice a_u xs1.length c_u, .slice a_v ys1.length c_v⟩ _ (R_z.out.grew (((g5.trans g6).trans g7).trans (HS.2.2.2.2.2.2))) ⟨rfl, (R_u.out.grew (((g5.trans g6).trans g7).trans (HS.2.2.2.2.2.2))), (R_v.out.grew (((g5.trans g6).trans g7).trans (HS.2.2.2.2.2.2)))⟩ (by omega) ⟨by dsimp only; omega, by dsimp only; omega⟩).mono ?_
      rintro e wx16 ⟨vm2, rfl, om2, hb⟩
      have Rm2 := Lib.hid (rd_of_own om2)
      obtain ⟨am2, cm2, rfl⟩ := own_slice om2
      clear om2
      have hx16 := hb
      refine hK.out _ _ ?s1_17_ ?r1_17_
      case s1_17_ => exact ⟨grew_cell hb (HS.1), grew_cell hb (HS.2.1), grew_cell hb (HS.2.2.1), grew_cell hb (HS.2.2.2.1), grew_cell hb (HS.2.2.2.2.1), grew_cell hb (HS.2.2.2.2.2.1), (HS.2.2.2.2.2.2).trans hb⟩
      case r1_17_ =>
       clear HS
       intro HS
       clear hK K
       try simp only [Act.put, lpa, lpb, lpc]
       refine cl 17 rfl (by kernel_rfl) (fun K hK => ?_)
       rw [if_pos (by rfl)]
       go_simp
       go_at_call 20
       refine (sameInts _ _ _ _ (apd zs ⟨nm1, xs1, ys1⟩) (apd zs ⟨nm1, xs1, ys1⟩) _ (Rm1.out.grew hx16) Rm2.out LP LP).mono ?_
       rintro e wx17 ⟨he, hb⟩
       rw [SP] at he
       subst he
       refine hK.out _ _ ?s1_18_ ?r1_18_
       case s1_18_ => exact ⟨grew_cell hb (HS.1), grew_cell hb (HS.2.1), grew_cell hb (HS.2.2.1), grew_cell hb (HS.2.2.2.1), grew_cell hb (HS.2.2.2.2.1), grew_cell hb (HS.2.2.2.2.2.1), (HS.2.2.2.2.2.2).trans hb⟩
       case r1_18_ =>
        clear HS
        intro HS
        clear hK K
        try simp only [Act.put, lpa, lpb, lpc]
        first
         | refine sk 18 rfl (by kernel_rfl) rfl HS ?_
         | (refine tk (v := ?v1_19_) 18 rfl (by kernel_rfl) rfl ?y1_19_ HS ?_; case y1_19_ => (intro w' hSw; (try dsimp only at hSw); go_simp <;> (with_reducible rfl)))
        try simp only [Act.put, lpa, lpb, lpc]
        first
         | refine sk 19 rfl (by kernel_rfl) rfl HS ?_
         | (refine tk (v := ?v1_20_) 19 rfl (by kernel_rfl) rfl ?y1_20_ HS ?_; case y1_20_ => (intro w' hSw; (try dsimp only at hSw); go_simp <;> (with_reducible rfl)))
        try simp only [Act.put, lpa, lpb, lpc]
        first
         | refine sk 20 rfl (by kernel_rfl) rfl HS ?_
         | (refine tk (v := ?v1_21_) 20 rfl (by kernel_rfl) rfl ?y1_21_ HS ?_; case y1_21_ => (intro w' hSw; (try dsimp only at hSw); go_simp <;> (with_reducible rfl)))
        try simp only [Act.put, lpa, lpb, lpc]
        first
         | refine sk 21 rfl (by kernel_rfl) rfl HS ?_
         | (refine tk (v := ?v1_22_) 21 rfl (by kernel_rfl) rfl ?y1_22_ HS ?_; case y1_22_ => (intro w' hSw; (try dsimp only at hSw); go_simp <;> (with_reducible rfl)))
        try simp only [Act.put, lpa, lpb, lpc]
        first
         | refine sk 23 rfl (by kernel_rfl) rfl HS ?_
         | (refine tk (v := ?v1_23_) 23 rfl (by kernel_rfl) rfl ?y1_23_ HS ?_; case y1_23_ => (intro w' hSw; (try dsimp only at hSw); go_simp <;> (with_reducible rfl)))
        try simp only [Act.put, lpa, lpb, lpc]
        refine cl 22 rfl (by kernel_rfl) (fun K hK => ?_)
        rw [if_pos (by rfl)]
        go_simp
        go_at_call 60
        refine (implIsValidDiff ⟨nm2, xs2, ys2⟩ ⟨nm2, .slice a_x xs2.length c_x, .slice a_y ys2.length c_y⟩ _ ⟨rfl, (R_x.out.grew (g7.trans (HS.2.2.2.2.2.2))), (R_y.out.grew (g7.trans (HS.2.2.2.2.2.2)))⟩ ⟨by dsimp only; omega, by dsimp only; omega⟩ (by dsimp only; omega)).mono ?_
        rintro e wx22 ⟨he, hb⟩
        rw [hdv] at he
        subst he
        refine hK.out _ _ ?s1_24_ ?r1_24_
        case s1_24_ => exact ⟨grew_cell hb (HS.1), grew_cell hb (HS.2.1), grew_cell hb (HS.2.2.1), grew_cell hb (HS.2.2.2.1), grew_cell hb (HS.2.2.2.2.1), grew_cell hb (HS.2.2.2.2.2.1), (HS.2.2.2.2.2.2).trans hb⟩
        case r1_24_ =>
         clear HS
         intro HS
         clear hK K
         try simp only [Act.put, lpa, lpb, lpc]
         refine cl 24 rfl (by kernel_rfl) (fun K hK => ?_)
         rw [if_pos (by rfl)]
         go_simp
         go_at_call 61
         refine (specIsValidDiff ⟨nm2, xs2, ys2⟩ ⟨nm2, .slice a_x xs2.length c_x, .slice a_y ys2.length c_y⟩ _ ⟨rfl, (R_x.out.grew (g7.trans (HS.2.2.2.2.2.2))), (R_y.out.grew (g7.trans (HS.2.2.2.2.2.2)))⟩ ⟨by dsimp only; omega, by dsimp only; omega⟩ (by dsimp only; omega)).mono ?_
         rintro e wx24 ⟨he, hb⟩
         rw [hdv] at he
         subst he
         refine hK.out _ _ ?s1_25_ ?r1_25_
         case s1_25_ => exact ⟨grew_cell hb (HS.1), grew_cell hb (HS.2.1), grew_cell hb (HS.2.2.1), grew_cell hb (HS.2.2.2.1), grew_cell hb (HS.2.2.2.2.1), grew_cell hb (HS.2.2.2.2.2.1), (HS.2.2.2.2.2.2).trans hb⟩
         case r1_25_ =>
          clear HS
          intro HS
          clear hK K
          try simp only [Act.put, lpa, lpb, lpc]
          first
           | refine sk 25 rfl (by kernel_rfl) rfl HS ?_
           | (refine tk (v := ?v1_26_) 25 rfl (by kernel_rfl) rfl ?y1_26_ HS ?_; case y1_26_ => (intro w' hSw; (try dsimp only at hSw); go_simp <;> (with_reducible rfl)))
          try simp only [Act.put, lpa, lpb, lpc]
          first
           | refine sk 26 rfl (by kernel_rfl) rfl HS ?_
           | (refine tk (v := ?v1_27_) 26 rfl (by kernel_rfl) rfl ?y1_27_ HS ?_; case y1_27_ => (intro w' hSw; (try dsimp only at hSw); go_simp <;> (with_reducible rfl)))
          try simp only [Act.put, lpa, lpb, lpc]
          refine wpAnyH_done (by kernel_rfl) ?_ _
          refine NoPanic.normal ?_
          have GR := HS.2.2.2.2.2.2
          clear HS
          have GW := G7.trans GR
          have Qa := Lib.hid (R_a.out.grew ((((((g2.trans g3).trans g4).trans g5).trans g6).trans g7).trans GR))
          have Qb := Lib.hid (R_b.out.grew ((((((g2.trans g3).trans g4).trans g5).trans g6).trans g7).trans GR))
          have Qi := Lib.hid (R_i.out.grew (((((g3.trans g4).trans g5).trans g6).trans g7).trans GR))
          have Qo := Lib.hid (R_o.out.grew (((((g3.trans g4).trans g5).trans g6).trans g7).trans GR))
          clear R_a R_b R_i R_o R_p R_q R_z R_u R_v R_x R_y Rm1 Rm2
          obtain ⟨_, _, h1, _, hri⟩ := Qi.out
          cases h1
          have HW := Lib.hid (fun x (hx : x ∈ wo b a) => wo_apart hx)
          obtain ⟨ni, hni⟩ : ∃ n, (wo b a).length = n := ⟨_, rfl⟩
          have HNI := Lib.hid hni
          rw [hni] at hri L1
          have hW0 := Grew.refl wx24
          go_wp2
          try rw [hni]
          clear hni
          go_loopw [12] (fun i wr => ∃ k : Nat, k ≤ ni ∧ i = .int .i64 k ∧ Grew wx24 wr) (fun i _ => ni - (intOf i).toNat)
          case atStart => exact ⟨0, Nat.zero_le _, rfl, hW0⟩
          case round =>
            obtain ⟨k, hk, rfl, hbel⟩ := hrel
            by_cases hlt : k < ni
            · obtain ⟨b0, o0, x, rfl, hxk, e0⟩ := hri.one hlt
              have f0 := grew_cell hbel e0
              have hk0 : (0 : Int) ≤ k := by omega
              have hkm : (k : Int) < ni := by omega
              have HX := HW.out x (List.mem_of_getElem? hxk.out)
              go_wp2_with fail
              refine (specContainsID _ _ (wo a b) x _ (Qo.out.grew hbel) (by omega)).mono ?_
              rintro e wa ⟨he, rfl⟩
              rw [HX] at he
              subst he
              clear HX
              go_wp2
              go_roundw
              case rel => exact ⟨k + 1, by omega, by go_num, hbel⟩
              case measure => simp [intOf]; omega
            · obtain rfl : k = ni := by omega
              have QI := Lib.hid (show Rd wr (.slice a_i k c_i) 1 (wo b a).length (ints (wo b a)) by have h := Qi.out.grew hbel; rw [HNI.out] at h ⊢; exact h)
              have GZ := GW.trans hbel
              have hkb := HNI.out
              have hL : (wo b a).length ≤ 4000000 := by omega
              clear hkb
              have SB := sameB_yes (rfl : b = b)
              go_wp2_with fail
              refine (implApplyDiffToIDs _ a.length a ⟨⟨#[]⟩, wo b a, wo a b⟩ ⟨⟨#[]⟩, .slice a_i k c_i, .slice a_o (wo a b).length c_o⟩ _ (Qa.out.grew hbel) ⟨rfl, QI.out, Qo.out.grew hbel⟩ (by omega) ⟨hL, by dsimp only; omega⟩).mono ?_
              rintro e wa ⟨vr, rfl, or_, ga⟩
              rw [HAP.out] at or_
              have RR := Lib.hid (rd_of_own or_)
              obtain ⟨ar, cr, rfl⟩ := own_slice or_
              clear or_
              go_wp2_with fail
              refine (sameInts _ _ _ _ b b _ RR.out (Qb.out.grew (hbel.trans ga)) (by omega) (by omega)).mono ?_
              rintro e wb ⟨he, gb⟩
              rw [SB] at he
              subst he
              have hcs : a = b ∨ a ≠ b := Classical.em _
              have hcs2 : (sameB a b = true ∧ k = 0 ∧ (wo a b).length = 0) ∨ (sameB a b = false ∧ ¬ ((k : Int) + ((wo a b).length : Int) = 0)) := by
                rcases hcs with h | h
                · refine .inl ⟨sameB_yes h, ?_, ?_⟩
                  · rw [← HNI.out, h]; exact wo_self b
                  · rw [h]; exact wo_self b
                · refine .inr ⟨sameB_no h, fun h2 => h (HEQ.out ?_)⟩
                  rw [HNI.out]; omega
              clear hcs
              obtain ⟨mo, hmo⟩ : ∃ n, (wo a b).length = n := ⟨_, rfl⟩
              rw [hmo] at hcs2 L0 ⊢
              clear hmo
              rcases hcs2 with ⟨hs, h1, h2⟩ | ⟨hs, h1⟩
              ·
                have HSB := Lib.hid hs
                clear hs
                subst h1
                subst h2
                go_wp2_with fail
                refine (sameInts _ _ _ _ a b _ (Qa.out.grew ((hbel.trans ga).trans gb)) (Qb.out.grew ((hbel.trans ga).trans gb)) (by omega) (by omega)).mono ?_
                rintro e wc ⟨he, gc⟩
                rw [HSB.out] at he
                subst he
                go_wp2
                go_ret
                exact ⟨rfl, ((GZ.trans ga).trans gb).trans gc⟩
              ·
                have HSB := Lib.hid hs
                clear hs
                go_wp2_with fail
                refine (sameInts _ _ _ _ a b _ (Qa.out.grew ((hbel.trans ga).trans gb)) (Qb.out.grew ((hbel.trans ga).trans gb)) (by omega) (by omega)).mono ?_
                rintro e wc ⟨he, gc⟩
                rw [HSB.out] at he
                subst he
                go_wp2
                go_ret
                exact ⟨ret_bool (by simp; omega), ((GZ.trans ga).trans gb).trans gc⟩
end Go.Proofs.Ytejgpghcahinhaa.fnDiffIDs
