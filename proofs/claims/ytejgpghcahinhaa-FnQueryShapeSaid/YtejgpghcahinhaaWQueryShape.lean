/- The walk of laws.FnQueryShape. -/
import Derived.Test.YtejgpghcahinhaaW0
import Derived.Test.YtejgpghcahinhaaZ6
import Derived.Test.YtejgpghcahinhaaY5
import Derived.Test.YtejgpghcahinhaaC5
import Derived.Test.YtejgpghcahinhaaC3
import Derived.Test.YtejgpghcahinhaaC4
import Derived.Test.YtejgpghcahinhaaQ3
import Derived.Test.YtejgpghcahinhaaQ4
import Derived.Test.YtejgpghcahinhaaE1
namespace Go.Proofs.Ytejgpghcahinhaa.fnQueryShape
open Go.RowKit
set_option linter.unusedVariables false
theorem q_sz {n : Nat} : ∀ {xs : List N}, qOk n xs → szAll N.sz xs ≤ xs.length * 16
  | [], _ => by simp [szAll]
  | x :: xs, h => by
    have h1 := q_sz (n := n) (xs := xs) ⟨by have := h.1; simp at this; omega, fun y hy => h.2 y (List.mem_cons_of_mem _ hy)⟩
    have h2 := h.2 x (List.mem_cons_self ..)
    unfold N.okD at h2
    have h3 : N.sz x ≤ 16 := by unfold N.sz V.sz; omega
    simp only [szAll, List.map_cons, List.sum_cons, List.length_cons] at h1 ⊢
    omega
theorem hasB_snoc {xs : List ByteArray} {s y : ByteArray} {k : Nat} (hy : xs[k]? = some y) : hasB (xs.take (k + 1)) s = (hasB (xs.take k) s || (y.toList == s.toList)) := by
  rw [take_snoc hy]; unfold hasB; rw [List.any_append]; simp
theorem qry_all : qryB [⟨1, 0, 0, ⟨#[]⟩, ⟨0, 0, ⟨#[]⟩⟩⟩] = true := by
  rw [qryB_yes]
  · rfl
  · intro i x hi hx
    have h0 : i = 0 := by simpa using hi
    subst h0
    simp at hx
    subst hx
    simp [qryAt, nodB, eqN, eqV, V.z]
theorem qry_nil : qryB [] = false := by
  unfold qryB
  rw [show inB (([] : List N).length : Int) 1 9 = false from rfl, Bool.and_false]
set_option maxRecDepth 100000 in
set_option maxHeartbeats 4000000 in
theorem walkLaw (w : World) (v : Value) (n : Nat) (xs : List Int) (hr : Rd w v 1 n (xs.map (Value.int .u8))) (hn : n ≤ maxLen) (ho : ∀ a : Int, a ∈ xs → 0 ≤ a ∧ a ≤ 255) :
    Calls Try.prog 15 #[v] w fun e w' => e = .returned (.bool true) ∧ Grew w w' := by
  clear ho
  by_cases hbig : (1048576 : Int) < (n : Int)
  · have hd : decide ((1048576 : Int) < (n : Int)) = true := by simp [hbig]
    go_enter Try.func15, Try.ntmps15
    go_wp2_with fail
    refine (big v n _ _ hr hn).mono ?_
    rintro e w1 ⟨rfl, rfl⟩
    go_wp2
    go_ret
    exact ⟨rfl, Grew.refl _⟩
  have hd : decide ((1048576 : Int) < (n : Int)) = false := by simp [hbig]
  have hcd : Cd w v := ⟨n, xs, hr, by omega⟩
  have G0 := Grew.refl w
  go_enter Try.func15, Try.ntmps15
  go_wp2_with fail
  refine (big v n _ _ hr hn).mono ?_
  rintro e w1 ⟨rfl, rfl⟩
  go_wp2_with fail
  refine (drawIsValidQuery v _ hcd).mono ?_
  rintro e w1 ⟨q0, rfl, q, o_q, hq, g1⟩
  have G1 := G0.trans g1
  have R_q := Lib.hid (rd_of_own o_q)
  obtain ⟨a_q, c_q, rfl⟩ := own_slice o_q
  clear o_q
  have hz := q_sz hq
  have hlen := hq.1
  have hz4 : szAll N.sz q ≤ 4000000 := by omega
  have hl4 : q.length ≤ 4000000 := by omega
  clear hz hq
  go_wp2_with fail
  refine (drawIsValidNode v _ (hcd.grew g1)).mono ?_
  rintro e w2 ⟨y, ya, rfl, hy, g2⟩
  have G2 := G1.trans g2
  have g3 := (Grew.refl w2).alloc (.cells #[.int .i64 y.op, .int .i64 y.left, .int .i64 y.right, .string y.name, .int .i64 y.val.kind, .int .i64 y.val.int, .string y.val.str] 60)
  have b0 : (w2.alloc (.cells #[.int .i64 y.op, .int .i64 y.left, .int .i64 y.right, .string y.name, .int .i64 y.val.kind, .int .i64 y.val.int, .string y.val.str] 60)).cell? ⟨w2.heap.size, 0, none⟩ = some (.int .i64 y.op) := by simp
  have b1 : (w2.alloc (.cells #[.int .i64 y.op, .int .i64 y.left, .int .i64 y.right, .string y.name, .int .i64 y.val.kind, .int .i64 y.val.int, .string y.val.str] 60)).cell? ⟨w2.heap.size, 1, none⟩ = some (.int .i64 y.left) := by simp
  have b2 : (w2.alloc (.cells #[.int .i64 y.op, .int .i64 y.left, .int .i64 y.right, .string y.name, .int .i64 y.val.kind, .int .i64 y.val.int, .string y.val.str] 60)).cell? ⟨w2.heap.size, 2, none⟩ = some (.int .i64 y.right) := by simp
  have b3 : (w2.alloc (.cells #[.int .i64 y.op, .int .i64 y.left, .int .i64 y.right, .string y.name, .int .i64 y.val.kind, .int .i64 y.val.int, .string y.val.str] 60)).cell? ⟨w2.heap.size, 3, none⟩ = some (.string y.name) := by simp
  have b4 : (w2.alloc (.cells #[.int .i64 y.op, .int .i64 y.left, .int .i64 y.right, .string y.name, .int .i64 y.val.kind, .int .i64 y.val.int, .string y.val.str] 60)).cell? ⟨w2.heap.size, 4, none⟩ = some (.int .i64 y.val.kind) := by simp
  have b5 : (w2.alloc (.cells #[.int .i64 y.op, .int .i64 y.left, .int .i64 y.right, .string y.name, .int .i64 y.val.kind, .int .i64 y.val.int, .string y.val.str] 60)).cell? ⟨w2.heap.size, 5, none⟩ = some (.int .i64 y.val.int) := by simp
  have b6 : (w2.alloc (.cells #[.int .i64 y.op, .int .i64 y.left, .int .i64 y.right, .string y.name, .int .i64 y.val.kind, .int .i64 y.val.int, .string y.val.str] 60)).cell? ⟨w2.heap.size, 6, none⟩ = some (.string y.val.str) := by simp
  go_wp2_with fail
  generalize w2.alloc (.cells #[.int .i64 y.op, .int .i64 y.left, .int .i64 y.right, .string y.name, .int .i64 y.val.kind, .int .i64 y.val.int, .string y.val.str] 60) = w3 at g3 b0 b1 b2 b3 b4 b5 b6 ⊢
  have G3 := G2.trans g3
  refine (drawCountReferences v _ (hcd.grew ((g1.trans g2).trans g3))).mono ?_
  rintro e w4 ⟨r0, rk, rfl, r, o_r, hr8, g4⟩
  have G4 := G3.trans g4
  have R_r := Lib.hid (rd_of_own o_r)
  obtain ⟨a_r, c_r, rfl⟩ := own_slice o_r
  clear o_r
  have hrl := hr8.1
  clear hr8
  go_wp2_with fail
  refine (drawEqualQueries v _ (hcd.grew (((g1.trans g2).trans g3).trans g4))).mono ?_
  rintro e w5 ⟨u1, u2, rfl, ⟨ea, ra, ha8⟩, ⟨eb, rb, hb8⟩, g5⟩
  have G5 := G4.trans g5
  have R_a := Lib.hid ra
  obtain ⟨a_a, c_a, rfl, _, _⟩ := ra
  have hal := ha8.1
  clear ha8
  have R_b := Lib.hid rb
  obtain ⟨a_b, c_b, rfl, _, _⟩ := rb
  have hbl := hb8.1
  clear hb8
  replace b0 := grew_cell (g4.trans g5) b0
  replace b1 := grew_cell (g4.trans g5) b1
  replace b2 := grew_cell (g4.trans g5) b2
  replace b3 := grew_cell (g4.trans g5) b3
  replace b4 := grew_cell (g4.trans g5) b4
  replace b5 := grew_cell (g4.trans g5) b5
  replace b6 := grew_cell (g4.trans g5) b6
  have hal := Grew.refl w5
  have hn1 := hy.1
  have hn2 := hy.2
  clear hy
  obtain ⟨ok, hok⟩ : ∃ b, qryB q = b := ⟨_, rfl⟩
  have HOK := Lib.hid hok
  clear hok
  have LA := qAttrs_le q
  have LD := qDirs_le q
  have SA := sameB_yes (rfl : qAttrs q = qAttrs q)
  have SD := sameB_yes (rfl : qDirs q = qDirs q)
  go_wp2_with fail
  obtain ⟨nb, hnod⟩ : ∃ b, nodB y ya (wrap64 (ya - 1)) = b := ⟨_, rfl⟩
  obtain ⟨eq, heqq⟩ : ∃ b, eqL eqN ea eb = b := ⟨_, rfl⟩
  refine wp_region_noPanic ?_
  refine wp_region_held_drew (S := (fun w' => (w'.cell? ⟨w2.heap.size, 0, none⟩ = some (.int .i64 y.op) ∧ w'.cell? ⟨w2.heap.size, 1, none⟩ = some (.int .i64 y.left) ∧ w'.cell? ⟨w2.heap.size, 2, none⟩ = some (.int .i64 y.right) ∧ w'.cell? ⟨w2.heap.size, 3, none⟩ = some (.string y.name) ∧ w'.cell? ⟨w2.heap.size, 4, none⟩ = some (.int .i64 y.val.kind) ∧ w'.cell? ⟨w2.heap.size, 5, none⟩ = some (.int .i64 y.val.int) ∧ w'.cell? ⟨w2.heap.size, 6, none⟩ = some (.string y.val.str) ∧ Grew w5 w'))) (by kernel_rfl) ?h1_S ?h1_r
  case h1_S => exact ⟨b0, b1, b2, b3, b4, b5, b6, hal.drew⟩
  case h1_r =>
   intro HS
   first
    | refine sk 0 rfl (by kernel_rfl) rfl HS ?_
    | (refine tk (v := ?v1_1_) 0 rfl (by kernel_rfl) rfl ?y1_1_ HS ?_; case y1_1_ => (intro w' hSw; (try dsimp only at hSw); go_simp <;> (with_reducible rfl)))
   try simp only [Act.put, lpa, lpb, lpc]
   first
    | refine sk 2 rfl (by kernel_rfl) rfl HS ?_
    | (refine tk (v := ?v1_2_) 2 rfl (by kernel_rfl) rfl ?y1_2_ HS ?_; case y1_2_ => (intro w' hSw; (try dsimp only at hSw); go_simp <;> (with_reducible rfl)))
   try simp only [Act.put, lpa, lpb, lpc]
   refine cl 1 rfl (by kernel_rfl) (fun K hK => ?_)
   rw [if_pos (by rfl)]
   go_simp
   go_at_call 44
   refine (implIsValidQuery _ q.length q _ (R_q.out.grew ((((g2.trans g3).trans g4).trans g5).trans (HS.2.2.2.2.2.2.2))) hl4 hz4).mono ?_
   rintro e wx1 ⟨he, hb⟩
   rw [HOK.out] at he
   subst he
   refine hK.out _ _ ?s1_3_ ?r1_3_
   case s1_3_ => exact ⟨grew_cell hb (HS.1), grew_cell hb (HS.2.1), grew_cell hb (HS.2.2.1), grew_cell hb (HS.2.2.2.1), grew_cell hb (HS.2.2.2.2.1), grew_cell hb (HS.2.2.2.2.2.1), grew_cell hb (HS.2.2.2.2.2.2.1), (HS.2.2.2.2.2.2.2).trans hb⟩
   case r1_3_ =>
    clear HS
    intro HS
    clear hK K
    try simp only [Act.put, lpa, lpb, lpc]
    refine cl 3 rfl (by kernel_rfl) (fun K hK => ?_)
    rw [if_pos (by rfl)]
    go_simp
    go_at_call 69
    refine (specIsValidQuery _ q.length q _ (R_q.out.grew ((((g2.trans g3).trans g4).trans g5).trans (HS.2.2.2.2.2.2.2))) hl4 hz4).mono ?_
    rintro e wx3 ⟨he, hb⟩
    rw [HOK.out] at he
    subst he
    refine hK.out _ _ ?s1_4_ ?r1_4_
    case s1_4_ => exact ⟨grew_cell hb (HS.1), grew_cell hb (HS.2.1), grew_cell hb (HS.2.2.1), grew_cell hb (HS.2.2.2.1), grew_cell hb (HS.2.2.2.2.1), grew_cell hb (HS.2.2.2.2.2.1), grew_cell hb (HS.2.2.2.2.2.2.1), (HS.2.2.2.2.2.2.2).trans hb⟩
    case r1_4_ =>
     clear HS
     intro HS
     clear hK K
     try simp only [Act.put, lpa, lpb, lpc]
     first
      | refine sk 4 rfl (by kernel_rfl) rfl HS ?_
      | (refine tk (v := ?v1_5_) 4 rfl (by kernel_rfl) rfl ?y1_5_ HS ?_; case y1_5_ => (intro w' hSw; (try dsimp only at hSw); go_simp <;> (with_reducible rfl)))
     try simp only [Act.put, lpa, lpb, lpc]
     first
      | refine sk 5 rfl (by kernel_rfl) rfl HS ?_
      | (refine tk (v := ?v1_6_) 5 rfl (by kernel_rfl) rfl ?y1_6_ HS ?_; case y1_6_ => (intro w' hSw; (try dsimp only at hSw); go_simp <;> (with_reducible rfl)))
     try simp only [Act.put, lpa, lpb, lpc]
     first
      | refine sk 6 rfl (by kernel_rfl) rfl HS ?_
      | (refine tk (v := ?v1_7_) 6 rfl (by kernel_rfl) rfl ?y1_7_ HS ?_; case y1_7_ => (intro w' hSw; (try dsimp only at hSw); go_simp <;> (with_reducible rfl)))
     try simp only [Act.put, lpa, lpb, lpc]
     first
      | refine sk 7 rfl (by kernel_rfl) rfl HS ?_
      | (refine tk (v := ?v1_8_) 7 rfl (by kernel_rfl) rfl ?y1_8_ HS ?_; case y1_8_ => (intro w' hSw; (try dsimp only at hSw); go_simp <;> (with_reducible rfl)))
     try simp only [Act.put, lpa, lpb, lpc]
     first
      | refine sk 9 rfl (by kernel_rfl) rfl HS ?_
      | (refine tk (v := ?v1_9_) 9 rfl (by kernel_rfl) rfl ?y1_9_ HS ?_; case y1_9_ => (intro w' hSw; (try dsimp only at hSw); go_simp <;> (with_reducible rfl)))
     try simp only [Act.put, lpa, lpb, lpc]
     first
      | refine sk 10 rfl (by kernel_rfl) rfl HS ?_
      | (refine tk (v := ?v1_10_) 10 rfl (by kernel_rfl) rfl ?y1_10_ HS ?_; case y1_10_ => (intro w' hSw; (try dsimp only at hSw); go_simp <;> (with_reducible rfl)))
     try simp only [Act.put, lpa, lpb, lpc]
     refine cl 8 rfl (by kernel_rfl) (fun K hK => ?_)
     rw [if_pos (by rfl)]
     go_simp
     go_at_call 108
     refine (implIsValidNode y ya _ (by omega) (by omega)).mono ?_
     rintro e wx8 ⟨he, hb⟩
     rw [hnod] at he
     subst he
     refine hK.out _ _ ?s1_11_ ?r1_11_
     case s1_11_ => exact ⟨grew_cell hb (HS.1), grew_cell hb (HS.2.1), grew_cell hb (HS.2.2.1), grew_cell hb (HS.2.2.2.1), grew_cell hb (HS.2.2.2.2.1), grew_cell hb (HS.2.2.2.2.2.1), grew_cell hb (HS.2.2.2.2.2.2.1), (HS.2.2.2.2.2.2.2).trans hb⟩
     case r1_11_ =>
      clear HS
      intro HS
      clear hK K
      try simp only [Act.put, lpa, lpb, lpc]
      refine cl 11 rfl (by kernel_rfl) (fun K hK => ?_)
      rw [if_pos (by rfl)]
      go_simp
      go_at_call 109
      refine (specIsValidNode y ya _ (by omega) (by omega)).mono ?_
      rintro e wx11 ⟨he, hb⟩
      rw [hnod] at he
      subst he
      refine hK.out _ _ ?s1_12_ ?r1_12_
      case s1_12_ => exact ⟨grew_cell hb (HS.1), grew_cell hb (HS.2.1), grew_cell hb (HS.2.2.1), grew_cell hb (HS.2.2.2.1), grew_cell hb (HS.2.2.2.2.1), grew_cell hb (HS.2.2.2.2.2.1), grew_cell hb (HS.2.2.2.2.2.2.1), (HS.2.2.2.2.2.2.2).trans hb⟩
      case r1_12_ =>
       clear HS
       intro HS
       clear hK K
       try simp only [Act.put, lpa, lpb, lpc]
       first
        | refine sk 12 rfl (by kernel_rfl) rfl HS ?_
        | (refine tk (v := ?v1_13_) 12 rfl (by kernel_rfl) rfl ?y1_13_ HS ?_; case y1_13_ => (intro w' hSw; (try dsimp only at hSw); go_simp <;> (with_reducible rfl)))
       try simp only [Act.put, lpa, lpb, lpc]
       first
        | refine sk 13 rfl (by kernel_rfl) rfl HS ?_
        | (refine tk (v := ?v1_14_) 13 rfl (by kernel_rfl) rfl ?y1_14_ HS ?_; case y1_14_ => (intro w' hSw; (try dsimp only at hSw); go_simp <;> (with_reducible rfl)))
       try simp only [Act.put, lpa, lpb, lpc]
       first
        | refine sk 14 rfl (by kernel_rfl) rfl HS ?_
        | (refine tk (v := ?v1_15_) 14 rfl (by kernel_rfl) rfl ?y1_15_ HS ?_; case y1_15_ => (intro w' hSw; (try dsimp only at hSw); go_simp <;> (with_reducible rfl)))
       try simp only [Act.put, lpa, lpb, lpc]
       first
        | refine sk 15 rfl (by kernel_rfl) rfl HS ?_
        | (refine tk (v := ?v1_16_) 15 rfl (by kernel_rfl) rfl ?y1_16_ HS ?_; case y1_16_ => (intro w' hSw; (try dsimp only at hSw); go_simp <;> (with_reducible rfl)))
       try simp only [Act.put, lpa, lpb, lpc]
       first
        | refine sk 16 rfl (by kernel_rfl) rfl HS ?_
        | (refine tk (v := ?v1_17_) 16 rfl (by kernel_rfl) rfl ?y1_17_ HS ?_; case y1_17_ => (intro w' hSw; (try dsimp only at hSw); go_simp <;> (with_reducible rfl)))
       try simp only [Act.put, lpa, lpb, lpc]
       first
        | refine sk 18 rfl (by kernel_rfl) rfl HS ?_
        | (refine tk (v := ?v1_18_) 18 rfl (by kernel_rfl) rfl ?y1_18_ HS ?_; case y1_18_ => (intro w' hSw; (try dsimp only at hSw); go_simp <;> (with_reducible rfl)))
       try simp only [Act.put, lpa, lpb, lpc]
       first
        | refine sk 19 rfl (by kernel_rfl) rfl HS ?_
        | (refine tk (v := ?v1_19_) 19 rfl (by kernel_rfl) rfl ?y1_19_ HS ?_; case y1_19_ => (intro w' hSw; (try dsimp only at hSw); go_simp <;> (with_reducible rfl)))
       try simp only [Act.put, lpa, lpb, lpc]
       refine cl 17 rfl (by kernel_rfl) (fun K hK => ?_)
       rw [if_pos (by rfl)]
       go_simp
       go_at_call 110
       refine (implCountReferences _ r.length r rk _ (R_r.out.grew (g5.trans (HS.2.2.2.2.2.2.2))) (by omega)).mono ?_
       rintro e wx17 ⟨rfl, hb⟩
       refine hK.out _ _ ?s1_20_ ?r1_20_
       case s1_20_ => exact ⟨grew_cell hb (HS.1), grew_cell hb (HS.2.1), grew_cell hb (HS.2.2.1), grew_cell hb (HS.2.2.2.1), grew_cell hb (HS.2.2.2.2.1), grew_cell hb (HS.2.2.2.2.2.1), grew_cell hb (HS.2.2.2.2.2.2.1), (HS.2.2.2.2.2.2.2).trans hb⟩
       case r1_20_ =>
        clear HS
        intro HS
        clear hK K
        try simp only [Act.put, lpa, lpb, lpc]
        refine cl 20 rfl (by kernel_rfl) (fun K hK => ?_)
        rw [if_pos (by rfl)]
        go_simp
        go_at_call 111
        refine (specCountReferences _ r.length r rk _ (R_r.out.grew (g5.trans (HS.2.2.2.2.2.2.2))) (by omega)).mono ?_
        rintro e wx20 ⟨rfl, hb⟩
        refine hK.out _ _ ?s1_21_ ?r1_21_
        case s1_21_ => exact ⟨grew_cell hb (HS.1), grew_cell hb (HS.2.1), grew_cell hb (HS.2.2.1), grew_cell hb (HS.2.2.2.1), grew_cell hb (HS.2.2.2.2.1), grew_cell hb (HS.2.2.2.2.2.1), grew_cell hb (HS.2.2.2.2.2.2.1), (HS.2.2.2.2.2.2.2).trans hb⟩
        case r1_21_ =>
         clear HS
         intro HS
         clear hK K
         try simp only [Act.put, lpa, lpb, lpc]
         first
          | refine sk 21 rfl (by kernel_rfl) rfl HS ?_
          | (refine tk (v := ?v1_22_) 21 rfl (by kernel_rfl) rfl ?y1_22_ HS ?_; case y1_22_ => (intro w' hSw; (try dsimp only at hSw); go_simp <;> (with_reducible rfl)))
         try simp only [Act.put, lpa, lpb, lpc]
         first
          | refine sk 22 rfl (by kernel_rfl) rfl HS ?_
          | (refine tk (v := ?v1_23_) 22 rfl (by kernel_rfl) rfl ?y1_23_ HS ?_; case y1_23_ => (intro w' hSw; (try dsimp only at hSw); go_simp <;> (with_reducible rfl)))
         try simp only [Act.put, lpa, lpb, lpc]
         first
          | refine sk 23 rfl (by kernel_rfl) rfl HS ?_
          | (refine tk (v := ?v1_24_) 23 rfl (by kernel_rfl) rfl ?y1_24_ HS ?_; case y1_24_ => (intro w' hSw; (try dsimp only at hSw); go_simp <;> (with_reducible rfl)))
         try simp only [Act.put, lpa, lpb, lpc]
         first
          | refine sk 24 rfl (by kernel_rfl) rfl HS ?_
          | (refine tk (v := ?v1_25_) 24 rfl (by kernel_rfl) rfl ?y1_25_ HS ?_; case y1_25_ => (intro w' hSw; (try dsimp only at hSw); go_simp <;> (with_reducible rfl)))
         try simp only [Act.put, lpa, lpb, lpc]
         first
          | refine sk 25 rfl (by kernel_rfl) rfl HS ?_
          | (refine tk (v := ?v1_26_) 25 rfl (by kernel_rfl) rfl ?y1_26_ HS ?_; case y1_26_ => (intro w' hSw; (try dsimp only at hSw); go_simp <;> (with_reducible rfl)))
         try simp only [Act.put, lpa, lpb, lpc]
         first
          | refine sk 27 rfl (by kernel_rfl) rfl HS ?_
          | (refine tk (v := ?v1_27_) 27 rfl (by kernel_rfl) rfl ?y1_27_ HS ?_; case y1_27_ => (intro w' hSw; (try dsimp only at hSw); go_simp <;> (with_reducible rfl)))
         try simp only [Act.put, lpa, lpb, lpc]
         first
          | refine sk 28 rfl (by kernel_rfl) rfl HS ?_
          | (refine tk (v := ?v1_28_) 28 rfl (by kernel_rfl) rfl ?y1_28_ HS ?_; case y1_28_ => (intro w' hSw; (try dsimp only at hSw); go_simp <;> (with_reducible rfl)))
         try simp only [Act.put, lpa, lpb, lpc]
         refine cl 26 rfl (by kernel_rfl) (fun K hK => ?_)
         rw [if_pos (by rfl)]
         go_simp
         go_at_call 112
         refine (implEqualQueries _ _ _ _ ea eb _ (R_a.out.grew (HS.2.2.2.2.2.2.2)) (R_b.out.grew (HS.2.2.2.2.2.2.2)) (by omega) (by omega)).mono ?_
         rintro e wx26 ⟨he, hb⟩
         rw [heqq] at he
         subst he
         refine hK.out _ _ ?s1_29_ ?r1_29_
         case s1_29_ => exact ⟨grew_cell hb (HS.1), grew_cell hb (HS.2.1), grew_cell hb (HS.2.2.1), grew_cell hb (HS.2.2.2.1), grew_cell hb (HS.2.2.2.2.1), grew_cell hb (HS.2.2.2.2.2.1), grew_cell hb (HS.2.2.2.2.2.2.1), (HS.2.2.2.2.2.2.2).trans hb⟩
         case r1_29_ =>
          clear HS
          intro HS
          clear hK K
          try simp only [Act.put, lpa, lpb, lpc]
          refine cl 29 rfl (by kernel_rfl) (fun K hK => ?_)
          rw [if_pos (by rfl)]
          go_simp
          go_at_call 113
          refine (sameNodes _ _ _ _ ea eb _ (R_a.out.grew (HS.2.2.2.2.2.2.2)) (R_b.out.grew (HS.2.2.2.2.2.2.2)) (by omega) (by omega)).mono ?_
          rintro e wx29 ⟨he, hb⟩
          rw [heqq] at he
          subst he
          refine hK.out _ _ ?s1_30_ ?r1_30_
          case s1_30_ => exact ⟨grew_cell hb (HS.1), grew_cell hb (HS.2.1), grew_cell hb (HS.2.2.1), grew_cell hb (HS.2.2.2.1), grew_cell hb (HS.2.2.2.2.1), grew_cell hb (HS.2.2.2.2.2.1), grew_cell hb (HS.2.2.2.2.2.2.1), (HS.2.2.2.2.2.2.2).trans hb⟩
          case r1_30_ =>
           clear HS
           intro HS
           clear hK K
           try simp only [Act.put, lpa, lpb, lpc]
           first
            | refine sk 30 rfl (by kernel_rfl) rfl HS ?_
            | (refine tk (v := ?v1_31_) 30 rfl (by kernel_rfl) rfl ?y1_31_ HS ?_; case y1_31_ => (intro w' hSw; (try dsimp only at hSw); go_simp <;> (with_reducible rfl)))
           try simp only [Act.put, lpa, lpb, lpc]
           first
            | refine sk 31 rfl (by kernel_rfl) rfl HS ?_
            | (refine tk (v := ?v1_32_) 31 rfl (by kernel_rfl) rfl ?y1_32_ HS ?_; case y1_32_ => (intro w' hSw; (try dsimp only at hSw); go_simp <;> (with_reducible rfl)))
           try simp only [Act.put, lpa, lpb, lpc]
           first
            | refine sk 32 rfl (by kernel_rfl) rfl HS ?_
            | (refine tk (v := ?v1_33_) 32 rfl (by kernel_rfl) rfl ?y1_33_ HS ?_; case y1_33_ => (intro w' hSw; (try dsimp only at hSw); go_simp <;> (with_reducible rfl)))
           try simp only [Act.put, lpa, lpb, lpc]
           first
            | refine sk 33 rfl (by kernel_rfl) rfl HS ?_
            | (refine tk (v := ?v1_34_) 33 rfl (by kernel_rfl) rfl ?y1_34_ HS ?_; case y1_34_ => (intro w' hSw; (try dsimp only at hSw); go_simp <;> (with_reducible rfl)))
           try simp only [Act.put, lpa, lpb, lpc]
           first
            | refine sk 35 rfl (by kernel_rfl) rfl HS ?_
            | (refine tk (v := ?v1_35_) 35 rfl (by kernel_rfl) rfl ?y1_35_ HS ?_; case y1_35_ => (intro w' hSw; (try dsimp only at hSw); go_simp <;> (with_reducible rfl)))
           try simp only [Act.put, lpa, lpb, lpc]
           refine cl 34 rfl (by kernel_rfl) (fun K hK => ?_)
           rw [if_pos (by rfl)]
           go_simp
           go_at_call 46
           refine (implQueryAttrs _ q.length q _ (R_q.out.grew ((((g2.trans g3).trans g4).trans g5).trans (HS.2.2.2.2.2.2.2))) hl4).mono ?_
           rintro e wx34 ⟨vp, rfl, op, hb⟩
           have Rp := Lib.hid (rd_of_own op)
           obtain ⟨ap, cp, rfl⟩ := own_slice op
           clear op
           refine hK.out _ _ ?s1_36_ ?r1_36_
           case s1_36_ => exact ⟨grew_cell hb (HS.1), grew_cell hb (HS.2.1), grew_cell hb (HS.2.2.1), grew_cell hb (HS.2.2.2.1), grew_cell hb (HS.2.2.2.2.1), grew_cell hb (HS.2.2.2.2.2.1), grew_cell hb (HS.2.2.2.2.2.2.1), (HS.2.2.2.2.2.2.2).trans hb⟩
           case r1_36_ =>
            clear HS
            intro HS
            clear hK K
            try simp only [Act.put, lpa, lpb, lpc]
            refine cl 36 rfl (by kernel_rfl) (fun K hK => ?_)
            rw [if_pos (by rfl)]
            go_simp
            go_at_call 114
            refine (specQueryAttrs _ q.length q _ (R_q.out.grew ((((g2.trans g3).trans g4).trans g5).trans (HS.2.2.2.2.2.2.2))) hl4).mono ?_
            rintro e wx36 ⟨vp2, rfl, op2, hb⟩
            have Rp2 := Lib.hid (rd_of_own op2)
            obtain ⟨ap2, cp2, rfl⟩ := own_slice op2
            clear op2
            have hx36 := hb
            refine hK.out _ _ ?s1_37_ ?r1_37_
            case s1_37_ => exact ⟨grew_cell hb (HS.1), grew_cell hb (HS.2.1), grew_cell hb (HS.2.2.1), grew_cell hb (HS.2.2.2.1), grew_cell hb (HS.2.2.2.2.1), grew_cell hb (HS.2.2.2.2.2.1), grew_cell hb (HS.2.2.2.2.2.2.1), (HS.2.2.2.2.2.2.2).trans hb⟩
            case r1_37_ =>
             clear HS
             intro HS
             clear hK K
             try simp only [Act.put, lpa, lpb, lpc]
             refine cl 37 rfl (by kernel_rfl) (fun K hK => ?_)
             rw [if_pos (by rfl)]
             go_simp
             go_at_call 75
             refine (sameTexts _ _ _ _ (qAttrs q) (qAttrs q) _ (Rp.out.grew hx36) Rp2.out (by omega) (by omega)).mono ?_
             rintro e wx37 ⟨he, hb⟩
             rw [SA] at he
             subst he
             refine hK.out _ _ ?s1_38_ ?r1_38_
             case s1_38_ => exact ⟨grew_cell hb (HS.1), grew_cell hb (HS.2.1), grew_cell hb (HS.2.2.1), grew_cell hb (HS.2.2.2.1), grew_cell hb (HS.2.2.2.2.1), grew_cell hb (HS.2.2.2.2.2.1), grew_cell hb (HS.2.2.2.2.2.2.1), (HS.2.2.2.2.2.2.2).trans hb⟩
             case r1_38_ =>
              clear HS
              intro HS
              clear hK K
              try simp only [Act.put, lpa, lpb, lpc]
              first
               | refine sk 38 rfl (by kernel_rfl) rfl HS ?_
               | (refine tk (v := ?v1_39_) 38 rfl (by kernel_rfl) rfl ?y1_39_ HS ?_; case y1_39_ => (intro w' hSw; (try dsimp only at hSw); go_simp <;> (with_reducible rfl)))
              try simp only [Act.put, lpa, lpb, lpc]
              first
               | refine sk 39 rfl (by kernel_rfl) rfl HS ?_
               | (refine tk (v := ?v1_40_) 39 rfl (by kernel_rfl) rfl ?y1_40_ HS ?_; case y1_40_ => (intro w' hSw; (try dsimp only at hSw); go_simp <;> (with_reducible rfl)))
              try simp only [Act.put, lpa, lpb, lpc]
              first
               | refine sk 40 rfl (by kernel_rfl) rfl HS ?_
               | (refine tk (v := ?v1_41_) 40 rfl (by kernel_rfl) rfl ?y1_41_ HS ?_; case y1_41_ => (intro w' hSw; (try dsimp only at hSw); go_simp <;> (with_reducible rfl)))
              try simp only [Act.put, lpa, lpb, lpc]
              first
               | refine sk 41 rfl (by kernel_rfl) rfl HS ?_
               | (refine tk (v := ?v1_42_) 41 rfl (by kernel_rfl) rfl ?y1_42_ HS ?_; case y1_42_ => (intro w' hSw; (try dsimp only at hSw); go_simp <;> (with_reducible rfl)))
              try simp only [Act.put, lpa, lpb, lpc]
              first
               | refine sk 43 rfl (by kernel_rfl) rfl HS ?_
               | (refine tk (v := ?v1_43_) 43 rfl (by kernel_rfl) rfl ?y1_43_ HS ?_; case y1_43_ => (intro w' hSw; (try dsimp only at hSw); go_simp <;> (with_reducible rfl)))
              try simp only [Act.put, lpa, lpb, lpc]
              refine cl 42 rfl (by kernel_rfl) (fun K hK => ?_)
              rw [if_pos (by rfl)]
              go_simp
              go_at_call 45
              refine (implQueryDirs _ q.length q _ (R_q.out.grew ((((g2.trans g3).trans g4).trans g5).trans (HS.2.2.2.2.2.2.2))) hl4).mono ?_
              rintro e wx42 ⟨vd, rfl, od, hb⟩
              have Rd1 := Lib.hid (rd_of_own od)
              obtain ⟨ad, cd, rfl⟩ := own_slice od
              clear od
              refine hK.out _ _ ?s1_44_ ?r1_44_
              case s1_44_ => exact ⟨grew_cell hb (HS.1), grew_cell hb (HS.2.1), grew_cell hb (HS.2.2.1), grew_cell hb (HS.2.2.2.1), grew_cell hb (HS.2.2.2.2.1), grew_cell hb (HS.2.2.2.2.2.1), grew_cell hb (HS.2.2.2.2.2.2.1), (HS.2.2.2.2.2.2.2).trans hb⟩
              case r1_44_ =>
               clear HS
               intro HS
               clear hK K
               try simp only [Act.put, lpa, lpb, lpc]
               refine cl 44 rfl (by kernel_rfl) (fun K hK => ?_)
               rw [if_pos (by rfl)]
               go_simp
               go_at_call 103
               refine (specQueryDirs _ q.length q _ (R_q.out.grew ((((g2.trans g3).trans g4).trans g5).trans (HS.2.2.2.2.2.2.2))) hl4).mono ?_
               rintro e wx44 ⟨vd2, rfl, od2, hb⟩
               have Rd2 := Lib.hid (rd_of_own od2)
               obtain ⟨ad2, cd2, rfl⟩ := own_slice od2
               clear od2
               have hx44 := hb
               refine hK.out _ _ ?s1_45_ ?r1_45_
               case s1_45_ => exact ⟨grew_cell hb (HS.1), grew_cell hb (HS.2.1), grew_cell hb (HS.2.2.1), grew_cell hb (HS.2.2.2.1), grew_cell hb (HS.2.2.2.2.1), grew_cell hb (HS.2.2.2.2.2.1), grew_cell hb (HS.2.2.2.2.2.2.1), (HS.2.2.2.2.2.2.2).trans hb⟩
               case r1_45_ =>
                clear HS
                intro HS
                clear hK K
                try simp only [Act.put, lpa, lpb, lpc]
                refine cl 45 rfl (by kernel_rfl) (fun K hK => ?_)
                rw [if_pos (by rfl)]
                go_simp
                go_at_call 75
                refine (sameTexts _ _ _ _ (qDirs q) (qDirs q) _ (Rd1.out.grew hx44) Rd2.out (by omega) (by omega)).mono ?_
                rintro e wx45 ⟨he, hb⟩
                rw [SD] at he
                subst he
                refine hK.out _ _ ?s1_46_ ?r1_46_
                case s1_46_ => exact ⟨grew_cell hb (HS.1), grew_cell hb (HS.2.1), grew_cell hb (HS.2.2.1), grew_cell hb (HS.2.2.2.1), grew_cell hb (HS.2.2.2.2.1), grew_cell hb (HS.2.2.2.2.2.1), grew_cell hb (HS.2.2.2.2.2.2.1), (HS.2.2.2.2.2.2.2).trans hb⟩
                case r1_46_ =>
                 clear HS
                 intro HS
                 clear hK K
                 try simp only [Act.put, lpa, lpb, lpc]
                 first
                  | refine sk 46 rfl (by kernel_rfl) rfl HS ?_
                  | (refine tk (v := ?v1_47_) 46 rfl (by kernel_rfl) rfl ?y1_47_ HS ?_; case y1_47_ => (intro w' hSw; (try dsimp only at hSw); go_simp <;> (with_reducible rfl)))
                 try simp only [Act.put, lpa, lpb, lpc]
                 first
                  | refine sk 47 rfl (by kernel_rfl) rfl HS ?_
                  | (refine tk (v := ?v1_48_) 47 rfl (by kernel_rfl) rfl ?y1_48_ HS ?_; case y1_48_ => (intro w' hSw; (try dsimp only at hSw); go_simp <;> (with_reducible rfl)))
                 try simp only [Act.put, lpa, lpb, lpc]
                 refine wpAnyH_done (by kernel_rfl) ?_ _
                 refine NoPanic.normal ?_
                 have GR := HS.2.2.2.2.2.2.2
                 clear HS
                 have GW := G5.trans GR
                 have RQ := Lib.hid (R_q.out.grew ((((g2.trans g3).trans g4).trans g5).trans GR))
                 clear b0 b1 b2 b3 b4 b5 b6
                 have hW0 := Grew.refl wx45
                 go_wp2
                 go_loopw [10, 11] (fun i _ wr => ∃ k : Nat, k ≤ q.length ∧ i = .int .i64 k ∧ Grew wx45 wr) (fun i _ _ => q.length - (intOf i).toNat)
                 case atStart => exact ⟨0, Nat.zero_le _, rfl, hW0⟩
                 case round =>
                   obtain ⟨k, hk, rfl, hbel⟩ := hrel
                   have gw := GW.trans hbel
                   by_cases hlt : k < q.length
                   · have hk0 : (k : Int) < (q.length : Int) := by omega
                     go_wp2_with fail
                     refine (specIsValidQuery _ q.length q _ (RQ.out.grew hbel) hl4 hz4).mono ?_
                     rintro e wa ⟨he, ga⟩
                     rw [HOK.out] at he
                     subst he
                     have gwa := gw.trans ga
                     cases ok
                     ·
                       go_wp2_with fail
                       refine (implIsValidQuery _ 1 [⟨1, 0, 0, ⟨#[]⟩, ⟨0, 0, ⟨#[]⟩⟩⟩] _ (lit_rd _ #[.int .i64 1, .int .i64 0, .int .i64 0, .string ⟨#[]⟩, .int .i64 0, .int .i64 0, .string ⟨#[]⟩] 60 7 1 1 rfl (Nat.le_refl _)) (by decide) (by simp [szAll, N.sz, V.sz, ByteArray.size])).mono ?_
                       rintro e wy ⟨he, gy⟩
                       rw [qry_all] at he
                       subst he
                       go_wp2_with fail
                       refine (implIsValidQuery _ 0 [] _ ⟨none, 0, rfl, Nat.le_refl _, by simp [rows], fun h => absurd h (Nat.lt_irrefl _)⟩ (by decide) (by simp [szAll])).mono ?_
                       rintro e wz ⟨he, gz⟩
                       rw [qry_nil] at he
                       subst he
                       go_wp2
                       go_ret
                       exact ⟨rfl, (((gwa).alloc _).trans gy).trans gz⟩
                     · have hcs : (k + 1 = q.length) ∨ (k + 1 < q.length) := by omega
                       rcases hcs with hc | hc
                       ·
                         have hke : ((k : Int) == (q.length : Int) - 1) = true := by simp; omega
                         have href : refs q ((q.length : Int) - 1) = 0 := by exact refs_root HOK.out
                         have hne : (k : Int) = (q.length : Int) - 1 := by omega
                         have HREF := Lib.hid href
                         clear href
                         go_wp2_with fail
                         refine (implCountReferences _ q.length q _ _ (RQ.out.grew (hbel.trans ga)) hl4).mono ?_
                         rintro e wb ⟨he, gb⟩
                         rw [show refs q _ = 0 from HREF.out] at he
                         subst he
                         go_wp2
                         go_roundw
                         case rel => exact ⟨k + 1, by omega, by go_num, (hbel.trans ga).trans gb⟩
                         case measure => simp [intOf]; omega
                       ·
                         have hke : ((k : Int) == (q.length : Int) - 1) = false := by simp; omega
                         have href : refs q (k : Int) = 1 := by exact refs_one HOK.out hc
                         have hne : ¬ ((k : Int) = (q.length : Int) - 1) := by omega
                         have HREF := Lib.hid href
                         clear href
                         go_wp2_with fail
                         refine (implCountReferences _ q.length q _ _ (RQ.out.grew (hbel.trans ga)) hl4).mono ?_
                         rintro e wb ⟨he, gb⟩
                         rw [HREF.out] at he
                         subst he
                         go_wp2
                         go_roundw
                         case rel => exact ⟨k + 1, by omega, by go_num, (hbel.trans ga).trans gb⟩
                         case measure => simp [intOf]; omega
                   · obtain rfl : k = q.length := by omega
                     go_wp2_with fail
                     refine (implIsValidQuery _ 1 [⟨1, 0, 0, ⟨#[]⟩, ⟨0, 0, ⟨#[]⟩⟩⟩] _ (lit_rd _ #[.int .i64 1, .int .i64 0, .int .i64 0, .string ⟨#[]⟩, .int .i64 0, .int .i64 0, .string ⟨#[]⟩] 60 7 1 1 rfl (Nat.le_refl _)) (by decide) (by simp [szAll, N.sz, V.sz, ByteArray.size])).mono ?_
                     rintro e wy ⟨he, gy⟩
                     rw [qry_all] at he
                     subst he
                     go_wp2_with fail
                     refine (implIsValidQuery _ 0 [] _ ⟨none, 0, rfl, Nat.le_refl _, by simp [rows], fun h => absurd h (Nat.lt_irrefl _)⟩ (by decide) (by simp [szAll])).mono ?_
                     rintro e wz ⟨he, gz⟩
                     rw [qry_nil] at he
                     subst he
                     go_wp2
                     go_ret
                     exact ⟨rfl, (((gw).alloc _).trans gy).trans gz⟩
end Go.Proofs.Ytejgpghcahinhaa.fnQueryShape
