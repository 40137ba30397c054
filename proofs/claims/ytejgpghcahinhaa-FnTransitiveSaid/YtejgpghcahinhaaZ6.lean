/- Contracts of the draws of the laws over queries. -/
import Derived.Test.YtejgpghcahinhaaZ5
import Derived.Test.YtejgpghcahinhaaZ4
import Derived.Test.YtejgpghcahinhaaN5
namespace Go.Proofs.Ytejgpghcahinhaa
open Go.RowKit
set_option linter.unusedVariables false
set_option maxRecDepth 100000 in
set_option maxHeartbeats 1000000 in
theorem drawIsValidQuery (v : Value) (w : World) (hc : Cd w v) :
    Calls Try.prog 104 #[v] w fun e w' => ∃ q, e = .returned q ∧ ∃ xs, w'.ownsRow w.heap.size 60 7 q xs.length (rows N.c xs) ∧ qOk 8 xs ∧ Grew w w' := by
  obtain ⟨n, bs, hr, hn⟩ := hc
  go_enter Try.func104, Try.ntmps104
  go_wp2_with fail
  refine (l01New v n bs _ hr hn).mono ?_
  rintro e w1 ⟨rfl, hc1, hg1, hs1⟩
  go_wp2_with fail
  refine (l09Any _ _ hc1).mono ?_
  rintro e w2 ⟨q, rfl, xs, ho, hq, hd⟩
  go_wp2
  go_ret
  exact ⟨_, rfl, xs, ownsRow_base ho hg1.size, hq, D.out hg1 hd (Nat.le_refl _)⟩
set_option maxRecDepth 100000 in
set_option maxHeartbeats 1000000 in
theorem drawNegatedNodes (v : Value) (w : World) (hc : Cd w v) :
    Calls Try.prog 95 #[v] w fun e w' => ∃ q, e = .returned q ∧ ∃ xs, w'.ownsRow w.heap.size 60 7 q xs.length (rows N.c xs) ∧ qOk 8 xs ∧ Grew w w' := by
  obtain ⟨n, bs, hr, hn⟩ := hc
  go_enter Try.func95, Try.ntmps95
  go_wp2_with fail
  refine (l01New v n bs _ hr hn).mono ?_
  rintro e w1 ⟨rfl, hc1, hg1, hs1⟩
  go_wp2_with fail
  refine (l09Any _ _ hc1).mono ?_
  rintro e w2 ⟨q, rfl, xs, ho, hq, hd⟩
  go_wp2
  go_ret
  exact ⟨_, rfl, xs, ownsRow_base ho hg1.size, hq, D.out hg1 hd (Nat.le_refl _)⟩
set_option maxRecDepth 100000 in
set_option maxHeartbeats 1000000 in
theorem drawCountReferences (v : Value) (w : World) (hc : Cd w v) :
    Calls Try.prog 106 #[v] w fun e w' => ∃ q i, e = .returned (.tuple #[q, .int .i64 i]) ∧ ∃ xs, w'.ownsRow w.heap.size 60 7 q xs.length (rows N.c xs) ∧ qOk 8 xs ∧ Grew w w' := by
  obtain ⟨n, bs, hr, hn⟩ := hc
  go_enter Try.func106, Try.ntmps106
  go_wp2_with fail
  refine (l01New v n bs _ hr hn).mono ?_
  rintro e w1 ⟨rfl, hc1, hg1, hs1⟩
  go_wp2_with fail
  refine (l09Any _ _ hc1).mono ?_
  rintro e w2 ⟨q, rfl, xs, ho, hq, hd⟩
  go_wp2_with fail
  refine (l01Below _ _ hd.cur 6 (by decide) (by decide)).mono ?_
  rintro e w3 ⟨x, rfl, hx, hd2⟩
  go_wp2
  go_ret2
  exact ⟨_, _, rfl, xs, ownsRow_base (hd2.own ho hs1) hg1.size, hq, D.out hg1 (hd.trans hd2) (Nat.le_refl _)⟩
set_option maxRecDepth 100000 in
set_option maxHeartbeats 2000000 in
theorem drawEqualQueries (v : Value) (w : World) (hc : Cd w v) :
    Calls Try.prog 107 #[v] w fun e w' => ∃ u t, e = .returned (.tuple #[u, t]) ∧ (∃ xs : List N, Rd w' u 7 xs.length (rows N.c xs) ∧ qOk 8 xs) ∧ (∃ ys : List N, Rd w' t 7 ys.length (rows N.c ys) ∧ qOk 8 ys) ∧ Grew w w' := by
  obtain ⟨i0, hi, hz0, hz1, hz2⟩ := info_parts Try.infoN
  obtain ⟨n, bs, hr, hn⟩ := hc
  go_enter Try.func107, Try.ntmps107
  go_wp2_with fail
  refine (l01New v n bs _ hr hn).mono ?_
  rintro e w1 ⟨rfl, hc1, hg1, hs1⟩
  go_wp2_with fail
  refine (l09Any _ _ hc1).mono ?_
  rintro e w2 ⟨q, rfl, xs, ho, hq, hd⟩
  obtain ⟨qa, qc, rfl⟩ := own_slice ho
  have hlen := hq.1
  have HQ := Lib.hid hq
  have H2 := Lib.hid ho
  clear ho hq
  go_wp2_with fail
  refine (l01Once _ _ hd.cur 2 (by decide) (by decide)).mono ?_
  rintro e w3 ⟨b, rfl, hd2⟩
  have d3 := hd.trans hd2
  have H3 := Lib.hid (hd2.own H2.out hs1)
  cases b
  · go_wp2_with fail
    refine (l09Any _ _ d3.cur).mono ?_
    rintro e w4 ⟨q2, rfl, ys, ho2, hq2, hd4⟩
    go_wp2
    go_ret2
    exact ⟨_, _, rfl, ⟨xs, rd_of_own (hd4.own H3.out hs1), HQ.out⟩, ⟨ys, rd_of_own ho2, hq2⟩, D.out hg1 (d3.trans hd4) (Nat.le_refl _)⟩
  · have hra : RdA w3 qa 7 xs.length (rows N.c xs) := by
      obtain ⟨a, c, h1, h2, h3⟩ := rd_of_own H3.out
      cases h1; exact h3
    have HR := Lib.hid hra
    cases qa with
    | none =>
      have h0 : xs.length = 0 := by rcases Nat.eq_zero_or_pos xs.length with h | h; exact h; obtain ⟨b, o, h2, _⟩ := hra.2 h; cases h2
      have h1 : xs = [] := List.length_eq_zero_iff.1 h0
      subst h1
      clear hra
      go_wp2
      go_ret2
      exact ⟨_, _, rfl, ⟨[], (rd_of_own H3.out).grew ((Grew.refl _).alloc _), HQ.out⟩, ⟨[], rd_of_own (lit_own w3 60 7), HQ.out⟩, (D.out hg1 d3 (Nat.le_refl _)).alloc _⟩
    | some qa =>
      have hc3 := d3.cur.lt
      have HL := Lib.hid H3.out.1
      clear hra
      go_wp2_with (at_builtin; refine wpList_append_own _ rfl _ _ 61 rfl w3.heap.size 60 i0 _ 7 72 Try.underlying61 hi hz0 hz1 hz2 rfl (by decide) _ 0 [] rfl (lit_own _ _ 7) qa xs.length qc (rows N.c xs) rfl HL.out (rd_news HR.out ((Grew.refl w3).alloc _)) (one_rows _) (by unfold maxLen; omega) (by omega) (by simp) ?_)
      intro v' w4 hown' hgr2 _
      have hg4 : Grew w3 w4 := ((Grew.refl w3).alloc (.cells #[] 60)).grown hgr2 (fun j h => by cases h; exact Nat.le_refl _)
      go_wp2
      go_ret2
      exact ⟨_, _, rfl, ⟨xs, (rd_of_own H3.out).grew hg4, HQ.out⟩, ⟨xs, by simpa using rd_of_own hown', HQ.out⟩, (D.out hg1 d3 (Nat.le_refl _)).trans hg4⟩
set_option maxRecDepth 100000 in
set_option maxHeartbeats 2000000 in
theorem drawIsValidNode (v : Value) (w : World) (hc : Cd w v) :
    Calls Try.prog 105 #[v] w fun e w' => ∃ (y : N) (i : Int), e = .returned (.tuple #[y.v, .int .i64 i]) ∧ y.okD ∧ Grew w w' := by
  have hg0 := (Grew.refl w).alloc (.cells #[.int .i64 0, .int .i64 0, .int .i64 0, .string ⟨#[]⟩, .int .i64 0, .int .i64 0, .string ⟨#[]⟩] 60)
  have B0 := Box.new w #[.int .i64 0, .int .i64 0, .int .i64 0, .string ⟨#[]⟩, .int .i64 0, .int .i64 0, .string ⟨#[]⟩] 60 7 rfl
  have hs0 : w.heap.size + 1 = (w.alloc (.cells #[.int .i64 0, .int .i64 0, .int .i64 0, .string ⟨#[]⟩, .int .i64 0, .int .i64 0, .string ⟨#[]⟩] 60)).heap.size := by simp
  obtain ⟨n, bs, hr, hn⟩ := hc
  go_enter Try.func105, Try.ntmps105
  go_wp2_with fail
  refine (l01New v n bs _ (hr.grew hg0) hn).mono ?_
  rintro e w1 ⟨rfl, hc1, hg1, hs1⟩
  have B1 := B0.grew hg1
  generalize (w.alloc (.cells #[.int .i64 0, .int .i64 0, .int .i64 0, .string ⟨#[]⟩, .int .i64 0, .int .i64 0, .string ⟨#[]⟩] 60)) = W at hg0 hs0 hc1 hg1 hs1 ⊢
  have hne : w.heap.size ≠ W.heap.size := by omega
  have g1 := hg0.trans hg1
  clear B0
  go_wp2_with fail
  refine (l09Any _ _ hc1).mono ?_
  rintro e w2 ⟨q, rfl, xs, ho, hq, hd⟩
  have B2 := B1.d hd hne
  obtain ⟨qa, qc, rfl⟩ := own_slice ho
  have hlen := hq.1
  have HQ := Lib.hid hq
  have H2 := Lib.hid ho
  clear ho hq B1
  by_cases h0 : xs.length = 0
  · have h0' : (xs.length : Int) = 0 := by omega
    obtain ⟨b0, f0⟩ := B2.2.1 0 (by decide)
    obtain ⟨b1, f1⟩ := B2.2.1 1 (by decide)
    obtain ⟨b2, f2⟩ := B2.2.1 2 (by decide)
    obtain ⟨b3, f3⟩ := B2.2.1 3 (by decide)
    obtain ⟨b4, f4⟩ := B2.2.1 4 (by decide)
    obtain ⟨b5, f5⟩ := B2.2.1 5 (by decide)
    obtain ⟨b6, f6⟩ := B2.2.1 6 (by decide)
    have z0 := B2.2.2
    have gD := D.out g1 hd (by omega)
    go_wp2
    refine bodyPost_ret (v := .tuple #[N.v ⟨0, 0, 0, ⟨#[]⟩, ⟨0, 0, ⟨#[]⟩⟩⟩, .int .i64 0]) (by simp [results, Try.results105, go_sem, f0, f1, f2, f3, f4, f5, f6]) rfl ⟨_, _, rfl, op_ok 0 0 0, ?_⟩
    repeat' (first | with_reducible exact gD | with_reducible refine Grew.setCell ?_ ?_ _ | (dsimp only; omega))
  · obtain ⟨gb, rfl⟩ : ∃ gb, qa = some ⟨gb, 0, none⟩ := by
      rcases H2.out.2 with ⟨_, h⟩ | ⟨b, cap, cur, h, _⟩
      · omega
      · cases h; exact ⟨b, rfl⟩
    have hgb := (H2.out.lt gb rfl).1
    have hneb : gb ≠ W.heap.size := by omega
    have h0' : ¬ ((xs.length : Int) = 0) := by omega
    go_wp2_with fail
    refine (l01Below _ _ hd.cur xs.length (by omega) (by omega)).mono ?_
    rintro e w3 ⟨k0, rfl, hk, hd3⟩
    obtain ⟨k, rfl⟩ : ∃ k : Nat, k0 = k := ⟨k0.toNat, by omega⟩
    have hkx : k < xs.length := by omega
    have d3 := hd.trans hd3
    have B3 := B2.d hd3 hne
    have H3 := Lib.hid (hd3.own H2.out (by omega))
    obtain ⟨y, hyk, g0, g1', g2, g3, g4, g5, g6⟩ := ownN H3.out hkx
    have hyo := HQ.out.2 y (List.mem_of_getElem? hyk.out)
    have hki : (k : Int) < (xs.length : Int) := by omega
    have hk0 : (0 : Int) ≤ (k : Int) := by omega
    clear B2
    go_wp2_with fail
    have G3 := D.out g1 d3 (by omega)
    clear g1
    refine wp_region_noPanic ?_
    refine wp_region_held_drew (S := (fun w' => (w'.cell? ⟨gb, k * 7, none⟩ = some (.int .i64 y.op) ∧ w'.cell? ⟨gb, k * 7 + 1, none⟩ = some (.int .i64 y.left) ∧ w'.cell? ⟨gb, k * 7 + 2, none⟩ = some (.int .i64 y.right) ∧ w'.cell? ⟨gb, k * 7 + 3, none⟩ = some (.string y.name) ∧ w'.cell? ⟨gb, k * 7 + 4, none⟩ = some (.int .i64 y.val.kind) ∧ w'.cell? ⟨gb, k * 7 + 5, none⟩ = some (.int .i64 y.val.int) ∧ w'.cell? ⟨gb, k * 7 + 6, none⟩ = some (.string y.val.str) ∧ Grew w w' ∧ Box w' w.heap.size 7))) (by kernel_rfl) ?h1_S ?h1_r
    case h1_S => exact ⟨g0, g1', g2, g3, g4, g5, g6, G3.drew, B3.grew (Grew.refl _).drew⟩
    case h1_r =>
     intro HS
     first
      | refine sk 0 rfl (by kernel_rfl) rfl HS ?_
      | (refine tk (v := ?v1_1_) 0 rfl (by kernel_rfl) rfl ?y1_1_ HS ?_; case y1_1_ => (intro w' hSw; (try dsimp only at hSw); go_simp <;> (with_reducible rfl)))
     try simp only [Act.put, lpa, lpb, lpc]
     first
      | refine sk 1 rfl (by kernel_rfl) rfl HS ?_
      | (refine tk (v := ?v1_2_) 1 rfl (by kernel_rfl) rfl ?y1_2_ HS ?_; case y1_2_ => (intro w' hSw; (try dsimp only at hSw); go_simp <;> (with_reducible rfl)))
     try simp only [Act.put, lpa, lpb, lpc]
     first
      | refine sk 2 rfl (by kernel_rfl) rfl HS ?_
      | (refine tk (v := ?v1_3_) 2 rfl (by kernel_rfl) rfl ?y1_3_ HS ?_; case y1_3_ => (intro w' hSw; (try dsimp only at hSw); go_simp <;> (with_reducible rfl)))
     try simp only [Act.put, lpa, lpb, lpc]
     first
      | refine sk 3 rfl (by kernel_rfl) rfl HS ?_
      | (refine tk (v := ?v1_4_) 3 rfl (by kernel_rfl) rfl ?y1_4_ HS ?_; case y1_4_ => (intro w' hSw; (try dsimp only at hSw); go_simp <;> (with_reducible rfl)))
     try simp only [Act.put, lpa, lpb, lpc]
     first
      | refine sk 4 rfl (by kernel_rfl) rfl HS ?_
      | (refine tk (v := ?v1_5_) 4 rfl (by kernel_rfl) rfl ?y1_5_ HS ?_; case y1_5_ => (intro w' hSw; (try dsimp only at hSw); go_simp <;> (with_reducible rfl)))
     try simp only [Act.put, lpa, lpb, lpc]
     first
      | refine sk 5 rfl (by kernel_rfl) rfl HS ?_
      | (refine tk (v := ?v1_6_) 5 rfl (by kernel_rfl) rfl ?y1_6_ HS ?_; case y1_6_ => (intro w' hSw; (try dsimp only at hSw); go_simp <;> (with_reducible rfl)))
     try simp only [Act.put, lpa, lpb, lpc]
     first
      | refine sk 6 rfl (by kernel_rfl) rfl HS ?_
      | (refine tk (v := ?v1_7_) 6 rfl (by kernel_rfl) rfl ?y1_7_ HS ?_; case y1_7_ => (intro w' hSw; (try dsimp only at hSw); go_simp <;> (with_reducible rfl)))
     try simp only [Act.put, lpa, lpb, lpc]
     first
      | refine sk 7 rfl (by kernel_rfl) rfl HS ?_
      | (refine tk (v := ?v1_8_) 7 rfl (by kernel_rfl) rfl ?y1_8_ HS ?_; case y1_8_ => (intro w' hSw; (try dsimp only at hSw); go_simp <;> (with_reducible rfl)))
     try simp only [Act.put, lpa, lpb, lpc]
     refine cl 8 rfl (by kernel_rfl) (fun K hK => ?_)
     rw [if_pos (by rfl)]
     go_simp
     refine hK.out _ _ ?s1_9_ ?r1_9_
     case s1_9_ => exact ⟨grew_cell ((Grew.refl _).alloc _) (HS.1), grew_cell ((Grew.refl _).alloc _) (HS.2.1), grew_cell ((Grew.refl _).alloc _) (HS.2.2.1), grew_cell ((Grew.refl _).alloc _) (HS.2.2.2.1), grew_cell ((Grew.refl _).alloc _) (HS.2.2.2.2.1), grew_cell ((Grew.refl _).alloc _) (HS.2.2.2.2.2.1), grew_cell ((Grew.refl _).alloc _) (HS.2.2.2.2.2.2.1), HS.2.2.2.2.2.2.2.1.alloc _, HS.2.2.2.2.2.2.2.2.grew ((Grew.refl _).alloc _)⟩
     case r1_9_ =>
      clear HS
      intro HS
      clear hK K
      try simp only [Act.put, lpa, lpb, lpc]
      refine cl 9 rfl (by kernel_rfl) (fun K hK => ?_)
      rw [if_pos (by rfl)]
      go_simp
      go_at_call 184
      refine (l01PickInt _ _ ((d3.alloc _).drew).cur _ 7 [k, k, k, 0, -1, 9223372036854775807, -9223372036854775808] ((lit_rd w3 #[.int .i64 k, .int .i64 k, .int .i64 k, .int .i64 0, .int .i64 (-1), .int .i64 9223372036854775807, .int .i64 (-9223372036854775808)] 3 1 7 7 rfl (Nat.le_refl _)).grew (Grew.refl _).drew) (by have := d3.cur.lt; simp [Value.ownBlock]; omega) (by decide) (by decide)).mono ?_
      rintro e w6 ⟨x, rfl, hx, hd7⟩
      refine hK.out _ _ ?s1_10_ ?r1_10_
      case s1_10_ => exact ⟨hd7.cell (HS.1) hneb, hd7.cell (HS.2.1) hneb, hd7.cell (HS.2.2.1) hneb, hd7.cell (HS.2.2.2.1) hneb, hd7.cell (HS.2.2.2.2.1) hneb, hd7.cell (HS.2.2.2.2.2.1) hneb, hd7.cell (HS.2.2.2.2.2.2.1) hneb, D.out HS.2.2.2.2.2.2.2.1 hd7 (by omega), HS.2.2.2.2.2.2.2.2.d hd7 hne⟩
      case r1_10_ =>
       clear HS
       intro HS
       clear hK K
       try simp only [Act.put, lpa, lpb, lpc]
       refine cl 10 rfl (by kernel_rfl) (fun K hK => ?_)
       rw [if_pos (by rfl)]
       have HSD := Lib.hid (HS.2.2.2.2.2.2.2.1)
       have HSB := Lib.hid (HS.2.2.2.2.2.2.2.2)
       obtain ⟨b0, f0⟩ := (HS.2.2.2.2.2.2.2.2).2.1 0 (by decide)
       obtain ⟨b1, f1⟩ := (HS.2.2.2.2.2.2.2.2).2.1 1 (by decide)
       obtain ⟨b2, f2⟩ := (HS.2.2.2.2.2.2.2.2).2.1 2 (by decide)
       obtain ⟨b3, f3⟩ := (HS.2.2.2.2.2.2.2.2).2.1 3 (by decide)
       obtain ⟨b4, f4⟩ := (HS.2.2.2.2.2.2.2.2).2.1 4 (by decide)
       obtain ⟨b5, f5⟩ := (HS.2.2.2.2.2.2.2.2).2.1 5 (by decide)
       obtain ⟨b6, f6⟩ := (HS.2.2.2.2.2.2.2.2).2.1 6 (by decide)
       have z0 := (HS.2.2.2.2.2.2.2.2).2.2
       have q0 := HS.1
       have q1 := HS.2.1
       have q2 := HS.2.2.1
       have q3 := HS.2.2.2.1
       have q4 := HS.2.2.2.2.1
       have q5 := HS.2.2.2.2.2.1
       have q6 := HS.2.2.2.2.2.2.1
       go_simp
       refine hK.out _ _ ?s1_11_ ?r1_11_
       case s1_11_ => exact ⟨by simp [go_sem, q0], by simp [go_sem, q1], by simp [go_sem, q2], by simp [go_sem, q3], by simp [go_sem, q4], by simp [go_sem, q5], by simp [go_sem, q6], (by repeat' (first | with_reducible exact HSD.out | with_reducible refine Grew.setCell ?_ ?_ _ | exact Nat.le_refl _)), (by repeat' (first | with_reducible exact HSB.out | with_reducible refine Box.set ?_ _ _))⟩
       case r1_11_ =>
        have K0 := f0
        have K1 := f1
        have K2 := f2
        have K3 := f3
        have K4 := f4
        have K5 := f5
        have K6 := f6
        clear HS
        intro HS
        clear hK K
        try simp only [Act.put, lpa, lpb, lpc]
        first
         | refine sk 11 rfl (by kernel_rfl) rfl HS ?_
         | (refine tk (v := ?v1_12_) 11 rfl (by kernel_rfl) rfl ?y1_12_ HS ?_; case y1_12_ => (intro w' hSw; (try dsimp only at hSw); go_simp <;> (with_reducible rfl)))
        try simp only [Act.put, lpa, lpb, lpc]
        refine wpAnyH_done (by kernel_rfl) ?_ _
        refine NoPanic.normal ?_
        have gF := HS.2.2.2.2.2.2.2.1
        clear HS
        go_wp2
        refine bodyPost_ret (v := .tuple #[N.v y, .int .i64 x]) (by simp [results, Try.results105, go_sem, f0, f1, f2, f3, f4, f5, f6]) rfl ⟨_, _, rfl, hyo, gF⟩
end Go.Proofs.Ytejgpghcahinhaa
