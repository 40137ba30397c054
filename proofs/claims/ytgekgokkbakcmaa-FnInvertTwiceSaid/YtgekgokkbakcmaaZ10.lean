/- Contracts of the draws of diffs. -/
import Derived.Test.YtgekgokkbakcmaaZ5
import Derived.Test.YtgekgokkbakcmaaZ4
import Derived.Test.YtgekgokkbakcmaaX1
import Derived.Test.YtgekgokkbakcmaaD2
namespace Go.Proofs.Ytgekgokkbakcmaa
open Go.RowKit
set_option linter.unusedVariables false
theorem one_ints1 (xs : List Int) : ∀ u ∈ ints xs, u.oneCell' = true := by
  intro u hu
  obtain ⟨x, _, rfl⟩ := List.mem_map.1 hu
  rfl
set_option maxRecDepth 100000 in
set_option maxHeartbeats 4000000 in
theorem l17Diff (g : Nat) (w : World) (hc : Cur w g) :
    Calls Try.prog 105 #[.pointer (some ⟨g, 0, none⟩)] w fun e w' => ∃ nm u t, e = .returned (.agg #[.string nm, u, t]) ∧ nm.size ≤ 8 ∧ (∃ xs, xs.length ≤ 16 ∧ w'.ownsRow w.heap.size 3 1 u xs.length (ints xs)) ∧ (∃ ys, ys.length ≤ 16 ∧ w'.ownsRow w.heap.size 3 1 t ys.length (ints ys)) ∧ D g w w' := by
  obtain ⟨i0, hi, hz0, hz1, hz2⟩ := info_parts Try.infoInt
  have hl := hc.lt
  have hne : w.heap.size ≠ g := by omega
  have B0 := Box.new w #[.string ⟨#[]⟩, .slice none 0 0, .slice none 0 0] 94 3 rfl
  have T0 := TyAt.new w #[.string ⟨#[]⟩, .slice none 0 0, .slice none 0 0] 94
  have d0 := (D.refl hc).alloc (.cells #[.string ⟨#[]⟩, .slice none 0 0, .slice none 0 0] 94)
  go_enter Try.func105, Try.ntmps105
  go_wp2_with fail
  refine (l14Ids g _ d0.cur).mono ?_
  rintro e w1 ⟨v1, xs1, rfl, hx1, ho1, e1⟩
  have d1 := d0.trans e1
  have hs0 := d0.size
  have O1 := Lib.hid ho1
  obtain ⟨a1, c1, rfl⟩ := own_slice ho1
  go_wp2_with fail
  refine (l14Ids g _ d1.cur).mono ?_
  rintro e w2 ⟨v2, xs2, rfl, hx2, ho2, e2⟩
  have d2 := d1.trans e2
  have B2 := (B0.d e1 hne).d e2 hne
  have T2 := (T0.d e1 hne).d e2 hne
  have R1 := Lib.hid (rd_of_own (e2.own O1.out (by have := hc.lt; omega)))
  have R2 := Lib.hid (rd_of_own ho2)
  obtain ⟨a2, c2, rfl⟩ := own_slice ho2
  have l1 := hx1.2.2
  have l2 := hx2.2.2
  have hw2 := d2.size
  clear ho1 ho2 hx1 hx2
  go_wp2_with fail
  refine (specDiffIDs2 _ _ _ _ xs1 xs2 _ R1.out R2.out (by omega) (by omega)).mono ?_
  rintro e w3 ⟨u, t, rfl, hdis, hu, ht, g3⟩
  have d3 := d2.grew g3
  have B3 := B2.grew g3
  have T3 := T2.grew g3
  have lu := wo_le xs2 xs1
  have lt := wo_le xs1 xs2
  obtain ⟨us, hus⟩ : ∃ us, wo xs2 xs1 = us := ⟨_, rfl⟩
  obtain ⟨ts, hts⟩ : ∃ ts, wo xs1 xs2 = ts := ⟨_, rfl⟩
  rw [hus] at hu lu
  rw [hts] at ht lt
  have HU := Lib.hid (ownsRow_base hu hw2)
  have HT := Lib.hid (ownsRow_base ht hw2)
  have HD := Lib.hid hdis
  have hub := Lib.hid (fun b hb => (hu.lt b hb).2)
  have htb := Lib.hid (fun b hb => (ht.lt b hb).2)
  obtain ⟨ua, uc, rfl⟩ := own_slice hu
  obtain ⟨ta, tc, rfl⟩ := own_slice ht
  clear hu ht hdis hus hts B2 R1 R2
  go_wp2_with fail
  refine (l09DirName g _ d3.cur).mono ?_
  rintro e w4 ⟨nm, rfl, hnm, e4⟩
  have d4 := d3.trans e4
  have B4 := B3.d e4 hne
  have T4 := T3.d e4 hne
  have U4 := Lib.hid (e4.own HU.out hl)
  have V4 := Lib.hid (e4.own HT.out hl)
  have hs34 := e4.size
  have hg4 := d4.cur.lt
  have hbn : w4.heap.size ≠ g := by omega
  clear B3
  have BA := B4.grew ((Grew.refl _).alloc (.cells #[.string nm, .slice ua us.length uc, .slice ta ts.length tc] 94))
  have DX := Box.new w4 #[.string nm, .slice ua us.length uc, .slice ta ts.length tc] 94 3 rfl
  have a0 : (w4.alloc (.cells #[.string nm, .slice ua us.length uc, .slice ta ts.length tc] 94)).cell? ⟨w4.heap.size, 0, none⟩ = some (.string nm) := by simp
  have a1' : (w4.alloc (.cells #[.string nm, .slice ua us.length uc, .slice ta ts.length tc] 94)).cell? ⟨w4.heap.size, 1, none⟩ = some (.slice ua us.length uc) := by simp
  have a2' : (w4.alloc (.cells #[.string nm, .slice ua us.length uc, .slice ta ts.length tc] 94)).cell? ⟨w4.heap.size, 2, none⟩ = some (.slice ta ts.length tc) := by simp
  have hw4 := d4.size
  go_wp2_with fail
  refine (l01Below g _ (d4.alloc _).cur 8 (by omega) (by omega)).mono ?_
  rintro e w5 ⟨x, rfl, hx, e5⟩
  have d5 := (d4.alloc (.cells #[.string nm, .slice ua us.length uc, .slice ta ts.length tc] 94)).trans e5
  have B5 := BA.d e5 hne
  have X5 := DX.d e5 hbn
  have U5 := Lib.hid (e5.own (U4.out.alloc (.cells #[.string nm, .slice ua us.length uc, .slice ta ts.length tc] 94)) hl)
  have V5 := Lib.hid (e5.own (V4.out.alloc (.cells #[.string nm, .slice ua us.length uc, .slice ta ts.length tc] 94)) hl)
  have T5 := (T4.grew ((Grew.refl _).alloc (.cells #[.string nm, .slice ua us.length uc, .slice ta ts.length tc] 94))).d e5 hne
  have TX5 := (TyAt.new w4 #[.string nm, .slice ua us.length uc, .slice ta ts.length tc] 94).d e5 hbn
  replace a0 := e5.cell a0 hbn
  replace a1' := e5.cell a1' hbn
  replace a2' := e5.cell a2' hbn
  have hbw : w.heap.size < w4.heap.size := B4.1
  clear BA DX B4 U4 V4 hub htb T0 T2 T3 T4 B0
  have hxs : x = 0 ∨ x = 1 ∨ x = 2 ∨ 3 ≤ x := by omega
  rcases hxs with rfl | rfl | rfl | hx3
  · have hk0 := hbw
    go_wp2_with fail
    have a1d := grew_cell (Grew.refl w5).drew a1'
    refine wp_region_noPanic ?_
    refine wp_region_held_drew (S := (fun w' => (w'.cell? ⟨w4.heap.size, 0, none⟩ = some (.string nm) ∧ w'.cell? ⟨w4.heap.size, 2, none⟩ = some (.slice ta ts.length tc) ∧ Box w' w4.heap.size 3 ∧ D g w w'))) (by kernel_rfl) ?h1_S ?h1_r
    case h1_S => exact ⟨grew_cell (Grew.refl _).drew a0, grew_cell (Grew.refl _).drew a2', X5.grew (Grew.refl _).drew, d5.drew⟩
    case h1_r =>
     intro HS
     first
      | refine sk 0 rfl (by kernel_rfl) rfl HS ?_
      | (refine tk (v := ?v1_1_) 0 rfl (by kernel_rfl) rfl ?y1_1_ HS ?_; case y1_1_ => (intro w' hSw; (try dsimp only at hSw); go_simp <;> (with_reducible rfl)))
     try simp only [Act.put, lpa, lpb, lpc]
     first
      | refine sk 2 rfl (by kernel_rfl) rfl HS ?_
      | (refine tk (v := ?v1_2_) 2 rfl (by kernel_rfl) rfl ?y1_2_ HS ?_; case y1_2_ => (intro w' hSw; (try dsimp only at hSw); go_simp <;> (with_reducible rfl)))
     try simp only [Act.put, lpa, lpb, lpc]
     refine cl2 1 3 rfl rfl (by kernel_rfl) (fun K hK => ?a1_3_) (fun K hK => ?b1_3_)
     case a1_3_ =>
      rw [if_pos (by rfl)]
      go_simp
      refine hK.out _ _ ?s1_4_ ?r1_4_
      case s1_4_ => exact HS
      case r1_4_ =>
       clear HS
       intro HS
       clear hK K
       try simp only [Act.put, lpa, lpb, lpc]
       refine cl 3 rfl (by kernel_rfl) (fun K hK => ?_)
       rw [if_pos (by rfl)]
       go_simp
       go_at_call 104
       refine (l01Below g _ d5.drew.cur 6 (by omega) (by omega)).mono ?_
       rintro e w6 ⟨y, rfl, hy, e6⟩
       have d6 := d5.drew.trans e6
       have U6 := Lib.hid (e6.own (ownsRow_grew U5.out (Grew.refl _).drew) hl)
       have V6 := Lib.hid (e6.own (ownsRow_grew V5.out (Grew.refl _).drew) hl)
       have B6 := (B5.grew (Grew.refl _).drew).d e6 hne
       have T6 := (T5.grew (Grew.refl _).drew).d e6 hne
       have TX6 := (TX5.grew (Grew.refl _).drew).d e6 hbn
       refine hK.out _ _ ?s1_5_ ?r1_5_
       case s1_5_ => exact ⟨e6.cell HS.1 hbn, e6.cell HS.2.1 hbn, HS.2.2.1.d e6 hbn, HS.2.2.2.trans e6⟩
       case r1_5_ =>
        have n1 := e6.cell (grew_cell (Grew.refl _).drew a1') hbn
        clear HS
        intro HS
        clear hK K
        try simp only [Act.put, lpa, lpb, lpc]
        refine cl 4 rfl (by kernel_rfl) (fun K hK => ?_)
        rw [if_pos (by rfl)]
        go_simp
        refine hK.out _ _ ?s1_6_ ?r1_6_
        case s1_6_ => exact ⟨grew_cell ((Grew.refl _).alloc _) HS.1, grew_cell ((Grew.refl _).alloc _) HS.2.1, HS.2.2.1.grew ((Grew.refl _).alloc _), HS.2.2.2.alloc _⟩
        case r1_6_ =>
         have n2 := grew_cell ((Grew.refl _).alloc (.cells #[.int .i64 y] 3)) n1
         clear HS
         intro HS
         clear hK K
         try simp only [Act.put, lpa, lpb, lpc]
         refine cl 5 rfl (by kernel_rfl) (fun K hK => ?_)
         rw [if_pos (by rfl)]
         have UA := Lib.hid (U6.out.alloc (.cells #[.int .i64 y] 3))
         have VA := Lib.hid (V6.out.alloc (.cells #[.int .i64 y] 3))
         have BA := B6.grew ((Grew.refl _).alloc (.cells #[.int .i64 y] 3))
         have TA := T6.grew ((Grew.refl _).alloc (.cells #[.int .i64 y] 3))
         have TXA := TX6.grew ((Grew.refl _).alloc (.cells #[.int .i64 y] 3))
         refine wp_append_own _ _ _ 66 rfl w.heap.size 3 i0 _ 1 8 Try.underlying66 hi hz0 hz1 hz2 rfl (by decide) _ _ _ rfl UA.out ⟨_, 0, none⟩ 1 1 [.int .i64 y] rfl rfl (lit_news rfl) (fun x hx => by simp at hx; subst hx; rfl) (by unfold maxLen; omega) (by omega) (by have := d6.size; simp; omega) ?_
         intro v' w7 hown' hgr2 _
         have d7 := HS.2.2.2.grown hgr2 (fun j h => (UA.out.lt j h).1)
         have U7 : Hid (w7.ownsRow w.heap.size 3 1 v' (us ++ [y]).length (ints (us ++ [y]))) := by simpa using Lib.hid hown'
         have V7 := Lib.hid (VA.out.kept hgr2 (by cases hb : (Value.slice ta ts.length tc).ownBlock with | none => exact .inl rfl | some b => exact .inr (fun e => HD.out b e.symm hb)))
         have T7 := TA.grownOwn UA.out hgr2 (by decide)
         have TX7 := TXA.grownOwn UA.out hgr2 (by decide)
         have hnb : some w4.heap.size ≠ (Value.slice ua us.length uc).ownBlock := fun e => own_nety UA.out TXA (by decide) _ e.symm rfl
         have hnw : some w.heap.size ≠ (Value.slice ua us.length uc).ownBlock := fun e => own_nety UA.out TA (by decide) _ e.symm rfl
         have k0 := hgr2.cell HS.1 hnb
         have k1 := hgr2.cell n2 hnb
         have k2 := hgr2.cell HS.2.1 hnb
         have X7 : Box w7 w4.heap.size 3 := ⟨TX7.lt, fun j hj => by obtain ⟨q, hq⟩ := HS.2.2.1.2.1 j hj; exact ⟨q, hgr2.cell hq hnb⟩, fun j => by rw [World.frozen?_of_block (hgr2.block _ HS.2.2.1.1 hnb)]; exact HS.2.2.1.2.2 j⟩
         have B7 : Box w7 w.heap.size 3 := ⟨T7.lt, fun j hj => by obtain ⟨q, hq⟩ := BA.2.1 j hj; exact ⟨q, hgr2.cell hq hnw⟩, fun j => by rw [World.frozen?_of_block (hgr2.block _ BA.1 hnw)]; exact BA.2.2 j⟩
         obtain ⟨va, vc, rfl⟩ := own_slice U7.out
         clear hown' hgr2
         refine hK.out _ _ ?s1_7_ ?r1_7_
         case s1_7_ => exact ⟨k0, k2, X7, d7⟩
         case r1_7_ =>
          clear HS
          intro HS
          clear hK K
          try simp only [Act.put, lpa, lpb, lpc]
          first
           | refine sk 6 rfl (by kernel_rfl) rfl HS ?_
           | (refine tk (v := ?v1_8_) 6 rfl (by kernel_rfl) rfl ?y1_8_ HS ?_; case y1_8_ => (intro w' hSw; (try dsimp only at hSw); go_simp <;> (with_reducible rfl)))
          try simp only [Act.put, lpa, lpb, lpc]
          refine cl 7 rfl (by kernel_rfl) (fun K hK => ?_)
          rw [if_pos (by rfl)]
          have zx := X7.2.2
          go_simp
          refine hK.out _ _ ?s1_9_ ?r1_9_
          case s1_9_ => exact ⟨by simp [go_sem, k0], by simp [go_sem, k2], X7.set _ _, d7.setCell (by dsimp only; omega) _⟩
          case r1_9_ =>
           clear HS
           intro HS
           clear hK K
           try simp only [Act.put, lpa, lpb, lpc]
           refine wpAnyH_done (by kernel_rfl) ?_ _
           refine NoPanic.normal ?_
           clear HS
           obtain ⟨q0, f0⟩ := B7.2.1 0 (by decide)
           obtain ⟨q1, f1⟩ := B7.2.1 1 (by decide)
           obtain ⟨q2, f2⟩ := B7.2.1 2 (by decide)
           have zb := B7.2.2
           go_wp2
           refine bodyPost_ret (v := .agg #[.string nm, .slice va (us ++ [y]).length vc, .slice ta ts.length tc]) (by simp [results, Try.results105, go_sem, f0, f1, f2]) rfl ⟨_, _, _, rfl, hnm, ⟨us ++ [y], by simp; omega, ?_⟩, ⟨ts, by omega, ?_⟩, ?_⟩
           · repeat' (first | with_reducible exact U7.out | with_reducible refine own_set (e' := 94) ?_ ?_ (by decide) _ | with_reducible exact T7 | with_reducible exact TX7 | with_reducible refine TyAt.set ?_ _ _)
           · repeat' (first | with_reducible exact V7.out | with_reducible refine own_set (e' := 94) ?_ ?_ (by decide) _ | with_reducible exact T7 | with_reducible exact TX7 | with_reducible refine TyAt.set ?_ _ _)
           · repeat' (first | with_reducible exact d7 | with_reducible refine D.setCell ?_ ?_ _ | (dsimp only; omega))
     case b1_3_ =>
      rw [if_pos (by rfl)]
      go_simp
      go_at_call 104
      refine (l01Below g _ d5.drew.cur 6 (by omega) (by omega)).mono ?_
      rintro e w6 ⟨y, rfl, hy, e6⟩
      have d6 := d5.drew.trans e6
      have U6 := Lib.hid (e6.own (ownsRow_grew U5.out (Grew.refl _).drew) hl)
      have V6 := Lib.hid (e6.own (ownsRow_grew V5.out (Grew.refl _).drew) hl)
      have B6 := (B5.grew (Grew.refl _).drew).d e6 hne
      have T6 := (T5.grew (Grew.refl _).drew).d e6 hne
      have TX6 := (TX5.grew (Grew.refl _).drew).d e6 hbn
      refine hK.out _ _ ?s1_10_ ?r1_10_
      case s1_10_ => exact ⟨e6.cell HS.1 hbn, e6.cell HS.2.1 hbn, HS.2.2.1.d e6 hbn, HS.2.2.2.trans e6⟩
      case r1_10_ =>
       have n1 := e6.cell (grew_cell (Grew.refl _).drew a1') hbn
       clear HS
       intro HS
       clear hK K
       try simp only [Act.put, lpa, lpb, lpc]
       refine cl2 1 4 rfl rfl (by kernel_rfl) (fun K hK => ?a1_11_) (fun K hK => ?b1_11_)
       case a1_11_ =>
        rw [if_pos (by rfl)]
        go_simp
        refine hK.out _ _ ?s1_12_ ?r1_12_
        case s1_12_ => exact HS
        case r1_12_ =>
         clear HS
         intro HS
         clear hK K
         try simp only [Act.put, lpa, lpb, lpc]
         refine cl 4 rfl (by kernel_rfl) (fun K hK => ?_)
         rw [if_pos (by rfl)]
         go_simp
         refine hK.out _ _ ?s1_13_ ?r1_13_
         case s1_13_ => exact ⟨grew_cell ((Grew.refl _).alloc _) HS.1, grew_cell ((Grew.refl _).alloc _) HS.2.1, HS.2.2.1.grew ((Grew.refl _).alloc _), HS.2.2.2.alloc _⟩
         case r1_13_ =>
          have n2 := grew_cell ((Grew.refl _).alloc (.cells #[.int .i64 y] 3)) n1
          clear HS
          intro HS
          clear hK K
          try simp only [Act.put, lpa, lpb, lpc]
          refine cl 5 rfl (by kernel_rfl) (fun K hK => ?_)
          rw [if_pos (by rfl)]
          have UA := Lib.hid (U6.out.alloc (.cells #[.int .i64 y] 3))
          have VA := Lib.hid (V6.out.alloc (.cells #[.int .i64 y] 3))
          have BA := B6.grew ((Grew.refl _).alloc (.cells #[.int .i64 y] 3))
          have TA := T6.grew ((Grew.refl _).alloc (.cells #[.int .i64 y] 3))
          have TXA := TX6.grew ((Grew.refl _).alloc (.cells #[.int .i64 y] 3))
          refine wp_append_own _ _ _ 66 rfl w.heap.size 3 i0 _ 1 8 Try.underlying66 hi hz0 hz1 hz2 rfl (by decide) _ _ _ rfl UA.out ⟨_, 0, none⟩ 1 1 [.int .i64 y] rfl rfl (lit_news rfl) (fun x hx => by simp at hx; subst hx; rfl) (by unfold maxLen; omega) (by omega) (by have := d6.size; simp; omega) ?_
          intro v' w7 hown' hgr2 _
          have d7 := HS.2.2.2.grown hgr2 (fun j h => (UA.out.lt j h).1)
          have U7 : Hid (w7.ownsRow w.heap.size 3 1 v' (us ++ [y]).length (ints (us ++ [y]))) := by simpa using Lib.hid hown'
          have V7 := Lib.hid (VA.out.kept hgr2 (by cases hb : (Value.slice ta ts.length tc).ownBlock with | none => exact .inl rfl | some b => exact .inr (fun e => HD.out b e.symm hb)))
          have T7 := TA.grownOwn UA.out hgr2 (by decide)
          have TX7 := TXA.grownOwn UA.out hgr2 (by decide)
          have hnb : some w4.heap.size ≠ (Value.slice ua us.length uc).ownBlock := fun e => own_nety UA.out TXA (by decide) _ e.symm rfl
          have hnw : some w.heap.size ≠ (Value.slice ua us.length uc).ownBlock := fun e => own_nety UA.out TA (by decide) _ e.symm rfl
          have k0 := hgr2.cell HS.1 hnb
          have k1 := hgr2.cell n2 hnb
          have k2 := hgr2.cell HS.2.1 hnb
          have X7 : Box w7 w4.heap.size 3 := ⟨TX7.lt, fun j hj => by obtain ⟨q, hq⟩ := HS.2.2.1.2.1 j hj; exact ⟨q, hgr2.cell hq hnb⟩, fun j => by rw [World.frozen?_of_block (hgr2.block _ HS.2.2.1.1 hnb)]; exact HS.2.2.1.2.2 j⟩
          have B7 : Box w7 w.heap.size 3 := ⟨T7.lt, fun j hj => by obtain ⟨q, hq⟩ := BA.2.1 j hj; exact ⟨q, hgr2.cell hq hnw⟩, fun j => by rw [World.frozen?_of_block (hgr2.block _ BA.1 hnw)]; exact BA.2.2 j⟩
          obtain ⟨va, vc, rfl⟩ := own_slice U7.out
          clear hown' hgr2
          refine hK.out _ _ ?s1_14_ ?r1_14_
          case s1_14_ => exact ⟨k0, k2, X7, d7⟩
          case r1_14_ =>
           clear HS
           intro HS
           clear hK K
           try simp only [Act.put, lpa, lpb, lpc]
           first
            | refine sk 6 rfl (by kernel_rfl) rfl HS ?_
            | (refine tk (v := ?v1_15_) 6 rfl (by kernel_rfl) rfl ?y1_15_ HS ?_; case y1_15_ => (intro w' hSw; (try dsimp only at hSw); go_simp <;> (with_reducible rfl)))
           try simp only [Act.put, lpa, lpb, lpc]
           refine cl 7 rfl (by kernel_rfl) (fun K hK => ?_)
           rw [if_pos (by rfl)]
           have zx := X7.2.2
           go_simp
           refine hK.out _ _ ?s1_16_ ?r1_16_
           case s1_16_ => exact ⟨by simp [go_sem, k0], by simp [go_sem, k2], X7.set _ _, d7.setCell (by dsimp only; omega) _⟩
           case r1_16_ =>
            clear HS
            intro HS
            clear hK K
            try simp only [Act.put, lpa, lpb, lpc]
            refine wpAnyH_done (by kernel_rfl) ?_ _
            refine NoPanic.normal ?_
            clear HS
            obtain ⟨q0, f0⟩ := B7.2.1 0 (by decide)
            obtain ⟨q1, f1⟩ := B7.2.1 1 (by decide)
            obtain ⟨q2, f2⟩ := B7.2.1 2 (by decide)
            have zb := B7.2.2
            go_wp2
            refine bodyPost_ret (v := .agg #[.string nm, .slice va (us ++ [y]).length vc, .slice ta ts.length tc]) (by simp [results, Try.results105, go_sem, f0, f1, f2]) rfl ⟨_, _, _, rfl, hnm, ⟨us ++ [y], by simp; omega, ?_⟩, ⟨ts, by omega, ?_⟩, ?_⟩
            · repeat' (first | with_reducible exact U7.out | with_reducible refine own_set (e' := 94) ?_ ?_ (by decide) _ | with_reducible exact T7 | with_reducible exact TX7 | with_reducible refine TyAt.set ?_ _ _)
            · repeat' (first | with_reducible exact V7.out | with_reducible refine own_set (e' := 94) ?_ ?_ (by decide) _ | with_reducible exact T7 | with_reducible exact TX7 | with_reducible refine TyAt.set ?_ _ _)
            · repeat' (first | with_reducible exact d7 | with_reducible refine D.setCell ?_ ?_ _ | (dsimp only; omega))
       case b1_11_ =>
        rw [if_pos (by rfl)]
        go_simp
        refine hK.out _ _ ?s1_17_ ?r1_17_
        case s1_17_ => exact ⟨grew_cell ((Grew.refl _).alloc _) HS.1, grew_cell ((Grew.refl _).alloc _) HS.2.1, HS.2.2.1.grew ((Grew.refl _).alloc _), HS.2.2.2.alloc _⟩
        case r1_17_ =>
         have n2 := grew_cell ((Grew.refl _).alloc (.cells #[.int .i64 y] 3)) n1
         clear HS
         intro HS
         clear hK K
         try simp only [Act.put, lpa, lpb, lpc]
         refine cl 1 rfl (by kernel_rfl) (fun K hK => ?_)
         rw [if_pos (by rfl)]
         go_simp
         refine hK.out _ _ ?s1_18_ ?r1_18_
         case s1_18_ => exact HS
         case r1_18_ =>
          clear HS
          intro HS
          clear hK K
          try simp only [Act.put, lpa, lpb, lpc]
          refine cl 5 rfl (by kernel_rfl) (fun K hK => ?_)
          rw [if_pos (by rfl)]
          have UA := Lib.hid (U6.out.alloc (.cells #[.int .i64 y] 3))
          have VA := Lib.hid (V6.out.alloc (.cells #[.int .i64 y] 3))
          have BA := B6.grew ((Grew.refl _).alloc (.cells #[.int .i64 y] 3))
          have TA := T6.grew ((Grew.refl _).alloc (.cells #[.int .i64 y] 3))
          have TXA := TX6.grew ((Grew.refl _).alloc (.cells #[.int .i64 y] 3))
          refine wp_append_own _ _ _ 66 rfl w.heap.size 3 i0 _ 1 8 Try.underlying66 hi hz0 hz1 hz2 rfl (by decide) _ _ _ rfl UA.out ⟨_, 0, none⟩ 1 1 [.int .i64 y] rfl rfl (lit_news rfl) (fun x hx => by simp at hx; subst hx; rfl) (by unfold maxLen; omega) (by omega) (by have := d6.size; simp; omega) ?_
          intro v' w7 hown' hgr2 _
          have d7 := HS.2.2.2.grown hgr2 (fun j h => (UA.out.lt j h).1)
          have U7 : Hid (w7.ownsRow w.heap.size 3 1 v' (us ++ [y]).length (ints (us ++ [y]))) := by simpa using Lib.hid hown'
          have V7 := Lib.hid (VA.out.kept hgr2 (by cases hb : (Value.slice ta ts.length tc).ownBlock with | none => exact .inl rfl | some b => exact .inr (fun e => HD.out b e.symm hb)))
          have T7 := TA.grownOwn UA.out hgr2 (by decide)
          have TX7 := TXA.grownOwn UA.out hgr2 (by decide)
          have hnb : some w4.heap.size ≠ (Value.slice ua us.length uc).ownBlock := fun e => own_nety UA.out TXA (by decide) _ e.symm rfl
          have hnw : some w.heap.size ≠ (Value.slice ua us.length uc).ownBlock := fun e => own_nety UA.out TA (by decide) _ e.symm rfl
          have k0 := hgr2.cell HS.1 hnb
          have k1 := hgr2.cell n2 hnb
          have k2 := hgr2.cell HS.2.1 hnb
          have X7 : Box w7 w4.heap.size 3 := ⟨TX7.lt, fun j hj => by obtain ⟨q, hq⟩ := HS.2.2.1.2.1 j hj; exact ⟨q, hgr2.cell hq hnb⟩, fun j => by rw [World.frozen?_of_block (hgr2.block _ HS.2.2.1.1 hnb)]; exact HS.2.2.1.2.2 j⟩
          have B7 : Box w7 w.heap.size 3 := ⟨T7.lt, fun j hj => by obtain ⟨q, hq⟩ := BA.2.1 j hj; exact ⟨q, hgr2.cell hq hnw⟩, fun j => by rw [World.frozen?_of_block (hgr2.block _ BA.1 hnw)]; exact BA.2.2 j⟩
          obtain ⟨va, vc, rfl⟩ := own_slice U7.out
          clear hown' hgr2
          refine hK.out _ _ ?s1_19_ ?r1_19_
          case s1_19_ => exact ⟨k0, k2, X7, d7⟩
          case r1_19_ =>
           clear HS
           intro HS
           clear hK K
           try simp only [Act.put, lpa, lpb, lpc]
           first
            | refine sk 6 rfl (by kernel_rfl) rfl HS ?_
            | (refine tk (v := ?v1_20_) 6 rfl (by kernel_rfl) rfl ?y1_20_ HS ?_; case y1_20_ => (intro w' hSw; (try dsimp only at hSw); go_simp <;> (with_reducible rfl)))
           try simp only [Act.put, lpa, lpb, lpc]
           refine cl 7 rfl (by kernel_rfl) (fun K hK => ?_)
           rw [if_pos (by rfl)]
           have zx := X7.2.2
           go_simp
           refine hK.out _ _ ?s1_21_ ?r1_21_
           case s1_21_ => exact ⟨by simp [go_sem, k0], by simp [go_sem, k2], X7.set _ _, d7.setCell (by dsimp only; omega) _⟩
           case r1_21_ =>
            clear HS
            intro HS
            clear hK K
            try simp only [Act.put, lpa, lpb, lpc]
            refine wpAnyH_done (by kernel_rfl) ?_ _
            refine NoPanic.normal ?_
            clear HS
            obtain ⟨q0, f0⟩ := B7.2.1 0 (by decide)
            obtain ⟨q1, f1⟩ := B7.2.1 1 (by decide)
            obtain ⟨q2, f2⟩ := B7.2.1 2 (by decide)
            have zb := B7.2.2
            go_wp2
            refine bodyPost_ret (v := .agg #[.string nm, .slice va (us ++ [y]).length vc, .slice ta ts.length tc]) (by simp [results, Try.results105, go_sem, f0, f1, f2]) rfl ⟨_, _, _, rfl, hnm, ⟨us ++ [y], by simp; omega, ?_⟩, ⟨ts, by omega, ?_⟩, ?_⟩
            · repeat' (first | with_reducible exact U7.out | with_reducible refine own_set (e' := 94) ?_ ?_ (by decide) _ | with_reducible exact T7 | with_reducible exact TX7 | with_reducible refine TyAt.set ?_ _ _)
            · repeat' (first | with_reducible exact V7.out | with_reducible refine own_set (e' := 94) ?_ ?_ (by decide) _ | with_reducible exact T7 | with_reducible exact TX7 | with_reducible refine TyAt.set ?_ _ _)
            · repeat' (first | with_reducible exact d7 | with_reducible refine D.setCell ?_ ?_ _ | (dsimp only; omega))
  · have hra : RdA w5 ta 1 ts.length (ints ts) := by
      obtain ⟨a, c, h1, h2, h3⟩ := rd_of_own V5.out
      cases h1; exact h3
    have HRA := Lib.hid (hra.grew ((Grew.refl w5).alloc (.cells #[.int .i64 7] 3)))
    have L0 := Lib.hid (lit_owns w5 #[.int .i64 7] 3 1 1 rfl (by decide))
    have hs5 := d5.size
    have c2 := grew_cell ((Grew.refl w5).alloc (.cells #[.int .i64 7] 3)) a2'
    clear hra
    go_wp2_with (at_builtin; refine wpList_append_any _ rfl _ _ 66 rfl w5.heap.size 3 i0 _ 1 8 Try.underlying66 hi hz0 hz1 hz2 rfl (by decide) _ 1 [.int .i64 7] rfl L0.out ta ts.length tc (ints ts) rfl HRA.out (one_ints1 ts) (by unfold maxLen; omega) (by omega) (by simp) ?_)
    intro v' w6 hown' hgr2
    have hg6 : Grew w5 w6 := ((Grew.refl w5).alloc (.cells #[.int .i64 7] 3)).grown hgr2 (fun j h => by cases h; exact Nat.le_refl _)
    have d6 := d5.grew hg6
    have V6 : Hid (w6.ownsRow w5.heap.size 3 1 v' (7 :: ts).length (ints (7 :: ts))) := by
      have h : (7 :: ts).length = 1 + ts.length := by simp; omega
      rw [h]
      simpa using Lib.hid hown'
    have U6 := Lib.hid (ownsRow_grew U5.out hg6)
    have T6 := T5.grew hg6
    have TX6 := TX5.grew hg6
    have B6 := B5.grew hg6
    have X6 := X5.grew hg6
    have V6b := Lib.hid (ownsRow_base V6.out hs5)
    replace a0 := grew_cell hg6 a0
    replace a1' := grew_cell hg6 a1'
    replace a2' := grew_cell hg6 a2'
    obtain ⟨va, vc, rfl⟩ := own_slice V6.out
    clear hown' hgr2 c2
    obtain ⟨q0, f0⟩ := B6.2.1 0 (by decide)
    obtain ⟨q1, f1⟩ := B6.2.1 1 (by decide)
    obtain ⟨q2, f2⟩ := B6.2.1 2 (by decide)
    have zb := B6.2.2
    have zx := X6.2.2
    go_wp2
    refine bodyPost_ret (v := .agg #[.string nm, .slice ua us.length uc, .slice va (7 :: ts).length vc]) (by simp [results, Try.results105, go_sem, f0, f1, f2]) rfl ⟨_, _, _, rfl, hnm, ⟨us, by omega, ?_⟩, ⟨7 :: ts, by simp; omega, ?_⟩, ?_⟩
    · repeat' (first | with_reducible exact U6.out | with_reducible refine own_set (e' := 94) ?_ ?_ (by decide) _ | with_reducible exact T6 | with_reducible exact TX6 | with_reducible refine TyAt.set ?_ _ _)
    · repeat' (first | with_reducible exact V6b.out | with_reducible refine own_set (e' := 94) ?_ ?_ (by decide) _ | with_reducible exact T6 | with_reducible exact TX6 | with_reducible refine TyAt.set ?_ _ _)
    · repeat' (first | with_reducible exact d6 | with_reducible refine D.setCell ?_ ?_ _ | (dsimp only; omega))
  · go_wp2_with fail
    refine (l11Name g _ d5.cur).mono ?_
    rintro e w6 ⟨nm2, rfl, hnm2, e6⟩
    have d6 := d5.trans e6
    have B6 := B5.d e6 hne
    have X6 := X5.d e6 hbn
    have U6 := Lib.hid (e6.own U5.out hl)
    have V6 := Lib.hid (e6.own V5.out hl)
    have T6 := T5.d e6 hne
    have TX6 := TX5.d e6 hbn
    replace a0 := e6.cell a0 hbn
    replace a1' := e6.cell a1' hbn
    replace a2' := e6.cell a2' hbn
    obtain ⟨q0, f0⟩ := B6.2.1 0 (by decide)
    obtain ⟨q1, f1⟩ := B6.2.1 1 (by decide)
    obtain ⟨q2, f2⟩ := B6.2.1 2 (by decide)
    have zb := B6.2.2
    have zx := X6.2.2
    go_wp2
    refine bodyPost_ret (v := .agg #[.string nm2, .slice ua us.length uc, .slice ta ts.length tc]) (by simp [results, Try.results105, go_sem, f0, f1, f2]) rfl ⟨_, _, _, rfl, hnm2, ⟨us, by omega, ?_⟩, ⟨ts, by omega, ?_⟩, ?_⟩
    · repeat' (first | with_reducible exact U6.out | with_reducible refine own_set (e' := 94) ?_ ?_ (by decide) _ | with_reducible exact T6 | with_reducible exact TX6 | with_reducible refine TyAt.set ?_ _ _)
    · repeat' (first | with_reducible exact V6.out | with_reducible refine own_set (e' := 94) ?_ ?_ (by decide) _ | with_reducible exact T6 | with_reducible exact TX6 | with_reducible refine TyAt.set ?_ _ _)
    · repeat' (first | with_reducible exact d6 | with_reducible refine D.setCell ?_ ?_ _ | (dsimp only; omega))
  · have hn0_ : ¬ (x = 0) := by omega
    have hn1_ : ¬ (x = 1) := by omega
    have hn2_ : ¬ (x = 2) := by omega
    obtain ⟨q0, f0⟩ := B5.2.1 0 (by decide)
    obtain ⟨q1, f1⟩ := B5.2.1 1 (by decide)
    obtain ⟨q2, f2⟩ := B5.2.1 2 (by decide)
    have zb := B5.2.2
    have zx := X5.2.2
    go_wp2
    refine bodyPost_ret (v := .agg #[.string nm, .slice ua us.length uc, .slice ta ts.length tc]) (by simp [results, Try.results105, go_sem, f0, f1, f2]) rfl ⟨_, _, _, rfl, hnm, ⟨us, by omega, ?_⟩, ⟨ts, by omega, ?_⟩, ?_⟩
    · repeat' (first | with_reducible exact U5.out | with_reducible refine own_set (e' := 94) ?_ ?_ (by decide) _ | with_reducible exact T5 | with_reducible exact TX5 | with_reducible refine TyAt.set ?_ _ _)
    · repeat' (first | with_reducible exact V5.out | with_reducible refine own_set (e' := 94) ?_ ?_ (by decide) _ | with_reducible exact T5 | with_reducible exact TX5 | with_reducible refine TyAt.set ?_ _ _)
    · repeat' (first | with_reducible exact d5 | with_reducible refine D.setCell ?_ ?_ _ | (dsimp only; omega))
end Go.Proofs.Ytgekgokkbakcmaa
