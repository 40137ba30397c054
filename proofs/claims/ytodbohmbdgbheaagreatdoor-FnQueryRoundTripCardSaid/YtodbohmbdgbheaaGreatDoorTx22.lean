/- Contracts: the program's reader, node by node. -/
import Derived.Test.YtodbohmbdgbheaaGreatDoorTx21
import Derived.Test.YtodbohmbdgbheaaGreatDoorG2
namespace Go.Proofs.YtodbohmbdgbheaaGreatDoor
open Go.RowKit
set_option linter.unusedVariables false
set_option linter.unusedSimpArgs false
set_option maxRecDepth 100000 in
set_option maxHeartbeats 8000000 in
theorem implNode (g F base : Nat) (w0 : World) (ht0 : TabP w0) (hE0 : ErrS w0) (hg0 : w0.heap.size ≤ g) :
    ∀ (d : Nat) (ws : List By) (ns : List N) (v : Value) (w : World), ws.length < d → ws.length ≤ 1000 → ns.length + ws.length ≤ 2000 → (∀ x, x ∈ ws → x.size ≤ 4000000) → RI w g F base ws v ns → Grew w0 w →
      Calls Tryz.prog 28 #[.pointer (some ⟨g, 0, none⟩)] w fun e w' => ∃ v', e = .returned (.bool (rdI d ws ns).1) ∧ RI w' g F base (rdI d ws ns).2.1 v' (rdI d ws ns).2.2 ∧ Ext (some g) w w' v v' := by
  have HT0 := Lib.hid ht0
  have HE0 := Lib.hid hE0
  clear ht0 hE0
  obtain ⟨i0, hi, hz0, hz1, hz2⟩ := info_parts Tryz.infoN
  intro d
  induction d with
  | zero => intro ws ns v w h; omega
  | succ d ih =>
  intro ws ns v w hd hwl hnl hps hr hgw
  have IH := Lib.hid ih
  have HPS := Lib.hid hps
  have H := Lib.hid hr
  have GW := Lib.hid hgw
  have hbg := hr.lg
  have hbw := hr.lb
  have HVB := Lib.hid hr.ge
  obtain ⟨va, vc, hv_⟩ := own_slice hr.own
  subst hv_
  clear ih hps hr hgw
  have htl : ws.tail.length ≤ ws.length := by rw [List.length_tail]; omega
  have htl2 : ws.tail.tail.length ≤ ws.length := by rw [List.length_tail]; omega
  have HTM := Lib.hid (fun x (hx : x ∈ ws.tail) => HPS.out x (List.mem_of_mem_tail hx))
  have HTM2 := Lib.hid (fun x (hx : x ∈ ws.tail.tail) => HTM.out x (List.mem_of_mem_tail hx))
  obtain ⟨wd, hwd_⟩ : ∃ y, hdB ws = y := ⟨_, rfl⟩
  have HWD := Lib.hid hwd_
  clear hwd_
  go_enter Tryz.func28, Tryz.ntmps28
  go_wp2_with fail
  refine (implNext g F base ws _ ns _ H.out hwl).mono ?_
  rintro e w1 ⟨he, r1, x1⟩
  rw [HWD.out] at he
  subst he
  have R1 := Lib.hid r1
  have X1 := Lib.hid x1
  have hb1 := r1.lb
  have hw1 := x1.size
  clear r1 x1
  go_wp2_with fail
  go_loopw [5] (fun i wr => ∃ j : Nat, j ≤ 9 ∧ i = .int .i64 ((j + 1 : Nat) : Int) ∧ Hid (NBox wr w1.heap.size (nd (opTo wd j) 0 0 ⟨#[]⟩ V.z)) ∧ Hid (RI wr g F base ws.tail (.slice va ns.length vc) ns) ∧ Hid (Ext (some g) w wr (.slice va ns.length vc) (.slice va ns.length vc))) (fun i _ => 10 - (intOf i).toNat)
  case atStart => exact ⟨0, by decide, rfl, Lib.hid (NBox.new w1 (nd 0 0 0 ⟨#[]⟩ V.z) 38), Lib.hid (R1.out.grew ((Grew.refl _).alloc _)), Lib.hid (X1.out.grew ((Grew.refl _).alloc _))⟩
  case round =>
    obtain ⟨j, hj, rfl, BX, RX, EX⟩ := hrel
    have hlt1 := BX.out.lt
    have HVN := Lib.hid (show (Value.slice va ns.length vc).ownBlock ≠ some w1.heap.size from fun e => by have := (HVB.out _ e).2; omega)
    by_cases hlt : j < 9
    · obtain ⟨K, hK_⟩ : ∃ y, kw ((j + 1 : Nat) : Int) = y := ⟨_, rfl⟩
      have HK := Lib.hid hK_
      have hji : ((j : Int) + 1) ≤ 9 := by omega
      by_cases he : K = wd
      · subst he
        have HT := Lib.hid (opTo_yes hK_)
        clear hK_
        go_wp2_with fail
        refine (implOpKeyword _ _).mono ?_
        rintro e w2 ⟨he, g2⟩
        rw [show kw ((j : Int) + 1) = K from HK.out] at he
        subst he
        have B2 := Lib.hid (BX.out.grew g2)
        have R2 := Lib.hid (RX.out.grew g2)
        have E2 := Lib.hid (EX.out.grew g2)
        obtain ⟨e0, _, _, _, _, _, _, f0, _⟩ := B2.out.cells
        go_wp2_with fail
        go_roundw
        case rel => exact ⟨j + 1, by omega, by go_num, Lib.hid (NBox.set B2.out 0 _ (by decide) (by rw [HT.out]; rfl)), Lib.hid (R2.out.set (by omega) HVN.out), Lib.hid (E2.out.set hw1)⟩
        case measure => simp [intOf]; omega
      · have hne := str_ne he
        have hne2 : (wd.toList == K.toList) = false := by rw [beq_eq_false_iff_ne] at hne ⊢; exact fun h => hne h.symm
        have HT := Lib.hid (opTo_no (j := j) (w := wd) (by rw [hK_]; exact he))
        clear hK_
        go_wp2_with fail
        refine (implOpKeyword _ _).mono ?_
        rintro e w2 ⟨he, g2⟩
        rw [show kw ((j : Int) + 1) = K from HK.out] at he
        subst he
        have B2 := Lib.hid (BX.out.grew g2)
        have R2 := Lib.hid (RX.out.grew g2)
        have E2 := Lib.hid (EX.out.grew g2)
        go_wp2_with fail
        go_roundw
        case rel => exact ⟨j + 1, by omega, by go_num, (by rw [HT.out]; exact B2), R2, E2⟩
        case measure => simp [intOf]; omega
    · obtain rfl : j = 9 := by omega
      have hol := opOf_le wd
      obtain ⟨q, hq_⟩ : ∃ q, opTo wd 9 = q := ⟨_, rfl⟩
      have HOP := Lib.hid (show opOf (hdB ws) = q by rw [HWD.out]; exact hq_)
      rw [hq_] at BX
      have hq9 : q ≤ 9 := by rw [← hq_]; exact hol
      clear hol hq_
      have GR := Lib.hid (EX.out.grewTo GW.out (fun k hk => by injection hk with hk; omega) (fun k hk => by have := (HVB.out k hk).1; omega))
      have hbr : base ≤ wr.heap.size := RX.out.lb
      have hwr : w.heap.size ≤ wr.heap.size := EX.out.size
      have HGX := Lib.hid (show some w1.heap.size ≠ some g from fun e => by injection e with e; omega)
      have HVX := Lib.hid (show some w1.heap.size ≠ (Value.slice va ns.length vc).ownBlock from fun e => HVN.out e.symm)
      have hnz : q ≠ 0 → 1 ≤ ws.length := fun h => by
        cases ws with
        | nil => have h1 := HOP.out; rw [show hdB [] = ⟨#[]⟩ from rfl, opOf_nil] at h1; exact absurd h1.symm h
        | cons _ _ => simp
      have HNZ := Lib.hid hnz
      clear hnz
      have hqc : q = 0 ∨ q = 1 ∨ q = 2 ∨ q = 3 ∨ q = 4 ∨ q = 5 ∨ q = 6 ∨ q = 7 ∨ q = 8 ∨ q = 9 := by omega
      clear hq9
      rcases hqc with rfl | rfl | rfl | rfl | rfl | rfl | rfl | rfl | rfl | rfl
      · skip
        have HR := Lib.hid (rdI_0 (d := d) (ns := ns) HOP.out)
        have e0 : World.cell? wr ⟨w1.heap.size, 0, none⟩ = some (.int .i64 0) := BX.out.1 0 _ rfl
        have e1 : World.cell? wr ⟨w1.heap.size, 1, none⟩ = some (.int .i64 0) := BX.out.1 1 _ rfl
        have e2 : World.cell? wr ⟨w1.heap.size, 2, none⟩ = some (.int .i64 0) := BX.out.1 2 _ rfl
        have e3 : World.cell? wr ⟨w1.heap.size, 3, none⟩ = some (.string ⟨#[]⟩) := BX.out.1 3 _ rfl
        have e4 : World.cell? wr ⟨w1.heap.size, 4, none⟩ = some (.int .i64 0) := BX.out.1 4 _ rfl
        have e5 : World.cell? wr ⟨w1.heap.size, 5, none⟩ = some (.int .i64 0) := BX.out.1 5 _ rfl
        have e6 : World.cell? wr ⟨w1.heap.size, 6, none⟩ = some (.string ⟨#[]⟩) := BX.out.1 6 _ rfl
        have f0 : World.frozen? wr ⟨w1.heap.size, 0, none⟩ = false := BX.out.2 0 (by decide)
        have f1 : World.frozen? wr ⟨w1.heap.size, 1, none⟩ = false := BX.out.2 1 (by decide)
        have f2 : World.frozen? wr ⟨w1.heap.size, 2, none⟩ = false := BX.out.2 2 (by decide)
        have f3 : World.frozen? wr ⟨w1.heap.size, 3, none⟩ = false := BX.out.2 3 (by decide)
        have f4 : World.frozen? wr ⟨w1.heap.size, 4, none⟩ = false := BX.out.2 4 (by decide)
        have f5 : World.frozen? wr ⟨w1.heap.size, 5, none⟩ = false := BX.out.2 5 (by decide)
        have f6 : World.frozen? wr ⟨w1.heap.size, 6, none⟩ = false := BX.out.2 6 (by decide)
        have BV := HVX.out
        go_wp2_with fail
        have RW : Hid (RI wr g F base _ (.slice va ns.length vc) _) := Lib.hid (RX.out)
        have EW : Hid (Ext (some g) w wr (.slice va ns.length vc) (.slice va ns.length vc)) := Lib.hid (EX.out)
        have BW : Hid (NBox wr w1.heap.size (nd 0 0 0 ⟨#[]⟩ V.z)) := Lib.hid (BX.out)
        have hbW := RW.out.lb
        obtain ⟨W, hW⟩ : ∃ y, wr = y := ⟨_, rfl⟩
        rw [hW] at RW EW BW hbW ⊢
        clear hW
        have p1 := RW.out.n
        have c0 : W.cell? ⟨w1.heap.size, 0, none⟩ = some (.int .i64 0) := BW.out.1 0 _ rfl
        have c1 : W.cell? ⟨w1.heap.size, 1, none⟩ = some (.int .i64 0) := BW.out.1 1 _ rfl
        have c2 : W.cell? ⟨w1.heap.size, 2, none⟩ = some (.int .i64 0) := BW.out.1 2 _ rfl
        have c3 : W.cell? ⟨w1.heap.size, 3, none⟩ = some (.string ⟨#[]⟩) := BW.out.1 3 _ rfl
        have c4 : W.cell? ⟨w1.heap.size, 4, none⟩ = some (.int .i64 0) := BW.out.1 4 _ rfl
        have c5 : W.cell? ⟨w1.heap.size, 5, none⟩ = some (.int .i64 0) := BW.out.1 5 _ rfl
        have c6 : W.cell? ⟨w1.heap.size, 6, none⟩ = some (.string ⟨#[]⟩) := BW.out.1 6 _ rfl
        refine wp_region_noPanic ?_
        refine wp_region_T 10 (fun w' => (w'.cell? ⟨g, 1, none⟩ = some (.slice va ns.length vc) ∧ w'.cell? ⟨w1.heap.size, 0, none⟩ = some (.int .i64 0) ∧ w'.cell? ⟨w1.heap.size, 1, none⟩ = some (.int .i64 0) ∧ w'.cell? ⟨w1.heap.size, 2, none⟩ = some (.int .i64 0) ∧ w'.cell? ⟨w1.heap.size, 3, none⟩ = some (.string ⟨#[]⟩) ∧ w'.cell? ⟨w1.heap.size, 4, none⟩ = some (.int .i64 0) ∧ w'.cell? ⟨w1.heap.size, 5, none⟩ = some (.int .i64 0) ∧ w'.cell? ⟨w1.heap.size, 6, none⟩ = some (.string ⟨#[]⟩))) (by kernel_rfl) (⟨grew_cell (Grew.refl W).drew p1, grew_cell (Grew.refl W).drew c0, grew_cell (Grew.refl W).drew c1, grew_cell (Grew.refl W).drew c2, grew_cell (Grew.refl W).drew c3, grew_cell (Grew.refl W).drew c4, grew_cell (Grew.refl W).drew c5, grew_cell (Grew.refl W).drew c6⟩) ?_
        intro HS
        replace HS := HS.resolve_left (by decide)
        refine tkP 0 (.inr HS) ?_
        refine tkP 1 (.inr HS) ?_
        refine tkP 2 (.inr HS) ?_
        refine tkP 3 (.inr HS) ?_
        refine tkT 4 [7, 10] HS ?_
        refine tkT 5 [6, 7, 10] HS ?_
        refine clT 6 (fun K hK => ?_)
        rw [if_pos (by rfl)]
        have G2 := (Grew.refl W).drew.alloc (.cells #[.int .i64 0, .int .i64 0, .int .i64 0, .string ⟨#[]⟩, .int .i64 0, .int .i64 0, .string ⟨#[]⟩] 38)
        go_simp
        refine hK.out _ _ (⟨grew_cell G2 p1, grew_cell G2 c0, grew_cell G2 c1, grew_cell G2 c2, grew_cell G2 c3, grew_cell G2 c4, grew_cell G2 c5, grew_cell G2 c6⟩) ?_
        clear HS hK K
        intro HS
        try simp only [Act.put, lpa, lpb, lpc]
        refine clT 7 (fun K hK => ?_)
        rw [if_pos (by rfl)]
        refine wp_append_own_at _ _ _ 24 rfl base 38 i0 _ 7 72 Tryz.underlying24 hi hz0 hz1 hz2 rfl (by decide) _ _ _ rfl (ownsRow_grew RW.out.own G2) ⟨_, 0, none⟩ 1 1 [.int .i64 0, .int .i64 0, .int .i64 0, .string ⟨#[]⟩, .int .i64 0, .int .i64 0, .string ⟨#[]⟩] rfl rfl (newsL (by simp)) (fun x hx => List.all_eq_true.1 (show ([.int .i64 0, .int .i64 0, .int .i64 0, .string ⟨#[]⟩, .int .i64 0, .int .i64 0, .string ⟨#[]⟩] : List Value).all (fun u => u.oneCell') = true from rfl) x hx) (by unfold maxLen; omega) (by omega) (Nat.le_trans hbW G2.size) ?_
        intro v9 w9 o9 hgr hat
        obtain ⟨va9, vc9, hv9⟩ := own_slice o9
        subst hv9
        have E9 : Ext none W w9 (.slice va ns.length vc) _ := ((Ext.refl none W _).grew G2).app hgr hat
        have PP := Lib.hid (RI.push (nd 0 0 0 ⟨#[]⟩ V.z) RW.out G2 o9 hgr hat)
        have n0 := Lib.hid (show ∀ k, some k ≠ (none : Option Nat) from fun k e => by cases e)
        have ng := Lib.hid (RW.out.ne hbg)
        have nb := Lib.hid (BV)
        have P1 := E9.cell p1 (n0.out _) ng.out
        have Z1 := E9.frozen p1 (n0.out _) ng.out RW.out.z1
        have d0 := E9.cell c0 (n0.out _) nb.out
        have d1 := E9.cell c1 (n0.out _) nb.out
        have d2 := E9.cell c2 (n0.out _) nb.out
        have d3 := E9.cell c3 (n0.out _) nb.out
        have d4 := E9.cell c4 (n0.out _) nb.out
        have d5 := E9.cell c5 (n0.out _) nb.out
        have d6 := E9.cell c6 (n0.out _) nb.out
        clear o9 hgr hat E9
        refine hK.out _ _ (⟨P1, d0, d1, d2, d3, d4, d5, d6⟩) ?_
        clear HS hK K
        intro HS
        try simp only [Act.put, lpa, lpb, lpc]
        refine tkP 8 (.inr HS) ?_
        refine tkP 9 (.inr HS) ?_
        refine clE (fun K hK => ?_)
        rw [if_pos (by rfl)]
        go_simp
        refine hK.out _ _ fun _ => ?_
        clear HS hK K
        try simp only [Act.put, lpa, lpb, lpc]
        refine doneT ?_
        refine NoPanic.normal ?_
        clear d0 d1 d2 d3 d4 d5 d6
        go_wp2
        go_ret
        rw [HR.out]
        exact ⟨_, rfl, PP.out.1, EW.out.trans PP.out.2⟩
      · skip
        have HR := Lib.hid (rdI_1 (d := d) (ns := ns) HOP.out)
        have e0 : World.cell? wr ⟨w1.heap.size, 0, none⟩ = some (.int .i64 1) := BX.out.1 0 _ rfl
        have e1 : World.cell? wr ⟨w1.heap.size, 1, none⟩ = some (.int .i64 0) := BX.out.1 1 _ rfl
        have e2 : World.cell? wr ⟨w1.heap.size, 2, none⟩ = some (.int .i64 0) := BX.out.1 2 _ rfl
        have e3 : World.cell? wr ⟨w1.heap.size, 3, none⟩ = some (.string ⟨#[]⟩) := BX.out.1 3 _ rfl
        have e4 : World.cell? wr ⟨w1.heap.size, 4, none⟩ = some (.int .i64 0) := BX.out.1 4 _ rfl
        have e5 : World.cell? wr ⟨w1.heap.size, 5, none⟩ = some (.int .i64 0) := BX.out.1 5 _ rfl
        have e6 : World.cell? wr ⟨w1.heap.size, 6, none⟩ = some (.string ⟨#[]⟩) := BX.out.1 6 _ rfl
        have f0 : World.frozen? wr ⟨w1.heap.size, 0, none⟩ = false := BX.out.2 0 (by decide)
        have f1 : World.frozen? wr ⟨w1.heap.size, 1, none⟩ = false := BX.out.2 1 (by decide)
        have f2 : World.frozen? wr ⟨w1.heap.size, 2, none⟩ = false := BX.out.2 2 (by decide)
        have f3 : World.frozen? wr ⟨w1.heap.size, 3, none⟩ = false := BX.out.2 3 (by decide)
        have f4 : World.frozen? wr ⟨w1.heap.size, 4, none⟩ = false := BX.out.2 4 (by decide)
        have f5 : World.frozen? wr ⟨w1.heap.size, 5, none⟩ = false := BX.out.2 5 (by decide)
        have f6 : World.frozen? wr ⟨w1.heap.size, 6, none⟩ = false := BX.out.2 6 (by decide)
        have BV := HVX.out
        go_wp2_with fail
        have RW : Hid (RI wr g F base _ (.slice va ns.length vc) _) := Lib.hid (RX.out)
        have EW : Hid (Ext (some g) w wr (.slice va ns.length vc) (.slice va ns.length vc)) := Lib.hid (EX.out)
        have BW : Hid (NBox wr w1.heap.size (nd 1 0 0 ⟨#[]⟩ V.z)) := Lib.hid (BX.out)
        have hbW := RW.out.lb
        obtain ⟨W, hW⟩ : ∃ y, wr = y := ⟨_, rfl⟩
        rw [hW] at RW EW BW hbW ⊢
        clear hW
        have p1 := RW.out.n
        have c0 : W.cell? ⟨w1.heap.size, 0, none⟩ = some (.int .i64 1) := BW.out.1 0 _ rfl
        have c1 : W.cell? ⟨w1.heap.size, 1, none⟩ = some (.int .i64 0) := BW.out.1 1 _ rfl
        have c2 : W.cell? ⟨w1.heap.size, 2, none⟩ = some (.int .i64 0) := BW.out.1 2 _ rfl
        have c3 : W.cell? ⟨w1.heap.size, 3, none⟩ = some (.string ⟨#[]⟩) := BW.out.1 3 _ rfl
        have c4 : W.cell? ⟨w1.heap.size, 4, none⟩ = some (.int .i64 0) := BW.out.1 4 _ rfl
        have c5 : W.cell? ⟨w1.heap.size, 5, none⟩ = some (.int .i64 0) := BW.out.1 5 _ rfl
        have c6 : W.cell? ⟨w1.heap.size, 6, none⟩ = some (.string ⟨#[]⟩) := BW.out.1 6 _ rfl
        refine wp_region_noPanic ?_
        refine wp_region_T 10 (fun w' => (w'.cell? ⟨g, 1, none⟩ = some (.slice va ns.length vc) ∧ w'.cell? ⟨w1.heap.size, 0, none⟩ = some (.int .i64 1) ∧ w'.cell? ⟨w1.heap.size, 1, none⟩ = some (.int .i64 0) ∧ w'.cell? ⟨w1.heap.size, 2, none⟩ = some (.int .i64 0) ∧ w'.cell? ⟨w1.heap.size, 3, none⟩ = some (.string ⟨#[]⟩) ∧ w'.cell? ⟨w1.heap.size, 4, none⟩ = some (.int .i64 0) ∧ w'.cell? ⟨w1.heap.size, 5, none⟩ = some (.int .i64 0) ∧ w'.cell? ⟨w1.heap.size, 6, none⟩ = some (.string ⟨#[]⟩))) (by kernel_rfl) (⟨grew_cell (Grew.refl W).drew p1, grew_cell (Grew.refl W).drew c0, grew_cell (Grew.refl W).drew c1, grew_cell (Grew.refl W).drew c2, grew_cell (Grew.refl W).drew c3, grew_cell (Grew.refl W).drew c4, grew_cell (Grew.refl W).drew c5, grew_cell (Grew.refl W).drew c6⟩) ?_
        intro HS
        replace HS := HS.resolve_left (by decide)
        refine tkP 0 (.inr HS) ?_
        refine tkP 1 (.inr HS) ?_
        refine tkP 2 (.inr HS) ?_
        refine tkP 3 (.inr HS) ?_
        refine tkT 4 [7, 10] HS ?_
        refine tkT 5 [6, 7, 10] HS ?_
        refine clT 6 (fun K hK => ?_)
        rw [if_pos (by rfl)]
        have G2 := (Grew.refl W).drew.alloc (.cells #[.int .i64 1, .int .i64 0, .int .i64 0, .string ⟨#[]⟩, .int .i64 0, .int .i64 0, .string ⟨#[]⟩] 38)
        go_simp
        refine hK.out _ _ (⟨grew_cell G2 p1, grew_cell G2 c0, grew_cell G2 c1, grew_cell G2 c2, grew_cell G2 c3, grew_cell G2 c4, grew_cell G2 c5, grew_cell G2 c6⟩) ?_
        clear HS hK K
        intro HS
        try simp only [Act.put, lpa, lpb, lpc]
        refine clT 7 (fun K hK => ?_)
        rw [if_pos (by rfl)]
        refine wp_append_own_at _ _ _ 24 rfl base 38 i0 _ 7 72 Tryz.underlying24 hi hz0 hz1 hz2 rfl (by decide) _ _ _ rfl (ownsRow_grew RW.out.own G2) ⟨_, 0, none⟩ 1 1 [.int .i64 1, .int .i64 0, .int .i64 0, .string ⟨#[]⟩, .int .i64 0, .int .i64 0, .string ⟨#[]⟩] rfl rfl (newsL (by simp)) (fun x hx => List.all_eq_true.1 (show ([.int .i64 1, .int .i64 0, .int .i64 0, .string ⟨#[]⟩, .int .i64 0, .int .i64 0, .string ⟨#[]⟩] : List Value).all (fun u => u.oneCell') = true from rfl) x hx) (by unfold maxLen; omega) (by omega) (Nat.le_trans hbW G2.size) ?_
        intro v9 w9 o9 hgr hat
        obtain ⟨va9, vc9, hv9⟩ := own_slice o9
        subst hv9
        have E9 : Ext none W w9 (.slice va ns.length vc) _ := ((Ext.refl none W _).grew G2).app hgr hat
        have PP := Lib.hid (RI.push (nd 1 0 0 ⟨#[]⟩ V.z) RW.out G2 o9 hgr hat)
        have n0 := Lib.hid (show ∀ k, some k ≠ (none : Option Nat) from fun k e => by cases e)
        have ng := Lib.hid (RW.out.ne hbg)
        have nb := Lib.hid (BV)
        have P1 := E9.cell p1 (n0.out _) ng.out
        have Z1 := E9.frozen p1 (n0.out _) ng.out RW.out.z1
        have d0 := E9.cell c0 (n0.out _) nb.out
        have d1 := E9.cell c1 (n0.out _) nb.out
        have d2 := E9.cell c2 (n0.out _) nb.out
        have d3 := E9.cell c3 (n0.out _) nb.out
        have d4 := E9.cell c4 (n0.out _) nb.out
        have d5 := E9.cell c5 (n0.out _) nb.out
        have d6 := E9.cell c6 (n0.out _) nb.out
        clear o9 hgr hat E9
        refine hK.out _ _ (⟨P1, d0, d1, d2, d3, d4, d5, d6⟩) ?_
        clear HS hK K
        intro HS
        try simp only [Act.put, lpa, lpb, lpc]
        refine tkP 8 (.inr HS) ?_
        refine tkP 9 (.inr HS) ?_
        refine clE (fun K hK => ?_)
        rw [if_pos (by rfl)]
        go_simp
        refine hK.out _ _ fun _ => ?_
        clear HS hK K
        try simp only [Act.put, lpa, lpb, lpc]
        refine doneT ?_
        refine NoPanic.normal ?_
        clear d0 d1 d2 d3 d4 d5 d6
        go_wp2
        go_ret
        rw [HR.out]
        exact ⟨_, rfl, PP.out.1, EW.out.trans PP.out.2⟩
      · skip
        obtain ⟨nm, hnm_⟩ : ∃ y, hdB ws.tail = y := ⟨_, rfl⟩
        have HNM := Lib.hid hnm_
        have BV := HVX.out
        have HR := Lib.hid (show rdI (d + 1) ws ns = (true, ws.tail.tail, ns ++ [nd 2 0 0 nm V.z]) by rw [rdI_2 (op := 2) HOP.out (by decide), hnm_])
        clear hnm_
        have e0 : World.cell? wr ⟨w1.heap.size, 0, none⟩ = some (.int .i64 2) := BX.out.1 0 _ rfl
        have e1 : World.cell? wr ⟨w1.heap.size, 1, none⟩ = some (.int .i64 0) := BX.out.1 1 _ rfl
        have e2 : World.cell? wr ⟨w1.heap.size, 2, none⟩ = some (.int .i64 0) := BX.out.1 2 _ rfl
        have e3 : World.cell? wr ⟨w1.heap.size, 3, none⟩ = some (.string ⟨#[]⟩) := BX.out.1 3 _ rfl
        have e4 : World.cell? wr ⟨w1.heap.size, 4, none⟩ = some (.int .i64 0) := BX.out.1 4 _ rfl
        have e5 : World.cell? wr ⟨w1.heap.size, 5, none⟩ = some (.int .i64 0) := BX.out.1 5 _ rfl
        have e6 : World.cell? wr ⟨w1.heap.size, 6, none⟩ = some (.string ⟨#[]⟩) := BX.out.1 6 _ rfl
        have f0 : World.frozen? wr ⟨w1.heap.size, 0, none⟩ = false := BX.out.2 0 (by decide)
        have f1 : World.frozen? wr ⟨w1.heap.size, 1, none⟩ = false := BX.out.2 1 (by decide)
        have f2 : World.frozen? wr ⟨w1.heap.size, 2, none⟩ = false := BX.out.2 2 (by decide)
        have f3 : World.frozen? wr ⟨w1.heap.size, 3, none⟩ = false := BX.out.2 3 (by decide)
        have f4 : World.frozen? wr ⟨w1.heap.size, 4, none⟩ = false := BX.out.2 4 (by decide)
        have f5 : World.frozen? wr ⟨w1.heap.size, 5, none⟩ = false := BX.out.2 5 (by decide)
        have f6 : World.frozen? wr ⟨w1.heap.size, 6, none⟩ = false := BX.out.2 6 (by decide)
        go_wp2_with fail
        refine (implNext g F base ws.tail _ ns _ RX.out (by omega)).mono ?_
        rintro e w5 ⟨he, r5, x5⟩
        rw [HNM.out] at he
        subst he
        have R5 := Lib.hid r5
        have E5 := Lib.hid (EX.out.trans x5)
        have B5 := Lib.hid (BX.out.ext x5 HGX.out HVX.out)
        clear r5 x5
        clear e0 f0 e1 f1 e2 f2 e3 f3 e4 f4 e5 f5 e6 f6
        have e0 : World.cell? w5 ⟨w1.heap.size, 0, none⟩ = some (.int .i64 2) := B5.out.1 0 _ rfl
        have e1 : World.cell? w5 ⟨w1.heap.size, 1, none⟩ = some (.int .i64 0) := B5.out.1 1 _ rfl
        have e2 : World.cell? w5 ⟨w1.heap.size, 2, none⟩ = some (.int .i64 0) := B5.out.1 2 _ rfl
        have e3 : World.cell? w5 ⟨w1.heap.size, 3, none⟩ = some (.string ⟨#[]⟩) := B5.out.1 3 _ rfl
        have e4 : World.cell? w5 ⟨w1.heap.size, 4, none⟩ = some (.int .i64 0) := B5.out.1 4 _ rfl
        have e5 : World.cell? w5 ⟨w1.heap.size, 5, none⟩ = some (.int .i64 0) := B5.out.1 5 _ rfl
        have e6 : World.cell? w5 ⟨w1.heap.size, 6, none⟩ = some (.string ⟨#[]⟩) := B5.out.1 6 _ rfl
        have f0 : World.frozen? w5 ⟨w1.heap.size, 0, none⟩ = false := B5.out.2 0 (by decide)
        have f1 : World.frozen? w5 ⟨w1.heap.size, 1, none⟩ = false := B5.out.2 1 (by decide)
        have f2 : World.frozen? w5 ⟨w1.heap.size, 2, none⟩ = false := B5.out.2 2 (by decide)
        have f3 : World.frozen? w5 ⟨w1.heap.size, 3, none⟩ = false := B5.out.2 3 (by decide)
        have f4 : World.frozen? w5 ⟨w1.heap.size, 4, none⟩ = false := B5.out.2 4 (by decide)
        have f5 : World.frozen? w5 ⟨w1.heap.size, 5, none⟩ = false := B5.out.2 5 (by decide)
        have f6 : World.frozen? w5 ⟨w1.heap.size, 6, none⟩ = false := B5.out.2 6 (by decide)
        go_wp2_with fail
        have RW : Hid (RI (w5.setCell ⟨w1.heap.size, 3, none⟩ (.string nm)) g F base _ (.slice va ns.length vc) _) := Lib.hid (R5.out.set (by omega) HVN.out)
        have EW : Hid (Ext (some g) w (w5.setCell ⟨w1.heap.size, 3, none⟩ (.string nm)) (.slice va ns.length vc) (.slice va ns.length vc)) := Lib.hid (E5.out.set hw1)
        have BW : Hid (NBox (w5.setCell ⟨w1.heap.size, 3, none⟩ (.string nm)) w1.heap.size (nd 2 0 0 nm V.z)) := Lib.hid ((NBox.set B5.out 3 (.string nm) (y := nd 2 0 0 nm V.z) (by decide) rfl))
        have hbW := RW.out.lb
        obtain ⟨W, hW⟩ : ∃ y, (w5.setCell ⟨w1.heap.size, 3, none⟩ (.string nm)) = y := ⟨_, rfl⟩
        rw [hW] at RW EW BW hbW ⊢
        clear hW
        have p1 := RW.out.n
        have c0 : W.cell? ⟨w1.heap.size, 0, none⟩ = some (.int .i64 2) := BW.out.1 0 _ rfl
        have c1 : W.cell? ⟨w1.heap.size, 1, none⟩ = some (.int .i64 0) := BW.out.1 1 _ rfl
        have c2 : W.cell? ⟨w1.heap.size, 2, none⟩ = some (.int .i64 0) := BW.out.1 2 _ rfl
        have c3 : W.cell? ⟨w1.heap.size, 3, none⟩ = some (.string nm) := BW.out.1 3 _ rfl
        have c4 : W.cell? ⟨w1.heap.size, 4, none⟩ = some (.int .i64 0) := BW.out.1 4 _ rfl
        have c5 : W.cell? ⟨w1.heap.size, 5, none⟩ = some (.int .i64 0) := BW.out.1 5 _ rfl
        have c6 : W.cell? ⟨w1.heap.size, 6, none⟩ = some (.string ⟨#[]⟩) := BW.out.1 6 _ rfl
        refine wp_region_noPanic ?_
        refine wp_region_T 10 (fun w' => (w'.cell? ⟨g, 1, none⟩ = some (.slice va ns.length vc) ∧ w'.cell? ⟨w1.heap.size, 0, none⟩ = some (.int .i64 2) ∧ w'.cell? ⟨w1.heap.size, 1, none⟩ = some (.int .i64 0) ∧ w'.cell? ⟨w1.heap.size, 2, none⟩ = some (.int .i64 0) ∧ w'.cell? ⟨w1.heap.size, 3, none⟩ = some (.string nm) ∧ w'.cell? ⟨w1.heap.size, 4, none⟩ = some (.int .i64 0) ∧ w'.cell? ⟨w1.heap.size, 5, none⟩ = some (.int .i64 0) ∧ w'.cell? ⟨w1.heap.size, 6, none⟩ = some (.string ⟨#[]⟩))) (by kernel_rfl) (⟨grew_cell (Grew.refl W).drew p1, grew_cell (Grew.refl W).drew c0, grew_cell (Grew.refl W).drew c1, grew_cell (Grew.refl W).drew c2, grew_cell (Grew.refl W).drew c3, grew_cell (Grew.refl W).drew c4, grew_cell (Grew.refl W).drew c5, grew_cell (Grew.refl W).drew c6⟩) ?_
        intro HS
        replace HS := HS.resolve_left (by decide)
        refine tkP 0 (.inr HS) ?_
        refine tkP 1 (.inr HS) ?_
        refine tkP 2 (.inr HS) ?_
        refine tkP 3 (.inr HS) ?_
        refine tkT 4 [7, 10] HS ?_
        refine tkT 5 [6, 7, 10] HS ?_
        refine clT 6 (fun K hK => ?_)
        rw [if_pos (by rfl)]
        have G2 := (Grew.refl W).drew.alloc (.cells #[.int .i64 2, .int .i64 0, .int .i64 0, .string nm, .int .i64 0, .int .i64 0, .string ⟨#[]⟩] 38)
        go_simp
        refine hK.out _ _ (⟨grew_cell G2 p1, grew_cell G2 c0, grew_cell G2 c1, grew_cell G2 c2, grew_cell G2 c3, grew_cell G2 c4, grew_cell G2 c5, grew_cell G2 c6⟩) ?_
        clear HS hK K
        intro HS
        try simp only [Act.put, lpa, lpb, lpc]
        refine clT 7 (fun K hK => ?_)
        rw [if_pos (by rfl)]
        refine wp_append_own_at _ _ _ 24 rfl base 38 i0 _ 7 72 Tryz.underlying24 hi hz0 hz1 hz2 rfl (by decide) _ _ _ rfl (ownsRow_grew RW.out.own G2) ⟨_, 0, none⟩ 1 1 [.int .i64 2, .int .i64 0, .int .i64 0, .string nm, .int .i64 0, .int .i64 0, .string ⟨#[]⟩] rfl rfl (newsL (by simp)) (fun x hx => List.all_eq_true.1 (show ([.int .i64 2, .int .i64 0, .int .i64 0, .string nm, .int .i64 0, .int .i64 0, .string ⟨#[]⟩] : List Value).all (fun u => u.oneCell') = true from rfl) x hx) (by unfold maxLen; omega) (by omega) (Nat.le_trans hbW G2.size) ?_
        intro v9 w9 o9 hgr hat
        obtain ⟨va9, vc9, hv9⟩ := own_slice o9
        subst hv9
        have E9 : Ext none W w9 (.slice va ns.length vc) _ := ((Ext.refl none W _).grew G2).app hgr hat
        have PP := Lib.hid (RI.push (nd 2 0 0 nm V.z) RW.out G2 o9 hgr hat)
        have n0 := Lib.hid (show ∀ k, some k ≠ (none : Option Nat) from fun k e => by cases e)
        have ng := Lib.hid (RW.out.ne hbg)
        have nb := Lib.hid (BV)
        have P1 := E9.cell p1 (n0.out _) ng.out
        have Z1 := E9.frozen p1 (n0.out _) ng.out RW.out.z1
        have d0 := E9.cell c0 (n0.out _) nb.out
        have d1 := E9.cell c1 (n0.out _) nb.out
        have d2 := E9.cell c2 (n0.out _) nb.out
        have d3 := E9.cell c3 (n0.out _) nb.out
        have d4 := E9.cell c4 (n0.out _) nb.out
        have d5 := E9.cell c5 (n0.out _) nb.out
        have d6 := E9.cell c6 (n0.out _) nb.out
        clear o9 hgr hat E9
        refine hK.out _ _ (⟨P1, d0, d1, d2, d3, d4, d5, d6⟩) ?_
        clear HS hK K
        intro HS
        try simp only [Act.put, lpa, lpb, lpc]
        refine tkP 8 (.inr HS) ?_
        refine tkP 9 (.inr HS) ?_
        refine clE (fun K hK => ?_)
        rw [if_pos (by rfl)]
        go_simp
        refine hK.out _ _ fun _ => ?_
        clear HS hK K
        try simp only [Act.put, lpa, lpb, lpc]
        refine doneT ?_
        refine NoPanic.normal ?_
        clear d0 d1 d2 d3 d4 d5 d6
        go_wp2
        go_ret
        rw [HR.out]
        exact ⟨_, rfl, PP.out.1, EW.out.trans PP.out.2⟩
      · skip
        obtain ⟨nm, hnm_⟩ : ∃ y, hdB ws.tail = y := ⟨_, rfl⟩
        have HNM := Lib.hid hnm_
        have BV := HVX.out
        have hsv : (hdB ws.tail.tail).size ≤ 4000000 := by have h := hd_size HTM2.out 0; rwa [List.drop_zero] at h
        obtain ⟨sv, hsv_⟩ : ∃ y, hdB ws.tail.tail = y := ⟨_, rfl⟩
        have HSV := Lib.hid hsv_
        rw [hsv_] at hsv
        obtain ⟨pr, hpr_⟩ : ∃ y, pvR sv = y := ⟨_, rfl⟩
        have HPR := Lib.hid hpr_
        obtain ⟨pb, hpb_⟩ : ∃ y, pvB sv = y := ⟨_, rfl⟩
        have HPB := Lib.hid hpb_
        have HR := Lib.hid (show rdI (d + 1) ws ns = (pb, ws.tail.tail.tail, ns ++ [nd 3 0 0 nm pr]) by rw [rdI_3 (op := 3) HOP.out (by decide), hnm_, hsv_, hpr_, hpb_])
        clear hnm_ hsv_ hpr_ hpb_
        have e0 : World.cell? wr ⟨w1.heap.size, 0, none⟩ = some (.int .i64 3) := BX.out.1 0 _ rfl
        have e1 : World.cell? wr ⟨w1.heap.size, 1, none⟩ = some (.int .i64 0) := BX.out.1 1 _ rfl
        have e2 : World.cell? wr ⟨w1.heap.size, 2, none⟩ = some (.int .i64 0) := BX.out.1 2 _ rfl
        have e3 : World.cell? wr ⟨w1.heap.size, 3, none⟩ = some (.string ⟨#[]⟩) := BX.out.1 3 _ rfl
        have e4 : World.cell? wr ⟨w1.heap.size, 4, none⟩ = some (.int .i64 0) := BX.out.1 4 _ rfl
        have e5 : World.cell? wr ⟨w1.heap.size, 5, none⟩ = some (.int .i64 0) := BX.out.1 5 _ rfl
        have e6 : World.cell? wr ⟨w1.heap.size, 6, none⟩ = some (.string ⟨#[]⟩) := BX.out.1 6 _ rfl
        have f0 : World.frozen? wr ⟨w1.heap.size, 0, none⟩ = false := BX.out.2 0 (by decide)
        have f1 : World.frozen? wr ⟨w1.heap.size, 1, none⟩ = false := BX.out.2 1 (by decide)
        have f2 : World.frozen? wr ⟨w1.heap.size, 2, none⟩ = false := BX.out.2 2 (by decide)
        have f3 : World.frozen? wr ⟨w1.heap.size, 3, none⟩ = false := BX.out.2 3 (by decide)
        have f4 : World.frozen? wr ⟨w1.heap.size, 4, none⟩ = false := BX.out.2 4 (by decide)
        have f5 : World.frozen? wr ⟨w1.heap.size, 5, none⟩ = false := BX.out.2 5 (by decide)
        have f6 : World.frozen? wr ⟨w1.heap.size, 6, none⟩ = false := BX.out.2 6 (by decide)
        go_wp2_with fail
        refine (implNext g F base ws.tail _ ns _ RX.out (by omega)).mono ?_
        rintro e w5 ⟨he, r5, x5⟩
        rw [HNM.out] at he
        subst he
        have R5 := Lib.hid r5
        have E5 := Lib.hid (EX.out.trans x5)
        have B5 := Lib.hid (BX.out.ext x5 HGX.out HVX.out)
        clear r5 x5
        clear e0 f0 e1 f1 e2 f2 e3 f3 e4 f4 e5 f5 e6 f6
        have e0 : World.cell? w5 ⟨w1.heap.size, 0, none⟩ = some (.int .i64 3) := B5.out.1 0 _ rfl
        have e1 : World.cell? w5 ⟨w1.heap.size, 1, none⟩ = some (.int .i64 0) := B5.out.1 1 _ rfl
        have e2 : World.cell? w5 ⟨w1.heap.size, 2, none⟩ = some (.int .i64 0) := B5.out.1 2 _ rfl
        have e3 : World.cell? w5 ⟨w1.heap.size, 3, none⟩ = some (.string ⟨#[]⟩) := B5.out.1 3 _ rfl
        have e4 : World.cell? w5 ⟨w1.heap.size, 4, none⟩ = some (.int .i64 0) := B5.out.1 4 _ rfl
        have e5 : World.cell? w5 ⟨w1.heap.size, 5, none⟩ = some (.int .i64 0) := B5.out.1 5 _ rfl
        have e6 : World.cell? w5 ⟨w1.heap.size, 6, none⟩ = some (.string ⟨#[]⟩) := B5.out.1 6 _ rfl
        have f0 : World.frozen? w5 ⟨w1.heap.size, 0, none⟩ = false := B5.out.2 0 (by decide)
        have f1 : World.frozen? w5 ⟨w1.heap.size, 1, none⟩ = false := B5.out.2 1 (by decide)
        have f2 : World.frozen? w5 ⟨w1.heap.size, 2, none⟩ = false := B5.out.2 2 (by decide)
        have f3 : World.frozen? w5 ⟨w1.heap.size, 3, none⟩ = false := B5.out.2 3 (by decide)
        have f4 : World.frozen? w5 ⟨w1.heap.size, 4, none⟩ = false := B5.out.2 4 (by decide)
        have f5 : World.frozen? w5 ⟨w1.heap.size, 5, none⟩ = false := B5.out.2 5 (by decide)
        have f6 : World.frozen? w5 ⟨w1.heap.size, 6, none⟩ = false := B5.out.2 6 (by decide)
        go_wp2_with fail
        refine (implNext g F base ws.tail.tail _ ns _ (R5.out.set (by omega) HVN.out) (by omega)).mono ?_
        rintro e w6 ⟨he, r5, x5⟩
        rw [HSV.out] at he
        subst he
        have R6 := Lib.hid r5
        have E6 := Lib.hid ((E5.out.set hw1).trans x5)
        have B6 := Lib.hid ((NBox.set B5.out 3 (.string nm) (y := nd 3 0 0 nm V.z) (by decide) rfl).ext x5 HGX.out HVX.out)
        clear r5 x5
        clear e0 f0 e1 f1 e2 f2 e3 f3 e4 f4 e5 f5 e6 f6
        go_wp2_with fail
        have G6 := E6.out.grewTo GW.out (fun k hk => by injection hk with hk; omega) (fun k hk => by have := (HVB.out k hk).1; omega)
        refine (implParseValue sv hsv _ (HT0.out.grew G6) (HE0.out.grew G6)).mono ?_
        rintro e w7 ⟨he, g7⟩
        rw [HPR.out, HPB.out] at he
        subst he
        have B7 := Lib.hid (B6.out.grew g7)
        have e0 : World.cell? w7 ⟨w1.heap.size, 0, none⟩ = some (.int .i64 3) := B7.out.1 0 _ rfl
        have e1 : World.cell? w7 ⟨w1.heap.size, 1, none⟩ = some (.int .i64 0) := B7.out.1 1 _ rfl
        have e2 : World.cell? w7 ⟨w1.heap.size, 2, none⟩ = some (.int .i64 0) := B7.out.1 2 _ rfl
        have e3 : World.cell? w7 ⟨w1.heap.size, 3, none⟩ = some (.string nm) := B7.out.1 3 _ rfl
        have e4 : World.cell? w7 ⟨w1.heap.size, 4, none⟩ = some (.int .i64 0) := B7.out.1 4 _ rfl
        have e5 : World.cell? w7 ⟨w1.heap.size, 5, none⟩ = some (.int .i64 0) := B7.out.1 5 _ rfl
        have e6 : World.cell? w7 ⟨w1.heap.size, 6, none⟩ = some (.string ⟨#[]⟩) := B7.out.1 6 _ rfl
        have f0 : World.frozen? w7 ⟨w1.heap.size, 0, none⟩ = false := B7.out.2 0 (by decide)
        have f1 : World.frozen? w7 ⟨w1.heap.size, 1, none⟩ = false := B7.out.2 1 (by decide)
        have f2 : World.frozen? w7 ⟨w1.heap.size, 2, none⟩ = false := B7.out.2 2 (by decide)
        have f3 : World.frozen? w7 ⟨w1.heap.size, 3, none⟩ = false := B7.out.2 3 (by decide)
        have f4 : World.frozen? w7 ⟨w1.heap.size, 4, none⟩ = false := B7.out.2 4 (by decide)
        have f5 : World.frozen? w7 ⟨w1.heap.size, 5, none⟩ = false := B7.out.2 5 (by decide)
        have f6 : World.frozen? w7 ⟨w1.heap.size, 6, none⟩ = false := B7.out.2 6 (by decide)
        go_wp2_with fail
        have RW : Hid (RI (((w7.setCell ⟨w1.heap.size, 4, none⟩ (.int .i64 pr.kind)).setCell ⟨w1.heap.size, 5, none⟩ (.int .i64 pr.int)).setCell ⟨w1.heap.size, 6, none⟩ (.string pr.str)) g F base _ (.slice va ns.length vc) _) := Lib.hid ((((R6.out.grew g7).set (by omega) HVN.out).set (by omega) HVN.out).set (by omega) HVN.out)
        have EW : Hid (Ext (some g) w (((w7.setCell ⟨w1.heap.size, 4, none⟩ (.int .i64 pr.kind)).setCell ⟨w1.heap.size, 5, none⟩ (.int .i64 pr.int)).setCell ⟨w1.heap.size, 6, none⟩ (.string pr.str)) (.slice va ns.length vc) (.slice va ns.length vc)) := Lib.hid ((((E6.out.grew g7).set hw1).set hw1).set hw1)
        have BW : Hid (NBox (((w7.setCell ⟨w1.heap.size, 4, none⟩ (.int .i64 pr.kind)).setCell ⟨w1.heap.size, 5, none⟩ (.int .i64 pr.int)).setCell ⟨w1.heap.size, 6, none⟩ (.string pr.str)) w1.heap.size (nd 3 0 0 nm pr)) := Lib.hid (NBox.set (NBox.set (NBox.set B7.out 4 (.int .i64 pr.kind) (y := nd 3 0 0 nm ⟨pr.kind, 0, ⟨#[]⟩⟩) (by decide) rfl) 5 (.int .i64 pr.int) (y := nd 3 0 0 nm ⟨pr.kind, pr.int, ⟨#[]⟩⟩) (by decide) rfl) 6 (.string pr.str) (y := nd 3 0 0 nm pr) (by decide) rfl)
        have hbW := RW.out.lb
        obtain ⟨W, hW⟩ : ∃ y, (((w7.setCell ⟨w1.heap.size, 4, none⟩ (.int .i64 pr.kind)).setCell ⟨w1.heap.size, 5, none⟩ (.int .i64 pr.int)).setCell ⟨w1.heap.size, 6, none⟩ (.string pr.str)) = y := ⟨_, rfl⟩
        rw [hW] at RW EW BW hbW ⊢
        clear hW
        have p1 := RW.out.n
        have c0 : W.cell? ⟨w1.heap.size, 0, none⟩ = some (.int .i64 3) := BW.out.1 0 _ rfl
        have c1 : W.cell? ⟨w1.heap.size, 1, none⟩ = some (.int .i64 0) := BW.out.1 1 _ rfl
        have c2 : W.cell? ⟨w1.heap.size, 2, none⟩ = some (.int .i64 0) := BW.out.1 2 _ rfl
        have c3 : W.cell? ⟨w1.heap.size, 3, none⟩ = some (.string nm) := BW.out.1 3 _ rfl
        have c4 : W.cell? ⟨w1.heap.size, 4, none⟩ = some (.int .i64 pr.kind) := BW.out.1 4 _ rfl
        have c5 : W.cell? ⟨w1.heap.size, 5, none⟩ = some (.int .i64 pr.int) := BW.out.1 5 _ rfl
        have c6 : W.cell? ⟨w1.heap.size, 6, none⟩ = some (.string pr.str) := BW.out.1 6 _ rfl
        refine wp_region_noPanic ?_
        refine wp_region_T 10 (fun w' => (w'.cell? ⟨g, 1, none⟩ = some (.slice va ns.length vc) ∧ w'.cell? ⟨w1.heap.size, 0, none⟩ = some (.int .i64 3) ∧ w'.cell? ⟨w1.heap.size, 1, none⟩ = some (.int .i64 0) ∧ w'.cell? ⟨w1.heap.size, 2, none⟩ = some (.int .i64 0) ∧ w'.cell? ⟨w1.heap.size, 3, none⟩ = some (.string nm) ∧ w'.cell? ⟨w1.heap.size, 4, none⟩ = some (.int .i64 pr.kind) ∧ w'.cell? ⟨w1.heap.size, 5, none⟩ = some (.int .i64 pr.int) ∧ w'.cell? ⟨w1.heap.size, 6, none⟩ = some (.string pr.str))) (by kernel_rfl) (⟨grew_cell (Grew.refl W).drew p1, grew_cell (Grew.refl W).drew c0, grew_cell (Grew.refl W).drew c1, grew_cell (Grew.refl W).drew c2, grew_cell (Grew.refl W).drew c3, grew_cell (Grew.refl W).drew c4, grew_cell (Grew.refl W).drew c5, grew_cell (Grew.refl W).drew c6⟩) ?_
        intro HS
        replace HS := HS.resolve_left (by decide)
        refine tkP 0 (.inr HS) ?_
        refine tkP 1 (.inr HS) ?_
        refine tkP 2 (.inr HS) ?_
        refine tkP 3 (.inr HS) ?_
        refine tkT 4 [7, 10] HS ?_
        refine tkT 5 [6, 7, 10] HS ?_
        refine clT 6 (fun K hK => ?_)
        rw [if_pos (by rfl)]
        have G2 := (Grew.refl W).drew.alloc (.cells #[.int .i64 3, .int .i64 0, .int .i64 0, .string nm, .int .i64 pr.kind, .int .i64 pr.int, .string pr.str] 38)
        go_simp
        refine hK.out _ _ (⟨grew_cell G2 p1, grew_cell G2 c0, grew_cell G2 c1, grew_cell G2 c2, grew_cell G2 c3, grew_cell G2 c4, grew_cell G2 c5, grew_cell G2 c6⟩) ?_
        clear HS hK K
        intro HS
        try simp only [Act.put, lpa, lpb, lpc]
        refine clT 7 (fun K hK => ?_)
        rw [if_pos (by rfl)]
        refine wp_append_own_at _ _ _ 24 rfl base 38 i0 _ 7 72 Tryz.underlying24 hi hz0 hz1 hz2 rfl (by decide) _ _ _ rfl (ownsRow_grew RW.out.own G2) ⟨_, 0, none⟩ 1 1 [.int .i64 3, .int .i64 0, .int .i64 0, .string nm, .int .i64 pr.kind, .int .i64 pr.int, .string pr.str] rfl rfl (newsL (by simp)) (fun x hx => List.all_eq_true.1 (show ([.int .i64 3, .int .i64 0, .int .i64 0, .string nm, .int .i64 pr.kind, .int .i64 pr.int, .string pr.str] : List Value).all (fun u => u.oneCell') = true from rfl) x hx) (by unfold maxLen; omega) (by omega) (Nat.le_trans hbW G2.size) ?_
        intro v9 w9 o9 hgr hat
        obtain ⟨va9, vc9, hv9⟩ := own_slice o9
        subst hv9
        have E9 : Ext none W w9 (.slice va ns.length vc) _ := ((Ext.refl none W _).grew G2).app hgr hat
        have PP := Lib.hid (RI.push (nd 3 0 0 nm pr) RW.out G2 o9 hgr hat)
        have n0 := Lib.hid (show ∀ k, some k ≠ (none : Option Nat) from fun k e => by cases e)
        have ng := Lib.hid (RW.out.ne hbg)
        have nb := Lib.hid (BV)
        have P1 := E9.cell p1 (n0.out _) ng.out
        have Z1 := E9.frozen p1 (n0.out _) ng.out RW.out.z1
        have d0 := E9.cell c0 (n0.out _) nb.out
        have d1 := E9.cell c1 (n0.out _) nb.out
        have d2 := E9.cell c2 (n0.out _) nb.out
        have d3 := E9.cell c3 (n0.out _) nb.out
        have d4 := E9.cell c4 (n0.out _) nb.out
        have d5 := E9.cell c5 (n0.out _) nb.out
        have d6 := E9.cell c6 (n0.out _) nb.out
        clear o9 hgr hat E9
        refine hK.out _ _ (⟨P1, d0, d1, d2, d3, d4, d5, d6⟩) ?_
        clear HS hK K
        intro HS
        try simp only [Act.put, lpa, lpb, lpc]
        refine tkP 8 (.inr HS) ?_
        refine tkP 9 (.inr HS) ?_
        refine clE (fun K hK => ?_)
        rw [if_pos (by rfl)]
        go_simp
        refine hK.out _ _ fun _ => ?_
        clear HS hK K
        try simp only [Act.put, lpa, lpb, lpc]
        refine doneT ?_
        refine NoPanic.normal ?_
        clear d0 d1 d2 d3 d4 d5 d6
        go_wp2
        go_ret
        rw [HR.out]
        exact ⟨_, rfl, PP.out.1, EW.out.trans PP.out.2⟩
      · skip
        obtain ⟨nm, hnm_⟩ : ∃ y, hdB ws.tail = y := ⟨_, rfl⟩
        have HNM := Lib.hid hnm_
        have BV := HVX.out
        have hsv : (hdB ws.tail.tail).size ≤ 4000000 := by have h := hd_size HTM2.out 0; rwa [List.drop_zero] at h
        obtain ⟨sv, hsv_⟩ : ∃ y, hdB ws.tail.tail = y := ⟨_, rfl⟩
        have HSV := Lib.hid hsv_
        rw [hsv_] at hsv
        obtain ⟨pr, hpr_⟩ : ∃ y, pvR sv = y := ⟨_, rfl⟩
        have HPR := Lib.hid hpr_
        obtain ⟨pb, hpb_⟩ : ∃ y, pvB sv = y := ⟨_, rfl⟩
        have HPB := Lib.hid hpb_
        have HR := Lib.hid (show rdI (d + 1) ws ns = (pb, ws.tail.tail.tail, ns ++ [nd 4 0 0 nm pr]) by rw [rdI_3 (op := 4) HOP.out (by decide), hnm_, hsv_, hpr_, hpb_])
        clear hnm_ hsv_ hpr_ hpb_
        have e0 : World.cell? wr ⟨w1.heap.size, 0, none⟩ = some (.int .i64 4) := BX.out.1 0 _ rfl
        have e1 : World.cell? wr ⟨w1.heap.size, 1, none⟩ = some (.int .i64 0) := BX.out.1 1 _ rfl
        have e2 : World.cell? wr ⟨w1.heap.size, 2, none⟩ = some (.int .i64 0) := BX.out.1 2 _ rfl
        have e3 : World.cell? wr ⟨w1.heap.size, 3, none⟩ = some (.string ⟨#[]⟩) := BX.out.1 3 _ rfl
        have e4 : World.cell? wr ⟨w1.heap.size, 4, none⟩ = some (.int .i64 0) := BX.out.1 4 _ rfl
        have e5 : World.cell? wr ⟨w1.heap.size, 5, none⟩ = some (.int .i64 0) := BX.out.1 5 _ rfl
        have e6 : World.cell? wr ⟨w1.heap.size, 6, none⟩ = some (.string ⟨#[]⟩) := BX.out.1 6 _ rfl
        have f0 : World.frozen? wr ⟨w1.heap.size, 0, none⟩ = false := BX.out.2 0 (by decide)
        have f1 : World.frozen? wr ⟨w1.heap.size, 1, none⟩ = false := BX.out.2 1 (by decide)
        have f2 : World.frozen? wr ⟨w1.heap.size, 2, none⟩ = false := BX.out.2 2 (by decide)
        have f3 : World.frozen? wr ⟨w1.heap.size, 3, none⟩ = false := BX.out.2 3 (by decide)
        have f4 : World.frozen? wr ⟨w1.heap.size, 4, none⟩ = false := BX.out.2 4 (by decide)
        have f5 : World.frozen? wr ⟨w1.heap.size, 5, none⟩ = false := BX.out.2 5 (by decide)
        have f6 : World.frozen? wr ⟨w1.heap.size, 6, none⟩ = false := BX.out.2 6 (by decide)
        go_wp2_with fail
        refine (implNext g F base ws.tail _ ns _ RX.out (by omega)).mono ?_
        rintro e w5 ⟨he, r5, x5⟩
        rw [HNM.out] at he
        subst he
        have R5 := Lib.hid r5
        have E5 := Lib.hid (EX.out.trans x5)
        have B5 := Lib.hid (BX.out.ext x5 HGX.out HVX.out)
        clear r5 x5
        clear e0 f0 e1 f1 e2 f2 e3 f3 e4 f4 e5 f5 e6 f6
        have e0 : World.cell? w5 ⟨w1.heap.size, 0, none⟩ = some (.int .i64 4) := B5.out.1 0 _ rfl
        have e1 : World.cell? w5 ⟨w1.heap.size, 1, none⟩ = some (.int .i64 0) := B5.out.1 1 _ rfl
        have e2 : World.cell? w5 ⟨w1.heap.size, 2, none⟩ = some (.int .i64 0) := B5.out.1 2 _ rfl
        have e3 : World.cell? w5 ⟨w1.heap.size, 3, none⟩ = some (.string ⟨#[]⟩) := B5.out.1 3 _ rfl
        have e4 : World.cell? w5 ⟨w1.heap.size, 4, none⟩ = some (.int .i64 0) := B5.out.1 4 _ rfl
        have e5 : World.cell? w5 ⟨w1.heap.size, 5, none⟩ = some (.int .i64 0) := B5.out.1 5 _ rfl
        have e6 : World.cell? w5 ⟨w1.heap.size, 6, none⟩ = some (.string ⟨#[]⟩) := B5.out.1 6 _ rfl
        have f0 : World.frozen? w5 ⟨w1.heap.size, 0, none⟩ = false := B5.out.2 0 (by decide)
        have f1 : World.frozen? w5 ⟨w1.heap.size, 1, none⟩ = false := B5.out.2 1 (by decide)
        have f2 : World.frozen? w5 ⟨w1.heap.size, 2, none⟩ = false := B5.out.2 2 (by decide)
        have f3 : World.frozen? w5 ⟨w1.heap.size, 3, none⟩ = false := B5.out.2 3 (by decide)
        have f4 : World.frozen? w5 ⟨w1.heap.size, 4, none⟩ = false := B5.out.2 4 (by decide)
        have f5 : World.frozen? w5 ⟨w1.heap.size, 5, none⟩ = false := B5.out.2 5 (by decide)
        have f6 : World.frozen? w5 ⟨w1.heap.size, 6, none⟩ = false := B5.out.2 6 (by decide)
        go_wp2_with fail
        refine (implNext g F base ws.tail.tail _ ns _ (R5.out.set (by omega) HVN.out) (by omega)).mono ?_
        rintro e w6 ⟨he, r5, x5⟩
        rw [HSV.out] at he
        subst he
        have R6 := Lib.hid r5
        have E6 := Lib.hid ((E5.out.set hw1).trans x5)
        have B6 := Lib.hid ((NBox.set B5.out 3 (.string nm) (y := nd 4 0 0 nm V.z) (by decide) rfl).ext x5 HGX.out HVX.out)
        clear r5 x5
        clear e0 f0 e1 f1 e2 f2 e3 f3 e4 f4 e5 f5 e6 f6
        go_wp2_with fail
        have G6 := E6.out.grewTo GW.out (fun k hk => by injection hk with hk; omega) (fun k hk => by have := (HVB.out k hk).1; omega)
        refine (implParseValue sv hsv _ (HT0.out.grew G6) (HE0.out.grew G6)).mono ?_
        rintro e w7 ⟨he, g7⟩
        rw [HPR.out, HPB.out] at he
        subst he
        have B7 := Lib.hid (B6.out.grew g7)
        have e0 : World.cell? w7 ⟨w1.heap.size, 0, none⟩ = some (.int .i64 4) := B7.out.1 0 _ rfl
        have e1 : World.cell? w7 ⟨w1.heap.size, 1, none⟩ = some (.int .i64 0) := B7.out.1 1 _ rfl
        have e2 : World.cell? w7 ⟨w1.heap.size, 2, none⟩ = some (.int .i64 0) := B7.out.1 2 _ rfl
        have e3 : World.cell? w7 ⟨w1.heap.size, 3, none⟩ = some (.string nm) := B7.out.1 3 _ rfl
        have e4 : World.cell? w7 ⟨w1.heap.size, 4, none⟩ = some (.int .i64 0) := B7.out.1 4 _ rfl
        have e5 : World.cell? w7 ⟨w1.heap.size, 5, none⟩ = some (.int .i64 0) := B7.out.1 5 _ rfl
        have e6 : World.cell? w7 ⟨w1.heap.size, 6, none⟩ = some (.string ⟨#[]⟩) := B7.out.1 6 _ rfl
        have f0 : World.frozen? w7 ⟨w1.heap.size, 0, none⟩ = false := B7.out.2 0 (by decide)
        have f1 : World.frozen? w7 ⟨w1.heap.size, 1, none⟩ = false := B7.out.2 1 (by decide)
        have f2 : World.frozen? w7 ⟨w1.heap.size, 2, none⟩ = false := B7.out.2 2 (by decide)
        have f3 : World.frozen? w7 ⟨w1.heap.size, 3, none⟩ = false := B7.out.2 3 (by decide)
        have f4 : World.frozen? w7 ⟨w1.heap.size, 4, none⟩ = false := B7.out.2 4 (by decide)
        have f5 : World.frozen? w7 ⟨w1.heap.size, 5, none⟩ = false := B7.out.2 5 (by decide)
        have f6 : World.frozen? w7 ⟨w1.heap.size, 6, none⟩ = false := B7.out.2 6 (by decide)
        go_wp2_with fail
        have RW : Hid (RI (((w7.setCell ⟨w1.heap.size, 4, none⟩ (.int .i64 pr.kind)).setCell ⟨w1.heap.size, 5, none⟩ (.int .i64 pr.int)).setCell ⟨w1.heap.size, 6, none⟩ (.string pr.str)) g F base _ (.slice va ns.length vc) _) := Lib.hid ((((R6.out.grew g7).set (by omega) HVN.out).set (by omega) HVN.out).set (by omega) HVN.out)
        have EW : Hid (Ext (some g) w (((w7.setCell ⟨w1.heap.size, 4, none⟩ (.int .i64 pr.kind)).setCell ⟨w1.heap.size, 5, none⟩ (.int .i64 pr.int)).setCell ⟨w1.heap.size, 6, none⟩ (.string pr.str)) (.slice va ns.length vc) (.slice va ns.length vc)) := Lib.hid ((((E6.out.grew g7).set hw1).set hw1).set hw1)
        have BW : Hid (NBox (((w7.setCell ⟨w1.heap.size, 4, none⟩ (.int .i64 pr.kind)).setCell ⟨w1.heap.size, 5, none⟩ (.int .i64 pr.int)).setCell ⟨w1.heap.size, 6, none⟩ (.string pr.str)) w1.heap.size (nd 4 0 0 nm pr)) := Lib.hid (NBox.set (NBox.set (NBox.set B7.out 4 (.int .i64 pr.kind) (y := nd 4 0 0 nm ⟨pr.kind, 0, ⟨#[]⟩⟩) (by decide) rfl) 5 (.int .i64 pr.int) (y := nd 4 0 0 nm ⟨pr.kind, pr.int, ⟨#[]⟩⟩) (by decide) rfl) 6 (.string pr.str) (y := nd 4 0 0 nm pr) (by decide) rfl)
        have hbW := RW.out.lb
        obtain ⟨W, hW⟩ : ∃ y, (((w7.setCell ⟨w1.heap.size, 4, none⟩ (.int .i64 pr.kind)).setCell ⟨w1.heap.size, 5, none⟩ (.int .i64 pr.int)).setCell ⟨w1.heap.size, 6, none⟩ (.string pr.str)) = y := ⟨_, rfl⟩
        rw [hW] at RW EW BW hbW ⊢
        clear hW
        have p1 := RW.out.n
        have c0 : W.cell? ⟨w1.heap.size, 0, none⟩ = some (.int .i64 4) := BW.out.1 0 _ rfl
        have c1 : W.cell? ⟨w1.heap.size, 1, none⟩ = some (.int .i64 0) := BW.out.1 1 _ rfl
        have c2 : W.cell? ⟨w1.heap.size, 2, none⟩ = some (.int .i64 0) := BW.out.1 2 _ rfl
        have c3 : W.cell? ⟨w1.heap.size, 3, none⟩ = some (.string nm) := BW.out.1 3 _ rfl
        have c4 : W.cell? ⟨w1.heap.size, 4, none⟩ = some (.int .i64 pr.kind) := BW.out.1 4 _ rfl
        have c5 : W.cell? ⟨w1.heap.size, 5, none⟩ = some (.int .i64 pr.int) := BW.out.1 5 _ rfl
        have c6 : W.cell? ⟨w1.heap.size, 6, none⟩ = some (.string pr.str) := BW.out.1 6 _ rfl
        refine wp_region_noPanic ?_
        refine wp_region_T 10 (fun w' => (w'.cell? ⟨g, 1, none⟩ = some (.slice va ns.length vc) ∧ w'.cell? ⟨w1.heap.size, 0, none⟩ = some (.int .i64 4) ∧ w'.cell? ⟨w1.heap.size, 1, none⟩ = some (.int .i64 0) ∧ w'.cell? ⟨w1.heap.size, 2, none⟩ = some (.int .i64 0) ∧ w'.cell? ⟨w1.heap.size, 3, none⟩ = some (.string nm) ∧ w'.cell? ⟨w1.heap.size, 4, none⟩ = some (.int .i64 pr.kind) ∧ w'.cell? ⟨w1.heap.size, 5, none⟩ = some (.int .i64 pr.int) ∧ w'.cell? ⟨w1.heap.size, 6, none⟩ = some (.string pr.str))) (by kernel_rfl) (⟨grew_cell (Grew.refl W).drew p1, grew_cell (Grew.refl W).drew c0, grew_cell (Grew.refl W).drew c1, grew_cell (Grew.refl W).drew c2, grew_cell (Grew.refl W).drew c3, grew_cell (Grew.refl W).drew c4, grew_cell (Grew.refl W).drew c5, grew_cell (Grew.refl W).drew c6⟩) ?_
        intro HS
        replace HS := HS.resolve_left (by decide)
        refine tkP 0 (.inr HS) ?_
        refine tkP 1 (.inr HS) ?_
        refine tkP 2 (.inr HS) ?_
        refine tkP 3 (.inr HS) ?_
        refine tkT 4 [7, 10] HS ?_
        refine tkT 5 [6, 7, 10] HS ?_
        refine clT 6 (fun K hK => ?_)
        rw [if_pos (by rfl)]
        have G2 := (Grew.refl W).drew.alloc (.cells #[.int .i64 4, .int .i64 0, .int .i64 0, .string nm, .int .i64 pr.kind, .int .i64 pr.int, .string pr.str] 38)
        go_simp
        refine hK.out _ _ (⟨grew_cell G2 p1, grew_cell G2 c0, grew_cell G2 c1, grew_cell G2 c2, grew_cell G2 c3, grew_cell G2 c4, grew_cell G2 c5, grew_cell G2 c6⟩) ?_
        clear HS hK K
        intro HS
        try simp only [Act.put, lpa, lpb, lpc]
        refine clT 7 (fun K hK => ?_)
        rw [if_pos (by rfl)]
        refine wp_append_own_at _ _ _ 24 rfl base 38 i0 _ 7 72 Tryz.underlying24 hi hz0 hz1 hz2 rfl (by decide) _ _ _ rfl (ownsRow_grew RW.out.own G2) ⟨_, 0, none⟩ 1 1 [.int .i64 4, .int .i64 0, .int .i64 0, .string nm, .int .i64 pr.kind, .int .i64 pr.int, .string pr.str] rfl rfl (newsL (by simp)) (fun x hx => List.all_eq_true.1 (show ([.int .i64 4, .int .i64 0, .int .i64 0, .string nm, .int .i64 pr.kind, .int .i64 pr.int, .string pr.str] : List Value).all (fun u => u.oneCell') = true from rfl) x hx) (by unfold maxLen; omega) (by omega) (Nat.le_trans hbW G2.size) ?_
        intro v9 w9 o9 hgr hat
        obtain ⟨va9, vc9, hv9⟩ := own_slice o9
        subst hv9
        have E9 : Ext none W w9 (.slice va ns.length vc) _ := ((Ext.refl none W _).grew G2).app hgr hat
        have PP := Lib.hid (RI.push (nd 4 0 0 nm pr) RW.out G2 o9 hgr hat)
        have n0 := Lib.hid (show ∀ k, some k ≠ (none : Option Nat) from fun k e => by cases e)
        have ng := Lib.hid (RW.out.ne hbg)
        have nb := Lib.hid (BV)
        have P1 := E9.cell p1 (n0.out _) ng.out
        have Z1 := E9.frozen p1 (n0.out _) ng.out RW.out.z1
        have d0 := E9.cell c0 (n0.out _) nb.out
        have d1 := E9.cell c1 (n0.out _) nb.out
        have d2 := E9.cell c2 (n0.out _) nb.out
        have d3 := E9.cell c3 (n0.out _) nb.out
        have d4 := E9.cell c4 (n0.out _) nb.out
        have d5 := E9.cell c5 (n0.out _) nb.out
        have d6 := E9.cell c6 (n0.out _) nb.out
        clear o9 hgr hat E9
        refine hK.out _ _ (⟨P1, d0, d1, d2, d3, d4, d5, d6⟩) ?_
        clear HS hK K
        intro HS
        try simp only [Act.put, lpa, lpb, lpc]
        refine tkP 8 (.inr HS) ?_
        refine tkP 9 (.inr HS) ?_
        refine clE (fun K hK => ?_)
        rw [if_pos (by rfl)]
        go_simp
        refine hK.out _ _ fun _ => ?_
        clear HS hK K
        try simp only [Act.put, lpa, lpb, lpc]
        refine doneT ?_
        refine NoPanic.normal ?_
        clear d0 d1 d2 d3 d4 d5 d6
        go_wp2
        go_ret
        rw [HR.out]
        exact ⟨_, rfl, PP.out.1, EW.out.trans PP.out.2⟩
      · skip
        have h1q := HNZ.out (by decide)
        have htl3 : ws.tail.length = ws.length - 1 := List.length_tail
        have hA := rdI_b d ws.tail ns
        obtain ⟨⟨ab, aw, an⟩, ha_⟩ : ∃ y, rdI d ws.tail ns = y := ⟨_, rfl⟩
        rw [ha_] at hA
        dsimp only at hA
        obtain ⟨hm_, hal, han, hay_⟩ := hA
        have HAM := Lib.hid (fun x (hx : x ∈ aw) => HTM.out x (hm_ x hx))
        have HA := Lib.hid ha_
        have HR := Lib.hid (rdI_5 (d := d) (ns := ns) HOP.out ha_)
        clear hm_ hay_ ha_
        have e0 : World.cell? wr ⟨w1.heap.size, 0, none⟩ = some (.int .i64 5) := BX.out.1 0 _ rfl
        have e1 : World.cell? wr ⟨w1.heap.size, 1, none⟩ = some (.int .i64 0) := BX.out.1 1 _ rfl
        have e2 : World.cell? wr ⟨w1.heap.size, 2, none⟩ = some (.int .i64 0) := BX.out.1 2 _ rfl
        have e3 : World.cell? wr ⟨w1.heap.size, 3, none⟩ = some (.string ⟨#[]⟩) := BX.out.1 3 _ rfl
        have e4 : World.cell? wr ⟨w1.heap.size, 4, none⟩ = some (.int .i64 0) := BX.out.1 4 _ rfl
        have e5 : World.cell? wr ⟨w1.heap.size, 5, none⟩ = some (.int .i64 0) := BX.out.1 5 _ rfl
        have e6 : World.cell? wr ⟨w1.heap.size, 6, none⟩ = some (.string ⟨#[]⟩) := BX.out.1 6 _ rfl
        have f0 : World.frozen? wr ⟨w1.heap.size, 0, none⟩ = false := BX.out.2 0 (by decide)
        have f1 : World.frozen? wr ⟨w1.heap.size, 1, none⟩ = false := BX.out.2 1 (by decide)
        have f2 : World.frozen? wr ⟨w1.heap.size, 2, none⟩ = false := BX.out.2 2 (by decide)
        have f3 : World.frozen? wr ⟨w1.heap.size, 3, none⟩ = false := BX.out.2 3 (by decide)
        have f4 : World.frozen? wr ⟨w1.heap.size, 4, none⟩ = false := BX.out.2 4 (by decide)
        have f5 : World.frozen? wr ⟨w1.heap.size, 5, none⟩ = false := BX.out.2 5 (by decide)
        have f6 : World.frozen? wr ⟨w1.heap.size, 6, none⟩ = false := BX.out.2 6 (by decide)
        go_wp2_with fail
        refine (IH.out ws.tail ns _ _ (by omega) (by omega) (by omega) HTM.out RX.out GR.out).mono ?_
        rintro e w5 ⟨v5, he, r5, x5⟩
        rw [HA.out] at he r5
        dsimp only at he r5
        subst he
        have hsz5 := x5.size
        have BV : some w1.heap.size ≠ v5.ownBlock := fun e => x5.blk.elim (fun hb => HVX.out (by rw [← hb]; exact e)) (fun hb => by have := hb _ e.symm; omega)
        have E5 := Lib.hid (EX.out.trans x5)
        have B5 := Lib.hid (BX.out.ext x5 HGX.out HVX.out)
        have R5 := Lib.hid r5
        obtain ⟨va5, vc5, hv5⟩ := own_slice r5.own
        subst hv5
        have BV5 := Lib.hid BV
        have BN5 := Lib.hid (show (Value.slice va5 an.length vc5).ownBlock ≠ some w1.heap.size from fun e => BV e.symm)
        have p5 := r5.n
        clear r5 x5
        clear e0 f0 e1 f1 e2 f2 e3 f3 e4 f4 e5 f5 e6 f6
        have e0 : World.cell? w5 ⟨w1.heap.size, 0, none⟩ = some (.int .i64 5) := B5.out.1 0 _ rfl
        have e1 : World.cell? w5 ⟨w1.heap.size, 1, none⟩ = some (.int .i64 0) := B5.out.1 1 _ rfl
        have e2 : World.cell? w5 ⟨w1.heap.size, 2, none⟩ = some (.int .i64 0) := B5.out.1 2 _ rfl
        have e3 : World.cell? w5 ⟨w1.heap.size, 3, none⟩ = some (.string ⟨#[]⟩) := B5.out.1 3 _ rfl
        have e4 : World.cell? w5 ⟨w1.heap.size, 4, none⟩ = some (.int .i64 0) := B5.out.1 4 _ rfl
        have e5 : World.cell? w5 ⟨w1.heap.size, 5, none⟩ = some (.int .i64 0) := B5.out.1 5 _ rfl
        have e6 : World.cell? w5 ⟨w1.heap.size, 6, none⟩ = some (.string ⟨#[]⟩) := B5.out.1 6 _ rfl
        have f0 : World.frozen? w5 ⟨w1.heap.size, 0, none⟩ = false := B5.out.2 0 (by decide)
        have f1 : World.frozen? w5 ⟨w1.heap.size, 1, none⟩ = false := B5.out.2 1 (by decide)
        have f2 : World.frozen? w5 ⟨w1.heap.size, 2, none⟩ = false := B5.out.2 2 (by decide)
        have f3 : World.frozen? w5 ⟨w1.heap.size, 3, none⟩ = false := B5.out.2 3 (by decide)
        have f4 : World.frozen? w5 ⟨w1.heap.size, 4, none⟩ = false := B5.out.2 4 (by decide)
        have f5 : World.frozen? w5 ⟨w1.heap.size, 5, none⟩ = false := B5.out.2 5 (by decide)
        have f6 : World.frozen? w5 ⟨w1.heap.size, 6, none⟩ = false := B5.out.2 6 (by decide)
        go_wp2_with fail
        have RW : Hid (RI (w5.setCell ⟨w1.heap.size, 1, none⟩ (.int .i64 ((an.length : Int) - 1))) g F base _ (.slice va5 an.length vc5) _) := Lib.hid (R5.out.set (by omega) BN5.out)
        have EW : Hid (Ext (some g) w (w5.setCell ⟨w1.heap.size, 1, none⟩ (.int .i64 ((an.length : Int) - 1))) (.slice va ns.length vc) (.slice va5 an.length vc5)) := Lib.hid (E5.out.set hw1)
        have BW : Hid (NBox (w5.setCell ⟨w1.heap.size, 1, none⟩ (.int .i64 ((an.length : Int) - 1))) w1.heap.size (nd 5 ((an.length : Int) - 1) 0 ⟨#[]⟩ V.z)) := Lib.hid (NBox.set B5.out 1 (.int .i64 ((an.length : Int) - 1)) (y := nd 5 ((an.length : Int) - 1) 0 ⟨#[]⟩ V.z) (by decide) rfl)
        have hbW := RW.out.lb
        obtain ⟨W, hW⟩ : ∃ y, (w5.setCell ⟨w1.heap.size, 1, none⟩ (.int .i64 ((an.length : Int) - 1))) = y := ⟨_, rfl⟩
        rw [hW] at RW EW BW hbW ⊢
        clear hW
        have p1 := RW.out.n
        have c0 : W.cell? ⟨w1.heap.size, 0, none⟩ = some (.int .i64 5) := BW.out.1 0 _ rfl
        have c1 : W.cell? ⟨w1.heap.size, 1, none⟩ = some (.int .i64 ((an.length : Int) - 1)) := BW.out.1 1 _ rfl
        have c2 : W.cell? ⟨w1.heap.size, 2, none⟩ = some (.int .i64 0) := BW.out.1 2 _ rfl
        have c3 : W.cell? ⟨w1.heap.size, 3, none⟩ = some (.string ⟨#[]⟩) := BW.out.1 3 _ rfl
        have c4 : W.cell? ⟨w1.heap.size, 4, none⟩ = some (.int .i64 0) := BW.out.1 4 _ rfl
        have c5 : W.cell? ⟨w1.heap.size, 5, none⟩ = some (.int .i64 0) := BW.out.1 5 _ rfl
        have c6 : W.cell? ⟨w1.heap.size, 6, none⟩ = some (.string ⟨#[]⟩) := BW.out.1 6 _ rfl
        refine wp_region_noPanic ?_
        refine wp_region_T 10 (fun w' => (w'.cell? ⟨g, 1, none⟩ = some (.slice va5 an.length vc5) ∧ w'.cell? ⟨w1.heap.size, 0, none⟩ = some (.int .i64 5) ∧ w'.cell? ⟨w1.heap.size, 1, none⟩ = some (.int .i64 ((an.length : Int) - 1)) ∧ w'.cell? ⟨w1.heap.size, 2, none⟩ = some (.int .i64 0) ∧ w'.cell? ⟨w1.heap.size, 3, none⟩ = some (.string ⟨#[]⟩) ∧ w'.cell? ⟨w1.heap.size, 4, none⟩ = some (.int .i64 0) ∧ w'.cell? ⟨w1.heap.size, 5, none⟩ = some (.int .i64 0) ∧ w'.cell? ⟨w1.heap.size, 6, none⟩ = some (.string ⟨#[]⟩))) (by kernel_rfl) (⟨grew_cell (Grew.refl W).drew p1, grew_cell (Grew.refl W).drew c0, grew_cell (Grew.refl W).drew c1, grew_cell (Grew.refl W).drew c2, grew_cell (Grew.refl W).drew c3, grew_cell (Grew.refl W).drew c4, grew_cell (Grew.refl W).drew c5, grew_cell (Grew.refl W).drew c6⟩) ?_
        intro HS
        replace HS := HS.resolve_left (by decide)
        refine tkP 0 (.inr HS) ?_
        refine tkP 1 (.inr HS) ?_
        refine tkP 2 (.inr HS) ?_
        refine tkP 3 (.inr HS) ?_
        refine tkT 4 [7, 10] HS ?_
        refine tkT 5 [6, 7, 10] HS ?_
        refine clT 6 (fun K hK => ?_)
        rw [if_pos (by rfl)]
        have G2 := (Grew.refl W).drew.alloc (.cells #[.int .i64 5, .int .i64 ((an.length : Int) - 1), .int .i64 0, .string ⟨#[]⟩, .int .i64 0, .int .i64 0, .string ⟨#[]⟩] 38)
        go_simp
        refine hK.out _ _ (⟨grew_cell G2 p1, grew_cell G2 c0, grew_cell G2 c1, grew_cell G2 c2, grew_cell G2 c3, grew_cell G2 c4, grew_cell G2 c5, grew_cell G2 c6⟩) ?_
        clear HS hK K
        intro HS
        try simp only [Act.put, lpa, lpb, lpc]
        refine clT 7 (fun K hK => ?_)
        rw [if_pos (by rfl)]
        refine wp_append_own_at _ _ _ 24 rfl base 38 i0 _ 7 72 Tryz.underlying24 hi hz0 hz1 hz2 rfl (by decide) _ _ _ rfl (ownsRow_grew RW.out.own G2) ⟨_, 0, none⟩ 1 1 [.int .i64 5, .int .i64 ((an.length : Int) - 1), .int .i64 0, .string ⟨#[]⟩, .int .i64 0, .int .i64 0, .string ⟨#[]⟩] rfl rfl (newsL (by simp)) (fun x hx => List.all_eq_true.1 (show ([.int .i64 5, .int .i64 ((an.length : Int) - 1), .int .i64 0, .string ⟨#[]⟩, .int .i64 0, .int .i64 0, .string ⟨#[]⟩] : List Value).all (fun u => u.oneCell') = true from rfl) x hx) (by unfold maxLen; omega) (by omega) (Nat.le_trans hbW G2.size) ?_
        intro v9 w9 o9 hgr hat
        obtain ⟨va9, vc9, hv9⟩ := own_slice o9
        subst hv9
        have E9 : Ext none W w9 (.slice va5 an.length vc5) _ := ((Ext.refl none W _).grew G2).app hgr hat
        have PP := Lib.hid (RI.push (nd 5 ((an.length : Int) - 1) 0 ⟨#[]⟩ V.z) RW.out G2 o9 hgr hat)
        have n0 := Lib.hid (show ∀ k, some k ≠ (none : Option Nat) from fun k e => by cases e)
        have ng := Lib.hid (RW.out.ne hbg)
        have nb := Lib.hid (BV)
        have P1 := E9.cell p1 (n0.out _) ng.out
        have Z1 := E9.frozen p1 (n0.out _) ng.out RW.out.z1
        have d0 := E9.cell c0 (n0.out _) nb.out
        have d1 := E9.cell c1 (n0.out _) nb.out
        have d2 := E9.cell c2 (n0.out _) nb.out
        have d3 := E9.cell c3 (n0.out _) nb.out
        have d4 := E9.cell c4 (n0.out _) nb.out
        have d5 := E9.cell c5 (n0.out _) nb.out
        have d6 := E9.cell c6 (n0.out _) nb.out
        clear o9 hgr hat E9
        refine hK.out _ _ (⟨P1, d0, d1, d2, d3, d4, d5, d6⟩) ?_
        clear HS hK K
        intro HS
        try simp only [Act.put, lpa, lpb, lpc]
        refine tkP 8 (.inr HS) ?_
        refine tkP 9 (.inr HS) ?_
        refine clE (fun K hK => ?_)
        rw [if_pos (by rfl)]
        go_simp
        refine hK.out _ _ fun _ => ?_
        clear HS hK K
        try simp only [Act.put, lpa, lpb, lpc]
        refine doneT ?_
        refine NoPanic.normal ?_
        clear d0 d1 d2 d3 d4 d5 d6
        go_wp2
        go_ret
        rw [HR.out]
        exact ⟨_, rfl, PP.out.1, EW.out.trans PP.out.2⟩
      · skip
        have h1q := HNZ.out (by decide)
        have htl3 : ws.tail.length = ws.length - 1 := List.length_tail
        have hA := rdI_b d ws.tail ns
        obtain ⟨⟨ab, aw, an⟩, ha_⟩ : ∃ y, rdI d ws.tail ns = y := ⟨_, rfl⟩
        rw [ha_] at hA
        dsimp only at hA
        obtain ⟨hm_, hal, han, hay_⟩ := hA
        have HAM := Lib.hid (fun x (hx : x ∈ aw) => HTM.out x (hm_ x hx))
        have HA := Lib.hid ha_
        have HAY := Lib.hid hay_
        clear hm_ hay_ ha_
        have e0 : World.cell? wr ⟨w1.heap.size, 0, none⟩ = some (.int .i64 6) := BX.out.1 0 _ rfl
        have e1 : World.cell? wr ⟨w1.heap.size, 1, none⟩ = some (.int .i64 0) := BX.out.1 1 _ rfl
        have e2 : World.cell? wr ⟨w1.heap.size, 2, none⟩ = some (.int .i64 0) := BX.out.1 2 _ rfl
        have e3 : World.cell? wr ⟨w1.heap.size, 3, none⟩ = some (.string ⟨#[]⟩) := BX.out.1 3 _ rfl
        have e4 : World.cell? wr ⟨w1.heap.size, 4, none⟩ = some (.int .i64 0) := BX.out.1 4 _ rfl
        have e5 : World.cell? wr ⟨w1.heap.size, 5, none⟩ = some (.int .i64 0) := BX.out.1 5 _ rfl
        have e6 : World.cell? wr ⟨w1.heap.size, 6, none⟩ = some (.string ⟨#[]⟩) := BX.out.1 6 _ rfl
        have f0 : World.frozen? wr ⟨w1.heap.size, 0, none⟩ = false := BX.out.2 0 (by decide)
        have f1 : World.frozen? wr ⟨w1.heap.size, 1, none⟩ = false := BX.out.2 1 (by decide)
        have f2 : World.frozen? wr ⟨w1.heap.size, 2, none⟩ = false := BX.out.2 2 (by decide)
        have f3 : World.frozen? wr ⟨w1.heap.size, 3, none⟩ = false := BX.out.2 3 (by decide)
        have f4 : World.frozen? wr ⟨w1.heap.size, 4, none⟩ = false := BX.out.2 4 (by decide)
        have f5 : World.frozen? wr ⟨w1.heap.size, 5, none⟩ = false := BX.out.2 5 (by decide)
        have f6 : World.frozen? wr ⟨w1.heap.size, 6, none⟩ = false := BX.out.2 6 (by decide)
        go_wp2_with fail
        refine (IH.out ws.tail ns _ _ (by omega) (by omega) (by omega) HTM.out RX.out GR.out).mono ?_
        rintro e w5 ⟨v5, he, r5, x5⟩
        rw [HA.out] at he r5
        dsimp only at he r5
        subst he
        have hsz5 := x5.size
        have BV : some w1.heap.size ≠ v5.ownBlock := fun e => x5.blk.elim (fun hb => HVX.out (by rw [← hb]; exact e)) (fun hb => by have := hb _ e.symm; omega)
        have E5 := Lib.hid (EX.out.trans x5)
        have B5 := Lib.hid (BX.out.ext x5 HGX.out HVX.out)
        have R5 := Lib.hid r5
        obtain ⟨va5, vc5, hv5⟩ := own_slice r5.own
        subst hv5
        have BV5 := Lib.hid BV
        have BN5 := Lib.hid (show (Value.slice va5 an.length vc5).ownBlock ≠ some w1.heap.size from fun e => BV e.symm)
        have p5 := r5.n
        clear r5 x5
        clear e0 f0 e1 f1 e2 f2 e3 f3 e4 f4 e5 f5 e6 f6
        have e0 : World.cell? w5 ⟨w1.heap.size, 0, none⟩ = some (.int .i64 6) := B5.out.1 0 _ rfl
        have e1 : World.cell? w5 ⟨w1.heap.size, 1, none⟩ = some (.int .i64 0) := B5.out.1 1 _ rfl
        have e2 : World.cell? w5 ⟨w1.heap.size, 2, none⟩ = some (.int .i64 0) := B5.out.1 2 _ rfl
        have e3 : World.cell? w5 ⟨w1.heap.size, 3, none⟩ = some (.string ⟨#[]⟩) := B5.out.1 3 _ rfl
        have e4 : World.cell? w5 ⟨w1.heap.size, 4, none⟩ = some (.int .i64 0) := B5.out.1 4 _ rfl
        have e5 : World.cell? w5 ⟨w1.heap.size, 5, none⟩ = some (.int .i64 0) := B5.out.1 5 _ rfl
        have e6 : World.cell? w5 ⟨w1.heap.size, 6, none⟩ = some (.string ⟨#[]⟩) := B5.out.1 6 _ rfl
        have f0 : World.frozen? w5 ⟨w1.heap.size, 0, none⟩ = false := B5.out.2 0 (by decide)
        have f1 : World.frozen? w5 ⟨w1.heap.size, 1, none⟩ = false := B5.out.2 1 (by decide)
        have f2 : World.frozen? w5 ⟨w1.heap.size, 2, none⟩ = false := B5.out.2 2 (by decide)
        have f3 : World.frozen? w5 ⟨w1.heap.size, 3, none⟩ = false := B5.out.2 3 (by decide)
        have f4 : World.frozen? w5 ⟨w1.heap.size, 4, none⟩ = false := B5.out.2 4 (by decide)
        have f5 : World.frozen? w5 ⟨w1.heap.size, 5, none⟩ = false := B5.out.2 5 (by decide)
        have f6 : World.frozen? w5 ⟨w1.heap.size, 6, none⟩ = false := B5.out.2 6 (by decide)
        cases ab with
        | false =>
          have HR := Lib.hid (rdI_no (d := d) (ns := ns) HOP.out (by decide) HA.out)
          go_wp2_with fail
          have RW : Hid (RI ((w5.setCell ⟨w1.heap.size, 1, none⟩ (.int .i64 ((an.length : Int) - 1))).setCell ⟨w1.heap.size, 2, none⟩ (.int .i64 ((an.length : Int) - 1))) g F base _ (.slice va5 an.length vc5) _) := Lib.hid ((R5.out.set (by omega) BN5.out).set (by omega) BN5.out)
          have EW : Hid (Ext (some g) w ((w5.setCell ⟨w1.heap.size, 1, none⟩ (.int .i64 ((an.length : Int) - 1))).setCell ⟨w1.heap.size, 2, none⟩ (.int .i64 ((an.length : Int) - 1))) (.slice va ns.length vc) (.slice va5 an.length vc5)) := Lib.hid ((E5.out.set hw1).set hw1)
          have BW : Hid (NBox ((w5.setCell ⟨w1.heap.size, 1, none⟩ (.int .i64 ((an.length : Int) - 1))).setCell ⟨w1.heap.size, 2, none⟩ (.int .i64 ((an.length : Int) - 1))) w1.heap.size (nd 6 ((an.length : Int) - 1) ((an.length : Int) - 1) ⟨#[]⟩ V.z)) := Lib.hid (NBox.set (NBox.set B5.out 1 (.int .i64 ((an.length : Int) - 1)) (y := nd 6 ((an.length : Int) - 1) 0 ⟨#[]⟩ V.z) (by decide) rfl) 2 (.int .i64 ((an.length : Int) - 1)) (y := nd 6 ((an.length : Int) - 1) ((an.length : Int) - 1) ⟨#[]⟩ V.z) (by decide) rfl)
          have hbW := RW.out.lb
          obtain ⟨W, hW⟩ : ∃ y, ((w5.setCell ⟨w1.heap.size, 1, none⟩ (.int .i64 ((an.length : Int) - 1))).setCell ⟨w1.heap.size, 2, none⟩ (.int .i64 ((an.length : Int) - 1))) = y := ⟨_, rfl⟩
          rw [hW] at RW EW BW hbW ⊢
          clear hW
          have p1 := RW.out.n
          have c0 : W.cell? ⟨w1.heap.size, 0, none⟩ = some (.int .i64 6) := BW.out.1 0 _ rfl
          have c1 : W.cell? ⟨w1.heap.size, 1, none⟩ = some (.int .i64 ((an.length : Int) - 1)) := BW.out.1 1 _ rfl
          have c2 : W.cell? ⟨w1.heap.size, 2, none⟩ = some (.int .i64 ((an.length : Int) - 1)) := BW.out.1 2 _ rfl
          have c3 : W.cell? ⟨w1.heap.size, 3, none⟩ = some (.string ⟨#[]⟩) := BW.out.1 3 _ rfl
          have c4 : W.cell? ⟨w1.heap.size, 4, none⟩ = some (.int .i64 0) := BW.out.1 4 _ rfl
          have c5 : W.cell? ⟨w1.heap.size, 5, none⟩ = some (.int .i64 0) := BW.out.1 5 _ rfl
          have c6 : W.cell? ⟨w1.heap.size, 6, none⟩ = some (.string ⟨#[]⟩) := BW.out.1 6 _ rfl
          refine wp_region_noPanic ?_
          refine wp_region_T 10 (fun w' => (w'.cell? ⟨g, 1, none⟩ = some (.slice va5 an.length vc5) ∧ w'.cell? ⟨w1.heap.size, 0, none⟩ = some (.int .i64 6) ∧ w'.cell? ⟨w1.heap.size, 1, none⟩ = some (.int .i64 ((an.length : Int) - 1)) ∧ w'.cell? ⟨w1.heap.size, 2, none⟩ = some (.int .i64 ((an.length : Int) - 1)) ∧ w'.cell? ⟨w1.heap.size, 3, none⟩ = some (.string ⟨#[]⟩) ∧ w'.cell? ⟨w1.heap.size, 4, none⟩ = some (.int .i64 0) ∧ w'.cell? ⟨w1.heap.size, 5, none⟩ = some (.int .i64 0) ∧ w'.cell? ⟨w1.heap.size, 6, none⟩ = some (.string ⟨#[]⟩))) (by kernel_rfl) (⟨grew_cell (Grew.refl W).drew p1, grew_cell (Grew.refl W).drew c0, grew_cell (Grew.refl W).drew c1, grew_cell (Grew.refl W).drew c2, grew_cell (Grew.refl W).drew c3, grew_cell (Grew.refl W).drew c4, grew_cell (Grew.refl W).drew c5, grew_cell (Grew.refl W).drew c6⟩) ?_
          intro HS
          replace HS := HS.resolve_left (by decide)
          refine tkP 0 (.inr HS) ?_
          refine tkP 1 (.inr HS) ?_
          refine tkP 2 (.inr HS) ?_
          refine tkP 3 (.inr HS) ?_
          refine tkT 4 [7, 10] HS ?_
          refine tkT 5 [6, 7, 10] HS ?_
          refine clT 6 (fun K hK => ?_)
          rw [if_pos (by rfl)]
          have G2 := (Grew.refl W).drew.alloc (.cells #[.int .i64 6, .int .i64 ((an.length : Int) - 1), .int .i64 ((an.length : Int) - 1), .string ⟨#[]⟩, .int .i64 0, .int .i64 0, .string ⟨#[]⟩] 38)
          go_simp
          refine hK.out _ _ (⟨grew_cell G2 p1, grew_cell G2 c0, grew_cell G2 c1, grew_cell G2 c2, grew_cell G2 c3, grew_cell G2 c4, grew_cell G2 c5, grew_cell G2 c6⟩) ?_
          clear HS hK K
          intro HS
          try simp only [Act.put, lpa, lpb, lpc]
          refine clT 7 (fun K hK => ?_)
          rw [if_pos (by rfl)]
          refine wp_append_own_at _ _ _ 24 rfl base 38 i0 _ 7 72 Tryz.underlying24 hi hz0 hz1 hz2 rfl (by decide) _ _ _ rfl (ownsRow_grew RW.out.own G2) ⟨_, 0, none⟩ 1 1 [.int .i64 6, .int .i64 ((an.length : Int) - 1), .int .i64 ((an.length : Int) - 1), .string ⟨#[]⟩, .int .i64 0, .int .i64 0, .string ⟨#[]⟩] rfl rfl (newsL (by simp)) (fun x hx => List.all_eq_true.1 (show ([.int .i64 6, .int .i64 ((an.length : Int) - 1), .int .i64 ((an.length : Int) - 1), .string ⟨#[]⟩, .int .i64 0, .int .i64 0, .string ⟨#[]⟩] : List Value).all (fun u => u.oneCell') = true from rfl) x hx) (by unfold maxLen; omega) (by omega) (Nat.le_trans hbW G2.size) ?_
          intro v9 w9 o9 hgr hat
          obtain ⟨va9, vc9, hv9⟩ := own_slice o9
          subst hv9
          have E9 : Ext none W w9 (.slice va5 an.length vc5) _ := ((Ext.refl none W _).grew G2).app hgr hat
          have PP := Lib.hid (RI.push (nd 6 ((an.length : Int) - 1) ((an.length : Int) - 1) ⟨#[]⟩ V.z) RW.out G2 o9 hgr hat)
          have n0 := Lib.hid (show ∀ k, some k ≠ (none : Option Nat) from fun k e => by cases e)
          have ng := Lib.hid (RW.out.ne hbg)
          have nb := Lib.hid (BV)
          have P1 := E9.cell p1 (n0.out _) ng.out
          have Z1 := E9.frozen p1 (n0.out _) ng.out RW.out.z1
          have d0 := E9.cell c0 (n0.out _) nb.out
          have d1 := E9.cell c1 (n0.out _) nb.out
          have d2 := E9.cell c2 (n0.out _) nb.out
          have d3 := E9.cell c3 (n0.out _) nb.out
          have d4 := E9.cell c4 (n0.out _) nb.out
          have d5 := E9.cell c5 (n0.out _) nb.out
          have d6 := E9.cell c6 (n0.out _) nb.out
          clear o9 hgr hat E9
          refine hK.out _ _ (⟨P1, d0, d1, d2, d3, d4, d5, d6⟩) ?_
          clear HS hK K
          intro HS
          try simp only [Act.put, lpa, lpb, lpc]
          refine tkP 8 (.inr HS) ?_
          refine tkP 9 (.inr HS) ?_
          refine clE (fun K hK => ?_)
          rw [if_pos (by rfl)]
          go_simp
          refine hK.out _ _ fun _ => ?_
          clear HS hK K
          try simp only [Act.put, lpa, lpb, lpc]
          refine doneT ?_
          refine NoPanic.normal ?_
          clear d0 d1 d2 d3 d4 d5 d6
          go_wp2
          go_ret
          rw [HR.out]
          exact ⟨_, rfl, PP.out.1, EW.out.trans PP.out.2⟩
        | true =>
          have hay := HAY.out rfl
          have hB := rdI_b d aw an
          obtain ⟨⟨bb, bw, bn⟩, hb_⟩ : ∃ y, rdI d aw an = y := ⟨_, rfl⟩
          rw [hb_] at hB
          dsimp only at hB
          obtain ⟨_, hbl, hbn, _⟩ := hB
          have HB := Lib.hid hb_
          have HR := Lib.hid (rdI_yes (d := d) (ns := ns) HOP.out (by decide) HA.out hb_)
          clear hb_
          have GB5 := Lib.hid (Ext.grewTo (E5.out.set (o := 1) (y := .int .i64 ((an.length : Int) - 1)) hw1) GW.out (fun k hk => by injection hk with hk; omega) (fun k hk => by have := (HVB.out k hk).1; omega))
          go_wp2_with fail
          refine (IH.out aw an _ _ (by omega) (by omega) (by omega) HAM.out (R5.out.set (by omega) BN5.out) GB5.out).mono ?_
          rintro e w7 ⟨v7, he, r7, x7⟩
          rw [HB.out] at he r7
          dsimp only at he r7
          subst he
          have hsz7 := x7.size
          rw [World.size_setCell] at hsz7
          have BV : some w1.heap.size ≠ v7.ownBlock := fun e => x7.blk.elim (fun hb => BV5.out (by rw [← hb]; exact e)) (fun hb => by have := hb _ e.symm; rw [World.size_setCell] at this; omega)
          have E7 := Lib.hid ((E5.out.set hw1).trans x7)
          have B7 := Lib.hid (NBox.ext (NBox.set B5.out 1 (.int .i64 ((an.length : Int) - 1)) (y := nd 6 ((an.length : Int) - 1) 0 ⟨#[]⟩ V.z) (by decide) rfl) x7 HGX.out BV5.out)
          have R7 := Lib.hid r7
          obtain ⟨va7, vc7, hv7⟩ := own_slice r7.own
          subst hv7
          have BN7 := Lib.hid (show (Value.slice va7 bn.length vc7).ownBlock ≠ some w1.heap.size from fun e => BV e.symm)
          have p7 := r7.n
          clear r7 x7
          clear p5 e0 f0 e1 f1 e2 f2 e3 f3 e4 f4 e5 f5 e6 f6
          have e0 : World.cell? w7 ⟨w1.heap.size, 0, none⟩ = some (.int .i64 6) := B7.out.1 0 _ rfl
          have e1 : World.cell? w7 ⟨w1.heap.size, 1, none⟩ = some (.int .i64 ((an.length : Int) - 1)) := B7.out.1 1 _ rfl
          have e2 : World.cell? w7 ⟨w1.heap.size, 2, none⟩ = some (.int .i64 0) := B7.out.1 2 _ rfl
          have e3 : World.cell? w7 ⟨w1.heap.size, 3, none⟩ = some (.string ⟨#[]⟩) := B7.out.1 3 _ rfl
          have e4 : World.cell? w7 ⟨w1.heap.size, 4, none⟩ = some (.int .i64 0) := B7.out.1 4 _ rfl
          have e5 : World.cell? w7 ⟨w1.heap.size, 5, none⟩ = some (.int .i64 0) := B7.out.1 5 _ rfl
          have e6 : World.cell? w7 ⟨w1.heap.size, 6, none⟩ = some (.string ⟨#[]⟩) := B7.out.1 6 _ rfl
          have f0 : World.frozen? w7 ⟨w1.heap.size, 0, none⟩ = false := B7.out.2 0 (by decide)
          have f1 : World.frozen? w7 ⟨w1.heap.size, 1, none⟩ = false := B7.out.2 1 (by decide)
          have f2 : World.frozen? w7 ⟨w1.heap.size, 2, none⟩ = false := B7.out.2 2 (by decide)
          have f3 : World.frozen? w7 ⟨w1.heap.size, 3, none⟩ = false := B7.out.2 3 (by decide)
          have f4 : World.frozen? w7 ⟨w1.heap.size, 4, none⟩ = false := B7.out.2 4 (by decide)
          have f5 : World.frozen? w7 ⟨w1.heap.size, 5, none⟩ = false := B7.out.2 5 (by decide)
          have f6 : World.frozen? w7 ⟨w1.heap.size, 6, none⟩ = false := B7.out.2 6 (by decide)
          go_wp2_with fail
          have RW : Hid (RI (w7.setCell ⟨w1.heap.size, 2, none⟩ (.int .i64 ((bn.length : Int) - 1))) g F base _ (.slice va7 bn.length vc7) _) := Lib.hid (R7.out.set (by omega) BN7.out)
          have EW : Hid (Ext (some g) w (w7.setCell ⟨w1.heap.size, 2, none⟩ (.int .i64 ((bn.length : Int) - 1))) (.slice va ns.length vc) (.slice va7 bn.length vc7)) := Lib.hid (E7.out.set hw1)
          have BW : Hid (NBox (w7.setCell ⟨w1.heap.size, 2, none⟩ (.int .i64 ((bn.length : Int) - 1))) w1.heap.size (nd 6 ((an.length : Int) - 1) ((bn.length : Int) - 1) ⟨#[]⟩ V.z)) := Lib.hid (NBox.set B7.out 2 (.int .i64 ((bn.length : Int) - 1)) (y := nd 6 ((an.length : Int) - 1) ((bn.length : Int) - 1) ⟨#[]⟩ V.z) (by decide) rfl)
          have hbW := RW.out.lb
          obtain ⟨W, hW⟩ : ∃ y, (w7.setCell ⟨w1.heap.size, 2, none⟩ (.int .i64 ((bn.length : Int) - 1))) = y := ⟨_, rfl⟩
          rw [hW] at RW EW BW hbW ⊢
          clear hW
          have p1 := RW.out.n
          have c0 : W.cell? ⟨w1.heap.size, 0, none⟩ = some (.int .i64 6) := BW.out.1 0 _ rfl
          have c1 : W.cell? ⟨w1.heap.size, 1, none⟩ = some (.int .i64 ((an.length : Int) - 1)) := BW.out.1 1 _ rfl
          have c2 : W.cell? ⟨w1.heap.size, 2, none⟩ = some (.int .i64 ((bn.length : Int) - 1)) := BW.out.1 2 _ rfl
          have c3 : W.cell? ⟨w1.heap.size, 3, none⟩ = some (.string ⟨#[]⟩) := BW.out.1 3 _ rfl
          have c4 : W.cell? ⟨w1.heap.size, 4, none⟩ = some (.int .i64 0) := BW.out.1 4 _ rfl
          have c5 : W.cell? ⟨w1.heap.size, 5, none⟩ = some (.int .i64 0) := BW.out.1 5 _ rfl
          have c6 : W.cell? ⟨w1.heap.size, 6, none⟩ = some (.string ⟨#[]⟩) := BW.out.1 6 _ rfl
          refine wp_region_noPanic ?_
          refine wp_region_T 10 (fun w' => (w'.cell? ⟨g, 1, none⟩ = some (.slice va7 bn.length vc7) ∧ w'.cell? ⟨w1.heap.size, 0, none⟩ = some (.int .i64 6) ∧ w'.cell? ⟨w1.heap.size, 1, none⟩ = some (.int .i64 ((an.length : Int) - 1)) ∧ w'.cell? ⟨w1.heap.size, 2, none⟩ = some (.int .i64 ((bn.length : Int) - 1)) ∧ w'.cell? ⟨w1.heap.size, 3, none⟩ = some (.string ⟨#[]⟩) ∧ w'.cell? ⟨w1.heap.size, 4, none⟩ = some (.int .i64 0) ∧ w'.cell? ⟨w1.heap.size, 5, none⟩ = some (.int .i64 0) ∧ w'.cell? ⟨w1.heap.size, 6, none⟩ = some (.string ⟨#[]⟩))) (by kernel_rfl) (⟨grew_cell (Grew.refl W).drew p1, grew_cell (Grew.refl W).drew c0, grew_cell (Grew.refl W).drew c1, grew_cell (Grew.refl W).drew c2, grew_cell (Grew.refl W).drew c3, grew_cell (Grew.refl W).drew c4, grew_cell (Grew.refl W).drew c5, grew_cell (Grew.refl W).drew c6⟩) ?_
          intro HS
          replace HS := HS.resolve_left (by decide)
          refine tkP 0 (.inr HS) ?_
          refine tkP 1 (.inr HS) ?_
          refine tkP 2 (.inr HS) ?_
          refine tkP 3 (.inr HS) ?_
          refine tkT 4 [7, 10] HS ?_
          refine tkT 5 [6, 7, 10] HS ?_
          refine clT 6 (fun K hK => ?_)
          rw [if_pos (by rfl)]
          have G2 := (Grew.refl W).drew.alloc (.cells #[.int .i64 6, .int .i64 ((an.length : Int) - 1), .int .i64 ((bn.length : Int) - 1), .string ⟨#[]⟩, .int .i64 0, .int .i64 0, .string ⟨#[]⟩] 38)
          go_simp
          refine hK.out _ _ (⟨grew_cell G2 p1, grew_cell G2 c0, grew_cell G2 c1, grew_cell G2 c2, grew_cell G2 c3, grew_cell G2 c4, grew_cell G2 c5, grew_cell G2 c6⟩) ?_
          clear HS hK K
          intro HS
          try simp only [Act.put, lpa, lpb, lpc]
          refine clT 7 (fun K hK => ?_)
          rw [if_pos (by rfl)]
          refine wp_append_own_at _ _ _ 24 rfl base 38 i0 _ 7 72 Tryz.underlying24 hi hz0 hz1 hz2 rfl (by decide) _ _ _ rfl (ownsRow_grew RW.out.own G2) ⟨_, 0, none⟩ 1 1 [.int .i64 6, .int .i64 ((an.length : Int) - 1), .int .i64 ((bn.length : Int) - 1), .string ⟨#[]⟩, .int .i64 0, .int .i64 0, .string ⟨#[]⟩] rfl rfl (newsL (by simp)) (fun x hx => List.all_eq_true.1 (show ([.int .i64 6, .int .i64 ((an.length : Int) - 1), .int .i64 ((bn.length : Int) - 1), .string ⟨#[]⟩, .int .i64 0, .int .i64 0, .string ⟨#[]⟩] : List Value).all (fun u => u.oneCell') = true from rfl) x hx) (by unfold maxLen; omega) (by omega) (Nat.le_trans hbW G2.size) ?_
          intro v9 w9 o9 hgr hat
          obtain ⟨va9, vc9, hv9⟩ := own_slice o9
          subst hv9
          have E9 : Ext none W w9 (.slice va7 bn.length vc7) _ := ((Ext.refl none W _).grew G2).app hgr hat
          have PP := Lib.hid (RI.push (nd 6 ((an.length : Int) - 1) ((bn.length : Int) - 1) ⟨#[]⟩ V.z) RW.out G2 o9 hgr hat)
          have n0 := Lib.hid (show ∀ k, some k ≠ (none : Option Nat) from fun k e => by cases e)
          have ng := Lib.hid (RW.out.ne hbg)
          have nb := Lib.hid (BV)
          have P1 := E9.cell p1 (n0.out _) ng.out
          have Z1 := E9.frozen p1 (n0.out _) ng.out RW.out.z1
          have d0 := E9.cell c0 (n0.out _) nb.out
          have d1 := E9.cell c1 (n0.out _) nb.out
          have d2 := E9.cell c2 (n0.out _) nb.out
          have d3 := E9.cell c3 (n0.out _) nb.out
          have d4 := E9.cell c4 (n0.out _) nb.out
          have d5 := E9.cell c5 (n0.out _) nb.out
          have d6 := E9.cell c6 (n0.out _) nb.out
          clear o9 hgr hat E9
          refine hK.out _ _ (⟨P1, d0, d1, d2, d3, d4, d5, d6⟩) ?_
          clear HS hK K
          intro HS
          try simp only [Act.put, lpa, lpb, lpc]
          refine tkP 8 (.inr HS) ?_
          refine tkP 9 (.inr HS) ?_
          refine clE (fun K hK => ?_)
          rw [if_pos (by rfl)]
          go_simp
          refine hK.out _ _ fun _ => ?_
          clear HS hK K
          try simp only [Act.put, lpa, lpb, lpc]
          refine doneT ?_
          refine NoPanic.normal ?_
          clear d0 d1 d2 d3 d4 d5 d6
          go_wp2
          go_ret
          rw [HR.out]
          exact ⟨_, rfl, PP.out.1, EW.out.trans PP.out.2⟩
      · skip
        have h1q := HNZ.out (by decide)
        have htl3 : ws.tail.length = ws.length - 1 := List.length_tail
        have hA := rdI_b d ws.tail ns
        obtain ⟨⟨ab, aw, an⟩, ha_⟩ : ∃ y, rdI d ws.tail ns = y := ⟨_, rfl⟩
        rw [ha_] at hA
        dsimp only at hA
        obtain ⟨hm_, hal, han, hay_⟩ := hA
        have HAM := Lib.hid (fun x (hx : x ∈ aw) => HTM.out x (hm_ x hx))
        have HA := Lib.hid ha_
        have HAY := Lib.hid hay_
        clear hm_ hay_ ha_
        have e0 : World.cell? wr ⟨w1.heap.size, 0, none⟩ = some (.int .i64 7) := BX.out.1 0 _ rfl
        have e1 : World.cell? wr ⟨w1.heap.size, 1, none⟩ = some (.int .i64 0) := BX.out.1 1 _ rfl
        have e2 : World.cell? wr ⟨w1.heap.size, 2, none⟩ = some (.int .i64 0) := BX.out.1 2 _ rfl
        have e3 : World.cell? wr ⟨w1.heap.size, 3, none⟩ = some (.string ⟨#[]⟩) := BX.out.1 3 _ rfl
        have e4 : World.cell? wr ⟨w1.heap.size, 4, none⟩ = some (.int .i64 0) := BX.out.1 4 _ rfl
        have e5 : World.cell? wr ⟨w1.heap.size, 5, none⟩ = some (.int .i64 0) := BX.out.1 5 _ rfl
        have e6 : World.cell? wr ⟨w1.heap.size, 6, none⟩ = some (.string ⟨#[]⟩) := BX.out.1 6 _ rfl
        have f0 : World.frozen? wr ⟨w1.heap.size, 0, none⟩ = false := BX.out.2 0 (by decide)
        have f1 : World.frozen? wr ⟨w1.heap.size, 1, none⟩ = false := BX.out.2 1 (by decide)
        have f2 : World.frozen? wr ⟨w1.heap.size, 2, none⟩ = false := BX.out.2 2 (by decide)
        have f3 : World.frozen? wr ⟨w1.heap.size, 3, none⟩ = false := BX.out.2 3 (by decide)
        have f4 : World.frozen? wr ⟨w1.heap.size, 4, none⟩ = false := BX.out.2 4 (by decide)
        have f5 : World.frozen? wr ⟨w1.heap.size, 5, none⟩ = false := BX.out.2 5 (by decide)
        have f6 : World.frozen? wr ⟨w1.heap.size, 6, none⟩ = false := BX.out.2 6 (by decide)
        go_wp2_with fail
        refine (IH.out ws.tail ns _ _ (by omega) (by omega) (by omega) HTM.out RX.out GR.out).mono ?_
        rintro e w5 ⟨v5, he, r5, x5⟩
        rw [HA.out] at he r5
        dsimp only at he r5
        subst he
        have hsz5 := x5.size
        have BV : some w1.heap.size ≠ v5.ownBlock := fun e => x5.blk.elim (fun hb => HVX.out (by rw [← hb]; exact e)) (fun hb => by have := hb _ e.symm; omega)
        have E5 := Lib.hid (EX.out.trans x5)
        have B5 := Lib.hid (BX.out.ext x5 HGX.out HVX.out)
        have R5 := Lib.hid r5
        obtain ⟨va5, vc5, hv5⟩ := own_slice r5.own
        subst hv5
        have BV5 := Lib.hid BV
        have BN5 := Lib.hid (show (Value.slice va5 an.length vc5).ownBlock ≠ some w1.heap.size from fun e => BV e.symm)
        have p5 := r5.n
        clear r5 x5
        clear e0 f0 e1 f1 e2 f2 e3 f3 e4 f4 e5 f5 e6 f6
        have e0 : World.cell? w5 ⟨w1.heap.size, 0, none⟩ = some (.int .i64 7) := B5.out.1 0 _ rfl
        have e1 : World.cell? w5 ⟨w1.heap.size, 1, none⟩ = some (.int .i64 0) := B5.out.1 1 _ rfl
        have e2 : World.cell? w5 ⟨w1.heap.size, 2, none⟩ = some (.int .i64 0) := B5.out.1 2 _ rfl
        have e3 : World.cell? w5 ⟨w1.heap.size, 3, none⟩ = some (.string ⟨#[]⟩) := B5.out.1 3 _ rfl
        have e4 : World.cell? w5 ⟨w1.heap.size, 4, none⟩ = some (.int .i64 0) := B5.out.1 4 _ rfl
        have e5 : World.cell? w5 ⟨w1.heap.size, 5, none⟩ = some (.int .i64 0) := B5.out.1 5 _ rfl
        have e6 : World.cell? w5 ⟨w1.heap.size, 6, none⟩ = some (.string ⟨#[]⟩) := B5.out.1 6 _ rfl
        have f0 : World.frozen? w5 ⟨w1.heap.size, 0, none⟩ = false := B5.out.2 0 (by decide)
        have f1 : World.frozen? w5 ⟨w1.heap.size, 1, none⟩ = false := B5.out.2 1 (by decide)
        have f2 : World.frozen? w5 ⟨w1.heap.size, 2, none⟩ = false := B5.out.2 2 (by decide)
        have f3 : World.frozen? w5 ⟨w1.heap.size, 3, none⟩ = false := B5.out.2 3 (by decide)
        have f4 : World.frozen? w5 ⟨w1.heap.size, 4, none⟩ = false := B5.out.2 4 (by decide)
        have f5 : World.frozen? w5 ⟨w1.heap.size, 5, none⟩ = false := B5.out.2 5 (by decide)
        have f6 : World.frozen? w5 ⟨w1.heap.size, 6, none⟩ = false := B5.out.2 6 (by decide)
        cases ab with
        | false =>
          have HR := Lib.hid (rdI_no (d := d) (ns := ns) HOP.out (by decide) HA.out)
          go_wp2_with fail
          have RW : Hid (RI ((w5.setCell ⟨w1.heap.size, 1, none⟩ (.int .i64 ((an.length : Int) - 1))).setCell ⟨w1.heap.size, 2, none⟩ (.int .i64 ((an.length : Int) - 1))) g F base _ (.slice va5 an.length vc5) _) := Lib.hid ((R5.out.set (by omega) BN5.out).set (by omega) BN5.out)
          have EW : Hid (Ext (some g) w ((w5.setCell ⟨w1.heap.size, 1, none⟩ (.int .i64 ((an.length : Int) - 1))).setCell ⟨w1.heap.size, 2, none⟩ (.int .i64 ((an.length : Int) - 1))) (.slice va ns.length vc) (.slice va5 an.length vc5)) := Lib.hid ((E5.out.set hw1).set hw1)
          have BW : Hid (NBox ((w5.setCell ⟨w1.heap.size, 1, none⟩ (.int .i64 ((an.length : Int) - 1))).setCell ⟨w1.heap.size, 2, none⟩ (.int .i64 ((an.length : Int) - 1))) w1.heap.size (nd 7 ((an.length : Int) - 1) ((an.length : Int) - 1) ⟨#[]⟩ V.z)) := Lib.hid (NBox.set (NBox.set B5.out 1 (.int .i64 ((an.length : Int) - 1)) (y := nd 7 ((an.length : Int) - 1) 0 ⟨#[]⟩ V.z) (by decide) rfl) 2 (.int .i64 ((an.length : Int) - 1)) (y := nd 7 ((an.length : Int) - 1) ((an.length : Int) - 1) ⟨#[]⟩ V.z) (by decide) rfl)
          have hbW := RW.out.lb
          obtain ⟨W, hW⟩ : ∃ y, ((w5.setCell ⟨w1.heap.size, 1, none⟩ (.int .i64 ((an.length : Int) - 1))).setCell ⟨w1.heap.size, 2, none⟩ (.int .i64 ((an.length : Int) - 1))) = y := ⟨_, rfl⟩
          rw [hW] at RW EW BW hbW ⊢
          clear hW
          have p1 := RW.out.n
          have c0 : W.cell? ⟨w1.heap.size, 0, none⟩ = some (.int .i64 7) := BW.out.1 0 _ rfl
          have c1 : W.cell? ⟨w1.heap.size, 1, none⟩ = some (.int .i64 ((an.length : Int) - 1)) := BW.out.1 1 _ rfl
          have c2 : W.cell? ⟨w1.heap.size, 2, none⟩ = some (.int .i64 ((an.length : Int) - 1)) := BW.out.1 2 _ rfl
          have c3 : W.cell? ⟨w1.heap.size, 3, none⟩ = some (.string ⟨#[]⟩) := BW.out.1 3 _ rfl
          have c4 : W.cell? ⟨w1.heap.size, 4, none⟩ = some (.int .i64 0) := BW.out.1 4 _ rfl
          have c5 : W.cell? ⟨w1.heap.size, 5, none⟩ = some (.int .i64 0) := BW.out.1 5 _ rfl
          have c6 : W.cell? ⟨w1.heap.size, 6, none⟩ = some (.string ⟨#[]⟩) := BW.out.1 6 _ rfl
          refine wp_region_noPanic ?_
          refine wp_region_T 10 (fun w' => (w'.cell? ⟨g, 1, none⟩ = some (.slice va5 an.length vc5) ∧ w'.cell? ⟨w1.heap.size, 0, none⟩ = some (.int .i64 7) ∧ w'.cell? ⟨w1.heap.size, 1, none⟩ = some (.int .i64 ((an.length : Int) - 1)) ∧ w'.cell? ⟨w1.heap.size, 2, none⟩ = some (.int .i64 ((an.length : Int) - 1)) ∧ w'.cell? ⟨w1.heap.size, 3, none⟩ = some (.string ⟨#[]⟩) ∧ w'.cell? ⟨w1.heap.size, 4, none⟩ = some (.int .i64 0) ∧ w'.cell? ⟨w1.heap.size, 5, none⟩ = some (.int .i64 0) ∧ w'.cell? ⟨w1.heap.size, 6, none⟩ = some (.string ⟨#[]⟩))) (by kernel_rfl) (⟨grew_cell (Grew.refl W).drew p1, grew_cell (Grew.refl W).drew c0, grew_cell (Grew.refl W).drew c1, grew_cell (Grew.refl W).drew c2, grew_cell (Grew.refl W).drew c3, grew_cell (Grew.refl W).drew c4, grew_cell (Grew.refl W).drew c5, grew_cell (Grew.refl W).drew c6⟩) ?_
          intro HS
          replace HS := HS.resolve_left (by decide)
          refine tkP 0 (.inr HS) ?_
          refine tkP 1 (.inr HS) ?_
          refine tkP 2 (.inr HS) ?_
          refine tkP 3 (.inr HS) ?_
          refine tkT 4 [7, 10] HS ?_
          refine tkT 5 [6, 7, 10] HS ?_
          refine clT 6 (fun K hK => ?_)
          rw [if_pos (by rfl)]
          have G2 := (Grew.refl W).drew.alloc (.cells #[.int .i64 7, .int .i64 ((an.length : Int) - 1), .int .i64 ((an.length : Int) - 1), .string ⟨#[]⟩, .int .i64 0, .int .i64 0, .string ⟨#[]⟩] 38)
          go_simp
          refine hK.out _ _ (⟨grew_cell G2 p1, grew_cell G2 c0, grew_cell G2 c1, grew_cell G2 c2, grew_cell G2 c3, grew_cell G2 c4, grew_cell G2 c5, grew_cell G2 c6⟩) ?_
          clear HS hK K
          intro HS
          try simp only [Act.put, lpa, lpb, lpc]
          refine clT 7 (fun K hK => ?_)
          rw [if_pos (by rfl)]
          refine wp_append_own_at _ _ _ 24 rfl base 38 i0 _ 7 72 Tryz.underlying24 hi hz0 hz1 hz2 rfl (by decide) _ _ _ rfl (ownsRow_grew RW.out.own G2) ⟨_, 0, none⟩ 1 1 [.int .i64 7, .int .i64 ((an.length : Int) - 1), .int .i64 ((an.length : Int) - 1), .string ⟨#[]⟩, .int .i64 0, .int .i64 0, .string ⟨#[]⟩] rfl rfl (newsL (by simp)) (fun x hx => List.all_eq_true.1 (show ([.int .i64 7, .int .i64 ((an.length : Int) - 1), .int .i64 ((an.length : Int) - 1), .string ⟨#[]⟩, .int .i64 0, .int .i64 0, .string ⟨#[]⟩] : List Value).all (fun u => u.oneCell') = true from rfl) x hx) (by unfold maxLen; omega) (by omega) (Nat.le_trans hbW G2.size) ?_
          intro v9 w9 o9 hgr hat
          obtain ⟨va9, vc9, hv9⟩ := own_slice o9
          subst hv9
          have E9 : Ext none W w9 (.slice va5 an.length vc5) _ := ((Ext.refl none W _).grew G2).app hgr hat
          have PP := Lib.hid (RI.push (nd 7 ((an.length : Int) - 1) ((an.length : Int) - 1) ⟨#[]⟩ V.z) RW.out G2 o9 hgr hat)
          have n0 := Lib.hid (show ∀ k, some k ≠ (none : Option Nat) from fun k e => by cases e)
          have ng := Lib.hid (RW.out.ne hbg)
          have nb := Lib.hid (BV)
          have P1 := E9.cell p1 (n0.out _) ng.out
          have Z1 := E9.frozen p1 (n0.out _) ng.out RW.out.z1
          have d0 := E9.cell c0 (n0.out _) nb.out
          have d1 := E9.cell c1 (n0.out _) nb.out
          have d2 := E9.cell c2 (n0.out _) nb.out
          have d3 := E9.cell c3 (n0.out _) nb.out
          have d4 := E9.cell c4 (n0.out _) nb.out
          have d5 := E9.cell c5 (n0.out _) nb.out
          have d6 := E9.cell c6 (n0.out _) nb.out
          clear o9 hgr hat E9
          refine hK.out _ _ (⟨P1, d0, d1, d2, d3, d4, d5, d6⟩) ?_
          clear HS hK K
          intro HS
          try simp only [Act.put, lpa, lpb, lpc]
          refine tkP 8 (.inr HS) ?_
          refine tkP 9 (.inr HS) ?_
          refine clE (fun K hK => ?_)
          rw [if_pos (by rfl)]
          go_simp
          refine hK.out _ _ fun _ => ?_
          clear HS hK K
          try simp only [Act.put, lpa, lpb, lpc]
          refine doneT ?_
          refine NoPanic.normal ?_
          clear d0 d1 d2 d3 d4 d5 d6
          go_wp2
          go_ret
          rw [HR.out]
          exact ⟨_, rfl, PP.out.1, EW.out.trans PP.out.2⟩
        | true =>
          have hay := HAY.out rfl
          have hB := rdI_b d aw an
          obtain ⟨⟨bb, bw, bn⟩, hb_⟩ : ∃ y, rdI d aw an = y := ⟨_, rfl⟩
          rw [hb_] at hB
          dsimp only at hB
          obtain ⟨_, hbl, hbn, _⟩ := hB
          have HB := Lib.hid hb_
          have HR := Lib.hid (rdI_yes (d := d) (ns := ns) HOP.out (by decide) HA.out hb_)
          clear hb_
          have GB5 := Lib.hid (Ext.grewTo (E5.out.set (o := 1) (y := .int .i64 ((an.length : Int) - 1)) hw1) GW.out (fun k hk => by injection hk with hk; omega) (fun k hk => by have := (HVB.out k hk).1; omega))
          go_wp2_with fail
          refine (IH.out aw an _ _ (by omega) (by omega) (by omega) HAM.out (R5.out.set (by omega) BN5.out) GB5.out).mono ?_
          rintro e w7 ⟨v7, he, r7, x7⟩
          rw [HB.out] at he r7
          dsimp only at he r7
          subst he
          have hsz7 := x7.size
          rw [World.size_setCell] at hsz7
          have BV : some w1.heap.size ≠ v7.ownBlock := fun e => x7.blk.elim (fun hb => BV5.out (by rw [← hb]; exact e)) (fun hb => by have := hb _ e.symm; rw [World.size_setCell] at this; omega)
          have E7 := Lib.hid ((E5.out.set hw1).trans x7)
          have B7 := Lib.hid (NBox.ext (NBox.set B5.out 1 (.int .i64 ((an.length : Int) - 1)) (y := nd 7 ((an.length : Int) - 1) 0 ⟨#[]⟩ V.z) (by decide) rfl) x7 HGX.out BV5.out)
          have R7 := Lib.hid r7
          obtain ⟨va7, vc7, hv7⟩ := own_slice r7.own
          subst hv7
          have BN7 := Lib.hid (show (Value.slice va7 bn.length vc7).ownBlock ≠ some w1.heap.size from fun e => BV e.symm)
          have p7 := r7.n
          clear r7 x7
          clear p5 e0 f0 e1 f1 e2 f2 e3 f3 e4 f4 e5 f5 e6 f6
          have e0 : World.cell? w7 ⟨w1.heap.size, 0, none⟩ = some (.int .i64 7) := B7.out.1 0 _ rfl
          have e1 : World.cell? w7 ⟨w1.heap.size, 1, none⟩ = some (.int .i64 ((an.length : Int) - 1)) := B7.out.1 1 _ rfl
          have e2 : World.cell? w7 ⟨w1.heap.size, 2, none⟩ = some (.int .i64 0) := B7.out.1 2 _ rfl
          have e3 : World.cell? w7 ⟨w1.heap.size, 3, none⟩ = some (.string ⟨#[]⟩) := B7.out.1 3 _ rfl
          have e4 : World.cell? w7 ⟨w1.heap.size, 4, none⟩ = some (.int .i64 0) := B7.out.1 4 _ rfl
          have e5 : World.cell? w7 ⟨w1.heap.size, 5, none⟩ = some (.int .i64 0) := B7.out.1 5 _ rfl
          have e6 : World.cell? w7 ⟨w1.heap.size, 6, none⟩ = some (.string ⟨#[]⟩) := B7.out.1 6 _ rfl
          have f0 : World.frozen? w7 ⟨w1.heap.size, 0, none⟩ = false := B7.out.2 0 (by decide)
          have f1 : World.frozen? w7 ⟨w1.heap.size, 1, none⟩ = false := B7.out.2 1 (by decide)
          have f2 : World.frozen? w7 ⟨w1.heap.size, 2, none⟩ = false := B7.out.2 2 (by decide)
          have f3 : World.frozen? w7 ⟨w1.heap.size, 3, none⟩ = false := B7.out.2 3 (by decide)
          have f4 : World.frozen? w7 ⟨w1.heap.size, 4, none⟩ = false := B7.out.2 4 (by decide)
          have f5 : World.frozen? w7 ⟨w1.heap.size, 5, none⟩ = false := B7.out.2 5 (by decide)
          have f6 : World.frozen? w7 ⟨w1.heap.size, 6, none⟩ = false := B7.out.2 6 (by decide)
          go_wp2_with fail
          have RW : Hid (RI (w7.setCell ⟨w1.heap.size, 2, none⟩ (.int .i64 ((bn.length : Int) - 1))) g F base _ (.slice va7 bn.length vc7) _) := Lib.hid (R7.out.set (by omega) BN7.out)
          have EW : Hid (Ext (some g) w (w7.setCell ⟨w1.heap.size, 2, none⟩ (.int .i64 ((bn.length : Int) - 1))) (.slice va ns.length vc) (.slice va7 bn.length vc7)) := Lib.hid (E7.out.set hw1)
          have BW : Hid (NBox (w7.setCell ⟨w1.heap.size, 2, none⟩ (.int .i64 ((bn.length : Int) - 1))) w1.heap.size (nd 7 ((an.length : Int) - 1) ((bn.length : Int) - 1) ⟨#[]⟩ V.z)) := Lib.hid (NBox.set B7.out 2 (.int .i64 ((bn.length : Int) - 1)) (y := nd 7 ((an.length : Int) - 1) ((bn.length : Int) - 1) ⟨#[]⟩ V.z) (by decide) rfl)
          have hbW := RW.out.lb
          obtain ⟨W, hW⟩ : ∃ y, (w7.setCell ⟨w1.heap.size, 2, none⟩ (.int .i64 ((bn.length : Int) - 1))) = y := ⟨_, rfl⟩
          rw [hW] at RW EW BW hbW ⊢
          clear hW
          have p1 := RW.out.n
          have c0 : W.cell? ⟨w1.heap.size, 0, none⟩ = some (.int .i64 7) := BW.out.1 0 _ rfl
          have c1 : W.cell? ⟨w1.heap.size, 1, none⟩ = some (.int .i64 ((an.length : Int) - 1)) := BW.out.1 1 _ rfl
          have c2 : W.cell? ⟨w1.heap.size, 2, none⟩ = some (.int .i64 ((bn.length : Int) - 1)) := BW.out.1 2 _ rfl
          have c3 : W.cell? ⟨w1.heap.size, 3, none⟩ = some (.string ⟨#[]⟩) := BW.out.1 3 _ rfl
          have c4 : W.cell? ⟨w1.heap.size, 4, none⟩ = some (.int .i64 0) := BW.out.1 4 _ rfl
          have c5 : W.cell? ⟨w1.heap.size, 5, none⟩ = some (.int .i64 0) := BW.out.1 5 _ rfl
          have c6 : W.cell? ⟨w1.heap.size, 6, none⟩ = some (.string ⟨#[]⟩) := BW.out.1 6 _ rfl
          refine wp_region_noPanic ?_
          refine wp_region_T 10 (fun w' => (w'.cell? ⟨g, 1, none⟩ = some (.slice va7 bn.length vc7) ∧ w'.cell? ⟨w1.heap.size, 0, none⟩ = some (.int .i64 7) ∧ w'.cell? ⟨w1.heap.size, 1, none⟩ = some (.int .i64 ((an.length : Int) - 1)) ∧ w'.cell? ⟨w1.heap.size, 2, none⟩ = some (.int .i64 ((bn.length : Int) - 1)) ∧ w'.cell? ⟨w1.heap.size, 3, none⟩ = some (.string ⟨#[]⟩) ∧ w'.cell? ⟨w1.heap.size, 4, none⟩ = some (.int .i64 0) ∧ w'.cell? ⟨w1.heap.size, 5, none⟩ = some (.int .i64 0) ∧ w'.cell? ⟨w1.heap.size, 6, none⟩ = some (.string ⟨#[]⟩))) (by kernel_rfl) (⟨grew_cell (Grew.refl W).drew p1, grew_cell (Grew.refl W).drew c0, grew_cell (Grew.refl W).drew c1, grew_cell (Grew.refl W).drew c2, grew_cell (Grew.refl W).drew c3, grew_cell (Grew.refl W).drew c4, grew_cell (Grew.refl W).drew c5, grew_cell (Grew.refl W).drew c6⟩) ?_
          intro HS
          replace HS := HS.resolve_left (by decide)
          refine tkP 0 (.inr HS) ?_
          refine tkP 1 (.inr HS) ?_
          refine tkP 2 (.inr HS) ?_
          refine tkP 3 (.inr HS) ?_
          refine tkT 4 [7, 10] HS ?_
          refine tkT 5 [6, 7, 10] HS ?_
          refine clT 6 (fun K hK => ?_)
          rw [if_pos (by rfl)]
          have G2 := (Grew.refl W).drew.alloc (.cells #[.int .i64 7, .int .i64 ((an.length : Int) - 1), .int .i64 ((bn.length : Int) - 1), .string ⟨#[]⟩, .int .i64 0, .int .i64 0, .string ⟨#[]⟩] 38)
          go_simp
          refine hK.out _ _ (⟨grew_cell G2 p1, grew_cell G2 c0, grew_cell G2 c1, grew_cell G2 c2, grew_cell G2 c3, grew_cell G2 c4, grew_cell G2 c5, grew_cell G2 c6⟩) ?_
          clear HS hK K
          intro HS
          try simp only [Act.put, lpa, lpb, lpc]
          refine clT 7 (fun K hK => ?_)
          rw [if_pos (by rfl)]
          refine wp_append_own_at _ _ _ 24 rfl base 38 i0 _ 7 72 Tryz.underlying24 hi hz0 hz1 hz2 rfl (by decide) _ _ _ rfl (ownsRow_grew RW.out.own G2) ⟨_, 0, none⟩ 1 1 [.int .i64 7, .int .i64 ((an.length : Int) - 1), .int .i64 ((bn.length : Int) - 1), .string ⟨#[]⟩, .int .i64 0, .int .i64 0, .string ⟨#[]⟩] rfl rfl (newsL (by simp)) (fun x hx => List.all_eq_true.1 (show ([.int .i64 7, .int .i64 ((an.length : Int) - 1), .int .i64 ((bn.length : Int) - 1), .string ⟨#[]⟩, .int .i64 0, .int .i64 0, .string ⟨#[]⟩] : List Value).all (fun u => u.oneCell') = true from rfl) x hx) (by unfold maxLen; omega) (by omega) (Nat.le_trans hbW G2.size) ?_
          intro v9 w9 o9 hgr hat
          obtain ⟨va9, vc9, hv9⟩ := own_slice o9
          subst hv9
          have E9 : Ext none W w9 (.slice va7 bn.length vc7) _ := ((Ext.refl none W _).grew G2).app hgr hat
          have PP := Lib.hid (RI.push (nd 7 ((an.length : Int) - 1) ((bn.length : Int) - 1) ⟨#[]⟩ V.z) RW.out G2 o9 hgr hat)
          have n0 := Lib.hid (show ∀ k, some k ≠ (none : Option Nat) from fun k e => by cases e)
          have ng := Lib.hid (RW.out.ne hbg)
          have nb := Lib.hid (BV)
          have P1 := E9.cell p1 (n0.out _) ng.out
          have Z1 := E9.frozen p1 (n0.out _) ng.out RW.out.z1
          have d0 := E9.cell c0 (n0.out _) nb.out
          have d1 := E9.cell c1 (n0.out _) nb.out
          have d2 := E9.cell c2 (n0.out _) nb.out
          have d3 := E9.cell c3 (n0.out _) nb.out
          have d4 := E9.cell c4 (n0.out _) nb.out
          have d5 := E9.cell c5 (n0.out _) nb.out
          have d6 := E9.cell c6 (n0.out _) nb.out
          clear o9 hgr hat E9
          refine hK.out _ _ (⟨P1, d0, d1, d2, d3, d4, d5, d6⟩) ?_
          clear HS hK K
          intro HS
          try simp only [Act.put, lpa, lpb, lpc]
          refine tkP 8 (.inr HS) ?_
          refine tkP 9 (.inr HS) ?_
          refine clE (fun K hK => ?_)
          rw [if_pos (by rfl)]
          go_simp
          refine hK.out _ _ fun _ => ?_
          clear HS hK K
          try simp only [Act.put, lpa, lpb, lpc]
          refine doneT ?_
          refine NoPanic.normal ?_
          clear d0 d1 d2 d3 d4 d5 d6
          go_wp2
          go_ret
          rw [HR.out]
          exact ⟨_, rfl, PP.out.1, EW.out.trans PP.out.2⟩
      · skip
        obtain ⟨nm, hnm_⟩ : ∃ y, hdB ws.tail = y := ⟨_, rfl⟩
        have HNM := Lib.hid hnm_
        have BV := HVX.out
        have HR := Lib.hid (show rdI (d + 1) ws ns = (true, ws.tail.tail, ns ++ [nd 8 0 0 nm V.z]) by rw [rdI_2 (op := 8) HOP.out (by decide), hnm_])
        clear hnm_
        have e0 : World.cell? wr ⟨w1.heap.size, 0, none⟩ = some (.int .i64 8) := BX.out.1 0 _ rfl
        have e1 : World.cell? wr ⟨w1.heap.size, 1, none⟩ = some (.int .i64 0) := BX.out.1 1 _ rfl
        have e2 : World.cell? wr ⟨w1.heap.size, 2, none⟩ = some (.int .i64 0) := BX.out.1 2 _ rfl
        have e3 : World.cell? wr ⟨w1.heap.size, 3, none⟩ = some (.string ⟨#[]⟩) := BX.out.1 3 _ rfl
        have e4 : World.cell? wr ⟨w1.heap.size, 4, none⟩ = some (.int .i64 0) := BX.out.1 4 _ rfl
        have e5 : World.cell? wr ⟨w1.heap.size, 5, none⟩ = some (.int .i64 0) := BX.out.1 5 _ rfl
        have e6 : World.cell? wr ⟨w1.heap.size, 6, none⟩ = some (.string ⟨#[]⟩) := BX.out.1 6 _ rfl
        have f0 : World.frozen? wr ⟨w1.heap.size, 0, none⟩ = false := BX.out.2 0 (by decide)
        have f1 : World.frozen? wr ⟨w1.heap.size, 1, none⟩ = false := BX.out.2 1 (by decide)
        have f2 : World.frozen? wr ⟨w1.heap.size, 2, none⟩ = false := BX.out.2 2 (by decide)
        have f3 : World.frozen? wr ⟨w1.heap.size, 3, none⟩ = false := BX.out.2 3 (by decide)
        have f4 : World.frozen? wr ⟨w1.heap.size, 4, none⟩ = false := BX.out.2 4 (by decide)
        have f5 : World.frozen? wr ⟨w1.heap.size, 5, none⟩ = false := BX.out.2 5 (by decide)
        have f6 : World.frozen? wr ⟨w1.heap.size, 6, none⟩ = false := BX.out.2 6 (by decide)
        go_wp2_with fail
        refine (implNext g F base ws.tail _ ns _ RX.out (by omega)).mono ?_
        rintro e w5 ⟨he, r5, x5⟩
        rw [HNM.out] at he
        subst he
        have R5 := Lib.hid r5
        have E5 := Lib.hid (EX.out.trans x5)
        have B5 := Lib.hid (BX.out.ext x5 HGX.out HVX.out)
        clear r5 x5
        clear e0 f0 e1 f1 e2 f2 e3 f3 e4 f4 e5 f5 e6 f6
        have e0 : World.cell? w5 ⟨w1.heap.size, 0, none⟩ = some (.int .i64 8) := B5.out.1 0 _ rfl
        have e1 : World.cell? w5 ⟨w1.heap.size, 1, none⟩ = some (.int .i64 0) := B5.out.1 1 _ rfl
        have e2 : World.cell? w5 ⟨w1.heap.size, 2, none⟩ = some (.int .i64 0) := B5.out.1 2 _ rfl
        have e3 : World.cell? w5 ⟨w1.heap.size, 3, none⟩ = some (.string ⟨#[]⟩) := B5.out.1 3 _ rfl
        have e4 : World.cell? w5 ⟨w1.heap.size, 4, none⟩ = some (.int .i64 0) := B5.out.1 4 _ rfl
        have e5 : World.cell? w5 ⟨w1.heap.size, 5, none⟩ = some (.int .i64 0) := B5.out.1 5 _ rfl
        have e6 : World.cell? w5 ⟨w1.heap.size, 6, none⟩ = some (.string ⟨#[]⟩) := B5.out.1 6 _ rfl
        have f0 : World.frozen? w5 ⟨w1.heap.size, 0, none⟩ = false := B5.out.2 0 (by decide)
        have f1 : World.frozen? w5 ⟨w1.heap.size, 1, none⟩ = false := B5.out.2 1 (by decide)
        have f2 : World.frozen? w5 ⟨w1.heap.size, 2, none⟩ = false := B5.out.2 2 (by decide)
        have f3 : World.frozen? w5 ⟨w1.heap.size, 3, none⟩ = false := B5.out.2 3 (by decide)
        have f4 : World.frozen? w5 ⟨w1.heap.size, 4, none⟩ = false := B5.out.2 4 (by decide)
        have f5 : World.frozen? w5 ⟨w1.heap.size, 5, none⟩ = false := B5.out.2 5 (by decide)
        have f6 : World.frozen? w5 ⟨w1.heap.size, 6, none⟩ = false := B5.out.2 6 (by decide)
        go_wp2_with fail
        have RW : Hid (RI (w5.setCell ⟨w1.heap.size, 3, none⟩ (.string nm)) g F base _ (.slice va ns.length vc) _) := Lib.hid (R5.out.set (by omega) HVN.out)
        have EW : Hid (Ext (some g) w (w5.setCell ⟨w1.heap.size, 3, none⟩ (.string nm)) (.slice va ns.length vc) (.slice va ns.length vc)) := Lib.hid (E5.out.set hw1)
        have BW : Hid (NBox (w5.setCell ⟨w1.heap.size, 3, none⟩ (.string nm)) w1.heap.size (nd 8 0 0 nm V.z)) := Lib.hid ((NBox.set B5.out 3 (.string nm) (y := nd 8 0 0 nm V.z) (by decide) rfl))
        have hbW := RW.out.lb
        obtain ⟨W, hW⟩ : ∃ y, (w5.setCell ⟨w1.heap.size, 3, none⟩ (.string nm)) = y := ⟨_, rfl⟩
        rw [hW] at RW EW BW hbW ⊢
        clear hW
        have p1 := RW.out.n
        have c0 : W.cell? ⟨w1.heap.size, 0, none⟩ = some (.int .i64 8) := BW.out.1 0 _ rfl
        have c1 : W.cell? ⟨w1.heap.size, 1, none⟩ = some (.int .i64 0) := BW.out.1 1 _ rfl
        have c2 : W.cell? ⟨w1.heap.size, 2, none⟩ = some (.int .i64 0) := BW.out.1 2 _ rfl
        have c3 : W.cell? ⟨w1.heap.size, 3, none⟩ = some (.string nm) := BW.out.1 3 _ rfl
        have c4 : W.cell? ⟨w1.heap.size, 4, none⟩ = some (.int .i64 0) := BW.out.1 4 _ rfl
        have c5 : W.cell? ⟨w1.heap.size, 5, none⟩ = some (.int .i64 0) := BW.out.1 5 _ rfl
        have c6 : W.cell? ⟨w1.heap.size, 6, none⟩ = some (.string ⟨#[]⟩) := BW.out.1 6 _ rfl
        refine wp_region_noPanic ?_
        refine wp_region_T 10 (fun w' => (w'.cell? ⟨g, 1, none⟩ = some (.slice va ns.length vc) ∧ w'.cell? ⟨w1.heap.size, 0, none⟩ = some (.int .i64 8) ∧ w'.cell? ⟨w1.heap.size, 1, none⟩ = some (.int .i64 0) ∧ w'.cell? ⟨w1.heap.size, 2, none⟩ = some (.int .i64 0) ∧ w'.cell? ⟨w1.heap.size, 3, none⟩ = some (.string nm) ∧ w'.cell? ⟨w1.heap.size, 4, none⟩ = some (.int .i64 0) ∧ w'.cell? ⟨w1.heap.size, 5, none⟩ = some (.int .i64 0) ∧ w'.cell? ⟨w1.heap.size, 6, none⟩ = some (.string ⟨#[]⟩))) (by kernel_rfl) (⟨grew_cell (Grew.refl W).drew p1, grew_cell (Grew.refl W).drew c0, grew_cell (Grew.refl W).drew c1, grew_cell (Grew.refl W).drew c2, grew_cell (Grew.refl W).drew c3, grew_cell (Grew.refl W).drew c4, grew_cell (Grew.refl W).drew c5, grew_cell (Grew.refl W).drew c6⟩) ?_
        intro HS
        replace HS := HS.resolve_left (by decide)
        refine tkP 0 (.inr HS) ?_
        refine tkP 1 (.inr HS) ?_
        refine tkP 2 (.inr HS) ?_
        refine tkP 3 (.inr HS) ?_
        refine tkT 4 [7, 10] HS ?_
        refine tkT 5 [6, 7, 10] HS ?_
        refine clT 6 (fun K hK => ?_)
        rw [if_pos (by rfl)]
        have G2 := (Grew.refl W).drew.alloc (.cells #[.int .i64 8, .int .i64 0, .int .i64 0, .string nm, .int .i64 0, .int .i64 0, .string ⟨#[]⟩] 38)
        go_simp
        refine hK.out _ _ (⟨grew_cell G2 p1, grew_cell G2 c0, grew_cell G2 c1, grew_cell G2 c2, grew_cell G2 c3, grew_cell G2 c4, grew_cell G2 c5, grew_cell G2 c6⟩) ?_
        clear HS hK K
        intro HS
        try simp only [Act.put, lpa, lpb, lpc]
        refine clT 7 (fun K hK => ?_)
        rw [if_pos (by rfl)]
        refine wp_append_own_at _ _ _ 24 rfl base 38 i0 _ 7 72 Tryz.underlying24 hi hz0 hz1 hz2 rfl (by decide) _ _ _ rfl (ownsRow_grew RW.out.own G2) ⟨_, 0, none⟩ 1 1 [.int .i64 8, .int .i64 0, .int .i64 0, .string nm, .int .i64 0, .int .i64 0, .string ⟨#[]⟩] rfl rfl (newsL (by simp)) (fun x hx => List.all_eq_true.1 (show ([.int .i64 8, .int .i64 0, .int .i64 0, .string nm, .int .i64 0, .int .i64 0, .string ⟨#[]⟩] : List Value).all (fun u => u.oneCell') = true from rfl) x hx) (by unfold maxLen; omega) (by omega) (Nat.le_trans hbW G2.size) ?_
        intro v9 w9 o9 hgr hat
        obtain ⟨va9, vc9, hv9⟩ := own_slice o9
        subst hv9
        have E9 : Ext none W w9 (.slice va ns.length vc) _ := ((Ext.refl none W _).grew G2).app hgr hat
        have PP := Lib.hid (RI.push (nd 8 0 0 nm V.z) RW.out G2 o9 hgr hat)
        have n0 := Lib.hid (show ∀ k, some k ≠ (none : Option Nat) from fun k e => by cases e)
        have ng := Lib.hid (RW.out.ne hbg)
        have nb := Lib.hid (BV)
        have P1 := E9.cell p1 (n0.out _) ng.out
        have Z1 := E9.frozen p1 (n0.out _) ng.out RW.out.z1
        have d0 := E9.cell c0 (n0.out _) nb.out
        have d1 := E9.cell c1 (n0.out _) nb.out
        have d2 := E9.cell c2 (n0.out _) nb.out
        have d3 := E9.cell c3 (n0.out _) nb.out
        have d4 := E9.cell c4 (n0.out _) nb.out
        have d5 := E9.cell c5 (n0.out _) nb.out
        have d6 := E9.cell c6 (n0.out _) nb.out
        clear o9 hgr hat E9
        refine hK.out _ _ (⟨P1, d0, d1, d2, d3, d4, d5, d6⟩) ?_
        clear HS hK K
        intro HS
        try simp only [Act.put, lpa, lpb, lpc]
        refine tkP 8 (.inr HS) ?_
        refine tkP 9 (.inr HS) ?_
        refine clE (fun K hK => ?_)
        rw [if_pos (by rfl)]
        go_simp
        refine hK.out _ _ fun _ => ?_
        clear HS hK K
        try simp only [Act.put, lpa, lpb, lpc]
        refine doneT ?_
        refine NoPanic.normal ?_
        clear d0 d1 d2 d3 d4 d5 d6
        go_wp2
        go_ret
        rw [HR.out]
        exact ⟨_, rfl, PP.out.1, EW.out.trans PP.out.2⟩
      · skip
        obtain ⟨nm, hnm_⟩ : ∃ y, hdB ws.tail = y := ⟨_, rfl⟩
        have HNM := Lib.hid hnm_
        have BV := HVX.out
        have HR := Lib.hid (show rdI (d + 1) ws ns = (true, ws.tail.tail, ns ++ [nd 9 0 0 nm V.z]) by rw [rdI_2 (op := 9) HOP.out (by decide), hnm_])
        clear hnm_
        have e0 : World.cell? wr ⟨w1.heap.size, 0, none⟩ = some (.int .i64 9) := BX.out.1 0 _ rfl
        have e1 : World.cell? wr ⟨w1.heap.size, 1, none⟩ = some (.int .i64 0) := BX.out.1 1 _ rfl
        have e2 : World.cell? wr ⟨w1.heap.size, 2, none⟩ = some (.int .i64 0) := BX.out.1 2 _ rfl
        have e3 : World.cell? wr ⟨w1.heap.size, 3, none⟩ = some (.string ⟨#[]⟩) := BX.out.1 3 _ rfl
        have e4 : World.cell? wr ⟨w1.heap.size, 4, none⟩ = some (.int .i64 0) := BX.out.1 4 _ rfl
        have e5 : World.cell? wr ⟨w1.heap.size, 5, none⟩ = some (.int .i64 0) := BX.out.1 5 _ rfl
        have e6 : World.cell? wr ⟨w1.heap.size, 6, none⟩ = some (.string ⟨#[]⟩) := BX.out.1 6 _ rfl
        have f0 : World.frozen? wr ⟨w1.heap.size, 0, none⟩ = false := BX.out.2 0 (by decide)
        have f1 : World.frozen? wr ⟨w1.heap.size, 1, none⟩ = false := BX.out.2 1 (by decide)
        have f2 : World.frozen? wr ⟨w1.heap.size, 2, none⟩ = false := BX.out.2 2 (by decide)
        have f3 : World.frozen? wr ⟨w1.heap.size, 3, none⟩ = false := BX.out.2 3 (by decide)
        have f4 : World.frozen? wr ⟨w1.heap.size, 4, none⟩ = false := BX.out.2 4 (by decide)
        have f5 : World.frozen? wr ⟨w1.heap.size, 5, none⟩ = false := BX.out.2 5 (by decide)
        have f6 : World.frozen? wr ⟨w1.heap.size, 6, none⟩ = false := BX.out.2 6 (by decide)
        go_wp2_with fail
        refine (implNext g F base ws.tail _ ns _ RX.out (by omega)).mono ?_
        rintro e w5 ⟨he, r5, x5⟩
        rw [HNM.out] at he
        subst he
        have R5 := Lib.hid r5
        have E5 := Lib.hid (EX.out.trans x5)
        have B5 := Lib.hid (BX.out.ext x5 HGX.out HVX.out)
        clear r5 x5
        clear e0 f0 e1 f1 e2 f2 e3 f3 e4 f4 e5 f5 e6 f6
        have e0 : World.cell? w5 ⟨w1.heap.size, 0, none⟩ = some (.int .i64 9) := B5.out.1 0 _ rfl
        have e1 : World.cell? w5 ⟨w1.heap.size, 1, none⟩ = some (.int .i64 0) := B5.out.1 1 _ rfl
        have e2 : World.cell? w5 ⟨w1.heap.size, 2, none⟩ = some (.int .i64 0) := B5.out.1 2 _ rfl
        have e3 : World.cell? w5 ⟨w1.heap.size, 3, none⟩ = some (.string ⟨#[]⟩) := B5.out.1 3 _ rfl
        have e4 : World.cell? w5 ⟨w1.heap.size, 4, none⟩ = some (.int .i64 0) := B5.out.1 4 _ rfl
        have e5 : World.cell? w5 ⟨w1.heap.size, 5, none⟩ = some (.int .i64 0) := B5.out.1 5 _ rfl
        have e6 : World.cell? w5 ⟨w1.heap.size, 6, none⟩ = some (.string ⟨#[]⟩) := B5.out.1 6 _ rfl
        have f0 : World.frozen? w5 ⟨w1.heap.size, 0, none⟩ = false := B5.out.2 0 (by decide)
        have f1 : World.frozen? w5 ⟨w1.heap.size, 1, none⟩ = false := B5.out.2 1 (by decide)
        have f2 : World.frozen? w5 ⟨w1.heap.size, 2, none⟩ = false := B5.out.2 2 (by decide)
        have f3 : World.frozen? w5 ⟨w1.heap.size, 3, none⟩ = false := B5.out.2 3 (by decide)
        have f4 : World.frozen? w5 ⟨w1.heap.size, 4, none⟩ = false := B5.out.2 4 (by decide)
        have f5 : World.frozen? w5 ⟨w1.heap.size, 5, none⟩ = false := B5.out.2 5 (by decide)
        have f6 : World.frozen? w5 ⟨w1.heap.size, 6, none⟩ = false := B5.out.2 6 (by decide)
        go_wp2_with fail
        have RW : Hid (RI (w5.setCell ⟨w1.heap.size, 3, none⟩ (.string nm)) g F base _ (.slice va ns.length vc) _) := Lib.hid (R5.out.set (by omega) HVN.out)
        have EW : Hid (Ext (some g) w (w5.setCell ⟨w1.heap.size, 3, none⟩ (.string nm)) (.slice va ns.length vc) (.slice va ns.length vc)) := Lib.hid (E5.out.set hw1)
        have BW : Hid (NBox (w5.setCell ⟨w1.heap.size, 3, none⟩ (.string nm)) w1.heap.size (nd 9 0 0 nm V.z)) := Lib.hid ((NBox.set B5.out 3 (.string nm) (y := nd 9 0 0 nm V.z) (by decide) rfl))
        have hbW := RW.out.lb
        obtain ⟨W, hW⟩ : ∃ y, (w5.setCell ⟨w1.heap.size, 3, none⟩ (.string nm)) = y := ⟨_, rfl⟩
        rw [hW] at RW EW BW hbW ⊢
        clear hW
        have p1 := RW.out.n
        have c0 : W.cell? ⟨w1.heap.size, 0, none⟩ = some (.int .i64 9) := BW.out.1 0 _ rfl
        have c1 : W.cell? ⟨w1.heap.size, 1, none⟩ = some (.int .i64 0) := BW.out.1 1 _ rfl
        have c2 : W.cell? ⟨w1.heap.size, 2, none⟩ = some (.int .i64 0) := BW.out.1 2 _ rfl
        have c3 : W.cell? ⟨w1.heap.size, 3, none⟩ = some (.string nm) := BW.out.1 3 _ rfl
        have c4 : W.cell? ⟨w1.heap.size, 4, none⟩ = some (.int .i64 0) := BW.out.1 4 _ rfl
        have c5 : W.cell? ⟨w1.heap.size, 5, none⟩ = some (.int .i64 0) := BW.out.1 5 _ rfl
        have c6 : W.cell? ⟨w1.heap.size, 6, none⟩ = some (.string ⟨#[]⟩) := BW.out.1 6 _ rfl
        refine wp_region_noPanic ?_
        refine wp_region_T 10 (fun w' => (w'.cell? ⟨g, 1, none⟩ = some (.slice va ns.length vc) ∧ w'.cell? ⟨w1.heap.size, 0, none⟩ = some (.int .i64 9) ∧ w'.cell? ⟨w1.heap.size, 1, none⟩ = some (.int .i64 0) ∧ w'.cell? ⟨w1.heap.size, 2, none⟩ = some (.int .i64 0) ∧ w'.cell? ⟨w1.heap.size, 3, none⟩ = some (.string nm) ∧ w'.cell? ⟨w1.heap.size, 4, none⟩ = some (.int .i64 0) ∧ w'.cell? ⟨w1.heap.size, 5, none⟩ = some (.int .i64 0) ∧ w'.cell? ⟨w1.heap.size, 6, none⟩ = some (.string ⟨#[]⟩))) (by kernel_rfl) (⟨grew_cell (Grew.refl W).drew p1, grew_cell (Grew.refl W).drew c0, grew_cell (Grew.refl W).drew c1, grew_cell (Grew.refl W).drew c2, grew_cell (Grew.refl W).drew c3, grew_cell (Grew.refl W).drew c4, grew_cell (Grew.refl W).drew c5, grew_cell (Grew.refl W).drew c6⟩) ?_
        intro HS
        replace HS := HS.resolve_left (by decide)
        refine tkP 0 (.inr HS) ?_
        refine tkP 1 (.inr HS) ?_
        refine tkP 2 (.inr HS) ?_
        refine tkP 3 (.inr HS) ?_
        refine tkT 4 [7, 10] HS ?_
        refine tkT 5 [6, 7, 10] HS ?_
        refine clT 6 (fun K hK => ?_)
        rw [if_pos (by rfl)]
        have G2 := (Grew.refl W).drew.alloc (.cells #[.int .i64 9, .int .i64 0, .int .i64 0, .string nm, .int .i64 0, .int .i64 0, .string ⟨#[]⟩] 38)
        go_simp
        refine hK.out _ _ (⟨grew_cell G2 p1, grew_cell G2 c0, grew_cell G2 c1, grew_cell G2 c2, grew_cell G2 c3, grew_cell G2 c4, grew_cell G2 c5, grew_cell G2 c6⟩) ?_
        clear HS hK K
        intro HS
        try simp only [Act.put, lpa, lpb, lpc]
        refine clT 7 (fun K hK => ?_)
        rw [if_pos (by rfl)]
        refine wp_append_own_at _ _ _ 24 rfl base 38 i0 _ 7 72 Tryz.underlying24 hi hz0 hz1 hz2 rfl (by decide) _ _ _ rfl (ownsRow_grew RW.out.own G2) ⟨_, 0, none⟩ 1 1 [.int .i64 9, .int .i64 0, .int .i64 0, .string nm, .int .i64 0, .int .i64 0, .string ⟨#[]⟩] rfl rfl (newsL (by simp)) (fun x hx => List.all_eq_true.1 (show ([.int .i64 9, .int .i64 0, .int .i64 0, .string nm, .int .i64 0, .int .i64 0, .string ⟨#[]⟩] : List Value).all (fun u => u.oneCell') = true from rfl) x hx) (by unfold maxLen; omega) (by omega) (Nat.le_trans hbW G2.size) ?_
        intro v9 w9 o9 hgr hat
        obtain ⟨va9, vc9, hv9⟩ := own_slice o9
        subst hv9
        have E9 : Ext none W w9 (.slice va ns.length vc) _ := ((Ext.refl none W _).grew G2).app hgr hat
        have PP := Lib.hid (RI.push (nd 9 0 0 nm V.z) RW.out G2 o9 hgr hat)
        have n0 := Lib.hid (show ∀ k, some k ≠ (none : Option Nat) from fun k e => by cases e)
        have ng := Lib.hid (RW.out.ne hbg)
        have nb := Lib.hid (BV)
        have P1 := E9.cell p1 (n0.out _) ng.out
        have Z1 := E9.frozen p1 (n0.out _) ng.out RW.out.z1
        have d0 := E9.cell c0 (n0.out _) nb.out
        have d1 := E9.cell c1 (n0.out _) nb.out
        have d2 := E9.cell c2 (n0.out _) nb.out
        have d3 := E9.cell c3 (n0.out _) nb.out
        have d4 := E9.cell c4 (n0.out _) nb.out
        have d5 := E9.cell c5 (n0.out _) nb.out
        have d6 := E9.cell c6 (n0.out _) nb.out
        clear o9 hgr hat E9
        refine hK.out _ _ (⟨P1, d0, d1, d2, d3, d4, d5, d6⟩) ?_
        clear HS hK K
        intro HS
        try simp only [Act.put, lpa, lpb, lpc]
        refine tkP 8 (.inr HS) ?_
        refine tkP 9 (.inr HS) ?_
        refine clE (fun K hK => ?_)
        rw [if_pos (by rfl)]
        go_simp
        refine hK.out _ _ fun _ => ?_
        clear HS hK K
        try simp only [Act.put, lpa, lpb, lpc]
        refine doneT ?_
        refine NoPanic.normal ?_
        clear d0 d1 d2 d3 d4 d5 d6
        go_wp2
        go_ret
        rw [HR.out]
        exact ⟨_, rfl, PP.out.1, EW.out.trans PP.out.2⟩
end Go.Proofs.YtodbohmbdgbheaaGreatDoor
