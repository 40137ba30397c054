/- Contracts of the draws of FnDirSet and of FnInvertTwice. -/
import Derived.Test.YtgekgokkbakcmaaZ8
import Derived.Test.YtgekgokkbakcmaaR2
namespace Go.Proofs.Ytgekgokkbakcmaa
open Go.RowKit
set_option linter.unusedVariables false
set_option maxRecDepth 100000 in
set_option maxHeartbeats 2000000 in
theorem drawEqualDirs (v : Value) (w : World) (hc : Cd w v) :
    Calls Try.prog 44 #[v] w fun e w' => ∃ u t, e = .returned (.tuple #[u, t]) ∧ ∃ xs ys, dirsOk 6 xs ∧ dirsOk 6 ys ∧ RdDs w' u xs ∧ RdDs w' t ys ∧ (∃ a c, u = .slice a xs.length c) ∧ (∃ a c, t = .slice a ys.length c) ∧ Grew w w' := by
  obtain ⟨n, bs, hr, hn⟩ := hc
  go_enter Try.func44, Try.ntmps44
  go_wp2_with fail
  refine (l01New v n bs _ hr hn).mono ?_
  rintro e w1 ⟨rfl, hc1, hg1, hs1⟩
  go_wp2_with fail
  refine (l11Any _ _ hc1).mono ?_
  rintro e w2 ⟨u, rfl, xs, hok, hgl, hd⟩
  have HG := Lib.hid hgl
  have HOK := Lib.hid hok
  have hlen := hok.1
  obtain ⟨ua, uc, rfl⟩ := hgl.slice
  clear hgl hok
  go_wp2_with fail
  refine (l01Once _ _ hd.cur 2 (by decide) (by decide)).mono ?_
  rintro e w3 ⟨b, rfl, hd2⟩
  have d3 := hd.trans hd2
  have H3 := Lib.hid (HG.out.d hd2 hs1)
  cases b
  · go_wp2_with fail
    refine (l11Any _ _ d3.cur).mono ?_
    rintro e w4 ⟨t, rfl, ys, hok2, hgl2, hd4⟩
    go_wp2
    go_ret2
    exact ⟨_, _, rfl, xs, ys, HOK.out, hok2, (H3.out.d hd4 hs1).rd, hgl2.rd, ⟨_, _, rfl⟩, hgl2.slice, D.out hg1 (d3.trans hd4) (Nat.le_refl _)⟩
  · have gz := (D.out hg1 d3 (Nat.le_refl _))
    go_wp2_with fail
    refine (specL11Copy _ xs _ H3.out.rd (by omega) (dr_small HOK.out)).mono ?_
    rintro e w4 ⟨t, rfl, hG, g4⟩
    have hsl : ∃ a c, t = .slice a xs.length c := by obtain ⟨ps, h1, _⟩ := hG; exact own_slice h1
    have HGR := Lib.hid hG.own.rd
    clear hG
    go_wp2
    go_ret2
    exact ⟨_, _, rfl, xs, xs, HOK.out, HOK.out, H3.out.rd.grew g4, HGR.out, ⟨_, _, rfl⟩, hsl, gz.trans g4⟩
set_option maxRecDepth 100000 in
set_option maxHeartbeats 2000000 in
theorem drawSetDir (v : Value) (w : World) (hc : Cd w v) :
    Calls Try.prog 42 #[v] w fun e w' => ∃ u nm q, e = .returned (.tuple #[u, .agg #[.string nm, q]]) ∧ nm.size ≤ 8 ∧ (∃ ys : List N, qOk 8 ys ∧ Rd w' q 7 ys.length (rows N.c ys)) ∧ ∃ xs, dirsOk 6 xs ∧ RdDs w' u xs ∧ (∃ a c, u = .slice a xs.length c) ∧ Grew w w' := by
  have hg0 := (Grew.refl w).alloc (.cells #[.string ⟨#[]⟩, .slice none 0 0] 49)
  have B0 := Box.new w #[.string ⟨#[]⟩, .slice none 0 0] 49 2 rfl
  have hs0 : w.heap.size + 1 = (w.alloc (.cells #[.string ⟨#[]⟩, .slice none 0 0] 49)).heap.size := by simp
  obtain ⟨n, bs, hr, hn⟩ := hc
  go_enter Try.func42, Try.ntmps42
  go_wp2_with fail
  refine (l01New v n bs _ (hr.grew hg0) hn).mono ?_
  rintro e w1 ⟨rfl, hc1, hg1, hs1⟩
  have B1 := B0.grew hg1
  generalize (w.alloc (.cells #[.string ⟨#[]⟩, .slice none 0 0] 49)) = W at hg0 hs0 hc1 hg1 hs1 ⊢
  have hne : w.heap.size ≠ W.heap.size := by omega
  have gW := hg0.trans hg1
  go_wp2_with fail
  refine (l11Any _ _ hc1).mono ?_
  rintro e w2 ⟨u, rfl, xs, hok, hgl, hd1⟩
  have HG := Lib.hid hgl
  have HOK := Lib.hid hok
  obtain ⟨ua, uc, rfl⟩ := hgl.slice
  clear hgl hok
  have B2 := B1.d hd1 hne
  have hz1 := hd1.size
  go_wp2_with fail
  refine (l11Name _ _ hd1.cur).mono ?_
  rintro e w3 ⟨nm, rfl, hnm, hd2⟩
  have d2 := hd1.trans hd2
  have B3 := B2.d hd2 hne
  have G3 := Lib.hid (HG.out.d hd2 hs1)
  have hz2 := d2.size
  go_wp2_with fail
  refine (l09Any _ _ d2.cur).mono ?_
  rintro e w4 ⟨q, rfl, ys, ho, hq, hd3⟩
  have d3 := d2.trans hd3
  have B4 := B3.d hd3 hne
  have G4 := Lib.hid (G3.out.d hd3 hs1)
  have HO := Lib.hid ho
  have HQ := Lib.hid hq
  obtain ⟨qa, qc, rfl⟩ := own_slice ho
  clear ho hq
  have gF := D.out gW d3 (by omega)
  have hlow : w.heap.size < w1.heap.size := by omega
  obtain ⟨q0, f0⟩ := B4.2.1 0 (by decide)
  obtain ⟨q1, f1⟩ := B4.2.1 1 (by decide)
  have zb := B4.2.2
  go_wp2
  refine bodyPost_ret (v := .tuple #[.slice ua xs.length uc, .agg #[.string nm, .slice qa ys.length qc]]) (by simp [results, Try.results42, go_sem, f0, f1]) rfl ⟨_, _, _, rfl, hnm, ⟨ys, HQ.out, rd_of_own (base := w3.heap.size) (e := 76) (by repeat' (first | with_reducible exact HO.out | with_reducible refine ownsRow_setCell_below ?_ ?_ _ | (dsimp only; omega)))⟩, xs, HOK.out, ?_, ⟨_, _, rfl⟩, ?_⟩
  · have ht : Touch w.heap.size (w.heap.size + 1) w4 ((w4.setCell ⟨w.heap.size, 0, none⟩ (.string nm)).setCell ⟨w.heap.size, 1, none⟩ (.slice qa ys.length qc)) := Touch.setCell (p := ⟨w.heap.size, 1, none⟩) (Touch.setCell (p := ⟨w.heap.size, 0, none⟩) (Touch.refl _ _ _) (Nat.le_refl _) (Nat.lt_succ_self _) _) (Nat.le_refl _) (Nat.lt_succ_self _) _
    exact (G4.out.tch ht (by omega)).rd
  · exact (gF.setCell (p := ⟨w.heap.size, 0, none⟩) (Nat.le_refl _) _).setCell (p := ⟨w.heap.size, 1, none⟩) (Nat.le_refl _) _
end Go.Proofs.Ytgekgokkbakcmaa
