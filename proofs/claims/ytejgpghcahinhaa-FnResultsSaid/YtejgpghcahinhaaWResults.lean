/- The walk of laws.FnResults. -/
import Derived.Test.YtejgpghcahinhaaZ4
import Derived.Test.YtejgpghcahinhaaW0
import Derived.Test.YtejgpghcahinhaaR1
import Derived.Test.YtejgpghcahinhaaC1
namespace Go.Proofs.Ytejgpghcahinhaa.fnResults
open Go.RowKit
set_option linter.unusedVariables false
theorem sameB_self {α : Type} (a : α) : sameB a a = true := sameB_yes rfl
theorem small_of {xs : List Rs} (h : ansOk xs) : ∀ x, x ∈ xs → x.small := fun x hx => by
  have := (h.2 x hx).2.2.2
  unfold Rs.small; omega
theorem small_ids {xs : List Rs} (h : ∀ x, x ∈ xs → x.small) (s : ByteArray) : (resIds xs s).length ≤ 4000000 := resIds_small h
set_option maxRecDepth 100000 in
set_option maxHeartbeats 4000000 in
theorem walkLaw (w : World) (v : Value) (n : Nat) (xs : List Int) (hr : Rd w v 1 n (xs.map (Value.int .u8))) (hn : n ≤ maxLen) (ho : ∀ a : Int, a ∈ xs → 0 ≤ a ∧ a ≤ 255) :
    Calls Try.prog 3 #[v] w fun e w' => e = .returned (.bool true) ∧ Grew w w' := by
  clear ho
  by_cases hbig : (1048576 : Int) < (n : Int)
  · have hd : decide ((1048576 : Int) < (n : Int)) = true := by simp [hbig]
    go_enter Try.func3, Try.ntmps3
    go_wp2_with fail
    refine (big v n _ _ hr hn).mono ?_
    rintro e w1 ⟨rfl, rfl⟩
    go_wp2
    go_ret
    exact ⟨rfl, Grew.refl _⟩
  · have hd : decide ((1048576 : Int) < (n : Int)) = false := by simp [hbig]
    have hcd : Cd w v := ⟨n, xs, hr, by omega⟩
    go_enter Try.func3, Try.ntmps3
    go_wp2_with fail
    refine (big v n _ _ hr hn).mono ?_
    rintro e w1 ⟨rfl, rfl⟩
    go_wp2_with fail
    refine (drawResultIDs v _ hcd).mono ?_
    rintro e w1 ⟨u1, x1, nm, rfl, hx1, hnm, hg1, g1⟩
    have S1 := Lib.hid (small_of hx1)
    have L1 := hx1.1
    have G1 := Lib.hid hg1.rd
    obtain ⟨a1, c1, rfl⟩ := hg1.slice
    clear hx1 hg1
    go_wp2_with fail
    refine (drawContainsID v _ (hcd.grew g1)).mono ?_
    rintro e w2 ⟨u2, x2, id, rfl, hx2, hg2, g2⟩
    have L2 := hx2.2.2
    have G2 := Lib.hid (rd_of_own hg2)
    obtain ⟨a2, c2, rfl⟩ := own_slice hg2
    clear hx2 hg2
    go_wp2_with fail
    refine (drawEqualResults v _ (hcd.grew (g1.trans g2))).mono ?_
    rintro e w3 ⟨u3, u4, rfl, ⟨x3, hx3, hg3⟩, ⟨x4, hx4, hg4⟩, g3⟩
    have S3 := Lib.hid (small_of hx3)
    have S4 := Lib.hid (small_of hx4)
    have L3 := hx3.1
    have L4 := hx4.1
    have G3 := Lib.hid hg3.rd
    have G4 := Lib.hid hg4.rd
    obtain ⟨a3, c3, rfl⟩ := hg3.slice
    obtain ⟨a4, c4, rfl⟩ := hg4.slice
    clear hx3 hx4 hg3 hg4
    have g123 := (g1.trans g2).trans g3
    have R1 := Lib.hid (RdRs.grew G1.out (g2.trans g3))
    have R2 := Lib.hid (G2.out.grew g3)
    have hl1 := small_ids S1.out nm
    have hsi := sameB_self (resIds x1 nm)
    go_wp2_with fail
    refine (implResultIDs _ x1 nm _ R1.out (by omega) S1.out).mono ?_
    rintro e w4 ⟨u5, rfl, ho5, g4⟩
    have H5 := Lib.hid (rd_of_own ho5)
    obtain ⟨a5, c5, rfl⟩ := own_slice ho5
    clear ho5
    go_wp2_with fail
    refine (specResultIDs _ x1 nm _ (RdRs.grew R1.out g4) (by omega) S1.out).mono ?_
    rintro e w5 ⟨u6, rfl, ho6, g5⟩
    have H6 := Lib.hid (rd_of_own ho6)
    obtain ⟨a6, c6, rfl⟩ := own_slice ho6
    clear ho6
    go_wp2_with fail
    refine (sameInts _ _ _ _ _ _ _ (H5.out.grew g5) H6.out hl1 hl1).mono ?_
    rintro e w6 ⟨he, g6⟩
    rw [hsi] at he
    subst he
    have g16 := ((g123.trans g4).trans g5).trans g6
    go_wp2_with fail
    refine (implContainsID _ _ x2 id _ (R2.out.grew ((g4.trans g5).trans g6)) (by omega)).mono ?_
    rintro e w7 ⟨rfl, rfl⟩
    go_wp2_with fail
    refine (specContainsID _ _ x2 id _ (R2.out.grew ((g4.trans g5).trans g6)) (by omega)).mono ?_
    rintro e w7 ⟨rfl, rfl⟩
    have g17 := g16
    have Q3 := Lib.hid (RdRs.grew G3.out ((g4.trans g5).trans g6))
    have Q4 := Lib.hid (RdRs.grew G4.out ((g4.trans g5).trans g6))
    go_wp2_with fail
    refine (implEqualResults _ _ x3 x4 _ Q3.out Q4.out (by omega) (by omega) S3.out S4.out).mono ?_
    rintro e w8 ⟨rfl, g8⟩
    go_wp2_with fail
    refine (sameResults _ _ x3 x4 _ (RdRs.grew Q3.out g8) (RdRs.grew Q4.out g8) (by omega) (by omega) S3.out S4.out).mono ?_
    rintro e w9 ⟨rfl, g9⟩
    have g19 := (g16.trans g8).trans g9
    have hlit : RdRs ((w9.alloc (.cells #[.int .i64 1, .int .i64 2] 3)).alloc (.cells #[.string ⟨#[100, 97]⟩, .slice (some ⟨w9.heap.size, 0, none⟩) 2 2] 37)) (.slice (some ⟨w9.heap.size + 1, 0, none⟩) 1 1) [⟨⟨#[100, 97]⟩, [1, 2]⟩] := by
      refine ⟨[⟨⟨#[100, 97]⟩, .slice (some ⟨w9.heap.size, 0, none⟩) 2 2⟩], ?_, rfl, ?_⟩
      · have h := lit_rd (w9.alloc (.cells #[.int .i64 1, .int .i64 2] 3)) #[.string ⟨#[100, 97]⟩, .slice (some ⟨w9.heap.size, 0, none⟩) 2 2] 37 2 1 1 rfl (Nat.le_refl _)
        rw [show (w9.alloc (.cells #[.int .i64 1, .int .i64 2] 3)).heap.size = w9.heap.size + 1 by simp] at h
        exact h
      · intro i x p hx hp
        cases i with
        | zero =>
          simp at hx hp
          subst hx; subst hp
          exact ⟨rfl, (lit_rd w9 #[.int .i64 1, .int .i64 2] 3 1 2 2 rfl (Nat.le_refl _)).grew ((Grew.refl _).alloc _)⟩
        | succ i => simp at hx
    have hr2 : (resIds [⟨⟨#[100, 97]⟩, [1, 2]⟩] ⟨#[100, 97]⟩).length = 2 := by simp [resIds]
    go_wp2_with fail
    refine (implResultIDs _ [⟨⟨#[100, 97]⟩, [1, 2]⟩] ⟨#[100, 97]⟩ _ hlit (by decide) (fun x hx => by simp at hx; subst hx; simp [Rs.small])).mono ?_
    rintro e w10 ⟨u7, rfl, ho7, g10⟩
    rw [hr2] at ho7
    obtain ⟨a7, c7, rfl⟩ := own_slice ho7
    clear ho7
    go_wp2
    go_ret
    exact ⟨rfl, ((g19.alloc _).alloc _).trans g10⟩
end Go.Proofs.Ytejgpghcahinhaa.fnResults
