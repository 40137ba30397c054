/- The walk of laws.FnPrefixNotation. -/
import Derived.Test.YtodbohmbdgbheaaDoorZ9D
import Derived.Test.YtodbohmbdgbheaaDoorTx24
import Derived.Test.YtodbohmbdgbheaaDoorTx25
import Derived.Test.YtodbohmbdgbheaaDoorTx23
import Derived.Test.YtodbohmbdgbheaaDoorTx10
namespace Go.Proofs.YtodbohmbdgbheaaDoor.fnPrefixNotation
open Go.RowKit
set_option linter.unusedVariables false
theorem and_sz (n : Nat) : szAll N.sz (andA n) ≤ 4000000 := by
  simp [andA, szAll, N.sz, V.sz, V.z, ByteArray.size]
set_option maxRecDepth 100000 in
set_option maxHeartbeats 4000000 in
theorem walkLaw (w : World) (v : Value) (n : Nat) (xs : List Int) (hr : Rd w v 1 n (xs.map (Value.int .u8))) (hn : n ≤ maxLen) (ho : ∀ a : Int, a ∈ xs → 0 ≤ a ∧ a ≤ 255) (ht : TabP w) (hE : ErrS w) (hA : TabA w) :
    Calls Tryd.prog 4 #[v] w fun e w' => e = .returned (.bool true) ∧ Grew w w' := by
  clear ho
  have HT := Lib.hid (fun (u : World) (g : Grew w u) => (⟨ht.grew g, hE.grew g, hA.grew g⟩ : TabP u ∧ ErrS u ∧ TabA u))
  clear ht hE hA
  by_cases hbig : (1048576 : Int) < (n : Int)
  · have hd : decide ((1048576 : Int) < (n : Int)) = true := by simp [hbig]
    go_enter Tryd.func4, Tryd.ntmps4
    go_wp2_with fail
    refine (big v n _ _ hr hn).mono ?_
    rintro e w1 ⟨rfl, rfl⟩
    go_wp2
    go_ret
    exact ⟨rfl, Grew.refl _⟩
  have hd : decide ((1048576 : Int) < (n : Int)) = false := by simp [hbig]
  have hcd : Cd w v := ⟨n, xs, hr, by omega⟩
  have G0 := Grew.refl w
  go_enter Tryd.func4, Tryd.ntmps4
  go_wp2_with fail
  refine (big v n _ _ hr hn).mono ?_
  rintro e w1 ⟨rfl, rfl⟩
  go_wp2_with fail
  refine (drawPlaces v _ hcd).mono ?_
  rintro e w1 ⟨u0, rfl, ps, hpl, hpr, o_p, g1⟩
  have G1 := G0.trans g1
  obtain ⟨a_p, c_p, rfl⟩ := own_slice o_p
  obtain ⟨_, _, h1, _, hra⟩ := rd_of_own o_p
  cases h1
  obtain ⟨b1, o1, x, rfl, hxk, e1⟩ := hra.one (i := 0) (by decide)
  have hx := hpr x (List.mem_of_getElem? hxk.out)
  obtain ⟨t, ht_⟩ : ∃ t : Nat, x % 999 = t := ⟨(x % 999).toNat, by omega⟩
  have ht9 : t ≤ 999 := by omega
  have FI := Lib.hid (fun (u : World) (h : TabP u) => show Calls Tryd.prog 13 #[.int .i64 (x % 999)] u (fun e w' => e = .returned (.string (dN t)) ∧ Grew u w') from by rw [ht_]; exact implFormatInt t (by omega) u h)
  have HX := Lib.hid (pqA ht9)
  have HXA := Lib.hid (pqAnd ht9)
  have hds := dN_size ht9
  obtain ⟨D, hD⟩ : ∃ y, dN t = y := ⟨_, rfl⟩
  have HDD := Lib.hid hD
  rw [hD] at hds
  simp only [Nat.add_zero] at e1
  have tAe : tA t = ⟨#[101, 113, 32, 97, 32]⟩ ++ D := by unfold tA; rw [hD]
  have tAnde : tAnd t = (⟨#[97, 110, 100, 32]⟩ ++ (⟨#[101, 113, 32, 97, 32]⟩ ++ D)) ++ ⟨#[32]⟩ ++ ⟨#[110, 111, 116, 32, 105, 110, 32, 100]⟩ := by unfold tAnd; rw [tAe]
  have hs5' : (⟨#[97, 110, 100, 32]⟩ : By).size + (5 + D.size) + (⟨#[32]⟩ : By).size + (⟨#[110, 111, 116, 32, 105, 110, 32, 100]⟩ : By).size = 18 + D.size := by show 4 + (5 + D.size) + 1 + 8 = _; omega
  have hs5 : (⟨#[101, 113, 32, 97, 32]⟩ ++ D : By).size = 5 + D.size := by rw [ByteArray.size_append]; rfl
  have HTA := Lib.hid tAe
  have HTAND := Lib.hid tAnde
  have hsA : (tA t).size ≤ 4000000 := by rw [tAe, hs5]; omega
  have hsAnd : (tAnd t).size ≤ 4000000 := by rw [tAnde]; rw [ByteArray.size_append, ByteArray.size_append, ByteArray.size_append, hs5, hs5']; omega
  have PQA := Lib.hid (fun (u : World) (h : TabP u ∧ ErrS u ∧ TabA u) => show Calls Tryd.prog 14 #[.string (⟨#[101, 113, 32, 97, 32]⟩ ++ D)] u (fun e w' => ∃ v, e = .returned (.tuple #[v, .bool true]) ∧ w'.ownsRow u.heap.size 39 7 v 1 (rows N.c (eqA t)) ∧ Grew u w') from by
    have h1 := implParseQuery (tA t) hsA u h.1 h.2.1 h.2.2
    rw [HX.out.1, HX.out.2, HTA.out] at h1
    exact h1)
  have PQB := Lib.hid (fun (u : World) (h : TabP u ∧ ErrS u ∧ TabA u) => show Calls Tryd.prog 14 #[.string ((⟨#[97, 110, 100, 32]⟩ ++ (⟨#[101, 113, 32, 97, 32]⟩ ++ D)) ++ ⟨#[32]⟩ ++ ⟨#[110, 111, 116, 32, 105, 110, 32, 100]⟩)] u (fun e w' => ∃ v, e = .returned (.tuple #[v, .bool true]) ∧ w'.ownsRow u.heap.size 39 7 v 4 (rows N.c (andA t)) ∧ Grew u w') from by
    have h1 := implParseQuery (tAnd t) hsAnd u h.1 h.2.1 h.2.2
    rw [HXA.out.1, HXA.out.2.1, HTAND.out] at h1
    exact h1)
  have FQ := Lib.hid (fun (va : Value) (u : World) (hq : Rd u va 7 4 (rows N.c (andA t))) (h : TabP u) => show Calls Tryd.prog 9 #[va] u (fun e w' => e = .returned (.string ((⟨#[97, 110, 100, 32]⟩ ++ (⟨#[101, 113, 32, 97, 32]⟩ ++ D)) ++ ⟨#[32]⟩ ++ ⟨#[110, 111, 116, 32, 105, 110, 32, 100]⟩)) ∧ Grew u w') from by
    have h1 := implFormatQuery (andA t) va u hq (by show 4 ≤ 4000000; decide) (and_sz t) h
    rw [HXA.out.2.2, HTAND.out] at h1
    exact h1)
  clear hD tAe tAnde hpl hpr hra hxk o_p ht_ hs5 hs5' hsA hsAnd
  go_wp2_with fail
  refine (FI.out _ (HT.out _ G1).1).mono ?_
  rintro e w2 ⟨he, g2⟩
  rw [HDD.out] at he
  subst he
  have G2 := G1.trans g2
  go_wp2_with fail
  refine (PQB.out _ (HT.out _ G2)).mono ?_
  rintro e w3 ⟨vq, rfl, oq, g3⟩
  have G3 := G2.trans g3
  go_wp2_with fail
  refine (PQA.out _ (HT.out _ G3)).mono ?_
  rintro e w4 ⟨vr, rfl, or_, g4⟩
  have G4 := G3.trans g4
  have oq4 := ownsRow_grew oq g4
  obtain ⟨gq, cq, hq_⟩ := own_first oq4 (by decide)
  obtain ⟨gr, cr, hr_⟩ := own_first or_ (by decide)
  subst hq_
  subst hr_
  have q0 : w4.cell? ⟨gq, 0, none⟩ = some (.int .i64 3) := by rw [oq4.cellAt 0 (by decide)]; rfl
  have q1 : w4.cell? ⟨gq, 1, none⟩ = some (.int .i64 0) := by rw [oq4.cellAt 1 (by decide)]; rfl
  have q2 : w4.cell? ⟨gq, 2, none⟩ = some (.int .i64 0) := by rw [oq4.cellAt 2 (by decide)]; rfl
  have q3 : w4.cell? ⟨gq, 3, none⟩ = some (.string ⟨#[97]⟩) := by rw [oq4.cellAt 3 (by decide)]; rfl
  have q4 : w4.cell? ⟨gq, 4, none⟩ = some (.int .i64 1) := by rw [oq4.cellAt 4 (by decide)]; rfl
  have q5 : w4.cell? ⟨gq, 5, none⟩ = some (.int .i64 t) := by rw [oq4.cellAt 5 (by decide)]; rfl
  have q6 : w4.cell? ⟨gq, 6, none⟩ = some (.string ⟨#[]⟩) := by rw [oq4.cellAt 6 (by decide)]; rfl
  have q7 : w4.cell? ⟨gq, 21, none⟩ = some (.int .i64 6) := by rw [oq4.cellAt 21 (by decide)]; rfl
  have r0 : w4.cell? ⟨gr, 0, none⟩ = some (.int .i64 3) := by rw [or_.cellAt 0 (by decide)]; rfl
  have r1 : w4.cell? ⟨gr, 1, none⟩ = some (.int .i64 0) := by rw [or_.cellAt 1 (by decide)]; rfl
  have r2 : w4.cell? ⟨gr, 2, none⟩ = some (.int .i64 0) := by rw [or_.cellAt 2 (by decide)]; rfl
  have r3 : w4.cell? ⟨gr, 3, none⟩ = some (.string ⟨#[97]⟩) := by rw [or_.cellAt 3 (by decide)]; rfl
  have r4 : w4.cell? ⟨gr, 4, none⟩ = some (.int .i64 1) := by rw [or_.cellAt 4 (by decide)]; rfl
  have r5 : w4.cell? ⟨gr, 5, none⟩ = some (.int .i64 t) := by rw [or_.cellAt 5 (by decide)]; rfl
  have r6 : w4.cell? ⟨gr, 6, none⟩ = some (.string ⟨#[]⟩) := by rw [or_.cellAt 6 (by decide)]; rfl
  have RQ := Lib.hid (rd_of_own oq4)
  clear oq oq4 or_
  go_wp2_with fail
  refine wp_region_noPanic ?_
  refine wp_region_held_drew (S := (fun w' => (w'.cell? ⟨gq, 0, none⟩ = some (.int .i64 3) ∧ w'.cell? ⟨gq, 1, none⟩ = some (.int .i64 0) ∧ w'.cell? ⟨gq, 2, none⟩ = some (.int .i64 0) ∧ w'.cell? ⟨gq, 3, none⟩ = some (.string ⟨#[97]⟩) ∧ w'.cell? ⟨gq, 4, none⟩ = some (.int .i64 1) ∧ w'.cell? ⟨gq, 5, none⟩ = some (.int .i64 t) ∧ w'.cell? ⟨gq, 6, none⟩ = some (.string ⟨#[]⟩) ∧ w'.cell? ⟨gq, 21, none⟩ = some (.int .i64 6) ∧ w'.cell? ⟨gr, 0, none⟩ = some (.int .i64 3) ∧ w'.cell? ⟨gr, 1, none⟩ = some (.int .i64 0) ∧ w'.cell? ⟨gr, 2, none⟩ = some (.int .i64 0) ∧ w'.cell? ⟨gr, 3, none⟩ = some (.string ⟨#[97]⟩) ∧ w'.cell? ⟨gr, 4, none⟩ = some (.int .i64 1) ∧ w'.cell? ⟨gr, 5, none⟩ = some (.int .i64 t) ∧ w'.cell? ⟨gr, 6, none⟩ = some (.string ⟨#[]⟩) ∧ Grew w4 w'))) (by kernel_rfl) ?h_S ?h_r
  case h_S => exact ⟨grew_cell (Grew.refl _).drew q0, grew_cell (Grew.refl _).drew q1, grew_cell (Grew.refl _).drew q2, grew_cell (Grew.refl _).drew q3, grew_cell (Grew.refl _).drew q4, grew_cell (Grew.refl _).drew q5, grew_cell (Grew.refl _).drew q6, grew_cell (Grew.refl _).drew q7, grew_cell (Grew.refl _).drew r0, grew_cell (Grew.refl _).drew r1, grew_cell (Grew.refl _).drew r2, grew_cell (Grew.refl _).drew r3, grew_cell (Grew.refl _).drew r4, grew_cell (Grew.refl _).drew r5, grew_cell (Grew.refl _).drew r6, (Grew.refl _).drew⟩
  case h_r =>
   intro HS
   refine tk' 0 HS ?_
   refine tk' 1 HS ?_
   refine tk' 2 HS ?_
   refine tk' 3 HS ?_
   refine tk' 4 HS ?_
   refine tk' 5 HS ?_
   refine tk' 6 HS ?_
   refine tk' 7 HS ?_
   refine tk' 8 HS ?_
   refine tk' 9 HS ?_
   refine tk' 10 HS ?_
   refine tk' 11 HS ?_
   refine tk' 12 HS ?_
   refine tk' 13 HS ?_
   refine tk' 14 HS ?_
   refine tk' 15 HS ?_
   refine tk' 16 HS ?_
   refine tk' 17 HS ?_
   refine tk' 18 HS ?_
   refine tk' 19 HS ?_
   refine tk' 20 HS ?_
   refine tk' 21 HS ?_
   refine tk' 22 HS ?_
   refine tk' 23 HS ?_
   refine tk' 24 HS ?_
   refine tk' 25 HS ?_
   refine tk' 26 HS ?_
   refine tk' 27 HS ?_
   refine tk' 28 HS ?_
   refine tk' 29 HS ?_
   refine tk' 30 HS ?_
   refine tk' 31 HS ?_
   refine tk' 33 HS ?_
   refine tk' 34 HS ?_ (hy := by (intro w' hSw; go_simp; (try rw [if_neg (by omega)]) <;> (try (with_reducible rfl))))
   refine tk' 35 HS ?_ (hy := by (intro w' hSw; go_simp; (try rw [if_neg (by omega)]) <;> (try (with_reducible rfl))))
   refine tk' 36 HS ?_
   refine tk' 37 HS ?_ (hy := by (intro w' hSw; go_simp; (try rw [if_neg (by omega)]) <;> (try (with_reducible rfl))))
   refine cl 32 rfl (by kernel_rfl) (fun K hK => ?_)
   go_simp
   refine (FQ.out _ _ (RQ.out.grew HS.2.2.2.2.2.2.2.2.2.2.2.2.2.2.2) (HT.out _ (G4.trans HS.2.2.2.2.2.2.2.2.2.2.2.2.2.2.2)).1).mono ?_
   rintro e w5 ⟨rfl, hb⟩
   refine hK.out _ _ ?s_c ?r_c
   case s_c => exact ⟨grew_cell hb HS.1, grew_cell hb HS.2.1, grew_cell hb HS.2.2.1, grew_cell hb HS.2.2.2.1, grew_cell hb HS.2.2.2.2.1, grew_cell hb HS.2.2.2.2.2.1, grew_cell hb HS.2.2.2.2.2.2.1, grew_cell hb HS.2.2.2.2.2.2.2.1, grew_cell hb HS.2.2.2.2.2.2.2.2.1, grew_cell hb HS.2.2.2.2.2.2.2.2.2.1, grew_cell hb HS.2.2.2.2.2.2.2.2.2.2.1, grew_cell hb HS.2.2.2.2.2.2.2.2.2.2.2.1, grew_cell hb HS.2.2.2.2.2.2.2.2.2.2.2.2.1, grew_cell hb HS.2.2.2.2.2.2.2.2.2.2.2.2.2.1, grew_cell hb HS.2.2.2.2.2.2.2.2.2.2.2.2.2.2.1, HS.2.2.2.2.2.2.2.2.2.2.2.2.2.2.2.trans hb⟩
   case r_c =>
    clear HS
    intro HS
    clear hK K
    try simp only [Act.put, lpa, lpb, lpc]
    refine tk' 38 HS ?_
    refine tk' 39 HS ?_
    refine tk' 40 HS ?_
    refine wpAnyH_done (by kernel_rfl) ?_ _
    refine NoPanic.normal ?_
    have GZ := G4.trans HS.2.2.2.2.2.2.2.2.2.2.2.2.2.2.2
    clear HS
    go_wp2
    go_ret
    exact ⟨rfl, GZ⟩
end Go.Proofs.YtodbohmbdgbheaaDoor.fnPrefixNotation
