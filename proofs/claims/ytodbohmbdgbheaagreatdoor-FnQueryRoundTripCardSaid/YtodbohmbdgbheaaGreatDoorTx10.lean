/- Contracts: the text of a query's node (impl). -/
import Derived.Test.YtodbohmbdgbheaaGreatDoorTx7
import Derived.Test.YtodbohmbdgbheaaGreatDoorTx9
import Derived.Test.YtodbohmbdgbheaaGreatDoorC5
import Derived.Test.YtodbohmbdgbheaaGreatDoorC6
import Derived.Test.YtodbohmbdgbheaaGreatDoorH4
import Derived.Test.YtodbohmbdgbheaaGreatDoorG
import Derived.Maps.AppendAt
namespace Go.Proofs.YtodbohmbdgbheaaGreatDoor
open Go.RowKit
set_option linter.unusedVariables false
theorem own1 (w : World) (e : TypeId) (u : Value) : (w.alloc (.cells #[u] e)).ownsRow w.heap.size e 1 (.slice (some ⟨w.heap.size, 0, none⟩) 1 1) 1 [u] :=
  ⟨by simp, .inr ⟨w.heap.size, 1, #[u], rfl, Nat.le_refl _, by rw [alloc_heap]; simp, Nat.le_refl _, by simp [maxLen], by simp, by simp⟩⟩
theorem join1 (a : By) : (⟨(Lib.join (bys [a]) [32]).toArray⟩ : By) = a := by apply ba_ext; simp [bys, Lib.join_one]
theorem join2 (a b : By) : (⟨(Lib.join (bys [a, b]) [32]).toArray⟩ : By) = a ++ ⟨#[32]⟩ ++ b := by apply ba_ext; simp [bys, Lib.join_cons, Lib.joinTail]
theorem join3 (a b c : By) : (⟨(Lib.join (bys [a, b, c]) [32]).toArray⟩ : By) = a ++ ⟨#[32]⟩ ++ b ++ ⟨#[32]⟩ ++ c := by apply ba_ext; simp [bys, Lib.join_cons, Lib.joinTail]
theorem joinl {xs : List By} {y : By} (h : (⟨(Lib.join (bys xs) [32]).toArray⟩ : By) = y) : (Lib.join (bys xs) [32]).length = y.size := by
  rw [← h]; simp [ByteArray.size]
theorem news_1 {w : World} {v : Value} {e : TypeId} {g : Nat} (hg : g = w.heap.size) : ∀ j u, [v][j]? = some u → (w.alloc (.cells #[v] e)).cell? ((⟨g, 0, none⟩ : Addr).add j) = some u := by
  subst hg; exact cell_one_new _ _ _
theorem cell_kept {w w' : World} {row : Option Nat} (hg : w.grownBy w' row) {a : Addr} (hne : row ≠ some a.block) {u : Value} (h : w.cell? a = some u) : w'.cell? a = some u := by
  have hb := hg.block a.block (lt_of_cell h) (fun e => hne e.symm)
  simp only [World.cell?] at h ⊢
  rw [hb]
  exact h
theorem news_two {w : World} {g : Nat} {u v : Value} (h1 : w.cell? ⟨g, 0, none⟩ = some u) (h2 : w.cell? ⟨g, 1, none⟩ = some v) : ∀ (j : Nat) x, [u, v][j]? = some x → w.cell? ((⟨g, 0, none⟩ : Addr).add j) = some x := by
  intro j x hx
  rcases j with _ | _ | j
  · simp at hx; subst hx; exact h1
  · simp at hx; subst hx; exact h2
  · simp at hx
theorem joinOwn {w : World} {base : Nat} {e : TypeId} {v : Value} {n : Nat} {xs : List By} (h : w.ownsRow base e 1 v n (strs xs)) (hn : 0 < n) (h2 : n ≤ 4000000) (hlen : (Lib.join (bys xs) [32]).length ≤ 1000000) :
    Calls Tryz.prog 49 #[v, .string ⟨#[32]⟩] w fun e w' => e = .returned (.string ⟨(Lib.join (bys xs) [32]).toArray⟩) ∧ Grew w w' := by
  have hl : xs.length = n := by have := h.1; simpa using this
  have h0 := h
  obtain ⟨_, ⟨rfl, h1⟩ | ⟨g, cap, cur, rfl, hb, hg, hc, _, _, _⟩⟩ := h
  · omega
  subst hl
  refine (Tryz.strings_Join g 0 cap xs ⟨#[32]⟩ w ?_ ?_ (by omega) hc (by have : (⟨#[32]⟩ : By).data.toList = [32] := rfl; rw [this]; exact Nat.le_trans hlen (by decide))).mono fun e w' he => he
  · intro j x hx
    have hj := (List.getElem?_eq_some_iff.1 hx).1
    rw [Nat.zero_add, h0.cellAt j (by omega)]
    simp [hx]
  · exact (Array.getElem?_eq_some_iff.1 hg).1
set_option maxRecDepth 100000 in
set_option maxHeartbeats 4000000 in
theorem implQueryText (q : List N) (va : Value) (W0 : World) (hq : Rd W0 va 7 q.length (rows N.c q)) (hv : qryB q = true) (ht : TabP W0) :
    ∀ (d i : Nat) (w : World), d ≤ 9 → Grew W0 w → i < d → i < q.length → Calls Tryz.prog 26 #[va, .int .i64 i] w fun e w' => e = .returned (.string (txA q d i)) ∧ Grew w w' := by
  have HT := Lib.hid ht
  clear ht
  have HV := Lib.hid hv
  obtain ⟨a, ca, rfl, hca, hra⟩ := hq
  clear hv
  obtain ⟨i0, hi, hz0, hz1, hz2⟩ := info_parts Tryz.infoString
  intro d
  induction d with
  | zero => intro i w _ _ h; omega
  | succ d ih =>
    intro i w hd9 hg hid hlt
    have IH := Lib.hid ih
    clear ih
    obtain ⟨b1, o1, x, rfl, hxk, c0, c1, c2, c3, c4, c5, c6⟩ := (hra.grew hg).getN hlt
    have HN := Lib.hid (nod_cases (by have := txq_len HV.out; omega) (qry_vf HV.out i x (Nat.zero_le _) hxk.out))
    have HM := Lib.hid (txA_at (d := d) HV.out hxk.out (by omega))
    have HL := Lib.hid (fun (j : Nat) (h1 : j < d) (h2 : j < q.length) => txA_len HV.out (by omega : d ≤ 9) h2 h1)
    have hns := nod_sizes HV.out hxk.out
    obtain ⟨hnm, hvs, hfs⟩ := hns
    obtain ⟨op, l, r, nm, v⟩ := x
    simp only at c0 c1 c2 c3 c4 c5 c6 hnm hvs hfs
    have HN2 := HN.out
    simp only at HN2
    simp only at HM
    obtain ⟨fv, hfv_⟩ : ∃ y, fvB v = y := ⟨_, rfl⟩
    have HFV := Lib.hid hfv_
    rw [hfv_] at HM hfs
    clear hfv_
    have hcs : ∃ m : Nat, op = m ∧ 1 ≤ m ∧ m ≤ 9 := by
      rcases HN2 with h | ⟨h, _⟩ | ⟨h, _⟩ | ⟨h, _⟩ | ⟨h, _⟩ | ⟨h, _⟩ | ⟨h, _⟩
      · exact ⟨1, h, by decide, by decide⟩
      · exact ⟨2, h, by decide, by decide⟩
      · exact ⟨3, h, by decide, by decide⟩
      · exact ⟨4, h, by decide, by decide⟩
      · exact ⟨5, h, by decide, by decide⟩
      · rcases h with h | h
        · exact ⟨6, h, by decide, by decide⟩
        · exact ⟨7, h, by decide, by decide⟩
      · rcases h with h | h
        · exact ⟨8, h, by decide, by decide⟩
        · exact ⟨9, h, by decide, by decide⟩
    clear HN2
    obtain ⟨m, rfl, hm1, hm9⟩ := hcs
    obtain ⟨K, hK_⟩ : ∃ y, kw (m : Nat) = y := ⟨_, rfl⟩
    have HK := Lib.hid hK_
    have hks : K.size ≤ 6 := by rw [← hK_]; exact kw_size hm1 hm9
    rw [hK_] at HM
    clear hK_
    have hc9 : m = 1 ∨ m = 2 ∨ m = 3 ∨ m = 4 ∨ m = 5 ∨ m = 6 ∨ m = 7 ∨ m = 8 ∨ m = 9 := by omega
    clear hm1 hm9
    have hal := (Grew.refl w).alloc (.cells #[.int .i64 m, .int .i64 l, .int .i64 r, .string nm, .int .i64 v.kind, .int .i64 v.int, .string v.str] 38)
    rcases hc9 with rfl | rfl | rfl | rfl | rfl | rfl | rfl | rfl | rfl
    · go_enter Tryz.func26, Tryz.ntmps26
      go_wp2_with (first | (go_at_call 15; refine (implOpKeyword _ _).mono ?_; rintro e w1 ⟨he, g1⟩; rw [show kw (1 : Int) = K from HK.out] at he; subst he; have k0 := grew_cell ((g1.alloc (.cells #[.string K] 9))) (a := ⟨w.heap.size, 0, none⟩) (u := .int .i64 1) (by simp); have k1 := grew_cell ((g1.alloc (.cells #[.string K] 9))) (a := ⟨w.heap.size, 1, none⟩) (u := .int .i64 l) (by simp); have k2 := grew_cell ((g1.alloc (.cells #[.string K] 9))) (a := ⟨w.heap.size, 2, none⟩) (u := .int .i64 r) (by simp); have k3 := grew_cell ((g1.alloc (.cells #[.string K] 9))) (a := ⟨w.heap.size, 3, none⟩) (u := .string nm) (by simp); have k4 := grew_cell ((g1.alloc (.cells #[.string K] 9))) (a := ⟨w.heap.size, 4, none⟩) (u := .int .i64 v.kind) (by simp); have k5 := grew_cell ((g1.alloc (.cells #[.string K] 9))) (a := ⟨w.heap.size, 5, none⟩) (u := .int .i64 v.int) (by simp); have k6 := grew_cell ((g1.alloc (.cells #[.string K] 9))) (a := ⟨w.heap.size, 6, none⟩) (u := .string v.str) (by simp)) | (go_at_call 49; refine (joinOwn (xs := [K]) (own1 w1 9 (.string K)) (by decide) (by decide) (by rw [joinl (join1 K)]; omega)).mono ?_; rintro e w4 ⟨he, g4⟩; rw [join1] at he; subst he))
      go_ret
      exact ⟨ret_str HM.out.symm, ((hal.trans g1).alloc _).trans g4⟩
    · go_enter Tryz.func26, Tryz.ntmps26
      go_wp2_with (first | (go_at_call 15; refine (implOpKeyword _ _).mono ?_; rintro e w1 ⟨he, g1⟩; rw [show kw (2 : Int) = K from HK.out] at he; subst he; have k0 := grew_cell ((g1.alloc (.cells #[.string K] 9))) (a := ⟨w.heap.size, 0, none⟩) (u := .int .i64 2) (by simp); have k1 := grew_cell ((g1.alloc (.cells #[.string K] 9))) (a := ⟨w.heap.size, 1, none⟩) (u := .int .i64 l) (by simp); have k2 := grew_cell ((g1.alloc (.cells #[.string K] 9))) (a := ⟨w.heap.size, 2, none⟩) (u := .int .i64 r) (by simp); have k3 := grew_cell ((g1.alloc (.cells #[.string K] 9))) (a := ⟨w.heap.size, 3, none⟩) (u := .string nm) (by simp); have k4 := grew_cell ((g1.alloc (.cells #[.string K] 9))) (a := ⟨w.heap.size, 4, none⟩) (u := .int .i64 v.kind) (by simp); have k5 := grew_cell ((g1.alloc (.cells #[.string K] 9))) (a := ⟨w.heap.size, 5, none⟩) (u := .int .i64 v.int) (by simp); have k6 := grew_cell ((g1.alloc (.cells #[.string K] 9))) (a := ⟨w.heap.size, 6, none⟩) (u := .string v.str) (by simp)) | (at_builtin; refine wpList_append_own _ rfl _ _ 48 rfl w1.heap.size 9 i0 (.string ⟨#[]⟩) 1 16 Tryz.underlying48 hi hz0 hz1 hz2 rfl (by decide) _ 1 [.string K] rfl (ownsRow_grew (own1 w1 9 (.string K)) ((Grew.refl _).alloc _)) ⟨_, 0, none⟩ 1 1 [.string nm] rfl rfl (news_1 (by simp)) (fun x hx => by simp at hx; subst hx; rfl) (by unfold maxLen; omega) (by omega) (by simp <;> omega) ?_; intro v3 w3 o3 hgr _; have G3 : Grew w1 w3 := (((Grew.refl w1).alloc _).alloc _).grown hgr (fun j h => by have : w1.heap.size = j := Option.some.inj h; omega); replace o3 : w3.ownsRow w1.heap.size 9 1 v3 2 (strs [K, nm]) := o3; have O3 := Lib.hid o3; obtain ⟨pa, pc, rfl⟩ := own_slice o3; clear o3 hgr) | (go_at_call 49; refine (joinOwn (xs := [K, nm]) O3.out (by decide) (by decide) (by rw [joinl (join2 K nm)]; simp only [ByteArray.size_append', ByteArray.size_mk']; simp; omega)).mono ?_; rintro e w4 ⟨he, g4⟩; rw [join2 K nm] at he; subst he))
      go_ret
      exact ⟨ret_str HM.out.symm, ((hal.trans g1).trans (G3.trans g4))⟩
    · go_enter Tryz.func26, Tryz.ntmps26
      go_wp2_with (first | (go_at_call 15; refine (implOpKeyword _ _).mono ?_; rintro e w1 ⟨he, g1⟩; rw [show kw (3 : Int) = K from HK.out] at he; subst he; have k0 := grew_cell ((g1.alloc (.cells #[.string K] 9))) (a := ⟨w.heap.size, 0, none⟩) (u := .int .i64 3) (by simp); have k1 := grew_cell ((g1.alloc (.cells #[.string K] 9))) (a := ⟨w.heap.size, 1, none⟩) (u := .int .i64 l) (by simp); have k2 := grew_cell ((g1.alloc (.cells #[.string K] 9))) (a := ⟨w.heap.size, 2, none⟩) (u := .int .i64 r) (by simp); have k3 := grew_cell ((g1.alloc (.cells #[.string K] 9))) (a := ⟨w.heap.size, 3, none⟩) (u := .string nm) (by simp); have k4 := grew_cell ((g1.alloc (.cells #[.string K] 9))) (a := ⟨w.heap.size, 4, none⟩) (u := .int .i64 v.kind) (by simp); have k5 := grew_cell ((g1.alloc (.cells #[.string K] 9))) (a := ⟨w.heap.size, 5, none⟩) (u := .int .i64 v.int) (by simp); have k6 := grew_cell ((g1.alloc (.cells #[.string K] 9))) (a := ⟨w.heap.size, 6, none⟩) (u := .string v.str) (by simp)))
      have R0 := Lib.hid (ownsRow_grew (own1 w1 9 (.string K)) (Grew.refl _).drew)
      refine wp_region_noPanic ?_
      refine wp_region_held_drew (S := (fun w' => (w'.cell? ⟨w.heap.size, 3, none⟩ = some (.string nm) ∧ w'.cell? ⟨w.heap.size, 4, none⟩ = some (.int .i64 v.kind) ∧ w'.cell? ⟨w.heap.size, 5, none⟩ = some (.int .i64 v.int) ∧ w'.cell? ⟨w.heap.size, 6, none⟩ = some (.string v.str) ∧ Grew w1 w'))) (by kernel_rfl) ?hq1S ?hq1r
      case hq1S => exact ⟨grew_cell (Grew.refl _).drew k3, grew_cell (Grew.refl _).drew k4, grew_cell (Grew.refl _).drew k5, grew_cell (Grew.refl _).drew k6, ((Grew.refl _).alloc _).drew⟩
      case hq1r =>
        intro HS
        first | refine sk' 0 HS ?_ | refine tk' 0 HS ?_
        first | refine sk' 1 HS ?_ | refine tk' 1 HS ?_
        first | refine sk' 2 HS ?_ | refine tk' 2 HS ?_
        first | refine sk' 3 HS ?_ | refine tk' 3 HS ?_
        first | refine sk' 4 HS ?_ | refine tk' 4 HS ?_
        refine cl' 5 fun K0 hK0 => ?_
        rw [if_pos (by rfl)]
        go_simp
        go_at_call 48
        refine (implFormatValue v _ hvs (HT.out.grew (hg.trans ((hal.trans g1).trans HS.2.2.2.2)))).mono ?_
        rintro e w2 ⟨he, hb⟩
        rw [HFV.out] at he
        subst he
        have R1 := Lib.hid (ownsRow_grew R0.out hb)
        refine hK0.out _ _ ?sq1_5 ?rq1_5
        case sq1_5 => exact ⟨grew_cell hb HS.1, grew_cell hb HS.2.1, grew_cell hb HS.2.2.1, grew_cell hb HS.2.2.2.1, HS.2.2.2.2.trans hb⟩
        case rq1_5 =>
          clear HS hK0 K0; intro HS
          try simp only [Act.put, lpa, lpb, lpc]
          refine cl' 6 fun K0 hK0 => ?_
          rw [if_pos (by rfl)]
          go_simp
          refine hK0.out _ _ ?sq1_6 ?rq1_6
          case sq1_6 => exact ⟨grew_cell ((Grew.refl _).alloc _) HS.1, grew_cell ((Grew.refl _).alloc _) HS.2.1, grew_cell ((Grew.refl _).alloc _) HS.2.2.1, grew_cell ((Grew.refl _).alloc _) HS.2.2.2.1, HS.2.2.2.2.alloc _⟩
          case rq1_6 =>
            clear HS hK0 K0; intro HS
            have R2 := Lib.hid (ownsRow_grew R1.out ((Grew.refl _).alloc (.cells #[.string nm, .string fv] 9)))
            try simp only [Act.put, lpa, lpb, lpc]
            refine cl' 7 fun K0 hK0 => ?_
            rw [if_pos (by rfl)]
            have hsz := HS.2.2.2.2.size
            refine wp_append_own _ _ _ 48 rfl w1.heap.size 9 i0 (.string ⟨#[]⟩) 1 16 Tryz.underlying48 hi hz0 hz1 hz2 rfl (by decide) _ 1 [.string K] rfl R2.out ⟨_, 0, none⟩ 2 2 [.string nm, .string fv] rfl rfl (news_two (by simp) (by simp)) (fun x hx => by simp at hx; rcases hx with rfl | rfl <;> rfl) (by unfold maxLen; omega) (by omega) (by omega) ?_
            intro v3 w3 o3 hgr _
            have G3 : Grew w1 w3 := HS.2.2.2.2.grown hgr (fun j h => by have : w1.heap.size = j := Option.some.inj h; omega)
            have hcl : ∀ (a : Addr) (u : Value), a.block < w1.heap.size → (w2.alloc (.cells #[.string nm, .string fv] 9)).cell? a = some u → w3.cell? a = some u := fun a u ha hu => (cell_kept hgr (fun h => by have : w1.heap.size = a.block := Option.some.inj h; omega) hu)
            replace o3 : w3.ownsRow w1.heap.size 9 1 v3 3 (strs [K, nm, fv]) := o3
            have O3 := Lib.hid o3
            obtain ⟨pa, pc, rfl⟩ := own_slice o3
            clear o3 hgr
            have hwl := g1.size
            rw [World.size_alloc] at hwl
            refine hK0.out _ _ ?sq1_7 ?rq1_7
            case sq1_7 => exact ⟨hcl _ _ (by dsimp only; omega) HS.1, hcl _ _ (by dsimp only; omega) HS.2.1, hcl _ _ (by dsimp only; omega) HS.2.2.1, hcl _ _ (by dsimp only; omega) HS.2.2.2.1, G3⟩
            case rq1_7 =>
              clear HS hK0 K0; intro HS
              try simp only [Act.put, lpa, lpb, lpc]
              first | refine sk' 8 HS ?_ | refine tk' 8 HS ?_
              refine wpAnyH_done (by kernel_rfl) ?_ _
              refine NoPanic.normal ?_
              go_wp2_with (first | (go_at_call 49; refine (joinOwn (xs := [K, nm, fv]) O3.out (by decide) (by decide) (by rw [joinl (join3 K nm fv)]; simp only [ByteArray.size_append', ByteArray.size_mk']; simp; omega)).mono ?_; rintro e w4 ⟨he, g4⟩; rw [join3 K nm fv] at he; subst he))
              go_ret
              exact ⟨ret_str HM.out.symm, ((hal.trans g1).trans (G3.trans g4))⟩
    · go_enter Tryz.func26, Tryz.ntmps26
      go_wp2_with (first | (go_at_call 15; refine (implOpKeyword _ _).mono ?_; rintro e w1 ⟨he, g1⟩; rw [show kw (4 : Int) = K from HK.out] at he; subst he; have k0 := grew_cell ((g1.alloc (.cells #[.string K] 9))) (a := ⟨w.heap.size, 0, none⟩) (u := .int .i64 4) (by simp); have k1 := grew_cell ((g1.alloc (.cells #[.string K] 9))) (a := ⟨w.heap.size, 1, none⟩) (u := .int .i64 l) (by simp); have k2 := grew_cell ((g1.alloc (.cells #[.string K] 9))) (a := ⟨w.heap.size, 2, none⟩) (u := .int .i64 r) (by simp); have k3 := grew_cell ((g1.alloc (.cells #[.string K] 9))) (a := ⟨w.heap.size, 3, none⟩) (u := .string nm) (by simp); have k4 := grew_cell ((g1.alloc (.cells #[.string K] 9))) (a := ⟨w.heap.size, 4, none⟩) (u := .int .i64 v.kind) (by simp); have k5 := grew_cell ((g1.alloc (.cells #[.string K] 9))) (a := ⟨w.heap.size, 5, none⟩) (u := .int .i64 v.int) (by simp); have k6 := grew_cell ((g1.alloc (.cells #[.string K] 9))) (a := ⟨w.heap.size, 6, none⟩) (u := .string v.str) (by simp)))
      have R0 := Lib.hid (ownsRow_grew (own1 w1 9 (.string K)) (Grew.refl _).drew)
      refine wp_region_noPanic ?_
      refine wp_region_held_drew (S := (fun w' => (w'.cell? ⟨w.heap.size, 3, none⟩ = some (.string nm) ∧ w'.cell? ⟨w.heap.size, 4, none⟩ = some (.int .i64 v.kind) ∧ w'.cell? ⟨w.heap.size, 5, none⟩ = some (.int .i64 v.int) ∧ w'.cell? ⟨w.heap.size, 6, none⟩ = some (.string v.str) ∧ Grew w1 w'))) (by kernel_rfl) ?hq2S ?hq2r
      case hq2S => exact ⟨grew_cell (Grew.refl _).drew k3, grew_cell (Grew.refl _).drew k4, grew_cell (Grew.refl _).drew k5, grew_cell (Grew.refl _).drew k6, ((Grew.refl _).alloc _).drew⟩
      case hq2r =>
        intro HS
        first | refine sk' 0 HS ?_ | refine tk' 0 HS ?_
        first | refine sk' 1 HS ?_ | refine tk' 1 HS ?_
        first | refine sk' 2 HS ?_ | refine tk' 2 HS ?_
        first | refine sk' 3 HS ?_ | refine tk' 3 HS ?_
        first | refine sk' 4 HS ?_ | refine tk' 4 HS ?_
        refine cl' 5 fun K0 hK0 => ?_
        rw [if_pos (by rfl)]
        go_simp
        go_at_call 48
        refine (implFormatValue v _ hvs (HT.out.grew (hg.trans ((hal.trans g1).trans HS.2.2.2.2)))).mono ?_
        rintro e w2 ⟨he, hb⟩
        rw [HFV.out] at he
        subst he
        have R1 := Lib.hid (ownsRow_grew R0.out hb)
        refine hK0.out _ _ ?sq2_5 ?rq2_5
        case sq2_5 => exact ⟨grew_cell hb HS.1, grew_cell hb HS.2.1, grew_cell hb HS.2.2.1, grew_cell hb HS.2.2.2.1, HS.2.2.2.2.trans hb⟩
        case rq2_5 =>
          clear HS hK0 K0; intro HS
          try simp only [Act.put, lpa, lpb, lpc]
          refine cl' 6 fun K0 hK0 => ?_
          rw [if_pos (by rfl)]
          go_simp
          refine hK0.out _ _ ?sq2_6 ?rq2_6
          case sq2_6 => exact ⟨grew_cell ((Grew.refl _).alloc _) HS.1, grew_cell ((Grew.refl _).alloc _) HS.2.1, grew_cell ((Grew.refl _).alloc _) HS.2.2.1, grew_cell ((Grew.refl _).alloc _) HS.2.2.2.1, HS.2.2.2.2.alloc _⟩
          case rq2_6 =>
            clear HS hK0 K0; intro HS
            have R2 := Lib.hid (ownsRow_grew R1.out ((Grew.refl _).alloc (.cells #[.string nm, .string fv] 9)))
            try simp only [Act.put, lpa, lpb, lpc]
            refine cl' 7 fun K0 hK0 => ?_
            rw [if_pos (by rfl)]
            have hsz := HS.2.2.2.2.size
            refine wp_append_own _ _ _ 48 rfl w1.heap.size 9 i0 (.string ⟨#[]⟩) 1 16 Tryz.underlying48 hi hz0 hz1 hz2 rfl (by decide) _ 1 [.string K] rfl R2.out ⟨_, 0, none⟩ 2 2 [.string nm, .string fv] rfl rfl (news_two (by simp) (by simp)) (fun x hx => by simp at hx; rcases hx with rfl | rfl <;> rfl) (by unfold maxLen; omega) (by omega) (by omega) ?_
            intro v3 w3 o3 hgr _
            have G3 : Grew w1 w3 := HS.2.2.2.2.grown hgr (fun j h => by have : w1.heap.size = j := Option.some.inj h; omega)
            have hcl : ∀ (a : Addr) (u : Value), a.block < w1.heap.size → (w2.alloc (.cells #[.string nm, .string fv] 9)).cell? a = some u → w3.cell? a = some u := fun a u ha hu => (cell_kept hgr (fun h => by have : w1.heap.size = a.block := Option.some.inj h; omega) hu)
            replace o3 : w3.ownsRow w1.heap.size 9 1 v3 3 (strs [K, nm, fv]) := o3
            have O3 := Lib.hid o3
            obtain ⟨pa, pc, rfl⟩ := own_slice o3
            clear o3 hgr
            have hwl := g1.size
            rw [World.size_alloc] at hwl
            refine hK0.out _ _ ?sq2_7 ?rq2_7
            case sq2_7 => exact ⟨hcl _ _ (by dsimp only; omega) HS.1, hcl _ _ (by dsimp only; omega) HS.2.1, hcl _ _ (by dsimp only; omega) HS.2.2.1, hcl _ _ (by dsimp only; omega) HS.2.2.2.1, G3⟩
            case rq2_7 =>
              clear HS hK0 K0; intro HS
              try simp only [Act.put, lpa, lpb, lpc]
              first | refine sk' 8 HS ?_ | refine tk' 8 HS ?_
              refine wpAnyH_done (by kernel_rfl) ?_ _
              refine NoPanic.normal ?_
              go_wp2_with (first | (go_at_call 49; refine (joinOwn (xs := [K, nm, fv]) O3.out (by decide) (by decide) (by rw [joinl (join3 K nm fv)]; simp only [ByteArray.size_append', ByteArray.size_mk']; simp; omega)).mono ?_; rintro e w4 ⟨he, g4⟩; rw [join3 K nm fv] at he; subst he))
              go_ret
              exact ⟨ret_str HM.out.symm, ((hal.trans g1).trans (G3.trans g4))⟩
    · have h5 := HN.out
      simp only at h5
      obtain ⟨j, rfl, hj⟩ := nc5 h5
      clear h5
      obtain ⟨X, hX_⟩ : ∃ y, txA q d j = y := ⟨_, rfl⟩
      have HX := Lib.hid hX_
      have hXs := HL.out j (by omega) (by omega)
      rw [hX_] at hXs
      rw [show ((j : Int)).toNat = j from rfl, hX_] at HM
      clear hX_
      go_enter Tryz.func26, Tryz.ntmps26
      go_wp2_with (first | (go_at_call 15; refine (implOpKeyword _ _).mono ?_; rintro e w1 ⟨he, g1⟩; rw [show kw (5 : Int) = K from HK.out] at he; subst he; have k0 := grew_cell ((g1.alloc (.cells #[.string K] 9))) (a := ⟨w.heap.size, 0, none⟩) (u := .int .i64 5) (by simp); have k1 := grew_cell ((g1.alloc (.cells #[.string K] 9))) (a := ⟨w.heap.size, 1, none⟩) (u := .int .i64 j) (by simp); have k2 := grew_cell ((g1.alloc (.cells #[.string K] 9))) (a := ⟨w.heap.size, 2, none⟩) (u := .int .i64 r) (by simp); have k3 := grew_cell ((g1.alloc (.cells #[.string K] 9))) (a := ⟨w.heap.size, 3, none⟩) (u := .string nm) (by simp); have k4 := grew_cell ((g1.alloc (.cells #[.string K] 9))) (a := ⟨w.heap.size, 4, none⟩) (u := .int .i64 v.kind) (by simp); have k5 := grew_cell ((g1.alloc (.cells #[.string K] 9))) (a := ⟨w.heap.size, 5, none⟩) (u := .int .i64 v.int) (by simp); have k6 := grew_cell ((g1.alloc (.cells #[.string K] 9))) (a := ⟨w.heap.size, 6, none⟩) (u := .string v.str) (by simp)) | (go_at_call 26; refine (IH.out j _ (by omega) (hg.trans ((hal.trans g1).alloc _)) (by omega) (by omega)).mono ?_; rintro e w2 ⟨he, g2⟩; rw [HX.out] at he; subst he) | (at_builtin; refine wpList_append_own _ rfl _ _ 48 rfl w1.heap.size 9 i0 (.string ⟨#[]⟩) 1 16 Tryz.underlying48 hi hz0 hz1 hz2 rfl (by decide) _ 1 [.string K] rfl (ownsRow_grew (ownsRow_grew (own1 w1 9 (.string K)) g2) ((Grew.refl _).alloc _)) ⟨_, 0, none⟩ 1 1 [.string X] rfl rfl (cell_one_new _ _ _) (fun x hx => by simp at hx; subst hx; rfl) (by unfold maxLen; omega) (by omega) (by have := g2.size; simp at this ⊢; omega) ?_; intro v3 w3 o3 hgr _; have G3 : Grew w1 w3 := ((((Grew.refl w1).alloc _).trans g2).alloc _).grown hgr (fun j h => by have : w1.heap.size = j := Option.some.inj h; omega); replace o3 : w3.ownsRow w1.heap.size 9 1 v3 2 (strs [K, X]) := o3; have O3 := Lib.hid o3; obtain ⟨pa, pc, rfl⟩ := own_slice o3; clear o3 hgr) | (go_at_call 49; refine (joinOwn (xs := [K, X]) O3.out (by decide) (by decide) (by rw [joinl (join2 K X)]; simp only [ByteArray.size_append', ByteArray.size_mk']; simp; omega)).mono ?_; rintro e w4 ⟨he, g4⟩; rw [join2 K X] at he; subst he))
      go_ret
      exact ⟨ret_str HM.out.symm, ((hal.trans g1).trans (G3.trans g4))⟩
    · have h5 := HN.out
      simp only at h5
      obtain ⟨j, j2, rfl, rfl, hj, hj2⟩ := nc67 (by decide) h5
      clear h5
      obtain ⟨X, hX_⟩ : ∃ y, txA q d j = y := ⟨_, rfl⟩
      obtain ⟨Y, hY_⟩ : ∃ y, txA q d j2 = y := ⟨_, rfl⟩
      have HX := Lib.hid hX_
      have HY := Lib.hid hY_
      have hXs := HL.out j (by omega) (by omega)
      have hYs := HL.out j2 (by omega) (by omega)
      rw [hX_] at hXs
      rw [hY_] at hYs
      rw [show ((j : Int)).toNat = j from rfl, show ((j2 : Int)).toNat = j2 from rfl, hX_, hY_] at HM
      clear hX_ hY_
      go_enter Tryz.func26, Tryz.ntmps26
      go_wp2_with (first | (go_at_call 15; refine (implOpKeyword _ _).mono ?_; rintro e w1 ⟨he, g1⟩; rw [show kw (6 : Int) = K from HK.out] at he; subst he; have k0 := grew_cell ((g1.alloc (.cells #[.string K] 9))) (a := ⟨w.heap.size, 0, none⟩) (u := .int .i64 6) (by simp); have k1 := grew_cell ((g1.alloc (.cells #[.string K] 9))) (a := ⟨w.heap.size, 1, none⟩) (u := .int .i64 j) (by simp); have k2 := grew_cell ((g1.alloc (.cells #[.string K] 9))) (a := ⟨w.heap.size, 2, none⟩) (u := .int .i64 j2) (by simp); have k3 := grew_cell ((g1.alloc (.cells #[.string K] 9))) (a := ⟨w.heap.size, 3, none⟩) (u := .string nm) (by simp); have k4 := grew_cell ((g1.alloc (.cells #[.string K] 9))) (a := ⟨w.heap.size, 4, none⟩) (u := .int .i64 v.kind) (by simp); have k5 := grew_cell ((g1.alloc (.cells #[.string K] 9))) (a := ⟨w.heap.size, 5, none⟩) (u := .int .i64 v.int) (by simp); have k6 := grew_cell ((g1.alloc (.cells #[.string K] 9))) (a := ⟨w.heap.size, 6, none⟩) (u := .string v.str) (by simp)))
      have R0 := Lib.hid (ownsRow_grew (own1 w1 9 (.string K)) (Grew.refl _).drew)
      refine wp_region_noPanic ?_
      refine wp_region_held_drew (S := (fun w' => (w'.cell? ⟨w.heap.size, 1, none⟩ = some (.int .i64 j) ∧ w'.cell? ⟨w.heap.size, 2, none⟩ = some (.int .i64 j2) ∧ Grew w1 w'))) (by kernel_rfl) ?hq3S ?hq3r
      case hq3S => exact ⟨grew_cell (Grew.refl _).drew k1, grew_cell (Grew.refl _).drew k2, ((Grew.refl _).alloc _).drew⟩
      case hq3r =>
        intro HS
        first | refine sk' 0 HS ?_ | refine tk' 0 HS ?_
        first | refine sk' 1 HS ?_ | refine tk' 1 HS ?_
        first | refine sk' 2 HS ?_ | refine tk' 2 HS ?_
        first | refine sk' 3 HS ?_ | refine tk' 3 HS ?_
        first | refine sk' 5 HS ?_ | refine tk' 5 HS ?_
        first | refine sk' 6 HS ?_ | refine tk' 6 HS ?_
        first | refine sk' 7 HS ?_ | refine tk' 7 HS ?_
        refine cl' 4 fun K0 hK0 => ?_
        rw [if_pos (by rfl)]
        go_simp
        go_at_call 26
        refine (IH.out j _ (by omega) (hg.trans ((hal.trans g1).trans HS.2.2)) (by omega) (by omega)).mono ?_
        rintro e w2a ⟨he, hb⟩
        rw [HX.out] at he
        subst he
        have Ra := Lib.hid (ownsRow_grew R0.out hb)
        refine hK0.out _ _ ?sq3_4 ?rq3_4
        case sq3_4 => exact ⟨grew_cell hb HS.1, grew_cell hb HS.2.1, HS.2.2.trans hb⟩
        case rq3_4 =>
          clear HS hK0 K0; intro HS
          try simp only [Act.put, lpa, lpb, lpc]
          refine cl' 8 fun K0 hK0 => ?_
          rw [if_pos (by rfl)]
          go_simp
          go_at_call 26
          refine (IH.out j2 _ (by omega) (hg.trans ((hal.trans g1).trans HS.2.2)) (by omega) (by omega)).mono ?_
          rintro e w2 ⟨he, hb⟩
          rw [HY.out] at he
          subst he
          have R1 := Lib.hid (ownsRow_grew Ra.out hb)
          refine hK0.out _ _ ?sq3_8 ?rq3_8
          case sq3_8 => exact ⟨grew_cell hb HS.1, grew_cell hb HS.2.1, HS.2.2.trans hb⟩
          case rq3_8 =>
            clear HS hK0 K0; intro HS
            try simp only [Act.put, lpa, lpb, lpc]
            refine cl' 9 fun K0 hK0 => ?_
            rw [if_pos (by rfl)]
            go_simp
            refine hK0.out _ _ ?sq3_9 ?rq3_9
            case sq3_9 => exact ⟨grew_cell ((Grew.refl _).alloc _) HS.1, grew_cell ((Grew.refl _).alloc _) HS.2.1, HS.2.2.alloc _⟩
            case rq3_9 =>
              clear HS hK0 K0; intro HS
              have R2 := Lib.hid (ownsRow_grew R1.out ((Grew.refl _).alloc (.cells #[.string X, .string Y] 9)))
              try simp only [Act.put, lpa, lpb, lpc]
              refine cl' 10 fun K0 hK0 => ?_
              rw [if_pos (by rfl)]
              have hsz := HS.2.2.size
              refine wp_append_own _ _ _ 48 rfl w1.heap.size 9 i0 (.string ⟨#[]⟩) 1 16 Tryz.underlying48 hi hz0 hz1 hz2 rfl (by decide) _ 1 [.string K] rfl R2.out ⟨_, 0, none⟩ 2 2 [.string X, .string Y] rfl rfl (news_two (by simp) (by simp)) (fun x hx => by simp at hx; rcases hx with rfl | rfl <;> rfl) (by unfold maxLen; omega) (by omega) (by omega) ?_
              intro v3 w3 o3 hgr _
              have G3 : Grew w1 w3 := HS.2.2.grown hgr (fun j h => by have : w1.heap.size = j := Option.some.inj h; omega)
              have hcl : ∀ (a : Addr) (u : Value), a.block < w1.heap.size → (w2.alloc (.cells #[.string X, .string Y] 9)).cell? a = some u → w3.cell? a = some u := fun a u ha hu => (cell_kept hgr (fun h => by have : w1.heap.size = a.block := Option.some.inj h; omega) hu)
              replace o3 : w3.ownsRow w1.heap.size 9 1 v3 3 (strs [K, X, Y]) := o3
              have O3 := Lib.hid o3
              obtain ⟨pa, pc, rfl⟩ := own_slice o3
              clear o3 hgr
              have hwl := g1.size
              rw [World.size_alloc] at hwl
              refine hK0.out _ _ ?sq3_10 ?rq3_10
              case sq3_10 => exact ⟨hcl _ _ (by dsimp only; omega) HS.1, hcl _ _ (by dsimp only; omega) HS.2.1, G3⟩
              case rq3_10 =>
                clear HS hK0 K0; intro HS
                try simp only [Act.put, lpa, lpb, lpc]
                first | refine sk' 11 HS ?_ | refine tk' 11 HS ?_
                refine wpAnyH_done (by kernel_rfl) ?_ _
                refine NoPanic.normal ?_
                go_wp2_with (first | (go_at_call 49; refine (joinOwn (xs := [K, X, Y]) O3.out (by decide) (by decide) (by rw [joinl (join3 K X Y)]; simp only [ByteArray.size_append', ByteArray.size_mk']; simp; omega)).mono ?_; rintro e w4 ⟨he, g4⟩; rw [join3 K X Y] at he; subst he))
                go_ret
                exact ⟨ret_str HM.out.symm, ((hal.trans g1).trans (G3.trans g4))⟩
    · have h5 := HN.out
      simp only at h5
      obtain ⟨j, j2, rfl, rfl, hj, hj2⟩ := nc67 (by decide) h5
      clear h5
      obtain ⟨X, hX_⟩ : ∃ y, txA q d j = y := ⟨_, rfl⟩
      obtain ⟨Y, hY_⟩ : ∃ y, txA q d j2 = y := ⟨_, rfl⟩
      have HX := Lib.hid hX_
      have HY := Lib.hid hY_
      have hXs := HL.out j (by omega) (by omega)
      have hYs := HL.out j2 (by omega) (by omega)
      rw [hX_] at hXs
      rw [hY_] at hYs
      rw [show ((j : Int)).toNat = j from rfl, show ((j2 : Int)).toNat = j2 from rfl, hX_, hY_] at HM
      clear hX_ hY_
      go_enter Tryz.func26, Tryz.ntmps26
      go_wp2_with (first | (go_at_call 15; refine (implOpKeyword _ _).mono ?_; rintro e w1 ⟨he, g1⟩; rw [show kw (7 : Int) = K from HK.out] at he; subst he; have k0 := grew_cell ((g1.alloc (.cells #[.string K] 9))) (a := ⟨w.heap.size, 0, none⟩) (u := .int .i64 7) (by simp); have k1 := grew_cell ((g1.alloc (.cells #[.string K] 9))) (a := ⟨w.heap.size, 1, none⟩) (u := .int .i64 j) (by simp); have k2 := grew_cell ((g1.alloc (.cells #[.string K] 9))) (a := ⟨w.heap.size, 2, none⟩) (u := .int .i64 j2) (by simp); have k3 := grew_cell ((g1.alloc (.cells #[.string K] 9))) (a := ⟨w.heap.size, 3, none⟩) (u := .string nm) (by simp); have k4 := grew_cell ((g1.alloc (.cells #[.string K] 9))) (a := ⟨w.heap.size, 4, none⟩) (u := .int .i64 v.kind) (by simp); have k5 := grew_cell ((g1.alloc (.cells #[.string K] 9))) (a := ⟨w.heap.size, 5, none⟩) (u := .int .i64 v.int) (by simp); have k6 := grew_cell ((g1.alloc (.cells #[.string K] 9))) (a := ⟨w.heap.size, 6, none⟩) (u := .string v.str) (by simp)))
      have R0 := Lib.hid (ownsRow_grew (own1 w1 9 (.string K)) (Grew.refl _).drew)
      refine wp_region_noPanic ?_
      refine wp_region_held_drew (S := (fun w' => (w'.cell? ⟨w.heap.size, 1, none⟩ = some (.int .i64 j) ∧ w'.cell? ⟨w.heap.size, 2, none⟩ = some (.int .i64 j2) ∧ Grew w1 w'))) (by kernel_rfl) ?hq4S ?hq4r
      case hq4S => exact ⟨grew_cell (Grew.refl _).drew k1, grew_cell (Grew.refl _).drew k2, ((Grew.refl _).alloc _).drew⟩
      case hq4r =>
        intro HS
        first | refine sk' 0 HS ?_ | refine tk' 0 HS ?_
        first | refine sk' 1 HS ?_ | refine tk' 1 HS ?_
        first | refine sk' 2 HS ?_ | refine tk' 2 HS ?_
        first | refine sk' 3 HS ?_ | refine tk' 3 HS ?_
        first | refine sk' 5 HS ?_ | refine tk' 5 HS ?_
        first | refine sk' 6 HS ?_ | refine tk' 6 HS ?_
        first | refine sk' 7 HS ?_ | refine tk' 7 HS ?_
        refine cl' 4 fun K0 hK0 => ?_
        rw [if_pos (by rfl)]
        go_simp
        go_at_call 26
        refine (IH.out j _ (by omega) (hg.trans ((hal.trans g1).trans HS.2.2)) (by omega) (by omega)).mono ?_
        rintro e w2a ⟨he, hb⟩
        rw [HX.out] at he
        subst he
        have Ra := Lib.hid (ownsRow_grew R0.out hb)
        refine hK0.out _ _ ?sq4_4 ?rq4_4
        case sq4_4 => exact ⟨grew_cell hb HS.1, grew_cell hb HS.2.1, HS.2.2.trans hb⟩
        case rq4_4 =>
          clear HS hK0 K0; intro HS
          try simp only [Act.put, lpa, lpb, lpc]
          refine cl' 8 fun K0 hK0 => ?_
          rw [if_pos (by rfl)]
          go_simp
          go_at_call 26
          refine (IH.out j2 _ (by omega) (hg.trans ((hal.trans g1).trans HS.2.2)) (by omega) (by omega)).mono ?_
          rintro e w2 ⟨he, hb⟩
          rw [HY.out] at he
          subst he
          have R1 := Lib.hid (ownsRow_grew Ra.out hb)
          refine hK0.out _ _ ?sq4_8 ?rq4_8
          case sq4_8 => exact ⟨grew_cell hb HS.1, grew_cell hb HS.2.1, HS.2.2.trans hb⟩
          case rq4_8 =>
            clear HS hK0 K0; intro HS
            try simp only [Act.put, lpa, lpb, lpc]
            refine cl' 9 fun K0 hK0 => ?_
            rw [if_pos (by rfl)]
            go_simp
            refine hK0.out _ _ ?sq4_9 ?rq4_9
            case sq4_9 => exact ⟨grew_cell ((Grew.refl _).alloc _) HS.1, grew_cell ((Grew.refl _).alloc _) HS.2.1, HS.2.2.alloc _⟩
            case rq4_9 =>
              clear HS hK0 K0; intro HS
              have R2 := Lib.hid (ownsRow_grew R1.out ((Grew.refl _).alloc (.cells #[.string X, .string Y] 9)))
              try simp only [Act.put, lpa, lpb, lpc]
              refine cl' 10 fun K0 hK0 => ?_
              rw [if_pos (by rfl)]
              have hsz := HS.2.2.size
              refine wp_append_own _ _ _ 48 rfl w1.heap.size 9 i0 (.string ⟨#[]⟩) 1 16 Tryz.underlying48 hi hz0 hz1 hz2 rfl (by decide) _ 1 [.string K] rfl R2.out ⟨_, 0, none⟩ 2 2 [.string X, .string Y] rfl rfl (news_two (by simp) (by simp)) (fun x hx => by simp at hx; rcases hx with rfl | rfl <;> rfl) (by unfold maxLen; omega) (by omega) (by omega) ?_
              intro v3 w3 o3 hgr _
              have G3 : Grew w1 w3 := HS.2.2.grown hgr (fun j h => by have : w1.heap.size = j := Option.some.inj h; omega)
              have hcl : ∀ (a : Addr) (u : Value), a.block < w1.heap.size → (w2.alloc (.cells #[.string X, .string Y] 9)).cell? a = some u → w3.cell? a = some u := fun a u ha hu => (cell_kept hgr (fun h => by have : w1.heap.size = a.block := Option.some.inj h; omega) hu)
              replace o3 : w3.ownsRow w1.heap.size 9 1 v3 3 (strs [K, X, Y]) := o3
              have O3 := Lib.hid o3
              obtain ⟨pa, pc, rfl⟩ := own_slice o3
              clear o3 hgr
              have hwl := g1.size
              rw [World.size_alloc] at hwl
              refine hK0.out _ _ ?sq4_10 ?rq4_10
              case sq4_10 => exact ⟨hcl _ _ (by dsimp only; omega) HS.1, hcl _ _ (by dsimp only; omega) HS.2.1, G3⟩
              case rq4_10 =>
                clear HS hK0 K0; intro HS
                try simp only [Act.put, lpa, lpb, lpc]
                first | refine sk' 11 HS ?_ | refine tk' 11 HS ?_
                refine wpAnyH_done (by kernel_rfl) ?_ _
                refine NoPanic.normal ?_
                go_wp2_with (first | (go_at_call 49; refine (joinOwn (xs := [K, X, Y]) O3.out (by decide) (by decide) (by rw [joinl (join3 K X Y)]; simp only [ByteArray.size_append', ByteArray.size_mk']; simp; omega)).mono ?_; rintro e w4 ⟨he, g4⟩; rw [join3 K X Y] at he; subst he))
                go_ret
                exact ⟨ret_str HM.out.symm, ((hal.trans g1).trans (G3.trans g4))⟩
    · go_enter Tryz.func26, Tryz.ntmps26
      go_wp2_with (first | (go_at_call 15; refine (implOpKeyword _ _).mono ?_; rintro e w1 ⟨he, g1⟩; rw [show kw (8 : Int) = K from HK.out] at he; subst he; have k0 := grew_cell ((g1.alloc (.cells #[.string K] 9))) (a := ⟨w.heap.size, 0, none⟩) (u := .int .i64 8) (by simp); have k1 := grew_cell ((g1.alloc (.cells #[.string K] 9))) (a := ⟨w.heap.size, 1, none⟩) (u := .int .i64 l) (by simp); have k2 := grew_cell ((g1.alloc (.cells #[.string K] 9))) (a := ⟨w.heap.size, 2, none⟩) (u := .int .i64 r) (by simp); have k3 := grew_cell ((g1.alloc (.cells #[.string K] 9))) (a := ⟨w.heap.size, 3, none⟩) (u := .string nm) (by simp); have k4 := grew_cell ((g1.alloc (.cells #[.string K] 9))) (a := ⟨w.heap.size, 4, none⟩) (u := .int .i64 v.kind) (by simp); have k5 := grew_cell ((g1.alloc (.cells #[.string K] 9))) (a := ⟨w.heap.size, 5, none⟩) (u := .int .i64 v.int) (by simp); have k6 := grew_cell ((g1.alloc (.cells #[.string K] 9))) (a := ⟨w.heap.size, 6, none⟩) (u := .string v.str) (by simp)) | (at_builtin; refine wpList_append_own _ rfl _ _ 48 rfl w1.heap.size 9 i0 (.string ⟨#[]⟩) 1 16 Tryz.underlying48 hi hz0 hz1 hz2 rfl (by decide) _ 1 [.string K] rfl (ownsRow_grew (own1 w1 9 (.string K)) ((Grew.refl _).alloc _)) ⟨_, 0, none⟩ 1 1 [.string nm] rfl rfl (news_1 (by simp)) (fun x hx => by simp at hx; subst hx; rfl) (by unfold maxLen; omega) (by omega) (by simp <;> omega) ?_; intro v3 w3 o3 hgr _; have G3 : Grew w1 w3 := (((Grew.refl w1).alloc _).alloc _).grown hgr (fun j h => by have : w1.heap.size = j := Option.some.inj h; omega); replace o3 : w3.ownsRow w1.heap.size 9 1 v3 2 (strs [K, nm]) := o3; have O3 := Lib.hid o3; obtain ⟨pa, pc, rfl⟩ := own_slice o3; clear o3 hgr) | (go_at_call 49; refine (joinOwn (xs := [K, nm]) O3.out (by decide) (by decide) (by rw [joinl (join2 K nm)]; simp only [ByteArray.size_append', ByteArray.size_mk']; simp; omega)).mono ?_; rintro e w4 ⟨he, g4⟩; rw [join2 K nm] at he; subst he))
      go_ret
      exact ⟨ret_str HM.out.symm, ((hal.trans g1).trans (G3.trans g4))⟩
    · go_enter Tryz.func26, Tryz.ntmps26
      go_wp2_with (first | (go_at_call 15; refine (implOpKeyword _ _).mono ?_; rintro e w1 ⟨he, g1⟩; rw [show kw (9 : Int) = K from HK.out] at he; subst he; have k0 := grew_cell ((g1.alloc (.cells #[.string K] 9))) (a := ⟨w.heap.size, 0, none⟩) (u := .int .i64 9) (by simp); have k1 := grew_cell ((g1.alloc (.cells #[.string K] 9))) (a := ⟨w.heap.size, 1, none⟩) (u := .int .i64 l) (by simp); have k2 := grew_cell ((g1.alloc (.cells #[.string K] 9))) (a := ⟨w.heap.size, 2, none⟩) (u := .int .i64 r) (by simp); have k3 := grew_cell ((g1.alloc (.cells #[.string K] 9))) (a := ⟨w.heap.size, 3, none⟩) (u := .string nm) (by simp); have k4 := grew_cell ((g1.alloc (.cells #[.string K] 9))) (a := ⟨w.heap.size, 4, none⟩) (u := .int .i64 v.kind) (by simp); have k5 := grew_cell ((g1.alloc (.cells #[.string K] 9))) (a := ⟨w.heap.size, 5, none⟩) (u := .int .i64 v.int) (by simp); have k6 := grew_cell ((g1.alloc (.cells #[.string K] 9))) (a := ⟨w.heap.size, 6, none⟩) (u := .string v.str) (by simp)) | (at_builtin; refine wpList_append_own _ rfl _ _ 48 rfl w1.heap.size 9 i0 (.string ⟨#[]⟩) 1 16 Tryz.underlying48 hi hz0 hz1 hz2 rfl (by decide) _ 1 [.string K] rfl (ownsRow_grew (own1 w1 9 (.string K)) ((Grew.refl _).alloc _)) ⟨_, 0, none⟩ 1 1 [.string nm] rfl rfl (news_1 (by simp)) (fun x hx => by simp at hx; subst hx; rfl) (by unfold maxLen; omega) (by omega) (by simp <;> omega) ?_; intro v3 w3 o3 hgr _; have G3 : Grew w1 w3 := (((Grew.refl w1).alloc _).alloc _).grown hgr (fun j h => by have : w1.heap.size = j := Option.some.inj h; omega); replace o3 : w3.ownsRow w1.heap.size 9 1 v3 2 (strs [K, nm]) := o3; have O3 := Lib.hid o3; obtain ⟨pa, pc, rfl⟩ := own_slice o3; clear o3 hgr) | (go_at_call 49; refine (joinOwn (xs := [K, nm]) O3.out (by decide) (by decide) (by rw [joinl (join2 K nm)]; simp only [ByteArray.size_append', ByteArray.size_mk']; simp; omega)).mono ?_; rintro e w4 ⟨he, g4⟩; rw [join2 K nm] at he; subst he))
      go_ret
      exact ⟨ret_str HM.out.symm, ((hal.trans g1).trans (G3.trans g4))⟩
set_option maxRecDepth 100000 in
set_option maxHeartbeats 4000000 in
theorem implFormatQuery (q : List N) (va : Value) (w : World) (hq : Rd w va 7 q.length (rows N.c q)) (hql : q.length ≤ 4000000) (hz : szAll N.sz q ≤ 4000000) (ht : TabP w) :
    Calls Tryz.prog 7 #[va] w fun e w' => e = .returned (.string ⟨(txq q).toArray⟩) ∧ Grew w w' := by
  obtain ⟨b, hb_⟩ : ∃ b, qryB q = b := ⟨_, rfl⟩
  have HB := Lib.hid hb_
  clear hb_
  have HQ := Lib.hid hq
  have HT := Lib.hid ht
  clear ht
  obtain ⟨a, ca, rfl, hca, hra⟩ := hq
  clear hra
  cases b with
  | false =>
    go_enter Tryz.func7, Tryz.ntmps7
    go_wp2_with (go_at_call 18; refine (implIsValidQuery _ q.length q _ HQ.out hql hz).mono ?_; rintro e w1 ⟨he, g1⟩; rw [HB.out] at he; subst he)
    go_ret
    exact ⟨ret_str (by rw [txq_none HB.out]), g1⟩
  | true =>
    have hl := txq_len HB.out
    obtain ⟨m, hm⟩ : ∃ m, q.length = m + 1 := ⟨q.length - 1, by omega⟩
    have HTA := Lib.hid (txq_A HB.out)
    rw [hm] at hql hl ⊢
    have HM := Lib.hid hm
    clear hm hca
    have hpp : ((m + 1 : Nat) : Int) - 1 = m := by omega
    have hp0 : (0 : Int) ≤ m := by omega
    have hp9 : (m : Int) + 1 ≤ 9 := by omega
    go_enter Tryz.func7, Tryz.ntmps7
    go_wp2_with (first | (go_at_call 18; refine (implIsValidQuery _ q.length q _ (by have h := HQ.out; rw [HM.out] at h ⊢; exact h) (by rw [HM.out]; omega) hz).mono ?_; rintro e w1 ⟨he, g1⟩; rw [HB.out] at he; subst he) | (go_at_call 26; refine (implQueryText q _ w (by have h := HQ.out; rw [HM.out] at h ⊢; exact h) HB.out HT.out q.length m _ (by rw [HM.out]; omega) g1 (by rw [HM.out]; omega) (by rw [HM.out]; omega)).mono ?_; rintro e w2 ⟨he, g2⟩; subst he))
    go_ret
    exact ⟨ret_str (by rw [HTA.out]; congr 1; rw [HM.out]; rfl), g1.trans g2⟩
end Go.Proofs.YtodbohmbdgbheaaGreatDoor
