/- Contracts of QueryDirs. -/
import Derived.Test.YtejgpghcahinhaaQ3
import Derived.Test.YtejgpghcahinhaaC4
namespace Go.Proofs.Ytejgpghcahinhaa
open Go.RowKit Go.Sort
set_option linter.unusedVariables false

/-- The names that nodes of these kinds bear. -/
def qDirsN (xs : List N) : List ByteArray := (xs.filter fun x => inB x.op 8 9).map N.name
theorem qDirsN_yes {xs : List N} {k : Nat} {x : N} (h : xs[k]? = some x) (hh : inB x.op 8 9 = true) : qDirsN (xs.take (k + 1)) = qDirsN (xs.take k) ++ [x.name] := by
  rw [take_snoc h]; unfold qDirsN; rw [List.filter_append, List.map_append]; simp [hh]
theorem qDirsN_no {xs : List N} {k : Nat} {x : N} (h : xs[k]? = some x) (hh : inB x.op 8 9 = false) : qDirsN (xs.take (k + 1)) = qDirsN (xs.take k) := by
  rw [take_snoc h]; unfold qDirsN; rw [List.filter_append, List.map_append]; simp [hh]
theorem qDirsN_le (xs : List N) : (qDirsN xs).length ≤ xs.length := by
  unfold qDirsN; rw [List.length_map]; exact List.length_filter_le _ _
theorem qDirsN_tk (xs : List N) (k : Nat) : (qDirsN (xs.take k)).length ≤ k := Nat.le_trans (qDirsN_le _) (by rw [List.length_take]; omega)
def qDirs (xs : List N) : List ByteArray := so (qDirsN xs)
theorem qDirs_le (xs : List N) : (qDirs xs).length ≤ xs.length := Nat.le_trans (so_len _) (qDirsN_le xs)
set_option maxRecDepth 100000 in
set_option maxHeartbeats 1000000 in
theorem specQueryDirs (va : Value) (n : Nat) (xs : List N) (w : World) (ha : Rd w va 7 n (rows N.c xs)) (hx : n ≤ 4000000) :
    Calls Try.prog 103 #[va] w fun e w' => ∃ v, e = .returned v ∧ w'.ownsRow w.heap.size 9 1 v (qDirs xs).length (strs (qDirs xs)) ∧ Grew w w' := by
  obtain ⟨a, ca, rfl, hca, hra⟩ := ha
  have HX := Lib.hid (hra.len_rows N.len (by decide))
  obtain ⟨i0, hi, hz0, hz1, hz2⟩ := info_parts Try.infoString
  go_enter Try.func103, Try.ntmps103
  go_wp2
  go_loopw [3, 4] (fun v i wr => ∃ k : Nat, k ≤ n ∧ i = .int .i64 k ∧ Hid (RdS wr v (so (qDirsN (xs.take k)))) ∧ Grew w wr) (fun _ i _ => n - (intOf i).toNat)
  case atStart => exact ⟨0, Nat.zero_le _, rfl, Lib.hid (rds_of_own (xs := []) (lit_own w 9 1) (by simp)), (Grew.refl _).alloc _⟩
  case round =>
    obtain ⟨k, hk, rfl, hrd, hbel⟩ := hrel
    by_cases hlt : k < n
    · obtain ⟨b1, o1, x, rfl, hxk, c0, c1, c2, c3, c4, c5, c6⟩ := (hra.grew hbel).getN hlt
      obtain ⟨v, hv⟩ : ∃ v, inB x.op 8 9 = v := ⟨_, rfl⟩
      have HV := Lib.hid hv
      clear hv
      have hcs : v = true ∨ v = false := by cases v <;> simp
      have hsl : (so (qDirsN (xs.take k))).length ≤ 4000000 := by have := so_len (qDirsN (xs.take k)); have := qDirsN_tk xs k; omega
      rcases hcs with rfl | rfl
      · go_wp2_with (first | (go_at_call 170; refine (l01In _ 8 9 _).mono ?_; rintro e w1 ⟨he, rfl⟩; rw [HV.out] at he; subst he) | (go_at_call 177; refine (l04Put _ _ x.name _ hrd.out hsl).mono ?_; rintro e w2 ⟨v2, rfl, hrd2, hb2⟩; have HR2 := Lib.hid hrd2; clear hrd2))
        go_roundw
        case rel =>
          refine ⟨k + 1, by omega, by go_num, Lib.hid ?_, hbel.trans hb2⟩
          rw [qDirsN_yes hxk.out HV.out, so_snoc]; exact HR2.out
        case measure => simp [intOf]; omega
      · go_wp2_with (go_at_call 170; refine (l01In _ 8 9 _).mono ?_; rintro e w1 ⟨he, rfl⟩; rw [HV.out] at he; subst he)
        go_roundw
        case rel =>
          refine ⟨k + 1, by omega, by go_num, Lib.hid ?_, hbel⟩
          rw [qDirsN_no hxk.out HV.out]; exact hrd.out
        case measure => simp [intOf]; omega
    · obtain rfl : k = n := by omega
      have h1 := hrd.out
      rw [take_all HX.out] at h1
      have hql : (qDirs xs).length ≤ 4000000 := by have := qDirs_le xs; have := HX.out; omega
      obtain ⟨ad, c, rfl, hc, hr⟩ := h1
      have HR := Lib.hid hr
      clear hr hrd
      generalize hL : (so (qDirsN xs)).length = L at hc HR
      have hL2 : (qDirs xs).length = L := hL
      rw [hL2] at hql
      have HL := Lib.hid hL2
      clear hL hL2
      go_wp2_with (at_builtin; refine wpList_append_own _ rfl _ _ 63 rfl wr.heap.size 9 i0 (.string ⟨#[]⟩) 1 16 Try.underlying63 hi hz0 hz1 hz2 rfl (by decide) _ 0 [] rfl (lit_own wr 9 1) _ L _ (strs (qDirs xs)) rfl (by rw [List.length_map, HL.out, Nat.mul_one]) (rd_news HR.out ((Grew.refl _).alloc _)) (one_strs _) (by unfold maxLen; omega) (by omega) (by simp) ?_)
      intro v' w' hown' hgr _
      go_wp2
      go_ret
      refine ⟨_, rfl, ?_, (hbel.alloc _).grown hgr (fun k h => by cases h; exact hbel.size)⟩
      rw [HL.out]
      exact ownsRow_base (by simpa using hown') hbel.size
set_option maxRecDepth 100000 in
set_option maxHeartbeats 400000 in
theorem namesDir (x : N) (w : World) :
    Calls Try.prog 146 #[x.v] w fun e w' => e = .returned (.bool (inB x.op 8 9)) ∧ Grew w w' := by
  obtain ⟨op, l, r, nm, v⟩ := x
  have hop : op = 8 ∨ op = 9 ∨ (¬ op = 8 ∧ ¬ op = 9) := by omega
  rcases hop with rfl | rfl | ⟨h8, h9⟩
  · go_enter Try.func146, Try.ntmps146
    go_wp2
    go_ret
    exact ⟨rfl, (Grew.refl _).alloc _⟩
  · go_enter Try.func146, Try.ntmps146
    go_wp2
    go_ret
    exact ⟨rfl, (Grew.refl _).alloc _⟩
  · have HV := Lib.hid (show inB op 8 9 = false by unfold inB; simp; omega)
    have e8 : (op == 8) = false := by simp [h8]
    have e9 : (op == 9) = false := by simp [h9]
    clear h8 h9
    go_enter Try.func146, Try.ntmps146
    go_wp2
    go_ret
    exact ⟨ret_bool HV.out.symm, (Grew.refl _).alloc _⟩
set_option maxRecDepth 100000 in
set_option maxHeartbeats 1000000 in
theorem implQueryDirs (va : Value) (n : Nat) (xs : List N) (w : World) (ha : Rd w va 7 n (rows N.c xs)) (hx : n ≤ 4000000) :
    Calls Try.prog 45 #[va] w fun e w' => ∃ v, e = .returned v ∧ w'.ownsRow w.heap.size 9 1 v (qDirs xs).length (strs (qDirs xs)) ∧ Grew w w' := by
  obtain ⟨a, ca, rfl, hca, hra⟩ := ha
  have HX := Lib.hid (hra.len_rows N.len (by decide))
  obtain ⟨i0, hi, hz0, hz1, hz2⟩ := info_parts Try.infoString
  go_enter Try.func45, Try.ntmps45
  go_wp2
  go_loopw [3, 9] (fun v i wr => ∃ k : Nat, k ≤ n ∧ i = .int .i64 k ∧ Hid (wr.ownsRow w.heap.size 9 1 v (qDirsN (xs.take k)).length (strs (qDirsN (xs.take k)))) ∧ Grew w wr) (fun _ i _ => n - (intOf i).toNat)
  case atStart => exact ⟨0, Nat.zero_le _, rfl, Lib.hid (lit_own w 9 1), (Grew.refl _).alloc _⟩
  case round =>
    obtain ⟨k, hk, rfl, hown, hbel⟩ := hrel
    have hnl := qDirsN_tk xs k
    by_cases hlt : k < n
    · obtain ⟨b1, o1, x, rfl, hxk, c0, c1, c2, c3, c4, c5, c6⟩ := (hra.grew hbel).getN hlt
      obtain ⟨vb, hvb⟩ : ∃ v, inB x.op 8 9 = v := ⟨_, rfl⟩
      have HV := Lib.hid hvb
      clear hvb
      obtain ⟨op, l, r, nm, v⟩ := x
      simp only at c0 c1 c2 c3 c4 c5 c6
      have hal := (Grew.refl wr).alloc (.cells #[.int .i64 op, .int .i64 l, .int .i64 r, .string nm, .int .i64 v.kind, .int .i64 v.int, .string v.str] 60)
      have bx3 : (wr.alloc (.cells #[.int .i64 op, .int .i64 l, .int .i64 r, .string nm, .int .i64 v.kind, .int .i64 v.int, .string v.str] 60)).cell? ⟨wr.heap.size, 3, none⟩ = some (.string nm) := by simp
      have hcs : vb = true ∨ vb = false := by cases vb <;> simp
      rcases hcs with rfl | rfl
      · go_wp2_with (first | (go_at_call 146; refine (namesDir ⟨op, l, r, nm, v⟩ _).mono ?_; rintro e w1 ⟨he, hb⟩; rw [HV.out] at he; subst he; have c9 := grew_cell hb bx3) | (at_builtin; refine wpList_append_own _ rfl _ _ 63 rfl w.heap.size 9 i0 (.string ⟨#[]⟩) 1 16 Try.underlying63 hi hz0 hz1 hz2 rfl (by decide) _ _ _ rfl ((ownsRow_grew hown.out (hal.trans hb)).alloc _) ⟨_, 0, none⟩ 1 1 [.string nm] rfl rfl (cell_one_new _ _ _) (fun x hx => by simp at hx; subst hx; rfl) (by unfold maxLen; omega) (by omega) (by have := ((hbel.trans hal).trans hb).size; simp; omega) ?_; intro v' w' hown' hgr _))
        go_roundw
        case rel =>
          refine ⟨k + 1, by omega, by go_num, Lib.hid ?_, (((hbel.trans hal).trans hb).alloc _).grown hgr (fun g h => (hown.out.lt g h).1)⟩
          rw [qDirsN_yes hxk.out HV.out]; simpa using hown'
        case measure => simp [intOf]; omega
      · go_wp2_with (go_at_call 146; refine (namesDir ⟨op, l, r, nm, v⟩ _).mono ?_; rintro e w1 ⟨he, hb⟩; rw [HV.out] at he; subst he)
        go_roundw
        case rel =>
          refine ⟨k + 1, by omega, by go_num, Lib.hid ?_, (hbel.trans hal).trans hb⟩
          rw [qDirsN_no hxk.out HV.out]; exact ownsRow_grew hown.out (hal.trans hb)
        case measure => simp [intOf]; omega
    · obtain rfl : k = n := by omega
      have h1 := hown.out
      rw [take_all HX.out] at h1
      have H1 := Lib.hid h1
      have hql : (qDirsN xs).length ≤ 4000000 := by have := qDirsN_le xs; have := HX.out; omega
      clear h1 hown
      go_wp2_with (go_at_call 147; refine (sortedOnce _ _ _ _ (rd_of_own H1.out) hql).mono ?_; rintro e w2 ⟨v2, rfl, hown2, hb2⟩)
      go_ret
      exact ⟨_, rfl, ownsRow_base hown2 hbel.size, hbel.trans hb2⟩
end Go.Proofs.Ytejgpghcahinhaa
