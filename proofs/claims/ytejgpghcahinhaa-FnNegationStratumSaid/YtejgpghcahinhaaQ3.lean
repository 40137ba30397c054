/- Contracts of QueryAttrs. -/
import Derived.Test.YtejgpghcahinhaaQ2
import Derived.Test.YtejgpghcahinhaaC4
namespace Go.Proofs.Ytejgpghcahinhaa
open Go.RowKit Go.Sort
set_option linter.unusedVariables false
theorem so_snoc (xs : List ByteArray) (s : ByteArray) : so (xs ++ [s]) = putB (so xs) s := by
  unfold so putB putAll
  rw [List.map_append, List.foldl_append, List.map_map]
  simp [Function.comp_def]
theorem so_len (xs : List ByteArray) : (so xs).length ≤ xs.length := by
  unfold so
  rw [List.length_map, ← sort_put]
  have := Lib.compact_length_le ((xs.map dl).mergeSort fun x y => decide (x ≤ y))
  rw [List.length_mergeSort, List.length_map] at this
  exact this
/-- The names that nodes of these kinds bear. -/
def qAttrsN (xs : List N) : List ByteArray := (xs.filter fun x => inB x.op 2 4).map N.name
theorem qAttrsN_yes {xs : List N} {k : Nat} {x : N} (h : xs[k]? = some x) (hh : inB x.op 2 4 = true) : qAttrsN (xs.take (k + 1)) = qAttrsN (xs.take k) ++ [x.name] := by
  rw [take_snoc h]; unfold qAttrsN; rw [List.filter_append, List.map_append]; simp [hh]
theorem qAttrsN_no {xs : List N} {k : Nat} {x : N} (h : xs[k]? = some x) (hh : inB x.op 2 4 = false) : qAttrsN (xs.take (k + 1)) = qAttrsN (xs.take k) := by
  rw [take_snoc h]; unfold qAttrsN; rw [List.filter_append, List.map_append]; simp [hh]
theorem qAttrsN_le (xs : List N) : (qAttrsN xs).length ≤ xs.length := by
  unfold qAttrsN; rw [List.length_map]; exact List.length_filter_le _ _
theorem qAttrsN_tk (xs : List N) (k : Nat) : (qAttrsN (xs.take k)).length ≤ k := Nat.le_trans (qAttrsN_le _) (by rw [List.length_take]; omega)
def qAttrs (xs : List N) : List ByteArray := so (qAttrsN xs)
theorem qAttrs_le (xs : List N) : (qAttrs xs).length ≤ xs.length := Nat.le_trans (so_len _) (qAttrsN_le xs)
set_option maxRecDepth 100000 in
set_option maxHeartbeats 1000000 in
theorem specQueryAttrs (va : Value) (n : Nat) (xs : List N) (w : World) (ha : Rd w va 7 n (rows N.c xs)) (hx : n ≤ 4000000) :
    Calls Try.prog 114 #[va] w fun e w' => ∃ v, e = .returned v ∧ w'.ownsRow w.heap.size 9 1 v (qAttrs xs).length (strs (qAttrs xs)) ∧ Grew w w' := by
  obtain ⟨a, ca, rfl, hca, hra⟩ := ha
  have HX := Lib.hid (hra.len_rows N.len (by decide))
  obtain ⟨i0, hi, hz0, hz1, hz2⟩ := info_parts Try.infoString
  go_enter Try.func114, Try.ntmps114
  go_wp2
  go_loopw [3, 4] (fun v i wr => ∃ k : Nat, k ≤ n ∧ i = .int .i64 k ∧ Hid (RdS wr v (so (qAttrsN (xs.take k)))) ∧ Grew w wr) (fun _ i _ => n - (intOf i).toNat)
  case atStart => exact ⟨0, Nat.zero_le _, rfl, Lib.hid (rds_of_own (xs := []) (lit_own w 9 1) (by simp)), (Grew.refl _).alloc _⟩
  case round =>
    obtain ⟨k, hk, rfl, hrd, hbel⟩ := hrel
    by_cases hlt : k < n
    · obtain ⟨b1, o1, x, rfl, hxk, c0, c1, c2, c3, c4, c5, c6⟩ := (hra.grew hbel).getN hlt
      obtain ⟨v, hv⟩ : ∃ v, inB x.op 2 4 = v := ⟨_, rfl⟩
      have HV := Lib.hid hv
      clear hv
      have hcs : v = true ∨ v = false := by cases v <;> simp
      have hsl : (so (qAttrsN (xs.take k))).length ≤ 4000000 := by have := so_len (qAttrsN (xs.take k)); have := qAttrsN_tk xs k; omega
      rcases hcs with rfl | rfl
      · go_wp2_with (first | (go_at_call 170; refine (l01In _ 2 4 _).mono ?_; rintro e w1 ⟨he, rfl⟩; rw [HV.out] at he; subst he) | (go_at_call 177; refine (l04Put _ _ x.name _ hrd.out hsl).mono ?_; rintro e w2 ⟨v2, rfl, hrd2, hb2⟩; have HR2 := Lib.hid hrd2; clear hrd2))
        go_roundw
        case rel =>
          refine ⟨k + 1, by omega, by go_num, Lib.hid ?_, hbel.trans hb2⟩
          rw [qAttrsN_yes hxk.out HV.out, so_snoc]; exact HR2.out
        case measure => simp [intOf]; omega
      · go_wp2_with (go_at_call 170; refine (l01In _ 2 4 _).mono ?_; rintro e w1 ⟨he, rfl⟩; rw [HV.out] at he; subst he)
        go_roundw
        case rel =>
          refine ⟨k + 1, by omega, by go_num, Lib.hid ?_, hbel⟩
          rw [qAttrsN_no hxk.out HV.out]; exact hrd.out
        case measure => simp [intOf]; omega
    · obtain rfl : k = n := by omega
      have h1 := hrd.out
      rw [take_all HX.out] at h1
      have hql : (qAttrs xs).length ≤ 4000000 := by have := qAttrs_le xs; have := HX.out; omega
      obtain ⟨ad, c, rfl, hc, hr⟩ := h1
      have HR := Lib.hid hr
      clear hr hrd
      generalize hL : (so (qAttrsN xs)).length = L at hc HR
      have hL2 : (qAttrs xs).length = L := hL
      rw [hL2] at hql
      have HL := Lib.hid hL2
      clear hL hL2
      go_wp2_with (at_builtin; refine wpList_append_own _ rfl _ _ 63 rfl wr.heap.size 9 i0 (.string ⟨#[]⟩) 1 16 Try.underlying63 hi hz0 hz1 hz2 rfl (by decide) _ 0 [] rfl (lit_own wr 9 1) _ L _ (strs (qAttrs xs)) rfl (by rw [List.length_map, HL.out, Nat.mul_one]) (rd_news HR.out ((Grew.refl _).alloc _)) (one_strs _) (by unfold maxLen; omega) (by omega) (by simp) ?_)
      intro v' w' hown' hgr _
      go_wp2
      go_ret
      refine ⟨_, rfl, ?_, (hbel.alloc _).grown hgr (fun k h => by cases h; exact hbel.size)⟩
      rw [HL.out]
      exact ownsRow_base (by simpa using hown') hbel.size
set_option maxRecDepth 100000 in
set_option maxHeartbeats 1000000 in
theorem implQueryAttrs (va : Value) (n : Nat) (xs : List N) (w : World) (ha : Rd w va 7 n (rows N.c xs)) (hx : n ≤ 4000000) :
    Calls Try.prog 46 #[va] w fun e w' => ∃ v, e = .returned v ∧ w'.ownsRow w.heap.size 9 1 v (qAttrs xs).length (strs (qAttrs xs)) ∧ Grew w w' := by
  obtain ⟨a, ca, rfl, hca, hra⟩ := ha
  have HX := Lib.hid (hra.len_rows N.len (by decide))
  obtain ⟨i0, hi, hz0, hz1, hz2⟩ := info_parts Try.infoString
  go_enter Try.func46, Try.ntmps46
  go_wp2
  go_loopw [3, 9] (fun v i wr => ∃ k : Nat, k ≤ n ∧ i = .int .i64 k ∧ Hid (wr.ownsRow w.heap.size 9 1 v (qAttrsN (xs.take k)).length (strs (qAttrsN (xs.take k)))) ∧ Grew w wr) (fun _ i _ => n - (intOf i).toNat)
  case atStart => exact ⟨0, Nat.zero_le _, rfl, Lib.hid (lit_own w 9 1), (Grew.refl _).alloc _⟩
  case round =>
    obtain ⟨k, hk, rfl, hown, hbel⟩ := hrel
    have hnl := qAttrsN_tk xs k
    by_cases hlt : k < n
    · obtain ⟨b1, o1, x, rfl, hxk, c0, c1, c2, c3, c4, c5, c6⟩ := (hra.grew hbel).getN hlt
      have hcs : (x.op = 2 ∨ x.op = 3 ∨ x.op = 4) ∨ (¬ (x.op = 2) ∧ ¬ (x.op = 3) ∧ ¬ (x.op = 4)) := by omega
      rcases hcs with hyes | hno
      · have HV := Lib.hid (show inB x.op 2 4 = true by unfold inB; simp; omega)
        obtain ⟨op, l, r, nm, v⟩ := x
        simp only at c0 c1 c2 c3 c4 c5 c6 hyes
        rcases hyes with rfl | rfl | rfl
        all_goals
          go_wp2_with (at_builtin; refine wpList_append_own _ rfl _ _ 63 rfl w.heap.size 9 i0 (.string ⟨#[]⟩) 1 16 Try.underlying63 hi hz0 hz1 hz2 rfl (by decide) _ _ _ rfl ((hown.out.alloc _).alloc _) ⟨_, 0, none⟩ 1 1 [.string nm] rfl rfl (news_one (by simp)) (fun x hx => by simp at hx; subst hx; rfl) (by unfold maxLen; omega) (by omega) (by have := hbel.size; simp; omega) ?_; intro v' w' hown' hgr _)
          go_roundw
        all_goals first
          | (refine ⟨k + 1, by omega, by go_num, Lib.hid ?_, ((hbel.alloc _).alloc _).grown hgr (fun g h => (hown.out.lt g h).1)⟩
             rw [qAttrsN_yes hxk.out HV.out]; simpa using hown')
          | (simp [intOf]; omega)
      · have HV := Lib.hid (show inB x.op 2 4 = false by unfold inB; simp; omega)
        obtain ⟨op, l, r, nm, v⟩ := x
        simp only at c0 c1 c2 c3 c4 c5 c6 hno
        have h2 : (op == 2) = false := by simp; omega
        have h3 : (op == 3) = false := by simp; omega
        have h4 : (op == 4) = false := by simp; omega
        go_wp2
        go_roundw
        case rel =>
          refine ⟨k + 1, by omega, by go_num, Lib.hid ?_, hbel.alloc _⟩
          rw [qAttrsN_no hxk.out HV.out]; exact hown.out.alloc _
        case measure => simp [intOf]; omega
    · obtain rfl : k = n := by omega
      have h1 := hown.out
      rw [take_all HX.out] at h1
      have H1 := Lib.hid h1
      have hql : (qAttrsN xs).length ≤ 4000000 := by have := qAttrsN_le xs; have := HX.out; omega
      clear h1 hown
      go_wp2_with (go_at_call 147; refine (sortedOnce _ _ _ _ (rd_of_own H1.out) hql).mono ?_; rintro e w2 ⟨v2, rfl, hown2, hb2⟩)
      go_ret
      exact ⟨_, rfl, ownsRow_base hown2 hbel.size, hbel.trans hb2⟩
end Go.Proofs.Ytejgpghcahinhaa
