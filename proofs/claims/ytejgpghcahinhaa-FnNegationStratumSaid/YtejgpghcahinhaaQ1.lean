/- Contracts of sortedOnce and of l04Put. -/
import Derived.Test.YtejgpghcahinhaaQ0
import Derived.Test.YtejgpghcahinhaaShelf
import Derived.Test.YtejgpghcahinhaaD2
import Derived.Test.YtejgpghcahinhaaN1
import Derived.Test.YtejgpghcahinhaaH2
import Derived.Sort.OwnSorted
import Derived.Lib.RowBridge
namespace Go.Proofs.Ytejgpghcahinhaa
open Go.RowKit Go.Sort
set_option linter.unusedVariables false
abbrev dl (b : ByteArray) : List UInt8 := b.data.toList
abbrev mkb (l : List UInt8) : ByteArray := ⟨l.toArray⟩
instance : Ordered (List UInt8) where
  irrefl := fun a => List.lt_irrefl a
  trans := fun _ _ _ h k => List.lt_trans h k
  tri := fun a b => by
    rcases Decidable.em (a < b) with h | h
    · exact .inl h
    · rcases Decidable.em (a = b) with e | e
      · exact .inr (.inl e)
      · rcases List.le_iff_lt_or_eq.1 (List.not_lt.1 h) with h1 | h1
        · exact .inr (.inr h1)
        · exact absurd h1.symm e
/-- The texts, ascending, each once. -/
def so (xs : List ByteArray) : List ByteArray := (putAll (xs.map dl)).map mkb
theorem mkb_dl (b : ByteArray) : mkb (dl b) = b := rfl
theorem strs_enc (xs : List ByteArray) : strs xs = (xs.map dl).map encStr := by simp [encStr, strs]
theorem enc_strs (ls : List (List UInt8)) : ls.map encStr = strs (ls.map mkb) := by simp [encStr, strs]
theorem sort_put (bs : List (List UInt8)) : Lib.compact (bs.mergeSort fun x y => decide (x ≤ y)) = putAll bs := by
  refine compact_put _ _ (List.mergeSort_perm _ _) ?_
  have h := List.pairwise_mergeSort (le := fun (x y : List UInt8) => decide (x ≤ y)) (fun a b c h1 h2 => by simp at *; exact List.le_trans h1 h2) (fun a b => by simp; exact List.le_total a b) bs
  refine h.imp fun {a b} hab => ?_
  have h1 : a ≤ b := by simpa using hab
  rcases List.le_iff_lt_or_eq.1 h1 with h | h
  · exact .inr h
  · exact .inl h
set_option maxRecDepth 100000 in
set_option maxHeartbeats 1000000 in
theorem slCloneStr (va : Value) (n : Nat) (xs : List ByteArray) (w : World) (ha : Rd w va 1 n (strs xs)) (hx : n ≤ 4000000) :
    Calls Try.prog 175 #[va] w fun e w' => ∃ v, e = .returned v ∧ w'.ownsRow w.heap.size 9 1 v n (strs xs) ∧ Grew w w' := by
  obtain ⟨a, ca, rfl, hca, hra⟩ := ha
  have HX := Lib.hid hra.len_map
  have hen : ∀ a w, (binOp .eql 63 (.slice a n ca) (.slice none 0 0)).run Try.prog w = .ok (.bool a.isNone) w := fun a w => Lib.run_eql_slice_nil w 63 9 a n ca 0 0 Try.underlying63
  cases a with
  | none =>
    have hn : n = 0 := by rcases Nat.eq_zero_or_pos n with h | h; exact h; obtain ⟨b, o, h2, _⟩ := hra.2 h; cases h2
    subst hn
    have e1 := hen none
    go_enter Try.func175, Try.ntmps175
    go_wp2
    go_ret
    obtain rfl : xs = [] := List.length_eq_zero_iff.1 HX.out
    exact ⟨_, rfl, World.ownsRow_nil _ _ _ _, Grew.refl _⟩
  | some a =>
    have e1 := hen (some a)
    obtain ⟨i0, hi, hz0, hz1, hz2⟩ := info_parts Try.infoString
    have HN := Lib.hid (rd_news hra ((Grew.refl w).alloc (.cells #[] 9)))
    have HL := Lib.hid (lit_own w 9 1)
    have HC := Lib.hid hra.1
    clear hra hen
    go_enter Try.func175, Try.ntmps175
    go_wp2_with (at_builtin; refine wpList_append_own _ rfl _ _ 63 rfl w.heap.size 9 i0 (.string ⟨#[]⟩) 1 16 Try.underlying63 hi hz0 hz1 hz2 rfl (by decide) _ 0 [] rfl HL.out a n ca (strs xs) rfl ?c1 ?c2 ?c3 ?c4 ?c5 ?c6 ?_)
    case c1 => exact HC.out
    case c2 => exact HN.out
    case c3 => intro u hu; simp at hu; obtain ⟨x, _, rfl⟩ := hu; rfl
    case c4 => unfold maxLen; omega
    case c5 => omega
    case c6 => simp
    intro v' w' hown' hgrow _
    go_wp2
    go_ret
    refine ⟨_, rfl, by simpa using hown', ((Grew.refl w).alloc _).grown hgrow (fun k h => ?_)⟩
    cases h; exact Nat.le_refl _
set_option maxRecDepth 100000 in
set_option maxHeartbeats 1000000 in
theorem sortedOnce (va : Value) (n : Nat) (xs : List ByteArray) (w : World) (ha : Rd w va 1 n (strs xs)) (hx : n ≤ 4000000) :
    Calls Try.prog 147 #[va] w fun e w' => ∃ v, e = .returned v ∧ w'.ownsRow w.heap.size 9 1 v (so xs).length (strs (so xs)) ∧ Grew w w' := by
  have HA := Lib.hid ha
  have HX := Lib.hid (Rd.len1 ha)
  obtain ⟨a, ca, rfl, hca, hra⟩ := ha
  clear hra
  go_enter Try.func147, Try.ntmps147
  go_wp2_with fail
  refine (slCloneStr _ n xs _ HA.out hx).mono ?_
  rintro e w1 ⟨v, rfl, hown, hb⟩
  have hown0 := Lib.hid hown
  rcases hown.2 with ⟨rfl, rfl⟩ | ⟨g, cap, cur, rfl, hbase, hcell, h1, h2, h3, h4⟩
  · clear hown
    have hxs : xs = [] := List.length_eq_zero_iff.1 HX.out
    subst hxs
    go_wp2_with fail
    refine (Try.slices_Sort_string_none _ _ _).mono ?_
    rintro e w2 ⟨rfl, rfl⟩
    go_wp2_with fail
    refine (Try.slices_Compact_string_empty _ _ _).mono ?_
    rintro e w3 ⟨rfl, rfl⟩
    go_wp2
    go_ret
    exact ⟨_, rfl, World.ownsRow_nil _ _ _ _, hb⟩
  · clear hown
    have hlen : (xs.map dl).length = n := by rw [List.length_map]; exact HX.out
    have hH := holds_of_block (ss := xs.map dl) hcell (by rw [hlen, ← strs_enc]; simpa using h4)
    have hgs : g < w1.heap.size := (Array.getElem?_eq_some_iff.1 hcell).1
    have HS := Lib.hid (Try.slices_Sort_string g 0 cap (xs.map dl) w1 hH hgs (by omega))
    obtain ⟨ts, hts⟩ : ∃ ts, (xs.map dl).mergeSort (fun x y => decide (x ≤ y)) = ts := ⟨_, rfl⟩
    have htl : ts.length = n := by rw [← hts, List.length_mergeSort, hlen]
    have HT := Lib.hid hts
    have hs0 := HS.out
    rw [hts, hlen] at hs0
    replace HS := Lib.hid hs0
    clear hs0 hts hH h4
    go_wp2_with fail
    refine (HS.out).mono ?_
    rintro e w2 ⟨rfl, k2, os, hw2⟩
    have hO2 := ownsRow_sorted (n := k2) (os := os) (ss := ts) (ts := ts) (e := 9) rfl hbase hcell (by omega) h2 h3
    have hG2 : w1.grownBy w2 (some g) := by rw [hw2]; exact grownBy_sorted _
    rw [← hw2, htl] at hO2
    have HO2 := Lib.hid hO2
    have HG2 := Lib.hid hG2
    clear hw2 hcell h1 h2 h3 hO2 hG2
    obtain ⟨_, ⟨hc, _⟩ | ⟨g', cap', cur2, hc, hbase2, hcell2, h1, h2, h3, h4⟩⟩ := HO2.out
    · cases hc
    cases hc
    have hH2 := holds_of_block (ss := ts) hcell2 (by rw [htl]; simpa using h4)
    have HC := Lib.hid (Try.slices_Compact_string g 0 cap ts w2 hH2 (by omega) (by omega))
    have hc0 := HC.out
    rw [htl] at hc0
    replace HC := Lib.hid hc0
    have hcle : (Lib.compact ts).length ≤ n := by rw [← htl]; exact Lib.compact_length_le ts
    clear hc0 hH2 h4
    go_wp2_with fail
    refine (HC.out).mono ?_
    rintro e w3 ⟨rfl, q, hw3⟩
    have hO3 := ownsRow_sorted (n := q) (os := #[]) (ss := ts) (ts := Lib.compact ts ++ List.replicate (n - (Lib.compact ts).length) []) (e := 9) (by simp; omega) hbase2 hcell2 (by omega) h2 h3
    have hG3 : w2.grownBy w3 (some g) := by
      have := grownBy_sorted (w := w2) (g := g) (n := q) (os := #[]) (Lib.compact ts ++ List.replicate (n - (Lib.compact ts).length) []).toArray
      rw [hw3]; simpa [htl] using this
    have hO4 : w3.ownsRow w.heap.size 9 1 (.slice (some ⟨g, 0, none⟩) n cap) n ((Lib.compact ts ++ List.replicate (n - (Lib.compact ts).length) []).map encStr) := by
      rw [hw3]; simpa [htl] using hO3
    have HO4 := Lib.hid hO4
    have HG3 := Lib.hid hG3
    clear hw3 hcell2 hO3 hO4 hG3
    go_wp2
    go_ret
    have hso : so xs = (Lib.compact ts).map mkb := by unfold so; rw [← sort_put, HT.out]
    refine ⟨_, rfl, ?_, (hb.grown HG2.out (fun k h => by cases h; exact hbase)).grown HG3.out (fun k h => by cases h; exact hbase)⟩
    rw [hso, List.length_map, ← enc_strs]
    exact own_cut' HO4.out hcle (by rw [List.map_append]; exact List.take_left' (by simp))
end Go.Proofs.Ytejgpghcahinhaa
