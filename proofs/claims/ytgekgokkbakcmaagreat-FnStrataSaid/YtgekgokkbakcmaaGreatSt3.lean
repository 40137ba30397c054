/- Texts Q1, Q2, C3, C4, Q3, Q4, K2, Y0, as far as they are needed. -/
import Derived.Test.YtgekgokkbakcmaaGreatSt2
import Derived.Test.YtgekgokkbakcmaaGreatShelf
import Derived.Test.YtgekgokkbakcmaaGreatSt1
import Derived.Test.YtgekgokkbakcmaaGreatSt0
import Derived.Sort.OwnSorted
import Derived.Lib.RowBridge
namespace Go.Proofs.YtgekgokkbakcmaaGreat
open Go.RowKit Go.Sort
set_option linter.unusedVariables false
abbrev dl (b : ByteArray) : List UInt8 := b.data.toList
abbrev mkb (l : List UInt8) : ByteArray := ⟨l.toArray⟩
instance : Ordered (List UInt8) where
  irrefl := fun a => List.lt_irrefl a
  trans := fun _ _ _ h k => List.lt_trans h k
  tri := fun a b => by
    rcases Decidable.em (a < b) with h | h
    · exact .inl h
    · rcases Decidable.em (a = b) with e | e
      · exact .inr (.inl e)
      · rcases List.le_iff_lt_or_eq.1 (List.not_lt.1 h) with h1 | h1
        · exact .inr (.inr h1)
        · exact absurd h1.symm e
def so (xs : List ByteArray) : List ByteArray := (putAll (xs.map dl)).map mkb
theorem mkb_dl (b : ByteArray) : mkb (dl b) = b := rfl
theorem strs_enc (xs : List ByteArray) : strs xs = (xs.map dl).map encStr := by simp [encStr, strs]
theorem enc_strs (ls : List (List UInt8)) : ls.map encStr = strs (ls.map mkb) := by simp [encStr, strs]
theorem sort_put (bs : List (List UInt8)) : Lib.compact (bs.mergeSort fun x y => decide (x ≤ y)) = putAll bs := by
  refine compact_put _ _ (List.mergeSort_perm _ _) ?_
  have h := List.pairwise_mergeSort (le := fun (x y : List UInt8) => decide (x ≤ y)) (fun a b c h1 h2 => by simp at *; exact List.le_trans h1 h2) (fun a b => by simp; exact List.le_total a b) bs
  refine h.imp fun {a b} hab => ?_
  have h1 : a ≤ b := by simpa using hab
  rcases List.le_iff_lt_or_eq.1 h1 with h | h
  · exact .inr h
  · exact .inl h
set_option maxRecDepth 100000 in
set_option maxHeartbeats 1000000 in
theorem slCloneStr (va : Value) (n : Nat) (xs : List ByteArray) (w : World) (ha : Rd w va 1 n (strs xs)) (hx : n ≤ 4000000) :
    Calls Tryz.prog 173 #[va] w fun e w' => ∃ v, e = .returned v ∧ w'.ownsRow w.heap.size 9 1 v n (strs xs) ∧ Grew w w' := by
  obtain ⟨a, ca, rfl, hca, hra⟩ := ha
  have HX := Lib.hid hra.len_map
  have hen : ∀ a w, (binOp .eql 44 (.slice a n ca) (.slice none 0 0)).run Tryz.prog w = .ok (.bool a.isNone) w := fun a w => Lib.run_eql_slice_nil w 44 9 a n ca 0 0 Tryz.underlying44
  cases a with
  | none =>
    have hn : n = 0 := by rcases Nat.eq_zero_or_pos n with h | h; exact h; obtain ⟨b, o, h2, _⟩ := hra.2 h; cases h2
    subst hn
    have e1 := hen none
    go_enter Tryz.func173, Tryz.ntmps173
    go_wp2
    go_ret
    obtain rfl : xs = [] := List.length_eq_zero_iff.1 HX.out
    exact ⟨_, rfl, World.ownsRow_nil _ _ _ _, Grew.refl _⟩
  | some a =>
    have e1 := hen (some a)
    obtain ⟨i0, hi, hz0, hz1, hz2⟩ := info_parts Tryz.infoString
    have HN := Lib.hid (rd_news hra ((Grew.refl w).alloc (.cells #[] 9)))
    have HL := Lib.hid (lit_own w 9 1)
    have HC := Lib.hid hra.1
    clear hra hen
    go_enter Tryz.func173, Tryz.ntmps173
    go_wp2_with (at_builtin; refine wpList_append_own _ rfl _ _ 44 rfl w.heap.size 9 i0 (.string ⟨#[]⟩) 1 16 Tryz.underlying44 hi hz0 hz1 hz2 rfl (by decide) _ 0 [] rfl HL.out a n ca (strs xs) rfl ?c1 ?c2 ?c3 ?c4 ?c5 ?c6 ?_)
    case c1 => exact HC.out
    case c2 => exact HN.out
    case c3 => intro u hu; simp at hu; obtain ⟨x, _, rfl⟩ := hu; rfl
    case c4 => unfold maxLen; omega
    case c5 => omega
    case c6 => simp
    intro v' w' hown' hgrow _
    go_wp2
    go_ret
    refine ⟨_, rfl, by simpa using hown', ((Grew.refl w).alloc _).grown hgrow (fun k h => ?_)⟩
    cases h; exact Nat.le_refl _
set_option maxRecDepth 100000 in
set_option maxHeartbeats 1000000 in
theorem sortedOnce (va : Value) (n : Nat) (xs : List ByteArray) (w : World) (ha : Rd w va 1 n (strs xs)) (hx : n ≤ 4000000) :
    Calls Tryz.prog 171 #[va] w fun e w' => ∃ v, e = .returned v ∧ w'.ownsRow w.heap.size 9 1 v (so xs).length (strs (so xs)) ∧ Grew w w' := by
  have HA := Lib.hid ha
  have HX := Lib.hid (Rd.len1 ha)
  obtain ⟨a, ca, rfl, hca, hra⟩ := ha
  clear hra
  go_enter Tryz.func171, Tryz.ntmps171
  go_wp2_with fail
  refine (slCloneStr _ n xs _ HA.out hx).mono ?_
  rintro e w1 ⟨v, rfl, hown, hb⟩
  have hown0 := Lib.hid hown
  rcases hown.2 with ⟨rfl, rfl⟩ | ⟨g, cap, cur, rfl, hbase, hcell, h1, h2, h3, h4⟩
  · clear hown
    have hxs : xs = [] := List.length_eq_zero_iff.1 HX.out
    subst hxs
    go_wp2_with fail
    refine (Tryz.slices_Sort_string_none _ _ _).mono ?_
    rintro e w2 ⟨rfl, rfl⟩
    go_wp2_with fail
    refine (Tryz.slices_Compact_string_empty _ _ _).mono ?_
    rintro e w3 ⟨rfl, rfl⟩
    go_wp2
    go_ret
    exact ⟨_, rfl, World.ownsRow_nil _ _ _ _, hb⟩
  · clear hown
    have hlen : (xs.map dl).length = n := by rw [List.length_map]; exact HX.out
    have hH := holds_of_block (ss := xs.map dl) hcell (by rw [hlen, ← strs_enc]; simpa using h4)
    have hgs : g < w1.heap.size := (Array.getElem?_eq_some_iff.1 hcell).1
    have HS := Lib.hid (Tryz.slices_Sort_string g 0 cap (xs.map dl) w1 hH hgs (by omega))
    obtain ⟨ts, hts⟩ : ∃ ts, (xs.map dl).mergeSort (fun x y => decide (x ≤ y)) = ts := ⟨_, rfl⟩
    have htl : ts.length = n := by rw [← hts, List.length_mergeSort, hlen]
    have HT := Lib.hid hts
    have hs0 := HS.out
    rw [hts, hlen] at hs0
    replace HS := Lib.hid hs0
    clear hs0 hts hH h4
    go_wp2_with fail
    refine (HS.out).mono ?_
    rintro e w2 ⟨rfl, k2, os, hw2⟩
    have hO2 := ownsRow_sorted (n := k2) (os := os) (ss := ts) (ts := ts) (e := 9) rfl hbase hcell (by omega) h2 h3
    have hG2 : w1.grownBy w2 (some g) := by rw [hw2]; exact grownBy_sorted _
    rw [← hw2, htl] at hO2
    have HO2 := Lib.hid hO2
    have HG2 := Lib.hid hG2
    clear hw2 hcell h1 h2 h3 hO2 hG2
    obtain ⟨_, ⟨hc, _⟩ | ⟨g', cap', cur2, hc, hbase2, hcell2, h1, h2, h3, h4⟩⟩ := HO2.out
    · cases hc
    cases hc
    have hH2 := holds_of_block (ss := ts) hcell2 (by rw [htl]; simpa using h4)
    have HC := Lib.hid (Tryz.slices_Compact_string g 0 cap ts w2 hH2 (by omega) (by omega))
    have hc0 := HC.out
    rw [htl] at hc0
    replace HC := Lib.hid hc0
    have hcle : (Lib.compact ts).length ≤ n := by rw [← htl]; exact Lib.compact_length_le ts
    clear hc0 hH2 h4
    go_wp2_with fail
    refine (HC.out).mono ?_
    rintro e w3 ⟨rfl, q, hw3⟩
    have hO3 := ownsRow_sorted (n := q) (os := #[]) (ss := ts) (ts := Lib.compact ts ++ List.replicate (n - (Lib.compact ts).length) []) (e := 9) (by simp; omega) hbase2 hcell2 (by omega) h2 h3
    have hG3 : w2.grownBy w3 (some g) := by
      have := grownBy_sorted (w := w2) (g := g) (n := q) (os := #[]) (Lib.compact ts ++ List.replicate (n - (Lib.compact ts).length) []).toArray
      rw [hw3]; simpa [htl] using this
    have hO4 : w3.ownsRow w.heap.size 9 1 (.slice (some ⟨g, 0, none⟩) n cap) n ((Lib.compact ts ++ List.replicate (n - (Lib.compact ts).length) []).map encStr) := by
      rw [hw3]; simpa [htl] using hO3
    have HO4 := Lib.hid hO4
    have HG3 := Lib.hid hG3
    clear hw3 hcell2 hO3 hO4 hG3
    go_wp2
    go_ret
    have hso : so xs = (Lib.compact ts).map mkb := by unfold so; rw [← sort_put, HT.out]
    refine ⟨_, rfl, ?_, (hb.grown HG2.out (fun k h => by cases h; exact hbase)).grown HG3.out (fun k h => by cases h; exact hbase)⟩
    rw [hso, List.length_map, ← enc_strs]
    exact own_cut' HO4.out hcle (by rw [List.map_append]; exact List.take_left' (by simp))
end Go.Proofs.YtgekgokkbakcmaaGreat
namespace Go.Proofs.YtgekgokkbakcmaaGreat
open Go.RowKit Go.Sort
set_option linter.unusedVariables false
def putB (xs : List ByteArray) (s : ByteArray) : List ByteArray := (putL (xs.map dl) (dl s)).map mkb
theorem putL_at {α : Type} [LT α] [DecidableLT α] [DecidableEq α] : ∀ (xs : List α) (k : Nat) (s : α), (∀ (j : Nat) y, j < k → xs[j]? = some y → y < s) →
    (xs[k]? = none → k ≤ xs.length → putL xs s = xs.take k ++ s :: xs.drop k) ∧ (∀ y, xs[k]? = some y → ¬ y < s → y = s → putL xs s = xs) ∧ (∀ y, xs[k]? = some y → ¬ y < s → ¬ y = s → putL xs s = xs.take k ++ s :: xs.drop k)
  | [], k, s, _ => by
    refine ⟨fun _ hk => ?_, fun y h => by simp at h, fun y h => by simp at h⟩
    have : k = 0 := by simpa using hk
    subst this; simp [putL]
  | x :: xs, 0, s, _ => by
    refine ⟨fun h => by simp at h, fun y h h1 h2 => ?_, fun y h h1 h2 => ?_⟩
    · simp at h; subst h; subst h2
      unfold putL; rw [if_neg h1, if_pos rfl]
    · simp at h; subst h
      unfold putL; rw [if_neg h1, if_neg h2]; simp
  | x :: xs, k + 1, s, h => by
    have h0 : x < s := h 0 x (Nat.succ_pos k) rfl
    have ih := putL_at xs k s (fun j y hj hy => h (j + 1) y (Nat.succ_lt_succ hj) (by simpa using hy))
    have e : putL (x :: xs) s = x :: putL xs s := by
      conv => lhs; unfold putL
      rw [if_pos h0]
    rw [e]
    refine ⟨fun h1 h2 => ?_, fun y h1 h2 h3 => ?_, fun y h1 h2 h3 => ?_⟩
    · rw [ih.1 (by simpa using h1) (by simpa using h2)]; simp
    · rw [ih.2.1 y (by simpa using h1) h2 h3]
    · rw [ih.2.2 y (by simpa using h1) h2 h3]; simp
theorem putB_app {xs : List ByteArray} {s : ByteArray} {k : Nat} (h : putL (xs.map dl) (dl s) = (xs.map dl).take k ++ dl s :: (xs.map dl).drop k) : putB xs s = xs.take k ++ [s] ++ xs.drop k := by
  unfold putB; rw [h]; simp [mkb_dl, Function.comp_def]
theorem putB_same {xs : List ByteArray} {s : ByteArray} (h : putL (xs.map dl) (dl s) = xs.map dl) : putB xs s = xs := by
  unfold putB; rw [h]; simp [mkb_dl, Function.comp_def]
theorem less_iff (a b : ByteArray) (v : Bool) : Op.bytesLess a.toList b.toList = v ↔ decide (dl a < dl b) = v := by
  rw [ByteArray.toList_eq, ByteArray.toList_eq, bytesLess_eq]
theorem same_iff (a b : ByteArray) (v : Bool) : (a.toList == b.toList) = v ↔ decide (dl a = dl b) = v := by
  rw [ByteArray.toList_eq, ByteArray.toList_eq]
  rw [Bool.beq_eq_decide_eq]
def RdS (w : World) (v : Value) (xs : List ByteArray) : Prop := ∃ ad c, v = .slice (some ad) xs.length c ∧ xs.length ≤ c ∧ RdA w (some ad) 1 xs.length (strs xs)
theorem RdS.grew {w w' : World} {v : Value} {xs : List ByteArray} (h : RdS w v xs) (hg : Grew w w') : RdS w' v xs := by
  obtain ⟨ad, c, rfl, h1, h2⟩ := h
  exact ⟨ad, c, rfl, h1, h2.grew hg⟩
theorem rds_of_own {w : World} {base : Nat} {e : TypeId} {n : Nat} {v : Value} {xs : List ByteArray} (h : w.ownsRow base e 1 v n (strs xs)) (hn : v ≠ .slice none 0 0) : RdS w v xs := by
  have hl : xs.length = n := by have := h.1; simpa using this
  have h1 := rd_of_own h
  obtain ⟨_, ⟨rfl, _⟩ | ⟨g, cap, cur, rfl, _⟩⟩ := h
  · exact absurd rfl hn
  · obtain ⟨a, c, hv, hc, hr⟩ := h1
    cases hv
    subst hl
    exact ⟨_, _, rfl, hc, hr⟩
theorem rds_of_own2 {w : World} {base : Nat} {e : TypeId} {n : Nat} {v : Value} {xs : List ByteArray} {cs : List Value} (h : w.ownsRow base e 1 v n cs) (hc : cs = strs xs) (hn : v ≠ .slice none 0 0) : RdS w v xs := by
  subst hc; exact rds_of_own h hn
theorem cells_drop {w : World} {ad : Addr} {n : Nat} {xs : List ByteArray} (h : RdA w (some ad) 1 n (strs xs)) (k : Nat) {w' : World} (hg : Grew w w') : ∀ j u, (strs (xs.drop k))[j]? = some u → w'.cell? ((ad.add k).add j) = some u := by
  intro j u hu
  have hl := (List.getElem?_eq_some_iff.1 hu).1
  simp [strs] at hl
  have hn : xs.length = n := h.len_map
  obtain ⟨b, o, e, hc⟩ := h.2 (by omega)
  obtain rfl := Option.some.inj e
  have h1 := hc (k + j) (by omega)
  have h2 : (strs xs)[k + j]? = some u := by rw [← hu]; simp [strs]
  rw [h2] at h1
  have h3 := grew_cell hg h1
  have e2 : ((⟨b, o, none⟩ : Addr).add k).add j = ⟨b, o + (k + j), none⟩ := by
    by_cases hk : k = 0 <;> by_cases hj : j = 0 <;> simp [Addr.add, hk, hj] <;> omega
  rw [e2]; exact h3
theorem cells_drop2 {w : World} {b o : Nat} {n : Nat} {xs : List ByteArray} (h : RdA w (some ⟨b, o, none⟩) 1 n (strs xs)) (k : Nat) {w' : World} (hg : Grew w w') : ∀ j u, (strs (xs.drop k))[j]? = some u → w'.cell? ((⟨b, o + k, none⟩ : Addr).add j) = some u := by
  intro j u hu
  have h1 := cells_drop h k hg j u hu
  rw [← h1]
  congr 1
  by_cases hk : k = 0 <;> by_cases hj : j = 0 <;> simp [Addr.add, hk, hj]
theorem cells_take {w : World} {ad : Addr} {n : Nat} {xs : List ByteArray} (h : RdA w (some ad) 1 n (strs xs)) (k : Nat) {w' : World} (hg : Grew w w') : ∀ j u, (strs (xs.take k))[j]? = some u → w'.cell? (ad.add j) = some u := by
  intro j u hu
  refine rd_news h hg j u ?_
  have hl := (List.getElem?_eq_some_iff.1 hu).1
  simp [strs] at hl
  rw [← hu]
  simp [strs, hl]
theorem one_strs (xs : List ByteArray) : ∀ u ∈ strs xs, u.oneCell' = true := by
  intro u hu; simp at hu; obtain ⟨x, _, rfl⟩ := hu; rfl
set_option maxRecDepth 100000 in
set_option maxHeartbeats 1000000 in
theorem l04Put (va : Value) (xs : List ByteArray) (s : ByteArray) (w : World) (ha : RdS w va xs) (hx : xs.length ≤ 4000000) :
    Calls Tryz.prog 139 #[va, .string s] w fun e w' => ∃ v, e = .returned v ∧ RdS w' v (putB xs s) ∧ Grew w w' := by
  have HA := Lib.hid ha
  obtain ⟨ad, c, rfl, hc, hr⟩ := ha
  have HR := Lib.hid hr
  generalize hn : xs.length = n at hc hr hx
  have HN := Lib.hid hn
  clear hn
  obtain ⟨i0, hi, hz0, hz1, hz2⟩ := info_parts Tryz.infoString
  go_enter Tryz.func139, Tryz.ntmps139
  go_wp2
  go_loop [5] (fun i => ∃ k : Nat, k ≤ n ∧ i = .int .i64 k ∧ Hid (∀ (j : Nat) y, j < k → (xs.map dl)[j]? = some y → y < dl s)) (fun i => n - (intOf i).toNat)
  case atStart => exact ⟨0, Nat.zero_le _, rfl, Lib.hid (fun j y h => absurd h (Nat.not_lt_zero j))⟩
  case round =>
    obtain ⟨k, hk, rfl, hall⟩ := hrel
    have HPA := Lib.hid (putL_at (xs.map dl) k (dl s) hall.out)
    by_cases hlt : k < n
    · obtain ⟨b, o, y, hab, hyk, e1⟩ := hr.one hlt
      cases hab
      obtain ⟨v, hv⟩ : ∃ v, Op.bytesLess y.toList s.toList = v := ⟨_, rfl⟩
      obtain ⟨u, hu⟩ : ∃ u, (y.toList == s.toList) = u := ⟨_, rfl⟩
      have HV := Lib.hid ((less_iff y s v).1 hv)
      have HU := Lib.hid ((same_iff y s u).1 hu)
      have HY := Lib.hid (show (xs.map dl)[k]? = some (dl y) by rw [List.getElem?_map, hyk.out]; rfl)
      have hcs : v = true ∨ v = false := by cases v <;> simp
      have hcu : u = true ∨ u = false := by cases u <;> simp
      rcases hcs with rfl | rfl
      · go_wp2
        exact ⟨⟨k + 1, by omega, by go_num, Lib.hid (fun j z hj hz => by
          rcases Nat.lt_succ_iff_lt_or_eq.1 hj with h | rfl
          · exact hall.out j z h hz
          · obtain rfl := Option.some.inj (HY.out.symm.trans hz)
            simpa using HV.out)⟩, by simp [intOf]; omega⟩
      · rcases hcu with rfl | rfl
        · go_wp2
          go_ret
          refine ⟨.slice (some ⟨b, o, none⟩) n c, rfl, ?_, Grew.refl _⟩
          rw [putB_same (HPA.out.2.1 _ HY.out (by simpa using HV.out) (by simpa using HU.out))]
          rw [← HN.out]; exact HA.out
        · have HE := Lib.hid (putB_app (HPA.out.2.2 _ HY.out (by simpa using HV.out) (by simpa using HU.out)))
          have hkn : k ≤ n := hk
          clear HPA HY HV HU hyk
          have g0 := (Grew.refl w).alloc (.cells #[] 9)
          have kc : k ≤ c := by omega
          have htk : (xs.take k).length = k := by rw [List.length_take, HN.out]; omega
          have hdk : (xs.drop k).length = n - k := by rw [List.length_drop, HN.out]
          go_wp2_with (at_builtin; refine wpList_append_own _ rfl _ _ 44 rfl w.heap.size 9 i0 (.string ⟨#[]⟩) 1 16 Tryz.underlying44 hi hz0 hz1 hz2 rfl (by decide) _ 0 [] rfl (lit_own w 9 1) _ k _ (strs (xs.take k)) rfl (by rw [List.length_map, htk, Nat.mul_one]) (cells_take HR.out k g0) (one_strs _) (by unfold maxLen; omega) (by omega) (by simp) ?_)
          intro v1 w1 hown1 hgr1 _
          have g1 : Grew w w1 := g0.grown hgr1 (fun j h => by cases h; exact Nat.le_refl _)
          have HO1 := Lib.hid (show w1.ownsRow w.heap.size 9 1 v1 k (strs (xs.take k)) by simpa using hown1)
          obtain ⟨a1, c1, rfl⟩ := own_slice (HO1.out)
          clear hown1 hgr1
          go_wp2_with (at_builtin; refine wpList_append_own _ rfl _ _ 44 rfl w.heap.size 9 i0 (.string ⟨#[]⟩) 1 16 Tryz.underlying44 hi hz0 hz1 hz2 rfl (by decide) _ _ _ rfl (HO1.out.alloc _) ⟨_, 0, none⟩ 1 1 [.string s] rfl rfl (cell_one_new _ _ _) (fun x hx => by simp at hx; subst hx; rfl) (by unfold maxLen; omega) (by omega) (by have := g1.size; simp; omega) ?_)
          intro v2 w2 hown2 hgr2 hnil2
          have g2 : Grew w w2 := (g1.alloc _).grown hgr2 (fun j h => (HO1.out.lt j h).1)
          have HO2 := Lib.hid hown2
          have hne2 : v2 ≠ .slice none 0 0 := fun h => by first | exact hnil2 h | exact absurd (hnil2.1 h).2 (by omega)
          obtain ⟨a2, c2, rfl⟩ := own_slice (HO2.out)
          clear hown2 hgr2 hnil2
          go_wp2_with (at_builtin; refine wpList_append_own _ rfl _ _ 44 rfl w.heap.size 9 i0 (.string ⟨#[]⟩) 1 16 Tryz.underlying44 hi hz0 hz1 hz2 rfl (by decide) _ _ _ rfl HO2.out _ (n - k) (c - k) (strs (xs.drop k)) rfl (by rw [List.length_map, hdk, Nat.mul_one]) (cells_drop2 HR.out k g2) (one_strs _) (by unfold maxLen; omega) (by omega) (by have := g2.size; omega) ?_)
          intro v3 w3 hown3 hgr3 hnil3
          have g3 : Grew w w3 := g2.grown hgr3 (fun j h => (HO2.out.lt j h).1)
          have hne3 : v3 ≠ .slice none 0 0 := fun h => by first | exact hnil3 h | exact hne2 (hnil3.1 h).1
          have HO3 := Lib.hid hown3
          obtain ⟨a3, c3, rfl⟩ := own_slice (HO3.out)
          clear hown3 hgr3 hnil3
          go_wp2
          go_ret
          refine ⟨_, rfl, ?_, g3⟩
          exact rds_of_own2 HO3.out (by rw [HE.out]; simp [strs]) hne3
    · obtain rfl : k = n := by omega
      have hkn : k ≤ k := Nat.le_refl k
      have HE := Lib.hid (putB_app (HPA.out.1 (by rw [List.getElem?_eq_none]; simp [HN.out]) (by simp [HN.out])))
      clear HPA
      by_cases hck : c = k
      · have hck2 := hck.symm
        subst hck2
        have g0 := (Grew.refl w).alloc (.cells #[] 9)
        have kc : k ≤ k := by omega
        have htk : (xs.take k).length = k := by rw [List.length_take, HN.out]; omega
        have hdk : (xs.drop k).length = k - k := by rw [List.length_drop, HN.out]
        go_wp2_with (at_builtin; refine wpList_append_own _ rfl _ _ 44 rfl w.heap.size 9 i0 (.string ⟨#[]⟩) 1 16 Tryz.underlying44 hi hz0 hz1 hz2 rfl (by decide) _ 0 [] rfl (lit_own w 9 1) _ k _ (strs (xs.take k)) rfl (by rw [List.length_map, htk, Nat.mul_one]) (cells_take HR.out k g0) (one_strs _) (by unfold maxLen; omega) (by omega) (by simp) ?_)
        intro v1 w1 hown1 hgr1 _
        have g1 : Grew w w1 := g0.grown hgr1 (fun j h => by cases h; exact Nat.le_refl _)
        have HO1 := Lib.hid (show w1.ownsRow w.heap.size 9 1 v1 k (strs (xs.take k)) by simpa using hown1)
        obtain ⟨a1, c1, rfl⟩ := own_slice (HO1.out)
        clear hown1 hgr1
        go_wp2_with (at_builtin; refine wpList_append_own _ rfl _ _ 44 rfl w.heap.size 9 i0 (.string ⟨#[]⟩) 1 16 Tryz.underlying44 hi hz0 hz1 hz2 rfl (by decide) _ _ _ rfl (HO1.out.alloc _) ⟨_, 0, none⟩ 1 1 [.string s] rfl rfl (cell_one_new _ _ _) (fun x hx => by simp at hx; subst hx; rfl) (by unfold maxLen; omega) (by omega) (by have := g1.size; simp; omega) ?_)
        intro v2 w2 hown2 hgr2 hnil2
        have g2 : Grew w w2 := (g1.alloc _).grown hgr2 (fun j h => (HO1.out.lt j h).1)
        have HO2 := Lib.hid hown2
        have hne2 : v2 ≠ .slice none 0 0 := fun h => by first | exact hnil2 h | exact absurd (hnil2.1 h).2 (by omega)
        obtain ⟨a2, c2, rfl⟩ := own_slice (HO2.out)
        clear hown2 hgr2 hnil2
        go_wp2_with (at_builtin; refine wpList_append_own _ rfl _ _ 44 rfl w.heap.size 9 i0 (.string ⟨#[]⟩) 1 16 Tryz.underlying44 hi hz0 hz1 hz2 rfl (by decide) _ _ _ rfl HO2.out _ _ _ [] rfl (by simp) (fun j u hu => by simp at hu) (fun u hu => by simp at hu) (by unfold maxLen; omega) (by omega) (by have := g2.size; omega) ?_)
        intro v3 w3 hown3 hgr3 hnil3
        have g3 : Grew w w3 := g2.grown hgr3 (fun j h => (HO2.out.lt j h).1)
        have hne3 : v3 ≠ .slice none 0 0 := fun h => by first | exact hnil3 h | exact hne2 (hnil3.1 h).1
        have HO3 := Lib.hid hown3
        obtain ⟨a3, c3, rfl⟩ := own_slice (HO3.out)
        clear hown3 hgr3 hnil3
        go_wp2
        go_ret
        refine ⟨_, rfl, ?_, g3⟩
        exact rds_of_own2 HO3.out (by rw [HE.out, List.drop_eq_nil_of_le (by rw [HN.out]; omega)]; simp [strs]) hne3
      · have hck2 : k < c := by omega
        have g0 := (Grew.refl w).alloc (.cells #[] 9)
        have kc : k ≤ c := by omega
        have htk : (xs.take k).length = k := by rw [List.length_take, HN.out]; omega
        have hdk : (xs.drop k).length = k - k := by rw [List.length_drop, HN.out]
        go_wp2_with (at_builtin; refine wpList_append_own _ rfl _ _ 44 rfl w.heap.size 9 i0 (.string ⟨#[]⟩) 1 16 Tryz.underlying44 hi hz0 hz1 hz2 rfl (by decide) _ 0 [] rfl (lit_own w 9 1) _ k _ (strs (xs.take k)) rfl (by rw [List.length_map, htk, Nat.mul_one]) (cells_take HR.out k g0) (one_strs _) (by unfold maxLen; omega) (by omega) (by simp) ?_)
        intro v1 w1 hown1 hgr1 _
        have g1 : Grew w w1 := g0.grown hgr1 (fun j h => by cases h; exact Nat.le_refl _)
        have HO1 := Lib.hid (show w1.ownsRow w.heap.size 9 1 v1 k (strs (xs.take k)) by simpa using hown1)
        obtain ⟨a1, c1, rfl⟩ := own_slice (HO1.out)
        clear hown1 hgr1
        go_wp2_with (at_builtin; refine wpList_append_own _ rfl _ _ 44 rfl w.heap.size 9 i0 (.string ⟨#[]⟩) 1 16 Tryz.underlying44 hi hz0 hz1 hz2 rfl (by decide) _ _ _ rfl (HO1.out.alloc _) ⟨_, 0, none⟩ 1 1 [.string s] rfl rfl (cell_one_new _ _ _) (fun x hx => by simp at hx; subst hx; rfl) (by unfold maxLen; omega) (by omega) (by have := g1.size; simp; omega) ?_)
        intro v2 w2 hown2 hgr2 hnil2
        have g2 : Grew w w2 := (g1.alloc _).grown hgr2 (fun j h => (HO1.out.lt j h).1)
        have HO2 := Lib.hid hown2
        have hne2 : v2 ≠ .slice none 0 0 := fun h => by first | exact hnil2 h | exact absurd (hnil2.1 h).2 (by omega)
        obtain ⟨a2, c2, rfl⟩ := own_slice (HO2.out)
        clear hown2 hgr2 hnil2
        go_wp2_with (at_builtin; refine wpList_append_own _ rfl _ _ 44 rfl w.heap.size 9 i0 (.string ⟨#[]⟩) 1 16 Tryz.underlying44 hi hz0 hz1 hz2 rfl (by decide) _ _ _ rfl HO2.out _ _ _ [] rfl (by simp) (fun j u hu => by simp at hu) (fun u hu => by simp at hu) (by unfold maxLen; omega) (by omega) (by have := g2.size; omega) ?_)
        intro v3 w3 hown3 hgr3 hnil3
        have g3 : Grew w w3 := g2.grown hgr3 (fun j h => (HO2.out.lt j h).1)
        have hne3 : v3 ≠ .slice none 0 0 := fun h => by first | exact hnil3 h | exact hne2 (hnil3.1 h).1
        have HO3 := Lib.hid hown3
        obtain ⟨a3, c3, rfl⟩ := own_slice (HO3.out)
        clear hown3 hgr3 hnil3
        go_wp2
        go_ret
        refine ⟨_, rfl, ?_, g3⟩
        exact rds_of_own2 HO3.out (by rw [HE.out, List.drop_eq_nil_of_le (by rw [HN.out]; omega)]; simp [strs]) hne3
end Go.Proofs.YtgekgokkbakcmaaGreat
namespace Go.Proofs.YtgekgokkbakcmaaGreat
open Go.RowKit
set_option linter.unusedVariables false
noncomputable def nodI (n : N) (at_ m : Int) : Bool :=
  if n.op == 1 then eqN n ⟨n.op, 0, 0, ⟨#[]⟩, V.z⟩
  else if n.op == 2 then eqN n ⟨n.op, 0, 0, n.name, V.z⟩ && txtB n.name 1
  else if n.op == 3 || n.op == 4 then eqN n ⟨n.op, 0, 0, n.name, n.val⟩ && (txtB n.name 1 && (valB n.val && (!(n.val.kind == 0) && (n.op == 3 || n.val.kind == 1))))
  else if n.op == 5 then eqN n ⟨n.op, n.left, 0, ⟨#[]⟩, V.z⟩ && (decide (0 < at_) && inB n.left 0 m)
  else if n.op == 6 || n.op == 7 then eqN n ⟨n.op, n.left, n.right, ⟨#[]⟩, V.z⟩ && (decide (0 < at_) && (inB n.left 0 m && inB n.right 0 m))
  else if n.op == 8 || n.op == 9 then eqN n ⟨n.op, 0, 0, n.name, V.z⟩ && txtB n.name 6
  else false
theorem nodI_eq (n : N) (at_ m : Int) : nodB n at_ m = nodI n at_ m := by
  obtain ⟨op, l, r, nm, v⟩ := n
  unfold nodB nodI
  have e1 : (ByteArray.mk #[]).toList = [] := by decide +kernel
  have ev : eqV v v = true := by simp [eqV]
  have hk : ∀ k : Int, k = 1 → k ≠ 0 := fun k h => by omega
  by_cases h1 : op = 1
  · subst h1; simp
  by_cases h2 : op = 2
  · subst h2; simp [Bool.and_comm]
  by_cases h3 : op = 3
  · subst h3; simp only [eqN, ev]; rw [Bool.eq_iff_iff]; simp; constructor <;> (intro h; simp_all)
  by_cases h4 : op = 4
  · subst h4; simp only [eqN, ev]; rw [Bool.eq_iff_iff]; simp; constructor <;> (intro h; simp_all)
  by_cases h5 : op = 5
  · subst h5; simp only [eqN]; rw [Bool.eq_iff_iff]; simp [e1]; constructor <;> (intro h; simp_all)
  by_cases h6 : op = 6
  · subst h6; simp only [eqN]; rw [Bool.eq_iff_iff]; simp [e1]; constructor <;> (intro h; simp_all)
  by_cases h7 : op = 7
  · subst h7; simp only [eqN]; rw [Bool.eq_iff_iff]; simp [e1]; constructor <;> (intro h; simp_all)
  by_cases h8 : op = 8
  · subst h8; simp [Bool.and_comm]
  by_cases h9 : op = 9
  · subst h9; simp [Bool.and_comm]
  · simp [h1, h2, h3, h4, h5, h6, h7, h8, h9]
set_option maxRecDepth 100000 in
set_option maxHeartbeats 4000000 in
theorem implIsValidNode (n : N) (at_ : Int) (w : World) (hs : n.name.size ≤ 4000000) (hv : n.val.str.size ≤ 4000000) :
    Calls Tryz.prog 167 #[n.v, .int .i64 at_] w fun e w' => e = .returned (.bool (nodB n at_ (wrap64 (at_ - 1)))) ∧ Grew w w' := by
  obtain ⟨op, l, r, nm, v⟩ := n
  simp only at hs hv
  have h1 := fun o w => runEqN ⟨o, l, r, nm, v⟩ ⟨o, 0, 0, ⟨#[]⟩, V.z⟩ w
  have h2 := fun o w => runEqN ⟨o, l, r, nm, v⟩ ⟨o, 0, 0, nm, V.z⟩ w
  have h3 := fun o w => runEqN ⟨o, l, r, nm, v⟩ ⟨o, 0, 0, nm, v⟩ w
  have h4 := fun o w => runEqN ⟨o, l, r, nm, v⟩ ⟨o, l, 0, ⟨#[]⟩, V.z⟩ w
  have h5 := fun o w => runEqN ⟨o, l, r, nm, v⟩ ⟨o, l, r, ⟨#[]⟩, V.z⟩ w
  simp only [V.z] at h1 h2 h3 h4 h5
  have hop : (op = 1 ∨ op = 2 ∨ op = 5 ∨ op = 8 ∨ op = 9 ∨ ((op == 1) = false ∧ (op == 2) = false ∧ (op == 3) = false ∧ (op == 4) = false ∧ (op == 5) = false ∧ (op == 6) = false ∧ (op == 7) = false ∧ (op == 8) = false ∧ (op == 9) = false)) ∨ (op = 3 ∨ op = 4 ∨ op = 6 ∨ op = 7) := by
    simp only [beq_eq_false_iff_ne]; omega
  rcases hop with hop | hop
  · rcases hop with rfl | rfl | rfl | rfl | rfl | ⟨p1, p2, p3, p4, p5, p6, p7, p8, p9⟩
    all_goals
      go_enter Tryz.func167, Tryz.ntmps167
      go_wp2_with (first | (go_at_call 143; refine (within _ _ _ _).mono ?_; rintro e w' ⟨rfl, rfl⟩) | (go_at_call 125; refine (implIsValidString _ _ hs).mono ?_; rintro e w' ⟨rfl, rfl⟩) | (go_at_call 176; refine (implIsValidAttrName _ _ hs).mono ?_; rintro e w' ⟨rfl, rfl⟩) | (go_at_call 190; refine (implIsValidValue _ _ hv).mono ?_; rintro e w1 ⟨rfl, hb⟩; obtain ⟨hc, hf⟩ := hb.cells))
      all_goals go_ret
      all_goals refine ⟨ret_bool ?_, ?_⟩
      all_goals first
        | (rw [nodI_eq]; go_light; clear h1 h2 h3 h4 h5; (try clear hc hf hb); simp [nodI, V.z, *]; done)
        | (have hn : ¬ (0 < at_) := by omega
           rw [nodI_eq]; go_light; clear h1 h2 h3 h4 h5; simp [nodI, V.z, hn]; done)
        | (repeat' (first | with_reducible exact Grew.refl _ | with_reducible apply Grew.alloc | with_reducible apply Grew.drew | with_reducible refine Grew.trans ?_ (by assumption)))
  · rcases hop with rfl | rfl | rfl | rfl
    all_goals
      go_enter Tryz.func167, Tryz.ntmps167
      go_wp2
      go_region
      all_goals go_wp2_with (first | (go_at_call 143; refine (within _ _ _ _).mono ?_; rintro e w' ⟨rfl, rfl⟩) | (go_at_call 125; refine (implIsValidString _ _ hs).mono ?_; rintro e w' ⟨rfl, rfl⟩) | (go_at_call 176; refine (implIsValidAttrName _ _ hs).mono ?_; rintro e w' ⟨rfl, rfl⟩) | (go_at_call 190; refine (implIsValidValue _ _ hv).mono ?_; rintro e w1 ⟨rfl, hb⟩; obtain ⟨hc, hf⟩ := hb.cells))
      all_goals go_ret
      all_goals refine ⟨ret_bool ?_, ?_⟩
      all_goals first
        | (rw [nodI_eq]; go_light; clear h1 h2 h3 h4 h5; (try clear hc hf hb); simp [nodI, V.z, *]; done)
        | (rw [nodI_eq]; go_light; clear h1 h2 h3 h4 h5; (try clear hc hf hb); simp [nodI, V.z, bne, *]; done)
        | (have hn : ¬ (0 < at_) := by omega
           rw [nodI_eq]; go_light; clear h1 h2 h3 h4 h5; simp [nodI, V.z, hn]; done)
        | (repeat' (first | with_reducible exact Grew.refl _ | with_reducible apply Grew.alloc | with_reducible apply Grew.drew | with_reducible refine Grew.trans ?_ (by assumption)))
end Go.Proofs.YtgekgokkbakcmaaGreat
namespace Go.Proofs.YtgekgokkbakcmaaGreat
open Go.RowKit
set_option linter.unusedVariables false
def ref1 (n : N) (at_ : Int) : Int := (if (n.op == 6 || (n.op == 7 || n.op == 5)) && n.left == at_ then 1 else 0) + (if (n.op == 6 || n.op == 7) && n.right == at_ then 1 else 0)
def refs (q : List N) (at_ : Int) : Int := (q.map (ref1 · at_)).sum
theorem refs_snoc (q : List N) (n : N) (at_ : Int) : refs (q ++ [n]) at_ = refs q at_ + ref1 n at_ := by simp [refs]
theorem ref1_cases (n : N) (at_ : Int) : (n.op = 5 ∨ n.op = 6 ∨ n.op = 7 ∨ ((n.op == 5) = false ∧ (n.op == 6) = false ∧ (n.op == 7) = false)) ∧ ((n.left == at_) = true ∨ (n.left == at_) = false) ∧ ((n.right == at_) = true ∨ (n.right == at_) = false) := by
  refine ⟨?_, ?_, ?_⟩
  · simp only [beq_eq_false_iff_ne]; omega
  · cases n.left == at_ <;> simp
  · cases n.right == at_ <;> simp
set_option maxRecDepth 100000 in
set_option maxHeartbeats 4000000 in
theorem specCountReferences (va : Value) (n : Nat) (xs : List N) (at_ : Int) (w : World) (ha : Rd w va 7 n (rows N.c xs)) (hx : n ≤ 4000000) :
    Calls Tryz.prog 137 #[va, .int .i64 at_] w fun e w' => e = .returned (.int .i64 (refs xs at_)) ∧ Grew w w' := by
  obtain ⟨a, ca, rfl, hca, hra⟩ := ha
  have HX := Lib.hid (hra.len_rows N.len (by decide))
  go_enter Tryz.func137, Tryz.ntmps137
  go_wp2
  go_loopw [5, 6, 7] (fun c i _ wr => ∃ (k : Nat) (r : Int), k ≤ n ∧ i = .int .i64 k ∧ c = .int .i64 r ∧ 0 ≤ r ∧ r ≤ 2 * k ∧ Hid (r = refs (xs.take k) at_) ∧ Grew w wr) (fun _ i _ _ => n - (intOf i).toNat)
  case atStart => exact ⟨0, 0, Nat.zero_le _, rfl, rfl, by omega, by omega, Lib.hid (by simp [refs]), Grew.refl _⟩
  case round =>
    obtain ⟨k, r, hk, rfl, rfl, h0, h1, hr, hbel⟩ := hrel
    by_cases hlt : k < n
    · obtain ⟨b1, o1, x, rfl, hxk, c0, c1, c2, c3, c4, c5, c6⟩ := (hra.grew hbel).getN hlt
      have hstep : ∀ d, ref1 x at_ = d → r + d = refs (xs.take (k + 1)) at_ := fun d h => by rw [take_snoc hxk.out, refs_snoc, ← hr.out, h]
      have HS := Lib.hid hstep
      clear hstep
      obtain ⟨op, l, rr, nm, v⟩ := x
      have hcs := ref1_cases ⟨op, l, rr, nm, v⟩ at_
      simp only at hcs
      obtain ⟨hop, hl, hr2⟩ := hcs
      rcases hop with rfl | rfl | rfl | ⟨p5, p6, p7⟩ <;> rcases hl with hl | hl <;> rcases hr2 with hr2 | hr2
      all_goals
        go_wp2
        go_roundw
        case rel =>
          have hd := HS.out _ rfl
          clear HS
          go_light
          simp [ref1, *] at hd
          exact ⟨k + 1, _, by omega, by go_num, rfl, by omega, by omega, Lib.hid (by omega), hbel⟩
        case measure => simp [intOf]; omega
    · go_wp2
      go_ret
      obtain rfl : k = n := by omega
      exact ⟨ret_int (by rw [hr.out, take_all HX.out]), hbel⟩
set_option maxRecDepth 100000 in
set_option maxHeartbeats 4000000 in
theorem implCountReferences (va : Value) (n : Nat) (xs : List N) (at_ : Int) (w : World) (ha : Rd w va 7 n (rows N.c xs)) (hx : n ≤ 4000000) :
    Calls Tryz.prog 168 #[va, .int .i64 at_] w fun e w' => e = .returned (.int .i64 (refs xs at_)) ∧ Grew w w' := by
  obtain ⟨a, ca, rfl, hca, hra⟩ := ha
  have HX := Lib.hid (hra.len_rows N.len (by decide))
  go_enter Tryz.func168, Tryz.ntmps168
  go_wp2
  go_loopw [5, 8, 11] (fun c _ i wr => ∃ (k : Nat) (r : Int), k ≤ n ∧ i = .int .i64 k ∧ c = .int .i64 r ∧ 0 ≤ r ∧ r ≤ 2 * k ∧ Hid (r = refs (xs.take k) at_) ∧ Grew w wr) (fun _ _ i _ => n - (intOf i).toNat)
  case atStart => exact ⟨0, 0, Nat.zero_le _, rfl, rfl, by omega, by omega, Lib.hid (by simp [refs]), Grew.refl _⟩
  case round =>
    obtain ⟨k, r, hk, rfl, rfl, h0, h1, hr, hbel⟩ := hrel
    by_cases hlt : k < n
    · obtain ⟨b1, o1, x, rfl, hxk, c0, c1, c2, c3, c4, c5, c6⟩ := (hra.grew hbel).getN hlt
      have hstep : ∀ d, ref1 x at_ = d → r + d = refs (xs.take (k + 1)) at_ := fun d h => by rw [take_snoc hxk.out, refs_snoc, ← hr.out, h]
      have HS := Lib.hid hstep
      clear hstep
      obtain ⟨op, l, rr, nm, v⟩ := x
      have hcs := ref1_cases ⟨op, l, rr, nm, v⟩ at_
      simp only at hcs
      obtain ⟨hop, hl, hr2⟩ := hcs
      rcases hop with rfl | rfl | rfl | ⟨p5, p6, p7⟩ <;> rcases hl with hl | hl <;> rcases hr2 with hr2 | hr2
      all_goals
        go_wp2
        go_roundw
        case rel =>
          have hd := HS.out _ rfl
          clear HS
          go_light
          simp [ref1, *] at hd
          exact ⟨k + 1, _, by omega, by go_num, rfl, by omega, by omega, Lib.hid (by omega), hbel.alloc _⟩
        case measure => simp [intOf]; omega
    · go_wp2
      go_ret
      obtain rfl : k = n := by omega
      exact ⟨ret_int (by rw [hr.out, take_all HX.out]), hbel⟩
end Go.Proofs.YtgekgokkbakcmaaGreat
namespace Go.Proofs.YtgekgokkbakcmaaGreat
open Go.RowKit Go.Sort
set_option linter.unusedVariables false
theorem so_snoc (xs : List ByteArray) (s : ByteArray) : so (xs ++ [s]) = putB (so xs) s := by
  unfold so putB putAll
  rw [List.map_append, List.foldl_append, List.map_map]
  simp [Function.comp_def]
theorem so_len (xs : List ByteArray) : (so xs).length ≤ xs.length := by
  unfold so
  rw [List.length_map, ← sort_put]
  have := Lib.compact_length_le ((xs.map dl).mergeSort fun x y => decide (x ≤ y))
  rw [List.length_mergeSort, List.length_map] at this
  exact this
end Go.Proofs.YtgekgokkbakcmaaGreat
namespace Go.Proofs.YtgekgokkbakcmaaGreat
open Go.RowKit Go.Sort
set_option linter.unusedVariables false
def qDirsN (xs : List N) : List ByteArray := (xs.filter fun x => inB x.op 8 9).map N.name
theorem qDirsN_yes {xs : List N} {k : Nat} {x : N} (h : xs[k]? = some x) (hh : inB x.op 8 9 = true) : qDirsN (xs.take (k + 1)) = qDirsN (xs.take k) ++ [x.name] := by
  rw [take_snoc h]; unfold qDirsN; rw [List.filter_append, List.map_append]; simp [hh]
theorem qDirsN_no {xs : List N} {k : Nat} {x : N} (h : xs[k]? = some x) (hh : inB x.op 8 9 = false) : qDirsN (xs.take (k + 1)) = qDirsN (xs.take k) := by
  rw [take_snoc h]; unfold qDirsN; rw [List.filter_append, List.map_append]; simp [hh]
theorem qDirsN_le (xs : List N) : (qDirsN xs).length ≤ xs.length := by
  unfold qDirsN; rw [List.length_map]; exact List.length_filter_le _ _
theorem qDirsN_tk (xs : List N) (k : Nat) : (qDirsN (xs.take k)).length ≤ k := Nat.le_trans (qDirsN_le _) (by rw [List.length_take]; omega)
def qDirs (xs : List N) : List ByteArray := so (qDirsN xs)
theorem qDirs_le (xs : List N) : (qDirs xs).length ≤ xs.length := Nat.le_trans (so_len _) (qDirsN_le xs)
set_option maxRecDepth 100000 in
set_option maxHeartbeats 1000000 in
theorem specQueryDirs (va : Value) (n : Nat) (xs : List N) (w : World) (ha : Rd w va 7 n (rows N.c xs)) (hx : n ≤ 4000000) :
    Calls Tryz.prog 174 #[va] w fun e w' => ∃ v, e = .returned v ∧ w'.ownsRow w.heap.size 9 1 v (qDirs xs).length (strs (qDirs xs)) ∧ Grew w w' := by
  obtain ⟨a, ca, rfl, hca, hra⟩ := ha
  have HX := Lib.hid (hra.len_rows N.len (by decide))
  obtain ⟨i0, hi, hz0, hz1, hz2⟩ := info_parts Tryz.infoString
  go_enter Tryz.func174, Tryz.ntmps174
  go_wp2
  go_loopw [3, 4] (fun v i wr => ∃ k : Nat, k ≤ n ∧ i = .int .i64 k ∧ Hid (RdS wr v (so (qDirsN (xs.take k)))) ∧ Grew w wr) (fun _ i _ => n - (intOf i).toNat)
  case atStart => exact ⟨0, Nat.zero_le _, rfl, Lib.hid (rds_of_own (xs := []) (lit_own w 9 1) (by simp)), (Grew.refl _).alloc _⟩
  case round =>
    obtain ⟨k, hk, rfl, hrd, hbel⟩ := hrel
    by_cases hlt : k < n
    · obtain ⟨b1, o1, x, rfl, hxk, c0, c1, c2, c3, c4, c5, c6⟩ := (hra.grew hbel).getN hlt
      obtain ⟨v, hv⟩ : ∃ v, inB x.op 8 9 = v := ⟨_, rfl⟩
      have HV := Lib.hid hv
      clear hv
      have hcs : v = true ∨ v = false := by cases v <;> simp
      have hsl : (so (qDirsN (xs.take k))).length ≤ 4000000 := by have := so_len (qDirsN (xs.take k)); have := qDirsN_tk xs k; omega
      rcases hcs with rfl | rfl
      · go_wp2_with (first | (go_at_call 69; refine (l01In _ 8 9 _).mono ?_; rintro e w1 ⟨he, rfl⟩; rw [HV.out] at he; subst he) | (go_at_call 139; refine (l04Put _ _ x.name _ hrd.out hsl).mono ?_; rintro e w2 ⟨v2, rfl, hrd2, hb2⟩; have HR2 := Lib.hid hrd2; clear hrd2))
        go_roundw
        case rel =>
          refine ⟨k + 1, by omega, by go_num, Lib.hid ?_, hbel.trans hb2⟩
          rw [qDirsN_yes hxk.out HV.out, so_snoc]; exact HR2.out
        case measure => simp [intOf]; omega
      · go_wp2_with (go_at_call 69; refine (l01In _ 8 9 _).mono ?_; rintro e w1 ⟨he, rfl⟩; rw [HV.out] at he; subst he)
        go_roundw
        case rel =>
          refine ⟨k + 1, by omega, by go_num, Lib.hid ?_, hbel⟩
          rw [qDirsN_no hxk.out HV.out]; exact hrd.out
        case measure => simp [intOf]; omega
    · obtain rfl : k = n := by omega
      have h1 := hrd.out
      rw [take_all HX.out] at h1
      have hql : (qDirs xs).length ≤ 4000000 := by have := qDirs_le xs; have := HX.out; omega
      obtain ⟨ad, c, rfl, hc, hr⟩ := h1
      have HR := Lib.hid hr
      clear hr hrd
      generalize hL : (so (qDirsN xs)).length = L at hc HR
      have hL2 : (qDirs xs).length = L := hL
      rw [hL2] at hql
      have HL := Lib.hid hL2
      clear hL hL2
      go_wp2_with (at_builtin; refine wpList_append_own _ rfl _ _ 44 rfl wr.heap.size 9 i0 (.string ⟨#[]⟩) 1 16 Tryz.underlying44 hi hz0 hz1 hz2 rfl (by decide) _ 0 [] rfl (lit_own wr 9 1) _ L _ (strs (qDirs xs)) rfl (by rw [List.length_map, HL.out, Nat.mul_one]) (rd_news HR.out ((Grew.refl _).alloc _)) (one_strs _) (by unfold maxLen; omega) (by omega) (by simp) ?_)
      intro v' w' hown' hgr _
      go_wp2
      go_ret
      refine ⟨_, rfl, ?_, (hbel.alloc _).grown hgr (fun k h => by cases h; exact hbel.size)⟩
      rw [HL.out]
      exact ownsRow_base (by simpa using hown') hbel.size
set_option maxRecDepth 100000 in
set_option maxHeartbeats 400000 in
theorem namesDir (x : N) (w : World) :
    Calls Tryz.prog 170 #[x.v] w fun e w' => e = .returned (.bool (inB x.op 8 9)) ∧ Grew w w' := by
  obtain ⟨op, l, r, nm, v⟩ := x
  have hop : op = 8 ∨ op = 9 ∨ (¬ op = 8 ∧ ¬ op = 9) := by omega
  rcases hop with rfl | rfl | ⟨h8, h9⟩
  · go_enter Tryz.func170, Tryz.ntmps170
    go_wp2
    go_ret
    exact ⟨rfl, (Grew.refl _).alloc _⟩
  · go_enter Tryz.func170, Tryz.ntmps170
    go_wp2
    go_ret
    exact ⟨rfl, (Grew.refl _).alloc _⟩
  · have HV := Lib.hid (show inB op 8 9 = false by unfold inB; simp; omega)
    have e8 : (op == 8) = false := by simp [h8]
    have e9 : (op == 9) = false := by simp [h9]
    clear h8 h9
    go_enter Tryz.func170, Tryz.ntmps170
    go_wp2
    go_ret
    exact ⟨ret_bool HV.out.symm, (Grew.refl _).alloc _⟩
set_option maxRecDepth 100000 in
set_option maxHeartbeats 1000000 in
theorem implQueryDirs (va : Value) (n : Nat) (xs : List N) (w : World) (ha : Rd w va 7 n (rows N.c xs)) (hx : n ≤ 4000000) :
    Calls Tryz.prog 172 #[va] w fun e w' => ∃ v, e = .returned v ∧ w'.ownsRow w.heap.size 9 1 v (qDirs xs).length (strs (qDirs xs)) ∧ Grew w w' := by
  obtain ⟨a, ca, rfl, hca, hra⟩ := ha
  have HX := Lib.hid (hra.len_rows N.len (by decide))
  obtain ⟨i0, hi, hz0, hz1, hz2⟩ := info_parts Tryz.infoString
  go_enter Tryz.func172, Tryz.ntmps172
  go_wp2
  go_loopw [3, 9] (fun v i wr => ∃ k : Nat, k ≤ n ∧ i = .int .i64 k ∧ Hid (wr.ownsRow w.heap.size 9 1 v (qDirsN (xs.take k)).length (strs (qDirsN (xs.take k)))) ∧ Grew w wr) (fun _ i _ => n - (intOf i).toNat)
  case atStart => exact ⟨0, Nat.zero_le _, rfl, Lib.hid (lit_own w 9 1), (Grew.refl _).alloc _⟩
  case round =>
    obtain ⟨k, hk, rfl, hown, hbel⟩ := hrel
    have hnl := qDirsN_tk xs k
    by_cases hlt : k < n
    · obtain ⟨b1, o1, x, rfl, hxk, c0, c1, c2, c3, c4, c5, c6⟩ := (hra.grew hbel).getN hlt
      obtain ⟨vb, hvb⟩ : ∃ v, inB x.op 8 9 = v := ⟨_, rfl⟩
      have HV := Lib.hid hvb
      clear hvb
      obtain ⟨op, l, r, nm, v⟩ := x
      simp only at c0 c1 c2 c3 c4 c5 c6
      have hal := (Grew.refl wr).alloc (.cells #[.int .i64 op, .int .i64 l, .int .i64 r, .string nm, .int .i64 v.kind, .int .i64 v.int, .string v.str] 125)
      have bx3 : (wr.alloc (.cells #[.int .i64 op, .int .i64 l, .int .i64 r, .string nm, .int .i64 v.kind, .int .i64 v.int, .string v.str] 125)).cell? ⟨wr.heap.size, 3, none⟩ = some (.string nm) := by simp
      have hcs : vb = true ∨ vb = false := by cases vb <;> simp
      rcases hcs with rfl | rfl
      · go_wp2_with (first | (go_at_call 170; refine (namesDir ⟨op, l, r, nm, v⟩ _).mono ?_; rintro e w1 ⟨he, hb⟩; rw [HV.out] at he; subst he; have c9 := grew_cell hb bx3) | (at_builtin; refine wpList_append_own _ rfl _ _ 44 rfl w.heap.size 9 i0 (.string ⟨#[]⟩) 1 16 Tryz.underlying44 hi hz0 hz1 hz2 rfl (by decide) _ _ _ rfl ((ownsRow_grew hown.out (hal.trans hb)).alloc _) ⟨_, 0, none⟩ 1 1 [.string nm] rfl rfl (cell_one_new _ _ _) (fun x hx => by simp at hx; subst hx; rfl) (by unfold maxLen; omega) (by omega) (by have := ((hbel.trans hal).trans hb).size; simp; omega) ?_; intro v' w' hown' hgr _))
        go_roundw
        case rel =>
          refine ⟨k + 1, by omega, by go_num, Lib.hid ?_, (((hbel.trans hal).trans hb).alloc _).grown hgr (fun g h => (hown.out.lt g h).1)⟩
          rw [qDirsN_yes hxk.out HV.out]; simpa using hown'
        case measure => simp [intOf]; omega
      · go_wp2_with (go_at_call 170; refine (namesDir ⟨op, l, r, nm, v⟩ _).mono ?_; rintro e w1 ⟨he, hb⟩; rw [HV.out] at he; subst he)
        go_roundw
        case rel =>
          refine ⟨k + 1, by omega, by go_num, Lib.hid ?_, (hbel.trans hal).trans hb⟩
          rw [qDirsN_no hxk.out HV.out]; exact ownsRow_grew hown.out (hal.trans hb)
        case measure => simp [intOf]; omega
    · obtain rfl : k = n := by omega
      have h1 := hown.out
      rw [take_all HX.out] at h1
      have H1 := Lib.hid h1
      have hql : (qDirsN xs).length ≤ 4000000 := by have := qDirsN_le xs; have := HX.out; omega
      clear h1 hown
      go_wp2_with (go_at_call 171; refine (sortedOnce _ _ _ _ (rd_of_own H1.out) hql).mono ?_; rintro e w2 ⟨v2, rfl, hown2, hb2⟩)
      go_ret
      exact ⟨_, rfl, ownsRow_base hown2 hbel.size, hbel.trans hb2⟩
end Go.Proofs.YtgekgokkbakcmaaGreat
namespace Go.Proofs.YtgekgokkbakcmaaGreat
open Go.RowKit
set_option linter.unusedVariables false
def dep (xs : List Dr) (s : ByteArray) : List ByteArray := (xs.filter fun x => hasB (qDirs x.query) s).map Dr.name
theorem dep_yes {xs : List Dr} {s : ByteArray} {k : Nat} {x : Dr} (h : xs[k]? = some x) (hh : hasB (qDirs x.query) s = true) : dep (xs.take (k + 1)) s = dep (xs.take k) s ++ [x.name] := by
  rw [take_snoc h]; unfold dep; rw [List.filter_append, List.map_append]; simp [hh]
theorem dep_no {xs : List Dr} {s : ByteArray} {k : Nat} {x : Dr} (h : xs[k]? = some x) (hh : hasB (qDirs x.query) s = false) : dep (xs.take (k + 1)) s = dep (xs.take k) s := by
  rw [take_snoc h]; unfold dep; rw [List.filter_append, List.map_append]; simp [hh]
theorem dep_le (xs : List Dr) (s : ByteArray) : (dep xs s).length ≤ xs.length := by
  unfold dep; rw [List.length_map]; exact List.length_filter_le _ _
theorem dep_tk (xs : List Dr) (s : ByteArray) (k : Nat) : (dep (xs.take k) s).length ≤ k := Nat.le_trans (dep_le _ _) (by rw [List.length_take]; omega)
set_option maxRecDepth 100000 in
set_option maxHeartbeats 1000000 in
theorem specDependents (va : Value) (xs : List Dr) (s : ByteArray) (w : World) (ha : RdDs w va xs) (hx : xs.length ≤ 4000000) (hs : ∀ x, x ∈ xs → x.small) :
    Calls Tryz.prog 131 #[va, .string s] w fun e w' => ∃ v, e = .returned v ∧ w'.ownsRow w.heap.size 9 1 v (dep xs s).length (strs (dep xs s)) ∧ Grew w w' := by
  obtain ⟨qs, ⟨a, ca, rfl, hca, hra⟩, hall⟩ := ha
  have HA := Lib.hid hall
  have HS := Lib.hid hs
  clear hall hs
  generalize hn : xs.length = n at hx hra
  have HX := Lib.hid hn
  clear hn
  obtain ⟨i0, hi, hz0, hz1, hz2⟩ := info_parts Tryz.infoString
  go_enter Tryz.func131, Tryz.ntmps131
  go_wp2
  go_loopw [5, 6] (fun v i wr => ∃ k : Nat, k ≤ n ∧ i = .int .i64 k ∧ Hid (wr.ownsRow w.heap.size 9 1 v (dep (xs.take k) s).length (strs (dep (xs.take k) s))) ∧ Grew w wr) (fun _ i _ => n - (intOf i).toNat)
  case atStart => exact ⟨0, Nat.zero_le _, rfl, Lib.hid (lit_own w 9 1), (Grew.refl _).alloc _⟩
  case round =>
    obtain ⟨k, hk, rfl, hown, hbel⟩ := hrel
    have hnl := dep_tk xs s k
    by_cases hlt : k < n
    · obtain ⟨b1, o1, p, rfl, hpk, c0, c1⟩ := (hra.grew hbel).getP2 hlt
      obtain ⟨x, hxk, hxr⟩ := HA.out.get hpk.out
      have hxs := HS.out x (List.mem_of_getElem? hxk.out)
      unfold Dr.small at hxs
      obtain ⟨pn, pq⟩ := p
      obtain ⟨hxn, hxq⟩ := hxr
      simp only at hxn hxq c0 c1
      subst hxn
      have HQ := Lib.hid hxq
      clear hxq
      have hql : (qDirs x.query).length ≤ 4000000 := by have := qDirs_le x.query; omega
      obtain ⟨v, hv⟩ : ∃ v, hasB (qDirs x.query) s = v := ⟨_, rfl⟩
      have HV := Lib.hid hv
      clear hv
      have hcs : v = true ∨ v = false := by cases v <;> simp
      rcases hcs with rfl | rfl
      · go_wp2_with (first | (go_at_call 174; refine (specQueryDirs _ x.query.length x.query _ (HQ.out.grew hbel) hxs).mono ?_; rintro e w1 ⟨v1, rfl, hq1, hb⟩; have c9 := grew_cell hb c0; have HQ1 := Lib.hid hq1; clear hq1) | (go_at_call 81; refine (l12Has _ _ (qDirs x.query) s _ (rd_of_own HQ1.out) hql).mono ?_; rintro e w2 ⟨he, rfl⟩; rw [HV.out] at he; subst he) | (at_builtin; refine wpList_append_own _ rfl _ _ 44 rfl w.heap.size 9 i0 (.string ⟨#[]⟩) 1 16 Tryz.underlying44 hi hz0 hz1 hz2 rfl (by decide) _ _ _ rfl ((ownsRow_grew hown.out hb).alloc _) ⟨_, 0, none⟩ 1 1 [.string x.name] rfl rfl (cell_one_new _ _ _) (fun x hx => by simp at hx; subst hx; rfl) (by unfold maxLen; omega) (by omega) (by have := (hbel.trans hb).size; simp; omega) ?_; intro v' w' hown' hgr _))
        go_roundw
        case rel =>
          refine ⟨k + 1, by omega, by go_num, Lib.hid ?_, ((hbel.trans hb).alloc _).grown hgr (fun g h => (hown.out.lt g h).1)⟩
          rw [dep_yes hxk.out HV.out]; simpa using hown'
        case measure => simp [intOf]; omega
      · go_wp2_with (first | (go_at_call 174; refine (specQueryDirs _ x.query.length x.query _ (HQ.out.grew hbel) hxs).mono ?_; rintro e w1 ⟨v1, rfl, hq1, hb⟩; have c9 := grew_cell hb c0; have HQ1 := Lib.hid hq1; clear hq1) | (go_at_call 81; refine (l12Has _ _ (qDirs x.query) s _ (rd_of_own HQ1.out) hql).mono ?_; rintro e w2 ⟨he, rfl⟩; rw [HV.out] at he; subst he))
        go_roundw
        case rel =>
          refine ⟨k + 1, by omega, by go_num, Lib.hid ?_, hbel.trans hb⟩
          rw [dep_no hxk.out HV.out]; exact ownsRow_grew hown.out hb
        case measure => simp [intOf]; omega
    · obtain rfl : k = n := by omega
      go_wp2
      go_ret
      refine ⟨_, rfl, ?_, hbel⟩
      have := hown.out
      rw [take_all HX.out] at this
      exact this
set_option maxRecDepth 100000 in
set_option maxHeartbeats 1000000 in
theorem implDependents (va : Value) (xs : List Dr) (s : ByteArray) (w : World) (ha : RdDs w va xs) (hx : xs.length ≤ 4000000) (hs : ∀ x, x ∈ xs → x.small) :
    Calls Tryz.prog 129 #[va, .string s] w fun e w' => ∃ v, e = .returned v ∧ w'.ownsRow w.heap.size 9 1 v (dep xs s).length (strs (dep xs s)) ∧ Grew w w' := by
  obtain ⟨qs, ⟨a, ca, rfl, hca, hra⟩, hall⟩ := ha
  have HA := Lib.hid hall
  have HS := Lib.hid hs
  clear hall hs
  generalize hn : xs.length = n at hx hra
  have HX := Lib.hid hn
  clear hn
  obtain ⟨i0, hi, hz0, hz1, hz2⟩ := info_parts Tryz.infoString
  go_enter Tryz.func129, Tryz.ntmps129
  go_wp2
  go_loopw [5, 11] (fun v i wr => ∃ k : Nat, k ≤ n ∧ i = .int .i64 k ∧ Hid (wr.ownsRow w.heap.size 9 1 v (dep (xs.take k) s).length (strs (dep (xs.take k) s))) ∧ Grew w wr) (fun _ i _ => n - (intOf i).toNat)
  case atStart => exact ⟨0, Nat.zero_le _, rfl, Lib.hid (lit_own w 9 1), (Grew.refl _).alloc _⟩
  case round =>
    obtain ⟨k, hk, rfl, hown, hbel⟩ := hrel
    have hnl := dep_tk xs s k
    by_cases hlt : k < n
    · obtain ⟨b1, o1, p, rfl, hpk, c0, c1⟩ := (hra.grew hbel).getP2 hlt
      obtain ⟨x, hxk, hxr⟩ := HA.out.get hpk.out
      have hxs := HS.out x (List.mem_of_getElem? hxk.out)
      unfold Dr.small at hxs
      obtain ⟨pn, pq⟩ := p
      obtain ⟨hxn, hxq⟩ := hxr
      simp only at hxn hxq c0 c1
      subst hxn
      have HQ := Lib.hid hxq
      obtain ⟨pa, pc, rfl, hpc, hpr⟩ := hxq
      clear hpr
      have hql : (qDirs x.query).length ≤ 4000000 := by have := qDirs_le x.query; omega
      obtain ⟨v, hv⟩ : ∃ v, hasB (qDirs x.query) s = v := ⟨_, rfl⟩
      have HV := Lib.hid hv
      clear hv
      have hal := (Grew.refl wr).alloc (.cells #[.string x.name, .slice pa x.query.length pc] 39)
      have bx0 : (wr.alloc (.cells #[.string x.name, .slice pa x.query.length pc] 39)).cell? ⟨wr.heap.size, 0, none⟩ = some (.string x.name) := by simp
      have hcs : v = true ∨ v = false := by cases v <;> simp
      rcases hcs with rfl | rfl
      · go_wp2_with (first | (go_at_call 172; refine (implQueryDirs _ x.query.length x.query _ (HQ.out.grew (hbel.trans hal)) hxs).mono ?_; rintro e w1 ⟨v1, rfl, hq1, hb⟩; have c9 := grew_cell hb bx0; have HQ1 := Lib.hid hq1; clear hq1) | (go_at_call 77; refine (slContainsStr _ _ (qDirs x.query) s _ (rd_of_own HQ1.out) hql).mono ?_; rintro e w2 ⟨he, rfl⟩; rw [HV.out] at he; subst he) | (at_builtin; refine wpList_append_own _ rfl _ _ 44 rfl w.heap.size 9 i0 (.string ⟨#[]⟩) 1 16 Tryz.underlying44 hi hz0 hz1 hz2 rfl (by decide) _ _ _ rfl ((ownsRow_grew hown.out (hal.trans hb)).alloc _) ⟨_, 0, none⟩ 1 1 [.string x.name] rfl rfl (cell_one_new _ _ _) (fun x hx => by simp at hx; subst hx; rfl) (by unfold maxLen; omega) (by omega) (by have := ((hbel.trans hal).trans hb).size; simp; omega) ?_; intro v' w' hown' hgr _))
        go_roundw
        case rel =>
          refine ⟨k + 1, by omega, by go_num, Lib.hid ?_, (((hbel.trans hal).trans hb).alloc _).grown hgr (fun g h => (hown.out.lt g h).1)⟩
          rw [dep_yes hxk.out HV.out]; simpa using hown'
        case measure => simp [intOf]; omega
      · go_wp2_with (first | (go_at_call 172; refine (implQueryDirs _ x.query.length x.query _ (HQ.out.grew (hbel.trans hal)) hxs).mono ?_; rintro e w1 ⟨v1, rfl, hq1, hb⟩; have c9 := grew_cell hb bx0; have HQ1 := Lib.hid hq1; clear hq1) | (go_at_call 77; refine (slContainsStr _ _ (qDirs x.query) s _ (rd_of_own HQ1.out) hql).mono ?_; rintro e w2 ⟨he, rfl⟩; rw [HV.out] at he; subst he))
        go_roundw
        case rel =>
          refine ⟨k + 1, by omega, by go_num, Lib.hid ?_, (hbel.trans hal).trans hb⟩
          rw [dep_no hxk.out HV.out]; exact ownsRow_grew hown.out (hal.trans hb)
        case measure => simp [intOf]; omega
    · obtain rfl : k = n := by omega
      go_wp2
      go_ret
      refine ⟨_, rfl, ?_, hbel⟩
      have := hown.out
      rw [take_all HX.out] at this
      exact this
end Go.Proofs.YtgekgokkbakcmaaGreat
namespace Go.Proofs.YtgekgokkbakcmaaGreat
open Go.RowKit Go.Sort
set_option linter.unusedVariables false
theorem beqB {a b : ByteArray} : (a.toList == b.toList) = true ↔ a = b := by
  rw [ByteArray.toList_eq, ByteArray.toList_eq]
  constructor
  · intro h
    have h1 : dl a = dl b := by simpa using h
    have h2 : mkb (dl a) = mkb (dl b) := by rw [h1]
    simpa only [mkb_dl] using h2
  · rintro rfl; simp
theorem hasB_iff {xs : List ByteArray} {s : ByteArray} : hasB xs s = true ↔ s ∈ xs := by
  unfold hasB
  rw [List.any_eq_true]
  constructor
  · rintro ⟨y, hy, h⟩; rw [beqB.1 h] at hy; exact hy
  · intro h; exact ⟨s, h, beqB.2 rfl⟩
theorem hasB_not {xs : List ByteArray} {s : ByteArray} : hasB xs s = false ↔ ¬ s ∈ xs := by
  rw [← hasB_iff]; simp
theorem so_ext {l1 l2 : List ByteArray} (h : ∀ y, y ∈ l1 ↔ y ∈ l2) : so l1 = so l2 := by
  unfold so
  congr 1
  have h1 := foldPut (l1.map dl) [] (List.Pairwise.nil)
  have h2 := foldPut (l2.map dl) [] (List.Pairwise.nil)
  refine asc_ext _ _ h1.1 h2.1 (fun y => ?_)
  unfold putAll
  rw [h1.2 y, h2.2 y]
  simp only [List.not_mem_nil, false_or, List.mem_map]
  constructor
  · rintro ⟨a, ha, rfl⟩; exact ⟨a, (h a).1 ha, rfl⟩
  · rintro ⟨a, ha, rfl⟩; exact ⟨a, (h a).2 ha, rfl⟩
theorem mem_so {l : List ByteArray} {y : ByteArray} : y ∈ so l ↔ y ∈ l := by
  unfold so putAll
  have h := foldPut (l.map dl) [] (List.Pairwise.nil)
  rw [List.mem_map]
  constructor
  · rintro ⟨z, hz, rfl⟩
    rcases (h.2 z).1 hz with hz | hz
    · cases hz
    · obtain ⟨b, hb, rfl⟩ := List.mem_map.1 hz
      exact hb
  · intro hy
    exact ⟨dl y, (h.2 _).2 (.inr (List.mem_map_of_mem hy)), rfl⟩
inductive Reach (xs : List Dr) (ns : List ByteArray) : ByteArray → Prop
  | base {s : ByteArray} : s ∈ ns → Reach xs ns s
  | step {s : ByteArray} {x : Dr} : Reach xs ns s → x ∈ xs → s ∈ qDirs x.query → Reach xs ns x.name
theorem Reach.mem {xs : List Dr} {ns : List ByteArray} {s : ByteArray} (h : Reach xs ns s) : s ∈ ns ++ xs.map Dr.name := by
  cases h with
  | base h => exact List.mem_append_left _ h
  | step _ hx _ => exact List.mem_append_right _ (List.mem_map_of_mem hx)
noncomputable def clo (xs : List Dr) (ns : List ByteArray) : List ByteArray :=
  so ((ns ++ xs.map Dr.name).filter fun s => @decide (Reach xs ns s) (Classical.propDecidable _))
theorem mem_clo {xs : List Dr} {ns : List ByteArray} {s : ByteArray} : s ∈ clo xs ns ↔ Reach xs ns s := by
  unfold clo
  rw [mem_so, List.mem_filter]
  simp only [decide_eq_true_eq]
  exact ⟨fun h => h.2, fun h => ⟨h.mem, h⟩⟩
theorem clo_len (xs : List Dr) (ns : List ByteArray) : (clo xs ns).length ≤ ns.length + xs.length := by
  unfold clo
  refine Nat.le_trans (so_len _) (Nat.le_trans (List.length_filter_le _ _) ?_)
  simp
theorem clo_of {xs : List Dr} {ns L : List ByteArray} (h : ∀ y, y ∈ L ↔ Reach xs ns y) : so L = clo xs ns := by
  have : so L = so ((ns ++ xs.map Dr.name).filter fun s => @decide (Reach xs ns s) (Classical.propDecidable _)) := by
    refine so_ext fun y => ?_
    rw [h, List.mem_filter]
    simp only [decide_eq_true_eq]
    exact ⟨fun h => ⟨h.mem, h⟩, fun h => h.2⟩
  exact this
theorem reach_any {xs : List Dr} {ns : List ByteArray} {s : ByteArray} : Reach xs ns s ↔ ∃ y, y ∈ ns ∧ Reach xs [y] s := by
  constructor
  · intro h
    induction h with
    | base h => exact ⟨_, h, .base (by simp)⟩
    | step _ hx hq ih =>
      obtain ⟨y, hy, hr⟩ := ih
      exact ⟨y, hy, .step hr hx hq⟩
  · rintro ⟨y, hy, h⟩
    induction h with
    | base h => simp at h; subst h; exact .base hy
    | step _ hx hq ih => exact .step ih hx hq
theorem filt_le {α : Type} {p q : α → Bool} : ∀ {xs : List α}, (∀ x, x ∈ xs → q x = true → p x = true) → (xs.filter q).length ≤ (xs.filter p).length
  | [], _ => by simp
  | y :: ys, h => by
    have ih := filt_le (xs := ys) (fun x hx => h x (List.mem_cons_of_mem _ hx))
    have h0 := h y (List.mem_cons_self ..)
    rw [List.filter_cons, List.filter_cons]
    cases hq : q y with
    | true => rw [h0 hq]; simpa using ih
    | false =>
      cases p y
      · simpa using ih
      · simp; omega
theorem filt_lt {α : Type} {p q : α → Bool} : ∀ {xs : List α}, (∀ x, x ∈ xs → q x = true → p x = true) → ∀ {x : α}, x ∈ xs → p x = true → q x = false → (xs.filter q).length < (xs.filter p).length
  | [], _, x, hx, _, _ => by cases hx
  | y :: ys, h, x, hx, hp, hn => by
    have hr : ∀ x, x ∈ ys → q x = true → p x = true := fun x hx => h x (List.mem_cons_of_mem _ hx)
    rw [List.filter_cons, List.filter_cons]
    rcases List.mem_cons.1 hx with rfl | hx
    · rw [hp, hn]
      have := filt_le hr
      simp; omega
    · have ih := filt_lt hr hx hp hn
      have h0 := h y (List.mem_cons_self ..)
      cases hq : q y with
      | true => rw [h0 hq]; simpa using ih
      | false =>
        cases p y
        · simpa using ih
        · simp; omega
def addN (L : List ByteArray) (s : ByteArray) : List ByteArray := if hasB L s then L else L ++ [s]
theorem addN_yes {L : List ByteArray} {s : ByteArray} (h : hasB L s = true) : addN L s = L := by unfold addN; rw [h]; rfl
theorem addN_no {L : List ByteArray} {s : ByteArray} (h : hasB L s = false) : addN L s = L ++ [s] := by unfold addN; rw [h]; rfl
theorem mem_addN {L : List ByteArray} {s y : ByteArray} : y ∈ addN L s ↔ y ∈ L ∨ y = s := by
  cases h : hasB L s with
  | true =>
    rw [addN_yes h]
    constructor
    · exact .inl
    · rintro (h1 | rfl)
      · exact h1
      · exact hasB_iff.1 h
  | false => rw [addN_no h]; simp
def cntN (xs : List Dr) (L : List ByteArray) : Nat := (xs.filter fun x => !hasB L x.name).length
theorem cnt_add {xs : List Dr} {L : List ByteArray} {x : Dr} (hx : x ∈ xs) : (addN L x.name).length + cntN xs (addN L x.name) ≤ L.length + cntN xs L := by
  cases h : hasB L x.name with
  | true => rw [addN_yes h]; exact Nat.le_refl _
  | false =>
    have h2 : cntN xs (addN L x.name) < cntN xs L := by
      unfold cntN
      refine filt_lt (fun y _ hy => ?_) hx (by simp [h]) (by simp [hasB_iff, mem_addN])
      have h3 : ¬ y.name ∈ addN L x.name := hasB_not.1 (by simpa using hy)
      rw [mem_addN] at h3
      have h4 : hasB L y.name = false := hasB_not.2 fun h => h3 (.inl h)
      rw [h4]; rfl
    rw [addN_no h]
    rw [addN_no h] at h2
    simp; omega
structure Good (xs : List Dr) (ns L : List ByteArray) : Prop where
  snd : ∀ y, y ∈ L → Reach xs ns y
  all : ∀ y, y ∈ ns → y ∈ L
  len : L.length + cntN xs L ≤ ns.length + xs.length
theorem Good.start (xs : List Dr) (ns : List ByteArray) : Good xs ns ns :=
  ⟨fun y h => .base h, fun y h => h, by have : cntN xs ns ≤ xs.length := List.length_filter_le _ _; omega⟩
theorem Good.le {xs : List Dr} {ns L : List ByteArray} (h : Good xs ns L) : L.length ≤ ns.length + xs.length := by have := h.len; omega
theorem Good.add {xs : List Dr} {ns L : List ByteArray} {s : ByteArray} {x : Dr} (h : Good xs ns L) (hx : x ∈ xs) (hs : s ∈ L) (hq : s ∈ qDirs x.query) : Good xs ns (addN L x.name) := by
  refine ⟨fun y hy => ?_, fun y hy => mem_addN.2 (.inl (h.all y hy)), Nat.le_trans (cnt_add hx) h.len⟩
  rcases mem_addN.1 hy with h1 | rfl
  · exact h.snd y h1
  · exact .step (h.snd s hs) hx hq
def Closed (xs : List Dr) (L : List ByteArray) : Prop := ∀ x, x ∈ xs → ∀ s, s ∈ qDirs x.query → s ∈ L → x.name ∈ L
theorem clo_done {xs : List Dr} {ns L : List ByteArray} (h : Good xs ns L) (hc : Closed xs L) : so L = clo xs ns := by
  refine clo_of fun y => ⟨h.snd y, fun hr => ?_⟩
  induction hr with
  | base h1 => exact h.all _ h1
  | step _ hx hq ih => exact hc _ hx _ hq ih
def turn1 (L : List ByteArray) (x : Dr) : List ByteArray := if (qDirs x.query).any (hasB L) then addN L x.name else L
def pass (xs : List Dr) (L : List ByteArray) : List ByteArray := xs.foldl turn1 L
def passes (xs : List Dr) (ns : List ByteArray) : Nat → List ByteArray
  | 0 => ns
  | r + 1 => pass xs (passes xs ns r)
theorem any_iff {l L : List ByteArray} : l.any (hasB L) = true ↔ ∃ s, s ∈ l ∧ s ∈ L := by
  rw [List.any_eq_true]
  exact ⟨fun ⟨s, h, k⟩ => ⟨s, h, hasB_iff.1 k⟩, fun ⟨s, h, k⟩ => ⟨s, h, hasB_iff.2 k⟩⟩
theorem turn1_sub {L : List ByteArray} {x : Dr} {y : ByteArray} (h : y ∈ L) : y ∈ turn1 L x := by
  unfold turn1; split
  · exact mem_addN.2 (.inl h)
  · exact h
theorem Good.turn {xs : List Dr} {ns L : List ByteArray} {x : Dr} (h : Good xs ns L) (hx : x ∈ xs) : Good xs ns (turn1 L x) := by
  unfold turn1; split
  · rename_i ha
    obtain ⟨s, hs, hl⟩ := any_iff.1 ha
    exact h.add hx hl hs
  · exact h
theorem Good.fold {xs : List Dr} {ns : List ByteArray} : ∀ (ys : List Dr) {L : List ByteArray}, Good xs ns L → (∀ y, y ∈ ys → y ∈ xs) → Good xs ns (ys.foldl turn1 L)
  | [], L, h, _ => h
  | y :: ys, L, h, hs => Good.fold ys (h.turn (hs y (List.mem_cons_self ..))) (fun z hz => hs z (List.mem_cons_of_mem _ hz))
theorem Good.passes {xs : List Dr} {ns : List ByteArray} : ∀ (r : Nat), Good xs ns (passes xs ns r)
  | 0 => Good.start xs ns
  | r + 1 => Good.fold xs (Good.passes r) (fun _ h => h)
theorem fold_sub : ∀ (ys : List Dr) {L : List ByteArray} {y : ByteArray}, y ∈ L → y ∈ ys.foldl turn1 L
  | [], L, y, h => h
  | x :: ys, L, y, h => fold_sub ys (turn1_sub h)
theorem fold_fires : ∀ (ys : List Dr) {L : List ByteArray} {x : Dr} {s : ByteArray}, x ∈ ys → s ∈ qDirs x.query → s ∈ L → x.name ∈ ys.foldl turn1 L
  | [], L, x, s, h, _, _ => by cases h
  | y :: ys, L, x, s, h, hq, hl => by
    rcases List.mem_cons.1 h with rfl | h
    · refine fold_sub ys ?_
      unfold turn1
      rw [if_pos (any_iff.2 ⟨s, hq, hl⟩)]
      exact mem_addN.2 (.inr rfl)
    · exact fold_fires ys h hq (turn1_sub hl)
theorem fold_closed {xs : List Dr} {L : List ByteArray} (hc : Closed xs L) : ∀ (ys : List Dr), (∀ y, y ∈ ys → y ∈ xs) → ys.foldl turn1 L = L
  | [], _ => rfl
  | y :: ys, hs => by
    have h1 : turn1 L y = L := by
      unfold turn1; split
      · rename_i ha
        obtain ⟨s, hq, hl⟩ := any_iff.1 ha
        exact addN_yes (hasB_iff.2 (hc y (hs y (List.mem_cons_self ..)) s hq hl))
      · rfl
    rw [List.foldl_cons, h1]
    exact fold_closed hc ys (fun z hz => hs z (List.mem_cons_of_mem _ hz))
theorem passes_or {xs : List Dr} {ns : List ByteArray} : ∀ (r : Nat), Closed xs (passes xs ns r) ∨ cntN xs (passes xs ns r) + r ≤ xs.length
  | 0 => .inr (List.length_filter_le _ _)
  | r + 1 => by
    rcases passes_or (xs := xs) (ns := ns) r with h | h
    · left
      show Closed xs (pass xs (passes xs ns r))
      unfold pass
      rw [fold_closed h xs (fun _ h => h)]; exact h
    · by_cases hc : Closed xs (passes xs ns r)
      · left
        show Closed xs (pass xs (passes xs ns r))
        unfold pass
        rw [fold_closed hc xs (fun _ h => h)]; exact hc
      · right
        have h1 : ∃ x, x ∈ xs ∧ ∃ s, s ∈ qDirs x.query ∧ s ∈ passes xs ns r ∧ ¬ x.name ∈ passes xs ns r := by
          apply Classical.byContradiction
          intro h2
          apply hc
          intro x hx s hs hl
          apply Classical.byContradiction
          intro h3
          exact h2 ⟨x, hx, s, hs, hl, h3⟩
        obtain ⟨x, hx, s, hs, hl, hn⟩ := h1
        have h2 : cntN xs (passes xs ns (r + 1)) < cntN xs (passes xs ns r) := by
          unfold cntN
          refine filt_lt (fun y _ hy => ?_) hx (by rw [hasB_not.2 hn]; rfl) (by rw [show hasB (passes xs ns (r + 1)) x.name = true from hasB_iff.2 (fold_fires xs hx hs hl)]; rfl)
          have h3 : ¬ y.name ∈ passes xs ns (r + 1) := hasB_not.1 (by simpa using hy)
          rw [hasB_not.2 (fun h => h3 (fold_sub xs h))]; rfl
        omega
theorem passes_closed (xs : List Dr) (ns : List ByteArray) : Closed xs (passes xs ns (xs.length + 1)) := by
  rcases passes_or (xs := xs) (ns := ns) (xs.length + 1) with h | h
  · exact h
  · omega
theorem so_passes (xs : List Dr) (ns : List ByteArray) : so (passes xs ns (xs.length + 1)) = clo xs ns := clo_done (Good.passes _) (passes_closed xs ns)
def midL (xs : List Dr) (ns : List ByteArray) (r i : Nat) : List ByteArray := (xs.take i).foldl turn1 (passes xs ns r)
theorem midL_all {xs : List Dr} (ns : List ByteArray) (r : Nat) {n : Nat} (h : xs.length = n) : midL xs ns r n = passes xs ns (r + 1) := by
  unfold midL; rw [take_all h]; rfl
theorem midL_succ {xs : List Dr} {i : Nat} {x : Dr} (ns : List ByteArray) (r : Nat) (h : xs[i]? = some x) : midL xs ns r (i + 1) = turn1 (midL xs ns r i) x := by
  unfold midL; rw [take_snoc h, List.foldl_append]; rfl
theorem Good.mid {xs : List Dr} {ns : List ByteArray} (r i : Nat) : Good xs ns (midL xs ns r i) := Good.fold _ (Good.passes r) (fun _ h => List.mem_of_mem_take h)
def askL (L : List ByteArray) (x : Dr) (k : Nat) : List ByteArray := if ((qDirs x.query).take k).any (hasB L) then addN L x.name else L
theorem askL_zero (L : List ByteArray) (x : Dr) : askL L x 0 = L := by unfold askL; simp
theorem askL_all {L : List ByteArray} {x : Dr} {n : Nat} (h : (qDirs x.query).length = n) : askL L x n = turn1 L x := by unfold askL turn1; rw [take_all h]
theorem askL_yes {L : List ByteArray} {x : Dr} {k : Nat} {s : ByteArray} (h : (qDirs x.query)[k]? = some s) (hs : hasB (askL L x k) s = true) : so (askL L x (k + 1)) = putB (so (askL L x k)) x.name := by
  rw [← so_snoc]
  refine so_ext fun y => ?_
  have hs2 := hasB_iff.1 hs
  unfold askL at hs2 ⊢
  rw [take_snoc h, List.any_append]
  cases ha : ((qDirs x.query).take k).any (hasB L) with
  | true =>
    simp only [Bool.true_or, if_true, List.mem_append, mem_addN, List.mem_singleton]
    constructor
    · rintro (h | h); exact .inl (.inl h); exact .inr h
    · rintro ((h | h) | h); exact .inl h; exact .inr h; exact .inr h
  | false =>
    rw [ha] at hs2
    simp only [Bool.false_eq_true, if_false] at hs2
    have : hasB L s = true := hasB_iff.2 hs2
    simp only [List.any_cons, List.any_nil, this, Bool.or_false, Bool.false_or, if_true, Bool.false_eq_true, if_false, mem_addN, List.mem_append, List.mem_singleton]
theorem askL_no {L : List ByteArray} {x : Dr} {k : Nat} {s : ByteArray} (h : (qDirs x.query)[k]? = some s) (hs : hasB (askL L x k) s = false) : askL L x (k + 1) = askL L x k := by
  have hs2 := hasB_not.1 hs
  unfold askL at hs2 ⊢
  rw [take_snoc h, List.any_append]
  cases ha : ((qDirs x.query).take k).any (hasB L) with
  | true => simp
  | false =>
    rw [ha] at hs2
    simp only [Bool.false_eq_true, if_false] at hs2
    have : hasB L s = false := hasB_not.2 hs2
    simp [this]
theorem Good.ask {xs : List Dr} {ns L : List ByteArray} {x : Dr} (h : Good xs ns L) (hx : x ∈ xs) (k : Nat) : Good xs ns (askL L x k) := by
  unfold askL; split
  · rename_i ha
    obtain ⟨s, hs, hl⟩ := any_iff.1 ha
    exact h.add hx hl (List.mem_of_mem_take hs)
  · exact h
def DoneUp (xs : List Dr) (O : List ByteArray) (i : Nat) : Prop := ∀ (j : Nat) o, j < i → O[j]? = some o → ∀ x, x ∈ xs → o ∈ qDirs x.query → x.name ∈ O
theorem mem_dep {xs : List Dr} {s y : ByteArray} : y ∈ dep xs s ↔ ∃ x, x ∈ xs ∧ s ∈ qDirs x.query ∧ x.name = y := by
  unfold dep
  rw [List.mem_map]
  constructor
  · rintro ⟨x, hx, rfl⟩
    obtain ⟨h1, h2⟩ := List.mem_filter.1 hx
    exact ⟨x, h1, hasB_iff.1 h2, rfl⟩
  · rintro ⟨x, h1, h2, rfl⟩
    exact ⟨x, List.mem_filter.2 ⟨h1, hasB_iff.2 h2⟩, rfl⟩
theorem DoneUp.start (xs : List Dr) (O : List ByteArray) : DoneUp xs O 0 := fun j o h => absurd h (Nat.not_lt_zero j)
theorem addN_get {O : List ByteArray} {s o : ByteArray} {j : Nat} (h : O[j]? = some o) : (addN O s)[j]? = some o := by
  unfold addN; split
  · exact h
  · rw [List.getElem?_append_left (List.getElem?_eq_some_iff.1 h).1]; exact h
theorem DoneUp.add {xs : List Dr} {O : List ByteArray} {i : Nat} (h : DoneUp xs O i) (hi : i ≤ O.length) (s : ByteArray) : DoneUp xs (addN O s) i := by
  intro j o hj ho x hx hq
  have h1 : O[j]? = some o := by
    have h2 : O[j]? = some O[j] := List.getElem?_eq_getElem (by omega)
    have h3 := addN_get (s := s) h2
    rw [h2, ← h3, ho]
  exact mem_addN.2 (.inl (h j o hj h1 x hx hq))
theorem DoneUp.succ {xs : List Dr} {O : List ByteArray} {i : Nat} {o : ByteArray} (h : DoneUp xs O i) (ho : O[i]? = some o) (hd : ∀ s, s ∈ dep xs o → s ∈ O) : DoneUp xs O (i + 1) := by
  intro j p hj hp x hx hq
  rcases Nat.lt_succ_iff_lt_or_eq.1 hj with h1 | rfl
  · exact h j p h1 hp x hx hq
  · obtain rfl := Option.some.inj (ho.symm.trans hp)
    exact hd _ (mem_dep.2 ⟨x, hx, hq, rfl⟩)
theorem DoneUp.closed {xs : List Dr} {O : List ByteArray} (h : DoneUp xs O O.length) : Closed xs O := by
  intro x hx s hq hs
  obtain ⟨j, hj, rfl⟩ := List.getElem_of_mem hs
  exact h j _ hj (List.getElem?_eq_getElem hj) x hx hq
theorem Good.addDep {xs : List Dr} {ns O : List ByteArray} {o s : ByteArray} (h : Good xs ns O) (ho : o ∈ O) (hs : s ∈ dep xs o) : Good xs ns (addN O s) := by
  obtain ⟨x, hx, hq, rfl⟩ := mem_dep.1 hs
  exact h.add hx ho hq
noncomputable def asksB (xs : List Dr) (f t : ByteArray) : Bool := hasB (clo xs (dep xs t)) f
theorem asks_any (xs : List Dr) (f t : ByteArray) : asksB xs f t = (dep xs t).any fun y => hasB (clo xs [y]) f := by
  unfold asksB
  rw [Bool.eq_iff_iff, hasB_iff, mem_clo, reach_any, List.any_eq_true]
  constructor
  · rintro ⟨y, hy, h⟩; exact ⟨y, hy, hasB_iff.2 (mem_clo.2 h)⟩
  · rintro ⟨y, hy, h⟩; exact ⟨y, hy, mem_clo.1 (hasB_iff.1 h)⟩
end Go.Proofs.YtgekgokkbakcmaaGreat
