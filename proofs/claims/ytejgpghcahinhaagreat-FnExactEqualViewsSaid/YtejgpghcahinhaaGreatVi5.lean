/- Texts C5, N4, K1, Q0, N1, Q1, Q2, Q3, Q4, K2, as far as they are needed. -/
import Derived.Test.YtejgpghcahinhaaGreatVi4
import Derived.Test.YtejgpghcahinhaaGreatVi2
import Derived.StillTailTactics
import Derived.Test.YtejgpghcahinhaaGreatVi0
import Derived.Lib.SlicesCompact
import Derived.Sort.Walk0
import Derived.Test.YtejgpghcahinhaaGreatShelf
import Derived.Sort.OwnSorted
import Derived.Lib.RowBridge
import Derived.Test.YtejgpghcahinhaaGreatVi3
namespace Go.Proofs.YtejgpghcahinhaaGreat
open Go.RowKit
set_option linter.unusedVariables false
noncomputable def qryAt (xs : List N) (i : Nat) (x : N) : Bool := nodB x i (wrap64 ((i : Int) - 1)) && (decide (xs.length ≤ i + 1) || refs xs i == 1)
theorem qryAt_eq {xs : List N} {i : Nat} {x : N} {b : Bool} {r : Int} (h : b = nodB x i (wrap64 ((i : Int) - 1))) (h2 : r = refs xs i) : qryAt xs i x = (b && (decide (xs.length ≤ i + 1) || r == 1)) := by
  subst h; subst h2; rfl
theorem qry_ex (xs : List N) : ∃ b : Bool, b = true ↔ ∀ (i : Nat) x, xs[i]? = some x → qryAt xs i x = true := by
  cases Classical.em (∀ (i : Nat) x, xs[i]? = some x → qryAt xs i x = true) with
  | inl h => exact ⟨true, ⟨fun _ => h, fun _ => rfl⟩⟩
  | inr h => exact ⟨false, ⟨fun e => Bool.noConfusion e, fun e => absurd e h⟩⟩
noncomputable def qryB (xs : List N) : Bool := (qry_ex xs).choose && inB xs.length 1 9
theorem qryB_no {xs : List N} {i : Nat} {x : N} (h : xs[i]? = some x) (hn : qryAt xs i x = false) : qryB xs = false := by
  have h1 := (qry_ex xs).choose_spec
  unfold qryB
  cases hc : (qry_ex xs).choose with
  | false => rfl
  | true => rw [h1.1 hc i x h] at hn; cases hn
theorem qryB_yes {xs : List N} (h : ∀ (i : Nat) x, i < xs.length → xs[i]? = some x → qryAt xs i x = true) : qryB xs = inB xs.length 1 9 := by
  have h1 := (qry_ex xs).choose_spec
  unfold qryB
  rw [h1.2 (fun i x hx => h i x (List.getElem?_eq_some_iff.1 hx).1 hx)]; rfl
theorem small_sz {xs : List N} {x : N} {i : Nat} (hz : szAll N.sz xs ≤ 4000000) (h : xs[i]? = some x) : x.name.size ≤ 4000000 ∧ x.val.str.size ≤ 4000000 := by
  have h1 := mem_szAll (f := N.sz) (List.mem_of_getElem? h)
  unfold N.sz V.sz at h1
  unfold N.sz V.sz at hz
  constructor <;> omega
set_option maxRecDepth 100000 in
set_option maxHeartbeats 4000000 in
theorem specIsValidQuery (va : Value) (n : Nat) (xs : List N) (w : World) (ha : Rd w va 7 n (rows N.c xs)) (hx : n ≤ 4000000) (hz : szAll N.sz xs ≤ 4000000) :
    Calls Tryz.prog 106 #[va] w fun e w' => e = .returned (.bool (qryB xs)) ∧ Grew w w' := by
  have HR := Lib.hid ha
  obtain ⟨a, ca, rfl, hca, hra⟩ := ha
  have HX := Lib.hid (hra.len_rows N.len (by decide))
  have HZ := Lib.hid hz
  clear hz
  go_enter Tryz.func106, Tryz.ntmps106
  go_wp2
  go_loopw [3] (fun i wr => ∃ k : Nat, k ≤ n ∧ i = .int .i64 k ∧ Hid (∀ j y, j < k → xs[j]? = some y → qryAt xs j y = true) ∧ Grew w wr) (fun i _ => n - (intOf i).toNat)
  case atStart => exact ⟨0, Nat.zero_le _, rfl, Lib.hid (fun j y h => absurd h (Nat.not_lt_zero j)), Grew.refl _⟩
  case round =>
    obtain ⟨k, hk, rfl, hall, hbel⟩ := hrel
    by_cases hlt : k < n
    · have hr2 := hra.grew hbel
      obtain ⟨b1, o1, x, rfl, hxk, c0, c1, c2, c3, c4, c5, c6⟩ := hr2.getN hlt
      have hsz := small_sz HZ.out hxk.out
      obtain ⟨hs1, hs2⟩ := hsz
      obtain ⟨nb, hnb⟩ : ∃ b, b = nodB x k (wrap64 ((k : Int) - 1)) := ⟨_, rfl⟩
      obtain ⟨r, hr⟩ : ∃ r, r = refs xs k := ⟨_, rfl⟩
      have hq := qryAt_eq hnb hr
      rw [HX.out] at hq
      have HQ := Lib.hid hq
      have HN := Lib.hid hnb
      have HC := Lib.hid hr
      clear hq hnb hr
      have hcs : nb = false ∨ (nb = true ∧ ¬ (k + 1 < n)) ∨ (nb = true ∧ k + 1 < n ∧ ((r = 1) ∨ (r == 1) = false)) := by
        cases nb
        · exact .inl rfl
        · by_cases h1 : k + 1 < n
          · refine .inr (.inr ⟨rfl, h1, ?_⟩); by_cases h2 : r = 1
            · exact .inl h2
            · exact .inr (by simp [h2])
          · exact .inr (.inl ⟨rfl, h1⟩)
      rcases hcs with rfl | ⟨rfl, hk1⟩ | ⟨rfl, hk1, rfl | hr1⟩
      all_goals
        go_wp2_with (first | (go_at_call 170; refine (specIsValidNode x (k : Int) _ hs1 hs2).mono ?_; rintro e w1 ⟨he, hb⟩; rw [← HN.out] at he; subst he; obtain ⟨hc, hf⟩ := hb.cells) | (go_at_call 171; refine (specCountReferences _ n xs (k : Int) _ ⟨_, ca, rfl, hca, hra.grew (hbel.trans hb)⟩ hx).mono ?_; rintro e w2 ⟨he, hb2⟩; rw [← HC.out] at he; subst he; obtain ⟨hc2, hf2⟩ := hb2.cells))
      all_goals first | go_ret | go_roundw
      all_goals first
        | (refine ⟨ret_bool ?_, by first | exact hbel.trans hb | exact (hbel.trans hb).trans hb2⟩
           exact (qryB_no hxk.out (by rw [HQ.out]; simp [*])).symm)
        | (refine ⟨k + 1, by omega, by go_num, Lib.hid ?_, by first | exact hbel.trans hb | exact (hbel.trans hb).trans hb2⟩
           intro j y hj hy
           rcases Nat.lt_succ_iff_lt_or_eq.1 hj with h | rfl
           · exact hall.out j y h hy
           · obtain rfl := Option.some.inj (hxk.out.symm.trans hy)
             rw [HQ.out]; simp; try omega)
        | (simp [intOf]; omega)
    · obtain rfl : k = n := by omega
      have hy := qryB_yes (xs := xs) (fun j y h h2 => hall.out j y (by rw [← HX.out]; exact h) h2)
      go_wp2_with (go_at_call 89; refine (l01In _ 1 9 _).mono ?_; rintro e w' ⟨rfl, rfl⟩)
      go_ret
      exact ⟨ret_bool (by rw [hy, HX.out]), hbel⟩
set_option maxRecDepth 100000 in
set_option maxHeartbeats 4000000 in
theorem implIsValidQuery (va : Value) (n : Nat) (xs : List N) (w : World) (ha : Rd w va 7 n (rows N.c xs)) (hx : n ≤ 4000000) (hz : szAll N.sz xs ≤ 4000000) :
    Calls Tryz.prog 160 #[va] w fun e w' => e = .returned (.bool (qryB xs)) ∧ Grew w w' := by
  have HR := Lib.hid ha
  obtain ⟨a, ca, rfl, hca, hra⟩ := ha
  have HX := Lib.hid (hra.len_rows N.len (by decide))
  have HZ := Lib.hid hz
  clear hz
  go_enter Tryz.func160, Tryz.ntmps160
  go_wp2
  go_loopw [3, 7] (fun _ i wr => ∃ k : Nat, k ≤ n ∧ i = .int .i64 k ∧ Hid (∀ j y, j < k → xs[j]? = some y → qryAt xs j y = true) ∧ Grew w wr) (fun _ i _ => n - (intOf i).toNat)
  case atStart => exact ⟨0, Nat.zero_le _, rfl, Lib.hid (fun j y h => absurd h (Nat.not_lt_zero j)), Grew.refl _⟩
  case round =>
    obtain ⟨k, hk, rfl, hall, hbel⟩ := hrel
    by_cases hlt : k < n
    · have hr2 := hra.grew hbel
      obtain ⟨b1, o1, x, rfl, hxk, c0, c1, c2, c3, c4, c5, c6⟩ := hr2.getN hlt
      have hsz := small_sz HZ.out hxk.out
      obtain ⟨hs1, hs2⟩ := hsz
      obtain ⟨nb, hnb⟩ : ∃ b, b = nodB x k (wrap64 ((k : Int) - 1)) := ⟨_, rfl⟩
      obtain ⟨r, hr⟩ : ∃ r, r = refs xs k := ⟨_, rfl⟩
      have hq := qryAt_eq hnb hr
      rw [HX.out] at hq
      have HQ := Lib.hid hq
      have HN := Lib.hid hnb
      have HC := Lib.hid hr
      clear hq hnb hr
      have hcs : nb = false ∨ (nb = true ∧ ¬ (k + 1 < n)) ∨ (nb = true ∧ k + 1 < n ∧ ((r = 1) ∨ (r == 1) = false)) := by
        cases nb
        · exact .inl rfl
        · by_cases h1 : k + 1 < n
          · refine .inr (.inr ⟨rfl, h1, ?_⟩); by_cases h2 : r = 1
            · exact .inl h2
            · exact .inr (by simp [h2])
          · exact .inr (.inl ⟨rfl, h1⟩)
      rcases hcs with rfl | ⟨rfl, hk1⟩ | ⟨rfl, hk1, rfl | hr1⟩
      all_goals
        go_wp2_with (first | (go_at_call 211; refine (implIsValidNode x (k : Int) _ hs1 hs2).mono ?_; rintro e w1 ⟨he, hb⟩; rw [← HN.out] at he; subst he; obtain ⟨hc, hf⟩ := hb.cells) | (go_at_call 212; refine (implCountReferences _ n xs (k : Int) _ ⟨_, ca, rfl, hca, hra.grew ((hbel.alloc _).trans hb)⟩ hx).mono ?_; rintro e w2 ⟨he, hb2⟩; rw [← HC.out] at he; subst he; obtain ⟨hc2, hf2⟩ := hb2.cells))
      all_goals first | go_ret | go_roundw
      all_goals first
        | (refine ⟨ret_bool ?_, by first | exact (hbel.alloc _).trans hb | exact ((hbel.alloc _).trans hb).trans hb2⟩
           exact (qryB_no hxk.out (by rw [HQ.out]; simp [*])).symm)
        | (refine ⟨k + 1, by omega, by go_num, Lib.hid ?_, by first | exact (hbel.alloc _).trans hb | exact ((hbel.alloc _).trans hb).trans hb2⟩
           intro j y hj hy
           rcases Nat.lt_succ_iff_lt_or_eq.1 hj with h | rfl
           · exact hall.out j y h hy
           · obtain rfl := Option.some.inj (hxk.out.symm.trans hy)
             rw [HQ.out]; simp; try omega)
        | (simp [intOf]; omega)
    · obtain rfl : k = n := by omega
      have hy := qryB_yes (xs := xs) (fun j y h h2 => hall.out j y (by rw [← HX.out]; exact h) h2)
      go_wp2_with (go_at_call 177; refine (within _ 1 9 _).mono ?_; rintro e w' ⟨rfl, rfl⟩)
      go_ret
      exact ⟨ret_bool (by rw [hy, HX.out]), hbel⟩
end Go.Proofs.YtejgpghcahinhaaGreat
namespace Go.Proofs.YtejgpghcahinhaaGreat
open Go.RowKit
set_option linter.unusedVariables false
def negS (bs : List Bool) (i : Nat) (x : N) : List Bool :=
  if x.op = 5 then bs.set x.left.toNat true
  else if x.op = 6 ∨ x.op = 7 then (bs.set x.left.toNat (bs.getD i false)).set x.right.toNat (bs.getD i false)
  else bs
def negR (xs : List N) : Nat → List Bool → List Bool
  | 0, bs => bs
  | k + 1, bs => negR xs k (match xs[k]? with | some x => negS bs k x | none => bs)
theorem negR_step {xs : List N} {k : Nat} {x : N} {bs : List Bool} (h : xs[k]? = some x) : negR xs (k + 1) bs = negR xs k (negS bs k x) := by
  show negR xs k (match xs[k]? with | some x => negS bs k x | none => bs) = _
  rw [h]
theorem negS_length (bs : List Bool) (i : Nat) (x : N) : (negS bs i x).length = bs.length := by
  unfold negS; split
  · simp
  · split <;> simp
theorem negR_length (xs : List N) : ∀ (k : Nat) (bs : List Bool), (negR xs k bs).length = bs.length
  | 0, bs => rfl
  | k + 1, bs => by
    unfold negR
    rw [negR_length xs k]
    split
    · exact negS_length _ _ _
    · rfl
noncomputable def negL (xs : List N) : List Bool := if qryB xs = true then negR xs xs.length (List.replicate xs.length false) else []
theorem negL_le (xs : List N) : (negL xs).length ≤ xs.length := by
  unfold negL; split
  · rw [negR_length]; simp
  · simp
theorem qry_node {xs : List N} {p : Nat} {x : N} (h : qryB xs = true) (hx : xs[p]? = some x) : nodB x p (wrap64 ((p : Int) - 1)) = true := by
  have h1 := (qry_ex xs).choose_spec
  unfold qryB at h
  simp only [Bool.and_eq_true] at h
  have h2 := h1.1 h.1 p x hx
  unfold qryAt at h2
  simp only [Bool.and_eq_true] at h2
  exact h2.1
theorem in_kid {l : Int} {p : Nat} (hp : p < 4000000) (h : inB l 0 (wrap64 ((p : Int) - 1)) = true) : ∃ j : Nat, l = j ∧ j < p := by
  rw [show wrap64 ((p : Int) - 1) = (p : Int) - 1 by unfold wrap64; omega] at h
  simp only [inB, Bool.and_eq_true, decide_eq_true_eq] at h
  exact ⟨l.toNat, by omega, by omega⟩
theorem nod5 {l r : Int} {nm : ByteArray} {v : V} {p : Nat} (hp : p < 4000000) (h : nodB ⟨5, l, r, nm, v⟩ p (wrap64 ((p : Int) - 1)) = true) : ∃ j : Nat, l = j ∧ j < p := by
  unfold nodB at h
  simp at h
  exact in_kid hp h.1.1
theorem nod67 {op l r : Int} {nm : ByteArray} {v : V} {p : Nat} (ho : op = 6 ∨ op = 7) (hp : p < 4000000) (h : nodB ⟨op, l, r, nm, v⟩ p (wrap64 ((p : Int) - 1)) = true) : ∃ j i : Nat, l = j ∧ r = i ∧ j < p ∧ i < p := by
  unfold nodB at h
  rcases ho with rfl | rfl
  all_goals
    simp at h
    obtain ⟨j, h1, h2⟩ := in_kid hp h.1.1
    obtain ⟨i, h3, h4⟩ := in_kid hp h.2.1
    exact ⟨j, i, h1, h3, h2, h4⟩
theorem idx_down (p : Nat) : (p = 0 ∧ Value.int .i64 ((p : Int) - 1) = .int .i64 (-1)) ∨ (∃ q : Nat, p = q + 1 ∧ Value.int .i64 ((p : Int) - 1) = .int .i64 q) := by
  cases p with
  | zero => exact .inl ⟨rfl, rfl⟩
  | succ q => exact .inr ⟨q, rfl, by congr 1; omega⟩
theorem getD_of {bs : List Bool} {i : Nat} {b : Bool} (h : bs[i]? = some b) : bs.getD i false = b := by simp [h]
set_option maxRecDepth 100000 in
set_option maxHeartbeats 2000000 in
theorem specNegatedNodes (va : Value) (n : Nat) (xs : List N) (w : World) (ha : Rd w va 7 n (rows N.c xs)) (hx : n ≤ 4000000) (hz : szAll N.sz xs ≤ 4000000) :
    Calls Tryz.prog 172 #[va] w fun e w' => ∃ v, e = .returned v ∧ w'.ownsRow w.heap.size 4 1 v (negL xs).length (bools (negL xs)) ∧ Grew w w' := by
  have HA := Lib.hid ha
  obtain ⟨a, ca, rfl, hca, hra⟩ := ha
  have HX := Lib.hid (hra.len_rows N.len (by decide))
  obtain ⟨qv, hqv⟩ : ∃ b, qryB xs = b := ⟨_, rfl⟩
  have HQ := Lib.hid hqv
  clear hqv
  have hcs : qv = false ∨ qv = true := by cases qv <;> simp
  rcases hcs with rfl | rfl
  · go_enter Tryz.func172, Tryz.ntmps172
    go_wp2_with (go_at_call 106; refine (specIsValidQuery _ n xs _ HA.out hx hz).mono ?_; rintro e w1 ⟨he, hb⟩; rw [HQ.out] at he; subst he)
    go_ret
    refine ⟨_, rfl, ?_, hb.alloc _⟩
    have : negL xs = [] := by unfold negL; rw [HQ.out]; rfl
    rw [this]
    exact ownsRow_base (lit_own w1 4 1) hb.size
  · obtain ⟨i0, hi, hz0, hz1, hz2⟩ := info_parts Tryz.infoBool
    go_enter Tryz.func172, Tryz.ntmps172
    go_wp2_with fail
    refine (specIsValidQuery _ n xs _ HA.out hx hz).mono ?_
    rintro e w1 ⟨he, hb⟩
    rw [HQ.out] at he; subst he
    go_wp2_with (at_make; refine wpList_make_full _ rfl _ _ 177 rfl w1.heap.size 4 i0 (.bool false) 1 Tryz.underlying177 hi hz0 hz1 _ _ _ _ n rfl rfl rfl rfl ?b2 ?b3 (Nat.le_refl _) ?_)
    case b2 => rw [hz2]; omega
    case b3 => unfold maxLen; omega
    intro w0 hown0 hgrow0
    clear hi hz0 hz1 hz2
    have hb0 : Grew w1 w0 := (Grew.refl _).grown hgrow0 (fun k h => by cases h)
    have hwn : IntKind.i64.wrap ((n : Int) - 1) = (n : Int) - 1 := by simp [IntKind.wrap, IntKind.bits, IntKind.signed]; omega
    go_wp2
    go_loopw [4] (fun i wr => ∃ (k : Nat) (bs : List Bool), k ≤ n ∧ ((k = 0 ∧ i = .int .i64 (-1)) ∨ (∃ p : Nat, k = p + 1 ∧ i = .int .i64 p)) ∧ Hid (negR xs k bs = negL xs) ∧ Hid (wr.ownsRow w1.heap.size 4 1 (.slice (some ⟨w1.heap.size, 0, none⟩) n n) n (bools bs)) ∧ Grew w1 wr) (fun i _ => (intOf i + 1).toNat)
    case atStart =>
      refine ⟨n, List.replicate n false, Nat.le_refl _, idx_down n, Lib.hid ?_, Lib.hid (by simpa [Value.cells, toList_madeCells_one] using hown0), hb0⟩
      unfold negL; rw [HQ.out, if_pos rfl, HX.out]
    case round =>
      obtain ⟨k, bs, hk, hi, hneg, hown, hbel⟩ := hrel
      rcases hi with ⟨rfl, rfl⟩ | ⟨p, rfl, rfl⟩
      · go_wp2
        go_ret
        have h1 : bs = negL xs := hneg.out
        have h2 : bs.length = n := by have := hown.out.1; simpa using this
        refine ⟨_, rfl, ?_, hb.trans hbel⟩
        rw [← h1, h2]
        exact ownsRow_base hown.out hb.size
      · have hlt : p < n := hk
        have hwp : IntKind.i64.wrap ((p : Int) - 1) = (p : Int) - 1 := by simp [IntKind.wrap, IntKind.bits, IntKind.signed]; omega
        obtain ⟨b1, o1, x, rfl, hxp, c0, c1, c2, c3, c4, c5, c6⟩ := (hra.grew (hb.trans hbel)).getN hlt
        have hnode := Lib.hid (qry_node HQ.out hxp.out)
        have hstep := Lib.hid ((negR_step (bs := bs) hxp.out).symm.trans hneg.out)
        obtain ⟨bi, hbi, hci⟩ := own_one hown.out hlt
        have hg1 := (hown.out.lt w1.heap.size rfl).2
        obtain ⟨op, l, r, nm, v⟩ := x
        simp only at c0 c1 c2 c3 c4 c5 c6
        by_cases h5 : op = 5
        · subst h5
          obtain ⟨j, rfl, hj⟩ := nod5 (by omega) hnode.out
          obtain ⟨bj, hbj, hcj⟩ := own_one hown.out (show j < n by omega)
          have hjn : (j : Int) < (n : Int) := by omega
          have hga := (Grew.refl wr).alloc (.cells #[.int .i64 5, .int .i64 j, .int .i64 r, .string nm, .int .i64 v.kind, .int .i64 v.int, .string v.str] 159)
          have e1 := grew_cell hga hcj
          have e2 := grew_frozen hga hg1 (hown.out.frozenAt j)
          have hst := Lib.hid (ownsRow_grew (store_one hown.out j true) ((Grew.refl _).alloc (.cells #[.int .i64 5, .int .i64 j, .int .i64 r, .string nm, .int .i64 v.kind, .int .i64 v.int, .string v.str] 159)))
          go_wp2
          go_roundw
          case rel =>
            refine ⟨p, negS bs p ⟨5, j, r, nm, v⟩, by omega, idx_down p, hstep, Lib.hid ?_, (hbel.setCell (p := ⟨w1.heap.size, j, none⟩) (Nat.le_refl _) _).alloc _⟩
            unfold negS; rw [if_pos rfl]; exact hst.out
          case measure => simp [intOf]
        · by_cases h67 : op = 6 ∨ op = 7
          · obtain ⟨j, i2, rfl, rfl, hj, hi2⟩ := nod67 h67 (by omega) hnode.out
            rcases h67 with rfl | rfl
            · have hjn : (j : Int) < (n : Int) := by omega
              have hin : (i2 : Int) < (n : Int) := by omega
              have hga := (Grew.refl wr).alloc (.cells #[.int .i64 6, .int .i64 j, .int .i64 i2, .string nm, .int .i64 v.kind, .int .i64 v.int, .string v.str] 159)
              have e1 : (wr.alloc (.cells #[.int .i64 6, .int .i64 j, .int .i64 i2, .string nm, .int .i64 v.kind, .int .i64 v.int, .string v.str] 159)).cell? ⟨wr.heap.size, 1, none⟩ = some (.int .i64 j) := by simp
              have e2 : (wr.alloc (.cells #[.int .i64 6, .int .i64 j, .int .i64 i2, .string nm, .int .i64 v.kind, .int .i64 v.int, .string v.str] 159)).cell? ⟨wr.heap.size, 2, none⟩ = some (.int .i64 i2) := by simp
              have hO := ownsRow_grew hown.out hga
              go_wp2
              generalize wr.alloc (.cells #[.int .i64 6, .int .i64 j, .int .i64 i2, .string nm, .int .i64 v.kind, .int .i64 v.int, .string v.str] 159) = W at hga e1 e2 hO ⊢
              obtain ⟨bi2, hbi2, ei⟩ := own_one hO hlt
              obtain rfl : bi = bi2 := Option.some.inj (hbi.out.symm.trans hbi2.out)
              go_still_tail 8, (by kernel_rfl)
              change wpList _ _ _ _ _ W.drew
              have g2 : Grew W W.drew := (Grew.refl _).drew
              replace e1 := grew_cell g2 e1
              replace e2 := grew_cell g2 e2
              replace hO := ownsRow_grew hO g2
              replace hga := hga.trans g2
              clear ei g2 hbi2
              generalize W.drew = W2 at hga e1 e2 hO ⊢
              obtain ⟨bj, hbj, ej⟩ := own_one hO (show j < n by omega)
              have hfj := hO.frozenAt j
              have hne : w1.heap.size ≠ wr.heap.size := by omega
              have hO3 := store_one hO j bi
              have hg3 := (hbel.trans hga).setCell (p := ⟨w1.heap.size, j, none⟩) (Nat.le_refl _) (.bool bi)
              have k2 : (W2.setCell ⟨w1.heap.size, j, none⟩ (.bool bi)).cell? ⟨wr.heap.size, 2, none⟩ = some (.int .i64 i2) := by
                rw [World.cell?_setCell_other _ _ _ _ (fun e => hne (congrArg Addr.block e))]; exact e2
              go_wp2
              generalize W2.setCell ⟨w1.heap.size, j, none⟩ (.bool bi) = W3 at hO3 hg3 k2 ⊢
              clear e1 e2 ej hfj hO hga
              obtain ⟨bi3, hbi3, ei⟩ := own_one hO3 hlt
              obtain rfl : bi = bi3 := by
                have h1 := hbi3.out
                rw [List.getElem?_set_ne (by omega)] at h1
                exact Option.some.inj (hbi.out.symm.trans h1)
              go_still_tail 8, (by kernel_rfl)
              change wpList _ _ _ _ _ W3.drew
              have g2 : Grew W3 W3.drew := (Grew.refl _).drew
              replace hO3 := ownsRow_grew hO3 g2
              replace hg3 := hg3.trans g2
              clear ei g2 hbi3
              generalize W3.drew = W4 at hg3 hO3 ⊢
              obtain ⟨bj4, hbj4, ej⟩ := own_one hO3 (show i2 < n by omega)
              have hfj := hO3.frozenAt i2
              have hst := Lib.hid (store_one hO3 i2 bi)
              go_wp2
              go_roundw
              case rel =>
                refine ⟨p, negS bs p ⟨6, j, i2, nm, v⟩, by omega, idx_down p, hstep, Lib.hid ?_, hg3.setCell (p := ⟨w1.heap.size, i2, none⟩) (Nat.le_refl _) _⟩
                unfold negS; rw [if_neg (by simp), if_pos (by simp), getD_of hbi.out]; exact hst.out
              case measure => simp [intOf]
            · have hjn : (j : Int) < (n : Int) := by omega
              have hin : (i2 : Int) < (n : Int) := by omega
              have hga := (Grew.refl wr).alloc (.cells #[.int .i64 7, .int .i64 j, .int .i64 i2, .string nm, .int .i64 v.kind, .int .i64 v.int, .string v.str] 159)
              have e1 : (wr.alloc (.cells #[.int .i64 7, .int .i64 j, .int .i64 i2, .string nm, .int .i64 v.kind, .int .i64 v.int, .string v.str] 159)).cell? ⟨wr.heap.size, 1, none⟩ = some (.int .i64 j) := by simp
              have e2 : (wr.alloc (.cells #[.int .i64 7, .int .i64 j, .int .i64 i2, .string nm, .int .i64 v.kind, .int .i64 v.int, .string v.str] 159)).cell? ⟨wr.heap.size, 2, none⟩ = some (.int .i64 i2) := by simp
              have hO := ownsRow_grew hown.out hga
              go_wp2
              generalize wr.alloc (.cells #[.int .i64 7, .int .i64 j, .int .i64 i2, .string nm, .int .i64 v.kind, .int .i64 v.int, .string v.str] 159) = W at hga e1 e2 hO ⊢
              obtain ⟨bi2, hbi2, ei⟩ := own_one hO hlt
              obtain rfl : bi = bi2 := Option.some.inj (hbi.out.symm.trans hbi2.out)
              go_still_tail 8, (by kernel_rfl)
              change wpList _ _ _ _ _ W.drew
              have g2 : Grew W W.drew := (Grew.refl _).drew
              replace e1 := grew_cell g2 e1
              replace e2 := grew_cell g2 e2
              replace hO := ownsRow_grew hO g2
              replace hga := hga.trans g2
              clear ei g2 hbi2
              generalize W.drew = W2 at hga e1 e2 hO ⊢
              obtain ⟨bj, hbj, ej⟩ := own_one hO (show j < n by omega)
              have hfj := hO.frozenAt j
              have hne : w1.heap.size ≠ wr.heap.size := by omega
              have hO3 := store_one hO j bi
              have hg3 := (hbel.trans hga).setCell (p := ⟨w1.heap.size, j, none⟩) (Nat.le_refl _) (.bool bi)
              have k2 : (W2.setCell ⟨w1.heap.size, j, none⟩ (.bool bi)).cell? ⟨wr.heap.size, 2, none⟩ = some (.int .i64 i2) := by
                rw [World.cell?_setCell_other _ _ _ _ (fun e => hne (congrArg Addr.block e))]; exact e2
              go_wp2
              generalize W2.setCell ⟨w1.heap.size, j, none⟩ (.bool bi) = W3 at hO3 hg3 k2 ⊢
              clear e1 e2 ej hfj hO hga
              obtain ⟨bi3, hbi3, ei⟩ := own_one hO3 hlt
              obtain rfl : bi = bi3 := by
                have h1 := hbi3.out
                rw [List.getElem?_set_ne (by omega)] at h1
                exact Option.some.inj (hbi.out.symm.trans h1)
              go_still_tail 8, (by kernel_rfl)
              change wpList _ _ _ _ _ W3.drew
              have g2 : Grew W3 W3.drew := (Grew.refl _).drew
              replace hO3 := ownsRow_grew hO3 g2
              replace hg3 := hg3.trans g2
              clear ei g2 hbi3
              generalize W3.drew = W4 at hg3 hO3 ⊢
              obtain ⟨bj4, hbj4, ej⟩ := own_one hO3 (show i2 < n by omega)
              have hfj := hO3.frozenAt i2
              have hst := Lib.hid (store_one hO3 i2 bi)
              go_wp2
              go_roundw
              case rel =>
                refine ⟨p, negS bs p ⟨7, j, i2, nm, v⟩, by omega, idx_down p, hstep, Lib.hid ?_, hg3.setCell (p := ⟨w1.heap.size, i2, none⟩) (Nat.le_refl _) _⟩
                unfold negS; rw [if_neg (by simp), if_pos (by simp), getD_of hbi.out]; exact hst.out
              case measure => simp [intOf]
          · have h50 : (op == 5) = false := by simp [h5]
            have h60 : (op == 6) = false := by simp; omega
            have h70 : (op == 7) = false := by simp; omega
            go_wp2
            go_roundw
            case rel =>
              refine ⟨p, negS bs p ⟨op, l, r, nm, v⟩, by omega, idx_down p, hstep, Lib.hid ?_, hbel.alloc _⟩
              unfold negS; rw [if_neg h5, if_neg h67]; exact ownsRow_grew hown.out ((Grew.refl _).alloc _)
            case measure => simp [intOf]
set_option maxRecDepth 100000 in
set_option maxHeartbeats 2000000 in
theorem implNegatedNodes (va : Value) (n : Nat) (xs : List N) (w : World) (ha : Rd w va 7 n (rows N.c xs)) (hx : n ≤ 4000000) (hz : szAll N.sz xs ≤ 4000000) :
    Calls Tryz.prog 213 #[va] w fun e w' => ∃ v, e = .returned v ∧ w'.ownsRow w.heap.size 4 1 v (negL xs).length (bools (negL xs)) ∧ Grew w w' := by
  have HA := Lib.hid ha
  obtain ⟨a, ca, rfl, hca, hra⟩ := ha
  have HX := Lib.hid (hra.len_rows N.len (by decide))
  obtain ⟨qv, hqv⟩ : ∃ b, qryB xs = b := ⟨_, rfl⟩
  have HQ := Lib.hid hqv
  clear hqv
  have hcs : qv = false ∨ qv = true := by cases qv <;> simp
  rcases hcs with rfl | rfl
  · go_enter Tryz.func213, Tryz.ntmps213
    go_wp2_with (go_at_call 160; refine (implIsValidQuery _ n xs _ HA.out hx hz).mono ?_; rintro e w1 ⟨he, hb⟩; rw [HQ.out] at he; subst he)
    go_ret
    refine ⟨_, rfl, ?_, hb⟩
    have : negL xs = [] := by unfold negL; rw [HQ.out]; rfl
    rw [this]
    exact World.ownsRow_nil _ _ _ _
  · obtain ⟨i0, hi, hz0, hz1, hz2⟩ := info_parts Tryz.infoBool
    go_enter Tryz.func213, Tryz.ntmps213
    go_wp2_with fail
    refine (implIsValidQuery _ n xs _ HA.out hx hz).mono ?_
    rintro e w1 ⟨he, hb⟩
    rw [HQ.out] at he; subst he
    go_wp2_with (at_make; refine wpList_make_full _ rfl _ _ 177 rfl w1.heap.size 4 i0 (.bool false) 1 Tryz.underlying177 hi hz0 hz1 _ _ _ _ n rfl rfl rfl rfl ?b2 ?b3 (Nat.le_refl _) ?_)
    case b2 => rw [hz2]; omega
    case b3 => unfold maxLen; omega
    intro w0 hown0 hgrow0
    clear hi hz0 hz1 hz2
    have hb0 : Grew w1 w0 := (Grew.refl _).grown hgrow0 (fun k h => by cases h)
    have hwn : IntKind.i64.wrap ((n : Int) - 1) = (n : Int) - 1 := by simp [IntKind.wrap, IntKind.bits, IntKind.signed]; omega
    go_wp2
    go_loopw [4] (fun i wr => ∃ (k : Nat) (bs : List Bool), k ≤ n ∧ ((k = 0 ∧ i = .int .i64 (-1)) ∨ (∃ p : Nat, k = p + 1 ∧ i = .int .i64 p)) ∧ Hid (negR xs k bs = negL xs) ∧ Hid (wr.ownsRow w1.heap.size 4 1 (.slice (some ⟨w1.heap.size, 0, none⟩) n n) n (bools bs)) ∧ Grew w1 wr) (fun i _ => (intOf i + 1).toNat)
    case atStart =>
      refine ⟨n, List.replicate n false, Nat.le_refl _, idx_down n, Lib.hid ?_, Lib.hid (by simpa [Value.cells, toList_madeCells_one] using hown0), hb0⟩
      unfold negL; rw [HQ.out, if_pos rfl, HX.out]
    case round =>
      obtain ⟨k, bs, hk, hi, hneg, hown, hbel⟩ := hrel
      rcases hi with ⟨rfl, rfl⟩ | ⟨p, rfl, rfl⟩
      · go_wp2
        go_ret
        have h1 : bs = negL xs := hneg.out
        have h2 : bs.length = n := by have := hown.out.1; simpa using this
        refine ⟨_, rfl, ?_, hb.trans hbel⟩
        rw [← h1, h2]
        exact ownsRow_base hown.out hb.size
      · have hlt : p < n := hk
        have hwp : IntKind.i64.wrap ((p : Int) - 1) = (p : Int) - 1 := by simp [IntKind.wrap, IntKind.bits, IntKind.signed]; omega
        obtain ⟨b1, o1, x, rfl, hxp, c0, c1, c2, c3, c4, c5, c6⟩ := (hra.grew (hb.trans hbel)).getN hlt
        have hnode := Lib.hid (qry_node HQ.out hxp.out)
        have hstep := Lib.hid ((negR_step (bs := bs) hxp.out).symm.trans hneg.out)
        obtain ⟨bi, hbi, hci⟩ := own_one hown.out hlt
        have hg1 := (hown.out.lt w1.heap.size rfl).2
        obtain ⟨op, l, r, nm, v⟩ := x
        simp only at c0 c1 c2 c3 c4 c5 c6
        by_cases h5 : op = 5
        · subst h5
          obtain ⟨j, rfl, hj⟩ := nod5 (by omega) hnode.out
          obtain ⟨bj, hbj, hcj⟩ := own_one hown.out (show j < n by omega)
          have hjn : (j : Int) < (n : Int) := by omega
          have e2 := hown.out.frozenAt j
          have hst := Lib.hid (store_one hown.out j true)
          have hcb : bi = false ∨ bi = true := by cases bi <;> simp
          rcases hcb with rfl | rfl
          all_goals go_wp2
          all_goals go_roundw
          all_goals first
            | (refine ⟨p, negS bs p ⟨5, j, r, nm, v⟩, by omega, idx_down p, hstep, Lib.hid ?_, hbel.setCell (p := ⟨w1.heap.size, j, none⟩) (Nat.le_refl _) _⟩
               unfold negS; rw [if_pos rfl]; exact hst.out)
            | (simp [intOf]; done)
        · by_cases h67 : op = 6 ∨ op = 7
          · obtain ⟨j, i2, rfl, rfl, hj, hi2⟩ := nod67 h67 (by omega) hnode.out
            have hjn : (j : Int) < (n : Int) := by omega
            have hin : (i2 : Int) < (n : Int) := by omega
            obtain ⟨bj, hbj, ej⟩ := own_one hown.out (show j < n by omega)
            have hO2 := store_one hown.out j bi
            obtain ⟨bk, hbk, ek⟩ := own_one hO2 (show i2 < n by omega)
            have ek2 := grew_cell (Grew.refl _).drew ek
            have hfk2 := (ownsRow_grew hO2 (Grew.refl _).drew).frozenAt i2
            have hfj := hown.out.frozenAt j
            have hfk := hO2.frozenAt i2
            have hst := Lib.hid (ownsRow_grew (store_one hO2 i2 bi) (Grew.refl _).drew)
            have hg3 := ((hbel.setCell (p := ⟨w1.heap.size, j, none⟩) (Nat.le_refl _) (.bool bi)).setCell (p := ⟨w1.heap.size, i2, none⟩) (Nat.le_refl _) (.bool bi)).drew
            clear hO2
            have hcb : bi = false ∨ bi = true := by cases bi <;> simp
            rcases h67 with rfl | rfl
            all_goals rcases hcb with rfl | rfl
            all_goals go_wp2
            all_goals go_region
            all_goals go_wp2
            all_goals go_roundw
            all_goals first
              | (refine ⟨p, negS bs p ⟨_, j, i2, nm, v⟩, by omega, idx_down p, hstep, Lib.hid ?_, hg3⟩
                 unfold negS; rw [if_neg (by simp), if_pos (by simp), getD_of hbi.out]; exact hst.out)
              | (simp [intOf]; done)
          · have h50 : (op == 5) = false := by simp [h5]
            have h60 : (op == 6) = false := by simp; omega
            have h70 : (op == 7) = false := by simp; omega
            have hcb : bi = false ∨ bi = true := by cases bi <;> simp
            rcases hcb with rfl | rfl
            all_goals go_wp2
            all_goals go_roundw
            all_goals first
              | (refine ⟨p, negS bs p ⟨op, l, r, nm, v⟩, by omega, idx_down p, hstep, Lib.hid ?_, hbel⟩
                 unfold negS; rw [if_neg h5, if_neg h67]; exact hown.out)
              | (simp [intOf]; done)
end Go.Proofs.YtejgpghcahinhaaGreat
namespace Go.Proofs.YtejgpghcahinhaaGreat
open Go.RowKit
set_option linter.unusedVariables false
def hasB (xs : List ByteArray) (s : ByteArray) : Bool := xs.any fun y => y.toList == s.toList
theorem hasB_no {xs : List ByteArray} {s y : ByteArray} {k : Nat} (h : hasB (xs.take k) s = false) (hy : xs[k]? = some y) (hn : (y.toList == s.toList) = false) : hasB (xs.take (k + 1)) s = false := by
  rw [take_snoc hy]; unfold hasB at h ⊢; rw [List.any_append, h]; simp [hn]
theorem hasB_yes {xs : List ByteArray} {s y : ByteArray} {k : Nat} (hy : xs[k]? = some y) (hn : (y.toList == s.toList) = true) : hasB xs s = true := by
  unfold hasB; rw [List.any_eq_true]; exact ⟨y, List.mem_of_getElem? hy, hn⟩
def idxS (xs : List ByteArray) (s : ByteArray) (i : Int) : Prop := (i = -1 ∧ hasB xs s = false) ∨ (0 ≤ i ∧ hasB xs s = true)
theorem beq_swap (a b : List UInt8) : (a == b) = (b == a) := by
  by_cases h : a = b
  · subst h; rfl
  · rw [beq_eq_false_iff_ne.2 h, beq_eq_false_iff_ne.2 (fun e => h e.symm)]
set_option maxRecDepth 100000 in
set_option maxHeartbeats 400000 in
theorem slIndexStr (va : Value) (n : Nat) (xs : List ByteArray) (s : ByteArray) (w : World) (ha : Rd w va 1 n (strs xs)) (hx : n ≤ 4000000) :
    Calls Tryz.prog 162 #[va, .string s] w fun e w' => ∃ i : Int, e = .returned (.int .i64 i) ∧ idxS xs s i ∧ w = w' := by
  obtain ⟨a, ca, rfl, hca, hra⟩ := ha
  have HX := Lib.hid hra.len_map
  go_enter Tryz.func162, Tryz.ntmps162
  go_wp2
  go_loop [5, 8] (fun _ i => ∃ k : Nat, k ≤ n ∧ i = .int .i64 k ∧ Hid (hasB (xs.take k) s = false)) (fun _ i => n - (intOf i).toNat)
  case atStart => exact ⟨0, Nat.zero_le _, rfl, Lib.hid (by simp [hasB])⟩
  case round =>
    obtain ⟨k, hk, rfl, hsame⟩ := hrel
    by_cases hlt : k < n
    · obtain ⟨b1, o1, y, rfl, hxk, e1⟩ := hra.one hlt
      have hcs : (y.toList == s.toList) = true ∨ (y.toList == s.toList) = false := by cases y.toList == s.toList <;> simp
      rcases hcs with hn | hn
      · have hn2 : (s.toList == y.toList) = true := by rw [beq_swap]; exact hn
        go_wp2
        go_ret
        exact ⟨_, rfl, .inr ⟨by omega, hasB_yes hxk.out hn⟩, rfl⟩
      · have hn2 : (s.toList == y.toList) = false := by rw [beq_swap]; exact hn
        go_wp2
        go_round
        case rel => exact ⟨k + 1, by omega, by go_num, Lib.hid (hasB_no hsame.out hxk.out hn)⟩
        case measure => simp [intOf]; omega
    · go_wp2
      go_ret
      obtain rfl : k = n := by omega
      exact ⟨_, rfl, .inl ⟨rfl, by have := hsame.out; rw [take_all HX.out] at this; exact this⟩, rfl⟩
set_option maxRecDepth 100000 in
set_option maxHeartbeats 400000 in
theorem slContainsStr (va : Value) (n : Nat) (xs : List ByteArray) (s : ByteArray) (w : World) (ha : Rd w va 1 n (strs xs)) (hx : n ≤ 4000000) :
    Calls Tryz.prog 97 #[va, .string s] w fun e w' => e = .returned (.bool (hasB xs s)) ∧ w = w' := by
  go_enter Tryz.func97, Tryz.ntmps97
  go_wp2_with (go_at_call 162; refine (slIndexStr va n xs s _ ha hx).mono ?_; rintro e w' ⟨i, rfl, hi, rfl⟩)
  go_ret
  refine ⟨ret_bool ?_, rfl⟩
  rcases hi with ⟨rfl, h⟩ | ⟨h0, h⟩
  · simp [h]
  · simp [h, h0]
end Go.Proofs.YtejgpghcahinhaaGreat
namespace Go.Proofs.YtejgpghcahinhaaGreat
open Go.RowKit
def putL {α : Type} [LT α] [DecidableLT α] [DecidableEq α] : List α → α → List α
  | [], s => [s]
  | x :: xs, s => if x < s then x :: putL xs s else if x = s then x :: xs else s :: x :: xs
def putAll {α : Type} [LT α] [DecidableLT α] [DecidableEq α] (xs : List α) : List α := xs.foldl putL []
def Asc {α : Type} [LT α] (xs : List α) : Prop := xs.Pairwise (· < ·)
class Ordered (α : Type) [LT α] : Prop where
  irrefl : ∀ a : α, ¬ a < a
  trans : ∀ a b c : α, a < b → b < c → a < c
  tri : ∀ a b : α, a < b ∨ a = b ∨ b < a
theorem putL_mem {α : Type} [LT α] [DecidableLT α] [DecidableEq α] : ∀ (xs : List α) (s y : α), y ∈ putL xs s ↔ y = s ∨ y ∈ xs
  | [], s, y => by simp [putL]
  | x :: xs, s, y => by
    unfold putL
    split
    · rw [List.mem_cons, putL_mem xs s y, List.mem_cons]
      constructor
      · rintro (h | h | h)
        · exact .inr (.inl h)
        · exact .inl h
        · exact .inr (.inr h)
      · rintro (h | h | h)
        · exact .inr (.inl h)
        · exact .inl h
        · exact .inr (.inr h)
    · split
      · rename_i h; subst h; simp
      · simp
theorem putL_asc {α : Type} [LT α] [DecidableLT α] [DecidableEq α] [Ordered α] : ∀ (xs : List α) (s : α), Asc xs → Asc (putL xs s)
  | [], s, _ => by simp [putL, Asc]
  | x :: xs, s, h => by
    unfold Asc at h
    rw [List.pairwise_cons] at h
    unfold putL
    split
    · rename_i hlt
      refine List.pairwise_cons.2 ⟨fun y hy => ?_, putL_asc xs s h.2⟩
      rcases (putL_mem xs s y).1 hy with rfl | hy
      · exact hlt
      · exact h.1 y hy
    · split
      · exact List.pairwise_cons.2 h
      · rename_i h1 h2
        have h3 : s < x := by
          rcases Ordered.tri x s with h4 | h4 | h4
          · exact absurd h4 h1
          · exact absurd h4 h2
          · exact h4
        refine List.pairwise_cons.2 ⟨fun y hy => ?_, List.pairwise_cons.2 h⟩
        rcases List.mem_cons.1 hy with rfl | hy
        · exact h3
        · exact Ordered.trans _ _ _ h3 (h.1 y hy)
theorem foldPut {α : Type} [LT α] [DecidableLT α] [DecidableEq α] [Ordered α] : ∀ (xs acc : List α), Asc acc → Asc (xs.foldl putL acc) ∧ ∀ y, y ∈ xs.foldl putL acc ↔ y ∈ acc ∨ y ∈ xs
  | [], acc, h => ⟨h, fun y => by simp⟩
  | x :: xs, acc, h => by
    have h1 := foldPut xs (putL acc x) (putL_asc acc x h)
    refine ⟨h1.1, fun y => ?_⟩
    rw [List.foldl_cons, h1.2 y, putL_mem, List.mem_cons]
    constructor
    · rintro ((h | h) | h)
      · exact .inr (.inl h)
      · exact .inl h
      · exact .inr (.inr h)
    · rintro (h | h | h)
      · exact .inl (.inr h)
      · exact .inl (.inl h)
      · exact .inr h
theorem asc_ext {α : Type} [LT α] [Ordered α] : ∀ (xs ys : List α), Asc xs → Asc ys → (∀ y, y ∈ xs ↔ y ∈ ys) → xs = ys
  | [], [], _, _, _ => rfl
  | [], y :: ys, _, _, h => by have := (h y).2 (List.mem_cons_self ..); simp at this
  | x :: xs, [], _, _, h => by have := (h x).1 (List.mem_cons_self ..); simp at this
  | x :: xs, y :: ys, hx, hy, h => by
    unfold Asc at hx hy
    rw [List.pairwise_cons] at hx hy
    have e : x = y := by
      rcases List.mem_cons.1 ((h x).1 (List.mem_cons_self ..)) with h1 | h1
      · exact h1
      · rcases List.mem_cons.1 ((h y).2 (List.mem_cons_self ..)) with h2 | h2
        · exact h2.symm
        · exact absurd (Ordered.trans _ _ _ (hy.1 x h1) (hx.1 y h2)) (Ordered.irrefl _)
    subst e
    congr 1
    refine asc_ext xs ys hx.2 hy.2 (fun z => ?_)
    have h3 := h z
    rw [List.mem_cons, List.mem_cons] at h3
    constructor
    · intro hz
      rcases h3.1 (.inr hz) with rfl | h4
      · exact absurd (hx.1 _ hz) (Ordered.irrefl _)
      · exact h4
    · intro hz
      rcases h3.2 (.inr hz) with rfl | h4
      · exact absurd (hy.1 _ hz) (Ordered.irrefl _)
      · exact h4
theorem compact_facts {α : Type} [LT α] [Inhabited α] [DecidableEq α] [Ordered α] (d : Array α) (hs : ∀ i j, i < j → j < d.size → d[i]! = d[j]! ∨ d[i]! < d[j]!) : ∀ m, m ≤ d.size →
    Asc (Lib.compactUpTo d m) ∧ (∀ y, y ∈ Lib.compactUpTo d m ↔ ∃ i, i < m ∧ y = d[i]!)
  | 0, _ => by simp [Lib.compactUpTo, Asc]
  | m + 1, hm => by
    obtain ⟨h1, h2⟩ := compact_facts d hs m (by omega)
    rw [Lib.compactUpTo_succ]
    cases hk : Lib.keeps d m with
    | true =>
      rw [if_pos rfl]
      refine ⟨List.pairwise_append.2 ⟨h1, List.pairwise_singleton _ _, fun a ha b hb => ?_⟩, fun y => ?_⟩
      · simp at hb; subst hb
        obtain ⟨i, hi, rfl⟩ := (h2 a).1 ha
        rcases hs i m hi (by omega) with h3 | h3
        · exfalso
          have h4 : d[m]! ≠ d[m - 1]! := by
            intro e
            rw [Lib.keeps_neg (by omega) e] at hk; cases hk
          rcases Nat.lt_or_ge i (m - 1) with h5 | h5
          · rcases hs i (m - 1) h5 (by omega) with h6 | h6
            · exact h4 (by rw [← h3, h6])
            · rcases hs (m - 1) m (by omega) (by omega) with h7 | h7
              · exact h4 h7.symm
              · rw [h3] at h6; exact Ordered.irrefl _ (Ordered.trans _ _ _ h6 h7)
          · have : i = m - 1 := by omega
            subst this; exact h4 h3.symm
        · exact h3
      · rw [List.mem_append, h2]
        simp only [List.mem_singleton]
        constructor
        · rintro (⟨i, hi, rfl⟩ | rfl)
          · exact ⟨i, by omega, rfl⟩
          · exact ⟨m, by omega, rfl⟩
        · rintro ⟨i, hi, rfl⟩
          rcases Nat.lt_succ_iff_lt_or_eq.1 hi with h | rfl
          · exact .inl ⟨i, h, rfl⟩
          · exact .inr rfl
    | false =>
      rw [if_neg (by simp), List.append_nil]
      refine ⟨h1, fun y => ?_⟩
      rw [h2]
      have hm0 : 0 < m := by
        rcases Nat.eq_zero_or_pos m with h | h
        · subst h; rw [Lib.keeps_lt_one d 0 (by omega)] at hk; cases hk
        · exact h
      have h4 : d[m]! = d[m - 1]! := Decidable.byContradiction fun h => by rw [Lib.keeps_pos h] at hk; cases hk
      constructor
      · rintro ⟨i, hi, rfl⟩; exact ⟨i, by omega, rfl⟩
      · rintro ⟨i, hi, rfl⟩
        rcases Nat.lt_succ_iff_lt_or_eq.1 hi with h | rfl
        · exact ⟨i, h, rfl⟩
        · exact ⟨i - 1, by omega, h4⟩
theorem compact_put {α : Type} [LT α] [DecidableLT α] [Inhabited α] [DecidableEq α] [Ordered α] (xs zs : List α) (hp : zs.Perm xs) (hs : zs.Pairwise fun a b => a = b ∨ a < b) : Lib.compact zs = putAll xs := by
  have h1 := foldPut xs [] (List.Pairwise.nil)
  have h2 := compact_facts zs.toArray (fun i j hij hj => by
    have hj' : j < zs.length := by simpa using hj
    have := List.pairwise_iff_getElem.1 hs i j (by omega) hj' hij
    simpa [getElem!_pos, hj', show i < zs.length by omega] using this) zs.length (by simp)
  refine asc_ext _ _ h2.1 h1.1 (fun y => ?_)
  unfold putAll Lib.compact
  rw [h2.2 y, h1.2 y]
  simp only [List.not_mem_nil, false_or]
  rw [← hp.mem_iff, List.mem_iff_getElem]
  constructor
  · rintro ⟨i, hi, rfl⟩; exact ⟨i, hi, by simp [hi]⟩
  · rintro ⟨i, hi, rfl⟩; exact ⟨i, hi, by simp [hi]⟩
end Go.Proofs.YtejgpghcahinhaaGreat
namespace Go.Proofs.YtejgpghcahinhaaGreat
open Go.RowKit
set_option linter.unusedVariables false
theorem news_one {w : World} {v : Value} {e : TypeId} {g : Nat} (hg : g = w.heap.size) : ∀ j u, [v][j]? = some u → (w.alloc (.cells #[v] e)).cell? ((⟨g, 0, none⟩ : Addr).add j) = some u := by
  subst hg; exact cell_one_new _ _ _
theorem strs_snoc {xs : List Dr} {k : Nat} {x : Dr} (h : xs[k]? = some x) : strs ((xs.take (k + 1)).map Dr.name) = strs ((xs.take k).map Dr.name) ++ [.string x.name] := by
  rw [take_snoc h]; simp
set_option maxRecDepth 100000 in
set_option maxHeartbeats 1000000 in
theorem implDirNames (va : Value) (xs : List Dr) (w : World) (ha : RdDs w va xs) (hx : xs.length ≤ 4000000) :
    Calls Tryz.prog 118 #[va] w fun e w' => ∃ v, e = .returned v ∧ w'.ownsRow w.heap.size 9 1 v (xs.map Dr.name).length (strs (xs.map Dr.name)) ∧ Grew w w' := by
  obtain ⟨qs, ⟨a, ca, rfl, hca, hra⟩, hall⟩ := ha
  have HA := Lib.hid hall
  clear hall
  generalize hn : xs.length = n at hx hra
  have HX := Lib.hid hn
  clear hn
  obtain ⟨i0, hi, hz0, hz1, hz2⟩ := info_parts Tryz.infoString
  go_enter Tryz.func118, Tryz.ntmps118
  go_wp2
  go_loopw [3, 9] (fun v i wr => ∃ k : Nat, k ≤ n ∧ i = .int .i64 k ∧ Hid (wr.ownsRow w.heap.size 9 1 v k (strs ((xs.take k).map Dr.name))) ∧ Grew w wr) (fun _ i _ => n - (intOf i).toNat)
  case atStart => exact ⟨0, Nat.zero_le _, rfl, Lib.hid (lit_own w 9 1), (Grew.refl _).alloc _⟩
  case round =>
    obtain ⟨k, hk, rfl, hown, hbel⟩ := hrel
    by_cases hlt : k < n
    · obtain ⟨b1, o1, p, rfl, hpk, c0, c1⟩ := (hra.grew hbel).getP2 hlt
      obtain ⟨x, hxk, hxr⟩ := HA.out.get hpk.out
      obtain ⟨pn, pq⟩ := p
      obtain ⟨hxn, hxq⟩ := hxr
      simp only at hxn hxq c0 c1
      have HN := Lib.hid hxn
      obtain ⟨pa, pc, rfl, hpc, hpr⟩ := hxq
      clear hxn hpr
      go_wp2_with (at_builtin; refine wpList_append_own _ rfl _ _ 44 rfl w.heap.size 9 i0 (.string ⟨#[]⟩) 1 16 Tryz.underlying44 hi hz0 hz1 hz2 rfl (by decide) _ _ _ rfl ((hown.out.alloc _).alloc _) ⟨_, 0, none⟩ 1 1 [.string pn] rfl rfl (news_one (by simp)) (fun x hx => by simp at hx; subst hx; rfl) (by unfold maxLen; omega) (by omega) (by have := hbel.size; simp; omega) ?_; intro v' w' hown' hgr _)
      go_roundw
      case rel =>
        refine ⟨k + 1, by omega, by go_num, Lib.hid ?_, ((hbel.alloc _).alloc _).grown hgr (fun g h => (hown.out.lt g h).1)⟩
        rw [strs_snoc hxk.out, ← HN.out]; exact hown'
      case measure => simp [intOf]; omega
    · obtain rfl : k = n := by omega
      go_wp2
      go_ret
      refine ⟨_, rfl, ?_, hbel⟩
      have := hown.out
      rw [take_all HX.out] at this
      rw [List.length_map, HX.out]; exact this
end Go.Proofs.YtejgpghcahinhaaGreat
namespace Go.Proofs.YtejgpghcahinhaaGreat
open Go.RowKit Go.Sort
set_option linter.unusedVariables false
abbrev dl (b : ByteArray) : List UInt8 := b.data.toList
abbrev mkb (l : List UInt8) : ByteArray := ⟨l.toArray⟩
instance : Ordered (List UInt8) where
  irrefl := fun a => List.lt_irrefl a
  trans := fun _ _ _ h k => List.lt_trans h k
  tri := fun a b => by
    rcases Decidable.em (a < b) with h | h
    · exact .inl h
    · rcases Decidable.em (a = b) with e | e
      · exact .inr (.inl e)
      · rcases List.le_iff_lt_or_eq.1 (List.not_lt.1 h) with h1 | h1
        · exact .inr (.inr h1)
        · exact absurd h1.symm e
def so (xs : List ByteArray) : List ByteArray := (putAll (xs.map dl)).map mkb
theorem mkb_dl (b : ByteArray) : mkb (dl b) = b := rfl
theorem strs_enc (xs : List ByteArray) : strs xs = (xs.map dl).map encStr := by simp [encStr, strs]
theorem enc_strs (ls : List (List UInt8)) : ls.map encStr = strs (ls.map mkb) := by simp [encStr, strs]
theorem sort_put (bs : List (List UInt8)) : Lib.compact (bs.mergeSort fun x y => decide (x ≤ y)) = putAll bs := by
  refine compact_put _ _ (List.mergeSort_perm _ _) ?_
  have h := List.pairwise_mergeSort (le := fun (x y : List UInt8) => decide (x ≤ y)) (fun a b c h1 h2 => by simp at *; exact List.le_trans h1 h2) (fun a b => by simp; exact List.le_total a b) bs
  refine h.imp fun {a b} hab => ?_
  have h1 : a ≤ b := by simpa using hab
  rcases List.le_iff_lt_or_eq.1 h1 with h | h
  · exact .inr h
  · exact .inl h
set_option maxRecDepth 100000 in
set_option maxHeartbeats 1000000 in
theorem slCloneStr (va : Value) (n : Nat) (xs : List ByteArray) (w : World) (ha : Rd w va 1 n (strs xs)) (hx : n ≤ 4000000) :
    Calls Tryz.prog 217 #[va] w fun e w' => ∃ v, e = .returned v ∧ w'.ownsRow w.heap.size 9 1 v n (strs xs) ∧ Grew w w' := by
  obtain ⟨a, ca, rfl, hca, hra⟩ := ha
  have HX := Lib.hid hra.len_map
  have hen : ∀ a w, (binOp .eql 44 (.slice a n ca) (.slice none 0 0)).run Tryz.prog w = .ok (.bool a.isNone) w := fun a w => Lib.run_eql_slice_nil w 44 9 a n ca 0 0 Tryz.underlying44
  cases a with
  | none =>
    have hn : n = 0 := by rcases Nat.eq_zero_or_pos n with h | h; exact h; obtain ⟨b, o, h2, _⟩ := hra.2 h; cases h2
    subst hn
    have e1 := hen none
    go_enter Tryz.func217, Tryz.ntmps217
    go_wp2
    go_ret
    obtain rfl : xs = [] := List.length_eq_zero_iff.1 HX.out
    exact ⟨_, rfl, World.ownsRow_nil _ _ _ _, Grew.refl _⟩
  | some a =>
    have e1 := hen (some a)
    obtain ⟨i0, hi, hz0, hz1, hz2⟩ := info_parts Tryz.infoString
    have HN := Lib.hid (rd_news hra ((Grew.refl w).alloc (.cells #[] 9)))
    have HL := Lib.hid (lit_own w 9 1)
    have HC := Lib.hid hra.1
    clear hra hen
    go_enter Tryz.func217, Tryz.ntmps217
    go_wp2_with (at_builtin; refine wpList_append_own _ rfl _ _ 44 rfl w.heap.size 9 i0 (.string ⟨#[]⟩) 1 16 Tryz.underlying44 hi hz0 hz1 hz2 rfl (by decide) _ 0 [] rfl HL.out a n ca (strs xs) rfl ?c1 ?c2 ?c3 ?c4 ?c5 ?c6 ?_)
    case c1 => exact HC.out
    case c2 => exact HN.out
    case c3 => intro u hu; simp at hu; obtain ⟨x, _, rfl⟩ := hu; rfl
    case c4 => unfold maxLen; omega
    case c5 => omega
    case c6 => simp
    intro v' w' hown' hgrow _
    go_wp2
    go_ret
    refine ⟨_, rfl, by simpa using hown', ((Grew.refl w).alloc _).grown hgrow (fun k h => ?_)⟩
    cases h; exact Nat.le_refl _
set_option maxRecDepth 100000 in
set_option maxHeartbeats 1000000 in
theorem sortedOnce (va : Value) (n : Nat) (xs : List ByteArray) (w : World) (ha : Rd w va 1 n (strs xs)) (hx : n ≤ 4000000) :
    Calls Tryz.prog 215 #[va] w fun e w' => ∃ v, e = .returned v ∧ w'.ownsRow w.heap.size 9 1 v (so xs).length (strs (so xs)) ∧ Grew w w' := by
  have HA := Lib.hid ha
  have HX := Lib.hid (Rd.len1 ha)
  obtain ⟨a, ca, rfl, hca, hra⟩ := ha
  clear hra
  go_enter Tryz.func215, Tryz.ntmps215
  go_wp2_with fail
  refine (slCloneStr _ n xs _ HA.out hx).mono ?_
  rintro e w1 ⟨v, rfl, hown, hb⟩
  have hown0 := Lib.hid hown
  rcases hown.2 with ⟨rfl, rfl⟩ | ⟨g, cap, cur, rfl, hbase, hcell, h1, h2, h3, h4⟩
  · clear hown
    have hxs : xs = [] := List.length_eq_zero_iff.1 HX.out
    subst hxs
    go_wp2_with fail
    refine (Tryz.slices_Sort_string_none _ _ _).mono ?_
    rintro e w2 ⟨rfl, rfl⟩
    go_wp2_with fail
    refine (Tryz.slices_Compact_string_empty _ _ _).mono ?_
    rintro e w3 ⟨rfl, rfl⟩
    go_wp2
    go_ret
    exact ⟨_, rfl, World.ownsRow_nil _ _ _ _, hb⟩
  · clear hown
    have hlen : (xs.map dl).length = n := by rw [List.length_map]; exact HX.out
    have hH := holds_of_block (ss := xs.map dl) hcell (by rw [hlen, ← strs_enc]; simpa using h4)
    have hgs : g < w1.heap.size := (Array.getElem?_eq_some_iff.1 hcell).1
    have HS := Lib.hid (Tryz.slices_Sort_string g 0 cap (xs.map dl) w1 hH hgs (by omega))
    obtain ⟨ts, hts⟩ : ∃ ts, (xs.map dl).mergeSort (fun x y => decide (x ≤ y)) = ts := ⟨_, rfl⟩
    have htl : ts.length = n := by rw [← hts, List.length_mergeSort, hlen]
    have HT := Lib.hid hts
    have hs0 := HS.out
    rw [hts, hlen] at hs0
    replace HS := Lib.hid hs0
    clear hs0 hts hH h4
    go_wp2_with fail
    refine (HS.out).mono ?_
    rintro e w2 ⟨rfl, k2, os, hw2⟩
    have hO2 := ownsRow_sorted (n := k2) (os := os) (ss := ts) (ts := ts) (e := 9) rfl hbase hcell (by omega) h2 h3
    have hG2 : w1.grownBy w2 (some g) := by rw [hw2]; exact grownBy_sorted _
    rw [← hw2, htl] at hO2
    have HO2 := Lib.hid hO2
    have HG2 := Lib.hid hG2
    clear hw2 hcell h1 h2 h3 hO2 hG2
    obtain ⟨_, ⟨hc, _⟩ | ⟨g', cap', cur2, hc, hbase2, hcell2, h1, h2, h3, h4⟩⟩ := HO2.out
    · cases hc
    cases hc
    have hH2 := holds_of_block (ss := ts) hcell2 (by rw [htl]; simpa using h4)
    have HC := Lib.hid (Tryz.slices_Compact_string g 0 cap ts w2 hH2 (by omega) (by omega))
    have hc0 := HC.out
    rw [htl] at hc0
    replace HC := Lib.hid hc0
    have hcle : (Lib.compact ts).length ≤ n := by rw [← htl]; exact Lib.compact_length_le ts
    clear hc0 hH2 h4
    go_wp2_with fail
    refine (HC.out).mono ?_
    rintro e w3 ⟨rfl, q, hw3⟩
    have hO3 := ownsRow_sorted (n := q) (os := #[]) (ss := ts) (ts := Lib.compact ts ++ List.replicate (n - (Lib.compact ts).length) []) (e := 9) (by simp; omega) hbase2 hcell2 (by omega) h2 h3
    have hG3 : w2.grownBy w3 (some g) := by
      have := grownBy_sorted (w := w2) (g := g) (n := q) (os := #[]) (Lib.compact ts ++ List.replicate (n - (Lib.compact ts).length) []).toArray
      rw [hw3]; simpa [htl] using this
    have hO4 : w3.ownsRow w.heap.size 9 1 (.slice (some ⟨g, 0, none⟩) n cap) n ((Lib.compact ts ++ List.replicate (n - (Lib.compact ts).length) []).map encStr) := by
      rw [hw3]; simpa [htl] using hO3
    have HO4 := Lib.hid hO4
    have HG3 := Lib.hid hG3
    clear hw3 hcell2 hO3 hO4 hG3
    go_wp2
    go_ret
    have hso : so xs = (Lib.compact ts).map mkb := by unfold so; rw [← sort_put, HT.out]
    refine ⟨_, rfl, ?_, (hb.grown HG2.out (fun k h => by cases h; exact hbase)).grown HG3.out (fun k h => by cases h; exact hbase)⟩
    rw [hso, List.length_map, ← enc_strs]
    exact own_cut' HO4.out hcle (by rw [List.map_append]; exact List.take_left' (by simp))
end Go.Proofs.YtejgpghcahinhaaGreat
namespace Go.Proofs.YtejgpghcahinhaaGreat
open Go.RowKit Go.Sort
set_option linter.unusedVariables false
def putB (xs : List ByteArray) (s : ByteArray) : List ByteArray := (putL (xs.map dl) (dl s)).map mkb
theorem putL_at {α : Type} [LT α] [DecidableLT α] [DecidableEq α] : ∀ (xs : List α) (k : Nat) (s : α), (∀ (j : Nat) y, j < k → xs[j]? = some y → y < s) →
    (xs[k]? = none → k ≤ xs.length → putL xs s = xs.take k ++ s :: xs.drop k) ∧ (∀ y, xs[k]? = some y → ¬ y < s → y = s → putL xs s = xs) ∧ (∀ y, xs[k]? = some y → ¬ y < s → ¬ y = s → putL xs s = xs.take k ++ s :: xs.drop k)
  | [], k, s, _ => by
    refine ⟨fun _ hk => ?_, fun y h => by simp at h, fun y h => by simp at h⟩
    have : k = 0 := by simpa using hk
    subst this; simp [putL]
  | x :: xs, 0, s, _ => by
    refine ⟨fun h => by simp at h, fun y h h1 h2 => ?_, fun y h h1 h2 => ?_⟩
    · simp at h; subst h; subst h2
      unfold putL; rw [if_neg h1, if_pos rfl]
    · simp at h; subst h
      unfold putL; rw [if_neg h1, if_neg h2]; simp
  | x :: xs, k + 1, s, h => by
    have h0 : x < s := h 0 x (Nat.succ_pos k) rfl
    have ih := putL_at xs k s (fun j y hj hy => h (j + 1) y (Nat.succ_lt_succ hj) (by simpa using hy))
    have e : putL (x :: xs) s = x :: putL xs s := by
      conv => lhs; unfold putL
      rw [if_pos h0]
    rw [e]
    refine ⟨fun h1 h2 => ?_, fun y h1 h2 h3 => ?_, fun y h1 h2 h3 => ?_⟩
    · rw [ih.1 (by simpa using h1) (by simpa using h2)]; simp
    · rw [ih.2.1 y (by simpa using h1) h2 h3]
    · rw [ih.2.2 y (by simpa using h1) h2 h3]; simp
theorem putB_app {xs : List ByteArray} {s : ByteArray} {k : Nat} (h : putL (xs.map dl) (dl s) = (xs.map dl).take k ++ dl s :: (xs.map dl).drop k) : putB xs s = xs.take k ++ [s] ++ xs.drop k := by
  unfold putB; rw [h]; simp [mkb_dl, Function.comp_def]
theorem putB_same {xs : List ByteArray} {s : ByteArray} (h : putL (xs.map dl) (dl s) = xs.map dl) : putB xs s = xs := by
  unfold putB; rw [h]; simp [mkb_dl, Function.comp_def]
theorem less_iff (a b : ByteArray) (v : Bool) : Op.bytesLess a.toList b.toList = v ↔ decide (dl a < dl b) = v := by
  rw [ByteArray.toList_eq, ByteArray.toList_eq, bytesLess_eq]
theorem same_iff (a b : ByteArray) (v : Bool) : (a.toList == b.toList) = v ↔ decide (dl a = dl b) = v := by
  rw [ByteArray.toList_eq, ByteArray.toList_eq]
  rw [Bool.beq_eq_decide_eq]
def RdS (w : World) (v : Value) (xs : List ByteArray) : Prop := ∃ ad c, v = .slice (some ad) xs.length c ∧ xs.length ≤ c ∧ RdA w (some ad) 1 xs.length (strs xs)
theorem RdS.grew {w w' : World} {v : Value} {xs : List ByteArray} (h : RdS w v xs) (hg : Grew w w') : RdS w' v xs := by
  obtain ⟨ad, c, rfl, h1, h2⟩ := h
  exact ⟨ad, c, rfl, h1, h2.grew hg⟩
theorem rds_of_own {w : World} {base : Nat} {e : TypeId} {n : Nat} {v : Value} {xs : List ByteArray} (h : w.ownsRow base e 1 v n (strs xs)) (hn : v ≠ .slice none 0 0) : RdS w v xs := by
  have hl : xs.length = n := by have := h.1; simpa using this
  have h1 := rd_of_own h
  obtain ⟨_, ⟨rfl, _⟩ | ⟨g, cap, cur, rfl, _⟩⟩ := h
  · exact absurd rfl hn
  · obtain ⟨a, c, hv, hc, hr⟩ := h1
    cases hv
    subst hl
    exact ⟨_, _, rfl, hc, hr⟩
theorem rds_of_own2 {w : World} {base : Nat} {e : TypeId} {n : Nat} {v : Value} {xs : List ByteArray} {cs : List Value} (h : w.ownsRow base e 1 v n cs) (hc : cs = strs xs) (hn : v ≠ .slice none 0 0) : RdS w v xs := by
  subst hc; exact rds_of_own h hn
theorem cells_drop {w : World} {ad : Addr} {n : Nat} {xs : List ByteArray} (h : RdA w (some ad) 1 n (strs xs)) (k : Nat) {w' : World} (hg : Grew w w') : ∀ j u, (strs (xs.drop k))[j]? = some u → w'.cell? ((ad.add k).add j) = some u := by
  intro j u hu
  have hl := (List.getElem?_eq_some_iff.1 hu).1
  simp [strs] at hl
  have hn : xs.length = n := h.len_map
  obtain ⟨b, o, e, hc⟩ := h.2 (by omega)
  obtain rfl := Option.some.inj e
  have h1 := hc (k + j) (by omega)
  have h2 : (strs xs)[k + j]? = some u := by rw [← hu]; simp [strs]
  rw [h2] at h1
  have h3 := grew_cell hg h1
  have e2 : ((⟨b, o, none⟩ : Addr).add k).add j = ⟨b, o + (k + j), none⟩ := by
    by_cases hk : k = 0 <;> by_cases hj : j = 0 <;> simp [Addr.add, hk, hj] <;> omega
  rw [e2]; exact h3
theorem cells_drop2 {w : World} {b o : Nat} {n : Nat} {xs : List ByteArray} (h : RdA w (some ⟨b, o, none⟩) 1 n (strs xs)) (k : Nat) {w' : World} (hg : Grew w w') : ∀ j u, (strs (xs.drop k))[j]? = some u → w'.cell? ((⟨b, o + k, none⟩ : Addr).add j) = some u := by
  intro j u hu
  have h1 := cells_drop h k hg j u hu
  rw [← h1]
  congr 1
  by_cases hk : k = 0 <;> by_cases hj : j = 0 <;> simp [Addr.add, hk, hj]
theorem cells_take {w : World} {ad : Addr} {n : Nat} {xs : List ByteArray} (h : RdA w (some ad) 1 n (strs xs)) (k : Nat) {w' : World} (hg : Grew w w') : ∀ j u, (strs (xs.take k))[j]? = some u → w'.cell? (ad.add j) = some u := by
  intro j u hu
  refine rd_news h hg j u ?_
  have hl := (List.getElem?_eq_some_iff.1 hu).1
  simp [strs] at hl
  rw [← hu]
  simp [strs, hl]
theorem one_strs (xs : List ByteArray) : ∀ u ∈ strs xs, u.oneCell' = true := by
  intro u hu; simp at hu; obtain ⟨x, _, rfl⟩ := hu; rfl
set_option maxRecDepth 100000 in
set_option maxHeartbeats 1000000 in
theorem l04Put (va : Value) (xs : List ByteArray) (s : ByteArray) (w : World) (ha : RdS w va xs) (hx : xs.length ≤ 4000000) :
    Calls Tryz.prog 173 #[va, .string s] w fun e w' => ∃ v, e = .returned v ∧ RdS w' v (putB xs s) ∧ Grew w w' := by
  have HA := Lib.hid ha
  obtain ⟨ad, c, rfl, hc, hr⟩ := ha
  have HR := Lib.hid hr
  generalize hn : xs.length = n at hc hr hx
  have HN := Lib.hid hn
  clear hn
  obtain ⟨i0, hi, hz0, hz1, hz2⟩ := info_parts Tryz.infoString
  go_enter Tryz.func173, Tryz.ntmps173
  go_wp2
  go_loop [5] (fun i => ∃ k : Nat, k ≤ n ∧ i = .int .i64 k ∧ Hid (∀ (j : Nat) y, j < k → (xs.map dl)[j]? = some y → y < dl s)) (fun i => n - (intOf i).toNat)
  case atStart => exact ⟨0, Nat.zero_le _, rfl, Lib.hid (fun j y h => absurd h (Nat.not_lt_zero j))⟩
  case round =>
    obtain ⟨k, hk, rfl, hall⟩ := hrel
    have HPA := Lib.hid (putL_at (xs.map dl) k (dl s) hall.out)
    by_cases hlt : k < n
    · obtain ⟨b, o, y, hab, hyk, e1⟩ := hr.one hlt
      cases hab
      obtain ⟨v, hv⟩ : ∃ v, Op.bytesLess y.toList s.toList = v := ⟨_, rfl⟩
      obtain ⟨u, hu⟩ : ∃ u, (y.toList == s.toList) = u := ⟨_, rfl⟩
      have HV := Lib.hid ((less_iff y s v).1 hv)
      have HU := Lib.hid ((same_iff y s u).1 hu)
      have HY := Lib.hid (show (xs.map dl)[k]? = some (dl y) by rw [List.getElem?_map, hyk.out]; rfl)
      have hcs : v = true ∨ v = false := by cases v <;> simp
      have hcu : u = true ∨ u = false := by cases u <;> simp
      rcases hcs with rfl | rfl
      · go_wp2
        exact ⟨⟨k + 1, by omega, by go_num, Lib.hid (fun j z hj hz => by
          rcases Nat.lt_succ_iff_lt_or_eq.1 hj with h | rfl
          · exact hall.out j z h hz
          · obtain rfl := Option.some.inj (HY.out.symm.trans hz)
            simpa using HV.out)⟩, by simp [intOf]; omega⟩
      · rcases hcu with rfl | rfl
        · go_wp2
          go_ret
          refine ⟨.slice (some ⟨b, o, none⟩) n c, rfl, ?_, Grew.refl _⟩
          rw [putB_same (HPA.out.2.1 _ HY.out (by simpa using HV.out) (by simpa using HU.out))]
          rw [← HN.out]; exact HA.out
        · have HE := Lib.hid (putB_app (HPA.out.2.2 _ HY.out (by simpa using HV.out) (by simpa using HU.out)))
          have hkn : k ≤ n := hk
          clear HPA HY HV HU hyk
          have g0 := (Grew.refl w).alloc (.cells #[] 9)
          have kc : k ≤ c := by omega
          have htk : (xs.take k).length = k := by rw [List.length_take, HN.out]; omega
          have hdk : (xs.drop k).length = n - k := by rw [List.length_drop, HN.out]
          go_wp2_with (at_builtin; refine wpList_append_own _ rfl _ _ 44 rfl w.heap.size 9 i0 (.string ⟨#[]⟩) 1 16 Tryz.underlying44 hi hz0 hz1 hz2 rfl (by decide) _ 0 [] rfl (lit_own w 9 1) _ k _ (strs (xs.take k)) rfl (by rw [List.length_map, htk, Nat.mul_one]) (cells_take HR.out k g0) (one_strs _) (by unfold maxLen; omega) (by omega) (by simp) ?_)
          intro v1 w1 hown1 hgr1 _
          have g1 : Grew w w1 := g0.grown hgr1 (fun j h => by cases h; exact Nat.le_refl _)
          have HO1 := Lib.hid (show w1.ownsRow w.heap.size 9 1 v1 k (strs (xs.take k)) by simpa using hown1)
          obtain ⟨a1, c1, rfl⟩ := own_slice (HO1.out)
          clear hown1 hgr1
          go_wp2_with (at_builtin; refine wpList_append_own _ rfl _ _ 44 rfl w.heap.size 9 i0 (.string ⟨#[]⟩) 1 16 Tryz.underlying44 hi hz0 hz1 hz2 rfl (by decide) _ _ _ rfl (HO1.out.alloc _) ⟨_, 0, none⟩ 1 1 [.string s] rfl rfl (cell_one_new _ _ _) (fun x hx => by simp at hx; subst hx; rfl) (by unfold maxLen; omega) (by omega) (by have := g1.size; simp; omega) ?_)
          intro v2 w2 hown2 hgr2 hnil2
          have g2 : Grew w w2 := (g1.alloc _).grown hgr2 (fun j h => (HO1.out.lt j h).1)
          have HO2 := Lib.hid hown2
          have hne2 : v2 ≠ .slice none 0 0 := fun h => by first | exact hnil2 h | exact absurd (hnil2.1 h).2 (by omega)
          obtain ⟨a2, c2, rfl⟩ := own_slice (HO2.out)
          clear hown2 hgr2 hnil2
          go_wp2_with (at_builtin; refine wpList_append_own _ rfl _ _ 44 rfl w.heap.size 9 i0 (.string ⟨#[]⟩) 1 16 Tryz.underlying44 hi hz0 hz1 hz2 rfl (by decide) _ _ _ rfl HO2.out _ (n - k) (c - k) (strs (xs.drop k)) rfl (by rw [List.length_map, hdk, Nat.mul_one]) (cells_drop2 HR.out k g2) (one_strs _) (by unfold maxLen; omega) (by omega) (by have := g2.size; omega) ?_)
          intro v3 w3 hown3 hgr3 hnil3
          have g3 : Grew w w3 := g2.grown hgr3 (fun j h => (HO2.out.lt j h).1)
          have hne3 : v3 ≠ .slice none 0 0 := fun h => by first | exact hnil3 h | exact hne2 (hnil3.1 h).1
          have HO3 := Lib.hid hown3
          obtain ⟨a3, c3, rfl⟩ := own_slice (HO3.out)
          clear hown3 hgr3 hnil3
          go_wp2
          go_ret
          refine ⟨_, rfl, ?_, g3⟩
          exact rds_of_own2 HO3.out (by rw [HE.out]; simp [strs]) hne3
    · obtain rfl : k = n := by omega
      have hkn : k ≤ k := Nat.le_refl k
      have HE := Lib.hid (putB_app (HPA.out.1 (by rw [List.getElem?_eq_none]; simp [HN.out]) (by simp [HN.out])))
      clear HPA
      by_cases hck : c = k
      · have hck2 := hck.symm
        subst hck2
        have g0 := (Grew.refl w).alloc (.cells #[] 9)
        have kc : k ≤ k := by omega
        have htk : (xs.take k).length = k := by rw [List.length_take, HN.out]; omega
        have hdk : (xs.drop k).length = k - k := by rw [List.length_drop, HN.out]
        go_wp2_with (at_builtin; refine wpList_append_own _ rfl _ _ 44 rfl w.heap.size 9 i0 (.string ⟨#[]⟩) 1 16 Tryz.underlying44 hi hz0 hz1 hz2 rfl (by decide) _ 0 [] rfl (lit_own w 9 1) _ k _ (strs (xs.take k)) rfl (by rw [List.length_map, htk, Nat.mul_one]) (cells_take HR.out k g0) (one_strs _) (by unfold maxLen; omega) (by omega) (by simp) ?_)
        intro v1 w1 hown1 hgr1 _
        have g1 : Grew w w1 := g0.grown hgr1 (fun j h => by cases h; exact Nat.le_refl _)
        have HO1 := Lib.hid (show w1.ownsRow w.heap.size 9 1 v1 k (strs (xs.take k)) by simpa using hown1)
        obtain ⟨a1, c1, rfl⟩ := own_slice (HO1.out)
        clear hown1 hgr1
        go_wp2_with (at_builtin; refine wpList_append_own _ rfl _ _ 44 rfl w.heap.size 9 i0 (.string ⟨#[]⟩) 1 16 Tryz.underlying44 hi hz0 hz1 hz2 rfl (by decide) _ _ _ rfl (HO1.out.alloc _) ⟨_, 0, none⟩ 1 1 [.string s] rfl rfl (cell_one_new _ _ _) (fun x hx => by simp at hx; subst hx; rfl) (by unfold maxLen; omega) (by omega) (by have := g1.size; simp; omega) ?_)
        intro v2 w2 hown2 hgr2 hnil2
        have g2 : Grew w w2 := (g1.alloc _).grown hgr2 (fun j h => (HO1.out.lt j h).1)
        have HO2 := Lib.hid hown2
        have hne2 : v2 ≠ .slice none 0 0 := fun h => by first | exact hnil2 h | exact absurd (hnil2.1 h).2 (by omega)
        obtain ⟨a2, c2, rfl⟩ := own_slice (HO2.out)
        clear hown2 hgr2 hnil2
        go_wp2_with (at_builtin; refine wpList_append_own _ rfl _ _ 44 rfl w.heap.size 9 i0 (.string ⟨#[]⟩) 1 16 Tryz.underlying44 hi hz0 hz1 hz2 rfl (by decide) _ _ _ rfl HO2.out _ _ _ [] rfl (by simp) (fun j u hu => by simp at hu) (fun u hu => by simp at hu) (by unfold maxLen; omega) (by omega) (by have := g2.size; omega) ?_)
        intro v3 w3 hown3 hgr3 hnil3
        have g3 : Grew w w3 := g2.grown hgr3 (fun j h => (HO2.out.lt j h).1)
        have hne3 : v3 ≠ .slice none 0 0 := fun h => by first | exact hnil3 h | exact hne2 (hnil3.1 h).1
        have HO3 := Lib.hid hown3
        obtain ⟨a3, c3, rfl⟩ := own_slice (HO3.out)
        clear hown3 hgr3 hnil3
        go_wp2
        go_ret
        refine ⟨_, rfl, ?_, g3⟩
        exact rds_of_own2 HO3.out (by rw [HE.out, List.drop_eq_nil_of_le (by rw [HN.out]; omega)]; simp [strs]) hne3
      · have hck2 : k < c := by omega
        have g0 := (Grew.refl w).alloc (.cells #[] 9)
        have kc : k ≤ c := by omega
        have htk : (xs.take k).length = k := by rw [List.length_take, HN.out]; omega
        have hdk : (xs.drop k).length = k - k := by rw [List.length_drop, HN.out]
        go_wp2_with (at_builtin; refine wpList_append_own _ rfl _ _ 44 rfl w.heap.size 9 i0 (.string ⟨#[]⟩) 1 16 Tryz.underlying44 hi hz0 hz1 hz2 rfl (by decide) _ 0 [] rfl (lit_own w 9 1) _ k _ (strs (xs.take k)) rfl (by rw [List.length_map, htk, Nat.mul_one]) (cells_take HR.out k g0) (one_strs _) (by unfold maxLen; omega) (by omega) (by simp) ?_)
        intro v1 w1 hown1 hgr1 _
        have g1 : Grew w w1 := g0.grown hgr1 (fun j h => by cases h; exact Nat.le_refl _)
        have HO1 := Lib.hid (show w1.ownsRow w.heap.size 9 1 v1 k (strs (xs.take k)) by simpa using hown1)
        obtain ⟨a1, c1, rfl⟩ := own_slice (HO1.out)
        clear hown1 hgr1
        go_wp2_with (at_builtin; refine wpList_append_own _ rfl _ _ 44 rfl w.heap.size 9 i0 (.string ⟨#[]⟩) 1 16 Tryz.underlying44 hi hz0 hz1 hz2 rfl (by decide) _ _ _ rfl (HO1.out.alloc _) ⟨_, 0, none⟩ 1 1 [.string s] rfl rfl (cell_one_new _ _ _) (fun x hx => by simp at hx; subst hx; rfl) (by unfold maxLen; omega) (by omega) (by have := g1.size; simp; omega) ?_)
        intro v2 w2 hown2 hgr2 hnil2
        have g2 : Grew w w2 := (g1.alloc _).grown hgr2 (fun j h => (HO1.out.lt j h).1)
        have HO2 := Lib.hid hown2
        have hne2 : v2 ≠ .slice none 0 0 := fun h => by first | exact hnil2 h | exact absurd (hnil2.1 h).2 (by omega)
        obtain ⟨a2, c2, rfl⟩ := own_slice (HO2.out)
        clear hown2 hgr2 hnil2
        go_wp2_with (at_builtin; refine wpList_append_own _ rfl _ _ 44 rfl w.heap.size 9 i0 (.string ⟨#[]⟩) 1 16 Tryz.underlying44 hi hz0 hz1 hz2 rfl (by decide) _ _ _ rfl HO2.out _ _ _ [] rfl (by simp) (fun j u hu => by simp at hu) (fun u hu => by simp at hu) (by unfold maxLen; omega) (by omega) (by have := g2.size; omega) ?_)
        intro v3 w3 hown3 hgr3 hnil3
        have g3 : Grew w w3 := g2.grown hgr3 (fun j h => (HO2.out.lt j h).1)
        have hne3 : v3 ≠ .slice none 0 0 := fun h => by first | exact hnil3 h | exact hne2 (hnil3.1 h).1
        have HO3 := Lib.hid hown3
        obtain ⟨a3, c3, rfl⟩ := own_slice (HO3.out)
        clear hown3 hgr3 hnil3
        go_wp2
        go_ret
        refine ⟨_, rfl, ?_, g3⟩
        exact rds_of_own2 HO3.out (by rw [HE.out, List.drop_eq_nil_of_le (by rw [HN.out]; omega)]; simp [strs]) hne3
end Go.Proofs.YtejgpghcahinhaaGreat
namespace Go.Proofs.YtejgpghcahinhaaGreat
open Go.RowKit Go.Sort
set_option linter.unusedVariables false
theorem so_snoc (xs : List ByteArray) (s : ByteArray) : so (xs ++ [s]) = putB (so xs) s := by
  unfold so putB putAll
  rw [List.map_append, List.foldl_append, List.map_map]
  simp [Function.comp_def]
theorem so_len (xs : List ByteArray) : (so xs).length ≤ xs.length := by
  unfold so
  rw [List.length_map, ← sort_put]
  have := Lib.compact_length_le ((xs.map dl).mergeSort fun x y => decide (x ≤ y))
  rw [List.length_mergeSort, List.length_map] at this
  exact this
end Go.Proofs.YtejgpghcahinhaaGreat
namespace Go.Proofs.YtejgpghcahinhaaGreat
open Go.RowKit Go.Sort
set_option linter.unusedVariables false
def qDirsN (xs : List N) : List ByteArray := (xs.filter fun x => inB x.op 8 9).map N.name
def qDirs (xs : List N) : List ByteArray := so (qDirsN xs)
set_option maxRecDepth 100000 in
set_option maxHeartbeats 400000 in
theorem namesDir (x : N) (w : World) :
    Calls Tryz.prog 214 #[x.v] w fun e w' => e = .returned (.bool (inB x.op 8 9)) ∧ Grew w w' := by
  obtain ⟨op, l, r, nm, v⟩ := x
  have hop : op = 8 ∨ op = 9 ∨ (¬ op = 8 ∧ ¬ op = 9) := by omega
  rcases hop with rfl | rfl | ⟨h8, h9⟩
  · go_enter Tryz.func214, Tryz.ntmps214
    go_wp2
    go_ret
    exact ⟨rfl, (Grew.refl _).alloc _⟩
  · go_enter Tryz.func214, Tryz.ntmps214
    go_wp2
    go_ret
    exact ⟨rfl, (Grew.refl _).alloc _⟩
  · have HV := Lib.hid (show inB op 8 9 = false by unfold inB; simp; omega)
    have e8 : (op == 8) = false := by simp [h8]
    have e9 : (op == 9) = false := by simp [h9]
    clear h8 h9
    go_enter Tryz.func214, Tryz.ntmps214
    go_wp2
    go_ret
    exact ⟨ret_bool HV.out.symm, (Grew.refl _).alloc _⟩
end Go.Proofs.YtejgpghcahinhaaGreat
namespace Go.Proofs.YtejgpghcahinhaaGreat
open Go.RowKit
set_option linter.unusedVariables false
end Go.Proofs.YtejgpghcahinhaaGreat
