/- Contracts of DiffIDs, without, IsValidDiff. -/
import Derived.Test.YtejgpghcahinhaaC6
namespace Go.Proofs.Ytejgpghcahinhaa
open Go.RowKit
set_option linter.unusedVariables false
/-- The elements of xs that are not in ys. -/
def wo (xs ys : List Int) : List Int := xs.filter (fun x => !(has ys x))
set_option maxRecDepth 100000 in
set_option maxHeartbeats 1000000 in
theorem cloWithout (x : Int) (g : Nat) (vb : Value) (m : Nat) (ys : List Int) (w : World) (hc : w.cell? ⟨g, 0, none⟩ = some vb) (hb : Rd w vb 1 m (ints ys)) (hy : m ≤ 4000000) :
    Calls Try.prog 208 #[.int .i64 x, .pointer (some ⟨g, 0, none⟩)] w fun e w' => e = .returned (.bool (has ys x)) ∧ w = w' := by
  have HB := Lib.hid hb
  obtain ⟨b, cb, rfl, hcb, hrb⟩ := hb
  clear hrb
  go_enter Try.func208, Try.ntmps208
  go_wp2_with (go_at_call 122; refine (slContainsInt _ m ys x _ HB.out hy).mono ?_; rintro e w' ⟨rfl, rfl⟩)
  go_ret
  exact ⟨rfl, rfl⟩
/-- The place of the first element of xs that ys has, or -1. -/
def fst (xs ys : List Int) (n : Nat) (i : Int) : Prop := (i = -1 ∧ ∀ (j : Nat) y, j < n → xs[j]? = some y → has ys y = false) ∨ (∃ k : Nat, i = k ∧ k < n ∧ (∀ (j : Nat) y, j < k → xs[j]? = some y → has ys y = false) ∧ ∃ y, xs[k]? = some y ∧ has ys y = true)
theorem non_snoc {xs ys : List Int} {k : Nat} {x : Int} (h : ∀ (j : Nat) y, j < k → xs[j]? = some y → has ys y = false) (hx : xs[k]? = some x) (hn : has ys x = false) : ∀ (j : Nat) y, j < k + 1 → xs[j]? = some y → has ys y = false := fun j y hj hy => by
  rcases Nat.lt_succ_iff_lt_or_eq.1 hj with h1 | rfl
  · exact h j y h1 hy
  · obtain rfl := Option.some.inj (hx.symm.trans hy); exact hn
set_option maxRecDepth 100000 in
set_option maxHeartbeats 1000000 in
theorem slIndexFunc (va : Value) (n : Nat) (xs : List Int) (g : Nat) (vb : Value) (m : Nat) (ys : List Int) (w : World) (ha : Rd w va 1 n (ints xs)) (hx : n ≤ 4000000) (hc : w.cell? ⟨g, 0, none⟩ = some vb) (hb : Rd w vb 1 m (ints ys)) (hy : m ≤ 4000000) :
    Calls Try.prog 237 #[va, .func (.func 208) #[] #[.pointer (some ⟨g, 0, none⟩)]] w fun e w' => ∃ i : Int, e = .returned (.int .i64 i) ∧ fst xs ys n i ∧ w = w' := by
  have HB := Lib.hid hb
  have HC := Lib.hid hc
  clear hb hc
  obtain ⟨a, ca, rfl, hca, hra⟩ := ha
  have HX := Lib.hid hra.len_map
  go_enter Try.func237, Try.ntmps237
  go_wp2
  go_loop [5, 8] (fun _ i => ∃ k : Nat, k ≤ n ∧ i = .int .i64 k ∧ Hid (∀ (j : Nat) y, j < k → xs[j]? = some y → has ys y = false)) (fun _ i => n - (intOf i).toNat)
  case atStart => exact ⟨0, Nat.zero_le _, rfl, Lib.hid (fun j y h => absurd h (Nat.not_lt_zero j))⟩
  case round =>
    obtain ⟨k, hk, rfl, hsame⟩ := hrel
    by_cases hlt : k < n
    · obtain ⟨b1, o1, y, rfl, hxk, e1⟩ := hra.one hlt
      obtain ⟨v, hv⟩ : ∃ v, v = has ys y := ⟨_, rfl⟩
      have HV := Lib.hid hv
      clear hv
      have hv : v = false ∨ v = true := by cases v <;> simp
      rcases hv with rfl | rfl
      all_goals
        go_wp2_with (go_at_call 208; refine (cloWithout y g vb m ys _ HC.out HB.out hy).mono ?_; rintro e w1 ⟨he, rfl⟩; rw [← HV.out] at he; subst he)
      · exact ⟨⟨k + 1, by omega, by go_num, Lib.hid (non_snoc hsame.out hxk.out HV.out.symm)⟩, by simp [intOf]; omega⟩
      · go_ret
        exact ⟨_, rfl, .inr ⟨k, rfl, hlt, hsame.out, y, hxk.out, HV.out.symm⟩, rfl⟩
    · go_wp2
      go_ret
      obtain rfl : k = n := by omega
      exact ⟨_, rfl, .inl ⟨rfl, hsame.out⟩, rfl⟩
theorem wo_same {xs ys : List Int} {n : Nat} (h : ∀ (j : Nat) y, j < n → xs[j]? = some y → has ys y = false) : wo (xs.take n) ys = xs.take n := by
  unfold wo
  rw [List.filter_eq_self]
  intro a ha
  obtain ⟨j, hj, rfl⟩ := List.getElem_of_mem ha
  have hj2 : j < n := by rw [List.length_take] at hj; omega
  rw [h j _ hj2 (by rw [List.getElem_take, List.getElem?_eq_getElem])]; rfl
theorem wo_yes {xs ys : List Int} {k : Nat} {x : Int} (hx : xs[k]? = some x) (h : has ys x = true) : wo (xs.take (k + 1)) ys = wo (xs.take k) ys := by
  rw [take_snoc hx]; unfold wo; rw [List.filter_append]; simp [h]
theorem wo_no {xs ys : List Int} {k : Nat} {x : Int} (hx : xs[k]? = some x) (h : has ys x = false) : wo (xs.take (k + 1)) ys = wo (xs.take k) ys ++ [x] := by
  rw [take_snoc hx]; unfold wo; rw [List.filter_append]; simp [h]
theorem drop_at {xs : List Int} {j : Nat} {x : Int} (h : xs[j]? = some x) : xs.drop j = x :: xs.drop (j + 1) := by
  obtain ⟨h1, h2⟩ := List.getElem?_eq_some_iff.1 h
  rw [List.drop_eq_getElem_cons h1, h2]
theorem at_drop {P mid xs : List Int} {j : Nat} (hl : P.length + mid.length = j) : (P ++ mid ++ xs.drop j)[j]? = xs[j]? := by
  rw [List.getElem?_append_right (by rw [List.length_append]; omega), List.length_append, List.getElem?_drop]
  congr 1; omega
theorem set_keep {P mid R : List Int} {x : Int} : ∃ mid2, mid2.length = mid.length ∧ (P ++ mid ++ x :: R).set P.length x = P ++ [x] ++ mid2 ++ R := by
  cases mid with
  | nil => exact ⟨[], rfl, by simp⟩
  | cons y m => exact ⟨m ++ [x], by simp, by simp⟩
theorem own_cells {base g n cap : Nat} {e : TypeId} : ∀ (vs : List Value) (k : Nat) (w : World) (cs : List Value), w.ownsRow base e 1 (.slice (some ⟨g, 0, none⟩) n cap) n cs → ∃ cs', (w.setCells g k vs).ownsRow base e 1 (.slice (some ⟨g, 0, none⟩) n cap) n cs' ∧ cs'.take k = cs.take k
  | [], k, w, cs, h => ⟨cs, h, rfl⟩
  | v :: r, k, w, cs, h => by
    obtain ⟨cs', h1, h2⟩ := own_cells r (k + 1) _ _ (ownsRow_stores h k v)
    refine ⟨cs', h1, ?_⟩
    have h3 := congrArg (List.take k) h2
    rw [List.take_take, List.take_take, Nat.min_eq_left (by omega), List.take_set_of_le (Nat.le_refl k)] at h3
    exact h3
theorem grew_cells {W : World} {g : Nat} (hg : W.heap.size ≤ g) : ∀ (vs : List Value) (k : Nat) (w : World), Grew W w → Grew W (w.setCells g k vs)
  | [], k, w, h => h
  | v :: r, k, w, h => grew_cells hg r (k + 1) _ (h.setCell (p := ⟨g, k, none⟩) hg v)
theorem own_cut' {w : World} {base g n cap k : Nat} {e : TypeId} {cs ps : List Value} (h : w.ownsRow base e 1 (.slice (some ⟨g, 0, none⟩) n cap) n cs) (hk : k ≤ n) (hp : cs.take k = ps) : w.ownsRow base e 1 (.slice (some ⟨g, 0, none⟩) k cap) k ps := by
  obtain ⟨hl, ⟨h1, _⟩ | ⟨g', cap', cur, h1, h2, h3, h4, h5, h6, h7⟩⟩ := h
  · cases h1
  · cases h1
    subst hp
    refine ⟨by rw [List.length_take]; omega, .inr ⟨_, _, cur, rfl, h2, h3, by omega, h5, h6, ?_⟩⟩
    rw [← h7, List.take_take, Nat.mul_one, Nat.mul_one, Nat.min_eq_left hk]
set_option maxRecDepth 100000 in
set_option maxHeartbeats 1000000 in
theorem slDeleteFunc (g2 cap n : Nat) (xs : List Int) (g : Nat) (vb : Value) (m : Nat) (ys : List Int) (W w : World) (base : Nat) (hown : w.ownsRow base 3 1 (.slice (some ⟨g2, 0, none⟩) n cap) n (ints xs)) (hx : n ≤ 4000000) (hW : Grew W w) (hbase : W.heap.size ≤ base)
    (hc : W.cell? ⟨g, 0, none⟩ = some vb) (hb : Rd W vb 1 m (ints ys)) (hy : m ≤ 4000000) :
    Calls Try.prog 207 #[.slice (some ⟨g2, 0, none⟩) n cap, .func (.func 208) #[] #[.pointer (some ⟨g, 0, none⟩)]] w fun e w' => ∃ v, e = .returned v ∧ w'.ownsRow base 3 1 v (wo xs ys).length (ints (wo xs ys)) ∧ Grew W w' := by
  have HB := Lib.hid hb
  have HC := Lib.hid hc
  have HO := Lib.hid hown
  clear hb hc hown
  go_enter Try.func207, Try.ntmps207
  go_wp2_with fail
  refine (slIndexFunc _ n xs g vb m ys _ (rd_of_own HO.out) hx (grew_cell hW HC.out) (HB.out.grew hW) hy).mono ?_
  rintro e w1 ⟨i, rfl, hi, rfl⟩
  have HX := Lib.hid (show xs.length = n by have := HO.out.1; simpa using this)
  rcases hi with ⟨rfl, hn⟩ | ⟨k0, rfl, hlt0, hn, y0, hy0, hyh⟩
  · have HE := Lib.hid (show wo xs ys = xs by have := wo_same hn; rwa [take_all HX.out] at this)
    clear hn
    go_wp2
    go_ret
    refine ⟨_, rfl, ?_, hW⟩
    rw [HE.out, HX.out]; exact HO.out
  · have HE := Lib.hid ((wo_yes hy0 hyh).trans (wo_same hn))
    have HD := Lib.hid (show xs = xs.take k0 ++ [y0] ++ xs.drop (k0 + 1) by rw [← take_snoc hy0, List.take_append_drop])
    clear hn hy0 hyh
    go_wp2
    go_loopw [5, 6] (fun i j wr => ∃ (k q : Nat) (P mid : List Int), k < q ∧ q ≤ n ∧ i = .int .i64 k ∧ j = .int .i64 q ∧ Hid (P = wo (xs.take q) ys) ∧ Hid (P.length = k ∧ P.length + mid.length = q) ∧ Hid (wr.ownsRow base 3 1 (.slice (some ⟨g2, 0, none⟩) n cap) n (ints (P ++ mid ++ xs.drop q))) ∧ Grew W wr) (fun _ j _ => n - (intOf j).toNat)
    case atStart =>
      refine ⟨k0, k0 + 1, xs.take k0, [y0], by omega, by omega, rfl, by go_num, Lib.hid HE.out.symm, Lib.hid ?_, Lib.hid ?_, hW⟩
      · rw [List.length_take, HX.out, Nat.min_eq_left (by omega)]; exact ⟨rfl, rfl⟩
      · rw [← HD.out]; exact HO.out
    case round =>
      obtain ⟨k, q, P, mid, hkq, hq, rfl, rfl, hP, hl, ho, hbel⟩ := hrel
      by_cases hlt : q < n
      · have hxq := HX.out ▸ hlt
        obtain ⟨x, hx0⟩ : ∃ x, xs[q]? = some x := ⟨_, List.getElem?_eq_getElem (by rw [HX.out]; exact hlt)⟩
        have hat := (at_drop (P := P) (mid := mid) (xs := xs) hl.out.2).trans hx0
        obtain ⟨y, hy1, e1⟩ := own_one ho.out hlt
        obtain rfl : x = y := Option.some.inj (hat.symm.trans hy1.out)
        have HX0 := Lib.hid hx0
        clear hx0 hat
        obtain ⟨v, hv⟩ : ∃ v, v = has ys x := ⟨_, rfl⟩
        have HV := Lib.hid hv
        clear hv
        have hv : v = false ∨ v = true := by cases v <;> simp
        have hfz := ho.out.frozenAt k
        obtain ⟨y2, hy2, e2⟩ := own_one ho.out (show k < n by omega)
        have HSO : Hid (∃ mid2 : List Int, mid2.length = mid.length ∧ (wr.setCell ⟨g2, k, none⟩ (.int .i64 x)).ownsRow base 3 1 (.slice (some ⟨g2, 0, none⟩) n cap) n (ints (P ++ [x] ++ mid2 ++ xs.drop (q + 1)))) := by
          obtain ⟨mid2, h1, h2⟩ := set_keep (P := P) (mid := mid) (R := xs.drop (q + 1)) (x := x)
          refine ⟨mid2, h1, ?_⟩
          have h3 := store_one ho.out k x
          rw [drop_at HX0.out] at h3
          obtain ⟨h4, _⟩ := hl.out
          rw [← h2, h4]; exact h3
        have HSN : Hid (wr.ownsRow base 3 1 (.slice (some ⟨g2, 0, none⟩) n cap) n (ints (P ++ (mid ++ [x]) ++ xs.drop (q + 1)))) := by
          have h3 := ho.out
          rw [drop_at HX0.out] at h3
          rw [show P ++ (mid ++ [x]) ++ xs.drop (q + 1) = P ++ mid ++ x :: xs.drop (q + 1) by simp]
          exact h3
        have hg2 : W.heap.size ≤ g2 := Nat.le_trans hbase (by rcases ho.out.2 with ⟨h, _⟩ | ⟨_, _, _, h, h2, _⟩; cases h; cases h; exact h2)
        rcases hv with rfl | rfl
        · go_wp2_with (go_at_call 208; refine (cloWithout x g vb m ys _ (grew_cell (hbel) HC.out) (HB.out.grew (hbel)) hy).mono ?_; rintro e w1 ⟨he, rfl⟩; rw [← HV.out] at he; subst he)
          go_roundw
          case rel =>
            obtain ⟨mid2, hm, hw⟩ := HSO.out
            refine ⟨_, _, _, _, _, _, _, _, _, _, _, _, _, _, _, _, _, _, _, _, _, _, _, ?_, rfl⟩
            exact ⟨k + 1, q + 1, P ++ [x], mid2, by omega, by omega, by go_num, by go_num, Lib.hid (by rw [wo_no HX0.out HV.out.symm, hP.out]), Lib.hid (by have := hl.out; simp only [List.length_append, List.length_singleton]; omega), Lib.hid hw, hbel.setCell hg2 _⟩
          case measure => simp [intOf]; omega
        · go_wp2_with (go_at_call 208; refine (cloWithout x g vb m ys _ (grew_cell (hbel) HC.out) (HB.out.grew (hbel)) hy).mono ?_; rintro e w1 ⟨he, rfl⟩; rw [← HV.out] at he; subst he)
          go_roundw
          case rel =>
            refine ⟨_, _, _, _, _, _, _, _, _, _, _, _, _, _, _, _, _, _, _, _, _, _, _, ?_, rfl⟩
            exact ⟨k, q + 1, P, mid ++ [x], by omega, by omega, rfl, by go_num, Lib.hid (by rw [wo_yes HX0.out HV.out.symm, hP.out]), Lib.hid (by have := hl.out; simp only [List.length_append, List.length_singleton]; omega), HSN, hbel⟩
          case measure => simp [intOf]; omega
      · have hqn : q = n := by omega
        obtain ⟨i0, hi, hz0, hz1, hz2⟩ := info_parts Try.infoInt
        have hcl := Lib.run_clear_slice (P := Try.prog) wr 27 3 0 (.int .i64 0) Try.underlying27 (fun w => by simp [zeroValue, typeInfo, hi, hz0]) rfl rfl g2 k (n - k) (cap - k) (by omega) (fun j hj => by obtain ⟨y, _, h⟩ := own_one ho.out (show k + j < n by omega); rw [h]; rfl) (fun j hj => ho.out.frozenAt (k + j))
        clear hi hz0 hz1 hz2
        subst hqn
        obtain ⟨cs', hcs1, hcs2⟩ := own_cells (List.replicate (q - k) (Value.int .i64 0)) k wr _ ho.out
        have HK := Lib.hid hcs1
        have HT := Lib.hid hcs2
        have hgr := Lib.hid (grew_cells (g := g2) (Nat.le_trans hbase (by rcases ho.out.2 with ⟨h, _⟩ | ⟨_, _, _, h, h2, _⟩; cases h; cases h; exact h2)) (List.replicate (q - k) (Value.int .i64 0)) k wr hbel)
        clear hcs1 hcs2
        have hcap : q ≤ cap := by rcases ho.out.2 with ⟨h, _⟩ | ⟨_, _, _, h, _, _, h2, _⟩; cases h; cases h; exact h2
        have hkc : k ≤ cap := by omega
        go_wp2
        go_ret
        have hPx : P = wo xs ys := by have := hP.out; rwa [take_all HX.out] at this
        refine ⟨_, rfl, ?_, hgr.out⟩
        rw [← hPx, hl.out.1]
        refine own_cut' HK.out (by omega) ?_
        rw [HT.out, ← hl.out.1]
        simp
set_option maxRecDepth 100000 in
set_option maxHeartbeats 1000000 in
theorem slDeleteAny (va : Value) (n : Nat) (xs : List Int) (g : Nat) (vb : Value) (m : Nat) (ys : List Int) (W w : World) (base : Nat) (hown : w.ownsRow base 3 1 va n (ints xs)) (hx : n ≤ 4000000) (hW : Grew W w) (hbase : W.heap.size ≤ base)
    (hc : W.cell? ⟨g, 0, none⟩ = some vb) (hb : Rd W vb 1 m (ints ys)) (hy : m ≤ 4000000) :
    Calls Try.prog 207 #[va, .func (.func 208) #[] #[.pointer (some ⟨g, 0, none⟩)]] w fun e w' => ∃ v, e = .returned v ∧ w'.ownsRow base 3 1 v (wo xs ys).length (ints (wo xs ys)) ∧ Grew W w' := by
  rcases hown.2 with ⟨rfl, rfl⟩ | ⟨g2, cap, cur, rfl, _⟩
  · have hxs : xs = [] := by have := hown.1; simpa using this
    subst hxs
    have HO := Lib.hid hown
    have HB := Lib.hid hb
    have HC := Lib.hid hc
    clear hown hb hc
    go_enter Try.func207, Try.ntmps207
    go_wp2_with fail
    refine (slIndexFunc _ 0 [] g vb m ys _ (rd_of_own HO.out) hx (grew_cell hW HC.out) (HB.out.grew hW) hy).mono ?_
    rintro e w1 ⟨i, rfl, hi, rfl⟩
    rcases hi with ⟨rfl, hn⟩ | ⟨k0, rfl, hlt0, _⟩
    · clear hn
      go_wp2
      go_ret
      exact ⟨_, rfl, World.ownsRow_nil _ _ _ _, hW⟩
    · omega
  · exact slDeleteFunc g2 cap n xs g vb m ys W w base hown hx hW hbase hc hb hy
set_option maxRecDepth 100000 in
set_option maxHeartbeats 1000000 in
theorem implWithout (va vb : Value) (n m : Nat) (xs ys : List Int) (w : World) (ha : Rd w va 1 n (ints xs)) (hb : Rd w vb 1 m (ints ys)) (hx : n ≤ 4000000) (hy : m ≤ 4000000) :
    Calls Try.prog 155 #[va, vb] w fun e w' => ∃ v, e = .returned v ∧ w'.ownsRow w.heap.size 3 1 v (wo xs ys).length (ints (wo xs ys)) ∧ Grew w w' := by
  have HA := Lib.hid ha
  have HB := Lib.hid hb
  obtain ⟨a, ca, rfl, hca, hra⟩ := ha
  obtain ⟨b, cb, rfl, hcb, hrb⟩ := hb
  clear hra hrb
  go_enter Try.func155, Try.ntmps155
  go_wp2_with fail
  refine (slCloneInt _ n xs _ (HA.out.grew ((Grew.refl w).alloc _)) hx).mono ?_
  rintro e w1 ⟨v, rfl, hown, hb⟩
  have HO := Lib.hid hown
  have hv : ∃ a c, v = .slice a n c := by
    rcases hown.2 with ⟨rfl, rfl⟩ | ⟨_, _, _, rfl, _⟩
    · exact ⟨_, _, rfl⟩
    · exact ⟨_, _, rfl⟩
  obtain ⟨va, vc, rfl⟩ := hv
  clear hown
  have hmf : ∀ (fn : Fn) (first cap : Array Value) (w : World), (Instr.makeFunc fn first cap).run Try.prog w = .ok (.func fn first cap) w := fun _ _ _ _ => rfl
  go_wp2_with fail
  refine (slDeleteAny _ n xs w.heap.size (.slice b m cb) m ys (w.alloc (.cells #[.slice b m cb] 27)) w1 _ HO.out hx hb (Nat.le_refl _) (by simp) (HB.out.grew ((Grew.refl w).alloc _)) hy).mono ?_
  rintro e w2 ⟨u, rfl, hown2, hb2⟩
  go_wp2
  go_ret
  exact ⟨_, rfl, ownsRow_base hown2 (by simp), ((Grew.refl w).alloc _).trans hb2⟩
end Go.Proofs.Ytejgpghcahinhaa
