/- Plain facts on valid queries: the root is not negated and nowhere referred to; every name is a dependency. No program in sight. -/
import Derived.Test.YtejgpghcahinhaaL1
import Derived.Test.YtejgpghcahinhaaY0
namespace Go.Proofs.Ytejgpghcahinhaa
open Go.RowKit
set_option linter.unusedVariables false
theorem qry_len {xs : List N} (h : qryB xs = true) : 1 ≤ xs.length ∧ xs.length ≤ 9 := by
  unfold qryB at h
  simp only [Bool.and_eq_true, inB, decide_eq_true_eq] at h
  omega
theorem nod5' {x : N} {p : Nat} (ho : x.op = 5) (hp : p < 4000000) (h : nodB x p (wrap64 ((p : Int) - 1)) = true) : ∃ j : Nat, x.left = j ∧ j < p := by
  obtain ⟨op, l, r, nm, v⟩ := x
  simp only at ho; subst ho
  exact nod5 hp h
theorem nod67' {x : N} {p : Nat} (ho : x.op = 6 ∨ x.op = 7) (hp : p < 4000000) (h : nodB x p (wrap64 ((p : Int) - 1)) = true) : ∃ j i : Nat, x.left = j ∧ x.right = i ∧ j < p ∧ i < p := by
  obtain ⟨op, l, r, nm, v⟩ := x
  exact nod67 ho hp h
theorem negR_last {xs : List N} (h : qryB xs = true) : ∀ (k : Nat) (bs : List Bool), k ≤ xs.length → bs.length = xs.length → bs[xs.length - 1]? = some false → (negR xs k bs)[xs.length - 1]? = some false
  | 0, bs, _, _, hb => hb
  | k + 1, bs, hk, hl, hb => by
    have hn := qry_len h
    have hx : xs[k]? = some xs[k] := List.getElem?_eq_getElem (by omega)
    rw [negR_step hx]
    refine negR_last h k _ (by omega) (by rw [negS_length]; exact hl) ?_
    have hnod := qry_node h hx
    unfold negS
    split
    · next h5 =>
      obtain ⟨j, hj, hjk⟩ := nod5' h5 (by omega) hnod
      rw [hj, Int.toNat_natCast, List.getElem?_set_ne (by omega)]; exact hb
    · split
      · next h5 h67 =>
        obtain ⟨j, i, hj, hi, hjk, hik⟩ := nod67' h67 (by omega) hnod
        rw [hj, hi, Int.toNat_natCast, Int.toNat_natCast, List.getElem?_set_ne (by omega), List.getElem?_set_ne (by omega)]; exact hb
      · exact hb
theorem negL_yes {xs : List N} (h : qryB xs = true) : (negL xs).length = xs.length ∧ (negL xs)[xs.length - 1]? = some false := by
  have hn := qry_len h
  unfold negL
  rw [if_pos h]
  refine ⟨by rw [negR_length]; simp, negR_last h _ _ (Nat.le_refl _) (by simp) ?_⟩
  rw [List.getElem?_replicate, if_pos (by omega)]
theorem negL_no {xs : List N} (h : qryB xs = false) : negL xs = [] := by
  unfold negL; rw [if_neg (by rw [h]; decide)]
theorem depsL_no {xs : List N} (h : qryB xs = false) (u : Bool) : depsL xs u = [] := by
  have h1 : (depsL xs u).length ≤ (zipN xs).length := Nat.le_trans (so_len _) (depsZ_le _ _)
  rw [zipN_len, negL_no h] at h1
  exact List.length_eq_zero_iff.1 (by simpa using h1)
theorem dep_all {xs : List N} (h : qryB xs = true) {s : ByteArray} (hs : s ∈ qDirs xs) : s ∈ depsL xs false ∨ s ∈ depsL xs true := by
  unfold qDirs at hs
  rw [mem_so] at hs
  unfold qDirsN at hs
  obtain ⟨x, hx, rfl⟩ := List.mem_map.1 hs
  rw [List.mem_filter] at hx
  obtain ⟨i, hi⟩ := List.getElem?_of_mem hx.1
  have hil := (List.getElem?_eq_some_iff.1 hi).1
  have hb : (negL xs)[i]? = some (negL xs)[i]! := by
    rw [List.getElem?_eq_getElem (by rw [(negL_yes h).1]; exact hil), getElem!_pos _ _ (by rw [(negL_yes h).1]; exact hil)]
  have hz := zipN_get hi hb
  have hmem : ∀ u, (negL xs)[i]! = u → x.name ∈ depsL xs u := fun u hu => by
    unfold depsL
    rw [mem_so]
    unfold depsZ
    refine List.mem_map.2 ⟨(x, (negL xs)[i]!), ?_, rfl⟩
    rw [List.mem_filter]
    exact ⟨List.mem_of_getElem? hz, by rw [hu]; simpa using hx.2⟩
  cases hu : (negL xs)[i]!
  · exact .inl (hmem _ hu)
  · exact .inr (hmem _ hu)
theorem ref1_root {xs : List N} (h : qryB xs = true) {i : Nat} {x : N} (hx : xs[i]? = some x) : ref1 x ((xs.length : Int) - 1) = 0 := by
  have hn := qry_len h
  have hil := (List.getElem?_eq_some_iff.1 hx).1
  have hnod := qry_node h hx
  have hl : ∀ l : Int, (∃ j : Nat, l = j ∧ j < i) → (l == (xs.length : Int) - 1) = false := fun l ⟨j, h1, h2⟩ => by simp; omega
  unfold ref1
  by_cases h5 : x.op = 5
  · rw [hl _ (nod5' h5 (by omega) hnod), h5]; simp
  · by_cases h67 : x.op = 6 ∨ x.op = 7
    · obtain ⟨j, k, h1, h2, h3, h4⟩ := nod67' h67 (by omega) hnod
      rw [hl _ ⟨j, h1, h3⟩, hl _ ⟨k, h2, h4⟩]; simp
    · have e5 : (x.op == 5) = false := by simpa using h5
      have e6 : (x.op == 6) = false := by simp; omega
      have e7 : (x.op == 7) = false := by simp; omega
      rw [e5, e6, e7]; simp
theorem refs_zero (a : Int) : ∀ (xs : List N), (∀ x, x ∈ xs → ref1 x a = 0) → refs xs a = 0
  | [], _ => rfl
  | x :: xs, h => by
    have h1 := refs_zero a xs (fun y hy => h y (List.mem_cons_of_mem _ hy))
    unfold refs at h1 ⊢
    rw [List.map_cons, List.sum_cons, h x (List.mem_cons_self ..), h1]; rfl
theorem refs_root {xs : List N} (h : qryB xs = true) : refs xs ((xs.length : Int) - 1) = 0 :=
  refs_zero _ xs fun x hx => by
    obtain ⟨i, hi⟩ := List.getElem?_of_mem hx
    exact ref1_root h hi
theorem refs_one {xs : List N} (h : qryB xs = true) {i : Nat} (hi : i + 1 < xs.length) : refs xs (i : Int) = 1 := by
  have hx : xs[i]? = some xs[i] := List.getElem?_eq_getElem (by omega)
  have h1 := (qry_ex xs).choose_spec
  unfold qryB at h
  simp only [Bool.and_eq_true] at h
  have h2 := h1.1 h.1 i _ hx
  unfold qryAt at h2
  simp only [Bool.and_eq_true, Bool.or_eq_true, decide_eq_true_eq, beq_iff_eq] at h2
  rcases h2.2 with h3 | h3
  · omega
  · exact h3
end Go.Proofs.Ytejgpghcahinhaa
