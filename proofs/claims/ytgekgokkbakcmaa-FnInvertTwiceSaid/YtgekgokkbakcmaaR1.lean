/- Contracts of ResultIDs. -/
import Derived.Test.YtgekgokkbakcmaaE2
import Derived.Test.YtgekgokkbakcmaaC6
namespace Go.Proofs.Ytgekgokkbakcmaa
open Go.RowKit
set_option linter.unusedVariables false
/-- The contents of the first result of that name. -/
def resIds : List Rs → ByteArray → List Int
  | [], _ => []
  | x :: xs, s => if x.name.toList == s.toList then x.ids else resIds xs s
theorem resIds_yes : ∀ {xs : List Rs} {s : ByteArray} {k : Nat} {x : Rs}, (∀ (j : Nat) y, j < k → xs[j]? = some y → (y.name.toList == s.toList) = false) → xs[k]? = some x → (x.name.toList == s.toList) = true → resIds xs s = x.ids
  | [], s, k, x, _, h, _ => by simp at h
  | y :: ys, s, 0, x, _, h, h2 => by
    simp at h; subst h; unfold resIds; rw [h2]; rfl
  | y :: ys, s, k + 1, x, h1, h, h2 => by
    have h3 := h1 0 y (Nat.succ_pos k) rfl
    unfold resIds; rw [h3]
    exact resIds_yes (k := k) (fun j z hj hz => h1 (j + 1) z (Nat.succ_lt_succ hj) (by simpa using hz)) (by simpa using h) h2
theorem resIds_no : ∀ {xs : List Rs} {s : ByteArray}, (∀ (j : Nat) y, j < xs.length → xs[j]? = some y → (y.name.toList == s.toList) = false) → resIds xs s = []
  | [], s, _ => rfl
  | y :: ys, s, h1 => by
    have h3 := h1 0 y (by simp) rfl
    unfold resIds; rw [h3]
    exact resIds_no (fun j z hj hz => h1 (j + 1) z (by simpa using hj) (by simpa using hz))
theorem resIds_small : ∀ {xs : List Rs} {s : ByteArray}, (∀ x, x ∈ xs → x.small) → (resIds xs s).length ≤ 4000000
  | [], s, _ => by simp [resIds]
  | y :: ys, s, h => by
    unfold resIds
    cases hn : y.name.toList == s.toList
    · exact resIds_small (fun x hx => h x (List.mem_cons_of_mem _ hx))
    · have := h y (List.mem_cons_self ..); unfold Rs.small at this; exact this
theorem no_snoc {xs : List Rs} {s : ByteArray} {k : Nat} {x : Rs} (h : ∀ (j : Nat) y, j < k → xs[j]? = some y → (y.name.toList == s.toList) = false) (hx : xs[k]? = some x) (hn : (x.name.toList == s.toList) = false) : ∀ (j : Nat) y, j < k + 1 → xs[j]? = some y → (y.name.toList == s.toList) = false := fun j y hj hy => by
  rcases Nat.lt_succ_iff_lt_or_eq.1 hj with h1 | rfl
  · exact h j y h1 hy
  · obtain rfl := Option.some.inj (hx.symm.trans hy); exact hn
set_option maxRecDepth 100000 in
set_option maxHeartbeats 1000000 in
theorem specResultIDs (va : Value) (xs : List Rs) (s : ByteArray) (w : World) (ha : RdRs w va xs) (hx : xs.length ≤ 4000000) (hs : ∀ x, x ∈ xs → x.small) :
    Calls Try.prog 139 #[va, .string s] w fun e w' => ∃ v, e = .returned v ∧ w'.ownsRow w.heap.size 3 1 v (resIds xs s).length (ints (resIds xs s)) ∧ Grew w w' := by
  obtain ⟨qs, ⟨a, ca, rfl, hca, hra⟩, hall⟩ := ha
  have HS := Lib.hid hs
  have HA := Lib.hid hall
  clear hall hs
  generalize hn : xs.length = n at hx hra
  have HX := Lib.hid hn
  clear hn
  go_enter Try.func139, Try.ntmps139
  go_wp2
  go_loopw [5] (fun i wr => ∃ k : Nat, k ≤ n ∧ i = .int .i64 k ∧ Hid (∀ (j : Nat) y, j < k → xs[j]? = some y → (y.name.toList == s.toList) = false) ∧ Grew w wr) (fun i _ => n - (intOf i).toNat)
  case atStart => exact ⟨0, Nat.zero_le _, rfl, Lib.hid (fun j y h => absurd h (Nat.not_lt_zero j)), Grew.refl _⟩
  case round =>
    obtain ⟨k, hk, rfl, hall, hbel⟩ := hrel
    by_cases hlt : k < n
    · obtain ⟨b1, o1, p, rfl, hpk, c0, c1⟩ := (hra.grew hbel).getP2 hlt
      obtain ⟨x, hxk, hxr⟩ := HA.out.get hpk.out
      have hxs := HS.out x (List.mem_of_getElem? hxk.out)
      unfold Rs.small at hxs
      obtain ⟨pn, pq⟩ := p
      obtain ⟨hxn, hxq⟩ := hxr
      simp only at hxn hxq c0 c1
      have HXQ := Lib.hid hxq
      obtain ⟨pa, pc, rfl, hpc, hpr⟩ := hxq
      have hcs : (pn.toList == s.toList) = true ∨ (pn.toList == s.toList) = false := by cases pn.toList == s.toList <;> simp
      have HXN := Lib.hid hxn
      clear hxn
      rcases hcs with hn | hn
      · have e1 := grew_cell ((Grew.refl wr).alloc (.cells #[] 3)) c1
        have HY := Lib.hid (resIds_yes hall.out hxk.out (by rw [← HXN.out]; exact hn))
        have HL := Lib.hid (lit_own wr 3 1)
        have HC := Lib.hid hpr.1
        cases pa with
        | none =>
          have h0 : x.ids.length = 0 := by rcases Nat.eq_zero_or_pos x.ids.length with h | h; exact h; obtain ⟨b, o, h2, _⟩ := hpr.2 h; cases h2
          clear hpr
          rw [h0] at c1 e1
          have H0 := Lib.hid h0
          clear h0
          go_wp2
          go_ret
          refine ⟨_, rfl, ?_, hbel.alloc _⟩
          rw [HY.out, List.length_eq_zero_iff.1 H0.out]
          exact ownsRow_base (lit_own wr 3 1) hbel.size
        | some pa =>
          have HN := Lib.hid (rd_news (hpr.grew hbel) ((Grew.refl wr).alloc (.cells #[] 3)))
          clear hpr
          obtain ⟨i0, hi, hz0, hz1, hz2⟩ := info_parts Try.infoInt
          go_wp2_with (at_builtin; refine wpList_append_own _ rfl _ _ 66 rfl wr.heap.size 3 i0 (.int .i64 0) 1 8 Try.underlying66 hi hz0 hz1 hz2 rfl (by decide) _ 0 [] rfl HL.out pa x.ids.length pc (ints x.ids) rfl ?c1 ?c2 ?c3 ?c4 ?c5 ?c6 ?_)
          case c1 => exact HC.out
          case c2 => exact HN.out
          case c3 => intro u hu; simp at hu; obtain ⟨x, _, rfl⟩ := hu; rfl
          case c4 => unfold maxLen; omega
          case c5 => omega
          case c6 => simp
          intro v' w' hown' hgrow _
          go_wp2
          go_ret
          refine ⟨_, rfl, ?_, (hbel.alloc _).grown hgrow (fun k h => ?_)⟩
          · rw [HY.out]; exact ownsRow_base (by simpa using hown') hbel.size
          · cases h; exact hbel.size
      · go_wp2
        go_roundw
        case rel => exact ⟨k + 1, by omega, by go_num, Lib.hid (no_snoc hall.out hxk.out (by rw [← HXN.out]; exact hn)), hbel⟩
        case measure => simp [intOf]; omega
    · go_wp2
      go_ret
      have hk2 : k = n := by omega
      refine ⟨_, rfl, ?_, hbel.alloc _⟩
      rw [resIds_no (fun j y h h2 => hall.out j y (by rw [hk2, ← HX.out]; exact h) h2)]
      exact ownsRow_base (lit_own wr 3 1) hbel.size
set_option maxRecDepth 100000 in
set_option maxHeartbeats 1000000 in
theorem implResultIDs (va : Value) (xs : List Rs) (s : ByteArray) (w : World) (ha : RdRs w va xs) (hx : xs.length ≤ 4000000) (hs : ∀ x, x ∈ xs → x.small) :
    Calls Try.prog 136 #[va, .string s] w fun e w' => ∃ v, e = .returned v ∧ w'.ownsRow w.heap.size 3 1 v (resIds xs s).length (ints (resIds xs s)) ∧ Grew w w' := by
  obtain ⟨qs, ⟨a, ca, rfl, hca, hra⟩, hall⟩ := ha
  have HS := Lib.hid hs
  have HA := Lib.hid hall
  clear hall hs
  generalize hn : xs.length = n at hx hra
  have HX := Lib.hid hn
  clear hn
  go_enter Try.func136, Try.ntmps136
  go_wp2
  go_loopw [9] (fun i wr => ∃ k : Nat, k ≤ n ∧ i = .int .i64 k ∧ Hid (∀ (j : Nat) y, j < k → xs[j]? = some y → (y.name.toList == s.toList) = false) ∧ Grew w wr) (fun i _ => n - (intOf i).toNat)
  case atStart => exact ⟨0, Nat.zero_le _, rfl, Lib.hid (fun j y h => absurd h (Nat.not_lt_zero j)), Grew.refl _⟩
  case round =>
    obtain ⟨k, hk, rfl, hall, hbel⟩ := hrel
    by_cases hlt : k < n
    · obtain ⟨b1, o1, p, rfl, hpk, c0, c1⟩ := (hra.grew hbel).getP2 hlt
      obtain ⟨x, hxk, hxr⟩ := HA.out.get hpk.out
      have hxs := HS.out x (List.mem_of_getElem? hxk.out)
      unfold Rs.small at hxs
      obtain ⟨pn, pq⟩ := p
      obtain ⟨hxn, hxq⟩ := hxr
      simp only at hxn hxq c0 c1
      have HXQ := Lib.hid hxq
      obtain ⟨pa, pc, rfl, hpc, hpr⟩ := hxq
      have hcs : (pn.toList == s.toList) = true ∨ (pn.toList == s.toList) = false := by cases pn.toList == s.toList <;> simp
      have HXN := Lib.hid hxn
      clear hxn
      rcases hcs with hn | hn
      · have HY := Lib.hid (resIds_yes hall.out hxk.out (by rw [← HXN.out]; exact hn))
        clear hpr
        go_wp2_with (go_at_call 59; refine (slCloneInt _ _ x.ids _ (HXQ.out.grew (hbel.alloc _)) hxs).mono ?_; rintro e w1 ⟨v, rfl, hown, hb⟩)
        go_ret
        refine ⟨_, rfl, ?_, (hbel.alloc _).trans hb⟩
        rw [HY.out]; exact ownsRow_base hown (hbel.alloc _).size
      · go_wp2
        go_roundw
        case rel => exact ⟨k + 1, by omega, by go_num, Lib.hid (no_snoc hall.out hxk.out (by rw [← HXN.out]; exact hn)), hbel.alloc _⟩
        case measure => simp [intOf]; omega
    · go_wp2
      go_ret
      have hk2 : k = n := by omega
      refine ⟨_, rfl, ?_, hbel⟩
      rw [resIds_no (fun j y h h2 => hall.out j y (by rw [hk2, ← HX.out]; exact h) h2)]
      exact World.ownsRow_nil _ _ _ _
end Go.Proofs.Ytgekgokkbakcmaa
