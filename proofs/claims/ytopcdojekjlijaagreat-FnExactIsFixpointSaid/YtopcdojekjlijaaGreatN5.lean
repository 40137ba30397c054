/- Contracts of FindDir, and of what it calls. -/
import Derived.Test.YtopcdojekjlijaaGreatH6
import Derived.Test.YtopcdojekjlijaaGreatC6
import Derived.Test.YtopcdojekjlijaaGreatG
namespace Go.Proofs.YtopcdojekjlijaaGreat
open Go.RowKit
set_option linter.unusedVariables false
/-- The first directory of that name. -/
def fd : List Dr → ByteArray → Option Dr
  | [], _ => none
  | x :: xs, s => if x.name.toList == s.toList then some x else fd xs s
theorem fd_yes : ∀ {xs : List Dr} {s : ByteArray} {k : Nat} {x : Dr}, (∀ (j : Nat) y, j < k → xs[j]? = some y → (y.name.toList == s.toList) = false) → xs[k]? = some x → (x.name.toList == s.toList) = true → fd xs s = some x
  | [], s, k, x, _, h, _ => by simp at h
  | y :: ys, s, 0, x, _, h, h2 => by
    simp at h; subst h; unfold fd; rw [h2]; rfl
  | y :: ys, s, k + 1, x, h1, h, h2 => by
    have h3 := h1 0 y (Nat.succ_pos k) rfl
    unfold fd; rw [h3]
    exact fd_yes (k := k) (fun j z hj hz => h1 (j + 1) z (Nat.succ_lt_succ hj) (by simpa using hz)) (by simpa using h) h2
theorem fd_no : ∀ {xs : List Dr} {s : ByteArray}, (∀ (j : Nat) y, j < xs.length → xs[j]? = some y → (y.name.toList == s.toList) = false) → fd xs s = none
  | [], s, _ => rfl
  | y :: ys, s, h1 => by
    have h3 := h1 0 y (by simp) rfl
    unfold fd; rw [h3]
    exact fd_no (fun j z hj hz => h1 (j + 1) z (by simpa using hj) (by simpa using hz))
theorem fd_mem : ∀ {xs : List Dr} {s : ByteArray} {x : Dr}, fd xs s = some x → x ∈ xs
  | [], s, x, h => by cases h
  | y :: ys, s, x, h => by
    unfold fd at h
    cases hn : y.name.toList == s.toList
    · rw [hn] at h; exact List.mem_cons_of_mem _ (fd_mem h)
    · rw [hn] at h; cases h; exact List.mem_cons_self ..
def fdD (xs : List Dr) (s : ByteArray) : Dr := (fd xs s).getD ⟨⟨#[]⟩, []⟩
def fdB (xs : List Dr) (s : ByteArray) : Bool := (fd xs s).isSome
theorem fdD_small {xs : List Dr} {s : ByteArray} (h : ∀ x, x ∈ xs → x.small) : (fdD xs s).small := by
  unfold fdD
  cases hf : fd xs s with
  | none => simp [Dr.small]
  | some x => exact h x (fd_mem hf)
/-- The place of the first directory of that name, or -1. -/
def plc (xs : List Dr) (s : ByteArray) (n : Nat) (i : Int) : Prop := (i = -1 ∧ ∀ (j : Nat) y, j < n → xs[j]? = some y → (y.name.toList == s.toList) = false) ∨ (∃ k : Nat, i = k ∧ k < n ∧ (∀ (j : Nat) y, j < k → xs[j]? = some y → (y.name.toList == s.toList) = false) ∧ ∃ y, xs[k]? = some y ∧ (y.name.toList == s.toList) = true)
theorem nod_snoc {xs : List Dr} {s : ByteArray} {k : Nat} {x : Dr} (h : ∀ (j : Nat) y, j < k → xs[j]? = some y → (y.name.toList == s.toList) = false) (hx : xs[k]? = some x) (hn : (x.name.toList == s.toList) = false) : ∀ (j : Nat) y, j < k + 1 → xs[j]? = some y → (y.name.toList == s.toList) = false := fun j y hj hy => by
  rcases Nat.lt_succ_iff_lt_or_eq.1 hj with h1 | rfl
  · exact h j y h1 hy
  · obtain rfl := Option.some.inj (hx.symm.trans hy); exact hn
theorem one_rows : ∀ (xs : List N), ∀ u ∈ rows N.c xs, u.oneCell' = true
  | [], u, h => by simp [rows] at h
  | x :: xs, u, h => by
    rw [rows_cons, List.mem_append] at h
    rcases h with h | h
    · simp [N.c] at h; rcases h with rfl | rfl | rfl | rfl | rfl | rfl | rfl <;> rfl
    · exact one_rows xs u h
set_option maxRecDepth 100000 in
set_option maxHeartbeats 1000000 in
theorem l11Place (va : Value) (xs : List Dr) (s : ByteArray) (w : World) (ha : RdDs w va xs) (hx : xs.length ≤ 4000000) :
    Calls Tryz.prog 116 #[va, .string s] w fun e w' => ∃ i : Int, e = .returned (.int .i64 i) ∧ plc xs s xs.length i ∧ w = w' := by
  obtain ⟨qs, ⟨a, ca, rfl, hca, hra⟩, hall⟩ := ha
  have HA := Lib.hid hall
  clear hall
  generalize hn : xs.length = n at hx hra
  have HX := Lib.hid hn
  clear hn
  go_enter Tryz.func116, Tryz.ntmps116
  go_wp2
  go_loop [5] (fun i => ∃ k : Nat, k ≤ n ∧ i = .int .i64 k ∧ Hid (∀ (j : Nat) y, j < k → xs[j]? = some y → (y.name.toList == s.toList) = false)) (fun i => n - (intOf i).toNat)
  case atStart => exact ⟨0, Nat.zero_le _, rfl, Lib.hid (fun j y h => absurd h (Nat.not_lt_zero j))⟩
  case round =>
    obtain ⟨k, hk, rfl, hall⟩ := hrel
    by_cases hlt : k < n
    · obtain ⟨b1, o1, p, rfl, hpk, c0, c1⟩ := hra.getP2 hlt
      obtain ⟨x, hxk, hxr⟩ := HA.out.get hpk.out
      obtain ⟨pn, pq⟩ := p
      obtain ⟨hxn, hxq⟩ := hxr
      simp only at hxn c0 c1
      subst hxn
      clear hxq
      have hcs : (x.name.toList == s.toList) = true ∨ (x.name.toList == s.toList) = false := by cases x.name.toList == s.toList <;> simp
      rcases hcs with hn | hn
      · go_wp2
        go_ret
        exact ⟨_, rfl, .inr ⟨k, rfl, hlt, hall.out, x, hxk.out, hn⟩, rfl⟩
      · go_wp2
        exact ⟨⟨k + 1, by omega, by go_num, Lib.hid (nod_snoc hall.out hxk.out hn)⟩, by simp [intOf]; omega⟩
    · obtain rfl : k = n := by omega
      go_wp2
      go_ret
      exact ⟨_, rfl, .inl ⟨rfl, hall.out⟩, rfl⟩
set_option maxRecDepth 100000 in
set_option maxHeartbeats 1000000 in
theorem cloDirAt (n : ByteArray) (q : Value) (g : Nat) (s : ByteArray) (w : World) (hc : w.cell? ⟨g, 0, none⟩ = some (.string s)) :
    Calls Tryz.prog 141 #[.agg #[.string n, q], .pointer (some ⟨g, 0, none⟩)] w fun e w' => e = .returned (.bool (n.toList == s.toList)) ∧ Grew w w' := by
  have e1 := grew_cell ((Grew.refl w).alloc (.cells #[.string n, q] 69)) hc
  go_enter Tryz.func141, Tryz.ntmps141
  go_wp2
  go_ret
  exact ⟨rfl, (Grew.refl _).alloc _⟩
set_option maxRecDepth 100000 in
set_option maxHeartbeats 1000000 in
theorem slIndexDir (va : Value) (xs : List Dr) (g : Nat) (s : ByteArray) (w : World) (ha : RdDs w va xs) (hx : xs.length ≤ 4000000) (hc : w.cell? ⟨g, 0, none⟩ = some (.string s)) :
    Calls Tryz.prog 140 #[va, .func (.func 141) #[] #[.pointer (some ⟨g, 0, none⟩)]] w fun e w' => ∃ i : Int, e = .returned (.int .i64 i) ∧ plc xs s xs.length i ∧ Grew w w' := by
  obtain ⟨qs, ⟨a, ca, rfl, hca, hra⟩, hall⟩ := ha
  have HA := Lib.hid hall
  have HC := Lib.hid hc
  clear hall hc
  generalize hn : xs.length = n at hx hra
  have HX := Lib.hid hn
  clear hn
  go_enter Tryz.func140, Tryz.ntmps140
  go_wp2
  go_loopw [5, 8] (fun _ i wr => ∃ k : Nat, k ≤ n ∧ i = .int .i64 k ∧ Hid (∀ (j : Nat) y, j < k → xs[j]? = some y → (y.name.toList == s.toList) = false) ∧ Grew w wr) (fun _ i _ => n - (intOf i).toNat)
  case atStart => exact ⟨0, Nat.zero_le _, rfl, Lib.hid (fun j y h => absurd h (Nat.not_lt_zero j)), Grew.refl _⟩
  case round =>
    obtain ⟨k, hk, rfl, hall, hbel⟩ := hrel
    by_cases hlt : k < n
    · obtain ⟨b1, o1, p, rfl, hpk, c0, c1⟩ := (hra.grew hbel).getP2 hlt
      obtain ⟨x, hxk, hxr⟩ := HA.out.get hpk.out
      obtain ⟨pn, pq⟩ := p
      obtain ⟨hxn, hxq⟩ := hxr
      simp only at hxn c0 c1
      subst hxn
      clear hxq
      obtain ⟨v, hv⟩ : ∃ v, (x.name.toList == s.toList) = v := ⟨_, rfl⟩
      have HV := Lib.hid hv
      clear hv
      have hcs : v = true ∨ v = false := by cases v <;> simp
      rcases hcs with rfl | rfl
      · go_wp2_with (go_at_call 141; refine (cloDirAt x.name pq g s _ (grew_cell hbel HC.out)).mono ?_; rintro e w1 ⟨he, hb⟩; rw [HV.out] at he; subst he)
        go_ret
        exact ⟨_, rfl, .inr ⟨k, rfl, hlt, hall.out, x, hxk.out, HV.out⟩, hbel.trans hb⟩
      · go_wp2_with (go_at_call 141; refine (cloDirAt x.name pq g s _ (grew_cell hbel HC.out)).mono ?_; rintro e w1 ⟨he, hb⟩; rw [HV.out] at he; subst he)
        go_roundw
        case rel => exact ⟨k + 1, by omega, by go_num, Lib.hid (nod_snoc hall.out hxk.out HV.out), hbel.trans hb⟩
        case measure => simp [intOf]; omega
    · obtain rfl : k = n := by omega
      go_wp2
      go_ret
      exact ⟨_, rfl, .inl ⟨rfl, hall.out⟩, hbel⟩
set_option maxRecDepth 100000 in
set_option maxHeartbeats 1000000 in
theorem implDirAt (va : Value) (xs : List Dr) (s : ByteArray) (w : World) (ha : RdDs w va xs) (hx : xs.length ≤ 4000000) :
    Calls Tryz.prog 121 #[va, .string s] w fun e w' => ∃ i : Int, e = .returned (.int .i64 i) ∧ plc xs s xs.length i ∧ Grew w w' := by
  have hg := (Grew.refl w).alloc (.cells #[.string s] 9)
  have HA := Lib.hid (RdDs.grew ha hg)
  obtain ⟨qs, ⟨a, ca, rfl, hca, hra⟩, hall⟩ := ha
  clear hall hra
  have hmf : ∀ (fn : Fn) (first cap : Array Value) (w : World), (Instr.makeFunc fn first cap).run Tryz.prog w = .ok (.func fn first cap) w := fun _ _ _ _ => rfl
  go_enter Tryz.func121, Tryz.ntmps121
  go_wp2_with fail
  refine (slIndexDir _ xs w.heap.size s _ HA.out hx (by simp)).mono ?_
  rintro e w1 ⟨i, rfl, hp, hb⟩
  go_wp2
  go_ret
  exact ⟨_, rfl, hp, hg.trans hb⟩
end Go.Proofs.YtopcdojekjlijaaGreat
