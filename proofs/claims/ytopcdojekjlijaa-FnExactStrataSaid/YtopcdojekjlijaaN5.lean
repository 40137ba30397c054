/- Contracts of FindDir, and of what it calls. -/
import Derived.Test.YtopcdojekjlijaaH6
import Derived.Test.YtopcdojekjlijaaC6
import Derived.Test.YtopcdojekjlijaaG
namespace Go.Proofs.Ytopcdojekjlijaa
open Go.RowKit
set_option linter.unusedVariables false
/-- The first directory of that name. -/
def fd : List Dr → ByteArray → Option Dr
  | [], _ => none
  | x :: xs, s => if x.name.toList == s.toList then some x else fd xs s
theorem fd_yes : ∀ {xs : List Dr} {s : ByteArray} {k : Nat} {x : Dr}, (∀ (j : Nat) y, j < k → xs[j]? = some y → (y.name.toList == s.toList) = false) → xs[k]? = some x → (x.name.toList == s.toList) = true → fd xs s = some x
  | [], s, k, x, _, h, _ => by simp at h
  | y :: ys, s, 0, x, _, h, h2 => by
    simp at h; subst h; unfold fd; rw [h2]; rfl
  | y :: ys, s, k + 1, x, h1, h, h2 => by
    have h3 := h1 0 y (Nat.succ_pos k) rfl
    unfold fd; rw [h3]
    exact fd_yes (k := k) (fun j z hj hz => h1 (j + 1) z (Nat.succ_lt_succ hj) (by simpa using hz)) (by simpa using h) h2
theorem fd_no : ∀ {xs : List Dr} {s : ByteArray}, (∀ (j : Nat) y, j < xs.length → xs[j]? = some y → (y.name.toList == s.toList) = false) → fd xs s = none
  | [], s, _ => rfl
  | y :: ys, s, h1 => by
    have h3 := h1 0 y (by simp) rfl
    unfold fd; rw [h3]
    exact fd_no (fun j z hj hz => h1 (j + 1) z (by simpa using hj) (by simpa using hz))
theorem fd_mem : ∀ {xs : List Dr} {s : ByteArray} {x : Dr}, fd xs s = some x → x ∈ xs
  | [], s, x, h => by cases h
  | y :: ys, s, x, h => by
    unfold fd at h
    cases hn : y.name.toList == s.toList
    · rw [hn] at h; exact List.mem_cons_of_mem _ (fd_mem h)
    · rw [hn] at h; cases h; exact List.mem_cons_self ..
def fdD (xs : List Dr) (s : ByteArray) : Dr := (fd xs s).getD ⟨⟨#[]⟩, []⟩
def fdB (xs : List Dr) (s : ByteArray) : Bool := (fd xs s).isSome
theorem fdD_small {xs : List Dr} {s : ByteArray} (h : ∀ x, x ∈ xs → x.small) : (fdD xs s).small := by
  unfold fdD
  cases hf : fd xs s with
  | none => simp [Dr.small]
  | some x => exact h x (fd_mem hf)
/-- The place of the first directory of that name, or -1. -/
def plc (xs : List Dr) (s : ByteArray) (n : Nat) (i : Int) : Prop := (i = -1 ∧ ∀ (j : Nat) y, j < n → xs[j]? = some y → (y.name.toList == s.toList) = false) ∨ (∃ k : Nat, i = k ∧ k < n ∧ (∀ (j : Nat) y, j < k → xs[j]? = some y → (y.name.toList == s.toList) = false) ∧ ∃ y, xs[k]? = some y ∧ (y.name.toList == s.toList) = true)
theorem nod_snoc {xs : List Dr} {s : ByteArray} {k : Nat} {x : Dr} (h : ∀ (j : Nat) y, j < k → xs[j]? = some y → (y.name.toList == s.toList) = false) (hx : xs[k]? = some x) (hn : (x.name.toList == s.toList) = false) : ∀ (j : Nat) y, j < k + 1 → xs[j]? = some y → (y.name.toList == s.toList) = false := fun j y hj hy => by
  rcases Nat.lt_succ_iff_lt_or_eq.1 hj with h1 | rfl
  · exact h j y h1 hy
  · obtain rfl := Option.some.inj (hx.symm.trans hy); exact hn
theorem one_rows : ∀ (xs : List N), ∀ u ∈ rows N.c xs, u.oneCell' = true
  | [], u, h => by simp [rows] at h
  | x :: xs, u, h => by
    rw [rows_cons, List.mem_append] at h
    rcases h with h | h
    · simp [N.c] at h; rcases h with rfl | rfl | rfl | rfl | rfl | rfl | rfl <;> rfl
    · exact one_rows xs u h
set_option maxRecDepth 100000 in
set_option maxHeartbeats 1000000 in
theorem l11Place (va : Value) (xs : List Dr) (s : ByteArray) (w : World) (ha : RdDs w va xs) (hx : xs.length ≤ 4000000) :
    Calls Try.prog 82 #[va, .string s] w fun e w' => ∃ i : Int, e = .returned (.int .i64 i) ∧ plc xs s xs.length i ∧ w = w' := by
  obtain ⟨qs, ⟨a, ca, rfl, hca, hra⟩, hall⟩ := ha
  have HA := Lib.hid hall
  clear hall
  generalize hn : xs.length = n at hx hra
  have HX := Lib.hid hn
  clear hn
  go_enter Try.func82, Try.ntmps82
  go_wp2
  go_loop [5] (fun i => ∃ k : Nat, k ≤ n ∧ i = .int .i64 k ∧ Hid (∀ (j : Nat) y, j < k → xs[j]? = some y → (y.name.toList == s.toList) = false)) (fun i => n - (intOf i).toNat)
  case atStart => exact ⟨0, Nat.zero_le _, rfl, Lib.hid (fun j y h => absurd h (Nat.not_lt_zero j))⟩
  case round =>
    obtain ⟨k, hk, rfl, hall⟩ := hrel
    by_cases hlt : k < n
    · obtain ⟨b1, o1, p, rfl, hpk, c0, c1⟩ := hra.getP2 hlt
      obtain ⟨x, hxk, hxr⟩ := HA.out.get hpk.out
      obtain ⟨pn, pq⟩ := p
      obtain ⟨hxn, hxq⟩ := hxr
      simp only at hxn c0 c1
      subst hxn
      clear hxq
      have hcs : (x.name.toList == s.toList) = true ∨ (x.name.toList == s.toList) = false := by cases x.name.toList == s.toList <;> simp
      rcases hcs with hn | hn
      · go_wp2
        go_ret
        exact ⟨_, rfl, .inr ⟨k, rfl, hlt, hall.out, x, hxk.out, hn⟩, rfl⟩
      · go_wp2
        exact ⟨⟨k + 1, by omega, by go_num, Lib.hid (nod_snoc hall.out hxk.out hn)⟩, by simp [intOf]; omega⟩
    · obtain rfl : k = n := by omega
      go_wp2
      go_ret
      exact ⟨_, rfl, .inl ⟨rfl, hall.out⟩, rfl⟩
set_option maxRecDepth 100000 in
set_option maxHeartbeats 1000000 in
theorem cloDirAt (n : ByteArray) (q : Value) (g : Nat) (s : ByteArray) (w : World) (hc : w.cell? ⟨g, 0, none⟩ = some (.string s)) :
    Calls Try.prog 141 #[.agg #[.string n, q], .pointer (some ⟨g, 0, none⟩)] w fun e w' => e = .returned (.bool (n.toList == s.toList)) ∧ Grew w w' := by
  have e1 := grew_cell ((Grew.refl w).alloc (.cells #[.string n, q] 65)) hc
  go_enter Try.func141, Try.ntmps141
  go_wp2
  go_ret
  exact ⟨rfl, (Grew.refl _).alloc _⟩
set_option maxRecDepth 100000 in
set_option maxHeartbeats 1000000 in
theorem slIndexDir (va : Value) (xs : List Dr) (g : Nat) (s : ByteArray) (w : World) (ha : RdDs w va xs) (hx : xs.length ≤ 4000000) (hc : w.cell? ⟨g, 0, none⟩ = some (.string s)) :
    Calls Try.prog 97 #[va, .func (.func 141) #[] #[.pointer (some ⟨g, 0, none⟩)]] w fun e w' => ∃ i : Int, e = .returned (.int .i64 i) ∧ plc xs s xs.length i ∧ Grew w w' := by
  obtain ⟨qs, ⟨a, ca, rfl, hca, hra⟩, hall⟩ := ha
  have HA := Lib.hid hall
  have HC := Lib.hid hc
  clear hall hc
  generalize hn : xs.length = n at hx hra
  have HX := Lib.hid hn
  clear hn
  go_enter Try.func97, Try.ntmps97
  go_wp2
  go_loopw [5, 8] (fun _ i wr => ∃ k : Nat, k ≤ n ∧ i = .int .i64 k ∧ Hid (∀ (j : Nat) y, j < k → xs[j]? = some y → (y.name.toList == s.toList) = false) ∧ Grew w wr) (fun _ i _ => n - (intOf i).toNat)
  case atStart => exact ⟨0, Nat.zero_le _, rfl, Lib.hid (fun j y h => absurd h (Nat.not_lt_zero j)), Grew.refl _⟩
  case round =>
    obtain ⟨k, hk, rfl, hall, hbel⟩ := hrel
    by_cases hlt : k < n
    · obtain ⟨b1, o1, p, rfl, hpk, c0, c1⟩ := (hra.grew hbel).getP2 hlt
      obtain ⟨x, hxk, hxr⟩ := HA.out.get hpk.out
      obtain ⟨pn, pq⟩ := p
      obtain ⟨hxn, hxq⟩ := hxr
      simp only at hxn c0 c1
      subst hxn
      clear hxq
      obtain ⟨v, hv⟩ : ∃ v, (x.name.toList == s.toList) = v := ⟨_, rfl⟩
      have HV := Lib.hid hv
      clear hv
      have hcs : v = true ∨ v = false := by cases v <;> simp
      rcases hcs with rfl | rfl
      · go_wp2_with (go_at_call 141; refine (cloDirAt x.name pq g s _ (grew_cell hbel HC.out)).mono ?_; rintro e w1 ⟨he, hb⟩; rw [HV.out] at he; subst he)
        go_ret
        exact ⟨_, rfl, .inr ⟨k, rfl, hlt, hall.out, x, hxk.out, HV.out⟩, hbel.trans hb⟩
      · go_wp2_with (go_at_call 141; refine (cloDirAt x.name pq g s _ (grew_cell hbel HC.out)).mono ?_; rintro e w1 ⟨he, hb⟩; rw [HV.out] at he; subst he)
        go_roundw
        case rel => exact ⟨k + 1, by omega, by go_num, Lib.hid (nod_snoc hall.out hxk.out HV.out), hbel.trans hb⟩
        case measure => simp [intOf]; omega
    · obtain rfl : k = n := by omega
      go_wp2
      go_ret
      exact ⟨_, rfl, .inl ⟨rfl, hall.out⟩, hbel⟩
set_option maxRecDepth 100000 in
set_option maxHeartbeats 1000000 in
theorem implDirAt (va : Value) (xs : List Dr) (s : ByteArray) (w : World) (ha : RdDs w va xs) (hx : xs.length ≤ 4000000) :
    Calls Try.prog 85 #[va, .string s] w fun e w' => ∃ i : Int, e = .returned (.int .i64 i) ∧ plc xs s xs.length i ∧ Grew w w' := by
  have hg := (Grew.refl w).alloc (.cells #[.string s] 9)
  have HA := Lib.hid (RdDs.grew ha hg)
  obtain ⟨qs, ⟨a, ca, rfl, hca, hra⟩, hall⟩ := ha
  clear hall hra
  have hmf : ∀ (fn : Fn) (first cap : Array Value) (w : World), (Instr.makeFunc fn first cap).run Try.prog w = .ok (.func fn first cap) w := fun _ _ _ _ => rfl
  go_enter Try.func85, Try.ntmps85
  go_wp2_with fail
  refine (slIndexDir _ xs w.heap.size s _ HA.out hx (by simp)).mono ?_
  rintro e w1 ⟨i, rfl, hp, hb⟩
  go_wp2
  go_ret
  exact ⟨_, rfl, hp, hg.trans hb⟩
set_option maxRecDepth 100000 in
set_option maxHeartbeats 1000000 in
theorem slCloneNode (va : Value) (n : Nat) (xs : List N) (w : World) (ha : Rd w va 7 n (rows N.c xs)) (hx : n ≤ 4000000) :
    Calls Try.prog 145 #[va] w fun e w' => ∃ v, e = .returned v ∧ w'.ownsRow w.heap.size 112 7 v n (rows N.c xs) ∧ Grew w w' := by
  obtain ⟨a, ca, rfl, hca, hra⟩ := ha
  have HX := Lib.hid (hra.len_rows N.len (by decide))
  have hen : ∀ a w, (binOp .eql 31 (.slice a n ca) (.slice none 0 0)).run Try.prog w = .ok (.bool a.isNone) w := fun a w => Lib.run_eql_slice_nil w 31 112 a n ca 0 0 Try.underlying31
  cases a with
  | none =>
    have hn : n = 0 := by rcases Nat.eq_zero_or_pos n with h | h; exact h; obtain ⟨b, o, h2, _⟩ := hra.2 h; cases h2
    subst hn
    have e1 := hen none
    go_enter Try.func145, Try.ntmps145
    go_wp2
    go_ret
    obtain rfl : xs = [] := List.length_eq_zero_iff.1 HX.out
    exact ⟨_, rfl, World.ownsRow_nil _ _ _ _, Grew.refl _⟩
  | some a =>
    have e1 := hen (some a)
    obtain ⟨i0, hi, hz0, hz1, hz2⟩ := info_parts Try.infoN
    have HN := Lib.hid (rd_news hra ((Grew.refl w).alloc (.cells #[] 112)))
    have HL := Lib.hid (lit_own w 112 7)
    have HC := Lib.hid hra.1
    clear hra hen
    go_enter Try.func145, Try.ntmps145
    go_wp2_with (at_builtin; refine wpList_append_own _ rfl _ _ 31 rfl w.heap.size 112 i0 _ 7 72 Try.underlying31 hi hz0 hz1 hz2 rfl (by decide) _ 0 [] rfl HL.out a n ca (rows N.c xs) rfl ?c1 ?c2 ?c3 ?c4 ?c5 ?c6 ?_)
    case c1 => exact HC.out
    case c2 => exact HN.out
    case c3 => exact one_rows xs
    case c4 => unfold maxLen; omega
    case c5 => omega
    case c6 => simp
    intro v' w' hown' hgrow _
    go_wp2
    go_ret
    refine ⟨_, rfl, by simpa using hown', ((Grew.refl w).alloc _).grown hgrow (fun k h => ?_)⟩
    cases h; exact Nat.le_refl _
set_option maxRecDepth 100000 in
set_option maxHeartbeats 1000000 in
theorem implCopyDir (x : Dr) (p : P2) (w : World) (h : Dr.R w x p) (hx : x.small) :
    Calls Try.prog 96 #[p.v] w fun e w' => ∃ p' : P2, e = .returned p'.v ∧ Dr.O w' w.heap.size w'.heap.size x p' ∧ Grew w w' := by
  obtain ⟨p_name, p_q⟩ := p
  obtain ⟨h_name, ⟨a_q, ca_q, hq_q, hca_q, hra_q⟩⟩ := h
  simp only at h_name hq_q
  subst hq_q
  have H_name := Lib.hid h_name
  clear h_name
  go_enter Try.func96, Try.ntmps96
  go_wp2_with fail
  refine (slCloneNode _ _ x.query _ ⟨a_q, ca_q, rfl, hca_q, hra_q.grew (((Grew.refl w).alloc _).alloc _)⟩ hx).mono ?_
  rintro e w1 ⟨v, rfl, ho1, hb1⟩
  obtain ⟨a1, c1, rfl⟩ := own_slice ho1
  have g1 : Grew w w1 := (((Grew.refl w).alloc _).alloc _).trans hb1
  have f1_1_0 := grew_cell (a := ⟨w.heap.size, 0, none⟩) hb1 (by simp [go_sem]; rfl)
  have f1_1_1 := grew_cell (a := ⟨w.heap.size, 1, none⟩) hb1 (by simp [go_sem]; rfl)
  have z1_1 := fun j => grew_frozen (a := ⟨w.heap.size, j, none⟩) hb1 (by simp; omega) (by simp [go_sem])
  have f1_2_0 := grew_cell (a := ⟨w.heap.size + 1, 0, none⟩) hb1 (by simp [go_sem]; rfl)
  have f1_2_1 := grew_cell (a := ⟨w.heap.size + 1, 1, none⟩) hb1 (by simp [go_sem]; rfl)
  have z1_2 := fun j => grew_frozen (a := ⟨w.heap.size + 1, j, none⟩) hb1 (by simp) (by simp [go_sem])
  go_wp2
  have ow1 := (ownsRow_setCell_below (ownsRow_setCell_below (ownsRow_setCell_below (ownsRow_base ho1 (base' := w.heap.size + 2) (by simp)) (a := ⟨w.heap.size, 1, none⟩) (by simp) (Value.slice a1 x.query.length c1)) (a := ⟨w.heap.size + 1, 0, none⟩) (by simp) (Value.string p_name)) (a := ⟨w.heap.size + 1, 1, none⟩) (by simp) (Value.slice a1 x.query.length c1))
  refine bodyPost_ret (v := P2.v ⟨p_name, .slice a1 x.query.length c1⟩) (by simp [results, Try.results96, go_sem, f1_2_0, f1_2_1]) rfl ⟨⟨p_name, .slice a1 x.query.length c1⟩, rfl, ⟨H_name.out, (own_of ow1).mono (by omega) (Nat.le_refl _)⟩, ?_⟩
  · repeat' (first | with_reducible exact g1 | with_reducible refine Grew.setCell ?_ ?_ _ | (dsimp only; omega))
end Go.Proofs.Ytopcdojekjlijaa
