/- Contracts of FindDir, and of what it calls. -/
import Derived.Test.YtgekgokkbakcmaaH6
import Derived.Test.YtgekgokkbakcmaaC6
import Derived.Test.YtgekgokkbakcmaaG
namespace Go.Proofs.Ytgekgokkbakcmaa
open Go.RowKit
set_option linter.unusedVariables false
/-- The first directory of that name. -/
def fd : List Dr → ByteArray → Option Dr
  | [], _ => none
  | x :: xs, s => if x.name.toList == s.toList then some x else fd xs s
theorem fd_yes : ∀ {xs : List Dr} {s : ByteArray} {k : Nat} {x : Dr}, (∀ (j : Nat) y, j < k → xs[j]? = some y → (y.name.toList == s.toList) = false) → xs[k]? = some x → (x.name.toList == s.toList) = true → fd xs s = some x
  | [], s, k, x, _, h, _ => by simp at h
  | y :: ys, s, 0, x, _, h, h2 => by
    simp at h; subst h; unfold fd; rw [h2]; rfl
  | y :: ys, s, k + 1, x, h1, h, h2 => by
    have h3 := h1 0 y (Nat.succ_pos k) rfl
    unfold fd; rw [h3]
    exact fd_yes (k := k) (fun j z hj hz => h1 (j + 1) z (Nat.succ_lt_succ hj) (by simpa using hz)) (by simpa using h) h2
theorem fd_no : ∀ {xs : List Dr} {s : ByteArray}, (∀ (j : Nat) y, j < xs.length → xs[j]? = some y → (y.name.toList == s.toList) = false) → fd xs s = none
  | [], s, _ => rfl
  | y :: ys, s, h1 => by
    have h3 := h1 0 y (by simp) rfl
    unfold fd; rw [h3]
    exact fd_no (fun j z hj hz => h1 (j + 1) z (by simpa using hj) (by simpa using hz))
theorem fd_mem : ∀ {xs : List Dr} {s : ByteArray} {x : Dr}, fd xs s = some x → x ∈ xs
  | [], s, x, h => by cases h
  | y :: ys, s, x, h => by
    unfold fd at h
    cases hn : y.name.toList == s.toList
    · rw [hn] at h; exact List.mem_cons_of_mem _ (fd_mem h)
    · rw [hn] at h; cases h; exact List.mem_cons_self ..
def fdD (xs : List Dr) (s : ByteArray) : Dr := (fd xs s).getD ⟨⟨#[]⟩, []⟩
def fdB (xs : List Dr) (s : ByteArray) : Bool := (fd xs s).isSome
theorem fdD_small {xs : List Dr} {s : ByteArray} (h : ∀ x, x ∈ xs → x.small) : (fdD xs s).small := by
  unfold fdD
  cases hf : fd xs s with
  | none => simp [Dr.small]
  | some x => exact h x (fd_mem hf)
/-- The place of the first directory of that name, or -1. -/
def plc (xs : List Dr) (s : ByteArray) (n : Nat) (i : Int) : Prop := (i = -1 ∧ ∀ (j : Nat) y, j < n → xs[j]? = some y → (y.name.toList == s.toList) = false) ∨ (∃ k : Nat, i = k ∧ k < n ∧ (∀ (j : Nat) y, j < k → xs[j]? = some y → (y.name.toList == s.toList) = false) ∧ ∃ y, xs[k]? = some y ∧ (y.name.toList == s.toList) = true)
theorem nod_snoc {xs : List Dr} {s : ByteArray} {k : Nat} {x : Dr} (h : ∀ (j : Nat) y, j < k → xs[j]? = some y → (y.name.toList == s.toList) = false) (hx : xs[k]? = some x) (hn : (x.name.toList == s.toList) = false) : ∀ (j : Nat) y, j < k + 1 → xs[j]? = some y → (y.name.toList == s.toList) = false := fun j y hj hy => by
  rcases Nat.lt_succ_iff_lt_or_eq.1 hj with h1 | rfl
  · exact h j y h1 hy
  · obtain rfl := Option.some.inj (hx.symm.trans hy); exact hn
theorem one_rows : ∀ (xs : List N), ∀ u ∈ rows N.c xs, u.oneCell' = true
  | [], u, h => by simp [rows] at h
  | x :: xs, u, h => by
    rw [rows_cons, List.mem_append] at h
    rcases h with h | h
    · simp [N.c] at h; rcases h with rfl | rfl | rfl | rfl | rfl | rfl | rfl <;> rfl
    · exact one_rows xs u h
set_option maxRecDepth 100000 in
set_option maxHeartbeats 1000000 in
theorem l11Place (va : Value) (xs : List Dr) (s : ByteArray) (w : World) (ha : RdDs w va xs) (hx : xs.length ≤ 4000000) :
    Calls Try.prog 67 #[va, .string s] w fun e w' => ∃ i : Int, e = .returned (.int .i64 i) ∧ plc xs s xs.length i ∧ w = w' := by
  obtain ⟨qs, ⟨a, ca, rfl, hca, hra⟩, hall⟩ := ha
  have HA := Lib.hid hall
  clear hall
  generalize hn : xs.length = n at hx hra
  have HX := Lib.hid hn
  clear hn
  go_enter Try.func67, Try.ntmps67
  go_wp2
  go_loop [5] (fun i => ∃ k : Nat, k ≤ n ∧ i = .int .i64 k ∧ Hid (∀ (j : Nat) y, j < k → xs[j]? = some y → (y.name.toList == s.toList) = false)) (fun i => n - (intOf i).toNat)
  case atStart => exact ⟨0, Nat.zero_le _, rfl, Lib.hid (fun j y h => absurd h (Nat.not_lt_zero j))⟩
  case round =>
    obtain ⟨k, hk, rfl, hall⟩ := hrel
    by_cases hlt : k < n
    · obtain ⟨b1, o1, p, rfl, hpk, c0, c1⟩ := hra.getP2 hlt
      obtain ⟨x, hxk, hxr⟩ := HA.out.get hpk.out
      obtain ⟨pn, pq⟩ := p
      obtain ⟨hxn, hxq⟩ := hxr
      simp only at hxn c0 c1
      subst hxn
      clear hxq
      have hcs : (x.name.toList == s.toList) = true ∨ (x.name.toList == s.toList) = false := by cases x.name.toList == s.toList <;> simp
      rcases hcs with hn | hn
      · go_wp2
        go_ret
        exact ⟨_, rfl, .inr ⟨k, rfl, hlt, hall.out, x, hxk.out, hn⟩, rfl⟩
      · go_wp2
        exact ⟨⟨k + 1, by omega, by go_num, Lib.hid (nod_snoc hall.out hxk.out hn)⟩, by simp [intOf]; omega⟩
    · obtain rfl : k = n := by omega
      go_wp2
      go_ret
      exact ⟨_, rfl, .inl ⟨rfl, hall.out⟩, rfl⟩
set_option maxRecDepth 100000 in
set_option maxHeartbeats 1000000 in
theorem cloDirAt (n : ByteArray) (q : Value) (g : Nat) (s : ByteArray) (w : World) (hc : w.cell? ⟨g, 0, none⟩ = some (.string s)) :
    Calls Try.prog 111 #[.agg #[.string n, q], .pointer (some ⟨g, 0, none⟩)] w fun e w' => e = .returned (.bool (n.toList == s.toList)) ∧ Grew w w' := by
  have e1 := grew_cell ((Grew.refl w).alloc (.cells #[.string n, q] 49)) hc
  go_enter Try.func111, Try.ntmps111
  go_wp2
  go_ret
  exact ⟨rfl, (Grew.refl _).alloc _⟩
set_option maxRecDepth 100000 in
set_option maxHeartbeats 1000000 in
theorem slIndexDir (va : Value) (xs : List Dr) (g : Nat) (s : ByteArray) (w : World) (ha : RdDs w va xs) (hx : xs.length ≤ 4000000) (hc : w.cell? ⟨g, 0, none⟩ = some (.string s)) :
    Calls Try.prog 77 #[va, .func (.func 111) #[] #[.pointer (some ⟨g, 0, none⟩)]] w fun e w' => ∃ i : Int, e = .returned (.int .i64 i) ∧ plc xs s xs.length i ∧ Grew w w' := by
  obtain ⟨qs, ⟨a, ca, rfl, hca, hra⟩, hall⟩ := ha
  have HA := Lib.hid hall
  have HC := Lib.hid hc
  clear hall hc
  generalize hn : xs.length = n at hx hra
  have HX := Lib.hid hn
  clear hn
  go_enter Try.func77, Try.ntmps77
  go_wp2
  go_loopw [5, 8] (fun _ i wr => ∃ k : Nat, k ≤ n ∧ i = .int .i64 k ∧ Hid (∀ (j : Nat) y, j < k → xs[j]? = some y → (y.name.toList == s.toList) = false) ∧ Grew w wr) (fun _ i _ => n - (intOf i).toNat)
  case atStart => exact ⟨0, Nat.zero_le _, rfl, Lib.hid (fun j y h => absurd h (Nat.not_lt_zero j)), Grew.refl _⟩
  case round =>
    obtain ⟨k, hk, rfl, hall, hbel⟩ := hrel
    by_cases hlt : k < n
    · obtain ⟨b1, o1, p, rfl, hpk, c0, c1⟩ := (hra.grew hbel).getP2 hlt
      obtain ⟨x, hxk, hxr⟩ := HA.out.get hpk.out
      obtain ⟨pn, pq⟩ := p
      obtain ⟨hxn, hxq⟩ := hxr
      simp only at hxn c0 c1
      subst hxn
      clear hxq
      obtain ⟨v, hv⟩ : ∃ v, (x.name.toList == s.toList) = v := ⟨_, rfl⟩
      have HV := Lib.hid hv
      clear hv
      have hcs : v = true ∨ v = false := by cases v <;> simp
      rcases hcs with rfl | rfl
      · go_wp2_with (go_at_call 111; refine (cloDirAt x.name pq g s _ (grew_cell hbel HC.out)).mono ?_; rintro e w1 ⟨he, hb⟩; rw [HV.out] at he; subst he)
        go_ret
        exact ⟨_, rfl, .inr ⟨k, rfl, hlt, hall.out, x, hxk.out, HV.out⟩, hbel.trans hb⟩
      · go_wp2_with (go_at_call 111; refine (cloDirAt x.name pq g s _ (grew_cell hbel HC.out)).mono ?_; rintro e w1 ⟨he, hb⟩; rw [HV.out] at he; subst he)
        go_roundw
        case rel => exact ⟨k + 1, by omega, by go_num, Lib.hid (nod_snoc hall.out hxk.out HV.out), hbel.trans hb⟩
        case measure => simp [intOf]; omega
    · obtain rfl : k = n := by omega
      go_wp2
      go_ret
      exact ⟨_, rfl, .inl ⟨rfl, hall.out⟩, hbel⟩
set_option maxRecDepth 100000 in
set_option maxHeartbeats 1000000 in
theorem implDirAt (va : Value) (xs : List Dr) (s : ByteArray) (w : World) (ha : RdDs w va xs) (hx : xs.length ≤ 4000000) :
    Calls Try.prog 70 #[va, .string s] w fun e w' => ∃ i : Int, e = .returned (.int .i64 i) ∧ plc xs s xs.length i ∧ Grew w w' := by
  have hg := (Grew.refl w).alloc (.cells #[.string s] 9)
  have HA := Lib.hid (RdDs.grew ha hg)
  obtain ⟨qs, ⟨a, ca, rfl, hca, hra⟩, hall⟩ := ha
  clear hall hra
  have hmf : ∀ (fn : Fn) (first cap : Array Value) (w : World), (Instr.makeFunc fn first cap).run Try.prog w = .ok (.func fn first cap) w := fun _ _ _ _ => rfl
  go_enter Try.func70, Try.ntmps70
  go_wp2_with fail
  refine (slIndexDir _ xs w.heap.size s _ HA.out hx (by simp)).mono ?_
  rintro e w1 ⟨i, rfl, hp, hb⟩
  go_wp2
  go_ret
  exact ⟨_, rfl, hp, hg.trans hb⟩
set_option maxRecDepth 100000 in
set_option maxHeartbeats 1000000 in
theorem slCloneNode (va : Value) (n : Nat) (xs : List N) (w : World) (ha : Rd w va 7 n (rows N.c xs)) (hx : n ≤ 4000000) :
    Calls Try.prog 114 #[va] w fun e w' => ∃ v, e = .returned v ∧ w'.ownsRow w.heap.size 76 7 v n (rows N.c xs) ∧ Grew w w' := by
  obtain ⟨a, ca, rfl, hca, hra⟩ := ha
  have HX := Lib.hid (hra.len_rows N.len (by decide))
  have hen : ∀ a w, (binOp .eql 47 (.slice a n ca) (.slice none 0 0)).run Try.prog w = .ok (.bool a.isNone) w := fun a w => Lib.run_eql_slice_nil w 47 76 a n ca 0 0 Try.underlying47
  cases a with
  | none =>
    have hn : n = 0 := by rcases Nat.eq_zero_or_pos n with h | h; exact h; obtain ⟨b, o, h2, _⟩ := hra.2 h; cases h2
    subst hn
    have e1 := hen none
    go_enter Try.func114, Try.ntmps114
    go_wp2
    go_ret
    obtain rfl : xs = [] := List.length_eq_zero_iff.1 HX.out
    exact ⟨_, rfl, World.ownsRow_nil _ _ _ _, Grew.refl _⟩
  | some a =>
    have e1 := hen (some a)
    obtain ⟨i0, hi, hz0, hz1, hz2⟩ := info_parts Try.infoN
    have HN := Lib.hid (rd_news hra ((Grew.refl w).alloc (.cells #[] 76)))
    have HL := Lib.hid (lit_own w 76 7)
    have HC := Lib.hid hra.1
    clear hra hen
    go_enter Try.func114, Try.ntmps114
    go_wp2_with (at_builtin; refine wpList_append_own _ rfl _ _ 47 rfl w.heap.size 76 i0 _ 7 72 Try.underlying47 hi hz0 hz1 hz2 rfl (by decide) _ 0 [] rfl HL.out a n ca (rows N.c xs) rfl ?c1 ?c2 ?c3 ?c4 ?c5 ?c6 ?_)
    case c1 => exact HC.out
    case c2 => exact HN.out
    case c3 => exact one_rows xs
    case c4 => unfold maxLen; omega
    case c5 => omega
    case c6 => simp
    intro v' w' hown' hgrow _
    go_wp2
    go_ret
    refine ⟨_, rfl, by simpa using hown', ((Grew.refl w).alloc _).grown hgrow (fun k h => ?_)⟩
    cases h; exact Nat.le_refl _
set_option maxRecDepth 100000 in
set_option maxHeartbeats 1000000 in
theorem implCopyDir (x : Dr) (p : P2) (w : World) (h : Dr.R w x p) (hx : x.small) :
    Calls Try.prog 76 #[p.v] w fun e w' => ∃ p' : P2, e = .returned p'.v ∧ Dr.O w' w.heap.size w'.heap.size x p' ∧ Grew w w' := by
  obtain ⟨p_name, p_q⟩ := p
  obtain ⟨h_name, ⟨a_q, ca_q, hq_q, hca_q, hra_q⟩⟩ := h
  simp only at h_name hq_q
  subst hq_q
  have H_name := Lib.hid h_name
  clear h_name
  go_enter Try.func76, Try.ntmps76
  go_wp2_with fail
  refine (slCloneNode _ _ x.query _ ⟨a_q, ca_q, rfl, hca_q, hra_q.grew (((Grew.refl w).alloc _).alloc _)⟩ hx).mono ?_
  rintro e w1 ⟨v, rfl, ho1, hb1⟩
  obtain ⟨a1, c1, rfl⟩ := own_slice ho1
  have g1 : Grew w w1 := (((Grew.refl w).alloc _).alloc _).trans hb1
  have f1_1_0 := grew_cell (a := ⟨w.heap.size, 0, none⟩) hb1 (by simp [go_sem]; rfl)
  have f1_1_1 := grew_cell (a := ⟨w.heap.size, 1, none⟩) hb1 (by simp [go_sem]; rfl)
  have z1_1 := fun j => grew_frozen (a := ⟨w.heap.size, j, none⟩) hb1 (by simp; omega) (by simp [go_sem])
  have f1_2_0 := grew_cell (a := ⟨w.heap.size + 1, 0, none⟩) hb1 (by simp [go_sem]; rfl)
  have f1_2_1 := grew_cell (a := ⟨w.heap.size + 1, 1, none⟩) hb1 (by simp [go_sem]; rfl)
  have z1_2 := fun j => grew_frozen (a := ⟨w.heap.size + 1, j, none⟩) hb1 (by simp) (by simp [go_sem])
  go_wp2
  have ow1 := (ownsRow_setCell_below (ownsRow_setCell_below (ownsRow_setCell_below (ownsRow_base ho1 (base' := w.heap.size + 2) (by simp)) (a := ⟨w.heap.size, 1, none⟩) (by simp) (Value.slice a1 x.query.length c1)) (a := ⟨w.heap.size + 1, 0, none⟩) (by simp) (Value.string p_name)) (a := ⟨w.heap.size + 1, 1, none⟩) (by simp) (Value.slice a1 x.query.length c1))
  refine bodyPost_ret (v := P2.v ⟨p_name, .slice a1 x.query.length c1⟩) (by simp [results, Try.results76, go_sem, f1_2_0, f1_2_1]) rfl ⟨⟨p_name, .slice a1 x.query.length c1⟩, rfl, ⟨H_name.out, (own_of ow1).mono (by omega) (Nat.le_refl _)⟩, ?_⟩
  · repeat' (first | with_reducible exact g1 | with_reducible refine Grew.setCell ?_ ?_ _ | (dsimp only; omega))
set_option maxRecDepth 100000 in
set_option maxHeartbeats 1000000 in
theorem implFindDir (va : Value) (xs : List Dr) (s : ByteArray) (w : World) (ha : RdDs w va xs) (hx : xs.length ≤ 4000000) (hs : ∀ x, x ∈ xs → x.small) :
    Calls Try.prog 52 #[va, .string s] w fun e w' => ∃ p : P2, e = .returned (.tuple #[p.v, .bool (fdB xs s)]) ∧ Dr.O w' w.heap.size w'.heap.size (fdD xs s) p ∧ Grew w w' := by
  have HR := Lib.hid ha
  have HS := Lib.hid hs
  obtain ⟨qs, ⟨a, ca, rfl, hca, hra⟩, hall⟩ := ha
  have HA := Lib.hid hall
  clear hall hs
  go_enter Try.func52, Try.ntmps52
  go_wp2_with fail
  have hg0 := (Grew.refl w).alloc (.cells #[.string ⟨#[]⟩, .slice none 0 0] 49)
  refine (implDirAt _ xs s _ (RdDs.grew HR.out hg0) hx).mono ?_
  rintro e w1 ⟨i, rfl, hp, hb⟩
  have f0 := grew_cell (a := ⟨w.heap.size, 0, none⟩) hb (by simp [go_sem]; rfl)
  have f1 := grew_cell (a := ⟨w.heap.size, 1, none⟩) hb (by simp [go_sem]; rfl)
  have z1 := fun j => grew_frozen (a := ⟨w.heap.size, j, none⟩) hb (by simp) (by simp [go_sem])
  have hbw := hg0.trans hb
  rcases hp with ⟨rfl, hno⟩ | ⟨k, rfl, hlt, hno, x, hxk, hxn⟩
  · have HN := Lib.hid (fd_no hno)
    clear hno
    go_wp2
    refine bodyPost_ret (v := .tuple #[P2.v ⟨⟨#[]⟩, .slice none 0 0⟩, .bool false]) (by simp [results, Try.results52, go_sem, f0, f1]) rfl ⟨⟨⟨#[]⟩, .slice none 0 0⟩, ?_, ?_, ?_⟩
    · unfold fdB; rw [HN.out]; rfl
    · unfold fdD; rw [HN.out]; exact ⟨rfl, World.ownsRow_nil _ _ _ _, fun b h => by cases h⟩
    · repeat' (first | with_reducible exact hbw | with_reducible refine Grew.setCell ?_ ?_ _ | (dsimp only; omega))
  · have HN := Lib.hid (fd_yes hno hxk hxn)
    have hxs := HS.out x (List.mem_of_getElem? hxk)
    obtain ⟨b1, o1, p, rfl, hpk, c0, c1⟩ := (hra.grew hbw).getP2 hlt
    obtain ⟨y, hyk, hyr⟩ := HA.out.get hpk.out
    obtain rfl : x = y := Option.some.inj (hxk.symm.trans hyk.out)
    clear hno hxk hxn
    obtain ⟨pn, pq⟩ := p
    have HY := Lib.hid (hyr.grew hbw)
    obtain ⟨hyn, hyq⟩ := hyr
    simp only at hyn hyq c0 c1
    subst hyn
    obtain ⟨pa, pc, rfl, hpc, hpr⟩ := hyq
    clear hpr
    go_wp2_with fail
    refine (implCopyDir x ⟨x.name, .slice pa x.query.length pc⟩ _ HY.out hxs).mono ?_
    rintro e w2 ⟨⟨un, uq⟩, rfl, ho, hb2⟩
    have HO := Lib.hid ho
    obtain ⟨hun, huq⟩ := ho
    simp only at hun
    subst hun
    obtain ⟨ua, uc, rfl⟩ := own_slice huq.1
    clear huq
    replace f0 := grew_cell hb2 f0
    replace f1 := grew_cell hb2 f1
    have z2 := fun j => grew_frozen (a := ⟨w.heap.size, j, none⟩) hb2 (by have := hb.size; simp at this; simp; omega) (z1 j)
    clear z1
    have hsz : w.heap.size + 1 ≤ w1.heap.size := by have := hb.size; simpa using this
    have g2 := hbw.trans hb2
    have ow := ownsRow_setCell_below (ownsRow_setCell_below HO.out.2.1 (a := ⟨w.heap.size, 0, none⟩) (by simp; omega) (Value.string x.name)) (a := ⟨w.heap.size, 1, none⟩) (by simp; omega) (Value.slice ua x.query.length uc)
    go_wp2
    refine bodyPost_ret (v := .tuple #[P2.v ⟨x.name, .slice ua x.query.length uc⟩, .bool true]) (by simp [results, Try.results52, go_sem, f0, f1]) rfl ⟨⟨x.name, .slice ua x.query.length uc⟩, ?_, ?_, ?_⟩
    · unfold fdB; rw [HN.out]; rfl
    · unfold fdD; rw [HN.out]; exact ⟨rfl, (own_of ow).mono (by omega) (Nat.le_refl _)⟩
    · repeat' (first | with_reducible exact g2 | with_reducible refine Grew.setCell ?_ ?_ _ | (dsimp only; omega))
def Box2 (w : World) (g : Nat) : Prop := ∃ u0 u1, w.cell? ⟨g, 0, none⟩ = some u0 ∧ w.cell? ⟨g, 1, none⟩ = some u1 ∧ w.frozen? ⟨g, 0, none⟩ = false ∧ w.frozen? ⟨g, 1, none⟩ = false
theorem Box2.grew {w w' : World} {g : Nat} (h : Box2 w g) (hg : Grew w w') : Box2 w' g := by
  obtain ⟨u0, u1, h0, h1, h2, h3⟩ := h
  exact ⟨u0, u1, grew_cell hg h0, grew_cell hg h1, grew_frozen hg (lt_of_cell h0) h2, grew_frozen hg (lt_of_cell h1) h3⟩
set_option maxRecDepth 100000 in
set_option maxHeartbeats 1000000 in
theorem specFindDir (va : Value) (xs : List Dr) (s : ByteArray) (w : World) (ha : RdDs w va xs) (hx : xs.length ≤ 4000000) (hs : ∀ x, x ∈ xs → x.small) :
    Calls Try.prog 53 #[va, .string s] w fun e w' => ∃ p : P2, e = .returned (.tuple #[p.v, .bool (fdB xs s)]) ∧ Dr.O w' w.heap.size w'.heap.size (fdD xs s) p ∧ Grew w w' := by
  have HR := Lib.hid ha
  have HSM := Lib.hid hs
  obtain ⟨qs, ⟨a, ca, rfl, hca, hra⟩, hall⟩ := ha
  have HA := Lib.hid hall
  clear hall hs
  have hg0 := (Grew.refl w).alloc (.cells #[.string ⟨#[]⟩, .slice none 0 0] 49)
  have f0 : (w.alloc (.cells #[.string ⟨#[]⟩, .slice none 0 0] 49)).cell? ⟨w.heap.size, 0, none⟩ = some (.string ⟨#[]⟩) := by simp
  have f1 : (w.alloc (.cells #[.string ⟨#[]⟩, .slice none 0 0] 49)).cell? ⟨w.heap.size, 1, none⟩ = some (.slice none 0 0) := by simp
  have z1 : ∀ j, (w.alloc (.cells #[.string ⟨#[]⟩, .slice none 0 0] 49)).frozen? ⟨w.heap.size, j, none⟩ = false := fun j => by simp [go_sem]
  go_enter Try.func53, Try.ntmps53
  go_wp2_with fail
  refine (l11Place _ xs s _ (RdDs.grew HR.out hg0) hx).mono ?_
  rintro e w1 ⟨i, rfl, hp, rfl⟩
  have hsW : (w.alloc (.cells #[.string ⟨#[]⟩, .slice none 0 0] 49)).heap.size = w.heap.size + 1 := by simp
  generalize w.alloc (.cells #[.string ⟨#[]⟩, .slice none 0 0] 49) = W at hg0 f0 f1 z1 hsW ⊢
  rcases hp with ⟨rfl, hno⟩ | ⟨k, rfl, hlt, hno, x, hxk, hxn⟩
  · have HN := Lib.hid (fd_no hno)
    clear hno
    go_wp2
    refine bodyPost_ret (v := .tuple #[P2.v ⟨⟨#[]⟩, .slice none 0 0⟩, .bool false]) (by simp [results, Try.results53, go_sem, f0, f1]) rfl ⟨⟨⟨#[]⟩, .slice none 0 0⟩, ?_, ?_, ?_⟩
    · unfold fdB; rw [HN.out]; rfl
    · unfold fdD; rw [HN.out]; exact ⟨rfl, World.ownsRow_nil _ _ _ _, fun b h => by cases h⟩
    · repeat' (first | with_reducible exact hg0 | with_reducible refine Grew.setCell ?_ ?_ _ | (dsimp only; omega))
  · have HN := Lib.hid (fd_yes hno hxk hxn)
    have hxs := HSM.out x (List.mem_of_getElem? hxk)
    obtain ⟨b1, o1, p, rfl, hpk, c0, c1⟩ := hra.getP2 hlt
    obtain ⟨y, hyk, hyr⟩ := HA.out.get hpk.out
    obtain rfl : x = y := Option.some.inj (hxk.symm.trans hyk.out)
    clear hno hxk hxn
    obtain ⟨pn, pq⟩ := p
    obtain ⟨hyn, hyq⟩ := hyr
    simp only at hyn hyq c0 c1
    subst hyn
    unfold Dr.small at hxs
    obtain ⟨pa, pc, rfl, hpc, hpr⟩ := hyq
    have hbx : Box2 W w.heap.size := ⟨_, _, f0, f1, z1 0, z1 1⟩
    have hkn : (k : Int) < (xs.length : Int) := by omega
    have hk0 : (0 : Int) ≤ (k : Int) := by omega
    have c0w := c0
    have c1w := c1
    replace c0 := grew_cell hg0 c0
    replace c1 := grew_cell hg0 c1
    cases pa with
    | none =>
      have h0 : x.query.length = 0 := by rcases Nat.eq_zero_or_pos x.query.length with h | h; exact h; obtain ⟨b, o, h2, _⟩ := hpr.2 h; cases h2
      have HE := Lib.hid (List.length_eq_zero_iff.1 h0)
      clear hpr
      rw [h0] at c1 c1w hpc
      clear h0 hxs
      go_wp2_with fail
      refine wp_region_noPanic ?_
      refine wp_region_held_drew (S := (fun w' => (w'.cell? ⟨b1, o1 + k * 2, none⟩ = some (.string x.name) ∧ w'.cell? ⟨b1, o1 + k * 2 + 1, none⟩ = some (.slice none 0 pc) ∧ Box2 w' w.heap.size ∧ Grew w w'))) (by kernel_rfl) ?h1_S ?h1_r
      case h1_S => exact ⟨grew_cell (Grew.refl _).drew c0, grew_cell (Grew.refl _).drew c1, hbx.grew (Grew.refl _).drew, hg0.drew⟩
      case h1_r =>
        intro HS
        first
          | refine sk 0 rfl (by kernel_rfl) rfl HS ?_
          | (refine tk (v := ?v1_0) 0 rfl (by kernel_rfl) rfl ?y1_0 HS ?_; case y1_0 => (intro w' hSw; (try dsimp only at hSw); go_simp <;> (with_reducible rfl)))
        try simp only [Act.put, List.setIfInBounds_toArray, List.set_cons_zero, List.set_cons_succ]
        first
          | refine sk 1 rfl (by kernel_rfl) rfl HS ?_
          | (refine tk (v := ?v1_1) 1 rfl (by kernel_rfl) rfl ?y1_1 HS ?_; case y1_1 => (intro w' hSw; (try dsimp only at hSw); go_simp <;> (with_reducible rfl)))
        try simp only [Act.put, List.setIfInBounds_toArray, List.set_cons_zero, List.set_cons_succ]
        first
          | refine sk 2 rfl (by kernel_rfl) rfl HS ?_
          | (refine tk (v := ?v1_2) 2 rfl (by kernel_rfl) rfl ?y1_2 HS ?_; case y1_2 => (intro w' hSw; (try dsimp only at hSw); go_simp <;> (with_reducible rfl)))
        try simp only [Act.put, List.setIfInBounds_toArray, List.set_cons_zero, List.set_cons_succ]
        first
          | refine sk 3 rfl (by kernel_rfl) rfl HS ?_
          | (refine tk (v := ?v1_3) 3 rfl (by kernel_rfl) rfl ?y1_3 HS ?_; case y1_3 => (intro w' hSw; (try dsimp only at hSw); go_simp <;> (with_reducible rfl)))
        try simp only [Act.put, List.setIfInBounds_toArray, List.set_cons_zero, List.set_cons_succ]
        first
          | refine sk 4 rfl (by kernel_rfl) rfl HS ?_
          | (refine tk (v := ?v1_4) 4 rfl (by kernel_rfl) rfl ?y1_4 HS ?_; case y1_4 => (intro w' hSw; (try dsimp only at hSw); go_simp <;> (with_reducible rfl)))
        try simp only [Act.put, List.setIfInBounds_toArray, List.set_cons_zero, List.set_cons_succ]
        first
          | refine sk 6 rfl (by kernel_rfl) rfl HS ?_
          | (refine tk (v := ?v1_6) 6 rfl (by kernel_rfl) rfl ?y1_6 HS ?_; case y1_6 => (intro w' hSw; (try dsimp only at hSw); go_simp <;> (with_reducible rfl)))
        try simp only [Act.put, List.setIfInBounds_toArray, List.set_cons_zero, List.set_cons_succ]
        first
          | refine sk 7 rfl (by kernel_rfl) rfl HS ?_
          | (refine tk (v := ?v1_7) 7 rfl (by kernel_rfl) rfl ?y1_7 HS ?_; case y1_7 => (intro w' hSw; (try dsimp only at hSw); go_simp <;> (with_reducible rfl)))
        try simp only [Act.put, List.setIfInBounds_toArray, List.set_cons_zero, List.set_cons_succ]
        first
          | refine sk 8 rfl (by kernel_rfl) rfl HS ?_
          | (refine tk (v := ?v1_8) 8 rfl (by kernel_rfl) rfl ?y1_8 HS ?_; case y1_8 => (intro w' hSw; (try dsimp only at hSw); go_simp <;> (with_reducible rfl)))
        try simp only [Act.put, List.setIfInBounds_toArray, List.set_cons_zero, List.set_cons_succ]
        first
          | refine sk 9 rfl (by kernel_rfl) rfl HS ?_
          | (refine tk (v := ?v1_9) 9 rfl (by kernel_rfl) rfl ?y1_9 HS ?_; case y1_9 => (intro w' hSw; (try dsimp only at hSw); go_simp <;> (with_reducible rfl)))
        try simp only [Act.put, List.setIfInBounds_toArray, List.set_cons_zero, List.set_cons_succ]
        first
          | refine sk 10 rfl (by kernel_rfl) rfl HS ?_
          | (refine tk (v := ?v1_10) 10 rfl (by kernel_rfl) rfl ?y1_10 HS ?_; case y1_10 => (intro w' hSw; (try dsimp only at hSw); go_simp <;> (with_reducible rfl)))
        try simp only [Act.put, List.setIfInBounds_toArray, List.set_cons_zero, List.set_cons_succ]
        refine cl 5 rfl (by kernel_rfl) (fun K hK => ?_)
        go_simp
        refine hK.out _ _ ?s1_5 ?r1_5
        case s1_5 => exact ⟨grew_cell (Grew.alloc (Grew.refl _) _) HS.1, grew_cell (Grew.alloc (Grew.refl _) _) HS.2.1, HS.2.2.1.grew (Grew.alloc (Grew.refl _) _), HS.2.2.2.alloc _⟩
        case r1_5 =>
          have HLit : Hid ((W.alloc (.cells #[] 76)).drew.ownsRow (w.heap.size + 1) 76 7 (.slice (some ⟨w.heap.size + 1, 0, none⟩) 0 0) 0 []) := by have h := ownsRow_grew (lit_own W 76 7) ((Grew.refl _).drew); rw [hsW] at h; exact h
          clear HS
          intro HS
          clear hK K
          try simp only [Act.put, List.setIfInBounds_toArray, List.set_cons_zero, List.set_cons_succ]
          refine cl 11 rfl (by kernel_rfl) (fun K hK => ?_)
          go_simp
          refine hK.out _ _ ?s1_11 ?r1_11
          case s1_11 => exact HS
          case r1_11 =>
            clear HS
            intro HS
            clear hK K
            try simp only [Act.put, List.setIfInBounds_toArray, List.set_cons_zero, List.set_cons_succ]
            first
              | refine sk 12 rfl (by kernel_rfl) rfl HS ?_
              | (refine tk (v := ?v1_12) 12 rfl (by kernel_rfl) rfl ?y1_12 HS ?_; case y1_12 => (intro w' hSw; (try dsimp only at hSw); go_simp <;> (with_reducible rfl)))
            try simp only [Act.put, List.setIfInBounds_toArray, List.set_cons_zero, List.set_cons_succ]
            refine cl 13 rfl (by kernel_rfl) (fun K hK => ?_)
            obtain ⟨u0, u1, hu0, hu1, hz4, hz5⟩ := HS.2.2.1
            have gfin := HS.2.2.2
            go_simp
            refine hK.out _ _ ?s1_13 ?r1_13
            case s1_13 => exact ⟨grew_cell (by repeat' (first | with_reducible exact hg0 | with_reducible refine Grew.drew ?_ | with_reducible refine Grew.alloc ?_ _ | with_reducible refine Grew.setCell ?_ ?_ _ | (dsimp only; omega))) c0w, grew_cell (by repeat' (first | with_reducible exact hg0 | with_reducible refine Grew.drew ?_ | with_reducible refine Grew.alloc ?_ _ | with_reducible refine Grew.setCell ?_ ?_ _ | (dsimp only; omega))) c1w, Box2.grew (w := ((W.setCell ⟨w.heap.size, 0, none⟩ (.string x.name)).setCell ⟨w.heap.size, 1, none⟩ (.slice (some ⟨w.heap.size + 1, 0, none⟩) 0 0))) ⟨.string x.name, .slice (some ⟨w.heap.size + 1, 0, none⟩) 0 0, by simp [go_sem, f0], by simp [go_sem, f1], by simp [go_sem, z1], by simp [go_sem, z1]⟩ ((Grew.refl _).alloc _).drew, (by repeat' (first | with_reducible exact hg0 | with_reducible refine Grew.drew ?_ | with_reducible refine Grew.alloc ?_ _ | with_reducible refine Grew.setCell ?_ ?_ _ | (dsimp only; omega)))⟩
            case r1_13 =>
              clear HS
              intro HS
              clear hK K
              try simp only [Act.put, List.setIfInBounds_toArray, List.set_cons_zero, List.set_cons_succ]
              first
                | refine sk 14 rfl (by kernel_rfl) rfl HS ?_
                | (refine tk (v := ?v1_14) 14 rfl (by kernel_rfl) rfl ?y1_14 HS ?_; case y1_14 => (intro w' hSw; (try dsimp only at hSw); go_simp <;> (with_reducible rfl)))
              try simp only [Act.put, List.setIfInBounds_toArray, List.set_cons_zero, List.set_cons_succ]
              refine wpAnyH_done (by kernel_rfl) ?_ _
              refine NoPanic.normal ?_
              go_wp2
              have r0 := grew_cell ((Grew.refl ((W.setCell ⟨w.heap.size, 0, none⟩ (.string x.name)).setCell ⟨w.heap.size, 1, none⟩ (.slice (some ⟨w.heap.size + 1, 0, none⟩) 0 0))).alloc (.cells #[] 76)).drew (a := ⟨w.heap.size, 0, none⟩) (u := .string x.name) (by simp [go_sem, f0])
              have r1 := grew_cell ((Grew.refl ((W.setCell ⟨w.heap.size, 0, none⟩ (.string x.name)).setCell ⟨w.heap.size, 1, none⟩ (.slice (some ⟨w.heap.size + 1, 0, none⟩) 0 0))).alloc (.cells #[] 76)).drew (a := ⟨w.heap.size, 1, none⟩) (u := .slice (some ⟨w.heap.size + 1, 0, none⟩) 0 0) (by simp [go_sem, f1])
              refine bodyPost_ret (v := .tuple #[P2.v ⟨x.name, .slice (some ⟨w.heap.size + 1, 0, none⟩) 0 0⟩, .bool true]) (by simp [results, Try.results53, go_sem, r0, r1]) rfl ⟨⟨x.name, .slice (some ⟨w.heap.size + 1, 0, none⟩) 0 0⟩, ?_, ?_, ?_⟩
              · unfold fdB; rw [HN.out]; rfl
              · unfold fdD; rw [HN.out]
                have h := ownsRow_grew (lit_own ((W.setCell ⟨w.heap.size, 0, none⟩ (.string x.name)).setCell ⟨w.heap.size, 1, none⟩ (.slice (some ⟨w.heap.size + 1, 0, none⟩) 0 0)) 76 7) (Grew.refl _).drew
                rw [show ((W.setCell ⟨w.heap.size, 0, none⟩ (.string x.name)).setCell ⟨w.heap.size, 1, none⟩ (.slice (some ⟨w.heap.size + 1, 0, none⟩) 0 0)).heap.size = w.heap.size + 1 by simp [hsW]] at h
                refine ⟨rfl, ?_⟩
                simp only [Option.getD_some, HE.out]
                exact (own_of h).mono (by omega) (Nat.le_refl _)
              · exact (by repeat' (first | with_reducible exact hg0 | with_reducible refine Grew.drew ?_ | with_reducible refine Grew.alloc ?_ _ | with_reducible refine Grew.setCell ?_ ?_ _ | (dsimp only; omega)))
    | some pa =>
      have HP := Lib.hid hpr
      have HL := Lib.hid hpr.1
      clear hpr
      obtain ⟨i0, hi, hz0, hz1, hz2⟩ := info_parts Try.infoN
      go_wp2_with fail
      refine wp_region_noPanic ?_
      refine wp_region_held_drew (S := (fun w' => (w'.cell? ⟨b1, o1 + k * 2, none⟩ = some (.string x.name) ∧ w'.cell? ⟨b1, o1 + k * 2 + 1, none⟩ = some (.slice (some pa) x.query.length pc) ∧ Box2 w' w.heap.size ∧ Grew w w'))) (by kernel_rfl) ?h2_S ?h2_r
      case h2_S => exact ⟨grew_cell (Grew.refl _).drew c0, grew_cell (Grew.refl _).drew c1, hbx.grew (Grew.refl _).drew, hg0.drew⟩
      case h2_r =>
        intro HS
        first
          | refine sk 0 rfl (by kernel_rfl) rfl HS ?_
          | (refine tk (v := ?v2_0) 0 rfl (by kernel_rfl) rfl ?y2_0 HS ?_; case y2_0 => (intro w' hSw; (try dsimp only at hSw); go_simp <;> (with_reducible rfl)))
        try simp only [Act.put, List.setIfInBounds_toArray, List.set_cons_zero, List.set_cons_succ]
        first
          | refine sk 1 rfl (by kernel_rfl) rfl HS ?_
          | (refine tk (v := ?v2_1) 1 rfl (by kernel_rfl) rfl ?y2_1 HS ?_; case y2_1 => (intro w' hSw; (try dsimp only at hSw); go_simp <;> (with_reducible rfl)))
        try simp only [Act.put, List.setIfInBounds_toArray, List.set_cons_zero, List.set_cons_succ]
        first
          | refine sk 2 rfl (by kernel_rfl) rfl HS ?_
          | (refine tk (v := ?v2_2) 2 rfl (by kernel_rfl) rfl ?y2_2 HS ?_; case y2_2 => (intro w' hSw; (try dsimp only at hSw); go_simp <;> (with_reducible rfl)))
        try simp only [Act.put, List.setIfInBounds_toArray, List.set_cons_zero, List.set_cons_succ]
        first
          | refine sk 3 rfl (by kernel_rfl) rfl HS ?_
          | (refine tk (v := ?v2_3) 3 rfl (by kernel_rfl) rfl ?y2_3 HS ?_; case y2_3 => (intro w' hSw; (try dsimp only at hSw); go_simp <;> (with_reducible rfl)))
        try simp only [Act.put, List.setIfInBounds_toArray, List.set_cons_zero, List.set_cons_succ]
        first
          | refine sk 4 rfl (by kernel_rfl) rfl HS ?_
          | (refine tk (v := ?v2_4) 4 rfl (by kernel_rfl) rfl ?y2_4 HS ?_; case y2_4 => (intro w' hSw; (try dsimp only at hSw); go_simp <;> (with_reducible rfl)))
        try simp only [Act.put, List.setIfInBounds_toArray, List.set_cons_zero, List.set_cons_succ]
        first
          | refine sk 6 rfl (by kernel_rfl) rfl HS ?_
          | (refine tk (v := ?v2_6) 6 rfl (by kernel_rfl) rfl ?y2_6 HS ?_; case y2_6 => (intro w' hSw; (try dsimp only at hSw); go_simp <;> (with_reducible rfl)))
        try simp only [Act.put, List.setIfInBounds_toArray, List.set_cons_zero, List.set_cons_succ]
        first
          | refine sk 7 rfl (by kernel_rfl) rfl HS ?_
          | (refine tk (v := ?v2_7) 7 rfl (by kernel_rfl) rfl ?y2_7 HS ?_; case y2_7 => (intro w' hSw; (try dsimp only at hSw); go_simp <;> (with_reducible rfl)))
        try simp only [Act.put, List.setIfInBounds_toArray, List.set_cons_zero, List.set_cons_succ]
        first
          | refine sk 8 rfl (by kernel_rfl) rfl HS ?_
          | (refine tk (v := ?v2_8) 8 rfl (by kernel_rfl) rfl ?y2_8 HS ?_; case y2_8 => (intro w' hSw; (try dsimp only at hSw); go_simp <;> (with_reducible rfl)))
        try simp only [Act.put, List.setIfInBounds_toArray, List.set_cons_zero, List.set_cons_succ]
        first
          | refine sk 9 rfl (by kernel_rfl) rfl HS ?_
          | (refine tk (v := ?v2_9) 9 rfl (by kernel_rfl) rfl ?y2_9 HS ?_; case y2_9 => (intro w' hSw; (try dsimp only at hSw); go_simp <;> (with_reducible rfl)))
        try simp only [Act.put, List.setIfInBounds_toArray, List.set_cons_zero, List.set_cons_succ]
        first
          | refine sk 10 rfl (by kernel_rfl) rfl HS ?_
          | (refine tk (v := ?v2_10) 10 rfl (by kernel_rfl) rfl ?y2_10 HS ?_; case y2_10 => (intro w' hSw; (try dsimp only at hSw); go_simp <;> (with_reducible rfl)))
        try simp only [Act.put, List.setIfInBounds_toArray, List.set_cons_zero, List.set_cons_succ]
        refine cl 5 rfl (by kernel_rfl) (fun K hK => ?_)
        go_simp
        refine hK.out _ _ ?s2_5 ?r2_5
        case s2_5 => exact ⟨grew_cell (Grew.alloc (Grew.refl _) _) HS.1, grew_cell (Grew.alloc (Grew.refl _) _) HS.2.1, HS.2.2.1.grew (Grew.alloc (Grew.refl _) _), HS.2.2.2.alloc _⟩
        case r2_5 =>
          have HLit : Hid ((W.alloc (.cells #[] 76)).drew.ownsRow (w.heap.size + 1) 76 7 (.slice (some ⟨w.heap.size + 1, 0, none⟩) 0 0) 0 []) := by have h := ownsRow_grew (lit_own W 76 7) ((Grew.refl _).drew); rw [hsW] at h; exact h
          clear HS
          intro HS
          clear hK K
          try simp only [Act.put, List.setIfInBounds_toArray, List.set_cons_zero, List.set_cons_succ]
          refine cl 11 rfl (by kernel_rfl) (fun K hK => ?_)
          rw [if_pos (by rfl)]
          refine wp_append_own _ _ _ 47 rfl (w.heap.size + 1) 76 i0 _ 7 72 Try.underlying47 hi hz0 hz1 hz2 rfl (by decide) _ 0 [] rfl HLit.out pa x.query.length pc (rows N.c x.query) rfl HL.out (rd_news HP.out HS.2.2.2) (one_rows _) (by unfold maxLen; omega) (by omega) (by simp; omega) ?_
          intro v' w' hown' hgr _
          have hgw : Grew W w' := (Grew.alloc (Grew.refl W) _).drew.grown hgr (fun k h => by cases h; simp; omega)
          have HOW := Lib.hid hown'
          obtain ⟨ua, uc, rfl⟩ := own_slice hown'
          clear hown' hgr
          refine hK.out _ _ ?s2_11 ?r2_11
          case s2_11 => exact ⟨grew_cell hgw c0, grew_cell hgw c1, hbx.grew hgw, hg0.trans hgw⟩
          case r2_11 =>
            clear HS
            intro HS
            clear hK K
            try simp only [Act.put, List.setIfInBounds_toArray, List.set_cons_zero, List.set_cons_succ]
            first
              | refine sk 12 rfl (by kernel_rfl) rfl HS ?_
              | (refine tk (v := ?v2_12) 12 rfl (by kernel_rfl) rfl ?y2_12 HS ?_; case y2_12 => (intro w' hSw; (try dsimp only at hSw); go_simp <;> (with_reducible rfl)))
            try simp only [Act.put, List.setIfInBounds_toArray, List.set_cons_zero, List.set_cons_succ]
            refine cl 13 rfl (by kernel_rfl) (fun K hK => ?_)
            obtain ⟨u0, u1, hu0, hu1, hz4, hz5⟩ := HS.2.2.1
            have gfin := HS.2.2.2
            go_simp
            refine hK.out _ _ ?s2_13 ?r2_13
            case s2_13 => (refine ⟨grew_cell (by repeat' (first | with_reducible exact (hg0.trans hgw) | with_reducible refine Grew.drew ?_ | with_reducible refine Grew.alloc ?_ _ | with_reducible refine Grew.setCell ?_ ?_ _ | (dsimp only; omega))) c0w, grew_cell (by repeat' (first | with_reducible exact (hg0.trans hgw) | with_reducible refine Grew.drew ?_ | with_reducible refine Grew.alloc ?_ _ | with_reducible refine Grew.setCell ?_ ?_ _ | (dsimp only; omega))) c1w, ⟨.string x.name, .slice ua x.query.length uc, ?_, ?_, ?_, ?_⟩, (by repeat' (first | with_reducible exact (hg0.trans hgw) | with_reducible refine Grew.drew ?_ | with_reducible refine Grew.alloc ?_ _ | with_reducible refine Grew.setCell ?_ ?_ _ | (dsimp only; omega)))⟩ <;> simp [go_sem, hu0, hu1, hz4, hz5])
            case r2_13 =>
              clear HS
              intro HS
              clear hK K
              try simp only [Act.put, List.setIfInBounds_toArray, List.set_cons_zero, List.set_cons_succ]
              first
                | refine sk 14 rfl (by kernel_rfl) rfl HS ?_
                | (refine tk (v := ?v2_14) 14 rfl (by kernel_rfl) rfl ?y2_14 HS ?_; case y2_14 => (intro w' hSw; (try dsimp only at hSw); go_simp <;> (with_reducible rfl)))
              try simp only [Act.put, List.setIfInBounds_toArray, List.set_cons_zero, List.set_cons_succ]
              refine wpAnyH_done (by kernel_rfl) ?_ _
              refine NoPanic.normal ?_
              go_wp2
              refine bodyPost_ret (v := .tuple #[P2.v ⟨x.name, .slice ua x.query.length uc⟩, .bool true]) (by simp [results, Try.results53, go_sem, hu0, hu1]) rfl ⟨⟨x.name, .slice ua x.query.length uc⟩, ?_, ?_, ?_⟩
              · unfold fdB; rw [HN.out]; rfl
              · unfold fdD; rw [HN.out]
                have h : w'.ownsRow (w.heap.size + 1) 76 7 (.slice ua x.query.length uc) x.query.length (rows N.c x.query) := by simpa using HOW.out
                exact ⟨rfl, (own_of (ownsRow_setCell_below (ownsRow_setCell_below h (a := ⟨w.heap.size, 0, none⟩) (by simp) (Value.string x.name)) (a := ⟨w.heap.size, 1, none⟩) (by simp) (.slice ua x.query.length uc))).mono (by omega) (Nat.le_refl _)⟩
              · exact (by repeat' (first | with_reducible exact (hg0.trans hgw) | with_reducible refine Grew.drew ?_ | with_reducible refine Grew.alloc ?_ _ | with_reducible refine Grew.setCell ?_ ?_ _ | (dsimp only; omega)))
end Go.Proofs.Ytgekgokkbakcmaa
