/- Texts B1, as far as they are needed. -/
import Derived.Test.YtejgpghcahinhaaGreatVi1
import Derived.Test.YtejgpghcahinhaaGreatVi3
import Derived.Test.YtejgpghcahinhaaGreatVi0
namespace Go.Proofs.YtejgpghcahinhaaGreat
open Go.RowKit
set_option linter.unusedVariables false
def prevOk {α : Type} (lt : α → α → Bool) (xs : List α) (i : Nat) (x : α) : Bool := match i with
  | 0 => true
  | j + 1 => match xs[j]? with
    | some y => lt y x
    | none => true
theorem prevOk_succ {α : Type} {lt : α → α → Bool} {xs : List α} {p : Nat} {x y : α} (h : xs[p]? = some y) : prevOk lt xs (p + 1) x = lt y x := by unfold prevOk; simp only; rw [h]
def allFrom {α : Type} (f : Nat → α → Bool) : Nat → List α → Bool
  | _, [] => true
  | i, x :: xs => f i x && allFrom f (i + 1) xs
theorem allFrom_no {α : Type} {f : Nat → α → Bool} : ∀ {xs : List α} {i k : Nat} {x : α}, xs[k]? = some x → f (i + k) x = false → allFrom f i xs = false
  | [], i, k, x, h, _ => by simp at h
  | y :: ys, i, 0, x, h, hf => by
    obtain rfl : y = x := by simpa using h
    unfold allFrom; rw [show f i y = false from hf]; rfl
  | y :: ys, i, k + 1, x, h, hf => by
    unfold allFrom
    rw [allFrom_no (xs := ys) (i := i + 1) (k := k) (x := x) (by simpa using h) (by rw [show i + 1 + k = i + (k + 1) by omega]; exact hf)]; simp
theorem allFrom_yes {α : Type} {f : Nat → α → Bool} : ∀ {xs : List α} {i : Nat}, (∀ (k : Nat) x, xs[k]? = some x → f (i + k) x = true) → allFrom f i xs = true
  | [], i, _ => rfl
  | y :: ys, i, h => by
    unfold allFrom
    rw [show f i y = true from h 0 y rfl, allFrom_yes (xs := ys) (i := i + 1) (fun k x hx => by rw [show i + 1 + k = i + (k + 1) by omega]; exact h (k + 1) x (by simpa using hx))]; rfl
def upTo {α : Type} (f : Nat → α → Bool) (xs : List α) (k : Nat) : Prop := ∀ (j : Nat) y, j < k → xs[j]? = some y → f j y = true
theorem upTo_zero {α : Type} (f : Nat → α → Bool) (xs : List α) : upTo f xs 0 := fun j y h => absurd h (Nat.not_lt_zero j)
theorem upTo_snoc {α : Type} {f : Nat → α → Bool} {xs : List α} {k : Nat} {x : α} (h : upTo f xs k) (hx : xs[k]? = some x) (hn : f k x = true) : upTo f xs (k + 1) := fun j y hj hy => by
  rcases Nat.lt_succ_iff_lt_or_eq.1 hj with h1 | rfl
  · exact h j y h1 hy
  · obtain rfl := Option.some.inj (hx.symm.trans hy); exact hn
theorem all_up {α : Type} {f : Nat → α → Bool} {xs : List α} {n : Nat} (hn : xs.length = n) (h : upTo f xs n) : allFrom f 0 xs = true :=
  allFrom_yes fun k x hx => by rw [Nat.zero_add]; exact h k x (by have := (List.getElem?_eq_some_iff.1 hx).1; omega) hx
theorem all_not {α : Type} {f : Nat → α → Bool} {xs : List α} {k : Nat} {x : α} (hx : xs[k]? = some x) (h : f k x = false) : allFrom f 0 xs = false := allFrom_no hx (by rw [Nat.zero_add]; exact h)
noncomputable def schAt (xs : List Fd) (i : Nat) (x : Fd) : Bool := txtB x.name 1 && (inB x.kind 1 2 && prevOk (fun y x => Op.bytesLess y.name.toList x.name.toList) xs i x)
noncomputable def schB (xs : List Fd) : Bool := allFrom (schAt xs) 0 xs && decide (xs.length ≤ 5)
def fkK : List Fd → ByteArray → Int
  | [], _ => 0
  | x :: xs, s => if x.name.toList == s.toList then x.kind else fkK xs s
theorem fk_yes : ∀ {xs : List Fd} {s : ByteArray} {k : Nat} {x : Fd}, (∀ (j : Nat) y, j < k → xs[j]? = some y → (y.name.toList == s.toList) = false) → xs[k]? = some x → (x.name.toList == s.toList) = true → fkK xs s = x.kind
  | [], s, k, x, _, h, _ => by simp at h
  | y :: ys, s, 0, x, _, h, h2 => by
    simp at h; subst h; unfold fkK; rw [h2]; rfl
  | y :: ys, s, k + 1, x, h1, h, h2 => by
    have h3 := h1 0 y (Nat.succ_pos k) rfl
    unfold fkK; rw [h3]
    exact fk_yes (k := k) (fun j z hj hz => h1 (j + 1) z (Nat.succ_lt_succ hj) (by simpa using hz)) (by simpa using h) h2
theorem fk_no : ∀ {xs : List Fd} {s : ByteArray}, (∀ (j : Nat) y, j < xs.length → xs[j]? = some y → (y.name.toList == s.toList) = false) → fkK xs s = 0
  | [], s, _ => rfl
  | y :: ys, s, h1 => by
    have h3 := h1 0 y (by simp) rfl
    unfold fkK; rw [h3]
    exact fk_no (fun j z hj hz => h1 (j + 1) z (by simpa using hj) (by simpa using hz))
noncomputable def mscB (fs : List Fd) (s : ByteArray) (v : V) : Bool := valB v && ((v.kind != 0) && (v.kind == fkK fs s))
noncomputable def filAt (fs : List Fd) (xs : List At) (i : Nat) (x : At) : Bool := mscB fs x.name x.val && prevOk (fun y x => Op.bytesLess y.name.toList x.name.toList) xs i x
noncomputable def filB (fs : List Fd) (f : Fl) : Bool := allFrom (filAt fs f.attrs) 0 f.attrs && (schB fs && (inB f.id 1 60 && (inB f.owner 0 2 && inB f.link 0 60)))
noncomputable def stoAt (s : St) (i : Nat) (f : Fl) : Bool := filB s.schema f && (decide (f.id < s.next) && prevOk (fun y x => decide (y.id < x.id)) s.files i f)
noncomputable def stoB (s : St) : Bool := allFrom (stoAt s) 0 s.files && (schB s.schema && (decide (s.files.length ≤ 12) && inB s.next 1 61))
theorem fd_sz {xs : List Fd} {x : Fd} {i : Nat} (hz : szAll Fd.sz xs ≤ 4000000) (h : xs[i]? = some x) : x.name.size ≤ 4000000 := by
  have h1 := mem_szAll (f := Fd.sz) (List.mem_of_getElem? h)
  unfold Fd.sz at h1 hz
  omega
theorem at_sz {xs : List At} {x : At} {i : Nat} (hz : szAll At.sz xs ≤ 4000000) (h : xs[i]? = some x) : x.name.size ≤ 4000000 ∧ x.val.str.size ≤ 4000000 := by
  have h1 := mem_szAll (f := At.sz) (List.mem_of_getElem? h)
  unfold At.sz V.sz at h1 hz
  constructor <;> omega
theorem fl_sz {xs : List Fl} {x : Fl} {i : Nat} (hz : szAll Fl.sz xs ≤ 4000000) (h : xs[i]? = some x) : x.sz ≤ 4000000 := Nat.le_trans (mem_szAll (f := Fl.sz) (List.mem_of_getElem? h)) hz
theorem in12 {k : Int} : inB k 1 2 = ((k == 1) || (k == 2)) := by
  unfold inB
  rw [Bool.eq_iff_iff]
  simp
  omega
set_option maxRecDepth 100000 in
set_option maxHeartbeats 1000000 in
theorem specFieldKind (va : Value) (n : Nat) (xs : List Fd) (s : ByteArray) (w : World) (ha : Rd w va 2 n (rows Fd.c xs)) (hx : n ≤ 4000000) :
  Calls Tryz.prog 207 #[va, .string s] w fun e w' => e = .returned (.int .i64 (fkK xs s)) ∧ Grew w w' := by
 obtain ⟨a, ca, rfl, hca, hra⟩ := ha
 have HX := Lib.hid (hra.len_rows Fd.len (by decide))
 go_enter Tryz.func207, Tryz.ntmps207
 go_wp2
 go_loopw [5] (fun i wr => ∃ k : Nat, k ≤ n ∧ i = .int .i64 k ∧ Hid (∀ (j : Nat) y, j < k → xs[j]? = some y → (y.name.toList == s.toList) = false) ∧ Grew w wr) (fun i _ => n - (intOf i).toNat)
 case atStart => exact ⟨0, Nat.zero_le _, rfl, Lib.hid (fun j y h => absurd h (Nat.not_lt_zero j)), Grew.refl _⟩
 case round =>
  obtain ⟨k, hk, rfl, hall, hbel⟩ := hrel
  by_cases hlt : k < n
  ·
   obtain ⟨b1, o1, x, rfl, hxk, c0, c1⟩ := (hra.grew hbel).getFd hlt
   have hcs : (x.name.toList == s.toList) = true ∨ (x.name.toList == s.toList) = false := by cases x.name.toList == s.toList <;> simp
   rcases hcs with hn | hn
   ·
    go_wp2
    go_ret
    exact ⟨ret_int (fk_yes hall.out hxk.out hn).symm, hbel⟩
   ·
    go_wp2
    go_roundw
    case rel => exact ⟨k + 1, by omega, by go_num, Lib.hid (fun j y hj hy => by
     rcases Nat.lt_succ_iff_lt_or_eq.1 hj with h1 | rfl
     ·
      exact hall.out j y h1 hy
     ·
      obtain rfl := Option.some.inj (hxk.out.symm.trans hy); exact hn), hbel⟩
    case measure => simp [intOf]; omega
  ·
   obtain rfl : k = n := by omega
   go_wp2
   go_ret
   exact ⟨ret_int (fk_no (fun j y h h2 => hall.out j y (by rw [← HX.out]; exact h) h2)).symm, hbel⟩
set_option maxRecDepth 100000 in
set_option maxHeartbeats 1000000 in
theorem implFieldKind (va : Value) (n : Nat) (xs : List Fd) (s : ByteArray) (w : World) (ha : Rd w va 2 n (rows Fd.c xs)) (hx : n ≤ 4000000) :
  Calls Tryz.prog 243 #[va, .string s] w fun e w' => e = .returned (.int .i64 (fkK xs s)) ∧ Grew w w' := by
 obtain ⟨a, ca, rfl, hca, hra⟩ := ha
 have HX := Lib.hid (hra.len_rows Fd.len (by decide))
 go_enter Tryz.func243, Tryz.ntmps243
 go_wp2
 go_loopw [9] (fun i wr => ∃ k : Nat, k ≤ n ∧ i = .int .i64 k ∧ Hid (∀ (j : Nat) y, j < k → xs[j]? = some y → (y.name.toList == s.toList) = false) ∧ Grew w wr) (fun i _ => n - (intOf i).toNat)
 case atStart => exact ⟨0, Nat.zero_le _, rfl, Lib.hid (fun j y h => absurd h (Nat.not_lt_zero j)), Grew.refl _⟩
 case round =>
  obtain ⟨k, hk, rfl, hall, hbel⟩ := hrel
  by_cases hlt : k < n
  ·
   obtain ⟨b1, o1, x, rfl, hxk, c0, c1⟩ := (hra.grew hbel).getFd hlt
   have hcs : (x.name.toList == s.toList) = true ∨ (x.name.toList == s.toList) = false := by cases x.name.toList == s.toList <;> simp
   rcases hcs with hn | hn
   ·
    go_wp2
    go_ret
    exact ⟨ret_int (fk_yes hall.out hxk.out hn).symm, hbel.alloc _⟩
   ·
    go_wp2
    go_roundw
    case rel => exact ⟨k + 1, by omega, by go_num, Lib.hid (fun j y hj hy => by
     rcases Nat.lt_succ_iff_lt_or_eq.1 hj with h1 | rfl
     ·
      exact hall.out j y h1 hy
     ·
      obtain rfl := Option.some.inj (hxk.out.symm.trans hy); exact hn), hbel.alloc _⟩
    case measure => simp [intOf]; omega
  ·
   obtain rfl : k = n := by omega
   go_wp2
   go_ret
   exact ⟨ret_int (fk_no (fun j y h h2 => hall.out j y (by rw [← HX.out]; exact h) h2)).symm, hbel⟩
set_option maxRecDepth 100000 in
set_option maxHeartbeats 2000000 in
theorem specMatchesSchema (va : Value) (n : Nat) (xs : List Fd) (s : ByteArray) (v : V) (w : World) (ha : Rd w va 2 n (rows Fd.c xs)) (hx : n ≤ 4000000) (hs : v.str.size ≤ 4000000) :
  Calls Tryz.prog 154 #[va, .string s, v.v] w fun e w' => e = .returned (.bool (mscB xs s v)) ∧ Grew w w' := by
 have HA := Lib.hid ha
 obtain ⟨a, ca, rfl, hca, hra⟩ := ha
 clear hra
 obtain ⟨bv, hbv⟩ : ∃ b, valB v = b := ⟨_, rfl⟩
 have HV := Lib.hid hbv
 clear hbv
 have hcv : bv = false ∨ bv = true := by cases bv <;> simp
 have hck : (v.kind == 0) = true ∨ (v.kind == 0) = false := by cases v.kind == 0 <;> simp
 have hal := (Grew.refl w).alloc (.cells #[.int .i64 v.kind, .int .i64 v.int, .string v.str] 157)
 rcases hcv with rfl | rfl
 ·
  have hk0 := hx
  have k0 : (w.alloc (.cells #[.int .i64 v.kind, .int .i64 v.int, .string v.str] 157)).cell? ⟨w.heap.size, 0, none⟩ = some (.int .i64 v.kind) := by simp
  have k1 : (w.alloc (.cells #[.int .i64 v.kind, .int .i64 v.int, .string v.str] 157)).cell? ⟨w.heap.size, 1, none⟩ = some (.int .i64 v.int) := by simp
  have k2 : (w.alloc (.cells #[.int .i64 v.kind, .int .i64 v.int, .string v.str] 157)).cell? ⟨w.heap.size, 2, none⟩ = some (.string v.str) := by simp
  go_enter Tryz.func154, Tryz.ntmps154
  go_wp2_with fail
  refine wp_region_noPanic ?_
  refine wp_region_held_drew (S := (fun w' => (w'.cell? ⟨w.heap.size, 0, none⟩ = some (.int .i64 v.kind) ∧ w'.cell? ⟨w.heap.size, 1, none⟩ = some (.int .i64 v.int) ∧ w'.cell? ⟨w.heap.size, 2, none⟩ = some (.string v.str) ∧ Grew (w.alloc (.cells #[.int .i64 v.kind, .int .i64 v.int, .string v.str] 157)) w'))) (by kernel_rfl) ?h1_S ?h1_r
  case h1_S => exact ⟨grew_cell (Grew.refl _).drew k0, grew_cell (Grew.refl _).drew k1, grew_cell (Grew.refl _).drew k2, (Grew.refl _).drew⟩
  case h1_r =>
   intro HS
   (refine tk (v := ?v1_0) 0 rfl (by kernel_rfl) rfl ?y1_0 HS ?_; case y1_0 => (intro w' hSw; (try dsimp only at hSw); go_simp <;> (with_reducible rfl)))
   try simp only [Act.put, lpa, lpb, lpc]
   refine cl 1 rfl (by kernel_rfl) (fun K hK => ?_)
   go_simp
   go_at_call 206
   refine (specIsValidValue v _ hs).mono ?_
   rintro e w1 ⟨he, hb⟩
   rw [HV.out] at he
   subst he
   refine hK.out _ _ ?s1_1 ?r1_1
   case s1_1 => (try dsimp only); exact ⟨grew_cell hb HS.1, grew_cell hb HS.2.1, grew_cell hb HS.2.2.1, HS.2.2.2.trans hb⟩
   case r1_1 =>
    clear HS
    intro HS
    clear hK K
    try simp only [Act.put, lpa, lpb, lpc]
    (refine tk (v := ?v1_2) 2 rfl (by kernel_rfl) rfl ?y1_2 HS ?_; case y1_2 => (intro w' hSw; (try dsimp only at hSw); go_simp <;> (with_reducible rfl)))
    try simp only [Act.put, lpa, lpb, lpc]
    refine sk 3 rfl (by kernel_rfl) rfl HS ?_
    try simp only [Act.put, lpa, lpb, lpc]
    refine sk 4 rfl (by kernel_rfl) rfl HS ?_
    try simp only [Act.put, lpa, lpb, lpc]
    refine sk 5 rfl (by kernel_rfl) rfl HS ?_
    try simp only [Act.put, lpa, lpb, lpc]
    (refine tk (v := ?v1_6) 6 rfl (by kernel_rfl) rfl ?y1_6 HS ?_; case y1_6 => (intro w' hSw; (try dsimp only at hSw); go_simp <;> (with_reducible rfl)))
    try simp only [Act.put, lpa, lpb, lpc]
    (refine tk (v := ?v1_7) 7 rfl (by kernel_rfl) rfl ?y1_7 HS ?_; case y1_7 => (intro w' hSw; (try dsimp only at hSw); go_simp <;> (with_reducible rfl)))
    try simp only [Act.put, lpa, lpb, lpc]
    refine sk 8 rfl (by kernel_rfl) rfl HS ?_
    try simp only [Act.put, lpa, lpb, lpc]
    refine sk 9 rfl (by kernel_rfl) rfl HS ?_
    try simp only [Act.put, lpa, lpb, lpc]
    refine sk 10 rfl (by kernel_rfl) rfl HS ?_
    try simp only [Act.put, lpa, lpb, lpc]
    refine sk 11 rfl (by kernel_rfl) rfl HS ?_
    try simp only [Act.put, lpa, lpb, lpc]
    refine cl 12 rfl (by kernel_rfl) (fun K hK => ?_)
    go_simp
    refine hK.out _ _ ?s1_12 ?r1_12
    case s1_12 => (try dsimp only); exact HS
    case r1_12 =>
     clear HS
     intro HS
     clear hK K
     try simp only [Act.put, lpa, lpb, lpc]
     refine sk 13 rfl (by kernel_rfl) rfl HS ?_
     try simp only [Act.put, lpa, lpb, lpc]
     (refine tk (v := ?v1_14) 14 rfl (by kernel_rfl) rfl ?y1_14 HS ?_; case y1_14 => (intro w' hSw; (try dsimp only at hSw); go_simp <;> (with_reducible rfl)))
     try simp only [Act.put, lpa, lpb, lpc]
     (refine tk (v := ?v1_15) 15 rfl (by kernel_rfl) rfl ?y1_15 HS ?_; case y1_15 => (intro w' hSw; (try dsimp only at hSw); go_simp <;> (with_reducible rfl)))
     try simp only [Act.put, lpa, lpb, lpc]
     refine wpAnyH_done (by kernel_rfl) ?_ _
     refine NoPanic.normal ?_
     go_wp2
     go_ret
     refine ⟨ret_bool ?_, hal.trans HS.2.2.2⟩
     unfold mscB; rw [HV.out]; simp
 ·
  rcases hck with hk | hk
  ·
   have hk0 := hx
   have hk2 : (v.kind != 0) = false := by unfold bne; rw [hk]; rfl
   have k0 : (w.alloc (.cells #[.int .i64 v.kind, .int .i64 v.int, .string v.str] 157)).cell? ⟨w.heap.size, 0, none⟩ = some (.int .i64 v.kind) := by simp
   have k1 : (w.alloc (.cells #[.int .i64 v.kind, .int .i64 v.int, .string v.str] 157)).cell? ⟨w.heap.size, 1, none⟩ = some (.int .i64 v.int) := by simp
   have k2 : (w.alloc (.cells #[.int .i64 v.kind, .int .i64 v.int, .string v.str] 157)).cell? ⟨w.heap.size, 2, none⟩ = some (.string v.str) := by simp
   go_enter Tryz.func154, Tryz.ntmps154
   go_wp2_with fail
   refine wp_region_noPanic ?_
   refine wp_region_held_drew (S := (fun w' => (w'.cell? ⟨w.heap.size, 0, none⟩ = some (.int .i64 v.kind) ∧ w'.cell? ⟨w.heap.size, 1, none⟩ = some (.int .i64 v.int) ∧ w'.cell? ⟨w.heap.size, 2, none⟩ = some (.string v.str) ∧ Grew (w.alloc (.cells #[.int .i64 v.kind, .int .i64 v.int, .string v.str] 157)) w'))) (by kernel_rfl) ?h2_S ?h2_r
   case h2_S => exact ⟨grew_cell (Grew.refl _).drew k0, grew_cell (Grew.refl _).drew k1, grew_cell (Grew.refl _).drew k2, (Grew.refl _).drew⟩
   case h2_r =>
    intro HS
    (refine tk (v := ?v2_0) 0 rfl (by kernel_rfl) rfl ?y2_0 HS ?_; case y2_0 => (intro w' hSw; (try dsimp only at hSw); go_simp <;> (with_reducible rfl)))
    try simp only [Act.put, lpa, lpb, lpc]
    refine cl 1 rfl (by kernel_rfl) (fun K hK => ?_)
    go_simp
    go_at_call 206
    refine (specIsValidValue v _ hs).mono ?_
    rintro e w1 ⟨he, hb⟩
    rw [HV.out] at he
    subst he
    refine hK.out _ _ ?s2_1 ?r2_1
    case s2_1 => (try dsimp only); exact ⟨grew_cell hb HS.1, grew_cell hb HS.2.1, grew_cell hb HS.2.2.1, HS.2.2.2.trans hb⟩
    case r2_1 =>
     clear HS
     intro HS
     clear hK K
     try simp only [Act.put, lpa, lpb, lpc]
     (refine tk (v := ?v2_2) 2 rfl (by kernel_rfl) rfl ?y2_2 HS ?_; case y2_2 => (intro w' hSw; (try dsimp only at hSw); go_simp <;> (with_reducible rfl)))
     try simp only [Act.put, lpa, lpb, lpc]
     (refine tk (v := ?v2_3) 3 rfl (by kernel_rfl) rfl ?y2_3 HS ?_; case y2_3 => (intro w' hSw; (try dsimp only at hSw); go_simp <;> (with_reducible rfl)))
     try simp only [Act.put, lpa, lpb, lpc]
     (refine tk (v := ?v2_4) 4 rfl (by kernel_rfl) rfl ?y2_4 HS ?_; case y2_4 => (intro w' hSw; (try dsimp only at hSw); go_simp <;> (with_reducible rfl)))
     try simp only [Act.put, lpa, lpb, lpc]
     (refine tk (v := ?v2_5) 5 rfl (by kernel_rfl) rfl ?y2_5 HS ?_; case y2_5 => (intro w' hSw; (try dsimp only at hSw); go_simp <;> (with_reducible rfl)))
     try simp only [Act.put, lpa, lpb, lpc]
     (refine tk (v := ?v2_6) 6 rfl (by kernel_rfl) rfl ?y2_6 HS ?_; case y2_6 => (intro w' hSw; (try dsimp only at hSw); go_simp <;> (with_reducible rfl)))
     try simp only [Act.put, lpa, lpb, lpc]
     (refine tk (v := ?v2_7) 7 rfl (by kernel_rfl) rfl ?y2_7 HS ?_; case y2_7 => (intro w' hSw; (try dsimp only at hSw); go_simp <;> (with_reducible rfl)))
     try simp only [Act.put, lpa, lpb, lpc]
     refine sk 8 rfl (by kernel_rfl) rfl HS ?_
     try simp only [Act.put, lpa, lpb, lpc]
     refine sk 9 rfl (by kernel_rfl) rfl HS ?_
     try simp only [Act.put, lpa, lpb, lpc]
     refine sk 10 rfl (by kernel_rfl) rfl HS ?_
     try simp only [Act.put, lpa, lpb, lpc]
     refine sk 11 rfl (by kernel_rfl) rfl HS ?_
     try simp only [Act.put, lpa, lpb, lpc]
     refine cl 12 rfl (by kernel_rfl) (fun K hK => ?_)
     go_simp
     refine hK.out _ _ ?s2_12 ?r2_12
     case s2_12 => (try dsimp only); exact HS
     case r2_12 =>
      clear HS
      intro HS
      clear hK K
      try simp only [Act.put, lpa, lpb, lpc]
      refine sk 13 rfl (by kernel_rfl) rfl HS ?_
      try simp only [Act.put, lpa, lpb, lpc]
      (refine tk (v := ?v2_14) 14 rfl (by kernel_rfl) rfl ?y2_14 HS ?_; case y2_14 => (intro w' hSw; (try dsimp only at hSw); go_simp <;> (with_reducible rfl)))
      try simp only [Act.put, lpa, lpb, lpc]
      (refine tk (v := ?v2_15) 15 rfl (by kernel_rfl) rfl ?y2_15 HS ?_; case y2_15 => (intro w' hSw; (try dsimp only at hSw); go_simp <;> (with_reducible rfl)))
      try simp only [Act.put, lpa, lpb, lpc]
      refine wpAnyH_done (by kernel_rfl) ?_ _
      refine NoPanic.normal ?_
      go_wp2
      go_ret
      refine ⟨ret_bool ?_, hal.trans HS.2.2.2⟩
      unfold mscB; rw [HV.out, hk2]; simp
  ·
   have hk0 := hx
   have hk2 : (v.kind != 0) = true := by unfold bne; rw [hk]; rfl
   have hk3 : ¬ (v.kind = 0) := by simpa using hk
   have k0 : (w.alloc (.cells #[.int .i64 v.kind, .int .i64 v.int, .string v.str] 157)).cell? ⟨w.heap.size, 0, none⟩ = some (.int .i64 v.kind) := by simp
   have k1 : (w.alloc (.cells #[.int .i64 v.kind, .int .i64 v.int, .string v.str] 157)).cell? ⟨w.heap.size, 1, none⟩ = some (.int .i64 v.int) := by simp
   have k2 : (w.alloc (.cells #[.int .i64 v.kind, .int .i64 v.int, .string v.str] 157)).cell? ⟨w.heap.size, 2, none⟩ = some (.string v.str) := by simp
   go_enter Tryz.func154, Tryz.ntmps154
   go_wp2_with fail
   refine wp_region_noPanic ?_
   refine wp_region_held_drew (S := (fun w' => (w'.cell? ⟨w.heap.size, 0, none⟩ = some (.int .i64 v.kind) ∧ w'.cell? ⟨w.heap.size, 1, none⟩ = some (.int .i64 v.int) ∧ w'.cell? ⟨w.heap.size, 2, none⟩ = some (.string v.str) ∧ Grew (w.alloc (.cells #[.int .i64 v.kind, .int .i64 v.int, .string v.str] 157)) w'))) (by kernel_rfl) ?h3_S ?h3_r
   case h3_S => exact ⟨grew_cell (Grew.refl _).drew k0, grew_cell (Grew.refl _).drew k1, grew_cell (Grew.refl _).drew k2, (Grew.refl _).drew⟩
   case h3_r =>
    intro HS
    (refine tk (v := ?v3_0) 0 rfl (by kernel_rfl) rfl ?y3_0 HS ?_; case y3_0 => (intro w' hSw; (try dsimp only at hSw); go_simp <;> (with_reducible rfl)))
    try simp only [Act.put, lpa, lpb, lpc]
    refine cl 1 rfl (by kernel_rfl) (fun K hK => ?_)
    go_simp
    go_at_call 206
    refine (specIsValidValue v _ hs).mono ?_
    rintro e w1 ⟨he, hb⟩
    rw [HV.out] at he
    subst he
    refine hK.out _ _ ?s3_1 ?r3_1
    case s3_1 => (try dsimp only); exact ⟨grew_cell hb HS.1, grew_cell hb HS.2.1, grew_cell hb HS.2.2.1, HS.2.2.2.trans hb⟩
    case r3_1 =>
     clear HS
     intro HS
     clear hK K
     try simp only [Act.put, lpa, lpb, lpc]
     (refine tk (v := ?v3_2) 2 rfl (by kernel_rfl) rfl ?y3_2 HS ?_; case y3_2 => (intro w' hSw; (try dsimp only at hSw); go_simp <;> (with_reducible rfl)))
     try simp only [Act.put, lpa, lpb, lpc]
     (refine tk (v := ?v3_3) 3 rfl (by kernel_rfl) rfl ?y3_3 HS ?_; case y3_3 => (intro w' hSw; (try dsimp only at hSw); go_simp <;> (with_reducible rfl)))
     try simp only [Act.put, lpa, lpb, lpc]
     (refine tk (v := ?v3_4) 4 rfl (by kernel_rfl) rfl ?y3_4 HS ?_; case y3_4 => (intro w' hSw; (try dsimp only at hSw); go_simp <;> (with_reducible rfl)))
     try simp only [Act.put, lpa, lpb, lpc]
     (refine tk (v := ?v3_5) 5 rfl (by kernel_rfl) rfl ?y3_5 HS ?_; case y3_5 => (intro w' hSw; (try dsimp only at hSw); go_simp <;> (with_reducible rfl)))
     try simp only [Act.put, lpa, lpb, lpc]
     (refine tk (v := ?v3_6) 6 rfl (by kernel_rfl) rfl ?y3_6 HS ?_; case y3_6 => (intro w' hSw; (try dsimp only at hSw); go_simp <;> (with_reducible rfl)))
     try simp only [Act.put, lpa, lpb, lpc]
     (refine tk (v := ?v3_7) 7 rfl (by kernel_rfl) rfl ?y3_7 HS ?_; case y3_7 => (intro w' hSw; (try dsimp only at hSw); go_simp <;> (with_reducible rfl)))
     try simp only [Act.put, lpa, lpb, lpc]
     (refine tk (v := ?v3_8) 8 rfl (by kernel_rfl) rfl ?y3_8 HS ?_; case y3_8 => (intro w' hSw; (try dsimp only at hSw); go_simp <;> (with_reducible rfl)))
     try simp only [Act.put, lpa, lpb, lpc]
     (refine tk (v := ?v3_9) 9 rfl (by kernel_rfl) rfl ?y3_9 HS ?_; case y3_9 => (intro w' hSw; (try dsimp only at hSw); go_simp <;> (with_reducible rfl)))
     try simp only [Act.put, lpa, lpb, lpc]
     (refine tk (v := ?v3_10) 10 rfl (by kernel_rfl) rfl ?y3_10 HS ?_; case y3_10 => (intro w' hSw; (try dsimp only at hSw); go_simp <;> (with_reducible rfl)))
     try simp only [Act.put, lpa, lpb, lpc]
     (refine tk (v := ?v3_11) 11 rfl (by kernel_rfl) rfl ?y3_11 HS ?_; case y3_11 => (intro w' hSw; (try dsimp only at hSw); go_simp <;> (with_reducible rfl)))
     try simp only [Act.put, lpa, lpb, lpc]
     refine cl 12 rfl (by kernel_rfl) (fun K hK => ?_)
     go_simp
     go_at_call 207
     refine (specFieldKind _ n xs s _ (HA.out.grew (hal.trans HS.2.2.2)) hx).mono ?_
     rintro e w2 ⟨rfl, hb⟩
     refine hK.out _ _ ?s3_12 ?r3_12
     case s3_12 => (try dsimp only); exact ⟨grew_cell hb HS.1, grew_cell hb HS.2.1, grew_cell hb HS.2.2.1, HS.2.2.2.trans hb⟩
     case r3_12 =>
      clear HS
      intro HS
      clear hK K
      try simp only [Act.put, lpa, lpb, lpc]
      (refine tk (v := ?v3_13) 13 rfl (by kernel_rfl) rfl ?y3_13 HS ?_; case y3_13 => (intro w' hSw; (try dsimp only at hSw); go_simp <;> (with_reducible rfl)))
      try simp only [Act.put, lpa, lpb, lpc]
      (refine tk (v := ?v3_14) 14 rfl (by kernel_rfl) rfl ?y3_14 HS ?_; case y3_14 => (intro w' hSw; (try dsimp only at hSw); go_simp <;> (with_reducible rfl)))
      try simp only [Act.put, lpa, lpb, lpc]
      (refine tk (v := ?v3_15) 15 rfl (by kernel_rfl) rfl ?y3_15 HS ?_; case y3_15 => (intro w' hSw; (try dsimp only at hSw); go_simp <;> (with_reducible rfl)))
      try simp only [Act.put, lpa, lpb, lpc]
      refine wpAnyH_done (by kernel_rfl) ?_ _
      refine NoPanic.normal ?_
      go_wp2
      go_ret
      refine ⟨ret_bool ?_, hal.trans HS.2.2.2⟩
      unfold mscB; rw [HV.out, hk2]; simp
set_option maxRecDepth 100000 in
set_option maxHeartbeats 2000000 in
theorem implMatchesSchema (va : Value) (n : Nat) (xs : List Fd) (s : ByteArray) (v : V) (w : World) (ha : Rd w va 2 n (rows Fd.c xs)) (hx : n ≤ 4000000) (hs : v.str.size ≤ 4000000) :
  Calls Tryz.prog 219 #[va, .string s, v.v] w fun e w' => e = .returned (.bool (mscB xs s v)) ∧ Grew w w' := by
 have HA := Lib.hid ha
 obtain ⟨a, ca, rfl, hca, hra⟩ := ha
 clear hra
 obtain ⟨bv, hbv⟩ : ∃ b, valB v = b := ⟨_, rfl⟩
 have HV := Lib.hid hbv
 clear hbv
 have hcv : bv = false ∨ bv = true := by cases bv <;> simp
 have hck : (v.kind == 0) = true ∨ (v.kind == 0) = false := by cases v.kind == 0 <;> simp
 have hal := (Grew.refl w).alloc (.cells #[.int .i64 v.kind, .int .i64 v.int, .string v.str] 157)
 rcases hcv with rfl | rfl
 ·
  have hk0 := hx
  have k0 : (w.alloc (.cells #[.int .i64 v.kind, .int .i64 v.int, .string v.str] 157)).cell? ⟨w.heap.size, 0, none⟩ = some (.int .i64 v.kind) := by simp
  have k1 : (w.alloc (.cells #[.int .i64 v.kind, .int .i64 v.int, .string v.str] 157)).cell? ⟨w.heap.size, 1, none⟩ = some (.int .i64 v.int) := by simp
  have k2 : (w.alloc (.cells #[.int .i64 v.kind, .int .i64 v.int, .string v.str] 157)).cell? ⟨w.heap.size, 2, none⟩ = some (.string v.str) := by simp
  go_enter Tryz.func219, Tryz.ntmps219
  go_wp2_with fail
  refine wp_region_noPanic ?_
  refine wp_region_held_drew (S := (fun w' => (w'.cell? ⟨w.heap.size, 0, none⟩ = some (.int .i64 v.kind) ∧ w'.cell? ⟨w.heap.size, 1, none⟩ = some (.int .i64 v.int) ∧ w'.cell? ⟨w.heap.size, 2, none⟩ = some (.string v.str) ∧ Grew (w.alloc (.cells #[.int .i64 v.kind, .int .i64 v.int, .string v.str] 157)) w'))) (by kernel_rfl) ?h4_S ?h4_r
  case h4_S => exact ⟨grew_cell (Grew.refl _).drew k0, grew_cell (Grew.refl _).drew k1, grew_cell (Grew.refl _).drew k2, (Grew.refl _).drew⟩
  case h4_r =>
   intro HS
   (refine tk (v := ?v4_0) 0 rfl (by kernel_rfl) rfl ?y4_0 HS ?_; case y4_0 => (intro w' hSw; (try dsimp only at hSw); go_simp <;> (with_reducible rfl)))
   try simp only [Act.put, lpa, lpb, lpc]
   refine cl 1 rfl (by kernel_rfl) (fun K hK => ?_)
   go_simp
   go_at_call 240
   refine (implIsValidValue v _ hs).mono ?_
   rintro e w1 ⟨he, hb⟩
   rw [HV.out] at he
   subst he
   refine hK.out _ _ ?s4_1 ?r4_1
   case s4_1 => (try dsimp only); exact ⟨grew_cell hb HS.1, grew_cell hb HS.2.1, grew_cell hb HS.2.2.1, HS.2.2.2.trans hb⟩
   case r4_1 =>
    clear HS
    intro HS
    clear hK K
    try simp only [Act.put, lpa, lpb, lpc]
    (refine tk (v := ?v4_2) 2 rfl (by kernel_rfl) rfl ?y4_2 HS ?_; case y4_2 => (intro w' hSw; (try dsimp only at hSw); go_simp <;> (with_reducible rfl)))
    try simp only [Act.put, lpa, lpb, lpc]
    refine sk 3 rfl (by kernel_rfl) rfl HS ?_
    try simp only [Act.put, lpa, lpb, lpc]
    refine sk 4 rfl (by kernel_rfl) rfl HS ?_
    try simp only [Act.put, lpa, lpb, lpc]
    refine sk 5 rfl (by kernel_rfl) rfl HS ?_
    try simp only [Act.put, lpa, lpb, lpc]
    (refine tk (v := ?v4_6) 6 rfl (by kernel_rfl) rfl ?y4_6 HS ?_; case y4_6 => (intro w' hSw; (try dsimp only at hSw); go_simp <;> (with_reducible rfl)))
    try simp only [Act.put, lpa, lpb, lpc]
    (refine tk (v := ?v4_7) 7 rfl (by kernel_rfl) rfl ?y4_7 HS ?_; case y4_7 => (intro w' hSw; (try dsimp only at hSw); go_simp <;> (with_reducible rfl)))
    try simp only [Act.put, lpa, lpb, lpc]
    refine sk 8 rfl (by kernel_rfl) rfl HS ?_
    try simp only [Act.put, lpa, lpb, lpc]
    refine sk 9 rfl (by kernel_rfl) rfl HS ?_
    try simp only [Act.put, lpa, lpb, lpc]
    refine sk 10 rfl (by kernel_rfl) rfl HS ?_
    try simp only [Act.put, lpa, lpb, lpc]
    refine sk 11 rfl (by kernel_rfl) rfl HS ?_
    try simp only [Act.put, lpa, lpb, lpc]
    refine cl 12 rfl (by kernel_rfl) (fun K hK => ?_)
    go_simp
    refine hK.out _ _ ?s4_12 ?r4_12
    case s4_12 => (try dsimp only); exact HS
    case r4_12 =>
     clear HS
     intro HS
     clear hK K
     try simp only [Act.put, lpa, lpb, lpc]
     refine sk 13 rfl (by kernel_rfl) rfl HS ?_
     try simp only [Act.put, lpa, lpb, lpc]
     (refine tk (v := ?v4_14) 14 rfl (by kernel_rfl) rfl ?y4_14 HS ?_; case y4_14 => (intro w' hSw; (try dsimp only at hSw); go_simp <;> (with_reducible rfl)))
     try simp only [Act.put, lpa, lpb, lpc]
     (refine tk (v := ?v4_15) 15 rfl (by kernel_rfl) rfl ?y4_15 HS ?_; case y4_15 => (intro w' hSw; (try dsimp only at hSw); go_simp <;> (with_reducible rfl)))
     try simp only [Act.put, lpa, lpb, lpc]
     refine wpAnyH_done (by kernel_rfl) ?_ _
     refine NoPanic.normal ?_
     go_wp2
     go_ret
     refine ⟨ret_bool ?_, hal.trans HS.2.2.2⟩
     unfold mscB; rw [HV.out]; simp
 ·
  rcases hck with hk | hk
  ·
   have hk0 := hx
   have hk2 : (v.kind != 0) = false := by unfold bne; rw [hk]; rfl
   have k0 : (w.alloc (.cells #[.int .i64 v.kind, .int .i64 v.int, .string v.str] 157)).cell? ⟨w.heap.size, 0, none⟩ = some (.int .i64 v.kind) := by simp
   have k1 : (w.alloc (.cells #[.int .i64 v.kind, .int .i64 v.int, .string v.str] 157)).cell? ⟨w.heap.size, 1, none⟩ = some (.int .i64 v.int) := by simp
   have k2 : (w.alloc (.cells #[.int .i64 v.kind, .int .i64 v.int, .string v.str] 157)).cell? ⟨w.heap.size, 2, none⟩ = some (.string v.str) := by simp
   go_enter Tryz.func219, Tryz.ntmps219
   go_wp2_with fail
   refine wp_region_noPanic ?_
   refine wp_region_held_drew (S := (fun w' => (w'.cell? ⟨w.heap.size, 0, none⟩ = some (.int .i64 v.kind) ∧ w'.cell? ⟨w.heap.size, 1, none⟩ = some (.int .i64 v.int) ∧ w'.cell? ⟨w.heap.size, 2, none⟩ = some (.string v.str) ∧ Grew (w.alloc (.cells #[.int .i64 v.kind, .int .i64 v.int, .string v.str] 157)) w'))) (by kernel_rfl) ?h5_S ?h5_r
   case h5_S => exact ⟨grew_cell (Grew.refl _).drew k0, grew_cell (Grew.refl _).drew k1, grew_cell (Grew.refl _).drew k2, (Grew.refl _).drew⟩
   case h5_r =>
    intro HS
    (refine tk (v := ?v5_0) 0 rfl (by kernel_rfl) rfl ?y5_0 HS ?_; case y5_0 => (intro w' hSw; (try dsimp only at hSw); go_simp <;> (with_reducible rfl)))
    try simp only [Act.put, lpa, lpb, lpc]
    refine cl 1 rfl (by kernel_rfl) (fun K hK => ?_)
    go_simp
    go_at_call 240
    refine (implIsValidValue v _ hs).mono ?_
    rintro e w1 ⟨he, hb⟩
    rw [HV.out] at he
    subst he
    refine hK.out _ _ ?s5_1 ?r5_1
    case s5_1 => (try dsimp only); exact ⟨grew_cell hb HS.1, grew_cell hb HS.2.1, grew_cell hb HS.2.2.1, HS.2.2.2.trans hb⟩
    case r5_1 =>
     clear HS
     intro HS
     clear hK K
     try simp only [Act.put, lpa, lpb, lpc]
     (refine tk (v := ?v5_2) 2 rfl (by kernel_rfl) rfl ?y5_2 HS ?_; case y5_2 => (intro w' hSw; (try dsimp only at hSw); go_simp <;> (with_reducible rfl)))
     try simp only [Act.put, lpa, lpb, lpc]
     (refine tk (v := ?v5_3) 3 rfl (by kernel_rfl) rfl ?y5_3 HS ?_; case y5_3 => (intro w' hSw; (try dsimp only at hSw); go_simp <;> (with_reducible rfl)))
     try simp only [Act.put, lpa, lpb, lpc]
     (refine tk (v := ?v5_4) 4 rfl (by kernel_rfl) rfl ?y5_4 HS ?_; case y5_4 => (intro w' hSw; (try dsimp only at hSw); go_simp <;> (with_reducible rfl)))
     try simp only [Act.put, lpa, lpb, lpc]
     (refine tk (v := ?v5_5) 5 rfl (by kernel_rfl) rfl ?y5_5 HS ?_; case y5_5 => (intro w' hSw; (try dsimp only at hSw); go_simp <;> (with_reducible rfl)))
     try simp only [Act.put, lpa, lpb, lpc]
     (refine tk (v := ?v5_6) 6 rfl (by kernel_rfl) rfl ?y5_6 HS ?_; case y5_6 => (intro w' hSw; (try dsimp only at hSw); go_simp <;> (with_reducible rfl)))
     try simp only [Act.put, lpa, lpb, lpc]
     (refine tk (v := ?v5_7) 7 rfl (by kernel_rfl) rfl ?y5_7 HS ?_; case y5_7 => (intro w' hSw; (try dsimp only at hSw); go_simp <;> (with_reducible rfl)))
     try simp only [Act.put, lpa, lpb, lpc]
     refine sk 8 rfl (by kernel_rfl) rfl HS ?_
     try simp only [Act.put, lpa, lpb, lpc]
     refine sk 9 rfl (by kernel_rfl) rfl HS ?_
     try simp only [Act.put, lpa, lpb, lpc]
     refine sk 10 rfl (by kernel_rfl) rfl HS ?_
     try simp only [Act.put, lpa, lpb, lpc]
     refine sk 11 rfl (by kernel_rfl) rfl HS ?_
     try simp only [Act.put, lpa, lpb, lpc]
     refine cl 12 rfl (by kernel_rfl) (fun K hK => ?_)
     go_simp
     refine hK.out _ _ ?s5_12 ?r5_12
     case s5_12 => (try dsimp only); exact HS
     case r5_12 =>
      clear HS
      intro HS
      clear hK K
      try simp only [Act.put, lpa, lpb, lpc]
      refine sk 13 rfl (by kernel_rfl) rfl HS ?_
      try simp only [Act.put, lpa, lpb, lpc]
      (refine tk (v := ?v5_14) 14 rfl (by kernel_rfl) rfl ?y5_14 HS ?_; case y5_14 => (intro w' hSw; (try dsimp only at hSw); go_simp <;> (with_reducible rfl)))
      try simp only [Act.put, lpa, lpb, lpc]
      (refine tk (v := ?v5_15) 15 rfl (by kernel_rfl) rfl ?y5_15 HS ?_; case y5_15 => (intro w' hSw; (try dsimp only at hSw); go_simp <;> (with_reducible rfl)))
      try simp only [Act.put, lpa, lpb, lpc]
      refine wpAnyH_done (by kernel_rfl) ?_ _
      refine NoPanic.normal ?_
      go_wp2
      go_ret
      refine ⟨ret_bool ?_, hal.trans HS.2.2.2⟩
      unfold mscB; rw [HV.out, hk2]; simp
  ·
   have hk0 := hx
   have hk2 : (v.kind != 0) = true := by unfold bne; rw [hk]; rfl
   have hk3 : ¬ (v.kind = 0) := by simpa using hk
   have k0 : (w.alloc (.cells #[.int .i64 v.kind, .int .i64 v.int, .string v.str] 157)).cell? ⟨w.heap.size, 0, none⟩ = some (.int .i64 v.kind) := by simp
   have k1 : (w.alloc (.cells #[.int .i64 v.kind, .int .i64 v.int, .string v.str] 157)).cell? ⟨w.heap.size, 1, none⟩ = some (.int .i64 v.int) := by simp
   have k2 : (w.alloc (.cells #[.int .i64 v.kind, .int .i64 v.int, .string v.str] 157)).cell? ⟨w.heap.size, 2, none⟩ = some (.string v.str) := by simp
   go_enter Tryz.func219, Tryz.ntmps219
   go_wp2_with fail
   refine wp_region_noPanic ?_
   refine wp_region_held_drew (S := (fun w' => (w'.cell? ⟨w.heap.size, 0, none⟩ = some (.int .i64 v.kind) ∧ w'.cell? ⟨w.heap.size, 1, none⟩ = some (.int .i64 v.int) ∧ w'.cell? ⟨w.heap.size, 2, none⟩ = some (.string v.str) ∧ Grew (w.alloc (.cells #[.int .i64 v.kind, .int .i64 v.int, .string v.str] 157)) w'))) (by kernel_rfl) ?h6_S ?h6_r
   case h6_S => exact ⟨grew_cell (Grew.refl _).drew k0, grew_cell (Grew.refl _).drew k1, grew_cell (Grew.refl _).drew k2, (Grew.refl _).drew⟩
   case h6_r =>
    intro HS
    (refine tk (v := ?v6_0) 0 rfl (by kernel_rfl) rfl ?y6_0 HS ?_; case y6_0 => (intro w' hSw; (try dsimp only at hSw); go_simp <;> (with_reducible rfl)))
    try simp only [Act.put, lpa, lpb, lpc]
    refine cl 1 rfl (by kernel_rfl) (fun K hK => ?_)
    go_simp
    go_at_call 240
    refine (implIsValidValue v _ hs).mono ?_
    rintro e w1 ⟨he, hb⟩
    rw [HV.out] at he
    subst he
    refine hK.out _ _ ?s6_1 ?r6_1
    case s6_1 => (try dsimp only); exact ⟨grew_cell hb HS.1, grew_cell hb HS.2.1, grew_cell hb HS.2.2.1, HS.2.2.2.trans hb⟩
    case r6_1 =>
     clear HS
     intro HS
     clear hK K
     try simp only [Act.put, lpa, lpb, lpc]
     (refine tk (v := ?v6_2) 2 rfl (by kernel_rfl) rfl ?y6_2 HS ?_; case y6_2 => (intro w' hSw; (try dsimp only at hSw); go_simp <;> (with_reducible rfl)))
     try simp only [Act.put, lpa, lpb, lpc]
     (refine tk (v := ?v6_3) 3 rfl (by kernel_rfl) rfl ?y6_3 HS ?_; case y6_3 => (intro w' hSw; (try dsimp only at hSw); go_simp <;> (with_reducible rfl)))
     try simp only [Act.put, lpa, lpb, lpc]
     (refine tk (v := ?v6_4) 4 rfl (by kernel_rfl) rfl ?y6_4 HS ?_; case y6_4 => (intro w' hSw; (try dsimp only at hSw); go_simp <;> (with_reducible rfl)))
     try simp only [Act.put, lpa, lpb, lpc]
     (refine tk (v := ?v6_5) 5 rfl (by kernel_rfl) rfl ?y6_5 HS ?_; case y6_5 => (intro w' hSw; (try dsimp only at hSw); go_simp <;> (with_reducible rfl)))
     try simp only [Act.put, lpa, lpb, lpc]
     (refine tk (v := ?v6_6) 6 rfl (by kernel_rfl) rfl ?y6_6 HS ?_; case y6_6 => (intro w' hSw; (try dsimp only at hSw); go_simp <;> (with_reducible rfl)))
     try simp only [Act.put, lpa, lpb, lpc]
     (refine tk (v := ?v6_7) 7 rfl (by kernel_rfl) rfl ?y6_7 HS ?_; case y6_7 => (intro w' hSw; (try dsimp only at hSw); go_simp <;> (with_reducible rfl)))
     try simp only [Act.put, lpa, lpb, lpc]
     (refine tk (v := ?v6_8) 8 rfl (by kernel_rfl) rfl ?y6_8 HS ?_; case y6_8 => (intro w' hSw; (try dsimp only at hSw); go_simp <;> (with_reducible rfl)))
     try simp only [Act.put, lpa, lpb, lpc]
     (refine tk (v := ?v6_9) 9 rfl (by kernel_rfl) rfl ?y6_9 HS ?_; case y6_9 => (intro w' hSw; (try dsimp only at hSw); go_simp <;> (with_reducible rfl)))
     try simp only [Act.put, lpa, lpb, lpc]
     (refine tk (v := ?v6_10) 10 rfl (by kernel_rfl) rfl ?y6_10 HS ?_; case y6_10 => (intro w' hSw; (try dsimp only at hSw); go_simp <;> (with_reducible rfl)))
     try simp only [Act.put, lpa, lpb, lpc]
     (refine tk (v := ?v6_11) 11 rfl (by kernel_rfl) rfl ?y6_11 HS ?_; case y6_11 => (intro w' hSw; (try dsimp only at hSw); go_simp <;> (with_reducible rfl)))
     try simp only [Act.put, lpa, lpb, lpc]
     refine cl 12 rfl (by kernel_rfl) (fun K hK => ?_)
     go_simp
     go_at_call 243
     refine (implFieldKind _ n xs s _ (HA.out.grew (hal.trans HS.2.2.2)) hx).mono ?_
     rintro e w2 ⟨rfl, hb⟩
     refine hK.out _ _ ?s6_12 ?r6_12
     case s6_12 => (try dsimp only); exact ⟨grew_cell hb HS.1, grew_cell hb HS.2.1, grew_cell hb HS.2.2.1, HS.2.2.2.trans hb⟩
     case r6_12 =>
      clear HS
      intro HS
      clear hK K
      try simp only [Act.put, lpa, lpb, lpc]
      (refine tk (v := ?v6_13) 13 rfl (by kernel_rfl) rfl ?y6_13 HS ?_; case y6_13 => (intro w' hSw; (try dsimp only at hSw); go_simp <;> (with_reducible rfl)))
      try simp only [Act.put, lpa, lpb, lpc]
      (refine tk (v := ?v6_14) 14 rfl (by kernel_rfl) rfl ?y6_14 HS ?_; case y6_14 => (intro w' hSw; (try dsimp only at hSw); go_simp <;> (with_reducible rfl)))
      try simp only [Act.put, lpa, lpb, lpc]
      (refine tk (v := ?v6_15) 15 rfl (by kernel_rfl) rfl ?y6_15 HS ?_; case y6_15 => (intro w' hSw; (try dsimp only at hSw); go_simp <;> (with_reducible rfl)))
      try simp only [Act.put, lpa, lpb, lpc]
      refine wpAnyH_done (by kernel_rfl) ?_ _
      refine NoPanic.normal ?_
      go_wp2
      go_ret
      refine ⟨ret_bool ?_, hal.trans HS.2.2.2⟩
      unfold mscB; rw [HV.out, hk2]; simp
theorem implIsUser (x : Int) (w : World) :
  Calls Tryz.prog 124 #[.int .i64 x] w fun e w' => e = .returned (.bool (inB x 0 2)) ∧ w = w' := by
 go_enter Tryz.func124, Tryz.ntmps124
 go_wp2_with (go_at_call 177; refine (within _ _ _ _).mono ?_; rintro e w' ⟨rfl, rfl⟩)
 go_ret
 exact ⟨rfl, rfl⟩
set_option maxRecDepth 100000 in
set_option maxHeartbeats 4000000 in
theorem specIsValidSchema (va : Value) (n : Nat) (xs : List Fd) (w : World) (ha : Rd w va 2 n (rows Fd.c xs)) (hx : n ≤ 4000000) (hz : szAll Fd.sz xs ≤ 4000000) :
  Calls Tryz.prog 88 #[va] w fun e w' => e = .returned (.bool (schB xs)) ∧ Grew w w' := by
 obtain ⟨a, ca, rfl, hca, hra⟩ := ha
 have HX := Lib.hid (hra.len_rows Fd.len (by decide))
 have HZ := Lib.hid hz
 go_enter Tryz.func88, Tryz.ntmps88
 go_wp2
 go_loopw [3] (fun i wr => ∃ k : Nat, k ≤ n ∧ i = .int .i64 k ∧ Hid (upTo (schAt xs) xs k) ∧ Grew w wr) (fun i _ => n - (intOf i).toNat)
 case atStart => exact ⟨0, Nat.zero_le _, rfl, Lib.hid (upTo_zero _ _), Grew.refl _⟩
 case round =>
  obtain ⟨k, hk, rfl, hsame, hbel⟩ := hrel
  have hbw := hbel
  by_cases hlt : k < n
  ·
   obtain ⟨b1, o1, x, rfl, hxk, c0, c1⟩ := (hra.grew hbw).getFd hlt
   have hs1 := fd_sz HZ.out hxk.out
   obtain ⟨tv, htv⟩ : ∃ b, txtB x.name 1 = b := ⟨_, rfl⟩
   have HT := Lib.hid htv
   clear htv
   have hct : tv = false ∨ tv = true := by cases tv <;> simp
   obtain ⟨kv, hkv⟩ : ∃ b, inB x.kind 1 2 = b := ⟨_, rfl⟩
   have HK := Lib.hid hkv
   clear hkv
   have hck : kv = false ∨ kv = true := by cases kv <;> simp
   rcases hct with rfl | rfl
   ·
    have hk0 := hk
    have hk00 := hk
    go_wp2_with fail
    refine wp_region_noPanic ?_
    refine wp_region_held_drew (S := (fun w' => (w'.cell? ⟨b1, o1 + k * 2, none⟩ = some (.string x.name) ∧ w'.cell? ⟨b1, o1 + k * 2 + 1, none⟩ = some (.int .i64 x.kind) ∧ Grew wr w'))) (by kernel_rfl) ?h7_S ?h7_r
    case h7_S => exact ⟨grew_cell (Grew.refl _).drew c0, grew_cell (Grew.refl _).drew c1, (Grew.refl _).drew⟩
    case h7_r =>
     intro HS
     (refine tk (v := ?v7_0) 0 rfl (by kernel_rfl) rfl ?y7_0 HS ?_; case y7_0 => (intro w' hSw; (try dsimp only at hSw); go_simp <;> (with_reducible rfl)))
     try simp only [Act.put, lpa, lpb, lpc]
     (refine tk (v := ?v7_1) 1 rfl (by kernel_rfl) rfl ?y7_1 HS ?_; case y7_1 => (intro w' hSw; (try dsimp only at hSw); go_simp <;> (with_reducible rfl)))
     try simp only [Act.put, lpa, lpb, lpc]
     (refine tk (v := ?v7_2) 2 rfl (by kernel_rfl) rfl ?y7_2 HS ?_; case y7_2 => (intro w' hSw; (try dsimp only at hSw); go_simp <;> (with_reducible rfl)))
     try simp only [Act.put, lpa, lpb, lpc]
     (refine tk (v := ?v7_3) 3 rfl (by kernel_rfl) rfl ?y7_3 HS ?_; case y7_3 => (intro w' hSw; (try dsimp only at hSw); go_simp <;> (with_reducible rfl)))
     try simp only [Act.put, lpa, lpb, lpc]
     (refine tk (v := ?v7_4) 4 rfl (by kernel_rfl) rfl ?y7_4 HS ?_; case y7_4 => (intro w' hSw; (try dsimp only at hSw); go_simp <;> (with_reducible rfl)))
     try simp only [Act.put, lpa, lpb, lpc]
     refine cl 5 rfl (by kernel_rfl) (fun K hK => ?_)
     go_simp
     go_at_call 155
     refine (specIsValidAttrName _ _ hs1).mono ?_
     rintro e w1 ⟨he, rfl⟩
     rw [HT.out] at he
     subst he
     refine hK.out _ _ ?s7_5 ?r7_5
     case s7_5 => (try dsimp only); first | exact HS | exact ⟨grew_cell hb HS.1, grew_cell hb HS.2.1, HS.2.2.trans hb⟩
     case r7_5 =>
      clear HS
      intro HS
      clear hK K
      try simp only [Act.put, lpa, lpb, lpc]
      (refine tk (v := ?v7_6) 6 rfl (by kernel_rfl) rfl ?y7_6 HS ?_; case y7_6 => (intro w' hSw; (try dsimp only at hSw); go_simp <;> (with_reducible rfl)))
      try simp only [Act.put, lpa, lpb, lpc]
      (refine tk (v := ?v7_7) 7 rfl (by kernel_rfl) rfl ?y7_7 HS ?_; case y7_7 => (intro w' hSw; (try dsimp only at hSw); go_simp <;> (with_reducible rfl)))
      try simp only [Act.put, lpa, lpb, lpc]
      refine sk 8 rfl (by kernel_rfl) rfl HS ?_
      try simp only [Act.put, lpa, lpb, lpc]
      refine sk 9 rfl (by kernel_rfl) rfl HS ?_
      try simp only [Act.put, lpa, lpb, lpc]
      refine sk 10 rfl (by kernel_rfl) rfl HS ?_
      try simp only [Act.put, lpa, lpb, lpc]
      refine sk 11 rfl (by kernel_rfl) rfl HS ?_
      try simp only [Act.put, lpa, lpb, lpc]
      refine sk 12 rfl (by kernel_rfl) rfl HS ?_
      try simp only [Act.put, lpa, lpb, lpc]
      refine cl 13 rfl (by kernel_rfl) (fun K hK => ?_)
      go_simp
      refine hK.out _ _ ?s7_13 ?r7_13
      case s7_13 => (try dsimp only); exact HS
      case r7_13 =>
       clear HS
       intro HS
       clear hK K
       try simp only [Act.put, lpa, lpb, lpc]
       refine sk 14 rfl (by kernel_rfl) rfl HS ?_
       try simp only [Act.put, lpa, lpb, lpc]
       (refine tk (v := ?v7_15) 15 rfl (by kernel_rfl) rfl ?y7_15 HS ?_; case y7_15 => (intro w' hSw; (try dsimp only at hSw); go_simp <;> (with_reducible rfl)))
       try simp only [Act.put, lpa, lpb, lpc]
       (refine tk (v := ?v7_16) 16 rfl (by kernel_rfl) rfl ?y7_16 HS ?_; case y7_16 => (intro w' hSw; (try dsimp only at hSw); go_simp <;> (with_reducible rfl)))
       try simp only [Act.put, lpa, lpb, lpc]
       refine sk 17 rfl (by kernel_rfl) rfl HS ?_
       try simp only [Act.put, lpa, lpb, lpc]
       refine sk 18 rfl (by kernel_rfl) rfl HS ?_
       try simp only [Act.put, lpa, lpb, lpc]
       refine sk 19 rfl (by kernel_rfl) rfl HS ?_
       try simp only [Act.put, lpa, lpb, lpc]
       refine sk 20 rfl (by kernel_rfl) rfl HS ?_
       try simp only [Act.put, lpa, lpb, lpc]
       refine sk 21 rfl (by kernel_rfl) rfl HS ?_
       try simp only [Act.put, lpa, lpb, lpc]
       refine sk 22 rfl (by kernel_rfl) rfl HS ?_
       try simp only [Act.put, lpa, lpb, lpc]
       refine sk 23 rfl (by kernel_rfl) rfl HS ?_
       try simp only [Act.put, lpa, lpb, lpc]
       refine sk 24 rfl (by kernel_rfl) rfl HS ?_
       try simp only [Act.put, lpa, lpb, lpc]
       refine sk 25 rfl (by kernel_rfl) rfl HS ?_
       try simp only [Act.put, lpa, lpb, lpc]
       refine sk 26 rfl (by kernel_rfl) rfl HS ?_
       try simp only [Act.put, lpa, lpb, lpc]
       refine sk 27 rfl (by kernel_rfl) rfl HS ?_
       try simp only [Act.put, lpa, lpb, lpc]
       refine sk 28 rfl (by kernel_rfl) rfl HS ?_
       try simp only [Act.put, lpa, lpb, lpc]
       refine sk 29 rfl (by kernel_rfl) rfl HS ?_
       try simp only [Act.put, lpa, lpb, lpc]
       refine sk 30 rfl (by kernel_rfl) rfl HS ?_
       try simp only [Act.put, lpa, lpb, lpc]
       refine sk 31 rfl (by kernel_rfl) rfl HS ?_
       try simp only [Act.put, lpa, lpb, lpc]
       refine sk 32 rfl (by kernel_rfl) rfl HS ?_
       try simp only [Act.put, lpa, lpb, lpc]
       (refine tk (v := ?v7_33) 33 rfl (by kernel_rfl) rfl ?y7_33 HS ?_; case y7_33 => (intro w' hSw; (try dsimp only at hSw); go_simp <;> (with_reducible rfl)))
       try simp only [Act.put, lpa, lpb, lpc]
       refine wpAnyH_done (by kernel_rfl) ?_ _
       refine NoPanic.normal ?_
       go_wp2
       go_ret
       refine ⟨ret_bool ?_, hbw.trans HS.2.2⟩
       exact (show schB xs = false by unfold schB; rw [all_not hxk.out (show schAt xs _ x = false by unfold schAt; rw [HT.out]; simp)]; rfl).symm
   ·
    have hk0 := hk
    rcases hck with rfl | rfl
    ·
     have hk0 := hk
     have hk00 := hk
     go_wp2_with fail
     refine wp_region_noPanic ?_
     refine wp_region_held_drew (S := (fun w' => (w'.cell? ⟨b1, o1 + k * 2, none⟩ = some (.string x.name) ∧ w'.cell? ⟨b1, o1 + k * 2 + 1, none⟩ = some (.int .i64 x.kind) ∧ Grew wr w'))) (by kernel_rfl) ?h8_S ?h8_r
     case h8_S => exact ⟨grew_cell (Grew.refl _).drew c0, grew_cell (Grew.refl _).drew c1, (Grew.refl _).drew⟩
     case h8_r =>
      intro HS
      (refine tk (v := ?v8_0) 0 rfl (by kernel_rfl) rfl ?y8_0 HS ?_; case y8_0 => (intro w' hSw; (try dsimp only at hSw); go_simp <;> (with_reducible rfl)))
      try simp only [Act.put, lpa, lpb, lpc]
      (refine tk (v := ?v8_1) 1 rfl (by kernel_rfl) rfl ?y8_1 HS ?_; case y8_1 => (intro w' hSw; (try dsimp only at hSw); go_simp <;> (with_reducible rfl)))
      try simp only [Act.put, lpa, lpb, lpc]
      (refine tk (v := ?v8_2) 2 rfl (by kernel_rfl) rfl ?y8_2 HS ?_; case y8_2 => (intro w' hSw; (try dsimp only at hSw); go_simp <;> (with_reducible rfl)))
      try simp only [Act.put, lpa, lpb, lpc]
      (refine tk (v := ?v8_3) 3 rfl (by kernel_rfl) rfl ?y8_3 HS ?_; case y8_3 => (intro w' hSw; (try dsimp only at hSw); go_simp <;> (with_reducible rfl)))
      try simp only [Act.put, lpa, lpb, lpc]
      (refine tk (v := ?v8_4) 4 rfl (by kernel_rfl) rfl ?y8_4 HS ?_; case y8_4 => (intro w' hSw; (try dsimp only at hSw); go_simp <;> (with_reducible rfl)))
      try simp only [Act.put, lpa, lpb, lpc]
      refine cl 5 rfl (by kernel_rfl) (fun K hK => ?_)
      go_simp
      go_at_call 155
      refine (specIsValidAttrName _ _ hs1).mono ?_
      rintro e w1 ⟨he, rfl⟩
      rw [HT.out] at he
      subst he
      refine hK.out _ _ ?s8_5 ?r8_5
      case s8_5 => (try dsimp only); first | exact HS | exact ⟨grew_cell hb HS.1, grew_cell hb HS.2.1, HS.2.2.trans hb⟩
      case r8_5 =>
       clear HS
       intro HS
       clear hK K
       try simp only [Act.put, lpa, lpb, lpc]
       (refine tk (v := ?v8_6) 6 rfl (by kernel_rfl) rfl ?y8_6 HS ?_; case y8_6 => (intro w' hSw; (try dsimp only at hSw); go_simp <;> (with_reducible rfl)))
       try simp only [Act.put, lpa, lpb, lpc]
       (refine tk (v := ?v8_7) 7 rfl (by kernel_rfl) rfl ?y8_7 HS ?_; case y8_7 => (intro w' hSw; (try dsimp only at hSw); go_simp <;> (with_reducible rfl)))
       try simp only [Act.put, lpa, lpb, lpc]
       (refine tk (v := ?v8_8) 8 rfl (by kernel_rfl) rfl ?y8_8 HS ?_; case y8_8 => (intro w' hSw; (try dsimp only at hSw); go_simp <;> (with_reducible rfl)))
       try simp only [Act.put, lpa, lpb, lpc]
       (refine tk (v := ?v8_9) 9 rfl (by kernel_rfl) rfl ?y8_9 HS ?_; case y8_9 => (intro w' hSw; (try dsimp only at hSw); go_simp <;> (with_reducible rfl)))
       try simp only [Act.put, lpa, lpb, lpc]
       (refine tk (v := ?v8_10) 10 rfl (by kernel_rfl) rfl ?y8_10 HS ?_; case y8_10 => (intro w' hSw; (try dsimp only at hSw); go_simp <;> (with_reducible rfl)))
       try simp only [Act.put, lpa, lpb, lpc]
       (refine tk (v := ?v8_11) 11 rfl (by kernel_rfl) rfl ?y8_11 HS ?_; case y8_11 => (intro w' hSw; (try dsimp only at hSw); go_simp <;> (with_reducible rfl)))
       try simp only [Act.put, lpa, lpb, lpc]
       (refine tk (v := ?v8_12) 12 rfl (by kernel_rfl) rfl ?y8_12 HS ?_; case y8_12 => (intro w' hSw; (try dsimp only at hSw); go_simp <;> (with_reducible rfl)))
       try simp only [Act.put, lpa, lpb, lpc]
       refine cl 13 rfl (by kernel_rfl) (fun K hK => ?_)
       go_simp
       go_at_call 89
       refine (l01In _ _ _ _).mono ?_
       rintro e w1 ⟨he, rfl⟩
       rw [HK.out] at he
       subst he
       refine hK.out _ _ ?s8_13 ?r8_13
       case s8_13 => (try dsimp only); first | exact HS | exact ⟨grew_cell hb HS.1, grew_cell hb HS.2.1, HS.2.2.trans hb⟩
       case r8_13 =>
        clear HS
        intro HS
        clear hK K
        try simp only [Act.put, lpa, lpb, lpc]
        (refine tk (v := ?v8_14) 14 rfl (by kernel_rfl) rfl ?y8_14 HS ?_; case y8_14 => (intro w' hSw; (try dsimp only at hSw); go_simp <;> (with_reducible rfl)))
        try simp only [Act.put, lpa, lpb, lpc]
        (refine tk (v := ?v8_15) 15 rfl (by kernel_rfl) rfl ?y8_15 HS ?_; case y8_15 => (intro w' hSw; (try dsimp only at hSw); go_simp <;> (with_reducible rfl)))
        try simp only [Act.put, lpa, lpb, lpc]
        (refine tk (v := ?v8_16) 16 rfl (by kernel_rfl) rfl ?y8_16 HS ?_; case y8_16 => (intro w' hSw; (try dsimp only at hSw); go_simp <;> (with_reducible rfl)))
        try simp only [Act.put, lpa, lpb, lpc]
        refine sk 17 rfl (by kernel_rfl) rfl HS ?_
        try simp only [Act.put, lpa, lpb, lpc]
        refine sk 18 rfl (by kernel_rfl) rfl HS ?_
        try simp only [Act.put, lpa, lpb, lpc]
        refine sk 19 rfl (by kernel_rfl) rfl HS ?_
        try simp only [Act.put, lpa, lpb, lpc]
        refine sk 20 rfl (by kernel_rfl) rfl HS ?_
        try simp only [Act.put, lpa, lpb, lpc]
        refine sk 21 rfl (by kernel_rfl) rfl HS ?_
        try simp only [Act.put, lpa, lpb, lpc]
        refine sk 22 rfl (by kernel_rfl) rfl HS ?_
        try simp only [Act.put, lpa, lpb, lpc]
        refine sk 23 rfl (by kernel_rfl) rfl HS ?_
        try simp only [Act.put, lpa, lpb, lpc]
        refine sk 24 rfl (by kernel_rfl) rfl HS ?_
        try simp only [Act.put, lpa, lpb, lpc]
        refine sk 25 rfl (by kernel_rfl) rfl HS ?_
        try simp only [Act.put, lpa, lpb, lpc]
        refine sk 26 rfl (by kernel_rfl) rfl HS ?_
        try simp only [Act.put, lpa, lpb, lpc]
        refine sk 27 rfl (by kernel_rfl) rfl HS ?_
        try simp only [Act.put, lpa, lpb, lpc]
        refine sk 28 rfl (by kernel_rfl) rfl HS ?_
        try simp only [Act.put, lpa, lpb, lpc]
        refine sk 29 rfl (by kernel_rfl) rfl HS ?_
        try simp only [Act.put, lpa, lpb, lpc]
        refine sk 30 rfl (by kernel_rfl) rfl HS ?_
        try simp only [Act.put, lpa, lpb, lpc]
        refine sk 31 rfl (by kernel_rfl) rfl HS ?_
        try simp only [Act.put, lpa, lpb, lpc]
        refine sk 32 rfl (by kernel_rfl) rfl HS ?_
        try simp only [Act.put, lpa, lpb, lpc]
        (refine tk (v := ?v8_33) 33 rfl (by kernel_rfl) rfl ?y8_33 HS ?_; case y8_33 => (intro w' hSw; (try dsimp only at hSw); go_simp <;> (with_reducible rfl)))
        try simp only [Act.put, lpa, lpb, lpc]
        refine wpAnyH_done (by kernel_rfl) ?_ _
        refine NoPanic.normal ?_
        go_wp2
        go_ret
        refine ⟨ret_bool ?_, hbw.trans HS.2.2⟩
        exact (show schB xs = false by unfold schB; rw [all_not hxk.out (show schAt xs _ x = false by unfold schAt; rw [HT.out, HK.out]; simp)]; rfl).symm
    ·
     have hk0 := hk
     by_cases hk1 : ¬ (0 < k)
     ·
      have hk0 := hk
      have hk00 := hk
      go_wp2_with fail
      refine wp_region_noPanic ?_
      refine wp_region_held_drew (S := (fun w' => (w'.cell? ⟨b1, o1 + k * 2, none⟩ = some (.string x.name) ∧ w'.cell? ⟨b1, o1 + k * 2 + 1, none⟩ = some (.int .i64 x.kind) ∧ Grew wr w'))) (by kernel_rfl) ?h9_S ?h9_r
      case h9_S => exact ⟨grew_cell (Grew.refl _).drew c0, grew_cell (Grew.refl _).drew c1, (Grew.refl _).drew⟩
      case h9_r =>
       intro HS
       (refine tk (v := ?v9_0) 0 rfl (by kernel_rfl) rfl ?y9_0 HS ?_; case y9_0 => (intro w' hSw; (try dsimp only at hSw); go_simp <;> (with_reducible rfl)))
       try simp only [Act.put, lpa, lpb, lpc]
       (refine tk (v := ?v9_1) 1 rfl (by kernel_rfl) rfl ?y9_1 HS ?_; case y9_1 => (intro w' hSw; (try dsimp only at hSw); go_simp <;> (with_reducible rfl)))
       try simp only [Act.put, lpa, lpb, lpc]
       (refine tk (v := ?v9_2) 2 rfl (by kernel_rfl) rfl ?y9_2 HS ?_; case y9_2 => (intro w' hSw; (try dsimp only at hSw); go_simp <;> (with_reducible rfl)))
       try simp only [Act.put, lpa, lpb, lpc]
       (refine tk (v := ?v9_3) 3 rfl (by kernel_rfl) rfl ?y9_3 HS ?_; case y9_3 => (intro w' hSw; (try dsimp only at hSw); go_simp <;> (with_reducible rfl)))
       try simp only [Act.put, lpa, lpb, lpc]
       (refine tk (v := ?v9_4) 4 rfl (by kernel_rfl) rfl ?y9_4 HS ?_; case y9_4 => (intro w' hSw; (try dsimp only at hSw); go_simp <;> (with_reducible rfl)))
       try simp only [Act.put, lpa, lpb, lpc]
       refine cl 5 rfl (by kernel_rfl) (fun K hK => ?_)
       go_simp
       go_at_call 155
       refine (specIsValidAttrName _ _ hs1).mono ?_
       rintro e w1 ⟨he, rfl⟩
       rw [HT.out] at he
       subst he
       refine hK.out _ _ ?s9_5 ?r9_5
       case s9_5 => (try dsimp only); first | exact HS | exact ⟨grew_cell hb HS.1, grew_cell hb HS.2.1, HS.2.2.trans hb⟩
       case r9_5 =>
        clear HS
        intro HS
        clear hK K
        try simp only [Act.put, lpa, lpb, lpc]
        (refine tk (v := ?v9_6) 6 rfl (by kernel_rfl) rfl ?y9_6 HS ?_; case y9_6 => (intro w' hSw; (try dsimp only at hSw); go_simp <;> (with_reducible rfl)))
        try simp only [Act.put, lpa, lpb, lpc]
        (refine tk (v := ?v9_7) 7 rfl (by kernel_rfl) rfl ?y9_7 HS ?_; case y9_7 => (intro w' hSw; (try dsimp only at hSw); go_simp <;> (with_reducible rfl)))
        try simp only [Act.put, lpa, lpb, lpc]
        (refine tk (v := ?v9_8) 8 rfl (by kernel_rfl) rfl ?y9_8 HS ?_; case y9_8 => (intro w' hSw; (try dsimp only at hSw); go_simp <;> (with_reducible rfl)))
        try simp only [Act.put, lpa, lpb, lpc]
        (refine tk (v := ?v9_9) 9 rfl (by kernel_rfl) rfl ?y9_9 HS ?_; case y9_9 => (intro w' hSw; (try dsimp only at hSw); go_simp <;> (with_reducible rfl)))
        try simp only [Act.put, lpa, lpb, lpc]
        (refine tk (v := ?v9_10) 10 rfl (by kernel_rfl) rfl ?y9_10 HS ?_; case y9_10 => (intro w' hSw; (try dsimp only at hSw); go_simp <;> (with_reducible rfl)))
        try simp only [Act.put, lpa, lpb, lpc]
        (refine tk (v := ?v9_11) 11 rfl (by kernel_rfl) rfl ?y9_11 HS ?_; case y9_11 => (intro w' hSw; (try dsimp only at hSw); go_simp <;> (with_reducible rfl)))
        try simp only [Act.put, lpa, lpb, lpc]
        (refine tk (v := ?v9_12) 12 rfl (by kernel_rfl) rfl ?y9_12 HS ?_; case y9_12 => (intro w' hSw; (try dsimp only at hSw); go_simp <;> (with_reducible rfl)))
        try simp only [Act.put, lpa, lpb, lpc]
        refine cl 13 rfl (by kernel_rfl) (fun K hK => ?_)
        go_simp
        go_at_call 89
        refine (l01In _ _ _ _).mono ?_
        rintro e w1 ⟨he, rfl⟩
        rw [HK.out] at he
        subst he
        refine hK.out _ _ ?s9_13 ?r9_13
        case s9_13 => (try dsimp only); first | exact HS | exact ⟨grew_cell hb HS.1, grew_cell hb HS.2.1, HS.2.2.trans hb⟩
        case r9_13 =>
         clear HS
         intro HS
         clear hK K
         try simp only [Act.put, lpa, lpb, lpc]
         (refine tk (v := ?v9_14) 14 rfl (by kernel_rfl) rfl ?y9_14 HS ?_; case y9_14 => (intro w' hSw; (try dsimp only at hSw); go_simp <;> (with_reducible rfl)))
         try simp only [Act.put, lpa, lpb, lpc]
         (refine tk (v := ?v9_15) 15 rfl (by kernel_rfl) rfl ?y9_15 HS ?_; case y9_15 => (intro w' hSw; (try dsimp only at hSw); go_simp <;> (with_reducible rfl)))
         try simp only [Act.put, lpa, lpb, lpc]
         (refine tk (v := ?v9_16) 16 rfl (by kernel_rfl) rfl ?y9_16 HS ?_; case y9_16 => (intro w' hSw; (try dsimp only at hSw); go_simp <;> (with_reducible rfl)))
         try simp only [Act.put, lpa, lpb, lpc]
         (refine tk (v := ?v9_17) 17 rfl (by kernel_rfl) rfl ?y9_17 HS ?_; case y9_17 => (intro w' hSw; (try dsimp only at hSw); go_simp <;> (with_reducible rfl)))
         try simp only [Act.put, lpa, lpb, lpc]
         (refine tk (v := ?v9_18) 18 rfl (by kernel_rfl) rfl ?y9_18 HS ?_; case y9_18 => (intro w' hSw; (try dsimp only at hSw); go_simp <;> (with_reducible rfl)))
         try simp only [Act.put, lpa, lpb, lpc]
         (refine tk (v := ?v9_19) 19 rfl (by kernel_rfl) rfl ?y9_19 HS ?_; case y9_19 => (intro w' hSw; (try dsimp only at hSw); go_simp <;> (with_reducible rfl)))
         try simp only [Act.put, lpa, lpb, lpc]
         refine sk 20 rfl (by kernel_rfl) rfl HS ?_
         try simp only [Act.put, lpa, lpb, lpc]
         refine sk 21 rfl (by kernel_rfl) rfl HS ?_
         try simp only [Act.put, lpa, lpb, lpc]
         refine sk 22 rfl (by kernel_rfl) rfl HS ?_
         try simp only [Act.put, lpa, lpb, lpc]
         refine sk 23 rfl (by kernel_rfl) rfl HS ?_
         try simp only [Act.put, lpa, lpb, lpc]
         refine sk 24 rfl (by kernel_rfl) rfl HS ?_
         try simp only [Act.put, lpa, lpb, lpc]
         refine sk 25 rfl (by kernel_rfl) rfl HS ?_
         try simp only [Act.put, lpa, lpb, lpc]
         refine sk 26 rfl (by kernel_rfl) rfl HS ?_
         try simp only [Act.put, lpa, lpb, lpc]
         refine sk 27 rfl (by kernel_rfl) rfl HS ?_
         try simp only [Act.put, lpa, lpb, lpc]
         refine sk 28 rfl (by kernel_rfl) rfl HS ?_
         try simp only [Act.put, lpa, lpb, lpc]
         refine sk 29 rfl (by kernel_rfl) rfl HS ?_
         try simp only [Act.put, lpa, lpb, lpc]
         refine sk 30 rfl (by kernel_rfl) rfl HS ?_
         try simp only [Act.put, lpa, lpb, lpc]
         refine sk 31 rfl (by kernel_rfl) rfl HS ?_
         try simp only [Act.put, lpa, lpb, lpc]
         (refine tk (v := ?v9_32) 32 rfl (by kernel_rfl) rfl ?y9_32 HS ?_; case y9_32 => (intro w' hSw; (try dsimp only at hSw); go_simp <;> (with_reducible rfl)))
         try simp only [Act.put, lpa, lpb, lpc]
         (refine tk (v := ?v9_33) 33 rfl (by kernel_rfl) rfl ?y9_33 HS ?_; case y9_33 => (intro w' hSw; (try dsimp only at hSw); go_simp <;> (with_reducible rfl)))
         try simp only [Act.put, lpa, lpb, lpc]
         refine wpAnyH_done (by kernel_rfl) ?_ _
         refine NoPanic.normal ?_
         go_wp2
         go_roundw
         case rel => exact ⟨k + 1, by omega, by go_num, Lib.hid (upTo_snoc hsame.out hxk.out (by show schAt xs _ x = true; unfold schAt; rw [HT.out, HK.out, Nat.eq_zero_of_not_pos hk1]; rfl)), hbel.trans HS.2.2⟩
         case measure => simp [intOf]; omega
     ·
      have hk0 := hk
      obtain ⟨p, rfl⟩ : ∃ p, k = p + 1 := ⟨k - 1, by omega⟩
      obtain ⟨b2, o2, y, hab, hyk, d0, d1⟩ := (hra.grew hbw).getFd (show p < n by omega)
      obtain ⟨rfl, rfl⟩ : b1 = b2 ∧ o1 = o2 := by cases hab; exact ⟨rfl, rfl⟩
      clear hab
      clear d1
      have hpp : ((p + 1 : Nat) : Int) - 1 = (p : Int) := by omega
      have hp0 : (0 : Int) ≤ (p : Int) + 1 := by omega
      have hp1 : (p : Int) < (n : Int) := by omega
      have hp2 : (p : Int) + 1 < (n : Int) := by omega
      have hwp : IntKind.i64.wrap (p : Int) = (p : Int) := by simp [IntKind.wrap, IntKind.bits, IntKind.signed]; omega
      obtain ⟨lv, hlv⟩ : ∃ b, Op.bytesLess y.name.toList x.name.toList = b := ⟨_, rfl⟩
      have HP := Lib.hid (prevOk_succ (lt := fun (y x : Fd) => Op.bytesLess y.name.toList x.name.toList) (x := x) hyk.out)
      have hcl : lv = false ∨ lv = true := by cases lv <;> simp
      rcases hcl with rfl | rfl
      ·
       have hk0 := hk
       have hk00 := hk
       go_wp2_with fail
       refine wp_region_noPanic ?_
       refine wp_region_held_drew (S := (fun w' => (w'.cell? ⟨b1, o1 + (p + 1) * 2, none⟩ = some (.string x.name) ∧ w'.cell? ⟨b1, o1 + (p + 1) * 2 + 1, none⟩ = some (.int .i64 x.kind) ∧ w'.cell? ⟨b1, o1 + p * 2, none⟩ = some (.string y.name) ∧ Grew wr w'))) (by kernel_rfl) ?h10_S ?h10_r
       case h10_S => exact ⟨grew_cell (Grew.refl _).drew c0, grew_cell (Grew.refl _).drew c1, grew_cell (Grew.refl _).drew d0, (Grew.refl _).drew⟩
       case h10_r =>
        intro HS
        (refine tk (v := ?v10_0) 0 rfl (by kernel_rfl) rfl ?y10_0 HS ?_; case y10_0 => (intro w' hSw; (try dsimp only at hSw); go_simp <;> (with_reducible rfl)))
        try simp only [Act.put, lpa, lpb, lpc]
        (refine tk (v := ?v10_1) 1 rfl (by kernel_rfl) rfl ?y10_1 HS ?_; case y10_1 => (intro w' hSw; (try dsimp only at hSw); go_simp <;> (with_reducible rfl)))
        try simp only [Act.put, lpa, lpb, lpc]
        (refine tk (v := ?v10_2) 2 rfl (by kernel_rfl) rfl ?y10_2 HS ?_; case y10_2 => (intro w' hSw; (try dsimp only at hSw); go_simp <;> (with_reducible rfl)))
        try simp only [Act.put, lpa, lpb, lpc]
        (refine tk (v := ?v10_3) 3 rfl (by kernel_rfl) rfl ?y10_3 HS ?_; case y10_3 => (intro w' hSw; (try dsimp only at hSw); go_simp <;> (with_reducible rfl)))
        try simp only [Act.put, lpa, lpb, lpc]
        (refine tk (v := ?v10_4) 4 rfl (by kernel_rfl) rfl ?y10_4 HS ?_; case y10_4 => (intro w' hSw; (try dsimp only at hSw); go_simp <;> (with_reducible rfl)))
        try simp only [Act.put, lpa, lpb, lpc]
        refine cl 5 rfl (by kernel_rfl) (fun K hK => ?_)
        go_simp
        go_at_call 155
        refine (specIsValidAttrName _ _ hs1).mono ?_
        rintro e w1 ⟨he, rfl⟩
        rw [HT.out] at he
        subst he
        refine hK.out _ _ ?s10_5 ?r10_5
        case s10_5 => (try dsimp only); first | exact HS | exact ⟨grew_cell hb HS.1, grew_cell hb HS.2.1, grew_cell hb HS.2.2.1, HS.2.2.2.trans hb⟩
        case r10_5 =>
         clear HS
         intro HS
         clear hK K
         try simp only [Act.put, lpa, lpb, lpc]
         (refine tk (v := ?v10_6) 6 rfl (by kernel_rfl) rfl ?y10_6 HS ?_; case y10_6 => (intro w' hSw; (try dsimp only at hSw); go_simp <;> (with_reducible rfl)))
         try simp only [Act.put, lpa, lpb, lpc]
         (refine tk (v := ?v10_7) 7 rfl (by kernel_rfl) rfl ?y10_7 HS ?_; case y10_7 => (intro w' hSw; (try dsimp only at hSw); go_simp <;> (with_reducible rfl)))
         try simp only [Act.put, lpa, lpb, lpc]
         (refine tk (v := ?v10_8) 8 rfl (by kernel_rfl) rfl ?y10_8 HS ?_; case y10_8 => (intro w' hSw; (try dsimp only at hSw); go_simp <;> (with_reducible rfl)))
         try simp only [Act.put, lpa, lpb, lpc]
         (refine tk (v := ?v10_9) 9 rfl (by kernel_rfl) rfl ?y10_9 HS ?_; case y10_9 => (intro w' hSw; (try dsimp only at hSw); go_simp <;> (with_reducible rfl)))
         try simp only [Act.put, lpa, lpb, lpc]
         (refine tk (v := ?v10_10) 10 rfl (by kernel_rfl) rfl ?y10_10 HS ?_; case y10_10 => (intro w' hSw; (try dsimp only at hSw); go_simp <;> (with_reducible rfl)))
         try simp only [Act.put, lpa, lpb, lpc]
         (refine tk (v := ?v10_11) 11 rfl (by kernel_rfl) rfl ?y10_11 HS ?_; case y10_11 => (intro w' hSw; (try dsimp only at hSw); go_simp <;> (with_reducible rfl)))
         try simp only [Act.put, lpa, lpb, lpc]
         (refine tk (v := ?v10_12) 12 rfl (by kernel_rfl) rfl ?y10_12 HS ?_; case y10_12 => (intro w' hSw; (try dsimp only at hSw); go_simp <;> (with_reducible rfl)))
         try simp only [Act.put, lpa, lpb, lpc]
         refine cl 13 rfl (by kernel_rfl) (fun K hK => ?_)
         go_simp
         go_at_call 89
         refine (l01In _ _ _ _).mono ?_
         rintro e w1 ⟨he, rfl⟩
         rw [HK.out] at he
         subst he
         refine hK.out _ _ ?s10_13 ?r10_13
         case s10_13 => (try dsimp only); first | exact HS | exact ⟨grew_cell hb HS.1, grew_cell hb HS.2.1, grew_cell hb HS.2.2.1, HS.2.2.2.trans hb⟩
         case r10_13 =>
          clear HS
          intro HS
          clear hK K
          try simp only [Act.put, lpa, lpb, lpc]
          (refine tk (v := ?v10_14) 14 rfl (by kernel_rfl) rfl ?y10_14 HS ?_; case y10_14 => (intro w' hSw; (try dsimp only at hSw); go_simp <;> (with_reducible rfl)))
          try simp only [Act.put, lpa, lpb, lpc]
          (refine tk (v := ?v10_15) 15 rfl (by kernel_rfl) rfl ?y10_15 HS ?_; case y10_15 => (intro w' hSw; (try dsimp only at hSw); go_simp <;> (with_reducible rfl)))
          try simp only [Act.put, lpa, lpb, lpc]
          (refine tk (v := ?v10_16) 16 rfl (by kernel_rfl) rfl ?y10_16 HS ?_; case y10_16 => (intro w' hSw; (try dsimp only at hSw); go_simp <;> (with_reducible rfl)))
          try simp only [Act.put, lpa, lpb, lpc]
          (refine tk (v := ?v10_17) 17 rfl (by kernel_rfl) rfl ?y10_17 HS ?_; case y10_17 => (intro w' hSw; (try dsimp only at hSw); go_simp <;> (with_reducible rfl)))
          try simp only [Act.put, lpa, lpb, lpc]
          (refine tk (v := ?v10_18) 18 rfl (by kernel_rfl) rfl ?y10_18 HS ?_; case y10_18 => (intro w' hSw; (try dsimp only at hSw); go_simp <;> (with_reducible rfl)))
          try simp only [Act.put, lpa, lpb, lpc]
          (refine tk (v := ?v10_19) 19 rfl (by kernel_rfl) rfl ?y10_19 HS ?_; case y10_19 => (intro w' hSw; (try dsimp only at hSw); go_simp <;> (with_reducible rfl)))
          try simp only [Act.put, lpa, lpb, lpc]
          (refine tk (v := ?v10_20) 20 rfl (by kernel_rfl) rfl ?y10_20 HS ?_; case y10_20 => (intro w' hSw; (try dsimp only at hSw); go_simp <;> (with_reducible rfl)))
          try simp only [Act.put, lpa, lpb, lpc]
          (refine tk (v := ?v10_21) 21 rfl (by kernel_rfl) rfl ?y10_21 HS ?_; case y10_21 => (intro w' hSw; (try dsimp only at hSw); go_simp <;> (with_reducible rfl)))
          try simp only [Act.put, lpa, lpb, lpc]
          (refine tk (v := ?v10_22) 22 rfl (by kernel_rfl) rfl ?y10_22 HS ?_; case y10_22 => (intro w' hSw; (try dsimp only at hSw); go_simp <;> (with_reducible rfl)))
          try simp only [Act.put, lpa, lpb, lpc]
          (refine tk (v := ?v10_23) 23 rfl (by kernel_rfl) rfl ?y10_23 HS ?_; case y10_23 => (intro w' hSw; (try dsimp only at hSw); go_simp <;> (with_reducible rfl)))
          try simp only [Act.put, lpa, lpb, lpc]
          (refine tk (v := ?v10_24) 24 rfl (by kernel_rfl) rfl ?y10_24 HS ?_; case y10_24 => (intro w' hSw; (try dsimp only at hSw); go_simp <;> (with_reducible rfl)))
          try simp only [Act.put, lpa, lpb, lpc]
          (refine tk (v := ?v10_25) 25 rfl (by kernel_rfl) rfl ?y10_25 HS ?_; case y10_25 => (intro w' hSw; (try dsimp only at hSw); go_simp <;> (with_reducible rfl)))
          try simp only [Act.put, lpa, lpb, lpc]
          (refine tk (v := ?v10_26) 26 rfl (by kernel_rfl) rfl ?y10_26 HS ?_; case y10_26 => (intro w' hSw; (try dsimp only at hSw); go_simp <;> (with_reducible rfl)))
          try simp only [Act.put, lpa, lpb, lpc]
          (refine tk (v := ?v10_27) 27 rfl (by kernel_rfl) rfl ?y10_27 HS ?_; case y10_27 => (intro w' hSw; (try dsimp only at hSw); go_simp <;> (with_reducible rfl)))
          try simp only [Act.put, lpa, lpb, lpc]
          (refine tk (v := ?v10_28) 28 rfl (by kernel_rfl) rfl ?y10_28 HS ?_; case y10_28 => (intro w' hSw; (try dsimp only at hSw); go_simp <;> (with_reducible rfl)))
          try simp only [Act.put, lpa, lpb, lpc]
          (refine tk (v := ?v10_29) 29 rfl (by kernel_rfl) rfl ?y10_29 HS ?_; case y10_29 => (intro w' hSw; (try dsimp only at hSw); go_simp <;> (with_reducible rfl)))
          try simp only [Act.put, lpa, lpb, lpc]
          (refine tk (v := ?v10_30) 30 rfl (by kernel_rfl) rfl ?y10_30 HS ?_; case y10_30 => (intro w' hSw; (try dsimp only at hSw); go_simp <;> (with_reducible rfl)))
          try simp only [Act.put, lpa, lpb, lpc]
          (refine tk (v := ?v10_31) 31 rfl (by kernel_rfl) rfl ?y10_31 HS ?_; case y10_31 => (intro w' hSw; (try dsimp only at hSw); go_simp <;> (with_reducible rfl)))
          try simp only [Act.put, lpa, lpb, lpc]
          (refine tk (v := ?v10_32) 32 rfl (by kernel_rfl) rfl ?y10_32 HS ?_; case y10_32 => (intro w' hSw; (try dsimp only at hSw); go_simp <;> (with_reducible rfl)))
          try simp only [Act.put, lpa, lpb, lpc]
          (refine tk (v := ?v10_33) 33 rfl (by kernel_rfl) rfl ?y10_33 HS ?_; case y10_33 => (intro w' hSw; (try dsimp only at hSw); go_simp <;> (with_reducible rfl)))
          try simp only [Act.put, lpa, lpb, lpc]
          refine wpAnyH_done (by kernel_rfl) ?_ _
          refine NoPanic.normal ?_
          go_wp2
          go_ret
          refine ⟨ret_bool ?_, hbw.trans HS.2.2.2⟩
          exact (show schB xs = false by unfold schB; rw [all_not hxk.out (show schAt xs _ x = false by unfold schAt; rw [HT.out, HK.out, HP.out, hlv]; simp)]; rfl).symm
      ·
       have hk0 := hk
       have hk00 := hk
       go_wp2_with fail
       refine wp_region_noPanic ?_
       refine wp_region_held_drew (S := (fun w' => (w'.cell? ⟨b1, o1 + (p + 1) * 2, none⟩ = some (.string x.name) ∧ w'.cell? ⟨b1, o1 + (p + 1) * 2 + 1, none⟩ = some (.int .i64 x.kind) ∧ w'.cell? ⟨b1, o1 + p * 2, none⟩ = some (.string y.name) ∧ Grew wr w'))) (by kernel_rfl) ?h11_S ?h11_r
       case h11_S => exact ⟨grew_cell (Grew.refl _).drew c0, grew_cell (Grew.refl _).drew c1, grew_cell (Grew.refl _).drew d0, (Grew.refl _).drew⟩
       case h11_r =>
        intro HS
        (refine tk (v := ?v11_0) 0 rfl (by kernel_rfl) rfl ?y11_0 HS ?_; case y11_0 => (intro w' hSw; (try dsimp only at hSw); go_simp <;> (with_reducible rfl)))
        try simp only [Act.put, lpa, lpb, lpc]
        (refine tk (v := ?v11_1) 1 rfl (by kernel_rfl) rfl ?y11_1 HS ?_; case y11_1 => (intro w' hSw; (try dsimp only at hSw); go_simp <;> (with_reducible rfl)))
        try simp only [Act.put, lpa, lpb, lpc]
        (refine tk (v := ?v11_2) 2 rfl (by kernel_rfl) rfl ?y11_2 HS ?_; case y11_2 => (intro w' hSw; (try dsimp only at hSw); go_simp <;> (with_reducible rfl)))
        try simp only [Act.put, lpa, lpb, lpc]
        (refine tk (v := ?v11_3) 3 rfl (by kernel_rfl) rfl ?y11_3 HS ?_; case y11_3 => (intro w' hSw; (try dsimp only at hSw); go_simp <;> (with_reducible rfl)))
        try simp only [Act.put, lpa, lpb, lpc]
        (refine tk (v := ?v11_4) 4 rfl (by kernel_rfl) rfl ?y11_4 HS ?_; case y11_4 => (intro w' hSw; (try dsimp only at hSw); go_simp <;> (with_reducible rfl)))
        try simp only [Act.put, lpa, lpb, lpc]
        refine cl 5 rfl (by kernel_rfl) (fun K hK => ?_)
        go_simp
        go_at_call 155
        refine (specIsValidAttrName _ _ hs1).mono ?_
        rintro e w1 ⟨he, rfl⟩
        rw [HT.out] at he
        subst he
        refine hK.out _ _ ?s11_5 ?r11_5
        case s11_5 => (try dsimp only); first | exact HS | exact ⟨grew_cell hb HS.1, grew_cell hb HS.2.1, grew_cell hb HS.2.2.1, HS.2.2.2.trans hb⟩
        case r11_5 =>
         clear HS
         intro HS
         clear hK K
         try simp only [Act.put, lpa, lpb, lpc]
         (refine tk (v := ?v11_6) 6 rfl (by kernel_rfl) rfl ?y11_6 HS ?_; case y11_6 => (intro w' hSw; (try dsimp only at hSw); go_simp <;> (with_reducible rfl)))
         try simp only [Act.put, lpa, lpb, lpc]
         (refine tk (v := ?v11_7) 7 rfl (by kernel_rfl) rfl ?y11_7 HS ?_; case y11_7 => (intro w' hSw; (try dsimp only at hSw); go_simp <;> (with_reducible rfl)))
         try simp only [Act.put, lpa, lpb, lpc]
         (refine tk (v := ?v11_8) 8 rfl (by kernel_rfl) rfl ?y11_8 HS ?_; case y11_8 => (intro w' hSw; (try dsimp only at hSw); go_simp <;> (with_reducible rfl)))
         try simp only [Act.put, lpa, lpb, lpc]
         (refine tk (v := ?v11_9) 9 rfl (by kernel_rfl) rfl ?y11_9 HS ?_; case y11_9 => (intro w' hSw; (try dsimp only at hSw); go_simp <;> (with_reducible rfl)))
         try simp only [Act.put, lpa, lpb, lpc]
         (refine tk (v := ?v11_10) 10 rfl (by kernel_rfl) rfl ?y11_10 HS ?_; case y11_10 => (intro w' hSw; (try dsimp only at hSw); go_simp <;> (with_reducible rfl)))
         try simp only [Act.put, lpa, lpb, lpc]
         (refine tk (v := ?v11_11) 11 rfl (by kernel_rfl) rfl ?y11_11 HS ?_; case y11_11 => (intro w' hSw; (try dsimp only at hSw); go_simp <;> (with_reducible rfl)))
         try simp only [Act.put, lpa, lpb, lpc]
         (refine tk (v := ?v11_12) 12 rfl (by kernel_rfl) rfl ?y11_12 HS ?_; case y11_12 => (intro w' hSw; (try dsimp only at hSw); go_simp <;> (with_reducible rfl)))
         try simp only [Act.put, lpa, lpb, lpc]
         refine cl 13 rfl (by kernel_rfl) (fun K hK => ?_)
         go_simp
         go_at_call 89
         refine (l01In _ _ _ _).mono ?_
         rintro e w1 ⟨he, rfl⟩
         rw [HK.out] at he
         subst he
         refine hK.out _ _ ?s11_13 ?r11_13
         case s11_13 => (try dsimp only); first | exact HS | exact ⟨grew_cell hb HS.1, grew_cell hb HS.2.1, grew_cell hb HS.2.2.1, HS.2.2.2.trans hb⟩
         case r11_13 =>
          clear HS
          intro HS
          clear hK K
          try simp only [Act.put, lpa, lpb, lpc]
          (refine tk (v := ?v11_14) 14 rfl (by kernel_rfl) rfl ?y11_14 HS ?_; case y11_14 => (intro w' hSw; (try dsimp only at hSw); go_simp <;> (with_reducible rfl)))
          try simp only [Act.put, lpa, lpb, lpc]
          (refine tk (v := ?v11_15) 15 rfl (by kernel_rfl) rfl ?y11_15 HS ?_; case y11_15 => (intro w' hSw; (try dsimp only at hSw); go_simp <;> (with_reducible rfl)))
          try simp only [Act.put, lpa, lpb, lpc]
          (refine tk (v := ?v11_16) 16 rfl (by kernel_rfl) rfl ?y11_16 HS ?_; case y11_16 => (intro w' hSw; (try dsimp only at hSw); go_simp <;> (with_reducible rfl)))
          try simp only [Act.put, lpa, lpb, lpc]
          (refine tk (v := ?v11_17) 17 rfl (by kernel_rfl) rfl ?y11_17 HS ?_; case y11_17 => (intro w' hSw; (try dsimp only at hSw); go_simp <;> (with_reducible rfl)))
          try simp only [Act.put, lpa, lpb, lpc]
          (refine tk (v := ?v11_18) 18 rfl (by kernel_rfl) rfl ?y11_18 HS ?_; case y11_18 => (intro w' hSw; (try dsimp only at hSw); go_simp <;> (with_reducible rfl)))
          try simp only [Act.put, lpa, lpb, lpc]
          (refine tk (v := ?v11_19) 19 rfl (by kernel_rfl) rfl ?y11_19 HS ?_; case y11_19 => (intro w' hSw; (try dsimp only at hSw); go_simp <;> (with_reducible rfl)))
          try simp only [Act.put, lpa, lpb, lpc]
          (refine tk (v := ?v11_20) 20 rfl (by kernel_rfl) rfl ?y11_20 HS ?_; case y11_20 => (intro w' hSw; (try dsimp only at hSw); go_simp <;> (with_reducible rfl)))
          try simp only [Act.put, lpa, lpb, lpc]
          (refine tk (v := ?v11_21) 21 rfl (by kernel_rfl) rfl ?y11_21 HS ?_; case y11_21 => (intro w' hSw; (try dsimp only at hSw); go_simp <;> (with_reducible rfl)))
          try simp only [Act.put, lpa, lpb, lpc]
          (refine tk (v := ?v11_22) 22 rfl (by kernel_rfl) rfl ?y11_22 HS ?_; case y11_22 => (intro w' hSw; (try dsimp only at hSw); go_simp <;> (with_reducible rfl)))
          try simp only [Act.put, lpa, lpb, lpc]
          (refine tk (v := ?v11_23) 23 rfl (by kernel_rfl) rfl ?y11_23 HS ?_; case y11_23 => (intro w' hSw; (try dsimp only at hSw); go_simp <;> (with_reducible rfl)))
          try simp only [Act.put, lpa, lpb, lpc]
          (refine tk (v := ?v11_24) 24 rfl (by kernel_rfl) rfl ?y11_24 HS ?_; case y11_24 => (intro w' hSw; (try dsimp only at hSw); go_simp <;> (with_reducible rfl)))
          try simp only [Act.put, lpa, lpb, lpc]
          (refine tk (v := ?v11_25) 25 rfl (by kernel_rfl) rfl ?y11_25 HS ?_; case y11_25 => (intro w' hSw; (try dsimp only at hSw); go_simp <;> (with_reducible rfl)))
          try simp only [Act.put, lpa, lpb, lpc]
          (refine tk (v := ?v11_26) 26 rfl (by kernel_rfl) rfl ?y11_26 HS ?_; case y11_26 => (intro w' hSw; (try dsimp only at hSw); go_simp <;> (with_reducible rfl)))
          try simp only [Act.put, lpa, lpb, lpc]
          (refine tk (v := ?v11_27) 27 rfl (by kernel_rfl) rfl ?y11_27 HS ?_; case y11_27 => (intro w' hSw; (try dsimp only at hSw); go_simp <;> (with_reducible rfl)))
          try simp only [Act.put, lpa, lpb, lpc]
          (refine tk (v := ?v11_28) 28 rfl (by kernel_rfl) rfl ?y11_28 HS ?_; case y11_28 => (intro w' hSw; (try dsimp only at hSw); go_simp <;> (with_reducible rfl)))
          try simp only [Act.put, lpa, lpb, lpc]
          (refine tk (v := ?v11_29) 29 rfl (by kernel_rfl) rfl ?y11_29 HS ?_; case y11_29 => (intro w' hSw; (try dsimp only at hSw); go_simp <;> (with_reducible rfl)))
          try simp only [Act.put, lpa, lpb, lpc]
          (refine tk (v := ?v11_30) 30 rfl (by kernel_rfl) rfl ?y11_30 HS ?_; case y11_30 => (intro w' hSw; (try dsimp only at hSw); go_simp <;> (with_reducible rfl)))
          try simp only [Act.put, lpa, lpb, lpc]
          (refine tk (v := ?v11_31) 31 rfl (by kernel_rfl) rfl ?y11_31 HS ?_; case y11_31 => (intro w' hSw; (try dsimp only at hSw); go_simp <;> (with_reducible rfl)))
          try simp only [Act.put, lpa, lpb, lpc]
          (refine tk (v := ?v11_32) 32 rfl (by kernel_rfl) rfl ?y11_32 HS ?_; case y11_32 => (intro w' hSw; (try dsimp only at hSw); go_simp <;> (with_reducible rfl)))
          try simp only [Act.put, lpa, lpb, lpc]
          (refine tk (v := ?v11_33) 33 rfl (by kernel_rfl) rfl ?y11_33 HS ?_; case y11_33 => (intro w' hSw; (try dsimp only at hSw); go_simp <;> (with_reducible rfl)))
          try simp only [Act.put, lpa, lpb, lpc]
          refine wpAnyH_done (by kernel_rfl) ?_ _
          refine NoPanic.normal ?_
          go_wp2
          go_roundw
          case rel => exact ⟨p + 1 + 1, by omega, by go_num, Lib.hid (upTo_snoc hsame.out hxk.out (by show schAt xs _ x = true; unfold schAt; rw [HT.out, HK.out, HP.out, hlv]; rfl)), hbel.trans HS.2.2.2⟩
          case measure => simp [intOf]; omega
  ·
   obtain rfl : k = n := by omega
   have hy := Lib.hid (all_up HX.out hsame.out)
   go_wp2
   go_ret
   refine ⟨ret_bool ?_, hbel⟩
   unfold schB; rw [hy.out, HX.out]; simp; omega
set_option maxRecDepth 100000 in
set_option maxHeartbeats 4000000 in
theorem implIsValidSchema (va : Value) (n : Nat) (xs : List Fd) (w : World) (ha : Rd w va 2 n (rows Fd.c xs)) (hx : n ≤ 4000000) (hz : szAll Fd.sz xs ≤ 4000000) :
  Calls Tryz.prog 176 #[va] w fun e w' => e = .returned (.bool (schB xs)) ∧ Grew w w' := by
 obtain ⟨a, ca, rfl, hca, hra⟩ := ha
 have HX := Lib.hid (hra.len_rows Fd.len (by decide))
 have HZ := Lib.hid hz
 go_enter Tryz.func176, Tryz.ntmps176
 go_wp2
 go_loopw [7] (fun i wr => ∃ k : Nat, k ≤ n ∧ i = .int .i64 k ∧ Hid (upTo (schAt xs) xs k) ∧ Grew w wr) (fun i _ => n - (intOf i).toNat)
 case atStart => exact ⟨0, Nat.zero_le _, rfl, Lib.hid (upTo_zero _ _), Grew.refl _⟩
 case round =>
  obtain ⟨k, hk, rfl, hsame, hbel⟩ := hrel
  have hbw := hbel
  by_cases hlt : k < n
  ·
   obtain ⟨b1, o1, x, rfl, hxk, c0, c1⟩ := (hra.grew hbw).getFd hlt
   have hs1 := fd_sz HZ.out hxk.out
   obtain ⟨tv, htv⟩ : ∃ b, txtB x.name 1 = b := ⟨_, rfl⟩
   have HT := Lib.hid htv
   clear htv
   have hct : tv = false ∨ tv = true := by cases tv <;> simp
   obtain ⟨kv, hkv⟩ : ∃ b, inB x.kind 1 2 = b := ⟨_, rfl⟩
   have HK := Lib.hid hkv
   clear hkv
   have hck : kv = false ∨ kv = true := by cases kv <;> simp
   rcases hct with rfl | rfl
   ·
    have hk0 := hk
    have hk00 := hk
    go_wp2_with fail
    have hal := (Grew.refl wr).alloc (.cells #[.string x.name, .int .i64 x.kind] 167)
    have g0 : (wr.alloc (.cells #[.string x.name, .int .i64 x.kind] 167)).cell? ⟨wr.heap.size, 0, none⟩ = some (.string x.name) := by simp
    have g1 : (wr.alloc (.cells #[.string x.name, .int .i64 x.kind] 167)).cell? ⟨wr.heap.size, 1, none⟩ = some (.int .i64 x.kind) := by simp
    refine wp_region_noPanic ?_
    refine wp_region_held_drew (S := (fun w' => (w'.cell? ⟨wr.heap.size, 0, none⟩ = some (.string x.name) ∧ w'.cell? ⟨wr.heap.size, 1, none⟩ = some (.int .i64 x.kind) ∧ Grew (wr.alloc (.cells #[.string x.name, .int .i64 x.kind] 167)) w'))) (by kernel_rfl) ?h12_S ?h12_r
    case h12_S => exact ⟨grew_cell (Grew.refl _).drew g0, grew_cell (Grew.refl _).drew g1, (Grew.refl _).drew⟩
    case h12_r =>
     intro HS
     (refine tk (v := ?v12_0) 0 rfl (by kernel_rfl) rfl ?y12_0 HS ?_; case y12_0 => (intro w' hSw; (try dsimp only at hSw); go_simp <;> (with_reducible rfl)))
     try simp only [Act.put, lpa, lpb, lpc]
     (refine tk (v := ?v12_1) 1 rfl (by kernel_rfl) rfl ?y12_1 HS ?_; case y12_1 => (intro w' hSw; (try dsimp only at hSw); go_simp <;> (with_reducible rfl)))
     try simp only [Act.put, lpa, lpb, lpc]
     refine cl 2 rfl (by kernel_rfl) (fun K hK => ?_)
     go_simp
     go_at_call 220
     refine (implIsValidAttrName _ _ hs1).mono ?_
     rintro e w1 ⟨he, rfl⟩
     rw [HT.out] at he
     subst he
     refine hK.out _ _ ?s12_2 ?r12_2
     case s12_2 => (try dsimp only); first | exact HS | exact ⟨grew_cell hb HS.1, grew_cell hb HS.2.1, HS.2.2.trans hb⟩
     case r12_2 =>
      clear HS
      intro HS
      clear hK K
      try simp only [Act.put, lpa, lpb, lpc]
      (refine tk (v := ?v12_3) 3 rfl (by kernel_rfl) rfl ?y12_3 HS ?_; case y12_3 => (intro w' hSw; (try dsimp only at hSw); go_simp <;> (with_reducible rfl)))
      try simp only [Act.put, lpa, lpb, lpc]
      (refine tk (v := ?v12_4) 4 rfl (by kernel_rfl) rfl ?y12_4 HS ?_; case y12_4 => (intro w' hSw; (try dsimp only at hSw); go_simp <;> (with_reducible rfl)))
      try simp only [Act.put, lpa, lpb, lpc]
      refine sk 5 rfl (by kernel_rfl) rfl HS ?_
      try simp only [Act.put, lpa, lpb, lpc]
      refine sk 6 rfl (by kernel_rfl) rfl HS ?_
      try simp only [Act.put, lpa, lpb, lpc]
      refine sk 7 rfl (by kernel_rfl) rfl HS ?_
      try simp only [Act.put, lpa, lpb, lpc]
      refine sk 8 rfl (by kernel_rfl) rfl HS ?_
      try simp only [Act.put, lpa, lpb, lpc]
      refine sk 9 rfl (by kernel_rfl) rfl HS ?_
      try simp only [Act.put, lpa, lpb, lpc]
      refine sk 10 rfl (by kernel_rfl) rfl HS ?_
      try simp only [Act.put, lpa, lpb, lpc]
      refine sk 11 rfl (by kernel_rfl) rfl HS ?_
      try simp only [Act.put, lpa, lpb, lpc]
      refine sk 12 rfl (by kernel_rfl) rfl HS ?_
      try simp only [Act.put, lpa, lpb, lpc]
      (refine tk (v := ?v12_13) 13 rfl (by kernel_rfl) rfl ?y12_13 HS ?_; case y12_13 => (intro w' hSw; (try dsimp only at hSw); go_simp <;> (with_reducible rfl)))
      try simp only [Act.put, lpa, lpb, lpc]
      (refine tk (v := ?v12_14) 14 rfl (by kernel_rfl) rfl ?y12_14 HS ?_; case y12_14 => (intro w' hSw; (try dsimp only at hSw); go_simp <;> (with_reducible rfl)))
      try simp only [Act.put, lpa, lpb, lpc]
      refine sk 15 rfl (by kernel_rfl) rfl HS ?_
      try simp only [Act.put, lpa, lpb, lpc]
      refine sk 16 rfl (by kernel_rfl) rfl HS ?_
      try simp only [Act.put, lpa, lpb, lpc]
      refine sk 17 rfl (by kernel_rfl) rfl HS ?_
      try simp only [Act.put, lpa, lpb, lpc]
      refine sk 18 rfl (by kernel_rfl) rfl HS ?_
      try simp only [Act.put, lpa, lpb, lpc]
      refine sk 19 rfl (by kernel_rfl) rfl HS ?_
      try simp only [Act.put, lpa, lpb, lpc]
      refine sk 20 rfl (by kernel_rfl) rfl HS ?_
      try simp only [Act.put, lpa, lpb, lpc]
      refine sk 21 rfl (by kernel_rfl) rfl HS ?_
      try simp only [Act.put, lpa, lpb, lpc]
      refine sk 22 rfl (by kernel_rfl) rfl HS ?_
      try simp only [Act.put, lpa, lpb, lpc]
      refine sk 23 rfl (by kernel_rfl) rfl HS ?_
      try simp only [Act.put, lpa, lpb, lpc]
      refine sk 24 rfl (by kernel_rfl) rfl HS ?_
      try simp only [Act.put, lpa, lpb, lpc]
      refine sk 25 rfl (by kernel_rfl) rfl HS ?_
      try simp only [Act.put, lpa, lpb, lpc]
      refine sk 26 rfl (by kernel_rfl) rfl HS ?_
      try simp only [Act.put, lpa, lpb, lpc]
      refine sk 27 rfl (by kernel_rfl) rfl HS ?_
      try simp only [Act.put, lpa, lpb, lpc]
      (refine tk (v := ?v12_28) 28 rfl (by kernel_rfl) rfl ?y12_28 HS ?_; case y12_28 => (intro w' hSw; (try dsimp only at hSw); go_simp <;> (with_reducible rfl)))
      try simp only [Act.put, lpa, lpb, lpc]
      refine wpAnyH_done (by kernel_rfl) ?_ _
      refine NoPanic.normal ?_
      go_wp2
      go_ret
      refine ⟨ret_bool ?_, hbw.trans (hal.trans HS.2.2)⟩
      exact (show schB xs = false by unfold schB; rw [all_not hxk.out (show schAt xs _ x = false by unfold schAt; rw [HT.out]; simp)]; rfl).symm
   ·
    have hk0 := hk
    have hcq1 : (x.kind == 1) = true ∨ (x.kind == 1) = false := by cases x.kind == 1 <;> simp
    rcases hcq1 with hq1 | hq1
    ·
     have hk0 := hk
     have h1n : (x.kind != 1) = false := by unfold bne; rw [hq1]; rfl
     have HK2 := Lib.hid (show inB x.kind 1 2 = true by rw [in12, hq1]; rfl)
     by_cases hk1 : ¬ (0 < k)
     ·
      have hk0 := hk
      have hk00 := hk
      go_wp2_with fail
      have hal := (Grew.refl wr).alloc (.cells #[.string x.name, .int .i64 x.kind] 167)
      have g0 : (wr.alloc (.cells #[.string x.name, .int .i64 x.kind] 167)).cell? ⟨wr.heap.size, 0, none⟩ = some (.string x.name) := by simp
      have g1 : (wr.alloc (.cells #[.string x.name, .int .i64 x.kind] 167)).cell? ⟨wr.heap.size, 1, none⟩ = some (.int .i64 x.kind) := by simp
      refine wp_region_noPanic ?_
      refine wp_region_held_drew (S := (fun w' => (w'.cell? ⟨wr.heap.size, 0, none⟩ = some (.string x.name) ∧ w'.cell? ⟨wr.heap.size, 1, none⟩ = some (.int .i64 x.kind) ∧ Grew (wr.alloc (.cells #[.string x.name, .int .i64 x.kind] 167)) w'))) (by kernel_rfl) ?h13_S ?h13_r
      case h13_S => exact ⟨grew_cell (Grew.refl _).drew g0, grew_cell (Grew.refl _).drew g1, (Grew.refl _).drew⟩
      case h13_r =>
       intro HS
       (refine tk (v := ?v13_0) 0 rfl (by kernel_rfl) rfl ?y13_0 HS ?_; case y13_0 => (intro w' hSw; (try dsimp only at hSw); go_simp <;> (with_reducible rfl)))
       try simp only [Act.put, lpa, lpb, lpc]
       (refine tk (v := ?v13_1) 1 rfl (by kernel_rfl) rfl ?y13_1 HS ?_; case y13_1 => (intro w' hSw; (try dsimp only at hSw); go_simp <;> (with_reducible rfl)))
       try simp only [Act.put, lpa, lpb, lpc]
       refine cl 2 rfl (by kernel_rfl) (fun K hK => ?_)
       go_simp
       go_at_call 220
       refine (implIsValidAttrName _ _ hs1).mono ?_
       rintro e w1 ⟨he, rfl⟩
       rw [HT.out] at he
       subst he
       refine hK.out _ _ ?s13_2 ?r13_2
       case s13_2 => (try dsimp only); first | exact HS | exact ⟨grew_cell hb HS.1, grew_cell hb HS.2.1, HS.2.2.trans hb⟩
       case r13_2 =>
        clear HS
        intro HS
        clear hK K
        try simp only [Act.put, lpa, lpb, lpc]
        (refine tk (v := ?v13_3) 3 rfl (by kernel_rfl) rfl ?y13_3 HS ?_; case y13_3 => (intro w' hSw; (try dsimp only at hSw); go_simp <;> (with_reducible rfl)))
        try simp only [Act.put, lpa, lpb, lpc]
        (refine tk (v := ?v13_4) 4 rfl (by kernel_rfl) rfl ?y13_4 HS ?_; case y13_4 => (intro w' hSw; (try dsimp only at hSw); go_simp <;> (with_reducible rfl)))
        try simp only [Act.put, lpa, lpb, lpc]
        (refine tk (v := ?v13_5) 5 rfl (by kernel_rfl) rfl ?y13_5 HS ?_; case y13_5 => (intro w' hSw; (try dsimp only at hSw); go_simp <;> (with_reducible rfl)))
        try simp only [Act.put, lpa, lpb, lpc]
        (refine tk (v := ?v13_6) 6 rfl (by kernel_rfl) rfl ?y13_6 HS ?_; case y13_6 => (intro w' hSw; (try dsimp only at hSw); go_simp <;> (with_reducible rfl)))
        try simp only [Act.put, lpa, lpb, lpc]
        (refine tk (v := ?v13_7) 7 rfl (by kernel_rfl) rfl ?y13_7 HS ?_; case y13_7 => (intro w' hSw; (try dsimp only at hSw); go_simp <;> (with_reducible rfl)))
        try simp only [Act.put, lpa, lpb, lpc]
        (refine tk (v := ?v13_8) 8 rfl (by kernel_rfl) rfl ?y13_8 HS ?_; case y13_8 => (intro w' hSw; (try dsimp only at hSw); go_simp <;> (with_reducible rfl)))
        try simp only [Act.put, lpa, lpb, lpc]
        refine sk 9 rfl (by kernel_rfl) rfl HS ?_
        try simp only [Act.put, lpa, lpb, lpc]
        refine sk 10 rfl (by kernel_rfl) rfl HS ?_
        try simp only [Act.put, lpa, lpb, lpc]
        refine sk 11 rfl (by kernel_rfl) rfl HS ?_
        try simp only [Act.put, lpa, lpb, lpc]
        (refine tk (v := ?v13_12) 12 rfl (by kernel_rfl) rfl ?y13_12 HS ?_; case y13_12 => (intro w' hSw; (try dsimp only at hSw); go_simp <;> (with_reducible rfl)))
        try simp only [Act.put, lpa, lpb, lpc]
        (refine tk (v := ?v13_13) 13 rfl (by kernel_rfl) rfl ?y13_13 HS ?_; case y13_13 => (intro w' hSw; (try dsimp only at hSw); go_simp <;> (with_reducible rfl)))
        try simp only [Act.put, lpa, lpb, lpc]
        (refine tk (v := ?v13_14) 14 rfl (by kernel_rfl) rfl ?y13_14 HS ?_; case y13_14 => (intro w' hSw; (try dsimp only at hSw); go_simp <;> (with_reducible rfl)))
        try simp only [Act.put, lpa, lpb, lpc]
        (refine tk (v := ?v13_15) 15 rfl (by kernel_rfl) rfl ?y13_15 HS ?_; case y13_15 => (intro w' hSw; (try dsimp only at hSw); go_simp <;> (with_reducible rfl)))
        try simp only [Act.put, lpa, lpb, lpc]
        (refine tk (v := ?v13_16) 16 rfl (by kernel_rfl) rfl ?y13_16 HS ?_; case y13_16 => (intro w' hSw; (try dsimp only at hSw); go_simp <;> (with_reducible rfl)))
        try simp only [Act.put, lpa, lpb, lpc]
        (refine tk (v := ?v13_17) 17 rfl (by kernel_rfl) rfl ?y13_17 HS ?_; case y13_17 => (intro w' hSw; (try dsimp only at hSw); go_simp <;> (with_reducible rfl)))
        try simp only [Act.put, lpa, lpb, lpc]
        refine sk 18 rfl (by kernel_rfl) rfl HS ?_
        try simp only [Act.put, lpa, lpb, lpc]
        refine sk 19 rfl (by kernel_rfl) rfl HS ?_
        try simp only [Act.put, lpa, lpb, lpc]
        refine sk 20 rfl (by kernel_rfl) rfl HS ?_
        try simp only [Act.put, lpa, lpb, lpc]
        refine sk 21 rfl (by kernel_rfl) rfl HS ?_
        try simp only [Act.put, lpa, lpb, lpc]
        refine sk 22 rfl (by kernel_rfl) rfl HS ?_
        try simp only [Act.put, lpa, lpb, lpc]
        refine sk 23 rfl (by kernel_rfl) rfl HS ?_
        try simp only [Act.put, lpa, lpb, lpc]
        refine sk 24 rfl (by kernel_rfl) rfl HS ?_
        try simp only [Act.put, lpa, lpb, lpc]
        refine sk 25 rfl (by kernel_rfl) rfl HS ?_
        try simp only [Act.put, lpa, lpb, lpc]
        refine sk 26 rfl (by kernel_rfl) rfl HS ?_
        try simp only [Act.put, lpa, lpb, lpc]
        (refine tk (v := ?v13_27) 27 rfl (by kernel_rfl) rfl ?y13_27 HS ?_; case y13_27 => (intro w' hSw; (try dsimp only at hSw); go_simp <;> (with_reducible rfl)))
        try simp only [Act.put, lpa, lpb, lpc]
        (refine tk (v := ?v13_28) 28 rfl (by kernel_rfl) rfl ?y13_28 HS ?_; case y13_28 => (intro w' hSw; (try dsimp only at hSw); go_simp <;> (with_reducible rfl)))
        try simp only [Act.put, lpa, lpb, lpc]
        refine wpAnyH_done (by kernel_rfl) ?_ _
        refine NoPanic.normal ?_
        go_wp2
        go_roundw
        case rel => exact ⟨k + 1, by omega, by go_num, Lib.hid (upTo_snoc hsame.out hxk.out (by show schAt xs _ x = true; unfold schAt; rw [HT.out, HK2.out, Nat.eq_zero_of_not_pos hk1]; rfl)), hbel.trans (hal.trans HS.2.2)⟩
        case measure => simp [intOf]; omega
     ·
      have hk0 := hk
      obtain ⟨p, rfl⟩ : ∃ p, k = p + 1 := ⟨k - 1, by omega⟩
      obtain ⟨b2, o2, y, hab, hyk, d0, d1⟩ := (hra.grew hbw).getFd (show p < n by omega)
      obtain ⟨rfl, rfl⟩ : b1 = b2 ∧ o1 = o2 := by cases hab; exact ⟨rfl, rfl⟩
      clear hab
      clear d1
      have hpp : ((p + 1 : Nat) : Int) - 1 = (p : Int) := by omega
      have hp0 : (0 : Int) ≤ (p : Int) + 1 := by omega
      have hp1 : (p : Int) < (n : Int) := by omega
      have hp2 : (p : Int) + 1 < (n : Int) := by omega
      have hwp : IntKind.i64.wrap (p : Int) = (p : Int) := by simp [IntKind.wrap, IntKind.bits, IntKind.signed]; omega
      obtain ⟨lv, hlv⟩ : ∃ b, Op.bytesLess y.name.toList x.name.toList = b := ⟨_, rfl⟩
      have HP := Lib.hid (prevOk_succ (lt := fun (y x : Fd) => Op.bytesLess y.name.toList x.name.toList) (x := x) hyk.out)
      have hcl : lv = false ∨ lv = true := by cases lv <;> simp
      rcases hcl with rfl | rfl
      ·
       have hk0 := hk
       have hk00 := hk
       go_wp2_with fail
       have hal := (Grew.refl wr).alloc (.cells #[.string x.name, .int .i64 x.kind] 167)
       have g0 : (wr.alloc (.cells #[.string x.name, .int .i64 x.kind] 167)).cell? ⟨wr.heap.size, 0, none⟩ = some (.string x.name) := by simp
       have g1 : (wr.alloc (.cells #[.string x.name, .int .i64 x.kind] 167)).cell? ⟨wr.heap.size, 1, none⟩ = some (.int .i64 x.kind) := by simp
       replace d0 := grew_cell hal d0
       refine wp_region_noPanic ?_
       refine wp_region_held_drew (S := (fun w' => (w'.cell? ⟨wr.heap.size, 0, none⟩ = some (.string x.name) ∧ w'.cell? ⟨wr.heap.size, 1, none⟩ = some (.int .i64 x.kind) ∧ w'.cell? ⟨b1, o1 + p * 2, none⟩ = some (.string y.name) ∧ Grew (wr.alloc (.cells #[.string x.name, .int .i64 x.kind] 167)) w'))) (by kernel_rfl) ?h14_S ?h14_r
       case h14_S => exact ⟨grew_cell (Grew.refl _).drew g0, grew_cell (Grew.refl _).drew g1, grew_cell (Grew.refl _).drew d0, (Grew.refl _).drew⟩
       case h14_r =>
        intro HS
        (refine tk (v := ?v14_0) 0 rfl (by kernel_rfl) rfl ?y14_0 HS ?_; case y14_0 => (intro w' hSw; (try dsimp only at hSw); go_simp <;> (with_reducible rfl)))
        try simp only [Act.put, lpa, lpb, lpc]
        (refine tk (v := ?v14_1) 1 rfl (by kernel_rfl) rfl ?y14_1 HS ?_; case y14_1 => (intro w' hSw; (try dsimp only at hSw); go_simp <;> (with_reducible rfl)))
        try simp only [Act.put, lpa, lpb, lpc]
        refine cl 2 rfl (by kernel_rfl) (fun K hK => ?_)
        go_simp
        go_at_call 220
        refine (implIsValidAttrName _ _ hs1).mono ?_
        rintro e w1 ⟨he, rfl⟩
        rw [HT.out] at he
        subst he
        refine hK.out _ _ ?s14_2 ?r14_2
        case s14_2 => (try dsimp only); first | exact HS | exact ⟨grew_cell hb HS.1, grew_cell hb HS.2.1, grew_cell hb HS.2.2.1, HS.2.2.2.trans hb⟩
        case r14_2 =>
         clear HS
         intro HS
         clear hK K
         try simp only [Act.put, lpa, lpb, lpc]
         (refine tk (v := ?v14_3) 3 rfl (by kernel_rfl) rfl ?y14_3 HS ?_; case y14_3 => (intro w' hSw; (try dsimp only at hSw); go_simp <;> (with_reducible rfl)))
         try simp only [Act.put, lpa, lpb, lpc]
         (refine tk (v := ?v14_4) 4 rfl (by kernel_rfl) rfl ?y14_4 HS ?_; case y14_4 => (intro w' hSw; (try dsimp only at hSw); go_simp <;> (with_reducible rfl)))
         try simp only [Act.put, lpa, lpb, lpc]
         (refine tk (v := ?v14_5) 5 rfl (by kernel_rfl) rfl ?y14_5 HS ?_; case y14_5 => (intro w' hSw; (try dsimp only at hSw); go_simp <;> (with_reducible rfl)))
         try simp only [Act.put, lpa, lpb, lpc]
         (refine tk (v := ?v14_6) 6 rfl (by kernel_rfl) rfl ?y14_6 HS ?_; case y14_6 => (intro w' hSw; (try dsimp only at hSw); go_simp <;> (with_reducible rfl)))
         try simp only [Act.put, lpa, lpb, lpc]
         (refine tk (v := ?v14_7) 7 rfl (by kernel_rfl) rfl ?y14_7 HS ?_; case y14_7 => (intro w' hSw; (try dsimp only at hSw); go_simp <;> (with_reducible rfl)))
         try simp only [Act.put, lpa, lpb, lpc]
         (refine tk (v := ?v14_8) 8 rfl (by kernel_rfl) rfl ?y14_8 HS ?_; case y14_8 => (intro w' hSw; (try dsimp only at hSw); go_simp <;> (with_reducible rfl)))
         try simp only [Act.put, lpa, lpb, lpc]
         refine sk 9 rfl (by kernel_rfl) rfl HS ?_
         try simp only [Act.put, lpa, lpb, lpc]
         refine sk 10 rfl (by kernel_rfl) rfl HS ?_
         try simp only [Act.put, lpa, lpb, lpc]
         refine sk 11 rfl (by kernel_rfl) rfl HS ?_
         try simp only [Act.put, lpa, lpb, lpc]
         (refine tk (v := ?v14_12) 12 rfl (by kernel_rfl) rfl ?y14_12 HS ?_; case y14_12 => (intro w' hSw; (try dsimp only at hSw); go_simp <;> (with_reducible rfl)))
         try simp only [Act.put, lpa, lpb, lpc]
         (refine tk (v := ?v14_13) 13 rfl (by kernel_rfl) rfl ?y14_13 HS ?_; case y14_13 => (intro w' hSw; (try dsimp only at hSw); go_simp <;> (with_reducible rfl)))
         try simp only [Act.put, lpa, lpb, lpc]
         (refine tk (v := ?v14_14) 14 rfl (by kernel_rfl) rfl ?y14_14 HS ?_; case y14_14 => (intro w' hSw; (try dsimp only at hSw); go_simp <;> (with_reducible rfl)))
         try simp only [Act.put, lpa, lpb, lpc]
         (refine tk (v := ?v14_15) 15 rfl (by kernel_rfl) rfl ?y14_15 HS ?_; case y14_15 => (intro w' hSw; (try dsimp only at hSw); go_simp <;> (with_reducible rfl)))
         try simp only [Act.put, lpa, lpb, lpc]
         (refine tk (v := ?v14_16) 16 rfl (by kernel_rfl) rfl ?y14_16 HS ?_; case y14_16 => (intro w' hSw; (try dsimp only at hSw); go_simp <;> (with_reducible rfl)))
         try simp only [Act.put, lpa, lpb, lpc]
         (refine tk (v := ?v14_17) 17 rfl (by kernel_rfl) rfl ?y14_17 HS ?_; case y14_17 => (intro w' hSw; (try dsimp only at hSw); go_simp <;> (with_reducible rfl)))
         try simp only [Act.put, lpa, lpb, lpc]
         (refine tk (v := ?v14_18) 18 rfl (by kernel_rfl) rfl ?y14_18 HS ?_; case y14_18 => (intro w' hSw; (try dsimp only at hSw); go_simp <;> (with_reducible rfl)))
         try simp only [Act.put, lpa, lpb, lpc]
         (refine tk (v := ?v14_19) 19 rfl (by kernel_rfl) rfl ?y14_19 HS ?_; case y14_19 => (intro w' hSw; (try dsimp only at hSw); go_simp <;> (with_reducible rfl)))
         try simp only [Act.put, lpa, lpb, lpc]
         (refine tk (v := ?v14_20) 20 rfl (by kernel_rfl) rfl ?y14_20 HS ?_; case y14_20 => (intro w' hSw; (try dsimp only at hSw); go_simp <;> (with_reducible rfl)))
         try simp only [Act.put, lpa, lpb, lpc]
         (refine tk (v := ?v14_21) 21 rfl (by kernel_rfl) rfl ?y14_21 HS ?_; case y14_21 => (intro w' hSw; (try dsimp only at hSw); go_simp <;> (with_reducible rfl)))
         try simp only [Act.put, lpa, lpb, lpc]
         (refine tk (v := ?v14_22) 22 rfl (by kernel_rfl) rfl ?y14_22 HS ?_; case y14_22 => (intro w' hSw; (try dsimp only at hSw); go_simp <;> (with_reducible rfl)))
         try simp only [Act.put, lpa, lpb, lpc]
         (refine tk (v := ?v14_23) 23 rfl (by kernel_rfl) rfl ?y14_23 HS ?_; case y14_23 => (intro w' hSw; (try dsimp only at hSw); go_simp <;> (with_reducible rfl)))
         try simp only [Act.put, lpa, lpb, lpc]
         (refine tk (v := ?v14_24) 24 rfl (by kernel_rfl) rfl ?y14_24 HS ?_; case y14_24 => (intro w' hSw; (try dsimp only at hSw); go_simp <;> (with_reducible rfl)))
         try simp only [Act.put, lpa, lpb, lpc]
         (refine tk (v := ?v14_25) 25 rfl (by kernel_rfl) rfl ?y14_25 HS ?_; case y14_25 => (intro w' hSw; (try dsimp only at hSw); go_simp <;> (with_reducible rfl)))
         try simp only [Act.put, lpa, lpb, lpc]
         (refine tk (v := ?v14_26) 26 rfl (by kernel_rfl) rfl ?y14_26 HS ?_; case y14_26 => (intro w' hSw; (try dsimp only at hSw); go_simp <;> (with_reducible rfl)))
         try simp only [Act.put, lpa, lpb, lpc]
         (refine tk (v := ?v14_27) 27 rfl (by kernel_rfl) rfl ?y14_27 HS ?_; case y14_27 => (intro w' hSw; (try dsimp only at hSw); go_simp <;> (with_reducible rfl)))
         try simp only [Act.put, lpa, lpb, lpc]
         (refine tk (v := ?v14_28) 28 rfl (by kernel_rfl) rfl ?y14_28 HS ?_; case y14_28 => (intro w' hSw; (try dsimp only at hSw); go_simp <;> (with_reducible rfl)))
         try simp only [Act.put, lpa, lpb, lpc]
         refine wpAnyH_done (by kernel_rfl) ?_ _
         refine NoPanic.normal ?_
         go_wp2
         go_ret
         refine ⟨ret_bool ?_, hbw.trans (hal.trans HS.2.2.2)⟩
         exact (show schB xs = false by unfold schB; rw [all_not hxk.out (show schAt xs _ x = false by unfold schAt; rw [HT.out, HK2.out, HP.out, hlv]; simp)]; rfl).symm
      ·
       have hk0 := hk
       have hk00 := hk
       go_wp2_with fail
       have hal := (Grew.refl wr).alloc (.cells #[.string x.name, .int .i64 x.kind] 167)
       have g0 : (wr.alloc (.cells #[.string x.name, .int .i64 x.kind] 167)).cell? ⟨wr.heap.size, 0, none⟩ = some (.string x.name) := by simp
       have g1 : (wr.alloc (.cells #[.string x.name, .int .i64 x.kind] 167)).cell? ⟨wr.heap.size, 1, none⟩ = some (.int .i64 x.kind) := by simp
       replace d0 := grew_cell hal d0
       refine wp_region_noPanic ?_
       refine wp_region_held_drew (S := (fun w' => (w'.cell? ⟨wr.heap.size, 0, none⟩ = some (.string x.name) ∧ w'.cell? ⟨wr.heap.size, 1, none⟩ = some (.int .i64 x.kind) ∧ w'.cell? ⟨b1, o1 + p * 2, none⟩ = some (.string y.name) ∧ Grew (wr.alloc (.cells #[.string x.name, .int .i64 x.kind] 167)) w'))) (by kernel_rfl) ?h15_S ?h15_r
       case h15_S => exact ⟨grew_cell (Grew.refl _).drew g0, grew_cell (Grew.refl _).drew g1, grew_cell (Grew.refl _).drew d0, (Grew.refl _).drew⟩
       case h15_r =>
        intro HS
        (refine tk (v := ?v15_0) 0 rfl (by kernel_rfl) rfl ?y15_0 HS ?_; case y15_0 => (intro w' hSw; (try dsimp only at hSw); go_simp <;> (with_reducible rfl)))
        try simp only [Act.put, lpa, lpb, lpc]
        (refine tk (v := ?v15_1) 1 rfl (by kernel_rfl) rfl ?y15_1 HS ?_; case y15_1 => (intro w' hSw; (try dsimp only at hSw); go_simp <;> (with_reducible rfl)))
        try simp only [Act.put, lpa, lpb, lpc]
        refine cl 2 rfl (by kernel_rfl) (fun K hK => ?_)
        go_simp
        go_at_call 220
        refine (implIsValidAttrName _ _ hs1).mono ?_
        rintro e w1 ⟨he, rfl⟩
        rw [HT.out] at he
        subst he
        refine hK.out _ _ ?s15_2 ?r15_2
        case s15_2 => (try dsimp only); first | exact HS | exact ⟨grew_cell hb HS.1, grew_cell hb HS.2.1, grew_cell hb HS.2.2.1, HS.2.2.2.trans hb⟩
        case r15_2 =>
         clear HS
         intro HS
         clear hK K
         try simp only [Act.put, lpa, lpb, lpc]
         (refine tk (v := ?v15_3) 3 rfl (by kernel_rfl) rfl ?y15_3 HS ?_; case y15_3 => (intro w' hSw; (try dsimp only at hSw); go_simp <;> (with_reducible rfl)))
         try simp only [Act.put, lpa, lpb, lpc]
         (refine tk (v := ?v15_4) 4 rfl (by kernel_rfl) rfl ?y15_4 HS ?_; case y15_4 => (intro w' hSw; (try dsimp only at hSw); go_simp <;> (with_reducible rfl)))
         try simp only [Act.put, lpa, lpb, lpc]
         (refine tk (v := ?v15_5) 5 rfl (by kernel_rfl) rfl ?y15_5 HS ?_; case y15_5 => (intro w' hSw; (try dsimp only at hSw); go_simp <;> (with_reducible rfl)))
         try simp only [Act.put, lpa, lpb, lpc]
         (refine tk (v := ?v15_6) 6 rfl (by kernel_rfl) rfl ?y15_6 HS ?_; case y15_6 => (intro w' hSw; (try dsimp only at hSw); go_simp <;> (with_reducible rfl)))
         try simp only [Act.put, lpa, lpb, lpc]
         (refine tk (v := ?v15_7) 7 rfl (by kernel_rfl) rfl ?y15_7 HS ?_; case y15_7 => (intro w' hSw; (try dsimp only at hSw); go_simp <;> (with_reducible rfl)))
         try simp only [Act.put, lpa, lpb, lpc]
         (refine tk (v := ?v15_8) 8 rfl (by kernel_rfl) rfl ?y15_8 HS ?_; case y15_8 => (intro w' hSw; (try dsimp only at hSw); go_simp <;> (with_reducible rfl)))
         try simp only [Act.put, lpa, lpb, lpc]
         refine sk 9 rfl (by kernel_rfl) rfl HS ?_
         try simp only [Act.put, lpa, lpb, lpc]
         refine sk 10 rfl (by kernel_rfl) rfl HS ?_
         try simp only [Act.put, lpa, lpb, lpc]
         refine sk 11 rfl (by kernel_rfl) rfl HS ?_
         try simp only [Act.put, lpa, lpb, lpc]
         (refine tk (v := ?v15_12) 12 rfl (by kernel_rfl) rfl ?y15_12 HS ?_; case y15_12 => (intro w' hSw; (try dsimp only at hSw); go_simp <;> (with_reducible rfl)))
         try simp only [Act.put, lpa, lpb, lpc]
         (refine tk (v := ?v15_13) 13 rfl (by kernel_rfl) rfl ?y15_13 HS ?_; case y15_13 => (intro w' hSw; (try dsimp only at hSw); go_simp <;> (with_reducible rfl)))
         try simp only [Act.put, lpa, lpb, lpc]
         (refine tk (v := ?v15_14) 14 rfl (by kernel_rfl) rfl ?y15_14 HS ?_; case y15_14 => (intro w' hSw; (try dsimp only at hSw); go_simp <;> (with_reducible rfl)))
         try simp only [Act.put, lpa, lpb, lpc]
         (refine tk (v := ?v15_15) 15 rfl (by kernel_rfl) rfl ?y15_15 HS ?_; case y15_15 => (intro w' hSw; (try dsimp only at hSw); go_simp <;> (with_reducible rfl)))
         try simp only [Act.put, lpa, lpb, lpc]
         (refine tk (v := ?v15_16) 16 rfl (by kernel_rfl) rfl ?y15_16 HS ?_; case y15_16 => (intro w' hSw; (try dsimp only at hSw); go_simp <;> (with_reducible rfl)))
         try simp only [Act.put, lpa, lpb, lpc]
         (refine tk (v := ?v15_17) 17 rfl (by kernel_rfl) rfl ?y15_17 HS ?_; case y15_17 => (intro w' hSw; (try dsimp only at hSw); go_simp <;> (with_reducible rfl)))
         try simp only [Act.put, lpa, lpb, lpc]
         (refine tk (v := ?v15_18) 18 rfl (by kernel_rfl) rfl ?y15_18 HS ?_; case y15_18 => (intro w' hSw; (try dsimp only at hSw); go_simp <;> (with_reducible rfl)))
         try simp only [Act.put, lpa, lpb, lpc]
         (refine tk (v := ?v15_19) 19 rfl (by kernel_rfl) rfl ?y15_19 HS ?_; case y15_19 => (intro w' hSw; (try dsimp only at hSw); go_simp <;> (with_reducible rfl)))
         try simp only [Act.put, lpa, lpb, lpc]
         (refine tk (v := ?v15_20) 20 rfl (by kernel_rfl) rfl ?y15_20 HS ?_; case y15_20 => (intro w' hSw; (try dsimp only at hSw); go_simp <;> (with_reducible rfl)))
         try simp only [Act.put, lpa, lpb, lpc]
         (refine tk (v := ?v15_21) 21 rfl (by kernel_rfl) rfl ?y15_21 HS ?_; case y15_21 => (intro w' hSw; (try dsimp only at hSw); go_simp <;> (with_reducible rfl)))
         try simp only [Act.put, lpa, lpb, lpc]
         (refine tk (v := ?v15_22) 22 rfl (by kernel_rfl) rfl ?y15_22 HS ?_; case y15_22 => (intro w' hSw; (try dsimp only at hSw); go_simp <;> (with_reducible rfl)))
         try simp only [Act.put, lpa, lpb, lpc]
         (refine tk (v := ?v15_23) 23 rfl (by kernel_rfl) rfl ?y15_23 HS ?_; case y15_23 => (intro w' hSw; (try dsimp only at hSw); go_simp <;> (with_reducible rfl)))
         try simp only [Act.put, lpa, lpb, lpc]
         (refine tk (v := ?v15_24) 24 rfl (by kernel_rfl) rfl ?y15_24 HS ?_; case y15_24 => (intro w' hSw; (try dsimp only at hSw); go_simp <;> (with_reducible rfl)))
         try simp only [Act.put, lpa, lpb, lpc]
         (refine tk (v := ?v15_25) 25 rfl (by kernel_rfl) rfl ?y15_25 HS ?_; case y15_25 => (intro w' hSw; (try dsimp only at hSw); go_simp <;> (with_reducible rfl)))
         try simp only [Act.put, lpa, lpb, lpc]
         (refine tk (v := ?v15_26) 26 rfl (by kernel_rfl) rfl ?y15_26 HS ?_; case y15_26 => (intro w' hSw; (try dsimp only at hSw); go_simp <;> (with_reducible rfl)))
         try simp only [Act.put, lpa, lpb, lpc]
         (refine tk (v := ?v15_27) 27 rfl (by kernel_rfl) rfl ?y15_27 HS ?_; case y15_27 => (intro w' hSw; (try dsimp only at hSw); go_simp <;> (with_reducible rfl)))
         try simp only [Act.put, lpa, lpb, lpc]
         (refine tk (v := ?v15_28) 28 rfl (by kernel_rfl) rfl ?y15_28 HS ?_; case y15_28 => (intro w' hSw; (try dsimp only at hSw); go_simp <;> (with_reducible rfl)))
         try simp only [Act.put, lpa, lpb, lpc]
         refine wpAnyH_done (by kernel_rfl) ?_ _
         refine NoPanic.normal ?_
         go_wp2
         go_roundw
         case rel => exact ⟨p + 1 + 1, by omega, by go_num, Lib.hid (upTo_snoc hsame.out hxk.out (by show schAt xs _ x = true; unfold schAt; rw [HT.out, HK2.out, HP.out, hlv]; rfl)), hbel.trans (hal.trans HS.2.2.2)⟩
         case measure => simp [intOf]; omega
    ·
     have hk0 := hk
     have h11 : ¬ (x.kind = 1) := by simpa using hq1
     have h1n : (x.kind != 1) = true := by unfold bne; rw [hq1]; rfl
     have hcq2 : (x.kind == 2) = true ∨ (x.kind == 2) = false := by cases x.kind == 2 <;> simp
     rcases hcq2 with hq2 | hq2
     ·
      have hk0 := hk
      have h2n : (x.kind != 2) = false := by unfold bne; rw [hq2]; rfl
      have HK2 := Lib.hid (show inB x.kind 1 2 = true by rw [in12, hq1, hq2]; rfl)
      by_cases hk1 : ¬ (0 < k)
      ·
       have hk0 := hk
       have hk00 := hk
       go_wp2_with fail
       have hal := (Grew.refl wr).alloc (.cells #[.string x.name, .int .i64 x.kind] 167)
       have g0 : (wr.alloc (.cells #[.string x.name, .int .i64 x.kind] 167)).cell? ⟨wr.heap.size, 0, none⟩ = some (.string x.name) := by simp
       have g1 : (wr.alloc (.cells #[.string x.name, .int .i64 x.kind] 167)).cell? ⟨wr.heap.size, 1, none⟩ = some (.int .i64 x.kind) := by simp
       refine wp_region_noPanic ?_
       refine wp_region_held_drew (S := (fun w' => (w'.cell? ⟨wr.heap.size, 0, none⟩ = some (.string x.name) ∧ w'.cell? ⟨wr.heap.size, 1, none⟩ = some (.int .i64 x.kind) ∧ Grew (wr.alloc (.cells #[.string x.name, .int .i64 x.kind] 167)) w'))) (by kernel_rfl) ?h16_S ?h16_r
       case h16_S => exact ⟨grew_cell (Grew.refl _).drew g0, grew_cell (Grew.refl _).drew g1, (Grew.refl _).drew⟩
       case h16_r =>
        intro HS
        (refine tk (v := ?v16_0) 0 rfl (by kernel_rfl) rfl ?y16_0 HS ?_; case y16_0 => (intro w' hSw; (try dsimp only at hSw); go_simp <;> (with_reducible rfl)))
        try simp only [Act.put, lpa, lpb, lpc]
        (refine tk (v := ?v16_1) 1 rfl (by kernel_rfl) rfl ?y16_1 HS ?_; case y16_1 => (intro w' hSw; (try dsimp only at hSw); go_simp <;> (with_reducible rfl)))
        try simp only [Act.put, lpa, lpb, lpc]
        refine cl 2 rfl (by kernel_rfl) (fun K hK => ?_)
        go_simp
        go_at_call 220
        refine (implIsValidAttrName _ _ hs1).mono ?_
        rintro e w1 ⟨he, rfl⟩
        rw [HT.out] at he
        subst he
        refine hK.out _ _ ?s16_2 ?r16_2
        case s16_2 => (try dsimp only); first | exact HS | exact ⟨grew_cell hb HS.1, grew_cell hb HS.2.1, HS.2.2.trans hb⟩
        case r16_2 =>
         clear HS
         intro HS
         clear hK K
         try simp only [Act.put, lpa, lpb, lpc]
         (refine tk (v := ?v16_3) 3 rfl (by kernel_rfl) rfl ?y16_3 HS ?_; case y16_3 => (intro w' hSw; (try dsimp only at hSw); go_simp <;> (with_reducible rfl)))
         try simp only [Act.put, lpa, lpb, lpc]
         (refine tk (v := ?v16_4) 4 rfl (by kernel_rfl) rfl ?y16_4 HS ?_; case y16_4 => (intro w' hSw; (try dsimp only at hSw); go_simp <;> (with_reducible rfl)))
         try simp only [Act.put, lpa, lpb, lpc]
         (refine tk (v := ?v16_5) 5 rfl (by kernel_rfl) rfl ?y16_5 HS ?_; case y16_5 => (intro w' hSw; (try dsimp only at hSw); go_simp <;> (with_reducible rfl)))
         try simp only [Act.put, lpa, lpb, lpc]
         (refine tk (v := ?v16_6) 6 rfl (by kernel_rfl) rfl ?y16_6 HS ?_; case y16_6 => (intro w' hSw; (try dsimp only at hSw); go_simp <;> (with_reducible rfl)))
         try simp only [Act.put, lpa, lpb, lpc]
         (refine tk (v := ?v16_7) 7 rfl (by kernel_rfl) rfl ?y16_7 HS ?_; case y16_7 => (intro w' hSw; (try dsimp only at hSw); go_simp <;> (with_reducible rfl)))
         try simp only [Act.put, lpa, lpb, lpc]
         (refine tk (v := ?v16_8) 8 rfl (by kernel_rfl) rfl ?y16_8 HS ?_; case y16_8 => (intro w' hSw; (try dsimp only at hSw); go_simp <;> (with_reducible rfl)))
         try simp only [Act.put, lpa, lpb, lpc]
         (refine tk (v := ?v16_9) 9 rfl (by kernel_rfl) rfl ?y16_9 HS ?_; case y16_9 => (intro w' hSw; (try dsimp only at hSw); go_simp <;> (with_reducible rfl)))
         try simp only [Act.put, lpa, lpb, lpc]
         (refine tk (v := ?v16_10) 10 rfl (by kernel_rfl) rfl ?y16_10 HS ?_; case y16_10 => (intro w' hSw; (try dsimp only at hSw); go_simp <;> (with_reducible rfl)))
         try simp only [Act.put, lpa, lpb, lpc]
         (refine tk (v := ?v16_11) 11 rfl (by kernel_rfl) rfl ?y16_11 HS ?_; case y16_11 => (intro w' hSw; (try dsimp only at hSw); go_simp <;> (with_reducible rfl)))
         try simp only [Act.put, lpa, lpb, lpc]
         (refine tk (v := ?v16_12) 12 rfl (by kernel_rfl) rfl ?y16_12 HS ?_; case y16_12 => (intro w' hSw; (try dsimp only at hSw); go_simp <;> (with_reducible rfl)))
         try simp only [Act.put, lpa, lpb, lpc]
         (refine tk (v := ?v16_13) 13 rfl (by kernel_rfl) rfl ?y16_13 HS ?_; case y16_13 => (intro w' hSw; (try dsimp only at hSw); go_simp <;> (with_reducible rfl)))
         try simp only [Act.put, lpa, lpb, lpc]
         (refine tk (v := ?v16_14) 14 rfl (by kernel_rfl) rfl ?y16_14 HS ?_; case y16_14 => (intro w' hSw; (try dsimp only at hSw); go_simp <;> (with_reducible rfl)))
         try simp only [Act.put, lpa, lpb, lpc]
         (refine tk (v := ?v16_15) 15 rfl (by kernel_rfl) rfl ?y16_15 HS ?_; case y16_15 => (intro w' hSw; (try dsimp only at hSw); go_simp <;> (with_reducible rfl)))
         try simp only [Act.put, lpa, lpb, lpc]
         (refine tk (v := ?v16_16) 16 rfl (by kernel_rfl) rfl ?y16_16 HS ?_; case y16_16 => (intro w' hSw; (try dsimp only at hSw); go_simp <;> (with_reducible rfl)))
         try simp only [Act.put, lpa, lpb, lpc]
         (refine tk (v := ?v16_17) 17 rfl (by kernel_rfl) rfl ?y16_17 HS ?_; case y16_17 => (intro w' hSw; (try dsimp only at hSw); go_simp <;> (with_reducible rfl)))
         try simp only [Act.put, lpa, lpb, lpc]
         refine sk 18 rfl (by kernel_rfl) rfl HS ?_
         try simp only [Act.put, lpa, lpb, lpc]
         refine sk 19 rfl (by kernel_rfl) rfl HS ?_
         try simp only [Act.put, lpa, lpb, lpc]
         refine sk 20 rfl (by kernel_rfl) rfl HS ?_
         try simp only [Act.put, lpa, lpb, lpc]
         refine sk 21 rfl (by kernel_rfl) rfl HS ?_
         try simp only [Act.put, lpa, lpb, lpc]
         refine sk 22 rfl (by kernel_rfl) rfl HS ?_
         try simp only [Act.put, lpa, lpb, lpc]
         refine sk 23 rfl (by kernel_rfl) rfl HS ?_
         try simp only [Act.put, lpa, lpb, lpc]
         refine sk 24 rfl (by kernel_rfl) rfl HS ?_
         try simp only [Act.put, lpa, lpb, lpc]
         refine sk 25 rfl (by kernel_rfl) rfl HS ?_
         try simp only [Act.put, lpa, lpb, lpc]
         refine sk 26 rfl (by kernel_rfl) rfl HS ?_
         try simp only [Act.put, lpa, lpb, lpc]
         (refine tk (v := ?v16_27) 27 rfl (by kernel_rfl) rfl ?y16_27 HS ?_; case y16_27 => (intro w' hSw; (try dsimp only at hSw); go_simp <;> (with_reducible rfl)))
         try simp only [Act.put, lpa, lpb, lpc]
         (refine tk (v := ?v16_28) 28 rfl (by kernel_rfl) rfl ?y16_28 HS ?_; case y16_28 => (intro w' hSw; (try dsimp only at hSw); go_simp <;> (with_reducible rfl)))
         try simp only [Act.put, lpa, lpb, lpc]
         refine wpAnyH_done (by kernel_rfl) ?_ _
         refine NoPanic.normal ?_
         go_wp2
         go_roundw
         case rel => exact ⟨k + 1, by omega, by go_num, Lib.hid (upTo_snoc hsame.out hxk.out (by show schAt xs _ x = true; unfold schAt; rw [HT.out, HK2.out, Nat.eq_zero_of_not_pos hk1]; rfl)), hbel.trans (hal.trans HS.2.2)⟩
         case measure => simp [intOf]; omega
      ·
       have hk0 := hk
       obtain ⟨p, rfl⟩ : ∃ p, k = p + 1 := ⟨k - 1, by omega⟩
       obtain ⟨b2, o2, y, hab, hyk, d0, d1⟩ := (hra.grew hbw).getFd (show p < n by omega)
       obtain ⟨rfl, rfl⟩ : b1 = b2 ∧ o1 = o2 := by cases hab; exact ⟨rfl, rfl⟩
       clear hab
       clear d1
       have hpp : ((p + 1 : Nat) : Int) - 1 = (p : Int) := by omega
       have hp0 : (0 : Int) ≤ (p : Int) + 1 := by omega
       have hp1 : (p : Int) < (n : Int) := by omega
       have hp2 : (p : Int) + 1 < (n : Int) := by omega
       have hwp : IntKind.i64.wrap (p : Int) = (p : Int) := by simp [IntKind.wrap, IntKind.bits, IntKind.signed]; omega
       obtain ⟨lv, hlv⟩ : ∃ b, Op.bytesLess y.name.toList x.name.toList = b := ⟨_, rfl⟩
       have HP := Lib.hid (prevOk_succ (lt := fun (y x : Fd) => Op.bytesLess y.name.toList x.name.toList) (x := x) hyk.out)
       have hcl : lv = false ∨ lv = true := by cases lv <;> simp
       rcases hcl with rfl | rfl
       ·
        have hk0 := hk
        have hk00 := hk
        go_wp2_with fail
        have hal := (Grew.refl wr).alloc (.cells #[.string x.name, .int .i64 x.kind] 167)
        have g0 : (wr.alloc (.cells #[.string x.name, .int .i64 x.kind] 167)).cell? ⟨wr.heap.size, 0, none⟩ = some (.string x.name) := by simp
        have g1 : (wr.alloc (.cells #[.string x.name, .int .i64 x.kind] 167)).cell? ⟨wr.heap.size, 1, none⟩ = some (.int .i64 x.kind) := by simp
        replace d0 := grew_cell hal d0
        refine wp_region_noPanic ?_
        refine wp_region_held_drew (S := (fun w' => (w'.cell? ⟨wr.heap.size, 0, none⟩ = some (.string x.name) ∧ w'.cell? ⟨wr.heap.size, 1, none⟩ = some (.int .i64 x.kind) ∧ w'.cell? ⟨b1, o1 + p * 2, none⟩ = some (.string y.name) ∧ Grew (wr.alloc (.cells #[.string x.name, .int .i64 x.kind] 167)) w'))) (by kernel_rfl) ?h17_S ?h17_r
        case h17_S => exact ⟨grew_cell (Grew.refl _).drew g0, grew_cell (Grew.refl _).drew g1, grew_cell (Grew.refl _).drew d0, (Grew.refl _).drew⟩
        case h17_r =>
         intro HS
         (refine tk (v := ?v17_0) 0 rfl (by kernel_rfl) rfl ?y17_0 HS ?_; case y17_0 => (intro w' hSw; (try dsimp only at hSw); go_simp <;> (with_reducible rfl)))
         try simp only [Act.put, lpa, lpb, lpc]
         (refine tk (v := ?v17_1) 1 rfl (by kernel_rfl) rfl ?y17_1 HS ?_; case y17_1 => (intro w' hSw; (try dsimp only at hSw); go_simp <;> (with_reducible rfl)))
         try simp only [Act.put, lpa, lpb, lpc]
         refine cl 2 rfl (by kernel_rfl) (fun K hK => ?_)
         go_simp
         go_at_call 220
         refine (implIsValidAttrName _ _ hs1).mono ?_
         rintro e w1 ⟨he, rfl⟩
         rw [HT.out] at he
         subst he
         refine hK.out _ _ ?s17_2 ?r17_2
         case s17_2 => (try dsimp only); first | exact HS | exact ⟨grew_cell hb HS.1, grew_cell hb HS.2.1, grew_cell hb HS.2.2.1, HS.2.2.2.trans hb⟩
         case r17_2 =>
          clear HS
          intro HS
          clear hK K
          try simp only [Act.put, lpa, lpb, lpc]
          (refine tk (v := ?v17_3) 3 rfl (by kernel_rfl) rfl ?y17_3 HS ?_; case y17_3 => (intro w' hSw; (try dsimp only at hSw); go_simp <;> (with_reducible rfl)))
          try simp only [Act.put, lpa, lpb, lpc]
          (refine tk (v := ?v17_4) 4 rfl (by kernel_rfl) rfl ?y17_4 HS ?_; case y17_4 => (intro w' hSw; (try dsimp only at hSw); go_simp <;> (with_reducible rfl)))
          try simp only [Act.put, lpa, lpb, lpc]
          (refine tk (v := ?v17_5) 5 rfl (by kernel_rfl) rfl ?y17_5 HS ?_; case y17_5 => (intro w' hSw; (try dsimp only at hSw); go_simp <;> (with_reducible rfl)))
          try simp only [Act.put, lpa, lpb, lpc]
          (refine tk (v := ?v17_6) 6 rfl (by kernel_rfl) rfl ?y17_6 HS ?_; case y17_6 => (intro w' hSw; (try dsimp only at hSw); go_simp <;> (with_reducible rfl)))
          try simp only [Act.put, lpa, lpb, lpc]
          (refine tk (v := ?v17_7) 7 rfl (by kernel_rfl) rfl ?y17_7 HS ?_; case y17_7 => (intro w' hSw; (try dsimp only at hSw); go_simp <;> (with_reducible rfl)))
          try simp only [Act.put, lpa, lpb, lpc]
          (refine tk (v := ?v17_8) 8 rfl (by kernel_rfl) rfl ?y17_8 HS ?_; case y17_8 => (intro w' hSw; (try dsimp only at hSw); go_simp <;> (with_reducible rfl)))
          try simp only [Act.put, lpa, lpb, lpc]
          (refine tk (v := ?v17_9) 9 rfl (by kernel_rfl) rfl ?y17_9 HS ?_; case y17_9 => (intro w' hSw; (try dsimp only at hSw); go_simp <;> (with_reducible rfl)))
          try simp only [Act.put, lpa, lpb, lpc]
          (refine tk (v := ?v17_10) 10 rfl (by kernel_rfl) rfl ?y17_10 HS ?_; case y17_10 => (intro w' hSw; (try dsimp only at hSw); go_simp <;> (with_reducible rfl)))
          try simp only [Act.put, lpa, lpb, lpc]
          (refine tk (v := ?v17_11) 11 rfl (by kernel_rfl) rfl ?y17_11 HS ?_; case y17_11 => (intro w' hSw; (try dsimp only at hSw); go_simp <;> (with_reducible rfl)))
          try simp only [Act.put, lpa, lpb, lpc]
          (refine tk (v := ?v17_12) 12 rfl (by kernel_rfl) rfl ?y17_12 HS ?_; case y17_12 => (intro w' hSw; (try dsimp only at hSw); go_simp <;> (with_reducible rfl)))
          try simp only [Act.put, lpa, lpb, lpc]
          (refine tk (v := ?v17_13) 13 rfl (by kernel_rfl) rfl ?y17_13 HS ?_; case y17_13 => (intro w' hSw; (try dsimp only at hSw); go_simp <;> (with_reducible rfl)))
          try simp only [Act.put, lpa, lpb, lpc]
          (refine tk (v := ?v17_14) 14 rfl (by kernel_rfl) rfl ?y17_14 HS ?_; case y17_14 => (intro w' hSw; (try dsimp only at hSw); go_simp <;> (with_reducible rfl)))
          try simp only [Act.put, lpa, lpb, lpc]
          (refine tk (v := ?v17_15) 15 rfl (by kernel_rfl) rfl ?y17_15 HS ?_; case y17_15 => (intro w' hSw; (try dsimp only at hSw); go_simp <;> (with_reducible rfl)))
          try simp only [Act.put, lpa, lpb, lpc]
          (refine tk (v := ?v17_16) 16 rfl (by kernel_rfl) rfl ?y17_16 HS ?_; case y17_16 => (intro w' hSw; (try dsimp only at hSw); go_simp <;> (with_reducible rfl)))
          try simp only [Act.put, lpa, lpb, lpc]
          (refine tk (v := ?v17_17) 17 rfl (by kernel_rfl) rfl ?y17_17 HS ?_; case y17_17 => (intro w' hSw; (try dsimp only at hSw); go_simp <;> (with_reducible rfl)))
          try simp only [Act.put, lpa, lpb, lpc]
          (refine tk (v := ?v17_18) 18 rfl (by kernel_rfl) rfl ?y17_18 HS ?_; case y17_18 => (intro w' hSw; (try dsimp only at hSw); go_simp <;> (with_reducible rfl)))
          try simp only [Act.put, lpa, lpb, lpc]
          (refine tk (v := ?v17_19) 19 rfl (by kernel_rfl) rfl ?y17_19 HS ?_; case y17_19 => (intro w' hSw; (try dsimp only at hSw); go_simp <;> (with_reducible rfl)))
          try simp only [Act.put, lpa, lpb, lpc]
          (refine tk (v := ?v17_20) 20 rfl (by kernel_rfl) rfl ?y17_20 HS ?_; case y17_20 => (intro w' hSw; (try dsimp only at hSw); go_simp <;> (with_reducible rfl)))
          try simp only [Act.put, lpa, lpb, lpc]
          (refine tk (v := ?v17_21) 21 rfl (by kernel_rfl) rfl ?y17_21 HS ?_; case y17_21 => (intro w' hSw; (try dsimp only at hSw); go_simp <;> (with_reducible rfl)))
          try simp only [Act.put, lpa, lpb, lpc]
          (refine tk (v := ?v17_22) 22 rfl (by kernel_rfl) rfl ?y17_22 HS ?_; case y17_22 => (intro w' hSw; (try dsimp only at hSw); go_simp <;> (with_reducible rfl)))
          try simp only [Act.put, lpa, lpb, lpc]
          (refine tk (v := ?v17_23) 23 rfl (by kernel_rfl) rfl ?y17_23 HS ?_; case y17_23 => (intro w' hSw; (try dsimp only at hSw); go_simp <;> (with_reducible rfl)))
          try simp only [Act.put, lpa, lpb, lpc]
          (refine tk (v := ?v17_24) 24 rfl (by kernel_rfl) rfl ?y17_24 HS ?_; case y17_24 => (intro w' hSw; (try dsimp only at hSw); go_simp <;> (with_reducible rfl)))
          try simp only [Act.put, lpa, lpb, lpc]
          (refine tk (v := ?v17_25) 25 rfl (by kernel_rfl) rfl ?y17_25 HS ?_; case y17_25 => (intro w' hSw; (try dsimp only at hSw); go_simp <;> (with_reducible rfl)))
          try simp only [Act.put, lpa, lpb, lpc]
          (refine tk (v := ?v17_26) 26 rfl (by kernel_rfl) rfl ?y17_26 HS ?_; case y17_26 => (intro w' hSw; (try dsimp only at hSw); go_simp <;> (with_reducible rfl)))
          try simp only [Act.put, lpa, lpb, lpc]
          (refine tk (v := ?v17_27) 27 rfl (by kernel_rfl) rfl ?y17_27 HS ?_; case y17_27 => (intro w' hSw; (try dsimp only at hSw); go_simp <;> (with_reducible rfl)))
          try simp only [Act.put, lpa, lpb, lpc]
          (refine tk (v := ?v17_28) 28 rfl (by kernel_rfl) rfl ?y17_28 HS ?_; case y17_28 => (intro w' hSw; (try dsimp only at hSw); go_simp <;> (with_reducible rfl)))
          try simp only [Act.put, lpa, lpb, lpc]
          refine wpAnyH_done (by kernel_rfl) ?_ _
          refine NoPanic.normal ?_
          go_wp2
          go_ret
          refine ⟨ret_bool ?_, hbw.trans (hal.trans HS.2.2.2)⟩
          exact (show schB xs = false by unfold schB; rw [all_not hxk.out (show schAt xs _ x = false by unfold schAt; rw [HT.out, HK2.out, HP.out, hlv]; simp)]; rfl).symm
       ·
        have hk0 := hk
        have hk00 := hk
        go_wp2_with fail
        have hal := (Grew.refl wr).alloc (.cells #[.string x.name, .int .i64 x.kind] 167)
        have g0 : (wr.alloc (.cells #[.string x.name, .int .i64 x.kind] 167)).cell? ⟨wr.heap.size, 0, none⟩ = some (.string x.name) := by simp
        have g1 : (wr.alloc (.cells #[.string x.name, .int .i64 x.kind] 167)).cell? ⟨wr.heap.size, 1, none⟩ = some (.int .i64 x.kind) := by simp
        replace d0 := grew_cell hal d0
        refine wp_region_noPanic ?_
        refine wp_region_held_drew (S := (fun w' => (w'.cell? ⟨wr.heap.size, 0, none⟩ = some (.string x.name) ∧ w'.cell? ⟨wr.heap.size, 1, none⟩ = some (.int .i64 x.kind) ∧ w'.cell? ⟨b1, o1 + p * 2, none⟩ = some (.string y.name) ∧ Grew (wr.alloc (.cells #[.string x.name, .int .i64 x.kind] 167)) w'))) (by kernel_rfl) ?h18_S ?h18_r
        case h18_S => exact ⟨grew_cell (Grew.refl _).drew g0, grew_cell (Grew.refl _).drew g1, grew_cell (Grew.refl _).drew d0, (Grew.refl _).drew⟩
        case h18_r =>
         intro HS
         (refine tk (v := ?v18_0) 0 rfl (by kernel_rfl) rfl ?y18_0 HS ?_; case y18_0 => (intro w' hSw; (try dsimp only at hSw); go_simp <;> (with_reducible rfl)))
         try simp only [Act.put, lpa, lpb, lpc]
         (refine tk (v := ?v18_1) 1 rfl (by kernel_rfl) rfl ?y18_1 HS ?_; case y18_1 => (intro w' hSw; (try dsimp only at hSw); go_simp <;> (with_reducible rfl)))
         try simp only [Act.put, lpa, lpb, lpc]
         refine cl 2 rfl (by kernel_rfl) (fun K hK => ?_)
         go_simp
         go_at_call 220
         refine (implIsValidAttrName _ _ hs1).mono ?_
         rintro e w1 ⟨he, rfl⟩
         rw [HT.out] at he
         subst he
         refine hK.out _ _ ?s18_2 ?r18_2
         case s18_2 => (try dsimp only); first | exact HS | exact ⟨grew_cell hb HS.1, grew_cell hb HS.2.1, grew_cell hb HS.2.2.1, HS.2.2.2.trans hb⟩
         case r18_2 =>
          clear HS
          intro HS
          clear hK K
          try simp only [Act.put, lpa, lpb, lpc]
          (refine tk (v := ?v18_3) 3 rfl (by kernel_rfl) rfl ?y18_3 HS ?_; case y18_3 => (intro w' hSw; (try dsimp only at hSw); go_simp <;> (with_reducible rfl)))
          try simp only [Act.put, lpa, lpb, lpc]
          (refine tk (v := ?v18_4) 4 rfl (by kernel_rfl) rfl ?y18_4 HS ?_; case y18_4 => (intro w' hSw; (try dsimp only at hSw); go_simp <;> (with_reducible rfl)))
          try simp only [Act.put, lpa, lpb, lpc]
          (refine tk (v := ?v18_5) 5 rfl (by kernel_rfl) rfl ?y18_5 HS ?_; case y18_5 => (intro w' hSw; (try dsimp only at hSw); go_simp <;> (with_reducible rfl)))
          try simp only [Act.put, lpa, lpb, lpc]
          (refine tk (v := ?v18_6) 6 rfl (by kernel_rfl) rfl ?y18_6 HS ?_; case y18_6 => (intro w' hSw; (try dsimp only at hSw); go_simp <;> (with_reducible rfl)))
          try simp only [Act.put, lpa, lpb, lpc]
          (refine tk (v := ?v18_7) 7 rfl (by kernel_rfl) rfl ?y18_7 HS ?_; case y18_7 => (intro w' hSw; (try dsimp only at hSw); go_simp <;> (with_reducible rfl)))
          try simp only [Act.put, lpa, lpb, lpc]
          (refine tk (v := ?v18_8) 8 rfl (by kernel_rfl) rfl ?y18_8 HS ?_; case y18_8 => (intro w' hSw; (try dsimp only at hSw); go_simp <;> (with_reducible rfl)))
          try simp only [Act.put, lpa, lpb, lpc]
          (refine tk (v := ?v18_9) 9 rfl (by kernel_rfl) rfl ?y18_9 HS ?_; case y18_9 => (intro w' hSw; (try dsimp only at hSw); go_simp <;> (with_reducible rfl)))
          try simp only [Act.put, lpa, lpb, lpc]
          (refine tk (v := ?v18_10) 10 rfl (by kernel_rfl) rfl ?y18_10 HS ?_; case y18_10 => (intro w' hSw; (try dsimp only at hSw); go_simp <;> (with_reducible rfl)))
          try simp only [Act.put, lpa, lpb, lpc]
          (refine tk (v := ?v18_11) 11 rfl (by kernel_rfl) rfl ?y18_11 HS ?_; case y18_11 => (intro w' hSw; (try dsimp only at hSw); go_simp <;> (with_reducible rfl)))
          try simp only [Act.put, lpa, lpb, lpc]
          (refine tk (v := ?v18_12) 12 rfl (by kernel_rfl) rfl ?y18_12 HS ?_; case y18_12 => (intro w' hSw; (try dsimp only at hSw); go_simp <;> (with_reducible rfl)))
          try simp only [Act.put, lpa, lpb, lpc]
          (refine tk (v := ?v18_13) 13 rfl (by kernel_rfl) rfl ?y18_13 HS ?_; case y18_13 => (intro w' hSw; (try dsimp only at hSw); go_simp <;> (with_reducible rfl)))
          try simp only [Act.put, lpa, lpb, lpc]
          (refine tk (v := ?v18_14) 14 rfl (by kernel_rfl) rfl ?y18_14 HS ?_; case y18_14 => (intro w' hSw; (try dsimp only at hSw); go_simp <;> (with_reducible rfl)))
          try simp only [Act.put, lpa, lpb, lpc]
          (refine tk (v := ?v18_15) 15 rfl (by kernel_rfl) rfl ?y18_15 HS ?_; case y18_15 => (intro w' hSw; (try dsimp only at hSw); go_simp <;> (with_reducible rfl)))
          try simp only [Act.put, lpa, lpb, lpc]
          (refine tk (v := ?v18_16) 16 rfl (by kernel_rfl) rfl ?y18_16 HS ?_; case y18_16 => (intro w' hSw; (try dsimp only at hSw); go_simp <;> (with_reducible rfl)))
          try simp only [Act.put, lpa, lpb, lpc]
          (refine tk (v := ?v18_17) 17 rfl (by kernel_rfl) rfl ?y18_17 HS ?_; case y18_17 => (intro w' hSw; (try dsimp only at hSw); go_simp <;> (with_reducible rfl)))
          try simp only [Act.put, lpa, lpb, lpc]
          (refine tk (v := ?v18_18) 18 rfl (by kernel_rfl) rfl ?y18_18 HS ?_; case y18_18 => (intro w' hSw; (try dsimp only at hSw); go_simp <;> (with_reducible rfl)))
          try simp only [Act.put, lpa, lpb, lpc]
          (refine tk (v := ?v18_19) 19 rfl (by kernel_rfl) rfl ?y18_19 HS ?_; case y18_19 => (intro w' hSw; (try dsimp only at hSw); go_simp <;> (with_reducible rfl)))
          try simp only [Act.put, lpa, lpb, lpc]
          (refine tk (v := ?v18_20) 20 rfl (by kernel_rfl) rfl ?y18_20 HS ?_; case y18_20 => (intro w' hSw; (try dsimp only at hSw); go_simp <;> (with_reducible rfl)))
          try simp only [Act.put, lpa, lpb, lpc]
          (refine tk (v := ?v18_21) 21 rfl (by kernel_rfl) rfl ?y18_21 HS ?_; case y18_21 => (intro w' hSw; (try dsimp only at hSw); go_simp <;> (with_reducible rfl)))
          try simp only [Act.put, lpa, lpb, lpc]
          (refine tk (v := ?v18_22) 22 rfl (by kernel_rfl) rfl ?y18_22 HS ?_; case y18_22 => (intro w' hSw; (try dsimp only at hSw); go_simp <;> (with_reducible rfl)))
          try simp only [Act.put, lpa, lpb, lpc]
          (refine tk (v := ?v18_23) 23 rfl (by kernel_rfl) rfl ?y18_23 HS ?_; case y18_23 => (intro w' hSw; (try dsimp only at hSw); go_simp <;> (with_reducible rfl)))
          try simp only [Act.put, lpa, lpb, lpc]
          (refine tk (v := ?v18_24) 24 rfl (by kernel_rfl) rfl ?y18_24 HS ?_; case y18_24 => (intro w' hSw; (try dsimp only at hSw); go_simp <;> (with_reducible rfl)))
          try simp only [Act.put, lpa, lpb, lpc]
          (refine tk (v := ?v18_25) 25 rfl (by kernel_rfl) rfl ?y18_25 HS ?_; case y18_25 => (intro w' hSw; (try dsimp only at hSw); go_simp <;> (with_reducible rfl)))
          try simp only [Act.put, lpa, lpb, lpc]
          (refine tk (v := ?v18_26) 26 rfl (by kernel_rfl) rfl ?y18_26 HS ?_; case y18_26 => (intro w' hSw; (try dsimp only at hSw); go_simp <;> (with_reducible rfl)))
          try simp only [Act.put, lpa, lpb, lpc]
          (refine tk (v := ?v18_27) 27 rfl (by kernel_rfl) rfl ?y18_27 HS ?_; case y18_27 => (intro w' hSw; (try dsimp only at hSw); go_simp <;> (with_reducible rfl)))
          try simp only [Act.put, lpa, lpb, lpc]
          (refine tk (v := ?v18_28) 28 rfl (by kernel_rfl) rfl ?y18_28 HS ?_; case y18_28 => (intro w' hSw; (try dsimp only at hSw); go_simp <;> (with_reducible rfl)))
          try simp only [Act.put, lpa, lpb, lpc]
          refine wpAnyH_done (by kernel_rfl) ?_ _
          refine NoPanic.normal ?_
          go_wp2
          go_roundw
          case rel => exact ⟨p + 1 + 1, by omega, by go_num, Lib.hid (upTo_snoc hsame.out hxk.out (by show schAt xs _ x = true; unfold schAt; rw [HT.out, HK2.out, HP.out, hlv]; rfl)), hbel.trans (hal.trans HS.2.2.2)⟩
          case measure => simp [intOf]; omega
     ·
      have hk0 := hk
      have h22 : ¬ (x.kind = 2) := by simpa using hq2
      have h2n : (x.kind != 2) = true := by unfold bne; rw [hq2]; rfl
      have HK2 := Lib.hid (show inB x.kind 1 2 = false by rw [in12, hq1, hq2]; rfl)
      have hk00 := hk
      go_wp2_with fail
      have hal := (Grew.refl wr).alloc (.cells #[.string x.name, .int .i64 x.kind] 167)
      have g0 : (wr.alloc (.cells #[.string x.name, .int .i64 x.kind] 167)).cell? ⟨wr.heap.size, 0, none⟩ = some (.string x.name) := by simp
      have g1 : (wr.alloc (.cells #[.string x.name, .int .i64 x.kind] 167)).cell? ⟨wr.heap.size, 1, none⟩ = some (.int .i64 x.kind) := by simp
      refine wp_region_noPanic ?_
      refine wp_region_held_drew (S := (fun w' => (w'.cell? ⟨wr.heap.size, 0, none⟩ = some (.string x.name) ∧ w'.cell? ⟨wr.heap.size, 1, none⟩ = some (.int .i64 x.kind) ∧ Grew (wr.alloc (.cells #[.string x.name, .int .i64 x.kind] 167)) w'))) (by kernel_rfl) ?h19_S ?h19_r
      case h19_S => exact ⟨grew_cell (Grew.refl _).drew g0, grew_cell (Grew.refl _).drew g1, (Grew.refl _).drew⟩
      case h19_r =>
       intro HS
       (refine tk (v := ?v19_0) 0 rfl (by kernel_rfl) rfl ?y19_0 HS ?_; case y19_0 => (intro w' hSw; (try dsimp only at hSw); go_simp <;> (with_reducible rfl)))
       try simp only [Act.put, lpa, lpb, lpc]
       (refine tk (v := ?v19_1) 1 rfl (by kernel_rfl) rfl ?y19_1 HS ?_; case y19_1 => (intro w' hSw; (try dsimp only at hSw); go_simp <;> (with_reducible rfl)))
       try simp only [Act.put, lpa, lpb, lpc]
       refine cl 2 rfl (by kernel_rfl) (fun K hK => ?_)
       go_simp
       go_at_call 220
       refine (implIsValidAttrName _ _ hs1).mono ?_
       rintro e w1 ⟨he, rfl⟩
       rw [HT.out] at he
       subst he
       refine hK.out _ _ ?s19_2 ?r19_2
       case s19_2 => (try dsimp only); first | exact HS | exact ⟨grew_cell hb HS.1, grew_cell hb HS.2.1, HS.2.2.trans hb⟩
       case r19_2 =>
        clear HS
        intro HS
        clear hK K
        try simp only [Act.put, lpa, lpb, lpc]
        (refine tk (v := ?v19_3) 3 rfl (by kernel_rfl) rfl ?y19_3 HS ?_; case y19_3 => (intro w' hSw; (try dsimp only at hSw); go_simp <;> (with_reducible rfl)))
        try simp only [Act.put, lpa, lpb, lpc]
        (refine tk (v := ?v19_4) 4 rfl (by kernel_rfl) rfl ?y19_4 HS ?_; case y19_4 => (intro w' hSw; (try dsimp only at hSw); go_simp <;> (with_reducible rfl)))
        try simp only [Act.put, lpa, lpb, lpc]
        (refine tk (v := ?v19_5) 5 rfl (by kernel_rfl) rfl ?y19_5 HS ?_; case y19_5 => (intro w' hSw; (try dsimp only at hSw); go_simp <;> (with_reducible rfl)))
        try simp only [Act.put, lpa, lpb, lpc]
        (refine tk (v := ?v19_6) 6 rfl (by kernel_rfl) rfl ?y19_6 HS ?_; case y19_6 => (intro w' hSw; (try dsimp only at hSw); go_simp <;> (with_reducible rfl)))
        try simp only [Act.put, lpa, lpb, lpc]
        (refine tk (v := ?v19_7) 7 rfl (by kernel_rfl) rfl ?y19_7 HS ?_; case y19_7 => (intro w' hSw; (try dsimp only at hSw); go_simp <;> (with_reducible rfl)))
        try simp only [Act.put, lpa, lpb, lpc]
        (refine tk (v := ?v19_8) 8 rfl (by kernel_rfl) rfl ?y19_8 HS ?_; case y19_8 => (intro w' hSw; (try dsimp only at hSw); go_simp <;> (with_reducible rfl)))
        try simp only [Act.put, lpa, lpb, lpc]
        (refine tk (v := ?v19_9) 9 rfl (by kernel_rfl) rfl ?y19_9 HS ?_; case y19_9 => (intro w' hSw; (try dsimp only at hSw); go_simp <;> (with_reducible rfl)))
        try simp only [Act.put, lpa, lpb, lpc]
        (refine tk (v := ?v19_10) 10 rfl (by kernel_rfl) rfl ?y19_10 HS ?_; case y19_10 => (intro w' hSw; (try dsimp only at hSw); go_simp <;> (with_reducible rfl)))
        try simp only [Act.put, lpa, lpb, lpc]
        (refine tk (v := ?v19_11) 11 rfl (by kernel_rfl) rfl ?y19_11 HS ?_; case y19_11 => (intro w' hSw; (try dsimp only at hSw); go_simp <;> (with_reducible rfl)))
        try simp only [Act.put, lpa, lpb, lpc]
        (refine tk (v := ?v19_12) 12 rfl (by kernel_rfl) rfl ?y19_12 HS ?_; case y19_12 => (intro w' hSw; (try dsimp only at hSw); go_simp <;> (with_reducible rfl)))
        try simp only [Act.put, lpa, lpb, lpc]
        (refine tk (v := ?v19_13) 13 rfl (by kernel_rfl) rfl ?y19_13 HS ?_; case y19_13 => (intro w' hSw; (try dsimp only at hSw); go_simp <;> (with_reducible rfl)))
        try simp only [Act.put, lpa, lpb, lpc]
        (refine tk (v := ?v19_14) 14 rfl (by kernel_rfl) rfl ?y19_14 HS ?_; case y19_14 => (intro w' hSw; (try dsimp only at hSw); go_simp <;> (with_reducible rfl)))
        try simp only [Act.put, lpa, lpb, lpc]
        refine sk 15 rfl (by kernel_rfl) rfl HS ?_
        try simp only [Act.put, lpa, lpb, lpc]
        refine sk 16 rfl (by kernel_rfl) rfl HS ?_
        try simp only [Act.put, lpa, lpb, lpc]
        refine sk 17 rfl (by kernel_rfl) rfl HS ?_
        try simp only [Act.put, lpa, lpb, lpc]
        refine sk 18 rfl (by kernel_rfl) rfl HS ?_
        try simp only [Act.put, lpa, lpb, lpc]
        refine sk 19 rfl (by kernel_rfl) rfl HS ?_
        try simp only [Act.put, lpa, lpb, lpc]
        refine sk 20 rfl (by kernel_rfl) rfl HS ?_
        try simp only [Act.put, lpa, lpb, lpc]
        refine sk 21 rfl (by kernel_rfl) rfl HS ?_
        try simp only [Act.put, lpa, lpb, lpc]
        refine sk 22 rfl (by kernel_rfl) rfl HS ?_
        try simp only [Act.put, lpa, lpb, lpc]
        refine sk 23 rfl (by kernel_rfl) rfl HS ?_
        try simp only [Act.put, lpa, lpb, lpc]
        refine sk 24 rfl (by kernel_rfl) rfl HS ?_
        try simp only [Act.put, lpa, lpb, lpc]
        refine sk 25 rfl (by kernel_rfl) rfl HS ?_
        try simp only [Act.put, lpa, lpb, lpc]
        refine sk 26 rfl (by kernel_rfl) rfl HS ?_
        try simp only [Act.put, lpa, lpb, lpc]
        refine sk 27 rfl (by kernel_rfl) rfl HS ?_
        try simp only [Act.put, lpa, lpb, lpc]
        (refine tk (v := ?v19_28) 28 rfl (by kernel_rfl) rfl ?y19_28 HS ?_; case y19_28 => (intro w' hSw; (try dsimp only at hSw); go_simp <;> (with_reducible rfl)))
        try simp only [Act.put, lpa, lpb, lpc]
        refine wpAnyH_done (by kernel_rfl) ?_ _
        refine NoPanic.normal ?_
        go_wp2
        go_ret
        refine ⟨ret_bool ?_, hbw.trans (hal.trans HS.2.2)⟩
        exact (show schB xs = false by unfold schB; rw [all_not hxk.out (show schAt xs _ x = false by unfold schAt; rw [HT.out, HK2.out]; simp)]; rfl).symm
  ·
   obtain rfl : k = n := by omega
   have hy := Lib.hid (all_up HX.out hsame.out)
   go_wp2
   go_ret
   refine ⟨ret_bool ?_, hbel⟩
   unfold schB; rw [hy.out, HX.out]; simp; omega
set_option maxRecDepth 100000 in
set_option maxHeartbeats 4000000 in
theorem specIsValidFile (va : Value) (m : Nat) (fs : List Fd) (f : Fl) (p5 : P5) (w : World) (ha : Rd w va 2 m (rows Fd.c fs)) (hf : Fl.R w f p5) (hx : m ≤ 4000000) (hzs : szAll Fd.sz fs ≤ 4000000) (hz : f.sz ≤ 4000000) :
  Calls Tryz.prog 87 #[va, p5.v] w fun e w' => e = .returned (.bool (filB fs f)) ∧ Grew w w' := by
 have HS0 := Lib.hid ha
 obtain ⟨sa, sc, rfl, hsc, hsr⟩ := ha
 clear hsr hsc
 obtain ⟨pi, po, psh, pl, pa⟩ := p5
 obtain ⟨h1, h2, h3, h4, h5⟩ := hf
 simp only at h1 h2 h3 h4 h5
 subst h1 h2 h3 h4
 obtain ⟨a, ca, rfl, hca, hra⟩ := h5
 have hfl : f.attrs.length ≤ 4000000 := by unfold Fl.sz at hz; omega
 have HZ := Lib.hid (show szAll At.sz f.attrs ≤ 4000000 by unfold Fl.sz at hz; omega)
 obtain ⟨bi, hbi⟩ : ∃ b, inB f.id 1 60 = b := ⟨_, rfl⟩
 obtain ⟨bo, hbo⟩ : ∃ b, inB f.owner 0 2 = b := ⟨_, rfl⟩
 obtain ⟨bl, hbl⟩ : ∃ b, inB f.link 0 60 = b := ⟨_, rfl⟩
 obtain ⟨bs, hbs⟩ : ∃ b, schB fs = b := ⟨_, rfl⟩
 have HI := Lib.hid hbi
 have HO := Lib.hid hbo
 have HL := Lib.hid hbl
 have HC := Lib.hid hbs
 clear hbi hbo hbl hbs
 have hg0 := (Grew.refl w).alloc (.cells #[.int .i64 f.id, .int .i64 f.owner, .bool f.shared, .int .i64 f.link, .slice a f.attrs.length ca] 79)
 have x0 : (w.alloc (.cells #[.int .i64 f.id, .int .i64 f.owner, .bool f.shared, .int .i64 f.link, .slice a f.attrs.length ca] 79)).cell? ⟨w.heap.size, 0, none⟩ = some (.int .i64 f.id) := by simp
 have x1 : (w.alloc (.cells #[.int .i64 f.id, .int .i64 f.owner, .bool f.shared, .int .i64 f.link, .slice a f.attrs.length ca] 79)).cell? ⟨w.heap.size, 1, none⟩ = some (.int .i64 f.owner) := by simp
 have x3 : (w.alloc (.cells #[.int .i64 f.id, .int .i64 f.owner, .bool f.shared, .int .i64 f.link, .slice a f.attrs.length ca] 79)).cell? ⟨w.heap.size, 3, none⟩ = some (.int .i64 f.link) := by simp
 have x4 : (w.alloc (.cells #[.int .i64 f.id, .int .i64 f.owner, .bool f.shared, .int .i64 f.link, .slice a f.attrs.length ca] 79)).cell? ⟨w.heap.size, 4, none⟩ = some (.slice a f.attrs.length ca) := by simp
 generalize hn : f.attrs.length = n at hfl hra hca x0 x1 x3 x4 hg0
 have HX := Lib.hid hn
 change Calls Tryz.prog _ #[_, .agg #[.int .i64 f.id, .int .i64 f.owner, .bool f.shared, .int .i64 f.link, .slice a n ca]] w _
 clear hn
 go_enter Tryz.func87, Tryz.ntmps87
 go_wp2
 go_loopw [5] (fun i wr => ∃ k : Nat, k ≤ n ∧ i = .int .i64 k ∧ Hid (upTo (filAt fs f.attrs) f.attrs k) ∧ Grew (w.alloc (.cells #[.int .i64 f.id, .int .i64 f.owner, .bool f.shared, .int .i64 f.link, .slice a n ca] 79)) wr) (fun i _ => n - (intOf i).toNat)
 case atStart => exact ⟨0, Nat.zero_le _, rfl, Lib.hid (upTo_zero _ _), Grew.refl _⟩
 case round =>
  obtain ⟨k, hk, rfl, hsame, hbel⟩ := hrel
  have hbw := hg0.trans hbel
  by_cases hlt : k < n
  ·
   obtain ⟨b1, o1, x, rfl, hxk, c0, c1, c2, c3⟩ := (hra.grew hbw).getAt hlt
   have hs1 := (at_sz HZ.out hxk.out).1
   have hs2 := (at_sz HZ.out hxk.out).2
   obtain ⟨mv, hmv⟩ : ∃ b, mscB fs x.name x.val = b := ⟨_, rfl⟩
   have HM := Lib.hid hmv
   clear hmv
   have hcm : mv = false ∨ mv = true := by cases mv <;> simp
   have ex4 := grew_cell hbel x4
   rcases hcm with rfl | rfl
   ·
    have hk0 := hk
    have hk00 := hk
    go_wp2_with fail
    refine wp_region_noPanic ?_
    refine wp_region_held_drew (S := (fun w' => (w'.cell? ⟨w.heap.size, 4, none⟩ = some (.slice (some ⟨b1, o1, none⟩) n ca) ∧ w'.cell? ⟨b1, o1 + k * 4, none⟩ = some (.string x.name) ∧ w'.cell? ⟨b1, o1 + k * 4 + 1, none⟩ = some (.int .i64 x.val.kind) ∧ w'.cell? ⟨b1, o1 + k * 4 + 2, none⟩ = some (.int .i64 x.val.int) ∧ w'.cell? ⟨b1, o1 + k * 4 + 3, none⟩ = some (.string x.val.str) ∧ Grew wr w'))) (by kernel_rfl) ?h20_S ?h20_r
    case h20_S => exact ⟨grew_cell (Grew.refl _).drew ex4, grew_cell (Grew.refl _).drew c0, grew_cell (Grew.refl _).drew c1, grew_cell (Grew.refl _).drew c2, grew_cell (Grew.refl _).drew c3, (Grew.refl _).drew⟩
    case h20_r =>
     intro HS
     (refine tk (v := ?v20_0) 0 rfl (by kernel_rfl) rfl ?y20_0 HS ?_; case y20_0 => (intro w' hSw; (try dsimp only at hSw); go_simp <;> (with_reducible rfl)))
     try simp only [Act.put, lpa, lpb, lpc]
     (refine tk (v := ?v20_1) 1 rfl (by kernel_rfl) rfl ?y20_1 HS ?_; case y20_1 => (intro w' hSw; (try dsimp only at hSw); go_simp <;> (with_reducible rfl)))
     try simp only [Act.put, lpa, lpb, lpc]
     (refine tk (v := ?v20_2) 2 rfl (by kernel_rfl) rfl ?y20_2 HS ?_; case y20_2 => (intro w' hSw; (try dsimp only at hSw); go_simp <;> (with_reducible rfl)))
     try simp only [Act.put, lpa, lpb, lpc]
     (refine tk (v := ?v20_3) 3 rfl (by kernel_rfl) rfl ?y20_3 HS ?_; case y20_3 => (intro w' hSw; (try dsimp only at hSw); go_simp <;> (with_reducible rfl)))
     try simp only [Act.put, lpa, lpb, lpc]
     (refine tk (v := ?v20_4) 4 rfl (by kernel_rfl) rfl ?y20_4 HS ?_; case y20_4 => (intro w' hSw; (try dsimp only at hSw); go_simp <;> (with_reducible rfl)))
     try simp only [Act.put, lpa, lpb, lpc]
     (refine tk (v := ?v20_5) 5 rfl (by kernel_rfl) rfl ?y20_5 HS ?_; case y20_5 => (intro w' hSw; (try dsimp only at hSw); go_simp <;> (with_reducible rfl)))
     try simp only [Act.put, lpa, lpb, lpc]
     (refine tk (v := ?v20_6) 6 rfl (by kernel_rfl) rfl ?y20_6 HS ?_; case y20_6 => (intro w' hSw; (try dsimp only at hSw); go_simp <;> (with_reducible rfl)))
     try simp only [Act.put, lpa, lpb, lpc]
     (refine tk (v := ?v20_7) 7 rfl (by kernel_rfl) rfl ?y20_7 HS ?_; case y20_7 => (intro w' hSw; (try dsimp only at hSw); go_simp <;> (with_reducible rfl)))
     try simp only [Act.put, lpa, lpb, lpc]
     (refine tk (v := ?v20_8) 8 rfl (by kernel_rfl) rfl ?y20_8 HS ?_; case y20_8 => (intro w' hSw; (try dsimp only at hSw); go_simp <;> (with_reducible rfl)))
     try simp only [Act.put, lpa, lpb, lpc]
     (refine tk (v := ?v20_9) 9 rfl (by kernel_rfl) rfl ?y20_9 HS ?_; case y20_9 => (intro w' hSw; (try dsimp only at hSw); go_simp <;> (with_reducible rfl)))
     try simp only [Act.put, lpa, lpb, lpc]
     (refine tk (v := ?v20_10) 10 rfl (by kernel_rfl) rfl ?y20_10 HS ?_; case y20_10 => (intro w' hSw; (try dsimp only at hSw); go_simp <;> (with_reducible rfl)))
     try simp only [Act.put, lpa, lpb, lpc]
     (refine tk (v := ?v20_11) 11 rfl (by kernel_rfl) rfl ?y20_11 HS ?_; case y20_11 => (intro w' hSw; (try dsimp only at hSw); go_simp <;> (with_reducible rfl)))
     try simp only [Act.put, lpa, lpb, lpc]
     (refine tk (v := ?v20_12) 12 rfl (by kernel_rfl) rfl ?y20_12 HS ?_; case y20_12 => (intro w' hSw; (try dsimp only at hSw); go_simp <;> (with_reducible rfl)))
     try simp only [Act.put, lpa, lpb, lpc]
     refine cl 13 rfl (by kernel_rfl) (fun K hK => ?_)
     go_simp
     go_at_call 154
     refine (specMatchesSchema _ m fs x.name x.val _ (HS0.out.grew (hbw.trans HS.2.2.2.2.2)) hx hs2).mono ?_
     rintro e w1 ⟨he, hb⟩
     rw [HM.out] at he
     subst he
     refine hK.out _ _ ?s20_13 ?r20_13
     case s20_13 => (try dsimp only); first | exact HS | exact ⟨grew_cell hb HS.1, grew_cell hb HS.2.1, grew_cell hb HS.2.2.1, grew_cell hb HS.2.2.2.1, grew_cell hb HS.2.2.2.2.1, HS.2.2.2.2.2.trans hb⟩
     case r20_13 =>
      clear HS
      intro HS
      clear hK K
      try simp only [Act.put, lpa, lpb, lpc]
      (refine tk (v := ?v20_14) 14 rfl (by kernel_rfl) rfl ?y20_14 HS ?_; case y20_14 => (intro w' hSw; (try dsimp only at hSw); go_simp <;> (with_reducible rfl)))
      try simp only [Act.put, lpa, lpb, lpc]
      (refine tk (v := ?v20_15) 15 rfl (by kernel_rfl) rfl ?y20_15 HS ?_; case y20_15 => (intro w' hSw; (try dsimp only at hSw); go_simp <;> (with_reducible rfl)))
      try simp only [Act.put, lpa, lpb, lpc]
      refine sk 16 rfl (by kernel_rfl) rfl HS ?_
      try simp only [Act.put, lpa, lpb, lpc]
      refine sk 17 rfl (by kernel_rfl) rfl HS ?_
      try simp only [Act.put, lpa, lpb, lpc]
      refine sk 18 rfl (by kernel_rfl) rfl HS ?_
      try simp only [Act.put, lpa, lpb, lpc]
      refine sk 19 rfl (by kernel_rfl) rfl HS ?_
      try simp only [Act.put, lpa, lpb, lpc]
      refine sk 20 rfl (by kernel_rfl) rfl HS ?_
      try simp only [Act.put, lpa, lpb, lpc]
      refine sk 21 rfl (by kernel_rfl) rfl HS ?_
      try simp only [Act.put, lpa, lpb, lpc]
      refine sk 22 rfl (by kernel_rfl) rfl HS ?_
      try simp only [Act.put, lpa, lpb, lpc]
      refine sk 23 rfl (by kernel_rfl) rfl HS ?_
      try simp only [Act.put, lpa, lpb, lpc]
      refine sk 24 rfl (by kernel_rfl) rfl HS ?_
      try simp only [Act.put, lpa, lpb, lpc]
      refine sk 25 rfl (by kernel_rfl) rfl HS ?_
      try simp only [Act.put, lpa, lpb, lpc]
      refine sk 26 rfl (by kernel_rfl) rfl HS ?_
      try simp only [Act.put, lpa, lpb, lpc]
      refine sk 27 rfl (by kernel_rfl) rfl HS ?_
      try simp only [Act.put, lpa, lpb, lpc]
      refine sk 28 rfl (by kernel_rfl) rfl HS ?_
      try simp only [Act.put, lpa, lpb, lpc]
      refine sk 29 rfl (by kernel_rfl) rfl HS ?_
      try simp only [Act.put, lpa, lpb, lpc]
      refine sk 30 rfl (by kernel_rfl) rfl HS ?_
      try simp only [Act.put, lpa, lpb, lpc]
      refine sk 31 rfl (by kernel_rfl) rfl HS ?_
      try simp only [Act.put, lpa, lpb, lpc]
      refine sk 32 rfl (by kernel_rfl) rfl HS ?_
      try simp only [Act.put, lpa, lpb, lpc]
      refine sk 33 rfl (by kernel_rfl) rfl HS ?_
      try simp only [Act.put, lpa, lpb, lpc]
      (refine tk (v := ?v20_34) 34 rfl (by kernel_rfl) rfl ?y20_34 HS ?_; case y20_34 => (intro w' hSw; (try dsimp only at hSw); go_simp <;> (with_reducible rfl)))
      try simp only [Act.put, lpa, lpb, lpc]
      refine wpAnyH_done (by kernel_rfl) ?_ _
      refine NoPanic.normal ?_
      go_wp2
      go_ret
      refine ⟨ret_bool ?_, hbw.trans HS.2.2.2.2.2⟩
      exact (show filB fs f = false by unfold filB; rw [all_not hxk.out (show filAt fs f.attrs _ x = false by unfold filAt; rw [HM.out]; simp)]; rfl).symm
   ·
    have hk0 := hk
    by_cases hk1 : ¬ (0 < k)
    ·
     have hk0 := hk
     have hk00 := hk
     go_wp2_with fail
     refine wp_region_noPanic ?_
     refine wp_region_held_drew (S := (fun w' => (w'.cell? ⟨w.heap.size, 4, none⟩ = some (.slice (some ⟨b1, o1, none⟩) n ca) ∧ w'.cell? ⟨b1, o1 + k * 4, none⟩ = some (.string x.name) ∧ w'.cell? ⟨b1, o1 + k * 4 + 1, none⟩ = some (.int .i64 x.val.kind) ∧ w'.cell? ⟨b1, o1 + k * 4 + 2, none⟩ = some (.int .i64 x.val.int) ∧ w'.cell? ⟨b1, o1 + k * 4 + 3, none⟩ = some (.string x.val.str) ∧ Grew wr w'))) (by kernel_rfl) ?h21_S ?h21_r
     case h21_S => exact ⟨grew_cell (Grew.refl _).drew ex4, grew_cell (Grew.refl _).drew c0, grew_cell (Grew.refl _).drew c1, grew_cell (Grew.refl _).drew c2, grew_cell (Grew.refl _).drew c3, (Grew.refl _).drew⟩
     case h21_r =>
      intro HS
      (refine tk (v := ?v21_0) 0 rfl (by kernel_rfl) rfl ?y21_0 HS ?_; case y21_0 => (intro w' hSw; (try dsimp only at hSw); go_simp <;> (with_reducible rfl)))
      try simp only [Act.put, lpa, lpb, lpc]
      (refine tk (v := ?v21_1) 1 rfl (by kernel_rfl) rfl ?y21_1 HS ?_; case y21_1 => (intro w' hSw; (try dsimp only at hSw); go_simp <;> (with_reducible rfl)))
      try simp only [Act.put, lpa, lpb, lpc]
      (refine tk (v := ?v21_2) 2 rfl (by kernel_rfl) rfl ?y21_2 HS ?_; case y21_2 => (intro w' hSw; (try dsimp only at hSw); go_simp <;> (with_reducible rfl)))
      try simp only [Act.put, lpa, lpb, lpc]
      (refine tk (v := ?v21_3) 3 rfl (by kernel_rfl) rfl ?y21_3 HS ?_; case y21_3 => (intro w' hSw; (try dsimp only at hSw); go_simp <;> (with_reducible rfl)))
      try simp only [Act.put, lpa, lpb, lpc]
      (refine tk (v := ?v21_4) 4 rfl (by kernel_rfl) rfl ?y21_4 HS ?_; case y21_4 => (intro w' hSw; (try dsimp only at hSw); go_simp <;> (with_reducible rfl)))
      try simp only [Act.put, lpa, lpb, lpc]
      (refine tk (v := ?v21_5) 5 rfl (by kernel_rfl) rfl ?y21_5 HS ?_; case y21_5 => (intro w' hSw; (try dsimp only at hSw); go_simp <;> (with_reducible rfl)))
      try simp only [Act.put, lpa, lpb, lpc]
      (refine tk (v := ?v21_6) 6 rfl (by kernel_rfl) rfl ?y21_6 HS ?_; case y21_6 => (intro w' hSw; (try dsimp only at hSw); go_simp <;> (with_reducible rfl)))
      try simp only [Act.put, lpa, lpb, lpc]
      (refine tk (v := ?v21_7) 7 rfl (by kernel_rfl) rfl ?y21_7 HS ?_; case y21_7 => (intro w' hSw; (try dsimp only at hSw); go_simp <;> (with_reducible rfl)))
      try simp only [Act.put, lpa, lpb, lpc]
      (refine tk (v := ?v21_8) 8 rfl (by kernel_rfl) rfl ?y21_8 HS ?_; case y21_8 => (intro w' hSw; (try dsimp only at hSw); go_simp <;> (with_reducible rfl)))
      try simp only [Act.put, lpa, lpb, lpc]
      (refine tk (v := ?v21_9) 9 rfl (by kernel_rfl) rfl ?y21_9 HS ?_; case y21_9 => (intro w' hSw; (try dsimp only at hSw); go_simp <;> (with_reducible rfl)))
      try simp only [Act.put, lpa, lpb, lpc]
      (refine tk (v := ?v21_10) 10 rfl (by kernel_rfl) rfl ?y21_10 HS ?_; case y21_10 => (intro w' hSw; (try dsimp only at hSw); go_simp <;> (with_reducible rfl)))
      try simp only [Act.put, lpa, lpb, lpc]
      (refine tk (v := ?v21_11) 11 rfl (by kernel_rfl) rfl ?y21_11 HS ?_; case y21_11 => (intro w' hSw; (try dsimp only at hSw); go_simp <;> (with_reducible rfl)))
      try simp only [Act.put, lpa, lpb, lpc]
      (refine tk (v := ?v21_12) 12 rfl (by kernel_rfl) rfl ?y21_12 HS ?_; case y21_12 => (intro w' hSw; (try dsimp only at hSw); go_simp <;> (with_reducible rfl)))
      try simp only [Act.put, lpa, lpb, lpc]
      refine cl 13 rfl (by kernel_rfl) (fun K hK => ?_)
      go_simp
      go_at_call 154
      refine (specMatchesSchema _ m fs x.name x.val _ (HS0.out.grew (hbw.trans HS.2.2.2.2.2)) hx hs2).mono ?_
      rintro e w1 ⟨he, hb⟩
      rw [HM.out] at he
      subst he
      refine hK.out _ _ ?s21_13 ?r21_13
      case s21_13 => (try dsimp only); first | exact HS | exact ⟨grew_cell hb HS.1, grew_cell hb HS.2.1, grew_cell hb HS.2.2.1, grew_cell hb HS.2.2.2.1, grew_cell hb HS.2.2.2.2.1, HS.2.2.2.2.2.trans hb⟩
      case r21_13 =>
       clear HS
       intro HS
       clear hK K
       try simp only [Act.put, lpa, lpb, lpc]
       (refine tk (v := ?v21_14) 14 rfl (by kernel_rfl) rfl ?y21_14 HS ?_; case y21_14 => (intro w' hSw; (try dsimp only at hSw); go_simp <;> (with_reducible rfl)))
       try simp only [Act.put, lpa, lpb, lpc]
       (refine tk (v := ?v21_15) 15 rfl (by kernel_rfl) rfl ?y21_15 HS ?_; case y21_15 => (intro w' hSw; (try dsimp only at hSw); go_simp <;> (with_reducible rfl)))
       try simp only [Act.put, lpa, lpb, lpc]
       (refine tk (v := ?v21_16) 16 rfl (by kernel_rfl) rfl ?y21_16 HS ?_; case y21_16 => (intro w' hSw; (try dsimp only at hSw); go_simp <;> (with_reducible rfl)))
       try simp only [Act.put, lpa, lpb, lpc]
       (refine tk (v := ?v21_17) 17 rfl (by kernel_rfl) rfl ?y21_17 HS ?_; case y21_17 => (intro w' hSw; (try dsimp only at hSw); go_simp <;> (with_reducible rfl)))
       try simp only [Act.put, lpa, lpb, lpc]
       (refine tk (v := ?v21_18) 18 rfl (by kernel_rfl) rfl ?y21_18 HS ?_; case y21_18 => (intro w' hSw; (try dsimp only at hSw); go_simp <;> (with_reducible rfl)))
       try simp only [Act.put, lpa, lpb, lpc]
       refine sk 19 rfl (by kernel_rfl) rfl HS ?_
       try simp only [Act.put, lpa, lpb, lpc]
       refine sk 20 rfl (by kernel_rfl) rfl HS ?_
       try simp only [Act.put, lpa, lpb, lpc]
       refine sk 21 rfl (by kernel_rfl) rfl HS ?_
       try simp only [Act.put, lpa, lpb, lpc]
       refine sk 22 rfl (by kernel_rfl) rfl HS ?_
       try simp only [Act.put, lpa, lpb, lpc]
       refine sk 23 rfl (by kernel_rfl) rfl HS ?_
       try simp only [Act.put, lpa, lpb, lpc]
       refine sk 24 rfl (by kernel_rfl) rfl HS ?_
       try simp only [Act.put, lpa, lpb, lpc]
       refine sk 25 rfl (by kernel_rfl) rfl HS ?_
       try simp only [Act.put, lpa, lpb, lpc]
       refine sk 26 rfl (by kernel_rfl) rfl HS ?_
       try simp only [Act.put, lpa, lpb, lpc]
       refine sk 27 rfl (by kernel_rfl) rfl HS ?_
       try simp only [Act.put, lpa, lpb, lpc]
       refine sk 28 rfl (by kernel_rfl) rfl HS ?_
       try simp only [Act.put, lpa, lpb, lpc]
       refine sk 29 rfl (by kernel_rfl) rfl HS ?_
       try simp only [Act.put, lpa, lpb, lpc]
       refine sk 30 rfl (by kernel_rfl) rfl HS ?_
       try simp only [Act.put, lpa, lpb, lpc]
       refine sk 31 rfl (by kernel_rfl) rfl HS ?_
       try simp only [Act.put, lpa, lpb, lpc]
       refine sk 32 rfl (by kernel_rfl) rfl HS ?_
       try simp only [Act.put, lpa, lpb, lpc]
       (refine tk (v := ?v21_33) 33 rfl (by kernel_rfl) rfl ?y21_33 HS ?_; case y21_33 => (intro w' hSw; (try dsimp only at hSw); go_simp <;> (with_reducible rfl)))
       try simp only [Act.put, lpa, lpb, lpc]
       (refine tk (v := ?v21_34) 34 rfl (by kernel_rfl) rfl ?y21_34 HS ?_; case y21_34 => (intro w' hSw; (try dsimp only at hSw); go_simp <;> (with_reducible rfl)))
       try simp only [Act.put, lpa, lpb, lpc]
       refine wpAnyH_done (by kernel_rfl) ?_ _
       refine NoPanic.normal ?_
       go_wp2
       go_roundw
       case rel => exact ⟨k + 1, by omega, by go_num, Lib.hid (upTo_snoc hsame.out hxk.out (by show filAt fs f.attrs _ x = true; unfold filAt; rw [HM.out, Nat.eq_zero_of_not_pos hk1]; rfl)), hbel.trans HS.2.2.2.2.2⟩
       case measure => simp [intOf]; omega
    ·
     have hk0 := hk
     obtain ⟨p, rfl⟩ : ∃ p, k = p + 1 := ⟨k - 1, by omega⟩
     obtain ⟨b2, o2, y, hab, hyk, d0, d1, d2, d3⟩ := (hra.grew hbw).getAt (show p < n by omega)
     obtain ⟨rfl, rfl⟩ : b1 = b2 ∧ o1 = o2 := by cases hab; exact ⟨rfl, rfl⟩
     clear hab
     clear d1 d2 d3
     have hpp : ((p + 1 : Nat) : Int) - 1 = (p : Int) := by omega
     have hp0 : (0 : Int) ≤ (p : Int) + 1 := by omega
     have hp1 : (p : Int) < (n : Int) := by omega
     have hp2 : (p : Int) + 1 < (n : Int) := by omega
     have hwp : IntKind.i64.wrap (p : Int) = (p : Int) := by simp [IntKind.wrap, IntKind.bits, IntKind.signed]; omega
     obtain ⟨lv, hlv⟩ : ∃ b, Op.bytesLess y.name.toList x.name.toList = b := ⟨_, rfl⟩
     have HP := Lib.hid (prevOk_succ (lt := fun (y x : At) => Op.bytesLess y.name.toList x.name.toList) (x := x) hyk.out)
     have hcl : lv = false ∨ lv = true := by cases lv <;> simp
     rcases hcl with rfl | rfl
     ·
      have hk0 := hk
      have hk00 := hk
      go_wp2_with fail
      refine wp_region_noPanic ?_
      refine wp_region_held_drew (S := (fun w' => (w'.cell? ⟨w.heap.size, 4, none⟩ = some (.slice (some ⟨b1, o1, none⟩) n ca) ∧ w'.cell? ⟨b1, o1 + (p + 1) * 4, none⟩ = some (.string x.name) ∧ w'.cell? ⟨b1, o1 + (p + 1) * 4 + 1, none⟩ = some (.int .i64 x.val.kind) ∧ w'.cell? ⟨b1, o1 + (p + 1) * 4 + 2, none⟩ = some (.int .i64 x.val.int) ∧ w'.cell? ⟨b1, o1 + (p + 1) * 4 + 3, none⟩ = some (.string x.val.str) ∧ w'.cell? ⟨b1, o1 + p * 4, none⟩ = some (.string y.name) ∧ Grew wr w'))) (by kernel_rfl) ?h22_S ?h22_r
      case h22_S => exact ⟨grew_cell (Grew.refl _).drew ex4, grew_cell (Grew.refl _).drew c0, grew_cell (Grew.refl _).drew c1, grew_cell (Grew.refl _).drew c2, grew_cell (Grew.refl _).drew c3, grew_cell (Grew.refl _).drew d0, (Grew.refl _).drew⟩
      case h22_r =>
       intro HS
       (refine tk (v := ?v22_0) 0 rfl (by kernel_rfl) rfl ?y22_0 HS ?_; case y22_0 => (intro w' hSw; (try dsimp only at hSw); go_simp <;> (with_reducible rfl)))
       try simp only [Act.put, lpa, lpb, lpc]
       (refine tk (v := ?v22_1) 1 rfl (by kernel_rfl) rfl ?y22_1 HS ?_; case y22_1 => (intro w' hSw; (try dsimp only at hSw); go_simp <;> (with_reducible rfl)))
       try simp only [Act.put, lpa, lpb, lpc]
       (refine tk (v := ?v22_2) 2 rfl (by kernel_rfl) rfl ?y22_2 HS ?_; case y22_2 => (intro w' hSw; (try dsimp only at hSw); go_simp <;> (with_reducible rfl)))
       try simp only [Act.put, lpa, lpb, lpc]
       (refine tk (v := ?v22_3) 3 rfl (by kernel_rfl) rfl ?y22_3 HS ?_; case y22_3 => (intro w' hSw; (try dsimp only at hSw); go_simp <;> (with_reducible rfl)))
       try simp only [Act.put, lpa, lpb, lpc]
       (refine tk (v := ?v22_4) 4 rfl (by kernel_rfl) rfl ?y22_4 HS ?_; case y22_4 => (intro w' hSw; (try dsimp only at hSw); go_simp <;> (with_reducible rfl)))
       try simp only [Act.put, lpa, lpb, lpc]
       (refine tk (v := ?v22_5) 5 rfl (by kernel_rfl) rfl ?y22_5 HS ?_; case y22_5 => (intro w' hSw; (try dsimp only at hSw); go_simp <;> (with_reducible rfl)))
       try simp only [Act.put, lpa, lpb, lpc]
       (refine tk (v := ?v22_6) 6 rfl (by kernel_rfl) rfl ?y22_6 HS ?_; case y22_6 => (intro w' hSw; (try dsimp only at hSw); go_simp <;> (with_reducible rfl)))
       try simp only [Act.put, lpa, lpb, lpc]
       (refine tk (v := ?v22_7) 7 rfl (by kernel_rfl) rfl ?y22_7 HS ?_; case y22_7 => (intro w' hSw; (try dsimp only at hSw); go_simp <;> (with_reducible rfl)))
       try simp only [Act.put, lpa, lpb, lpc]
       (refine tk (v := ?v22_8) 8 rfl (by kernel_rfl) rfl ?y22_8 HS ?_; case y22_8 => (intro w' hSw; (try dsimp only at hSw); go_simp <;> (with_reducible rfl)))
       try simp only [Act.put, lpa, lpb, lpc]
       (refine tk (v := ?v22_9) 9 rfl (by kernel_rfl) rfl ?y22_9 HS ?_; case y22_9 => (intro w' hSw; (try dsimp only at hSw); go_simp <;> (with_reducible rfl)))
       try simp only [Act.put, lpa, lpb, lpc]
       (refine tk (v := ?v22_10) 10 rfl (by kernel_rfl) rfl ?y22_10 HS ?_; case y22_10 => (intro w' hSw; (try dsimp only at hSw); go_simp <;> (with_reducible rfl)))
       try simp only [Act.put, lpa, lpb, lpc]
       (refine tk (v := ?v22_11) 11 rfl (by kernel_rfl) rfl ?y22_11 HS ?_; case y22_11 => (intro w' hSw; (try dsimp only at hSw); go_simp <;> (with_reducible rfl)))
       try simp only [Act.put, lpa, lpb, lpc]
       (refine tk (v := ?v22_12) 12 rfl (by kernel_rfl) rfl ?y22_12 HS ?_; case y22_12 => (intro w' hSw; (try dsimp only at hSw); go_simp <;> (with_reducible rfl)))
       try simp only [Act.put, lpa, lpb, lpc]
       refine cl 13 rfl (by kernel_rfl) (fun K hK => ?_)
       go_simp
       go_at_call 154
       refine (specMatchesSchema _ m fs x.name x.val _ (HS0.out.grew (hbw.trans HS.2.2.2.2.2.2)) hx hs2).mono ?_
       rintro e w1 ⟨he, hb⟩
       rw [HM.out] at he
       subst he
       refine hK.out _ _ ?s22_13 ?r22_13
       case s22_13 => (try dsimp only); first | exact HS | exact ⟨grew_cell hb HS.1, grew_cell hb HS.2.1, grew_cell hb HS.2.2.1, grew_cell hb HS.2.2.2.1, grew_cell hb HS.2.2.2.2.1, grew_cell hb HS.2.2.2.2.2.1, HS.2.2.2.2.2.2.trans hb⟩
       case r22_13 =>
        clear HS
        intro HS
        clear hK K
        try simp only [Act.put, lpa, lpb, lpc]
        (refine tk (v := ?v22_14) 14 rfl (by kernel_rfl) rfl ?y22_14 HS ?_; case y22_14 => (intro w' hSw; (try dsimp only at hSw); go_simp <;> (with_reducible rfl)))
        try simp only [Act.put, lpa, lpb, lpc]
        (refine tk (v := ?v22_15) 15 rfl (by kernel_rfl) rfl ?y22_15 HS ?_; case y22_15 => (intro w' hSw; (try dsimp only at hSw); go_simp <;> (with_reducible rfl)))
        try simp only [Act.put, lpa, lpb, lpc]
        (refine tk (v := ?v22_16) 16 rfl (by kernel_rfl) rfl ?y22_16 HS ?_; case y22_16 => (intro w' hSw; (try dsimp only at hSw); go_simp <;> (with_reducible rfl)))
        try simp only [Act.put, lpa, lpb, lpc]
        (refine tk (v := ?v22_17) 17 rfl (by kernel_rfl) rfl ?y22_17 HS ?_; case y22_17 => (intro w' hSw; (try dsimp only at hSw); go_simp <;> (with_reducible rfl)))
        try simp only [Act.put, lpa, lpb, lpc]
        (refine tk (v := ?v22_18) 18 rfl (by kernel_rfl) rfl ?y22_18 HS ?_; case y22_18 => (intro w' hSw; (try dsimp only at hSw); go_simp <;> (with_reducible rfl)))
        try simp only [Act.put, lpa, lpb, lpc]
        (refine tk (v := ?v22_19) 19 rfl (by kernel_rfl) rfl ?y22_19 HS ?_; case y22_19 => (intro w' hSw; (try dsimp only at hSw); go_simp <;> (with_reducible rfl)))
        try simp only [Act.put, lpa, lpb, lpc]
        (refine tk (v := ?v22_20) 20 rfl (by kernel_rfl) rfl ?y22_20 HS ?_; case y22_20 => (intro w' hSw; (try dsimp only at hSw); go_simp <;> (with_reducible rfl)))
        try simp only [Act.put, lpa, lpb, lpc]
        (refine tk (v := ?v22_21) 21 rfl (by kernel_rfl) rfl ?y22_21 HS ?_; case y22_21 => (intro w' hSw; (try dsimp only at hSw); go_simp <;> (with_reducible rfl)))
        try simp only [Act.put, lpa, lpb, lpc]
        (refine tk (v := ?v22_22) 22 rfl (by kernel_rfl) rfl ?y22_22 HS ?_; case y22_22 => (intro w' hSw; (try dsimp only at hSw); go_simp <;> (with_reducible rfl)))
        try simp only [Act.put, lpa, lpb, lpc]
        (refine tk (v := ?v22_23) 23 rfl (by kernel_rfl) rfl ?y22_23 HS ?_; case y22_23 => (intro w' hSw; (try dsimp only at hSw); go_simp <;> (with_reducible rfl)))
        try simp only [Act.put, lpa, lpb, lpc]
        (refine tk (v := ?v22_24) 24 rfl (by kernel_rfl) rfl ?y22_24 HS ?_; case y22_24 => (intro w' hSw; (try dsimp only at hSw); go_simp <;> (with_reducible rfl)))
        try simp only [Act.put, lpa, lpb, lpc]
        (refine tk (v := ?v22_25) 25 rfl (by kernel_rfl) rfl ?y22_25 HS ?_; case y22_25 => (intro w' hSw; (try dsimp only at hSw); go_simp <;> (with_reducible rfl)))
        try simp only [Act.put, lpa, lpb, lpc]
        (refine tk (v := ?v22_26) 26 rfl (by kernel_rfl) rfl ?y22_26 HS ?_; case y22_26 => (intro w' hSw; (try dsimp only at hSw); go_simp <;> (with_reducible rfl)))
        try simp only [Act.put, lpa, lpb, lpc]
        (refine tk (v := ?v22_27) 27 rfl (by kernel_rfl) rfl ?y22_27 HS ?_; case y22_27 => (intro w' hSw; (try dsimp only at hSw); go_simp <;> (with_reducible rfl)))
        try simp only [Act.put, lpa, lpb, lpc]
        (refine tk (v := ?v22_28) 28 rfl (by kernel_rfl) rfl ?y22_28 HS ?_; case y22_28 => (intro w' hSw; (try dsimp only at hSw); go_simp <;> (with_reducible rfl)))
        try simp only [Act.put, lpa, lpb, lpc]
        (refine tk (v := ?v22_29) 29 rfl (by kernel_rfl) rfl ?y22_29 HS ?_; case y22_29 => (intro w' hSw; (try dsimp only at hSw); go_simp <;> (with_reducible rfl)))
        try simp only [Act.put, lpa, lpb, lpc]
        (refine tk (v := ?v22_30) 30 rfl (by kernel_rfl) rfl ?y22_30 HS ?_; case y22_30 => (intro w' hSw; (try dsimp only at hSw); go_simp <;> (with_reducible rfl)))
        try simp only [Act.put, lpa, lpb, lpc]
        (refine tk (v := ?v22_31) 31 rfl (by kernel_rfl) rfl ?y22_31 HS ?_; case y22_31 => (intro w' hSw; (try dsimp only at hSw); go_simp <;> (with_reducible rfl)))
        try simp only [Act.put, lpa, lpb, lpc]
        (refine tk (v := ?v22_32) 32 rfl (by kernel_rfl) rfl ?y22_32 HS ?_; case y22_32 => (intro w' hSw; (try dsimp only at hSw); go_simp <;> (with_reducible rfl)))
        try simp only [Act.put, lpa, lpb, lpc]
        (refine tk (v := ?v22_33) 33 rfl (by kernel_rfl) rfl ?y22_33 HS ?_; case y22_33 => (intro w' hSw; (try dsimp only at hSw); go_simp <;> (with_reducible rfl)))
        try simp only [Act.put, lpa, lpb, lpc]
        (refine tk (v := ?v22_34) 34 rfl (by kernel_rfl) rfl ?y22_34 HS ?_; case y22_34 => (intro w' hSw; (try dsimp only at hSw); go_simp <;> (with_reducible rfl)))
        try simp only [Act.put, lpa, lpb, lpc]
        refine wpAnyH_done (by kernel_rfl) ?_ _
        refine NoPanic.normal ?_
        go_wp2
        go_ret
        refine ⟨ret_bool ?_, hbw.trans HS.2.2.2.2.2.2⟩
        exact (show filB fs f = false by unfold filB; rw [all_not hxk.out (show filAt fs f.attrs _ x = false by unfold filAt; rw [HM.out, HP.out, hlv]; simp)]; rfl).symm
     ·
      have hk0 := hk
      have hk00 := hk
      go_wp2_with fail
      refine wp_region_noPanic ?_
      refine wp_region_held_drew (S := (fun w' => (w'.cell? ⟨w.heap.size, 4, none⟩ = some (.slice (some ⟨b1, o1, none⟩) n ca) ∧ w'.cell? ⟨b1, o1 + (p + 1) * 4, none⟩ = some (.string x.name) ∧ w'.cell? ⟨b1, o1 + (p + 1) * 4 + 1, none⟩ = some (.int .i64 x.val.kind) ∧ w'.cell? ⟨b1, o1 + (p + 1) * 4 + 2, none⟩ = some (.int .i64 x.val.int) ∧ w'.cell? ⟨b1, o1 + (p + 1) * 4 + 3, none⟩ = some (.string x.val.str) ∧ w'.cell? ⟨b1, o1 + p * 4, none⟩ = some (.string y.name) ∧ Grew wr w'))) (by kernel_rfl) ?h23_S ?h23_r
      case h23_S => exact ⟨grew_cell (Grew.refl _).drew ex4, grew_cell (Grew.refl _).drew c0, grew_cell (Grew.refl _).drew c1, grew_cell (Grew.refl _).drew c2, grew_cell (Grew.refl _).drew c3, grew_cell (Grew.refl _).drew d0, (Grew.refl _).drew⟩
      case h23_r =>
       intro HS
       (refine tk (v := ?v23_0) 0 rfl (by kernel_rfl) rfl ?y23_0 HS ?_; case y23_0 => (intro w' hSw; (try dsimp only at hSw); go_simp <;> (with_reducible rfl)))
       try simp only [Act.put, lpa, lpb, lpc]
       (refine tk (v := ?v23_1) 1 rfl (by kernel_rfl) rfl ?y23_1 HS ?_; case y23_1 => (intro w' hSw; (try dsimp only at hSw); go_simp <;> (with_reducible rfl)))
       try simp only [Act.put, lpa, lpb, lpc]
       (refine tk (v := ?v23_2) 2 rfl (by kernel_rfl) rfl ?y23_2 HS ?_; case y23_2 => (intro w' hSw; (try dsimp only at hSw); go_simp <;> (with_reducible rfl)))
       try simp only [Act.put, lpa, lpb, lpc]
       (refine tk (v := ?v23_3) 3 rfl (by kernel_rfl) rfl ?y23_3 HS ?_; case y23_3 => (intro w' hSw; (try dsimp only at hSw); go_simp <;> (with_reducible rfl)))
       try simp only [Act.put, lpa, lpb, lpc]
       (refine tk (v := ?v23_4) 4 rfl (by kernel_rfl) rfl ?y23_4 HS ?_; case y23_4 => (intro w' hSw; (try dsimp only at hSw); go_simp <;> (with_reducible rfl)))
       try simp only [Act.put, lpa, lpb, lpc]
       (refine tk (v := ?v23_5) 5 rfl (by kernel_rfl) rfl ?y23_5 HS ?_; case y23_5 => (intro w' hSw; (try dsimp only at hSw); go_simp <;> (with_reducible rfl)))
       try simp only [Act.put, lpa, lpb, lpc]
       (refine tk (v := ?v23_6) 6 rfl (by kernel_rfl) rfl ?y23_6 HS ?_; case y23_6 => (intro w' hSw; (try dsimp only at hSw); go_simp <;> (with_reducible rfl)))
       try simp only [Act.put, lpa, lpb, lpc]
       (refine tk (v := ?v23_7) 7 rfl (by kernel_rfl) rfl ?y23_7 HS ?_; case y23_7 => (intro w' hSw; (try dsimp only at hSw); go_simp <;> (with_reducible rfl)))
       try simp only [Act.put, lpa, lpb, lpc]
       (refine tk (v := ?v23_8) 8 rfl (by kernel_rfl) rfl ?y23_8 HS ?_; case y23_8 => (intro w' hSw; (try dsimp only at hSw); go_simp <;> (with_reducible rfl)))
       try simp only [Act.put, lpa, lpb, lpc]
       (refine tk (v := ?v23_9) 9 rfl (by kernel_rfl) rfl ?y23_9 HS ?_; case y23_9 => (intro w' hSw; (try dsimp only at hSw); go_simp <;> (with_reducible rfl)))
       try simp only [Act.put, lpa, lpb, lpc]
       (refine tk (v := ?v23_10) 10 rfl (by kernel_rfl) rfl ?y23_10 HS ?_; case y23_10 => (intro w' hSw; (try dsimp only at hSw); go_simp <;> (with_reducible rfl)))
       try simp only [Act.put, lpa, lpb, lpc]
       (refine tk (v := ?v23_11) 11 rfl (by kernel_rfl) rfl ?y23_11 HS ?_; case y23_11 => (intro w' hSw; (try dsimp only at hSw); go_simp <;> (with_reducible rfl)))
       try simp only [Act.put, lpa, lpb, lpc]
       (refine tk (v := ?v23_12) 12 rfl (by kernel_rfl) rfl ?y23_12 HS ?_; case y23_12 => (intro w' hSw; (try dsimp only at hSw); go_simp <;> (with_reducible rfl)))
       try simp only [Act.put, lpa, lpb, lpc]
       refine cl 13 rfl (by kernel_rfl) (fun K hK => ?_)
       go_simp
       go_at_call 154
       refine (specMatchesSchema _ m fs x.name x.val _ (HS0.out.grew (hbw.trans HS.2.2.2.2.2.2)) hx hs2).mono ?_
       rintro e w1 ⟨he, hb⟩
       rw [HM.out] at he
       subst he
       refine hK.out _ _ ?s23_13 ?r23_13
       case s23_13 => (try dsimp only); first | exact HS | exact ⟨grew_cell hb HS.1, grew_cell hb HS.2.1, grew_cell hb HS.2.2.1, grew_cell hb HS.2.2.2.1, grew_cell hb HS.2.2.2.2.1, grew_cell hb HS.2.2.2.2.2.1, HS.2.2.2.2.2.2.trans hb⟩
       case r23_13 =>
        clear HS
        intro HS
        clear hK K
        try simp only [Act.put, lpa, lpb, lpc]
        (refine tk (v := ?v23_14) 14 rfl (by kernel_rfl) rfl ?y23_14 HS ?_; case y23_14 => (intro w' hSw; (try dsimp only at hSw); go_simp <;> (with_reducible rfl)))
        try simp only [Act.put, lpa, lpb, lpc]
        (refine tk (v := ?v23_15) 15 rfl (by kernel_rfl) rfl ?y23_15 HS ?_; case y23_15 => (intro w' hSw; (try dsimp only at hSw); go_simp <;> (with_reducible rfl)))
        try simp only [Act.put, lpa, lpb, lpc]
        (refine tk (v := ?v23_16) 16 rfl (by kernel_rfl) rfl ?y23_16 HS ?_; case y23_16 => (intro w' hSw; (try dsimp only at hSw); go_simp <;> (with_reducible rfl)))
        try simp only [Act.put, lpa, lpb, lpc]
        (refine tk (v := ?v23_17) 17 rfl (by kernel_rfl) rfl ?y23_17 HS ?_; case y23_17 => (intro w' hSw; (try dsimp only at hSw); go_simp <;> (with_reducible rfl)))
        try simp only [Act.put, lpa, lpb, lpc]
        (refine tk (v := ?v23_18) 18 rfl (by kernel_rfl) rfl ?y23_18 HS ?_; case y23_18 => (intro w' hSw; (try dsimp only at hSw); go_simp <;> (with_reducible rfl)))
        try simp only [Act.put, lpa, lpb, lpc]
        (refine tk (v := ?v23_19) 19 rfl (by kernel_rfl) rfl ?y23_19 HS ?_; case y23_19 => (intro w' hSw; (try dsimp only at hSw); go_simp <;> (with_reducible rfl)))
        try simp only [Act.put, lpa, lpb, lpc]
        (refine tk (v := ?v23_20) 20 rfl (by kernel_rfl) rfl ?y23_20 HS ?_; case y23_20 => (intro w' hSw; (try dsimp only at hSw); go_simp <;> (with_reducible rfl)))
        try simp only [Act.put, lpa, lpb, lpc]
        (refine tk (v := ?v23_21) 21 rfl (by kernel_rfl) rfl ?y23_21 HS ?_; case y23_21 => (intro w' hSw; (try dsimp only at hSw); go_simp <;> (with_reducible rfl)))
        try simp only [Act.put, lpa, lpb, lpc]
        (refine tk (v := ?v23_22) 22 rfl (by kernel_rfl) rfl ?y23_22 HS ?_; case y23_22 => (intro w' hSw; (try dsimp only at hSw); go_simp <;> (with_reducible rfl)))
        try simp only [Act.put, lpa, lpb, lpc]
        (refine tk (v := ?v23_23) 23 rfl (by kernel_rfl) rfl ?y23_23 HS ?_; case y23_23 => (intro w' hSw; (try dsimp only at hSw); go_simp <;> (with_reducible rfl)))
        try simp only [Act.put, lpa, lpb, lpc]
        (refine tk (v := ?v23_24) 24 rfl (by kernel_rfl) rfl ?y23_24 HS ?_; case y23_24 => (intro w' hSw; (try dsimp only at hSw); go_simp <;> (with_reducible rfl)))
        try simp only [Act.put, lpa, lpb, lpc]
        (refine tk (v := ?v23_25) 25 rfl (by kernel_rfl) rfl ?y23_25 HS ?_; case y23_25 => (intro w' hSw; (try dsimp only at hSw); go_simp <;> (with_reducible rfl)))
        try simp only [Act.put, lpa, lpb, lpc]
        (refine tk (v := ?v23_26) 26 rfl (by kernel_rfl) rfl ?y23_26 HS ?_; case y23_26 => (intro w' hSw; (try dsimp only at hSw); go_simp <;> (with_reducible rfl)))
        try simp only [Act.put, lpa, lpb, lpc]
        (refine tk (v := ?v23_27) 27 rfl (by kernel_rfl) rfl ?y23_27 HS ?_; case y23_27 => (intro w' hSw; (try dsimp only at hSw); go_simp <;> (with_reducible rfl)))
        try simp only [Act.put, lpa, lpb, lpc]
        (refine tk (v := ?v23_28) 28 rfl (by kernel_rfl) rfl ?y23_28 HS ?_; case y23_28 => (intro w' hSw; (try dsimp only at hSw); go_simp <;> (with_reducible rfl)))
        try simp only [Act.put, lpa, lpb, lpc]
        (refine tk (v := ?v23_29) 29 rfl (by kernel_rfl) rfl ?y23_29 HS ?_; case y23_29 => (intro w' hSw; (try dsimp only at hSw); go_simp <;> (with_reducible rfl)))
        try simp only [Act.put, lpa, lpb, lpc]
        (refine tk (v := ?v23_30) 30 rfl (by kernel_rfl) rfl ?y23_30 HS ?_; case y23_30 => (intro w' hSw; (try dsimp only at hSw); go_simp <;> (with_reducible rfl)))
        try simp only [Act.put, lpa, lpb, lpc]
        (refine tk (v := ?v23_31) 31 rfl (by kernel_rfl) rfl ?y23_31 HS ?_; case y23_31 => (intro w' hSw; (try dsimp only at hSw); go_simp <;> (with_reducible rfl)))
        try simp only [Act.put, lpa, lpb, lpc]
        (refine tk (v := ?v23_32) 32 rfl (by kernel_rfl) rfl ?y23_32 HS ?_; case y23_32 => (intro w' hSw; (try dsimp only at hSw); go_simp <;> (with_reducible rfl)))
        try simp only [Act.put, lpa, lpb, lpc]
        (refine tk (v := ?v23_33) 33 rfl (by kernel_rfl) rfl ?y23_33 HS ?_; case y23_33 => (intro w' hSw; (try dsimp only at hSw); go_simp <;> (with_reducible rfl)))
        try simp only [Act.put, lpa, lpb, lpc]
        (refine tk (v := ?v23_34) 34 rfl (by kernel_rfl) rfl ?y23_34 HS ?_; case y23_34 => (intro w' hSw; (try dsimp only at hSw); go_simp <;> (with_reducible rfl)))
        try simp only [Act.put, lpa, lpb, lpc]
        refine wpAnyH_done (by kernel_rfl) ?_ _
        refine NoPanic.normal ?_
        go_wp2
        go_roundw
        case rel => exact ⟨p + 1 + 1, by omega, by go_num, Lib.hid (upTo_snoc hsame.out hxk.out (by show filAt fs f.attrs _ x = true; unfold filAt; rw [HM.out, HP.out, hlv]; rfl)), hbel.trans HS.2.2.2.2.2.2⟩
        case measure => simp [intOf]; omega
  ·
   obtain rfl : k = n := by omega
   have hy := Lib.hid (all_up HX.out hsame.out)
   have ex0 := grew_cell hbel x0
   have ex1 := grew_cell hbel x1
   have ex3 := grew_cell hbel x3
   have ex4 := grew_cell hbel x4
   have hc_bs : bs = false ∨ bs = true := by cases bs <;> simp
   have hc_bi : bi = false ∨ bi = true := by cases bi <;> simp
   have hc_bo : bo = false ∨ bo = true := by cases bo <;> simp
   have hc_bl : bl = false ∨ bl = true := by cases bl <;> simp
   rcases hc_bs with rfl | rfl
   ·
    have hk0 := hk
    go_wp2_with (first | (go_at_call 89; refine (l01In _ _ _ _).mono ?_; rintro e w' ⟨he, rfl⟩; (first | rw [HI.out] at he | rw [HL.out] at he | rw [HO.out] at he); subst he) | (go_at_call 88; refine (specIsValidSchema _ m fs _ (HS0.out.grew hbw) hx hzs).mono ?_; rintro e w9 ⟨he, hb9⟩; rw [HC.out] at he; subst he; have z0 := grew_cell hb9 ex0; have z1 := grew_cell hb9 ex1; have z3 := grew_cell hb9 ex3))
    go_ret
    refine ⟨ret_bool ?_, by first | exact hbw.trans hb9 | exact hbw⟩
    unfold filB; rw [hy.out, HI.out, HO.out, HL.out, HC.out]; simp
   ·
    have hk0 := hk
    rcases hc_bi with rfl | rfl
    ·
     have hk0 := hk
     go_wp2_with (first | (go_at_call 89; refine (l01In _ _ _ _).mono ?_; rintro e w' ⟨he, rfl⟩; (first | rw [HI.out] at he | rw [HL.out] at he | rw [HO.out] at he); subst he) | (go_at_call 88; refine (specIsValidSchema _ m fs _ (HS0.out.grew hbw) hx hzs).mono ?_; rintro e w9 ⟨he, hb9⟩; rw [HC.out] at he; subst he; have z0 := grew_cell hb9 ex0; have z1 := grew_cell hb9 ex1; have z3 := grew_cell hb9 ex3))
     go_ret
     refine ⟨ret_bool ?_, by first | exact hbw.trans hb9 | exact hbw⟩
     unfold filB; rw [hy.out, HI.out, HO.out, HL.out, HC.out]; simp
    ·
     have hk0 := hk
     rcases hc_bo with rfl | rfl
     ·
      have hk0 := hk
      go_wp2_with (first | (go_at_call 89; refine (l01In _ _ _ _).mono ?_; rintro e w' ⟨he, rfl⟩; (first | rw [HI.out] at he | rw [HL.out] at he | rw [HO.out] at he); subst he) | (go_at_call 88; refine (specIsValidSchema _ m fs _ (HS0.out.grew hbw) hx hzs).mono ?_; rintro e w9 ⟨he, hb9⟩; rw [HC.out] at he; subst he; have z0 := grew_cell hb9 ex0; have z1 := grew_cell hb9 ex1; have z3 := grew_cell hb9 ex3))
      go_ret
      refine ⟨ret_bool ?_, by first | exact hbw.trans hb9 | exact hbw⟩
      unfold filB; rw [hy.out, HI.out, HO.out, HL.out, HC.out]; simp
     ·
      have hk0 := hk
      rcases hc_bl with rfl | rfl
      ·
       have hk0 := hk
       go_wp2_with (first | (go_at_call 89; refine (l01In _ _ _ _).mono ?_; rintro e w' ⟨he, rfl⟩; (first | rw [HI.out] at he | rw [HL.out] at he | rw [HO.out] at he); subst he) | (go_at_call 88; refine (specIsValidSchema _ m fs _ (HS0.out.grew hbw) hx hzs).mono ?_; rintro e w9 ⟨he, hb9⟩; rw [HC.out] at he; subst he; have z0 := grew_cell hb9 ex0; have z1 := grew_cell hb9 ex1; have z3 := grew_cell hb9 ex3))
       go_ret
       refine ⟨ret_bool ?_, by first | exact hbw.trans hb9 | exact hbw⟩
       unfold filB; rw [hy.out, HI.out, HO.out, HL.out, HC.out]; simp
      ·
       have hk0 := hk
       go_wp2_with (first | (go_at_call 89; refine (l01In _ _ _ _).mono ?_; rintro e w' ⟨he, rfl⟩; (first | rw [HI.out] at he | rw [HL.out] at he | rw [HO.out] at he); subst he) | (go_at_call 88; refine (specIsValidSchema _ m fs _ (HS0.out.grew hbw) hx hzs).mono ?_; rintro e w9 ⟨he, hb9⟩; rw [HC.out] at he; subst he; have z0 := grew_cell hb9 ex0; have z1 := grew_cell hb9 ex1; have z3 := grew_cell hb9 ex3))
       go_ret
       refine ⟨ret_bool ?_, by first | exact hbw.trans hb9 | exact hbw⟩
       unfold filB; rw [hy.out, HI.out, HO.out, HL.out, HC.out]; simp
set_option maxRecDepth 100000 in
set_option maxHeartbeats 4000000 in
theorem implIsValidFile (va : Value) (m : Nat) (fs : List Fd) (f : Fl) (p5 : P5) (w : World) (ha : Rd w va 2 m (rows Fd.c fs)) (hf : Fl.R w f p5) (hx : m ≤ 4000000) (hzs : szAll Fd.sz fs ≤ 4000000) (hz : f.sz ≤ 4000000) :
  Calls Tryz.prog 175 #[va, p5.v] w fun e w' => e = .returned (.bool (filB fs f)) ∧ Grew w w' := by
 have HS0 := Lib.hid ha
 obtain ⟨sa, sc, rfl, hsc, hsr⟩ := ha
 clear hsr hsc
 obtain ⟨pi, po, psh, pl, pa⟩ := p5
 obtain ⟨h1, h2, h3, h4, h5⟩ := hf
 simp only at h1 h2 h3 h4 h5
 subst h1 h2 h3 h4
 obtain ⟨a, ca, rfl, hca, hra⟩ := h5
 have hfl : f.attrs.length ≤ 4000000 := by unfold Fl.sz at hz; omega
 have HZ := Lib.hid (show szAll At.sz f.attrs ≤ 4000000 by unfold Fl.sz at hz; omega)
 obtain ⟨bi, hbi⟩ : ∃ b, inB f.id 1 60 = b := ⟨_, rfl⟩
 obtain ⟨bo, hbo⟩ : ∃ b, inB f.owner 0 2 = b := ⟨_, rfl⟩
 obtain ⟨bl, hbl⟩ : ∃ b, inB f.link 0 60 = b := ⟨_, rfl⟩
 obtain ⟨bs, hbs⟩ : ∃ b, schB fs = b := ⟨_, rfl⟩
 have HI := Lib.hid hbi
 have HO := Lib.hid hbo
 have HL := Lib.hid hbl
 have HC := Lib.hid hbs
 clear hbi hbo hbl hbs
 have hg0 := (Grew.refl w).alloc (.cells #[.int .i64 f.id, .int .i64 f.owner, .bool f.shared, .int .i64 f.link, .slice a f.attrs.length ca] 79)
 have x0 : (w.alloc (.cells #[.int .i64 f.id, .int .i64 f.owner, .bool f.shared, .int .i64 f.link, .slice a f.attrs.length ca] 79)).cell? ⟨w.heap.size, 0, none⟩ = some (.int .i64 f.id) := by simp
 have x1 : (w.alloc (.cells #[.int .i64 f.id, .int .i64 f.owner, .bool f.shared, .int .i64 f.link, .slice a f.attrs.length ca] 79)).cell? ⟨w.heap.size, 1, none⟩ = some (.int .i64 f.owner) := by simp
 have x3 : (w.alloc (.cells #[.int .i64 f.id, .int .i64 f.owner, .bool f.shared, .int .i64 f.link, .slice a f.attrs.length ca] 79)).cell? ⟨w.heap.size, 3, none⟩ = some (.int .i64 f.link) := by simp
 have x4 : (w.alloc (.cells #[.int .i64 f.id, .int .i64 f.owner, .bool f.shared, .int .i64 f.link, .slice a f.attrs.length ca] 79)).cell? ⟨w.heap.size, 4, none⟩ = some (.slice a f.attrs.length ca) := by simp
 generalize hn : f.attrs.length = n at hfl hra hca x0 x1 x3 x4 hg0
 have HX := Lib.hid hn
 change Calls Tryz.prog _ #[_, .agg #[.int .i64 f.id, .int .i64 f.owner, .bool f.shared, .int .i64 f.link, .slice a n ca]] w _
 clear hn
 go_enter Tryz.func175, Tryz.ntmps175
 go_wp2
 go_loopw [10] (fun i wr => ∃ k : Nat, k ≤ n ∧ i = .int .i64 k ∧ Hid (upTo (filAt fs f.attrs) f.attrs k) ∧ Grew (w.alloc (.cells #[.int .i64 f.id, .int .i64 f.owner, .bool f.shared, .int .i64 f.link, .slice a n ca] 79)) wr) (fun i _ => n - (intOf i).toNat)
 case atStart => exact ⟨0, Nat.zero_le _, rfl, Lib.hid (upTo_zero _ _), Grew.refl _⟩
 case round =>
  obtain ⟨k, hk, rfl, hsame, hbel⟩ := hrel
  have hbw := hg0.trans hbel
  by_cases hlt : k < n
  ·
   obtain ⟨b1, o1, x, rfl, hxk, c0, c1, c2, c3⟩ := (hra.grew hbw).getAt hlt
   have hs1 := (at_sz HZ.out hxk.out).1
   have hs2 := (at_sz HZ.out hxk.out).2
   obtain ⟨mv, hmv⟩ : ∃ b, mscB fs x.name x.val = b := ⟨_, rfl⟩
   have HM := Lib.hid hmv
   clear hmv
   have hcm : mv = false ∨ mv = true := by cases mv <;> simp
   have ex4 := grew_cell hbel x4
   by_cases hk1 : ¬ (0 < k)
   ·
    have hk0 := hk
    rcases hcm with rfl | rfl
    ·
     have hk0 := hk
     have hk00 := hk
     go_wp2_with fail
     have hal := (Grew.refl wr).alloc (.cells #[.string x.name, .int .i64 x.val.kind, .int .i64 x.val.int, .string x.val.str] 165)
     have g0 : (wr.alloc (.cells #[.string x.name, .int .i64 x.val.kind, .int .i64 x.val.int, .string x.val.str] 165)).cell? ⟨wr.heap.size, 0, none⟩ = some (.string x.name) := by simp
     have g1 : (wr.alloc (.cells #[.string x.name, .int .i64 x.val.kind, .int .i64 x.val.int, .string x.val.str] 165)).cell? ⟨wr.heap.size, 1, none⟩ = some (.int .i64 x.val.kind) := by simp
     have g2 : (wr.alloc (.cells #[.string x.name, .int .i64 x.val.kind, .int .i64 x.val.int, .string x.val.str] 165)).cell? ⟨wr.heap.size, 2, none⟩ = some (.int .i64 x.val.int) := by simp
     have g3 : (wr.alloc (.cells #[.string x.name, .int .i64 x.val.kind, .int .i64 x.val.int, .string x.val.str] 165)).cell? ⟨wr.heap.size, 3, none⟩ = some (.string x.val.str) := by simp
     have ax4 := grew_cell hal ex4
     refine wp_region_noPanic ?_
     refine wp_region_held_drew (S := (fun w' => (w'.cell? ⟨w.heap.size, 4, none⟩ = some (.slice (some ⟨b1, o1, none⟩) n ca) ∧ w'.cell? ⟨wr.heap.size, 0, none⟩ = some (.string x.name) ∧ w'.cell? ⟨wr.heap.size, 1, none⟩ = some (.int .i64 x.val.kind) ∧ w'.cell? ⟨wr.heap.size, 2, none⟩ = some (.int .i64 x.val.int) ∧ w'.cell? ⟨wr.heap.size, 3, none⟩ = some (.string x.val.str) ∧ Grew (wr.alloc (.cells #[.string x.name, .int .i64 x.val.kind, .int .i64 x.val.int, .string x.val.str] 165)) w'))) (by kernel_rfl) ?h24_S ?h24_r
     case h24_S => exact ⟨grew_cell (Grew.refl _).drew ax4, grew_cell (Grew.refl _).drew g0, grew_cell (Grew.refl _).drew g1, grew_cell (Grew.refl _).drew g2, grew_cell (Grew.refl _).drew g3, (Grew.refl _).drew⟩
     case h24_r =>
      intro HS
      (refine tk (v := ?v24_0) 0 rfl (by kernel_rfl) rfl ?y24_0 HS ?_; case y24_0 => (intro w' hSw; (try dsimp only at hSw); go_simp <;> (with_reducible rfl)))
      try simp only [Act.put, lpa, lpb, lpc]
      (refine tk (v := ?v24_1) 1 rfl (by kernel_rfl) rfl ?y24_1 HS ?_; case y24_1 => (intro w' hSw; (try dsimp only at hSw); go_simp <;> (with_reducible rfl)))
      try simp only [Act.put, lpa, lpb, lpc]
      (refine tk (v := ?v24_2) 2 rfl (by kernel_rfl) rfl ?y24_2 HS ?_; case y24_2 => (intro w' hSw; (try dsimp only at hSw); go_simp <;> (with_reducible rfl)))
      try simp only [Act.put, lpa, lpb, lpc]
      refine sk 3 rfl (by kernel_rfl) rfl HS ?_
      try simp only [Act.put, lpa, lpb, lpc]
      refine sk 4 rfl (by kernel_rfl) rfl HS ?_
      try simp only [Act.put, lpa, lpb, lpc]
      refine sk 5 rfl (by kernel_rfl) rfl HS ?_
      try simp only [Act.put, lpa, lpb, lpc]
      refine sk 6 rfl (by kernel_rfl) rfl HS ?_
      try simp only [Act.put, lpa, lpb, lpc]
      refine sk 7 rfl (by kernel_rfl) rfl HS ?_
      try simp only [Act.put, lpa, lpb, lpc]
      refine sk 8 rfl (by kernel_rfl) rfl HS ?_
      try simp only [Act.put, lpa, lpb, lpc]
      refine sk 9 rfl (by kernel_rfl) rfl HS ?_
      try simp only [Act.put, lpa, lpb, lpc]
      refine sk 10 rfl (by kernel_rfl) rfl HS ?_
      try simp only [Act.put, lpa, lpb, lpc]
      refine sk 11 rfl (by kernel_rfl) rfl HS ?_
      try simp only [Act.put, lpa, lpb, lpc]
      refine sk 12 rfl (by kernel_rfl) rfl HS ?_
      try simp only [Act.put, lpa, lpb, lpc]
      (refine tk (v := ?v24_13) 13 rfl (by kernel_rfl) rfl ?y24_13 HS ?_; case y24_13 => (intro w' hSw; (try dsimp only at hSw); go_simp <;> (with_reducible rfl)))
      try simp only [Act.put, lpa, lpb, lpc]
      (refine tk (v := ?v24_14) 14 rfl (by kernel_rfl) rfl ?y24_14 HS ?_; case y24_14 => (intro w' hSw; (try dsimp only at hSw); go_simp <;> (with_reducible rfl)))
      try simp only [Act.put, lpa, lpb, lpc]
      (refine tk (v := ?v24_15) 15 rfl (by kernel_rfl) rfl ?y24_15 HS ?_; case y24_15 => (intro w' hSw; (try dsimp only at hSw); go_simp <;> (with_reducible rfl)))
      try simp only [Act.put, lpa, lpb, lpc]
      (refine tk (v := ?v24_16) 16 rfl (by kernel_rfl) rfl ?y24_16 HS ?_; case y24_16 => (intro w' hSw; (try dsimp only at hSw); go_simp <;> (with_reducible rfl)))
      try simp only [Act.put, lpa, lpb, lpc]
      (refine tk (v := ?v24_17) 17 rfl (by kernel_rfl) rfl ?y24_17 HS ?_; case y24_17 => (intro w' hSw; (try dsimp only at hSw); go_simp <;> (with_reducible rfl)))
      try simp only [Act.put, lpa, lpb, lpc]
      (refine tk (v := ?v24_18) 18 rfl (by kernel_rfl) rfl ?y24_18 HS ?_; case y24_18 => (intro w' hSw; (try dsimp only at hSw); go_simp <;> (with_reducible rfl)))
      try simp only [Act.put, lpa, lpb, lpc]
      (refine tk (v := ?v24_19) 19 rfl (by kernel_rfl) rfl ?y24_19 HS ?_; case y24_19 => (intro w' hSw; (try dsimp only at hSw); go_simp <;> (with_reducible rfl)))
      try simp only [Act.put, lpa, lpb, lpc]
      refine cl 20 rfl (by kernel_rfl) (fun K hK => ?_)
      go_simp
      go_at_call 219
      refine (implMatchesSchema _ m fs x.name x.val _ (HS0.out.grew (hbw.trans (hal.trans HS.2.2.2.2.2))) hx hs2).mono ?_
      rintro e w1 ⟨he, hb⟩
      rw [HM.out] at he
      subst he
      refine hK.out _ _ ?s24_20 ?r24_20
      case s24_20 => (try dsimp only); first | exact HS | exact ⟨grew_cell hb HS.1, grew_cell hb HS.2.1, grew_cell hb HS.2.2.1, grew_cell hb HS.2.2.2.1, grew_cell hb HS.2.2.2.2.1, HS.2.2.2.2.2.trans hb⟩
      case r24_20 =>
       clear HS
       intro HS
       clear hK K
       try simp only [Act.put, lpa, lpb, lpc]
       (refine tk (v := ?v24_21) 21 rfl (by kernel_rfl) rfl ?y24_21 HS ?_; case y24_21 => (intro w' hSw; (try dsimp only at hSw); go_simp <;> (with_reducible rfl)))
       try simp only [Act.put, lpa, lpb, lpc]
       (refine tk (v := ?v24_22) 22 rfl (by kernel_rfl) rfl ?y24_22 HS ?_; case y24_22 => (intro w' hSw; (try dsimp only at hSw); go_simp <;> (with_reducible rfl)))
       try simp only [Act.put, lpa, lpb, lpc]
       refine wpAnyH_done (by kernel_rfl) ?_ _
       refine NoPanic.normal ?_
       go_wp2
       go_ret
       refine ⟨ret_bool ?_, hbw.trans (hal.trans HS.2.2.2.2.2)⟩
       exact (show filB fs f = false by unfold filB; rw [all_not hxk.out (show filAt fs f.attrs _ x = false by unfold filAt; rw [HM.out]; simp)]; rfl).symm
    ·
     have hk0 := hk
     have hk00 := hk
     go_wp2_with fail
     have hal := (Grew.refl wr).alloc (.cells #[.string x.name, .int .i64 x.val.kind, .int .i64 x.val.int, .string x.val.str] 165)
     have g0 : (wr.alloc (.cells #[.string x.name, .int .i64 x.val.kind, .int .i64 x.val.int, .string x.val.str] 165)).cell? ⟨wr.heap.size, 0, none⟩ = some (.string x.name) := by simp
     have g1 : (wr.alloc (.cells #[.string x.name, .int .i64 x.val.kind, .int .i64 x.val.int, .string x.val.str] 165)).cell? ⟨wr.heap.size, 1, none⟩ = some (.int .i64 x.val.kind) := by simp
     have g2 : (wr.alloc (.cells #[.string x.name, .int .i64 x.val.kind, .int .i64 x.val.int, .string x.val.str] 165)).cell? ⟨wr.heap.size, 2, none⟩ = some (.int .i64 x.val.int) := by simp
     have g3 : (wr.alloc (.cells #[.string x.name, .int .i64 x.val.kind, .int .i64 x.val.int, .string x.val.str] 165)).cell? ⟨wr.heap.size, 3, none⟩ = some (.string x.val.str) := by simp
     have ax4 := grew_cell hal ex4
     refine wp_region_noPanic ?_
     refine wp_region_held_drew (S := (fun w' => (w'.cell? ⟨w.heap.size, 4, none⟩ = some (.slice (some ⟨b1, o1, none⟩) n ca) ∧ w'.cell? ⟨wr.heap.size, 0, none⟩ = some (.string x.name) ∧ w'.cell? ⟨wr.heap.size, 1, none⟩ = some (.int .i64 x.val.kind) ∧ w'.cell? ⟨wr.heap.size, 2, none⟩ = some (.int .i64 x.val.int) ∧ w'.cell? ⟨wr.heap.size, 3, none⟩ = some (.string x.val.str) ∧ Grew (wr.alloc (.cells #[.string x.name, .int .i64 x.val.kind, .int .i64 x.val.int, .string x.val.str] 165)) w'))) (by kernel_rfl) ?h25_S ?h25_r
     case h25_S => exact ⟨grew_cell (Grew.refl _).drew ax4, grew_cell (Grew.refl _).drew g0, grew_cell (Grew.refl _).drew g1, grew_cell (Grew.refl _).drew g2, grew_cell (Grew.refl _).drew g3, (Grew.refl _).drew⟩
     case h25_r =>
      intro HS
      (refine tk (v := ?v25_0) 0 rfl (by kernel_rfl) rfl ?y25_0 HS ?_; case y25_0 => (intro w' hSw; (try dsimp only at hSw); go_simp <;> (with_reducible rfl)))
      try simp only [Act.put, lpa, lpb, lpc]
      (refine tk (v := ?v25_1) 1 rfl (by kernel_rfl) rfl ?y25_1 HS ?_; case y25_1 => (intro w' hSw; (try dsimp only at hSw); go_simp <;> (with_reducible rfl)))
      try simp only [Act.put, lpa, lpb, lpc]
      (refine tk (v := ?v25_2) 2 rfl (by kernel_rfl) rfl ?y25_2 HS ?_; case y25_2 => (intro w' hSw; (try dsimp only at hSw); go_simp <;> (with_reducible rfl)))
      try simp only [Act.put, lpa, lpb, lpc]
      refine sk 3 rfl (by kernel_rfl) rfl HS ?_
      try simp only [Act.put, lpa, lpb, lpc]
      refine sk 4 rfl (by kernel_rfl) rfl HS ?_
      try simp only [Act.put, lpa, lpb, lpc]
      refine sk 5 rfl (by kernel_rfl) rfl HS ?_
      try simp only [Act.put, lpa, lpb, lpc]
      refine sk 6 rfl (by kernel_rfl) rfl HS ?_
      try simp only [Act.put, lpa, lpb, lpc]
      refine sk 7 rfl (by kernel_rfl) rfl HS ?_
      try simp only [Act.put, lpa, lpb, lpc]
      refine sk 8 rfl (by kernel_rfl) rfl HS ?_
      try simp only [Act.put, lpa, lpb, lpc]
      refine sk 9 rfl (by kernel_rfl) rfl HS ?_
      try simp only [Act.put, lpa, lpb, lpc]
      refine sk 10 rfl (by kernel_rfl) rfl HS ?_
      try simp only [Act.put, lpa, lpb, lpc]
      refine sk 11 rfl (by kernel_rfl) rfl HS ?_
      try simp only [Act.put, lpa, lpb, lpc]
      refine sk 12 rfl (by kernel_rfl) rfl HS ?_
      try simp only [Act.put, lpa, lpb, lpc]
      (refine tk (v := ?v25_13) 13 rfl (by kernel_rfl) rfl ?y25_13 HS ?_; case y25_13 => (intro w' hSw; (try dsimp only at hSw); go_simp <;> (with_reducible rfl)))
      try simp only [Act.put, lpa, lpb, lpc]
      (refine tk (v := ?v25_14) 14 rfl (by kernel_rfl) rfl ?y25_14 HS ?_; case y25_14 => (intro w' hSw; (try dsimp only at hSw); go_simp <;> (with_reducible rfl)))
      try simp only [Act.put, lpa, lpb, lpc]
      (refine tk (v := ?v25_15) 15 rfl (by kernel_rfl) rfl ?y25_15 HS ?_; case y25_15 => (intro w' hSw; (try dsimp only at hSw); go_simp <;> (with_reducible rfl)))
      try simp only [Act.put, lpa, lpb, lpc]
      (refine tk (v := ?v25_16) 16 rfl (by kernel_rfl) rfl ?y25_16 HS ?_; case y25_16 => (intro w' hSw; (try dsimp only at hSw); go_simp <;> (with_reducible rfl)))
      try simp only [Act.put, lpa, lpb, lpc]
      (refine tk (v := ?v25_17) 17 rfl (by kernel_rfl) rfl ?y25_17 HS ?_; case y25_17 => (intro w' hSw; (try dsimp only at hSw); go_simp <;> (with_reducible rfl)))
      try simp only [Act.put, lpa, lpb, lpc]
      (refine tk (v := ?v25_18) 18 rfl (by kernel_rfl) rfl ?y25_18 HS ?_; case y25_18 => (intro w' hSw; (try dsimp only at hSw); go_simp <;> (with_reducible rfl)))
      try simp only [Act.put, lpa, lpb, lpc]
      (refine tk (v := ?v25_19) 19 rfl (by kernel_rfl) rfl ?y25_19 HS ?_; case y25_19 => (intro w' hSw; (try dsimp only at hSw); go_simp <;> (with_reducible rfl)))
      try simp only [Act.put, lpa, lpb, lpc]
      refine cl 20 rfl (by kernel_rfl) (fun K hK => ?_)
      go_simp
      go_at_call 219
      refine (implMatchesSchema _ m fs x.name x.val _ (HS0.out.grew (hbw.trans (hal.trans HS.2.2.2.2.2))) hx hs2).mono ?_
      rintro e w1 ⟨he, hb⟩
      rw [HM.out] at he
      subst he
      refine hK.out _ _ ?s25_20 ?r25_20
      case s25_20 => (try dsimp only); first | exact HS | exact ⟨grew_cell hb HS.1, grew_cell hb HS.2.1, grew_cell hb HS.2.2.1, grew_cell hb HS.2.2.2.1, grew_cell hb HS.2.2.2.2.1, HS.2.2.2.2.2.trans hb⟩
      case r25_20 =>
       clear HS
       intro HS
       clear hK K
       try simp only [Act.put, lpa, lpb, lpc]
       (refine tk (v := ?v25_21) 21 rfl (by kernel_rfl) rfl ?y25_21 HS ?_; case y25_21 => (intro w' hSw; (try dsimp only at hSw); go_simp <;> (with_reducible rfl)))
       try simp only [Act.put, lpa, lpb, lpc]
       (refine tk (v := ?v25_22) 22 rfl (by kernel_rfl) rfl ?y25_22 HS ?_; case y25_22 => (intro w' hSw; (try dsimp only at hSw); go_simp <;> (with_reducible rfl)))
       try simp only [Act.put, lpa, lpb, lpc]
       refine wpAnyH_done (by kernel_rfl) ?_ _
       refine NoPanic.normal ?_
       go_wp2
       go_roundw
       case rel => exact ⟨k + 1, by omega, by go_num, Lib.hid (upTo_snoc hsame.out hxk.out (by show filAt fs f.attrs _ x = true; unfold filAt; rw [HM.out, Nat.eq_zero_of_not_pos hk1]; rfl)), hbel.trans (hal.trans HS.2.2.2.2.2)⟩
       case measure => simp [intOf]; omega
   ·
    have hk0 := hk
    obtain ⟨p, rfl⟩ : ∃ p, k = p + 1 := ⟨k - 1, by omega⟩
    obtain ⟨b2, o2, y, hab, hyk, d0, d1, d2, d3⟩ := (hra.grew hbw).getAt (show p < n by omega)
    obtain ⟨rfl, rfl⟩ : b1 = b2 ∧ o1 = o2 := by cases hab; exact ⟨rfl, rfl⟩
    clear hab
    clear d1 d2 d3
    have hpp : ((p + 1 : Nat) : Int) - 1 = (p : Int) := by omega
    have hp0 : (0 : Int) ≤ (p : Int) + 1 := by omega
    have hp1 : (p : Int) < (n : Int) := by omega
    have hp2 : (p : Int) + 1 < (n : Int) := by omega
    have hwp : IntKind.i64.wrap (p : Int) = (p : Int) := by simp [IntKind.wrap, IntKind.bits, IntKind.signed]; omega
    obtain ⟨lv, hlv⟩ : ∃ b, Op.bytesLess y.name.toList x.name.toList = b := ⟨_, rfl⟩
    have HP := Lib.hid (prevOk_succ (lt := fun (y x : At) => Op.bytesLess y.name.toList x.name.toList) (x := x) hyk.out)
    have hcl : lv = false ∨ lv = true := by cases lv <;> simp
    rcases hcl with rfl | rfl
    ·
     have hk0 := hk
     have hk00 := hk
     go_wp2_with fail
     have hal := (Grew.refl wr).alloc (.cells #[.string x.name, .int .i64 x.val.kind, .int .i64 x.val.int, .string x.val.str] 165)
     have g0 : (wr.alloc (.cells #[.string x.name, .int .i64 x.val.kind, .int .i64 x.val.int, .string x.val.str] 165)).cell? ⟨wr.heap.size, 0, none⟩ = some (.string x.name) := by simp
     have g1 : (wr.alloc (.cells #[.string x.name, .int .i64 x.val.kind, .int .i64 x.val.int, .string x.val.str] 165)).cell? ⟨wr.heap.size, 1, none⟩ = some (.int .i64 x.val.kind) := by simp
     have g2 : (wr.alloc (.cells #[.string x.name, .int .i64 x.val.kind, .int .i64 x.val.int, .string x.val.str] 165)).cell? ⟨wr.heap.size, 2, none⟩ = some (.int .i64 x.val.int) := by simp
     have g3 : (wr.alloc (.cells #[.string x.name, .int .i64 x.val.kind, .int .i64 x.val.int, .string x.val.str] 165)).cell? ⟨wr.heap.size, 3, none⟩ = some (.string x.val.str) := by simp
     have ax4 := grew_cell hal ex4
     replace d0 := grew_cell hal d0
     refine wp_region_noPanic ?_
     refine wp_region_held_drew (S := (fun w' => (w'.cell? ⟨w.heap.size, 4, none⟩ = some (.slice (some ⟨b1, o1, none⟩) n ca) ∧ w'.cell? ⟨wr.heap.size, 0, none⟩ = some (.string x.name) ∧ w'.cell? ⟨wr.heap.size, 1, none⟩ = some (.int .i64 x.val.kind) ∧ w'.cell? ⟨wr.heap.size, 2, none⟩ = some (.int .i64 x.val.int) ∧ w'.cell? ⟨wr.heap.size, 3, none⟩ = some (.string x.val.str) ∧ w'.cell? ⟨b1, o1 + p * 4, none⟩ = some (.string y.name) ∧ Grew (wr.alloc (.cells #[.string x.name, .int .i64 x.val.kind, .int .i64 x.val.int, .string x.val.str] 165)) w'))) (by kernel_rfl) ?h26_S ?h26_r
     case h26_S => exact ⟨grew_cell (Grew.refl _).drew ax4, grew_cell (Grew.refl _).drew g0, grew_cell (Grew.refl _).drew g1, grew_cell (Grew.refl _).drew g2, grew_cell (Grew.refl _).drew g3, grew_cell (Grew.refl _).drew d0, (Grew.refl _).drew⟩
     case h26_r =>
      intro HS
      (refine tk (v := ?v26_0) 0 rfl (by kernel_rfl) rfl ?y26_0 HS ?_; case y26_0 => (intro w' hSw; (try dsimp only at hSw); go_simp <;> (with_reducible rfl)))
      try simp only [Act.put, lpa, lpb, lpc]
      (refine tk (v := ?v26_1) 1 rfl (by kernel_rfl) rfl ?y26_1 HS ?_; case y26_1 => (intro w' hSw; (try dsimp only at hSw); go_simp <;> (with_reducible rfl)))
      try simp only [Act.put, lpa, lpb, lpc]
      (refine tk (v := ?v26_2) 2 rfl (by kernel_rfl) rfl ?y26_2 HS ?_; case y26_2 => (intro w' hSw; (try dsimp only at hSw); go_simp <;> (with_reducible rfl)))
      try simp only [Act.put, lpa, lpb, lpc]
      (refine tk (v := ?v26_3) 3 rfl (by kernel_rfl) rfl ?y26_3 HS ?_; case y26_3 => (intro w' hSw; (try dsimp only at hSw); go_simp <;> (with_reducible rfl)))
      try simp only [Act.put, lpa, lpb, lpc]
      (refine tk (v := ?v26_4) 4 rfl (by kernel_rfl) rfl ?y26_4 HS ?_; case y26_4 => (intro w' hSw; (try dsimp only at hSw); go_simp <;> (with_reducible rfl)))
      try simp only [Act.put, lpa, lpb, lpc]
      (refine tk (v := ?v26_5) 5 rfl (by kernel_rfl) rfl ?y26_5 HS ?_; case y26_5 => (intro w' hSw; (try dsimp only at hSw); go_simp <;> (with_reducible rfl)))
      try simp only [Act.put, lpa, lpb, lpc]
      (refine tk (v := ?v26_6) 6 rfl (by kernel_rfl) rfl ?y26_6 HS ?_; case y26_6 => (intro w' hSw; (try dsimp only at hSw); go_simp <;> (with_reducible rfl)))
      try simp only [Act.put, lpa, lpb, lpc]
      (refine tk (v := ?v26_7) 7 rfl (by kernel_rfl) rfl ?y26_7 HS ?_; case y26_7 => (intro w' hSw; (try dsimp only at hSw); go_simp <;> (with_reducible rfl)))
      try simp only [Act.put, lpa, lpb, lpc]
      (refine tk (v := ?v26_8) 8 rfl (by kernel_rfl) rfl ?y26_8 HS ?_; case y26_8 => (intro w' hSw; (try dsimp only at hSw); go_simp <;> (with_reducible rfl)))
      try simp only [Act.put, lpa, lpb, lpc]
      (refine tk (v := ?v26_9) 9 rfl (by kernel_rfl) rfl ?y26_9 HS ?_; case y26_9 => (intro w' hSw; (try dsimp only at hSw); go_simp <;> (with_reducible rfl)))
      try simp only [Act.put, lpa, lpb, lpc]
      (refine tk (v := ?v26_10) 10 rfl (by kernel_rfl) rfl ?y26_10 HS ?_; case y26_10 => (intro w' hSw; (try dsimp only at hSw); go_simp <;> (with_reducible rfl)))
      try simp only [Act.put, lpa, lpb, lpc]
      (refine tk (v := ?v26_11) 11 rfl (by kernel_rfl) rfl ?y26_11 HS ?_; case y26_11 => (intro w' hSw; (try dsimp only at hSw); go_simp <;> (with_reducible rfl)))
      try simp only [Act.put, lpa, lpb, lpc]
      (refine tk (v := ?v26_12) 12 rfl (by kernel_rfl) rfl ?y26_12 HS ?_; case y26_12 => (intro w' hSw; (try dsimp only at hSw); go_simp <;> (with_reducible rfl)))
      try simp only [Act.put, lpa, lpb, lpc]
      (refine tk (v := ?v26_13) 13 rfl (by kernel_rfl) rfl ?y26_13 HS ?_; case y26_13 => (intro w' hSw; (try dsimp only at hSw); go_simp <;> (with_reducible rfl)))
      try simp only [Act.put, lpa, lpb, lpc]
      (refine tk (v := ?v26_14) 14 rfl (by kernel_rfl) rfl ?y26_14 HS ?_; case y26_14 => (intro w' hSw; (try dsimp only at hSw); go_simp <;> (with_reducible rfl)))
      try simp only [Act.put, lpa, lpb, lpc]
      refine sk 15 rfl (by kernel_rfl) rfl HS ?_
      try simp only [Act.put, lpa, lpb, lpc]
      refine sk 16 rfl (by kernel_rfl) rfl HS ?_
      try simp only [Act.put, lpa, lpb, lpc]
      refine sk 17 rfl (by kernel_rfl) rfl HS ?_
      try simp only [Act.put, lpa, lpb, lpc]
      refine sk 18 rfl (by kernel_rfl) rfl HS ?_
      try simp only [Act.put, lpa, lpb, lpc]
      refine sk 19 rfl (by kernel_rfl) rfl HS ?_
      try simp only [Act.put, lpa, lpb, lpc]
      refine cl 20 rfl (by kernel_rfl) (fun K hK => ?_)
      go_simp
      refine hK.out _ _ ?s26_20 ?r26_20
      case s26_20 => (try dsimp only); exact HS
      case r26_20 =>
       clear HS
       intro HS
       clear hK K
       try simp only [Act.put, lpa, lpb, lpc]
       refine sk 21 rfl (by kernel_rfl) rfl HS ?_
       try simp only [Act.put, lpa, lpb, lpc]
       (refine tk (v := ?v26_22) 22 rfl (by kernel_rfl) rfl ?y26_22 HS ?_; case y26_22 => (intro w' hSw; (try dsimp only at hSw); go_simp <;> (with_reducible rfl)))
       try simp only [Act.put, lpa, lpb, lpc]
       refine wpAnyH_done (by kernel_rfl) ?_ _
       refine NoPanic.normal ?_
       go_wp2
       go_ret
       refine ⟨ret_bool ?_, hbw.trans (hal.trans HS.2.2.2.2.2.2)⟩
       exact (show filB fs f = false by unfold filB; rw [all_not hxk.out (show filAt fs f.attrs _ x = false by unfold filAt; rw [HP.out, hlv]; simp)]; rfl).symm
    ·
     have hk0 := hk
     rcases hcm with rfl | rfl
     ·
      have hk0 := hk
      have hk00 := hk
      go_wp2_with fail
      have hal := (Grew.refl wr).alloc (.cells #[.string x.name, .int .i64 x.val.kind, .int .i64 x.val.int, .string x.val.str] 165)
      have g0 : (wr.alloc (.cells #[.string x.name, .int .i64 x.val.kind, .int .i64 x.val.int, .string x.val.str] 165)).cell? ⟨wr.heap.size, 0, none⟩ = some (.string x.name) := by simp
      have g1 : (wr.alloc (.cells #[.string x.name, .int .i64 x.val.kind, .int .i64 x.val.int, .string x.val.str] 165)).cell? ⟨wr.heap.size, 1, none⟩ = some (.int .i64 x.val.kind) := by simp
      have g2 : (wr.alloc (.cells #[.string x.name, .int .i64 x.val.kind, .int .i64 x.val.int, .string x.val.str] 165)).cell? ⟨wr.heap.size, 2, none⟩ = some (.int .i64 x.val.int) := by simp
      have g3 : (wr.alloc (.cells #[.string x.name, .int .i64 x.val.kind, .int .i64 x.val.int, .string x.val.str] 165)).cell? ⟨wr.heap.size, 3, none⟩ = some (.string x.val.str) := by simp
      have ax4 := grew_cell hal ex4
      replace d0 := grew_cell hal d0
      refine wp_region_noPanic ?_
      refine wp_region_held_drew (S := (fun w' => (w'.cell? ⟨w.heap.size, 4, none⟩ = some (.slice (some ⟨b1, o1, none⟩) n ca) ∧ w'.cell? ⟨wr.heap.size, 0, none⟩ = some (.string x.name) ∧ w'.cell? ⟨wr.heap.size, 1, none⟩ = some (.int .i64 x.val.kind) ∧ w'.cell? ⟨wr.heap.size, 2, none⟩ = some (.int .i64 x.val.int) ∧ w'.cell? ⟨wr.heap.size, 3, none⟩ = some (.string x.val.str) ∧ w'.cell? ⟨b1, o1 + p * 4, none⟩ = some (.string y.name) ∧ Grew (wr.alloc (.cells #[.string x.name, .int .i64 x.val.kind, .int .i64 x.val.int, .string x.val.str] 165)) w'))) (by kernel_rfl) ?h27_S ?h27_r
      case h27_S => exact ⟨grew_cell (Grew.refl _).drew ax4, grew_cell (Grew.refl _).drew g0, grew_cell (Grew.refl _).drew g1, grew_cell (Grew.refl _).drew g2, grew_cell (Grew.refl _).drew g3, grew_cell (Grew.refl _).drew d0, (Grew.refl _).drew⟩
      case h27_r =>
       intro HS
       (refine tk (v := ?v27_0) 0 rfl (by kernel_rfl) rfl ?y27_0 HS ?_; case y27_0 => (intro w' hSw; (try dsimp only at hSw); go_simp <;> (with_reducible rfl)))
       try simp only [Act.put, lpa, lpb, lpc]
       (refine tk (v := ?v27_1) 1 rfl (by kernel_rfl) rfl ?y27_1 HS ?_; case y27_1 => (intro w' hSw; (try dsimp only at hSw); go_simp <;> (with_reducible rfl)))
       try simp only [Act.put, lpa, lpb, lpc]
       (refine tk (v := ?v27_2) 2 rfl (by kernel_rfl) rfl ?y27_2 HS ?_; case y27_2 => (intro w' hSw; (try dsimp only at hSw); go_simp <;> (with_reducible rfl)))
       try simp only [Act.put, lpa, lpb, lpc]
       (refine tk (v := ?v27_3) 3 rfl (by kernel_rfl) rfl ?y27_3 HS ?_; case y27_3 => (intro w' hSw; (try dsimp only at hSw); go_simp <;> (with_reducible rfl)))
       try simp only [Act.put, lpa, lpb, lpc]
       (refine tk (v := ?v27_4) 4 rfl (by kernel_rfl) rfl ?y27_4 HS ?_; case y27_4 => (intro w' hSw; (try dsimp only at hSw); go_simp <;> (with_reducible rfl)))
       try simp only [Act.put, lpa, lpb, lpc]
       (refine tk (v := ?v27_5) 5 rfl (by kernel_rfl) rfl ?y27_5 HS ?_; case y27_5 => (intro w' hSw; (try dsimp only at hSw); go_simp <;> (with_reducible rfl)))
       try simp only [Act.put, lpa, lpb, lpc]
       (refine tk (v := ?v27_6) 6 rfl (by kernel_rfl) rfl ?y27_6 HS ?_; case y27_6 => (intro w' hSw; (try dsimp only at hSw); go_simp <;> (with_reducible rfl)))
       try simp only [Act.put, lpa, lpb, lpc]
       (refine tk (v := ?v27_7) 7 rfl (by kernel_rfl) rfl ?y27_7 HS ?_; case y27_7 => (intro w' hSw; (try dsimp only at hSw); go_simp <;> (with_reducible rfl)))
       try simp only [Act.put, lpa, lpb, lpc]
       (refine tk (v := ?v27_8) 8 rfl (by kernel_rfl) rfl ?y27_8 HS ?_; case y27_8 => (intro w' hSw; (try dsimp only at hSw); go_simp <;> (with_reducible rfl)))
       try simp only [Act.put, lpa, lpb, lpc]
       (refine tk (v := ?v27_9) 9 rfl (by kernel_rfl) rfl ?y27_9 HS ?_; case y27_9 => (intro w' hSw; (try dsimp only at hSw); go_simp <;> (with_reducible rfl)))
       try simp only [Act.put, lpa, lpb, lpc]
       (refine tk (v := ?v27_10) 10 rfl (by kernel_rfl) rfl ?y27_10 HS ?_; case y27_10 => (intro w' hSw; (try dsimp only at hSw); go_simp <;> (with_reducible rfl)))
       try simp only [Act.put, lpa, lpb, lpc]
       (refine tk (v := ?v27_11) 11 rfl (by kernel_rfl) rfl ?y27_11 HS ?_; case y27_11 => (intro w' hSw; (try dsimp only at hSw); go_simp <;> (with_reducible rfl)))
       try simp only [Act.put, lpa, lpb, lpc]
       (refine tk (v := ?v27_12) 12 rfl (by kernel_rfl) rfl ?y27_12 HS ?_; case y27_12 => (intro w' hSw; (try dsimp only at hSw); go_simp <;> (with_reducible rfl)))
       try simp only [Act.put, lpa, lpb, lpc]
       (refine tk (v := ?v27_13) 13 rfl (by kernel_rfl) rfl ?y27_13 HS ?_; case y27_13 => (intro w' hSw; (try dsimp only at hSw); go_simp <;> (with_reducible rfl)))
       try simp only [Act.put, lpa, lpb, lpc]
       (refine tk (v := ?v27_14) 14 rfl (by kernel_rfl) rfl ?y27_14 HS ?_; case y27_14 => (intro w' hSw; (try dsimp only at hSw); go_simp <;> (with_reducible rfl)))
       try simp only [Act.put, lpa, lpb, lpc]
       (refine tk (v := ?v27_15) 15 rfl (by kernel_rfl) rfl ?y27_15 HS ?_; case y27_15 => (intro w' hSw; (try dsimp only at hSw); go_simp <;> (with_reducible rfl)))
       try simp only [Act.put, lpa, lpb, lpc]
       (refine tk (v := ?v27_16) 16 rfl (by kernel_rfl) rfl ?y27_16 HS ?_; case y27_16 => (intro w' hSw; (try dsimp only at hSw); go_simp <;> (with_reducible rfl)))
       try simp only [Act.put, lpa, lpb, lpc]
       (refine tk (v := ?v27_17) 17 rfl (by kernel_rfl) rfl ?y27_17 HS ?_; case y27_17 => (intro w' hSw; (try dsimp only at hSw); go_simp <;> (with_reducible rfl)))
       try simp only [Act.put, lpa, lpb, lpc]
       (refine tk (v := ?v27_18) 18 rfl (by kernel_rfl) rfl ?y27_18 HS ?_; case y27_18 => (intro w' hSw; (try dsimp only at hSw); go_simp <;> (with_reducible rfl)))
       try simp only [Act.put, lpa, lpb, lpc]
       (refine tk (v := ?v27_19) 19 rfl (by kernel_rfl) rfl ?y27_19 HS ?_; case y27_19 => (intro w' hSw; (try dsimp only at hSw); go_simp <;> (with_reducible rfl)))
       try simp only [Act.put, lpa, lpb, lpc]
       refine cl 20 rfl (by kernel_rfl) (fun K hK => ?_)
       go_simp
       go_at_call 219
       refine (implMatchesSchema _ m fs x.name x.val _ (HS0.out.grew (hbw.trans (hal.trans HS.2.2.2.2.2.2))) hx hs2).mono ?_
       rintro e w1 ⟨he, hb⟩
       rw [HM.out] at he
       subst he
       refine hK.out _ _ ?s27_20 ?r27_20
       case s27_20 => (try dsimp only); first | exact HS | exact ⟨grew_cell hb HS.1, grew_cell hb HS.2.1, grew_cell hb HS.2.2.1, grew_cell hb HS.2.2.2.1, grew_cell hb HS.2.2.2.2.1, grew_cell hb HS.2.2.2.2.2.1, HS.2.2.2.2.2.2.trans hb⟩
       case r27_20 =>
        clear HS
        intro HS
        clear hK K
        try simp only [Act.put, lpa, lpb, lpc]
        (refine tk (v := ?v27_21) 21 rfl (by kernel_rfl) rfl ?y27_21 HS ?_; case y27_21 => (intro w' hSw; (try dsimp only at hSw); go_simp <;> (with_reducible rfl)))
        try simp only [Act.put, lpa, lpb, lpc]
        (refine tk (v := ?v27_22) 22 rfl (by kernel_rfl) rfl ?y27_22 HS ?_; case y27_22 => (intro w' hSw; (try dsimp only at hSw); go_simp <;> (with_reducible rfl)))
        try simp only [Act.put, lpa, lpb, lpc]
        refine wpAnyH_done (by kernel_rfl) ?_ _
        refine NoPanic.normal ?_
        go_wp2
        go_ret
        refine ⟨ret_bool ?_, hbw.trans (hal.trans HS.2.2.2.2.2.2)⟩
        exact (show filB fs f = false by unfold filB; rw [all_not hxk.out (show filAt fs f.attrs _ x = false by unfold filAt; rw [HM.out]; simp)]; rfl).symm
     ·
      have hk0 := hk
      have hk00 := hk
      go_wp2_with fail
      have hal := (Grew.refl wr).alloc (.cells #[.string x.name, .int .i64 x.val.kind, .int .i64 x.val.int, .string x.val.str] 165)
      have g0 : (wr.alloc (.cells #[.string x.name, .int .i64 x.val.kind, .int .i64 x.val.int, .string x.val.str] 165)).cell? ⟨wr.heap.size, 0, none⟩ = some (.string x.name) := by simp
      have g1 : (wr.alloc (.cells #[.string x.name, .int .i64 x.val.kind, .int .i64 x.val.int, .string x.val.str] 165)).cell? ⟨wr.heap.size, 1, none⟩ = some (.int .i64 x.val.kind) := by simp
      have g2 : (wr.alloc (.cells #[.string x.name, .int .i64 x.val.kind, .int .i64 x.val.int, .string x.val.str] 165)).cell? ⟨wr.heap.size, 2, none⟩ = some (.int .i64 x.val.int) := by simp
      have g3 : (wr.alloc (.cells #[.string x.name, .int .i64 x.val.kind, .int .i64 x.val.int, .string x.val.str] 165)).cell? ⟨wr.heap.size, 3, none⟩ = some (.string x.val.str) := by simp
      have ax4 := grew_cell hal ex4
      replace d0 := grew_cell hal d0
      refine wp_region_noPanic ?_
      refine wp_region_held_drew (S := (fun w' => (w'.cell? ⟨w.heap.size, 4, none⟩ = some (.slice (some ⟨b1, o1, none⟩) n ca) ∧ w'.cell? ⟨wr.heap.size, 0, none⟩ = some (.string x.name) ∧ w'.cell? ⟨wr.heap.size, 1, none⟩ = some (.int .i64 x.val.kind) ∧ w'.cell? ⟨wr.heap.size, 2, none⟩ = some (.int .i64 x.val.int) ∧ w'.cell? ⟨wr.heap.size, 3, none⟩ = some (.string x.val.str) ∧ w'.cell? ⟨b1, o1 + p * 4, none⟩ = some (.string y.name) ∧ Grew (wr.alloc (.cells #[.string x.name, .int .i64 x.val.kind, .int .i64 x.val.int, .string x.val.str] 165)) w'))) (by kernel_rfl) ?h28_S ?h28_r
      case h28_S => exact ⟨grew_cell (Grew.refl _).drew ax4, grew_cell (Grew.refl _).drew g0, grew_cell (Grew.refl _).drew g1, grew_cell (Grew.refl _).drew g2, grew_cell (Grew.refl _).drew g3, grew_cell (Grew.refl _).drew d0, (Grew.refl _).drew⟩
      case h28_r =>
       intro HS
       (refine tk (v := ?v28_0) 0 rfl (by kernel_rfl) rfl ?y28_0 HS ?_; case y28_0 => (intro w' hSw; (try dsimp only at hSw); go_simp <;> (with_reducible rfl)))
       try simp only [Act.put, lpa, lpb, lpc]
       (refine tk (v := ?v28_1) 1 rfl (by kernel_rfl) rfl ?y28_1 HS ?_; case y28_1 => (intro w' hSw; (try dsimp only at hSw); go_simp <;> (with_reducible rfl)))
       try simp only [Act.put, lpa, lpb, lpc]
       (refine tk (v := ?v28_2) 2 rfl (by kernel_rfl) rfl ?y28_2 HS ?_; case y28_2 => (intro w' hSw; (try dsimp only at hSw); go_simp <;> (with_reducible rfl)))
       try simp only [Act.put, lpa, lpb, lpc]
       (refine tk (v := ?v28_3) 3 rfl (by kernel_rfl) rfl ?y28_3 HS ?_; case y28_3 => (intro w' hSw; (try dsimp only at hSw); go_simp <;> (with_reducible rfl)))
       try simp only [Act.put, lpa, lpb, lpc]
       (refine tk (v := ?v28_4) 4 rfl (by kernel_rfl) rfl ?y28_4 HS ?_; case y28_4 => (intro w' hSw; (try dsimp only at hSw); go_simp <;> (with_reducible rfl)))
       try simp only [Act.put, lpa, lpb, lpc]
       (refine tk (v := ?v28_5) 5 rfl (by kernel_rfl) rfl ?y28_5 HS ?_; case y28_5 => (intro w' hSw; (try dsimp only at hSw); go_simp <;> (with_reducible rfl)))
       try simp only [Act.put, lpa, lpb, lpc]
       (refine tk (v := ?v28_6) 6 rfl (by kernel_rfl) rfl ?y28_6 HS ?_; case y28_6 => (intro w' hSw; (try dsimp only at hSw); go_simp <;> (with_reducible rfl)))
       try simp only [Act.put, lpa, lpb, lpc]
       (refine tk (v := ?v28_7) 7 rfl (by kernel_rfl) rfl ?y28_7 HS ?_; case y28_7 => (intro w' hSw; (try dsimp only at hSw); go_simp <;> (with_reducible rfl)))
       try simp only [Act.put, lpa, lpb, lpc]
       (refine tk (v := ?v28_8) 8 rfl (by kernel_rfl) rfl ?y28_8 HS ?_; case y28_8 => (intro w' hSw; (try dsimp only at hSw); go_simp <;> (with_reducible rfl)))
       try simp only [Act.put, lpa, lpb, lpc]
       (refine tk (v := ?v28_9) 9 rfl (by kernel_rfl) rfl ?y28_9 HS ?_; case y28_9 => (intro w' hSw; (try dsimp only at hSw); go_simp <;> (with_reducible rfl)))
       try simp only [Act.put, lpa, lpb, lpc]
       (refine tk (v := ?v28_10) 10 rfl (by kernel_rfl) rfl ?y28_10 HS ?_; case y28_10 => (intro w' hSw; (try dsimp only at hSw); go_simp <;> (with_reducible rfl)))
       try simp only [Act.put, lpa, lpb, lpc]
       (refine tk (v := ?v28_11) 11 rfl (by kernel_rfl) rfl ?y28_11 HS ?_; case y28_11 => (intro w' hSw; (try dsimp only at hSw); go_simp <;> (with_reducible rfl)))
       try simp only [Act.put, lpa, lpb, lpc]
       (refine tk (v := ?v28_12) 12 rfl (by kernel_rfl) rfl ?y28_12 HS ?_; case y28_12 => (intro w' hSw; (try dsimp only at hSw); go_simp <;> (with_reducible rfl)))
       try simp only [Act.put, lpa, lpb, lpc]
       (refine tk (v := ?v28_13) 13 rfl (by kernel_rfl) rfl ?y28_13 HS ?_; case y28_13 => (intro w' hSw; (try dsimp only at hSw); go_simp <;> (with_reducible rfl)))
       try simp only [Act.put, lpa, lpb, lpc]
       (refine tk (v := ?v28_14) 14 rfl (by kernel_rfl) rfl ?y28_14 HS ?_; case y28_14 => (intro w' hSw; (try dsimp only at hSw); go_simp <;> (with_reducible rfl)))
       try simp only [Act.put, lpa, lpb, lpc]
       (refine tk (v := ?v28_15) 15 rfl (by kernel_rfl) rfl ?y28_15 HS ?_; case y28_15 => (intro w' hSw; (try dsimp only at hSw); go_simp <;> (with_reducible rfl)))
       try simp only [Act.put, lpa, lpb, lpc]
       (refine tk (v := ?v28_16) 16 rfl (by kernel_rfl) rfl ?y28_16 HS ?_; case y28_16 => (intro w' hSw; (try dsimp only at hSw); go_simp <;> (with_reducible rfl)))
       try simp only [Act.put, lpa, lpb, lpc]
       (refine tk (v := ?v28_17) 17 rfl (by kernel_rfl) rfl ?y28_17 HS ?_; case y28_17 => (intro w' hSw; (try dsimp only at hSw); go_simp <;> (with_reducible rfl)))
       try simp only [Act.put, lpa, lpb, lpc]
       (refine tk (v := ?v28_18) 18 rfl (by kernel_rfl) rfl ?y28_18 HS ?_; case y28_18 => (intro w' hSw; (try dsimp only at hSw); go_simp <;> (with_reducible rfl)))
       try simp only [Act.put, lpa, lpb, lpc]
       (refine tk (v := ?v28_19) 19 rfl (by kernel_rfl) rfl ?y28_19 HS ?_; case y28_19 => (intro w' hSw; (try dsimp only at hSw); go_simp <;> (with_reducible rfl)))
       try simp only [Act.put, lpa, lpb, lpc]
       refine cl 20 rfl (by kernel_rfl) (fun K hK => ?_)
       go_simp
       go_at_call 219
       refine (implMatchesSchema _ m fs x.name x.val _ (HS0.out.grew (hbw.trans (hal.trans HS.2.2.2.2.2.2))) hx hs2).mono ?_
       rintro e w1 ⟨he, hb⟩
       rw [HM.out] at he
       subst he
       refine hK.out _ _ ?s28_20 ?r28_20
       case s28_20 => (try dsimp only); first | exact HS | exact ⟨grew_cell hb HS.1, grew_cell hb HS.2.1, grew_cell hb HS.2.2.1, grew_cell hb HS.2.2.2.1, grew_cell hb HS.2.2.2.2.1, grew_cell hb HS.2.2.2.2.2.1, HS.2.2.2.2.2.2.trans hb⟩
       case r28_20 =>
        clear HS
        intro HS
        clear hK K
        try simp only [Act.put, lpa, lpb, lpc]
        (refine tk (v := ?v28_21) 21 rfl (by kernel_rfl) rfl ?y28_21 HS ?_; case y28_21 => (intro w' hSw; (try dsimp only at hSw); go_simp <;> (with_reducible rfl)))
        try simp only [Act.put, lpa, lpb, lpc]
        (refine tk (v := ?v28_22) 22 rfl (by kernel_rfl) rfl ?y28_22 HS ?_; case y28_22 => (intro w' hSw; (try dsimp only at hSw); go_simp <;> (with_reducible rfl)))
        try simp only [Act.put, lpa, lpb, lpc]
        refine wpAnyH_done (by kernel_rfl) ?_ _
        refine NoPanic.normal ?_
        go_wp2
        go_roundw
        case rel => exact ⟨p + 1 + 1, by omega, by go_num, Lib.hid (upTo_snoc hsame.out hxk.out (by show filAt fs f.attrs _ x = true; unfold filAt; rw [HM.out, HP.out, hlv]; rfl)), hbel.trans (hal.trans HS.2.2.2.2.2.2)⟩
        case measure => simp [intOf]; omega
  ·
   obtain rfl : k = n := by omega
   have hy := Lib.hid (all_up HX.out hsame.out)
   have ex0 := grew_cell hbel x0
   have ex1 := grew_cell hbel x1
   have ex3 := grew_cell hbel x3
   have ex4 := grew_cell hbel x4
   have hc_bi : bi = false ∨ bi = true := by cases bi <;> simp
   have hc_bo : bo = false ∨ bo = true := by cases bo <;> simp
   have hc_bl : bl = false ∨ bl = true := by cases bl <;> simp
   have hc_bs : bs = false ∨ bs = true := by cases bs <;> simp
   rcases hc_bi with rfl | rfl
   ·
    have hk0 := hk
    go_wp2_with (first | (go_at_call 177; refine (within _ _ _ _).mono ?_; rintro e w' ⟨he, rfl⟩; (first | rw [HI.out] at he | rw [HL.out] at he); subst he) | (go_at_call 124; refine (implIsUser _ _).mono ?_; rintro e w' ⟨he, rfl⟩; rw [HO.out] at he; subst he) | (go_at_call 176; refine (implIsValidSchema _ m fs _ (HS0.out.grew hbw) hx hzs).mono ?_; rintro e w9 ⟨he, hb9⟩; rw [HC.out] at he; subst he))
    go_ret
    refine ⟨ret_bool ?_, by first | exact hbw.trans hb9 | exact hbw⟩
    unfold filB; rw [hy.out, HI.out, HO.out, HL.out, HC.out]; simp
   ·
    have hk0 := hk
    rcases hc_bo with rfl | rfl
    ·
     have hk0 := hk
     go_wp2_with (first | (go_at_call 177; refine (within _ _ _ _).mono ?_; rintro e w' ⟨he, rfl⟩; (first | rw [HI.out] at he | rw [HL.out] at he); subst he) | (go_at_call 124; refine (implIsUser _ _).mono ?_; rintro e w' ⟨he, rfl⟩; rw [HO.out] at he; subst he) | (go_at_call 176; refine (implIsValidSchema _ m fs _ (HS0.out.grew hbw) hx hzs).mono ?_; rintro e w9 ⟨he, hb9⟩; rw [HC.out] at he; subst he))
     go_ret
     refine ⟨ret_bool ?_, by first | exact hbw.trans hb9 | exact hbw⟩
     unfold filB; rw [hy.out, HI.out, HO.out, HL.out, HC.out]; simp
    ·
     have hk0 := hk
     rcases hc_bl with rfl | rfl
     ·
      have hk0 := hk
      go_wp2_with (first | (go_at_call 177; refine (within _ _ _ _).mono ?_; rintro e w' ⟨he, rfl⟩; (first | rw [HI.out] at he | rw [HL.out] at he); subst he) | (go_at_call 124; refine (implIsUser _ _).mono ?_; rintro e w' ⟨he, rfl⟩; rw [HO.out] at he; subst he) | (go_at_call 176; refine (implIsValidSchema _ m fs _ (HS0.out.grew hbw) hx hzs).mono ?_; rintro e w9 ⟨he, hb9⟩; rw [HC.out] at he; subst he))
      go_ret
      refine ⟨ret_bool ?_, by first | exact hbw.trans hb9 | exact hbw⟩
      unfold filB; rw [hy.out, HI.out, HO.out, HL.out, HC.out]; simp
     ·
      have hk0 := hk
      rcases hc_bs with rfl | rfl
      ·
       have hk0 := hk
       go_wp2_with (first | (go_at_call 177; refine (within _ _ _ _).mono ?_; rintro e w' ⟨he, rfl⟩; (first | rw [HI.out] at he | rw [HL.out] at he); subst he) | (go_at_call 124; refine (implIsUser _ _).mono ?_; rintro e w' ⟨he, rfl⟩; rw [HO.out] at he; subst he) | (go_at_call 176; refine (implIsValidSchema _ m fs _ (HS0.out.grew hbw) hx hzs).mono ?_; rintro e w9 ⟨he, hb9⟩; rw [HC.out] at he; subst he))
       go_ret
       refine ⟨ret_bool ?_, by first | exact hbw.trans hb9 | exact hbw⟩
       unfold filB; rw [hy.out, HI.out, HO.out, HL.out, HC.out]; simp
      ·
       have hk0 := hk
       go_wp2_with (first | (go_at_call 177; refine (within _ _ _ _).mono ?_; rintro e w' ⟨he, rfl⟩; (first | rw [HI.out] at he | rw [HL.out] at he); subst he) | (go_at_call 124; refine (implIsUser _ _).mono ?_; rintro e w' ⟨he, rfl⟩; rw [HO.out] at he; subst he) | (go_at_call 176; refine (implIsValidSchema _ m fs _ (HS0.out.grew hbw) hx hzs).mono ?_; rintro e w9 ⟨he, hb9⟩; rw [HC.out] at he; subst he))
       go_ret
       refine ⟨ret_bool ?_, by first | exact hbw.trans hb9 | exact hbw⟩
       unfold filB; rw [hy.out, HI.out, HO.out, HL.out, HC.out]; simp
end Go.Proofs.YtejgpghcahinhaaGreat
