/- Texts B1, as far as they are needed. -/
import Derived.Test.YtemikjbfjhebnaaGreatNi0
import Derived.Test.YtemikjbfjhebnaaGreatNi1
namespace Go.Proofs.YtemikjbfjhebnaaGreat
open Go.RowKit
set_option linter.unusedVariables false
def prevOk {α : Type} (lt : α → α → Bool) (xs : List α) (i : Nat) (x : α) : Bool := match i with
  | 0 => true
  | j + 1 => match xs[j]? with
    | some y => lt y x
    | none => true
theorem prevOk_succ {α : Type} {lt : α → α → Bool} {xs : List α} {p : Nat} {x y : α} (h : xs[p]? = some y) : prevOk lt xs (p + 1) x = lt y x := by unfold prevOk; simp only; rw [h]
def allFrom {α : Type} (f : Nat → α → Bool) : Nat → List α → Bool
  | _, [] => true
  | i, x :: xs => f i x && allFrom f (i + 1) xs
theorem allFrom_no {α : Type} {f : Nat → α → Bool} : ∀ {xs : List α} {i k : Nat} {x : α}, xs[k]? = some x → f (i + k) x = false → allFrom f i xs = false
  | [], i, k, x, h, _ => by simp at h
  | y :: ys, i, 0, x, h, hf => by
    obtain rfl : y = x := by simpa using h
    unfold allFrom; rw [show f i y = false from hf]; rfl
  | y :: ys, i, k + 1, x, h, hf => by
    unfold allFrom
    rw [allFrom_no (xs := ys) (i := i + 1) (k := k) (x := x) (by simpa using h) (by rw [show i + 1 + k = i + (k + 1) by omega]; exact hf)]; simp
theorem allFrom_yes {α : Type} {f : Nat → α → Bool} : ∀ {xs : List α} {i : Nat}, (∀ (k : Nat) x, xs[k]? = some x → f (i + k) x = true) → allFrom f i xs = true
  | [], i, _ => rfl
  | y :: ys, i, h => by
    unfold allFrom
    rw [show f i y = true from h 0 y rfl, allFrom_yes (xs := ys) (i := i + 1) (fun k x hx => by rw [show i + 1 + k = i + (k + 1) by omega]; exact h (k + 1) x (by simpa using hx))]; rfl
def upTo {α : Type} (f : Nat → α → Bool) (xs : List α) (k : Nat) : Prop := ∀ (j : Nat) y, j < k → xs[j]? = some y → f j y = true
theorem upTo_zero {α : Type} (f : Nat → α → Bool) (xs : List α) : upTo f xs 0 := fun j y h => absurd h (Nat.not_lt_zero j)
theorem upTo_snoc {α : Type} {f : Nat → α → Bool} {xs : List α} {k : Nat} {x : α} (h : upTo f xs k) (hx : xs[k]? = some x) (hn : f k x = true) : upTo f xs (k + 1) := fun j y hj hy => by
  rcases Nat.lt_succ_iff_lt_or_eq.1 hj with h1 | rfl
  · exact h j y h1 hy
  · obtain rfl := Option.some.inj (hx.symm.trans hy); exact hn
theorem all_up {α : Type} {f : Nat → α → Bool} {xs : List α} {n : Nat} (hn : xs.length = n) (h : upTo f xs n) : allFrom f 0 xs = true :=
  allFrom_yes fun k x hx => by rw [Nat.zero_add]; exact h k x (by have := (List.getElem?_eq_some_iff.1 hx).1; omega) hx
theorem all_not {α : Type} {f : Nat → α → Bool} {xs : List α} {k : Nat} {x : α} (hx : xs[k]? = some x) (h : f k x = false) : allFrom f 0 xs = false := allFrom_no hx (by rw [Nat.zero_add]; exact h)
noncomputable def schAt (xs : List Fd) (i : Nat) (x : Fd) : Bool := txtB x.name 1 && (inB x.kind 1 2 && prevOk (fun y x => Op.bytesLess y.name.toList x.name.toList) xs i x)
noncomputable def schB (xs : List Fd) : Bool := allFrom (schAt xs) 0 xs && decide (xs.length ≤ 5)
def fkK : List Fd → ByteArray → Int
  | [], _ => 0
  | x :: xs, s => if x.name.toList == s.toList then x.kind else fkK xs s
theorem fk_yes : ∀ {xs : List Fd} {s : ByteArray} {k : Nat} {x : Fd}, (∀ (j : Nat) y, j < k → xs[j]? = some y → (y.name.toList == s.toList) = false) → xs[k]? = some x → (x.name.toList == s.toList) = true → fkK xs s = x.kind
  | [], s, k, x, _, h, _ => by simp at h
  | y :: ys, s, 0, x, _, h, h2 => by
    simp at h; subst h; unfold fkK; rw [h2]; rfl
  | y :: ys, s, k + 1, x, h1, h, h2 => by
    have h3 := h1 0 y (Nat.succ_pos k) rfl
    unfold fkK; rw [h3]
    exact fk_yes (k := k) (fun j z hj hz => h1 (j + 1) z (Nat.succ_lt_succ hj) (by simpa using hz)) (by simpa using h) h2
theorem fk_no : ∀ {xs : List Fd} {s : ByteArray}, (∀ (j : Nat) y, j < xs.length → xs[j]? = some y → (y.name.toList == s.toList) = false) → fkK xs s = 0
  | [], s, _ => rfl
  | y :: ys, s, h1 => by
    have h3 := h1 0 y (by simp) rfl
    unfold fkK; rw [h3]
    exact fk_no (fun j z hj hz => h1 (j + 1) z (by simpa using hj) (by simpa using hz))
noncomputable def mscB (fs : List Fd) (s : ByteArray) (v : V) : Bool := valB v && ((v.kind != 0) && (v.kind == fkK fs s))
noncomputable def filAt (fs : List Fd) (xs : List At) (i : Nat) (x : At) : Bool := mscB fs x.name x.val && prevOk (fun y x => Op.bytesLess y.name.toList x.name.toList) xs i x
noncomputable def filB (fs : List Fd) (f : Fl) : Bool := allFrom (filAt fs f.attrs) 0 f.attrs && (schB fs && (inB f.id 1 60 && (inB f.owner 0 2 && inB f.link 0 60)))
noncomputable def stoAt (s : St) (i : Nat) (f : Fl) : Bool := filB s.schema f && (decide (f.id < s.next) && prevOk (fun y x => decide (y.id < x.id)) s.files i f)
noncomputable def stoB (s : St) : Bool := allFrom (stoAt s) 0 s.files && (schB s.schema && (decide (s.files.length ≤ 12) && inB s.next 1 61))
theorem fd_sz {xs : List Fd} {x : Fd} {i : Nat} (hz : szAll Fd.sz xs ≤ 4000000) (h : xs[i]? = some x) : x.name.size ≤ 4000000 := by
  have h1 := mem_szAll (f := Fd.sz) (List.mem_of_getElem? h)
  unfold Fd.sz at h1 hz
  omega
theorem at_sz {xs : List At} {x : At} {i : Nat} (hz : szAll At.sz xs ≤ 4000000) (h : xs[i]? = some x) : x.name.size ≤ 4000000 ∧ x.val.str.size ≤ 4000000 := by
  have h1 := mem_szAll (f := At.sz) (List.mem_of_getElem? h)
  unfold At.sz V.sz at h1 hz
  constructor <;> omega
theorem fl_sz {xs : List Fl} {x : Fl} {i : Nat} (hz : szAll Fl.sz xs ≤ 4000000) (h : xs[i]? = some x) : x.sz ≤ 4000000 := Nat.le_trans (mem_szAll (f := Fl.sz) (List.mem_of_getElem? h)) hz
theorem in12 {k : Int} : inB k 1 2 = ((k == 1) || (k == 2)) := by
  unfold inB
  rw [Bool.eq_iff_iff]
  simp
  omega
set_option maxRecDepth 100000 in
set_option maxHeartbeats 1000000 in
theorem specFieldKind (va : Value) (n : Nat) (xs : List Fd) (s : ByteArray) (w : World) (ha : Rd w va 2 n (rows Fd.c xs)) (hx : n ≤ 4000000) :
  Calls Tryz.prog 74 #[va, .string s] w fun e w' => e = .returned (.int .i64 (fkK xs s)) ∧ Grew w w' := by
 obtain ⟨a, ca, rfl, hca, hra⟩ := ha
 have HX := Lib.hid (hra.len_rows Fd.len (by decide))
 go_enter Tryz.func74, Tryz.ntmps74
 go_wp2
 go_loopw [5] (fun i wr => ∃ k : Nat, k ≤ n ∧ i = .int .i64 k ∧ Hid (∀ (j : Nat) y, j < k → xs[j]? = some y → (y.name.toList == s.toList) = false) ∧ Grew w wr) (fun i _ => n - (intOf i).toNat)
 case atStart => exact ⟨0, Nat.zero_le _, rfl, Lib.hid (fun j y h => absurd h (Nat.not_lt_zero j)), Grew.refl _⟩
 case round =>
  obtain ⟨k, hk, rfl, hall, hbel⟩ := hrel
  by_cases hlt : k < n
  ·
   obtain ⟨b1, o1, x, rfl, hxk, c0, c1⟩ := (hra.grew hbel).getFd hlt
   have hcs : (x.name.toList == s.toList) = true ∨ (x.name.toList == s.toList) = false := by cases x.name.toList == s.toList <;> simp
   rcases hcs with hn | hn
   ·
    go_wp2
    go_ret
    exact ⟨ret_int (fk_yes hall.out hxk.out hn).symm, hbel⟩
   ·
    go_wp2
    go_roundw
    case rel => exact ⟨k + 1, by omega, by go_num, Lib.hid (fun j y hj hy => by
     rcases Nat.lt_succ_iff_lt_or_eq.1 hj with h1 | rfl
     ·
      exact hall.out j y h1 hy
     ·
      obtain rfl := Option.some.inj (hxk.out.symm.trans hy); exact hn), hbel⟩
    case measure => simp [intOf]; omega
  ·
   obtain rfl : k = n := by omega
   go_wp2
   go_ret
   exact ⟨ret_int (fk_no (fun j y h h2 => hall.out j y (by rw [← HX.out]; exact h) h2)).symm, hbel⟩
set_option maxRecDepth 100000 in
set_option maxHeartbeats 1000000 in
theorem implFieldKind (va : Value) (n : Nat) (xs : List Fd) (s : ByteArray) (w : World) (ha : Rd w va 2 n (rows Fd.c xs)) (hx : n ≤ 4000000) :
  Calls Tryz.prog 105 #[va, .string s] w fun e w' => e = .returned (.int .i64 (fkK xs s)) ∧ Grew w w' := by
 obtain ⟨a, ca, rfl, hca, hra⟩ := ha
 have HX := Lib.hid (hra.len_rows Fd.len (by decide))
 go_enter Tryz.func105, Tryz.ntmps105
 go_wp2
 go_loopw [9] (fun i wr => ∃ k : Nat, k ≤ n ∧ i = .int .i64 k ∧ Hid (∀ (j : Nat) y, j < k → xs[j]? = some y → (y.name.toList == s.toList) = false) ∧ Grew w wr) (fun i _ => n - (intOf i).toNat)
 case atStart => exact ⟨0, Nat.zero_le _, rfl, Lib.hid (fun j y h => absurd h (Nat.not_lt_zero j)), Grew.refl _⟩
 case round =>
  obtain ⟨k, hk, rfl, hall, hbel⟩ := hrel
  by_cases hlt : k < n
  ·
   obtain ⟨b1, o1, x, rfl, hxk, c0, c1⟩ := (hra.grew hbel).getFd hlt
   have hcs : (x.name.toList == s.toList) = true ∨ (x.name.toList == s.toList) = false := by cases x.name.toList == s.toList <;> simp
   rcases hcs with hn | hn
   ·
    go_wp2
    go_ret
    exact ⟨ret_int (fk_yes hall.out hxk.out hn).symm, hbel.alloc _⟩
   ·
    go_wp2
    go_roundw
    case rel => exact ⟨k + 1, by omega, by go_num, Lib.hid (fun j y hj hy => by
     rcases Nat.lt_succ_iff_lt_or_eq.1 hj with h1 | rfl
     ·
      exact hall.out j y h1 hy
     ·
      obtain rfl := Option.some.inj (hxk.out.symm.trans hy); exact hn), hbel.alloc _⟩
    case measure => simp [intOf]; omega
  ·
   obtain rfl : k = n := by omega
   go_wp2
   go_ret
   exact ⟨ret_int (fk_no (fun j y h h2 => hall.out j y (by rw [← HX.out]; exact h) h2)).symm, hbel⟩
set_option maxRecDepth 100000 in
set_option maxHeartbeats 2000000 in
theorem specMatchesSchema (va : Value) (n : Nat) (xs : List Fd) (s : ByteArray) (v : V) (w : World) (ha : Rd w va 2 n (rows Fd.c xs)) (hx : n ≤ 4000000) (hs : v.str.size ≤ 4000000) :
  Calls Tryz.prog 48 #[va, .string s, v.v] w fun e w' => e = .returned (.bool (mscB xs s v)) ∧ Grew w w' := by
 have HA := Lib.hid ha
 obtain ⟨a, ca, rfl, hca, hra⟩ := ha
 clear hra
 obtain ⟨bv, hbv⟩ : ∃ b, valB v = b := ⟨_, rfl⟩
 have HV := Lib.hid hbv
 clear hbv
 have hcv : bv = false ∨ bv = true := by cases bv <;> simp
 have hck : (v.kind == 0) = true ∨ (v.kind == 0) = false := by cases v.kind == 0 <;> simp
 have hal := (Grew.refl w).alloc (.cells #[.int .i64 v.kind, .int .i64 v.int, .string v.str] 68)
 rcases hcv with rfl | rfl
 ·
  have hk0 := hx
  have k0 : (w.alloc (.cells #[.int .i64 v.kind, .int .i64 v.int, .string v.str] 68)).cell? ⟨w.heap.size, 0, none⟩ = some (.int .i64 v.kind) := by simp
  have k1 : (w.alloc (.cells #[.int .i64 v.kind, .int .i64 v.int, .string v.str] 68)).cell? ⟨w.heap.size, 1, none⟩ = some (.int .i64 v.int) := by simp
  have k2 : (w.alloc (.cells #[.int .i64 v.kind, .int .i64 v.int, .string v.str] 68)).cell? ⟨w.heap.size, 2, none⟩ = some (.string v.str) := by simp
  go_enter Tryz.func48, Tryz.ntmps48
  go_wp2_with fail
  refine wp_region_noPanic ?_
  refine wp_region_held_drew (S := (fun w' => (w'.cell? ⟨w.heap.size, 0, none⟩ = some (.int .i64 v.kind) ∧ w'.cell? ⟨w.heap.size, 1, none⟩ = some (.int .i64 v.int) ∧ w'.cell? ⟨w.heap.size, 2, none⟩ = some (.string v.str) ∧ Grew (w.alloc (.cells #[.int .i64 v.kind, .int .i64 v.int, .string v.str] 68)) w'))) (by kernel_rfl) ?h1_S ?h1_r
  case h1_S => exact ⟨grew_cell (Grew.refl _).drew k0, grew_cell (Grew.refl _).drew k1, grew_cell (Grew.refl _).drew k2, (Grew.refl _).drew⟩
  case h1_r =>
   intro HS
   refine tk' 0 HS ?_
   refine cl' 1 fun K hK => ?_
   go_simp
   go_at_call 73
   refine (specIsValidValue v _ hs).mono ?_
   rintro e w1 ⟨he, hb⟩
   rw [HV.out] at he
   subst he
   refine hK.out _ _ ?s1_1 ?r1_1
   case s1_1 => (try dsimp only); exact ⟨grew_cell hb HS.1, grew_cell hb HS.2.1, grew_cell hb HS.2.2.1, HS.2.2.2.trans hb⟩
   case r1_1 =>
    clear HS hK K; intro HS
    try simp only [Act.put, lpa, lpb, lpc]
    refine tk' 2 HS ?_
    refine sk' 3 HS ?_
    refine sk' 4 HS ?_
    refine sk' 5 HS ?_
    refine tk' 6 HS ?_
    refine tk' 7 HS ?_
    refine sk' 8 HS ?_
    refine sk' 9 HS ?_
    refine sk' 10 HS ?_
    refine sk' 11 HS ?_
    refine cl' 12 fun K hK => ?_
    go_simp
    refine hK.out _ _ HS ?r1_12
    case r1_12 =>
     clear HS hK K; intro HS
     try simp only [Act.put, lpa, lpb, lpc]
     refine sk' 13 HS ?_
     refine tk' 14 HS ?_
     refine tk' 15 HS ?_
     refine wpAnyH_done (by kernel_rfl) ?_ _
     refine NoPanic.normal ?_
     go_wp2
     go_ret
     refine ⟨ret_bool ?_, hal.trans HS.2.2.2⟩
     unfold mscB; rw [HV.out]; simp
 ·
  rcases hck with hk | hk
  ·
   have hk0 := hx
   have hk2 : (v.kind != 0) = false := by unfold bne; rw [hk]; rfl
   have k0 : (w.alloc (.cells #[.int .i64 v.kind, .int .i64 v.int, .string v.str] 68)).cell? ⟨w.heap.size, 0, none⟩ = some (.int .i64 v.kind) := by simp
   have k1 : (w.alloc (.cells #[.int .i64 v.kind, .int .i64 v.int, .string v.str] 68)).cell? ⟨w.heap.size, 1, none⟩ = some (.int .i64 v.int) := by simp
   have k2 : (w.alloc (.cells #[.int .i64 v.kind, .int .i64 v.int, .string v.str] 68)).cell? ⟨w.heap.size, 2, none⟩ = some (.string v.str) := by simp
   go_enter Tryz.func48, Tryz.ntmps48
   go_wp2_with fail
   refine wp_region_noPanic ?_
   refine wp_region_held_drew (S := (fun w' => (w'.cell? ⟨w.heap.size, 0, none⟩ = some (.int .i64 v.kind) ∧ w'.cell? ⟨w.heap.size, 1, none⟩ = some (.int .i64 v.int) ∧ w'.cell? ⟨w.heap.size, 2, none⟩ = some (.string v.str) ∧ Grew (w.alloc (.cells #[.int .i64 v.kind, .int .i64 v.int, .string v.str] 68)) w'))) (by kernel_rfl) ?h2_S ?h2_r
   case h2_S => exact ⟨grew_cell (Grew.refl _).drew k0, grew_cell (Grew.refl _).drew k1, grew_cell (Grew.refl _).drew k2, (Grew.refl _).drew⟩
   case h2_r =>
    intro HS
    refine tk' 0 HS ?_
    refine cl' 1 fun K hK => ?_
    go_simp
    go_at_call 73
    refine (specIsValidValue v _ hs).mono ?_
    rintro e w1 ⟨he, hb⟩
    rw [HV.out] at he
    subst he
    refine hK.out _ _ ?s2_1 ?r2_1
    case s2_1 => (try dsimp only); exact ⟨grew_cell hb HS.1, grew_cell hb HS.2.1, grew_cell hb HS.2.2.1, HS.2.2.2.trans hb⟩
    case r2_1 =>
     clear HS hK K; intro HS
     try simp only [Act.put, lpa, lpb, lpc]
     refine tk' 2 HS ?_
     refine tk' 3 HS ?_
     refine tk' 4 HS ?_
     refine tk' 5 HS ?_
     refine tk' 6 HS ?_
     refine tk' 7 HS ?_
     refine sk' 8 HS ?_
     refine sk' 9 HS ?_
     refine sk' 10 HS ?_
     refine sk' 11 HS ?_
     refine cl' 12 fun K hK => ?_
     go_simp
     refine hK.out _ _ HS ?r2_12
     case r2_12 =>
      clear HS hK K; intro HS
      try simp only [Act.put, lpa, lpb, lpc]
      refine sk' 13 HS ?_
      refine tk' 14 HS ?_
      refine tk' 15 HS ?_
      refine wpAnyH_done (by kernel_rfl) ?_ _
      refine NoPanic.normal ?_
      go_wp2
      go_ret
      refine ⟨ret_bool ?_, hal.trans HS.2.2.2⟩
      unfold mscB; rw [HV.out, hk2]; simp
  ·
   have hk0 := hx
   have hk2 : (v.kind != 0) = true := by unfold bne; rw [hk]; rfl
   have hk3 : ¬ (v.kind = 0) := by simpa using hk
   have k0 : (w.alloc (.cells #[.int .i64 v.kind, .int .i64 v.int, .string v.str] 68)).cell? ⟨w.heap.size, 0, none⟩ = some (.int .i64 v.kind) := by simp
   have k1 : (w.alloc (.cells #[.int .i64 v.kind, .int .i64 v.int, .string v.str] 68)).cell? ⟨w.heap.size, 1, none⟩ = some (.int .i64 v.int) := by simp
   have k2 : (w.alloc (.cells #[.int .i64 v.kind, .int .i64 v.int, .string v.str] 68)).cell? ⟨w.heap.size, 2, none⟩ = some (.string v.str) := by simp
   go_enter Tryz.func48, Tryz.ntmps48
   go_wp2_with fail
   refine wp_region_noPanic ?_
   refine wp_region_held_drew (S := (fun w' => (w'.cell? ⟨w.heap.size, 0, none⟩ = some (.int .i64 v.kind) ∧ w'.cell? ⟨w.heap.size, 1, none⟩ = some (.int .i64 v.int) ∧ w'.cell? ⟨w.heap.size, 2, none⟩ = some (.string v.str) ∧ Grew (w.alloc (.cells #[.int .i64 v.kind, .int .i64 v.int, .string v.str] 68)) w'))) (by kernel_rfl) ?h3_S ?h3_r
   case h3_S => exact ⟨grew_cell (Grew.refl _).drew k0, grew_cell (Grew.refl _).drew k1, grew_cell (Grew.refl _).drew k2, (Grew.refl _).drew⟩
   case h3_r =>
    intro HS
    refine tk' 0 HS ?_
    refine cl' 1 fun K hK => ?_
    go_simp
    go_at_call 73
    refine (specIsValidValue v _ hs).mono ?_
    rintro e w1 ⟨he, hb⟩
    rw [HV.out] at he
    subst he
    refine hK.out _ _ ?s3_1 ?r3_1
    case s3_1 => (try dsimp only); exact ⟨grew_cell hb HS.1, grew_cell hb HS.2.1, grew_cell hb HS.2.2.1, HS.2.2.2.trans hb⟩
    case r3_1 =>
     clear HS hK K; intro HS
     try simp only [Act.put, lpa, lpb, lpc]
     refine tk' 2 HS ?_
     refine tk' 3 HS ?_
     refine tk' 4 HS ?_
     refine tk' 5 HS ?_
     refine tk' 6 HS ?_
     refine tk' 7 HS ?_
     refine tk' 8 HS ?_
     refine tk' 9 HS ?_
     refine tk' 10 HS ?_
     refine tk' 11 HS ?_
     refine cl' 12 fun K hK => ?_
     go_simp
     go_at_call 74
     refine (specFieldKind _ n xs s _ (HA.out.grew (hal.trans HS.2.2.2)) hx).mono ?_
     rintro e w2 ⟨rfl, hb⟩
     refine hK.out _ _ ?s3_12 ?r3_12
     case s3_12 => (try dsimp only); exact ⟨grew_cell hb HS.1, grew_cell hb HS.2.1, grew_cell hb HS.2.2.1, HS.2.2.2.trans hb⟩
     case r3_12 =>
      clear HS hK K; intro HS
      try simp only [Act.put, lpa, lpb, lpc]
      refine tk' 13 HS ?_
      refine tk' 14 HS ?_
      refine tk' 15 HS ?_
      refine wpAnyH_done (by kernel_rfl) ?_ _
      refine NoPanic.normal ?_
      go_wp2
      go_ret
      refine ⟨ret_bool ?_, hal.trans HS.2.2.2⟩
      unfold mscB; rw [HV.out, hk2]; simp
set_option maxRecDepth 100000 in
set_option maxHeartbeats 2000000 in
theorem implMatchesSchema (va : Value) (n : Nat) (xs : List Fd) (s : ByteArray) (v : V) (w : World) (ha : Rd w va 2 n (rows Fd.c xs)) (hx : n ≤ 4000000) (hs : v.str.size ≤ 4000000) :
  Calls Tryz.prog 86 #[va, .string s, v.v] w fun e w' => e = .returned (.bool (mscB xs s v)) ∧ Grew w w' := by
 have HA := Lib.hid ha
 obtain ⟨a, ca, rfl, hca, hra⟩ := ha
 clear hra
 obtain ⟨bv, hbv⟩ : ∃ b, valB v = b := ⟨_, rfl⟩
 have HV := Lib.hid hbv
 clear hbv
 have hcv : bv = false ∨ bv = true := by cases bv <;> simp
 have hck : (v.kind == 0) = true ∨ (v.kind == 0) = false := by cases v.kind == 0 <;> simp
 have hal := (Grew.refl w).alloc (.cells #[.int .i64 v.kind, .int .i64 v.int, .string v.str] 68)
 rcases hcv with rfl | rfl
 ·
  have hk0 := hx
  have k0 : (w.alloc (.cells #[.int .i64 v.kind, .int .i64 v.int, .string v.str] 68)).cell? ⟨w.heap.size, 0, none⟩ = some (.int .i64 v.kind) := by simp
  have k1 : (w.alloc (.cells #[.int .i64 v.kind, .int .i64 v.int, .string v.str] 68)).cell? ⟨w.heap.size, 1, none⟩ = some (.int .i64 v.int) := by simp
  have k2 : (w.alloc (.cells #[.int .i64 v.kind, .int .i64 v.int, .string v.str] 68)).cell? ⟨w.heap.size, 2, none⟩ = some (.string v.str) := by simp
  go_enter Tryz.func86, Tryz.ntmps86
  go_wp2_with fail
  refine wp_region_noPanic ?_
  refine wp_region_held_drew (S := (fun w' => (w'.cell? ⟨w.heap.size, 0, none⟩ = some (.int .i64 v.kind) ∧ w'.cell? ⟨w.heap.size, 1, none⟩ = some (.int .i64 v.int) ∧ w'.cell? ⟨w.heap.size, 2, none⟩ = some (.string v.str) ∧ Grew (w.alloc (.cells #[.int .i64 v.kind, .int .i64 v.int, .string v.str] 68)) w'))) (by kernel_rfl) ?h4_S ?h4_r
  case h4_S => exact ⟨grew_cell (Grew.refl _).drew k0, grew_cell (Grew.refl _).drew k1, grew_cell (Grew.refl _).drew k2, (Grew.refl _).drew⟩
  case h4_r =>
   intro HS
   refine tk' 0 HS ?_
   refine cl' 1 fun K hK => ?_
   go_simp
   go_at_call 104
   refine (implIsValidValue v _ hs).mono ?_
   rintro e w1 ⟨he, hb⟩
   rw [HV.out] at he
   subst he
   refine hK.out _ _ ?s4_1 ?r4_1
   case s4_1 => (try dsimp only); exact ⟨grew_cell hb HS.1, grew_cell hb HS.2.1, grew_cell hb HS.2.2.1, HS.2.2.2.trans hb⟩
   case r4_1 =>
    clear HS hK K; intro HS
    try simp only [Act.put, lpa, lpb, lpc]
    refine tk' 2 HS ?_
    refine sk' 3 HS ?_
    refine sk' 4 HS ?_
    refine sk' 5 HS ?_
    refine tk' 6 HS ?_
    refine tk' 7 HS ?_
    refine sk' 8 HS ?_
    refine sk' 9 HS ?_
    refine sk' 10 HS ?_
    refine sk' 11 HS ?_
    refine cl' 12 fun K hK => ?_
    go_simp
    refine hK.out _ _ HS ?r4_12
    case r4_12 =>
     clear HS hK K; intro HS
     try simp only [Act.put, lpa, lpb, lpc]
     refine sk' 13 HS ?_
     refine tk' 14 HS ?_
     refine tk' 15 HS ?_
     refine wpAnyH_done (by kernel_rfl) ?_ _
     refine NoPanic.normal ?_
     go_wp2
     go_ret
     refine ⟨ret_bool ?_, hal.trans HS.2.2.2⟩
     unfold mscB; rw [HV.out]; simp
 ·
  rcases hck with hk | hk
  ·
   have hk0 := hx
   have hk2 : (v.kind != 0) = false := by unfold bne; rw [hk]; rfl
   have k0 : (w.alloc (.cells #[.int .i64 v.kind, .int .i64 v.int, .string v.str] 68)).cell? ⟨w.heap.size, 0, none⟩ = some (.int .i64 v.kind) := by simp
   have k1 : (w.alloc (.cells #[.int .i64 v.kind, .int .i64 v.int, .string v.str] 68)).cell? ⟨w.heap.size, 1, none⟩ = some (.int .i64 v.int) := by simp
   have k2 : (w.alloc (.cells #[.int .i64 v.kind, .int .i64 v.int, .string v.str] 68)).cell? ⟨w.heap.size, 2, none⟩ = some (.string v.str) := by simp
   go_enter Tryz.func86, Tryz.ntmps86
   go_wp2_with fail
   refine wp_region_noPanic ?_
   refine wp_region_held_drew (S := (fun w' => (w'.cell? ⟨w.heap.size, 0, none⟩ = some (.int .i64 v.kind) ∧ w'.cell? ⟨w.heap.size, 1, none⟩ = some (.int .i64 v.int) ∧ w'.cell? ⟨w.heap.size, 2, none⟩ = some (.string v.str) ∧ Grew (w.alloc (.cells #[.int .i64 v.kind, .int .i64 v.int, .string v.str] 68)) w'))) (by kernel_rfl) ?h5_S ?h5_r
   case h5_S => exact ⟨grew_cell (Grew.refl _).drew k0, grew_cell (Grew.refl _).drew k1, grew_cell (Grew.refl _).drew k2, (Grew.refl _).drew⟩
   case h5_r =>
    intro HS
    refine tk' 0 HS ?_
    refine cl' 1 fun K hK => ?_
    go_simp
    go_at_call 104
    refine (implIsValidValue v _ hs).mono ?_
    rintro e w1 ⟨he, hb⟩
    rw [HV.out] at he
    subst he
    refine hK.out _ _ ?s5_1 ?r5_1
    case s5_1 => (try dsimp only); exact ⟨grew_cell hb HS.1, grew_cell hb HS.2.1, grew_cell hb HS.2.2.1, HS.2.2.2.trans hb⟩
    case r5_1 =>
     clear HS hK K; intro HS
     try simp only [Act.put, lpa, lpb, lpc]
     refine tk' 2 HS ?_
     refine tk' 3 HS ?_
     refine tk' 4 HS ?_
     refine tk' 5 HS ?_
     refine tk' 6 HS ?_
     refine tk' 7 HS ?_
     refine sk' 8 HS ?_
     refine sk' 9 HS ?_
     refine sk' 10 HS ?_
     refine sk' 11 HS ?_
     refine cl' 12 fun K hK => ?_
     go_simp
     refine hK.out _ _ HS ?r5_12
     case r5_12 =>
      clear HS hK K; intro HS
      try simp only [Act.put, lpa, lpb, lpc]
      refine sk' 13 HS ?_
      refine tk' 14 HS ?_
      refine tk' 15 HS ?_
      refine wpAnyH_done (by kernel_rfl) ?_ _
      refine NoPanic.normal ?_
      go_wp2
      go_ret
      refine ⟨ret_bool ?_, hal.trans HS.2.2.2⟩
      unfold mscB; rw [HV.out, hk2]; simp
  ·
   have hk0 := hx
   have hk2 : (v.kind != 0) = true := by unfold bne; rw [hk]; rfl
   have hk3 : ¬ (v.kind = 0) := by simpa using hk
   have k0 : (w.alloc (.cells #[.int .i64 v.kind, .int .i64 v.int, .string v.str] 68)).cell? ⟨w.heap.size, 0, none⟩ = some (.int .i64 v.kind) := by simp
   have k1 : (w.alloc (.cells #[.int .i64 v.kind, .int .i64 v.int, .string v.str] 68)).cell? ⟨w.heap.size, 1, none⟩ = some (.int .i64 v.int) := by simp
   have k2 : (w.alloc (.cells #[.int .i64 v.kind, .int .i64 v.int, .string v.str] 68)).cell? ⟨w.heap.size, 2, none⟩ = some (.string v.str) := by simp
   go_enter Tryz.func86, Tryz.ntmps86
   go_wp2_with fail
   refine wp_region_noPanic ?_
   refine wp_region_held_drew (S := (fun w' => (w'.cell? ⟨w.heap.size, 0, none⟩ = some (.int .i64 v.kind) ∧ w'.cell? ⟨w.heap.size, 1, none⟩ = some (.int .i64 v.int) ∧ w'.cell? ⟨w.heap.size, 2, none⟩ = some (.string v.str) ∧ Grew (w.alloc (.cells #[.int .i64 v.kind, .int .i64 v.int, .string v.str] 68)) w'))) (by kernel_rfl) ?h6_S ?h6_r
   case h6_S => exact ⟨grew_cell (Grew.refl _).drew k0, grew_cell (Grew.refl _).drew k1, grew_cell (Grew.refl _).drew k2, (Grew.refl _).drew⟩
   case h6_r =>
    intro HS
    refine tk' 0 HS ?_
    refine cl' 1 fun K hK => ?_
    go_simp
    go_at_call 104
    refine (implIsValidValue v _ hs).mono ?_
    rintro e w1 ⟨he, hb⟩
    rw [HV.out] at he
    subst he
    refine hK.out _ _ ?s6_1 ?r6_1
    case s6_1 => (try dsimp only); exact ⟨grew_cell hb HS.1, grew_cell hb HS.2.1, grew_cell hb HS.2.2.1, HS.2.2.2.trans hb⟩
    case r6_1 =>
     clear HS hK K; intro HS
     try simp only [Act.put, lpa, lpb, lpc]
     refine tk' 2 HS ?_
     refine tk' 3 HS ?_
     refine tk' 4 HS ?_
     refine tk' 5 HS ?_
     refine tk' 6 HS ?_
     refine tk' 7 HS ?_
     refine tk' 8 HS ?_
     refine tk' 9 HS ?_
     refine tk' 10 HS ?_
     refine tk' 11 HS ?_
     refine cl' 12 fun K hK => ?_
     go_simp
     go_at_call 105
     refine (implFieldKind _ n xs s _ (HA.out.grew (hal.trans HS.2.2.2)) hx).mono ?_
     rintro e w2 ⟨rfl, hb⟩
     refine hK.out _ _ ?s6_12 ?r6_12
     case s6_12 => (try dsimp only); exact ⟨grew_cell hb HS.1, grew_cell hb HS.2.1, grew_cell hb HS.2.2.1, HS.2.2.2.trans hb⟩
     case r6_12 =>
      clear HS hK K; intro HS
      try simp only [Act.put, lpa, lpb, lpc]
      refine tk' 13 HS ?_
      refine tk' 14 HS ?_
      refine tk' 15 HS ?_
      refine wpAnyH_done (by kernel_rfl) ?_ _
      refine NoPanic.normal ?_
      go_wp2
      go_ret
      refine ⟨ret_bool ?_, hal.trans HS.2.2.2⟩
      unfold mscB; rw [HV.out, hk2]; simp
theorem implIsUser (x : Int) (w : World) :
  Calls Tryz.prog 35 #[.int .i64 x] w fun e w' => e = .returned (.bool (inB x 0 2)) ∧ w = w' := by
 go_enter Tryz.func35, Tryz.ntmps35
 go_wp2_with (go_at_call 65; refine (within _ _ _ _).mono ?_; rintro e w' ⟨rfl, rfl⟩)
 go_ret
 exact ⟨rfl, rfl⟩
set_option maxRecDepth 100000 in
set_option maxHeartbeats 4000000 in
theorem specIsValidSchema (va : Value) (n : Nat) (xs : List Fd) (w : World) (ha : Rd w va 2 n (rows Fd.c xs)) (hx : n ≤ 4000000) (hz : szAll Fd.sz xs ≤ 4000000) :
  Calls Tryz.prog 23 #[va] w fun e w' => e = .returned (.bool (schB xs)) ∧ Grew w w' := by
 obtain ⟨a, ca, rfl, hca, hra⟩ := ha
 have HX := Lib.hid (hra.len_rows Fd.len (by decide))
 have HZ := Lib.hid hz
 go_enter Tryz.func23, Tryz.ntmps23
 go_wp2
 go_loopw [3] (fun i wr => ∃ k : Nat, k ≤ n ∧ i = .int .i64 k ∧ Hid (upTo (schAt xs) xs k) ∧ Grew w wr) (fun i _ => n - (intOf i).toNat)
 case atStart => exact ⟨0, Nat.zero_le _, rfl, Lib.hid (upTo_zero _ _), Grew.refl _⟩
 case round =>
  obtain ⟨k, hk, rfl, hsame, hbel⟩ := hrel
  have hbw := hbel
  by_cases hlt : k < n
  ·
   obtain ⟨b1, o1, x, rfl, hxk, c0, c1⟩ := (hra.grew hbw).getFd hlt
   have hs1 := fd_sz HZ.out hxk.out
   obtain ⟨tv, htv⟩ : ∃ b, txtB x.name 1 = b := ⟨_, rfl⟩
   have HT := Lib.hid htv
   clear htv
   have hct : tv = false ∨ tv = true := by cases tv <;> simp
   obtain ⟨kv, hkv⟩ : ∃ b, inB x.kind 1 2 = b := ⟨_, rfl⟩
   have HK := Lib.hid hkv
   clear hkv
   have hck : kv = false ∨ kv = true := by cases kv <;> simp
   rcases hct with rfl | rfl
   ·
    have hk0 := hk
    have hk00 := hk
    go_wp2_with fail
    refine wp_region_noPanic ?_
    refine wp_region_held_drew (S := (fun w' => (w'.cell? ⟨b1, o1 + k * 2, none⟩ = some (.string x.name) ∧ w'.cell? ⟨b1, o1 + k * 2 + 1, none⟩ = some (.int .i64 x.kind) ∧ Grew wr w'))) (by kernel_rfl) ?h7_S ?h7_r
    case h7_S => exact ⟨grew_cell (Grew.refl _).drew c0, grew_cell (Grew.refl _).drew c1, (Grew.refl _).drew⟩
    case h7_r =>
     intro HS
     refine tk' 0 HS ?_
     refine tk' 1 HS ?_
     refine tk' 2 HS ?_
     refine tk' 3 HS ?_
     refine tk' 4 HS ?_
     refine cl' 5 fun K hK => ?_
     go_simp
     go_at_call 49
     refine (specIsValidAttrName _ _ hs1).mono ?_
     rintro e w1 ⟨he, rfl⟩
     rw [HT.out] at he
     subst he
     refine hK.out _ _ ?s7_5 ?r7_5
     case s7_5 => (try dsimp only); first | exact HS | exact ⟨grew_cell hb HS.1, grew_cell hb HS.2.1, HS.2.2.trans hb⟩
     case r7_5 =>
      clear HS hK K; intro HS
      try simp only [Act.put, lpa, lpb, lpc]
      refine tk' 6 HS ?_
      refine tk' 7 HS ?_
      refine sk' 8 HS ?_
      refine sk' 9 HS ?_
      refine sk' 10 HS ?_
      refine sk' 11 HS ?_
      refine sk' 12 HS ?_
      refine cl' 13 fun K hK => ?_
      go_simp
      refine hK.out _ _ HS ?r7_13
      case r7_13 =>
       clear HS hK K; intro HS
       try simp only [Act.put, lpa, lpb, lpc]
       refine sk' 14 HS ?_
       refine tk' 15 HS ?_
       refine tk' 16 HS ?_
       refine sk' 17 HS ?_
       refine sk' 18 HS ?_
       refine sk' 19 HS ?_
       refine sk' 20 HS ?_
       refine sk' 21 HS ?_
       refine sk' 22 HS ?_
       refine sk' 23 HS ?_
       refine sk' 24 HS ?_
       refine sk' 25 HS ?_
       refine sk' 26 HS ?_
       refine sk' 27 HS ?_
       refine sk' 28 HS ?_
       refine sk' 29 HS ?_
       refine sk' 30 HS ?_
       refine sk' 31 HS ?_
       refine sk' 32 HS ?_
       refine tk' 33 HS ?_
       refine wpAnyH_done (by kernel_rfl) ?_ _
       refine NoPanic.normal ?_
       go_wp2
       go_ret
       refine ⟨ret_bool ?_, hbw.trans HS.2.2⟩
       exact (show schB xs = false by unfold schB; rw [all_not hxk.out (show schAt xs _ x = false by unfold schAt; rw [HT.out]; simp)]; rfl).symm
   ·
    have hk0 := hk
    rcases hck with rfl | rfl
    ·
     have hk0 := hk
     have hk00 := hk
     go_wp2_with fail
     refine wp_region_noPanic ?_
     refine wp_region_held_drew (S := (fun w' => (w'.cell? ⟨b1, o1 + k * 2, none⟩ = some (.string x.name) ∧ w'.cell? ⟨b1, o1 + k * 2 + 1, none⟩ = some (.int .i64 x.kind) ∧ Grew wr w'))) (by kernel_rfl) ?h8_S ?h8_r
     case h8_S => exact ⟨grew_cell (Grew.refl _).drew c0, grew_cell (Grew.refl _).drew c1, (Grew.refl _).drew⟩
     case h8_r =>
      intro HS
      refine tk' 0 HS ?_
      refine tk' 1 HS ?_
      refine tk' 2 HS ?_
      refine tk' 3 HS ?_
      refine tk' 4 HS ?_
      refine cl' 5 fun K hK => ?_
      go_simp
      go_at_call 49
      refine (specIsValidAttrName _ _ hs1).mono ?_
      rintro e w1 ⟨he, rfl⟩
      rw [HT.out] at he
      subst he
      refine hK.out _ _ ?s8_5 ?r8_5
      case s8_5 => (try dsimp only); first | exact HS | exact ⟨grew_cell hb HS.1, grew_cell hb HS.2.1, HS.2.2.trans hb⟩
      case r8_5 =>
       clear HS hK K; intro HS
       try simp only [Act.put, lpa, lpb, lpc]
       refine tk' 6 HS ?_
       refine tk' 7 HS ?_
       refine tk' 8 HS ?_
       refine tk' 9 HS ?_
       refine tk' 10 HS ?_
       refine tk' 11 HS ?_
       refine tk' 12 HS ?_
       refine cl' 13 fun K hK => ?_
       go_simp
       go_at_call 24
       refine (l01In _ _ _ _).mono ?_
       rintro e w1 ⟨he, rfl⟩
       rw [HK.out] at he
       subst he
       refine hK.out _ _ ?s8_13 ?r8_13
       case s8_13 => (try dsimp only); first | exact HS | exact ⟨grew_cell hb HS.1, grew_cell hb HS.2.1, HS.2.2.trans hb⟩
       case r8_13 =>
        clear HS hK K; intro HS
        try simp only [Act.put, lpa, lpb, lpc]
        refine tk' 14 HS ?_
        refine tk' 15 HS ?_
        refine tk' 16 HS ?_
        refine sk' 17 HS ?_
        refine sk' 18 HS ?_
        refine sk' 19 HS ?_
        refine sk' 20 HS ?_
        refine sk' 21 HS ?_
        refine sk' 22 HS ?_
        refine sk' 23 HS ?_
        refine sk' 24 HS ?_
        refine sk' 25 HS ?_
        refine sk' 26 HS ?_
        refine sk' 27 HS ?_
        refine sk' 28 HS ?_
        refine sk' 29 HS ?_
        refine sk' 30 HS ?_
        refine sk' 31 HS ?_
        refine sk' 32 HS ?_
        refine tk' 33 HS ?_
        refine wpAnyH_done (by kernel_rfl) ?_ _
        refine NoPanic.normal ?_
        go_wp2
        go_ret
        refine ⟨ret_bool ?_, hbw.trans HS.2.2⟩
        exact (show schB xs = false by unfold schB; rw [all_not hxk.out (show schAt xs _ x = false by unfold schAt; rw [HT.out, HK.out]; simp)]; rfl).symm
    ·
     have hk0 := hk
     by_cases hk1 : ¬ (0 < k)
     ·
      have hk0 := hk
      have hk00 := hk
      go_wp2_with fail
      refine wp_region_noPanic ?_
      refine wp_region_held_drew (S := (fun w' => (w'.cell? ⟨b1, o1 + k * 2, none⟩ = some (.string x.name) ∧ w'.cell? ⟨b1, o1 + k * 2 + 1, none⟩ = some (.int .i64 x.kind) ∧ Grew wr w'))) (by kernel_rfl) ?h9_S ?h9_r
      case h9_S => exact ⟨grew_cell (Grew.refl _).drew c0, grew_cell (Grew.refl _).drew c1, (Grew.refl _).drew⟩
      case h9_r =>
       intro HS
       refine tk' 0 HS ?_
       refine tk' 1 HS ?_
       refine tk' 2 HS ?_
       refine tk' 3 HS ?_
       refine tk' 4 HS ?_
       refine cl' 5 fun K hK => ?_
       go_simp
       go_at_call 49
       refine (specIsValidAttrName _ _ hs1).mono ?_
       rintro e w1 ⟨he, rfl⟩
       rw [HT.out] at he
       subst he
       refine hK.out _ _ ?s9_5 ?r9_5
       case s9_5 => (try dsimp only); first | exact HS | exact ⟨grew_cell hb HS.1, grew_cell hb HS.2.1, HS.2.2.trans hb⟩
       case r9_5 =>
        clear HS hK K; intro HS
        try simp only [Act.put, lpa, lpb, lpc]
        refine tk' 6 HS ?_
        refine tk' 7 HS ?_
        refine tk' 8 HS ?_
        refine tk' 9 HS ?_
        refine tk' 10 HS ?_
        refine tk' 11 HS ?_
        refine tk' 12 HS ?_
        refine cl' 13 fun K hK => ?_
        go_simp
        go_at_call 24
        refine (l01In _ _ _ _).mono ?_
        rintro e w1 ⟨he, rfl⟩
        rw [HK.out] at he
        subst he
        refine hK.out _ _ ?s9_13 ?r9_13
        case s9_13 => (try dsimp only); first | exact HS | exact ⟨grew_cell hb HS.1, grew_cell hb HS.2.1, HS.2.2.trans hb⟩
        case r9_13 =>
         clear HS hK K; intro HS
         try simp only [Act.put, lpa, lpb, lpc]
         refine tk' 14 HS ?_
         refine tk' 15 HS ?_
         refine tk' 16 HS ?_
         refine tk' 17 HS ?_
         refine tk' 18 HS ?_
         refine tk' 19 HS ?_
         refine sk' 20 HS ?_
         refine sk' 21 HS ?_
         refine sk' 22 HS ?_
         refine sk' 23 HS ?_
         refine sk' 24 HS ?_
         refine sk' 25 HS ?_
         refine sk' 26 HS ?_
         refine sk' 27 HS ?_
         refine sk' 28 HS ?_
         refine sk' 29 HS ?_
         refine sk' 30 HS ?_
         refine sk' 31 HS ?_
         refine tk' 32 HS ?_
         refine tk' 33 HS ?_
         refine wpAnyH_done (by kernel_rfl) ?_ _
         refine NoPanic.normal ?_
         go_wp2
         go_roundw
         case rel => exact ⟨k + 1, by omega, by go_num, Lib.hid (upTo_snoc hsame.out hxk.out (by show schAt xs _ x = true; unfold schAt; rw [HT.out, HK.out, Nat.eq_zero_of_not_pos hk1]; rfl)), hbel.trans HS.2.2⟩
         case measure => simp [intOf]; omega
     ·
      have hk0 := hk
      obtain ⟨p, rfl⟩ : ∃ p, k = p + 1 := ⟨k - 1, by omega⟩
      obtain ⟨b2, o2, y, hab, hyk, d0, d1⟩ := (hra.grew hbw).getFd (show p < n by omega)
      obtain ⟨rfl, rfl⟩ : b1 = b2 ∧ o1 = o2 := by cases hab; exact ⟨rfl, rfl⟩
      clear hab
      clear d1
      have hpp : ((p + 1 : Nat) : Int) - 1 = (p : Int) := by omega
      have hp0 : (0 : Int) ≤ (p : Int) + 1 := by omega
      have hp1 : (p : Int) < (n : Int) := by omega
      have hp2 : (p : Int) + 1 < (n : Int) := by omega
      have hwp : IntKind.i64.wrap (p : Int) = (p : Int) := by simp [IntKind.wrap, IntKind.bits, IntKind.signed]; omega
      obtain ⟨lv, hlv⟩ : ∃ b, Op.bytesLess y.name.toList x.name.toList = b := ⟨_, rfl⟩
      have HP := Lib.hid (prevOk_succ (lt := fun (y x : Fd) => Op.bytesLess y.name.toList x.name.toList) (x := x) hyk.out)
      have hcl : lv = false ∨ lv = true := by cases lv <;> simp
      rcases hcl with rfl | rfl
      ·
       have hk0 := hk
       have hk00 := hk
       go_wp2_with fail
       refine wp_region_noPanic ?_
       refine wp_region_held_drew (S := (fun w' => (w'.cell? ⟨b1, o1 + (p + 1) * 2, none⟩ = some (.string x.name) ∧ w'.cell? ⟨b1, o1 + (p + 1) * 2 + 1, none⟩ = some (.int .i64 x.kind) ∧ w'.cell? ⟨b1, o1 + p * 2, none⟩ = some (.string y.name) ∧ Grew wr w'))) (by kernel_rfl) ?h10_S ?h10_r
       case h10_S => exact ⟨grew_cell (Grew.refl _).drew c0, grew_cell (Grew.refl _).drew c1, grew_cell (Grew.refl _).drew d0, (Grew.refl _).drew⟩
       case h10_r =>
        intro HS
        refine tk' 0 HS ?_
        refine tk' 1 HS ?_
        refine tk' 2 HS ?_
        refine tk' 3 HS ?_
        refine tk' 4 HS ?_
        refine cl' 5 fun K hK => ?_
        go_simp
        go_at_call 49
        refine (specIsValidAttrName _ _ hs1).mono ?_
        rintro e w1 ⟨he, rfl⟩
        rw [HT.out] at he
        subst he
        refine hK.out _ _ ?s10_5 ?r10_5
        case s10_5 => (try dsimp only); first | exact HS | exact ⟨grew_cell hb HS.1, grew_cell hb HS.2.1, grew_cell hb HS.2.2.1, HS.2.2.2.trans hb⟩
        case r10_5 =>
         clear HS hK K; intro HS
         try simp only [Act.put, lpa, lpb, lpc]
         refine tk' 6 HS ?_
         refine tk' 7 HS ?_
         refine tk' 8 HS ?_
         refine tk' 9 HS ?_
         refine tk' 10 HS ?_
         refine tk' 11 HS ?_
         refine tk' 12 HS ?_
         refine cl' 13 fun K hK => ?_
         go_simp
         go_at_call 24
         refine (l01In _ _ _ _).mono ?_
         rintro e w1 ⟨he, rfl⟩
         rw [HK.out] at he
         subst he
         refine hK.out _ _ ?s10_13 ?r10_13
         case s10_13 => (try dsimp only); first | exact HS | exact ⟨grew_cell hb HS.1, grew_cell hb HS.2.1, grew_cell hb HS.2.2.1, HS.2.2.2.trans hb⟩
         case r10_13 =>
          clear HS hK K; intro HS
          try simp only [Act.put, lpa, lpb, lpc]
          refine tk' 14 HS ?_
          refine tk' 15 HS ?_
          refine tk' 16 HS ?_
          refine tk' 17 HS ?_
          refine tk' 18 HS ?_
          refine tk' 19 HS ?_
          refine tk' 20 HS ?_
          refine tk' 21 HS ?_
          refine tk' 22 HS ?_
          refine tk' 23 HS ?_
          refine tk' 24 HS ?_
          refine tk' 25 HS ?_
          refine tk' 26 HS ?_
          refine tk' 27 HS ?_
          refine tk' 28 HS ?_
          refine tk' 29 HS ?_
          refine tk' 30 HS ?_
          refine tk' 31 HS ?_
          refine tk' 32 HS ?_
          refine tk' 33 HS ?_
          refine wpAnyH_done (by kernel_rfl) ?_ _
          refine NoPanic.normal ?_
          go_wp2
          go_ret
          refine ⟨ret_bool ?_, hbw.trans HS.2.2.2⟩
          exact (show schB xs = false by unfold schB; rw [all_not hxk.out (show schAt xs _ x = false by unfold schAt; rw [HT.out, HK.out, HP.out, hlv]; simp)]; rfl).symm
      ·
       have hk0 := hk
       have hk00 := hk
       go_wp2_with fail
       refine wp_region_noPanic ?_
       refine wp_region_held_drew (S := (fun w' => (w'.cell? ⟨b1, o1 + (p + 1) * 2, none⟩ = some (.string x.name) ∧ w'.cell? ⟨b1, o1 + (p + 1) * 2 + 1, none⟩ = some (.int .i64 x.kind) ∧ w'.cell? ⟨b1, o1 + p * 2, none⟩ = some (.string y.name) ∧ Grew wr w'))) (by kernel_rfl) ?h11_S ?h11_r
       case h11_S => exact ⟨grew_cell (Grew.refl _).drew c0, grew_cell (Grew.refl _).drew c1, grew_cell (Grew.refl _).drew d0, (Grew.refl _).drew⟩
       case h11_r =>
        intro HS
        refine tk' 0 HS ?_
        refine tk' 1 HS ?_
        refine tk' 2 HS ?_
        refine tk' 3 HS ?_
        refine tk' 4 HS ?_
        refine cl' 5 fun K hK => ?_
        go_simp
        go_at_call 49
        refine (specIsValidAttrName _ _ hs1).mono ?_
        rintro e w1 ⟨he, rfl⟩
        rw [HT.out] at he
        subst he
        refine hK.out _ _ ?s11_5 ?r11_5
        case s11_5 => (try dsimp only); first | exact HS | exact ⟨grew_cell hb HS.1, grew_cell hb HS.2.1, grew_cell hb HS.2.2.1, HS.2.2.2.trans hb⟩
        case r11_5 =>
         clear HS hK K; intro HS
         try simp only [Act.put, lpa, lpb, lpc]
         refine tk' 6 HS ?_
         refine tk' 7 HS ?_
         refine tk' 8 HS ?_
         refine tk' 9 HS ?_
         refine tk' 10 HS ?_
         refine tk' 11 HS ?_
         refine tk' 12 HS ?_
         refine cl' 13 fun K hK => ?_
         go_simp
         go_at_call 24
         refine (l01In _ _ _ _).mono ?_
         rintro e w1 ⟨he, rfl⟩
         rw [HK.out] at he
         subst he
         refine hK.out _ _ ?s11_13 ?r11_13
         case s11_13 => (try dsimp only); first | exact HS | exact ⟨grew_cell hb HS.1, grew_cell hb HS.2.1, grew_cell hb HS.2.2.1, HS.2.2.2.trans hb⟩
         case r11_13 =>
          clear HS hK K; intro HS
          try simp only [Act.put, lpa, lpb, lpc]
          refine tk' 14 HS ?_
          refine tk' 15 HS ?_
          refine tk' 16 HS ?_
          refine tk' 17 HS ?_
          refine tk' 18 HS ?_
          refine tk' 19 HS ?_
          refine tk' 20 HS ?_
          refine tk' 21 HS ?_
          refine tk' 22 HS ?_
          refine tk' 23 HS ?_
          refine tk' 24 HS ?_
          refine tk' 25 HS ?_
          refine tk' 26 HS ?_
          refine tk' 27 HS ?_
          refine tk' 28 HS ?_
          refine tk' 29 HS ?_
          refine tk' 30 HS ?_
          refine tk' 31 HS ?_
          refine tk' 32 HS ?_
          refine tk' 33 HS ?_
          refine wpAnyH_done (by kernel_rfl) ?_ _
          refine NoPanic.normal ?_
          go_wp2
          go_roundw
          case rel => exact ⟨p + 1 + 1, by omega, by go_num, Lib.hid (upTo_snoc hsame.out hxk.out (by show schAt xs _ x = true; unfold schAt; rw [HT.out, HK.out, HP.out, hlv]; rfl)), hbel.trans HS.2.2.2⟩
          case measure => simp [intOf]; omega
  ·
   obtain rfl : k = n := by omega
   have hy := Lib.hid (all_up HX.out hsame.out)
   go_wp2
   go_ret
   refine ⟨ret_bool ?_, hbel⟩
   unfold schB; rw [hy.out, HX.out]; simp; omega
set_option maxRecDepth 100000 in
set_option maxHeartbeats 4000000 in
theorem implIsValidSchema (va : Value) (n : Nat) (xs : List Fd) (w : World) (ha : Rd w va 2 n (rows Fd.c xs)) (hx : n ≤ 4000000) (hz : szAll Fd.sz xs ≤ 4000000) :
  Calls Tryz.prog 64 #[va] w fun e w' => e = .returned (.bool (schB xs)) ∧ Grew w w' := by
 obtain ⟨a, ca, rfl, hca, hra⟩ := ha
 have HX := Lib.hid (hra.len_rows Fd.len (by decide))
 have HZ := Lib.hid hz
 go_enter Tryz.func64, Tryz.ntmps64
 go_wp2
 go_loopw [7] (fun i wr => ∃ k : Nat, k ≤ n ∧ i = .int .i64 k ∧ Hid (upTo (schAt xs) xs k) ∧ Grew w wr) (fun i _ => n - (intOf i).toNat)
 case atStart => exact ⟨0, Nat.zero_le _, rfl, Lib.hid (upTo_zero _ _), Grew.refl _⟩
 case round =>
  obtain ⟨k, hk, rfl, hsame, hbel⟩ := hrel
  have hbw := hbel
  by_cases hlt : k < n
  ·
   obtain ⟨b1, o1, x, rfl, hxk, c0, c1⟩ := (hra.grew hbw).getFd hlt
   have hs1 := fd_sz HZ.out hxk.out
   obtain ⟨tv, htv⟩ : ∃ b, txtB x.name 1 = b := ⟨_, rfl⟩
   have HT := Lib.hid htv
   clear htv
   have hct : tv = false ∨ tv = true := by cases tv <;> simp
   obtain ⟨kv, hkv⟩ : ∃ b, inB x.kind 1 2 = b := ⟨_, rfl⟩
   have HK := Lib.hid hkv
   clear hkv
   have hck : kv = false ∨ kv = true := by cases kv <;> simp
   rcases hct with rfl | rfl
   ·
    have hk0 := hk
    have hk00 := hk
    go_wp2_with fail
    have hal := (Grew.refl wr).alloc (.cells #[.string x.name, .int .i64 x.kind] 87)
    have g0 : (wr.alloc (.cells #[.string x.name, .int .i64 x.kind] 87)).cell? ⟨wr.heap.size, 0, none⟩ = some (.string x.name) := by simp
    have g1 : (wr.alloc (.cells #[.string x.name, .int .i64 x.kind] 87)).cell? ⟨wr.heap.size, 1, none⟩ = some (.int .i64 x.kind) := by simp
    refine wp_region_noPanic ?_
    refine wp_region_held_drew (S := (fun w' => (w'.cell? ⟨wr.heap.size, 0, none⟩ = some (.string x.name) ∧ w'.cell? ⟨wr.heap.size, 1, none⟩ = some (.int .i64 x.kind) ∧ Grew (wr.alloc (.cells #[.string x.name, .int .i64 x.kind] 87)) w'))) (by kernel_rfl) ?h12_S ?h12_r
    case h12_S => exact ⟨grew_cell (Grew.refl _).drew g0, grew_cell (Grew.refl _).drew g1, (Grew.refl _).drew⟩
    case h12_r =>
     intro HS
     refine tk' 0 HS ?_
     refine tk' 1 HS ?_
     refine cl' 2 fun K hK => ?_
     go_simp
     go_at_call 87
     refine (implIsValidAttrName _ _ hs1).mono ?_
     rintro e w1 ⟨he, rfl⟩
     rw [HT.out] at he
     subst he
     refine hK.out _ _ ?s12_2 ?r12_2
     case s12_2 => (try dsimp only); first | exact HS | exact ⟨grew_cell hb HS.1, grew_cell hb HS.2.1, HS.2.2.trans hb⟩
     case r12_2 =>
      clear HS hK K; intro HS
      try simp only [Act.put, lpa, lpb, lpc]
      refine tk' 3 HS ?_
      refine tk' 4 HS ?_
      refine sk' 5 HS ?_
      refine sk' 6 HS ?_
      refine sk' 7 HS ?_
      refine sk' 8 HS ?_
      refine sk' 9 HS ?_
      refine sk' 10 HS ?_
      refine sk' 11 HS ?_
      refine sk' 12 HS ?_
      refine tk' 13 HS ?_
      refine tk' 14 HS ?_
      refine sk' 15 HS ?_
      refine sk' 16 HS ?_
      refine sk' 17 HS ?_
      refine sk' 18 HS ?_
      refine sk' 19 HS ?_
      refine sk' 20 HS ?_
      refine sk' 21 HS ?_
      refine sk' 22 HS ?_
      refine sk' 23 HS ?_
      refine sk' 24 HS ?_
      refine sk' 25 HS ?_
      refine sk' 26 HS ?_
      refine sk' 27 HS ?_
      refine tk' 28 HS ?_
      refine wpAnyH_done (by kernel_rfl) ?_ _
      refine NoPanic.normal ?_
      go_wp2
      go_ret
      refine ⟨ret_bool ?_, hbw.trans (hal.trans HS.2.2)⟩
      exact (show schB xs = false by unfold schB; rw [all_not hxk.out (show schAt xs _ x = false by unfold schAt; rw [HT.out]; simp)]; rfl).symm
   ·
    have hk0 := hk
    have hcq1 : (x.kind == 1) = true ∨ (x.kind == 1) = false := by cases x.kind == 1 <;> simp
    rcases hcq1 with hq1 | hq1
    ·
     have hk0 := hk
     have h1n : (x.kind != 1) = false := by unfold bne; rw [hq1]; rfl
     have HK2 := Lib.hid (show inB x.kind 1 2 = true by rw [in12, hq1]; rfl)
     by_cases hk1 : ¬ (0 < k)
     ·
      have hk0 := hk
      have hk00 := hk
      go_wp2_with fail
      have hal := (Grew.refl wr).alloc (.cells #[.string x.name, .int .i64 x.kind] 87)
      have g0 : (wr.alloc (.cells #[.string x.name, .int .i64 x.kind] 87)).cell? ⟨wr.heap.size, 0, none⟩ = some (.string x.name) := by simp
      have g1 : (wr.alloc (.cells #[.string x.name, .int .i64 x.kind] 87)).cell? ⟨wr.heap.size, 1, none⟩ = some (.int .i64 x.kind) := by simp
      refine wp_region_noPanic ?_
      refine wp_region_held_drew (S := (fun w' => (w'.cell? ⟨wr.heap.size, 0, none⟩ = some (.string x.name) ∧ w'.cell? ⟨wr.heap.size, 1, none⟩ = some (.int .i64 x.kind) ∧ Grew (wr.alloc (.cells #[.string x.name, .int .i64 x.kind] 87)) w'))) (by kernel_rfl) ?h13_S ?h13_r
      case h13_S => exact ⟨grew_cell (Grew.refl _).drew g0, grew_cell (Grew.refl _).drew g1, (Grew.refl _).drew⟩
      case h13_r =>
       intro HS
       refine tk' 0 HS ?_
       refine tk' 1 HS ?_
       refine cl' 2 fun K hK => ?_
       go_simp
       go_at_call 87
       refine (implIsValidAttrName _ _ hs1).mono ?_
       rintro e w1 ⟨he, rfl⟩
       rw [HT.out] at he
       subst he
       refine hK.out _ _ ?s13_2 ?r13_2
       case s13_2 => (try dsimp only); first | exact HS | exact ⟨grew_cell hb HS.1, grew_cell hb HS.2.1, HS.2.2.trans hb⟩
       case r13_2 =>
        clear HS hK K; intro HS
        try simp only [Act.put, lpa, lpb, lpc]
        refine tk' 3 HS ?_
        refine tk' 4 HS ?_
        refine tk' 5 HS ?_
        refine tk' 6 HS ?_
        refine tk' 7 HS ?_
        refine tk' 8 HS ?_
        refine sk' 9 HS ?_
        refine sk' 10 HS ?_
        refine sk' 11 HS ?_
        refine tk' 12 HS ?_
        refine tk' 13 HS ?_
        refine tk' 14 HS ?_
        refine tk' 15 HS ?_
        refine tk' 16 HS ?_
        refine tk' 17 HS ?_
        refine sk' 18 HS ?_
        refine sk' 19 HS ?_
        refine sk' 20 HS ?_
        refine sk' 21 HS ?_
        refine sk' 22 HS ?_
        refine sk' 23 HS ?_
        refine sk' 24 HS ?_
        refine sk' 25 HS ?_
        refine sk' 26 HS ?_
        refine tk' 27 HS ?_
        refine tk' 28 HS ?_
        refine wpAnyH_done (by kernel_rfl) ?_ _
        refine NoPanic.normal ?_
        go_wp2
        go_roundw
        case rel => exact ⟨k + 1, by omega, by go_num, Lib.hid (upTo_snoc hsame.out hxk.out (by show schAt xs _ x = true; unfold schAt; rw [HT.out, HK2.out, Nat.eq_zero_of_not_pos hk1]; rfl)), hbel.trans (hal.trans HS.2.2)⟩
        case measure => simp [intOf]; omega
     ·
      have hk0 := hk
      obtain ⟨p, rfl⟩ : ∃ p, k = p + 1 := ⟨k - 1, by omega⟩
      obtain ⟨b2, o2, y, hab, hyk, d0, d1⟩ := (hra.grew hbw).getFd (show p < n by omega)
      obtain ⟨rfl, rfl⟩ : b1 = b2 ∧ o1 = o2 := by cases hab; exact ⟨rfl, rfl⟩
      clear hab
      clear d1
      have hpp : ((p + 1 : Nat) : Int) - 1 = (p : Int) := by omega
      have hp0 : (0 : Int) ≤ (p : Int) + 1 := by omega
      have hp1 : (p : Int) < (n : Int) := by omega
      have hp2 : (p : Int) + 1 < (n : Int) := by omega
      have hwp : IntKind.i64.wrap (p : Int) = (p : Int) := by simp [IntKind.wrap, IntKind.bits, IntKind.signed]; omega
      obtain ⟨lv, hlv⟩ : ∃ b, Op.bytesLess y.name.toList x.name.toList = b := ⟨_, rfl⟩
      have HP := Lib.hid (prevOk_succ (lt := fun (y x : Fd) => Op.bytesLess y.name.toList x.name.toList) (x := x) hyk.out)
      have hcl : lv = false ∨ lv = true := by cases lv <;> simp
      rcases hcl with rfl | rfl
      ·
       have hk0 := hk
       have hk00 := hk
       go_wp2_with fail
       have hal := (Grew.refl wr).alloc (.cells #[.string x.name, .int .i64 x.kind] 87)
       have g0 : (wr.alloc (.cells #[.string x.name, .int .i64 x.kind] 87)).cell? ⟨wr.heap.size, 0, none⟩ = some (.string x.name) := by simp
       have g1 : (wr.alloc (.cells #[.string x.name, .int .i64 x.kind] 87)).cell? ⟨wr.heap.size, 1, none⟩ = some (.int .i64 x.kind) := by simp
       replace d0 := grew_cell hal d0
       refine wp_region_noPanic ?_
       refine wp_region_held_drew (S := (fun w' => (w'.cell? ⟨wr.heap.size, 0, none⟩ = some (.string x.name) ∧ w'.cell? ⟨wr.heap.size, 1, none⟩ = some (.int .i64 x.kind) ∧ w'.cell? ⟨b1, o1 + p * 2, none⟩ = some (.string y.name) ∧ Grew (wr.alloc (.cells #[.string x.name, .int .i64 x.kind] 87)) w'))) (by kernel_rfl) ?h14_S ?h14_r
       case h14_S => exact ⟨grew_cell (Grew.refl _).drew g0, grew_cell (Grew.refl _).drew g1, grew_cell (Grew.refl _).drew d0, (Grew.refl _).drew⟩
       case h14_r =>
        intro HS
        refine tk' 0 HS ?_
        refine tk' 1 HS ?_
        refine cl' 2 fun K hK => ?_
        go_simp
        go_at_call 87
        refine (implIsValidAttrName _ _ hs1).mono ?_
        rintro e w1 ⟨he, rfl⟩
        rw [HT.out] at he
        subst he
        refine hK.out _ _ ?s14_2 ?r14_2
        case s14_2 => (try dsimp only); first | exact HS | exact ⟨grew_cell hb HS.1, grew_cell hb HS.2.1, grew_cell hb HS.2.2.1, HS.2.2.2.trans hb⟩
        case r14_2 =>
         clear HS hK K; intro HS
         try simp only [Act.put, lpa, lpb, lpc]
         refine tk' 3 HS ?_
         refine tk' 4 HS ?_
         refine tk' 5 HS ?_
         refine tk' 6 HS ?_
         refine tk' 7 HS ?_
         refine tk' 8 HS ?_
         refine sk' 9 HS ?_
         refine sk' 10 HS ?_
         refine sk' 11 HS ?_
         refine tk' 12 HS ?_
         refine tk' 13 HS ?_
         refine tk' 14 HS ?_
         refine tk' 15 HS ?_
         refine tk' 16 HS ?_
         refine tk' 17 HS ?_
         refine tk' 18 HS ?_
         refine tk' 19 HS ?_
         refine tk' 20 HS ?_
         refine tk' 21 HS ?_
         refine tk' 22 HS ?_
         refine tk' 23 HS ?_
         refine tk' 24 HS ?_
         refine tk' 25 HS ?_
         refine tk' 26 HS ?_
         refine tk' 27 HS ?_
         refine tk' 28 HS ?_
         refine wpAnyH_done (by kernel_rfl) ?_ _
         refine NoPanic.normal ?_
         go_wp2
         go_ret
         refine ⟨ret_bool ?_, hbw.trans (hal.trans HS.2.2.2)⟩
         exact (show schB xs = false by unfold schB; rw [all_not hxk.out (show schAt xs _ x = false by unfold schAt; rw [HT.out, HK2.out, HP.out, hlv]; simp)]; rfl).symm
      ·
       have hk0 := hk
       have hk00 := hk
       go_wp2_with fail
       have hal := (Grew.refl wr).alloc (.cells #[.string x.name, .int .i64 x.kind] 87)
       have g0 : (wr.alloc (.cells #[.string x.name, .int .i64 x.kind] 87)).cell? ⟨wr.heap.size, 0, none⟩ = some (.string x.name) := by simp
       have g1 : (wr.alloc (.cells #[.string x.name, .int .i64 x.kind] 87)).cell? ⟨wr.heap.size, 1, none⟩ = some (.int .i64 x.kind) := by simp
       replace d0 := grew_cell hal d0
       refine wp_region_noPanic ?_
       refine wp_region_held_drew (S := (fun w' => (w'.cell? ⟨wr.heap.size, 0, none⟩ = some (.string x.name) ∧ w'.cell? ⟨wr.heap.size, 1, none⟩ = some (.int .i64 x.kind) ∧ w'.cell? ⟨b1, o1 + p * 2, none⟩ = some (.string y.name) ∧ Grew (wr.alloc (.cells #[.string x.name, .int .i64 x.kind] 87)) w'))) (by kernel_rfl) ?h15_S ?h15_r
       case h15_S => exact ⟨grew_cell (Grew.refl _).drew g0, grew_cell (Grew.refl _).drew g1, grew_cell (Grew.refl _).drew d0, (Grew.refl _).drew⟩
       case h15_r =>
        intro HS
        refine tk' 0 HS ?_
        refine tk' 1 HS ?_
        refine cl' 2 fun K hK => ?_
        go_simp
        go_at_call 87
        refine (implIsValidAttrName _ _ hs1).mono ?_
        rintro e w1 ⟨he, rfl⟩
        rw [HT.out] at he
        subst he
        refine hK.out _ _ ?s15_2 ?r15_2
        case s15_2 => (try dsimp only); first | exact HS | exact ⟨grew_cell hb HS.1, grew_cell hb HS.2.1, grew_cell hb HS.2.2.1, HS.2.2.2.trans hb⟩
        case r15_2 =>
         clear HS hK K; intro HS
         try simp only [Act.put, lpa, lpb, lpc]
         refine tk' 3 HS ?_
         refine tk' 4 HS ?_
         refine tk' 5 HS ?_
         refine tk' 6 HS ?_
         refine tk' 7 HS ?_
         refine tk' 8 HS ?_
         refine sk' 9 HS ?_
         refine sk' 10 HS ?_
         refine sk' 11 HS ?_
         refine tk' 12 HS ?_
         refine tk' 13 HS ?_
         refine tk' 14 HS ?_
         refine tk' 15 HS ?_
         refine tk' 16 HS ?_
         refine tk' 17 HS ?_
         refine tk' 18 HS ?_
         refine tk' 19 HS ?_
         refine tk' 20 HS ?_
         refine tk' 21 HS ?_
         refine tk' 22 HS ?_
         refine tk' 23 HS ?_
         refine tk' 24 HS ?_
         refine tk' 25 HS ?_
         refine tk' 26 HS ?_
         refine tk' 27 HS ?_
         refine tk' 28 HS ?_
         refine wpAnyH_done (by kernel_rfl) ?_ _
         refine NoPanic.normal ?_
         go_wp2
         go_roundw
         case rel => exact ⟨p + 1 + 1, by omega, by go_num, Lib.hid (upTo_snoc hsame.out hxk.out (by show schAt xs _ x = true; unfold schAt; rw [HT.out, HK2.out, HP.out, hlv]; rfl)), hbel.trans (hal.trans HS.2.2.2)⟩
         case measure => simp [intOf]; omega
    ·
     have hk0 := hk
     have h11 : ¬ (x.kind = 1) := by simpa using hq1
     have h1n : (x.kind != 1) = true := by unfold bne; rw [hq1]; rfl
     have hcq2 : (x.kind == 2) = true ∨ (x.kind == 2) = false := by cases x.kind == 2 <;> simp
     rcases hcq2 with hq2 | hq2
     ·
      have hk0 := hk
      have h2n : (x.kind != 2) = false := by unfold bne; rw [hq2]; rfl
      have HK2 := Lib.hid (show inB x.kind 1 2 = true by rw [in12, hq1, hq2]; rfl)
      by_cases hk1 : ¬ (0 < k)
      ·
       have hk0 := hk
       have hk00 := hk
       go_wp2_with fail
       have hal := (Grew.refl wr).alloc (.cells #[.string x.name, .int .i64 x.kind] 87)
       have g0 : (wr.alloc (.cells #[.string x.name, .int .i64 x.kind] 87)).cell? ⟨wr.heap.size, 0, none⟩ = some (.string x.name) := by simp
       have g1 : (wr.alloc (.cells #[.string x.name, .int .i64 x.kind] 87)).cell? ⟨wr.heap.size, 1, none⟩ = some (.int .i64 x.kind) := by simp
       refine wp_region_noPanic ?_
       refine wp_region_held_drew (S := (fun w' => (w'.cell? ⟨wr.heap.size, 0, none⟩ = some (.string x.name) ∧ w'.cell? ⟨wr.heap.size, 1, none⟩ = some (.int .i64 x.kind) ∧ Grew (wr.alloc (.cells #[.string x.name, .int .i64 x.kind] 87)) w'))) (by kernel_rfl) ?h16_S ?h16_r
       case h16_S => exact ⟨grew_cell (Grew.refl _).drew g0, grew_cell (Grew.refl _).drew g1, (Grew.refl _).drew⟩
       case h16_r =>
        intro HS
        refine tk' 0 HS ?_
        refine tk' 1 HS ?_
        refine cl' 2 fun K hK => ?_
        go_simp
        go_at_call 87
        refine (implIsValidAttrName _ _ hs1).mono ?_
        rintro e w1 ⟨he, rfl⟩
        rw [HT.out] at he
        subst he
        refine hK.out _ _ ?s16_2 ?r16_2
        case s16_2 => (try dsimp only); first | exact HS | exact ⟨grew_cell hb HS.1, grew_cell hb HS.2.1, HS.2.2.trans hb⟩
        case r16_2 =>
         clear HS hK K; intro HS
         try simp only [Act.put, lpa, lpb, lpc]
         refine tk' 3 HS ?_
         refine tk' 4 HS ?_
         refine tk' 5 HS ?_
         refine tk' 6 HS ?_
         refine tk' 7 HS ?_
         refine tk' 8 HS ?_
         refine tk' 9 HS ?_
         refine tk' 10 HS ?_
         refine tk' 11 HS ?_
         refine tk' 12 HS ?_
         refine tk' 13 HS ?_
         refine tk' 14 HS ?_
         refine tk' 15 HS ?_
         refine tk' 16 HS ?_
         refine tk' 17 HS ?_
         refine sk' 18 HS ?_
         refine sk' 19 HS ?_
         refine sk' 20 HS ?_
         refine sk' 21 HS ?_
         refine sk' 22 HS ?_
         refine sk' 23 HS ?_
         refine sk' 24 HS ?_
         refine sk' 25 HS ?_
         refine sk' 26 HS ?_
         refine tk' 27 HS ?_
         refine tk' 28 HS ?_
         refine wpAnyH_done (by kernel_rfl) ?_ _
         refine NoPanic.normal ?_
         go_wp2
         go_roundw
         case rel => exact ⟨k + 1, by omega, by go_num, Lib.hid (upTo_snoc hsame.out hxk.out (by show schAt xs _ x = true; unfold schAt; rw [HT.out, HK2.out, Nat.eq_zero_of_not_pos hk1]; rfl)), hbel.trans (hal.trans HS.2.2)⟩
         case measure => simp [intOf]; omega
      ·
       have hk0 := hk
       obtain ⟨p, rfl⟩ : ∃ p, k = p + 1 := ⟨k - 1, by omega⟩
       obtain ⟨b2, o2, y, hab, hyk, d0, d1⟩ := (hra.grew hbw).getFd (show p < n by omega)
       obtain ⟨rfl, rfl⟩ : b1 = b2 ∧ o1 = o2 := by cases hab; exact ⟨rfl, rfl⟩
       clear hab
       clear d1
       have hpp : ((p + 1 : Nat) : Int) - 1 = (p : Int) := by omega
       have hp0 : (0 : Int) ≤ (p : Int) + 1 := by omega
       have hp1 : (p : Int) < (n : Int) := by omega
       have hp2 : (p : Int) + 1 < (n : Int) := by omega
       have hwp : IntKind.i64.wrap (p : Int) = (p : Int) := by simp [IntKind.wrap, IntKind.bits, IntKind.signed]; omega
       obtain ⟨lv, hlv⟩ : ∃ b, Op.bytesLess y.name.toList x.name.toList = b := ⟨_, rfl⟩
       have HP := Lib.hid (prevOk_succ (lt := fun (y x : Fd) => Op.bytesLess y.name.toList x.name.toList) (x := x) hyk.out)
       have hcl : lv = false ∨ lv = true := by cases lv <;> simp
       rcases hcl with rfl | rfl
       ·
        have hk0 := hk
        have hk00 := hk
        go_wp2_with fail
        have hal := (Grew.refl wr).alloc (.cells #[.string x.name, .int .i64 x.kind] 87)
        have g0 : (wr.alloc (.cells #[.string x.name, .int .i64 x.kind] 87)).cell? ⟨wr.heap.size, 0, none⟩ = some (.string x.name) := by simp
        have g1 : (wr.alloc (.cells #[.string x.name, .int .i64 x.kind] 87)).cell? ⟨wr.heap.size, 1, none⟩ = some (.int .i64 x.kind) := by simp
        replace d0 := grew_cell hal d0
        refine wp_region_noPanic ?_
        refine wp_region_held_drew (S := (fun w' => (w'.cell? ⟨wr.heap.size, 0, none⟩ = some (.string x.name) ∧ w'.cell? ⟨wr.heap.size, 1, none⟩ = some (.int .i64 x.kind) ∧ w'.cell? ⟨b1, o1 + p * 2, none⟩ = some (.string y.name) ∧ Grew (wr.alloc (.cells #[.string x.name, .int .i64 x.kind] 87)) w'))) (by kernel_rfl) ?h17_S ?h17_r
        case h17_S => exact ⟨grew_cell (Grew.refl _).drew g0, grew_cell (Grew.refl _).drew g1, grew_cell (Grew.refl _).drew d0, (Grew.refl _).drew⟩
        case h17_r =>
         intro HS
         refine tk' 0 HS ?_
         refine tk' 1 HS ?_
         refine cl' 2 fun K hK => ?_
         go_simp
         go_at_call 87
         refine (implIsValidAttrName _ _ hs1).mono ?_
         rintro e w1 ⟨he, rfl⟩
         rw [HT.out] at he
         subst he
         refine hK.out _ _ ?s17_2 ?r17_2
         case s17_2 => (try dsimp only); first | exact HS | exact ⟨grew_cell hb HS.1, grew_cell hb HS.2.1, grew_cell hb HS.2.2.1, HS.2.2.2.trans hb⟩
         case r17_2 =>
          clear HS hK K; intro HS
          try simp only [Act.put, lpa, lpb, lpc]
          refine tk' 3 HS ?_
          refine tk' 4 HS ?_
          refine tk' 5 HS ?_
          refine tk' 6 HS ?_
          refine tk' 7 HS ?_
          refine tk' 8 HS ?_
          refine tk' 9 HS ?_
          refine tk' 10 HS ?_
          refine tk' 11 HS ?_
          refine tk' 12 HS ?_
          refine tk' 13 HS ?_
          refine tk' 14 HS ?_
          refine tk' 15 HS ?_
          refine tk' 16 HS ?_
          refine tk' 17 HS ?_
          refine tk' 18 HS ?_
          refine tk' 19 HS ?_
          refine tk' 20 HS ?_
          refine tk' 21 HS ?_
          refine tk' 22 HS ?_
          refine tk' 23 HS ?_
          refine tk' 24 HS ?_
          refine tk' 25 HS ?_
          refine tk' 26 HS ?_
          refine tk' 27 HS ?_
          refine tk' 28 HS ?_
          refine wpAnyH_done (by kernel_rfl) ?_ _
          refine NoPanic.normal ?_
          go_wp2
          go_ret
          refine ⟨ret_bool ?_, hbw.trans (hal.trans HS.2.2.2)⟩
          exact (show schB xs = false by unfold schB; rw [all_not hxk.out (show schAt xs _ x = false by unfold schAt; rw [HT.out, HK2.out, HP.out, hlv]; simp)]; rfl).symm
       ·
        have hk0 := hk
        have hk00 := hk
        go_wp2_with fail
        have hal := (Grew.refl wr).alloc (.cells #[.string x.name, .int .i64 x.kind] 87)
        have g0 : (wr.alloc (.cells #[.string x.name, .int .i64 x.kind] 87)).cell? ⟨wr.heap.size, 0, none⟩ = some (.string x.name) := by simp
        have g1 : (wr.alloc (.cells #[.string x.name, .int .i64 x.kind] 87)).cell? ⟨wr.heap.size, 1, none⟩ = some (.int .i64 x.kind) := by simp
        replace d0 := grew_cell hal d0
        refine wp_region_noPanic ?_
        refine wp_region_held_drew (S := (fun w' => (w'.cell? ⟨wr.heap.size, 0, none⟩ = some (.string x.name) ∧ w'.cell? ⟨wr.heap.size, 1, none⟩ = some (.int .i64 x.kind) ∧ w'.cell? ⟨b1, o1 + p * 2, none⟩ = some (.string y.name) ∧ Grew (wr.alloc (.cells #[.string x.name, .int .i64 x.kind] 87)) w'))) (by kernel_rfl) ?h18_S ?h18_r
        case h18_S => exact ⟨grew_cell (Grew.refl _).drew g0, grew_cell (Grew.refl _).drew g1, grew_cell (Grew.refl _).drew d0, (Grew.refl _).drew⟩
        case h18_r =>
         intro HS
         refine tk' 0 HS ?_
         refine tk' 1 HS ?_
         refine cl' 2 fun K hK => ?_
         go_simp
         go_at_call 87
         refine (implIsValidAttrName _ _ hs1).mono ?_
         rintro e w1 ⟨he, rfl⟩
         rw [HT.out] at he
         subst he
         refine hK.out _ _ ?s18_2 ?r18_2
         case s18_2 => (try dsimp only); first | exact HS | exact ⟨grew_cell hb HS.1, grew_cell hb HS.2.1, grew_cell hb HS.2.2.1, HS.2.2.2.trans hb⟩
         case r18_2 =>
          clear HS hK K; intro HS
          try simp only [Act.put, lpa, lpb, lpc]
          refine tk' 3 HS ?_
          refine tk' 4 HS ?_
          refine tk' 5 HS ?_
          refine tk' 6 HS ?_
          refine tk' 7 HS ?_
          refine tk' 8 HS ?_
          refine tk' 9 HS ?_
          refine tk' 10 HS ?_
          refine tk' 11 HS ?_
          refine tk' 12 HS ?_
          refine tk' 13 HS ?_
          refine tk' 14 HS ?_
          refine tk' 15 HS ?_
          refine tk' 16 HS ?_
          refine tk' 17 HS ?_
          refine tk' 18 HS ?_
          refine tk' 19 HS ?_
          refine tk' 20 HS ?_
          refine tk' 21 HS ?_
          refine tk' 22 HS ?_
          refine tk' 23 HS ?_
          refine tk' 24 HS ?_
          refine tk' 25 HS ?_
          refine tk' 26 HS ?_
          refine tk' 27 HS ?_
          refine tk' 28 HS ?_
          refine wpAnyH_done (by kernel_rfl) ?_ _
          refine NoPanic.normal ?_
          go_wp2
          go_roundw
          case rel => exact ⟨p + 1 + 1, by omega, by go_num, Lib.hid (upTo_snoc hsame.out hxk.out (by show schAt xs _ x = true; unfold schAt; rw [HT.out, HK2.out, HP.out, hlv]; rfl)), hbel.trans (hal.trans HS.2.2.2)⟩
          case measure => simp [intOf]; omega
     ·
      have hk0 := hk
      have h22 : ¬ (x.kind = 2) := by simpa using hq2
      have h2n : (x.kind != 2) = true := by unfold bne; rw [hq2]; rfl
      have HK2 := Lib.hid (show inB x.kind 1 2 = false by rw [in12, hq1, hq2]; rfl)
      have hk00 := hk
      go_wp2_with fail
      have hal := (Grew.refl wr).alloc (.cells #[.string x.name, .int .i64 x.kind] 87)
      have g0 : (wr.alloc (.cells #[.string x.name, .int .i64 x.kind] 87)).cell? ⟨wr.heap.size, 0, none⟩ = some (.string x.name) := by simp
      have g1 : (wr.alloc (.cells #[.string x.name, .int .i64 x.kind] 87)).cell? ⟨wr.heap.size, 1, none⟩ = some (.int .i64 x.kind) := by simp
      refine wp_region_noPanic ?_
      refine wp_region_held_drew (S := (fun w' => (w'.cell? ⟨wr.heap.size, 0, none⟩ = some (.string x.name) ∧ w'.cell? ⟨wr.heap.size, 1, none⟩ = some (.int .i64 x.kind) ∧ Grew (wr.alloc (.cells #[.string x.name, .int .i64 x.kind] 87)) w'))) (by kernel_rfl) ?h19_S ?h19_r
      case h19_S => exact ⟨grew_cell (Grew.refl _).drew g0, grew_cell (Grew.refl _).drew g1, (Grew.refl _).drew⟩
      case h19_r =>
       intro HS
       refine tk' 0 HS ?_
       refine tk' 1 HS ?_
       refine cl' 2 fun K hK => ?_
       go_simp
       go_at_call 87
       refine (implIsValidAttrName _ _ hs1).mono ?_
       rintro e w1 ⟨he, rfl⟩
       rw [HT.out] at he
       subst he
       refine hK.out _ _ ?s19_2 ?r19_2
       case s19_2 => (try dsimp only); first | exact HS | exact ⟨grew_cell hb HS.1, grew_cell hb HS.2.1, HS.2.2.trans hb⟩
       case r19_2 =>
        clear HS hK K; intro HS
        try simp only [Act.put, lpa, lpb, lpc]
        refine tk' 3 HS ?_
        refine tk' 4 HS ?_
        refine tk' 5 HS ?_
        refine tk' 6 HS ?_
        refine tk' 7 HS ?_
        refine tk' 8 HS ?_
        refine tk' 9 HS ?_
        refine tk' 10 HS ?_
        refine tk' 11 HS ?_
        refine tk' 12 HS ?_
        refine tk' 13 HS ?_
        refine tk' 14 HS ?_
        refine sk' 15 HS ?_
        refine sk' 16 HS ?_
        refine sk' 17 HS ?_
        refine sk' 18 HS ?_
        refine sk' 19 HS ?_
        refine sk' 20 HS ?_
        refine sk' 21 HS ?_
        refine sk' 22 HS ?_
        refine sk' 23 HS ?_
        refine sk' 24 HS ?_
        refine sk' 25 HS ?_
        refine sk' 26 HS ?_
        refine sk' 27 HS ?_
        refine tk' 28 HS ?_
        refine wpAnyH_done (by kernel_rfl) ?_ _
        refine NoPanic.normal ?_
        go_wp2
        go_ret
        refine ⟨ret_bool ?_, hbw.trans (hal.trans HS.2.2)⟩
        exact (show schB xs = false by unfold schB; rw [all_not hxk.out (show schAt xs _ x = false by unfold schAt; rw [HT.out, HK2.out]; simp)]; rfl).symm
  ·
   obtain rfl : k = n := by omega
   have hy := Lib.hid (all_up HX.out hsame.out)
   go_wp2
   go_ret
   refine ⟨ret_bool ?_, hbel⟩
   unfold schB; rw [hy.out, HX.out]; simp; omega
set_option maxRecDepth 100000 in
set_option maxHeartbeats 4000000 in
theorem specIsValidFile (va : Value) (m : Nat) (fs : List Fd) (f : Fl) (p5 : P5) (w : World) (ha : Rd w va 2 m (rows Fd.c fs)) (hf : Fl.R w f p5) (hx : m ≤ 4000000) (hzs : szAll Fd.sz fs ≤ 4000000) (hz : f.sz ≤ 4000000) :
  Calls Tryz.prog 22 #[va, p5.v] w fun e w' => e = .returned (.bool (filB fs f)) ∧ Grew w w' := by
 have HS0 := Lib.hid ha
 obtain ⟨sa, sc, rfl, hsc, hsr⟩ := ha
 clear hsr hsc
 obtain ⟨pi, po, psh, pl, pa⟩ := p5
 obtain ⟨h1, h2, h3, h4, h5⟩ := hf
 simp only at h1 h2 h3 h4 h5
 subst h1 h2 h3 h4
 obtain ⟨a, ca, rfl, hca, hra⟩ := h5
 have hfl : f.attrs.length ≤ 4000000 := by unfold Fl.sz at hz; omega
 have HZ := Lib.hid (show szAll At.sz f.attrs ≤ 4000000 by unfold Fl.sz at hz; omega)
 obtain ⟨bi, hbi⟩ : ∃ b, inB f.id 1 60 = b := ⟨_, rfl⟩
 obtain ⟨bo, hbo⟩ : ∃ b, inB f.owner 0 2 = b := ⟨_, rfl⟩
 obtain ⟨bl, hbl⟩ : ∃ b, inB f.link 0 60 = b := ⟨_, rfl⟩
 obtain ⟨bs, hbs⟩ : ∃ b, schB fs = b := ⟨_, rfl⟩
 have HI := Lib.hid hbi
 have HO := Lib.hid hbo
 have HL := Lib.hid hbl
 have HC := Lib.hid hbs
 clear hbi hbo hbl hbs
 have hg0 := (Grew.refl w).alloc (.cells #[.int .i64 f.id, .int .i64 f.owner, .bool f.shared, .int .i64 f.link, .slice a f.attrs.length ca] 55)
 have x0 : (w.alloc (.cells #[.int .i64 f.id, .int .i64 f.owner, .bool f.shared, .int .i64 f.link, .slice a f.attrs.length ca] 55)).cell? ⟨w.heap.size, 0, none⟩ = some (.int .i64 f.id) := by simp
 have x1 : (w.alloc (.cells #[.int .i64 f.id, .int .i64 f.owner, .bool f.shared, .int .i64 f.link, .slice a f.attrs.length ca] 55)).cell? ⟨w.heap.size, 1, none⟩ = some (.int .i64 f.owner) := by simp
 have x3 : (w.alloc (.cells #[.int .i64 f.id, .int .i64 f.owner, .bool f.shared, .int .i64 f.link, .slice a f.attrs.length ca] 55)).cell? ⟨w.heap.size, 3, none⟩ = some (.int .i64 f.link) := by simp
 have x4 : (w.alloc (.cells #[.int .i64 f.id, .int .i64 f.owner, .bool f.shared, .int .i64 f.link, .slice a f.attrs.length ca] 55)).cell? ⟨w.heap.size, 4, none⟩ = some (.slice a f.attrs.length ca) := by simp
 generalize hn : f.attrs.length = n at hfl hra hca x0 x1 x3 x4 hg0
 have HX := Lib.hid hn
 change Calls Tryz.prog _ #[_, .agg #[.int .i64 f.id, .int .i64 f.owner, .bool f.shared, .int .i64 f.link, .slice a n ca]] w _
 clear hn
 go_enter Tryz.func22, Tryz.ntmps22
 go_wp2
 go_loopw [5] (fun i wr => ∃ k : Nat, k ≤ n ∧ i = .int .i64 k ∧ Hid (upTo (filAt fs f.attrs) f.attrs k) ∧ Grew (w.alloc (.cells #[.int .i64 f.id, .int .i64 f.owner, .bool f.shared, .int .i64 f.link, .slice a n ca] 55)) wr) (fun i _ => n - (intOf i).toNat)
 case atStart => exact ⟨0, Nat.zero_le _, rfl, Lib.hid (upTo_zero _ _), Grew.refl _⟩
 case round =>
  obtain ⟨k, hk, rfl, hsame, hbel⟩ := hrel
  have hbw := hg0.trans hbel
  by_cases hlt : k < n
  ·
   obtain ⟨b1, o1, x, rfl, hxk, c0, c1, c2, c3⟩ := (hra.grew hbw).getAt hlt
   have hs1 := (at_sz HZ.out hxk.out).1
   have hs2 := (at_sz HZ.out hxk.out).2
   obtain ⟨mv, hmv⟩ : ∃ b, mscB fs x.name x.val = b := ⟨_, rfl⟩
   have HM := Lib.hid hmv
   clear hmv
   have hcm : mv = false ∨ mv = true := by cases mv <;> simp
   have ex4 := grew_cell hbel x4
   rcases hcm with rfl | rfl
   ·
    have hk0 := hk
    have hk00 := hk
    go_wp2_with fail
    refine wp_region_noPanic ?_
    refine wp_region_held_drew (S := (fun w' => (w'.cell? ⟨w.heap.size, 4, none⟩ = some (.slice (some ⟨b1, o1, none⟩) n ca) ∧ w'.cell? ⟨b1, o1 + k * 4, none⟩ = some (.string x.name) ∧ w'.cell? ⟨b1, o1 + k * 4 + 1, none⟩ = some (.int .i64 x.val.kind) ∧ w'.cell? ⟨b1, o1 + k * 4 + 2, none⟩ = some (.int .i64 x.val.int) ∧ w'.cell? ⟨b1, o1 + k * 4 + 3, none⟩ = some (.string x.val.str) ∧ Grew wr w'))) (by kernel_rfl) ?h20_S ?h20_r
    case h20_S => exact ⟨grew_cell (Grew.refl _).drew ex4, grew_cell (Grew.refl _).drew c0, grew_cell (Grew.refl _).drew c1, grew_cell (Grew.refl _).drew c2, grew_cell (Grew.refl _).drew c3, (Grew.refl _).drew⟩
    case h20_r =>
     intro HS
     refine tk' 0 HS ?_
     refine tk' 1 HS ?_
     refine tk' 2 HS ?_
     refine tk' 3 HS ?_
     refine tk' 4 HS ?_
     refine tk' 5 HS ?_
     refine tk' 6 HS ?_
     refine tk' 7 HS ?_
     refine tk' 8 HS ?_
     refine tk' 9 HS ?_
     refine tk' 10 HS ?_
     refine tk' 11 HS ?_
     refine tk' 12 HS ?_
     refine cl' 13 fun K hK => ?_
     go_simp
     go_at_call 48
     refine (specMatchesSchema _ m fs x.name x.val _ (HS0.out.grew (hbw.trans HS.2.2.2.2.2)) hx hs2).mono ?_
     rintro e w1 ⟨he, hb⟩
     rw [HM.out] at he
     subst he
     refine hK.out _ _ ?s20_13 ?r20_13
     case s20_13 => (try dsimp only); first | exact HS | exact ⟨grew_cell hb HS.1, grew_cell hb HS.2.1, grew_cell hb HS.2.2.1, grew_cell hb HS.2.2.2.1, grew_cell hb HS.2.2.2.2.1, HS.2.2.2.2.2.trans hb⟩
     case r20_13 =>
      clear HS hK K; intro HS
      try simp only [Act.put, lpa, lpb, lpc]
      refine tk' 14 HS ?_
      refine tk' 15 HS ?_
      refine sk' 16 HS ?_
      refine sk' 17 HS ?_
      refine sk' 18 HS ?_
      refine sk' 19 HS ?_
      refine sk' 20 HS ?_
      refine sk' 21 HS ?_
      refine sk' 22 HS ?_
      refine sk' 23 HS ?_
      refine sk' 24 HS ?_
      refine sk' 25 HS ?_
      refine sk' 26 HS ?_
      refine sk' 27 HS ?_
      refine sk' 28 HS ?_
      refine sk' 29 HS ?_
      refine sk' 30 HS ?_
      refine sk' 31 HS ?_
      refine sk' 32 HS ?_
      refine sk' 33 HS ?_
      refine tk' 34 HS ?_
      refine wpAnyH_done (by kernel_rfl) ?_ _
      refine NoPanic.normal ?_
      go_wp2
      go_ret
      refine ⟨ret_bool ?_, hbw.trans HS.2.2.2.2.2⟩
      exact (show filB fs f = false by unfold filB; rw [all_not hxk.out (show filAt fs f.attrs _ x = false by unfold filAt; rw [HM.out]; simp)]; rfl).symm
   ·
    have hk0 := hk
    by_cases hk1 : ¬ (0 < k)
    ·
     have hk0 := hk
     have hk00 := hk
     go_wp2_with fail
     refine wp_region_noPanic ?_
     refine wp_region_held_drew (S := (fun w' => (w'.cell? ⟨w.heap.size, 4, none⟩ = some (.slice (some ⟨b1, o1, none⟩) n ca) ∧ w'.cell? ⟨b1, o1 + k * 4, none⟩ = some (.string x.name) ∧ w'.cell? ⟨b1, o1 + k * 4 + 1, none⟩ = some (.int .i64 x.val.kind) ∧ w'.cell? ⟨b1, o1 + k * 4 + 2, none⟩ = some (.int .i64 x.val.int) ∧ w'.cell? ⟨b1, o1 + k * 4 + 3, none⟩ = some (.string x.val.str) ∧ Grew wr w'))) (by kernel_rfl) ?h21_S ?h21_r
     case h21_S => exact ⟨grew_cell (Grew.refl _).drew ex4, grew_cell (Grew.refl _).drew c0, grew_cell (Grew.refl _).drew c1, grew_cell (Grew.refl _).drew c2, grew_cell (Grew.refl _).drew c3, (Grew.refl _).drew⟩
     case h21_r =>
      intro HS
      refine tk' 0 HS ?_
      refine tk' 1 HS ?_
      refine tk' 2 HS ?_
      refine tk' 3 HS ?_
      refine tk' 4 HS ?_
      refine tk' 5 HS ?_
      refine tk' 6 HS ?_
      refine tk' 7 HS ?_
      refine tk' 8 HS ?_
      refine tk' 9 HS ?_
      refine tk' 10 HS ?_
      refine tk' 11 HS ?_
      refine tk' 12 HS ?_
      refine cl' 13 fun K hK => ?_
      go_simp
      go_at_call 48
      refine (specMatchesSchema _ m fs x.name x.val _ (HS0.out.grew (hbw.trans HS.2.2.2.2.2)) hx hs2).mono ?_
      rintro e w1 ⟨he, hb⟩
      rw [HM.out] at he
      subst he
      refine hK.out _ _ ?s21_13 ?r21_13
      case s21_13 => (try dsimp only); first | exact HS | exact ⟨grew_cell hb HS.1, grew_cell hb HS.2.1, grew_cell hb HS.2.2.1, grew_cell hb HS.2.2.2.1, grew_cell hb HS.2.2.2.2.1, HS.2.2.2.2.2.trans hb⟩
      case r21_13 =>
       clear HS hK K; intro HS
       try simp only [Act.put, lpa, lpb, lpc]
       refine tk' 14 HS ?_
       refine tk' 15 HS ?_
       refine tk' 16 HS ?_
       refine tk' 17 HS ?_
       refine tk' 18 HS ?_
       refine sk' 19 HS ?_
       refine sk' 20 HS ?_
       refine sk' 21 HS ?_
       refine sk' 22 HS ?_
       refine sk' 23 HS ?_
       refine sk' 24 HS ?_
       refine sk' 25 HS ?_
       refine sk' 26 HS ?_
       refine sk' 27 HS ?_
       refine sk' 28 HS ?_
       refine sk' 29 HS ?_
       refine sk' 30 HS ?_
       refine sk' 31 HS ?_
       refine sk' 32 HS ?_
       refine tk' 33 HS ?_
       refine tk' 34 HS ?_
       refine wpAnyH_done (by kernel_rfl) ?_ _
       refine NoPanic.normal ?_
       go_wp2
       go_roundw
       case rel => exact ⟨k + 1, by omega, by go_num, Lib.hid (upTo_snoc hsame.out hxk.out (by show filAt fs f.attrs _ x = true; unfold filAt; rw [HM.out, Nat.eq_zero_of_not_pos hk1]; rfl)), hbel.trans HS.2.2.2.2.2⟩
       case measure => simp [intOf]; omega
    ·
     have hk0 := hk
     obtain ⟨p, rfl⟩ : ∃ p, k = p + 1 := ⟨k - 1, by omega⟩
     obtain ⟨b2, o2, y, hab, hyk, d0, d1, d2, d3⟩ := (hra.grew hbw).getAt (show p < n by omega)
     obtain ⟨rfl, rfl⟩ : b1 = b2 ∧ o1 = o2 := by cases hab; exact ⟨rfl, rfl⟩
     clear hab
     clear d1 d2 d3
     have hpp : ((p + 1 : Nat) : Int) - 1 = (p : Int) := by omega
     have hp0 : (0 : Int) ≤ (p : Int) + 1 := by omega
     have hp1 : (p : Int) < (n : Int) := by omega
     have hp2 : (p : Int) + 1 < (n : Int) := by omega
     have hwp : IntKind.i64.wrap (p : Int) = (p : Int) := by simp [IntKind.wrap, IntKind.bits, IntKind.signed]; omega
     obtain ⟨lv, hlv⟩ : ∃ b, Op.bytesLess y.name.toList x.name.toList = b := ⟨_, rfl⟩
     have HP := Lib.hid (prevOk_succ (lt := fun (y x : At) => Op.bytesLess y.name.toList x.name.toList) (x := x) hyk.out)
     have hcl : lv = false ∨ lv = true := by cases lv <;> simp
     rcases hcl with rfl | rfl
     ·
      have hk0 := hk
      have hk00 := hk
      go_wp2_with fail
      refine wp_region_noPanic ?_
      refine wp_region_held_drew (S := (fun w' => (w'.cell? ⟨w.heap.size, 4, none⟩ = some (.slice (some ⟨b1, o1, none⟩) n ca) ∧ w'.cell? ⟨b1, o1 + (p + 1) * 4, none⟩ = some (.string x.name) ∧ w'.cell? ⟨b1, o1 + (p + 1) * 4 + 1, none⟩ = some (.int .i64 x.val.kind) ∧ w'.cell? ⟨b1, o1 + (p + 1) * 4 + 2, none⟩ = some (.int .i64 x.val.int) ∧ w'.cell? ⟨b1, o1 + (p + 1) * 4 + 3, none⟩ = some (.string x.val.str) ∧ w'.cell? ⟨b1, o1 + p * 4, none⟩ = some (.string y.name) ∧ Grew wr w'))) (by kernel_rfl) ?h22_S ?h22_r
      case h22_S => exact ⟨grew_cell (Grew.refl _).drew ex4, grew_cell (Grew.refl _).drew c0, grew_cell (Grew.refl _).drew c1, grew_cell (Grew.refl _).drew c2, grew_cell (Grew.refl _).drew c3, grew_cell (Grew.refl _).drew d0, (Grew.refl _).drew⟩
      case h22_r =>
       intro HS
       refine tk' 0 HS ?_
       refine tk' 1 HS ?_
       refine tk' 2 HS ?_
       refine tk' 3 HS ?_
       refine tk' 4 HS ?_
       refine tk' 5 HS ?_
       refine tk' 6 HS ?_
       refine tk' 7 HS ?_
       refine tk' 8 HS ?_
       refine tk' 9 HS ?_
       refine tk' 10 HS ?_
       refine tk' 11 HS ?_
       refine tk' 12 HS ?_
       refine cl' 13 fun K hK => ?_
       go_simp
       go_at_call 48
       refine (specMatchesSchema _ m fs x.name x.val _ (HS0.out.grew (hbw.trans HS.2.2.2.2.2.2)) hx hs2).mono ?_
       rintro e w1 ⟨he, hb⟩
       rw [HM.out] at he
       subst he
       refine hK.out _ _ ?s22_13 ?r22_13
       case s22_13 => (try dsimp only); first | exact HS | exact ⟨grew_cell hb HS.1, grew_cell hb HS.2.1, grew_cell hb HS.2.2.1, grew_cell hb HS.2.2.2.1, grew_cell hb HS.2.2.2.2.1, grew_cell hb HS.2.2.2.2.2.1, HS.2.2.2.2.2.2.trans hb⟩
       case r22_13 =>
        clear HS hK K; intro HS
        try simp only [Act.put, lpa, lpb, lpc]
        refine tk' 14 HS ?_
        refine tk' 15 HS ?_
        refine tk' 16 HS ?_
        refine tk' 17 HS ?_
        refine tk' 18 HS ?_
        refine tk' 19 HS ?_
        refine tk' 20 HS ?_
        refine tk' 21 HS ?_
        refine tk' 22 HS ?_
        refine tk' 23 HS ?_
        refine tk' 24 HS ?_
        refine tk' 25 HS ?_
        refine tk' 26 HS ?_
        refine tk' 27 HS ?_
        refine tk' 28 HS ?_
        refine tk' 29 HS ?_
        refine tk' 30 HS ?_
        refine tk' 31 HS ?_
        refine tk' 32 HS ?_
        refine tk' 33 HS ?_
        refine tk' 34 HS ?_
        refine wpAnyH_done (by kernel_rfl) ?_ _
        refine NoPanic.normal ?_
        go_wp2
        go_ret
        refine ⟨ret_bool ?_, hbw.trans HS.2.2.2.2.2.2⟩
        exact (show filB fs f = false by unfold filB; rw [all_not hxk.out (show filAt fs f.attrs _ x = false by unfold filAt; rw [HM.out, HP.out, hlv]; simp)]; rfl).symm
     ·
      have hk0 := hk
      have hk00 := hk
      go_wp2_with fail
      refine wp_region_noPanic ?_
      refine wp_region_held_drew (S := (fun w' => (w'.cell? ⟨w.heap.size, 4, none⟩ = some (.slice (some ⟨b1, o1, none⟩) n ca) ∧ w'.cell? ⟨b1, o1 + (p + 1) * 4, none⟩ = some (.string x.name) ∧ w'.cell? ⟨b1, o1 + (p + 1) * 4 + 1, none⟩ = some (.int .i64 x.val.kind) ∧ w'.cell? ⟨b1, o1 + (p + 1) * 4 + 2, none⟩ = some (.int .i64 x.val.int) ∧ w'.cell? ⟨b1, o1 + (p + 1) * 4 + 3, none⟩ = some (.string x.val.str) ∧ w'.cell? ⟨b1, o1 + p * 4, none⟩ = some (.string y.name) ∧ Grew wr w'))) (by kernel_rfl) ?h23_S ?h23_r
      case h23_S => exact ⟨grew_cell (Grew.refl _).drew ex4, grew_cell (Grew.refl _).drew c0, grew_cell (Grew.refl _).drew c1, grew_cell (Grew.refl _).drew c2, grew_cell (Grew.refl _).drew c3, grew_cell (Grew.refl _).drew d0, (Grew.refl _).drew⟩
      case h23_r =>
       intro HS
       refine tk' 0 HS ?_
       refine tk' 1 HS ?_
       refine tk' 2 HS ?_
       refine tk' 3 HS ?_
       refine tk' 4 HS ?_
       refine tk' 5 HS ?_
       refine tk' 6 HS ?_
       refine tk' 7 HS ?_
       refine tk' 8 HS ?_
       refine tk' 9 HS ?_
       refine tk' 10 HS ?_
       refine tk' 11 HS ?_
       refine tk' 12 HS ?_
       refine cl' 13 fun K hK => ?_
       go_simp
       go_at_call 48
       refine (specMatchesSchema _ m fs x.name x.val _ (HS0.out.grew (hbw.trans HS.2.2.2.2.2.2)) hx hs2).mono ?_
       rintro e w1 ⟨he, hb⟩
       rw [HM.out] at he
       subst he
       refine hK.out _ _ ?s23_13 ?r23_13
       case s23_13 => (try dsimp only); first | exact HS | exact ⟨grew_cell hb HS.1, grew_cell hb HS.2.1, grew_cell hb HS.2.2.1, grew_cell hb HS.2.2.2.1, grew_cell hb HS.2.2.2.2.1, grew_cell hb HS.2.2.2.2.2.1, HS.2.2.2.2.2.2.trans hb⟩
       case r23_13 =>
        clear HS hK K; intro HS
        try simp only [Act.put, lpa, lpb, lpc]
        refine tk' 14 HS ?_
        refine tk' 15 HS ?_
        refine tk' 16 HS ?_
        refine tk' 17 HS ?_
        refine tk' 18 HS ?_
        refine tk' 19 HS ?_
        refine tk' 20 HS ?_
        refine tk' 21 HS ?_
        refine tk' 22 HS ?_
        refine tk' 23 HS ?_
        refine tk' 24 HS ?_
        refine tk' 25 HS ?_
        refine tk' 26 HS ?_
        refine tk' 27 HS ?_
        refine tk' 28 HS ?_
        refine tk' 29 HS ?_
        refine tk' 30 HS ?_
        refine tk' 31 HS ?_
        refine tk' 32 HS ?_
        refine tk' 33 HS ?_
        refine tk' 34 HS ?_
        refine wpAnyH_done (by kernel_rfl) ?_ _
        refine NoPanic.normal ?_
        go_wp2
        go_roundw
        case rel => exact ⟨p + 1 + 1, by omega, by go_num, Lib.hid (upTo_snoc hsame.out hxk.out (by show filAt fs f.attrs _ x = true; unfold filAt; rw [HM.out, HP.out, hlv]; rfl)), hbel.trans HS.2.2.2.2.2.2⟩
        case measure => simp [intOf]; omega
  ·
   obtain rfl : k = n := by omega
   have hy := Lib.hid (all_up HX.out hsame.out)
   have ex0 := grew_cell hbel x0
   have ex1 := grew_cell hbel x1
   have ex3 := grew_cell hbel x3
   have ex4 := grew_cell hbel x4
   have hc_bs : bs = false ∨ bs = true := by cases bs <;> simp
   have hc_bi : bi = false ∨ bi = true := by cases bi <;> simp
   have hc_bo : bo = false ∨ bo = true := by cases bo <;> simp
   have hc_bl : bl = false ∨ bl = true := by cases bl <;> simp
   rcases hc_bs with rfl | rfl
   ·
    have hk0 := hk
    go_wp2_with (first | (go_at_call 24; refine (l01In _ _ _ _).mono ?_; rintro e w' ⟨he, rfl⟩; (first | rw [HI.out] at he | rw [HL.out] at he | rw [HO.out] at he); subst he) | (go_at_call 23; refine (specIsValidSchema _ m fs _ (HS0.out.grew hbw) hx hzs).mono ?_; rintro e w9 ⟨he, hb9⟩; rw [HC.out] at he; subst he; have z0 := grew_cell hb9 ex0; have z1 := grew_cell hb9 ex1; have z3 := grew_cell hb9 ex3))
    go_ret
    refine ⟨ret_bool ?_, by first | exact hbw.trans hb9 | exact hbw⟩
    unfold filB; rw [hy.out, HI.out, HO.out, HL.out, HC.out]; simp
   ·
    have hk0 := hk
    rcases hc_bi with rfl | rfl
    ·
     have hk0 := hk
     go_wp2_with (first | (go_at_call 24; refine (l01In _ _ _ _).mono ?_; rintro e w' ⟨he, rfl⟩; (first | rw [HI.out] at he | rw [HL.out] at he | rw [HO.out] at he); subst he) | (go_at_call 23; refine (specIsValidSchema _ m fs _ (HS0.out.grew hbw) hx hzs).mono ?_; rintro e w9 ⟨he, hb9⟩; rw [HC.out] at he; subst he; have z0 := grew_cell hb9 ex0; have z1 := grew_cell hb9 ex1; have z3 := grew_cell hb9 ex3))
     go_ret
     refine ⟨ret_bool ?_, by first | exact hbw.trans hb9 | exact hbw⟩
     unfold filB; rw [hy.out, HI.out, HO.out, HL.out, HC.out]; simp
    ·
     have hk0 := hk
     rcases hc_bo with rfl | rfl
     ·
      have hk0 := hk
      go_wp2_with (first | (go_at_call 24; refine (l01In _ _ _ _).mono ?_; rintro e w' ⟨he, rfl⟩; (first | rw [HI.out] at he | rw [HL.out] at he | rw [HO.out] at he); subst he) | (go_at_call 23; refine (specIsValidSchema _ m fs _ (HS0.out.grew hbw) hx hzs).mono ?_; rintro e w9 ⟨he, hb9⟩; rw [HC.out] at he; subst he; have z0 := grew_cell hb9 ex0; have z1 := grew_cell hb9 ex1; have z3 := grew_cell hb9 ex3))
      go_ret
      refine ⟨ret_bool ?_, by first | exact hbw.trans hb9 | exact hbw⟩
      unfold filB; rw [hy.out, HI.out, HO.out, HL.out, HC.out]; simp
     ·
      have hk0 := hk
      rcases hc_bl with rfl | rfl
      ·
       have hk0 := hk
       go_wp2_with (first | (go_at_call 24; refine (l01In _ _ _ _).mono ?_; rintro e w' ⟨he, rfl⟩; (first | rw [HI.out] at he | rw [HL.out] at he | rw [HO.out] at he); subst he) | (go_at_call 23; refine (specIsValidSchema _ m fs _ (HS0.out.grew hbw) hx hzs).mono ?_; rintro e w9 ⟨he, hb9⟩; rw [HC.out] at he; subst he; have z0 := grew_cell hb9 ex0; have z1 := grew_cell hb9 ex1; have z3 := grew_cell hb9 ex3))
       go_ret
       refine ⟨ret_bool ?_, by first | exact hbw.trans hb9 | exact hbw⟩
       unfold filB; rw [hy.out, HI.out, HO.out, HL.out, HC.out]; simp
      ·
       have hk0 := hk
       go_wp2_with (first | (go_at_call 24; refine (l01In _ _ _ _).mono ?_; rintro e w' ⟨he, rfl⟩; (first | rw [HI.out] at he | rw [HL.out] at he | rw [HO.out] at he); subst he) | (go_at_call 23; refine (specIsValidSchema _ m fs _ (HS0.out.grew hbw) hx hzs).mono ?_; rintro e w9 ⟨he, hb9⟩; rw [HC.out] at he; subst he; have z0 := grew_cell hb9 ex0; have z1 := grew_cell hb9 ex1; have z3 := grew_cell hb9 ex3))
       go_ret
       refine ⟨ret_bool ?_, by first | exact hbw.trans hb9 | exact hbw⟩
       unfold filB; rw [hy.out, HI.out, HO.out, HL.out, HC.out]; simp
set_option maxRecDepth 100000 in
set_option maxHeartbeats 4000000 in
theorem implIsValidFile (va : Value) (m : Nat) (fs : List Fd) (f : Fl) (p5 : P5) (w : World) (ha : Rd w va 2 m (rows Fd.c fs)) (hf : Fl.R w f p5) (hx : m ≤ 4000000) (hzs : szAll Fd.sz fs ≤ 4000000) (hz : f.sz ≤ 4000000) :
  Calls Tryz.prog 63 #[va, p5.v] w fun e w' => e = .returned (.bool (filB fs f)) ∧ Grew w w' := by
 have HS0 := Lib.hid ha
 obtain ⟨sa, sc, rfl, hsc, hsr⟩ := ha
 clear hsr hsc
 obtain ⟨pi, po, psh, pl, pa⟩ := p5
 obtain ⟨h1, h2, h3, h4, h5⟩ := hf
 simp only at h1 h2 h3 h4 h5
 subst h1 h2 h3 h4
 obtain ⟨a, ca, rfl, hca, hra⟩ := h5
 have hfl : f.attrs.length ≤ 4000000 := by unfold Fl.sz at hz; omega
 have HZ := Lib.hid (show szAll At.sz f.attrs ≤ 4000000 by unfold Fl.sz at hz; omega)
 obtain ⟨bi, hbi⟩ : ∃ b, inB f.id 1 60 = b := ⟨_, rfl⟩
 obtain ⟨bo, hbo⟩ : ∃ b, inB f.owner 0 2 = b := ⟨_, rfl⟩
 obtain ⟨bl, hbl⟩ : ∃ b, inB f.link 0 60 = b := ⟨_, rfl⟩
 obtain ⟨bs, hbs⟩ : ∃ b, schB fs = b := ⟨_, rfl⟩
 have HI := Lib.hid hbi
 have HO := Lib.hid hbo
 have HL := Lib.hid hbl
 have HC := Lib.hid hbs
 clear hbi hbo hbl hbs
 have hg0 := (Grew.refl w).alloc (.cells #[.int .i64 f.id, .int .i64 f.owner, .bool f.shared, .int .i64 f.link, .slice a f.attrs.length ca] 55)
 have x0 : (w.alloc (.cells #[.int .i64 f.id, .int .i64 f.owner, .bool f.shared, .int .i64 f.link, .slice a f.attrs.length ca] 55)).cell? ⟨w.heap.size, 0, none⟩ = some (.int .i64 f.id) := by simp
 have x1 : (w.alloc (.cells #[.int .i64 f.id, .int .i64 f.owner, .bool f.shared, .int .i64 f.link, .slice a f.attrs.length ca] 55)).cell? ⟨w.heap.size, 1, none⟩ = some (.int .i64 f.owner) := by simp
 have x3 : (w.alloc (.cells #[.int .i64 f.id, .int .i64 f.owner, .bool f.shared, .int .i64 f.link, .slice a f.attrs.length ca] 55)).cell? ⟨w.heap.size, 3, none⟩ = some (.int .i64 f.link) := by simp
 have x4 : (w.alloc (.cells #[.int .i64 f.id, .int .i64 f.owner, .bool f.shared, .int .i64 f.link, .slice a f.attrs.length ca] 55)).cell? ⟨w.heap.size, 4, none⟩ = some (.slice a f.attrs.length ca) := by simp
 generalize hn : f.attrs.length = n at hfl hra hca x0 x1 x3 x4 hg0
 have HX := Lib.hid hn
 change Calls Tryz.prog _ #[_, .agg #[.int .i64 f.id, .int .i64 f.owner, .bool f.shared, .int .i64 f.link, .slice a n ca]] w _
 clear hn
 go_enter Tryz.func63, Tryz.ntmps63
 go_wp2
 go_loopw [10] (fun i wr => ∃ k : Nat, k ≤ n ∧ i = .int .i64 k ∧ Hid (upTo (filAt fs f.attrs) f.attrs k) ∧ Grew (w.alloc (.cells #[.int .i64 f.id, .int .i64 f.owner, .bool f.shared, .int .i64 f.link, .slice a n ca] 55)) wr) (fun i _ => n - (intOf i).toNat)
 case atStart => exact ⟨0, Nat.zero_le _, rfl, Lib.hid (upTo_zero _ _), Grew.refl _⟩
 case round =>
  obtain ⟨k, hk, rfl, hsame, hbel⟩ := hrel
  have hbw := hg0.trans hbel
  by_cases hlt : k < n
  ·
   obtain ⟨b1, o1, x, rfl, hxk, c0, c1, c2, c3⟩ := (hra.grew hbw).getAt hlt
   have hs1 := (at_sz HZ.out hxk.out).1
   have hs2 := (at_sz HZ.out hxk.out).2
   obtain ⟨mv, hmv⟩ : ∃ b, mscB fs x.name x.val = b := ⟨_, rfl⟩
   have HM := Lib.hid hmv
   clear hmv
   have hcm : mv = false ∨ mv = true := by cases mv <;> simp
   have ex4 := grew_cell hbel x4
   by_cases hk1 : ¬ (0 < k)
   ·
    have hk0 := hk
    rcases hcm with rfl | rfl
    ·
     have hk0 := hk
     have hk00 := hk
     go_wp2_with fail
     have hal := (Grew.refl wr).alloc (.cells #[.string x.name, .int .i64 x.val.kind, .int .i64 x.val.int, .string x.val.str] 84)
     have g0 : (wr.alloc (.cells #[.string x.name, .int .i64 x.val.kind, .int .i64 x.val.int, .string x.val.str] 84)).cell? ⟨wr.heap.size, 0, none⟩ = some (.string x.name) := by simp
     have g1 : (wr.alloc (.cells #[.string x.name, .int .i64 x.val.kind, .int .i64 x.val.int, .string x.val.str] 84)).cell? ⟨wr.heap.size, 1, none⟩ = some (.int .i64 x.val.kind) := by simp
     have g2 : (wr.alloc (.cells #[.string x.name, .int .i64 x.val.kind, .int .i64 x.val.int, .string x.val.str] 84)).cell? ⟨wr.heap.size, 2, none⟩ = some (.int .i64 x.val.int) := by simp
     have g3 : (wr.alloc (.cells #[.string x.name, .int .i64 x.val.kind, .int .i64 x.val.int, .string x.val.str] 84)).cell? ⟨wr.heap.size, 3, none⟩ = some (.string x.val.str) := by simp
     have ax4 := grew_cell hal ex4
     refine wp_region_noPanic ?_
     refine wp_region_held_drew (S := (fun w' => (w'.cell? ⟨w.heap.size, 4, none⟩ = some (.slice (some ⟨b1, o1, none⟩) n ca) ∧ w'.cell? ⟨wr.heap.size, 0, none⟩ = some (.string x.name) ∧ w'.cell? ⟨wr.heap.size, 1, none⟩ = some (.int .i64 x.val.kind) ∧ w'.cell? ⟨wr.heap.size, 2, none⟩ = some (.int .i64 x.val.int) ∧ w'.cell? ⟨wr.heap.size, 3, none⟩ = some (.string x.val.str) ∧ Grew (wr.alloc (.cells #[.string x.name, .int .i64 x.val.kind, .int .i64 x.val.int, .string x.val.str] 84)) w'))) (by kernel_rfl) ?h24_S ?h24_r
     case h24_S => exact ⟨grew_cell (Grew.refl _).drew ax4, grew_cell (Grew.refl _).drew g0, grew_cell (Grew.refl _).drew g1, grew_cell (Grew.refl _).drew g2, grew_cell (Grew.refl _).drew g3, (Grew.refl _).drew⟩
     case h24_r =>
      intro HS
      refine tk' 0 HS ?_
      refine tk' 1 HS ?_
      refine tk' 2 HS ?_
      refine sk' 3 HS ?_
      refine sk' 4 HS ?_
      refine sk' 5 HS ?_
      refine sk' 6 HS ?_
      refine sk' 7 HS ?_
      refine sk' 8 HS ?_
      refine sk' 9 HS ?_
      refine sk' 10 HS ?_
      refine sk' 11 HS ?_
      refine sk' 12 HS ?_
      refine tk' 13 HS ?_
      refine tk' 14 HS ?_
      refine tk' 15 HS ?_
      refine tk' 16 HS ?_
      refine tk' 17 HS ?_
      refine tk' 18 HS ?_
      refine tk' 19 HS ?_
      refine cl' 20 fun K hK => ?_
      go_simp
      go_at_call 86
      refine (implMatchesSchema _ m fs x.name x.val _ (HS0.out.grew (hbw.trans (hal.trans HS.2.2.2.2.2))) hx hs2).mono ?_
      rintro e w1 ⟨he, hb⟩
      rw [HM.out] at he
      subst he
      refine hK.out _ _ ?s24_20 ?r24_20
      case s24_20 => (try dsimp only); first | exact HS | exact ⟨grew_cell hb HS.1, grew_cell hb HS.2.1, grew_cell hb HS.2.2.1, grew_cell hb HS.2.2.2.1, grew_cell hb HS.2.2.2.2.1, HS.2.2.2.2.2.trans hb⟩
      case r24_20 =>
       clear HS hK K; intro HS
       try simp only [Act.put, lpa, lpb, lpc]
       refine tk' 21 HS ?_
       refine tk' 22 HS ?_
       refine wpAnyH_done (by kernel_rfl) ?_ _
       refine NoPanic.normal ?_
       go_wp2
       go_ret
       refine ⟨ret_bool ?_, hbw.trans (hal.trans HS.2.2.2.2.2)⟩
       exact (show filB fs f = false by unfold filB; rw [all_not hxk.out (show filAt fs f.attrs _ x = false by unfold filAt; rw [HM.out]; simp)]; rfl).symm
    ·
     have hk0 := hk
     have hk00 := hk
     go_wp2_with fail
     have hal := (Grew.refl wr).alloc (.cells #[.string x.name, .int .i64 x.val.kind, .int .i64 x.val.int, .string x.val.str] 84)
     have g0 : (wr.alloc (.cells #[.string x.name, .int .i64 x.val.kind, .int .i64 x.val.int, .string x.val.str] 84)).cell? ⟨wr.heap.size, 0, none⟩ = some (.string x.name) := by simp
     have g1 : (wr.alloc (.cells #[.string x.name, .int .i64 x.val.kind, .int .i64 x.val.int, .string x.val.str] 84)).cell? ⟨wr.heap.size, 1, none⟩ = some (.int .i64 x.val.kind) := by simp
     have g2 : (wr.alloc (.cells #[.string x.name, .int .i64 x.val.kind, .int .i64 x.val.int, .string x.val.str] 84)).cell? ⟨wr.heap.size, 2, none⟩ = some (.int .i64 x.val.int) := by simp
     have g3 : (wr.alloc (.cells #[.string x.name, .int .i64 x.val.kind, .int .i64 x.val.int, .string x.val.str] 84)).cell? ⟨wr.heap.size, 3, none⟩ = some (.string x.val.str) := by simp
     have ax4 := grew_cell hal ex4
     refine wp_region_noPanic ?_
     refine wp_region_held_drew (S := (fun w' => (w'.cell? ⟨w.heap.size, 4, none⟩ = some (.slice (some ⟨b1, o1, none⟩) n ca) ∧ w'.cell? ⟨wr.heap.size, 0, none⟩ = some (.string x.name) ∧ w'.cell? ⟨wr.heap.size, 1, none⟩ = some (.int .i64 x.val.kind) ∧ w'.cell? ⟨wr.heap.size, 2, none⟩ = some (.int .i64 x.val.int) ∧ w'.cell? ⟨wr.heap.size, 3, none⟩ = some (.string x.val.str) ∧ Grew (wr.alloc (.cells #[.string x.name, .int .i64 x.val.kind, .int .i64 x.val.int, .string x.val.str] 84)) w'))) (by kernel_rfl) ?h25_S ?h25_r
     case h25_S => exact ⟨grew_cell (Grew.refl _).drew ax4, grew_cell (Grew.refl _).drew g0, grew_cell (Grew.refl _).drew g1, grew_cell (Grew.refl _).drew g2, grew_cell (Grew.refl _).drew g3, (Grew.refl _).drew⟩
     case h25_r =>
      intro HS
      refine tk' 0 HS ?_
      refine tk' 1 HS ?_
      refine tk' 2 HS ?_
      refine sk' 3 HS ?_
      refine sk' 4 HS ?_
      refine sk' 5 HS ?_
      refine sk' 6 HS ?_
      refine sk' 7 HS ?_
      refine sk' 8 HS ?_
      refine sk' 9 HS ?_
      refine sk' 10 HS ?_
      refine sk' 11 HS ?_
      refine sk' 12 HS ?_
      refine tk' 13 HS ?_
      refine tk' 14 HS ?_
      refine tk' 15 HS ?_
      refine tk' 16 HS ?_
      refine tk' 17 HS ?_
      refine tk' 18 HS ?_
      refine tk' 19 HS ?_
      refine cl' 20 fun K hK => ?_
      go_simp
      go_at_call 86
      refine (implMatchesSchema _ m fs x.name x.val _ (HS0.out.grew (hbw.trans (hal.trans HS.2.2.2.2.2))) hx hs2).mono ?_
      rintro e w1 ⟨he, hb⟩
      rw [HM.out] at he
      subst he
      refine hK.out _ _ ?s25_20 ?r25_20
      case s25_20 => (try dsimp only); first | exact HS | exact ⟨grew_cell hb HS.1, grew_cell hb HS.2.1, grew_cell hb HS.2.2.1, grew_cell hb HS.2.2.2.1, grew_cell hb HS.2.2.2.2.1, HS.2.2.2.2.2.trans hb⟩
      case r25_20 =>
       clear HS hK K; intro HS
       try simp only [Act.put, lpa, lpb, lpc]
       refine tk' 21 HS ?_
       refine tk' 22 HS ?_
       refine wpAnyH_done (by kernel_rfl) ?_ _
       refine NoPanic.normal ?_
       go_wp2
       go_roundw
       case rel => exact ⟨k + 1, by omega, by go_num, Lib.hid (upTo_snoc hsame.out hxk.out (by show filAt fs f.attrs _ x = true; unfold filAt; rw [HM.out, Nat.eq_zero_of_not_pos hk1]; rfl)), hbel.trans (hal.trans HS.2.2.2.2.2)⟩
       case measure => simp [intOf]; omega
   ·
    have hk0 := hk
    obtain ⟨p, rfl⟩ : ∃ p, k = p + 1 := ⟨k - 1, by omega⟩
    obtain ⟨b2, o2, y, hab, hyk, d0, d1, d2, d3⟩ := (hra.grew hbw).getAt (show p < n by omega)
    obtain ⟨rfl, rfl⟩ : b1 = b2 ∧ o1 = o2 := by cases hab; exact ⟨rfl, rfl⟩
    clear hab
    clear d1 d2 d3
    have hpp : ((p + 1 : Nat) : Int) - 1 = (p : Int) := by omega
    have hp0 : (0 : Int) ≤ (p : Int) + 1 := by omega
    have hp1 : (p : Int) < (n : Int) := by omega
    have hp2 : (p : Int) + 1 < (n : Int) := by omega
    have hwp : IntKind.i64.wrap (p : Int) = (p : Int) := by simp [IntKind.wrap, IntKind.bits, IntKind.signed]; omega
    obtain ⟨lv, hlv⟩ : ∃ b, Op.bytesLess y.name.toList x.name.toList = b := ⟨_, rfl⟩
    have HP := Lib.hid (prevOk_succ (lt := fun (y x : At) => Op.bytesLess y.name.toList x.name.toList) (x := x) hyk.out)
    have hcl : lv = false ∨ lv = true := by cases lv <;> simp
    rcases hcl with rfl | rfl
    ·
     have hk0 := hk
     have hk00 := hk
     go_wp2_with fail
     have hal := (Grew.refl wr).alloc (.cells #[.string x.name, .int .i64 x.val.kind, .int .i64 x.val.int, .string x.val.str] 84)
     have g0 : (wr.alloc (.cells #[.string x.name, .int .i64 x.val.kind, .int .i64 x.val.int, .string x.val.str] 84)).cell? ⟨wr.heap.size, 0, none⟩ = some (.string x.name) := by simp
     have g1 : (wr.alloc (.cells #[.string x.name, .int .i64 x.val.kind, .int .i64 x.val.int, .string x.val.str] 84)).cell? ⟨wr.heap.size, 1, none⟩ = some (.int .i64 x.val.kind) := by simp
     have g2 : (wr.alloc (.cells #[.string x.name, .int .i64 x.val.kind, .int .i64 x.val.int, .string x.val.str] 84)).cell? ⟨wr.heap.size, 2, none⟩ = some (.int .i64 x.val.int) := by simp
     have g3 : (wr.alloc (.cells #[.string x.name, .int .i64 x.val.kind, .int .i64 x.val.int, .string x.val.str] 84)).cell? ⟨wr.heap.size, 3, none⟩ = some (.string x.val.str) := by simp
     have ax4 := grew_cell hal ex4
     replace d0 := grew_cell hal d0
     refine wp_region_noPanic ?_
     refine wp_region_held_drew (S := (fun w' => (w'.cell? ⟨w.heap.size, 4, none⟩ = some (.slice (some ⟨b1, o1, none⟩) n ca) ∧ w'.cell? ⟨wr.heap.size, 0, none⟩ = some (.string x.name) ∧ w'.cell? ⟨wr.heap.size, 1, none⟩ = some (.int .i64 x.val.kind) ∧ w'.cell? ⟨wr.heap.size, 2, none⟩ = some (.int .i64 x.val.int) ∧ w'.cell? ⟨wr.heap.size, 3, none⟩ = some (.string x.val.str) ∧ w'.cell? ⟨b1, o1 + p * 4, none⟩ = some (.string y.name) ∧ Grew (wr.alloc (.cells #[.string x.name, .int .i64 x.val.kind, .int .i64 x.val.int, .string x.val.str] 84)) w'))) (by kernel_rfl) ?h26_S ?h26_r
     case h26_S => exact ⟨grew_cell (Grew.refl _).drew ax4, grew_cell (Grew.refl _).drew g0, grew_cell (Grew.refl _).drew g1, grew_cell (Grew.refl _).drew g2, grew_cell (Grew.refl _).drew g3, grew_cell (Grew.refl _).drew d0, (Grew.refl _).drew⟩
     case h26_r =>
      intro HS
      refine tk' 0 HS ?_
      refine tk' 1 HS ?_
      refine tk' 2 HS ?_
      refine tk' 3 HS ?_
      refine tk' 4 HS ?_
      refine tk' 5 HS ?_
      refine tk' 6 HS ?_
      refine tk' 7 HS ?_
      refine tk' 8 HS ?_
      refine tk' 9 HS ?_
      refine tk' 10 HS ?_
      refine tk' 11 HS ?_
      refine tk' 12 HS ?_
      refine tk' 13 HS ?_
      refine tk' 14 HS ?_
      refine sk' 15 HS ?_
      refine sk' 16 HS ?_
      refine sk' 17 HS ?_
      refine sk' 18 HS ?_
      refine sk' 19 HS ?_
      refine cl' 20 fun K hK => ?_
      go_simp
      refine hK.out _ _ HS ?r26_20
      case r26_20 =>
       clear HS hK K; intro HS
       try simp only [Act.put, lpa, lpb, lpc]
       refine sk' 21 HS ?_
       refine tk' 22 HS ?_
       refine wpAnyH_done (by kernel_rfl) ?_ _
       refine NoPanic.normal ?_
       go_wp2
       go_ret
       refine ⟨ret_bool ?_, hbw.trans (hal.trans HS.2.2.2.2.2.2)⟩
       exact (show filB fs f = false by unfold filB; rw [all_not hxk.out (show filAt fs f.attrs _ x = false by unfold filAt; rw [HP.out, hlv]; simp)]; rfl).symm
    ·
     have hk0 := hk
     rcases hcm with rfl | rfl
     ·
      have hk0 := hk
      have hk00 := hk
      go_wp2_with fail
      have hal := (Grew.refl wr).alloc (.cells #[.string x.name, .int .i64 x.val.kind, .int .i64 x.val.int, .string x.val.str] 84)
      have g0 : (wr.alloc (.cells #[.string x.name, .int .i64 x.val.kind, .int .i64 x.val.int, .string x.val.str] 84)).cell? ⟨wr.heap.size, 0, none⟩ = some (.string x.name) := by simp
      have g1 : (wr.alloc (.cells #[.string x.name, .int .i64 x.val.kind, .int .i64 x.val.int, .string x.val.str] 84)).cell? ⟨wr.heap.size, 1, none⟩ = some (.int .i64 x.val.kind) := by simp
      have g2 : (wr.alloc (.cells #[.string x.name, .int .i64 x.val.kind, .int .i64 x.val.int, .string x.val.str] 84)).cell? ⟨wr.heap.size, 2, none⟩ = some (.int .i64 x.val.int) := by simp
      have g3 : (wr.alloc (.cells #[.string x.name, .int .i64 x.val.kind, .int .i64 x.val.int, .string x.val.str] 84)).cell? ⟨wr.heap.size, 3, none⟩ = some (.string x.val.str) := by simp
      have ax4 := grew_cell hal ex4
      replace d0 := grew_cell hal d0
      refine wp_region_noPanic ?_
      refine wp_region_held_drew (S := (fun w' => (w'.cell? ⟨w.heap.size, 4, none⟩ = some (.slice (some ⟨b1, o1, none⟩) n ca) ∧ w'.cell? ⟨wr.heap.size, 0, none⟩ = some (.string x.name) ∧ w'.cell? ⟨wr.heap.size, 1, none⟩ = some (.int .i64 x.val.kind) ∧ w'.cell? ⟨wr.heap.size, 2, none⟩ = some (.int .i64 x.val.int) ∧ w'.cell? ⟨wr.heap.size, 3, none⟩ = some (.string x.val.str) ∧ w'.cell? ⟨b1, o1 + p * 4, none⟩ = some (.string y.name) ∧ Grew (wr.alloc (.cells #[.string x.name, .int .i64 x.val.kind, .int .i64 x.val.int, .string x.val.str] 84)) w'))) (by kernel_rfl) ?h27_S ?h27_r
      case h27_S => exact ⟨grew_cell (Grew.refl _).drew ax4, grew_cell (Grew.refl _).drew g0, grew_cell (Grew.refl _).drew g1, grew_cell (Grew.refl _).drew g2, grew_cell (Grew.refl _).drew g3, grew_cell (Grew.refl _).drew d0, (Grew.refl _).drew⟩
      case h27_r =>
       intro HS
       refine tk' 0 HS ?_
       refine tk' 1 HS ?_
       refine tk' 2 HS ?_
       refine tk' 3 HS ?_
       refine tk' 4 HS ?_
       refine tk' 5 HS ?_
       refine tk' 6 HS ?_
       refine tk' 7 HS ?_
       refine tk' 8 HS ?_
       refine tk' 9 HS ?_
       refine tk' 10 HS ?_
       refine tk' 11 HS ?_
       refine tk' 12 HS ?_
       refine tk' 13 HS ?_
       refine tk' 14 HS ?_
       refine tk' 15 HS ?_
       refine tk' 16 HS ?_
       refine tk' 17 HS ?_
       refine tk' 18 HS ?_
       refine tk' 19 HS ?_
       refine cl' 20 fun K hK => ?_
       go_simp
       go_at_call 86
       refine (implMatchesSchema _ m fs x.name x.val _ (HS0.out.grew (hbw.trans (hal.trans HS.2.2.2.2.2.2))) hx hs2).mono ?_
       rintro e w1 ⟨he, hb⟩
       rw [HM.out] at he
       subst he
       refine hK.out _ _ ?s27_20 ?r27_20
       case s27_20 => (try dsimp only); first | exact HS | exact ⟨grew_cell hb HS.1, grew_cell hb HS.2.1, grew_cell hb HS.2.2.1, grew_cell hb HS.2.2.2.1, grew_cell hb HS.2.2.2.2.1, grew_cell hb HS.2.2.2.2.2.1, HS.2.2.2.2.2.2.trans hb⟩
       case r27_20 =>
        clear HS hK K; intro HS
        try simp only [Act.put, lpa, lpb, lpc]
        refine tk' 21 HS ?_
        refine tk' 22 HS ?_
        refine wpAnyH_done (by kernel_rfl) ?_ _
        refine NoPanic.normal ?_
        go_wp2
        go_ret
        refine ⟨ret_bool ?_, hbw.trans (hal.trans HS.2.2.2.2.2.2)⟩
        exact (show filB fs f = false by unfold filB; rw [all_not hxk.out (show filAt fs f.attrs _ x = false by unfold filAt; rw [HM.out]; simp)]; rfl).symm
     ·
      have hk0 := hk
      have hk00 := hk
      go_wp2_with fail
      have hal := (Grew.refl wr).alloc (.cells #[.string x.name, .int .i64 x.val.kind, .int .i64 x.val.int, .string x.val.str] 84)
      have g0 : (wr.alloc (.cells #[.string x.name, .int .i64 x.val.kind, .int .i64 x.val.int, .string x.val.str] 84)).cell? ⟨wr.heap.size, 0, none⟩ = some (.string x.name) := by simp
      have g1 : (wr.alloc (.cells #[.string x.name, .int .i64 x.val.kind, .int .i64 x.val.int, .string x.val.str] 84)).cell? ⟨wr.heap.size, 1, none⟩ = some (.int .i64 x.val.kind) := by simp
      have g2 : (wr.alloc (.cells #[.string x.name, .int .i64 x.val.kind, .int .i64 x.val.int, .string x.val.str] 84)).cell? ⟨wr.heap.size, 2, none⟩ = some (.int .i64 x.val.int) := by simp
      have g3 : (wr.alloc (.cells #[.string x.name, .int .i64 x.val.kind, .int .i64 x.val.int, .string x.val.str] 84)).cell? ⟨wr.heap.size, 3, none⟩ = some (.string x.val.str) := by simp
      have ax4 := grew_cell hal ex4
      replace d0 := grew_cell hal d0
      refine wp_region_noPanic ?_
      refine wp_region_held_drew (S := (fun w' => (w'.cell? ⟨w.heap.size, 4, none⟩ = some (.slice (some ⟨b1, o1, none⟩) n ca) ∧ w'.cell? ⟨wr.heap.size, 0, none⟩ = some (.string x.name) ∧ w'.cell? ⟨wr.heap.size, 1, none⟩ = some (.int .i64 x.val.kind) ∧ w'.cell? ⟨wr.heap.size, 2, none⟩ = some (.int .i64 x.val.int) ∧ w'.cell? ⟨wr.heap.size, 3, none⟩ = some (.string x.val.str) ∧ w'.cell? ⟨b1, o1 + p * 4, none⟩ = some (.string y.name) ∧ Grew (wr.alloc (.cells #[.string x.name, .int .i64 x.val.kind, .int .i64 x.val.int, .string x.val.str] 84)) w'))) (by kernel_rfl) ?h28_S ?h28_r
      case h28_S => exact ⟨grew_cell (Grew.refl _).drew ax4, grew_cell (Grew.refl _).drew g0, grew_cell (Grew.refl _).drew g1, grew_cell (Grew.refl _).drew g2, grew_cell (Grew.refl _).drew g3, grew_cell (Grew.refl _).drew d0, (Grew.refl _).drew⟩
      case h28_r =>
       intro HS
       refine tk' 0 HS ?_
       refine tk' 1 HS ?_
       refine tk' 2 HS ?_
       refine tk' 3 HS ?_
       refine tk' 4 HS ?_
       refine tk' 5 HS ?_
       refine tk' 6 HS ?_
       refine tk' 7 HS ?_
       refine tk' 8 HS ?_
       refine tk' 9 HS ?_
       refine tk' 10 HS ?_
       refine tk' 11 HS ?_
       refine tk' 12 HS ?_
       refine tk' 13 HS ?_
       refine tk' 14 HS ?_
       refine tk' 15 HS ?_
       refine tk' 16 HS ?_
       refine tk' 17 HS ?_
       refine tk' 18 HS ?_
       refine tk' 19 HS ?_
       refine cl' 20 fun K hK => ?_
       go_simp
       go_at_call 86
       refine (implMatchesSchema _ m fs x.name x.val _ (HS0.out.grew (hbw.trans (hal.trans HS.2.2.2.2.2.2))) hx hs2).mono ?_
       rintro e w1 ⟨he, hb⟩
       rw [HM.out] at he
       subst he
       refine hK.out _ _ ?s28_20 ?r28_20
       case s28_20 => (try dsimp only); first | exact HS | exact ⟨grew_cell hb HS.1, grew_cell hb HS.2.1, grew_cell hb HS.2.2.1, grew_cell hb HS.2.2.2.1, grew_cell hb HS.2.2.2.2.1, grew_cell hb HS.2.2.2.2.2.1, HS.2.2.2.2.2.2.trans hb⟩
       case r28_20 =>
        clear HS hK K; intro HS
        try simp only [Act.put, lpa, lpb, lpc]
        refine tk' 21 HS ?_
        refine tk' 22 HS ?_
        refine wpAnyH_done (by kernel_rfl) ?_ _
        refine NoPanic.normal ?_
        go_wp2
        go_roundw
        case rel => exact ⟨p + 1 + 1, by omega, by go_num, Lib.hid (upTo_snoc hsame.out hxk.out (by show filAt fs f.attrs _ x = true; unfold filAt; rw [HM.out, HP.out, hlv]; rfl)), hbel.trans (hal.trans HS.2.2.2.2.2.2)⟩
        case measure => simp [intOf]; omega
  ·
   obtain rfl : k = n := by omega
   have hy := Lib.hid (all_up HX.out hsame.out)
   have ex0 := grew_cell hbel x0
   have ex1 := grew_cell hbel x1
   have ex3 := grew_cell hbel x3
   have ex4 := grew_cell hbel x4
   have hc_bi : bi = false ∨ bi = true := by cases bi <;> simp
   have hc_bo : bo = false ∨ bo = true := by cases bo <;> simp
   have hc_bl : bl = false ∨ bl = true := by cases bl <;> simp
   have hc_bs : bs = false ∨ bs = true := by cases bs <;> simp
   rcases hc_bi with rfl | rfl
   ·
    have hk0 := hk
    go_wp2_with (first | (go_at_call 65; refine (within _ _ _ _).mono ?_; rintro e w' ⟨he, rfl⟩; (first | rw [HI.out] at he | rw [HL.out] at he); subst he) | (go_at_call 35; refine (implIsUser _ _).mono ?_; rintro e w' ⟨he, rfl⟩; rw [HO.out] at he; subst he) | (go_at_call 64; refine (implIsValidSchema _ m fs _ (HS0.out.grew hbw) hx hzs).mono ?_; rintro e w9 ⟨he, hb9⟩; rw [HC.out] at he; subst he))
    go_ret
    refine ⟨ret_bool ?_, by first | exact hbw.trans hb9 | exact hbw⟩
    unfold filB; rw [hy.out, HI.out, HO.out, HL.out, HC.out]; simp
   ·
    have hk0 := hk
    rcases hc_bo with rfl | rfl
    ·
     have hk0 := hk
     go_wp2_with (first | (go_at_call 65; refine (within _ _ _ _).mono ?_; rintro e w' ⟨he, rfl⟩; (first | rw [HI.out] at he | rw [HL.out] at he); subst he) | (go_at_call 35; refine (implIsUser _ _).mono ?_; rintro e w' ⟨he, rfl⟩; rw [HO.out] at he; subst he) | (go_at_call 64; refine (implIsValidSchema _ m fs _ (HS0.out.grew hbw) hx hzs).mono ?_; rintro e w9 ⟨he, hb9⟩; rw [HC.out] at he; subst he))
     go_ret
     refine ⟨ret_bool ?_, by first | exact hbw.trans hb9 | exact hbw⟩
     unfold filB; rw [hy.out, HI.out, HO.out, HL.out, HC.out]; simp
    ·
     have hk0 := hk
     rcases hc_bl with rfl | rfl
     ·
      have hk0 := hk
      go_wp2_with (first | (go_at_call 65; refine (within _ _ _ _).mono ?_; rintro e w' ⟨he, rfl⟩; (first | rw [HI.out] at he | rw [HL.out] at he); subst he) | (go_at_call 35; refine (implIsUser _ _).mono ?_; rintro e w' ⟨he, rfl⟩; rw [HO.out] at he; subst he) | (go_at_call 64; refine (implIsValidSchema _ m fs _ (HS0.out.grew hbw) hx hzs).mono ?_; rintro e w9 ⟨he, hb9⟩; rw [HC.out] at he; subst he))
      go_ret
      refine ⟨ret_bool ?_, by first | exact hbw.trans hb9 | exact hbw⟩
      unfold filB; rw [hy.out, HI.out, HO.out, HL.out, HC.out]; simp
     ·
      have hk0 := hk
      rcases hc_bs with rfl | rfl
      ·
       have hk0 := hk
       go_wp2_with (first | (go_at_call 65; refine (within _ _ _ _).mono ?_; rintro e w' ⟨he, rfl⟩; (first | rw [HI.out] at he | rw [HL.out] at he); subst he) | (go_at_call 35; refine (implIsUser _ _).mono ?_; rintro e w' ⟨he, rfl⟩; rw [HO.out] at he; subst he) | (go_at_call 64; refine (implIsValidSchema _ m fs _ (HS0.out.grew hbw) hx hzs).mono ?_; rintro e w9 ⟨he, hb9⟩; rw [HC.out] at he; subst he))
       go_ret
       refine ⟨ret_bool ?_, by first | exact hbw.trans hb9 | exact hbw⟩
       unfold filB; rw [hy.out, HI.out, HO.out, HL.out, HC.out]; simp
      ·
       have hk0 := hk
       go_wp2_with (first | (go_at_call 65; refine (within _ _ _ _).mono ?_; rintro e w' ⟨he, rfl⟩; (first | rw [HI.out] at he | rw [HL.out] at he); subst he) | (go_at_call 35; refine (implIsUser _ _).mono ?_; rintro e w' ⟨he, rfl⟩; rw [HO.out] at he; subst he) | (go_at_call 64; refine (implIsValidSchema _ m fs _ (HS0.out.grew hbw) hx hzs).mono ?_; rintro e w9 ⟨he, hb9⟩; rw [HC.out] at he; subst he))
       go_ret
       refine ⟨ret_bool ?_, by first | exact hbw.trans hb9 | exact hbw⟩
       unfold filB; rw [hy.out, HI.out, HO.out, HL.out, HC.out]; simp
end Go.Proofs.YtemikjbfjhebnaaGreat
