/- Texts Z5, Z13, Q0, N1, Q1, Q2, K1, C3, C4, Q3, Q4, K2, as far as they are needed. -/
import Derived.Test.YtodbohmbdgbheaaMb1
import Derived.Test.YtodbohmbdgbheaaMb0
import Derived.Lib.SlicesCompact
import Derived.Sort.Walk0
import Derived.Sort.OwnSorted
import Derived.Lib.RowBridge
namespace Go.Proofs.Ytodbohmbdgbheaa
open Go.RowKit
set_option linter.unusedVariables false
def Box (w : World) (b k : Nat) : Prop := b < w.heap.size ∧ (∀ j, j < k → ∃ u, w.cell? ⟨b, j, none⟩ = some u) ∧ ∀ j, w.frozen? ⟨b, j, none⟩ = false
theorem Box.new (w : World) (cs : Array Value) (e : TypeId) (k : Nat) (hk : cs.size = k) : Box (w.alloc (.cells cs e)) w.heap.size k :=
  ⟨by simp, fun j hj => ⟨cs[j], by rw [World.cell?_alloc_at (w := w) cs e w.heap.size j rfl, Array.getElem?_eq_getElem (by omega)]⟩, fun j => World.frozen?_alloc_at (w := w) cs e w.heap.size j rfl⟩
theorem Box.grew {w w' : World} {b k : Nat} (h : Box w b k) (hg : Grew w w') : Box w' b k :=
  ⟨Nat.lt_of_lt_of_le h.1 hg.size, fun j hj => by obtain ⟨u, hu⟩ := h.2.1 j hj; exact ⟨u, grew_cell hg hu⟩, fun j => grew_frozen hg h.1 (h.2.2 j)⟩
theorem Box.d {w w' : World} {b k g : Nat} (h : Box w b k) (hd : D g w w') (hb : b ≠ g) : Box w' b k :=
  ⟨Nat.lt_of_lt_of_le h.1 hd.size, fun j hj => by obtain ⟨u, hu⟩ := h.2.1 j hj; exact ⟨u, hd.cell hu hb⟩, fun j => hd.frozen h.1 (h.2.2 j) hb⟩
theorem Box.set {w : World} {b k : Nat} (h : Box w b k) (p : Addr) (u : Value) : Box (w.setCell p u) b k :=
  ⟨by simpa using h.1, fun j hj => by obtain ⟨u, hu⟩ := h.2.1 j hj; exact cell?_setCell_some hu, fun j => by rw [World.frozen?_setCell]; exact h.2.2 j⟩
theorem rows_set1 {α : Type} {enc : α → List Value} {k : Nat} (hk : ∀ x, (enc x).length = k) : ∀ (xs : List α) (i j : Nat) (x y : α) (u : Value), xs[i]? = some x → j < k → enc y = (enc x).set j u → (rows enc xs).set (i * k + j) u = rows enc (xs.set i y)
  | [], i, j, x, y, u, h, _, _ => by simp at h
  | z :: zs, 0, j, x, y, u, h, hj, he => by
    simp at h; subst h
    rw [rows_cons, List.set_cons_zero, rows_cons, he, Nat.zero_mul, Nat.zero_add, List.set_append_left _ _ (by rw [hk]; exact hj)]
  | z :: zs, i + 1, j, x, y, u, h, hj, he => by
    simp at h
    rw [rows_cons, List.set_cons_succ, rows_cons, List.set_append_right _ _ (by rw [hk, Nat.succ_mul]; omega), hk, show (i + 1) * k + j - k = i * k + j by rw [Nat.succ_mul]; omega, rows_set1 hk zs i j x y u h hj he]
def V.okD (v : V) : Prop := v.str.size ≤ 8
def N.okD (x : N) : Prop := x.name.size ≤ 8 ∧ x.val.str.size ≤ 8
set_option maxRecDepth 100000 in
set_option maxHeartbeats 1000000 in
theorem intValue (n : Int) (w : World) :
    Calls Try.prog 59 #[.int .i64 n] w fun e w' => e = .returned (V.v ⟨1, n, ⟨#[]⟩⟩) ∧ Grew w w' := by
  go_enter Try.func59, Try.ntmps59
  go_wp2
  refine bodyPost_ret (v := V.v ⟨1, n, ⟨#[]⟩⟩) (by simp [results, Try.results59, go_sem]) rfl ⟨rfl, ?_⟩
  repeat' (first | with_reducible exact Grew.refl _ | with_reducible refine Grew.alloc ?_ _ | with_reducible refine Grew.setCell ?_ ?_ _ | (dsimp only; omega))
set_option maxRecDepth 100000 in
set_option maxHeartbeats 1000000 in
theorem stringValue (s : ByteArray) (w : World) :
    Calls Try.prog 38 #[.string s] w fun e w' => e = .returned (V.v ⟨2, 0, s⟩) ∧ Grew w w' := by
  go_enter Try.func38, Try.ntmps38
  go_wp2
  refine bodyPost_ret (v := V.v ⟨2, 0, s⟩) (by simp [results, Try.results38, go_sem]) rfl ⟨rfl, ?_⟩
  repeat' (first | with_reducible exact Grew.refl _ | with_reducible refine Grew.alloc ?_ _ | with_reducible refine Grew.setCell ?_ ?_ _ | (dsimp only; omega))
set_option maxRecDepth 100000 in
set_option maxHeartbeats 2000000 in
theorem l02Value (g : Nat) (w : World) (hc : Cur w g) :
    Calls Try.prog 61 #[.pointer (some ⟨g, 0, none⟩)] w fun e w' => ∃ y : V, e = .returned (V.v y) ∧ V.okD y ∧ D g w w' := by
  have hl := hc.lt
  have hne : w.heap.size ≠ g := by omega
  have B0 := Box.new w #[.int .i64 0, .int .i64 0, .string ⟨#[]⟩] 45 3 rfl
  have d0 := (D.refl hc).alloc (.cells #[.int .i64 0, .int .i64 0, .string ⟨#[]⟩] 45)
  go_enter Try.func61, Try.ntmps61
  go_wp2_with fail
  refine (l01Below g _ d0.cur 5 (by omega) (by omega)).mono ?_
  rintro e w1 ⟨x1, rfl, hx1, e1⟩
  have d1 := d0.trans e1
  have B1 := B0.d e1 hne
  clear B0
  have : x1 = 0 ∨ x1 = 1 ∨ x1 = 2 ∨ x1 = 3 ∨ x1 = 4 := by omega
  clear hx1
  rcases this with rfl | rfl | rfl | rfl | rfl
  ·
    obtain ⟨b0, f0⟩ := B1.2.1 0 (by decide)
    obtain ⟨b1, f1⟩ := B1.2.1 1 (by decide)
    obtain ⟨b2, f2⟩ := B1.2.1 2 (by decide)
    have z0 := B1.2.2
    go_wp2
    refine bodyPost_ret (v := V.v ⟨0, 0, ⟨#[]⟩⟩) (by simp [results, Try.results61, go_sem, f0, f1, f2]) rfl ⟨_, rfl, (show V.okD ⟨0, 0, ⟨#[]⟩⟩ by simp [V.okD, ByteArray.size]), ?_⟩
    repeat' (first | with_reducible exact d1 | with_reducible refine D.setCell ?_ ?_ _ | (dsimp only; omega))
  ·
    go_wp2_with fail
    refine (l01Below g _ d1.cur 5 (by omega) (by omega)).mono ?_
    rintro e w2 ⟨x2, rfl, hx2, e2⟩
    have d2 := d1.trans e2
    have B2 := B1.d e2 hne
    clear B1
    go_wp2_with fail
    refine (intValue x2 _).mono ?_
    rintro e wv ⟨rfl, gv⟩
    have dv := d2.grew gv
    have B3 := B2.grew gv
    obtain ⟨b0, f0⟩ := B3.2.1 0 (by decide)
    obtain ⟨b1, f1⟩ := B3.2.1 1 (by decide)
    obtain ⟨b2, f2⟩ := B3.2.1 2 (by decide)
    have z0 := B3.2.2
    go_wp2
    refine bodyPost_ret (v := V.v ⟨1, x2, ⟨#[]⟩⟩) (by simp [results, Try.results61, go_sem, f0, f1, f2]) rfl ⟨_, rfl, (show V.okD ⟨1, x2, ⟨#[]⟩⟩ by simp [V.okD, ByteArray.size]), ?_⟩
    repeat' (first | with_reducible exact dv | with_reducible refine D.setCell ?_ ?_ _ | (dsimp only; omega))
  ·
    go_wp2_with fail
    refine (l01Below g _ d1.cur 5 (by omega) (by omega)).mono ?_
    rintro e w3 ⟨x3, rfl, hx3, e3⟩
    have d3 := d1.trans e3
    have B2 := B1.d e3 hne
    clear B1
    go_wp2_with fail
    refine (intValue x3 _).mono ?_
    rintro e wv ⟨rfl, gv⟩
    have dv := d3.grew gv
    have B3 := B2.grew gv
    obtain ⟨b0, f0⟩ := B3.2.1 0 (by decide)
    obtain ⟨b1, f1⟩ := B3.2.1 1 (by decide)
    obtain ⟨b2, f2⟩ := B3.2.1 2 (by decide)
    have z0 := B3.2.2
    go_wp2
    refine bodyPost_ret (v := V.v ⟨1, x3, ⟨#[]⟩⟩) (by simp [results, Try.results61, go_sem, f0, f1, f2]) rfl ⟨_, rfl, (show V.okD ⟨1, x3, ⟨#[]⟩⟩ by simp [V.okD, ByteArray.size]), ?_⟩
    repeat' (first | with_reducible exact dv | with_reducible refine D.setCell ?_ ?_ _ | (dsimp only; omega))
  ·
    go_wp2_with fail
    refine (l01Pick g _ (d1.alloc _).cur _ 3 [⟨#[114, 101, 100]⟩, ⟨#[98, 108, 117, 101]⟩, ⟨#[105, 110, 107]⟩] (lit_rd _ #[.string ⟨#[114, 101, 100]⟩, .string ⟨#[98, 108, 117, 101]⟩, .string ⟨#[105, 110, 107]⟩] 9 1 3 3 rfl (Nat.le_refl _)) (cur_ne d1.cur) (by decide) (by decide)).mono ?_
    rintro e w4 ⟨x4, rfl, m4_, e4⟩
    have hx4 : x4.size ≤ 8 := by simp at m4_; rcases m4_ with rfl | rfl | rfl <;> decide
    have d4 := (d1.alloc _).trans e4
    clear m4_
    have B2 := (B1.grew ((Grew.refl _).alloc _)).d e4 hne
    clear B1
    go_wp2_with fail
    refine (stringValue x4 _).mono ?_
    rintro e wv ⟨rfl, gv⟩
    have dv := d4.grew gv
    have B3 := B2.grew gv
    obtain ⟨b0, f0⟩ := B3.2.1 0 (by decide)
    obtain ⟨b1, f1⟩ := B3.2.1 1 (by decide)
    obtain ⟨b2, f2⟩ := B3.2.1 2 (by decide)
    have z0 := B3.2.2
    go_wp2
    refine bodyPost_ret (v := V.v ⟨2, 0, x4⟩) (by simp [results, Try.results61, go_sem, f0, f1, f2]) rfl ⟨_, rfl, hx4, ?_⟩
    repeat' (first | with_reducible exact dv | with_reducible refine D.setCell ?_ ?_ _ | (dsimp only; omega))
  ·
    go_wp2_with fail
    refine (l01Pick g _ (d1.alloc _).cur _ 3 [⟨#[114, 101, 100]⟩, ⟨#[98, 108, 117, 101]⟩, ⟨#[105, 110, 107]⟩] (lit_rd _ #[.string ⟨#[114, 101, 100]⟩, .string ⟨#[98, 108, 117, 101]⟩, .string ⟨#[105, 110, 107]⟩] 9 1 3 3 rfl (Nat.le_refl _)) (cur_ne d1.cur) (by decide) (by decide)).mono ?_
    rintro e w5 ⟨x5, rfl, m5_, e5⟩
    have hx5 : x5.size ≤ 8 := by simp at m5_; rcases m5_ with rfl | rfl | rfl <;> decide
    have d5 := (d1.alloc _).trans e5
    clear m5_
    have B2 := (B1.grew ((Grew.refl _).alloc _)).d e5 hne
    clear B1
    go_wp2_with fail
    refine (stringValue x5 _).mono ?_
    rintro e wv ⟨rfl, gv⟩
    have dv := d5.grew gv
    have B3 := B2.grew gv
    obtain ⟨b0, f0⟩ := B3.2.1 0 (by decide)
    obtain ⟨b1, f1⟩ := B3.2.1 1 (by decide)
    obtain ⟨b2, f2⟩ := B3.2.1 2 (by decide)
    have z0 := B3.2.2
    go_wp2
    refine bodyPost_ret (v := V.v ⟨2, 0, x5⟩) (by simp [results, Try.results61, go_sem, f0, f1, f2]) rfl ⟨_, rfl, hx5, ?_⟩
    repeat' (first | with_reducible exact dv | with_reducible refine D.setCell ?_ ?_ _ | (dsimp only; omega))
set_option maxRecDepth 100000 in
set_option maxHeartbeats 2000000 in
theorem l02Any (g : Nat) (w : World) (hc : Cur w g) :
    Calls Try.prog 34 #[.pointer (some ⟨g, 0, none⟩)] w fun e w' => ∃ y : V, e = .returned (V.v y) ∧ V.okD y ∧ D g w w' := by
  have hl := hc.lt
  have hne : w.heap.size ≠ g := by omega
  have B0 := Box.new w #[.int .i64 0, .int .i64 0, .string ⟨#[]⟩] 45 3 rfl
  have d0 := (D.refl hc).alloc (.cells #[.int .i64 0, .int .i64 0, .string ⟨#[]⟩] 45)
  go_enter Try.func34, Try.ntmps34
  go_wp2_with fail
  refine (l02Value g _ d0.cur).mono ?_
  rintro e w1 ⟨⟨yk, yi, ys⟩, rfl, hy, e1⟩
  have d1 := d0.trans e1
  have B1 := B0.d e1 hne
  have hn1 : w1.heap.size ≠ g := by have := B1.1; have := e1.size; simp at this; omega
  clear B0
  unfold V.okD at hy
  simp only at hy
  have dA : D g w (w1.alloc (.cells #[.int .i64 yk, .int .i64 yi, .string ys] 45)) := by
    have := d1.size
    repeat' (first | with_reducible exact d1 | with_reducible refine D.alloc ?_ _ | with_reducible refine D.setCell ?_ ?_ _ | (dsimp only; omega))
  have BA := B1.grew ((Grew.refl _).alloc (.cells #[.int .i64 yk, .int .i64 yi, .string ys] 45))
  have BV := Box.new w1 #[.int .i64 yk, .int .i64 yi, .string ys] 45 3 rfl
  have a0 : (w1.alloc (.cells #[.int .i64 yk, .int .i64 yi, .string ys] 45)).cell? ⟨w1.heap.size, 0, none⟩ = some (.int .i64 yk) := by simp [go_sem]
  have a1 : (w1.alloc (.cells #[.int .i64 yk, .int .i64 yi, .string ys] 45)).cell? ⟨w1.heap.size, 1, none⟩ = some (.int .i64 yi) := by simp [go_sem]
  have a2 : (w1.alloc (.cells #[.int .i64 yk, .int .i64 yi, .string ys] 45)).cell? ⟨w1.heap.size, 2, none⟩ = some (.string ys) := by simp [go_sem]
  have hsz : w.heap.size < w1.heap.size := B1.1
  go_wp2_with fail
  refine (l01Below g _ dA.cur 10 (by omega) (by omega)).mono ?_
  rintro e w2 ⟨x, rfl, hx, e2⟩
  have d2 := dA.trans e2
  have B2 := BA.d e2 hne
  have V2 := BV.d e2 hn1
  replace a0 := e2.cell a0 hn1
  replace a1 := e2.cell a1 hn1
  replace a2 := e2.cell a2 hn1
  clear BA BV B1
  have hxs : x = 0 ∨ x = 1 ∨ x = 2 ∨ 3 ≤ x := by omega
  rcases hxs with rfl | rfl | rfl | hx3
  ·
    go_wp2_with fail
    refine (l01Below g _ d2.cur 5 (by omega) (by omega)).mono ?_
    rintro e w1 ⟨x1, rfl, hx1, e1⟩
    have d1 := d2.trans e1
    have B3 := (B2).d e1 hne
    have V3 := (V2).d e1 hn1
    have c0 := e1.cell a0 hn1
    have c1 := e1.cell a1 hn1
    have c2 := e1.cell a2 hn1
    obtain ⟨b0, f0⟩ := B3.2.1 0 (by decide)
    obtain ⟨b1, f1⟩ := B3.2.1 1 (by decide)
    obtain ⟨b2, f2⟩ := B3.2.1 2 (by decide)
    have z0 := B3.2.2
    have zv := V3.2.2
    go_wp2
    refine bodyPost_ret (v := V.v ⟨x1 - 1, yi, ys⟩) (by simp [results, Try.results34, go_sem, f0, f1, f2]) rfl ⟨_, rfl, (show V.okD ⟨x1 - 1, yi, ys⟩ from hy), ?_⟩
    have := d1.size
    repeat' (first | with_reducible exact d1 | with_reducible refine D.setCell ?_ ?_ _ | (dsimp only; omega))
  ·
    go_wp2_with fail
    refine (l01PickInt g _ (d2.alloc _).cur _ 5 [-1, 0, 999, 1000, 9223372036854775807] (lit_rd _ #[.int .i64 (-1), .int .i64 0, .int .i64 999, .int .i64 1000, .int .i64 9223372036854775807] 3 1 5 5 rfl (Nat.le_refl _)) (cur_ne d2.cur) (by decide) (by decide)).mono ?_
    rintro e w2 ⟨x2, rfl, m2_, e2⟩
    have d2 := (d2.alloc _).trans e2
    clear m2_
    have B3 := (B2.grew ((Grew.refl _).alloc _)).d e2 hne
    have V3 := (V2.grew ((Grew.refl _).alloc _)).d e2 hn1
    have c0 := e2.cell (grew_cell ((Grew.refl _).alloc _) a0) hn1
    have c1 := e2.cell (grew_cell ((Grew.refl _).alloc _) a1) hn1
    have c2 := e2.cell (grew_cell ((Grew.refl _).alloc _) a2) hn1
    obtain ⟨b0, f0⟩ := B3.2.1 0 (by decide)
    obtain ⟨b1, f1⟩ := B3.2.1 1 (by decide)
    obtain ⟨b2, f2⟩ := B3.2.1 2 (by decide)
    have z0 := B3.2.2
    have zv := V3.2.2
    go_wp2
    refine bodyPost_ret (v := V.v ⟨yk, x2, ys⟩) (by simp [results, Try.results34, go_sem, f0, f1, f2]) rfl ⟨_, rfl, (show V.okD ⟨yk, x2, ys⟩ from hy), ?_⟩
    have := d1.size
    repeat' (first | with_reducible exact d2 | with_reducible refine D.setCell ?_ ?_ _ | (dsimp only; omega))
  ·
    go_wp2_with fail
    refine (l01Pick g _ (d2.alloc _).cur _ 5 [⟨#[]⟩, ⟨#[65]⟩, ⟨#[97, 98, 99, 100, 101, 102, 103]⟩, ⟨#[97, 98, 99, 100, 101, 102]⟩, ⟨#[97, 32, 98]⟩] (lit_rd _ #[.string ⟨#[]⟩, .string ⟨#[65]⟩, .string ⟨#[97, 98, 99, 100, 101, 102, 103]⟩, .string ⟨#[97, 98, 99, 100, 101, 102]⟩, .string ⟨#[97, 32, 98]⟩] 9 1 5 5 rfl (Nat.le_refl _)) (cur_ne d2.cur) (by decide) (by decide)).mono ?_
    rintro e w3 ⟨x3, rfl, m3_, e3⟩
    have hx3 : x3.size ≤ 8 := by simp at m3_; rcases m3_ with rfl | rfl | rfl | rfl | rfl <;> decide
    have d3 := (d2.alloc _).trans e3
    clear m3_
    have B3 := (B2.grew ((Grew.refl _).alloc _)).d e3 hne
    have V3 := (V2.grew ((Grew.refl _).alloc _)).d e3 hn1
    have c0 := e3.cell (grew_cell ((Grew.refl _).alloc _) a0) hn1
    have c1 := e3.cell (grew_cell ((Grew.refl _).alloc _) a1) hn1
    have c2 := e3.cell (grew_cell ((Grew.refl _).alloc _) a2) hn1
    obtain ⟨b0, f0⟩ := B3.2.1 0 (by decide)
    obtain ⟨b1, f1⟩ := B3.2.1 1 (by decide)
    obtain ⟨b2, f2⟩ := B3.2.1 2 (by decide)
    have z0 := B3.2.2
    have zv := V3.2.2
    go_wp2
    refine bodyPost_ret (v := V.v ⟨yk, yi, x3⟩) (by simp [results, Try.results34, go_sem, f0, f1, f2]) rfl ⟨_, rfl, hx3, ?_⟩
    have := d1.size
    repeat' (first | with_reducible exact d3 | with_reducible refine D.setCell ?_ ?_ _ | (dsimp only; omega))
  ·
    have hn0_ : ¬ (x = 0) := by omega
    have hn1_ : ¬ (x = 1) := by omega
    have hn2_ : ¬ (x = 2) := by omega
    obtain ⟨b0, f0⟩ := B2.2.1 0 (by decide)
    obtain ⟨b1, f1⟩ := B2.2.1 1 (by decide)
    obtain ⟨b2, f2⟩ := B2.2.1 2 (by decide)
    have z0 := B2.2.2
    have zv := V2.2.2
    go_wp2
    refine bodyPost_ret (v := V.v ⟨yk, yi, ys⟩) (by simp [results, Try.results34, go_sem, f0, f1, f2]) rfl ⟨_, rfl, (show V.okD ⟨yk, yi, ys⟩ from hy), ?_⟩
    have := d1.size
    repeat' (first | with_reducible exact d2 | with_reducible refine D.setCell ?_ ?_ _ | (dsimp only; omega))
set_option maxRecDepth 100000 in
set_option maxHeartbeats 2000000 in
theorem l09Leaf (g : Nat) (w : World) (hc : Cur w g) :
    Calls Try.prog 33 #[.pointer (some ⟨g, 0, none⟩)] w fun e w' => ∃ y : N, e = .returned (N.v y) ∧ N.okD y ∧ D g w w' := by
  have hl := hc.lt
  have hne : w.heap.size ≠ g := by omega
  have B0 := Box.new w #[.int .i64 0, .int .i64 0, .int .i64 0, .string ⟨#[]⟩, .int .i64 0, .int .i64 0, .string ⟨#[]⟩] 47 7 rfl
  have d0 := (D.refl hc).alloc (.cells #[.int .i64 0, .int .i64 0, .int .i64 0, .string ⟨#[]⟩, .int .i64 0, .int .i64 0, .string ⟨#[]⟩] 47)
  go_enter Try.func33, Try.ntmps33
  go_wp2_with fail
  refine (l01Below g _ d0.cur 9 (by omega) (by omega)).mono ?_
  rintro e w1 ⟨x1, rfl, hx1, e1⟩
  have d1 := d0.trans e1
  have B1 := B0.d e1 hne
  clear B0
  have : x1 = 0 ∨ x1 = 1 ∨ x1 = 2 ∨ x1 = 3 ∨ x1 = 4 ∨ x1 = 5 ∨ x1 = 6 ∨ x1 = 7 ∨ x1 = 8 := by omega
  clear hx1
  rcases this with rfl | rfl | rfl | rfl | rfl | rfl | rfl | rfl | rfl
  ·
    obtain ⟨b0, f0⟩ := B1.2.1 0 (by decide)
    obtain ⟨b1, f1⟩ := B1.2.1 1 (by decide)
    obtain ⟨b2, f2⟩ := B1.2.1 2 (by decide)
    obtain ⟨b3, f3⟩ := B1.2.1 3 (by decide)
    obtain ⟨b4, f4⟩ := B1.2.1 4 (by decide)
    obtain ⟨b5, f5⟩ := B1.2.1 5 (by decide)
    obtain ⟨b6, f6⟩ := B1.2.1 6 (by decide)
    have z0 := B1.2.2
    go_wp2
    refine bodyPost_ret (v := N.v ⟨1, 0, 0, ⟨#[]⟩, ⟨0, 0, ⟨#[]⟩⟩⟩) (by simp [results, Try.results33, go_sem, f0, f1, f2, f3, f4, f5, f6]) rfl ⟨_, rfl, (show N.okD ⟨1, 0, 0, ⟨#[]⟩, ⟨0, 0, ⟨#[]⟩⟩⟩ from ⟨by simp [ByteArray.size], by simp [ByteArray.size]⟩), ?_⟩
    repeat' (first | with_reducible exact d1 | with_reducible refine D.setCell ?_ ?_ _ | (dsimp only; omega))
  ·
    go_wp2_with fail
    refine (l01Pick g _ (d1.alloc _).cur _ 4 [⟨#[97]⟩, ⟨#[98]⟩, ⟨#[110]⟩, ⟨#[116]⟩] (lit_rd _ #[.string ⟨#[97]⟩, .string ⟨#[98]⟩, .string ⟨#[110]⟩, .string ⟨#[116]⟩] 9 1 4 4 rfl (Nat.le_refl _)) (cur_ne d1.cur) (by decide) (by decide)).mono ?_
    rintro e w2 ⟨x2, rfl, m2_, e2⟩
    have hx2 : x2.size ≤ 8 := by simp at m2_; rcases m2_ with rfl | rfl | rfl | rfl <;> decide
    have d2 := (d1.alloc _).trans e2
    clear m2_
    have B2 := (B1.grew ((Grew.refl _).alloc _)).d e2 hne
    obtain ⟨b0, f0⟩ := B2.2.1 0 (by decide)
    obtain ⟨b1, f1⟩ := B2.2.1 1 (by decide)
    obtain ⟨b2, f2⟩ := B2.2.1 2 (by decide)
    obtain ⟨b3, f3⟩ := B2.2.1 3 (by decide)
    obtain ⟨b4, f4⟩ := B2.2.1 4 (by decide)
    obtain ⟨b5, f5⟩ := B2.2.1 5 (by decide)
    obtain ⟨b6, f6⟩ := B2.2.1 6 (by decide)
    have z0 := B2.2.2
    go_wp2
    refine bodyPost_ret (v := N.v ⟨2, 0, 0, x2, ⟨0, 0, ⟨#[]⟩⟩⟩) (by simp [results, Try.results33, go_sem, f0, f1, f2, f3, f4, f5, f6]) rfl ⟨_, rfl, (show N.okD ⟨2, 0, 0, x2, ⟨0, 0, ⟨#[]⟩⟩⟩ from ⟨hx2, by simp [ByteArray.size]⟩), ?_⟩
    repeat' (first | with_reducible exact d2 | with_reducible refine D.setCell ?_ ?_ _ | (dsimp only; omega))
  ·
    go_wp2_with fail
    refine (l01Below g _ d1.cur 4 (by omega) (by omega)).mono ?_
    rintro e w3 ⟨x3, rfl, hx3, e3⟩
    have d3 := d1.trans e3
    have B3 := B1.d e3 hne
    go_wp2_with fail
    refine (intValue x3 _).mono ?_
    rintro e wv ⟨rfl, gv⟩
    have dv := d3.grew gv
    have Bv := B3.grew gv
    obtain ⟨b0, f0⟩ := Bv.2.1 0 (by decide)
    obtain ⟨b1, f1⟩ := Bv.2.1 1 (by decide)
    obtain ⟨b2, f2⟩ := Bv.2.1 2 (by decide)
    obtain ⟨b3, f3⟩ := Bv.2.1 3 (by decide)
    obtain ⟨b4, f4⟩ := Bv.2.1 4 (by decide)
    obtain ⟨b5, f5⟩ := Bv.2.1 5 (by decide)
    obtain ⟨b6, f6⟩ := Bv.2.1 6 (by decide)
    have z0 := Bv.2.2
    go_wp2
    refine bodyPost_ret (v := N.v ⟨3, 0, 0, ⟨#[97]⟩, ⟨1, x3, ⟨#[]⟩⟩⟩) (by simp [results, Try.results33, go_sem, f0, f1, f2, f3, f4, f5, f6]) rfl ⟨_, rfl, (show N.okD ⟨3, 0, 0, ⟨#[97]⟩, ⟨1, x3, ⟨#[]⟩⟩⟩ from ⟨by simp [ByteArray.size], by simp [ByteArray.size]⟩), ?_⟩
    repeat' (first | with_reducible exact dv | with_reducible refine D.setCell ?_ ?_ _ | (dsimp only; omega))
  ·
    go_wp2_with fail
    refine (l01Pick g _ (d1.alloc _).cur _ 2 [⟨#[114, 101, 100]⟩, ⟨#[98, 108, 117, 101]⟩] (lit_rd _ #[.string ⟨#[114, 101, 100]⟩, .string ⟨#[98, 108, 117, 101]⟩] 9 1 2 2 rfl (Nat.le_refl _)) (cur_ne d1.cur) (by decide) (by decide)).mono ?_
    rintro e w4 ⟨x4, rfl, m4_, e4⟩
    have hx4 : x4.size ≤ 8 := by simp at m4_; rcases m4_ with rfl | rfl <;> decide
    have d4 := (d1.alloc _).trans e4
    clear m4_
    have B2 := (B1.grew ((Grew.refl _).alloc _)).d e4 hne
    go_wp2_with fail
    refine (stringValue x4 _).mono ?_
    rintro e wv ⟨rfl, gv⟩
    have dv := d4.grew gv
    have Bv := B2.grew gv
    obtain ⟨b0, f0⟩ := Bv.2.1 0 (by decide)
    obtain ⟨b1, f1⟩ := Bv.2.1 1 (by decide)
    obtain ⟨b2, f2⟩ := Bv.2.1 2 (by decide)
    obtain ⟨b3, f3⟩ := Bv.2.1 3 (by decide)
    obtain ⟨b4, f4⟩ := Bv.2.1 4 (by decide)
    obtain ⟨b5, f5⟩ := Bv.2.1 5 (by decide)
    obtain ⟨b6, f6⟩ := Bv.2.1 6 (by decide)
    have z0 := Bv.2.2
    go_wp2
    refine bodyPost_ret (v := N.v ⟨3, 0, 0, ⟨#[116]⟩, ⟨2, 0, x4⟩⟩) (by simp [results, Try.results33, go_sem, f0, f1, f2, f3, f4, f5, f6]) rfl ⟨_, rfl, (show N.okD ⟨3, 0, 0, ⟨#[116]⟩, ⟨2, 0, x4⟩⟩ from ⟨by simp [ByteArray.size], hx4⟩), ?_⟩
    repeat' (first | with_reducible exact dv | with_reducible refine D.setCell ?_ ?_ _ | (dsimp only; omega))
  ·
    go_wp2_with fail
    refine (l01Pick g _ (d1.alloc _).cur _ 2 [⟨#[97]⟩, ⟨#[98]⟩] (lit_rd _ #[.string ⟨#[97]⟩, .string ⟨#[98]⟩] 9 1 2 2 rfl (Nat.le_refl _)) (cur_ne d1.cur) (by decide) (by decide)).mono ?_
    rintro e w5 ⟨x5, rfl, m5_, e5⟩
    have hx5 : x5.size ≤ 8 := by simp at m5_; rcases m5_ with rfl | rfl <;> decide
    have d5 := (d1.alloc _).trans e5
    clear m5_
    have B2 := (B1.grew ((Grew.refl _).alloc _)).d e5 hne
    go_wp2_with fail
    refine (l01Below g _ d5.cur 3 (by omega) (by omega)).mono ?_
    rintro e w6 ⟨x6, rfl, hx6, e6⟩
    have d6 := d5.trans e6
    have B3 := B2.d e6 hne
    go_wp2_with fail
    refine (intValue (1 + x6) _).mono ?_
    rintro e wv ⟨rfl, gv⟩
    have dv := d6.grew gv
    have Bv := B3.grew gv
    obtain ⟨b0, f0⟩ := Bv.2.1 0 (by decide)
    obtain ⟨b1, f1⟩ := Bv.2.1 1 (by decide)
    obtain ⟨b2, f2⟩ := Bv.2.1 2 (by decide)
    obtain ⟨b3, f3⟩ := Bv.2.1 3 (by decide)
    obtain ⟨b4, f4⟩ := Bv.2.1 4 (by decide)
    obtain ⟨b5, f5⟩ := Bv.2.1 5 (by decide)
    obtain ⟨b6, f6⟩ := Bv.2.1 6 (by decide)
    have z0 := Bv.2.2
    go_wp2
    refine bodyPost_ret (v := N.v ⟨4, 0, 0, x5, ⟨1, 1 + x6, ⟨#[]⟩⟩⟩) (by simp [results, Try.results33, go_sem, f0, f1, f2, f3, f4, f5, f6]) rfl ⟨_, rfl, (show N.okD ⟨4, 0, 0, x5, ⟨1, 1 + x6, ⟨#[]⟩⟩⟩ from ⟨hx5, by simp [ByteArray.size]⟩), ?_⟩
    repeat' (first | with_reducible exact dv | with_reducible refine D.setCell ?_ ?_ _ | (dsimp only; omega))
  ·
    go_wp2_with fail
    refine (l09DirName g _ d1.cur).mono ?_
    rintro e w7 ⟨x7, rfl, hx7, e7⟩
    have d7 := d1.trans e7
    have B2 := B1.d e7 hne
    obtain ⟨b0, f0⟩ := B2.2.1 0 (by decide)
    obtain ⟨b1, f1⟩ := B2.2.1 1 (by decide)
    obtain ⟨b2, f2⟩ := B2.2.1 2 (by decide)
    obtain ⟨b3, f3⟩ := B2.2.1 3 (by decide)
    obtain ⟨b4, f4⟩ := B2.2.1 4 (by decide)
    obtain ⟨b5, f5⟩ := B2.2.1 5 (by decide)
    obtain ⟨b6, f6⟩ := B2.2.1 6 (by decide)
    have z0 := B2.2.2
    go_wp2
    refine bodyPost_ret (v := N.v ⟨8, 0, 0, x7, ⟨0, 0, ⟨#[]⟩⟩⟩) (by simp [results, Try.results33, go_sem, f0, f1, f2, f3, f4, f5, f6]) rfl ⟨_, rfl, (show N.okD ⟨8, 0, 0, x7, ⟨0, 0, ⟨#[]⟩⟩⟩ from ⟨hx7, by simp [ByteArray.size]⟩), ?_⟩
    repeat' (first | with_reducible exact d7 | with_reducible refine D.setCell ?_ ?_ _ | (dsimp only; omega))
  ·
    go_wp2_with fail
    refine (l09DirName g _ d1.cur).mono ?_
    rintro e w8 ⟨x8, rfl, hx8, e8⟩
    have d8 := d1.trans e8
    have B2 := B1.d e8 hne
    obtain ⟨b0, f0⟩ := B2.2.1 0 (by decide)
    obtain ⟨b1, f1⟩ := B2.2.1 1 (by decide)
    obtain ⟨b2, f2⟩ := B2.2.1 2 (by decide)
    obtain ⟨b3, f3⟩ := B2.2.1 3 (by decide)
    obtain ⟨b4, f4⟩ := B2.2.1 4 (by decide)
    obtain ⟨b5, f5⟩ := B2.2.1 5 (by decide)
    obtain ⟨b6, f6⟩ := B2.2.1 6 (by decide)
    have z0 := B2.2.2
    go_wp2
    refine bodyPost_ret (v := N.v ⟨8, 0, 0, x8, ⟨0, 0, ⟨#[]⟩⟩⟩) (by simp [results, Try.results33, go_sem, f0, f1, f2, f3, f4, f5, f6]) rfl ⟨_, rfl, (show N.okD ⟨8, 0, 0, x8, ⟨0, 0, ⟨#[]⟩⟩⟩ from ⟨hx8, by simp [ByteArray.size]⟩), ?_⟩
    repeat' (first | with_reducible exact d8 | with_reducible refine D.setCell ?_ ?_ _ | (dsimp only; omega))
  ·
    go_wp2_with fail
    refine (l09DirName g _ d1.cur).mono ?_
    rintro e w9 ⟨x9, rfl, hx9, e9⟩
    have d9 := d1.trans e9
    have B2 := B1.d e9 hne
    obtain ⟨b0, f0⟩ := B2.2.1 0 (by decide)
    obtain ⟨b1, f1⟩ := B2.2.1 1 (by decide)
    obtain ⟨b2, f2⟩ := B2.2.1 2 (by decide)
    obtain ⟨b3, f3⟩ := B2.2.1 3 (by decide)
    obtain ⟨b4, f4⟩ := B2.2.1 4 (by decide)
    obtain ⟨b5, f5⟩ := B2.2.1 5 (by decide)
    obtain ⟨b6, f6⟩ := B2.2.1 6 (by decide)
    have z0 := B2.2.2
    go_wp2
    refine bodyPost_ret (v := N.v ⟨9, 0, 0, x9, ⟨0, 0, ⟨#[]⟩⟩⟩) (by simp [results, Try.results33, go_sem, f0, f1, f2, f3, f4, f5, f6]) rfl ⟨_, rfl, (show N.okD ⟨9, 0, 0, x9, ⟨0, 0, ⟨#[]⟩⟩⟩ from ⟨hx9, by simp [ByteArray.size]⟩), ?_⟩
    repeat' (first | with_reducible exact d9 | with_reducible refine D.setCell ?_ ?_ _ | (dsimp only; omega))
  ·
    go_wp2_with fail
    refine (l01Below g _ d1.cur 4 (by omega) (by omega)).mono ?_
    rintro e w10 ⟨x10, rfl, hx10, e10⟩
    have d10 := d1.trans e10
    have B3 := B1.d e10 hne
    go_wp2_with fail
    refine (intValue x10 _).mono ?_
    rintro e wv ⟨rfl, gv⟩
    have dv := d10.grew gv
    have Bv := B3.grew gv
    obtain ⟨b0, f0⟩ := Bv.2.1 0 (by decide)
    obtain ⟨b1, f1⟩ := Bv.2.1 1 (by decide)
    obtain ⟨b2, f2⟩ := Bv.2.1 2 (by decide)
    obtain ⟨b3, f3⟩ := Bv.2.1 3 (by decide)
    obtain ⟨b4, f4⟩ := Bv.2.1 4 (by decide)
    obtain ⟨b5, f5⟩ := Bv.2.1 5 (by decide)
    obtain ⟨b6, f6⟩ := Bv.2.1 6 (by decide)
    have z0 := Bv.2.2
    go_wp2
    refine bodyPost_ret (v := N.v ⟨3, 0, 0, ⟨#[98]⟩, ⟨1, x10, ⟨#[]⟩⟩⟩) (by simp [results, Try.results33, go_sem, f0, f1, f2, f3, f4, f5, f6]) rfl ⟨_, rfl, (show N.okD ⟨3, 0, 0, ⟨#[98]⟩, ⟨1, x10, ⟨#[]⟩⟩⟩ from ⟨by simp [ByteArray.size], by simp [ByteArray.size]⟩), ?_⟩
    repeat' (first | with_reducible exact dv | with_reducible refine D.setCell ?_ ?_ _ | (dsimp only; omega))
def qOk (n : Nat) (xs : List N) : Prop := xs.length ≤ n ∧ ∀ x, x ∈ xs → x.okD
theorem qOk.snoc {n : Nat} {xs : List N} {x : N} (h : qOk n xs) (hx : x.okD) : qOk (n + 1) (xs ++ [x]) :=
  ⟨by have := h.1; simp; omega, fun y hy => by
    rw [List.mem_append] at hy
    rcases hy with hy | hy
    · exact h.2 y hy
    · simp at hy; subst hy; exact hx⟩
theorem qOk.mono {n m : Nat} {xs : List N} (h : qOk n xs) (hm : n ≤ m) : qOk m xs := ⟨Nat.le_trans h.1 hm, h.2⟩
theorem op_ok (o l r : Int) : N.okD ⟨o, l, r, ⟨#[]⟩, ⟨0, 0, ⟨#[]⟩⟩⟩ := ⟨by simp [ByteArray.size], by simp [ByteArray.size]⟩
set_option maxRecDepth 100000 in
set_option maxHeartbeats 2000000 in
theorem l09Grow0 (g : Nat) (W0 w : World) (hd : D g W0 w) (q : Value) (xs : List N) (ho : w.ownsRow W0.heap.size 47 7 q xs.length (rows N.c xs)) (n : Nat) (hq : qOk n xs) (hn : n ≤ 1000) (b : Bool) :
    Calls Try.prog 57 #[.pointer (some ⟨g, 0, none⟩), q, .int .i64 0, .bool b] w fun e w' => ∃ q', e = .returned q' ∧ ∃ xs', w'.ownsRow W0.heap.size 47 7 q' xs'.length (rows N.c xs') ∧ xs.length < xs'.length ∧ qOk (n + 1) xs' ∧ D g W0 w' := by
  obtain ⟨i0, hi, hz0, hz1, hz2⟩ := info_parts Try.infoN
  have hlt := hd.lt
  obtain ⟨qa, qc, rfl⟩ := own_slice ho
  have hlen := hq.1
  go_enter Try.func57, Try.ntmps57
  go_wp2_with fail
  refine (l09Leaf g _ hd.cur).mono ?_
  rintro e wl ⟨y, rfl, hy, el⟩
  have dl := hd.trans el
  have HL := Lib.hid (el.own ho hlt)
  go_wp2_with (at_builtin; refine wpList_append_own _ rfl _ _ 24 rfl W0.heap.size 47 i0 _ 7 72 Try.underlying24 hi hz0 hz1 hz2 rfl (by decide) _ _ _ rfl (HL.out.alloc _) ⟨_, 0, none⟩ 1 1 _ rfl rfl (lit_news (by simp)) (fun x hx => by simp at hx; rcases hx with rfl | rfl | rfl | rfl | rfl | rfl | rfl <;> rfl) (by unfold maxLen; omega) (by omega) (by have := dl.size; simp; omega) ?_; intro v' w' hown' hgr2 _)
  go_ret
  exact ⟨_, rfl, xs ++ [y], by simpa [rows, N.c] using hown', by simp, hq.snoc hy, (dl.alloc _).grown hgr2 (fun j h => (HL.out.lt j h).1)⟩
set_option maxRecDepth 100000 in
set_option maxHeartbeats 4000000 in
theorem l09Grow (g : Nat) (W0 : World) (d : Nat) : ∀ (w : World) (hd : D g W0 w) (q : Value) (xs : List N) (ho : w.ownsRow W0.heap.size 47 7 q xs.length (rows N.c xs)) (n : Nat) (hq : qOk n xs) (hn : n + 2 * d ≤ 1000) (b : Bool),
    Calls Try.prog 57 #[.pointer (some ⟨g, 0, none⟩), q, .int .i64 (d : Int), .bool b] w fun e w' => ∃ q', e = .returned q' ∧ ∃ xs', w'.ownsRow W0.heap.size 47 7 q' xs'.length (rows N.c xs') ∧ xs.length < xs'.length ∧ qOk (n + 1 + 2 * d) xs' ∧ D g W0 w' := by
  obtain ⟨i0, hi, hz0, hz1, hz2⟩ := info_parts Try.infoN
  induction d with
  | zero => intro w hd q xs ho n hq hn b; exact l09Grow0 g W0 w hd q xs ho n hq (by omega) b
  | succ d ih =>
    intro w hd q xs ho n hq hn b
    have hlt := hd.lt
    obtain ⟨qa, qc, rfl⟩ := own_slice ho
    have hlen := hq.1
    have hpp : ((d + 1 : Nat) : Int) - 1 = d := by omega
    have hne0 : ¬ (((d + 1 : Nat) : Int) = 0) := by omega
    go_enter Try.func57, Try.ntmps57
    go_wp2_with fail
    refine (l01Once g _ hd.cur 3 (by decide) (by decide)).mono ?_
    rintro e w1 ⟨c, rfl, e1⟩
    have d1 := hd.trans e1
    have H1 := Lib.hid (e1.own ho hlt)
    cases c
    · go_wp2_with fail
      refine (l01Below g _ d1.cur 5 (by decide) (by decide)).mono ?_
      rintro e w2 ⟨k, rfl, hk, e2⟩
      have d2 := d1.trans e2
      have H2 := Lib.hid (e2.own H1.out hlt)
      by_cases hA : k = 0 ∧ b = true
      · obtain ⟨rfl, rfl⟩ := hA
        go_wp2_with fail
        refine (ih _ d2 _ xs H2.out n hq (by omega) true).mono ?_
        rintro e w3 ⟨q3, rfl, xs3, ho3, hl3, hq3, d3⟩
        have H3 := Lib.hid ho3
        obtain ⟨qa3, qc3, rfl⟩ := own_slice ho3
        have hn3 := hq3.1
        have hp3 : (0 : Int) ≤ (xs3.length : Int) - 1 := by omega
        clear ho3
        go_wp2_with (at_builtin; refine wpList_append_own _ rfl _ _ 24 rfl W0.heap.size 47 i0 _ 7 72 Try.underlying24 hi hz0 hz1 hz2 rfl (by decide) _ _ _ rfl (H3.out.alloc _) ⟨_, 0, none⟩ 1 1 _ rfl rfl (lit_news (by simp)) (fun x hx => by simp at hx; rcases hx with rfl | rfl | rfl | rfl | rfl | rfl | rfl <;> rfl) (by unfold maxLen; omega) (by omega) (by have := d3.size; simp; omega) ?_; intro v' w' hown' hgr2 _)
        go_ret
        exact ⟨_, rfl, xs3 ++ [⟨5, (xs3.length : Int) - 1, 0, ⟨#[]⟩, ⟨0, 0, ⟨#[]⟩⟩⟩], by simpa [rows, N.c] using hown', by simp; omega, (hq3.snoc (op_ok _ _ _)).mono (by omega), (d3.alloc _).grown hgr2 (fun j h => (H3.out.lt j h).1)⟩
      · have hbk : ¬ (k = 0) ∨ (k = 0 ∧ b = false) := by
          by_cases h : k = 0
          · exact .inr ⟨h, by cases hb : b with | false => rfl | true => exact absurd ⟨h, hb⟩ hA⟩
          · exact .inl h
        rcases hbk with hk0 | ⟨rfl, rfl⟩
        ·
          have hkb : (k == 0) = false := by simp [hk0]
          go_wp2_with fail
          refine (ih _ d2 _ xs H2.out n hq (by omega) b).mono ?_
          rintro e w3 ⟨q3, rfl, xs3, ho3, hl3, hq3, d3⟩
          have H3 := Lib.hid ho3
          obtain ⟨qa3, qc3, rfl⟩ := own_slice ho3
          have hn3 := hq3.1
          have hp3 : (0 : Int) ≤ (xs3.length : Int) - 1 := by omega
          clear ho3
          go_wp2_with fail
          refine (l09Grow0 g W0 _ d3 _ xs3 H3.out _ hq3 (by omega) b).mono ?_
          rintro e w4 ⟨q4, rfl, xs4, ho4, hl4, hq4, d4⟩
          have H4 := Lib.hid ho4
          obtain ⟨qa4, qc4, rfl⟩ := own_slice ho4
          have hn4 := hq4.1
          have hp4 : (0 : Int) ≤ (xs4.length : Int) - 1 := by omega
          clear ho4
          have hk3 : k < 3 ∨ ¬ (k < 3) := by omega
          rcases hk3 with hk3 | hk3
          ·
            go_wp2_with (at_builtin; refine wpList_append_own _ rfl _ _ 24 rfl W0.heap.size 47 i0 _ 7 72 Try.underlying24 hi hz0 hz1 hz2 rfl (by decide) _ _ _ rfl (H4.out.alloc _) ⟨_, 0, none⟩ 1 1 _ rfl rfl (lit_news (by simp)) (fun x hx => by simp at hx; rcases hx with rfl | rfl | rfl | rfl | rfl | rfl | rfl <;> rfl) (by unfold maxLen; omega) (by omega) (by have := d4.size; simp; omega) ?_; intro v' w' hown' hgr2 _)
            go_ret
            exact ⟨_, rfl, xs4 ++ [⟨6, (xs3.length : Int) - 1, (xs4.length : Int) - 1, ⟨#[]⟩, ⟨0, 0, ⟨#[]⟩⟩⟩], by simpa [rows, N.c] using hown', by simp; omega, (hq4.snoc (op_ok _ _ _)).mono (by omega), (d4.alloc _).grown hgr2 (fun j h => (H4.out.lt j h).1)⟩
          ·
            go_wp2_with (at_builtin; refine wpList_append_own _ rfl _ _ 24 rfl W0.heap.size 47 i0 _ 7 72 Try.underlying24 hi hz0 hz1 hz2 rfl (by decide) _ _ _ rfl (H4.out.alloc _) ⟨_, 0, none⟩ 1 1 _ rfl rfl (lit_news (by simp)) (fun x hx => by simp at hx; rcases hx with rfl | rfl | rfl | rfl | rfl | rfl | rfl <;> rfl) (by unfold maxLen; omega) (by omega) (by have := d4.size; simp; omega) ?_; intro v' w' hown' hgr2 _)
            go_ret
            exact ⟨_, rfl, xs4 ++ [⟨7, (xs3.length : Int) - 1, (xs4.length : Int) - 1, ⟨#[]⟩, ⟨0, 0, ⟨#[]⟩⟩⟩], by simpa [rows, N.c] using hown', by simp; omega, (hq4.snoc (op_ok _ _ _)).mono (by omega), (d4.alloc _).grown hgr2 (fun j h => (H4.out.lt j h).1)⟩
        ·
          go_wp2_with fail
          refine (ih _ d2 _ xs H2.out n hq (by omega) false).mono ?_
          rintro e w3 ⟨q3, rfl, xs3, ho3, hl3, hq3, d3⟩
          have H3 := Lib.hid ho3
          obtain ⟨qa3, qc3, rfl⟩ := own_slice ho3
          have hn3 := hq3.1
          have hp3 : (0 : Int) ≤ (xs3.length : Int) - 1 := by omega
          clear ho3
          go_wp2_with fail
          refine (l09Grow0 g W0 _ d3 _ xs3 H3.out _ hq3 (by omega) false).mono ?_
          rintro e w4 ⟨q4, rfl, xs4, ho4, hl4, hq4, d4⟩
          have H4 := Lib.hid ho4
          obtain ⟨qa4, qc4, rfl⟩ := own_slice ho4
          have hn4 := hq4.1
          have hp4 : (0 : Int) ≤ (xs4.length : Int) - 1 := by omega
          clear ho4
          go_wp2_with (at_builtin; refine wpList_append_own _ rfl _ _ 24 rfl W0.heap.size 47 i0 _ 7 72 Try.underlying24 hi hz0 hz1 hz2 rfl (by decide) _ _ _ rfl (H4.out.alloc _) ⟨_, 0, none⟩ 1 1 _ rfl rfl (lit_news (by simp)) (fun x hx => by simp at hx; rcases hx with rfl | rfl | rfl | rfl | rfl | rfl | rfl <;> rfl) (by unfold maxLen; omega) (by omega) (by have := d4.size; simp; omega) ?_; intro v' w' hown' hgr2 _)
          go_ret
          exact ⟨_, rfl, xs4 ++ [⟨6, (xs3.length : Int) - 1, (xs4.length : Int) - 1, ⟨#[]⟩, ⟨0, 0, ⟨#[]⟩⟩⟩], by simpa [rows, N.c] using hown', by simp; omega, (hq4.snoc (op_ok _ _ _)).mono (by omega), (d4.alloc _).grown hgr2 (fun j h => (H4.out.lt j h).1)⟩
    ·
      go_wp2_with fail
      refine (l09Leaf g _ d1.cur).mono ?_
      rintro e wl ⟨y, rfl, hy, el⟩
      have dl := d1.trans el
      have HL := Lib.hid (el.own H1.out hlt)
      go_wp2_with (at_builtin; refine wpList_append_own _ rfl _ _ 24 rfl W0.heap.size 47 i0 _ 7 72 Try.underlying24 hi hz0 hz1 hz2 rfl (by decide) _ _ _ rfl (HL.out.alloc _) ⟨_, 0, none⟩ 1 1 _ rfl rfl (lit_news (by simp)) (fun x hx => by simp at hx; rcases hx with rfl | rfl | rfl | rfl | rfl | rfl | rfl <;> rfl) (by unfold maxLen; omega) (by omega) (by have := dl.size; simp; omega) ?_; intro v' w' hown' hgr2 _)
      go_ret
      exact ⟨_, rfl, xs ++ [y], by simpa [rows, N.c] using hown', by simp, (hq.snoc hy).mono (by omega), (dl.alloc _).grown hgr2 (fun j h => (HL.out.lt j h).1)⟩
set_option maxRecDepth 100000 in
set_option maxHeartbeats 2000000 in
theorem l09Question (g : Nat) (w : World) (hc : Cur w g) :
    Calls Try.prog 29 #[.pointer (some ⟨g, 0, none⟩)] w fun e w' => ∃ q, e = .returned q ∧ ∃ xs, w'.ownsRow w.heap.size 47 7 q xs.length (rows N.c xs) ∧ 0 < xs.length ∧ qOk 7 xs ∧ D g w w' := by
  go_enter Try.func29, Try.ntmps29
  go_wp2_with fail
  refine (l01Below g _ hc 4 (by decide) (by decide)).mono ?_
  rintro e w1 ⟨x, rfl, hx, d1⟩
  obtain ⟨k, rfl⟩ : ∃ k : Nat, x = k := ⟨x.toNat, by omega⟩
  go_wp2_with fail
  refine (l09Grow g w k _ d1 _ [] (World.ownsRow_nil _ _ _ _) 0 ⟨Nat.le_refl _, by simp⟩ (by omega) true).mono ?_
  rintro e w2 ⟨q, rfl, xs, ho, hl, hq, d2⟩
  go_wp2
  go_ret
  exact ⟨_, rfl, xs, ho, by simpa using hl, hq.mono (by omega), d2⟩
theorem N.okD_set {xs : List N} {n i : Nat} {y : N} (h : qOk n xs) (hy : y.okD) : qOk n (xs.set i y) :=
  ⟨by rw [List.length_set]; exact h.1, fun z hz => by
    rcases List.mem_or_eq_of_mem_set hz with hz | rfl
    · exact h.2 z hz
    · exact hy⟩
set_option maxRecDepth 100000 in
set_option maxHeartbeats 4000000 in
theorem l09Any (g : Nat) (w : World) (hc : Cur w g) :
    Calls Try.prog 16 #[.pointer (some ⟨g, 0, none⟩)] w fun e w' => ∃ q, e = .returned q ∧ ∃ xs, w'.ownsRow w.heap.size 47 7 q xs.length (rows N.c xs) ∧ qOk 8 xs ∧ D g w w' := by
  obtain ⟨i0, hi, hz0, hz1, hz2⟩ := info_parts Try.infoN
  have hlt := hc.lt
  go_enter Try.func16, Try.ntmps16
  go_wp2_with fail
  refine (l09Question g _ hc).mono ?_
  rintro e w1 ⟨q, rfl, xs, ho, hpos, hq, d1⟩
  have hlen := hq.1
  obtain ⟨gb, qc, rfl⟩ : ∃ gb qc, q = .slice (some ⟨gb, 0, none⟩) xs.length qc := by
    rcases ho.2 with ⟨_, h0⟩ | ⟨b, cap, cur, h, _⟩
    · omega
    · exact ⟨b, cap, h⟩
  have hgb := (ho.lt gb rfl).1
  have hne : gb ≠ g := by omega
  have H1 := Lib.hid ho
  clear ho
  go_wp2_with fail
  refine (l01Below g _ d1.cur xs.length (by omega) (by omega)).mono ?_
  rintro e w2 ⟨k0, rfl, hk, e2⟩
  obtain ⟨k, rfl⟩ : ∃ k : Nat, k0 = k := ⟨k0.toNat, by omega⟩
  have hkx : k < xs.length := by omega
  have d2 := d1.trans e2
  have H2 := Lib.hid (e2.own H1.out hlt)
  go_wp2_with fail
  refine (l01Below g _ d2.cur 10 (by omega) (by omega)).mono ?_
  rintro e w3 ⟨x, rfl, hx, e3⟩
  have d3 := d2.trans e3
  have H3 := Lib.hid (e3.own H2.out hlt)
  have hq8 : qOk 8 xs := hq.mono (by decide)
  have hxs : x = 0 ∨ x = 1 ∨ x = 2 ∨ x = 3 ∨ x = 4 ∨ x = 5 ∨ 6 ≤ x := by omega
  rcases hxs with rfl | rfl | rfl | rfl | rfl | rfl | hx6
  ·
    go_wp2_with fail
    refine (l01Below g _ d3.cur 12 (by omega) (by omega)).mono ?_
    rintro e w11 ⟨x11, rfl, hx11, e11⟩
    have d11 := d3.trans e11
    have H4 := Lib.hid (e11.own H3.out hlt)
    obtain ⟨y, hyk, g0, g1, g2, g3, g4, g5, g6⟩ := ownN H4.out hkx
    have hfz := H4.out.frozenAt
    have hyo := hq8.2 y (List.mem_of_getElem? hyk.out)
    go_wp2
    go_ret
    refine ⟨_, rfl, xs.set k ⟨x11 - 1, y.left, y.right, y.name, y.val⟩, ?_, N.okD_set hq8 hyo, ?_⟩
    · rw [List.length_set]
      have h1 := ownsRow_stores (H4.out) (k * 7) (.int .i64 (x11 - 1))
      have hr := rows_set1 N.len xs k 0 y ⟨x11 - 1, y.left, y.right, y.name, y.val⟩ (.int .i64 (x11 - 1)) hyk.out (by decide) rfl
      try rw [Nat.add_zero] at hr
      rw [hr] at h1
      exact h1
    · repeat' (first | with_reducible exact d11 | with_reducible refine D.setCell ?_ ?_ _ | (dsimp only; omega))
  ·
    go_wp2_with fail
    refine (l01PickInt g _ (d3.alloc _).cur _ 5 [-1, 0, k, 8, 9223372036854775807] (lit_rd _ #[.int .i64 (-1), .int .i64 0, .int .i64 (k), .int .i64 8, .int .i64 9223372036854775807] 3 1 5 5 rfl (Nat.le_refl _)) (cur_ne d3.cur) (by decide) (by decide)).mono ?_
    rintro e w12 ⟨x12, rfl, m12_, e12⟩
    have d12 := (d3.alloc _).trans e12
    clear m12_
    have H4 := Lib.hid (e12.own (H3.out.alloc _) hlt)
    obtain ⟨y, hyk, g0, g1, g2, g3, g4, g5, g6⟩ := ownN H4.out hkx
    have hfz := H4.out.frozenAt
    have hyo := hq8.2 y (List.mem_of_getElem? hyk.out)
    go_wp2
    go_ret
    refine ⟨_, rfl, xs.set k ⟨y.op, x12, y.right, y.name, y.val⟩, ?_, N.okD_set hq8 hyo, ?_⟩
    · rw [List.length_set]
      have h1 := ownsRow_stores (H4.out) (k * 7 + 1) (.int .i64 x12)
      have hr := rows_set1 N.len xs k 1 y ⟨y.op, x12, y.right, y.name, y.val⟩ (.int .i64 x12) hyk.out (by decide) rfl
      try rw [Nat.add_zero] at hr
      rw [hr] at h1
      exact h1
    · repeat' (first | with_reducible exact d12 | with_reducible refine D.setCell ?_ ?_ _ | (dsimp only; omega))
  ·
    go_wp2_with fail
    refine (l01Pick g _ (d3.alloc _).cur _ 5 [⟨#[]⟩, ⟨#[97]⟩, ⟨#[100, 97]⟩, ⟨#[97, 98, 99, 100, 101, 102, 103]⟩, ⟨#[65]⟩] (lit_rd _ #[.string ⟨#[]⟩, .string ⟨#[97]⟩, .string ⟨#[100, 97]⟩, .string ⟨#[97, 98, 99, 100, 101, 102, 103]⟩, .string ⟨#[65]⟩] 9 1 5 5 rfl (Nat.le_refl _)) (cur_ne d3.cur) (by decide) (by decide)).mono ?_
    rintro e w13 ⟨x13, rfl, m13_, e13⟩
    have hx13 : x13.size ≤ 8 := by simp at m13_; rcases m13_ with rfl | rfl | rfl | rfl | rfl <;> decide
    have d13 := (d3.alloc _).trans e13
    clear m13_
    have H4 := Lib.hid (e13.own (H3.out.alloc _) hlt)
    obtain ⟨y, hyk, g0, g1, g2, g3, g4, g5, g6⟩ := ownN H4.out hkx
    have hfz := H4.out.frozenAt
    have hyo := hq8.2 y (List.mem_of_getElem? hyk.out)
    go_wp2
    go_ret
    refine ⟨_, rfl, xs.set k ⟨y.op, y.left, y.right, x13, y.val⟩, ?_, N.okD_set hq8 ⟨hx13, hyo.2⟩, ?_⟩
    · rw [List.length_set]
      have h1 := ownsRow_stores (H4.out) (k * 7 + 3) (.string x13)
      have hr := rows_set1 N.len xs k 3 y ⟨y.op, y.left, y.right, x13, y.val⟩ (.string x13) hyk.out (by decide) rfl
      try rw [Nat.add_zero] at hr
      rw [hr] at h1
      exact h1
    · repeat' (first | with_reducible exact d13 | with_reducible refine D.setCell ?_ ?_ _ | (dsimp only; omega))
  ·
    go_wp2_with fail
    refine (l09Leaf g _ d3.cur).mono ?_
    rintro e wl ⟨y, rfl, hy, el⟩
    have dl := d3.trans el
    have HL := Lib.hid (el.own H3.out hlt)
    go_wp2_with (at_builtin; refine wpList_append_own _ rfl _ _ 24 rfl w.heap.size 47 i0 _ 7 72 Try.underlying24 hi hz0 hz1 hz2 rfl (by decide) _ _ _ rfl (HL.out.alloc _) ⟨_, 0, none⟩ 1 1 _ rfl rfl (lit_news (by simp)) (fun x hx => by simp at hx; rcases hx with rfl | rfl | rfl | rfl | rfl | rfl | rfl <;> rfl) (by unfold maxLen; omega) (by omega) (by have := dl.size; simp; omega) ?_; intro v' w' hown' hgr2 _)
    go_ret
    exact ⟨_, rfl, xs ++ [y], by simpa [rows, N.c] using hown', hq.snoc hy, (dl.alloc _).grown hgr2 (fun j h => (HL.out.lt j h).1)⟩
  ·
    go_wp2_with fail
    refine (l02Any g _ d3.cur).mono ?_
    rintro e w40 ⟨⟨vk, vi, vs⟩, rfl, hv, e40⟩
    have d40 := d3.trans e40
    unfold V.okD at hv
    simp only at hv
    have H4 := Lib.hid (e40.own H3.out hlt)
    obtain ⟨y, hyk, g0, g1, g2, g3, g4, g5, g6⟩ := ownN H4.out hkx
    have hfz := H4.out.frozenAt
    have hyo := hq8.2 y (List.mem_of_getElem? hyk.out)
    go_wp2
    go_ret
    refine ⟨_, rfl, xs.set k ⟨y.op, y.left, y.right, y.name, ⟨vk, vi, vs⟩⟩, ?_, N.okD_set hq8 ⟨hyo.1, hv⟩, ?_⟩
    · rw [List.length_set]
      have h1 := ownsRow_stores (ownsRow_stores (ownsRow_stores (H4.out) (k * 7 + 4) (.int .i64 vk)) (k * 7 + 5) (.int .i64 vi)) (k * 7 + 6) (.string vs)
      rw [rows_set1 N.len xs k 4 y ⟨y.op, y.left, y.right, y.name, ⟨vk, y.val.int, y.val.str⟩⟩ (.int .i64 vk) hyk.out (by decide) rfl] at h1
      have hs1 : (xs.set k ⟨y.op, y.left, y.right, y.name, ⟨vk, y.val.int, y.val.str⟩⟩)[k]? = some ⟨y.op, y.left, y.right, y.name, ⟨vk, y.val.int, y.val.str⟩⟩ := by rw [List.getElem?_set_self (by omega)]
      rw [rows_set1 N.len _ k 5 _ ⟨y.op, y.left, y.right, y.name, ⟨vk, vi, y.val.str⟩⟩ (.int .i64 vi) hs1 (by decide) rfl, List.set_set] at h1
      have hs2 : (xs.set k ⟨y.op, y.left, y.right, y.name, ⟨vk, vi, y.val.str⟩⟩)[k]? = some ⟨y.op, y.left, y.right, y.name, ⟨vk, vi, y.val.str⟩⟩ := by rw [List.getElem?_set_self (by omega)]
      rw [rows_set1 N.len _ k 6 _ ⟨y.op, y.left, y.right, y.name, ⟨vk, vi, vs⟩⟩ (.string vs) hs2 (by decide) rfl, List.set_set] at h1
      exact h1
    · repeat' (first | with_reducible exact d40 | with_reducible refine D.setCell ?_ ?_ _ | (dsimp only; omega))
  ·
    go_wp2
    go_ret
    exact ⟨_, rfl, [], World.ownsRow_nil _ _ _ _, ⟨Nat.zero_le _, by simp⟩, d3⟩
  ·
    have hn0_ : ¬ (x = 0) := by omega
    have hn1_ : ¬ (x = 1) := by omega
    have hn2_ : ¬ (x = 2) := by omega
    have hn3_ : ¬ (x = 3) := by omega
    have hn4_ : ¬ (x = 4) := by omega
    have hn5_ : ¬ (x = 5) := by omega
    go_wp2
    go_ret
    exact ⟨_, rfl, xs, H3.out, hq8, d3⟩
end Go.Proofs.Ytodbohmbdgbheaa
namespace Go.Proofs.Ytodbohmbdgbheaa
open Go.RowKit
set_option linter.unusedVariables false
theorem own_prefix {w : World} {base g n cap k size : Nat} {e : TypeId} {xs : List Value} (h : w.ownsRow base e size (.slice (some ⟨g, 0, none⟩) n cap) n xs) (hk : k ≤ n) :
    w.ownsRow base e size (.slice (some ⟨g, 0, none⟩) k cap) k (xs.take (k * size)) := by
  obtain ⟨hl, ⟨h1, _⟩ | ⟨g', cap', cur, h1, h2, h3, h4, h5, h6, h7⟩⟩ := h
  · cases h1
  · cases h1
    have hm : k * size ≤ n * size := Nat.mul_le_mul_right _ hk
    refine ⟨by rw [List.length_take, hl]; omega, .inr ⟨g, cap, cur, rfl, h2, h3, Nat.le_trans hk h4, h5, h6, ?_⟩⟩
    rw [← h7, List.take_take, Nat.min_eq_left hm]
theorem rows_takeK {α : Type} {enc : α → List Value} {k : Nat} (hk : ∀ x, (enc x).length = k) : ∀ (xs : List α) (i : Nat), (rows enc xs).take (i * k) = rows enc (xs.take i)
  | [], i => by simp [rows]
  | x :: xs, 0 => by simp [rows]
  | x :: xs, i + 1 => by
    rw [rows_cons, List.take_succ_cons, rows_cons, Nat.succ_mul, ← rows_takeK hk xs i, List.take_append, hk, show i * k + k - k = i * k by omega]
    rw [List.take_of_length_le (by rw [hk]; omega)]
def sch4 : List Fd := [⟨⟨#[97]⟩, 1⟩, ⟨⟨#[98]⟩, 1⟩, ⟨⟨#[110]⟩, 2⟩, ⟨⟨#[116]⟩, 2⟩]
set_option maxRecDepth 100000 in
set_option maxHeartbeats 1000000 in
theorem l03Usual (w : World) :
    Calls Try.prog 64 #[] w fun e w' => ∃ g, e = .returned (.slice (some ⟨g, 0, none⟩) 4 4) ∧ w.heap.size ≤ g ∧ w'.ownsRow w.heap.size 87 2 (.slice (some ⟨g, 0, none⟩) 4 4) 4 (rows Fd.c sch4) ∧ Grew w w' := by
  go_enter Try.func64, Try.ntmps64
  go_wp2
  go_ret
  exact ⟨_, rfl, Nat.le_refl _, lit_owns w #[.string ⟨#[97]⟩, .int .i64 1, .string ⟨#[98]⟩, .int .i64 1, .string ⟨#[110]⟩, .int .i64 2, .string ⟨#[116]⟩, .int .i64 2] 87 2 4 rfl (by decide), (Grew.refl w).alloc _⟩
set_option maxRecDepth 100000 in
set_option maxHeartbeats 1000000 in
theorem l03Name (g : Nat) (w : World) (hc : Cur w g) :
    Calls Try.prog 36 #[.pointer (some ⟨g, 0, none⟩)] w fun e w' => ∃ x : ByteArray, e = .returned (.string x) ∧ x.size ≤ 8 ∧ D g w w' := by
  go_enter Try.func36, Try.ntmps36
  go_wp2_with fail
  refine (l01Pick g _ (hc.grew ((Grew.refl w).alloc _)) _ 10 [⟨#[97]⟩, ⟨#[98]⟩, ⟨#[110]⟩, ⟨#[116]⟩, ⟨#[97]⟩, ⟨#[98]⟩, ⟨#[116]⟩, ⟨#[122]⟩, ⟨#[65]⟩, ⟨#[]⟩] (lit_rd w _ _ 1 10 10 rfl (Nat.le_refl _)) (cur_ne hc) (by decide) (by decide)).mono ?_
  rintro e w1 ⟨x, rfl, hx, hd⟩
  go_wp2
  go_ret
  refine ⟨_, rfl, ?_, (D.refl hc).alloc _ |>.trans hd⟩
  simp at hx
  rcases hx with rfl | rfl | rfl | rfl | rfl | rfl | rfl | rfl | rfl | rfl <;> decide
def schOk (n : Nat) (xs : List Fd) : Prop := xs.length ≤ n ∧ ∀ x, x ∈ xs → x.name.size ≤ 8
theorem sch4_ok : ∀ x, x ∈ sch4 → x.name.size ≤ 8 := by
  unfold sch4
  intro x hx
  simp at hx
  rcases hx with rfl | rfl | rfl | rfl <;> decide
theorem schOk.set {n : Nat} {xs : List Fd} (h : schOk n xs) {i : Nat} {y : Fd} (hy : y.name.size ≤ 8) : schOk n (xs.set i y) :=
  ⟨by rw [List.length_set]; exact h.1, fun z hz => by
    rcases List.mem_or_eq_of_mem_set hz with hz | rfl
    · exact h.2 z hz
    · exact hy⟩
set_option maxRecDepth 100000 in
set_option maxHeartbeats 4000000 in
theorem l03Any (g : Nat) (w : World) (hc : Cur w g) :
    Calls Try.prog 41 #[.pointer (some ⟨g, 0, none⟩)] w fun e w' => ∃ v, e = .returned v ∧ ∃ xs, schOk 6 xs ∧ w'.ownsRow w.heap.size 87 2 v xs.length (rows Fd.c xs) ∧ D g w w' := by
  obtain ⟨i0, hi, hz0, hz1, hz2⟩ := info_parts Try.infoFd
  have hl := hc.lt
  have hln : sch4.length = 4 := rfl
  go_enter Try.func41, Try.ntmps41
  go_wp2_with fail
  refine (l03Usual w).mono ?_
  rintro e w1 ⟨gb, rfl, hgb, ho, g1⟩
  have d1 := (D.refl hc).grew g1
  have H1 := Lib.hid ho
  have hne : gb ≠ g := by omega
  clear ho
  go_wp2_with fail
  refine (l01Below g _ d1.cur 8 (by omega) (by omega)).mono ?_
  rintro e w3 ⟨x, rfl, hx, e3⟩
  have d3 := d1.trans e3
  have H3 := Lib.hid (e3.own H1.out hl)
  have hfz := H3.out.frozenAt
  have hxs : x = 0 ∨ x = 1 ∨ x = 2 ∨ x = 3 ∨ x = 4 ∨ 5 ≤ x := by omega
  rcases hxs with rfl | rfl | rfl | rfl | rfl | hx4
  · go_wp2_with fail
    refine (l01Below g _ d3.cur 4 (by omega) (by omega)).mono ?_
    rintro e w4 ⟨k0, rfl, hk, e4⟩
    obtain ⟨k, rfl⟩ : ∃ k : Nat, k0 = k := ⟨k0.toNat, by omega⟩
    have hk0 : (0 : Int) ≤ k := by omega
    have hk4 : k ≤ 4 := by omega
    go_wp2
    go_ret
    have H4 := own_prefix (e4.own H3.out hl) hk4
    rw [rows_takeK Fd.len] at H4
    have hlt : (sch4.take k).length = k := by rw [List.length_take, hln]; omega
    exact ⟨_, rfl, sch4.take k, ⟨by rw [hlt]; omega, fun x hx => sch4_ok x (List.mem_of_mem_take hx)⟩, by rw [hlt]; exact H4, d3.trans e4⟩
  · go_wp2_with fail
    refine (l01Below g _ d3.cur 4 (by omega) (by omega)).mono ?_
    rintro e w4 ⟨k0, rfl, hk, e4⟩
    obtain ⟨k, rfl⟩ : ∃ k : Nat, k0 = k := ⟨k0.toNat, by omega⟩
    have d4 := d3.trans e4
    go_wp2_with fail
    refine (l01Below g _ d4.cur 5 (by omega) (by omega)).mono ?_
    rintro e w5 ⟨y, rfl, hy, e5⟩
    have d5 := d4.trans e5
    have H5 := Lib.hid (e5.own (e4.own H3.out hl) hl)
    have hfz := H5.out.frozenAt
    have hk0 : (0 : Int) ≤ k := by omega
    have hk4 : (k : Int) < 4 := by omega
    obtain ⟨z, HZ, c0, c1⟩ := ownFd H5.out (by omega : k < 4)
    have hzs := sch4_ok z (List.mem_of_getElem? HZ.out)
    go_wp2
    go_ret
    have h1 := ownsRow_stores H5.out (k * 2 + 1) (.int .i64 (y - 1))
    rw [rows_set1 Fd.len sch4 k 1 z ⟨z.name, y - 1⟩ _ HZ.out (by decide) rfl] at h1
    exact ⟨_, rfl, sch4.set k ⟨z.name, y - 1⟩, schOk.set ⟨by rw [hln]; decide, sch4_ok⟩ hzs, by rw [List.length_set]; exact h1, d5.setCell (by dsimp only; omega) _⟩
  · go_wp2_with fail
    refine (l01Below g _ d3.cur 4 (by omega) (by omega)).mono ?_
    rintro e w4 ⟨k0, rfl, hk, e4⟩
    obtain ⟨k, rfl⟩ : ∃ k : Nat, k0 = k := ⟨k0.toNat, by omega⟩
    have d4 := d3.trans e4
    go_wp2_with fail
    refine (l03Name g _ d4.cur).mono ?_
    rintro e w5 ⟨nm, rfl, hnm, e5⟩
    have d5 := d4.trans e5
    have H5 := Lib.hid (e5.own (e4.own H3.out hl) hl)
    have hfz := H5.out.frozenAt
    have hk0 : (0 : Int) ≤ k := by omega
    have hk4 : (k : Int) < 4 := by omega
    obtain ⟨z, HZ, c0, c1⟩ := ownFd H5.out (by omega : k < 4)
    go_wp2
    go_ret
    have h1 := ownsRow_stores H5.out (k * 2 + 0) (.string nm)
    rw [rows_set1 Fd.len sch4 k 0 z ⟨nm, z.kind⟩ _ HZ.out (by decide) rfl] at h1
    exact ⟨_, rfl, sch4.set k ⟨nm, z.kind⟩, schOk.set ⟨by rw [hln]; decide, sch4_ok⟩ hnm, by rw [List.length_set]; exact h1, d5.setCell (by dsimp only; omega) _⟩
  · go_wp2_with fail
    refine (l01Pick g _ (d3.alloc _).cur _ 3 [⟨#[117]⟩, ⟨#[122]⟩, ⟨#[97]⟩] (lit_rd _ #[.string ⟨#[117]⟩, .string ⟨#[122]⟩, .string ⟨#[97]⟩] 9 1 3 3 rfl (Nat.le_refl _)) (cur_ne d3.cur) (by decide) (by decide)).mono ?_
    rintro e w4 ⟨nm, rfl, hm, e4⟩
    have hnm : nm.size ≤ 8 := by simp at hm; rcases hm with rfl | rfl | rfl <;> decide
    have d4 := (d3.alloc _).trans e4
    have H4 := Lib.hid (((e4.own (H3.out.alloc _) hl)).alloc (.cells #[.string nm, .int .i64 1] 87))
    have hs4 := d4.size
    clear hm
    go_wp2_with (at_builtin; refine wpList_append_own _ rfl _ _ 31 rfl w.heap.size 87 i0 _ 2 24 Try.underlying31 hi hz0 hz1 hz2 rfl (by decide) _ _ _ rfl H4.out ⟨_, 0, none⟩ 1 1 [.string nm, .int .i64 1] rfl rfl (lit_news rfl) (fun x hx => by simp at hx; rcases hx with rfl | rfl <;> rfl) (by unfold maxLen; omega) (by omega) (by simp; omega) ?_; intro v' w' hown' hgr2 _; have HD4 := Lib.hid ((d4.alloc _).grown hgr2 (fun j h => (H4.out.lt j h).1)); have HO4 := Lib.hid hown'; obtain ⟨va', vc', rfl⟩ := own_slice hown'; clear hown' hgr2)
    go_ret
    exact ⟨_, rfl, sch4 ++ [⟨nm, 1⟩], ⟨by simp [hln], fun x hx => by rw [List.mem_append] at hx; rcases hx with hx | hx; exact sch4_ok x hx; simp at hx; subst hx; exact hnm⟩, by rw [List.length_append, hln]; simpa [rows_append, rows, Fd.c] using HO4.out, HD4.out⟩
  · have H4 := Lib.hid (H3.out.alloc (.cells #[.string ⟨#[117]⟩, .int .i64 1, .string ⟨#[118]⟩, .int .i64 2] 87))
    have hs4 := d3.size
    go_wp2_with (at_builtin; refine wpList_append_own _ rfl _ _ 31 rfl w.heap.size 87 i0 _ 2 24 Try.underlying31 hi hz0 hz1 hz2 rfl (by decide) _ _ _ rfl H4.out ⟨_, 0, none⟩ 2 2 [.string ⟨#[117]⟩, .int .i64 1, .string ⟨#[118]⟩, .int .i64 2] rfl rfl (lit_news rfl) (fun x hx => by simp at hx; rcases hx with rfl | rfl | rfl | rfl <;> rfl) (by unfold maxLen; omega) (by omega) (by simp; omega) ?_; intro v' w' hown' hgr2 _; have HD4 := Lib.hid ((d3.alloc _).grown hgr2 (fun j h => (H4.out.lt j h).1)); have HO4 := Lib.hid hown'; obtain ⟨va', vc', rfl⟩ := own_slice hown'; clear hown' hgr2)
    go_ret
    exact ⟨_, rfl, sch4 ++ [⟨⟨#[117]⟩, 1⟩, ⟨⟨#[118]⟩, 2⟩], ⟨by simp [hln], fun x hx => by rw [List.mem_append] at hx; rcases hx with hx | hx; exact sch4_ok x hx; simp at hx; rcases hx with rfl | rfl <;> decide⟩, by rw [List.length_append, hln]; simpa [rows_append, rows, Fd.c] using HO4.out, HD4.out⟩
  · go_wp2
    go_ret
    exact ⟨_, rfl, sch4, ⟨by rw [hln]; decide, sch4_ok⟩, H3.out, d3⟩
end Go.Proofs.Ytodbohmbdgbheaa
namespace Go.Proofs.Ytodbohmbdgbheaa
open Go.RowKit
def putL {α : Type} [LT α] [DecidableLT α] [DecidableEq α] : List α → α → List α
  | [], s => [s]
  | x :: xs, s => if x < s then x :: putL xs s else if x = s then x :: xs else s :: x :: xs
def putAll {α : Type} [LT α] [DecidableLT α] [DecidableEq α] (xs : List α) : List α := xs.foldl putL []
class Ordered (α : Type) [LT α] : Prop where
  irrefl : ∀ a : α, ¬ a < a
  trans : ∀ a b c : α, a < b → b < c → a < c
  tri : ∀ a b : α, a < b ∨ a = b ∨ b < a
end Go.Proofs.Ytodbohmbdgbheaa
namespace Go.Proofs.Ytodbohmbdgbheaa
open Go.RowKit
set_option linter.unusedVariables false
end Go.Proofs.Ytodbohmbdgbheaa
namespace Go.Proofs.Ytodbohmbdgbheaa
open Go.RowKit Go.Sort
set_option linter.unusedVariables false
abbrev dl (b : ByteArray) : List UInt8 := b.data.toList
abbrev mkb (l : List UInt8) : ByteArray := ⟨l.toArray⟩
instance : Ordered (List UInt8) where
  irrefl := fun a => List.lt_irrefl a
  trans := fun _ _ _ h k => List.lt_trans h k
  tri := fun a b => by
    rcases Decidable.em (a < b) with h | h
    · exact .inl h
    · rcases Decidable.em (a = b) with e | e
      · exact .inr (.inl e)
      · rcases List.le_iff_lt_or_eq.1 (List.not_lt.1 h) with h1 | h1
        · exact .inr (.inr h1)
        · exact absurd h1.symm e
def so (xs : List ByteArray) : List ByteArray := (putAll (xs.map dl)).map mkb
theorem mkb_dl (b : ByteArray) : mkb (dl b) = b := rfl
end Go.Proofs.Ytodbohmbdgbheaa
namespace Go.Proofs.Ytodbohmbdgbheaa
open Go.RowKit Go.Sort
set_option linter.unusedVariables false
theorem less_iff (a b : ByteArray) (v : Bool) : Op.bytesLess a.toList b.toList = v ↔ decide (dl a < dl b) = v := by
  rw [ByteArray.toList_eq, ByteArray.toList_eq, bytesLess_eq]
theorem same_iff (a b : ByteArray) (v : Bool) : (a.toList == b.toList) = v ↔ decide (dl a = dl b) = v := by
  rw [ByteArray.toList_eq, ByteArray.toList_eq]
  rw [Bool.beq_eq_decide_eq]
end Go.Proofs.Ytodbohmbdgbheaa
namespace Go.Proofs.Ytodbohmbdgbheaa
open Go.RowKit
set_option linter.unusedVariables false
def hasB (xs : List ByteArray) (s : ByteArray) : Bool := xs.any fun y => y.toList == s.toList
end Go.Proofs.Ytodbohmbdgbheaa
namespace Go.Proofs.Ytodbohmbdgbheaa
open Go.RowKit
set_option linter.unusedVariables false
noncomputable def nodI (n : N) (at_ m : Int) : Bool :=
  if n.op == 1 then eqN n ⟨n.op, 0, 0, ⟨#[]⟩, V.z⟩
  else if n.op == 2 then eqN n ⟨n.op, 0, 0, n.name, V.z⟩ && txtB n.name 1
  else if n.op == 3 || n.op == 4 then eqN n ⟨n.op, 0, 0, n.name, n.val⟩ && (txtB n.name 1 && (valB n.val && (!(n.val.kind == 0) && (n.op == 3 || n.val.kind == 1))))
  else if n.op == 5 then eqN n ⟨n.op, n.left, 0, ⟨#[]⟩, V.z⟩ && (decide (0 < at_) && inB n.left 0 m)
  else if n.op == 6 || n.op == 7 then eqN n ⟨n.op, n.left, n.right, ⟨#[]⟩, V.z⟩ && (decide (0 < at_) && (inB n.left 0 m && inB n.right 0 m))
  else if n.op == 8 || n.op == 9 then eqN n ⟨n.op, 0, 0, n.name, V.z⟩ && txtB n.name 6
  else false
theorem nodI_eq (n : N) (at_ m : Int) : nodB n at_ m = nodI n at_ m := by
  obtain ⟨op, l, r, nm, v⟩ := n
  unfold nodB nodI
  have e1 : (ByteArray.mk #[]).toList = [] := by decide +kernel
  have ev : eqV v v = true := by simp [eqV]
  have hk : ∀ k : Int, k = 1 → k ≠ 0 := fun k h => by omega
  by_cases h1 : op = 1
  · subst h1; simp
  by_cases h2 : op = 2
  · subst h2; simp [Bool.and_comm]
  by_cases h3 : op = 3
  · subst h3; simp only [eqN, ev]; rw [Bool.eq_iff_iff]; simp; constructor <;> (intro h; simp_all)
  by_cases h4 : op = 4
  · subst h4; simp only [eqN, ev]; rw [Bool.eq_iff_iff]; simp; constructor <;> (intro h; simp_all)
  by_cases h5 : op = 5
  · subst h5; simp only [eqN]; rw [Bool.eq_iff_iff]; simp [e1]; constructor <;> (intro h; simp_all)
  by_cases h6 : op = 6
  · subst h6; simp only [eqN]; rw [Bool.eq_iff_iff]; simp [e1]; constructor <;> (intro h; simp_all)
  by_cases h7 : op = 7
  · subst h7; simp only [eqN]; rw [Bool.eq_iff_iff]; simp [e1]; constructor <;> (intro h; simp_all)
  by_cases h8 : op = 8
  · subst h8; simp [Bool.and_comm]
  by_cases h9 : op = 9
  · subst h9; simp [Bool.and_comm]
  · simp [h1, h2, h3, h4, h5, h6, h7, h8, h9]
set_option maxRecDepth 100000 in
set_option maxHeartbeats 4000000 in
theorem implIsValidNode (n : N) (at_ : Int) (w : World) (hs : n.name.size ≤ 4000000) (hv : n.val.str.size ≤ 4000000) :
    Calls Try.prog 43 #[n.v, .int .i64 at_] w fun e w' => e = .returned (.bool (nodB n at_ (wrap64 (at_ - 1)))) ∧ Grew w w' := by
  obtain ⟨op, l, r, nm, v⟩ := n
  simp only at hs hv
  have h1 := fun o w => runEqN ⟨o, l, r, nm, v⟩ ⟨o, 0, 0, ⟨#[]⟩, V.z⟩ w
  have h2 := fun o w => runEqN ⟨o, l, r, nm, v⟩ ⟨o, 0, 0, nm, V.z⟩ w
  have h3 := fun o w => runEqN ⟨o, l, r, nm, v⟩ ⟨o, 0, 0, nm, v⟩ w
  have h4 := fun o w => runEqN ⟨o, l, r, nm, v⟩ ⟨o, l, 0, ⟨#[]⟩, V.z⟩ w
  have h5 := fun o w => runEqN ⟨o, l, r, nm, v⟩ ⟨o, l, r, ⟨#[]⟩, V.z⟩ w
  simp only [V.z] at h1 h2 h3 h4 h5
  have hop : (op = 1 ∨ op = 2 ∨ op = 5 ∨ op = 8 ∨ op = 9 ∨ ((op == 1) = false ∧ (op == 2) = false ∧ (op == 3) = false ∧ (op == 4) = false ∧ (op == 5) = false ∧ (op == 6) = false ∧ (op == 7) = false ∧ (op == 8) = false ∧ (op == 9) = false)) ∨ (op = 3 ∨ op = 4 ∨ op = 6 ∨ op = 7) := by
    simp only [beq_eq_false_iff_ne]; omega
  rcases hop with hop | hop
  · rcases hop with rfl | rfl | rfl | rfl | rfl | ⟨p1, p2, p3, p4, p5, p6, p7, p8, p9⟩
    all_goals
      go_enter Try.func43, Try.ntmps43
      go_wp2_with (first | (go_at_call 45; refine (within _ _ _ _).mono ?_; rintro e w' ⟨rfl, rfl⟩) | (go_at_call 70; refine (implIsValidString _ _ hs).mono ?_; rintro e w' ⟨rfl, rfl⟩) | (go_at_call 68; refine (implIsValidAttrName _ _ hs).mono ?_; rintro e w' ⟨rfl, rfl⟩) | (go_at_call 69; refine (implIsValidValue _ _ hv).mono ?_; rintro e w1 ⟨rfl, hb⟩; obtain ⟨hc, hf⟩ := hb.cells))
      all_goals go_ret
      all_goals refine ⟨ret_bool ?_, ?_⟩
      all_goals first
        | (rw [nodI_eq]; go_light; clear h1 h2 h3 h4 h5; (try clear hc hf hb); simp [nodI, V.z, *]; done)
        | (have hn : ¬ (0 < at_) := by omega
           rw [nodI_eq]; go_light; clear h1 h2 h3 h4 h5; simp [nodI, V.z, hn]; done)
        | (repeat' (first | with_reducible exact Grew.refl _ | with_reducible apply Grew.alloc | with_reducible apply Grew.drew | with_reducible refine Grew.trans ?_ (by assumption)))
  · rcases hop with rfl | rfl | rfl | rfl
    all_goals
      go_enter Try.func43, Try.ntmps43
      go_wp2
      go_region
      all_goals go_wp2_with (first | (go_at_call 45; refine (within _ _ _ _).mono ?_; rintro e w' ⟨rfl, rfl⟩) | (go_at_call 70; refine (implIsValidString _ _ hs).mono ?_; rintro e w' ⟨rfl, rfl⟩) | (go_at_call 68; refine (implIsValidAttrName _ _ hs).mono ?_; rintro e w' ⟨rfl, rfl⟩) | (go_at_call 69; refine (implIsValidValue _ _ hv).mono ?_; rintro e w1 ⟨rfl, hb⟩; obtain ⟨hc, hf⟩ := hb.cells))
      all_goals go_ret
      all_goals refine ⟨ret_bool ?_, ?_⟩
      all_goals first
        | (rw [nodI_eq]; go_light; clear h1 h2 h3 h4 h5; (try clear hc hf hb); simp [nodI, V.z, *]; done)
        | (rw [nodI_eq]; go_light; clear h1 h2 h3 h4 h5; (try clear hc hf hb); simp [nodI, V.z, bne, *]; done)
        | (have hn : ¬ (0 < at_) := by omega
           rw [nodI_eq]; go_light; clear h1 h2 h3 h4 h5; simp [nodI, V.z, hn]; done)
        | (repeat' (first | with_reducible exact Grew.refl _ | with_reducible apply Grew.alloc | with_reducible apply Grew.drew | with_reducible refine Grew.trans ?_ (by assumption)))
end Go.Proofs.Ytodbohmbdgbheaa
namespace Go.Proofs.Ytodbohmbdgbheaa
open Go.RowKit
set_option linter.unusedVariables false
def ref1 (n : N) (at_ : Int) : Int := (if (n.op == 6 || (n.op == 7 || n.op == 5)) && n.left == at_ then 1 else 0) + (if (n.op == 6 || n.op == 7) && n.right == at_ then 1 else 0)
def refs (q : List N) (at_ : Int) : Int := (q.map (ref1 · at_)).sum
theorem refs_snoc (q : List N) (n : N) (at_ : Int) : refs (q ++ [n]) at_ = refs q at_ + ref1 n at_ := by simp [refs]
theorem ref1_b (n : N) (at_ : Int) : 0 ≤ ref1 n at_ ∧ ref1 n at_ ≤ 2 := by unfold ref1; split <;> split <;> omega
theorem ref1_cases (n : N) (at_ : Int) : (n.op = 5 ∨ n.op = 6 ∨ n.op = 7 ∨ ((n.op == 5) = false ∧ (n.op == 6) = false ∧ (n.op == 7) = false)) ∧ ((n.left == at_) = true ∨ (n.left == at_) = false) ∧ ((n.right == at_) = true ∨ (n.right == at_) = false) := by
  refine ⟨?_, ?_, ?_⟩
  · simp only [beq_eq_false_iff_ne]; omega
  · cases n.left == at_ <;> simp
  · cases n.right == at_ <;> simp
set_option maxRecDepth 100000 in
set_option maxHeartbeats 4000000 in
theorem specCountReferences (va : Value) (n : Nat) (xs : List N) (at_ : Int) (w : World) (ha : Rd w va 7 n (rows N.c xs)) (hx : n ≤ 4000000) :
    Calls Try.prog 28 #[va, .int .i64 at_] w fun e w' => e = .returned (.int .i64 (refs xs at_)) ∧ Grew w w' := by
  obtain ⟨a, ca, rfl, hca, hra⟩ := ha
  have HX := Lib.hid (hra.len_rows N.len (by decide))
  go_enter Try.func28, Try.ntmps28
  go_wp2
  go_loopw [5, 6, 7] (fun c i _ wr => ∃ (k : Nat) (r : Int), k ≤ n ∧ i = .int .i64 k ∧ c = .int .i64 r ∧ 0 ≤ r ∧ r ≤ 2 * k ∧ Hid (r = refs (xs.take k) at_) ∧ Grew w wr) (fun _ i _ _ => n - (intOf i).toNat)
  case atStart => exact ⟨0, 0, Nat.zero_le _, rfl, rfl, by omega, by omega, Lib.hid (by simp [refs]), Grew.refl _⟩
  case round =>
    obtain ⟨k, r, hk, rfl, rfl, h0, h1, hr, hbel⟩ := hrel
    by_cases hlt : k < n
    · obtain ⟨b1, o1, x, rfl, hxk, c0, c1, c2, c3, c4, c5, c6⟩ := (hra.grew hbel).getN hlt
      have hstep : ∀ d, ref1 x at_ = d → r + d = refs (xs.take (k + 1)) at_ := fun d h => by rw [take_snoc hxk.out, refs_snoc, ← hr.out, h]
      have HS := Lib.hid hstep
      clear hstep
      obtain ⟨op, l, rr, nm, v⟩ := x
      have hcs := ref1_cases ⟨op, l, rr, nm, v⟩ at_
      simp only at hcs
      obtain ⟨hop, hl, hr2⟩ := hcs
      rcases hop with rfl | rfl | rfl | ⟨p5, p6, p7⟩ <;> rcases hl with hl | hl <;> rcases hr2 with hr2 | hr2
      all_goals
        go_wp2
        go_roundw
        case rel =>
          have hd := HS.out _ rfl
          clear HS
          go_light
          simp [ref1, *] at hd
          exact ⟨k + 1, _, by omega, by go_num, rfl, by omega, by omega, Lib.hid (by omega), hbel⟩
        case measure => simp [intOf]; omega
    · go_wp2
      go_ret
      obtain rfl : k = n := by omega
      exact ⟨ret_int (by rw [hr.out, take_all HX.out]), hbel⟩
set_option maxRecDepth 100000 in
set_option maxHeartbeats 4000000 in
theorem implCountReferences (va : Value) (n : Nat) (xs : List N) (at_ : Int) (w : World) (ha : Rd w va 7 n (rows N.c xs)) (hx : n ≤ 4000000) :
    Calls Try.prog 44 #[va, .int .i64 at_] w fun e w' => e = .returned (.int .i64 (refs xs at_)) ∧ Grew w w' := by
  obtain ⟨a, ca, rfl, hca, hra⟩ := ha
  have HX := Lib.hid (hra.len_rows N.len (by decide))
  go_enter Try.func44, Try.ntmps44
  go_wp2
  go_loopw [5, 8, 11] (fun c _ i wr => ∃ (k : Nat) (r : Int), k ≤ n ∧ i = .int .i64 k ∧ c = .int .i64 r ∧ 0 ≤ r ∧ r ≤ 2 * k ∧ Hid (r = refs (xs.take k) at_) ∧ Grew w wr) (fun _ _ i _ => n - (intOf i).toNat)
  case atStart => exact ⟨0, 0, Nat.zero_le _, rfl, rfl, by omega, by omega, Lib.hid (by simp [refs]), Grew.refl _⟩
  case round =>
    obtain ⟨k, r, hk, rfl, rfl, h0, h1, hr, hbel⟩ := hrel
    by_cases hlt : k < n
    · obtain ⟨b1, o1, x, rfl, hxk, c0, c1, c2, c3, c4, c5, c6⟩ := (hra.grew hbel).getN hlt
      have hstep : ∀ d, ref1 x at_ = d → r + d = refs (xs.take (k + 1)) at_ := fun d h => by rw [take_snoc hxk.out, refs_snoc, ← hr.out, h]
      have HS := Lib.hid hstep
      clear hstep
      obtain ⟨op, l, rr, nm, v⟩ := x
      have hcs := ref1_cases ⟨op, l, rr, nm, v⟩ at_
      simp only at hcs
      obtain ⟨hop, hl, hr2⟩ := hcs
      rcases hop with rfl | rfl | rfl | ⟨p5, p6, p7⟩ <;> rcases hl with hl | hl <;> rcases hr2 with hr2 | hr2
      all_goals
        go_wp2
        go_roundw
        case rel =>
          have hd := HS.out _ rfl
          clear HS
          go_light
          simp [ref1, *] at hd
          exact ⟨k + 1, _, by omega, by go_num, rfl, by omega, by omega, Lib.hid (by omega), hbel.alloc _⟩
        case measure => simp [intOf]; omega
    · go_wp2
      go_ret
      obtain rfl : k = n := by omega
      exact ⟨ret_int (by rw [hr.out, take_all HX.out]), hbel⟩
end Go.Proofs.Ytodbohmbdgbheaa
namespace Go.Proofs.Ytodbohmbdgbheaa
open Go.RowKit Go.Sort
set_option linter.unusedVariables false
end Go.Proofs.Ytodbohmbdgbheaa
namespace Go.Proofs.Ytodbohmbdgbheaa
open Go.RowKit Go.Sort
set_option linter.unusedVariables false
def qDirsN (xs : List N) : List ByteArray := (xs.filter fun x => inB x.op 8 9).map N.name
def qDirs (xs : List N) : List ByteArray := so (qDirsN xs)
end Go.Proofs.Ytodbohmbdgbheaa
namespace Go.Proofs.Ytodbohmbdgbheaa
open Go.RowKit
set_option linter.unusedVariables false
end Go.Proofs.Ytodbohmbdgbheaa
