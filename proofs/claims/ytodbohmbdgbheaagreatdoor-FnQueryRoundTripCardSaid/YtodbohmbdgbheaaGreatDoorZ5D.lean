/- Contracts of the draws of values, nodes and queries. -/
import Derived.Test.YtodbohmbdgbheaaGreatDoorZ2
import Derived.Test.YtodbohmbdgbheaaGreatDoorH4
namespace Go.Proofs.YtodbohmbdgbheaaGreatDoor
open Go.RowKit
set_option linter.unusedVariables false
/-- A box of k cells that may be written. -/
def Box (w : World) (b k : Nat) : Prop := b < w.heap.size ∧ (∀ j, j < k → ∃ u, w.cell? ⟨b, j, none⟩ = some u) ∧ ∀ j, w.frozen? ⟨b, j, none⟩ = false
theorem Box.new (w : World) (cs : Array Value) (e : TypeId) (k : Nat) (hk : cs.size = k) : Box (w.alloc (.cells cs e)) w.heap.size k :=
  ⟨by simp, fun j hj => ⟨cs[j], by rw [World.cell?_alloc_at (w := w) cs e w.heap.size j rfl, Array.getElem?_eq_getElem (by omega)]⟩, fun j => World.frozen?_alloc_at (w := w) cs e w.heap.size j rfl⟩
theorem Box.grew {w w' : World} {b k : Nat} (h : Box w b k) (hg : Grew w w') : Box w' b k :=
  ⟨Nat.lt_of_lt_of_le h.1 hg.size, fun j hj => by obtain ⟨u, hu⟩ := h.2.1 j hj; exact ⟨u, grew_cell hg hu⟩, fun j => grew_frozen hg h.1 (h.2.2 j)⟩
theorem Box.d {w w' : World} {b k g : Nat} (h : Box w b k) (hd : D g w w') (hb : b ≠ g) : Box w' b k :=
  ⟨Nat.lt_of_lt_of_le h.1 hd.size, fun j hj => by obtain ⟨u, hu⟩ := h.2.1 j hj; exact ⟨u, hd.cell hu hb⟩, fun j => hd.frozen h.1 (h.2.2 j) hb⟩
theorem Box.set {w : World} {b k : Nat} (h : Box w b k) (p : Addr) (u : Value) : Box (w.setCell p u) b k :=
  ⟨by simpa using h.1, fun j hj => by obtain ⟨u, hu⟩ := h.2.1 j hj; exact cell?_setCell_some hu, fun j => by rw [World.frozen?_setCell]; exact h.2.2 j⟩
/-- One cell of a row is written. -/
theorem rows_set1 {α : Type} {enc : α → List Value} {k : Nat} (hk : ∀ x, (enc x).length = k) : ∀ (xs : List α) (i j : Nat) (x y : α) (u : Value), xs[i]? = some x → j < k → enc y = (enc x).set j u → (rows enc xs).set (i * k + j) u = rows enc (xs.set i y)
  | [], i, j, x, y, u, h, _, _ => by simp at h
  | z :: zs, 0, j, x, y, u, h, hj, he => by
    simp at h; subst h
    rw [rows_cons, List.set_cons_zero, rows_cons, he, Nat.zero_mul, Nat.zero_add, List.set_append_left _ _ (by rw [hk]; exact hj)]
  | z :: zs, i + 1, j, x, y, u, h, hj, he => by
    simp at h
    rw [rows_cons, List.set_cons_succ, rows_cons, List.set_append_right _ _ (by rw [hk, Nat.succ_mul]; omega), hk, show (i + 1) * k + j - k = i * k + j by rw [Nat.succ_mul]; omega, rows_set1 hk zs i j x y u h hj he]
def V.okD (v : V) : Prop := v.str.size ≤ 8
def N.okD (x : N) : Prop := x.name.size ≤ 8 ∧ x.val.str.size ≤ 8
set_option maxRecDepth 100000 in
set_option maxHeartbeats 1000000 in
theorem intValue (n : Int) (w : World) :
    Calls Tryz.prog 66 #[.int .i64 n] w fun e w' => e = .returned (V.v ⟨1, n, ⟨#[]⟩⟩) ∧ Grew w w' := by
  go_enter Tryz.func66, Tryz.ntmps66
  go_wp2
  refine bodyPost_ret (v := V.v ⟨1, n, ⟨#[]⟩⟩) (by simp [results, Tryz.results66, go_sem]) rfl ⟨rfl, ?_⟩
  repeat' (first | with_reducible exact Grew.refl _ | with_reducible refine Grew.alloc ?_ _ | with_reducible refine Grew.setCell ?_ ?_ _ | (dsimp only; omega))
set_option maxRecDepth 100000 in
set_option maxHeartbeats 1000000 in
theorem stringValue (s : ByteArray) (w : World) :
    Calls Tryz.prog 67 #[.string s] w fun e w' => e = .returned (V.v ⟨2, 0, s⟩) ∧ Grew w w' := by
  go_enter Tryz.func67, Tryz.ntmps67
  go_wp2
  refine bodyPost_ret (v := V.v ⟨2, 0, s⟩) (by simp [results, Tryz.results67, go_sem]) rfl ⟨rfl, ?_⟩
  repeat' (first | with_reducible exact Grew.refl _ | with_reducible refine Grew.alloc ?_ _ | with_reducible refine Grew.setCell ?_ ?_ _ | (dsimp only; omega))
set_option maxRecDepth 100000 in
set_option maxHeartbeats 2000000 in
theorem l02Value (g : Nat) (w : World) (hc : Cur w g) :
    Calls Tryz.prog 69 #[.pointer (some ⟨g, 0, none⟩)] w fun e w' => ∃ y : V, e = .returned (V.v y) ∧ V.okD y ∧ D g w w' := by
  have hl := hc.lt
  have hne : w.heap.size ≠ g := by omega
  have B0 := Box.new w #[.int .i64 0, .int .i64 0, .string ⟨#[]⟩] 36 3 rfl
  have d0 := (D.refl hc).alloc (.cells #[.int .i64 0, .int .i64 0, .string ⟨#[]⟩] 36)
  go_enter Tryz.func69, Tryz.ntmps69
  go_wp2_with fail
  refine (l01Below g _ d0.cur 5 (by omega) (by omega)).mono ?_
  rintro e w1 ⟨x1, rfl, hx1, e1⟩
  have d1 := d0.trans e1
  have B1 := B0.d e1 hne
  clear B0
  have : x1 = 0 ∨ x1 = 1 ∨ x1 = 2 ∨ x1 = 3 ∨ x1 = 4 := by omega
  clear hx1
  rcases this with rfl | rfl | rfl | rfl | rfl
  ·
    obtain ⟨b0, f0⟩ := B1.2.1 0 (by decide)
    obtain ⟨b1, f1⟩ := B1.2.1 1 (by decide)
    obtain ⟨b2, f2⟩ := B1.2.1 2 (by decide)
    have z0 := B1.2.2
    go_wp2
    refine bodyPost_ret (v := V.v ⟨0, 0, ⟨#[]⟩⟩) (by simp [results, Tryz.results69, go_sem, f0, f1, f2]) rfl ⟨_, rfl, (show V.okD ⟨0, 0, ⟨#[]⟩⟩ by simp [V.okD, ByteArray.size]), ?_⟩
    repeat' (first | with_reducible exact d1 | with_reducible refine D.setCell ?_ ?_ _ | (dsimp only; omega))
  ·
    go_wp2_with fail
    refine (l01Below g _ d1.cur 5 (by omega) (by omega)).mono ?_
    rintro e w2 ⟨x2, rfl, hx2, e2⟩
    have d2 := d1.trans e2
    have B2 := B1.d e2 hne
    clear B1
    go_wp2_with fail
    refine (intValue x2 _).mono ?_
    rintro e wv ⟨rfl, gv⟩
    have dv := d2.grew gv
    have B3 := B2.grew gv
    obtain ⟨b0, f0⟩ := B3.2.1 0 (by decide)
    obtain ⟨b1, f1⟩ := B3.2.1 1 (by decide)
    obtain ⟨b2, f2⟩ := B3.2.1 2 (by decide)
    have z0 := B3.2.2
    go_wp2
    refine bodyPost_ret (v := V.v ⟨1, x2, ⟨#[]⟩⟩) (by simp [results, Tryz.results69, go_sem, f0, f1, f2]) rfl ⟨_, rfl, (show V.okD ⟨1, x2, ⟨#[]⟩⟩ by simp [V.okD, ByteArray.size]), ?_⟩
    repeat' (first | with_reducible exact dv | with_reducible refine D.setCell ?_ ?_ _ | (dsimp only; omega))
  ·
    go_wp2_with fail
    refine (l01Below g _ d1.cur 5 (by omega) (by omega)).mono ?_
    rintro e w3 ⟨x3, rfl, hx3, e3⟩
    have d3 := d1.trans e3
    have B2 := B1.d e3 hne
    clear B1
    go_wp2_with fail
    refine (intValue x3 _).mono ?_
    rintro e wv ⟨rfl, gv⟩
    have dv := d3.grew gv
    have B3 := B2.grew gv
    obtain ⟨b0, f0⟩ := B3.2.1 0 (by decide)
    obtain ⟨b1, f1⟩ := B3.2.1 1 (by decide)
    obtain ⟨b2, f2⟩ := B3.2.1 2 (by decide)
    have z0 := B3.2.2
    go_wp2
    refine bodyPost_ret (v := V.v ⟨1, x3, ⟨#[]⟩⟩) (by simp [results, Tryz.results69, go_sem, f0, f1, f2]) rfl ⟨_, rfl, (show V.okD ⟨1, x3, ⟨#[]⟩⟩ by simp [V.okD, ByteArray.size]), ?_⟩
    repeat' (first | with_reducible exact dv | with_reducible refine D.setCell ?_ ?_ _ | (dsimp only; omega))
  ·
    go_wp2_with fail
    refine (l01Pick g _ (d1.alloc _).cur _ 3 [⟨#[114, 101, 100]⟩, ⟨#[98, 108, 117, 101]⟩, ⟨#[105, 110, 107]⟩] (lit_rd _ #[.string ⟨#[114, 101, 100]⟩, .string ⟨#[98, 108, 117, 101]⟩, .string ⟨#[105, 110, 107]⟩] 9 1 3 3 rfl (Nat.le_refl _)) (cur_ne d1.cur) (by decide) (by decide)).mono ?_
    rintro e w4 ⟨x4, rfl, m4_, e4⟩
    have hx4 : x4.size ≤ 8 := by simp at m4_; rcases m4_ with rfl | rfl | rfl <;> decide
    have d4 := (d1.alloc _).trans e4
    clear m4_
    have B2 := (B1.grew ((Grew.refl _).alloc _)).d e4 hne
    clear B1
    go_wp2_with fail
    refine (stringValue x4 _).mono ?_
    rintro e wv ⟨rfl, gv⟩
    have dv := d4.grew gv
    have B3 := B2.grew gv
    obtain ⟨b0, f0⟩ := B3.2.1 0 (by decide)
    obtain ⟨b1, f1⟩ := B3.2.1 1 (by decide)
    obtain ⟨b2, f2⟩ := B3.2.1 2 (by decide)
    have z0 := B3.2.2
    go_wp2
    refine bodyPost_ret (v := V.v ⟨2, 0, x4⟩) (by simp [results, Tryz.results69, go_sem, f0, f1, f2]) rfl ⟨_, rfl, hx4, ?_⟩
    repeat' (first | with_reducible exact dv | with_reducible refine D.setCell ?_ ?_ _ | (dsimp only; omega))
  ·
    go_wp2_with fail
    refine (l01Pick g _ (d1.alloc _).cur _ 3 [⟨#[114, 101, 100]⟩, ⟨#[98, 108, 117, 101]⟩, ⟨#[105, 110, 107]⟩] (lit_rd _ #[.string ⟨#[114, 101, 100]⟩, .string ⟨#[98, 108, 117, 101]⟩, .string ⟨#[105, 110, 107]⟩] 9 1 3 3 rfl (Nat.le_refl _)) (cur_ne d1.cur) (by decide) (by decide)).mono ?_
    rintro e w5 ⟨x5, rfl, m5_, e5⟩
    have hx5 : x5.size ≤ 8 := by simp at m5_; rcases m5_ with rfl | rfl | rfl <;> decide
    have d5 := (d1.alloc _).trans e5
    clear m5_
    have B2 := (B1.grew ((Grew.refl _).alloc _)).d e5 hne
    clear B1
    go_wp2_with fail
    refine (stringValue x5 _).mono ?_
    rintro e wv ⟨rfl, gv⟩
    have dv := d5.grew gv
    have B3 := B2.grew gv
    obtain ⟨b0, f0⟩ := B3.2.1 0 (by decide)
    obtain ⟨b1, f1⟩ := B3.2.1 1 (by decide)
    obtain ⟨b2, f2⟩ := B3.2.1 2 (by decide)
    have z0 := B3.2.2
    go_wp2
    refine bodyPost_ret (v := V.v ⟨2, 0, x5⟩) (by simp [results, Tryz.results69, go_sem, f0, f1, f2]) rfl ⟨_, rfl, hx5, ?_⟩
    repeat' (first | with_reducible exact dv | with_reducible refine D.setCell ?_ ?_ _ | (dsimp only; omega))
set_option maxRecDepth 100000 in
set_option maxHeartbeats 2000000 in
theorem l02Any (g : Nat) (w : World) (hc : Cur w g) :
    Calls Tryz.prog 47 #[.pointer (some ⟨g, 0, none⟩)] w fun e w' => ∃ y : V, e = .returned (V.v y) ∧ V.okD y ∧ D g w w' := by
  have hl := hc.lt
  have hne : w.heap.size ≠ g := by omega
  have B0 := Box.new w #[.int .i64 0, .int .i64 0, .string ⟨#[]⟩] 36 3 rfl
  have d0 := (D.refl hc).alloc (.cells #[.int .i64 0, .int .i64 0, .string ⟨#[]⟩] 36)
  go_enter Tryz.func47, Tryz.ntmps47
  go_wp2_with fail
  refine (l02Value g _ d0.cur).mono ?_
  rintro e w1 ⟨⟨yk, yi, ys⟩, rfl, hy, e1⟩
  have d1 := d0.trans e1
  have B1 := B0.d e1 hne
  have hn1 : w1.heap.size ≠ g := by have := B1.1; have := e1.size; simp at this; omega
  clear B0
  unfold V.okD at hy
  simp only at hy
  have dA : D g w (w1.alloc (.cells #[.int .i64 yk, .int .i64 yi, .string ys] 36)) := by
    have := d1.size
    repeat' (first | with_reducible exact d1 | with_reducible refine D.alloc ?_ _ | with_reducible refine D.setCell ?_ ?_ _ | (dsimp only; omega))
  have BA := B1.grew ((Grew.refl _).alloc (.cells #[.int .i64 yk, .int .i64 yi, .string ys] 36))
  have BV := Box.new w1 #[.int .i64 yk, .int .i64 yi, .string ys] 36 3 rfl
  have a0 : (w1.alloc (.cells #[.int .i64 yk, .int .i64 yi, .string ys] 36)).cell? ⟨w1.heap.size, 0, none⟩ = some (.int .i64 yk) := by simp [go_sem]
  have a1 : (w1.alloc (.cells #[.int .i64 yk, .int .i64 yi, .string ys] 36)).cell? ⟨w1.heap.size, 1, none⟩ = some (.int .i64 yi) := by simp [go_sem]
  have a2 : (w1.alloc (.cells #[.int .i64 yk, .int .i64 yi, .string ys] 36)).cell? ⟨w1.heap.size, 2, none⟩ = some (.string ys) := by simp [go_sem]
  have hsz : w.heap.size < w1.heap.size := B1.1
  go_wp2_with fail
  refine (l01Below g _ dA.cur 10 (by omega) (by omega)).mono ?_
  rintro e w2 ⟨x, rfl, hx, e2⟩
  have d2 := dA.trans e2
  have B2 := BA.d e2 hne
  have V2 := BV.d e2 hn1
  replace a0 := e2.cell a0 hn1
  replace a1 := e2.cell a1 hn1
  replace a2 := e2.cell a2 hn1
  clear BA BV B1
  have hxs : x = 0 ∨ x = 1 ∨ x = 2 ∨ 3 ≤ x := by omega
  rcases hxs with rfl | rfl | rfl | hx3
  ·
    go_wp2_with fail
    refine (l01Below g _ d2.cur 5 (by omega) (by omega)).mono ?_
    rintro e w1 ⟨x1, rfl, hx1, e1⟩
    have d1 := d2.trans e1
    have B3 := (B2).d e1 hne
    have V3 := (V2).d e1 hn1
    have c0 := e1.cell a0 hn1
    have c1 := e1.cell a1 hn1
    have c2 := e1.cell a2 hn1
    obtain ⟨b0, f0⟩ := B3.2.1 0 (by decide)
    obtain ⟨b1, f1⟩ := B3.2.1 1 (by decide)
    obtain ⟨b2, f2⟩ := B3.2.1 2 (by decide)
    have z0 := B3.2.2
    have zv := V3.2.2
    go_wp2
    refine bodyPost_ret (v := V.v ⟨x1 - 1, yi, ys⟩) (by simp [results, Tryz.results47, go_sem, f0, f1, f2]) rfl ⟨_, rfl, (show V.okD ⟨x1 - 1, yi, ys⟩ from hy), ?_⟩
    have := d1.size
    repeat' (first | with_reducible exact d1 | with_reducible refine D.setCell ?_ ?_ _ | (dsimp only; omega))
  ·
    go_wp2_with fail
    refine (l01PickInt g _ (d2.alloc _).cur _ 5 [-1, 0, 999, 1000, 9223372036854775807] (lit_rd _ #[.int .i64 (-1), .int .i64 0, .int .i64 999, .int .i64 1000, .int .i64 9223372036854775807] 3 1 5 5 rfl (Nat.le_refl _)) (cur_ne d2.cur) (by decide) (by decide)).mono ?_
    rintro e w2 ⟨x2, rfl, m2_, e2⟩
    have d2 := (d2.alloc _).trans e2
    clear m2_
    have B3 := (B2.grew ((Grew.refl _).alloc _)).d e2 hne
    have V3 := (V2.grew ((Grew.refl _).alloc _)).d e2 hn1
    have c0 := e2.cell (grew_cell ((Grew.refl _).alloc _) a0) hn1
    have c1 := e2.cell (grew_cell ((Grew.refl _).alloc _) a1) hn1
    have c2 := e2.cell (grew_cell ((Grew.refl _).alloc _) a2) hn1
    obtain ⟨b0, f0⟩ := B3.2.1 0 (by decide)
    obtain ⟨b1, f1⟩ := B3.2.1 1 (by decide)
    obtain ⟨b2, f2⟩ := B3.2.1 2 (by decide)
    have z0 := B3.2.2
    have zv := V3.2.2
    go_wp2
    refine bodyPost_ret (v := V.v ⟨yk, x2, ys⟩) (by simp [results, Tryz.results47, go_sem, f0, f1, f2]) rfl ⟨_, rfl, (show V.okD ⟨yk, x2, ys⟩ from hy), ?_⟩
    have := d1.size
    repeat' (first | with_reducible exact d2 | with_reducible refine D.setCell ?_ ?_ _ | (dsimp only; omega))
  ·
    go_wp2_with fail
    refine (l01Pick g _ (d2.alloc _).cur _ 5 [⟨#[]⟩, ⟨#[65]⟩, ⟨#[97, 98, 99, 100, 101, 102, 103]⟩, ⟨#[97, 98, 99, 100, 101, 102]⟩, ⟨#[97, 32, 98]⟩] (lit_rd _ #[.string ⟨#[]⟩, .string ⟨#[65]⟩, .string ⟨#[97, 98, 99, 100, 101, 102, 103]⟩, .string ⟨#[97, 98, 99, 100, 101, 102]⟩, .string ⟨#[97, 32, 98]⟩] 9 1 5 5 rfl (Nat.le_refl _)) (cur_ne d2.cur) (by decide) (by decide)).mono ?_
    rintro e w3 ⟨x3, rfl, m3_, e3⟩
    have hx3 : x3.size ≤ 8 := by simp at m3_; rcases m3_ with rfl | rfl | rfl | rfl | rfl <;> decide
    have d3 := (d2.alloc _).trans e3
    clear m3_
    have B3 := (B2.grew ((Grew.refl _).alloc _)).d e3 hne
    have V3 := (V2.grew ((Grew.refl _).alloc _)).d e3 hn1
    have c0 := e3.cell (grew_cell ((Grew.refl _).alloc _) a0) hn1
    have c1 := e3.cell (grew_cell ((Grew.refl _).alloc _) a1) hn1
    have c2 := e3.cell (grew_cell ((Grew.refl _).alloc _) a2) hn1
    obtain ⟨b0, f0⟩ := B3.2.1 0 (by decide)
    obtain ⟨b1, f1⟩ := B3.2.1 1 (by decide)
    obtain ⟨b2, f2⟩ := B3.2.1 2 (by decide)
    have z0 := B3.2.2
    have zv := V3.2.2
    go_wp2
    refine bodyPost_ret (v := V.v ⟨yk, yi, x3⟩) (by simp [results, Tryz.results47, go_sem, f0, f1, f2]) rfl ⟨_, rfl, hx3, ?_⟩
    have := d1.size
    repeat' (first | with_reducible exact d3 | with_reducible refine D.setCell ?_ ?_ _ | (dsimp only; omega))
  ·
    have hn0_ : ¬ (x = 0) := by omega
    have hn1_ : ¬ (x = 1) := by omega
    have hn2_ : ¬ (x = 2) := by omega
    obtain ⟨b0, f0⟩ := B2.2.1 0 (by decide)
    obtain ⟨b1, f1⟩ := B2.2.1 1 (by decide)
    obtain ⟨b2, f2⟩ := B2.2.1 2 (by decide)
    have z0 := B2.2.2
    have zv := V2.2.2
    go_wp2
    refine bodyPost_ret (v := V.v ⟨yk, yi, ys⟩) (by simp [results, Tryz.results47, go_sem, f0, f1, f2]) rfl ⟨_, rfl, (show V.okD ⟨yk, yi, ys⟩ from hy), ?_⟩
    have := d1.size
    repeat' (first | with_reducible exact d2 | with_reducible refine D.setCell ?_ ?_ _ | (dsimp only; omega))
set_option maxRecDepth 100000 in
set_option maxHeartbeats 2000000 in
theorem l09Leaf (g : Nat) (w : World) (hc : Cur w g) :
    Calls Tryz.prog 46 #[.pointer (some ⟨g, 0, none⟩)] w fun e w' => ∃ y : N, e = .returned (N.v y) ∧ N.okD y ∧ D g w w' := by
  have hl := hc.lt
  have hne : w.heap.size ≠ g := by omega
  have B0 := Box.new w #[.int .i64 0, .int .i64 0, .int .i64 0, .string ⟨#[]⟩, .int .i64 0, .int .i64 0, .string ⟨#[]⟩] 38 7 rfl
  have d0 := (D.refl hc).alloc (.cells #[.int .i64 0, .int .i64 0, .int .i64 0, .string ⟨#[]⟩, .int .i64 0, .int .i64 0, .string ⟨#[]⟩] 38)
  go_enter Tryz.func46, Tryz.ntmps46
  go_wp2_with fail
  refine (l01Below g _ d0.cur 9 (by omega) (by omega)).mono ?_
  rintro e w1 ⟨x1, rfl, hx1, e1⟩
  have d1 := d0.trans e1
  have B1 := B0.d e1 hne
  clear B0
  have : x1 = 0 ∨ x1 = 1 ∨ x1 = 2 ∨ x1 = 3 ∨ x1 = 4 ∨ x1 = 5 ∨ x1 = 6 ∨ x1 = 7 ∨ x1 = 8 := by omega
  clear hx1
  rcases this with rfl | rfl | rfl | rfl | rfl | rfl | rfl | rfl | rfl
  ·
    obtain ⟨b0, f0⟩ := B1.2.1 0 (by decide)
    obtain ⟨b1, f1⟩ := B1.2.1 1 (by decide)
    obtain ⟨b2, f2⟩ := B1.2.1 2 (by decide)
    obtain ⟨b3, f3⟩ := B1.2.1 3 (by decide)
    obtain ⟨b4, f4⟩ := B1.2.1 4 (by decide)
    obtain ⟨b5, f5⟩ := B1.2.1 5 (by decide)
    obtain ⟨b6, f6⟩ := B1.2.1 6 (by decide)
    have z0 := B1.2.2
    go_wp2
    refine bodyPost_ret (v := N.v ⟨1, 0, 0, ⟨#[]⟩, ⟨0, 0, ⟨#[]⟩⟩⟩) (by simp [results, Tryz.results46, go_sem, f0, f1, f2, f3, f4, f5, f6]) rfl ⟨_, rfl, (show N.okD ⟨1, 0, 0, ⟨#[]⟩, ⟨0, 0, ⟨#[]⟩⟩⟩ from ⟨by simp [ByteArray.size], by simp [ByteArray.size]⟩), ?_⟩
    repeat' (first | with_reducible exact d1 | with_reducible refine D.setCell ?_ ?_ _ | (dsimp only; omega))
  ·
    go_wp2_with fail
    refine (l01Pick g _ (d1.alloc _).cur _ 4 [⟨#[97]⟩, ⟨#[98]⟩, ⟨#[110]⟩, ⟨#[116]⟩] (lit_rd _ #[.string ⟨#[97]⟩, .string ⟨#[98]⟩, .string ⟨#[110]⟩, .string ⟨#[116]⟩] 9 1 4 4 rfl (Nat.le_refl _)) (cur_ne d1.cur) (by decide) (by decide)).mono ?_
    rintro e w2 ⟨x2, rfl, m2_, e2⟩
    have hx2 : x2.size ≤ 8 := by simp at m2_; rcases m2_ with rfl | rfl | rfl | rfl <;> decide
    have d2 := (d1.alloc _).trans e2
    clear m2_
    have B2 := (B1.grew ((Grew.refl _).alloc _)).d e2 hne
    obtain ⟨b0, f0⟩ := B2.2.1 0 (by decide)
    obtain ⟨b1, f1⟩ := B2.2.1 1 (by decide)
    obtain ⟨b2, f2⟩ := B2.2.1 2 (by decide)
    obtain ⟨b3, f3⟩ := B2.2.1 3 (by decide)
    obtain ⟨b4, f4⟩ := B2.2.1 4 (by decide)
    obtain ⟨b5, f5⟩ := B2.2.1 5 (by decide)
    obtain ⟨b6, f6⟩ := B2.2.1 6 (by decide)
    have z0 := B2.2.2
    go_wp2
    refine bodyPost_ret (v := N.v ⟨2, 0, 0, x2, ⟨0, 0, ⟨#[]⟩⟩⟩) (by simp [results, Tryz.results46, go_sem, f0, f1, f2, f3, f4, f5, f6]) rfl ⟨_, rfl, (show N.okD ⟨2, 0, 0, x2, ⟨0, 0, ⟨#[]⟩⟩⟩ from ⟨hx2, by simp [ByteArray.size]⟩), ?_⟩
    repeat' (first | with_reducible exact d2 | with_reducible refine D.setCell ?_ ?_ _ | (dsimp only; omega))
  ·
    go_wp2_with fail
    refine (l01Below g _ d1.cur 4 (by omega) (by omega)).mono ?_
    rintro e w3 ⟨x3, rfl, hx3, e3⟩
    have d3 := d1.trans e3
    have B3 := B1.d e3 hne
    go_wp2_with fail
    refine (intValue x3 _).mono ?_
    rintro e wv ⟨rfl, gv⟩
    have dv := d3.grew gv
    have Bv := B3.grew gv
    obtain ⟨b0, f0⟩ := Bv.2.1 0 (by decide)
    obtain ⟨b1, f1⟩ := Bv.2.1 1 (by decide)
    obtain ⟨b2, f2⟩ := Bv.2.1 2 (by decide)
    obtain ⟨b3, f3⟩ := Bv.2.1 3 (by decide)
    obtain ⟨b4, f4⟩ := Bv.2.1 4 (by decide)
    obtain ⟨b5, f5⟩ := Bv.2.1 5 (by decide)
    obtain ⟨b6, f6⟩ := Bv.2.1 6 (by decide)
    have z0 := Bv.2.2
    go_wp2
    refine bodyPost_ret (v := N.v ⟨3, 0, 0, ⟨#[97]⟩, ⟨1, x3, ⟨#[]⟩⟩⟩) (by simp [results, Tryz.results46, go_sem, f0, f1, f2, f3, f4, f5, f6]) rfl ⟨_, rfl, (show N.okD ⟨3, 0, 0, ⟨#[97]⟩, ⟨1, x3, ⟨#[]⟩⟩⟩ from ⟨by simp [ByteArray.size], by simp [ByteArray.size]⟩), ?_⟩
    repeat' (first | with_reducible exact dv | with_reducible refine D.setCell ?_ ?_ _ | (dsimp only; omega))
  ·
    go_wp2_with fail
    refine (l01Pick g _ (d1.alloc _).cur _ 2 [⟨#[114, 101, 100]⟩, ⟨#[98, 108, 117, 101]⟩] (lit_rd _ #[.string ⟨#[114, 101, 100]⟩, .string ⟨#[98, 108, 117, 101]⟩] 9 1 2 2 rfl (Nat.le_refl _)) (cur_ne d1.cur) (by decide) (by decide)).mono ?_
    rintro e w4 ⟨x4, rfl, m4_, e4⟩
    have hx4 : x4.size ≤ 8 := by simp at m4_; rcases m4_ with rfl | rfl <;> decide
    have d4 := (d1.alloc _).trans e4
    clear m4_
    have B2 := (B1.grew ((Grew.refl _).alloc _)).d e4 hne
    go_wp2_with fail
    refine (stringValue x4 _).mono ?_
    rintro e wv ⟨rfl, gv⟩
    have dv := d4.grew gv
    have Bv := B2.grew gv
    obtain ⟨b0, f0⟩ := Bv.2.1 0 (by decide)
    obtain ⟨b1, f1⟩ := Bv.2.1 1 (by decide)
    obtain ⟨b2, f2⟩ := Bv.2.1 2 (by decide)
    obtain ⟨b3, f3⟩ := Bv.2.1 3 (by decide)
    obtain ⟨b4, f4⟩ := Bv.2.1 4 (by decide)
    obtain ⟨b5, f5⟩ := Bv.2.1 5 (by decide)
    obtain ⟨b6, f6⟩ := Bv.2.1 6 (by decide)
    have z0 := Bv.2.2
    go_wp2
    refine bodyPost_ret (v := N.v ⟨3, 0, 0, ⟨#[116]⟩, ⟨2, 0, x4⟩⟩) (by simp [results, Tryz.results46, go_sem, f0, f1, f2, f3, f4, f5, f6]) rfl ⟨_, rfl, (show N.okD ⟨3, 0, 0, ⟨#[116]⟩, ⟨2, 0, x4⟩⟩ from ⟨by simp [ByteArray.size], hx4⟩), ?_⟩
    repeat' (first | with_reducible exact dv | with_reducible refine D.setCell ?_ ?_ _ | (dsimp only; omega))
  ·
    go_wp2_with fail
    refine (l01Pick g _ (d1.alloc _).cur _ 2 [⟨#[97]⟩, ⟨#[98]⟩] (lit_rd _ #[.string ⟨#[97]⟩, .string ⟨#[98]⟩] 9 1 2 2 rfl (Nat.le_refl _)) (cur_ne d1.cur) (by decide) (by decide)).mono ?_
    rintro e w5 ⟨x5, rfl, m5_, e5⟩
    have hx5 : x5.size ≤ 8 := by simp at m5_; rcases m5_ with rfl | rfl <;> decide
    have d5 := (d1.alloc _).trans e5
    clear m5_
    have B2 := (B1.grew ((Grew.refl _).alloc _)).d e5 hne
    go_wp2_with fail
    refine (l01Below g _ d5.cur 3 (by omega) (by omega)).mono ?_
    rintro e w6 ⟨x6, rfl, hx6, e6⟩
    have d6 := d5.trans e6
    have B3 := B2.d e6 hne
    go_wp2_with fail
    refine (intValue (1 + x6) _).mono ?_
    rintro e wv ⟨rfl, gv⟩
    have dv := d6.grew gv
    have Bv := B3.grew gv
    obtain ⟨b0, f0⟩ := Bv.2.1 0 (by decide)
    obtain ⟨b1, f1⟩ := Bv.2.1 1 (by decide)
    obtain ⟨b2, f2⟩ := Bv.2.1 2 (by decide)
    obtain ⟨b3, f3⟩ := Bv.2.1 3 (by decide)
    obtain ⟨b4, f4⟩ := Bv.2.1 4 (by decide)
    obtain ⟨b5, f5⟩ := Bv.2.1 5 (by decide)
    obtain ⟨b6, f6⟩ := Bv.2.1 6 (by decide)
    have z0 := Bv.2.2
    go_wp2
    refine bodyPost_ret (v := N.v ⟨4, 0, 0, x5, ⟨1, 1 + x6, ⟨#[]⟩⟩⟩) (by simp [results, Tryz.results46, go_sem, f0, f1, f2, f3, f4, f5, f6]) rfl ⟨_, rfl, (show N.okD ⟨4, 0, 0, x5, ⟨1, 1 + x6, ⟨#[]⟩⟩⟩ from ⟨hx5, by simp [ByteArray.size]⟩), ?_⟩
    repeat' (first | with_reducible exact dv | with_reducible refine D.setCell ?_ ?_ _ | (dsimp only; omega))
  ·
    go_wp2_with fail
    refine (l09DirName g _ d1.cur).mono ?_
    rintro e w7 ⟨x7, rfl, hx7, e7⟩
    have d7 := d1.trans e7
    have B2 := B1.d e7 hne
    obtain ⟨b0, f0⟩ := B2.2.1 0 (by decide)
    obtain ⟨b1, f1⟩ := B2.2.1 1 (by decide)
    obtain ⟨b2, f2⟩ := B2.2.1 2 (by decide)
    obtain ⟨b3, f3⟩ := B2.2.1 3 (by decide)
    obtain ⟨b4, f4⟩ := B2.2.1 4 (by decide)
    obtain ⟨b5, f5⟩ := B2.2.1 5 (by decide)
    obtain ⟨b6, f6⟩ := B2.2.1 6 (by decide)
    have z0 := B2.2.2
    go_wp2
    refine bodyPost_ret (v := N.v ⟨8, 0, 0, x7, ⟨0, 0, ⟨#[]⟩⟩⟩) (by simp [results, Tryz.results46, go_sem, f0, f1, f2, f3, f4, f5, f6]) rfl ⟨_, rfl, (show N.okD ⟨8, 0, 0, x7, ⟨0, 0, ⟨#[]⟩⟩⟩ from ⟨hx7, by simp [ByteArray.size]⟩), ?_⟩
    repeat' (first | with_reducible exact d7 | with_reducible refine D.setCell ?_ ?_ _ | (dsimp only; omega))
  ·
    go_wp2_with fail
    refine (l09DirName g _ d1.cur).mono ?_
    rintro e w8 ⟨x8, rfl, hx8, e8⟩
    have d8 := d1.trans e8
    have B2 := B1.d e8 hne
    obtain ⟨b0, f0⟩ := B2.2.1 0 (by decide)
    obtain ⟨b1, f1⟩ := B2.2.1 1 (by decide)
    obtain ⟨b2, f2⟩ := B2.2.1 2 (by decide)
    obtain ⟨b3, f3⟩ := B2.2.1 3 (by decide)
    obtain ⟨b4, f4⟩ := B2.2.1 4 (by decide)
    obtain ⟨b5, f5⟩ := B2.2.1 5 (by decide)
    obtain ⟨b6, f6⟩ := B2.2.1 6 (by decide)
    have z0 := B2.2.2
    go_wp2
    refine bodyPost_ret (v := N.v ⟨8, 0, 0, x8, ⟨0, 0, ⟨#[]⟩⟩⟩) (by simp [results, Tryz.results46, go_sem, f0, f1, f2, f3, f4, f5, f6]) rfl ⟨_, rfl, (show N.okD ⟨8, 0, 0, x8, ⟨0, 0, ⟨#[]⟩⟩⟩ from ⟨hx8, by simp [ByteArray.size]⟩), ?_⟩
    repeat' (first | with_reducible exact d8 | with_reducible refine D.setCell ?_ ?_ _ | (dsimp only; omega))
  ·
    go_wp2_with fail
    refine (l09DirName g _ d1.cur).mono ?_
    rintro e w9 ⟨x9, rfl, hx9, e9⟩
    have d9 := d1.trans e9
    have B2 := B1.d e9 hne
    obtain ⟨b0, f0⟩ := B2.2.1 0 (by decide)
    obtain ⟨b1, f1⟩ := B2.2.1 1 (by decide)
    obtain ⟨b2, f2⟩ := B2.2.1 2 (by decide)
    obtain ⟨b3, f3⟩ := B2.2.1 3 (by decide)
    obtain ⟨b4, f4⟩ := B2.2.1 4 (by decide)
    obtain ⟨b5, f5⟩ := B2.2.1 5 (by decide)
    obtain ⟨b6, f6⟩ := B2.2.1 6 (by decide)
    have z0 := B2.2.2
    go_wp2
    refine bodyPost_ret (v := N.v ⟨9, 0, 0, x9, ⟨0, 0, ⟨#[]⟩⟩⟩) (by simp [results, Tryz.results46, go_sem, f0, f1, f2, f3, f4, f5, f6]) rfl ⟨_, rfl, (show N.okD ⟨9, 0, 0, x9, ⟨0, 0, ⟨#[]⟩⟩⟩ from ⟨hx9, by simp [ByteArray.size]⟩), ?_⟩
    repeat' (first | with_reducible exact d9 | with_reducible refine D.setCell ?_ ?_ _ | (dsimp only; omega))
  ·
    go_wp2_with fail
    refine (l01Below g _ d1.cur 4 (by omega) (by omega)).mono ?_
    rintro e w10 ⟨x10, rfl, hx10, e10⟩
    have d10 := d1.trans e10
    have B3 := B1.d e10 hne
    go_wp2_with fail
    refine (intValue x10 _).mono ?_
    rintro e wv ⟨rfl, gv⟩
    have dv := d10.grew gv
    have Bv := B3.grew gv
    obtain ⟨b0, f0⟩ := Bv.2.1 0 (by decide)
    obtain ⟨b1, f1⟩ := Bv.2.1 1 (by decide)
    obtain ⟨b2, f2⟩ := Bv.2.1 2 (by decide)
    obtain ⟨b3, f3⟩ := Bv.2.1 3 (by decide)
    obtain ⟨b4, f4⟩ := Bv.2.1 4 (by decide)
    obtain ⟨b5, f5⟩ := Bv.2.1 5 (by decide)
    obtain ⟨b6, f6⟩ := Bv.2.1 6 (by decide)
    have z0 := Bv.2.2
    go_wp2
    refine bodyPost_ret (v := N.v ⟨3, 0, 0, ⟨#[98]⟩, ⟨1, x10, ⟨#[]⟩⟩⟩) (by simp [results, Tryz.results46, go_sem, f0, f1, f2, f3, f4, f5, f6]) rfl ⟨_, rfl, (show N.okD ⟨3, 0, 0, ⟨#[98]⟩, ⟨1, x10, ⟨#[]⟩⟩⟩ from ⟨by simp [ByteArray.size], by simp [ByteArray.size]⟩), ?_⟩
    repeat' (first | with_reducible exact dv | with_reducible refine D.setCell ?_ ?_ _ | (dsimp only; omega))
/-- A query that was drawn: its length, its texts. -/
def qOk (n : Nat) (xs : List N) : Prop := xs.length ≤ n ∧ ∀ x, x ∈ xs → x.okD
theorem qOk.snoc {n : Nat} {xs : List N} {x : N} (h : qOk n xs) (hx : x.okD) : qOk (n + 1) (xs ++ [x]) :=
  ⟨by have := h.1; simp; omega, fun y hy => by
    rw [List.mem_append] at hy
    rcases hy with hy | hy
    · exact h.2 y hy
    · simp at hy; subst hy; exact hx⟩
theorem qOk.mono {n m : Nat} {xs : List N} (h : qOk n xs) (hm : n ≤ m) : qOk m xs := ⟨Nat.le_trans h.1 hm, h.2⟩
theorem op_ok (o l r : Int) : N.okD ⟨o, l, r, ⟨#[]⟩, ⟨0, 0, ⟨#[]⟩⟩⟩ := ⟨by simp [ByteArray.size], by simp [ByteArray.size]⟩
set_option maxRecDepth 100000 in
set_option maxHeartbeats 2000000 in
theorem l09Grow0 (g : Nat) (W0 w : World) (hd : D g W0 w) (q : Value) (xs : List N) (ho : w.ownsRow W0.heap.size 38 7 q xs.length (rows N.c xs)) (n : Nat) (hq : qOk n xs) (hn : n ≤ 1000) (b : Bool) :
    Calls Tryz.prog 53 #[.pointer (some ⟨g, 0, none⟩), q, .int .i64 0, .bool b] w fun e w' => ∃ q', e = .returned q' ∧ ∃ xs', w'.ownsRow W0.heap.size 38 7 q' xs'.length (rows N.c xs') ∧ xs.length < xs'.length ∧ qOk (n + 1) xs' ∧ D g W0 w' := by
  obtain ⟨i0, hi, hz0, hz1, hz2⟩ := info_parts Tryz.infoN
  have hlt := hd.lt
  obtain ⟨qa, qc, rfl⟩ := own_slice ho
  have hlen := hq.1
  go_enter Tryz.func53, Tryz.ntmps53
  go_wp2_with fail
  refine (l09Leaf g _ hd.cur).mono ?_
  rintro e wl ⟨y, rfl, hy, el⟩
  have dl := hd.trans el
  have HL := Lib.hid (el.own ho hlt)
  go_wp2_with (at_builtin; refine wpList_append_own _ rfl _ _ 24 rfl W0.heap.size 38 i0 _ 7 72 Tryz.underlying24 hi hz0 hz1 hz2 rfl (by decide) _ _ _ rfl (HL.out.alloc _) ⟨_, 0, none⟩ 1 1 _ rfl rfl (lit_news (by simp)) (fun x hx => by simp at hx; rcases hx with rfl | rfl | rfl | rfl | rfl | rfl | rfl <;> rfl) (by unfold maxLen; omega) (by omega) (by have := dl.size; simp; omega) ?_; intro v' w' hown' hgr2 _)
  go_ret
  exact ⟨_, rfl, xs ++ [y], by simpa [rows, N.c] using hown', by simp, hq.snoc hy, (dl.alloc _).grown hgr2 (fun j h => (HL.out.lt j h).1)⟩
set_option maxRecDepth 100000 in
set_option maxHeartbeats 4000000 in
theorem l09Grow (g : Nat) (W0 : World) (d : Nat) : ∀ (w : World) (hd : D g W0 w) (q : Value) (xs : List N) (ho : w.ownsRow W0.heap.size 38 7 q xs.length (rows N.c xs)) (n : Nat) (hq : qOk n xs) (hn : n + 2 * d ≤ 1000) (b : Bool),
    Calls Tryz.prog 53 #[.pointer (some ⟨g, 0, none⟩), q, .int .i64 (d : Int), .bool b] w fun e w' => ∃ q', e = .returned q' ∧ ∃ xs', w'.ownsRow W0.heap.size 38 7 q' xs'.length (rows N.c xs') ∧ xs.length < xs'.length ∧ qOk (n + 1 + 2 * d) xs' ∧ D g W0 w' := by
  obtain ⟨i0, hi, hz0, hz1, hz2⟩ := info_parts Tryz.infoN
  induction d with
  | zero => intro w hd q xs ho n hq hn b; exact l09Grow0 g W0 w hd q xs ho n hq (by omega) b
  | succ d ih =>
    intro w hd q xs ho n hq hn b
    have hlt := hd.lt
    obtain ⟨qa, qc, rfl⟩ := own_slice ho
    have hlen := hq.1
    have hpp : ((d + 1 : Nat) : Int) - 1 = d := by omega
    have hne0 : ¬ (((d + 1 : Nat) : Int) = 0) := by omega
    go_enter Tryz.func53, Tryz.ntmps53
    go_wp2_with fail
    refine (l01Once g _ hd.cur 3 (by decide) (by decide)).mono ?_
    rintro e w1 ⟨c, rfl, e1⟩
    have d1 := hd.trans e1
    have H1 := Lib.hid (e1.own ho hlt)
    cases c
    · go_wp2_with fail
      refine (l01Below g _ d1.cur 5 (by decide) (by decide)).mono ?_
      rintro e w2 ⟨k, rfl, hk, e2⟩
      have d2 := d1.trans e2
      have H2 := Lib.hid (e2.own H1.out hlt)
      by_cases hA : k = 0 ∧ b = true
      · obtain ⟨rfl, rfl⟩ := hA
        go_wp2_with fail
        refine (ih _ d2 _ xs H2.out n hq (by omega) true).mono ?_
        rintro e w3 ⟨q3, rfl, xs3, ho3, hl3, hq3, d3⟩
        have H3 := Lib.hid ho3
        obtain ⟨qa3, qc3, rfl⟩ := own_slice ho3
        have hn3 := hq3.1
        have hp3 : (0 : Int) ≤ (xs3.length : Int) - 1 := by omega
        clear ho3
        go_wp2_with (at_builtin; refine wpList_append_own _ rfl _ _ 24 rfl W0.heap.size 38 i0 _ 7 72 Tryz.underlying24 hi hz0 hz1 hz2 rfl (by decide) _ _ _ rfl (H3.out.alloc _) ⟨_, 0, none⟩ 1 1 _ rfl rfl (lit_news (by simp)) (fun x hx => by simp at hx; rcases hx with rfl | rfl | rfl | rfl | rfl | rfl | rfl <;> rfl) (by unfold maxLen; omega) (by omega) (by have := d3.size; simp; omega) ?_; intro v' w' hown' hgr2 _)
        go_ret
        exact ⟨_, rfl, xs3 ++ [⟨5, (xs3.length : Int) - 1, 0, ⟨#[]⟩, ⟨0, 0, ⟨#[]⟩⟩⟩], by simpa [rows, N.c] using hown', by simp; omega, (hq3.snoc (op_ok _ _ _)).mono (by omega), (d3.alloc _).grown hgr2 (fun j h => (H3.out.lt j h).1)⟩
      · have hbk : ¬ (k = 0) ∨ (k = 0 ∧ b = false) := by
          by_cases h : k = 0
          · exact .inr ⟨h, by cases hb : b with | false => rfl | true => exact absurd ⟨h, hb⟩ hA⟩
          · exact .inl h
        rcases hbk with hk0 | ⟨rfl, rfl⟩
        ·
          have hkb : (k == 0) = false := by simp [hk0]
          go_wp2_with fail
          refine (ih _ d2 _ xs H2.out n hq (by omega) b).mono ?_
          rintro e w3 ⟨q3, rfl, xs3, ho3, hl3, hq3, d3⟩
          have H3 := Lib.hid ho3
          obtain ⟨qa3, qc3, rfl⟩ := own_slice ho3
          have hn3 := hq3.1
          have hp3 : (0 : Int) ≤ (xs3.length : Int) - 1 := by omega
          clear ho3
          go_wp2_with fail
          refine (l09Grow0 g W0 _ d3 _ xs3 H3.out _ hq3 (by omega) b).mono ?_
          rintro e w4 ⟨q4, rfl, xs4, ho4, hl4, hq4, d4⟩
          have H4 := Lib.hid ho4
          obtain ⟨qa4, qc4, rfl⟩ := own_slice ho4
          have hn4 := hq4.1
          have hp4 : (0 : Int) ≤ (xs4.length : Int) - 1 := by omega
          clear ho4
          have hk3 : k < 3 ∨ ¬ (k < 3) := by omega
          rcases hk3 with hk3 | hk3
          ·
            go_wp2_with (at_builtin; refine wpList_append_own _ rfl _ _ 24 rfl W0.heap.size 38 i0 _ 7 72 Tryz.underlying24 hi hz0 hz1 hz2 rfl (by decide) _ _ _ rfl (H4.out.alloc _) ⟨_, 0, none⟩ 1 1 _ rfl rfl (lit_news (by simp)) (fun x hx => by simp at hx; rcases hx with rfl | rfl | rfl | rfl | rfl | rfl | rfl <;> rfl) (by unfold maxLen; omega) (by omega) (by have := d4.size; simp; omega) ?_; intro v' w' hown' hgr2 _)
            go_ret
            exact ⟨_, rfl, xs4 ++ [⟨6, (xs3.length : Int) - 1, (xs4.length : Int) - 1, ⟨#[]⟩, ⟨0, 0, ⟨#[]⟩⟩⟩], by simpa [rows, N.c] using hown', by simp; omega, (hq4.snoc (op_ok _ _ _)).mono (by omega), (d4.alloc _).grown hgr2 (fun j h => (H4.out.lt j h).1)⟩
          ·
            go_wp2_with (at_builtin; refine wpList_append_own _ rfl _ _ 24 rfl W0.heap.size 38 i0 _ 7 72 Tryz.underlying24 hi hz0 hz1 hz2 rfl (by decide) _ _ _ rfl (H4.out.alloc _) ⟨_, 0, none⟩ 1 1 _ rfl rfl (lit_news (by simp)) (fun x hx => by simp at hx; rcases hx with rfl | rfl | rfl | rfl | rfl | rfl | rfl <;> rfl) (by unfold maxLen; omega) (by omega) (by have := d4.size; simp; omega) ?_; intro v' w' hown' hgr2 _)
            go_ret
            exact ⟨_, rfl, xs4 ++ [⟨7, (xs3.length : Int) - 1, (xs4.length : Int) - 1, ⟨#[]⟩, ⟨0, 0, ⟨#[]⟩⟩⟩], by simpa [rows, N.c] using hown', by simp; omega, (hq4.snoc (op_ok _ _ _)).mono (by omega), (d4.alloc _).grown hgr2 (fun j h => (H4.out.lt j h).1)⟩
        ·
          go_wp2_with fail
          refine (ih _ d2 _ xs H2.out n hq (by omega) false).mono ?_
          rintro e w3 ⟨q3, rfl, xs3, ho3, hl3, hq3, d3⟩
          have H3 := Lib.hid ho3
          obtain ⟨qa3, qc3, rfl⟩ := own_slice ho3
          have hn3 := hq3.1
          have hp3 : (0 : Int) ≤ (xs3.length : Int) - 1 := by omega
          clear ho3
          go_wp2_with fail
          refine (l09Grow0 g W0 _ d3 _ xs3 H3.out _ hq3 (by omega) false).mono ?_
          rintro e w4 ⟨q4, rfl, xs4, ho4, hl4, hq4, d4⟩
          have H4 := Lib.hid ho4
          obtain ⟨qa4, qc4, rfl⟩ := own_slice ho4
          have hn4 := hq4.1
          have hp4 : (0 : Int) ≤ (xs4.length : Int) - 1 := by omega
          clear ho4
          go_wp2_with (at_builtin; refine wpList_append_own _ rfl _ _ 24 rfl W0.heap.size 38 i0 _ 7 72 Tryz.underlying24 hi hz0 hz1 hz2 rfl (by decide) _ _ _ rfl (H4.out.alloc _) ⟨_, 0, none⟩ 1 1 _ rfl rfl (lit_news (by simp)) (fun x hx => by simp at hx; rcases hx with rfl | rfl | rfl | rfl | rfl | rfl | rfl <;> rfl) (by unfold maxLen; omega) (by omega) (by have := d4.size; simp; omega) ?_; intro v' w' hown' hgr2 _)
          go_ret
          exact ⟨_, rfl, xs4 ++ [⟨6, (xs3.length : Int) - 1, (xs4.length : Int) - 1, ⟨#[]⟩, ⟨0, 0, ⟨#[]⟩⟩⟩], by simpa [rows, N.c] using hown', by simp; omega, (hq4.snoc (op_ok _ _ _)).mono (by omega), (d4.alloc _).grown hgr2 (fun j h => (H4.out.lt j h).1)⟩
    ·
      go_wp2_with fail
      refine (l09Leaf g _ d1.cur).mono ?_
      rintro e wl ⟨y, rfl, hy, el⟩
      have dl := d1.trans el
      have HL := Lib.hid (el.own H1.out hlt)
      go_wp2_with (at_builtin; refine wpList_append_own _ rfl _ _ 24 rfl W0.heap.size 38 i0 _ 7 72 Tryz.underlying24 hi hz0 hz1 hz2 rfl (by decide) _ _ _ rfl (HL.out.alloc _) ⟨_, 0, none⟩ 1 1 _ rfl rfl (lit_news (by simp)) (fun x hx => by simp at hx; rcases hx with rfl | rfl | rfl | rfl | rfl | rfl | rfl <;> rfl) (by unfold maxLen; omega) (by omega) (by have := dl.size; simp; omega) ?_; intro v' w' hown' hgr2 _)
      go_ret
      exact ⟨_, rfl, xs ++ [y], by simpa [rows, N.c] using hown', by simp, (hq.snoc hy).mono (by omega), (dl.alloc _).grown hgr2 (fun j h => (HL.out.lt j h).1)⟩
set_option maxRecDepth 100000 in
set_option maxHeartbeats 2000000 in
theorem l09Question (g : Nat) (w : World) (hc : Cur w g) :
    Calls Tryz.prog 29 #[.pointer (some ⟨g, 0, none⟩)] w fun e w' => ∃ q, e = .returned q ∧ ∃ xs, w'.ownsRow w.heap.size 38 7 q xs.length (rows N.c xs) ∧ 0 < xs.length ∧ qOk 7 xs ∧ D g w w' := by
  go_enter Tryz.func29, Tryz.ntmps29
  go_wp2_with fail
  refine (l01Below g _ hc 4 (by decide) (by decide)).mono ?_
  rintro e w1 ⟨x, rfl, hx, d1⟩
  obtain ⟨k, rfl⟩ : ∃ k : Nat, x = k := ⟨x.toNat, by omega⟩
  go_wp2_with fail
  refine (l09Grow g w k _ d1 _ [] (World.ownsRow_nil _ _ _ _) 0 ⟨Nat.le_refl _, by simp⟩ (by omega) true).mono ?_
  rintro e w2 ⟨q, rfl, xs, ho, hl, hq, d2⟩
  go_wp2
  go_ret
  exact ⟨_, rfl, xs, ho, by simpa using hl, hq.mono (by omega), d2⟩
theorem N.okD_set {xs : List N} {n i : Nat} {y : N} (h : qOk n xs) (hy : y.okD) : qOk n (xs.set i y) :=
  ⟨by rw [List.length_set]; exact h.1, fun z hz => by
    rcases List.mem_or_eq_of_mem_set hz with hz | rfl
    · exact h.2 z hz
    · exact hy⟩
set_option maxRecDepth 100000 in
set_option maxHeartbeats 4000000 in
theorem l09Any (g : Nat) (w : World) (hc : Cur w g) :
    Calls Tryz.prog 24 #[.pointer (some ⟨g, 0, none⟩)] w fun e w' => ∃ q, e = .returned q ∧ ∃ xs, w'.ownsRow w.heap.size 38 7 q xs.length (rows N.c xs) ∧ qOk 8 xs ∧ D g w w' := by
  obtain ⟨i0, hi, hz0, hz1, hz2⟩ := info_parts Tryz.infoN
  have hlt := hc.lt
  go_enter Tryz.func24, Tryz.ntmps24
  go_wp2_with fail
  refine (l09Question g _ hc).mono ?_
  rintro e w1 ⟨q, rfl, xs, ho, hpos, hq, d1⟩
  have hlen := hq.1
  obtain ⟨gb, qc, rfl⟩ : ∃ gb qc, q = .slice (some ⟨gb, 0, none⟩) xs.length qc := by
    rcases ho.2 with ⟨_, h0⟩ | ⟨b, cap, cur, h, _⟩
    · omega
    · exact ⟨b, cap, h⟩
  have hgb := (ho.lt gb rfl).1
  have hne : gb ≠ g := by omega
  have H1 := Lib.hid ho
  clear ho
  go_wp2_with fail
  refine (l01Below g _ d1.cur xs.length (by omega) (by omega)).mono ?_
  rintro e w2 ⟨k0, rfl, hk, e2⟩
  obtain ⟨k, rfl⟩ : ∃ k : Nat, k0 = k := ⟨k0.toNat, by omega⟩
  have hkx : k < xs.length := by omega
  have d2 := d1.trans e2
  have H2 := Lib.hid (e2.own H1.out hlt)
  go_wp2_with fail
  refine (l01Below g _ d2.cur 10 (by omega) (by omega)).mono ?_
  rintro e w3 ⟨x, rfl, hx, e3⟩
  have d3 := d2.trans e3
  have H3 := Lib.hid (e3.own H2.out hlt)
  have hq8 : qOk 8 xs := hq.mono (by decide)
  have hxs : x = 0 ∨ x = 1 ∨ x = 2 ∨ x = 3 ∨ x = 4 ∨ x = 5 ∨ 6 ≤ x := by omega
  rcases hxs with rfl | rfl | rfl | rfl | rfl | rfl | hx6
  ·
    go_wp2_with fail
    refine (l01Below g _ d3.cur 12 (by omega) (by omega)).mono ?_
    rintro e w11 ⟨x11, rfl, hx11, e11⟩
    have d11 := d3.trans e11
    have H4 := Lib.hid (e11.own H3.out hlt)
    obtain ⟨y, hyk, g0, g1, g2, g3, g4, g5, g6⟩ := ownN H4.out hkx
    have hfz := H4.out.frozenAt
    have hyo := hq8.2 y (List.mem_of_getElem? hyk.out)
    go_wp2
    go_ret
    refine ⟨_, rfl, xs.set k ⟨x11 - 1, y.left, y.right, y.name, y.val⟩, ?_, N.okD_set hq8 hyo, ?_⟩
    · rw [List.length_set]
      have h1 := ownsRow_stores (H4.out) (k * 7) (.int .i64 (x11 - 1))
      have hr := rows_set1 N.len xs k 0 y ⟨x11 - 1, y.left, y.right, y.name, y.val⟩ (.int .i64 (x11 - 1)) hyk.out (by decide) rfl
      try rw [Nat.add_zero] at hr
      rw [hr] at h1
      exact h1
    · repeat' (first | with_reducible exact d11 | with_reducible refine D.setCell ?_ ?_ _ | (dsimp only; omega))
  ·
    go_wp2_with fail
    refine (l01PickInt g _ (d3.alloc _).cur _ 5 [-1, 0, k, 8, 9223372036854775807] (lit_rd _ #[.int .i64 (-1), .int .i64 0, .int .i64 (k), .int .i64 8, .int .i64 9223372036854775807] 3 1 5 5 rfl (Nat.le_refl _)) (cur_ne d3.cur) (by decide) (by decide)).mono ?_
    rintro e w12 ⟨x12, rfl, m12_, e12⟩
    have d12 := (d3.alloc _).trans e12
    clear m12_
    have H4 := Lib.hid (e12.own (H3.out.alloc _) hlt)
    obtain ⟨y, hyk, g0, g1, g2, g3, g4, g5, g6⟩ := ownN H4.out hkx
    have hfz := H4.out.frozenAt
    have hyo := hq8.2 y (List.mem_of_getElem? hyk.out)
    go_wp2
    go_ret
    refine ⟨_, rfl, xs.set k ⟨y.op, x12, y.right, y.name, y.val⟩, ?_, N.okD_set hq8 hyo, ?_⟩
    · rw [List.length_set]
      have h1 := ownsRow_stores (H4.out) (k * 7 + 1) (.int .i64 x12)
      have hr := rows_set1 N.len xs k 1 y ⟨y.op, x12, y.right, y.name, y.val⟩ (.int .i64 x12) hyk.out (by decide) rfl
      try rw [Nat.add_zero] at hr
      rw [hr] at h1
      exact h1
    · repeat' (first | with_reducible exact d12 | with_reducible refine D.setCell ?_ ?_ _ | (dsimp only; omega))
  ·
    go_wp2_with fail
    refine (l01Pick g _ (d3.alloc _).cur _ 5 [⟨#[]⟩, ⟨#[97]⟩, ⟨#[100, 97]⟩, ⟨#[97, 98, 99, 100, 101, 102, 103]⟩, ⟨#[65]⟩] (lit_rd _ #[.string ⟨#[]⟩, .string ⟨#[97]⟩, .string ⟨#[100, 97]⟩, .string ⟨#[97, 98, 99, 100, 101, 102, 103]⟩, .string ⟨#[65]⟩] 9 1 5 5 rfl (Nat.le_refl _)) (cur_ne d3.cur) (by decide) (by decide)).mono ?_
    rintro e w13 ⟨x13, rfl, m13_, e13⟩
    have hx13 : x13.size ≤ 8 := by simp at m13_; rcases m13_ with rfl | rfl | rfl | rfl | rfl <;> decide
    have d13 := (d3.alloc _).trans e13
    clear m13_
    have H4 := Lib.hid (e13.own (H3.out.alloc _) hlt)
    obtain ⟨y, hyk, g0, g1, g2, g3, g4, g5, g6⟩ := ownN H4.out hkx
    have hfz := H4.out.frozenAt
    have hyo := hq8.2 y (List.mem_of_getElem? hyk.out)
    go_wp2
    go_ret
    refine ⟨_, rfl, xs.set k ⟨y.op, y.left, y.right, x13, y.val⟩, ?_, N.okD_set hq8 ⟨hx13, hyo.2⟩, ?_⟩
    · rw [List.length_set]
      have h1 := ownsRow_stores (H4.out) (k * 7 + 3) (.string x13)
      have hr := rows_set1 N.len xs k 3 y ⟨y.op, y.left, y.right, x13, y.val⟩ (.string x13) hyk.out (by decide) rfl
      try rw [Nat.add_zero] at hr
      rw [hr] at h1
      exact h1
    · repeat' (first | with_reducible exact d13 | with_reducible refine D.setCell ?_ ?_ _ | (dsimp only; omega))
  ·
    go_wp2_with fail
    refine (l09Leaf g _ d3.cur).mono ?_
    rintro e wl ⟨y, rfl, hy, el⟩
    have dl := d3.trans el
    have HL := Lib.hid (el.own H3.out hlt)
    go_wp2_with (at_builtin; refine wpList_append_own _ rfl _ _ 24 rfl w.heap.size 38 i0 _ 7 72 Tryz.underlying24 hi hz0 hz1 hz2 rfl (by decide) _ _ _ rfl (HL.out.alloc _) ⟨_, 0, none⟩ 1 1 _ rfl rfl (lit_news (by simp)) (fun x hx => by simp at hx; rcases hx with rfl | rfl | rfl | rfl | rfl | rfl | rfl <;> rfl) (by unfold maxLen; omega) (by omega) (by have := dl.size; simp; omega) ?_; intro v' w' hown' hgr2 _)
    go_ret
    exact ⟨_, rfl, xs ++ [y], by simpa [rows, N.c] using hown', hq.snoc hy, (dl.alloc _).grown hgr2 (fun j h => (HL.out.lt j h).1)⟩
  ·
    go_wp2_with fail
    refine (l02Any g _ d3.cur).mono ?_
    rintro e w40 ⟨⟨vk, vi, vs⟩, rfl, hv, e40⟩
    have d40 := d3.trans e40
    unfold V.okD at hv
    simp only at hv
    have H4 := Lib.hid (e40.own H3.out hlt)
    obtain ⟨y, hyk, g0, g1, g2, g3, g4, g5, g6⟩ := ownN H4.out hkx
    have hfz := H4.out.frozenAt
    have hyo := hq8.2 y (List.mem_of_getElem? hyk.out)
    go_wp2
    go_ret
    refine ⟨_, rfl, xs.set k ⟨y.op, y.left, y.right, y.name, ⟨vk, vi, vs⟩⟩, ?_, N.okD_set hq8 ⟨hyo.1, hv⟩, ?_⟩
    · rw [List.length_set]
      have h1 := ownsRow_stores (ownsRow_stores (ownsRow_stores (H4.out) (k * 7 + 4) (.int .i64 vk)) (k * 7 + 5) (.int .i64 vi)) (k * 7 + 6) (.string vs)
      rw [rows_set1 N.len xs k 4 y ⟨y.op, y.left, y.right, y.name, ⟨vk, y.val.int, y.val.str⟩⟩ (.int .i64 vk) hyk.out (by decide) rfl] at h1
      have hs1 : (xs.set k ⟨y.op, y.left, y.right, y.name, ⟨vk, y.val.int, y.val.str⟩⟩)[k]? = some ⟨y.op, y.left, y.right, y.name, ⟨vk, y.val.int, y.val.str⟩⟩ := by rw [List.getElem?_set_self (by omega)]
      rw [rows_set1 N.len _ k 5 _ ⟨y.op, y.left, y.right, y.name, ⟨vk, vi, y.val.str⟩⟩ (.int .i64 vi) hs1 (by decide) rfl, List.set_set] at h1
      have hs2 : (xs.set k ⟨y.op, y.left, y.right, y.name, ⟨vk, vi, y.val.str⟩⟩)[k]? = some ⟨y.op, y.left, y.right, y.name, ⟨vk, vi, y.val.str⟩⟩ := by rw [List.getElem?_set_self (by omega)]
      rw [rows_set1 N.len _ k 6 _ ⟨y.op, y.left, y.right, y.name, ⟨vk, vi, vs⟩⟩ (.string vs) hs2 (by decide) rfl, List.set_set] at h1
      exact h1
    · repeat' (first | with_reducible exact d40 | with_reducible refine D.setCell ?_ ?_ _ | (dsimp only; omega))
  ·
    go_wp2
    go_ret
    exact ⟨_, rfl, [], World.ownsRow_nil _ _ _ _, ⟨Nat.zero_le _, by simp⟩, d3⟩
  ·
    have hn0_ : ¬ (x = 0) := by omega
    have hn1_ : ¬ (x = 1) := by omega
    have hn2_ : ¬ (x = 2) := by omega
    have hn3_ : ¬ (x = 3) := by omega
    have hn4_ : ¬ (x = 4) := by omega
    have hn5_ : ¬ (x = 5) := by omega
    go_wp2
    go_ret
    exact ⟨_, rfl, xs, H3.out, hq8, d3⟩
end Go.Proofs.YtodbohmbdgbheaaGreatDoor
