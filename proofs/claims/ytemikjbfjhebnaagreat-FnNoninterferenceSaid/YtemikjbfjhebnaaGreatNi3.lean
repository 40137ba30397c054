/- Texts Z5, Z13, Q0, N1, Q1, as far as they are needed. -/
import Derived.Test.YtemikjbfjhebnaaGreatNi2
import Derived.Test.YtemikjbfjhebnaaGreatNi1
import Derived.Test.YtemikjbfjhebnaaGreatNi0
import Derived.Lib.SlicesCompact
import Derived.Sort.Walk0
import Derived.Test.YtemikjbfjhebnaaGreatShelf
import Derived.Sort.OwnSorted
import Derived.Lib.RowBridge
namespace Go.Proofs.YtemikjbfjhebnaaGreat
open Go.RowKit
set_option linter.unusedVariables false
def Box (w : World) (b k : Nat) : Prop := b < w.heap.size ∧ (∀ j, j < k → ∃ u, w.cell? ⟨b, j, none⟩ = some u) ∧ ∀ j, w.frozen? ⟨b, j, none⟩ = false
theorem Box.new (w : World) (cs : Array Value) (e : TypeId) (k : Nat) (hk : cs.size = k) : Box (w.alloc (.cells cs e)) w.heap.size k :=
  ⟨by simp, fun j hj => ⟨cs[j], by rw [World.cell?_alloc_at (w := w) cs e w.heap.size j rfl, Array.getElem?_eq_getElem (by omega)]⟩, fun j => World.frozen?_alloc_at (w := w) cs e w.heap.size j rfl⟩
theorem Box.grew {w w' : World} {b k : Nat} (h : Box w b k) (hg : Grew w w') : Box w' b k :=
  ⟨Nat.lt_of_lt_of_le h.1 hg.size, fun j hj => by obtain ⟨u, hu⟩ := h.2.1 j hj; exact ⟨u, grew_cell hg hu⟩, fun j => grew_frozen hg h.1 (h.2.2 j)⟩
theorem Box.d {w w' : World} {b k g : Nat} (h : Box w b k) (hd : D g w w') (hb : b ≠ g) : Box w' b k :=
  ⟨Nat.lt_of_lt_of_le h.1 hd.size, fun j hj => by obtain ⟨u, hu⟩ := h.2.1 j hj; exact ⟨u, hd.cell hu hb⟩, fun j => hd.frozen h.1 (h.2.2 j) hb⟩
theorem Box.set {w : World} {b k : Nat} (h : Box w b k) (p : Addr) (u : Value) : Box (w.setCell p u) b k :=
  ⟨by simpa using h.1, fun j hj => by obtain ⟨u, hu⟩ := h.2.1 j hj; exact cell?_setCell_some hu, fun j => by rw [World.frozen?_setCell]; exact h.2.2 j⟩
theorem rows_set1 {α : Type} {enc : α → List Value} {k : Nat} (hk : ∀ x, (enc x).length = k) : ∀ (xs : List α) (i j : Nat) (x y : α) (u : Value), xs[i]? = some x → j < k → enc y = (enc x).set j u → (rows enc xs).set (i * k + j) u = rows enc (xs.set i y)
  | [], i, j, x, y, u, h, _, _ => by simp at h
  | z :: zs, 0, j, x, y, u, h, hj, he => by
    simp at h; subst h
    rw [rows_cons, List.set_cons_zero, rows_cons, he, Nat.zero_mul, Nat.zero_add, List.set_append_left _ _ (by rw [hk]; exact hj)]
  | z :: zs, i + 1, j, x, y, u, h, hj, he => by
    simp at h
    rw [rows_cons, List.set_cons_succ, rows_cons, List.set_append_right _ _ (by rw [hk, Nat.succ_mul]; omega), hk, show (i + 1) * k + j - k = i * k + j by rw [Nat.succ_mul]; omega, rows_set1 hk zs i j x y u h hj he]
def V.okD (v : V) : Prop := v.str.size ≤ 8
def N.okD (x : N) : Prop := x.name.size ≤ 8 ∧ x.val.str.size ≤ 8
set_option maxRecDepth 100000 in
set_option maxHeartbeats 1000000 in
theorem intValue (n : Int) (w : World) :
    Calls Tryz.prog 78 #[.int .i64 n] w fun e w' => e = .returned (V.v ⟨1, n, ⟨#[]⟩⟩) ∧ Grew w w' := by
  go_enter Tryz.func78, Tryz.ntmps78
  go_wp2
  refine bodyPost_ret (v := V.v ⟨1, n, ⟨#[]⟩⟩) (by simp [results, Tryz.results78, go_sem]) rfl ⟨rfl, ?_⟩
  repeat' (first | with_reducible exact Grew.refl _ | with_reducible refine Grew.alloc ?_ _ | with_reducible refine Grew.setCell ?_ ?_ _ | (dsimp only; omega))
set_option maxRecDepth 100000 in
set_option maxHeartbeats 1000000 in
theorem stringValue (s : ByteArray) (w : World) :
    Calls Tryz.prog 79 #[.string s] w fun e w' => e = .returned (V.v ⟨2, 0, s⟩) ∧ Grew w w' := by
  go_enter Tryz.func79, Tryz.ntmps79
  go_wp2
  refine bodyPost_ret (v := V.v ⟨2, 0, s⟩) (by simp [results, Tryz.results79, go_sem]) rfl ⟨rfl, ?_⟩
  repeat' (first | with_reducible exact Grew.refl _ | with_reducible refine Grew.alloc ?_ _ | with_reducible refine Grew.setCell ?_ ?_ _ | (dsimp only; omega))
set_option maxRecDepth 100000 in
set_option maxHeartbeats 2000000 in
theorem l02Value (g : Nat) (w : World) (hc : Cur w g) :
    Calls Tryz.prog 98 #[.pointer (some ⟨g, 0, none⟩)] w fun e w' => ∃ y : V, e = .returned (V.v y) ∧ V.okD y ∧ D g w w' := by
  have hl := hc.lt
  have hne : w.heap.size ≠ g := by omega
  have B0 := Box.new w #[.int .i64 0, .int .i64 0, .string ⟨#[]⟩] 68 3 rfl
  have d0 := (D.refl hc).alloc (.cells #[.int .i64 0, .int .i64 0, .string ⟨#[]⟩] 68)
  go_enter Tryz.func98, Tryz.ntmps98
  go_wp2_with fail
  refine (l01Below g _ d0.cur 5 (by omega) (by omega)).mono ?_
  rintro e w1 ⟨x1, rfl, hx1, e1⟩
  have d1 := d0.trans e1
  have B1 := B0.d e1 hne
  clear B0
  have : x1 = 0 ∨ x1 = 1 ∨ x1 = 2 ∨ x1 = 3 ∨ x1 = 4 := by omega
  clear hx1
  rcases this with rfl | rfl | rfl | rfl | rfl
  ·
    obtain ⟨b0, f0⟩ := B1.2.1 0 (by decide)
    obtain ⟨b1, f1⟩ := B1.2.1 1 (by decide)
    obtain ⟨b2, f2⟩ := B1.2.1 2 (by decide)
    have z0 := B1.2.2
    go_wp2
    refine bodyPost_ret (v := V.v ⟨0, 0, ⟨#[]⟩⟩) (by simp [results, Tryz.results98, go_sem, f0, f1, f2]) rfl ⟨_, rfl, (show V.okD ⟨0, 0, ⟨#[]⟩⟩ by simp [V.okD, ByteArray.size]), ?_⟩
    repeat' (first | with_reducible exact d1 | with_reducible refine D.setCell ?_ ?_ _ | (dsimp only; omega))
  ·
    go_wp2_with fail
    refine (l01Below g _ d1.cur 5 (by omega) (by omega)).mono ?_
    rintro e w2 ⟨x2, rfl, hx2, e2⟩
    have d2 := d1.trans e2
    have B2 := B1.d e2 hne
    clear B1
    go_wp2_with fail
    refine (intValue x2 _).mono ?_
    rintro e wv ⟨rfl, gv⟩
    have dv := d2.grew gv
    have B3 := B2.grew gv
    obtain ⟨b0, f0⟩ := B3.2.1 0 (by decide)
    obtain ⟨b1, f1⟩ := B3.2.1 1 (by decide)
    obtain ⟨b2, f2⟩ := B3.2.1 2 (by decide)
    have z0 := B3.2.2
    go_wp2
    refine bodyPost_ret (v := V.v ⟨1, x2, ⟨#[]⟩⟩) (by simp [results, Tryz.results98, go_sem, f0, f1, f2]) rfl ⟨_, rfl, (show V.okD ⟨1, x2, ⟨#[]⟩⟩ by simp [V.okD, ByteArray.size]), ?_⟩
    repeat' (first | with_reducible exact dv | with_reducible refine D.setCell ?_ ?_ _ | (dsimp only; omega))
  ·
    go_wp2_with fail
    refine (l01Below g _ d1.cur 5 (by omega) (by omega)).mono ?_
    rintro e w3 ⟨x3, rfl, hx3, e3⟩
    have d3 := d1.trans e3
    have B2 := B1.d e3 hne
    clear B1
    go_wp2_with fail
    refine (intValue x3 _).mono ?_
    rintro e wv ⟨rfl, gv⟩
    have dv := d3.grew gv
    have B3 := B2.grew gv
    obtain ⟨b0, f0⟩ := B3.2.1 0 (by decide)
    obtain ⟨b1, f1⟩ := B3.2.1 1 (by decide)
    obtain ⟨b2, f2⟩ := B3.2.1 2 (by decide)
    have z0 := B3.2.2
    go_wp2
    refine bodyPost_ret (v := V.v ⟨1, x3, ⟨#[]⟩⟩) (by simp [results, Tryz.results98, go_sem, f0, f1, f2]) rfl ⟨_, rfl, (show V.okD ⟨1, x3, ⟨#[]⟩⟩ by simp [V.okD, ByteArray.size]), ?_⟩
    repeat' (first | with_reducible exact dv | with_reducible refine D.setCell ?_ ?_ _ | (dsimp only; omega))
  ·
    go_wp2_with fail
    refine (l01Pick g _ (d1.alloc _).cur _ 3 [⟨#[114, 101, 100]⟩, ⟨#[98, 108, 117, 101]⟩, ⟨#[105, 110, 107]⟩] (lit_rd _ #[.string ⟨#[114, 101, 100]⟩, .string ⟨#[98, 108, 117, 101]⟩, .string ⟨#[105, 110, 107]⟩] 9 1 3 3 rfl (Nat.le_refl _)) (cur_ne d1.cur) (by decide) (by decide)).mono ?_
    rintro e w4 ⟨x4, rfl, m4_, e4⟩
    have hx4 : x4.size ≤ 8 := by simp at m4_; rcases m4_ with rfl | rfl | rfl <;> decide
    have d4 := (d1.alloc _).trans e4
    clear m4_
    have B2 := (B1.grew ((Grew.refl _).alloc _)).d e4 hne
    clear B1
    go_wp2_with fail
    refine (stringValue x4 _).mono ?_
    rintro e wv ⟨rfl, gv⟩
    have dv := d4.grew gv
    have B3 := B2.grew gv
    obtain ⟨b0, f0⟩ := B3.2.1 0 (by decide)
    obtain ⟨b1, f1⟩ := B3.2.1 1 (by decide)
    obtain ⟨b2, f2⟩ := B3.2.1 2 (by decide)
    have z0 := B3.2.2
    go_wp2
    refine bodyPost_ret (v := V.v ⟨2, 0, x4⟩) (by simp [results, Tryz.results98, go_sem, f0, f1, f2]) rfl ⟨_, rfl, hx4, ?_⟩
    repeat' (first | with_reducible exact dv | with_reducible refine D.setCell ?_ ?_ _ | (dsimp only; omega))
  ·
    go_wp2_with fail
    refine (l01Pick g _ (d1.alloc _).cur _ 3 [⟨#[114, 101, 100]⟩, ⟨#[98, 108, 117, 101]⟩, ⟨#[105, 110, 107]⟩] (lit_rd _ #[.string ⟨#[114, 101, 100]⟩, .string ⟨#[98, 108, 117, 101]⟩, .string ⟨#[105, 110, 107]⟩] 9 1 3 3 rfl (Nat.le_refl _)) (cur_ne d1.cur) (by decide) (by decide)).mono ?_
    rintro e w5 ⟨x5, rfl, m5_, e5⟩
    have hx5 : x5.size ≤ 8 := by simp at m5_; rcases m5_ with rfl | rfl | rfl <;> decide
    have d5 := (d1.alloc _).trans e5
    clear m5_
    have B2 := (B1.grew ((Grew.refl _).alloc _)).d e5 hne
    clear B1
    go_wp2_with fail
    refine (stringValue x5 _).mono ?_
    rintro e wv ⟨rfl, gv⟩
    have dv := d5.grew gv
    have B3 := B2.grew gv
    obtain ⟨b0, f0⟩ := B3.2.1 0 (by decide)
    obtain ⟨b1, f1⟩ := B3.2.1 1 (by decide)
    obtain ⟨b2, f2⟩ := B3.2.1 2 (by decide)
    have z0 := B3.2.2
    go_wp2
    refine bodyPost_ret (v := V.v ⟨2, 0, x5⟩) (by simp [results, Tryz.results98, go_sem, f0, f1, f2]) rfl ⟨_, rfl, hx5, ?_⟩
    repeat' (first | with_reducible exact dv | with_reducible refine D.setCell ?_ ?_ _ | (dsimp only; omega))
set_option maxRecDepth 100000 in
set_option maxHeartbeats 2000000 in
theorem l02Any (g : Nat) (w : World) (hc : Cur w g) :
    Calls Tryz.prog 82 #[.pointer (some ⟨g, 0, none⟩)] w fun e w' => ∃ y : V, e = .returned (V.v y) ∧ V.okD y ∧ D g w w' := by
  have hl := hc.lt
  have hne : w.heap.size ≠ g := by omega
  have B0 := Box.new w #[.int .i64 0, .int .i64 0, .string ⟨#[]⟩] 68 3 rfl
  have d0 := (D.refl hc).alloc (.cells #[.int .i64 0, .int .i64 0, .string ⟨#[]⟩] 68)
  go_enter Tryz.func82, Tryz.ntmps82
  go_wp2_with fail
  refine (l02Value g _ d0.cur).mono ?_
  rintro e w1 ⟨⟨yk, yi, ys⟩, rfl, hy, e1⟩
  have d1 := d0.trans e1
  have B1 := B0.d e1 hne
  have hn1 : w1.heap.size ≠ g := by have := B1.1; have := e1.size; simp at this; omega
  clear B0
  unfold V.okD at hy
  simp only at hy
  have dA : D g w (w1.alloc (.cells #[.int .i64 yk, .int .i64 yi, .string ys] 68)) := by
    have := d1.size
    repeat' (first | with_reducible exact d1 | with_reducible refine D.alloc ?_ _ | with_reducible refine D.setCell ?_ ?_ _ | (dsimp only; omega))
  have BA := B1.grew ((Grew.refl _).alloc (.cells #[.int .i64 yk, .int .i64 yi, .string ys] 68))
  have BV := Box.new w1 #[.int .i64 yk, .int .i64 yi, .string ys] 68 3 rfl
  have a0 : (w1.alloc (.cells #[.int .i64 yk, .int .i64 yi, .string ys] 68)).cell? ⟨w1.heap.size, 0, none⟩ = some (.int .i64 yk) := by simp [go_sem]
  have a1 : (w1.alloc (.cells #[.int .i64 yk, .int .i64 yi, .string ys] 68)).cell? ⟨w1.heap.size, 1, none⟩ = some (.int .i64 yi) := by simp [go_sem]
  have a2 : (w1.alloc (.cells #[.int .i64 yk, .int .i64 yi, .string ys] 68)).cell? ⟨w1.heap.size, 2, none⟩ = some (.string ys) := by simp [go_sem]
  have hsz : w.heap.size < w1.heap.size := B1.1
  go_wp2_with fail
  refine (l01Below g _ dA.cur 10 (by omega) (by omega)).mono ?_
  rintro e w2 ⟨x, rfl, hx, e2⟩
  have d2 := dA.trans e2
  have B2 := BA.d e2 hne
  have V2 := BV.d e2 hn1
  replace a0 := e2.cell a0 hn1
  replace a1 := e2.cell a1 hn1
  replace a2 := e2.cell a2 hn1
  clear BA BV B1
  have hxs : x = 0 ∨ x = 1 ∨ x = 2 ∨ 3 ≤ x := by omega
  rcases hxs with rfl | rfl | rfl | hx3
  ·
    go_wp2_with fail
    refine (l01Below g _ d2.cur 5 (by omega) (by omega)).mono ?_
    rintro e w1 ⟨x1, rfl, hx1, e1⟩
    have d1 := d2.trans e1
    have B3 := (B2).d e1 hne
    have V3 := (V2).d e1 hn1
    have c0 := e1.cell a0 hn1
    have c1 := e1.cell a1 hn1
    have c2 := e1.cell a2 hn1
    obtain ⟨b0, f0⟩ := B3.2.1 0 (by decide)
    obtain ⟨b1, f1⟩ := B3.2.1 1 (by decide)
    obtain ⟨b2, f2⟩ := B3.2.1 2 (by decide)
    have z0 := B3.2.2
    have zv := V3.2.2
    go_wp2
    refine bodyPost_ret (v := V.v ⟨x1 - 1, yi, ys⟩) (by simp [results, Tryz.results82, go_sem, f0, f1, f2]) rfl ⟨_, rfl, (show V.okD ⟨x1 - 1, yi, ys⟩ from hy), ?_⟩
    have := d1.size
    repeat' (first | with_reducible exact d1 | with_reducible refine D.setCell ?_ ?_ _ | (dsimp only; omega))
  ·
    go_wp2_with fail
    refine (l01PickInt g _ (d2.alloc _).cur _ 5 [-1, 0, 999, 1000, 9223372036854775807] (lit_rd _ #[.int .i64 (-1), .int .i64 0, .int .i64 999, .int .i64 1000, .int .i64 9223372036854775807] 3 1 5 5 rfl (Nat.le_refl _)) (cur_ne d2.cur) (by decide) (by decide)).mono ?_
    rintro e w2 ⟨x2, rfl, m2_, e2⟩
    have d2 := (d2.alloc _).trans e2
    clear m2_
    have B3 := (B2.grew ((Grew.refl _).alloc _)).d e2 hne
    have V3 := (V2.grew ((Grew.refl _).alloc _)).d e2 hn1
    have c0 := e2.cell (grew_cell ((Grew.refl _).alloc _) a0) hn1
    have c1 := e2.cell (grew_cell ((Grew.refl _).alloc _) a1) hn1
    have c2 := e2.cell (grew_cell ((Grew.refl _).alloc _) a2) hn1
    obtain ⟨b0, f0⟩ := B3.2.1 0 (by decide)
    obtain ⟨b1, f1⟩ := B3.2.1 1 (by decide)
    obtain ⟨b2, f2⟩ := B3.2.1 2 (by decide)
    have z0 := B3.2.2
    have zv := V3.2.2
    go_wp2
    refine bodyPost_ret (v := V.v ⟨yk, x2, ys⟩) (by simp [results, Tryz.results82, go_sem, f0, f1, f2]) rfl ⟨_, rfl, (show V.okD ⟨yk, x2, ys⟩ from hy), ?_⟩
    have := d1.size
    repeat' (first | with_reducible exact d2 | with_reducible refine D.setCell ?_ ?_ _ | (dsimp only; omega))
  ·
    go_wp2_with fail
    refine (l01Pick g _ (d2.alloc _).cur _ 5 [⟨#[]⟩, ⟨#[65]⟩, ⟨#[97, 98, 99, 100, 101, 102, 103]⟩, ⟨#[97, 98, 99, 100, 101, 102]⟩, ⟨#[97, 32, 98]⟩] (lit_rd _ #[.string ⟨#[]⟩, .string ⟨#[65]⟩, .string ⟨#[97, 98, 99, 100, 101, 102, 103]⟩, .string ⟨#[97, 98, 99, 100, 101, 102]⟩, .string ⟨#[97, 32, 98]⟩] 9 1 5 5 rfl (Nat.le_refl _)) (cur_ne d2.cur) (by decide) (by decide)).mono ?_
    rintro e w3 ⟨x3, rfl, m3_, e3⟩
    have hx3 : x3.size ≤ 8 := by simp at m3_; rcases m3_ with rfl | rfl | rfl | rfl | rfl <;> decide
    have d3 := (d2.alloc _).trans e3
    clear m3_
    have B3 := (B2.grew ((Grew.refl _).alloc _)).d e3 hne
    have V3 := (V2.grew ((Grew.refl _).alloc _)).d e3 hn1
    have c0 := e3.cell (grew_cell ((Grew.refl _).alloc _) a0) hn1
    have c1 := e3.cell (grew_cell ((Grew.refl _).alloc _) a1) hn1
    have c2 := e3.cell (grew_cell ((Grew.refl _).alloc _) a2) hn1
    obtain ⟨b0, f0⟩ := B3.2.1 0 (by decide)
    obtain ⟨b1, f1⟩ := B3.2.1 1 (by decide)
    obtain ⟨b2, f2⟩ := B3.2.1 2 (by decide)
    have z0 := B3.2.2
    have zv := V3.2.2
    go_wp2
    refine bodyPost_ret (v := V.v ⟨yk, yi, x3⟩) (by simp [results, Tryz.results82, go_sem, f0, f1, f2]) rfl ⟨_, rfl, hx3, ?_⟩
    have := d1.size
    repeat' (first | with_reducible exact d3 | with_reducible refine D.setCell ?_ ?_ _ | (dsimp only; omega))
  ·
    have hn0_ : ¬ (x = 0) := by omega
    have hn1_ : ¬ (x = 1) := by omega
    have hn2_ : ¬ (x = 2) := by omega
    obtain ⟨b0, f0⟩ := B2.2.1 0 (by decide)
    obtain ⟨b1, f1⟩ := B2.2.1 1 (by decide)
    obtain ⟨b2, f2⟩ := B2.2.1 2 (by decide)
    have z0 := B2.2.2
    have zv := V2.2.2
    go_wp2
    refine bodyPost_ret (v := V.v ⟨yk, yi, ys⟩) (by simp [results, Tryz.results82, go_sem, f0, f1, f2]) rfl ⟨_, rfl, (show V.okD ⟨yk, yi, ys⟩ from hy), ?_⟩
    have := d1.size
    repeat' (first | with_reducible exact d2 | with_reducible refine D.setCell ?_ ?_ _ | (dsimp only; omega))
set_option maxRecDepth 100000 in
set_option maxHeartbeats 2000000 in
theorem l09Leaf (g : Nat) (w : World) (hc : Cur w g) :
    Calls Tryz.prog 99 #[.pointer (some ⟨g, 0, none⟩)] w fun e w' => ∃ y : N, e = .returned (N.v y) ∧ N.okD y ∧ D g w w' := by
  have hl := hc.lt
  have hne : w.heap.size ≠ g := by omega
  have B0 := Box.new w #[.int .i64 0, .int .i64 0, .int .i64 0, .string ⟨#[]⟩, .int .i64 0, .int .i64 0, .string ⟨#[]⟩] 70 7 rfl
  have d0 := (D.refl hc).alloc (.cells #[.int .i64 0, .int .i64 0, .int .i64 0, .string ⟨#[]⟩, .int .i64 0, .int .i64 0, .string ⟨#[]⟩] 70)
  go_enter Tryz.func99, Tryz.ntmps99
  go_wp2_with fail
  refine (l01Below g _ d0.cur 9 (by omega) (by omega)).mono ?_
  rintro e w1 ⟨x1, rfl, hx1, e1⟩
  have d1 := d0.trans e1
  have B1 := B0.d e1 hne
  clear B0
  have : x1 = 0 ∨ x1 = 1 ∨ x1 = 2 ∨ x1 = 3 ∨ x1 = 4 ∨ x1 = 5 ∨ x1 = 6 ∨ x1 = 7 ∨ x1 = 8 := by omega
  clear hx1
  rcases this with rfl | rfl | rfl | rfl | rfl | rfl | rfl | rfl | rfl
  ·
    obtain ⟨b0, f0⟩ := B1.2.1 0 (by decide)
    obtain ⟨b1, f1⟩ := B1.2.1 1 (by decide)
    obtain ⟨b2, f2⟩ := B1.2.1 2 (by decide)
    obtain ⟨b3, f3⟩ := B1.2.1 3 (by decide)
    obtain ⟨b4, f4⟩ := B1.2.1 4 (by decide)
    obtain ⟨b5, f5⟩ := B1.2.1 5 (by decide)
    obtain ⟨b6, f6⟩ := B1.2.1 6 (by decide)
    have z0 := B1.2.2
    go_wp2
    refine bodyPost_ret (v := N.v ⟨1, 0, 0, ⟨#[]⟩, ⟨0, 0, ⟨#[]⟩⟩⟩) (by simp [results, Tryz.results99, go_sem, f0, f1, f2, f3, f4, f5, f6]) rfl ⟨_, rfl, (show N.okD ⟨1, 0, 0, ⟨#[]⟩, ⟨0, 0, ⟨#[]⟩⟩⟩ from ⟨by simp [ByteArray.size], by simp [ByteArray.size]⟩), ?_⟩
    repeat' (first | with_reducible exact d1 | with_reducible refine D.setCell ?_ ?_ _ | (dsimp only; omega))
  ·
    go_wp2_with fail
    refine (l01Pick g _ (d1.alloc _).cur _ 4 [⟨#[97]⟩, ⟨#[98]⟩, ⟨#[110]⟩, ⟨#[116]⟩] (lit_rd _ #[.string ⟨#[97]⟩, .string ⟨#[98]⟩, .string ⟨#[110]⟩, .string ⟨#[116]⟩] 9 1 4 4 rfl (Nat.le_refl _)) (cur_ne d1.cur) (by decide) (by decide)).mono ?_
    rintro e w2 ⟨x2, rfl, m2_, e2⟩
    have hx2 : x2.size ≤ 8 := by simp at m2_; rcases m2_ with rfl | rfl | rfl | rfl <;> decide
    have d2 := (d1.alloc _).trans e2
    clear m2_
    have B2 := (B1.grew ((Grew.refl _).alloc _)).d e2 hne
    obtain ⟨b0, f0⟩ := B2.2.1 0 (by decide)
    obtain ⟨b1, f1⟩ := B2.2.1 1 (by decide)
    obtain ⟨b2, f2⟩ := B2.2.1 2 (by decide)
    obtain ⟨b3, f3⟩ := B2.2.1 3 (by decide)
    obtain ⟨b4, f4⟩ := B2.2.1 4 (by decide)
    obtain ⟨b5, f5⟩ := B2.2.1 5 (by decide)
    obtain ⟨b6, f6⟩ := B2.2.1 6 (by decide)
    have z0 := B2.2.2
    go_wp2
    refine bodyPost_ret (v := N.v ⟨2, 0, 0, x2, ⟨0, 0, ⟨#[]⟩⟩⟩) (by simp [results, Tryz.results99, go_sem, f0, f1, f2, f3, f4, f5, f6]) rfl ⟨_, rfl, (show N.okD ⟨2, 0, 0, x2, ⟨0, 0, ⟨#[]⟩⟩⟩ from ⟨hx2, by simp [ByteArray.size]⟩), ?_⟩
    repeat' (first | with_reducible exact d2 | with_reducible refine D.setCell ?_ ?_ _ | (dsimp only; omega))
  ·
    go_wp2_with fail
    refine (l01Below g _ d1.cur 4 (by omega) (by omega)).mono ?_
    rintro e w3 ⟨x3, rfl, hx3, e3⟩
    have d3 := d1.trans e3
    have B3 := B1.d e3 hne
    go_wp2_with fail
    refine (intValue x3 _).mono ?_
    rintro e wv ⟨rfl, gv⟩
    have dv := d3.grew gv
    have Bv := B3.grew gv
    obtain ⟨b0, f0⟩ := Bv.2.1 0 (by decide)
    obtain ⟨b1, f1⟩ := Bv.2.1 1 (by decide)
    obtain ⟨b2, f2⟩ := Bv.2.1 2 (by decide)
    obtain ⟨b3, f3⟩ := Bv.2.1 3 (by decide)
    obtain ⟨b4, f4⟩ := Bv.2.1 4 (by decide)
    obtain ⟨b5, f5⟩ := Bv.2.1 5 (by decide)
    obtain ⟨b6, f6⟩ := Bv.2.1 6 (by decide)
    have z0 := Bv.2.2
    go_wp2
    refine bodyPost_ret (v := N.v ⟨3, 0, 0, ⟨#[97]⟩, ⟨1, x3, ⟨#[]⟩⟩⟩) (by simp [results, Tryz.results99, go_sem, f0, f1, f2, f3, f4, f5, f6]) rfl ⟨_, rfl, (show N.okD ⟨3, 0, 0, ⟨#[97]⟩, ⟨1, x3, ⟨#[]⟩⟩⟩ from ⟨by simp [ByteArray.size], by simp [ByteArray.size]⟩), ?_⟩
    repeat' (first | with_reducible exact dv | with_reducible refine D.setCell ?_ ?_ _ | (dsimp only; omega))
  ·
    go_wp2_with fail
    refine (l01Pick g _ (d1.alloc _).cur _ 2 [⟨#[114, 101, 100]⟩, ⟨#[98, 108, 117, 101]⟩] (lit_rd _ #[.string ⟨#[114, 101, 100]⟩, .string ⟨#[98, 108, 117, 101]⟩] 9 1 2 2 rfl (Nat.le_refl _)) (cur_ne d1.cur) (by decide) (by decide)).mono ?_
    rintro e w4 ⟨x4, rfl, m4_, e4⟩
    have hx4 : x4.size ≤ 8 := by simp at m4_; rcases m4_ with rfl | rfl <;> decide
    have d4 := (d1.alloc _).trans e4
    clear m4_
    have B2 := (B1.grew ((Grew.refl _).alloc _)).d e4 hne
    go_wp2_with fail
    refine (stringValue x4 _).mono ?_
    rintro e wv ⟨rfl, gv⟩
    have dv := d4.grew gv
    have Bv := B2.grew gv
    obtain ⟨b0, f0⟩ := Bv.2.1 0 (by decide)
    obtain ⟨b1, f1⟩ := Bv.2.1 1 (by decide)
    obtain ⟨b2, f2⟩ := Bv.2.1 2 (by decide)
    obtain ⟨b3, f3⟩ := Bv.2.1 3 (by decide)
    obtain ⟨b4, f4⟩ := Bv.2.1 4 (by decide)
    obtain ⟨b5, f5⟩ := Bv.2.1 5 (by decide)
    obtain ⟨b6, f6⟩ := Bv.2.1 6 (by decide)
    have z0 := Bv.2.2
    go_wp2
    refine bodyPost_ret (v := N.v ⟨3, 0, 0, ⟨#[116]⟩, ⟨2, 0, x4⟩⟩) (by simp [results, Tryz.results99, go_sem, f0, f1, f2, f3, f4, f5, f6]) rfl ⟨_, rfl, (show N.okD ⟨3, 0, 0, ⟨#[116]⟩, ⟨2, 0, x4⟩⟩ from ⟨by simp [ByteArray.size], hx4⟩), ?_⟩
    repeat' (first | with_reducible exact dv | with_reducible refine D.setCell ?_ ?_ _ | (dsimp only; omega))
  ·
    go_wp2_with fail
    refine (l01Pick g _ (d1.alloc _).cur _ 2 [⟨#[97]⟩, ⟨#[98]⟩] (lit_rd _ #[.string ⟨#[97]⟩, .string ⟨#[98]⟩] 9 1 2 2 rfl (Nat.le_refl _)) (cur_ne d1.cur) (by decide) (by decide)).mono ?_
    rintro e w5 ⟨x5, rfl, m5_, e5⟩
    have hx5 : x5.size ≤ 8 := by simp at m5_; rcases m5_ with rfl | rfl <;> decide
    have d5 := (d1.alloc _).trans e5
    clear m5_
    have B2 := (B1.grew ((Grew.refl _).alloc _)).d e5 hne
    go_wp2_with fail
    refine (l01Below g _ d5.cur 3 (by omega) (by omega)).mono ?_
    rintro e w6 ⟨x6, rfl, hx6, e6⟩
    have d6 := d5.trans e6
    have B3 := B2.d e6 hne
    go_wp2_with fail
    refine (intValue (1 + x6) _).mono ?_
    rintro e wv ⟨rfl, gv⟩
    have dv := d6.grew gv
    have Bv := B3.grew gv
    obtain ⟨b0, f0⟩ := Bv.2.1 0 (by decide)
    obtain ⟨b1, f1⟩ := Bv.2.1 1 (by decide)
    obtain ⟨b2, f2⟩ := Bv.2.1 2 (by decide)
    obtain ⟨b3, f3⟩ := Bv.2.1 3 (by decide)
    obtain ⟨b4, f4⟩ := Bv.2.1 4 (by decide)
    obtain ⟨b5, f5⟩ := Bv.2.1 5 (by decide)
    obtain ⟨b6, f6⟩ := Bv.2.1 6 (by decide)
    have z0 := Bv.2.2
    go_wp2
    refine bodyPost_ret (v := N.v ⟨4, 0, 0, x5, ⟨1, 1 + x6, ⟨#[]⟩⟩⟩) (by simp [results, Tryz.results99, go_sem, f0, f1, f2, f3, f4, f5, f6]) rfl ⟨_, rfl, (show N.okD ⟨4, 0, 0, x5, ⟨1, 1 + x6, ⟨#[]⟩⟩⟩ from ⟨hx5, by simp [ByteArray.size]⟩), ?_⟩
    repeat' (first | with_reducible exact dv | with_reducible refine D.setCell ?_ ?_ _ | (dsimp only; omega))
  ·
    go_wp2_with fail
    refine (l09DirName g _ d1.cur).mono ?_
    rintro e w7 ⟨x7, rfl, hx7, e7⟩
    have d7 := d1.trans e7
    have B2 := B1.d e7 hne
    obtain ⟨b0, f0⟩ := B2.2.1 0 (by decide)
    obtain ⟨b1, f1⟩ := B2.2.1 1 (by decide)
    obtain ⟨b2, f2⟩ := B2.2.1 2 (by decide)
    obtain ⟨b3, f3⟩ := B2.2.1 3 (by decide)
    obtain ⟨b4, f4⟩ := B2.2.1 4 (by decide)
    obtain ⟨b5, f5⟩ := B2.2.1 5 (by decide)
    obtain ⟨b6, f6⟩ := B2.2.1 6 (by decide)
    have z0 := B2.2.2
    go_wp2
    refine bodyPost_ret (v := N.v ⟨8, 0, 0, x7, ⟨0, 0, ⟨#[]⟩⟩⟩) (by simp [results, Tryz.results99, go_sem, f0, f1, f2, f3, f4, f5, f6]) rfl ⟨_, rfl, (show N.okD ⟨8, 0, 0, x7, ⟨0, 0, ⟨#[]⟩⟩⟩ from ⟨hx7, by simp [ByteArray.size]⟩), ?_⟩
    repeat' (first | with_reducible exact d7 | with_reducible refine D.setCell ?_ ?_ _ | (dsimp only; omega))
  ·
    go_wp2_with fail
    refine (l09DirName g _ d1.cur).mono ?_
    rintro e w8 ⟨x8, rfl, hx8, e8⟩
    have d8 := d1.trans e8
    have B2 := B1.d e8 hne
    obtain ⟨b0, f0⟩ := B2.2.1 0 (by decide)
    obtain ⟨b1, f1⟩ := B2.2.1 1 (by decide)
    obtain ⟨b2, f2⟩ := B2.2.1 2 (by decide)
    obtain ⟨b3, f3⟩ := B2.2.1 3 (by decide)
    obtain ⟨b4, f4⟩ := B2.2.1 4 (by decide)
    obtain ⟨b5, f5⟩ := B2.2.1 5 (by decide)
    obtain ⟨b6, f6⟩ := B2.2.1 6 (by decide)
    have z0 := B2.2.2
    go_wp2
    refine bodyPost_ret (v := N.v ⟨8, 0, 0, x8, ⟨0, 0, ⟨#[]⟩⟩⟩) (by simp [results, Tryz.results99, go_sem, f0, f1, f2, f3, f4, f5, f6]) rfl ⟨_, rfl, (show N.okD ⟨8, 0, 0, x8, ⟨0, 0, ⟨#[]⟩⟩⟩ from ⟨hx8, by simp [ByteArray.size]⟩), ?_⟩
    repeat' (first | with_reducible exact d8 | with_reducible refine D.setCell ?_ ?_ _ | (dsimp only; omega))
  ·
    go_wp2_with fail
    refine (l09DirName g _ d1.cur).mono ?_
    rintro e w9 ⟨x9, rfl, hx9, e9⟩
    have d9 := d1.trans e9
    have B2 := B1.d e9 hne
    obtain ⟨b0, f0⟩ := B2.2.1 0 (by decide)
    obtain ⟨b1, f1⟩ := B2.2.1 1 (by decide)
    obtain ⟨b2, f2⟩ := B2.2.1 2 (by decide)
    obtain ⟨b3, f3⟩ := B2.2.1 3 (by decide)
    obtain ⟨b4, f4⟩ := B2.2.1 4 (by decide)
    obtain ⟨b5, f5⟩ := B2.2.1 5 (by decide)
    obtain ⟨b6, f6⟩ := B2.2.1 6 (by decide)
    have z0 := B2.2.2
    go_wp2
    refine bodyPost_ret (v := N.v ⟨9, 0, 0, x9, ⟨0, 0, ⟨#[]⟩⟩⟩) (by simp [results, Tryz.results99, go_sem, f0, f1, f2, f3, f4, f5, f6]) rfl ⟨_, rfl, (show N.okD ⟨9, 0, 0, x9, ⟨0, 0, ⟨#[]⟩⟩⟩ from ⟨hx9, by simp [ByteArray.size]⟩), ?_⟩
    repeat' (first | with_reducible exact d9 | with_reducible refine D.setCell ?_ ?_ _ | (dsimp only; omega))
  ·
    go_wp2_with fail
    refine (l01Below g _ d1.cur 4 (by omega) (by omega)).mono ?_
    rintro e w10 ⟨x10, rfl, hx10, e10⟩
    have d10 := d1.trans e10
    have B3 := B1.d e10 hne
    go_wp2_with fail
    refine (intValue x10 _).mono ?_
    rintro e wv ⟨rfl, gv⟩
    have dv := d10.grew gv
    have Bv := B3.grew gv
    obtain ⟨b0, f0⟩ := Bv.2.1 0 (by decide)
    obtain ⟨b1, f1⟩ := Bv.2.1 1 (by decide)
    obtain ⟨b2, f2⟩ := Bv.2.1 2 (by decide)
    obtain ⟨b3, f3⟩ := Bv.2.1 3 (by decide)
    obtain ⟨b4, f4⟩ := Bv.2.1 4 (by decide)
    obtain ⟨b5, f5⟩ := Bv.2.1 5 (by decide)
    obtain ⟨b6, f6⟩ := Bv.2.1 6 (by decide)
    have z0 := Bv.2.2
    go_wp2
    refine bodyPost_ret (v := N.v ⟨3, 0, 0, ⟨#[98]⟩, ⟨1, x10, ⟨#[]⟩⟩⟩) (by simp [results, Tryz.results99, go_sem, f0, f1, f2, f3, f4, f5, f6]) rfl ⟨_, rfl, (show N.okD ⟨3, 0, 0, ⟨#[98]⟩, ⟨1, x10, ⟨#[]⟩⟩⟩ from ⟨by simp [ByteArray.size], by simp [ByteArray.size]⟩), ?_⟩
    repeat' (first | with_reducible exact dv | with_reducible refine D.setCell ?_ ?_ _ | (dsimp only; omega))
def qOk (n : Nat) (xs : List N) : Prop := xs.length ≤ n ∧ ∀ x, x ∈ xs → x.okD
theorem qOk.snoc {n : Nat} {xs : List N} {x : N} (h : qOk n xs) (hx : x.okD) : qOk (n + 1) (xs ++ [x]) :=
  ⟨by have := h.1; simp; omega, fun y hy => by
    rw [List.mem_append] at hy
    rcases hy with hy | hy
    · exact h.2 y hy
    · simp at hy; subst hy; exact hx⟩
theorem qOk.mono {n m : Nat} {xs : List N} (h : qOk n xs) (hm : n ≤ m) : qOk m xs := ⟨Nat.le_trans h.1 hm, h.2⟩
theorem op_ok (o l r : Int) : N.okD ⟨o, l, r, ⟨#[]⟩, ⟨0, 0, ⟨#[]⟩⟩⟩ := ⟨by simp [ByteArray.size], by simp [ByteArray.size]⟩
set_option maxRecDepth 100000 in
set_option maxHeartbeats 2000000 in
theorem l09Grow0 (g : Nat) (W0 w : World) (hd : D g W0 w) (q : Value) (xs : List N) (ho : w.ownsRow W0.heap.size 70 7 q xs.length (rows N.c xs)) (n : Nat) (hq : qOk n xs) (hn : n ≤ 1000) (b : Bool) :
    Calls Tryz.prog 83 #[.pointer (some ⟨g, 0, none⟩), q, .int .i64 0, .bool b] w fun e w' => ∃ q', e = .returned q' ∧ ∃ xs', w'.ownsRow W0.heap.size 70 7 q' xs'.length (rows N.c xs') ∧ xs.length < xs'.length ∧ qOk (n + 1) xs' ∧ D g W0 w' := by
  obtain ⟨i0, hi, hz0, hz1, hz2⟩ := info_parts Tryz.infoN
  have hlt := hd.lt
  obtain ⟨qa, qc, rfl⟩ := own_slice ho
  have hlen := hq.1
  go_enter Tryz.func83, Tryz.ntmps83
  go_wp2_with fail
  refine (l09Leaf g _ hd.cur).mono ?_
  rintro e wl ⟨y, rfl, hy, el⟩
  have dl := hd.trans el
  have HL := Lib.hid (el.own ho hlt)
  go_wp2_with (at_builtin; refine wpList_append_own _ rfl _ _ 37 rfl W0.heap.size 70 i0 _ 7 72 Tryz.underlying37 hi hz0 hz1 hz2 rfl (by decide) _ _ _ rfl (HL.out.alloc _) ⟨_, 0, none⟩ 1 1 _ rfl rfl (lit_news (by simp)) (fun x hx => by simp at hx; rcases hx with rfl | rfl | rfl | rfl | rfl | rfl | rfl <;> rfl) (by unfold maxLen; omega) (by omega) (by have := dl.size; simp; omega) ?_; intro v' w' hown' hgr2 _)
  go_ret
  exact ⟨_, rfl, xs ++ [y], by simpa [rows, N.c] using hown', by simp, hq.snoc hy, (dl.alloc _).grown hgr2 (fun j h => (HL.out.lt j h).1)⟩
set_option maxRecDepth 100000 in
set_option maxHeartbeats 4000000 in
theorem l09Grow (g : Nat) (W0 : World) (d : Nat) : ∀ (w : World) (hd : D g W0 w) (q : Value) (xs : List N) (ho : w.ownsRow W0.heap.size 70 7 q xs.length (rows N.c xs)) (n : Nat) (hq : qOk n xs) (hn : n + 2 * d ≤ 1000) (b : Bool),
    Calls Tryz.prog 83 #[.pointer (some ⟨g, 0, none⟩), q, .int .i64 (d : Int), .bool b] w fun e w' => ∃ q', e = .returned q' ∧ ∃ xs', w'.ownsRow W0.heap.size 70 7 q' xs'.length (rows N.c xs') ∧ xs.length < xs'.length ∧ qOk (n + 1 + 2 * d) xs' ∧ D g W0 w' := by
  obtain ⟨i0, hi, hz0, hz1, hz2⟩ := info_parts Tryz.infoN
  induction d with
  | zero => intro w hd q xs ho n hq hn b; exact l09Grow0 g W0 w hd q xs ho n hq (by omega) b
  | succ d ih =>
    intro w hd q xs ho n hq hn b
    have hlt := hd.lt
    obtain ⟨qa, qc, rfl⟩ := own_slice ho
    have hlen := hq.1
    have hpp : ((d + 1 : Nat) : Int) - 1 = d := by omega
    have hne0 : ¬ (((d + 1 : Nat) : Int) = 0) := by omega
    go_enter Tryz.func83, Tryz.ntmps83
    go_wp2_with fail
    refine (l01Once g _ hd.cur 3 (by decide) (by decide)).mono ?_
    rintro e w1 ⟨c, rfl, e1⟩
    have d1 := hd.trans e1
    have H1 := Lib.hid (e1.own ho hlt)
    cases c
    · go_wp2_with fail
      refine (l01Below g _ d1.cur 5 (by decide) (by decide)).mono ?_
      rintro e w2 ⟨k, rfl, hk, e2⟩
      have d2 := d1.trans e2
      have H2 := Lib.hid (e2.own H1.out hlt)
      by_cases hA : k = 0 ∧ b = true
      · obtain ⟨rfl, rfl⟩ := hA
        go_wp2_with fail
        refine (ih _ d2 _ xs H2.out n hq (by omega) true).mono ?_
        rintro e w3 ⟨q3, rfl, xs3, ho3, hl3, hq3, d3⟩
        have H3 := Lib.hid ho3
        obtain ⟨qa3, qc3, rfl⟩ := own_slice ho3
        have hn3 := hq3.1
        have hp3 : (0 : Int) ≤ (xs3.length : Int) - 1 := by omega
        clear ho3
        go_wp2_with (at_builtin; refine wpList_append_own _ rfl _ _ 37 rfl W0.heap.size 70 i0 _ 7 72 Tryz.underlying37 hi hz0 hz1 hz2 rfl (by decide) _ _ _ rfl (H3.out.alloc _) ⟨_, 0, none⟩ 1 1 _ rfl rfl (lit_news (by simp)) (fun x hx => by simp at hx; rcases hx with rfl | rfl | rfl | rfl | rfl | rfl | rfl <;> rfl) (by unfold maxLen; omega) (by omega) (by have := d3.size; simp; omega) ?_; intro v' w' hown' hgr2 _)
        go_ret
        exact ⟨_, rfl, xs3 ++ [⟨5, (xs3.length : Int) - 1, 0, ⟨#[]⟩, ⟨0, 0, ⟨#[]⟩⟩⟩], by simpa [rows, N.c] using hown', by simp; omega, (hq3.snoc (op_ok _ _ _)).mono (by omega), (d3.alloc _).grown hgr2 (fun j h => (H3.out.lt j h).1)⟩
      · have hbk : ¬ (k = 0) ∨ (k = 0 ∧ b = false) := by
          by_cases h : k = 0
          · exact .inr ⟨h, by cases hb : b with | false => rfl | true => exact absurd ⟨h, hb⟩ hA⟩
          · exact .inl h
        rcases hbk with hk0 | ⟨rfl, rfl⟩
        ·
          have hkb : (k == 0) = false := by simp [hk0]
          go_wp2_with fail
          refine (ih _ d2 _ xs H2.out n hq (by omega) b).mono ?_
          rintro e w3 ⟨q3, rfl, xs3, ho3, hl3, hq3, d3⟩
          have H3 := Lib.hid ho3
          obtain ⟨qa3, qc3, rfl⟩ := own_slice ho3
          have hn3 := hq3.1
          have hp3 : (0 : Int) ≤ (xs3.length : Int) - 1 := by omega
          clear ho3
          go_wp2_with fail
          refine (l09Grow0 g W0 _ d3 _ xs3 H3.out _ hq3 (by omega) b).mono ?_
          rintro e w4 ⟨q4, rfl, xs4, ho4, hl4, hq4, d4⟩
          have H4 := Lib.hid ho4
          obtain ⟨qa4, qc4, rfl⟩ := own_slice ho4
          have hn4 := hq4.1
          have hp4 : (0 : Int) ≤ (xs4.length : Int) - 1 := by omega
          clear ho4
          have hk3 : k < 3 ∨ ¬ (k < 3) := by omega
          rcases hk3 with hk3 | hk3
          ·
            go_wp2_with (at_builtin; refine wpList_append_own _ rfl _ _ 37 rfl W0.heap.size 70 i0 _ 7 72 Tryz.underlying37 hi hz0 hz1 hz2 rfl (by decide) _ _ _ rfl (H4.out.alloc _) ⟨_, 0, none⟩ 1 1 _ rfl rfl (lit_news (by simp)) (fun x hx => by simp at hx; rcases hx with rfl | rfl | rfl | rfl | rfl | rfl | rfl <;> rfl) (by unfold maxLen; omega) (by omega) (by have := d4.size; simp; omega) ?_; intro v' w' hown' hgr2 _)
            go_ret
            exact ⟨_, rfl, xs4 ++ [⟨6, (xs3.length : Int) - 1, (xs4.length : Int) - 1, ⟨#[]⟩, ⟨0, 0, ⟨#[]⟩⟩⟩], by simpa [rows, N.c] using hown', by simp; omega, (hq4.snoc (op_ok _ _ _)).mono (by omega), (d4.alloc _).grown hgr2 (fun j h => (H4.out.lt j h).1)⟩
          ·
            go_wp2_with (at_builtin; refine wpList_append_own _ rfl _ _ 37 rfl W0.heap.size 70 i0 _ 7 72 Tryz.underlying37 hi hz0 hz1 hz2 rfl (by decide) _ _ _ rfl (H4.out.alloc _) ⟨_, 0, none⟩ 1 1 _ rfl rfl (lit_news (by simp)) (fun x hx => by simp at hx; rcases hx with rfl | rfl | rfl | rfl | rfl | rfl | rfl <;> rfl) (by unfold maxLen; omega) (by omega) (by have := d4.size; simp; omega) ?_; intro v' w' hown' hgr2 _)
            go_ret
            exact ⟨_, rfl, xs4 ++ [⟨7, (xs3.length : Int) - 1, (xs4.length : Int) - 1, ⟨#[]⟩, ⟨0, 0, ⟨#[]⟩⟩⟩], by simpa [rows, N.c] using hown', by simp; omega, (hq4.snoc (op_ok _ _ _)).mono (by omega), (d4.alloc _).grown hgr2 (fun j h => (H4.out.lt j h).1)⟩
        ·
          go_wp2_with fail
          refine (ih _ d2 _ xs H2.out n hq (by omega) false).mono ?_
          rintro e w3 ⟨q3, rfl, xs3, ho3, hl3, hq3, d3⟩
          have H3 := Lib.hid ho3
          obtain ⟨qa3, qc3, rfl⟩ := own_slice ho3
          have hn3 := hq3.1
          have hp3 : (0 : Int) ≤ (xs3.length : Int) - 1 := by omega
          clear ho3
          go_wp2_with fail
          refine (l09Grow0 g W0 _ d3 _ xs3 H3.out _ hq3 (by omega) false).mono ?_
          rintro e w4 ⟨q4, rfl, xs4, ho4, hl4, hq4, d4⟩
          have H4 := Lib.hid ho4
          obtain ⟨qa4, qc4, rfl⟩ := own_slice ho4
          have hn4 := hq4.1
          have hp4 : (0 : Int) ≤ (xs4.length : Int) - 1 := by omega
          clear ho4
          go_wp2_with (at_builtin; refine wpList_append_own _ rfl _ _ 37 rfl W0.heap.size 70 i0 _ 7 72 Tryz.underlying37 hi hz0 hz1 hz2 rfl (by decide) _ _ _ rfl (H4.out.alloc _) ⟨_, 0, none⟩ 1 1 _ rfl rfl (lit_news (by simp)) (fun x hx => by simp at hx; rcases hx with rfl | rfl | rfl | rfl | rfl | rfl | rfl <;> rfl) (by unfold maxLen; omega) (by omega) (by have := d4.size; simp; omega) ?_; intro v' w' hown' hgr2 _)
          go_ret
          exact ⟨_, rfl, xs4 ++ [⟨6, (xs3.length : Int) - 1, (xs4.length : Int) - 1, ⟨#[]⟩, ⟨0, 0, ⟨#[]⟩⟩⟩], by simpa [rows, N.c] using hown', by simp; omega, (hq4.snoc (op_ok _ _ _)).mono (by omega), (d4.alloc _).grown hgr2 (fun j h => (H4.out.lt j h).1)⟩
    ·
      go_wp2_with fail
      refine (l09Leaf g _ d1.cur).mono ?_
      rintro e wl ⟨y, rfl, hy, el⟩
      have dl := d1.trans el
      have HL := Lib.hid (el.own H1.out hlt)
      go_wp2_with (at_builtin; refine wpList_append_own _ rfl _ _ 37 rfl W0.heap.size 70 i0 _ 7 72 Tryz.underlying37 hi hz0 hz1 hz2 rfl (by decide) _ _ _ rfl (HL.out.alloc _) ⟨_, 0, none⟩ 1 1 _ rfl rfl (lit_news (by simp)) (fun x hx => by simp at hx; rcases hx with rfl | rfl | rfl | rfl | rfl | rfl | rfl <;> rfl) (by unfold maxLen; omega) (by omega) (by have := dl.size; simp; omega) ?_; intro v' w' hown' hgr2 _)
      go_ret
      exact ⟨_, rfl, xs ++ [y], by simpa [rows, N.c] using hown', by simp, (hq.snoc hy).mono (by omega), (dl.alloc _).grown hgr2 (fun j h => (HL.out.lt j h).1)⟩
set_option maxRecDepth 100000 in
set_option maxHeartbeats 2000000 in
theorem l09Question (g : Nat) (w : World) (hc : Cur w g) :
    Calls Tryz.prog 61 #[.pointer (some ⟨g, 0, none⟩)] w fun e w' => ∃ q, e = .returned q ∧ ∃ xs, w'.ownsRow w.heap.size 70 7 q xs.length (rows N.c xs) ∧ 0 < xs.length ∧ qOk 7 xs ∧ D g w w' := by
  go_enter Tryz.func61, Tryz.ntmps61
  go_wp2_with fail
  refine (l01Below g _ hc 4 (by decide) (by decide)).mono ?_
  rintro e w1 ⟨x, rfl, hx, d1⟩
  obtain ⟨k, rfl⟩ : ∃ k : Nat, x = k := ⟨x.toNat, by omega⟩
  go_wp2_with fail
  refine (l09Grow g w k _ d1 _ [] (World.ownsRow_nil _ _ _ _) 0 ⟨Nat.le_refl _, by simp⟩ (by omega) true).mono ?_
  rintro e w2 ⟨q, rfl, xs, ho, hl, hq, d2⟩
  go_wp2
  go_ret
  exact ⟨_, rfl, xs, ho, by simpa using hl, hq.mono (by omega), d2⟩
end Go.Proofs.YtemikjbfjhebnaaGreat
namespace Go.Proofs.YtemikjbfjhebnaaGreat
open Go.RowKit
set_option linter.unusedVariables false
theorem own_prefix {w : World} {base g n cap k size : Nat} {e : TypeId} {xs : List Value} (h : w.ownsRow base e size (.slice (some ⟨g, 0, none⟩) n cap) n xs) (hk : k ≤ n) :
    w.ownsRow base e size (.slice (some ⟨g, 0, none⟩) k cap) k (xs.take (k * size)) := by
  obtain ⟨hl, ⟨h1, _⟩ | ⟨g', cap', cur, h1, h2, h3, h4, h5, h6, h7⟩⟩ := h
  · cases h1
  · cases h1
    have hm : k * size ≤ n * size := Nat.mul_le_mul_right _ hk
    refine ⟨by rw [List.length_take, hl]; omega, .inr ⟨g, cap, cur, rfl, h2, h3, Nat.le_trans hk h4, h5, h6, ?_⟩⟩
    rw [← h7, List.take_take, Nat.min_eq_left hm]
theorem rows_takeK {α : Type} {enc : α → List Value} {k : Nat} (hk : ∀ x, (enc x).length = k) : ∀ (xs : List α) (i : Nat), (rows enc xs).take (i * k) = rows enc (xs.take i)
  | [], i => by simp [rows]
  | x :: xs, 0 => by simp [rows]
  | x :: xs, i + 1 => by
    rw [rows_cons, List.take_succ_cons, rows_cons, Nat.succ_mul, ← rows_takeK hk xs i, List.take_append, hk, show i * k + k - k = i * k by omega]
    rw [List.take_of_length_le (by rw [hk]; omega)]
def sch4 : List Fd := [⟨⟨#[97]⟩, 1⟩, ⟨⟨#[98]⟩, 1⟩, ⟨⟨#[110]⟩, 2⟩, ⟨⟨#[116]⟩, 2⟩]
set_option maxRecDepth 100000 in
set_option maxHeartbeats 1000000 in
theorem l03Usual (w : World) :
    Calls Tryz.prog 52 #[] w fun e w' => ∃ g, e = .returned (.slice (some ⟨g, 0, none⟩) 4 4) ∧ w.heap.size ≤ g ∧ w'.ownsRow w.heap.size 87 2 (.slice (some ⟨g, 0, none⟩) 4 4) 4 (rows Fd.c sch4) ∧ Grew w w' := by
  go_enter Tryz.func52, Tryz.ntmps52
  go_wp2
  go_ret
  exact ⟨_, rfl, Nat.le_refl _, lit_owns w #[.string ⟨#[97]⟩, .int .i64 1, .string ⟨#[98]⟩, .int .i64 1, .string ⟨#[110]⟩, .int .i64 2, .string ⟨#[116]⟩, .int .i64 2] 87 2 4 rfl (by decide), (Grew.refl w).alloc _⟩
set_option maxRecDepth 100000 in
set_option maxHeartbeats 1000000 in
theorem l03Name (g : Nat) (w : World) (hc : Cur w g) :
    Calls Tryz.prog 81 #[.pointer (some ⟨g, 0, none⟩)] w fun e w' => ∃ x : ByteArray, e = .returned (.string x) ∧ x.size ≤ 8 ∧ D g w w' := by
  go_enter Tryz.func81, Tryz.ntmps81
  go_wp2_with fail
  refine (l01Pick g _ (hc.grew ((Grew.refl w).alloc _)) _ 10 [⟨#[97]⟩, ⟨#[98]⟩, ⟨#[110]⟩, ⟨#[116]⟩, ⟨#[97]⟩, ⟨#[98]⟩, ⟨#[116]⟩, ⟨#[122]⟩, ⟨#[65]⟩, ⟨#[]⟩] (lit_rd w _ _ 1 10 10 rfl (Nat.le_refl _)) (cur_ne hc) (by decide) (by decide)).mono ?_
  rintro e w1 ⟨x, rfl, hx, hd⟩
  go_wp2
  go_ret
  refine ⟨_, rfl, ?_, (D.refl hc).alloc _ |>.trans hd⟩
  simp at hx
  rcases hx with rfl | rfl | rfl | rfl | rfl | rfl | rfl | rfl | rfl | rfl <;> decide
def schOk (n : Nat) (xs : List Fd) : Prop := xs.length ≤ n ∧ ∀ x, x ∈ xs → x.name.size ≤ 8
theorem sch4_ok : ∀ x, x ∈ sch4 → x.name.size ≤ 8 := by
  unfold sch4
  intro x hx
  simp at hx
  rcases hx with rfl | rfl | rfl | rfl <;> decide
theorem schOk.set {n : Nat} {xs : List Fd} (h : schOk n xs) {i : Nat} {y : Fd} (hy : y.name.size ≤ 8) : schOk n (xs.set i y) :=
  ⟨by rw [List.length_set]; exact h.1, fun z hz => by
    rcases List.mem_or_eq_of_mem_set hz with hz | rfl
    · exact h.2 z hz
    · exact hy⟩
set_option maxRecDepth 100000 in
set_option maxHeartbeats 4000000 in
theorem l03Any (g : Nat) (w : World) (hc : Cur w g) :
    Calls Tryz.prog 59 #[.pointer (some ⟨g, 0, none⟩)] w fun e w' => ∃ v, e = .returned v ∧ ∃ xs, schOk 6 xs ∧ w'.ownsRow w.heap.size 87 2 v xs.length (rows Fd.c xs) ∧ D g w w' := by
  obtain ⟨i0, hi, hz0, hz1, hz2⟩ := info_parts Tryz.infoFd
  have hl := hc.lt
  have hln : sch4.length = 4 := rfl
  go_enter Tryz.func59, Tryz.ntmps59
  go_wp2_with fail
  refine (l03Usual w).mono ?_
  rintro e w1 ⟨gb, rfl, hgb, ho, g1⟩
  have d1 := (D.refl hc).grew g1
  have H1 := Lib.hid ho
  have hne : gb ≠ g := by omega
  clear ho
  go_wp2_with fail
  refine (l01Below g _ d1.cur 8 (by omega) (by omega)).mono ?_
  rintro e w3 ⟨x, rfl, hx, e3⟩
  have d3 := d1.trans e3
  have H3 := Lib.hid (e3.own H1.out hl)
  have hfz := H3.out.frozenAt
  have hxs : x = 0 ∨ x = 1 ∨ x = 2 ∨ x = 3 ∨ x = 4 ∨ 5 ≤ x := by omega
  rcases hxs with rfl | rfl | rfl | rfl | rfl | hx4
  · go_wp2_with fail
    refine (l01Below g _ d3.cur 4 (by omega) (by omega)).mono ?_
    rintro e w4 ⟨k0, rfl, hk, e4⟩
    obtain ⟨k, rfl⟩ : ∃ k : Nat, k0 = k := ⟨k0.toNat, by omega⟩
    have hk0 : (0 : Int) ≤ k := by omega
    have hk4 : k ≤ 4 := by omega
    go_wp2
    go_ret
    have H4 := own_prefix (e4.own H3.out hl) hk4
    rw [rows_takeK Fd.len] at H4
    have hlt : (sch4.take k).length = k := by rw [List.length_take, hln]; omega
    exact ⟨_, rfl, sch4.take k, ⟨by rw [hlt]; omega, fun x hx => sch4_ok x (List.mem_of_mem_take hx)⟩, by rw [hlt]; exact H4, d3.trans e4⟩
  · go_wp2_with fail
    refine (l01Below g _ d3.cur 4 (by omega) (by omega)).mono ?_
    rintro e w4 ⟨k0, rfl, hk, e4⟩
    obtain ⟨k, rfl⟩ : ∃ k : Nat, k0 = k := ⟨k0.toNat, by omega⟩
    have d4 := d3.trans e4
    go_wp2_with fail
    refine (l01Below g _ d4.cur 5 (by omega) (by omega)).mono ?_
    rintro e w5 ⟨y, rfl, hy, e5⟩
    have d5 := d4.trans e5
    have H5 := Lib.hid (e5.own (e4.own H3.out hl) hl)
    have hfz := H5.out.frozenAt
    have hk0 : (0 : Int) ≤ k := by omega
    have hk4 : (k : Int) < 4 := by omega
    obtain ⟨z, HZ, c0, c1⟩ := ownFd H5.out (by omega : k < 4)
    have hzs := sch4_ok z (List.mem_of_getElem? HZ.out)
    go_wp2
    go_ret
    have h1 := ownsRow_stores H5.out (k * 2 + 1) (.int .i64 (y - 1))
    rw [rows_set1 Fd.len sch4 k 1 z ⟨z.name, y - 1⟩ _ HZ.out (by decide) rfl] at h1
    exact ⟨_, rfl, sch4.set k ⟨z.name, y - 1⟩, schOk.set ⟨by rw [hln]; decide, sch4_ok⟩ hzs, by rw [List.length_set]; exact h1, d5.setCell (by dsimp only; omega) _⟩
  · go_wp2_with fail
    refine (l01Below g _ d3.cur 4 (by omega) (by omega)).mono ?_
    rintro e w4 ⟨k0, rfl, hk, e4⟩
    obtain ⟨k, rfl⟩ : ∃ k : Nat, k0 = k := ⟨k0.toNat, by omega⟩
    have d4 := d3.trans e4
    go_wp2_with fail
    refine (l03Name g _ d4.cur).mono ?_
    rintro e w5 ⟨nm, rfl, hnm, e5⟩
    have d5 := d4.trans e5
    have H5 := Lib.hid (e5.own (e4.own H3.out hl) hl)
    have hfz := H5.out.frozenAt
    have hk0 : (0 : Int) ≤ k := by omega
    have hk4 : (k : Int) < 4 := by omega
    obtain ⟨z, HZ, c0, c1⟩ := ownFd H5.out (by omega : k < 4)
    go_wp2
    go_ret
    have h1 := ownsRow_stores H5.out (k * 2 + 0) (.string nm)
    rw [rows_set1 Fd.len sch4 k 0 z ⟨nm, z.kind⟩ _ HZ.out (by decide) rfl] at h1
    exact ⟨_, rfl, sch4.set k ⟨nm, z.kind⟩, schOk.set ⟨by rw [hln]; decide, sch4_ok⟩ hnm, by rw [List.length_set]; exact h1, d5.setCell (by dsimp only; omega) _⟩
  · go_wp2_with fail
    refine (l01Pick g _ (d3.alloc _).cur _ 3 [⟨#[117]⟩, ⟨#[122]⟩, ⟨#[97]⟩] (lit_rd _ #[.string ⟨#[117]⟩, .string ⟨#[122]⟩, .string ⟨#[97]⟩] 9 1 3 3 rfl (Nat.le_refl _)) (cur_ne d3.cur) (by decide) (by decide)).mono ?_
    rintro e w4 ⟨nm, rfl, hm, e4⟩
    have hnm : nm.size ≤ 8 := by simp at hm; rcases hm with rfl | rfl | rfl <;> decide
    have d4 := (d3.alloc _).trans e4
    have H4 := Lib.hid (((e4.own (H3.out.alloc _) hl)).alloc (.cells #[.string nm, .int .i64 1] 87))
    have hs4 := d4.size
    clear hm
    go_wp2_with (at_builtin; refine wpList_append_own _ rfl _ _ 24 rfl w.heap.size 87 i0 _ 2 24 Tryz.underlying24 hi hz0 hz1 hz2 rfl (by decide) _ _ _ rfl H4.out ⟨_, 0, none⟩ 1 1 [.string nm, .int .i64 1] rfl rfl (lit_news rfl) (fun x hx => by simp at hx; rcases hx with rfl | rfl <;> rfl) (by unfold maxLen; omega) (by omega) (by simp; omega) ?_; intro v' w' hown' hgr2 _; have HD4 := Lib.hid ((d4.alloc _).grown hgr2 (fun j h => (H4.out.lt j h).1)); have HO4 := Lib.hid hown'; obtain ⟨va', vc', rfl⟩ := own_slice hown'; clear hown' hgr2)
    go_ret
    exact ⟨_, rfl, sch4 ++ [⟨nm, 1⟩], ⟨by simp [hln], fun x hx => by rw [List.mem_append] at hx; rcases hx with hx | hx; exact sch4_ok x hx; simp at hx; subst hx; exact hnm⟩, by rw [List.length_append, hln]; simpa [rows_append, rows, Fd.c] using HO4.out, HD4.out⟩
  · have H4 := Lib.hid (H3.out.alloc (.cells #[.string ⟨#[117]⟩, .int .i64 1, .string ⟨#[118]⟩, .int .i64 2] 87))
    have hs4 := d3.size
    go_wp2_with (at_builtin; refine wpList_append_own _ rfl _ _ 24 rfl w.heap.size 87 i0 _ 2 24 Tryz.underlying24 hi hz0 hz1 hz2 rfl (by decide) _ _ _ rfl H4.out ⟨_, 0, none⟩ 2 2 [.string ⟨#[117]⟩, .int .i64 1, .string ⟨#[118]⟩, .int .i64 2] rfl rfl (lit_news rfl) (fun x hx => by simp at hx; rcases hx with rfl | rfl | rfl | rfl <;> rfl) (by unfold maxLen; omega) (by omega) (by simp; omega) ?_; intro v' w' hown' hgr2 _; have HD4 := Lib.hid ((d3.alloc _).grown hgr2 (fun j h => (H4.out.lt j h).1)); have HO4 := Lib.hid hown'; obtain ⟨va', vc', rfl⟩ := own_slice hown'; clear hown' hgr2)
    go_ret
    exact ⟨_, rfl, sch4 ++ [⟨⟨#[117]⟩, 1⟩, ⟨⟨#[118]⟩, 2⟩], ⟨by simp [hln], fun x hx => by rw [List.mem_append] at hx; rcases hx with hx | hx; exact sch4_ok x hx; simp at hx; rcases hx with rfl | rfl <;> decide⟩, by rw [List.length_append, hln]; simpa [rows_append, rows, Fd.c] using HO4.out, HD4.out⟩
  · go_wp2
    go_ret
    exact ⟨_, rfl, sch4, ⟨by rw [hln]; decide, sch4_ok⟩, H3.out, d3⟩
end Go.Proofs.YtemikjbfjhebnaaGreat
namespace Go.Proofs.YtemikjbfjhebnaaGreat
open Go.RowKit
def putL {α : Type} [LT α] [DecidableLT α] [DecidableEq α] : List α → α → List α
  | [], s => [s]
  | x :: xs, s => if x < s then x :: putL xs s else if x = s then x :: xs else s :: x :: xs
def putAll {α : Type} [LT α] [DecidableLT α] [DecidableEq α] (xs : List α) : List α := xs.foldl putL []
def Asc {α : Type} [LT α] (xs : List α) : Prop := xs.Pairwise (· < ·)
class Ordered (α : Type) [LT α] : Prop where
  irrefl : ∀ a : α, ¬ a < a
  trans : ∀ a b c : α, a < b → b < c → a < c
  tri : ∀ a b : α, a < b ∨ a = b ∨ b < a
theorem putL_mem {α : Type} [LT α] [DecidableLT α] [DecidableEq α] : ∀ (xs : List α) (s y : α), y ∈ putL xs s ↔ y = s ∨ y ∈ xs
  | [], s, y => by simp [putL]
  | x :: xs, s, y => by
    unfold putL
    split
    · rw [List.mem_cons, putL_mem xs s y, List.mem_cons]
      constructor
      · rintro (h | h | h)
        · exact .inr (.inl h)
        · exact .inl h
        · exact .inr (.inr h)
      · rintro (h | h | h)
        · exact .inr (.inl h)
        · exact .inl h
        · exact .inr (.inr h)
    · split
      · rename_i h; subst h; simp
      · simp
theorem putL_asc {α : Type} [LT α] [DecidableLT α] [DecidableEq α] [Ordered α] : ∀ (xs : List α) (s : α), Asc xs → Asc (putL xs s)
  | [], s, _ => by simp [putL, Asc]
  | x :: xs, s, h => by
    unfold Asc at h
    rw [List.pairwise_cons] at h
    unfold putL
    split
    · rename_i hlt
      refine List.pairwise_cons.2 ⟨fun y hy => ?_, putL_asc xs s h.2⟩
      rcases (putL_mem xs s y).1 hy with rfl | hy
      · exact hlt
      · exact h.1 y hy
    · split
      · exact List.pairwise_cons.2 h
      · rename_i h1 h2
        have h3 : s < x := by
          rcases Ordered.tri x s with h4 | h4 | h4
          · exact absurd h4 h1
          · exact absurd h4 h2
          · exact h4
        refine List.pairwise_cons.2 ⟨fun y hy => ?_, List.pairwise_cons.2 h⟩
        rcases List.mem_cons.1 hy with rfl | hy
        · exact h3
        · exact Ordered.trans _ _ _ h3 (h.1 y hy)
theorem foldPut {α : Type} [LT α] [DecidableLT α] [DecidableEq α] [Ordered α] : ∀ (xs acc : List α), Asc acc → Asc (xs.foldl putL acc) ∧ ∀ y, y ∈ xs.foldl putL acc ↔ y ∈ acc ∨ y ∈ xs
  | [], acc, h => ⟨h, fun y => by simp⟩
  | x :: xs, acc, h => by
    have h1 := foldPut xs (putL acc x) (putL_asc acc x h)
    refine ⟨h1.1, fun y => ?_⟩
    rw [List.foldl_cons, h1.2 y, putL_mem, List.mem_cons]
    constructor
    · rintro ((h | h) | h)
      · exact .inr (.inl h)
      · exact .inl h
      · exact .inr (.inr h)
    · rintro (h | h | h)
      · exact .inl (.inr h)
      · exact .inl (.inl h)
      · exact .inr h
theorem asc_ext {α : Type} [LT α] [Ordered α] : ∀ (xs ys : List α), Asc xs → Asc ys → (∀ y, y ∈ xs ↔ y ∈ ys) → xs = ys
  | [], [], _, _, _ => rfl
  | [], y :: ys, _, _, h => by have := (h y).2 (List.mem_cons_self ..); simp at this
  | x :: xs, [], _, _, h => by have := (h x).1 (List.mem_cons_self ..); simp at this
  | x :: xs, y :: ys, hx, hy, h => by
    unfold Asc at hx hy
    rw [List.pairwise_cons] at hx hy
    have e : x = y := by
      rcases List.mem_cons.1 ((h x).1 (List.mem_cons_self ..)) with h1 | h1
      · exact h1
      · rcases List.mem_cons.1 ((h y).2 (List.mem_cons_self ..)) with h2 | h2
        · exact h2.symm
        · exact absurd (Ordered.trans _ _ _ (hy.1 x h1) (hx.1 y h2)) (Ordered.irrefl _)
    subst e
    congr 1
    refine asc_ext xs ys hx.2 hy.2 (fun z => ?_)
    have h3 := h z
    rw [List.mem_cons, List.mem_cons] at h3
    constructor
    · intro hz
      rcases h3.1 (.inr hz) with rfl | h4
      · exact absurd (hx.1 _ hz) (Ordered.irrefl _)
      · exact h4
    · intro hz
      rcases h3.2 (.inr hz) with rfl | h4
      · exact absurd (hy.1 _ hz) (Ordered.irrefl _)
      · exact h4
theorem compact_facts {α : Type} [LT α] [Inhabited α] [DecidableEq α] [Ordered α] (d : Array α) (hs : ∀ i j, i < j → j < d.size → d[i]! = d[j]! ∨ d[i]! < d[j]!) : ∀ m, m ≤ d.size →
    Asc (Lib.compactUpTo d m) ∧ (∀ y, y ∈ Lib.compactUpTo d m ↔ ∃ i, i < m ∧ y = d[i]!)
  | 0, _ => by simp [Lib.compactUpTo, Asc]
  | m + 1, hm => by
    obtain ⟨h1, h2⟩ := compact_facts d hs m (by omega)
    rw [Lib.compactUpTo_succ]
    cases hk : Lib.keeps d m with
    | true =>
      rw [if_pos rfl]
      refine ⟨List.pairwise_append.2 ⟨h1, List.pairwise_singleton _ _, fun a ha b hb => ?_⟩, fun y => ?_⟩
      · simp at hb; subst hb
        obtain ⟨i, hi, rfl⟩ := (h2 a).1 ha
        rcases hs i m hi (by omega) with h3 | h3
        · exfalso
          have h4 : d[m]! ≠ d[m - 1]! := by
            intro e
            rw [Lib.keeps_neg (by omega) e] at hk; cases hk
          rcases Nat.lt_or_ge i (m - 1) with h5 | h5
          · rcases hs i (m - 1) h5 (by omega) with h6 | h6
            · exact h4 (by rw [← h3, h6])
            · rcases hs (m - 1) m (by omega) (by omega) with h7 | h7
              · exact h4 h7.symm
              · rw [h3] at h6; exact Ordered.irrefl _ (Ordered.trans _ _ _ h6 h7)
          · have : i = m - 1 := by omega
            subst this; exact h4 h3.symm
        · exact h3
      · rw [List.mem_append, h2]
        simp only [List.mem_singleton]
        constructor
        · rintro (⟨i, hi, rfl⟩ | rfl)
          · exact ⟨i, by omega, rfl⟩
          · exact ⟨m, by omega, rfl⟩
        · rintro ⟨i, hi, rfl⟩
          rcases Nat.lt_succ_iff_lt_or_eq.1 hi with h | rfl
          · exact .inl ⟨i, h, rfl⟩
          · exact .inr rfl
    | false =>
      rw [if_neg (by simp), List.append_nil]
      refine ⟨h1, fun y => ?_⟩
      rw [h2]
      have hm0 : 0 < m := by
        rcases Nat.eq_zero_or_pos m with h | h
        · subst h; rw [Lib.keeps_lt_one d 0 (by omega)] at hk; cases hk
        · exact h
      have h4 : d[m]! = d[m - 1]! := Decidable.byContradiction fun h => by rw [Lib.keeps_pos h] at hk; cases hk
      constructor
      · rintro ⟨i, hi, rfl⟩; exact ⟨i, by omega, rfl⟩
      · rintro ⟨i, hi, rfl⟩
        rcases Nat.lt_succ_iff_lt_or_eq.1 hi with h | rfl
        · exact ⟨i, h, rfl⟩
        · exact ⟨i - 1, by omega, h4⟩
theorem compact_put {α : Type} [LT α] [DecidableLT α] [Inhabited α] [DecidableEq α] [Ordered α] (xs zs : List α) (hp : zs.Perm xs) (hs : zs.Pairwise fun a b => a = b ∨ a < b) : Lib.compact zs = putAll xs := by
  have h1 := foldPut xs [] (List.Pairwise.nil)
  have h2 := compact_facts zs.toArray (fun i j hij hj => by
    have hj' : j < zs.length := by simpa using hj
    have := List.pairwise_iff_getElem.1 hs i j (by omega) hj' hij
    simpa [getElem!_pos, hj', show i < zs.length by omega] using this) zs.length (by simp)
  refine asc_ext _ _ h2.1 h1.1 (fun y => ?_)
  unfold putAll Lib.compact
  rw [h2.2 y, h1.2 y]
  simp only [List.not_mem_nil, false_or]
  rw [← hp.mem_iff, List.mem_iff_getElem]
  constructor
  · rintro ⟨i, hi, rfl⟩; exact ⟨i, hi, by simp [hi]⟩
  · rintro ⟨i, hi, rfl⟩; exact ⟨i, hi, by simp [hi]⟩
end Go.Proofs.YtemikjbfjhebnaaGreat
namespace Go.Proofs.YtemikjbfjhebnaaGreat
open Go.RowKit
set_option linter.unusedVariables false
theorem news_one {w : World} {v : Value} {e : TypeId} {g : Nat} (hg : g = w.heap.size) : ∀ j u, [v][j]? = some u → (w.alloc (.cells #[v] e)).cell? ((⟨g, 0, none⟩ : Addr).add j) = some u := by
  subst hg; exact cell_one_new _ _ _
theorem strs_snoc {xs : List Dr} {k : Nat} {x : Dr} (h : xs[k]? = some x) : strs ((xs.take (k + 1)).map Dr.name) = strs ((xs.take k).map Dr.name) ++ [.string x.name] := by
  rw [take_snoc h]; simp
set_option maxRecDepth 100000 in
set_option maxHeartbeats 1000000 in
theorem implDirNames (va : Value) (xs : List Dr) (w : World) (ha : RdDs w va xs) (hx : xs.length ≤ 4000000) :
    Calls Tryz.prog 67 #[va] w fun e w' => ∃ v, e = .returned v ∧ w'.ownsRow w.heap.size 9 1 v (xs.map Dr.name).length (strs (xs.map Dr.name)) ∧ Grew w w' := by
  obtain ⟨qs, ⟨a, ca, rfl, hca, hra⟩, hall⟩ := ha
  have HA := Lib.hid hall
  clear hall
  generalize hn : xs.length = n at hx hra
  have HX := Lib.hid hn
  clear hn
  obtain ⟨i0, hi, hz0, hz1, hz2⟩ := info_parts Tryz.infoString
  go_enter Tryz.func67, Tryz.ntmps67
  go_wp2
  go_loopw [3, 9] (fun v i wr => ∃ k : Nat, k ≤ n ∧ i = .int .i64 k ∧ Hid (wr.ownsRow w.heap.size 9 1 v k (strs ((xs.take k).map Dr.name))) ∧ Grew w wr) (fun _ i _ => n - (intOf i).toNat)
  case atStart => exact ⟨0, Nat.zero_le _, rfl, Lib.hid (lit_own w 9 1), (Grew.refl _).alloc _⟩
  case round =>
    obtain ⟨k, hk, rfl, hown, hbel⟩ := hrel
    by_cases hlt : k < n
    · obtain ⟨b1, o1, p, rfl, hpk, c0, c1⟩ := (hra.grew hbel).getP2 hlt
      obtain ⟨x, hxk, hxr⟩ := HA.out.get hpk.out
      obtain ⟨pn, pq⟩ := p
      obtain ⟨hxn, hxq⟩ := hxr
      simp only at hxn hxq c0 c1
      have HN := Lib.hid hxn
      obtain ⟨pa, pc, rfl, hpc, hpr⟩ := hxq
      clear hxn hpr
      go_wp2_with (at_builtin; refine wpList_append_own _ rfl _ _ 100 rfl w.heap.size 9 i0 (.string ⟨#[]⟩) 1 16 Tryz.underlying100 hi hz0 hz1 hz2 rfl (by decide) _ _ _ rfl ((hown.out.alloc _).alloc _) ⟨_, 0, none⟩ 1 1 [.string pn] rfl rfl (news_one (by simp)) (fun x hx => by simp at hx; subst hx; rfl) (by unfold maxLen; omega) (by omega) (by have := hbel.size; simp; omega) ?_; intro v' w' hown' hgr _)
      go_roundw
      case rel =>
        refine ⟨k + 1, by omega, by go_num, Lib.hid ?_, ((hbel.alloc _).alloc _).grown hgr (fun g h => (hown.out.lt g h).1)⟩
        rw [strs_snoc hxk.out, ← HN.out]; exact hown'
      case measure => simp [intOf]; omega
    · obtain rfl : k = n := by omega
      go_wp2
      go_ret
      refine ⟨_, rfl, ?_, hbel⟩
      have := hown.out
      rw [take_all HX.out] at this
      rw [List.length_map, HX.out]; exact this
end Go.Proofs.YtemikjbfjhebnaaGreat
namespace Go.Proofs.YtemikjbfjhebnaaGreat
open Go.RowKit Go.Sort
set_option linter.unusedVariables false
abbrev dl (b : ByteArray) : List UInt8 := b.data.toList
abbrev mkb (l : List UInt8) : ByteArray := ⟨l.toArray⟩
instance : Ordered (List UInt8) where
  irrefl := fun a => List.lt_irrefl a
  trans := fun _ _ _ h k => List.lt_trans h k
  tri := fun a b => by
    rcases Decidable.em (a < b) with h | h
    · exact .inl h
    · rcases Decidable.em (a = b) with e | e
      · exact .inr (.inl e)
      · rcases List.le_iff_lt_or_eq.1 (List.not_lt.1 h) with h1 | h1
        · exact .inr (.inr h1)
        · exact absurd h1.symm e
def so (xs : List ByteArray) : List ByteArray := (putAll (xs.map dl)).map mkb
theorem mkb_dl (b : ByteArray) : mkb (dl b) = b := rfl
theorem strs_enc (xs : List ByteArray) : strs xs = (xs.map dl).map encStr := by simp [encStr, strs]
theorem enc_strs (ls : List (List UInt8)) : ls.map encStr = strs (ls.map mkb) := by simp [encStr, strs]
theorem sort_put (bs : List (List UInt8)) : Lib.compact (bs.mergeSort fun x y => decide (x ≤ y)) = putAll bs := by
  refine compact_put _ _ (List.mergeSort_perm _ _) ?_
  have h := List.pairwise_mergeSort (le := fun (x y : List UInt8) => decide (x ≤ y)) (fun a b c h1 h2 => by simp at *; exact List.le_trans h1 h2) (fun a b => by simp; exact List.le_total a b) bs
  refine h.imp fun {a b} hab => ?_
  have h1 : a ≤ b := by simpa using hab
  rcases List.le_iff_lt_or_eq.1 h1 with h | h
  · exact .inr h
  · exact .inl h
set_option maxRecDepth 100000 in
set_option maxHeartbeats 1000000 in
theorem slCloneStr (va : Value) (n : Nat) (xs : List ByteArray) (w : World) (ha : Rd w va 1 n (strs xs)) (hx : n ≤ 4000000) :
    Calls Tryz.prog 139 #[va] w fun e w' => ∃ v, e = .returned v ∧ w'.ownsRow w.heap.size 9 1 v n (strs xs) ∧ Grew w w' := by
  obtain ⟨a, ca, rfl, hca, hra⟩ := ha
  have HX := Lib.hid hra.len_map
  have hen : ∀ a w, (binOp .eql 100 (.slice a n ca) (.slice none 0 0)).run Tryz.prog w = .ok (.bool a.isNone) w := fun a w => Lib.run_eql_slice_nil w 100 9 a n ca 0 0 Tryz.underlying100
  cases a with
  | none =>
    have hn : n = 0 := by rcases Nat.eq_zero_or_pos n with h | h; exact h; obtain ⟨b, o, h2, _⟩ := hra.2 h; cases h2
    subst hn
    have e1 := hen none
    go_enter Tryz.func139, Tryz.ntmps139
    go_wp2
    go_ret
    obtain rfl : xs = [] := List.length_eq_zero_iff.1 HX.out
    exact ⟨_, rfl, World.ownsRow_nil _ _ _ _, Grew.refl _⟩
  | some a =>
    have e1 := hen (some a)
    obtain ⟨i0, hi, hz0, hz1, hz2⟩ := info_parts Tryz.infoString
    have HN := Lib.hid (rd_news hra ((Grew.refl w).alloc (.cells #[] 9)))
    have HL := Lib.hid (lit_own w 9 1)
    have HC := Lib.hid hra.1
    clear hra hen
    go_enter Tryz.func139, Tryz.ntmps139
    go_wp2_with (at_builtin; refine wpList_append_own _ rfl _ _ 100 rfl w.heap.size 9 i0 (.string ⟨#[]⟩) 1 16 Tryz.underlying100 hi hz0 hz1 hz2 rfl (by decide) _ 0 [] rfl HL.out a n ca (strs xs) rfl ?c1 ?c2 ?c3 ?c4 ?c5 ?c6 ?_)
    case c1 => exact HC.out
    case c2 => exact HN.out
    case c3 => intro u hu; simp at hu; obtain ⟨x, _, rfl⟩ := hu; rfl
    case c4 => unfold maxLen; omega
    case c5 => omega
    case c6 => simp
    intro v' w' hown' hgrow _
    go_wp2
    go_ret
    refine ⟨_, rfl, by simpa using hown', ((Grew.refl w).alloc _).grown hgrow (fun k h => ?_)⟩
    cases h; exact Nat.le_refl _
set_option maxRecDepth 100000 in
set_option maxHeartbeats 1000000 in
theorem sortedOnce (va : Value) (n : Nat) (xs : List ByteArray) (w : World) (ha : Rd w va 1 n (strs xs)) (hx : n ≤ 4000000) :
    Calls Tryz.prog 132 #[va] w fun e w' => ∃ v, e = .returned v ∧ w'.ownsRow w.heap.size 9 1 v (so xs).length (strs (so xs)) ∧ Grew w w' := by
  have HA := Lib.hid ha
  have HX := Lib.hid (Rd.len1 ha)
  obtain ⟨a, ca, rfl, hca, hra⟩ := ha
  clear hra
  go_enter Tryz.func132, Tryz.ntmps132
  go_wp2_with fail
  refine (slCloneStr _ n xs _ HA.out hx).mono ?_
  rintro e w1 ⟨v, rfl, hown, hb⟩
  have hown0 := Lib.hid hown
  rcases hown.2 with ⟨rfl, rfl⟩ | ⟨g, cap, cur, rfl, hbase, hcell, h1, h2, h3, h4⟩
  · clear hown
    have hxs : xs = [] := List.length_eq_zero_iff.1 HX.out
    subst hxs
    go_wp2_with fail
    refine (Tryz.slices_Sort_string_none _ _ _).mono ?_
    rintro e w2 ⟨rfl, rfl⟩
    go_wp2_with fail
    refine (Tryz.slices_Compact_string_empty _ _ _).mono ?_
    rintro e w3 ⟨rfl, rfl⟩
    go_wp2
    go_ret
    exact ⟨_, rfl, World.ownsRow_nil _ _ _ _, hb⟩
  · clear hown
    have hlen : (xs.map dl).length = n := by rw [List.length_map]; exact HX.out
    have hH := holds_of_block (ss := xs.map dl) hcell (by rw [hlen, ← strs_enc]; simpa using h4)
    have hgs : g < w1.heap.size := (Array.getElem?_eq_some_iff.1 hcell).1
    have HS := Lib.hid (Tryz.slices_Sort_string g 0 cap (xs.map dl) w1 hH hgs (by omega))
    obtain ⟨ts, hts⟩ : ∃ ts, (xs.map dl).mergeSort (fun x y => decide (x ≤ y)) = ts := ⟨_, rfl⟩
    have htl : ts.length = n := by rw [← hts, List.length_mergeSort, hlen]
    have HT := Lib.hid hts
    have hs0 := HS.out
    rw [hts, hlen] at hs0
    replace HS := Lib.hid hs0
    clear hs0 hts hH h4
    go_wp2_with fail
    refine (HS.out).mono ?_
    rintro e w2 ⟨rfl, k2, os, hw2⟩
    have hO2 := ownsRow_sorted (n := k2) (os := os) (ss := ts) (ts := ts) (e := 9) rfl hbase hcell (by omega) h2 h3
    have hG2 : w1.grownBy w2 (some g) := by rw [hw2]; exact grownBy_sorted _
    rw [← hw2, htl] at hO2
    have HO2 := Lib.hid hO2
    have HG2 := Lib.hid hG2
    clear hw2 hcell h1 h2 h3 hO2 hG2
    obtain ⟨_, ⟨hc, _⟩ | ⟨g', cap', cur2, hc, hbase2, hcell2, h1, h2, h3, h4⟩⟩ := HO2.out
    · cases hc
    cases hc
    have hH2 := holds_of_block (ss := ts) hcell2 (by rw [htl]; simpa using h4)
    have HC := Lib.hid (Tryz.slices_Compact_string g 0 cap ts w2 hH2 (by omega) (by omega))
    have hc0 := HC.out
    rw [htl] at hc0
    replace HC := Lib.hid hc0
    have hcle : (Lib.compact ts).length ≤ n := by rw [← htl]; exact Lib.compact_length_le ts
    clear hc0 hH2 h4
    go_wp2_with fail
    refine (HC.out).mono ?_
    rintro e w3 ⟨rfl, q, hw3⟩
    have hO3 := ownsRow_sorted (n := q) (os := #[]) (ss := ts) (ts := Lib.compact ts ++ List.replicate (n - (Lib.compact ts).length) []) (e := 9) (by simp; omega) hbase2 hcell2 (by omega) h2 h3
    have hG3 : w2.grownBy w3 (some g) := by
      have := grownBy_sorted (w := w2) (g := g) (n := q) (os := #[]) (Lib.compact ts ++ List.replicate (n - (Lib.compact ts).length) []).toArray
      rw [hw3]; simpa [htl] using this
    have hO4 : w3.ownsRow w.heap.size 9 1 (.slice (some ⟨g, 0, none⟩) n cap) n ((Lib.compact ts ++ List.replicate (n - (Lib.compact ts).length) []).map encStr) := by
      rw [hw3]; simpa [htl] using hO3
    have HO4 := Lib.hid hO4
    have HG3 := Lib.hid hG3
    clear hw3 hcell2 hO3 hO4 hG3
    go_wp2
    go_ret
    have hso : so xs = (Lib.compact ts).map mkb := by unfold so; rw [← sort_put, HT.out]
    refine ⟨_, rfl, ?_, (hb.grown HG2.out (fun k h => by cases h; exact hbase)).grown HG3.out (fun k h => by cases h; exact hbase)⟩
    rw [hso, List.length_map, ← enc_strs]
    exact own_cut' HO4.out hcle (by rw [List.map_append]; exact List.take_left' (by simp))
end Go.Proofs.YtemikjbfjhebnaaGreat
