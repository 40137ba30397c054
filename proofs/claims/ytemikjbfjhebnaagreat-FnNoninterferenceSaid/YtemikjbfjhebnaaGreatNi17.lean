/- Texts Z21, as far as they are needed. -/
import Derived.Test.YtemikjbfjhebnaaGreatNi16
namespace Go.Proofs.YtemikjbfjhebnaaGreat
open Go.RowKit
set_option linter.unusedVariables false
set_option linter.unusedSimpArgs false
theorem FBox.new {w0 w : World} {g : Nat} {f : Fl} {p : P5} (d : D g w0 w) (bx : Box w w0.heap.size 5) (row : Fl.O w (w0.heap.size + 1) w.heap.size f p) : FBox w0 (w.alloc (.cells #[.int .i64 p.id, .int .i64 p.owner, .bool p.shared, .int .i64 p.link, p.attrs] 55)) g w.heap.size f p :=
  ⟨d.alloc _, bx.1, by simp, bx.grew ((Grew.refl _).alloc _), by simp, by simp, by simp, by simp, by simp, fun j => by simp [go_sem], TyAt.new _ _ _, (row.grew ((Grew.refl _).alloc _)).mono (Nat.le_refl _) (by simp)⟩
structure FSh (w0 wc : World) (g ob : Nat) (p : P5) : Prop where
  d : D g w0 wc
  lo : w0.heap.size < ob
  lt : ob < wc.heap.size
  bx : Box wc w0.heap.size 5
  c0 : wc.cell? ⟨ob, 0, none⟩ = some (.int .i64 p.id)
  c1 : wc.cell? ⟨ob, 1, none⟩ = some (.int .i64 p.owner)
  c2 : wc.cell? ⟨ob, 2, none⟩ = some (.bool p.shared)
  c3 : wc.cell? ⟨ob, 3, none⟩ = some (.int .i64 p.link)
  c4 : wc.cell? ⟨ob, 4, none⟩ = some p.attrs
  fz : ∀ j, wc.frozen? ⟨ob, j, none⟩ = false
  ty : TyAt wc ob 55
theorem FBox.sh {w0 wc : World} {g ob : Nat} {f : Fl} {p : P5} (h : FBox w0 wc g ob f p) : FSh w0 wc g ob p := ⟨h.d, h.lo, h.lt, h.bx, h.c0, h.c1, h.c2, h.c3, h.c4, h.fz, h.ty⟩
theorem FSh.step {w0 wc w2 : World} {g ob : Nat} {p : P5} (h : FSh w0 wc g ob p) (e : D g wc w2) : FSh w0 w2 g ob p := by
  have hg := h.d.lt
  have hl := h.lo
  have hne : ob ≠ g := by omega
  exact ⟨h.d.trans e, hl, Nat.lt_of_lt_of_le h.lt e.size, h.bx.d e (by omega), e.cell h.c0 hne, e.cell h.c1 hne, e.cell h.c2 hne, e.cell h.c3 hne, e.cell h.c4 hne, fun j => e.frozen h.lt (h.fz j) hne, h.ty.d e hne⟩
theorem FSh.grew {w0 wc w2 : World} {g ob : Nat} {p : P5} (h : FSh w0 wc g ob p) (e : Grew wc w2) : FSh w0 w2 g ob p := h.step ((D.refl h.d.cur).grew e)
theorem FSh.grownBy {w0 wc w2 : World} {g ob : Nat} {p : P5} (h : FSh w0 wc g ob p) {n : Nat} {cs : List Value} (hv : wc.ownsRow (w0.heap.size + 1) 84 4 p.attrs n cs) (hg : wc.grownBy w2 p.attrs.ownBlock) : FSh w0 w2 g ob p := by
  have hl := h.lo
  have ht := h.lt
  have ho : some ob ≠ p.attrs.ownBlock := fun e => own_nety hv h.ty (by decide) _ e.symm rfl
  have hr : some w0.heap.size ≠ p.attrs.ownBlock := fun e => by have := (hv.lt _ e.symm).1; omega
  refine ⟨h.d.grown hg (fun j hj => by have := (hv.lt j hj).1; omega), hl, Nat.lt_of_lt_of_le ht hg.size, ⟨Nat.lt_of_lt_of_le h.bx.1 hg.size, fun j hj => ?_, fun j => ?_⟩, hg.cell h.c0 ho, hg.cell h.c1 ho, hg.cell h.c2 ho, hg.cell h.c3 ho, hg.cell h.c4 ho, fun j => ?_, h.ty.grownOwn hv hg (by decide)⟩
  · obtain ⟨u, hu⟩ := h.bx.2.1 j hj; exact ⟨u, hg.cell hu hr⟩
  · rw [World.frozen?_of_block (hg.block w0.heap.size h.bx.1 hr)]; exact h.bx.2.2 j
  · rw [World.frozen?_of_block (hg.block ob ht ho)]; exact h.fz j
theorem FSh.set4 {w0 wc : World} {g ob : Nat} {p : P5} (h : FSh w0 wc g ob p) {v : Value} {xs : List At} (ho : wc.ownsRow (w0.heap.size + 1) 84 4 v xs.length (rows At.c xs)) : FBox w0 (wc.setCell ⟨ob, 4, none⟩ v) g ob ⟨p.id, p.owner, p.shared, p.link, xs⟩ ⟨p.id, p.owner, p.shared, p.link, v⟩ := by
  have hl := h.lo
  have d0 := h.c0
  have d1 := h.c1
  have d2 := h.c2
  have d3 := h.c3
  have d4 := h.c4
  refine ⟨h.d.setCell (by dsimp only; omega) _, hl, by simpa using h.lt, h.bx.set _ _, by simp [go_sem, d0], by simp [go_sem, d1], by simp [go_sem, d2], by simp [go_sem, d3], by simp [go_sem, d4], fun j => by rw [World.frozen?_setCell]; exact h.fz j, h.ty.set _ _, ?_⟩
  exact ⟨rfl, rfl, rfl, rfl, own_set ho h.ty (by decide) _, fun b hb => by have := (ho.lt b hb).2; simpa using this⟩
theorem flOk.setA {n : Nat} {f : Fl} (h : flOk n f) {s : ByteArray} {v : V} (hs : s.size ≤ 8) (hv : v.str.size ≤ 8) : flOk (n + 1) ⟨f.id, f.owner, f.shared, f.link, setA f.attrs s v⟩ :=
  ⟨Nat.le_trans (setA_len _ _ _) (Nat.succ_le_succ h.1), fun x hx => (setA_mem hx).elim (h.2 x) (fun e => by subst e; exact ⟨hs, hv⟩)⟩
set_option maxRecDepth 100000 in
set_option maxHeartbeats 8000000 in
theorem l04Any (g : Nat) (w : World) (hc : Cur w g) :
    Calls Tryz.prog 58 #[.pointer (some ⟨g, 0, none⟩)] w fun e w' => ∃ p : P5, e = .returned p.v ∧ ∃ f, flOk 6 f ∧ Fl.O w' w.heap.size w'.heap.size f p ∧ D g w w' := by
  have hl := hc.lt
  have hne : w.heap.size ≠ g := by omega
  obtain ⟨i0, hi, hz0, hz1, hz2⟩ := info_parts Tryz.infoAt
  have B0 := Box.new w #[.int .i64 0, .int .i64 0, .bool false, .int .i64 0, .slice none 0 0] 55 5 rfl
  have d0 := (D.refl hc).alloc (.cells #[.int .i64 0, .int .i64 0, .bool false, .int .i64 0, .slice none 0 0] 55)
  have hs0 : (w.alloc (.cells #[.int .i64 0, .int .i64 0, .bool false, .int .i64 0, .slice none 0 0] 55)).heap.size = w.heap.size + 1 := by simp
  go_enter Tryz.func58, Tryz.ntmps58
  go_wp2_with fail
  refine (l01Below g _ d0.cur 7 (by omega) (by omega)).mono ?_
  rintro e w1 ⟨x1, rfl, hx1, e1⟩
  have d1 := d0.trans e1
  have hs1 := e1.size
  rw [hs0] at hs1
  have hx2 : wrap64 (1 + x1) = 1 + x1 := by unfold wrap64; omega
  go_wp2_with fail
  refine (l04File g _ d1.cur (1 + x1)).mono ?_
  rintro e w2 ⟨p, rfl, f, hf, hrow, e2⟩
  have d2 := d1.trans e2
  have B2 := (B0.d e1 hne).d e2 hne
  have hok := hf.ok
  obtain ⟨p1, p2, p3, p4, p5⟩ := p
  obtain ⟨pa, pc, hpa⟩ := own_slice hrow.2.2.2.2.1
  simp only at hpa
  subst hpa
  have F2 := FBox.new d2 B2 (hrow.mono hs1 (Nat.le_refl _))
  dsimp only at F2
  clear hf hrow B0 B2 d0 d1 d2 e1 e2 hs0 hs1
  go_wp2_with fail
  obtain ⟨ob, hob⟩ : ∃ x, w2.heap.size = x := ⟨_, rfl⟩
  generalize w2.alloc (.cells #[.int .i64 p1, .int .i64 p2, .bool p3, .int .i64 p4, .slice pa f.attrs.length pc] 55) = W at F2 ⊢
  rw [hob] at F2 ⊢
  clear hob
  refine (l01Below g _ F2.cur 14 (by omega) (by omega)).mono ?_
  rintro e w3 ⟨x, rfl, hx, e3⟩
  have F3 := Lib.hid (F2.step e3)
  have HOK := Lib.hid hok
  clear F2 e3 hok
  have hxs : x = 0 ∨ x = 1 ∨ x = 2 ∨ x = 3 ∨ x = 4 ∨ 5 ≤ x := by omega
  rcases hxs with rfl | rfl | rfl | rfl | rfl | hx5
  · have F4 := Lib.hid (F3.out.grew ((Grew.refl _).alloc (.cells #[.int .i64 0, .int .i64 60, .int .i64 61, .int .i64 (-1)] 3)))
    go_wp2_with fail
    refine (l01PickInt g _ F4.out.cur _ 4 [0, 60, 61, -1] (lit_rd _ #[.int .i64 0, .int .i64 60, .int .i64 61, .int .i64 (-1)] 3 1 4 4 rfl (Nat.le_refl _)) (cur_ne F3.out.cur) (by decide) (by decide)).mono ?_
    rintro e w4 ⟨y, rfl, hy, e4⟩
    clear hy
    have F5 := Lib.hid (F4.out.step e4)
    have c0 := F5.out.c0
    have z := F5.out.fz
    have F6 := Lib.hid (F5.out.set0 y)
    clear F3 F4 e4

    have g0 := F5.out.c0
    have g1 := F5.out.c1
    have g2 := F5.out.c2
    have g3 := F5.out.c3
    have g4 := F5.out.c4
    dsimp only at g0 g1 g2 g3 g4
    obtain ⟨b0, f0⟩ := F5.out.bx.2.1 0 (by decide)
    obtain ⟨b1, f1⟩ := F5.out.bx.2.1 1 (by decide)
    obtain ⟨b2, f2⟩ := F5.out.bx.2.1 2 (by decide)
    obtain ⟨b3, f3⟩ := F5.out.bx.2.1 3 (by decide)
    obtain ⟨b4, f4⟩ := F5.out.bx.2.1 4 (by decide)
    have z0 := F5.out.bx.2.2
    have hlo := F5.out.lo
    have dd := F6.out.d
    have HR := Lib.hid F6.out.row
    have hobne : ¬ (w.heap.size = ob) := by omega
    have hobne2 : ¬ (ob = w.heap.size) := by omega
    go_wp2
    refine bodyPost_ret (v := P5.v ⟨y, p2, p3, p4, .slice pa f.attrs.length pc⟩) (by simp [results, Tryz.results58, go_sem, f0, f1, f2, f3, f4, hobne, hobne2]) rfl ⟨⟨y, p2, p3, p4, .slice pa f.attrs.length pc⟩, rfl, ⟨y, f.owner, f.shared, f.link, f.attrs⟩, HOK.out.mono (by decide), ?_, ?_⟩
    · obtain ⟨r1, r2, r3, r4, r5, r6⟩ := HR.out
      refine ⟨r1, r2, r3, r4, ?_, fun b hb => by have := r6 b hb; simpa using this⟩
      refine ownsRow_base (base := w.heap.size + 1) ?_ (by omega)
      repeat' (first | with_reducible exact r5 | with_reducible refine ownsRow_setCell_below ?_ ?_ _ | (dsimp only; omega))
    · repeat' (first | with_reducible exact dd | with_reducible refine D.setCell ?_ ?_ _ | (dsimp only; omega))
  · have F4 := Lib.hid (F3.out.grew ((Grew.refl _).alloc (.cells #[.int .i64 (-1), .int .i64 2, .int .i64 3] 3)))
    go_wp2_with fail
    refine (l01PickInt g _ F4.out.cur _ 3 [-1, 2, 3] (lit_rd _ #[.int .i64 (-1), .int .i64 2, .int .i64 3] 3 1 3 3 rfl (Nat.le_refl _)) (cur_ne F3.out.cur) (by decide) (by decide)).mono ?_
    rintro e w4 ⟨y, rfl, hy, e4⟩
    clear hy
    have F5 := Lib.hid (F4.out.step e4)
    have c1 := F5.out.c1
    have z := F5.out.fz
    have F6 := Lib.hid (F5.out.set1 y)
    clear F3 F4 e4

    have g0 := F5.out.c0
    have g1 := F5.out.c1
    have g2 := F5.out.c2
    have g3 := F5.out.c3
    have g4 := F5.out.c4
    dsimp only at g0 g1 g2 g3 g4
    obtain ⟨b0, f0⟩ := F5.out.bx.2.1 0 (by decide)
    obtain ⟨b1, f1⟩ := F5.out.bx.2.1 1 (by decide)
    obtain ⟨b2, f2⟩ := F5.out.bx.2.1 2 (by decide)
    obtain ⟨b3, f3⟩ := F5.out.bx.2.1 3 (by decide)
    obtain ⟨b4, f4⟩ := F5.out.bx.2.1 4 (by decide)
    have z0 := F5.out.bx.2.2
    have hlo := F5.out.lo
    have dd := F6.out.d
    have HR := Lib.hid F6.out.row
    have hobne : ¬ (w.heap.size = ob) := by omega
    have hobne2 : ¬ (ob = w.heap.size) := by omega
    go_wp2
    refine bodyPost_ret (v := P5.v ⟨p1, y, p3, p4, .slice pa f.attrs.length pc⟩) (by simp [results, Tryz.results58, go_sem, f0, f1, f2, f3, f4, hobne, hobne2]) rfl ⟨⟨p1, y, p3, p4, .slice pa f.attrs.length pc⟩, rfl, ⟨f.id, y, f.shared, f.link, f.attrs⟩, HOK.out.mono (by decide), ?_, ?_⟩
    · obtain ⟨r1, r2, r3, r4, r5, r6⟩ := HR.out
      refine ⟨r1, r2, r3, r4, ?_, fun b hb => by have := r6 b hb; simpa using this⟩
      refine ownsRow_base (base := w.heap.size + 1) ?_ (by omega)
      repeat' (first | with_reducible exact r5 | with_reducible refine ownsRow_setCell_below ?_ ?_ _ | (dsimp only; omega))
    · repeat' (first | with_reducible exact dd | with_reducible refine D.setCell ?_ ?_ _ | (dsimp only; omega))
  · have F4 := Lib.hid (F3.out.grew ((Grew.refl _).alloc (.cells #[.int .i64 (-1), .int .i64 60, .int .i64 61, .int .i64 9223372036854775807] 3)))
    go_wp2_with fail
    refine (l01PickInt g _ F4.out.cur _ 4 [-1, 60, 61, 9223372036854775807] (lit_rd _ #[.int .i64 (-1), .int .i64 60, .int .i64 61, .int .i64 9223372036854775807] 3 1 4 4 rfl (Nat.le_refl _)) (cur_ne F3.out.cur) (by decide) (by decide)).mono ?_
    rintro e w4 ⟨y, rfl, hy, e4⟩
    clear hy
    have F5 := Lib.hid (F4.out.step e4)
    have c3 := F5.out.c3
    have z := F5.out.fz
    have F6 := Lib.hid (F5.out.set3 y)
    clear F3 F4 e4

    have g0 := F5.out.c0
    have g1 := F5.out.c1
    have g2 := F5.out.c2
    have g3 := F5.out.c3
    have g4 := F5.out.c4
    dsimp only at g0 g1 g2 g3 g4
    obtain ⟨b0, f0⟩ := F5.out.bx.2.1 0 (by decide)
    obtain ⟨b1, f1⟩ := F5.out.bx.2.1 1 (by decide)
    obtain ⟨b2, f2⟩ := F5.out.bx.2.1 2 (by decide)
    obtain ⟨b3, f3⟩ := F5.out.bx.2.1 3 (by decide)
    obtain ⟨b4, f4⟩ := F5.out.bx.2.1 4 (by decide)
    have z0 := F5.out.bx.2.2
    have hlo := F5.out.lo
    have dd := F6.out.d
    have HR := Lib.hid F6.out.row
    have hobne : ¬ (w.heap.size = ob) := by omega
    have hobne2 : ¬ (ob = w.heap.size) := by omega
    go_wp2
    refine bodyPost_ret (v := P5.v ⟨p1, p2, p3, y, .slice pa f.attrs.length pc⟩) (by simp [results, Tryz.results58, go_sem, f0, f1, f2, f3, f4, hobne, hobne2]) rfl ⟨⟨p1, p2, p3, y, .slice pa f.attrs.length pc⟩, rfl, ⟨f.id, f.owner, f.shared, y, f.attrs⟩, HOK.out.mono (by decide), ?_, ?_⟩
    · obtain ⟨r1, r2, r3, r4, r5, r6⟩ := HR.out
      refine ⟨r1, r2, r3, r4, ?_, fun b hb => by have := r6 b hb; simpa using this⟩
      refine ownsRow_base (base := w.heap.size + 1) ?_ (by omega)
      repeat' (first | with_reducible exact r5 | with_reducible refine ownsRow_setCell_below ?_ ?_ _ | (dsimp only; omega))
    · repeat' (first | with_reducible exact dd | with_reducible refine D.setCell ?_ ?_ _ | (dsimp only; omega))
  · obtain ⟨r1, r2, r3, r4, r5, _⟩ := F3.out.row
    have hsl := HOK.out.1
    have HSS := Lib.hid HOK.out.2
    obtain ⟨fas, hfas⟩ : ∃ x, f.attrs = x := ⟨_, rfl⟩
    rw [hfas] at hsl HSS r5 F3
    have FS := Lib.hid F3.out.sh
    simp only at r1 r2 r3 r4 r5
    clear F3 HOK
    subst r1
    subst r2
    subst r3
    subst r4
    generalize hml : fas.length = ml at hsl r5 FS ⊢
    have HML := Lib.hid hml
    have RR := Lib.hid r5
    clear hml hfas r5
    have FD := Lib.hid (FS.out.grew (Grew.refl _).drew)
    have RD := Lib.hid (ownsRow_grew RR.out (Grew.refl _).drew)
    go_wp2_with fail
    refine wp_region_noPanic ?_
    refine wp_region_T 10 (fun w' => (w'.cell? ⟨ob, 4, none⟩ = some (.slice pa ml pc) ∧ Hid (FSh w w' g ob ⟨f.id, f.owner, f.shared, f.link, .slice pa ml pc⟩))) (by kernel_rfl) (⟨FD.out.c4, FD⟩) ?_
    intro HS
    replace HS := HS.resolve_left (by decide)
    refine tkP 0 (.inr HS) ?_
    refine tkT 1 [8, 10] HS ?_
    refine tkP 2 (.inr HS) ?_
    refine tkP 4 (.inr HS) ?_
    refine clT 3 (fun K hK => ?_)
    rw [if_pos (by rfl)]
    go_simp
    go_at_call 81
    refine (l03Name g _ HS.2.out.d.cur).mono ?_
    rintro e wb ⟨nm, rfl, hnm, eb⟩
    have FN := Lib.hid (HS.2.out.step eb)
    have RB := Lib.hid (eb.own RD.out (by omega))
    refine hK.out _ _ (⟨FN.out.c4, FN⟩) ?_
    clear HS hK K
    intro HS
    clear FN
    try simp only [Act.put, lpa, lpb, lpc]
    refine clT 5 (fun K hK => ?_)
    rw [if_pos (by rfl)]
    go_simp
    go_at_call 82
    refine (l02Any g _ HS.2.out.d.cur).mono ?_
    rintro e wd ⟨⟨yk, yi, ys⟩, rfl, hyy, ed⟩
    have FN := Lib.hid (HS.2.out.step ed)
    have RC := Lib.hid (ed.own RB.out (by omega))
    refine hK.out _ _ (⟨FN.out.c4, FN⟩) ?_
    clear HS hK K
    intro HS
    clear FN
    try simp only [Act.put, lpa, lpb, lpc]
    refine tkP 6 (.inr HS) ?_
    refine clT 7 (fun K hK => ?_)
    have FN := Lib.hid (HS.2.out.grew ((Grew.refl _).alloc (.cells #[.string nm, .int .i64 yk, .int .i64 yi, .string ys] 84)))
    have RL := Lib.hid (RC.out.alloc (.cells #[.string nm, .int .i64 yk, .int .i64 yi, .string ys] 84))
    rw [if_pos (by rfl)]
    go_simp
    refine hK.out _ _ (⟨FN.out.c4, FN⟩) ?_
    clear HS hK K
    intro HS
    clear FN
    try simp only [Act.put, lpa, lpb, lpc]
    refine clT 8 (fun K hK => ?_)
    rw [if_pos (by rfl)]
    have FW := HS.2
    have hlm := Nat.le_trans (Nat.succ_le_of_lt FW.out.lo) (Nat.le_of_lt FW.out.lt)
    refine wp_append_own _ _ _ 53 rfl (w.heap.size + 1) 84 i0 _ 4 48 Tryz.underlying53 hi hz0 hz1 hz2 rfl (by decide) _ _ _ rfl RL.out ⟨_, 0, none⟩ 1 1 [.string nm, .int .i64 yk, .int .i64 yi, .string ys] rfl rfl (lit_news rfl) (fun x hx => by simp at hx; rcases hx with rfl | rfl | rfl | rfl <;> rfl) (by unfold maxLen; omega) (by omega) hlm ?_
    intro v' w8 hown' hgr2 _
    have FG := Lib.hid (FW.out.grownBy RL.out hgr2)
    have HO8 := Lib.hid hown'
    obtain ⟨va, vc, rfl⟩ := own_slice hown'
    clear hown' hgr2
    refine hK.out _ _ (⟨FG.out.c4, FG⟩) ?_
    clear HS hK K
    intro HS
    try simp only [Act.put, lpa, lpb, lpc]
    refine tkP 9 (.inr HS) ?_
    refine clE (fun K hK => ?_)
    have c4 := HS.1
    have z := HS.2.out.fz
    have FZ : Hid (FBox w (w8.setCell ⟨ob, 4, none⟩ (.slice va (ml + 1) vc)) g ob ⟨f.id, f.owner, f.shared, f.link, fas ++ [⟨nm, ⟨yk, yi, ys⟩⟩]⟩ ⟨f.id, f.owner, f.shared, f.link, .slice va (ml + 1) vc⟩) := Lib.hid (FG.out.set4 (by rw [List.length_append, HML.out]; simpa [rows, At.c] using HO8.out))
    rw [if_pos (by rfl)]
    go_simp
    clear c4 z
    refine hK.out _ _ fun _ => ?_
    clear HS hK K
    try simp only [Act.put, lpa, lpb, lpc]
    refine doneT ?_
    refine NoPanic.normal ?_
    have HOZ : Hid (flOk 6 ⟨f.id, f.owner, f.shared, f.link, fas ++ [⟨nm, ⟨yk, yi, ys⟩⟩]⟩) := Lib.hid ⟨by rw [List.length_append, HML.out]; simp; omega, fun x hx => (List.mem_append.1 hx).elim (HSS.out x) (fun hx => by simp at hx; subst hx; exact ⟨hnm, hyy⟩)⟩
    have c0 := FZ.out.c0
    have c1 := FZ.out.c1
    have c2 := FZ.out.c2
    have c3 := FZ.out.c3
    have c4 := FZ.out.c4
    have bx := FZ.out.bx
    obtain ⟨b0, f0⟩ := bx.2.1 0 (by decide)
    obtain ⟨b1, f1⟩ := bx.2.1 1 (by decide)
    obtain ⟨b2, f2⟩ := bx.2.1 2 (by decide)
    obtain ⟨b3, f3⟩ := bx.2.1 3 (by decide)
    obtain ⟨b4, f4⟩ := bx.2.1 4 (by decide)
    have z0 := bx.2.2
    have hlo := FZ.out.lo
    have dd := FZ.out.d
    have HR := Lib.hid FZ.out.row
    clear bx
    dsimp only at c0 c1 c2 c3 c4
    go_wp2
    refine bodyPost_ret (v := P5.v ⟨f.id, f.owner, f.shared, f.link, .slice va (ml + 1) vc⟩) (by simp [results, Tryz.results58, go_sem, f0, f1, f2, f3, f4]) rfl ⟨⟨f.id, f.owner, f.shared, f.link, .slice va (ml + 1) vc⟩, rfl, ⟨f.id, f.owner, f.shared, f.link, fas ++ [⟨nm, ⟨yk, yi, ys⟩⟩]⟩, HOZ.out, ?_, ?_⟩
    · obtain ⟨r1, r2, r3, r4, r5, r6⟩ := HR.out
      refine ⟨r1, r2, r3, r4, ?_, fun b hb => by have := r6 b hb; simpa using this⟩
      refine ownsRow_base (base := w.heap.size + 1) ?_ (by omega)
      repeat' (first | with_reducible exact r5 | with_reducible refine ownsRow_setCell_below ?_ ?_ _ | (dsimp only; omega))
    · repeat' (first | with_reducible exact dd | with_reducible refine D.setCell ?_ ?_ _ | (dsimp only; omega))
  · obtain ⟨ml, hml⟩ : ∃ m, m = f.attrs.length := ⟨_, rfl⟩
    rw [← hml] at F3
    have HML := Lib.hid hml
    have hsl : ml ≤ 4 := by rw [hml]; exact HOK.out.1
    clear hml
    have FD := Lib.hid (F3.out.grew (Grew.refl _).drew)
    go_wp2_with fail
    refine wp_region_noPanic ?_
    refine wp_region_T 3 (fun w' => (w'.cell? ⟨ob, 0, none⟩ = some (.int .i64 p1) ∧ w'.cell? ⟨ob, 1, none⟩ = some (.int .i64 p2) ∧ w'.cell? ⟨ob, 2, none⟩ = some (.bool p3) ∧ w'.cell? ⟨ob, 3, none⟩ = some (.int .i64 p4) ∧ w'.cell? ⟨ob, 4, none⟩ = some (.slice pa ml pc) ∧ Hid (FBox w w' g ob f ⟨p1, p2, p3, p4, .slice pa ml pc⟩))) (by kernel_rfl) (⟨FD.out.c0, FD.out.c1, FD.out.c2, FD.out.c3, FD.out.c4, FD⟩) ?_
    intro HS
    replace HS := HS.resolve_left (by decide)
    refine tkT 0 [2, 3] HS ?_
    refine clT 1 (fun K hK => ?_)
    rw [if_pos (by rfl)]
    go_simp
    go_at_call 79
    refine (stringValue ⟨#[114, 101, 100]⟩ _).mono ?_
    rintro e wb ⟨rfl, gv⟩
    have FN := Lib.hid (HS.2.2.2.2.2.out.grew gv)
    refine hK.out _ _ (⟨FN.out.c0, FN.out.c1, FN.out.c2, FN.out.c3, FN.out.c4, FN⟩) ?_
    clear HS hK K
    intro HS
    clear FN
    try simp only [Act.put, lpa, lpb, lpc]
    refine clT 2 (fun K hK => ?_)
    rw [if_pos (by rfl)]
    go_simp
    go_at_call 77
    refine (specSetAttr f ⟨p1, p2, p3, p4, .slice pa ml pc⟩ ⟨#[97]⟩ ⟨2, 0, ⟨#[114, 101, 100]⟩⟩ _ (by have h := HS.2.2.2.2.2.out.row.rd; exact h) (by have := HML.out; omega)).mono ?_
    rintro e ws ⟨⟨q1, q2, q3, q4, q5⟩, rfl, hq, gs⟩
    have FN := Lib.hid (HS.2.2.2.2.2.out.grew gs)
    have HQ := Lib.hid (hq.mono (lo' := w.heap.size + 1) (by have := HS.2.2.2.2.2.out.lt; have := HS.2.2.2.2.2.out.lo; omega) (Nat.le_refl _))
    have HP := Lib.hid (FN.out.put HQ.out)
    unfold World.put5 at HP
    obtain ⟨qa, qc, rfl⟩ := own_slice hq.2.2.2.2.1
    clear hq
    refine hK.out _ _ (⟨FN.out.c0, FN.out.c1, FN.out.c2, FN.out.c3, FN.out.c4, FN⟩) ?_
    clear HS hK K
    intro HS
    clear FN
    try simp only [Act.put, lpa, lpb, lpc]
    refine clE (fun K hK => ?_)
    have c0 := HS.1
    have c1 := HS.2.1
    have c2 := HS.2.2.1
    have c3 := HS.2.2.2.1
    have c4 := HS.2.2.2.2.1
    have z := HS.2.2.2.2.2.out.fz
    rw [if_pos (by rfl)]
    go_simp
    clear c0 c1 c2 c3 c4 z
    refine hK.out _ _ fun _ => ?_
    clear HS hK K
    try simp only [Act.put, lpa, lpb, lpc]
    refine doneT ?_
    refine NoPanic.normal ?_
    have FZ := HP
    have c0 := FZ.out.c0
    have c1 := FZ.out.c1
    have c2 := FZ.out.c2
    have c3 := FZ.out.c3
    have c4 := FZ.out.c4
    have bx := FZ.out.bx
    obtain ⟨b0, f0⟩ := bx.2.1 0 (by decide)
    obtain ⟨b1, f1⟩ := bx.2.1 1 (by decide)
    obtain ⟨b2, f2⟩ := bx.2.1 2 (by decide)
    obtain ⟨b3, f3⟩ := bx.2.1 3 (by decide)
    obtain ⟨b4, f4⟩ := bx.2.1 4 (by decide)
    have z0 := bx.2.2
    have hlo := FZ.out.lo
    have dd := FZ.out.d
    have HR := Lib.hid FZ.out.row
    clear bx
    dsimp only at c0 c1 c2 c3 c4
    go_wp2
    refine bodyPost_ret (v := P5.v ⟨q1, q2, q3, q4, .slice qa (setA f.attrs ⟨#[97]⟩ ⟨2, 0, ⟨#[114, 101, 100]⟩⟩).length qc⟩) (by simp [results, Tryz.results58, go_sem, f0, f1, f2, f3, f4]) rfl ⟨⟨q1, q2, q3, q4, .slice qa (setA f.attrs ⟨#[97]⟩ ⟨2, 0, ⟨#[114, 101, 100]⟩⟩).length qc⟩, rfl, ⟨f.id, f.owner, f.shared, f.link, setA f.attrs ⟨#[97]⟩ ⟨2, 0, ⟨#[114, 101, 100]⟩⟩⟩, (HOK.out.setA (by decide) (by decide)).mono (by decide), ?_, ?_⟩
    · obtain ⟨r1, r2, r3, r4, r5, r6⟩ := HR.out
      refine ⟨r1, r2, r3, r4, ?_, fun b hb => by have := r6 b hb; simpa using this⟩
      refine ownsRow_base (base := w.heap.size + 1) ?_ (by omega)
      repeat' (first | with_reducible exact r5 | with_reducible refine ownsRow_setCell_below ?_ ?_ _ | (dsimp only; omega))
    · repeat' (first | with_reducible exact dd | with_reducible refine D.setCell ?_ ?_ _ | (dsimp only; omega))
  · have hn0 : ¬ (x = 0) := by omega
    have hn1 : ¬ (x = 1) := by omega
    have hn2 : ¬ (x = 2) := by omega
    have hn3 : ¬ (x = 3) := by omega
    have hn4 : ¬ (x = 4) := by omega
    have c0 := F3.out.c0
    have c1 := F3.out.c1
    have c2 := F3.out.c2
    have c3 := F3.out.c3
    have c4 := F3.out.c4
    have bx := F3.out.bx
    obtain ⟨b0, f0⟩ := bx.2.1 0 (by decide)
    obtain ⟨b1, f1⟩ := bx.2.1 1 (by decide)
    obtain ⟨b2, f2⟩ := bx.2.1 2 (by decide)
    obtain ⟨b3, f3⟩ := bx.2.1 3 (by decide)
    obtain ⟨b4, f4⟩ := bx.2.1 4 (by decide)
    have z0 := bx.2.2
    have hlo := F3.out.lo
    have dd := F3.out.d
    have HR := Lib.hid F3.out.row
    clear bx
    dsimp only at c0 c1 c2 c3 c4
    go_wp2
    refine bodyPost_ret (v := P5.v ⟨p1, p2, p3, p4, .slice pa f.attrs.length pc⟩) (by simp [results, Tryz.results58, go_sem, f0, f1, f2, f3, f4]) rfl ⟨⟨p1, p2, p3, p4, .slice pa f.attrs.length pc⟩, rfl, f, HOK.out.mono (by decide), ?_, ?_⟩
    · obtain ⟨r1, r2, r3, r4, r5, r6⟩ := HR.out
      refine ⟨r1, r2, r3, r4, ?_, fun b hb => by have := r6 b hb; simpa using this⟩
      refine ownsRow_base (base := w.heap.size + 1) ?_ (by omega)
      repeat' (first | with_reducible exact r5 | with_reducible refine ownsRow_setCell_below ?_ ?_ _ | (dsimp only; omega))
    · repeat' (first | with_reducible exact dd | with_reducible refine D.setCell ?_ ?_ _ | (dsimp only; omega))
end Go.Proofs.YtemikjbfjhebnaaGreat
