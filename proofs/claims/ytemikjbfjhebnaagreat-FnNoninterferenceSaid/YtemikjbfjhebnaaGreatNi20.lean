/- Texts Z18, as far as they are needed. -/
import Derived.Test.YtemikjbfjhebnaaGreatNi12
import Derived.Test.YtemikjbfjhebnaaGreatNi16
import Derived.Test.YtemikjbfjhebnaaGreatNi6
import Derived.Test.YtemikjbfjhebnaaGreatNi18
namespace Go.Proofs.YtemikjbfjhebnaaGreat
open Go.RowKit
set_option linter.unusedVariables false
set_option linter.unusedSimpArgs false
theorem own_off {w w' : World} {lo hi base : Nat} {e : TypeId} {k n : Nat} {v : Value} {cs : List Value} (h : w.ownsRow base e k v n cs) (ht : Touch lo hi w w') (hb : ∀ b, v.ownBlock = some b → b < lo ∨ hi ≤ b) : w'.ownsRow base e k v n cs := by
  obtain ⟨hl, ⟨rfl, rfl⟩ | ⟨g, cap, cur, rfl, hg, hh, hr⟩⟩ := h
  · exact ⟨hl, .inl ⟨rfl, rfl⟩⟩
  · refine ⟨hl, .inr ⟨g, cap, cur, rfl, hg, ?_, hr⟩⟩
    rw [ht.block g (Array.getElem?_eq_some_iff.1 hh).1 (hb g rfl)]
    exact hh
theorem GrowF.base {w : World} {a b : Nat} {v : Value} {fs : List Fl} (h : GrowF w a v fs) (hb : b ≤ a) : GrowF w b v fs := by
  obtain ⟨ps, h1, h2⟩ := h
  exact ⟨ps, ownsRow_base h1 hb, h2.mono fun x p h => h.mono hb (Nat.le_refl _)⟩
structure StG (w : World) (base : Nat) (s : St) (p : PS) : Prop where
  q : w.ownsRow base 87 2 p.q s.schema.length (rows Fd.c s.schema)
  r : GrowF w base p.r s.files
  n : p.n = s.next
theorem StG.tch {w w' : World} {base a b : Nat} {s : St} {p : PS} (h : StG w base s p) (ht : Touch a b w w') (hd : b ≤ base) : StG w' base s p :=
  ⟨ownsRow_tch h.q ht hd, h.r.tch ht hd, h.n⟩
theorem StG.grew {w w' : World} {base : Nat} {s : St} {p : PS} (h : StG w base s p) (hg : Grew w w') : StG w' base s p := ⟨ownsRow_grew h.q hg, h.r.grew hg, h.n⟩
theorem StG.d {w w' : World} {base g : Nat} {s : St} {p : PS} (h : StG w base s p) (e : D g w w') (hg : g < base) : StG w' base s p := h.tch e.2.1 hg
theorem StG.set {w : World} {base : Nat} {s : St} {p : PS} (h : StG w base s p) {a : Addr} (ha : a.block < base) (u : Value) : StG (w.setCell a u) base s p :=
  h.tch (a := a.block) (b := a.block + 1) (Touch.setCell (Touch.refl _ _ _) (Nat.le_refl _) (Nat.lt_succ_self _) u) ha
theorem StG.base {w : World} {a b : Nat} {s : St} {p : PS} (h : StG w a s p) (hb : b ≤ a) : StG w b s p := ⟨ownsRow_base h.q hb, h.r.base hb, h.n⟩
theorem StG.rd {w : World} {base : Nat} {s : St} {p : PS} (h : StG w base s p) : St.R w s p := ⟨rd_of_own h.q, h.r.rd, h.n⟩
theorem StG.slices {w : World} {base : Nat} {s : St} {p : PS} (h : StG w base s p) : ∃ a c b d, p = ⟨.slice a s.schema.length c, .slice b s.files.length d, s.next⟩ := by
  obtain ⟨pq, pr, pn⟩ := p
  obtain ⟨a, c, ha⟩ := own_slice h.q
  obtain ⟨b, d, hb⟩ := h.r.slice
  have hn := h.n
  simp only at ha hb hn
  subst ha; subst hb; subst hn
  exact ⟨a, c, b, d, rfl⟩
def CS (w : World) (a : Nat) (p : PS) : Prop := w.cell? ⟨a, 0, none⟩ = some p.q ∧ w.cell? ⟨a, 1, none⟩ = some p.r ∧ w.cell? ⟨a, 2, none⟩ = some (.int .i64 p.n) ∧ ∀ j, w.frozen? ⟨a, j, none⟩ = false
def CF (w : World) (a : Nat) (p : P5) : Prop := w.cell? ⟨a, 0, none⟩ = some (.int .i64 p.id) ∧ w.cell? ⟨a, 1, none⟩ = some (.int .i64 p.owner) ∧ w.cell? ⟨a, 2, none⟩ = some (.bool p.shared) ∧ w.cell? ⟨a, 3, none⟩ = some (.int .i64 p.link) ∧ w.cell? ⟨a, 4, none⟩ = some p.attrs ∧ ∀ j, w.frozen? ⟨a, j, none⟩ = false
def World.put3 (w : World) (a : Nat) (p : PS) : World := ((w.setCell ⟨a, 0, none⟩ p.q).setCell ⟨a, 1, none⟩ p.r).setCell ⟨a, 2, none⟩ (.int .i64 p.n)
theorem CS.lt {w : World} {a : Nat} {p : PS} (h : CS w a p) : a < w.heap.size := lt_of_cell h.1
theorem CF.lt {w : World} {a : Nat} {p : P5} (h : CF w a p) : a < w.heap.size := lt_of_cell h.1
theorem CS.tch {w w' : World} {a lo hi : Nat} {p : PS} (h : CS w a p) (ht : Touch lo hi w w') (hb : a < lo ∨ hi ≤ a) : CS w' a p :=
  ⟨tch_cell ht hb h.1, tch_cell ht hb h.2.1, tch_cell ht hb h.2.2.1, fun j => tch_frozen ht (lt_of_cell h.1 : (⟨a, 0, none⟩ : Addr).block < _) hb (h.2.2.2 j)⟩
theorem CF.tch {w w' : World} {a lo hi : Nat} {p : P5} (h : CF w a p) (ht : Touch lo hi w w') (hb : a < lo ∨ hi ≤ a) : CF w' a p :=
  ⟨tch_cell ht hb h.1, tch_cell ht hb h.2.1, tch_cell ht hb h.2.2.1, tch_cell ht hb h.2.2.2.1, tch_cell ht hb h.2.2.2.2.1, fun j => tch_frozen ht (lt_of_cell h.1 : (⟨a, 0, none⟩ : Addr).block < _) hb (h.2.2.2.2.2 j)⟩
theorem CS.grew {w w' : World} {a : Nat} {p : PS} (h : CS w a p) (hg : Grew w w') : CS w' a p := h.tch (hg.touch (a + 1) (a + 1)) (.inl (Nat.lt_succ_self _))
theorem CF.grew {w w' : World} {a : Nat} {p : P5} (h : CF w a p) (hg : Grew w w') : CF w' a p := h.tch (hg.touch (a + 1) (a + 1)) (.inl (Nat.lt_succ_self _))
theorem CS.d {w w' : World} {a g : Nat} {p : PS} (h : CS w a p) (e : D g w w') (hb : a ≠ g) : CS w' a p := h.tch e.2.1 (by omega)
theorem CF.d {w w' : World} {a g : Nat} {p : P5} (h : CF w a p) (e : D g w w') (hb : a ≠ g) : CF w' a p := h.tch e.2.1 (by omega)
theorem CS.off {w : World} {a : Nat} {p : PS} (h : CS w a p) {q : Addr} (hq : q.block ≠ a) (u : Value) : CS (w.setCell q u) a p :=
  h.tch (Touch.setCell (Touch.refl q.block (q.block + 1) w) (Nat.le_refl _) (Nat.lt_succ_self _) u) (by omega)
theorem CF.off {w : World} {a : Nat} {p : P5} (h : CF w a p) {q : Addr} (hq : q.block ≠ a) (u : Value) : CF (w.setCell q u) a p :=
  h.tch (Touch.setCell (Touch.refl q.block (q.block + 1) w) (Nat.le_refl _) (Nat.lt_succ_self _) u) (by omega)
theorem touch3 (w : World) (a : Nat) (p : PS) : Touch a (a + 1) w (World.put3 w a p) :=
  ((Touch.setCell (p := ⟨a, 0, none⟩) (Touch.refl _ _ _) (Nat.le_refl _) (Nat.lt_succ_self _) _).setCell (p := ⟨a, 1, none⟩) (Nat.le_refl _) (Nat.lt_succ_self _) _).setCell (p := ⟨a, 2, none⟩) (Nat.le_refl _) (Nat.lt_succ_self _) _
theorem touch5 (w : World) (a : Nat) (p : P5) : Touch a (a + 1) w (World.put5 w a p) :=
  ((((Touch.setCell (p := ⟨a, 0, none⟩) (Touch.refl _ _ _) (Nat.le_refl _) (Nat.lt_succ_self _) _).setCell (p := ⟨a, 1, none⟩) (Nat.le_refl _) (Nat.lt_succ_self _) _).setCell (p := ⟨a, 2, none⟩) (Nat.le_refl _) (Nat.lt_succ_self _) _).setCell (p := ⟨a, 3, none⟩) (Nat.le_refl _) (Nat.lt_succ_self _) _).setCell (p := ⟨a, 4, none⟩) (Nat.le_refl _) (Nat.lt_succ_self _) _
theorem CS.put {w : World} {a : Nat} {p : PS} (h : CS w a p) (p' : PS) : CS (World.put3 w a p') a p' := by
  obtain ⟨h0, h1, h2, h3⟩ := h
  unfold World.put3
  exact ⟨by simp [go_sem, h0, h1, h2], by simp [go_sem, h0, h1, h2], by simp [go_sem, h0, h1, h2], fun j => by rw [World.frozen?_setCell, World.frozen?_setCell, World.frozen?_setCell]; exact h3 j⟩
theorem CF.put {w : World} {a : Nat} {p : P5} (h : CF w a p) (p' : P5) : CF (World.put5 w a p') a p' := by
  obtain ⟨h0, h1, h2, h3, h4, h5⟩ := h
  unfold World.put5
  exact ⟨by simp [go_sem, h0, h1, h2, h3, h4], by simp [go_sem, h0, h1, h2, h3, h4], by simp [go_sem, h0, h1, h2, h3, h4], by simp [go_sem, h0, h1, h2, h3, h4], by simp [go_sem, h0, h1, h2, h3, h4], fun j => by rw [World.frozen?_setCell, World.frozen?_setCell, World.frozen?_setCell, World.frozen?_setCell, World.frozen?_setCell]; exact h5 j⟩
theorem CF.id {w : World} {a : Nat} {p : P5} (h : CF w a p) (x : Int) : CF (w.setCell ⟨a, 0, none⟩ (.int .i64 x)) a ⟨x, p.owner, p.shared, p.link, p.attrs⟩ := by
  obtain ⟨h0, h1, h2, h3, h4, h5⟩ := h
  exact ⟨by simp [go_sem, h0], by simp [go_sem, h1], by simp [go_sem, h2], by simp [go_sem, h3], by simp [go_sem, h4], fun j => by rw [World.frozen?_setCell]; exact h5 j⟩
theorem CS.new {w : World} {a : Nat} {x y : Value} {n : Int} (h : a = w.heap.size) : CS (w.alloc (.cells #[x, y, .int .i64 n] 27)) a ⟨x, y, n⟩ := by
  subst h
  exact ⟨by simp, by simp, by simp, fun j => by simp [go_sem]⟩
theorem CF.new {w : World} {a : Nat} {p : P5} (h : a = w.heap.size) : CF (w.alloc (.cells #[.int .i64 p.id, .int .i64 p.owner, .bool p.shared, .int .i64 p.link, p.attrs] 55)) a p := by
  subst h
  exact ⟨by simp, by simp, by simp, by simp, by simp, fun j => by simp [go_sem]⟩
theorem GrowF.setTy {w : World} {base : Nat} {v : Value} {fs : List Fl} (h : GrowF w base v fs) {p : Addr} (ht : TyAt w p.block 27) (u : Value) : GrowF (w.setCell p u) base v fs := by
  obtain ⟨ps, h1, h2⟩ := h
  refine ⟨ps, own_set h1 ht (by decide) u, h2.mono fun x q k => ⟨k.1, k.2.1, k.2.2.1, k.2.2.2.1, own_set k.2.2.2.2.1 ht (by decide) u, fun b hb => by have := k.2.2.2.2.2 b hb; simpa using this⟩⟩
theorem StG.setTy {w : World} {base : Nat} {s : St} {q : PS} (h : StG w base s q) {p : Addr} (ht : TyAt w p.block 27) (u : Value) : StG (w.setCell p u) base s q :=
  ⟨own_set h.q ht (by decide) u, h.r.setTy ht u, h.n⟩
structure SBox (w0 wc : World) (g ob : Nat) (s : St) (p : PS) : Prop where
  d : D g w0 wc
  lo : w0.heap.size < ob
  bx : Box wc w0.heap.size 3
  cs : CS wc ob p
  ty : TyAt wc ob 27
  st : StG wc (w0.heap.size + 1) s p
theorem SBox.step {w0 wc w2 : World} {g ob : Nat} {s : St} {p : PS} (h : SBox w0 wc g ob s p) (e : D g wc w2) : SBox w0 w2 g ob s p := by
  have hg := h.d.lt
  have hl := h.lo
  exact ⟨h.d.trans e, hl, h.bx.d e (by omega), h.cs.d e (by omega), h.ty.d e (by omega), h.st.d e (by omega)⟩
theorem SBox.grew {w0 wc w2 : World} {g ob : Nat} {s : St} {p : PS} (h : SBox w0 wc g ob s p) (e : Grew wc w2) : SBox w0 w2 g ob s p :=
  h.step ((D.refl h.d.cur).grew e)
theorem SBox.cur {w0 wc : World} {g ob : Nat} {s : St} {p : PS} (h : SBox w0 wc g ob s p) : Cur wc g := h.d.cur
theorem SBox.put {w0 wc : World} {g ob base' : Nat} {s s' : St} {p p' : PS} (h : SBox w0 wc g ob s p) (hs : StG wc base' s' p') (hb : w0.heap.size + 1 ≤ base') : SBox w0 (World.put3 wc ob p') g ob s' p' := by
  have hl := h.lo
  have t0 := h.ty
  refine ⟨?_, hl, ?_, h.cs.put p', ((t0.set _ _).set _ _).set _ _, ?_⟩
  · exact h.d.touch (touch3 wc ob p') (by omega)
  · exact ((h.bx.set _ _).set _ _).set _ _
  · exact (((hs.base hb).setTy (p := ⟨ob, 0, none⟩) t0 _).setTy (p := ⟨ob, 1, none⟩) (t0.set _ _) _).setTy (p := ⟨ob, 2, none⟩) ((t0.set _ _).set _ _) _
theorem SBox.new {w0 w : World} {g : Nat} {s : St} {p : PS} (d : D g w0 w) (bx : Box w w0.heap.size 3) (st : StG w (w0.heap.size + 1) s p) : SBox w0 (w.alloc (.cells #[p.q, p.r, .int .i64 p.n] 27)) g w.heap.size s p :=
  ⟨d.alloc _, bx.1, bx.grew ((Grew.refl _).alloc _), CS.new rfl, TyAt.new _ _ _, st.grew ((Grew.refl _).alloc _)⟩
set_option maxRecDepth 100000 in
set_option maxHeartbeats 2000000 in
theorem newStore (gb n c b0 : Nat) (xs : List Fd) (w : World) (hw : w.ownsRow b0 87 2 (.slice (some ⟨gb, 0, none⟩) n c) n (rows Fd.c xs)) (hn : n ≤ 1000) :
    Calls Tryz.prog 51 #[.slice (some ⟨gb, 0, none⟩) n c] w fun e w' => ∃ p : PS, e = .returned p.v ∧ StG w' w.heap.size ⟨xs, [], 1⟩ p ∧ Grew w w' := by
  obtain ⟨i0, hi, hz0, hz1, hz2⟩ := info_parts Tryz.infoFd
  have hlr := hw.1
  have hxl : xs.length = n := by rw [rows_length Fd.len] at hlr; omega
  have HXL := Lib.hid hxl
  have HC := Lib.hid hlr
  have gW := (Grew.refl w).alloc (.cells #[.slice none 0 0, .slice none 0 0, .int .i64 0] 27)
  obtain ⟨W, hW⟩ : ∃ W, W = w.alloc (.cells #[.slice none 0 0, .slice none 0 0, .int .i64 0] 27) := ⟨_, rfl⟩
  have hs : W.heap.size = w.heap.size + 1 := by rw [hW]; simp
  have HW := Lib.hid hW
  rw [← hW] at gW
  have HN := Lib.hid (fun j u hu => grew_cell (gW.alloc (.cells #[] 87)) (own_news hw 0 j u (by simpa using hu)))
  have HLIT : Hid ((W.alloc (.cells #[] 87)).ownsRow (w.heap.size + 1) 87 2 (.slice (some ⟨w.heap.size + 1, 0, none⟩) 0 0) 0 []) := by
    have h1 := lit_own W 87 2
    rw [hs] at h1
    exact Lib.hid h1
  clear hw hlr hxl hW
  go_enter Tryz.func51, Tryz.ntmps51
  go_wp2_with (at_builtin; refine wpList_append_own _ rfl _ _ 24 rfl (w.heap.size + 1) 87 i0 _ 2 24 Tryz.underlying24 hi hz0 hz1 hz2 rfl (by decide) _ 0 [] rfl (by rw [← HW.out]; exact HLIT.out) ⟨gb, 0, none⟩ n c (rows Fd.c xs) rfl ?c1 ?c2 ?c3 ?c4 ?c5 ?c6 ?_)
  case c1 => exact HC.out
  case c2 => rw [← HW.out]; exact HN.out
  case c3 => exact one_fd xs
  case c4 => unfold maxLen; omega
  case c5 => omega
  case c6 => simp
  intro v1 w1 hown1 hgr1 _
  rw [← HW.out] at hgr1
  have hgA : Grew W w1 := ((Grew.refl W).alloc (.cells #[] 87)).grown hgr1 (fun k h => by cases h; dsimp only; omega)
  have hg1 := gW.trans hgA
  have HO : Hid (w1.ownsRow (w.heap.size + 1) 87 2 v1 n (rows Fd.c xs)) := by simpa using Lib.hid hown1
  obtain ⟨a1, c1, rfl⟩ := own_slice HO.out
  clear hown1 hgr1
  have f0_0 := grew_cell (a := ⟨w.heap.size, 0, none⟩) (u := .slice none 0 0) hgA (by rw [HW.out]; simp)
  have f0_1 := grew_cell (a := ⟨w.heap.size, 1, none⟩) (u := .slice none 0 0) hgA (by rw [HW.out]; simp)
  have f0_2 := grew_cell (a := ⟨w.heap.size, 2, none⟩) (u := .int .i64 0) hgA (by rw [HW.out]; simp)
  have z0 := fun j => grew_frozen (a := ⟨w.heap.size, j, none⟩) hgA (by simp; omega) (by rw [HW.out]; simp [go_sem])
  go_wp2
  have ow1 := (ownsRow_setCell_below (ownsRow_setCell_below (ownsRow_setCell_below HO.out (a := ⟨w.heap.size, 0, none⟩) (by dsimp only; omega) (Value.slice a1 n c1)) (a := ⟨w.heap.size, 1, none⟩) (by dsimp only; omega) (Value.slice none 0 0)) (a := ⟨w.heap.size, 2, none⟩) (by dsimp only; omega) (Value.int .i64 1))
  refine bodyPost_ret (v := PS.v ⟨.slice a1 n c1, .slice none 0 0, 1⟩) (by simp [results, Tryz.results51, go_sem, f0_0, f0_1, f0_2]) rfl ⟨⟨.slice a1 n c1, .slice none 0 0, 1⟩, rfl, ⟨?_, GrowF.nil _ _, rfl⟩, ?_⟩
  · dsimp only
    rw [HXL.out]
    exact ownsRow_base ow1 (by omega)
  · repeat' (first | with_reducible exact hg1 | with_reducible refine Grew.setCell ?_ ?_ _ | (dsimp only; omega))
set_option maxRecDepth 100000 in
set_option maxHeartbeats 8000000 in
theorem l05Copy (s : St) (p : PS) (w : World) (h : St.R w s p) (hzs : s.sz ≤ 4000000) :
    Calls Tryz.prog 76 #[p.v] w fun e w' => ∃ p' : PS, e = .returned p'.v ∧ StG w' w.heap.size s p' ∧ Grew w w' := by
  obtain ⟨p_q, p_r, p_n⟩ := p
  obtain ⟨hq, hr, hn0⟩ := h
  simp only at hq hr hn0
  subst hn0
  have hsm := St.small_of hzs
  have hsl := hsm.1
  have hfl := hsm.2.1
  have HSM := Lib.hid hsm.2.2
  have HQ := Lib.hid hq
  have HR := Lib.hid hr
  clear hsm
  obtain ⟨qa, qc, rfl, hqc, hqa⟩ := hq
  obtain ⟨rps, ⟨ra, rc, rfl, hrc, hra⟩, hall⟩ := hr
  have HA := Lib.hid hall
  have HQA := Lib.hid hqa
  clear hall hqa
  obtain ⟨i0, hi, hz0, hz1, hz2⟩ := info_parts Tryz.infoFd
  obtain ⟨j0, hj, hy0, hy1, hy2⟩ := info_parts Tryz.infoFl
  generalize hnn : s.files.length = n at hfl hra
  have HN := Lib.hid hnn
  clear hnn
  have gW := ((Grew.refl w).alloc (.cells #[.slice qa s.schema.length qc, .slice ra n rc, .int .i64 s.next] 27)).alloc (.cells #[.slice none 0 0, .slice none 0 0, .int .i64 0] 27)
  have e0 : ((w.alloc (.cells #[.slice qa s.schema.length qc, .slice ra n rc, .int .i64 s.next] 27)).alloc (.cells #[.slice none 0 0, .slice none 0 0, .int .i64 0] 27)).cell? ⟨w.heap.size, 0, none⟩ = some (.slice qa s.schema.length qc) := by simp
  have e1 : ((w.alloc (.cells #[.slice qa s.schema.length qc, .slice ra n rc, .int .i64 s.next] 27)).alloc (.cells #[.slice none 0 0, .slice none 0 0, .int .i64 0] 27)).cell? ⟨w.heap.size, 1, none⟩ = some (.slice ra n rc) := by simp
  have e2 : ((w.alloc (.cells #[.slice qa s.schema.length qc, .slice ra n rc, .int .i64 s.next] 27)).alloc (.cells #[.slice none 0 0, .slice none 0 0, .int .i64 0] 27)).cell? ⟨w.heap.size, 2, none⟩ = some (.int .i64 s.next) := by simp
  have r0 : ((w.alloc (.cells #[.slice qa s.schema.length qc, .slice ra n rc, .int .i64 s.next] 27)).alloc (.cells #[.slice none 0 0, .slice none 0 0, .int .i64 0] 27)).cell? ⟨w.heap.size + 1, 0, none⟩ = some (.slice none 0 0) := by simp
  have r1 : ((w.alloc (.cells #[.slice qa s.schema.length qc, .slice ra n rc, .int .i64 s.next] 27)).alloc (.cells #[.slice none 0 0, .slice none 0 0, .int .i64 0] 27)).cell? ⟨w.heap.size + 1, 1, none⟩ = some (.slice none 0 0) := by simp
  have r2 : ((w.alloc (.cells #[.slice qa s.schema.length qc, .slice ra n rc, .int .i64 s.next] 27)).alloc (.cells #[.slice none 0 0, .slice none 0 0, .int .i64 0] 27)).cell? ⟨w.heap.size + 1, 2, none⟩ = some (.int .i64 0) := by simp
  have rz : ∀ j, ((w.alloc (.cells #[.slice qa s.schema.length qc, .slice ra n rc, .int .i64 s.next] 27)).alloc (.cells #[.slice none 0 0, .slice none 0 0, .int .i64 0] 27)).frozen? ⟨w.heap.size + 1, j, none⟩ = false := fun j => by simp [go_sem]
  have hsW : w.heap.size + 2 ≤ ((w.alloc (.cells #[.slice qa s.schema.length qc, .slice ra n rc, .int .i64 s.next] 27)).alloc (.cells #[.slice none 0 0, .slice none 0 0, .int .i64 0] 27)).heap.size := by simp
  go_enter Tryz.func76, Tryz.ntmps76
  go_upto_region 1 with fail
  generalize (w.alloc (.cells #[.slice qa s.schema.length qc, .slice ra n rc, .int .i64 s.next] 27)).alloc (.cells #[.slice none 0 0, .slice none 0 0, .int .i64 0] 27) = W at gW e0 e1 e2 r0 r1 r2 rz hsW ⊢
  go_cut [3] (fun o wc => ∃ ob sa sc, o = .pointer (some ⟨ob, 0, none⟩) ∧ Hid (Out wc ob wc.heap.size (.slice sa s.schema.length sc) (.slice none 0 0) s.next []) ∧ Hid (wc.ownsRow W.heap.size 87 2 (.slice sa s.schema.length sc) s.schema.length (rows Fd.c s.schema)) ∧ Hid (TyAt wc ob 27) ∧ W.heap.size ≤ ob ∧ Grew W wc)
  case first =>
    refine wp_region_noPanic ?_
    refine wp_region_held_drew (S := (fun w' => (w'.cell? ⟨w.heap.size, 0, none⟩ = some (.slice qa s.schema.length qc) ∧ w'.cell? ⟨w.heap.size, 2, none⟩ = some (.int .i64 s.next) ∧ Grew W w'))) (by kernel_rfl) ?h1_S ?h1_r
    case h1_S => exact ⟨grew_cell (Grew.refl _).drew e0, grew_cell (Grew.refl _).drew e2, (Grew.refl _).drew⟩
    case h1_r =>
     intro HS
     first | refine sk' 1 HS ?_ | refine tk' 1 HS ?_
     first | refine sk' 2 HS ?_ | refine tk' 2 HS ?_
     first | refine sk' 4 HS ?_ | refine tk' 4 HS ?_
     first | refine sk' 5 HS ?_ | refine tk' 5 HS ?_
     refine cl2 0 7 rfl rfl (by kernel_rfl) (fun K hK => ?a1_5_) (fun K hK => ?b1_5_)
     case a1_5_ =>
      rw [if_pos (by rfl)]
      go_simp
      refine hK.out _ _ ?s1_6_ ?r1_6_
      case s1_6_ => exact ⟨grew_cell ((Grew.refl _).alloc _) HS.1, grew_cell ((Grew.refl _).alloc _) HS.2.1, HS.2.2.alloc _⟩
      case r1_6_ =>
       clear HS hK K; intro HS
       try simp only [Act.put, lpa, lpb, lpc]
       refine cl2 3 7 rfl rfl (by kernel_rfl) (fun K hK => ?a1_7_) (fun K hK => ?b1_7_)
       case a1_7_ =>
        rw [if_pos (by rfl)]
        have HL := Lib.hid (ownsRow_grew (lit_own W 87 2) (Grew.refl _).drew)
        refine wp_append_any _ _ _ 24 rfl W.heap.size 87 i0 _ 2 24 Tryz.underlying24 hi hz0 hz1 hz2 rfl (by decide) _ 0 [] rfl HL.out qa s.schema.length qc (rows Fd.c s.schema) rfl (RdA.grew HQA.out (gW.trans HS.2.2)) (one_fd _) (by unfold maxLen; omega) (by omega) (by have := HS.2.2.size; exact this) ?_
        intro vs w3 hvs hgr
        have hg3 := HS.2.2.grown hgr (fun k h => (HL.out.lt k h).1)
        have HVS : Hid (w3.ownsRow W.heap.size 87 2 vs s.schema.length (rows Fd.c s.schema)) := by simpa using Lib.hid hvs
        obtain ⟨sa, sc, rfl⟩ := own_slice HVS.out
        clear hvs hgr
        refine hK.out _ _ ?s1_8_ ?r1_8_
        case s1_8_ => exact ⟨grew_cell hg3 e0, grew_cell hg3 e2, hg3⟩
        case r1_8_ =>
         clear HS hK K; intro HS
         try simp only [Act.put, lpa, lpb, lpc]
         first | refine sk' 6 HS ?_ | refine tk' 6 HS ?_
         refine cl' 7 fun K hK => ?_
         rw [if_pos (by rfl)]
         go_simp
         refine hK.out _ _ ?s1_10_ ?r1_10_
         case s1_10_ => exact ⟨grew_cell ((Grew.refl _).alloc _) HS.1, grew_cell ((Grew.refl _).alloc _) HS.2.1, HS.2.2.alloc _⟩
         case r1_10_ =>
          clear HS hK K; intro HS
          try simp only [Act.put, lpa, lpb, lpc]
          refine cl' 8 fun K hK => ?_
          rw [if_pos (by rfl)]
          go_simp
          refine hK.out _ _ ?s1_11_ ?r1_11_
          case s1_11_ => exact ⟨grew_cell (hg3.alloc _) e0, grew_cell (hg3.alloc _) e2, hg3.alloc _⟩
          case r1_11_ =>
           clear HS hK K; intro HS
           try simp only [Act.put, lpa, lpb, lpc]
           refine wpAnyH_done (by kernel_rfl) ?_ _
           refine NoPanic.normal ?_
           have hgF := HS.2.2
           clear HS
           have HOUT := Lib.hid (Out.fresh w3 (.slice sa s.schema.length sc) s.next)
           have HROW := Lib.hid (ownsRow_grew HVS.out ((Grew.refl _).alloc (.cells #[.slice sa s.schema.length sc, .slice none 0 0, .int .i64 s.next] 27)))
           have HTY := Lib.hid (TyAt.new w3 #[.slice sa s.schema.length sc, .slice none 0 0, .int .i64 s.next] 27)
           go_wp2_with fail
           go_meet
           exact ⟨w3.heap.size, sa, sc, rfl, HOUT, HROW, HTY, hg3.size, hgF⟩
       case b1_7_ =>
        rw [if_pos (by rfl)]
        go_simp
        refine hK.out _ _ ?s1_12_ ?r1_12_
        case s1_12_ => exact ⟨grew_cell ((Grew.refl _).alloc _) HS.1, grew_cell ((Grew.refl _).alloc _) HS.2.1, HS.2.2.alloc _⟩
        case r1_12_ =>
         clear HS hK K; intro HS
         try simp only [Act.put, lpa, lpb, lpc]
         refine cl' 3 fun K hK => ?_
         rw [if_pos (by rfl)]
         have HL := Lib.hid (ownsRow_grew (lit_own W 87 2) (((Grew.refl _).alloc (.cells #[.slice none 0 0, .slice none 0 0, .int .i64 0] 27)).drew))
         have TB : TyAt (((W.alloc (.cells #[] 87)).alloc (.cells #[.slice none 0 0, .slice none 0 0, .int .i64 0] 27)).drew) (W.heap.size + 1) 27 := by have h := (TyAt.new (W.alloc (.cells #[] 87)) #[.slice none 0 0, .slice none 0 0, .int .i64 0] 27).grew (Grew.refl _).drew; simpa using h
         refine wp_append_any _ _ _ 24 rfl W.heap.size 87 i0 _ 2 24 Tryz.underlying24 hi hz0 hz1 hz2 rfl (by decide) _ 0 [] rfl HL.out qa s.schema.length qc (rows Fd.c s.schema) rfl (RdA.grew HQA.out (gW.trans HS.2.2)) (one_fd _) (by unfold maxLen; omega) (by omega) (by have := HS.2.2.size; exact this) ?_
         intro vs w3 hvs hgr
         have hg3 := HS.2.2.grown hgr (fun k h => (HL.out.lt k h).1)
         have HVS : Hid (w3.ownsRow W.heap.size 87 2 vs s.schema.length (rows Fd.c s.schema)) := by simpa using Lib.hid hvs
         have T3 := TB.grownOwn HL.out hgr (by decide)
         have hne : some (W.heap.size + 1) ≠ (Value.slice (some ⟨W.heap.size, 0, none⟩) 0 0).ownBlock := fun e => own_nety HL.out TB (by decide) _ e.symm rfl
         have k0 := hgr.cell (show World.cell? _ ⟨(W.heap.size + 1), 0, none⟩ = some (.slice none 0 0) by simp <;> omega) hne
         have k1 := hgr.cell (show World.cell? _ ⟨(W.heap.size + 1), 1, none⟩ = some (.slice none 0 0) by simp <;> omega) hne
         have k2 := hgr.cell (show World.cell? _ ⟨(W.heap.size + 1), 2, none⟩ = some (.int .i64 0) by simp <;> omega) hne
         have zz : ∀ j, w3.frozen? ⟨(W.heap.size + 1), j, none⟩ = false := fun j => by rw [World.frozen?_of_block (hgr.block (W.heap.size + 1) (by simp <;> omega) hne)]; simp [go_sem]
         obtain ⟨sa, sc, rfl⟩ := own_slice HVS.out
         clear hvs hgr
         refine hK.out _ _ ?s1_13_ ?r1_13_
         case s1_13_ => exact ⟨grew_cell hg3 e0, grew_cell hg3 e2, hg3⟩
         case r1_13_ =>
          clear HS hK K; intro HS
          try simp only [Act.put, lpa, lpb, lpc]
          first | refine sk' 6 HS ?_ | refine tk' 6 HS ?_
          refine cl' 8 fun K hK => ?_
          rw [if_pos (by rfl)]
          go_simp
          refine hK.out _ _ ?s1_15_ ?r1_15_
          case s1_15_ => exact ⟨cell_set_ne (cell_set_ne (cell_set_ne HS.1 (by dsimp only; omega)) (by dsimp only; omega)) (by dsimp only; omega), cell_set_ne (cell_set_ne (cell_set_ne HS.2.1 (by dsimp only; omega)) (by dsimp only; omega)) (by dsimp only; omega), ((HS.2.2.setCell (by dsimp only; omega) _).setCell (by dsimp only; omega) _).setCell (by dsimp only; omega) _⟩
          case r1_15_ =>
           clear HS hK K; intro HS
           try simp only [Act.put, lpa, lpb, lpc]
           refine wpAnyH_done (by kernel_rfl) ?_ _
           refine NoPanic.normal ?_
           have hgF := HS.2.2
           clear HS
           have HOUT := Lib.hid (Out.stored (vs := .slice sa s.schema.length sc) (nx := s.next) T3.lt k0 k1 k2 zz)
           have HROW := Lib.hid (own_set (own_set (own_set HVS.out T3 (by decide) (.slice sa s.schema.length sc) (p := ⟨(W.heap.size + 1), 0, none⟩)) (T3.set _ _) (by decide) (.slice none 0 0) (p := ⟨(W.heap.size + 1), 1, none⟩)) ((T3.set _ _).set _ _) (by decide) (.int .i64 s.next) (p := ⟨(W.heap.size + 1), 2, none⟩))
           have HTY := Lib.hid (((T3.set ⟨(W.heap.size + 1), 0, none⟩ (.slice sa s.schema.length sc)).set ⟨(W.heap.size + 1), 1, none⟩ (.slice none 0 0)).set ⟨(W.heap.size + 1), 2, none⟩ (.int .i64 s.next))
           go_wp2_with fail
           go_meet
           exact ⟨(W.heap.size + 1), sa, sc, rfl, HOUT, HROW, HTY, by omega, hgF⟩
     case b1_5_ =>
      rw [if_pos (by rfl)]
      go_simp
      refine hK.out _ _ ?s1_16_ ?r1_16_
      case s1_16_ => exact ⟨grew_cell ((Grew.refl _).alloc _) HS.1, grew_cell ((Grew.refl _).alloc _) HS.2.1, HS.2.2.alloc _⟩
      case r1_16_ =>
       clear HS hK K; intro HS
       try simp only [Act.put, lpa, lpb, lpc]
       refine cl' 0 fun K hK => ?_
       rw [if_pos (by rfl)]
       go_simp
       refine hK.out _ _ ?s1_17_ ?r1_17_
       case s1_17_ => exact ⟨grew_cell ((Grew.refl _).alloc _) HS.1, grew_cell ((Grew.refl _).alloc _) HS.2.1, HS.2.2.alloc _⟩
       case r1_17_ =>
        clear HS hK K; intro HS
        try simp only [Act.put, lpa, lpb, lpc]
        refine cl' 3 fun K hK => ?_
        rw [if_pos (by rfl)]
        have HL : Hid ((((W.alloc (.cells #[.slice none 0 0, .slice none 0 0, .int .i64 0] 27)).alloc (.cells #[] 87)).drew).ownsRow W.heap.size 87 2 (.slice (some ⟨W.heap.size + 1, 0, none⟩) 0 0) 0 []) := Lib.hid (by have h := ownsRow_base (ownsRow_grew (lit_own (W.alloc (.cells #[.slice none 0 0, .slice none 0 0, .int .i64 0] 27)) 87 2) (Grew.refl _).drew) (base' := W.heap.size) (by simp); simpa using h)
        have TB : TyAt (((W.alloc (.cells #[.slice none 0 0, .slice none 0 0, .int .i64 0] 27)).alloc (.cells #[] 87)).drew) W.heap.size 27 := (TyAt.new W #[.slice none 0 0, .slice none 0 0, .int .i64 0] 27).grew (((Grew.refl _).alloc _).drew)
        refine wp_append_any _ _ _ 24 rfl W.heap.size 87 i0 _ 2 24 Tryz.underlying24 hi hz0 hz1 hz2 rfl (by decide) _ 0 [] rfl HL.out qa s.schema.length qc (rows Fd.c s.schema) rfl (RdA.grew HQA.out (gW.trans HS.2.2)) (one_fd _) (by unfold maxLen; omega) (by omega) (by have := HS.2.2.size; exact this) ?_
        intro vs w3 hvs hgr
        have hg3 := HS.2.2.grown hgr (fun k h => (HL.out.lt k h).1)
        have HVS : Hid (w3.ownsRow W.heap.size 87 2 vs s.schema.length (rows Fd.c s.schema)) := by simpa using Lib.hid hvs
        have T3 := TB.grownOwn HL.out hgr (by decide)
        have hne : some W.heap.size ≠ (Value.slice (some ⟨W.heap.size + 1, 0, none⟩) 0 0).ownBlock := fun e => own_nety HL.out TB (by decide) _ e.symm rfl
        have k0 := hgr.cell (show World.cell? _ ⟨W.heap.size, 0, none⟩ = some (.slice none 0 0) by simp <;> omega) hne
        have k1 := hgr.cell (show World.cell? _ ⟨W.heap.size, 1, none⟩ = some (.slice none 0 0) by simp <;> omega) hne
        have k2 := hgr.cell (show World.cell? _ ⟨W.heap.size, 2, none⟩ = some (.int .i64 0) by simp <;> omega) hne
        have zz : ∀ j, w3.frozen? ⟨W.heap.size, j, none⟩ = false := fun j => by rw [World.frozen?_of_block (hgr.block W.heap.size (by simp <;> omega) hne)]; simp [go_sem]
        obtain ⟨sa, sc, rfl⟩ := own_slice HVS.out
        clear hvs hgr
        refine hK.out _ _ ?s1_18_ ?r1_18_
        case s1_18_ => exact ⟨grew_cell hg3 e0, grew_cell hg3 e2, hg3⟩
        case r1_18_ =>
         clear HS hK K; intro HS
         try simp only [Act.put, lpa, lpb, lpc]
         first | refine sk' 6 HS ?_ | refine tk' 6 HS ?_
         refine cl' 8 fun K hK => ?_
         rw [if_pos (by rfl)]
         go_simp
         refine hK.out _ _ ?s1_20_ ?r1_20_
         case s1_20_ => exact ⟨cell_set_ne (cell_set_ne (cell_set_ne HS.1 (by dsimp only; omega)) (by dsimp only; omega)) (by dsimp only; omega), cell_set_ne (cell_set_ne (cell_set_ne HS.2.1 (by dsimp only; omega)) (by dsimp only; omega)) (by dsimp only; omega), ((HS.2.2.setCell (by dsimp only; omega) _).setCell (by dsimp only; omega) _).setCell (by dsimp only; omega) _⟩
         case r1_20_ =>
          clear HS hK K; intro HS
          try simp only [Act.put, lpa, lpb, lpc]
          refine wpAnyH_done (by kernel_rfl) ?_ _
          refine NoPanic.normal ?_
          have hgF := HS.2.2
          clear HS
          have HOUT := Lib.hid (Out.stored (vs := .slice sa s.schema.length sc) (nx := s.next) T3.lt k0 k1 k2 zz)
          have HROW := Lib.hid (own_set (own_set (own_set HVS.out T3 (by decide) (.slice sa s.schema.length sc) (p := ⟨W.heap.size, 0, none⟩)) (T3.set _ _) (by decide) (.slice none 0 0) (p := ⟨W.heap.size, 1, none⟩)) ((T3.set _ _).set _ _) (by decide) (.int .i64 s.next) (p := ⟨W.heap.size, 2, none⟩))
          have HTY := Lib.hid (((T3.set ⟨W.heap.size, 0, none⟩ (.slice sa s.schema.length sc)).set ⟨W.heap.size, 1, none⟩ (.slice none 0 0)).set ⟨W.heap.size, 2, none⟩ (.int .i64 s.next))
          go_wp2_with fail
          go_meet
          exact ⟨W.heap.size, sa, sc, rfl, HOUT, HROW, HTY, by omega, hgF⟩
  case rest =>
    obtain ⟨ob, sa, sc, rfl, hO, hV, hT, hob, hgc⟩ := hcut
    have HVB := Lib.hid (fun b hb => (And.intro (hV.out.lt b hb).1 (own_nety hV.out hT.out (by decide) b hb) : W.heap.size ≤ b ∧ b ≠ ob))
    have HRV := Lib.hid hV.out
    have gwc := gW.trans hgc
    have hT0 := Touch.refl ob (ob + 1) wc
    have hobl := hO.out.lt
    obtain ⟨WC, hWC⟩ : ∃ x, x = wc := ⟨_, rfl⟩
    rw [← hWC] at hT0 HRV hgc gwc hobl
    have HO : Hid (Out wc ob WC.heap.size (.slice sa s.schema.length sc) (.slice none 0 0) s.next (s.files.take 0)) := by rw [hWC]; exact hO
    subst hWC
    clear hV hT hO e0 e2
    go_wp2
    go_loopw [4] (fun i wr => ∃ (k : Nat) (v : Value), k ≤ n ∧ i = .int .i64 k ∧ Hid (Out wr ob WC.heap.size (.slice sa s.schema.length sc) v s.next (s.files.take k)) ∧ Touch ob (ob + 1) WC wr) (fun i _ => n - (intOf i).toNat)
    case atStart => exact ⟨0, _, Nat.zero_le _, rfl, HO, hT0⟩
    case round =>
      obtain ⟨k, v, hk, rfl, HK, ht⟩ := hrel
      have gr : Grew w wr := Touch.new gwc ht (by have := hgc.size; have := gW.size; omega)
      have gr2 : Grew W wr := Touch.new hgc ht hob
      have e1' := grew_cell gr2 e1
      by_cases hlt : k < n
      · obtain ⟨b1, o1, p, rfl, hpk, c0, c1, c2, c3, c4⟩ := hra.getP5 hlt
        obtain ⟨x, hxk, hxr⟩ := HA.out.get hpk.out
        have hb1 := lt_of_cell c0
        simp only at hb1
        replace c0 := grew_cell gr c0
        replace c1 := grew_cell gr c1
        replace c2 := grew_cell gr c2
        replace c3 := grew_cell gr c3
        replace c4 := grew_cell gr c4
        have HXR := Lib.hid hxr
        have HXS := Lib.hid (HSM.out x (List.mem_of_getElem? hxk.out))
        clear hxr
        have hk0 : (0 : Int) ≤ k := by omega
        have hkn : (k : Int) < n := by omega
        obtain ⟨p_1, p_2, p_3, p_4, p_5⟩ := p
        simp only at c0 c1 c2 c3 c4
        obtain ⟨fs, hfs⟩ : ∃ x, s.files.take k = x := ⟨_, rfl⟩
        have hk1 := HK.out
        rw [hfs] at hk1
        have HKA := Lib.hid (hk1.grew (Grew.refl wr).drew)
        have HFS := Lib.hid hfs
        have hca := HKA.out.c1
        have z1 := HKA.out.fz 1
        have hfl2 : fs.length ≤ n := by rw [← hfs, List.length_take]; omega
        clear hk1 hfs
        have htb := ht.drew
        have gra := gr
        obtain ⟨ps, h1, h2⟩ := HKA.out.row
        have H1 := Lib.hid h1
        have H2 := Lib.hid h2
        obtain ⟨va, vc, rfl⟩ := own_slice h1
        have hle := HKA.out.le
        clear h1 h2
        go_wp2_with fail
        have hwob : w.heap.size + 1 < ob := by have := hgc.size; omega
        have hwcs := gwc.size
        refine wp_region_noPanic ?_
        refine wp_region_held_drew (S := (fun w' => (w'.cell? ⟨w.heap.size, 1, none⟩ = some (.slice (some ⟨b1, o1, none⟩) n rc) ∧ w'.cell? ⟨b1, o1 + k * 5, none⟩ = some (.int .i64 p_1) ∧ w'.cell? ⟨b1, o1 + k * 5 + 1, none⟩ = some (.int .i64 p_2) ∧ w'.cell? ⟨b1, o1 + k * 5 + 2, none⟩ = some (.bool p_3) ∧ w'.cell? ⟨b1, o1 + k * 5 + 3, none⟩ = some (.int .i64 p_4) ∧ w'.cell? ⟨b1, o1 + k * 5 + 4, none⟩ = some (p_5) ∧ Touch ob (ob + 1) WC w' ∧ Grew w w'))) (by kernel_rfl) ?h2_S ?h2_r
        case h2_S => exact ⟨grew_cell (Grew.refl _).drew e1', grew_cell (Grew.refl _).drew c0, grew_cell (Grew.refl _).drew c1, grew_cell (Grew.refl _).drew c2, grew_cell (Grew.refl _).drew c3, grew_cell (Grew.refl _).drew c4, htb, gra.drew⟩
        case h2_r =>
         intro HS
         first | refine sk' 0 HS ?_ | refine tk' 0 HS ?_
         first | refine sk' 2 HS ?_ | refine tk' 2 HS ?_
         first | refine sk' 3 HS ?_ | refine tk' 3 HS ?_
         first | refine sk' 4 HS ?_ | refine tk' 4 HS ?_
         first | refine sk' 5 HS ?_ | refine tk' 5 HS ?_
         first | refine sk' 6 HS ?_ | refine tk' 6 HS ?_
         refine cl2 1 7 rfl rfl (by kernel_rfl) (fun K hK => ?a2_7_) (fun K hK => ?b2_7_)
         case a2_7_ =>
          rw [if_pos (by rfl)]
          go_simp
          refine hK.out _ _ ?s2_8_ ?r2_8_
          case s2_8_ => exact HS
          case r2_8_ =>
           clear HS hK K; intro HS
           try simp only [Act.put, lpa, lpb, lpc]
           refine cl' 7 fun K hK => ?_
           rw [if_pos (by rfl)]
           go_simp
           go_at_call 44
           refine (l04Copy x ⟨p_1, p_2, p_3, p_4, p_5⟩ _ (HXR.out.grew (HS.2.2.2.2.2.2.2)) HXS.out).mono ?_
           rintro e w6 ⟨q, rfl, hq, hb⟩
           obtain ⟨q_1, q_2, q_3, q_4, q_5⟩ := q
           obtain ⟨q_a, q_c, hq5⟩ := own_slice hq.2.2.2.2.1
           simp only at hq5
           subst hq5
           have HQ6 := Lib.hid hq
           clear hq
           have H61 := Lib.hid (ownsRow_grew H1.out hb)
           have H62 : Hid (All2 (Fl.O w6 WC.heap.size wr.drew.heap.size) fs ps) := Lib.hid (H2.out.mono fun x p h => h.grew hb)
           have HK6 := Lib.hid (HKA.out.grew hb)
           have hs6 := hb.size
           refine hK.out _ _ ?s2_9_ ?r2_9_
           case s2_9_ => exact ⟨grew_cell (hb) (HS.1), grew_cell (hb) (HS.2.1), grew_cell (hb) (HS.2.2.1), grew_cell (hb) (HS.2.2.2.1), grew_cell (hb) (HS.2.2.2.2.1), grew_cell (hb) (HS.2.2.2.2.2.1), HS.2.2.2.2.2.2.1.grew (hb), HS.2.2.2.2.2.2.2.trans (hb)⟩
           case r2_9_ =>
            have hc6 := HK6.out.c1
            clear HS hK K; intro HS
            try simp only [Act.put, lpa, lpb, lpc]
            refine cl' 8 fun K hK => ?_
            rw [if_pos (by rfl)]
            go_simp
            refine hK.out _ _ ?s2_10_ ?r2_10_
            case s2_10_ => exact ⟨grew_cell ((Grew.refl _).alloc (.cells #[.int .i64 q_1, .int .i64 q_2, .bool q_3, .int .i64 q_4, .slice q_a x.attrs.length q_c] 55)) (HS.1), grew_cell ((Grew.refl _).alloc (.cells #[.int .i64 q_1, .int .i64 q_2, .bool q_3, .int .i64 q_4, .slice q_a x.attrs.length q_c] 55)) (HS.2.1), grew_cell ((Grew.refl _).alloc (.cells #[.int .i64 q_1, .int .i64 q_2, .bool q_3, .int .i64 q_4, .slice q_a x.attrs.length q_c] 55)) (HS.2.2.1), grew_cell ((Grew.refl _).alloc (.cells #[.int .i64 q_1, .int .i64 q_2, .bool q_3, .int .i64 q_4, .slice q_a x.attrs.length q_c] 55)) (HS.2.2.2.1), grew_cell ((Grew.refl _).alloc (.cells #[.int .i64 q_1, .int .i64 q_2, .bool q_3, .int .i64 q_4, .slice q_a x.attrs.length q_c] 55)) (HS.2.2.2.2.1), grew_cell ((Grew.refl _).alloc (.cells #[.int .i64 q_1, .int .i64 q_2, .bool q_3, .int .i64 q_4, .slice q_a x.attrs.length q_c] 55)) (HS.2.2.2.2.2.1), HS.2.2.2.2.2.2.1.grew ((Grew.refl _).alloc (.cells #[.int .i64 q_1, .int .i64 q_2, .bool q_3, .int .i64 q_4, .slice q_a x.attrs.length q_c] 55)), HS.2.2.2.2.2.2.2.trans ((Grew.refl _).alloc (.cells #[.int .i64 q_1, .int .i64 q_2, .bool q_3, .int .i64 q_4, .slice q_a x.attrs.length q_c] 55))⟩
            case r2_10_ =>
             have hc7 := grew_cell ((Grew.refl _).alloc (.cells #[.int .i64 q_1, .int .i64 q_2, .bool q_3, .int .i64 q_4, .slice q_a x.attrs.length q_c] 55)) hc6
             clear HS hK K; intro HS
             try simp only [Act.put, lpa, lpb, lpc]
             refine cl' 9 fun K hK => ?_
             rw [if_pos (by rfl)]
             have HKB := Lib.hid (HK6.out.grew ((Grew.refl _).alloc (.cells #[.int .i64 q_1, .int .i64 q_2, .bool q_3, .int .i64 q_4, .slice q_a x.attrs.length q_c] 55)))
             have H71 := Lib.hid (ownsRow_grew H61.out ((Grew.refl _).alloc (.cells #[.int .i64 q_1, .int .i64 q_2, .bool q_3, .int .i64 q_4, .slice q_a x.attrs.length q_c] 55)))
             have H72 : Hid (All2 (Fl.O (w6.alloc (.cells #[.int .i64 q_1, .int .i64 q_2, .bool q_3, .int .i64 q_4, .slice q_a x.attrs.length q_c] 55)) WC.heap.size wr.drew.heap.size) fs ps) := Lib.hid (H62.out.mono fun x_ p_ h_ => h_.grew ((Grew.refl _).alloc (.cells #[.int .i64 q_1, .int .i64 q_2, .bool q_3, .int .i64 q_4, .slice q_a x.attrs.length q_c] 55)))
             have HQ7 := Lib.hid ((HQ6.out.grew ((Grew.refl _).alloc (.cells #[.int .i64 q_1, .int .i64 q_2, .bool q_3, .int .i64 q_4, .slice q_a x.attrs.length q_c] 55))).mono (Nat.le_refl _) ((Grew.refl w6).alloc (.cells #[.int .i64 q_1, .int .i64 q_2, .bool q_3, .int .i64 q_4, .slice q_a x.attrs.length q_c] 55)).size)
             have hle7 := HKB.out.le
             refine wp_append_own _ _ _ 25 rfl WC.heap.size 55 j0 _ 5 56 Tryz.underlying25 hj hy0 hy1 hy2 rfl (by decide) _ _ _ rfl H71.out ⟨_, 0, none⟩ 1 1 (P5.c ⟨q_1, q_2, q_3, q_4, .slice q_a x.attrs.length q_c⟩) rfl rfl (lit_news rfl) (fun x hx => by simp [P5.c] at hx; rcases hx with rfl | rfl | rfl | rfl | rfl <;> rfl) (by unfold maxLen; omega) (by omega) hle7 ?_
             intro v' w7 hown' hgr2 _
             have hrow : GrowF w7 WC.heap.size v' (s.files.take (k + 1)) := by rw [take_snoc hxk.out, HFS.out]; exact GrowF.snoc H71.out H72.out HQ7.out hle (Nat.le_trans hs6 ((Grew.refl w6).alloc (.cells #[.int .i64 q_1, .int .i64 q_2, .bool q_3, .int .i64 q_4, .slice q_a x.attrs.length q_c] 55)).size) hown' hgr2 hgr2.size
             have HF := Lib.hid (HKB.out.put hgr2 hrow)
             have hlt7 : ∀ j, (Value.slice va fs.length vc).ownBlock = some j → WC.heap.size ≤ j := fun j h => (H71.out.lt j h).1
             have hoo : some ob ≠ (Value.slice va fs.length vc).ownBlock := fun e => by have := hlt7 ob e.symm; omega
             have k1 := hgr2.cell HKB.out.c1 hoo
             have zz1 : w7.frozen? ⟨ob, 1, none⟩ = false := by rw [World.frozen?_of_block (hgr2.block ob (by have := HKB.out.lt; omega) hoo)]; exact HKB.out.fz 1
             have hlow : ∀ j, (Value.slice va fs.length vc).ownBlock = some j → w.heap.size < j := fun j h => by have := hlt7 j h; have := gwc.size; omega
             obtain ⟨va2, vc2, rfl⟩ := own_slice hown'
             clear hown'
             refine hK.out _ _ ?s2_11_ ?r2_11_
             case s2_11_ => exact ⟨hgr2.cell (HS.1) (fun e => by have := hlow _ e.symm; dsimp only at this; omega), hgr2.cell (HS.2.1) (fun e => by have := hlow _ e.symm; dsimp only at this; omega), hgr2.cell (HS.2.2.1) (fun e => by have := hlow _ e.symm; dsimp only at this; omega), hgr2.cell (HS.2.2.2.1) (fun e => by have := hlow _ e.symm; dsimp only at this; omega), hgr2.cell (HS.2.2.2.2.1) (fun e => by have := hlow _ e.symm; dsimp only at this; omega), hgr2.cell (HS.2.2.2.2.2.1) (fun e => by have := hlow _ e.symm; dsimp only at this; omega), HS.2.2.2.2.2.2.1.grown hgr2 hlt7, HS.2.2.2.2.2.2.2.grown hgr2 (fun j h => Nat.le_of_lt (hlow j h))⟩
             case r2_11_ =>
              clear HS hK K; intro HS
              try simp only [Act.put, lpa, lpb, lpc]
              first | refine sk' 10 HS ?_ | refine tk' 10 HS ?_
              refine cl' 11 fun K hK => ?_
              rw [if_pos (by rfl)]
              go_simp
              refine hK.out _ _ ?s2_13_ ?r2_13_
              case s2_13_ => exact ⟨cell_set_ne (HS.1) (by dsimp only; omega), cell_set_ne (HS.2.1) (by dsimp only; omega), cell_set_ne (HS.2.2.1) (by dsimp only; omega), cell_set_ne (HS.2.2.2.1) (by dsimp only; omega), cell_set_ne (HS.2.2.2.2.1) (by dsimp only; omega), cell_set_ne (HS.2.2.2.2.2.1) (by dsimp only; omega), HS.2.2.2.2.2.2.1.setCell (Nat.le_refl _) (Nat.lt_succ_self _) _, HS.2.2.2.2.2.2.2.setCell (by dsimp only; omega) _⟩
              case r2_13_ =>
               clear HS hK K; intro HS
               try simp only [Act.put, lpa, lpb, lpc]
               refine wpAnyH_done (by kernel_rfl) ?_ _
               refine NoPanic.normal ?_
               have htF := HS.2.2.2.2.2.2.1
               clear HS
               go_wp2
               go_roundw
               case rel => exact ⟨k + 1, _, by omega, by go_num, HF, htF⟩
               case measure => simp [intOf]; omega
         case b2_7_ =>
          rw [if_pos (by rfl)]
          go_simp
          go_at_call 44
          refine (l04Copy x ⟨p_1, p_2, p_3, p_4, p_5⟩ _ (HXR.out.grew (HS.2.2.2.2.2.2.2)) HXS.out).mono ?_
          rintro e w6 ⟨q, rfl, hq, hb⟩
          obtain ⟨q_1, q_2, q_3, q_4, q_5⟩ := q
          obtain ⟨q_a, q_c, hq5⟩ := own_slice hq.2.2.2.2.1
          simp only at hq5
          subst hq5
          have HQ6 := Lib.hid hq
          clear hq
          have H61 := Lib.hid (ownsRow_grew H1.out hb)
          have H62 : Hid (All2 (Fl.O w6 WC.heap.size wr.drew.heap.size) fs ps) := Lib.hid (H2.out.mono fun x p h => h.grew hb)
          have HK6 := Lib.hid (HKA.out.grew hb)
          have hs6 := hb.size
          refine hK.out _ _ ?s2_14_ ?r2_14_
          case s2_14_ => exact ⟨grew_cell (hb) (HS.1), grew_cell (hb) (HS.2.1), grew_cell (hb) (HS.2.2.1), grew_cell (hb) (HS.2.2.2.1), grew_cell (hb) (HS.2.2.2.2.1), grew_cell (hb) (HS.2.2.2.2.2.1), HS.2.2.2.2.2.2.1.grew (hb), HS.2.2.2.2.2.2.2.trans (hb)⟩
          case r2_14_ =>
           have hc6 := HK6.out.c1
           clear HS hK K; intro HS
           try simp only [Act.put, lpa, lpb, lpc]
           refine cl2 1 8 rfl rfl (by kernel_rfl) (fun K hK => ?a2_15_) (fun K hK => ?b2_15_)
           case a2_15_ =>
            rw [if_pos (by rfl)]
            go_simp
            refine hK.out _ _ ?s2_16_ ?r2_16_
            case s2_16_ => exact HS
            case r2_16_ =>
             clear HS hK K; intro HS
             try simp only [Act.put, lpa, lpb, lpc]
             refine cl' 8 fun K hK => ?_
             rw [if_pos (by rfl)]
             go_simp
             refine hK.out _ _ ?s2_17_ ?r2_17_
             case s2_17_ => exact ⟨grew_cell ((Grew.refl _).alloc (.cells #[.int .i64 q_1, .int .i64 q_2, .bool q_3, .int .i64 q_4, .slice q_a x.attrs.length q_c] 55)) (HS.1), grew_cell ((Grew.refl _).alloc (.cells #[.int .i64 q_1, .int .i64 q_2, .bool q_3, .int .i64 q_4, .slice q_a x.attrs.length q_c] 55)) (HS.2.1), grew_cell ((Grew.refl _).alloc (.cells #[.int .i64 q_1, .int .i64 q_2, .bool q_3, .int .i64 q_4, .slice q_a x.attrs.length q_c] 55)) (HS.2.2.1), grew_cell ((Grew.refl _).alloc (.cells #[.int .i64 q_1, .int .i64 q_2, .bool q_3, .int .i64 q_4, .slice q_a x.attrs.length q_c] 55)) (HS.2.2.2.1), grew_cell ((Grew.refl _).alloc (.cells #[.int .i64 q_1, .int .i64 q_2, .bool q_3, .int .i64 q_4, .slice q_a x.attrs.length q_c] 55)) (HS.2.2.2.2.1), grew_cell ((Grew.refl _).alloc (.cells #[.int .i64 q_1, .int .i64 q_2, .bool q_3, .int .i64 q_4, .slice q_a x.attrs.length q_c] 55)) (HS.2.2.2.2.2.1), HS.2.2.2.2.2.2.1.grew ((Grew.refl _).alloc (.cells #[.int .i64 q_1, .int .i64 q_2, .bool q_3, .int .i64 q_4, .slice q_a x.attrs.length q_c] 55)), HS.2.2.2.2.2.2.2.trans ((Grew.refl _).alloc (.cells #[.int .i64 q_1, .int .i64 q_2, .bool q_3, .int .i64 q_4, .slice q_a x.attrs.length q_c] 55))⟩
             case r2_17_ =>
              have hc7 := grew_cell ((Grew.refl _).alloc (.cells #[.int .i64 q_1, .int .i64 q_2, .bool q_3, .int .i64 q_4, .slice q_a x.attrs.length q_c] 55)) hc6
              clear HS hK K; intro HS
              try simp only [Act.put, lpa, lpb, lpc]
              refine cl' 9 fun K hK => ?_
              rw [if_pos (by rfl)]
              have HKB := Lib.hid (HK6.out.grew ((Grew.refl _).alloc (.cells #[.int .i64 q_1, .int .i64 q_2, .bool q_3, .int .i64 q_4, .slice q_a x.attrs.length q_c] 55)))
              have H71 := Lib.hid (ownsRow_grew H61.out ((Grew.refl _).alloc (.cells #[.int .i64 q_1, .int .i64 q_2, .bool q_3, .int .i64 q_4, .slice q_a x.attrs.length q_c] 55)))
              have H72 : Hid (All2 (Fl.O (w6.alloc (.cells #[.int .i64 q_1, .int .i64 q_2, .bool q_3, .int .i64 q_4, .slice q_a x.attrs.length q_c] 55)) WC.heap.size wr.drew.heap.size) fs ps) := Lib.hid (H62.out.mono fun x_ p_ h_ => h_.grew ((Grew.refl _).alloc (.cells #[.int .i64 q_1, .int .i64 q_2, .bool q_3, .int .i64 q_4, .slice q_a x.attrs.length q_c] 55)))
              have HQ7 := Lib.hid ((HQ6.out.grew ((Grew.refl _).alloc (.cells #[.int .i64 q_1, .int .i64 q_2, .bool q_3, .int .i64 q_4, .slice q_a x.attrs.length q_c] 55))).mono (Nat.le_refl _) ((Grew.refl w6).alloc (.cells #[.int .i64 q_1, .int .i64 q_2, .bool q_3, .int .i64 q_4, .slice q_a x.attrs.length q_c] 55)).size)
              have hle7 := HKB.out.le
              refine wp_append_own _ _ _ 25 rfl WC.heap.size 55 j0 _ 5 56 Tryz.underlying25 hj hy0 hy1 hy2 rfl (by decide) _ _ _ rfl H71.out ⟨_, 0, none⟩ 1 1 (P5.c ⟨q_1, q_2, q_3, q_4, .slice q_a x.attrs.length q_c⟩) rfl rfl (lit_news rfl) (fun x hx => by simp [P5.c] at hx; rcases hx with rfl | rfl | rfl | rfl | rfl <;> rfl) (by unfold maxLen; omega) (by omega) hle7 ?_
              intro v' w7 hown' hgr2 _
              have hrow : GrowF w7 WC.heap.size v' (s.files.take (k + 1)) := by rw [take_snoc hxk.out, HFS.out]; exact GrowF.snoc H71.out H72.out HQ7.out hle (Nat.le_trans hs6 ((Grew.refl w6).alloc (.cells #[.int .i64 q_1, .int .i64 q_2, .bool q_3, .int .i64 q_4, .slice q_a x.attrs.length q_c] 55)).size) hown' hgr2 hgr2.size
              have HF := Lib.hid (HKB.out.put hgr2 hrow)
              have hlt7 : ∀ j, (Value.slice va fs.length vc).ownBlock = some j → WC.heap.size ≤ j := fun j h => (H71.out.lt j h).1
              have hoo : some ob ≠ (Value.slice va fs.length vc).ownBlock := fun e => by have := hlt7 ob e.symm; omega
              have k1 := hgr2.cell HKB.out.c1 hoo
              have zz1 : w7.frozen? ⟨ob, 1, none⟩ = false := by rw [World.frozen?_of_block (hgr2.block ob (by have := HKB.out.lt; omega) hoo)]; exact HKB.out.fz 1
              have hlow : ∀ j, (Value.slice va fs.length vc).ownBlock = some j → w.heap.size < j := fun j h => by have := hlt7 j h; have := gwc.size; omega
              obtain ⟨va2, vc2, rfl⟩ := own_slice hown'
              clear hown'
              refine hK.out _ _ ?s2_18_ ?r2_18_
              case s2_18_ => exact ⟨hgr2.cell (HS.1) (fun e => by have := hlow _ e.symm; dsimp only at this; omega), hgr2.cell (HS.2.1) (fun e => by have := hlow _ e.symm; dsimp only at this; omega), hgr2.cell (HS.2.2.1) (fun e => by have := hlow _ e.symm; dsimp only at this; omega), hgr2.cell (HS.2.2.2.1) (fun e => by have := hlow _ e.symm; dsimp only at this; omega), hgr2.cell (HS.2.2.2.2.1) (fun e => by have := hlow _ e.symm; dsimp only at this; omega), hgr2.cell (HS.2.2.2.2.2.1) (fun e => by have := hlow _ e.symm; dsimp only at this; omega), HS.2.2.2.2.2.2.1.grown hgr2 hlt7, HS.2.2.2.2.2.2.2.grown hgr2 (fun j h => Nat.le_of_lt (hlow j h))⟩
              case r2_18_ =>
               clear HS hK K; intro HS
               try simp only [Act.put, lpa, lpb, lpc]
               first | refine sk' 10 HS ?_ | refine tk' 10 HS ?_
               refine cl' 11 fun K hK => ?_
               rw [if_pos (by rfl)]
               go_simp
               refine hK.out _ _ ?s2_20_ ?r2_20_
               case s2_20_ => exact ⟨cell_set_ne (HS.1) (by dsimp only; omega), cell_set_ne (HS.2.1) (by dsimp only; omega), cell_set_ne (HS.2.2.1) (by dsimp only; omega), cell_set_ne (HS.2.2.2.1) (by dsimp only; omega), cell_set_ne (HS.2.2.2.2.1) (by dsimp only; omega), cell_set_ne (HS.2.2.2.2.2.1) (by dsimp only; omega), HS.2.2.2.2.2.2.1.setCell (Nat.le_refl _) (Nat.lt_succ_self _) _, HS.2.2.2.2.2.2.2.setCell (by dsimp only; omega) _⟩
               case r2_20_ =>
                clear HS hK K; intro HS
                try simp only [Act.put, lpa, lpb, lpc]
                refine wpAnyH_done (by kernel_rfl) ?_ _
                refine NoPanic.normal ?_
                have htF := HS.2.2.2.2.2.2.1
                clear HS
                go_wp2
                go_roundw
                case rel => exact ⟨k + 1, _, by omega, by go_num, HF, htF⟩
                case measure => simp [intOf]; omega
           case b2_15_ =>
            rw [if_pos (by rfl)]
            go_simp
            refine hK.out _ _ ?s2_21_ ?r2_21_
            case s2_21_ => exact ⟨grew_cell ((Grew.refl _).alloc (.cells #[.int .i64 q_1, .int .i64 q_2, .bool q_3, .int .i64 q_4, .slice q_a x.attrs.length q_c] 55)) (HS.1), grew_cell ((Grew.refl _).alloc (.cells #[.int .i64 q_1, .int .i64 q_2, .bool q_3, .int .i64 q_4, .slice q_a x.attrs.length q_c] 55)) (HS.2.1), grew_cell ((Grew.refl _).alloc (.cells #[.int .i64 q_1, .int .i64 q_2, .bool q_3, .int .i64 q_4, .slice q_a x.attrs.length q_c] 55)) (HS.2.2.1), grew_cell ((Grew.refl _).alloc (.cells #[.int .i64 q_1, .int .i64 q_2, .bool q_3, .int .i64 q_4, .slice q_a x.attrs.length q_c] 55)) (HS.2.2.2.1), grew_cell ((Grew.refl _).alloc (.cells #[.int .i64 q_1, .int .i64 q_2, .bool q_3, .int .i64 q_4, .slice q_a x.attrs.length q_c] 55)) (HS.2.2.2.2.1), grew_cell ((Grew.refl _).alloc (.cells #[.int .i64 q_1, .int .i64 q_2, .bool q_3, .int .i64 q_4, .slice q_a x.attrs.length q_c] 55)) (HS.2.2.2.2.2.1), HS.2.2.2.2.2.2.1.grew ((Grew.refl _).alloc (.cells #[.int .i64 q_1, .int .i64 q_2, .bool q_3, .int .i64 q_4, .slice q_a x.attrs.length q_c] 55)), HS.2.2.2.2.2.2.2.trans ((Grew.refl _).alloc (.cells #[.int .i64 q_1, .int .i64 q_2, .bool q_3, .int .i64 q_4, .slice q_a x.attrs.length q_c] 55))⟩
            case r2_21_ =>
             have hc7 := grew_cell ((Grew.refl _).alloc (.cells #[.int .i64 q_1, .int .i64 q_2, .bool q_3, .int .i64 q_4, .slice q_a x.attrs.length q_c] 55)) hc6
             clear HS hK K; intro HS
             try simp only [Act.put, lpa, lpb, lpc]
             refine cl' 1 fun K hK => ?_
             rw [if_pos (by rfl)]
             go_simp
             refine hK.out _ _ ?s2_22_ ?r2_22_
             case s2_22_ => exact HS
             case r2_22_ =>
              clear HS hK K; intro HS
              try simp only [Act.put, lpa, lpb, lpc]
              refine cl' 9 fun K hK => ?_
              rw [if_pos (by rfl)]
              have HKB := Lib.hid (HK6.out.grew ((Grew.refl _).alloc (.cells #[.int .i64 q_1, .int .i64 q_2, .bool q_3, .int .i64 q_4, .slice q_a x.attrs.length q_c] 55)))
              have H71 := Lib.hid (ownsRow_grew H61.out ((Grew.refl _).alloc (.cells #[.int .i64 q_1, .int .i64 q_2, .bool q_3, .int .i64 q_4, .slice q_a x.attrs.length q_c] 55)))
              have H72 : Hid (All2 (Fl.O (w6.alloc (.cells #[.int .i64 q_1, .int .i64 q_2, .bool q_3, .int .i64 q_4, .slice q_a x.attrs.length q_c] 55)) WC.heap.size wr.drew.heap.size) fs ps) := Lib.hid (H62.out.mono fun x_ p_ h_ => h_.grew ((Grew.refl _).alloc (.cells #[.int .i64 q_1, .int .i64 q_2, .bool q_3, .int .i64 q_4, .slice q_a x.attrs.length q_c] 55)))
              have HQ7 := Lib.hid ((HQ6.out.grew ((Grew.refl _).alloc (.cells #[.int .i64 q_1, .int .i64 q_2, .bool q_3, .int .i64 q_4, .slice q_a x.attrs.length q_c] 55))).mono (Nat.le_refl _) ((Grew.refl w6).alloc (.cells #[.int .i64 q_1, .int .i64 q_2, .bool q_3, .int .i64 q_4, .slice q_a x.attrs.length q_c] 55)).size)
              have hle7 := HKB.out.le
              refine wp_append_own _ _ _ 25 rfl WC.heap.size 55 j0 _ 5 56 Tryz.underlying25 hj hy0 hy1 hy2 rfl (by decide) _ _ _ rfl H71.out ⟨_, 0, none⟩ 1 1 (P5.c ⟨q_1, q_2, q_3, q_4, .slice q_a x.attrs.length q_c⟩) rfl rfl (lit_news rfl) (fun x hx => by simp [P5.c] at hx; rcases hx with rfl | rfl | rfl | rfl | rfl <;> rfl) (by unfold maxLen; omega) (by omega) hle7 ?_
              intro v' w7 hown' hgr2 _
              have hrow : GrowF w7 WC.heap.size v' (s.files.take (k + 1)) := by rw [take_snoc hxk.out, HFS.out]; exact GrowF.snoc H71.out H72.out HQ7.out hle (Nat.le_trans hs6 ((Grew.refl w6).alloc (.cells #[.int .i64 q_1, .int .i64 q_2, .bool q_3, .int .i64 q_4, .slice q_a x.attrs.length q_c] 55)).size) hown' hgr2 hgr2.size
              have HF := Lib.hid (HKB.out.put hgr2 hrow)
              have hlt7 : ∀ j, (Value.slice va fs.length vc).ownBlock = some j → WC.heap.size ≤ j := fun j h => (H71.out.lt j h).1
              have hoo : some ob ≠ (Value.slice va fs.length vc).ownBlock := fun e => by have := hlt7 ob e.symm; omega
              have k1 := hgr2.cell HKB.out.c1 hoo
              have zz1 : w7.frozen? ⟨ob, 1, none⟩ = false := by rw [World.frozen?_of_block (hgr2.block ob (by have := HKB.out.lt; omega) hoo)]; exact HKB.out.fz 1
              have hlow : ∀ j, (Value.slice va fs.length vc).ownBlock = some j → w.heap.size < j := fun j h => by have := hlt7 j h; have := gwc.size; omega
              obtain ⟨va2, vc2, rfl⟩ := own_slice hown'
              clear hown'
              refine hK.out _ _ ?s2_23_ ?r2_23_
              case s2_23_ => exact ⟨hgr2.cell (HS.1) (fun e => by have := hlow _ e.symm; dsimp only at this; omega), hgr2.cell (HS.2.1) (fun e => by have := hlow _ e.symm; dsimp only at this; omega), hgr2.cell (HS.2.2.1) (fun e => by have := hlow _ e.symm; dsimp only at this; omega), hgr2.cell (HS.2.2.2.1) (fun e => by have := hlow _ e.symm; dsimp only at this; omega), hgr2.cell (HS.2.2.2.2.1) (fun e => by have := hlow _ e.symm; dsimp only at this; omega), hgr2.cell (HS.2.2.2.2.2.1) (fun e => by have := hlow _ e.symm; dsimp only at this; omega), HS.2.2.2.2.2.2.1.grown hgr2 hlt7, HS.2.2.2.2.2.2.2.grown hgr2 (fun j h => Nat.le_of_lt (hlow j h))⟩
              case r2_23_ =>
               clear HS hK K; intro HS
               try simp only [Act.put, lpa, lpb, lpc]
               first | refine sk' 10 HS ?_ | refine tk' 10 HS ?_
               refine cl' 11 fun K hK => ?_
               rw [if_pos (by rfl)]
               go_simp
               refine hK.out _ _ ?s2_25_ ?r2_25_
               case s2_25_ => exact ⟨cell_set_ne (HS.1) (by dsimp only; omega), cell_set_ne (HS.2.1) (by dsimp only; omega), cell_set_ne (HS.2.2.1) (by dsimp only; omega), cell_set_ne (HS.2.2.2.1) (by dsimp only; omega), cell_set_ne (HS.2.2.2.2.1) (by dsimp only; omega), cell_set_ne (HS.2.2.2.2.2.1) (by dsimp only; omega), HS.2.2.2.2.2.2.1.setCell (Nat.le_refl _) (Nat.lt_succ_self _) _, HS.2.2.2.2.2.2.2.setCell (by dsimp only; omega) _⟩
               case r2_25_ =>
                clear HS hK K; intro HS
                try simp only [Act.put, lpa, lpb, lpc]
                refine wpAnyH_done (by kernel_rfl) ?_ _
                refine NoPanic.normal ?_
                have htF := HS.2.2.2.2.2.2.1
                clear HS
                go_wp2
                go_roundw
                case rel => exact ⟨k + 1, _, by omega, by go_num, HF, htF⟩
                case measure => simp [intOf]; omega
      · obtain rfl : k = n := by omega
        have h := HK.out
        rw [take_all HN.out] at h
        have c0 := h.c0
        have c1 := h.c1
        have c2 := h.c2
        have hob2 := hgc.size
        obtain ⟨va, vc, hv⟩ := h.row.slice
        rw [HN.out] at hv
        subst hv
        have HSTG : Hid (StG wr W.heap.size s ⟨.slice sa s.schema.length sc, .slice va k vc, s.next⟩) := Lib.hid ⟨own_off HRV.out ht (fun b hb => by have := (HVB.out b hb).2; omega), h.row.base hgc.size, rfl⟩
        clear h
        have f0 := grew_cell gr2 r0
        have f1 := grew_cell gr2 r1
        have f2 := grew_cell gr2 r2
        have zf := fun j => grew_frozen (a := ⟨w.heap.size + 1, j, none⟩) gr2 (by dsimp only; omega) (rz j)
        go_wp2
        refine bodyPost_ret (v := PS.v ⟨.slice sa s.schema.length sc, .slice va k vc, s.next⟩) (by simp [results, Tryz.results76, go_sem, f0, f1, f2]) rfl ⟨⟨.slice sa s.schema.length sc, .slice va k vc, s.next⟩, rfl, ?_, ?_⟩
        · refine StG.base (a := W.heap.size) ?_ (by omega)
          repeat' (first | with_reducible exact HSTG.out | with_reducible refine StG.set ?_ ?_ _ | (dsimp only; omega))
        · repeat' (first | with_reducible exact gr | with_reducible refine Grew.setCell ?_ ?_ _ | (dsimp only; omega))
end Go.Proofs.YtemikjbfjhebnaaGreat
