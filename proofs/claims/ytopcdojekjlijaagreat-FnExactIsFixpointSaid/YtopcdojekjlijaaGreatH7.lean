/- The laws' helpers over a store: copies, comparisons, sizes, marks. -/
import Derived.Test.YtopcdojekjlijaaGreatH5
import Derived.Test.YtopcdojekjlijaaGreatS
namespace Go.Proofs.YtopcdojekjlijaaGreat
open Go.RowKit
set_option linter.unusedVariables false
structure PS where
  q : Value
  r : Value
  n : Int
def PS.c (x : PS) : List Value := [x.q, x.r, .int .i64 x.n]
abbrev PS.v (x : PS) : Value := .agg #[x.q, x.r, .int .i64 x.n]
def St.R (w : World) (x : St) (p : PS) : Prop := Rd w p.q 2 x.schema.length (rows Fd.c x.schema) ∧ RdLs w p.r x.files ∧ p.n = x.next
def St.sz (x : St) : Nat := (x.schema.length + szAll Fd.sz x.schema) + (x.files.length + szAll Fl.sz x.files)
def St.small (x : St) : Prop := x.schema.length ≤ 4000000 ∧ x.files.length ≤ 4000000 ∧ ∀ y, y ∈ x.files → y.small
def cntSt (x : St) : Int := (x.schema.length : Int) * 2 + cntL cntFl x.files
theorem St.R.grew {w w' : World} {x : St} {p : PS} (h : St.R w x p) (hg : Grew w w') : St.R w' x p := ⟨h.1.grew hg, RdLs.grew h.2.1 hg, h.2.2⟩
def St.O (w : World) (lo hi : Nat) (x : St) (p : PS) : Prop :=
  ∃ mid, (lo ≤ mid ∧ mid ≤ hi) ∧ Own w lo mid 103 2 p.q x.schema.length (rows Fd.c x.schema) ∧ OwnFls w mid hi p.r x.files ∧ p.n = x.next
theorem St.O.grew {w w' : World} {lo hi : Nat} {x : St} {p : PS} (h : St.O w lo hi x p) (hg : Grew w w') : St.O w' lo hi x p := by
  obtain ⟨mid, hm, h1, h2, h3⟩ := h
  exact ⟨mid, hm, h1.grew hg, OwnFls.grew h2 hg, h3⟩
theorem St.O.touch {w w' : World} {lo hi a b : Nat} {x : St} {p : PS} (h : St.O w lo hi x p) (ht : Touch a b w w') (hd : hi ≤ a ∨ b ≤ lo) : St.O w' lo hi x p := by
  obtain ⟨mid, hm, h1, h2, h3⟩ := h
  exact ⟨mid, hm, h1.touch ht (by omega), OwnFls.touch h2 ht (by omega), h3⟩
theorem St.O.rd {w : World} {lo hi : Nat} {x : St} {p : PS} (h : St.O w lo hi x p) : St.R w x p := by
  obtain ⟨mid, hm, h1, h2, h3⟩ := h
  exact ⟨h1.rd, OwnFls.rd h2, h3⟩
theorem St.O.slices {w : World} {lo hi : Nat} {x : St} {p : PS} (h : St.O w lo hi x p) : ∃ a c b d, p = ⟨.slice a x.schema.length c, .slice b x.files.length d, x.next⟩ := by
  obtain ⟨pq, pr, pn⟩ := p
  obtain ⟨mid, hm, h1, ⟨ps, h2, _⟩, h3⟩ := h
  obtain ⟨a, c, ha⟩ := own_slice h1.1
  obtain ⟨b, d, hb⟩ := own_slice h2.1
  simp only at ha hb h3
  subst ha; subst hb; subst h3
  exact ⟨a, c, b, d, rfl⟩
theorem OwnFls.setBelow {w : World} {lo hi : Nat} {v : Value} {xs : List Fl} (h : OwnFls w lo hi v xs) {a : Addr} (ha : a.block < lo) (u : Value) : OwnFls (w.setCell a u) lo hi v xs :=
  OwnFls.touch h (a := a.block) (b := a.block + 1) (Touch.setCell (Touch.refl _ _ _) (Nat.le_refl _) (Nat.lt_succ_self _) u) (.inr ha)
theorem St.sz_small {x : St} (h : x.sz ≤ 4000000) : x.small := by
  unfold St.sz at h
  refine ⟨by omega, by omega, fun y hy => Fl.small_of ?_⟩
  have := mem_szAll (f := Fl.sz) hy
  omega
theorem St.small_of {x : St} (h : x.sz ≤ 4000000) : x.small := St.sz_small h
theorem St.cnt_ok {x : St} (h : x.sz ≤ 4000000) : 0 ≤ cntL cntFl x.files ∧ cntL cntFl x.files ≤ 56000000 ∧ (x.schema.length : Int) ≤ 4000000 := by
  unfold St.sz at h
  have := Fl.cnt_ok (xs := x.files) (by omega) (by omega)
  omega
set_option maxRecDepth 100000 in
set_option maxHeartbeats 1000000 in
theorem toStore (x : St) (p : PS) (w : World) (h : St.R w x p) (hx : x.small) :
    Calls Tryz.prog 10 #[p.v] w fun e w' => ∃ p' : PS, e = .returned p'.v ∧ St.O w' w.heap.size w'.heap.size x p' ∧ True ∧ Grew w w' := by
  obtain ⟨p_q, p_r, p_n⟩ := p
  obtain ⟨⟨a_q, ca_q, hq_q, hca_q, hra_q⟩, hr_r, h_n⟩ := h
  simp only at hq_q hr_r h_n
  subst hq_q
  subst h_n
  have HR := Lib.hid hr_r
  obtain ⟨qs, ⟨a_r, ca_r, hq_r, hca_r, hra_r⟩, hall⟩ := hr_r
  subst hq_r
  clear hra_r hall
  have HX := Lib.hid hx.2.2
  go_enter Tryz.func10, Tryz.ntmps10
  go_wp2_with fail
  refine (toFieldS _ _ x.schema _ ⟨a_q, ca_q, rfl, hca_q, hra_q.grew ((((Grew.refl w).alloc _).alloc _).alloc _)⟩ hx.1).mono ?_
  rintro e w1 ⟨v, rfl, ho1, hb1⟩
  obtain ⟨a1, c1, rfl⟩ := own_slice ho1
  have g1 : Grew w w1 := ((((Grew.refl w).alloc _).alloc _).alloc _).trans hb1
  have f1_0_0 := grew_cell (a := ⟨w.heap.size, 0, none⟩) hb1 (by simp [go_sem]; rfl)
  have f1_0_1 := grew_cell (a := ⟨w.heap.size, 1, none⟩) hb1 (by simp [go_sem]; rfl)
  have f1_0_2 := grew_cell (a := ⟨w.heap.size, 2, none⟩) hb1 (by simp [go_sem]; rfl)
  have f1_1_0 := grew_cell (a := ⟨w.heap.size + 1, 0, none⟩) hb1 (by simp [go_sem]; rfl)
  have f1_1_1 := grew_cell (a := ⟨w.heap.size + 1, 1, none⟩) hb1 (by simp [go_sem]; rfl)
  have f1_1_2 := grew_cell (a := ⟨w.heap.size + 1, 2, none⟩) hb1 (by simp [go_sem]; rfl)
  have z1_1 := fun j => grew_frozen (a := ⟨w.heap.size + 1, j, none⟩) hb1 (by simp) (by simp [go_sem])
  have f1_2_0 := grew_cell (a := ⟨w.heap.size + 1 + 1, 0, none⟩) hb1 (by simp [go_sem]; rfl)
  have f1_2_1 := grew_cell (a := ⟨w.heap.size + 1 + 1, 1, none⟩) hb1 (by simp [go_sem]; rfl)
  have f1_2_2 := grew_cell (a := ⟨w.heap.size + 1 + 1, 2, none⟩) hb1 (by simp [go_sem]; rfl)
  have z1_2 := fun j => grew_frozen (a := ⟨w.heap.size + 1 + 1, j, none⟩) hb1 (by simp) (by simp [go_sem])
  have hsz1 : w.heap.size + 3 ≤ w1.heap.size := by have := hb1.size; simpa using this
  go_wp2_with fail
  refine (toFileS _ x.files _ (RdLs.grew HR.out (g1.setCell (p := ⟨w.heap.size + 1 + 1, 0, none⟩) (by dsimp only; omega) _)) hx.2.1 HX.out).mono ?_
  rintro e w2 ⟨v, rfl, ho2, hb2⟩
  have HO2 := Lib.hid ho2
  obtain ⟨ps2, hop2, _, _⟩ := ho2
  obtain ⟨a2, c2, rfl⟩ := own_slice hop2.1
  clear hop2
  have g2 : Grew w w2 := (g1.setCell (p := ⟨w.heap.size + 1 + 1, 0, none⟩) (by dsimp only; omega) _).trans hb2
  have f2_0_2 := grew_cell (a := ⟨w.heap.size, 2, none⟩) hb2 (by simp [go_sem, f1_0_2]; try rfl)
  have f2_1_0 := grew_cell (a := ⟨w.heap.size + 1, 0, none⟩) hb2 (by simp [go_sem, f1_1_0]; try rfl)
  have f2_1_1 := grew_cell (a := ⟨w.heap.size + 1, 1, none⟩) hb2 (by simp [go_sem, f1_1_1]; try rfl)
  have f2_1_2 := grew_cell (a := ⟨w.heap.size + 1, 2, none⟩) hb2 (by simp [go_sem, f1_1_2]; try rfl)
  have z2_1 := fun j => grew_frozen (a := ⟨w.heap.size + 1, j, none⟩) hb2 (by have := hb1.size; simp at this ⊢; omega) (by simp [go_sem, z1_1])
  have f2_2_0 := grew_cell (a := ⟨w.heap.size + 1 + 1, 0, none⟩) hb2 (by simp [go_sem, f1_2_0]; try rfl)
  have f2_2_1 := grew_cell (a := ⟨w.heap.size + 1 + 1, 1, none⟩) hb2 (by simp [go_sem, f1_2_1]; try rfl)
  have f2_2_2 := grew_cell (a := ⟨w.heap.size + 1 + 1, 2, none⟩) hb2 (by simp [go_sem, f1_2_2]; try rfl)
  have z2_2 := fun j => grew_frozen (a := ⟨w.heap.size + 1 + 1, j, none⟩) hb2 (by have := hb1.size; simp at this ⊢; omega) (by simp [go_sem, z1_2])
  clear f1_0_0 f1_0_1 f1_0_2 f1_1_0 f1_1_1 f1_1_2 f1_2_0 f1_2_1 f1_2_2 z1_1 z1_2
  have ow1 := Lib.hid (ownsRow_grew (ownsRow_setCell_below (ownsRow_base ho1 (base' := w.heap.size + 3) (by simp)) (a := ⟨w.heap.size + 1 + 1, 0, none⟩) (by simp) (Value.slice a1 x.schema.length c1)) hb2)
  have hlt1 := Lib.hid (fun b hb => (ho1.lt b hb).2)
  have HM := Lib.hid hb2.size
  clear ho1
  go_wp2
  refine bodyPost_ret (v := PS.v ⟨.slice a1 x.schema.length c1, .slice a2 x.files.length c2, x.next⟩) (by simp [results, Tryz.results10, go_sem, f2_1_0, f2_1_1, f2_1_2]) rfl ⟨⟨.slice a1 x.schema.length c1, .slice a2 x.files.length c2, x.next⟩, rfl, ⟨w1.heap.size, ⟨by omega, ?_⟩, ⟨?_, hlt1.out⟩, ?_, rfl⟩, trivial, ?_⟩
  · have := HM.out; simpa using this
  · refine ownsRow_base (base := w.heap.size + 3) ?_ (by omega)
    repeat' (first | with_reducible exact ow1.out | with_reducible refine ownsRow_setCell_below ?_ ?_ _ | (dsimp only; omega))
  · have h1 : OwnFls w2 w1.heap.size w2.heap.size (.slice a2 x.files.length c2) x.files := by have := HO2.out; simpa using this
    have h2 : ∀ w', OwnFls w' w1.heap.size w2.heap.size (.slice a2 x.files.length c2) x.files → w'.heap.size = w2.heap.size → OwnFls w' w1.heap.size w'.heap.size (.slice a2 x.files.length c2) x.files := fun w' h e => by rw [e]; exact h
    refine h2 _ ?_ (by simp)
    repeat' (first | with_reducible exact h1 | with_reducible refine OwnFls.setBelow ?_ ?_ _ | (dsimp only; omega))
  · repeat' (first | with_reducible exact g2 | with_reducible refine Grew.setCell ?_ ?_ _ | (dsimp only; omega))
set_option maxRecDepth 100000 in
set_option maxHeartbeats 1000000 in
theorem eqStore (x : St) (p p' : PS) (w : World) (h : St.R w x p) (h' : St.R w x p') (hx : x.small) :
    Calls Tryz.prog 13 #[p.v, p'.v] w fun e w' => e = .returned (.bool true) ∧ Grew w w' := by
  obtain ⟨p_q, p_r, p_n⟩ := p
  obtain ⟨hr_q, hr_r, h_n⟩ := h
  obtain ⟨p_q', p_r', p_n'⟩ := p'
  obtain ⟨hr_q', hr_r', h_n'⟩ := h'
  simp only at hr_q hr_r h_n hr_q' hr_r' h_n'
  subst h_n
  obtain rfl := h_n'
  have HR := Lib.hid hr_r
  have HR' := Lib.hid hr_r'
  clear hr_r hr_r'
  have HX := Lib.hid hx.2.2
  go_enter Tryz.func13, Tryz.ntmps13
  go_wp2_with fail
  refine (eqFieldS _ _ _ x.schema _ (hr_q.grew (((Grew.refl w).alloc _).alloc _)) (hr_q'.grew (((Grew.refl w).alloc _).alloc _)) hx.1).mono ?_
  rintro e w1 ⟨rfl, hb1⟩
  have g1 : Grew w w1 := (((Grew.refl w).alloc _).alloc _).trans hb1
  have f1_0_0 := grew_cell (a := ⟨w.heap.size, 0, none⟩) hb1 (by simp [go_sem]; rfl)
  have f1_0_1 := grew_cell (a := ⟨w.heap.size, 1, none⟩) hb1 (by simp [go_sem]; rfl)
  have f1_0_2 := grew_cell (a := ⟨w.heap.size, 2, none⟩) hb1 (by simp [go_sem]; rfl)
  have f1_1_0 := grew_cell (a := ⟨w.heap.size + 1, 0, none⟩) hb1 (by simp [go_sem]; rfl)
  have f1_1_1 := grew_cell (a := ⟨w.heap.size + 1, 1, none⟩) hb1 (by simp [go_sem]; rfl)
  have f1_1_2 := grew_cell (a := ⟨w.heap.size + 1, 2, none⟩) hb1 (by simp [go_sem]; rfl)
  go_wp2_with fail
  refine (eqFileS _ _ x.files _ (RdLs.grew HR.out g1) (RdLs.grew HR'.out g1) hx.2.1 HX.out).mono ?_
  rintro e w2 ⟨rfl, hb2⟩
  have g2 : Grew w w2 := g1.trans hb2
  have f2_0_2 := grew_cell hb2 f1_0_2
  have f2_1_2 := grew_cell hb2 f1_1_2
  go_wp2
  go_ret
  exact ⟨rfl, g2⟩
set_option maxRecDepth 100000 in
set_option maxHeartbeats 1000000 in
theorem szStore (x : St) (p : PS) (l : Int) (w : World) (h : St.R w x p) (ho : x.schema.length ≤ maxLen ∧ (∀ y, y ∈ x.schema → y.ok0) ∧ x.files.length ≤ maxLen ∧ (∀ y, y ∈ x.files → y.ok0) ∧ (-9223372036854775808 ≤ x.next ∧ x.next ≤ 9223372036854775807)) (hl : 0 ≤ l) (hl2 : l ≤ 4000000) :
    Calls Tryz.prog 7 #[p.v, .int .i64 l] w fun e w' => ∃ r : Int, e = .returned (.int .i64 r) ∧ Left l x.sz r ∧ Grew w w' := by
  obtain ⟨p_q, p_r, p_n⟩ := p
  obtain ⟨⟨a_q, ca_q, hq_q, hca_q, hra_q⟩, hr_r, h_n⟩ := h
  simp only at hq_q hr_r h_n
  subst hq_q
  subst h_n
  have HR := Lib.hid hr_r
  obtain ⟨qs, ⟨a_r, ca_r, hq_r, hca_r, hra_r⟩, hall⟩ := hr_r
  subst hq_r
  clear hra_r hall
  have o1 := Lib.hid ho.1
  have o2 := Lib.hid ho.2.1
  have o3 := Lib.hid ho.2.2.1
  have o4 := Lib.hid ho.2.2.2.1
  clear ho
  go_enter Tryz.func7, Tryz.ntmps7
  go_wp2_with fail
  refine (szFieldS _ _ x.schema _ _ ⟨a_q, ca_q, rfl, hca_q, hra_q.grew ((Grew.refl w).alloc _)⟩ o1.out o2.out (by omega) (by omega)).mono ?_
  rintro e w1 ⟨r1, rfl, h1, gs1⟩
  rcases h1 with rfl | ⟨h1, hnn1⟩
  · go_wp2
    go_ret
    exact ⟨_, rfl, .inl rfl, ((Grew.refl w).alloc _).trans gs1⟩
  · have H1 := Lib.hid h1
    have hle1 : r1 ≤ 4000000 := by omega
    clear h1
    have f1_0 := grew_cell (a := ⟨w.heap.size, 0, none⟩) gs1 (by simp [go_sem]; try rfl)
    have f1_1 := grew_cell (a := ⟨w.heap.size, 1, none⟩) gs1 (by simp [go_sem]; try rfl)
    have f1_2 := grew_cell (a := ⟨w.heap.size, 2, none⟩) gs1 (by simp [go_sem]; try rfl)
    have gw1 : Grew w w1 := ((Grew.refl w).alloc _).trans gs1
    go_wp2_with fail
    refine (szFileS _ x.files _ _ (RdLs.grew HR.out gw1) o3.out o4.out (by omega) (by omega)).mono ?_
    rintro e w2 ⟨r2, rfl, h2, gs2⟩
    rcases h2 with rfl | ⟨h2, hnn2⟩
    · go_wp2
      go_ret
      exact ⟨_, rfl, .inl rfl, gw1.trans gs2⟩
    · have H2 := Lib.hid h2
      have hle2 : r2 ≤ 4000000 := by omega
      clear h2
      have gw2 : Grew w w2 := gw1.trans gs2
      go_wp2
      go_ret
      exact ⟨_, rfl, .inr ⟨by unfold St.sz; have := H1.out; have := H2.out; omega, hnn2⟩, gw2⟩
set_option maxRecDepth 100000 in
set_option maxHeartbeats 1000000 in
theorem markStore (x : St) (p : PS) (k0 : Int) (w : World) (lo hi : Nat) (h : St.O w lo hi x p) (hx : x.small) (h0 : 0 ≤ k0) (h1 : k0 ≤ 2000000000000000) (hc : 0 ≤ cntL cntFl x.files ∧ cntL cntFl x.files ≤ 56000000) :
    Calls Tryz.prog 22 #[p.v, .int .i64 k0] w fun e w' => e = .returned (.int .i64 (k0 + (x.schema.length : Int) * 2 + cntL cntFl x.files)) ∧ True ∧ Touch lo hi w w' := by
  obtain ⟨sa, sc, fa, fc, rfl⟩ := h.slices
  obtain ⟨mid, ⟨hm1, hm2⟩, hq, hr, _⟩ := h
  simp only at hq hr
  have HQ := Lib.hid hq
  have HR := Lib.hid hr
  have hlo : hi ≤ w.heap.size ∨ w.heap.size < hi := by omega
  have HX := Lib.hid hx.2.2
  clear hr
  obtain ⟨lo1, hi1, hl1, hh1, hqt, htight⟩ := hq.tight
  have HQT := Lib.hid hqt
  have hbx : w.heap.size < lo1 ∨ hi1 ≤ w.heap.size := by
    rcases Nat.lt_or_ge w.heap.size lo1 with h | h
    · exact .inl h
    · rcases Nat.lt_or_ge w.heap.size hi1 with h2 | h2
      · have := (HQT.out.1.lt _ (htight _ h h2)).2; omega
      · exact .inr h2
  clear hq hqt htight
  have f0 : (w.alloc (.cells #[.slice sa x.schema.length sc, .slice fa x.files.length fc, .int .i64 x.next] 33)).cell? ⟨w.heap.size, 1, none⟩ = some (.slice fa x.files.length fc) := by simp
  have hg := (Grew.refl w).alloc (.cells #[.slice sa x.schema.length sc, .slice fa x.files.length fc, .int .i64 x.next] 33)
  go_enter Tryz.func22, Tryz.ntmps22
  go_wp2_with fail
  refine (markFieldS _ x.schema.length x.schema k0 _ lo1 hi1 (HQT.out.grew hg) hx.1 h0 (by omega)).mono ?_
  rintro e w1 ⟨rfl, ho, ht⟩
  have hr1 := Lib.hid (OwnFls.touch (OwnFls.grew HR.out hg) ht (.inr hh1))
  have f1 := touch_cell ht hbx f0
  have ht2 : Touch lo hi w w1 := (hg.touch lo hi).trans (ht.mono hl1 (Nat.le_trans hh1 hm2))
  have hsl : (x.schema.length : Int) ≤ 4000000 := by have := hx.1; omega
  clear ho f0
  go_wp2_with fail
  refine (markFileS _ x.files _ _ mid hi hr1.out hx.2.1 HX.out (by omega) (by omega)).mono ?_
  rintro e w2 ⟨rfl, _, ht3⟩
  go_wp2
  go_ret
  exact ⟨rfl, trivial, ht2.trans (ht3.mono hm1 (Nat.le_refl _))⟩
end Go.Proofs.YtopcdojekjlijaaGreat
