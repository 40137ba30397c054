/- Texts V4, Z0, Z1, Z2, X1, X2, as far as they are needed. -/
import Derived.Test.YtemikjbfjhebnaaGreatNi1
import Derived.Laws.Bits128
import Derived.Laws.OwnMore
import Derived.Test.YtemikjbfjhebnaaGreatNi0
import Derived.Lib.AppendZerosOnto
import Derived.Lib.SliceRun
import Derived.Lib.Overlaps
import Derived.Deep.DeepAppendRoom
namespace Go.Proofs.YtemikjbfjhebnaaGreat
open Go.RowKit
set_option linter.unusedVariables false
theorem hasF_no {fs : List Fl} {id : Int} {k : Nat} {x : Fl} (h : hasF (fs.take k) id = false) (hx : fs[k]? = some x) (hn : (x.id == id) = false) : hasF (fs.take (k + 1)) id = false := by
  rw [take_snoc hx]; unfold hasF at h ⊢; rw [List.any_append, h]; simp [hn]
theorem hasF_yes {fs : List Fl} {id : Int} {k : Nat} {x : Fl} (hx : fs[k]? = some x) (hn : (x.id == id) = true) : hasF fs id = true := by
  unfold hasF; rw [List.any_eq_true]; exact ⟨x, List.mem_of_getElem? hx, hn⟩
set_option maxHeartbeats 400000 in
theorem implIsUserV (u : Int) (w : World) : Calls Tryz.prog 35 #[.int .i64 u] w fun e w' => e = .returned (.bool (inB u 0 2)) ∧ w = w' := by
  go_enter Tryz.func35, Tryz.ntmps35
  go_wp2_with (go_at_call 65; refine (within _ _ _ _).mono ?_; rintro e w' ⟨rfl, rfl⟩)
  go_ret
  exact ⟨rfl, rfl⟩
theorem canB_eq (f : Fl) (u : Int) : canB f u = (inB u 0 2 && ((f.owner == u) || f.shared)) := rfl
set_option maxRecDepth 100000 in
set_option maxHeartbeats 1000000 in
theorem specCanRead (f : Fl) (p : P5) (u : Int) (w : World) (h : Fl.R w f p) :
    Calls Tryz.prog 43 #[p.v, .int .i64 u] w fun e w' => e = .returned (.bool (canB f u)) ∧ Grew w w' := by
  obtain ⟨pi, po, ps, pl, pa⟩ := p
  obtain ⟨h1, h2, h3, h4, h5⟩ := h
  simp only at h1 h2 h3 h4 h5
  have hc : canB f u = (inB u 0 2 && ((po == u) || ps)) := by rw [canB_eq, h2, h3]
  have HC := Lib.hid hc
  clear hc h1 h2 h3 h4 h5
  have hi : inB u 0 2 = true ∨ inB u 0 2 = false := by cases inB u 0 2 <;> simp
  have ho : (po == u) = true ∨ (po == u) = false := by cases po == u <;> simp
  rcases hi with hi | hi <;> rcases ho with ho | ho
  all_goals
    go_enter Tryz.func43, Tryz.ntmps43
    go_wp2_with (go_at_call 24; refine (l01In _ _ _ _).mono ?_; rintro e w' ⟨he, rfl⟩; rw [hi] at he; subst he)
    go_ret
    exact ⟨ret_bool (by rw [HC.out, hi, ho]; simp), (Grew.refl w).alloc _⟩
set_option maxRecDepth 100000 in
set_option maxHeartbeats 1000000 in
theorem implCanRead (f : Fl) (p : P5) (u : Int) (w : World) (h : Fl.R w f p) :
    Calls Tryz.prog 69 #[p.v, .int .i64 u] w fun e w' => e = .returned (.bool (canB f u)) ∧ Grew w w' := by
  obtain ⟨pi, po, ps, pl, pa⟩ := p
  obtain ⟨h1, h2, h3, h4, h5⟩ := h
  simp only at h1 h2 h3 h4 h5
  have hc : canB f u = (inB u 0 2 && ((po == u) || ps)) := by rw [canB_eq, h2, h3]
  have HC := Lib.hid hc
  clear hc h1 h2 h3 h4 h5
  have hi : inB u 0 2 = true ∨ inB u 0 2 = false := by cases inB u 0 2 <;> simp
  have ho : (po == u) = true ∨ (po == u) = false := by cases po == u <;> simp
  rcases hi with hi | hi <;> rcases ho with ho | ho
  all_goals
    go_enter Tryz.func69, Tryz.ntmps69
    go_wp2_with (go_at_call 35; refine (implIsUserV _ _).mono ?_; rintro e w' ⟨he, rfl⟩; rw [hi] at he; subst he)
    go_ret
    exact ⟨ret_bool (by rw [HC.out, hi, ho]; simp), (Grew.refl w).alloc _⟩
theorem one_at : ∀ (xs : List At), ∀ u ∈ rows At.c xs, u.oneCell' = true
  | [], u, h => by simp [rows] at h
  | x :: xs, u, h => by
    rw [rows_cons, List.mem_append] at h
    rcases h with h | h
    · simp [At.c] at h; rcases h with rfl | rfl | rfl | rfl <;> rfl
    · exact one_at xs u h
theorem one_fd : ∀ (xs : List Fd), ∀ u ∈ rows Fd.c xs, u.oneCell' = true
  | [], u, h => by simp [rows] at h
  | x :: xs, u, h => by
    rw [rows_cons, List.mem_append] at h
    rcases h with h | h
    · simp [Fd.c] at h; rcases h with rfl | rfl <;> rfl
    · exact one_fd xs u h
set_option maxRecDepth 100000 in
set_option maxHeartbeats 1000000 in
theorem slCloneAttr (va : Value) (n : Nat) (xs : List At) (w : World) (ha : Rd w va 4 n (rows At.c xs)) (hx : n ≤ 4000000) :
    Calls Tryz.prog 92 #[va] w fun e w' => ∃ v, e = .returned v ∧ w'.ownsRow w.heap.size 84 4 v n (rows At.c xs) ∧ Grew w w' := by
  obtain ⟨a, ca, rfl, hca, hra⟩ := ha
  have HX := Lib.hid (hra.len_rows At.len (by decide))
  have hen : ∀ a w, (binOp .eql 53 (.slice a n ca) (.slice none 0 0)).run Tryz.prog w = .ok (.bool a.isNone) w := fun a w => Lib.run_eql_slice_nil w 53 84 a n ca 0 0 Tryz.underlying53
  cases a with
  | none =>
    have hn : n = 0 := by rcases Nat.eq_zero_or_pos n with h | h; exact h; obtain ⟨b, o, h2, _⟩ := hra.2 h; cases h2
    subst hn
    have e1 := hen none
    go_enter Tryz.func92, Tryz.ntmps92
    go_wp2
    go_ret
    obtain rfl : xs = [] := List.length_eq_zero_iff.1 HX.out
    exact ⟨_, rfl, World.ownsRow_nil _ _ _ _, Grew.refl _⟩
  | some a =>
    have e1 := hen (some a)
    obtain ⟨i0, hi, hz0, hz1, hz2⟩ := info_parts Tryz.infoAt
    have HN := Lib.hid (rd_news hra ((Grew.refl w).alloc (.cells #[] 84)))
    have HL := Lib.hid (lit_own w 84 4)
    have HC := Lib.hid hra.1
    clear hra hen
    go_enter Tryz.func92, Tryz.ntmps92
    go_wp2_with (at_builtin; refine wpList_append_own _ rfl _ _ 53 rfl w.heap.size 84 i0 _ 4 48 Tryz.underlying53 hi hz0 hz1 hz2 rfl (by decide) _ 0 [] rfl HL.out a n ca (rows At.c xs) rfl ?c1 ?c2 ?c3 ?c4 ?c5 ?c6 ?_)
    case c1 => exact HC.out
    case c2 => exact HN.out
    case c3 => exact one_at xs
    case c4 => unfold maxLen; omega
    case c5 => omega
    case c6 => simp
    intro v' w' hown' hgrow _
    go_wp2
    go_ret
    refine ⟨_, rfl, by simpa using hown', ((Grew.refl w).alloc _).grown hgrow (fun k h => ?_)⟩
    cases h; exact Nat.le_refl _
set_option maxRecDepth 100000 in
set_option maxHeartbeats 1000000 in
theorem slCloneField (va : Value) (n : Nat) (xs : List Fd) (w : World) (ha : Rd w va 2 n (rows Fd.c xs)) (hx : n ≤ 4000000) :
    Calls Tryz.prog 68 #[va] w fun e w' => ∃ v, e = .returned v ∧ w'.ownsRow w.heap.size 87 2 v n (rows Fd.c xs) ∧ Grew w w' := by
  obtain ⟨a, ca, rfl, hca, hra⟩ := ha
  have HX := Lib.hid (hra.len_rows Fd.len (by decide))
  have hen : ∀ a w, (binOp .eql 24 (.slice a n ca) (.slice none 0 0)).run Tryz.prog w = .ok (.bool a.isNone) w := fun a w => Lib.run_eql_slice_nil w 24 87 a n ca 0 0 Tryz.underlying24
  cases a with
  | none =>
    have hn : n = 0 := by rcases Nat.eq_zero_or_pos n with h | h; exact h; obtain ⟨b, o, h2, _⟩ := hra.2 h; cases h2
    subst hn
    have e1 := hen none
    go_enter Tryz.func68, Tryz.ntmps68
    go_wp2
    go_ret
    obtain rfl : xs = [] := List.length_eq_zero_iff.1 HX.out
    exact ⟨_, rfl, World.ownsRow_nil _ _ _ _, Grew.refl _⟩
  | some a =>
    have e1 := hen (some a)
    obtain ⟨i0, hi, hz0, hz1, hz2⟩ := info_parts Tryz.infoFd
    have HN := Lib.hid (rd_news hra ((Grew.refl w).alloc (.cells #[] 87)))
    have HL := Lib.hid (lit_own w 87 2)
    have HC := Lib.hid hra.1
    clear hra hen
    go_enter Tryz.func68, Tryz.ntmps68
    go_wp2_with (at_builtin; refine wpList_append_own _ rfl _ _ 24 rfl w.heap.size 87 i0 _ 2 24 Tryz.underlying24 hi hz0 hz1 hz2 rfl (by decide) _ 0 [] rfl HL.out a n ca (rows Fd.c xs) rfl ?c1 ?c2 ?c3 ?c4 ?c5 ?c6 ?_)
    case c1 => exact HC.out
    case c2 => exact HN.out
    case c3 => exact one_fd xs
    case c4 => unfold maxLen; omega
    case c5 => omega
    case c6 => simp
    intro v' w' hown' hgrow _
    go_wp2
    go_ret
    refine ⟨_, rfl, by simpa using hown', ((Grew.refl w).alloc _).grown hgrow (fun k h => ?_)⟩
    cases h; exact Nat.le_refl _
set_option maxRecDepth 100000 in
set_option maxHeartbeats 1000000 in
theorem implCopyFile (x : Fl) (p : P5) (w : World) (h : Fl.R w x p) (hx : x.small) :
    Calls Tryz.prog 70 #[p.v] w fun e w' => ∃ p' : P5, e = .returned p'.v ∧ Fl.O w' w.heap.size w'.heap.size x p' ∧ Grew w w' := by
  obtain ⟨pi, po, ps, pl, pa⟩ := p
  obtain ⟨h1, h2, h3, h4, ⟨a_q, ca_q, hq_q, hca_q, hra_q⟩⟩ := h
  simp only at h1 h2 h3 h4 hq_q
  subst hq_q
  have H1 := Lib.hid h1
  have H2 := Lib.hid h2
  have H3 := Lib.hid h3
  have H4 := Lib.hid h4
  clear h1 h2 h3 h4
  go_enter Tryz.func70, Tryz.ntmps70
  go_wp2_with fail
  refine (slCloneAttr _ _ x.attrs _ ⟨a_q, ca_q, rfl, hca_q, hra_q.grew (((Grew.refl w).alloc _).alloc _)⟩ hx).mono ?_
  rintro e w1 ⟨v, rfl, ho1, hb1⟩
  obtain ⟨a1, c1, rfl⟩ := own_slice ho1
  have g1 : Grew w w1 := (((Grew.refl w).alloc _).alloc _).trans hb1
  have f1_1_0 := grew_cell (a := ⟨w.heap.size, 0, none⟩) hb1 (by simp [go_sem]; rfl)
  have f1_1_1 := grew_cell (a := ⟨w.heap.size, 1, none⟩) hb1 (by simp [go_sem]; rfl)
  have f1_1_2 := grew_cell (a := ⟨w.heap.size, 2, none⟩) hb1 (by simp [go_sem]; rfl)
  have f1_1_3 := grew_cell (a := ⟨w.heap.size, 3, none⟩) hb1 (by simp [go_sem]; rfl)
  have f1_1_4 := grew_cell (a := ⟨w.heap.size, 4, none⟩) hb1 (by simp [go_sem]; rfl)
  have f1_2_0 := grew_cell (a := ⟨w.heap.size + 1, 0, none⟩) hb1 (by simp [go_sem]; rfl)
  have f1_2_1 := grew_cell (a := ⟨w.heap.size + 1, 1, none⟩) hb1 (by simp [go_sem]; rfl)
  have f1_2_2 := grew_cell (a := ⟨w.heap.size + 1, 2, none⟩) hb1 (by simp [go_sem]; rfl)
  have f1_2_3 := grew_cell (a := ⟨w.heap.size + 1, 3, none⟩) hb1 (by simp [go_sem]; rfl)
  have f1_2_4 := grew_cell (a := ⟨w.heap.size + 1, 4, none⟩) hb1 (by simp [go_sem]; rfl)
  have z1_1 := fun j => grew_frozen (a := ⟨w.heap.size, j, none⟩) hb1 (by simp; omega) (by simp [go_sem])
  have z1_2 := fun j => grew_frozen (a := ⟨w.heap.size + 1, j, none⟩) hb1 (by simp) (by simp [go_sem])
  go_wp2
  have ow1 := (ownsRow_setCell_below (ownsRow_setCell_below (ownsRow_setCell_below (ownsRow_setCell_below (ownsRow_setCell_below (ownsRow_setCell_below (ownsRow_base ho1 (base' := w.heap.size + 2) (by simp)) (a := ⟨w.heap.size, 4, none⟩) (by simp) (Value.slice a1 x.attrs.length c1)) (a := ⟨w.heap.size + 1, 0, none⟩) (by simp) (Value.int .i64 pi)) (a := ⟨w.heap.size + 1, 1, none⟩) (by simp) (Value.int .i64 po)) (a := ⟨w.heap.size + 1, 2, none⟩) (by simp) (Value.bool ps)) (a := ⟨w.heap.size + 1, 3, none⟩) (by simp) (Value.int .i64 pl)) (a := ⟨w.heap.size + 1, 4, none⟩) (by simp) (Value.slice a1 x.attrs.length c1))
  refine bodyPost_ret (v := P5.v ⟨pi, po, ps, pl, .slice a1 x.attrs.length c1⟩) (by simp [results, Tryz.results70, go_sem, f1_2_0, f1_2_1, f1_2_2, f1_2_3, f1_2_4]) rfl ⟨⟨pi, po, ps, pl, .slice a1 x.attrs.length c1⟩, rfl, ⟨H1.out, H2.out, H3.out, H4.out, (own_of ow1).mono (by omega) (Nat.le_refl _)⟩, ?_⟩
  · repeat' (first | with_reducible exact g1 | with_reducible refine Grew.setCell ?_ ?_ _ | (dsimp only; omega))
set_option maxRecDepth 100000 in
set_option maxHeartbeats 2000000 in
theorem l04Copy (x : Fl) (p : P5) (w : World) (h : Fl.R w x p) (hx : x.small) :
    Calls Tryz.prog 44 #[p.v] w fun e w' => ∃ p' : P5, e = .returned p'.v ∧ Fl.O w' w.heap.size w'.heap.size x p' ∧ Grew w w' := by
  obtain ⟨pi, po, ps, pl, pa⟩ := p
  obtain ⟨h1, h2, h3, h4, ⟨a_q, ca_q, hq_q, hca_q, hra_q⟩⟩ := h
  simp only at h1 h2 h3 h4 hq_q
  subst hq_q
  have H1 := Lib.hid h1
  have H2 := Lib.hid h2
  have H3 := Lib.hid h3
  have H4 := Lib.hid h4
  have hlen : x.attrs.length ≤ 4000000 := hx
  clear h1 h2 h3 h4 hx
  obtain ⟨i0, hi, hz0, hz1, hz2⟩ := info_parts Tryz.infoAt
  have gW := ((Grew.refl w).alloc (.cells #[.int .i64 pi, .int .i64 po, .bool ps, .int .i64 pl, .slice a_q x.attrs.length ca_q] 55)).alloc (.cells #[.int .i64 0, .int .i64 0, .bool false, .int .i64 0, .slice none 0 0] 55)
  obtain ⟨W, hW⟩ : ∃ W, W = (w.alloc (.cells #[.int .i64 pi, .int .i64 po, .bool ps, .int .i64 pl, .slice a_q x.attrs.length ca_q] 55)).alloc (.cells #[.int .i64 0, .int .i64 0, .bool false, .int .i64 0, .slice none 0 0] 55) := ⟨_, rfl⟩
  have hs : W.heap.size = w.heap.size + 2 := by rw [hW]; simp
  have HW := Lib.hid hW
  rw [← hW] at gW
  cases a_q with
  | none =>
    have h0 : x.attrs.length = 0 := by rcases Nat.eq_zero_or_pos x.attrs.length with h | h; exact h; obtain ⟨b, o, h2, _⟩ := hra_q.2 h; cases h2
    have HE := Lib.hid (List.length_eq_zero_iff.1 h0)
    rw [h0] at hca_q
    clear hra_q hW
    rw [h0]
    go_enter Tryz.func44, Tryz.ntmps44
    go_wp2
    refine bodyPost_ret (v := P5.v ⟨pi, po, ps, pl, .slice (some ⟨w.heap.size + 2, 0, none⟩) 0 0⟩) (by simp [results, Tryz.results44, go_sem]) rfl ⟨⟨pi, po, ps, pl, .slice (some ⟨w.heap.size + 2, 0, none⟩) 0 0⟩, rfl, ⟨H1.out, H2.out, H3.out, H4.out, ?_⟩, ?_⟩
    · rw [HE.out]
      have h1 : ∀ V : World, V.heap.size = w.heap.size + 1 + 1 → Own (V.alloc (.cells #[] 84)) w.heap.size (V.alloc (.cells #[] 84)).heap.size 84 4 (.slice (some ⟨w.heap.size + 1 + 1, 0, none⟩) 0 0) 0 [] := fun V h => by
        have h1 := own_of (lit_own V 84 4)
        rw [h] at h1
        exact h1.mono (by omega) (Nat.le_refl _)
      exact h1 _ (by simp)
    · exact (((Grew.refl w).alloc _).alloc _).alloc _
  | some a_q =>
    have HN := Lib.hid (rd_news hra_q (gW.alloc (.cells #[] 84)))
    have HC := Lib.hid hra_q.1
    have HLIT : Hid ((W.alloc (.cells #[] 84)).ownsRow (w.heap.size + 1 + 1) 84 4 (.slice (some ⟨w.heap.size + 1 + 1, 0, none⟩) 0 0) 0 []) := by
      have h1 := lit_own W 84 4
      rw [hs] at h1
      exact Lib.hid h1
    clear hra_q hW
    go_enter Tryz.func44, Tryz.ntmps44
    go_wp2_with (at_builtin; refine wpList_append_own _ rfl _ _ 53 rfl (w.heap.size + 1 + 1) 84 i0 _ 4 48 Tryz.underlying53 hi hz0 hz1 hz2 rfl (by decide) _ 0 [] rfl (by rw [← HW.out]; exact HLIT.out) a_q x.attrs.length ca_q (rows At.c x.attrs) rfl ?c1 ?c2 ?c3 ?c4 ?c5 ?c6 ?_)
    case c1 => exact HC.out
    case c2 => rw [← HW.out]; exact HN.out
    case c3 => exact one_at x.attrs
    case c4 => unfold maxLen; omega
    case c5 => omega
    case c6 => simp
    intro v1 w1 hown1 hgr1 _
    rw [← HW.out] at hgr1
    have hgA : Grew W w1 := ((Grew.refl W).alloc (.cells #[] 84)).grown hgr1 (fun k h => by cases h; dsimp only; omega)
    have hg1 := gW.trans hgA
    have HO : Hid (w1.ownsRow (w.heap.size + 1 + 1) 84 4 v1 x.attrs.length (rows At.c x.attrs)) := by simpa using Lib.hid hown1
    obtain ⟨a1, c1, rfl⟩ := own_slice HO.out
    clear hown1 hgr1
    have f0_0 := grew_cell (a := ⟨w.heap.size, 0, none⟩) (u := .int .i64 pi) hgA (by rw [HW.out]; simp)
    have f0_1 := grew_cell (a := ⟨w.heap.size, 1, none⟩) (u := .int .i64 po) hgA (by rw [HW.out]; simp)
    have f0_2 := grew_cell (a := ⟨w.heap.size, 2, none⟩) (u := .bool ps) hgA (by rw [HW.out]; simp)
    have f0_3 := grew_cell (a := ⟨w.heap.size, 3, none⟩) (u := .int .i64 pl) hgA (by rw [HW.out]; simp)
    have f0_4 := grew_cell (a := ⟨w.heap.size, 4, none⟩) (u := .slice (some a_q) x.attrs.length ca_q) hgA (by rw [HW.out]; simp)
    have z0 := fun j => grew_frozen (a := ⟨w.heap.size, j, none⟩) hgA (by simp; omega) (by rw [HW.out]; simp [go_sem])
    have f1_0 := grew_cell (a := ⟨w.heap.size + 1, 0, none⟩) (u := .int .i64 0) hgA (by rw [HW.out]; simp)
    have f1_1 := grew_cell (a := ⟨w.heap.size + 1, 1, none⟩) (u := .int .i64 0) hgA (by rw [HW.out]; simp)
    have f1_2 := grew_cell (a := ⟨w.heap.size + 1, 2, none⟩) (u := .bool false) hgA (by rw [HW.out]; simp)
    have f1_3 := grew_cell (a := ⟨w.heap.size + 1, 3, none⟩) (u := .int .i64 0) hgA (by rw [HW.out]; simp)
    have f1_4 := grew_cell (a := ⟨w.heap.size + 1, 4, none⟩) (u := .slice none 0 0) hgA (by rw [HW.out]; simp)
    have z1 := fun j => grew_frozen (a := ⟨w.heap.size + 1, j, none⟩) hgA (by simp; omega) (by rw [HW.out]; simp [go_sem])
    go_wp2
    have ow1 := (ownsRow_setCell_below (ownsRow_setCell_below (ownsRow_setCell_below (ownsRow_setCell_below (ownsRow_setCell_below (ownsRow_setCell_below HO.out (a := ⟨w.heap.size, 4, none⟩) (by dsimp only; omega) (Value.slice a1 x.attrs.length c1)) (a := ⟨w.heap.size + 1, 0, none⟩) (by dsimp only; omega) (Value.int .i64 pi)) (a := ⟨w.heap.size + 1, 1, none⟩) (by dsimp only; omega) (Value.int .i64 po)) (a := ⟨w.heap.size + 1, 2, none⟩) (by dsimp only; omega) (Value.bool ps)) (a := ⟨w.heap.size + 1, 3, none⟩) (by dsimp only; omega) (Value.int .i64 pl)) (a := ⟨w.heap.size + 1, 4, none⟩) (by dsimp only; omega) (Value.slice a1 x.attrs.length c1))
    refine bodyPost_ret (v := P5.v ⟨pi, po, ps, pl, .slice a1 x.attrs.length c1⟩) (by simp [results, Tryz.results44, go_sem, f1_0, f1_1, f1_2, f1_3, f1_4]) rfl ⟨⟨pi, po, ps, pl, .slice a1 x.attrs.length c1⟩, rfl, ⟨H1.out, H2.out, H3.out, H4.out, (own_of ow1).mono (by omega) (Nat.le_refl _)⟩, ?_⟩
    repeat' (first | with_reducible exact hg1 | with_reducible refine Grew.setCell ?_ ?_ _ | (dsimp only; omega))
set_option maxRecDepth 100000 in
set_option maxHeartbeats 1000000 in
theorem l05Place (p_q p_r : Value) (nx : Int) (fs : List Fl) (id : Int) (w : World) (hr : RdLs w p_r fs) (hx : fs.length ≤ 4000000) :
    Calls Tryz.prog 45 #[.agg #[p_q, p_r, .int .i64 nx], .int .i64 id] w fun e w' => ∃ i : Int, e = .returned (.int .i64 i) ∧ ((hasF fs id = true ∧ 0 ≤ i) ∨ (hasF fs id = false ∧ i = -1)) ∧ Grew w w' := by
  have hg0 := (Grew.refl w).alloc (.cells #[p_q, p_r, .int .i64 nx] 27)
  have HR := Lib.hid (RdLs.grew hr hg0)
  obtain ⟨qs, ⟨a, ca, rfl, hca, hra⟩, hall⟩ := hr
  clear hra hall
  obtain ⟨qs, ⟨_, _, h1, _, hra⟩, hall⟩ := HR.out
  cases h1
  have HA := Lib.hid hall
  clear hall
  generalize hn : fs.length = n at hx hra
  have HX := Lib.hid hn
  clear hn
  go_enter Tryz.func45, Tryz.ntmps45
  go_wp2
  go_loop [5] (fun i => ∃ k : Nat, k ≤ n ∧ i = .int .i64 k ∧ Hid (hasF (fs.take k) id = false)) (fun i => n - (intOf i).toNat)
  case atStart => exact ⟨0, Nat.zero_le _, rfl, Lib.hid rfl⟩
  case round =>
    obtain ⟨k, hk, rfl, hno⟩ := hrel
    by_cases hlt : k < n
    · obtain ⟨b1, o1, p, rfl, hpk, c0, c1, c2, c3, c4⟩ := hra.getP5 hlt
      obtain ⟨x, hxk, hxr⟩ := HA.out.get hpk.out
      have hid := hxr.1
      rw [hid] at c0
      have hcs : (x.id == id) = true ∨ (x.id == id) = false := by cases x.id == id <;> simp
      rcases hcs with hn | hn
      · have HF := Lib.hid (hasF_yes hxk.out hn)
        go_wp2
        go_ret
        exact ⟨_, rfl, .inl ⟨HF.out, by omega⟩, (Grew.refl w).alloc _⟩
      · have HF := Lib.hid (hasF_no hno.out hxk.out hn)
        go_wp2
        exact ⟨⟨k + 1, by omega, by go_num, HF⟩, by simp [intOf]; omega⟩
    · obtain rfl : k = n := by omega
      have h1 := hno.out
      rw [take_all HX.out] at h1
      have H1 := Lib.hid h1
      clear h1 hno
      go_wp2
      go_ret
      exact ⟨_, rfl, .inr ⟨H1.out, rfl⟩, (Grew.refl w).alloc _⟩
set_option maxRecDepth 100000 in
set_option maxHeartbeats 1000000 in
theorem cloFileAt (p : P5) (g : Nat) (id : Int) (w : World) (hc : w.cell? ⟨g, 0, none⟩ = some (.int .i64 id)) :
    Calls Tryz.prog 94 #[p.v, .pointer (some ⟨g, 0, none⟩)] w fun e w' => e = .returned (.bool (p.id == id)) ∧ Grew w w' := by
  have e1 := grew_cell ((Grew.refl w).alloc (.cells #[.int .i64 p.id, .int .i64 p.owner, .bool p.shared, .int .i64 p.link, p.attrs] 55)) hc
  go_enter Tryz.func94, Tryz.ntmps94
  go_wp2
  go_ret
  exact ⟨rfl, (Grew.refl _).alloc _⟩
set_option maxRecDepth 100000 in
set_option maxHeartbeats 1000000 in
theorem slIndexFile (va : Value) (fs : List Fl) (g : Nat) (id : Int) (w : World) (hr : RdLs w va fs) (hx : fs.length ≤ 4000000) (hc : w.cell? ⟨g, 0, none⟩ = some (.int .i64 id)) :
    Calls Tryz.prog 93 #[va, .func (.func 94) #[] #[.pointer (some ⟨g, 0, none⟩)]] w fun e w' => ∃ i : Int, e = .returned (.int .i64 i) ∧ ((hasF fs id = true ∧ 0 ≤ i) ∨ (hasF fs id = false ∧ i = -1)) ∧ Grew w w' := by
  obtain ⟨qs, ⟨a, ca, rfl, hca, hra⟩, hall⟩ := hr
  have HA := Lib.hid hall
  have HC := Lib.hid hc
  clear hall hc
  generalize hn : fs.length = n at hx hra
  have HX := Lib.hid hn
  clear hn
  go_enter Tryz.func93, Tryz.ntmps93
  go_wp2
  go_loopw [5, 8] (fun _ i wr => ∃ k : Nat, k ≤ n ∧ i = .int .i64 k ∧ Hid (hasF (fs.take k) id = false) ∧ Grew w wr) (fun _ i _ => n - (intOf i).toNat)
  case atStart => exact ⟨0, Nat.zero_le _, rfl, Lib.hid rfl, Grew.refl _⟩
  case round =>
    obtain ⟨k, hk, rfl, hno, hbel⟩ := hrel
    by_cases hlt : k < n
    · obtain ⟨b1, o1, p, rfl, hpk, c0, c1, c2, c3, c4⟩ := (hra.grew hbel).getP5 hlt
      obtain ⟨x, hxk, hxr⟩ := HA.out.get hpk.out
      have hid := hxr.1
      obtain ⟨v, hv⟩ : ∃ v, (p.id == id) = v := ⟨_, rfl⟩
      have hv2 : (x.id == id) = v := by rw [← hid]; exact hv
      have HV := Lib.hid hv
      have HV2 := Lib.hid hv2
      clear hv hv2 hid hxr
      cases v
      · have HF := Lib.hid (hasF_no hno.out hxk.out HV2.out)
        go_wp2_with (go_at_call 94; refine (cloFileAt ⟨p.id, p.owner, p.shared, p.link, p.attrs⟩ g id _ (grew_cell hbel HC.out)).mono ?_; rintro e w1 ⟨he, hb⟩; rw [HV.out] at he; subst he)
        go_roundw
        case rel => exact ⟨k + 1, by omega, by go_num, HF, hbel.trans hb⟩
        case measure => simp [intOf]; omega
      · have HF := Lib.hid (hasF_yes hxk.out HV2.out)
        go_wp2_with (go_at_call 94; refine (cloFileAt ⟨p.id, p.owner, p.shared, p.link, p.attrs⟩ g id _ (grew_cell hbel HC.out)).mono ?_; rintro e w1 ⟨he, hb⟩; rw [HV.out] at he; subst he)
        go_ret
        exact ⟨_, rfl, .inl ⟨HF.out, by omega⟩, hbel.trans hb⟩
    · obtain rfl : k = n := by omega
      have h1 := hno.out
      rw [take_all HX.out] at h1
      have H1 := Lib.hid h1
      clear h1 hno
      go_wp2
      go_ret
      exact ⟨_, rfl, .inr ⟨H1.out, rfl⟩, hbel⟩
set_option maxRecDepth 100000 in
set_option maxHeartbeats 1000000 in
theorem implFileAt (p_q p_r : Value) (nx : Int) (fs : List Fl) (id : Int) (w : World) (hr : RdLs w p_r fs) (hx : fs.length ≤ 4000000) :
    Calls Tryz.prog 71 #[.agg #[p_q, p_r, .int .i64 nx], .int .i64 id] w fun e w' => ∃ i : Int, e = .returned (.int .i64 i) ∧ ((hasF fs id = true ∧ 0 ≤ i) ∨ (hasF fs id = false ∧ i = -1)) ∧ Grew w w' := by
  have hg := ((Grew.refl w).alloc (.cells #[p_q, p_r, .int .i64 nx] 27)).alloc (.cells #[.int .i64 id] 3)
  have HA := Lib.hid (RdLs.grew hr hg)
  obtain ⟨qs, ⟨a, ca, rfl, hca, hra⟩, hall⟩ := hr
  clear hall hra
  have hmf : ∀ (fn : Fn) (first cap : Array Value) (w : World), (Instr.makeFunc fn first cap).run Tryz.prog w = .ok (.func fn first cap) w := fun _ _ _ _ => rfl
  go_enter Tryz.func71, Tryz.ntmps71
  go_wp2_with fail
  refine (slIndexFile _ fs (w.heap.size + 1) id _ HA.out hx (by simp)).mono ?_
  rintro e w1 ⟨i, rfl, hp, hb⟩
  go_wp2
  go_ret
  exact ⟨_, rfl, hp, hg.trans hb⟩
end Go.Proofs.YtemikjbfjhebnaaGreat
namespace Go.Proofs.YtemikjbfjhebnaaGreat
open Go.RowKit
set_option linter.unusedVariables false
def Cur (w : World) (g : Nat) : Prop :=
  ∃ (a : Option Addr) (n c : Nat) (i h : Int) (bs : List Int), w.cell? ⟨g, 0, none⟩ = some (.slice a n c) ∧ w.cell? ⟨g, 1, none⟩ = some (.int .i64 i) ∧ w.cell? ⟨g, 2, none⟩ = some (.int .i64 h) ∧
    0 ≤ i ∧ i ≤ n ∧ n ≤ 1048576 ∧ RdA w a 1 n (bs.map (Value.int .u8)) ∧ (0 < n → ∀ b, a = some b → b.block < g) ∧ w.frozen? ⟨g, 1, none⟩ = false ∧ w.frozen? ⟨g, 2, none⟩ = false
theorem Cur.lt {w : World} {g : Nat} (h : Cur w g) : g < w.heap.size := by
  obtain ⟨a, n, c, i, k, bs, h0, _⟩ := h
  exact lt_of_cell h0
theorem tch_cell {w w' : World} {lo hi : Nat} (ht : Touch lo hi w w') {p : Addr} {u : Value} (hb : p.block < lo ∨ hi ≤ p.block) (h : w.cell? p = some u) : w'.cell? p = some u :=
  (World.cell?_of_block (w := w) (ht.block p.block (lt_of_cell h) hb)).trans h
theorem tch_frozen {w w' : World} {lo hi : Nat} (ht : Touch lo hi w w') {p : Addr} (hl : p.block < w.heap.size) (hb : p.block < lo ∨ hi ≤ p.block) (h : w.frozen? p = false) : w'.frozen? p = false :=
  (World.frozen?_of_block (w := w) (ht.block p.block hl hb)).trans h
theorem RdA.tch {w w' : World} {a : Option Addr} {k n lo hi : Nat} {cs : List Value} (h : RdA w a k n cs) (ht : Touch lo hi w w') (hb : 0 < n → ∀ b, a = some b → b.block < lo ∨ hi ≤ b.block) : RdA w' a k n cs := by
  obtain ⟨hl, hr⟩ := h
  refine ⟨hl, fun hn => ?_⟩
  obtain ⟨b, o, rfl, hj⟩ := hr hn
  refine ⟨b, o, rfl, fun j hjn => ?_⟩
  have h0 := hj j hjn
  rw [List.getElem?_eq_getElem (by omega)] at h0 ⊢
  exact tch_cell ht (p := ⟨b, o + j, none⟩) (hb hn ⟨b, o, none⟩ rfl) h0
theorem Cur.touch {w w' : World} {g lo hi : Nat} (h : Cur w g) (ht : Touch lo hi w w') (hg : g < lo) : Cur w' g := by
  have hlt := h.lt
  obtain ⟨a, n, c, i, k, bs, h0, h1, h2, h3, h4, h5, h6, h7, h8, h9⟩ := h
  exact ⟨a, n, c, i, k, bs, tch_cell ht (.inl hg) h0, tch_cell ht (.inl hg) h1, tch_cell ht (.inl hg) h2, h3, h4, h5, h6.tch ht (fun hn b hb => .inl (by have := h7 hn b hb; omega)), h7, tch_frozen ht hlt (.inl hg) h8, tch_frozen ht hlt (.inl hg) h9⟩
theorem Cur.grew {w w' : World} {g : Nat} (h : Cur w g) (hg : Grew w w') : Cur w' g := h.touch (hg.touch (g + 1) (g + 1)) (Nat.lt_succ_self g)
def D (g : Nat) (w w' : World) : Prop := g < w.heap.size ∧ Touch g (g + 1) w w' ∧ Cur w' g
theorem D.refl {w : World} {g : Nat} (h : Cur w g) : D g w w := ⟨h.lt, Touch.refl _ _ _, h⟩
theorem D.cur {g : Nat} {w w' : World} (h : D g w w') : Cur w' g := h.2.2
theorem D.size {g : Nat} {w w' : World} (h : D g w w') : w.heap.size ≤ w'.heap.size := h.2.1.size
theorem D.lt {g : Nat} {w w' : World} (h : D g w w') : g < w.heap.size := h.1
theorem D.trans {g : Nat} {a b c : World} (h : D g a b) (k : D g b c) : D g a c := ⟨h.1, h.2.1.trans k.2.1, k.2.2⟩
theorem D.grew {g : Nat} {a b c : World} (h : D g a b) (k : Grew b c) : D g a c := ⟨h.1, h.2.1.grew k, h.2.2.grew k⟩
theorem D.alloc {g : Nat} {a b : World} (h : D g a b) (o : Obj) : D g a (b.alloc o) := h.grew ((Grew.refl b).alloc o)
theorem D.drew {g : Nat} {a b : World} (h : D g a b) : D g a b.drew := h.grew (Grew.refl b).drew
theorem D.drewN {g : Nat} {a b : World} (h : D g a b) (n : Nat) : D g a (b.drewN n) := h.grew ((Grew.refl b).drewN n)
theorem D.touch {g lo hi : Nat} {a b c : World} (h : D g a b) (k : Touch lo hi b c) (hl : a.heap.size ≤ lo) : D g a c := by
  have hg := h.1
  refine ⟨hg, ⟨k.os.trans h.2.1.os, k.tape.trans h.2.1.tape, k.output.trans h.2.1.output, Nat.le_trans h.2.1.size k.size, fun b' hb ho => ?_⟩, h.2.2.touch k (by omega)⟩
  exact (k.block b' (Nat.lt_of_lt_of_le hb h.2.1.size) (.inl (by omega))).trans (h.2.1.block b' hb ho)
theorem D.setCell {g : Nat} {a b : World} (h : D g a b) {p : Addr} (hp : a.heap.size ≤ p.block) (u : Value) : D g a (b.setCell p u) :=
  h.touch (lo := p.block) (hi := p.block + 1) (Touch.setCell (Touch.refl _ _ _) (Nat.le_refl _) (Nat.lt_succ_self _) u) hp
theorem grown_touch {w w' : World} {row : Option Nat} (hg : w.grownBy w' row) {lo hi : Nat} (hr : ∀ k, row = some k → lo ≤ k ∧ k < hi) : Touch lo hi w w' :=
  ⟨hg.os, hg.tape, hg.output, hg.size, fun b hb ho => hg.block b hb (fun e => by have := hr b e.symm; omega)⟩
theorem D.grown {g : Nat} {a b c : World} {row : Option Nat} (h : D g a b) (hg : b.grownBy c row) (hr : ∀ k, row = some k → a.heap.size ≤ k) : D g a c := by
  cases row with
  | none => exact h.touch (lo := a.heap.size) (hi := a.heap.size) (grown_touch hg (fun k hk => by cases hk)) (Nat.le_refl _)
  | some k => exact h.touch (lo := k) (hi := k + 1) (grown_touch hg (fun j hj => by cases hj; omega)) (hr k rfl)
theorem D.cell {g : Nat} {w w' : World} (h : D g w w') {p : Addr} {u : Value} (hc : w.cell? p = some u) (hp : p.block ≠ g) : w'.cell? p = some u :=
  tch_cell h.2.1 (by omega) hc
theorem D.frozen {g : Nat} {w w' : World} (h : D g w w') {p : Addr} (hl : p.block < w.heap.size) (hf : w.frozen? p = false) (hp : p.block ≠ g) : w'.frozen? p = false :=
  tch_frozen h.2.1 hl (by omega) hf
theorem ownsRow_tch {w w' : World} {lo hi base : Nat} {e : TypeId} {k n : Nat} {v : Value} {cs : List Value} (h : w.ownsRow base e k v n cs) (ht : Touch lo hi w w') (hd : hi ≤ base) : w'.ownsRow base e k v n cs := by
  obtain ⟨hl, ⟨rfl, rfl⟩ | ⟨g, cap, cur, rfl, hg, hh, hr⟩⟩ := h
  · exact ⟨hl, .inl ⟨rfl, rfl⟩⟩
  · refine ⟨hl, .inr ⟨g, cap, cur, rfl, hg, ?_, hr⟩⟩
    rw [ht.block g (Array.getElem?_eq_some_iff.1 hh).1 (.inr (by omega))]
    exact hh
theorem D.own {g : Nat} {w w' : World} (h : D g w w') {base : Nat} {e : TypeId} {k n : Nat} {v : Value} {cs : List Value} (hr : w.ownsRow base e k v n cs) (hg : g < base) : w'.ownsRow base e k v n cs :=
  ownsRow_tch hr h.2.1 hg
theorem D.rd {g : Nat} {w w' : World} (h : D g w w') {k n : Nat} {v : Value} {cs : List Value} (hr : Rd w v k n cs) (hg : v.ownBlock ≠ some g) : Rd w' v k n cs := by
  obtain ⟨a, c, rfl, hc, ha⟩ := hr
  refine ⟨a, c, rfl, hc, ha.tch h.2.1 fun _ b hb => ?_⟩
  subst hb
  have : b.block ≠ g := fun e => hg (by simp [Value.ownBlock, e])
  omega
def GL {α β : Type} (enc : β → List Value) (k : Nat) (e : TypeId) (O : World → Nat → Nat → α → β → Prop) (w : World) (base : Nat) (v : Value) (xs : List α) : Prop :=
  ∃ ps, w.ownsRow base e k v xs.length (rows enc ps) ∧ All2 (O w base w.heap.size) xs ps
theorem GL.rd {α β : Type} {enc : β → List Value} {k : Nat} {e : TypeId} {O : World → Nat → Nat → α → β → Prop} {R : World → α → β → Prop} (hO : ∀ w lo hi x p, O w lo hi x p → R w x p) {w : World} {base : Nat} {v : Value} {xs : List α} (h : GL enc k e O w base v xs) : RdL enc k R w v xs := by
  obtain ⟨ps, h1, h2⟩ := h
  exact ⟨ps, rd_of_own h1, h2.mono fun x p h => hO _ _ _ _ _ h⟩
theorem GL.touch {α β : Type} {enc : β → List Value} {k : Nat} {e : TypeId} {O : World → Nat → Nat → α → β → Prop} (hO : ∀ w w' lo hi a b x p, O w lo hi x p → Touch a b w w' → (hi ≤ a ∨ b ≤ lo) → O w' lo hi x p) (hM : ∀ w lo hi hi' x p, O w lo hi x p → hi ≤ hi' → O w lo hi' x p)
    {w w' : World} {base a b : Nat} {v : Value} {xs : List α} (h : GL enc k e O w base v xs) (ht : Touch a b w w') (hd : b ≤ base) : GL enc k e O w' base v xs := by
  obtain ⟨ps, h1, h2⟩ := h
  exact ⟨ps, ownsRow_tch h1 ht hd, h2.mono fun x p h => hM _ _ _ _ _ _ (hO _ _ _ _ _ _ _ _ h ht (.inr hd)) ht.size⟩
theorem GL.slice {α β : Type} {enc : β → List Value} {k : Nat} {e : TypeId} {O : World → Nat → Nat → α → β → Prop} {w : World} {base : Nat} {v : Value} {xs : List α} (h : GL enc k e O w base v xs) : ∃ a c, v = .slice a xs.length c := by
  obtain ⟨ps, h1, _⟩ := h
  exact own_slice h1
theorem GL.base {α β : Type} {enc : β → List Value} {k : Nat} {e : TypeId} {O : World → Nat → Nat → α → β → Prop} (hM : ∀ w lo lo' hi x p, O w lo hi x p → lo' ≤ lo → O w lo' hi x p) {w : World} {base base' : Nat} {v : Value} {xs : List α} (h : GL enc k e O w base v xs) (hb : base' ≤ base) : GL enc k e O w base' v xs := by
  obtain ⟨ps, h1, h2⟩ := h
  exact ⟨ps, ownsRow_base h1 hb, h2.mono fun x p h => hM _ _ _ _ _ _ h hb⟩
end Go.Proofs.YtemikjbfjhebnaaGreat
namespace Go.Proofs.YtemikjbfjhebnaaGreat
open Go.RowKit
set_option linter.unusedVariables false
theorem and255 (n : Int) : bits .and .i64 n 255 = n % 256 := by
  have h255 : (BitVec.ofInt 64 255).toNat = 2 ^ 8 - 1 := by decide
  have key : (BitVec.ofInt 64 n &&& BitVec.ofInt 64 255).toNat = (n % ((2 ^ 64 : Nat) : Int)).toNat % 2 ^ 8 := by
    rw [BitVec.toNat_and, BitVec.toNat_ofInt, h255, Nat.and_two_pow_sub_one_eq_mod]
  show IntKind.i64.wrap ((BitVec.ofInt 64 n &&& BitVec.ofInt 64 255).toNat : Nat) = n % 256
  rw [key, IntKind.wrap_i64]
  omega
theorem and255_ok (n : Int) : 0 ≤ bits .and .i64 n 255 ∧ bits .and .i64 n 255 ≤ 255 := by rw [and255]; omega
theorem curOf {w w' : World} {g : Nat} (ht : Touch g (g + 1) w w') {a : Option Addr} {n c : Nat} {i h : Int} {bs : List Int} (h0 : w'.cell? ⟨g, 0, none⟩ = some (.slice a n c)) (h1 : w'.cell? ⟨g, 1, none⟩ = some (.int .i64 i)) (h2 : w'.cell? ⟨g, 2, none⟩ = some (.int .i64 h))
    (h3 : 0 ≤ i) (h4 : i ≤ n) (h5 : n ≤ 1048576) (h6 : RdA w a 1 n (bs.map (Value.int .u8))) (h7 : 0 < n → ∀ b, a = some b → b.block < g) (h8 : w'.frozen? ⟨g, 1, none⟩ = false) (h9 : w'.frozen? ⟨g, 2, none⟩ = false) : Cur w' g :=
  ⟨a, n, c, i, h, bs, h0, h1, h2, h3, h4, h5, h6.tch ht (fun hn b hb => .inl (h7 hn b hb)), h7, h8, h9⟩
theorem D.of {w w' : World} {g : Nat} (hl : g < w.heap.size) (ht : Touch g (g + 1) w w') (hc : Cur w' g) : D g w w' := ⟨hl, ht, hc⟩
theorem rda_lt {w : World} {a : Option Addr} {k n : Nat} {cs : List Value} (h : RdA w a (k + 1) n cs) (hn : 0 < n) {b : Addr} (hb : a = some b) : b.block < w.heap.size := by
  obtain ⟨c, o, rfl, hj⟩ := h.2 hn
  cases hb
  have h0 := hj 0 (by rw [Nat.mul_succ]; omega)
  rw [List.getElem?_eq_getElem (by rw [h.1, Nat.mul_succ]; omega)] at h0
  exact lt_of_cell (a := ⟨c, o + 0, none⟩) h0
set_option maxRecDepth 100000 in
set_option maxHeartbeats 1000000 in
theorem l01Byte (g : Nat) (w : World) (hc : Cur w g) :
    Calls Tryz.prog 56 #[.pointer (some ⟨g, 0, none⟩)] w fun e w' => ∃ x : Int, e = .returned (.int .i64 x) ∧ (0 ≤ x ∧ x ≤ 255) ∧ D g w w' := by
  have hlt := hc.lt
  obtain ⟨a, n, c, i, h, bs, h0, h1, h2, h3, h4, h5, h6, h7, h8, h9⟩ := hc
  have HB := Lib.hid h7
  have HR := Lib.hid h6
  clear h7
  by_cases hin : i < (n : Int)
  · obtain ⟨k, rfl⟩ : ∃ k : Nat, i = k := ⟨i.toNat, by omega⟩
    have hkn : k < n := by omega
    obtain ⟨b1, o1, x, rfl, hx, hcx⟩ := h6.one hkn
    have hb1 := HB.out (by omega) _ rfl
    have hne : ¬ (b1 = g) := by simp at hb1; omega
    clear h6 h3 h4
    go_enter Tryz.func56, Tryz.ntmps56
    go_wp2
    go_quiet (fail)
    go_wp2
    go_quiet (fail)
    go_wp2
    go_quiet (fail)
    go_wp2
    go_ret
    have ht : ∀ (u v : Value) (p : Nat), Touch g (g + 1) w (((w.setCell ⟨g, 2, none⟩ u).drewN p).setCell ⟨g, 1, none⟩ v) := fun u v p => (((Touch.refl g (g + 1) w).setCell (p := ⟨g, 2, none⟩) (Nat.le_refl _) (Nat.lt_succ_self _) u).drewN p).setCell (p := ⟨g, 1, none⟩) (Nat.le_refl _) (Nat.lt_succ_self _) v
    exact ⟨_, rfl, and255_ok _, D.of hlt (ht _ _ _) (curOf (ht _ _ _) (i := (k : Int) + 1) (by simp [go_sem, h0]; rfl) (by simp [go_sem, h1]; try go_num) (by simp [go_sem, h2]; rfl) (by omega) (by omega) h5 HR.out HB.out (by simp [go_sem, h8]) (by simp [go_sem, h9]))⟩
  · go_enter Tryz.func56, Tryz.ntmps56
    go_wp2
    go_quiet (fail)
    go_wp2
    go_quiet (fail)
    go_wp2
    go_ret
    have ht : ∀ (u : Value) (p q : Nat), Touch g (g + 1) w (((w.setCell ⟨g, 2, none⟩ u).drewN p).drewN q) := fun u p q => (((Touch.refl g (g + 1) w).setCell (p := ⟨g, 2, none⟩) (Nat.le_refl _) (Nat.lt_succ_self _) u).drewN p).drewN q
    exact ⟨_, rfl, and255_ok _, D.of hlt (ht _ _ _) (curOf (ht _ _ _) (by simp [go_sem, h0]; rfl) (by simp [go_sem, h1]) (by simp [go_sem, h2]; rfl) h3 h4 h5 HR.out HB.out (by simp [go_sem, h8]) (by simp [go_sem, h9]))⟩
theorem mod_ok {x k : Int} (hk : 0 < k) : 0 ≤ x % k ∧ x % k < k := ⟨Int.emod_nonneg _ (by omega), Int.emod_lt_of_pos _ hk⟩
set_option maxRecDepth 100000 in
set_option maxHeartbeats 1000000 in
theorem l01Below (g : Nat) (w : World) (hc : Cur w g) (k : Int) (hk : 0 < k) (hk2 : k ≤ 4294967296) :
    Calls Tryz.prog 27 #[.pointer (some ⟨g, 0, none⟩), .int .i64 k] w fun e w' => ∃ x : Int, e = .returned (.int .i64 x) ∧ (0 ≤ x ∧ x < k) ∧ D g w w' := by
  by_cases hle : k ≤ 256
  · go_enter Tryz.func27, Tryz.ntmps27
    go_wp2_with (go_at_call 56; refine (l01Byte g _ hc).mono ?_; rintro e w1 ⟨x, rfl, hx, hd⟩)
    go_ret
    exact ⟨_, rfl, mod_ok hk, hd⟩
  · go_enter Tryz.func27, Tryz.ntmps27
    go_wp2_with fail
    refine (l01Byte g _ hc).mono ?_; rintro e w1 ⟨x, rfl, hx, hd1⟩
    go_wp2_with fail
    refine (l01Byte g _ hd1.cur).mono ?_; rintro e w2 ⟨y, rfl, hy, hd2⟩
    go_wp2_with fail
    refine (l01Byte g _ hd2.cur).mono ?_; rintro e w3 ⟨z, rfl, hz, hd3⟩
    go_wp2_with fail
    refine (l01Byte g _ hd3.cur).mono ?_; rintro e w4 ⟨t, rfl, ht, hd4⟩
    go_wp2
    go_ret
    exact ⟨_, rfl, mod_ok hk, ((hd1.trans hd2).trans hd3).trans hd4⟩
set_option maxRecDepth 100000 in
set_option maxHeartbeats 1000000 in
theorem l01Once (g : Nat) (w : World) (hc : Cur w g) (k : Int) (hk : 0 < k) (hk2 : k ≤ 256) :
    Calls Tryz.prog 28 #[.pointer (some ⟨g, 0, none⟩), .int .i64 k] w fun e w' => ∃ b : Bool, e = .returned (.bool b) ∧ D g w w' := by
  go_enter Tryz.func28, Tryz.ntmps28
  go_wp2_with (go_at_call 27; refine (l01Below g _ hc k hk (by omega)).mono ?_; rintro e w1 ⟨x, rfl, hx, hd⟩)
  go_ret
  exact ⟨_, rfl, hd⟩
set_option maxRecDepth 100000 in
set_option maxHeartbeats 1000000 in
theorem l01Pick (g : Nat) (w : World) (hc : Cur w g) (v : Value) (n : Nat) (xs : List ByteArray) (hr : Rd w v 1 n (strs xs)) (hb : v.ownBlock ≠ some g) (hn : 0 < n) (hn2 : n ≤ 256) :
    Calls Tryz.prog 80 #[.pointer (some ⟨g, 0, none⟩), v] w fun e w' => ∃ x, e = .returned (.string x) ∧ x ∈ xs ∧ D g w w' := by
  obtain ⟨a, ca, rfl, hca, hra⟩ := hr
  have HB := Lib.hid hb
  go_enter Tryz.func80, Tryz.ntmps80
  go_wp2_with fail
  refine (l01Below g _ hc n (by omega) (by omega)).mono ?_
  rintro e w1 ⟨i, rfl, hi, hd⟩
  obtain ⟨k, rfl⟩ : ∃ k : Nat, i = k := ⟨i.toNat, by omega⟩
  obtain ⟨_, _, h1, h2, hra⟩ := hd.rd ⟨a, ca, rfl, hca, hra⟩ HB.out
  cases h1
  obtain ⟨b1, o1, x, rfl, hxk, c1⟩ := hra.one (i := k) (by omega)
  go_wp2
  go_ret
  exact ⟨_, rfl, List.mem_of_getElem? hxk.out, hd⟩
set_option maxRecDepth 100000 in
set_option maxHeartbeats 1000000 in
theorem l01PickInt (g : Nat) (w : World) (hc : Cur w g) (v : Value) (n : Nat) (xs : List Int) (hr : Rd w v 1 n (ints xs)) (hb : v.ownBlock ≠ some g) (hn : 0 < n) (hn2 : n ≤ 256) :
    Calls Tryz.prog 57 #[.pointer (some ⟨g, 0, none⟩), v] w fun e w' => ∃ x : Int, e = .returned (.int .i64 x) ∧ x ∈ xs ∧ D g w w' := by
  obtain ⟨a, ca, rfl, hca, hra⟩ := hr
  have HB := Lib.hid hb
  go_enter Tryz.func57, Tryz.ntmps57
  go_wp2_with fail
  refine (l01Below g _ hc n (by omega) (by omega)).mono ?_
  rintro e w1 ⟨i, rfl, hi, hd⟩
  obtain ⟨k, rfl⟩ : ∃ k : Nat, i = k := ⟨i.toNat, by omega⟩
  obtain ⟨_, _, h1, h2, hra⟩ := hd.rd ⟨a, ca, rfl, hca, hra⟩ HB.out
  cases h1
  obtain ⟨b1, o1, x, rfl, hxk, c1⟩ := hra.one (i := k) (by omega)
  go_wp2
  go_ret
  exact ⟨_, rfl, List.mem_of_getElem? hxk.out, hd⟩
set_option maxRecDepth 100000 in
set_option maxHeartbeats 1000000 in
theorem l01New (v : Value) (n : Nat) (bs : List Int) (w : World) (hr : Rd w v 1 n (bs.map (Value.int .u8))) (hn : n ≤ 1048576) :
    Calls Tryz.prog 13 #[v] w fun e w' => e = .returned (.pointer (some ⟨w.heap.size, 0, none⟩)) ∧ Cur w' w.heap.size ∧ Grew w w' ∧ w.heap.size < w'.heap.size := by
  obtain ⟨a, ca, rfl, hca, hra⟩ := hr
  have HR := Lib.hid hra
  go_enter Tryz.func13, Tryz.ntmps13
  go_wp2
  go_loop [3, 4] (fun h i => ∃ k : Nat, ∃ z : Int, k ≤ n ∧ i = .int .i64 k ∧ h = .int .i64 z) (fun _ i => n - (intOf i).toNat)
  case atStart => exact ⟨0, _, Nat.zero_le _, rfl, rfl⟩
  case round =>
    obtain ⟨k, z, hk, rfl, rfl⟩ := hrel
    by_cases hlt : k < n
    · by_cases h4 : k < 4000
      · obtain ⟨b1, o1, x, rfl, hxk, c1⟩ := hra.one hlt
        go_wp2
        exact ⟨⟨k + 1, _, by omega, by go_num, rfl⟩, by simp [intOf]; omega⟩
      · go_wp2
        go_ret
        exact ⟨rfl, ⟨a, n, ca, 0, z, bs, by simp, by simp, by simp, by omega, by omega, hn, HR.out.grew ((Grew.refl w).alloc _), fun hn b hb => rda_lt HR.out hn hb, by simp [go_sem], by simp [go_sem]⟩, (Grew.refl w).alloc _, by simp⟩
    · go_wp2
      go_ret
      exact ⟨rfl, ⟨a, n, ca, 0, z, bs, by simp, by simp, by simp, by omega, by omega, hn, HR.out.grew ((Grew.refl w).alloc _), fun hn b hb => rda_lt HR.out hn hb, by simp [go_sem], by simp [go_sem]⟩, (Grew.refl w).alloc _, by simp⟩
end Go.Proofs.YtemikjbfjhebnaaGreat
namespace Go.Proofs.YtemikjbfjhebnaaGreat
open Go.RowKit
set_option linter.unusedVariables false
section
variable {P : Program} {md : Region.Mode} {ops : Array Oper} {Q : Exit → Act → World → Prop} {S : World → Prop}
theorem cl2 (i j : Nat) {oi oj : Oper} {rs rt : List Oper} {fuel : Nat} {listed : Array Bool} {a : Act} {w : World} (hi : ops.toList.drop i = oi :: rs) (hj : ops.toList.drop j = oj :: rt) (hr : Region.ready md ops listed = [i, j])
    (h : ∀ K' : Act → World → Prop, Shut (∀ a w, S w → (S w → wpAnyH P md ops Q S fuel (listed.setIfInBounds i true) a w) → K' a w) → if Region.wanted oi (yielded ops a.tmps) = true then Oper.wp P oi a w K' Q else K' (a.put oi.dst undef) w)
    (h' : ∀ K' : Act → World → Prop, Shut (∀ a w, S w → (S w → wpAnyH P md ops Q S fuel (listed.setIfInBounds j true) a w) → K' a w) → if Region.wanted oj (yielded ops a.tmps) = true then Oper.wp P oj a w K' Q else K' (a.put oj.dst undef) w) :
    wpAnyH P md ops Q S (fuel + 1) listed a w :=
  wpAnyH_ready hr (by simp) (AllReadyH.cons (at_of_drop hi) h (AllReadyH.cons (at_of_drop hj) h' AllReadyH.nil))
end
theorem lit_rd (w : World) (cs : Array Value) (e : TypeId) (k n cap : Nat) (hl : cs.size = n * k) (hc : n ≤ cap) : Rd (w.alloc (.cells cs e)) (.slice (some ⟨w.heap.size, 0, none⟩) n cap) k n cs.toList := by
  refine ⟨_, cap, rfl, hc, by simpa using hl, fun _ => ⟨_, 0, rfl, fun j hj => ?_⟩⟩
  rw [Nat.zero_add, World.cell?_alloc_at (w := w) cs e w.heap.size j rfl, Array.getElem?_toList]
theorem lit_owns (w : World) (cs : Array Value) (e : TypeId) (k n : Nat) (hl : cs.size = n * k) (hc : n ≤ maxLen) : (w.alloc (.cells cs e)).ownsRow w.heap.size e k (.slice (some ⟨w.heap.size, 0, none⟩) n n) n cs.toList :=
  ⟨by simpa using hl, .inr ⟨w.heap.size, n, cs, rfl, Nat.le_refl _, heap_alloc_new w _, Nat.le_refl _, hc, hl, by rw [← hl, ← Array.length_toList, List.take_length]⟩⟩
theorem lit_news {w : World} {cs : Array Value} {e : TypeId} {g : Nat} (hg : g = w.heap.size) : ∀ j u, cs.toList[j]? = some u → (w.alloc (.cells cs e)).cell? ((⟨g, 0, none⟩ : Addr).add j) = some u := by
  subst hg
  intro j u hu
  rw [Addr.add_lit, Nat.zero_add, World.cell?_alloc_at (w := w) cs e w.heap.size j rfl, ← Array.getElem?_toList]
  exact hu
theorem cur_ne {w : World} {g n c : Nat} (h : Cur w g) : (Value.slice (some ⟨w.heap.size, 0, none⟩) n c).ownBlock ≠ some g := by
  have := h.lt; simp [Value.ownBlock]; omega
set_option maxRecDepth 100000 in
set_option maxHeartbeats 1000000 in
theorem l09DirName (g : Nat) (w : World) (hc : Cur w g) :
    Calls Tryz.prog 114 #[.pointer (some ⟨g, 0, none⟩)] w fun e w' => ∃ x : ByteArray, e = .returned (.string x) ∧ x.size ≤ 8 ∧ D g w w' := by
  go_enter Tryz.func114, Tryz.ntmps114
  go_wp2_with fail
  refine (l01Pick g _ (hc.grew ((Grew.refl w).alloc _)) _ 7 [⟨#[100, 97]⟩, ⟨#[100, 98]⟩, ⟨#[100, 99]⟩, ⟨#[100, 100]⟩, ⟨#[100, 97]⟩, ⟨#[100, 98]⟩, ⟨#[100, 99]⟩] (lit_rd w _ _ 1 7 7 rfl (Nat.le_refl _)) (cur_ne hc) (by decide) (by decide)).mono ?_
  rintro e w1 ⟨x, rfl, hx, hd⟩
  go_wp2
  go_ret
  refine ⟨_, rfl, ?_, (D.refl hc).alloc _ |>.trans hd⟩
  simp at hx
  rcases hx with rfl | rfl | rfl | rfl | rfl | rfl | rfl <;> decide
end Go.Proofs.YtemikjbfjhebnaaGreat
namespace Go.Proofs.YtemikjbfjhebnaaGreat
open Go.RowKit
set_option linter.unusedVariables false
section
variable {P : Program} (w : World)
theorem run_append_nil' (base : Nat) (t ty e : TypeId) (i : TypeInfo) (size : Nat) (ht : P.underlying t = some (.slice e)) (hi : P.info? e = some i)
    (v : Value) (n c : Nat) (xs : List Value) (hown : w.ownsRow base e size v n xs) : (Builtin.append_ #[t, t] ty #[v, .slice none 0 c]).run P w = .ok v w := by
  rcases hown.2 with ⟨rfl, rfl⟩ | ⟨g, cap, cur, rfl, _, _, hnc, _⟩
  · simp [Builtin.append_, run_underlying ht, sizeOf, typeInfo, hi, Builtin.lenOf, Builtin.firstCells]
  · simp [Builtin.append_, run_underlying ht, sizeOf, typeInfo, hi, Builtin.lenOf, Builtin.firstCells, hnc, storeCells]
theorem wp_append_any {o : Oper} {a : Act} {K : Act → World → Prop} {Q : Exit → Act → World → Prop} (s x : Operand) (t : TypeId)
    (ho : o.op = .call { callee := .builtin .append, args := #[s, x], argTypes := #[t, t] })
    (base : Nat) (e : TypeId) (i : TypeInfo) (z : Value) (size bytes : Nat) (ht : P.underlying t = some (.slice e)) (hi : P.info? e = some i) (hz : i.zero = some z)
    (hsize : i.size = size) (hby : i.bytes = bytes) (hzs : z.cells.size = size) (hsz : 0 < size)
    (v : Value) (n : Nat) (xs : List Value) (hs : a.eval s = v) (hown : w.ownsRow base e size v n xs)
    (ad : Option Addr) (m c : Nat) (news : List Value) (hx : a.eval x = .slice ad m c) (hra : RdA w ad size m news) (h1 : ∀ u ∈ news, u.oneCell' = true)
    (h63 : n + m ≤ maxLen) (hbytes : (n + m) * bytes ≤ 140737488355328) (hbase : base ≤ w.heap.size)
    (h : ∀ v' w', w'.ownsRow base e size v' (n + m) (xs ++ news) → w.grownBy w' v.ownBlock → K (a.put o.dst v') w') : o.wp P a w K Q := by
  cases ad with
  | some ad => exact wp_append_own w s x t ho base e i z size bytes ht hi hz hsize hby hzs hsz v n xs hs hown ad m c news hx hra.1 (rd_news hra (Grew.refl w)) h1 h63 hbytes hbase (fun v' w' h2 h3 _ => h v' w' h2 h3)
  | none =>
    have h0 : m = 0 := by rcases Nat.eq_zero_or_pos m with h | h; exact h; obtain ⟨b, o, h2, _⟩ := hra.2 h; cases h2
    subst h0
    have hn : news = [] := List.length_eq_zero_iff.1 (by simpa using hra.1)
    subst hn
    have hr := run_append_nil' (P := P) w base t o.type e i size ht hi v n c xs hown
    unfold Oper.wp execOp
    simp only [ho, resolve, invoke, builtin, Sem.run_bind, Sem.run_pure, Result.andThen_ok, List.map_toArray, List.map_cons, List.map_nil, hs, hx, hr]
    exact h v w (by simpa using hown) ⟨rfl, rfl, rfl, Nat.le_refl _, fun _ _ _ => rfl⟩
end
def TyAt (w : World) (b : Nat) (e : TypeId) : Prop := ∃ cs fr, w.heap[b]? = some (.cells cs e fr)
theorem TyAt.lt {w : World} {b : Nat} {e : TypeId} (h : TyAt w b e) : b < w.heap.size := by
  obtain ⟨cs, fr, h⟩ := h
  exact (Array.getElem?_eq_some_iff.1 h).1
theorem TyAt.new (w : World) (cs : Array Value) (e : TypeId) : TyAt (w.alloc (.cells cs e)) w.heap.size e := ⟨cs, (0, 0), heap_alloc_new w _⟩
theorem TyAt.tch {w w' : World} {b lo hi : Nat} {e : TypeId} (h : TyAt w b e) (ht : Touch lo hi w w') (hb : b < lo ∨ hi ≤ b) : TyAt w' b e := by
  have hl := h.lt
  obtain ⟨cs, fr, h⟩ := h
  exact ⟨cs, fr, (ht.block b hl hb).trans h⟩
theorem TyAt.grew {w w' : World} {b : Nat} {e : TypeId} (h : TyAt w b e) (hg : Grew w w') : TyAt w' b e := h.tch (hg.touch 0 0) (.inr (Nat.zero_le _))
theorem TyAt.d {w w' : World} {b g : Nat} {e : TypeId} (h : TyAt w b e) (hd : D g w w') (hb : b ≠ g) : TyAt w' b e := h.tch hd.2.1 (by omega)
theorem TyAt.set {w : World} {b : Nat} {e : TypeId} (h : TyAt w b e) (p : Addr) (u : Value) : TyAt (w.setCell p u) b e := by
  obtain ⟨cs, fr, h⟩ := h
  by_cases hp : b = p.block
  · subst hp
    exact ⟨if p.spot.isSome = true then cs else cs.setIfInBounds p.off u, fr, by simp [World.setCell, Array.getElem?_modify, h]⟩
  · exact ⟨cs, fr, (Below.heap_setCell _ _ _ _ hp).trans h⟩
theorem own_nety {w : World} {base : Nat} {e e' : TypeId} {k n b : Nat} {v : Value} {cs : List Value} (h : w.ownsRow base e k v n cs) (ht : TyAt w b e') (hne : e ≠ e') : ∀ c, v.ownBlock = some c → c ≠ b := by
  intro c hc hcb
  subst hcb
  obtain ⟨cs', fr, ht⟩ := ht
  rcases h.2 with ⟨rfl, _⟩ | ⟨g, cap, cur, rfl, _, hg, _⟩
  · simp [Value.ownBlock] at hc
  · simp [Value.ownBlock] at hc
    subst hc
    rw [hg] at ht
    simp at ht
    exact hne ht.2.1
theorem TyAt.grownOwn {w w' : World} {base : Nat} {e e' : TypeId} {k n b : Nat} {v : Value} {cs : List Value} (ht : TyAt w b e') (h : w.ownsRow base e k v n cs) (hg : w.grownBy w' v.ownBlock) (hne : e ≠ e') : TyAt w' b e' := by
  have h1 := own_nety h ht hne
  have hl := ht.lt
  obtain ⟨cs', fr, ht⟩ := ht
  exact ⟨cs', fr, (hg.block b hl (fun hb => h1 b hb.symm rfl)).trans ht⟩
theorem own_set {w : World} {base : Nat} {e e' : TypeId} {k n : Nat} {v : Value} {cs : List Value} {p : Addr} (h : w.ownsRow base e k v n cs) (ht : TyAt w p.block e') (hne : e ≠ e') (u : Value) : (w.setCell p u).ownsRow base e k v n cs := by
  have h1 := own_nety h ht hne
  refine h.kept (row := some p.block) ⟨rfl, rfl, rfl, by simp, fun k _ hk => Below.heap_setCell _ _ _ _ (fun e => hk (by rw [e]))⟩ ?_
  cases hb : v.ownBlock with
  | none => exact .inl rfl
  | some b => exact .inr (fun e => h1 b hb (Option.some.inj e))
end Go.Proofs.YtemikjbfjhebnaaGreat
namespace Go.Proofs.YtemikjbfjhebnaaGreat
open Go.RowKit
set_option linter.unusedVariables false
structure Row (w : World) (g : Nat) (e : TypeId) (k cap : Nat) (L : List Value) : Prop where
  heap : w.heap[g]? = some (.cells L.toArray e (0, 0))
  len : L.length = cap * k
  max : cap ≤ maxLen
theorem Row.own {w : World} {g : Nat} {e : TypeId} {k cap : Nat} {L : List Value} (h : Row w g e k cap L) {base n : Nat} {xs : List Value} (hb : base ≤ g) (hn : n ≤ cap) (hx : L.take (n * k) = xs) : w.ownsRow base e k (.slice (some ⟨g, 0, none⟩) n cap) n xs := by
  refine ⟨?_, .inr ⟨g, cap, L.toArray, rfl, hb, h.heap, hn, h.max, by simp [h.len], by simpa using hx⟩⟩
  rw [← hx, List.length_take, h.len]
  exact Nat.min_eq_left (Nat.mul_le_mul_right k hn)
theorem Row.cell {w : World} {g : Nat} {e : TypeId} {k cap : Nat} {L : List Value} (h : Row w g e k cap L) (j : Nat) : w.cell? ⟨g, j, none⟩ = L[j]? := by
  simp [World.cell?, h.heap]
theorem Row.grown {w w' : World} {g : Nat} {e : TypeId} {k cap : Nat} {L : List Value} {row : Option Nat} (h : Row w g e k cap L) (hg : w.grownBy w' row) (hne : row ≠ some g) : Row w' g e k cap L :=
  ⟨by rw [hg.block g (Array.getElem?_eq_some_iff.1 h.heap).1 (fun e => hne e.symm)]; exact h.heap, h.len, h.max⟩
theorem Row.drew {w : World} {g : Nat} {e : TypeId} {k cap : Nat} {L : List Value} (h : Row w g e k cap L) : Row w.drew g e k cap L := ⟨h.heap, h.len, h.max⟩
theorem Row.lt {w : World} {g : Nat} {e : TypeId} {k cap : Nat} {L : List Value} (h : Row w g e k cap L) : g < w.heap.size := (Array.getElem?_eq_some_iff.1 h.heap).1
def over (L : List Value) (o : Nat) (cs : List Value) : List Value := L.take o ++ cs ++ L.drop (o + cs.length)
theorem over_len {L : List Value} {o : Nat} {cs : List Value} (h : o + cs.length ≤ L.length) : (over L o cs).length = L.length := by
  unfold over; simp only [List.length_append, List.length_take, List.length_drop]; omega
theorem Row.set {w : World} {g : Nat} {e : TypeId} {k cap : Nat} {L : List Value} (h : Row w g e k cap L) (o : Nat) (cs : List Value) (hf : o + cs.length ≤ L.length) : Row (w.setRow g (over L o cs).toArray) g e k cap (over L o cs) :=
  ⟨setRow_heap w g _ _ e _ h.heap, by rw [over_len hf]; exact h.len, h.max⟩
section
variable {P : Program}
end
theorem run_append_lit {P : Program} (w : World) (base : Nat) (t ty e : TypeId) (i : TypeInfo) (z : Value) (size bytes : Nat) (ht : P.underlying t = some (.slice e)) (hi : P.info? e = some i) (hz : i.zero = some z)
    (hsize : i.size = size) (hby : i.bytes = bytes) (hzs : z.cells.size = size) (hsz : 0 < size) (g : Nat) (hlit : w.ownsRow base e size (.slice (some ⟨g, 0, none⟩) 0 0) 0 [])
    (ad : Option Addr) (m c : Nat) (news : List Value) (hra : RdA w ad size m news) (h1 : ∀ u ∈ news, u.oneCell' = true) (h63 : m ≤ maxLen) (hbytes : m * bytes ≤ 140737488355328) (hbase : base ≤ w.heap.size) :
    ∃ v' w', (Builtin.append_ #[t, t] ty #[.slice (some ⟨g, 0, none⟩) 0 0, .slice ad m c]).run P w = .ok v' w' ∧ w'.ownsRow base e size v' m news ∧ (∀ b, v'.ownBlock = some b → b = g ∨ w.heap.size ≤ b) ∧ Grew w w' := by
  rcases Nat.eq_zero_or_pos m with h0 | h0
  · subst h0
    have hn : news = [] := List.length_eq_zero_iff.1 (by simpa using hra.1)
    subst hn
    refine ⟨_, w, ?_, hlit, fun b hb => .inl (by simpa [Value.ownBlock] using hb.symm), Grew.refl w⟩
    cases ad with
    | none => simp [Builtin.append_, run_underlying ht, sizeOf, typeInfo, hi, Builtin.lenOf, Builtin.firstCells, storeCells]
    | some a => simp [Builtin.append_, run_underlying ht, sizeOf, typeInfo, hi, Builtin.lenOf, Builtin.firstCells, loadCells, loadCellsFrom, storeCells]
  · obtain ⟨b, o, rfl, hj⟩ := hra.2 h0
    have hnews : ∀ j u, news[j]? = some u → w.cell? ((⟨b, o, none⟩ : Addr).add j) = some u := fun j u hu => by
      rw [Addr.add_lit, hj j (by rw [← hra.1]; exact (List.getElem?_eq_some_iff.1 hu).1), hu]
    obtain ⟨v', w', hr, hown, hg, _⟩ := run_append_own (P := P) w base t ty e i z size bytes ht hi hz hsize hby hzs hsz _ 0 [] hlit ⟨b, o, none⟩ m c news hra.1 hnews h1 (by omega) (by simpa using hbytes) hbase
    have hr2 := run_append_grow (P := P) w t ty e i z ht hi hz ⟨g, 0, none⟩ 0 0 [] (by simp) (by simp) ⟨b, o, none⟩ m c news (by rw [hra.1, hsize]) hnews (by omega) (by unfold maxLen at h63; omega) (growslice_fits (by omega) (by rw [hby]; simpa using hbytes))
    rw [hr] at hr2
    injection hr2 with e1 e2
    subst e1; subst e2
    refine ⟨_, _, hr, by simpa using hown, fun b hb => .inr (by simp [Value.ownBlock] at hb; omega), ((Grew.refl w).drew).alloc _⟩
theorem wp_append_lit {P : Program} (w : World) {o : Oper} {a : Act} {K : Act → World → Prop} {Q : Exit → Act → World → Prop} (s x : Operand) (t : TypeId)
    (ho : o.op = .call { callee := .builtin .append, args := #[s, x], argTypes := #[t, t] })
    (base : Nat) (e : TypeId) (i : TypeInfo) (z : Value) (size bytes : Nat) (ht : P.underlying t = some (.slice e)) (hi : P.info? e = some i) (hz : i.zero = some z)
    (hsize : i.size = size) (hby : i.bytes = bytes) (hzs : z.cells.size = size) (hsz : 0 < size)
    (g : Nat) (hs : a.eval s = .slice (some ⟨g, 0, none⟩) 0 0) (hlit : w.ownsRow base e size (.slice (some ⟨g, 0, none⟩) 0 0) 0 [])
    (ad : Option Addr) (m c : Nat) (news : List Value) (hx : a.eval x = .slice ad m c) (hra : RdA w ad size m news) (h1 : ∀ u ∈ news, u.oneCell' = true)
    (h63 : m ≤ maxLen) (hbytes : m * bytes ≤ 140737488355328) (hbase : base ≤ w.heap.size)
    (h : ∀ v' w', w'.ownsRow base e size v' m news → (∀ b, v'.ownBlock = some b → b = g ∨ w.heap.size ≤ b) → Grew w w' → K (a.put o.dst v') w') : o.wp P a w K Q := by
  obtain ⟨v', w', hr, h2, h3, h4⟩ := run_append_lit (P := P) w base t o.type e i z size bytes ht hi hz hsize hby hzs hsz g hlit ad m c news hra h1 h63 hbytes hbase
  unfold Oper.wp execOp
  simp only [ho, resolve, invoke, builtin, Sem.run_bind, Sem.run_pure, Result.andThen_ok, List.map_toArray, List.map_cons, List.map_nil, hs, hx, hr]
  exact h v' w' h2 h3 h4
theorem All2.app {α β : Type} {R : α → β → Prop} {xs ys : List α} {ps qs : List β} (h1 : All2 R xs ps) (h2 : All2 R ys qs) : All2 R (xs ++ ys) (ps ++ qs) := by
  refine ⟨by simp [h1.1, h2.1], fun i x p hx hp => ?_⟩
  have hl := h1.1
  rcases Nat.lt_or_ge i xs.length with hi | hi
  · rw [List.getElem?_append_left hi] at hx
    rw [List.getElem?_append_left (by omega)] at hp
    exact h1.2 i x p hx hp
  · rw [List.getElem?_append_right hi] at hx
    rw [List.getElem?_append_right (by omega)] at hp
    exact h2.2 (i - xs.length) x p hx (by rw [hl]; exact hp)
theorem All2.take {α β : Type} {R : α → β → Prop} {xs : List α} {ps : List β} (h : All2 R xs ps) (i : Nat) : All2 R (xs.take i) (ps.take i) := by
  refine ⟨by simp [h.1], fun j x p hx hp => ?_⟩
  rw [List.getElem?_take] at hx hp
  split at hx
  · rename_i hj; rw [if_pos hj] at hp; exact h.2 j x p hx hp
  · cases hx
theorem All2.drop {α β : Type} {R : α → β → Prop} {xs : List α} {ps : List β} (h : All2 R xs ps) (i : Nat) : All2 R (xs.drop i) (ps.drop i) := by
  refine ⟨by simp [h.1], fun j x p hx hp => ?_⟩
  rw [List.getElem?_drop] at hx hp
  exact h.2 (i + j) x p hx hp
end Go.Proofs.YtemikjbfjhebnaaGreat
