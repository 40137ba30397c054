/- Texts Z31, Z32, as far as they are needed. -/
import Derived.Test.YtemikjbfjhebnaaGreatNi1
import Derived.Test.YtemikjbfjhebnaaGreatNi12
namespace Go.Proofs.YtemikjbfjhebnaaGreat
open Go.RowKit
set_option linter.unusedVariables false
def eqFd (a b : Fd) : Bool := a.name.toList == b.name.toList && a.kind == b.kind
def eqAt (a b : At) : Bool := a.name.toList == b.name.toList && eqV a.val b.val
theorem runEqFd (a b : Fd) (w : World) : (binOp .eql 87 a.v b.v).run Tryz.prog w = .ok (.bool (eqFd a b)) w := by
  have u3 := Tryz.underlying3
  have u9 := Tryz.underlying9
  have hS : Tryz.prog.underlying 87 = some (.struct (Tryz.prog.fieldsOf 87)) := by kernel_rfl
  have hp : Tryz.prog.stoodInHeld 87 = false := by kernel_rfl
  rw [run_eql_struct, show (10000 : Nat) = 9999 + 1 from rfl, run_equalIn_agg w 9999 87 _ _ hS hp]
  simp only [Program.fieldsOf, Tryz.underlying87]
  go_simp
  unfold eqFd
  by_cases h1 : a.name.toList = b.name.toList <;> by_cases h2 : a.kind = b.kind <;> simp [h1, h2]
theorem runNeFd (a b : Fd) (w : World) : (binOp .neq 87 a.v b.v).run Tryz.prog w = .ok (.bool (!(eqFd a b))) w := by
  have h := runEqFd a b w
  have h1 := run_eql_struct (P := Tryz.prog) (w := w) 87
  have h2 := run_neq_struct (P := Tryz.prog) (w := w) 87
  rw [h1] at h
  rw [h2]
  revert h
  generalize (Op.equalIn 10000 87 _ _).run Tryz.prog w = r
  intro h
  cases r <;> simp_all [Result.andThen]
set_option maxRecDepth 100000 in
set_option maxHeartbeats 1000000 in
theorem l05Fields (va vb : Value) (n m : Nat) (xs ys : List Fd) (w : World) (ha : Rd w va 2 n (rows Fd.c xs)) (hb : Rd w vb 2 m (rows Fd.c ys)) (hx : n ≤ 4000000) (hy : m ≤ 4000000) :
    Calls Tryz.prog 46 #[va, vb] w fun e w' => e = .returned (.bool (eqL eqFd xs ys)) ∧ Grew w w' := by
  obtain ⟨a, ca, rfl, hca, hra⟩ := ha
  obtain ⟨b, cb, rfl, hcb, hrb⟩ := hb
  have HX := Lib.hid (hra.len_rows Fd.len (by decide))
  have HY := Lib.hid (hrb.len_rows Fd.len (by decide))
  by_cases hnm : n = m
  · subst hnm
    go_enter Tryz.func46, Tryz.ntmps46
    go_wp2
    go_loopw [5] (fun i wr => ∃ k : Nat, k ≤ n ∧ i = .int .i64 k ∧ Hid (∀ (j : Nat) x y, j < k → xs[j]? = some x → ys[j]? = some y → eqFd x y = true) ∧ Grew w wr) (fun i _ => n - (intOf i).toNat)
    case atStart => exact ⟨0, Nat.zero_le _, rfl, Lib.hid (fun j x y h => absurd h (Nat.not_lt_zero j)), Grew.refl _⟩
    case round =>
      obtain ⟨k, hk, rfl, hsame, hbel⟩ := hrel
      by_cases hlt : k < n
      · obtain ⟨b1, o1, x, rfl, hxk, c0, c1⟩ := (hra.grew hbel).getFd hlt
        obtain ⟨b2, o2, y, rfl, hyk, d0, d1⟩ := (hrb.grew hbel).getFd hlt
        obtain ⟨q, hq⟩ : ∃ q, q = eqFd x y := ⟨_, rfl⟩
        have hE : ∀ w, (binOp .eql 87 x.v y.v).run Tryz.prog w = .ok (.bool q) w := fun w => by rw [runEqFd, hq]
        have hF : ∀ w, (binOp .neq 87 x.v y.v).run Tryz.prog w = .ok (.bool (!q)) w := fun w => by rw [runNeFd, hq]
        have HQ := Lib.hid hq
        clear hq
        cases q <;> simp only [Bool.not_false, Bool.not_true] at hF
        · go_wp2
          go_quiet (fail)
          go_wp2
          go_ret
          exact ⟨ret_bool (eqL_at hxk.out hyk.out HQ.out.symm).symm, hbel.drewN _⟩
        · go_wp2
          go_quiet (fail)
          go_wp2
          go_roundw
          case rel => exact ⟨k + 1, by omega, by go_num, Lib.hid (eqL_snoc hsame.out hxk.out hyk.out HQ.out.symm), hbel.drewN _⟩
          case measure => simp [intOf]; omega
      · go_wp2
        go_ret
        obtain rfl : k = n := by omega
        exact ⟨ret_bool (eqL_all HX.out HY.out hsame.out).symm, hbel⟩
  · go_enter Tryz.func46, Tryz.ntmps46
    go_wp2
    go_ret
    exact ⟨ret_bool (eqL_len (by rw [HX.out, HY.out]; exact hnm)).symm, Grew.refl _⟩
theorem runEqAt (a b : At) (w : World) : (binOp .eql 84 a.v b.v).run Tryz.prog w = .ok (.bool (eqAt a b)) w := by
  have u3 := Tryz.underlying3
  have u9 := Tryz.underlying9
  have hS : Tryz.prog.underlying 84 = some (.struct (Tryz.prog.fieldsOf 84)) := by kernel_rfl
  have hp : Tryz.prog.stoodInHeld 84 = false := by kernel_rfl
  rw [run_eql_struct, show (10000 : Nat) = 9999 + 1 from rfl, run_equalIn_agg w 9999 84 _ _ hS hp]
  simp only [Program.fieldsOf, Tryz.underlying84]
  go_simp
  unfold eqAt eqV
  by_cases h1 : a.name.toList = b.name.toList <;> by_cases h5 : a.val.kind = b.val.kind <;> by_cases h6 : a.val.int = b.val.int <;> by_cases h7 : a.val.str.toList = b.val.str.toList <;> simp [h1, h5, h6, h7]
theorem runNeAt (a b : At) (w : World) : (binOp .neq 84 a.v b.v).run Tryz.prog w = .ok (.bool (!(eqAt a b))) w := by
  have h := runEqAt a b w
  have h1 := run_eql_struct (P := Tryz.prog) (w := w) 84
  have h2 := run_neq_struct (P := Tryz.prog) (w := w) 84
  rw [h1] at h
  rw [h2]
  revert h
  generalize (Op.equalIn 10000 84 _ _).run Tryz.prog w = r
  intro h
  cases r <;> simp_all [Result.andThen]
noncomputable def eqFl (x y : Fl) : Bool := x.id == y.id && (x.owner == y.owner && (x.shared == y.shared && (x.link == y.link && eqL eqAt x.attrs y.attrs)))
set_option maxRecDepth 100000 in
set_option maxHeartbeats 4000000 in
theorem specEqualFiles (x y : Fl) (p p' : P5) (w : World) (h : Fl.R w x p) (h' : Fl.R w y p') (hx : x.attrs.length ≤ 4000000) (hy : y.attrs.length ≤ 4000000) :
    Calls Tryz.prog 47 #[p.v, p'.v] w fun e w' => e = .returned (.bool (eqFl x y)) ∧ Grew w w' := by
  obtain ⟨xi, xo, xh, xl, xt⟩ := x
  obtain ⟨yi, yo, yh, yl, yt⟩ := y
  obtain ⟨p1, p2, p3, p4, p5⟩ := p
  obtain ⟨q1, q2, q3, q4, q5⟩ := p'
  obtain ⟨h1, h2, h3, h4, hr⟩ := h
  obtain ⟨k1, k2, k3, k4, hs⟩ := h'
  dsimp only at h1 h2 h3 h4 hr k1 k2 k3 k4 hs
  replace h1 := h1.symm; replace h2 := h2.symm; replace h3 := h3.symm; replace h4 := h4.symm; replace k1 := k1.symm; replace k2 := k2.symm; replace k3 := k3.symm; replace k4 := k4.symm
  subst h1 h2 h3 h4 k1 k2 k3 k4
  obtain ⟨a, ca, rfl, hca, hra⟩ := hr
  obtain ⟨b, cb, rfl, hcb, hrb⟩ := hs
  obtain ⟨xs, hxs⟩ : ∃ z, z = xt := ⟨_, rfl⟩
  obtain ⟨ys, hys⟩ : ∃ z, z = yt := ⟨_, rfl⟩
  dsimp only at hx hy hca hra hcb hrb ⊢
  subst hxs
  subst hys
  have EQ := Lib.hid (show eqFl ⟨xi, xo, xh, xl, xs⟩ ⟨yi, yo, yh, yl, ys⟩ = (xi == yi && (xo == yo && (xh == yh && (xl == yl && eqL eqAt xs ys)))) from rfl)
  obtain ⟨n, hn⟩ : ∃ n, xs.length = n := ⟨_, rfl⟩
  obtain ⟨m, hm⟩ : ∃ m, ys.length = m := ⟨_, rfl⟩
  have HX := Lib.hid hn
  have HY := Lib.hid hm
  rw [hn] at hx hca hra
  rw [hm] at hy hcb hrb
  rw [hn, hm]
  clear hn hm
  have G0 := ((Grew.refl w).alloc (.cells #[.int .i64 xi, .int .i64 xo, .bool xh, .int .i64 xl, .slice a n ca] 55)).alloc (.cells #[.int .i64 yi, .int .i64 yo, .bool yh, .int .i64 yl, .slice b m cb] 55)
  have e0 : ((w.alloc (.cells #[.int .i64 xi, .int .i64 xo, .bool xh, .int .i64 xl, .slice a n ca] 55)).alloc (.cells #[.int .i64 yi, .int .i64 yo, .bool yh, .int .i64 yl, .slice b m cb] 55)).cell? ⟨w.heap.size, 0, none⟩ = some (.int .i64 xi) := by simp
  have e1 : ((w.alloc (.cells #[.int .i64 xi, .int .i64 xo, .bool xh, .int .i64 xl, .slice a n ca] 55)).alloc (.cells #[.int .i64 yi, .int .i64 yo, .bool yh, .int .i64 yl, .slice b m cb] 55)).cell? ⟨w.heap.size, 1, none⟩ = some (.int .i64 xo) := by simp
  have e2 : ((w.alloc (.cells #[.int .i64 xi, .int .i64 xo, .bool xh, .int .i64 xl, .slice a n ca] 55)).alloc (.cells #[.int .i64 yi, .int .i64 yo, .bool yh, .int .i64 yl, .slice b m cb] 55)).cell? ⟨w.heap.size, 2, none⟩ = some (.bool xh) := by simp
  have e3 : ((w.alloc (.cells #[.int .i64 xi, .int .i64 xo, .bool xh, .int .i64 xl, .slice a n ca] 55)).alloc (.cells #[.int .i64 yi, .int .i64 yo, .bool yh, .int .i64 yl, .slice b m cb] 55)).cell? ⟨w.heap.size, 3, none⟩ = some (.int .i64 xl) := by simp
  have e4 : ((w.alloc (.cells #[.int .i64 xi, .int .i64 xo, .bool xh, .int .i64 xl, .slice a n ca] 55)).alloc (.cells #[.int .i64 yi, .int .i64 yo, .bool yh, .int .i64 yl, .slice b m cb] 55)).cell? ⟨w.heap.size, 4, none⟩ = some (.slice a n ca) := by simp
  have d0 : ((w.alloc (.cells #[.int .i64 xi, .int .i64 xo, .bool xh, .int .i64 xl, .slice a n ca] 55)).alloc (.cells #[.int .i64 yi, .int .i64 yo, .bool yh, .int .i64 yl, .slice b m cb] 55)).cell? ⟨w.heap.size + 1, 0, none⟩ = some (.int .i64 yi) := by simp
  have d1 : ((w.alloc (.cells #[.int .i64 xi, .int .i64 xo, .bool xh, .int .i64 xl, .slice a n ca] 55)).alloc (.cells #[.int .i64 yi, .int .i64 yo, .bool yh, .int .i64 yl, .slice b m cb] 55)).cell? ⟨w.heap.size + 1, 1, none⟩ = some (.int .i64 yo) := by simp
  have d2 : ((w.alloc (.cells #[.int .i64 xi, .int .i64 xo, .bool xh, .int .i64 xl, .slice a n ca] 55)).alloc (.cells #[.int .i64 yi, .int .i64 yo, .bool yh, .int .i64 yl, .slice b m cb] 55)).cell? ⟨w.heap.size + 1, 2, none⟩ = some (.bool yh) := by simp
  have d3 : ((w.alloc (.cells #[.int .i64 xi, .int .i64 xo, .bool xh, .int .i64 xl, .slice a n ca] 55)).alloc (.cells #[.int .i64 yi, .int .i64 yo, .bool yh, .int .i64 yl, .slice b m cb] 55)).cell? ⟨w.heap.size + 1, 3, none⟩ = some (.int .i64 yl) := by simp
  have d4 : ((w.alloc (.cells #[.int .i64 xi, .int .i64 xo, .bool xh, .int .i64 xl, .slice a n ca] 55)).alloc (.cells #[.int .i64 yi, .int .i64 yo, .bool yh, .int .i64 yl, .slice b m cb] 55)).cell? ⟨w.heap.size + 1, 4, none⟩ = some (.slice b m cb) := by simp
  by_cases i1 : xi = yi
  case neg =>
    have E := Lib.hid (EQ.out.trans (c := false) (by simp [i1]))
    go_enter Tryz.func47, Tryz.ntmps47
    go_wp2
    go_ret
    exact ⟨ret_bool E.out.symm, G0⟩
  subst i1
  by_cases i2 : xo = yo
  case neg =>
    have E := Lib.hid (EQ.out.trans (c := false) (by simp [i2]))
    go_enter Tryz.func47, Tryz.ntmps47
    go_wp2
    go_ret
    exact ⟨ret_bool E.out.symm, G0⟩
  subst i2
  by_cases i3 : xh = yh
  case neg =>
    have E := Lib.hid (EQ.out.trans (c := false) (by simp [i3]))
    go_enter Tryz.func47, Tryz.ntmps47
    go_wp2
    go_ret
    exact ⟨ret_bool E.out.symm, G0⟩
  subst i3
  by_cases i4 : xl = yl
  case neg =>
    have E := Lib.hid (EQ.out.trans (c := false) (by simp [i4]))
    go_enter Tryz.func47, Tryz.ntmps47
    go_wp2
    go_ret
    exact ⟨ret_bool E.out.symm, G0⟩
  subst i4
  by_cases i5 : n = m
  case neg =>
    have E := Lib.hid (EQ.out.trans (c := false) (by rw [eqL_len (by rw [HX.out, HY.out]; exact i5)]; simp))
    go_enter Tryz.func47, Tryz.ntmps47
    go_wp2
    go_ret
    exact ⟨ret_bool E.out.symm, G0⟩
  subst i5
  have EE := Lib.hid (EQ.out.trans (c := eqL eqAt xs ys) (by simp))
  go_enter Tryz.func47, Tryz.ntmps47
  go_wp2
  go_loopw [5] (fun i wr => ∃ k : Nat, k ≤ n ∧ i = .int .i64 k ∧ Hid (∀ (j : Nat) x y, j < k → xs[j]? = some x → ys[j]? = some y → eqAt x y = true) ∧ Grew ((w.alloc (.cells #[.int .i64 xi, .int .i64 xo, .bool xh, .int .i64 xl, .slice a n ca] 55)).alloc (.cells #[.int .i64 xi, .int .i64 xo, .bool xh, .int .i64 xl, .slice b n cb] 55)) wr) (fun i _ => n - (intOf i).toNat)
  case atStart => exact ⟨0, Nat.zero_le _, rfl, Lib.hid (fun j x y h => absurd h (Nat.not_lt_zero j)), Grew.refl _⟩
  case round =>
    obtain ⟨k, hk, rfl, hsame, hg⟩ := hrel
    have hbel := Lib.hid (G0.trans hg)
    have e4' := grew_cell hg e4
    have d4' := grew_cell hg d4
    by_cases hlt : k < n
    · obtain ⟨b1, o1, u, rfl, hxk, c0, c1, c2, c3⟩ := (hra.grew hbel.out).getAt hlt
      obtain ⟨b2, o2, v, rfl, hyk, a0, a1, a2, a3⟩ := (hrb.grew hbel.out).getAt hlt
      obtain ⟨q, hq⟩ : ∃ q, q = eqAt u v := ⟨_, rfl⟩
      have hE : ∀ w, (binOp .eql 84 u.v v.v).run Tryz.prog w = .ok (.bool q) w := fun w => by rw [runEqAt, hq]
      have hF : ∀ w, (binOp .neq 84 u.v v.v).run Tryz.prog w = .ok (.bool (!q)) w := fun w => by rw [runNeAt, hq]
      have HQ := Lib.hid hq
      clear hq
      cases q <;> simp only [Bool.not_false, Bool.not_true] at hF
      · go_wp2
        go_quiet (fail)
        go_wp2
        go_ret
        exact ⟨ret_bool (EE.out.trans (eqL_at hxk.out hyk.out HQ.out.symm)).symm, hbel.out.drewN _⟩
      · go_wp2
        go_quiet (fail)
        go_wp2
        go_roundw
        case rel => exact ⟨k + 1, by omega, by go_num, Lib.hid (eqL_snoc hsame.out hxk.out hyk.out HQ.out.symm), hg.drewN _⟩
        case measure => simp [intOf]; omega
    · go_wp2
      go_ret
      obtain rfl : k = n := by omega
      exact ⟨ret_bool (EE.out.trans (eqL_all HX.out HY.out hsame.out)).symm, hbel.out⟩
end Go.Proofs.YtemikjbfjhebnaaGreat
namespace Go.Proofs.YtemikjbfjhebnaaGreat
open Go.RowKit
set_option linter.unusedVariables false
noncomputable def eqSt (a b : St) : Bool := eqL eqFd a.schema b.schema && (a.next == b.next && eqL eqFl a.files b.files)
noncomputable def efU (a b : St) (u : Int) : Bool := eqSt ⟨(visS a u).schema, (visS a u).files, 0⟩ ⟨(visS b u).schema, (visS b u).files, 0⟩
theorem eqL_eq {α : Type} {f : α → α → Bool} (hf : ∀ x y, f x y = true → x = y) {xs ys : List α} (h : eqL f xs ys = true) : xs = ys := by
  unfold eqL at h
  have h := @of_decide_eq_true _ (Classical.propDecidable _) h
  refine List.ext_getElem h.1 fun i h1 h2 => ?_
  exact hf _ _ (h.2 i _ _ (List.getElem?_eq_getElem h1) (List.getElem?_eq_getElem h2))
theorem eqV_eq {a b : V} (h : eqV a b = true) : a = b := by
  unfold eqV at h
  simp only [Bool.and_eq_true] at h
  obtain ⟨h1, h2, h3⟩ := h
  have e1 := eq_of_beq h1
  have e2 := eq_of_beq h2
  have e3 := bytes_eq h3
  cases a; cases b
  dsimp only at e1 e2 e3
  subst e1; subst e2; subst e3
  rfl
theorem eqAt_eq {a b : At} (h : eqAt a b = true) : a = b := by
  unfold eqAt at h
  simp only [Bool.and_eq_true] at h
  have e1 := bytes_eq h.1
  have e2 := eqV_eq h.2
  cases a; cases b
  dsimp only at e1 e2
  subst e1; subst e2
  rfl
theorem eqFl_eq {a b : Fl} (h : eqFl a b = true) : a = b := by
  unfold eqFl at h
  simp only [Bool.and_eq_true] at h
  obtain ⟨h1, h2, h3, h4, h5⟩ := h
  have e1 := eq_of_beq h1
  have e2 := eq_of_beq h2
  have e3 := eq_of_beq h3
  have e4 := eq_of_beq h4
  have e5 := eqL_eq (fun _ _ h => eqAt_eq h) h5
  cases a; cases b
  dsimp only at e1 e2 e3 e4 e5
  subst e1; subst e2; subst e3; subst e4; subst e5
  rfl
theorem efU_files {a b : St} {u : Int} (h : efU a b u = true) : (visS a u).files = (visS b u).files := by
  unfold efU eqSt at h
  simp only [Bool.and_eq_true] at h
  exact eqL_eq (fun _ _ h => eqFl_eq h) h.2.2
set_option maxRecDepth 100000 in
set_option maxHeartbeats 8000000 in
theorem specEqualStores (s t : St) (p q : PS) (w : World) (h : St.R w s p) (h' : St.R w t q) (hs : s.sz ≤ 4000000) (ht : t.sz ≤ 4000000) :
    Calls Tryz.prog 21 #[p.v, q.v] w fun e w' => e = .returned (.bool (eqSt s t)) ∧ Grew w w' := by
  have hsm := St.small_of hs
  have htm := St.small_of ht
  obtain ⟨s1, s2, s3⟩ := s
  obtain ⟨t1, t2, t3⟩ := t
  obtain ⟨p1, p2, p3⟩ := p
  obtain ⟨q1, q2, q3⟩ := q
  obtain ⟨h1, h2, h3⟩ := h
  obtain ⟨k1, k2, k3⟩ := h'
  obtain ⟨y1, y2, y3⟩ := hsm
  obtain ⟨x1, x2, x3⟩ := htm
  dsimp only at h1 h2 h3 k1 k2 k3 y1 y2 y3 x1 x2 x3
  subst h3
  subst k3
  have HQ := Lib.hid h1
  have HK := Lib.hid k1
  have HSM := Lib.hid y3
  have HTM := Lib.hid x3
  obtain ⟨a, ca, rfl, _, _⟩ := h1
  obtain ⟨b, cb, rfl, _, _⟩ := k1
  obtain ⟨ps, ⟨fa, fca, rfl, hfc, hfr⟩, hal⟩ := h2
  obtain ⟨qs, ⟨fb, fcb, rfl, hgc, hgr⟩, hbl⟩ := k2
  have HA := Lib.hid hal
  have HB := Lib.hid hbl
  clear hal hbl hs ht y3 x3
  obtain ⟨b1, hb1⟩ : ∃ z, eqL eqFd s1 t1 = z := ⟨_, rfl⟩
  have EQ := Lib.hid (show eqSt ⟨s1, s2, p3⟩ ⟨t1, t2, q3⟩ = (b1 && (p3 == q3 && eqL eqFl s2 t2)) by rw [← hb1]; rfl)
  have HB1 := Lib.hid hb1
  obtain ⟨i1, hi1⟩ : ∃ z, s1.length = z := ⟨_, rfl⟩
  obtain ⟨j1, hj1⟩ : ∃ z, t1.length = z := ⟨_, rfl⟩
  obtain ⟨n, hn⟩ : ∃ z, s2.length = z := ⟨_, rfl⟩
  obtain ⟨m, hm⟩ : ∃ z, t2.length = z := ⟨_, rfl⟩
  have HX := Lib.hid hn
  have HY := Lib.hid hm
  rw [hi1] at HQ y1 ⊢
  rw [hj1] at HK x1 ⊢
  rw [hn] at hfc hfr y2 ⊢
  rw [hm] at hgc hgr x2 ⊢
  clear hb1 hi1 hj1 hn hm
  have gW := ((Grew.refl w).alloc (.cells #[.slice a i1 ca, .slice fa n fca, .int .i64 p3] 27)).alloc (.cells #[.slice b j1 cb, .slice fb m fcb, .int .i64 q3] 27)
  have e0 : ((w.alloc (.cells #[.slice a i1 ca, .slice fa n fca, .int .i64 p3] 27)).alloc (.cells #[.slice b j1 cb, .slice fb m fcb, .int .i64 q3] 27)).cell? ⟨w.heap.size, 0, none⟩ = some (.slice a i1 ca) := by simp
  have e1 : ((w.alloc (.cells #[.slice a i1 ca, .slice fa n fca, .int .i64 p3] 27)).alloc (.cells #[.slice b j1 cb, .slice fb m fcb, .int .i64 q3] 27)).cell? ⟨w.heap.size, 1, none⟩ = some (.slice fa n fca) := by simp
  have e2 : ((w.alloc (.cells #[.slice a i1 ca, .slice fa n fca, .int .i64 p3] 27)).alloc (.cells #[.slice b j1 cb, .slice fb m fcb, .int .i64 q3] 27)).cell? ⟨w.heap.size, 2, none⟩ = some (.int .i64 p3) := by simp
  have d0 : ((w.alloc (.cells #[.slice a i1 ca, .slice fa n fca, .int .i64 p3] 27)).alloc (.cells #[.slice b j1 cb, .slice fb m fcb, .int .i64 q3] 27)).cell? ⟨w.heap.size + 1, 0, none⟩ = some (.slice b j1 cb) := by simp
  have d1 : ((w.alloc (.cells #[.slice a i1 ca, .slice fa n fca, .int .i64 p3] 27)).alloc (.cells #[.slice b j1 cb, .slice fb m fcb, .int .i64 q3] 27)).cell? ⟨w.heap.size + 1, 1, none⟩ = some (.slice fb m fcb) := by simp
  have d2 : ((w.alloc (.cells #[.slice a i1 ca, .slice fa n fca, .int .i64 p3] 27)).alloc (.cells #[.slice b j1 cb, .slice fb m fcb, .int .i64 q3] 27)).cell? ⟨w.heap.size + 1, 2, none⟩ = some (.int .i64 q3) := by simp
  go_enter Tryz.func21, Tryz.ntmps21
  go_wp2_with fail
  generalize (w.alloc (.cells #[.slice a i1 ca, .slice fa n fca, .int .i64 p3] 27)).alloc (.cells #[.slice b j1 cb, .slice fb m fcb, .int .i64 q3] 27) = W at gW e0 e1 e2 d0 d1 d2 ⊢
  refine (l05Fields _ _ i1 j1 s1 t1 W (HQ.out.grew gW) (HK.out.grew gW) y1 x1).mono ?_
  rintro e w1 ⟨he, g1⟩
  rw [HB1.out] at he
  subst he
  have G1 := gW.trans g1
  replace e0 := grew_cell g1 e0
  replace e1 := grew_cell g1 e1
  replace e2 := grew_cell g1 e2
  replace d0 := grew_cell g1 d0
  replace d1 := grew_cell g1 d1
  replace d2 := grew_cell g1 d2
  cases b1
  case false =>
    have E := Lib.hid (EQ.out.trans (c := false) (Bool.false_and _))
    go_wp2
    go_ret
    exact ⟨ret_bool E.out.symm, G1⟩
  by_cases hnx : p3 = q3
  case neg =>
    have E := Lib.hid (EQ.out.trans (c := false) (by simp [hnx]))
    go_wp2
    go_ret
    exact ⟨ret_bool E.out.symm, G1⟩
  subst hnx
  by_cases hnm : n = m
  case neg =>
    have E := Lib.hid (EQ.out.trans (c := false) (by rw [eqL_len (by rw [HX.out, HY.out]; exact hnm)]; simp))
    go_wp2
    go_ret
    exact ⟨ret_bool E.out.symm, G1⟩
  subst hnm
  have EE := Lib.hid (EQ.out.trans (c := eqL eqFl s2 t2) (by simp))
  clear EQ
  go_wp2
  go_loopw [5] (fun i wr => ∃ k : Nat, k ≤ n ∧ i = .int .i64 k ∧ Hid (∀ (j : Nat) x y, j < k → s2[j]? = some x → t2[j]? = some y → eqFl x y = true) ∧ Grew w1 wr) (fun i _ => n - (intOf i).toNat)
  case atStart => exact ⟨0, Nat.zero_le _, rfl, Lib.hid (fun j x y h => absurd h (Nat.not_lt_zero j)), Grew.refl _⟩
  case round =>
    obtain ⟨k, hk, rfl, hsame, hg⟩ := hrel
    have G2 := Lib.hid (G1.trans hg)
    have u1 := grew_cell hg e1
    have v1 := grew_cell hg d1
    by_cases hlt : k < n
    · obtain ⟨r1, o1, P, rfl, hpk, c0, c1, c2, c3, c4⟩ := (hfr.grew G2.out).getP5 hlt
      obtain ⟨r2, o2, Q, rfl, hqk, f0, f1, f2, f3, f4⟩ := (hgr.grew G2.out).getP5 hlt
      obtain ⟨x, hxk, hxr⟩ := HA.out.get hpk.out
      obtain ⟨y, hyk, hyr⟩ := HB.out.get hqk.out
      have HXR := Lib.hid (hxr.grew G2.out)
      have HYR := Lib.hid (hyr.grew G2.out)
      have HXK := Lib.hid hxk
      have HYK := Lib.hid hyk
      have HZX := Lib.hid (HSM.out x (List.mem_of_getElem? hxk))
      have HZY := Lib.hid (HTM.out y (List.mem_of_getElem? hyk))
      clear hxk hyk hxr hyr hfr hgr
      obtain ⟨P1, P2, P3, P4, P5⟩ := P
      obtain ⟨Q1, Q2, Q3, Q4, Q5⟩ := Q
      dsimp only at c0 c1 c2 c3 c4 f0 f1 f2 f3 f4
      obtain ⟨z, hz⟩ : ∃ z, eqFl x y = z := ⟨_, rfl⟩
      have HZ := Lib.hid hz
      clear hz
      have hk0 : (0 : Int) ≤ k := by omega
      have hkn : (k : Int) < n := by omega
      go_wp2_with fail
      refine wp_region_noPanic ?_
      refine wp_region_held_drew (S := (fun w' => (w'.cell? ⟨w.heap.size, 1, none⟩ = some (.slice (some ⟨r1, o1, none⟩) n fca) ∧ w'.cell? ⟨w.heap.size + 1, 1, none⟩ = some (.slice (some ⟨r2, o2, none⟩) n fcb) ∧ w'.cell? ⟨r1, o1 + k * 5, none⟩ = some (.int .i64 P1) ∧ w'.cell? ⟨r1, o1 + k * 5 + 1, none⟩ = some (.int .i64 P2) ∧ w'.cell? ⟨r1, o1 + k * 5 + 2, none⟩ = some (.bool P3) ∧ w'.cell? ⟨r1, o1 + k * 5 + 3, none⟩ = some (.int .i64 P4) ∧ w'.cell? ⟨r1, o1 + k * 5 + 4, none⟩ = some (P5) ∧ w'.cell? ⟨r2, o2 + k * 5, none⟩ = some (.int .i64 Q1) ∧ w'.cell? ⟨r2, o2 + k * 5 + 1, none⟩ = some (.int .i64 Q2) ∧ w'.cell? ⟨r2, o2 + k * 5 + 2, none⟩ = some (.bool Q3) ∧ w'.cell? ⟨r2, o2 + k * 5 + 3, none⟩ = some (.int .i64 Q4) ∧ w'.cell? ⟨r2, o2 + k * 5 + 4, none⟩ = some (Q5) ∧ Grew wr w'))) (by kernel_rfl) ?h1_S ?h1_r
      case h1_S => exact ⟨grew_cell (Grew.refl _).drew u1, grew_cell (Grew.refl _).drew v1, grew_cell (Grew.refl _).drew c0, grew_cell (Grew.refl _).drew c1, grew_cell (Grew.refl _).drew c2, grew_cell (Grew.refl _).drew c3, grew_cell (Grew.refl _).drew c4, grew_cell (Grew.refl _).drew f0, grew_cell (Grew.refl _).drew f1, grew_cell (Grew.refl _).drew f2, grew_cell (Grew.refl _).drew f3, grew_cell (Grew.refl _).drew f4, (Grew.refl _).drew⟩
      case h1_r =>
        intro HS
        first | refine sk' 0 HS ?_ | refine tk' 0 HS ?_
        first | refine sk' 1 HS ?_ | refine tk' 1 HS ?_
        first | refine sk' 2 HS ?_ | refine tk' 2 HS ?_
        first | refine sk' 3 HS ?_ | refine tk' 3 HS ?_
        first | refine sk' 4 HS ?_ | refine tk' 4 HS ?_
        first | refine sk' 5 HS ?_ | refine tk' 5 HS ?_
        first | refine sk' 6 HS ?_ | refine tk' 6 HS ?_
        first | refine sk' 7 HS ?_ | refine tk' 7 HS ?_
        first | refine sk' 8 HS ?_ | refine tk' 8 HS ?_
        first | refine sk' 9 HS ?_ | refine tk' 9 HS ?_
        refine cl' 10 fun K hK => ?_
        rw [if_pos (by rfl)]
        go_simp
        go_at_call 47
        refine (specEqualFiles x y ⟨P1, P2, P3, P4, P5⟩ ⟨Q1, Q2, Q3, Q4, Q5⟩ _ (HXR.out.grew HS.2.2.2.2.2.2.2.2.2.2.2.2) (HYR.out.grew HS.2.2.2.2.2.2.2.2.2.2.2.2) HZX.out HZY.out).mono ?_
        rintro e wx ⟨he, hb⟩
        rw [HZ.out] at he
        subst he
        refine hK.out _ _ ?s1_10 ?r1_10
        case s1_10 => exact ⟨grew_cell hb HS.1, grew_cell hb HS.2.1, grew_cell hb HS.2.2.1, grew_cell hb HS.2.2.2.1, grew_cell hb HS.2.2.2.2.1, grew_cell hb HS.2.2.2.2.2.1, grew_cell hb HS.2.2.2.2.2.2.1, grew_cell hb HS.2.2.2.2.2.2.2.1, grew_cell hb HS.2.2.2.2.2.2.2.2.1, grew_cell hb HS.2.2.2.2.2.2.2.2.2.1, grew_cell hb HS.2.2.2.2.2.2.2.2.2.2.1, grew_cell hb HS.2.2.2.2.2.2.2.2.2.2.2.1, HS.2.2.2.2.2.2.2.2.2.2.2.2.trans hb⟩
        case r1_10 =>
          clear HS hK K; intro HS
          try simp only [Act.put, lpa, lpb, lpc]
          first | refine sk' 11 HS ?_ | refine tk' 11 HS ?_
          refine wpAnyH_done (by kernel_rfl) ?_ _
          refine NoPanic.normal ?_
          have GR := HS.2.2.2.2.2.2.2.2.2.2.2.2
          clear HS
          cases z
          case false =>
            go_wp2
            go_ret
            exact ⟨ret_bool (EE.out.trans (eqL_at HXK.out HYK.out HZ.out)).symm, G2.out.trans GR⟩
          case true =>
            go_wp2
            go_roundw
            case rel => exact ⟨k + 1, by omega, by go_num, Lib.hid (eqL_snoc hsame.out HXK.out HYK.out HZ.out), hg.trans GR⟩
            case measure => simp [intOf]; omega
    · obtain rfl : k = n := by omega
      go_wp2
      go_ret
      exact ⟨ret_bool (EE.out.trans (eqL_all HX.out HY.out hsame.out)).symm, G2.out⟩
set_option maxRecDepth 100000 in
set_option maxHeartbeats 8000000 in
theorem specEqualForUser (s t : St) (p q : PS) (u : Int) (w : World) (h : St.R w s p) (h' : St.R w t q) (hs : s.sz ≤ 4000000) (ht : t.sz ≤ 4000000) :
    Calls Tryz.prog 8 #[p.v, q.v, .int .i64 u] w fun e w' => e = .returned (.bool (efU s t u)) ∧ Grew w w' := by
  obtain ⟨p1, p2, p3⟩ := p
  obtain ⟨q1, q2, q3⟩ := q
  have hp3 : p3 = s.next := h.2.2
  have hq3 : q3 = t.next := h'.2.2
  subst hp3
  subst hq3
  have HS := Lib.hid h
  have HT := Lib.hid h'
  clear h h'
  have gW := ((Grew.refl w).alloc (.cells #[p1, p2, .int .i64 s.next] 27)).alloc (.cells #[q1, q2, .int .i64 t.next] 27)
  have x0 : ((w.alloc (.cells #[p1, p2, .int .i64 s.next] 27)).alloc (.cells #[q1, q2, .int .i64 t.next] 27)).cell? ⟨w.heap.size, 0, none⟩ = some p1 := by simp
  have x1 : ((w.alloc (.cells #[p1, p2, .int .i64 s.next] 27)).alloc (.cells #[q1, q2, .int .i64 t.next] 27)).cell? ⟨w.heap.size, 1, none⟩ = some p2 := by simp
  have x2 : ((w.alloc (.cells #[p1, p2, .int .i64 s.next] 27)).alloc (.cells #[q1, q2, .int .i64 t.next] 27)).cell? ⟨w.heap.size, 2, none⟩ = some (.int .i64 s.next) := by simp
  have z0 : ((w.alloc (.cells #[p1, p2, .int .i64 s.next] 27)).alloc (.cells #[q1, q2, .int .i64 t.next] 27)).cell? ⟨w.heap.size + 1, 0, none⟩ = some q1 := by simp
  have z1 : ((w.alloc (.cells #[p1, p2, .int .i64 s.next] 27)).alloc (.cells #[q1, q2, .int .i64 t.next] 27)).cell? ⟨w.heap.size + 1, 1, none⟩ = some q2 := by simp
  have z2 : ((w.alloc (.cells #[p1, p2, .int .i64 s.next] 27)).alloc (.cells #[q1, q2, .int .i64 t.next] 27)).cell? ⟨w.heap.size + 1, 2, none⟩ = some (.int .i64 t.next) := by simp
  have HZS := Lib.hid (Nat.le_trans (visS_sz s u) hs)
  have HZT := Lib.hid (Nat.le_trans (visS_sz t u) ht)
  go_enter Tryz.func8, Tryz.ntmps8
  go_wp2_with fail
  generalize (w.alloc (.cells #[p1, p2, .int .i64 s.next] 27)).alloc (.cells #[q1, q2, .int .i64 t.next] 27) = W at gW x0 x1 x2 z0 z1 z2 ⊢
  have HV := specVisibleStoreO s ⟨p1, p2, s.next⟩ u W (HS.out.grew gW) hs
  obtain ⟨sa, hsa⟩ : ∃ z, visS s u = z := ⟨_, rfl⟩
  rw [hsa] at HV HZS
  refine HV.mono ?_
  rintro e w1 ⟨xp, rfl, ⟨hx, g1⟩, -, -⟩
  have HSA := Lib.hid hsa
  clear HV hsa x0 x1 x2
  replace z0 := grew_cell g1 z0
  replace z1 := grew_cell g1 z1
  replace z2 := grew_cell g1 z2
  obtain ⟨xa, xb, xn⟩ := xp
  obtain ⟨a1, c1, ha1⟩ : ∃ a c, xa = .slice a sa.schema.length c := by obtain ⟨a, c, e, _⟩ := hx.1; exact ⟨a, c, e⟩
  obtain ⟨a2, c2, ha2⟩ : ∃ a c, xb = .slice a sa.files.length c := by obtain ⟨_, ⟨a, c, e, _⟩, _⟩ := hx.2.1; exact ⟨a, c, e⟩
  subst ha1
  subst ha2
  have HX := Lib.hid hx
  clear hx
  obtain ⟨l1, hl1⟩ : ∃ z, sa.schema.length = z := ⟨_, rfl⟩
  obtain ⟨l2, hl2⟩ : ∃ z, sa.files.length = z := ⟨_, rfl⟩
  rw [hl1, hl2] at HX ⊢
  clear hl1 hl2
  have gA := (Grew.refl w1).alloc (.cells #[.slice a1 l1 c1, .slice a2 l2 c2, .int .i64 xn] 27)
  have X0 : (w1.alloc (.cells #[.slice a1 l1 c1, .slice a2 l2 c2, .int .i64 xn] 27)).cell? ⟨w1.heap.size, 0, none⟩ = some (.slice a1 l1 c1) := by simp
  have X1 : (w1.alloc (.cells #[.slice a1 l1 c1, .slice a2 l2 c2, .int .i64 xn] 27)).cell? ⟨w1.heap.size, 1, none⟩ = some (.slice a2 l2 c2) := by simp
  have X2 : (w1.alloc (.cells #[.slice a1 l1 c1, .slice a2 l2 c2, .int .i64 xn] 27)).cell? ⟨w1.heap.size, 2, none⟩ = some (.int .i64 xn) := by simp
  have XZ : ∀ j, (w1.alloc (.cells #[.slice a1 l1 c1, .slice a2 l2 c2, .int .i64 xn] 27)).frozen? ⟨w1.heap.size, j, none⟩ = false := fun j => by simp [go_sem]
  have hsz : w1.heap.size + 1 ≤ (w1.alloc (.cells #[.slice a1 l1 c1, .slice a2 l2 c2, .int .i64 xn] 27)).heap.size := by simp
  replace z0 := grew_cell gA z0
  replace z1 := grew_cell gA z1
  replace z2 := grew_cell gA z2
  go_wp2_with fail
  generalize w1.alloc (.cells #[.slice a1 l1 c1, .slice a2 l2 c2, .int .i64 xn] 27) = W1 at gA X0 X1 X2 XZ hsz z0 z1 z2 ⊢
  have HV := specVisibleStoreO t ⟨q1, q2, t.next⟩ u W1 (HT.out.grew ((gW.trans g1).trans gA)) ht
  obtain ⟨tb, htb⟩ : ∃ z, visS t u = z := ⟨_, rfl⟩
  rw [htb] at HV HZT
  refine HV.mono ?_
  rintro e w2 ⟨yp, rfl, ⟨hy, g2⟩, hyg, hyb⟩
  have HTB := Lib.hid htb
  clear HV htb z0 z1 z2
  have fz := fun j => grew_frozen (a := ⟨w1.heap.size, j, none⟩) g2 (by dsimp only; omega) (XZ j)
  replace X0 := grew_cell g2 X0
  replace X1 := grew_cell g2 X1
  replace X2 := grew_cell g2 X2
  obtain ⟨ya, yb, yn⟩ := yp
  obtain ⟨b1, d1, hb1⟩ : ∃ a c, ya = .slice a tb.schema.length c := by obtain ⟨a, c, e, _⟩ := hy.1; exact ⟨a, c, e⟩
  obtain ⟨b2, d2, hb2⟩ : ∃ a c, yb = .slice a tb.files.length c := by obtain ⟨_, ⟨a, c, e, _⟩, _⟩ := hy.2.1; exact ⟨a, c, e⟩
  subst hb1
  subst hb2
  have HY := Lib.hid hy
  have HYG := Lib.hid hyg
  have HYB := Lib.hid hyb
  clear hy hyg hyb XZ
  obtain ⟨m1, hm1⟩ : ∃ z, tb.schema.length = z := ⟨_, rfl⟩
  obtain ⟨m2, hm2⟩ : ∃ z, tb.files.length = z := ⟨_, rfl⟩
  rw [hm1, hm2] at HY ⊢
  rw [hm2] at HYG
  rw [hm1] at HYB
  clear hm1 hm2
  have hs2 := g2.size
  obtain ⟨bx, hbx⟩ : ∃ z, w1.heap.size = z := ⟨_, rfl⟩
  have HBX := Lib.hid hbx
  rw [hbx] at X0 X1 X2 fz hsz ⊢
  clear hbx
  have hne : bx ≠ w2.heap.size := by omega
  have gY := (Grew.refl w2).alloc (.cells #[.slice b1 m1 d1, .slice b2 m2 d2, .int .i64 yn] 27)
  have Y0 := grew_cell gY X0
  have Y1 := grew_cell gY X1
  have Y2 := grew_cell gY X2
  have fy := fun j => grew_frozen (a := ⟨bx, j, none⟩) gY (by dsimp only; omega) (fz j)
  have GT : Grew w1 (((w2.alloc (.cells #[.slice b1 m1 d1, .slice b2 m2 d2, .int .i64 yn] 27)).setCell ⟨bx, 2, none⟩ (.int .i64 0)).setCell ⟨w2.heap.size, 2, none⟩ (.int .i64 0)) :=
    (((gA.trans g2).alloc (.cells #[.slice b1 m1 d1, .slice b2 m2 d2, .int .i64 yn] 27)).setCell (by have := HBX.out; dsimp only; omega) _).setCell (by have := (gA.trans g2).size; dsimp only; omega) _
  have TT : Touch bx (bx + 1) w2 (((w2.alloc (.cells #[.slice b1 m1 d1, .slice b2 m2 d2, .int .i64 yn] 27)).setCell ⟨bx, 2, none⟩ (.int .i64 0)).setCell ⟨w2.heap.size, 2, none⟩ (.int .i64 0)) :=
    ((((Grew.refl w2).alloc (.cells #[.slice b1 m1 d1, .slice b2 m2 d2, .int .i64 yn] 27)).touch bx (bx + 1)).setCell (p := ⟨bx, 2, none⟩) (Nat.le_refl _) (Nat.lt_succ_self _) _).new' (p := ⟨w2.heap.size, 2, none⟩) (Nat.le_refl _) _
  have RX : Hid (St.R (((w2.alloc (.cells #[.slice b1 m1 d1, .slice b2 m2 d2, .int .i64 yn] 27)).setCell ⟨bx, 2, none⟩ (.int .i64 0)).setCell ⟨w2.heap.size, 2, none⟩ (.int .i64 0)) ⟨sa.schema, sa.files, 0⟩ ⟨.slice a1 l1 c1, .slice a2 l2 c2, 0⟩) :=
    Lib.hid ⟨HX.out.1.grew GT, RdLs.grew HX.out.2.1 GT, rfl⟩
  have RY : Hid (St.R (((w2.alloc (.cells #[.slice b1 m1 d1, .slice b2 m2 d2, .int .i64 yn] 27)).setCell ⟨bx, 2, none⟩ (.int .i64 0)).setCell ⟨w2.heap.size, 2, none⟩ (.int .i64 0)) ⟨tb.schema, tb.files, 0⟩ ⟨.slice b1 m1 d1, .slice b2 m2 d2, 0⟩) :=
    Lib.hid ⟨Rd.tch HY.out.1 TT (fun b hb => .inr (by have := HYB.out b hb; omega)), (HYG.out.tch TT hsz).rd, rfl⟩
  have GF : Grew w (((w2.alloc (.cells #[.slice b1 m1 d1, .slice b2 m2 d2, .int .i64 yn] 27)).setCell ⟨bx, 2, none⟩ (.int .i64 0)).setCell ⟨w2.heap.size, 2, none⟩ (.int .i64 0)) := (gW.trans g1).trans GT
  go_wp2_with fail
  generalize ((w2.alloc (.cells #[.slice b1 m1 d1, .slice b2 m2 d2, .int .i64 yn] 27)).setCell ⟨bx, 2, none⟩ (.int .i64 0)).setCell ⟨w2.heap.size, 2, none⟩ (.int .i64 0) = W3 at RX RY GF ⊢
  refine (specEqualStores ⟨sa.schema, sa.files, 0⟩ ⟨tb.schema, tb.files, 0⟩ ⟨.slice a1 l1 c1, .slice a2 l2 c2, 0⟩ ⟨.slice b1 m1 d1, .slice b2 m2 d2, 0⟩ W3 RX.out RY.out HZS.out HZT.out).mono ?_
  rintro e w4 ⟨rfl, g4⟩
  go_wp2
  go_ret
  exact ⟨ret_bool (by unfold efU; rw [HSA.out, HTB.out]), GF.trans g4⟩
end Go.Proofs.YtemikjbfjhebnaaGreat
