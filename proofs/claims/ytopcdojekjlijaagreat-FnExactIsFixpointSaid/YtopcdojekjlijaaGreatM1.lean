/- Contracts of GetAttr. -/
import Derived.Test.YtopcdojekjlijaaGreatH4
import Derived.Test.YtopcdojekjlijaaGreatC6
namespace Go.Proofs.YtopcdojekjlijaaGreat
open Go.RowKit
set_option linter.unusedVariables false
/-- The value of the first attribute of that name. -/
def getA : List At → ByteArray → V
  | [], _ => V.z
  | x :: xs, s => if x.name.toList == s.toList then x.val else getA xs s
theorem getA_yes : ∀ {xs : List At} {s : ByteArray} {k : Nat} {x : At}, (∀ (j : Nat) y, j < k → xs[j]? = some y → (y.name.toList == s.toList) = false) → xs[k]? = some x → (x.name.toList == s.toList) = true → getA xs s = x.val
  | [], s, k, x, _, h, _ => by simp at h
  | y :: ys, s, 0, x, _, h, h2 => by
    simp at h; subst h; unfold getA; rw [h2]; rfl
  | y :: ys, s, k + 1, x, h1, h, h2 => by
    have h3 := h1 0 y (Nat.succ_pos k) rfl
    unfold getA; rw [h3]
    exact getA_yes (k := k) (fun j z hj hz => h1 (j + 1) z (Nat.succ_lt_succ hj) (by simpa using hz)) (by simpa using h) h2
theorem getA_no : ∀ {xs : List At} {s : ByteArray}, (∀ (j : Nat) y, j < xs.length → xs[j]? = some y → (y.name.toList == s.toList) = false) → getA xs s = V.z
  | [], s, _ => rfl
  | y :: ys, s, h1 => by
    have h3 := h1 0 y (by simp) rfl
    unfold getA; rw [h3]
    exact getA_no (fun j z hj hz => h1 (j + 1) z (by simpa using hj) (by simpa using hz))
theorem noa_snoc {xs : List At} {s : ByteArray} {k : Nat} {x : At} (h : ∀ (j : Nat) y, j < k → xs[j]? = some y → (y.name.toList == s.toList) = false) (hx : xs[k]? = some x) (hn : (x.name.toList == s.toList) = false) : ∀ (j : Nat) y, j < k + 1 → xs[j]? = some y → (y.name.toList == s.toList) = false := fun j y hj hy => by
  rcases Nat.lt_succ_iff_lt_or_eq.1 hj with h1 | rfl
  · exact h j y h1 hy
  · obtain rfl := Option.some.inj (hx.symm.trans hy); exact hn
set_option maxRecDepth 100000 in
set_option maxHeartbeats 1000000 in
theorem specGetAttr (f : Fl) (p : P5) (s : ByteArray) (w : World) (h : Fl.R w f p) (hx : f.small) :
    Calls Tryz.prog 130 #[p.v, .string s] w fun e w' => e = .returned (getA f.attrs s).v ∧ Grew w w' := by
  obtain ⟨p1, p2, p3, p4, p5⟩ := p
  obtain ⟨h1, h2, h3, h4, h5⟩ := h
  simp only at h5
  clear h1 h2 h3 h4
  obtain ⟨a, ca, rfl, hca, hra⟩ := h5
  unfold Fl.small at hx
  generalize hn : f.attrs.length = n at hx hca hra
  have HN := Lib.hid hn
  clear hn
  go_enter Tryz.func130, Tryz.ntmps130
  go_wp2
  have hg := ((Grew.refl w).alloc (.cells #[.int .i64 p1, .int .i64 p2, .bool p3, .int .i64 p4, .slice a n ca] 107)).alloc (.cells #[.int .i64 0, .int .i64 0, .string ⟨#[]⟩] 124)
  have d4 : ((w.alloc (.cells #[.int .i64 p1, .int .i64 p2, .bool p3, .int .i64 p4, .slice a n ca] 107)).alloc (.cells #[.int .i64 0, .int .i64 0, .string ⟨#[]⟩] 124)).cell? ⟨w.heap.size, 4, none⟩ = some (.slice a n ca) := grew_cell ((Grew.refl _).alloc _) (by simp)
  have r0 : ((w.alloc (.cells #[.int .i64 p1, .int .i64 p2, .bool p3, .int .i64 p4, .slice a n ca] 107)).alloc (.cells #[.int .i64 0, .int .i64 0, .string ⟨#[]⟩] 124)).cell? ⟨w.heap.size + 1, 0, none⟩ = some (.int .i64 0) := by simp [go_sem]
  have r1 : ((w.alloc (.cells #[.int .i64 p1, .int .i64 p2, .bool p3, .int .i64 p4, .slice a n ca] 107)).alloc (.cells #[.int .i64 0, .int .i64 0, .string ⟨#[]⟩] 124)).cell? ⟨w.heap.size + 1, 1, none⟩ = some (.int .i64 0) := by simp [go_sem]
  have r2 : ((w.alloc (.cells #[.int .i64 p1, .int .i64 p2, .bool p3, .int .i64 p4, .slice a n ca] 107)).alloc (.cells #[.int .i64 0, .int .i64 0, .string ⟨#[]⟩] 124)).cell? ⟨w.heap.size + 1, 2, none⟩ = some (.string ⟨#[]⟩) := by simp [go_sem]
  have z1 : ∀ j, ((w.alloc (.cells #[.int .i64 p1, .int .i64 p2, .bool p3, .int .i64 p4, .slice a n ca] 107)).alloc (.cells #[.int .i64 0, .int .i64 0, .string ⟨#[]⟩] 124)).frozen? ⟨w.heap.size + 1, j, none⟩ = false := fun j => by simp [go_sem]
  generalize (w.alloc (.cells #[.int .i64 p1, .int .i64 p2, .bool p3, .int .i64 p4, .slice a n ca] 107)).alloc (.cells #[.int .i64 0, .int .i64 0, .string ⟨#[]⟩] 124) = W at hg d4 r0 r1 r2 z1 ⊢
  go_loopw [5] (fun i wr => ∃ k : Nat, k ≤ n ∧ i = .int .i64 k ∧ Hid (∀ (j : Nat) y, j < k → f.attrs[j]? = some y → (y.name.toList == s.toList) = false) ∧ wr = W) (fun i _ => n - (intOf i).toNat)
  case atStart => exact ⟨0, Nat.zero_le _, rfl, Lib.hid (fun j y h => absurd h (Nat.not_lt_zero j)), rfl⟩
  case round =>
    obtain ⟨k, hk, rfl, hall, rfl⟩ := hrel
    by_cases hlt : k < n
    · obtain ⟨b1, o1, x, rfl, hxk, c0, c1, c2, c3⟩ := (hra.grew hg).getAt hlt
      have hcs : (x.name.toList == s.toList) = true ∨ (x.name.toList == s.toList) = false := by cases x.name.toList == s.toList <;> simp
      rcases hcs with hn | hn
      · have HY := Lib.hid (getA_yes hall.out hxk.out hn)
        go_wp2
        refine bodyPost_ret (v := x.val.v) (by simp [results, Tryz.results130, go_sem, r0, r1, r2]) rfl ⟨by rw [HY.out], ?_⟩
        repeat' (first | with_reducible exact hg | with_reducible refine Grew.setCell ?_ ?_ _ | (dsimp only; omega))
      · go_wp2
        go_roundw
        case rel => exact ⟨k + 1, by omega, by go_num, Lib.hid (noa_snoc hall.out hxk.out hn), by trivial⟩
        case measure => simp [intOf]; omega
    · obtain rfl : k = n := by omega
      have HY := Lib.hid (getA_no (fun j y h h2 => hall.out j y (by rw [← HN.out]; exact h) h2))
      go_wp2
      refine bodyPost_ret (v := V.z.v) (by simp [results, Tryz.results130, go_sem, r0, r1, r2, V.z]) rfl ⟨by rw [HY.out], ?_⟩
      repeat' (first | with_reducible exact hg | with_reducible refine Grew.setCell ?_ ?_ _ | (dsimp only; omega))
set_option maxRecDepth 100000 in
set_option maxHeartbeats 1000000 in
theorem implGetAttr (f : Fl) (p : P5) (s : ByteArray) (w : World) (h : Fl.R w f p) (hx : f.small) :
    Calls Tryz.prog 136 #[p.v, .string s] w fun e w' => e = .returned (getA f.attrs s).v ∧ Grew w w' := by
  obtain ⟨p1, p2, p3, p4, p5⟩ := p
  obtain ⟨h1, h2, h3, h4, h5⟩ := h
  simp only at h5
  clear h1 h2 h3 h4
  obtain ⟨a, ca, rfl, hca, hra⟩ := h5
  unfold Fl.small at hx
  generalize hn : f.attrs.length = n at hx hca hra
  have HN := Lib.hid hn
  clear hn
  go_enter Tryz.func136, Tryz.ntmps136
  go_wp2
  have hg := ((Grew.refl w).alloc (.cells #[.int .i64 p1, .int .i64 p2, .bool p3, .int .i64 p4, .slice a n ca] 107)).alloc (.cells #[.int .i64 0, .int .i64 0, .string ⟨#[]⟩] 124)
  have d4 : ((w.alloc (.cells #[.int .i64 p1, .int .i64 p2, .bool p3, .int .i64 p4, .slice a n ca] 107)).alloc (.cells #[.int .i64 0, .int .i64 0, .string ⟨#[]⟩] 124)).cell? ⟨w.heap.size, 4, none⟩ = some (.slice a n ca) := grew_cell ((Grew.refl _).alloc _) (by simp)
  have r0 : ((w.alloc (.cells #[.int .i64 p1, .int .i64 p2, .bool p3, .int .i64 p4, .slice a n ca] 107)).alloc (.cells #[.int .i64 0, .int .i64 0, .string ⟨#[]⟩] 124)).cell? ⟨w.heap.size + 1, 0, none⟩ = some (.int .i64 0) := by simp [go_sem]
  have r1 : ((w.alloc (.cells #[.int .i64 p1, .int .i64 p2, .bool p3, .int .i64 p4, .slice a n ca] 107)).alloc (.cells #[.int .i64 0, .int .i64 0, .string ⟨#[]⟩] 124)).cell? ⟨w.heap.size + 1, 1, none⟩ = some (.int .i64 0) := by simp [go_sem]
  have r2 : ((w.alloc (.cells #[.int .i64 p1, .int .i64 p2, .bool p3, .int .i64 p4, .slice a n ca] 107)).alloc (.cells #[.int .i64 0, .int .i64 0, .string ⟨#[]⟩] 124)).cell? ⟨w.heap.size + 1, 2, none⟩ = some (.string ⟨#[]⟩) := by simp [go_sem]
  have z1 : ∀ j, ((w.alloc (.cells #[.int .i64 p1, .int .i64 p2, .bool p3, .int .i64 p4, .slice a n ca] 107)).alloc (.cells #[.int .i64 0, .int .i64 0, .string ⟨#[]⟩] 124)).frozen? ⟨w.heap.size + 1, j, none⟩ = false := fun j => by simp [go_sem]
  generalize (w.alloc (.cells #[.int .i64 p1, .int .i64 p2, .bool p3, .int .i64 p4, .slice a n ca] 107)).alloc (.cells #[.int .i64 0, .int .i64 0, .string ⟨#[]⟩] 124) = W at hg d4 r0 r1 r2 z1 ⊢
  go_loopw [10] (fun i wr => ∃ k : Nat, k ≤ n ∧ i = .int .i64 k ∧ Hid (∀ (j : Nat) y, j < k → f.attrs[j]? = some y → (y.name.toList == s.toList) = false) ∧ Grew W wr) (fun i _ => n - (intOf i).toNat)
  case atStart => exact ⟨0, Nat.zero_le _, rfl, Lib.hid (fun j y h => absurd h (Nat.not_lt_zero j)), Grew.refl _⟩
  case round =>
    obtain ⟨k, hk, rfl, hall, hbel⟩ := hrel
    have hgw := hg.trans hbel
    replace z1 : ∀ j, wr.frozen? ⟨w.heap.size + 1, j, none⟩ = false := fun j => grew_frozen (a := ⟨w.heap.size + 1, j, none⟩) hbel (show w.heap.size + 1 < W.heap.size from lt_of_cell r0) (z1 j)
    replace r0 := grew_cell hbel r0
    replace r1 := grew_cell hbel r1
    replace r2 := grew_cell hbel r2
    by_cases hlt : k < n
    · obtain ⟨b1, o1, x, rfl, hxk, c0, c1, c2, c3⟩ := (hra.grew hgw).getAt hlt
      have hcs : (x.name.toList == s.toList) = true ∨ (x.name.toList == s.toList) = false := by cases x.name.toList == s.toList <;> simp
      have hal := (Grew.refl wr).alloc (.cells #[.string x.name, .int .i64 x.val.kind, .int .i64 x.val.int, .string x.val.str] 143)
      have q0 := grew_cell hal r0
      have q1 := grew_cell hal r1
      have q2 := grew_cell hal r2
      have zq := fun j => grew_frozen (a := ⟨w.heap.size + 1, j, none⟩) hal (show w.heap.size + 1 < wr.heap.size from lt_of_cell r0) (z1 j)
      have hgal := hgw.alloc (.cells #[.string x.name, .int .i64 x.val.kind, .int .i64 x.val.int, .string x.val.str] 143)
      rcases hcs with hn | hn
      · have HY := Lib.hid (getA_yes hall.out hxk.out hn)
        go_wp2
        refine bodyPost_ret (v := x.val.v) (by simp [results, Tryz.results136, go_sem, q0, q1, q2]) rfl ⟨by rw [HY.out], ?_⟩
        repeat' (first | with_reducible exact hgw | with_reducible exact hgal | with_reducible refine Grew.alloc ?_ _ | with_reducible refine Grew.setCell ?_ ?_ _ | (dsimp only; omega))
      · go_wp2
        go_roundw
        case rel => exact ⟨k + 1, by omega, by go_num, Lib.hid (noa_snoc hall.out hxk.out hn), hbel.alloc _⟩
        case measure => simp [intOf]; omega
    · obtain rfl : k = n := by omega
      have HY := Lib.hid (getA_no (fun j y h h2 => hall.out j y (by rw [← HN.out]; exact h) h2))
      go_wp2
      refine bodyPost_ret (v := V.z.v) (by simp [results, Tryz.results136, go_sem, r0, r1, r2, V.z]) rfl ⟨by rw [HY.out], ?_⟩
      repeat' (first | with_reducible exact hgw | with_reducible refine Grew.setCell ?_ ?_ _ | (dsimp only; omega))
set_option maxRecDepth 100000 in
set_option maxHeartbeats 1000000 in
theorem implIntAttr (f : Fl) (p : P5) (s : ByteArray) (w : World) (h : Fl.R w f p) (hx : f.small) :
    Calls Tryz.prog 137 #[p.v, .string s] w fun e w' => e = .returned (.tuple #[.int .i64 (if (getA f.attrs s).kind = 1 then (getA f.attrs s).int else 0), .bool ((getA f.attrs s).kind == 1)]) ∧ Grew w w' := by
  obtain ⟨p1, p2, p3, p4, p5⟩ := p
  obtain ⟨v, hv⟩ : ∃ v, getA f.attrs s = v := ⟨_, rfl⟩
  have HV := Lib.hid hv
  rw [hv]
  obtain ⟨ti, hti⟩ : ∃ t, (if v.kind = 1 then v.int else 0) = t := ⟨_, rfl⟩
  obtain ⟨tb, htb⟩ : ∃ t, (v.kind == 1) = t := ⟨_, rfl⟩
  rw [hti, htb]
  have hg := (Grew.refl w).alloc (.cells #[.int .i64 p1, .int .i64 p2, .bool p3, .int .i64 p4, p5] 107)
  have HF := Lib.hid (h.grew hg)
  clear hv h
  obtain ⟨vk, vi, vs⟩ := v
  simp only at hti htb
  by_cases hk : vk = 1
  · subst hk
    have e1 : ti = vi := by rw [← hti]; rfl
    have e2 : tb = true := by rw [← htb]; rfl
    subst e1; subst e2
    clear hti htb
    go_enter Tryz.func137, Tryz.ntmps137
    go_wp2_with fail
    refine (implGetAttr f ⟨p1, p2, p3, p4, p5⟩ s _ HF.out hx).mono ?_
    rintro e w1 ⟨he, hb⟩
    rw [HV.out] at he
    subst he
    go_wp2
    go_ret2
    exact ⟨rfl, (hg.trans hb).alloc _⟩
  · have hq : (vk == 1) = false := by simp [hk]
    have e1 : ti = 0 := by rw [← hti, if_neg hk]
    have e2 : tb = false := by rw [← htb]; exact hq
    subst e1; subst e2
    clear hti htb hk
    go_enter Tryz.func137, Tryz.ntmps137
    go_wp2_with fail
    refine (implGetAttr f ⟨p1, p2, p3, p4, p5⟩ s _ HF.out hx).mono ?_
    rintro e w1 ⟨he, hb⟩
    rw [HV.out] at he
    subst he
    go_wp2
    go_ret2
    exact ⟨rfl, (hg.trans hb).alloc _⟩
end Go.Proofs.YtopcdojekjlijaaGreat
