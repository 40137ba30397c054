/- Contract of the draw of FnInvertTwice. -/
import Derived.Test.YtgekgokkbakcmaaZ8
import Derived.Test.YtgekgokkbakcmaaZ10
import Derived.Test.YtgekgokkbakcmaaN3
namespace Go.Proofs.Ytgekgokkbakcmaa
open Go.RowKit
set_option linter.unusedVariables false
def dfsOk (n : Nat) (xs : List Df) : Prop := xs.length ≤ n ∧ ∀ x, x ∈ xs → x.name.size ≤ 8 ∧ x.added.length ≤ 16 ∧ x.removed.length ≤ 16
theorem dfs_small {n : Nat} {xs : List Df} (h : dfsOk n xs) : ∀ x, x ∈ xs → x.small := fun x hx => by have := h.2 x hx; unfold Df.small; omega
theorem Df.O.tch (w w' : World) (lo hi a b : Nat) (x : Df) (p : P3) (h : Df.O w lo hi x p) (ht : Touch a b w w') (hd : hi ≤ a ∨ b ≤ lo) : Df.O w' lo hi x p := h.touch ht hd
abbrev GLf (w : World) (base : Nat) (v : Value) (xs : List Df) : Prop := GL P3.c 3 94 Df.O w base v xs
theorem GLf.tch {w w' : World} {base a b : Nat} {v : Value} {xs : List Df} (h : GLf w base v xs) (ht : Touch a b w w') (hd : b ≤ base) : GLf w' base v xs :=
  GL.touch Df.O.tch (fun w lo hi hi' x p h k => h.mono (Nat.le_refl _) k) h ht hd
theorem GLf.d {g : Nat} {w w' : World} {base : Nat} {v : Value} {xs : List Df} (h : GLf w base v xs) (hd : D g w w') (hg : g < base) : GLf w' base v xs := h.tch hd.2.1 hg
theorem GLf.rd {w : World} {base : Nat} {v : Value} {xs : List Df} (h : GLf w base v xs) : RdFs w v xs := GL.rd (fun w lo hi x p h => h.rd) h
theorem GLf.base {w : World} {base base' : Nat} {v : Value} {xs : List Df} (h : GLf w base v xs) (hb : base' ≤ base) : GLf w base' v xs := GL.base (fun w lo lo' hi x p h k => h.mono k (Nat.le_refl _)) h hb
theorem GLf.grew {w w' : World} {base : Nat} {v : Value} {xs : List Df} (h : GLf w base v xs) (hg : Grew w w') : GLf w' base v xs := h.tch (hg.touch 0 0) (Nat.zero_le _)
theorem GLf.snoc {w w' : World} {base lo2 : Nat} {v v' : Value} {ds : List Df} {d : Df} {ps : List P3} {p : P3} (h1 : w.ownsRow base 94 3 v ds.length (rows P3.c ps)) (h2 : All2 (Df.O w base w.heap.size) ds ps)
    (hp : Df.O w lo2 w.heap.size d p) (hb : base ≤ lo2)
    (hown : w'.ownsRow base 94 3 v' (ds.length + 1) (rows P3.c ps ++ P3.c p)) (hg : w.grownBy w' v.ownBlock) (hs : w.heap.size ≤ w'.heap.size) : GLf w' base v' (ds ++ [d]) := by
  refine ⟨ps ++ [p], ?_, ?_⟩
  · rw [List.length_append, rows_append]; simpa [rows] using hown
  · refine All2.snoc (h2.mono fun x q hr => ?_) ?_
    · exact ⟨hr.1, (own_grown hr.2.1 h1 (by decide) hg).mono (Nat.le_refl _) hs, (own_grown hr.2.2 h1 (by decide) hg).mono (Nat.le_refl _) hs⟩
    · exact ⟨hp.1, (own_grown hp.2.1 h1 (by decide) hg).mono hb hs, (own_grown hp.2.2 h1 (by decide) hg).mono hb hs⟩
set_option maxRecDepth 100000 in
set_option maxHeartbeats 4000000 in
theorem l17Diffs (g : Nat) (w : World) (hc : Cur w g) :
    Calls Try.prog 55 #[.pointer (some ⟨g, 0, none⟩)] w fun e w' => ∃ v, e = .returned v ∧ ∃ xs, dfsOk 5 xs ∧ GLf w' w.heap.size v xs ∧ D g w w' := by
  obtain ⟨i0, hi, hz0, hz1, hz2⟩ := info_parts Try.infoDf
  have hl := hc.lt
  have HLIT := Lib.hid (lit_own w 94 3)
  have d0 := (D.refl hc).alloc (.cells #[] 94)
  go_enter Try.func55, Try.ntmps55
  go_wp2
  go_loopw [3, 4] (fun v i wr => ∃ (k : Nat) (xs : List Df) (va : Option Addr) (vc : Nat), k ≤ 5 ∧ i = .int .i64 k ∧ v = .slice va k vc ∧ Hid (xs.length = k ∧ ∀ x, x ∈ xs → x.name.size ≤ 8 ∧ x.added.length ≤ 16 ∧ x.removed.length ≤ 16) ∧ Hid (GLf wr w.heap.size (.slice va k vc) xs) ∧ D g w wr) (fun _ i _ => 6 - (intOf i).toNat)
  case atStart => exact ⟨0, [], _, _, by omega, rfl, rfl, Lib.hid ⟨rfl, fun x h => by cases h⟩, Lib.hid ⟨[], HLIT.out, All2.nil⟩, d0⟩
  case round =>
    obtain ⟨k, xs, va, vc, hk, rfl, rfl, hok, hown, hd⟩ := hrel
    have HXL := Lib.hid hok.out.1
    go_wp2_with fail
    refine (l01Below g _ hd.cur 5 (by decide) (by decide)).mono ?_
    rintro e w1 ⟨b, rfl, hb, hd1⟩
    have hdd := hd.trans hd1
    have hG1 := Lib.hid (hown.out.d hd1 hl)
    clear hown
    by_cases hlt : (k : Int) < b
    · have hk4 : (k : Int) < 4 := by omega
      go_wp2_with fail
      refine (l17Diff g _ hdd.cur).mono ?_
      rintro e w2 ⟨nm, u2, t2, rfl, hnm, ⟨us, hus, ho1⟩, ⟨ts, hts, ho2⟩, hd2⟩
      have HO1 := Lib.hid ho1
      have HO2 := Lib.hid ho2
      obtain ⟨ua, uc, rfl⟩ := own_slice ho1
      obtain ⟨ta, tc, rfl⟩ := own_slice ho2
      clear ho1 ho2
      have hGL := hG1.out.d hd2 hl
      have hs2 := hdd.size
      have HS := (hdd.trans hd2).alloc (.cells #[.string nm, .slice ua us.length uc, .slice ta ts.length tc] 94)
      have hs3 := (hdd.trans hd2).size
      obtain ⟨ps, ho, hall⟩ := hGL
      rw [HXL.out] at ho
      have HPS := Lib.hid (ownsRow_grew ho ((Grew.refl _).alloc (.cells #[.string nm, .slice ua us.length uc, .slice ta ts.length tc] 94)))
      have HALL := Lib.hid (hall.mono fun x q h => (h.grew ((Grew.refl _).alloc (.cells #[.string nm, .slice ua us.length uc, .slice ta ts.length tc] 94))).mono (Nat.le_refl _) ((Grew.refl _).alloc (.cells #[.string nm, .slice ua us.length uc, .slice ta ts.length tc] 94)).size)
      have HU := Lib.hid (ownsRow_base (base' := w.heap.size) (ownsRow_grew HO1.out ((Grew.refl _).alloc (.cells #[.string nm, .slice ua us.length uc, .slice ta ts.length tc] 94))) (by omega))
      have HT := Lib.hid (ownsRow_base (base' := w.heap.size) (ownsRow_grew HO2.out ((Grew.refl _).alloc (.cells #[.string nm, .slice ua us.length uc, .slice ta ts.length tc] 94))) (by omega))
      clear ho hall
      go_wp2_with (at_builtin; refine wpList_append_own _ rfl _ _ 24 rfl w.heap.size 94 i0 _ 3 64 Try.underlying24 hi hz0 hz1 hz2 rfl (by decide) _ _ _ rfl HPS.out ⟨_, 0, none⟩ 1 1 [.string nm, .slice ua us.length uc, .slice ta ts.length tc] rfl rfl (lit_news (by simp)) (fun x hx => by simp at hx; rcases hx with rfl | rfl | rfl <;> rfl) (by unfold maxLen; omega) (by omega) (by simp; omega) ?_; intro v' w' hown' hgr2 _; have HD4 := Lib.hid (HS.grown hgr2 (fun j h => (HPS.out.lt j h).1)); have HGR := Lib.hid hgr2; have HO4 := Lib.hid hown'; obtain ⟨va', vc', rfl⟩ := own_slice hown'; clear hown' hgr2)
      go_roundw
      case rel =>
        refine ⟨k + 1, xs ++ [⟨nm, us, ts⟩], _, _, by omega, rfl, rfl, Lib.hid ⟨by simp [HXL.out], fun x hx => ?_⟩, Lib.hid ?_, HD4.out⟩
        · rw [List.mem_append] at hx; rcases hx with hx | hx
          · exact hok.out.2 x hx
          · simp at hx; subst hx; exact ⟨hnm, hus, hts⟩
        · refine GLf.snoc (lo2 := w.heap.size) (p := ⟨nm, .slice ua us.length uc, .slice ta ts.length tc⟩) (by rw [HXL.out]; exact HPS.out) HALL.out ⟨rfl, own_of HU.out, own_of HT.out⟩ (Nat.le_refl _) ?_ HGR.out HGR.out.size
          rw [HXL.out]; simpa [P3.c] using HO4.out
      case measure => simp [intOf]; omega
    · go_wp2
      go_ret
      exact ⟨_, rfl, xs, ⟨by have := HXL.out; omega, hok.out.2⟩, hG1.out, hdd⟩
set_option maxRecDepth 100000 in
set_option maxHeartbeats 2000000 in
theorem drawInvertDiffs (v : Value) (w : World) (hc : Cd w v) :
    Calls Try.prog 10 #[v] w fun e w' => ∃ u, e = .returned u ∧ ∃ xs, dfsOk 5 xs ∧ RdFs w' u xs ∧ (∃ a c, u = .slice a xs.length c) ∧ Grew w w' := by
  obtain ⟨n, bs, hr, hn⟩ := hc
  go_enter Try.func10, Try.ntmps10
  go_wp2_with fail
  refine (l01New v n bs _ hr hn).mono ?_
  rintro e w1 ⟨rfl, hc1, hg1, hs1⟩
  go_wp2_with fail
  refine (l17Diffs _ _ hc1).mono ?_
  rintro e w2 ⟨u, rfl, xs, hok, hgl, hd⟩
  have HG := Lib.hid hgl
  obtain ⟨ua, uc, rfl⟩ := hgl.slice
  clear hgl
  go_wp2
  go_ret
  exact ⟨_, rfl, xs, hok, HG.out.rd, ⟨_, _, rfl⟩, D.out hg1 hd (Nat.le_refl _)⟩
end Go.Proofs.Ytgekgokkbakcmaa
