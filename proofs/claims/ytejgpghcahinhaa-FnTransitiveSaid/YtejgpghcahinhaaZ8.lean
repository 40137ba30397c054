/- Contracts of the draws of the laws over directories. -/
import Derived.Test.YtejgpghcahinhaaZ7
namespace Go.Proofs.Ytejgpghcahinhaa
open Go.RowKit
set_option linter.unusedVariables false
theorem dr_small {n : Nat} {xs : List Dr} (h : dirsOk n xs) : ∀ x, x ∈ xs → x.small := fun x hx => by
  have := (h.2 x hx).2.1
  unfold Dr.small; omega
set_option maxRecDepth 100000 in
set_option maxHeartbeats 1000000 in
theorem drawFindDir (v : Value) (w : World) (hc : Cd w v) :
    Calls Try.prog 172 #[v] w fun e w' => ∃ u nm, e = .returned (.tuple #[u, .string nm]) ∧ nm.size ≤ 8 ∧ ∃ xs, dirsOk 6 xs ∧ GLd w' w.heap.size u xs ∧ Grew w w' := by
  obtain ⟨n, bs, hr, hn⟩ := hc
  go_enter Try.func172, Try.ntmps172
  go_wp2_with fail
  refine (l01New v n bs _ hr hn).mono ?_
  rintro e w1 ⟨rfl, hc1, hg1, hs1⟩
  go_wp2_with fail
  refine (l11Any _ _ hc1).mono ?_
  rintro e w2 ⟨u, rfl, xs, hok, hgl, hd⟩
  go_wp2_with fail
  refine (l11Name _ _ hd.cur).mono ?_
  rintro e w3 ⟨nm, rfl, hnm, hd2⟩
  go_wp2
  go_ret2
  exact ⟨_, nm, rfl, hnm, xs, hok, (hgl.d hd2 hs1).base hg1.size, D.out hg1 (hd.trans hd2) (Nat.le_refl _)⟩
set_option maxRecDepth 100000 in
set_option maxHeartbeats 1000000 in
theorem drawDependents (v : Value) (w : World) (hc : Cd w v) :
    Calls Try.prog 85 #[v] w fun e w' => ∃ u nm, e = .returned (.tuple #[u, .string nm]) ∧ nm.size ≤ 8 ∧ ∃ xs, dirsOk 6 xs ∧ GLd w' w.heap.size u xs ∧ Grew w w' := by
  go_enter Try.func85, Try.ntmps85
  go_wp2_with fail
  refine (drawFindDir v _ hc).mono ?_
  rintro e w1 ⟨u, nm, rfl, hnm, xs, hok, hgl, hg⟩
  go_wp2
  go_ret2
  exact ⟨_, nm, rfl, hnm, xs, hok, hgl, hg⟩
set_option maxRecDepth 100000 in
set_option maxHeartbeats 1000000 in
theorem drawRemoveDir (v : Value) (w : World) (hc : Cd w v) :
    Calls Try.prog 71 #[v] w fun e w' => ∃ u nm, e = .returned (.tuple #[u, .string nm]) ∧ nm.size ≤ 8 ∧ ∃ xs, dirsOk 6 xs ∧ GLd w' w.heap.size u xs ∧ Grew w w' := by
  go_enter Try.func71, Try.ntmps71
  go_wp2_with fail
  refine (drawFindDir v _ hc).mono ?_
  rintro e w1 ⟨u, nm, rfl, hnm, xs, hok, hgl, hg⟩
  go_wp2
  go_ret2
  exact ⟨_, nm, rfl, hnm, xs, hok, hgl, hg⟩
set_option maxRecDepth 100000 in
set_option maxHeartbeats 2000000 in
theorem drawTransitiveDependents (v : Value) (w : World) (hc : Cd w v) :
    Calls Try.prog 83 #[v] w fun e w' => ∃ u t, e = .returned (.tuple #[u, t]) ∧ ∃ xs, dirsOk 6 xs ∧ GLd w' w.heap.size u xs ∧ ∃ ns, ns.length ≤ 3 ∧ w'.ownsRow w.heap.size 9 1 t ns.length (strs ns) ∧ Grew w w' := by
  obtain ⟨i0, hi, hz0, hz1, hz2⟩ := info_parts Try.infoString
  obtain ⟨n, bs, hr, hn⟩ := hc
  go_enter Try.func83, Try.ntmps83
  go_wp2_with fail
  refine (l01New v n bs _ hr hn).mono ?_
  rintro e w1 ⟨rfl, hc1, hg1, hs1⟩
  go_wp2_with fail
  refine (l11Any _ _ hc1).mono ?_
  rintro e w2 ⟨u, rfl, xs, hok, hgl, hd⟩
  have HG := Lib.hid hgl
  have HOK := Lib.hid hok
  have h2 := hd.size
  clear hgl hok
  go_wp2
  go_loopw [6, 7] (fun t i wr => ∃ (k : Nat) (ns : List ByteArray), k ≤ 3 ∧ i = .int .i64 k ∧ Hid (ns.length = k) ∧ Hid (wr.ownsRow w2.heap.size 9 1 t k (strs ns)) ∧ D w.heap.size w2 wr) (fun _ i _ => 8 - (intOf i).toNat)
  case atStart => exact ⟨0, [], by omega, rfl, Lib.hid rfl, Lib.hid (lit_own w2 _ 1), (D.refl hd.cur).alloc _⟩
  case round =>
    obtain ⟨k, ns, hk, rfl, hnl, hown, hd3⟩ := hrel
    go_wp2_with fail
    refine (l01Below _ _ hd3.cur 3 (by decide) (by decide)).mono ?_
    rintro e w3 ⟨b, rfl, hb, hd4⟩
    have d4 := hd3.trans hd4
    have H4 := Lib.hid (hd4.own hown.out hd3.lt)
    by_cases hlt : (k : Int) < b
    · go_wp2_with fail
      refine (l11Name _ _ d4.cur).mono ?_
      rintro e w4 ⟨nm, rfl, hnm, hd5⟩
      have d5 := d4.trans hd5
      have H5 := Lib.hid (hd5.own H4.out hd3.lt)
      go_wp2_with (at_builtin; refine wpList_append_own _ rfl _ _ 63 rfl w2.heap.size 9 i0 _ 1 16 Try.underlying63 hi hz0 hz1 hz2 rfl (by decide) _ _ _ rfl (H5.out.alloc (.cells #[.string nm] 9)) ⟨_, 0, none⟩ 1 1 [.string nm] rfl rfl (lit_news rfl) (fun x hx => by simp at hx; subst hx; rfl) (by unfold maxLen; omega) (by omega) (by have := d5.size; simp; omega) ?_; intro v' w' hown' hgr2 _)
      go_roundw
      case rel => exact ⟨k + 1, ns ++ [nm], by omega, by go_num, Lib.hid (by simp [hnl.out]), Lib.hid (by simpa using hown'), (d5.alloc _).grown hgr2 (fun j h => (H5.out.lt j h).1)⟩
      case measure => simp [intOf]; omega
    · go_wp2
      go_ret2
      have h5 := HG.out.d d4 hs1
      exact ⟨_, _, rfl, xs, HOK.out, h5.base hg1.size, ns, by rw [hnl.out]; exact hk, by rw [hnl.out]; exact ownsRow_base H4.out (by have := hg1.size; omega), D.out hg1 (hd.trans d4) (Nat.le_refl _)⟩
end Go.Proofs.Ytejgpghcahinhaa
