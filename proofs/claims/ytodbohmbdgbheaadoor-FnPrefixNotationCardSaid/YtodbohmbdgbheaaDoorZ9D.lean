/- Contract of DrawPlaces (for a seat that has no other draws). -/
import Derived.Test.YtodbohmbdgbheaaDoorZ2
namespace Go.Proofs.YtodbohmbdgbheaaDoor
open Go.RowKit
set_option linter.unusedVariables false
/-- The bytes of a draw. -/
def Cd (w : World) (v : Value) : Prop := ∃ (n : Nat) (bs : List Int), Rd w v 1 n (bs.map (Value.int .u8)) ∧ n ≤ 1048576
theorem Cd.grew {w w' : World} {v : Value} (h : Cd w v) (hg : Grew w w') : Cd w' v := by
  obtain ⟨n, bs, h1, h2⟩ := h
  exact ⟨n, bs, h1.grew hg, h2⟩
theorem D.out {g : Nat} {a b c : World} (h : Grew a b) (k : D g b c) (hl : a.heap.size ≤ g) : Grew a c := k.2.1.new h hl
theorem own_first {w : World} {base n size : Nat} {e : TypeId} {v : Value} {xs : List Value} (h : w.ownsRow base e size v n xs) (hn : 0 < n) : ∃ g c, v = .slice (some ⟨g, 0, none⟩) n c := by
  obtain ⟨_, ⟨_, h0⟩ | ⟨g, cap, cur, h1, _⟩⟩ := h
  · omega
  · exact ⟨g, cap, h1⟩
set_option maxRecDepth 100000 in
set_option maxHeartbeats 1000000 in
theorem drawPlaces (v : Value) (w : World) (hc : Cd w v) :
    Calls Tryd.prog 12 #[v] w fun e w' => ∃ u, e = .returned u ∧ ∃ xs, xs.length = 12 ∧ (∀ x, x ∈ xs → 0 ≤ x ∧ x < 10000) ∧ w'.ownsRow w.heap.size 3 1 u 12 (ints xs) ∧ Grew w w' := by
  obtain ⟨i0, hi, hz0, hz1, hz2⟩ := info_parts Tryd.infoInt
  obtain ⟨n, bs, hr, hn⟩ := hc
  go_enter Tryd.func12, Tryd.ntmps12
  go_wp2_with fail
  refine (l01New v n bs _ hr hn).mono ?_
  rintro e w1 ⟨rfl, hc1, hg1, hs1⟩
  go_wp2
  go_loopw [4, 5] (fun t i wr => ∃ (k : Nat) (xs : List Int), k ≤ 12 ∧ i = .int .i64 k ∧ Hid (xs.length = k ∧ ∀ x, x ∈ xs → 0 ≤ x ∧ x < 10000) ∧ Hid (wr.ownsRow w1.heap.size 3 1 t k (ints xs)) ∧ D w.heap.size w1 wr) (fun _ i _ => 12 - (intOf i).toNat)
  case atStart => exact ⟨0, [], by omega, rfl, Lib.hid ⟨rfl, by simp⟩, Lib.hid (lit_own w1 _ 1), (D.refl hc1).alloc _⟩
  case round =>
    obtain ⟨k, xs, hk, rfl, hxs, hown, hd⟩ := hrel
    by_cases hlt : k < 12
    · go_wp2_with fail
      refine (l01Below _ _ hd.cur 10000 (by decide) (by decide)).mono ?_
      rintro e w2 ⟨b, rfl, hb, hd2⟩
      have d2 := hd.trans hd2
      have H2 := Lib.hid (hd2.own hown.out hd.lt)
      go_wp2_with (at_builtin; refine wpList_append_own _ rfl _ _ 31 rfl w1.heap.size 3 i0 _ 1 8 Tryd.underlying31 hi hz0 hz1 hz2 rfl (by decide) _ _ _ rfl (H2.out.alloc (.cells #[.int .i64 b] 3)) ⟨_, 0, none⟩ 1 1 [.int .i64 b] rfl rfl (lit_news rfl) (fun x hx => by simp at hx; subst hx; rfl) (by unfold maxLen; omega) (by omega) (by have := d2.size; simp; omega) ?_; intro v' w' hown' hgr2 _)
      go_roundw
      case rel =>
        refine ⟨k + 1, xs ++ [b], by omega, by go_num, Lib.hid ⟨by simp [hxs.out.1], fun x hx => ?_⟩, Lib.hid (by simpa using hown'), (d2.alloc _).grown hgr2 (fun j h => (H2.out.lt j h).1)⟩
        rw [List.mem_append] at hx
        rcases hx with hx | hx
        · exact hxs.out.2 x hx
        · simp at hx; subst hx; exact hb
      case measure => simp [intOf]; omega
    · obtain rfl : k = 12 := by omega
      go_wp2
      go_ret
      exact ⟨_, rfl, xs, hxs.out.1, hxs.out.2, ownsRow_base hown.out hg1.size, D.out hg1 hd (Nat.le_refl _)⟩
set_option maxHeartbeats 1000000 in
theorem big (v : Value) (n : Nat) (cs : List Value) (w : World) (hr : Rd w v 1 n cs) (hn : n ≤ maxLen) :
    Calls Tryd.prog 11 #[v] w fun e w' => e = .returned (.bool (decide ((1048576 : Int) < (n : Int)))) ∧ w = w' := by
  obtain ⟨a, ca, rfl, hca, hra⟩ := hr
  go_enter Tryd.func11, Tryd.ntmps11
  go_wp2
  go_ret
  exact ⟨rfl, rfl⟩
end Go.Proofs.YtodbohmbdgbheaaDoor
