/- Contracts of the draw's cursor: numbers and picks. -/
import Derived.Test.YtodbohmbdgbheaaGreatDoorZ0
import Derived.Laws.Bits128
namespace Go.Proofs.YtodbohmbdgbheaaGreatDoor
open Go.RowKit
set_option linter.unusedVariables false
theorem and255 (n : Int) : bits .and .i64 n 255 = n % 256 := by
  have h255 : (BitVec.ofInt 64 255).toNat = 2 ^ 8 - 1 := by decide
  have key : (BitVec.ofInt 64 n &&& BitVec.ofInt 64 255).toNat = (n % ((2 ^ 64 : Nat) : Int)).toNat % 2 ^ 8 := by
    rw [BitVec.toNat_and, BitVec.toNat_ofInt, h255, Nat.and_two_pow_sub_one_eq_mod]
  show IntKind.i64.wrap ((BitVec.ofInt 64 n &&& BitVec.ofInt 64 255).toNat : Nat) = n % 256
  rw [key, IntKind.wrap_i64]
  omega
theorem and255_ok (n : Int) : 0 ≤ bits .and .i64 n 255 ∧ bits .and .i64 n 255 ≤ 255 := by rw [and255]; omega
theorem and30 (n : Int) : bits .and .i64 n 1073741823 = n % 1073741824 := by
  have h255 : (BitVec.ofInt 64 1073741823).toNat = 2 ^ 30 - 1 := by decide
  have key : (BitVec.ofInt 64 n &&& BitVec.ofInt 64 1073741823).toNat = (n % ((2 ^ 64 : Nat) : Int)).toNat % 2 ^ 30 := by
    rw [BitVec.toNat_and, BitVec.toNat_ofInt, h255, Nat.and_two_pow_sub_one_eq_mod]
  show IntKind.i64.wrap ((BitVec.ofInt 64 n &&& BitVec.ofInt 64 1073741823).toNat : Nat) = n % 1073741824
  rw [key, IntKind.wrap_i64]
  omega
/-- The cursor's cells are written. -/
theorem curOf {w w' : World} {g : Nat} (ht : Touch g (g + 1) w w') {a : Option Addr} {n c : Nat} {i h : Int} {bs : List Int} (h0 : w'.cell? ⟨g, 0, none⟩ = some (.slice a n c)) (h1 : w'.cell? ⟨g, 1, none⟩ = some (.int .i64 i)) (h2 : w'.cell? ⟨g, 2, none⟩ = some (.int .i64 h))
    (h3 : 0 ≤ i) (h4 : i ≤ n) (h5 : n ≤ 1048576) (h6 : RdA w a 1 n (bs.map (Value.int .u8))) (h7 : 0 < n → ∀ b, a = some b → b.block < g) (h8 : w'.frozen? ⟨g, 1, none⟩ = false) (h9 : w'.frozen? ⟨g, 2, none⟩ = false) : Cur w' g :=
  ⟨a, n, c, i, h, bs, h0, h1, h2, h3, h4, h5, h6.tch ht (fun hn b hb => .inl (h7 hn b hb)), h7, h8, h9⟩
theorem D.of {w w' : World} {g : Nat} (hl : g < w.heap.size) (ht : Touch g (g + 1) w w') (hc : Cur w' g) : D g w w' := ⟨hl, ht, hc⟩
theorem rda_lt {w : World} {a : Option Addr} {k n : Nat} {cs : List Value} (h : RdA w a (k + 1) n cs) (hn : 0 < n) {b : Addr} (hb : a = some b) : b.block < w.heap.size := by
  obtain ⟨c, o, rfl, hj⟩ := h.2 hn
  cases hb
  have h0 := hj 0 (by rw [Nat.mul_succ]; omega)
  rw [List.getElem?_eq_getElem (by rw [h.1, Nat.mul_succ]; omega)] at h0
  exact lt_of_cell (a := ⟨c, o + 0, none⟩) h0
set_option maxRecDepth 100000 in
set_option maxHeartbeats 1000000 in
theorem l01Byte (g : Nat) (w : World) (hc : Cur w g) :
    Calls Tryz.prog 54 #[.pointer (some ⟨g, 0, none⟩)] w fun e w' => ∃ x : Int, e = .returned (.int .i64 x) ∧ (0 ≤ x ∧ x ≤ 255) ∧ D g w w' := by
  have hlt := hc.lt
  obtain ⟨a, n, c, i, h, bs, h0, h1, h2, h3, h4, h5, h6, h7, h8, h9⟩ := hc
  have HB := Lib.hid h7
  have HR := Lib.hid h6
  clear h7
  by_cases hin : i < (n : Int)
  · obtain ⟨k, rfl⟩ : ∃ k : Nat, i = k := ⟨i.toNat, by omega⟩
    have hkn : k < n := by omega
    obtain ⟨b1, o1, x, rfl, hx, hcx⟩ := h6.one hkn
    have hb1 := HB.out (by omega) _ rfl
    have hne : ¬ (b1 = g) := by simp at hb1; omega
    clear h6 h3 h4
    go_enter Tryz.func54, Tryz.ntmps54
    go_wp2
    go_quiet (fail)
    go_wp2
    go_quiet (fail)
    go_wp2
    go_quiet (fail)
    go_wp2
    go_ret
    have ht : ∀ (u v : Value) (p : Nat), Touch g (g + 1) w (((w.setCell ⟨g, 2, none⟩ u).drewN p).setCell ⟨g, 1, none⟩ v) := fun u v p => (((Touch.refl g (g + 1) w).setCell (p := ⟨g, 2, none⟩) (Nat.le_refl _) (Nat.lt_succ_self _) u).drewN p).setCell (p := ⟨g, 1, none⟩) (Nat.le_refl _) (Nat.lt_succ_self _) v
    exact ⟨_, rfl, and255_ok _, D.of hlt (ht _ _ _) (curOf (ht _ _ _) (i := (k : Int) + 1) (by simp [go_sem, h0]; rfl) (by simp [go_sem, h1]; try go_num) (by simp [go_sem, h2]; rfl) (by omega) (by omega) h5 HR.out HB.out (by simp [go_sem, h8]) (by simp [go_sem, h9]))⟩
  · go_enter Tryz.func54, Tryz.ntmps54
    go_wp2
    go_quiet (fail)
    go_wp2
    go_quiet (fail)
    go_wp2
    go_ret
    have ht : ∀ (u : Value) (p q : Nat), Touch g (g + 1) w (((w.setCell ⟨g, 2, none⟩ u).drewN p).drewN q) := fun u p q => (((Touch.refl g (g + 1) w).setCell (p := ⟨g, 2, none⟩) (Nat.le_refl _) (Nat.lt_succ_self _) u).drewN p).drewN q
    exact ⟨_, rfl, and255_ok _, D.of hlt (ht _ _ _) (curOf (ht _ _ _) (by simp [go_sem, h0]; rfl) (by simp [go_sem, h1]) (by simp [go_sem, h2]; rfl) h3 h4 h5 HR.out HB.out (by simp [go_sem, h8]) (by simp [go_sem, h9]))⟩
theorem mod_ok {x k : Int} (hk : 0 < k) : 0 ≤ x % k ∧ x % k < k := ⟨Int.emod_nonneg _ (by omega), Int.emod_lt_of_pos _ hk⟩
set_option maxRecDepth 100000 in
set_option maxHeartbeats 1000000 in
theorem l01Below (g : Nat) (w : World) (hc : Cur w g) (k : Int) (hk : 0 < k) (hk2 : k ≤ 4294967296) :
    Calls Tryz.prog 30 #[.pointer (some ⟨g, 0, none⟩), .int .i64 k] w fun e w' => ∃ x : Int, e = .returned (.int .i64 x) ∧ (0 ≤ x ∧ x < k) ∧ D g w w' := by
  by_cases hle : k ≤ 256
  · go_enter Tryz.func30, Tryz.ntmps30
    go_wp2_with (go_at_call 54; refine (l01Byte g _ hc).mono ?_; rintro e w1 ⟨x, rfl, hx, hd⟩)
    go_ret
    exact ⟨_, rfl, mod_ok hk, hd⟩
  · go_enter Tryz.func30, Tryz.ntmps30
    go_wp2_with fail
    refine (l01Byte g _ hc).mono ?_; rintro e w1 ⟨x, rfl, hx, hd1⟩
    go_wp2_with fail
    refine (l01Byte g _ hd1.cur).mono ?_; rintro e w2 ⟨y, rfl, hy, hd2⟩
    go_wp2_with fail
    refine (l01Byte g _ hd2.cur).mono ?_; rintro e w3 ⟨z, rfl, hz, hd3⟩
    go_wp2_with fail
    refine (l01Byte g _ hd3.cur).mono ?_; rintro e w4 ⟨t, rfl, ht, hd4⟩
    go_wp2
    go_ret
    exact ⟨_, rfl, mod_ok hk, ((hd1.trans hd2).trans hd3).trans hd4⟩
set_option maxRecDepth 100000 in
set_option maxHeartbeats 1000000 in
theorem l01Once (g : Nat) (w : World) (hc : Cur w g) (k : Int) (hk : 0 < k) (hk2 : k ≤ 256) :
    Calls Tryz.prog 79 #[.pointer (some ⟨g, 0, none⟩), .int .i64 k] w fun e w' => ∃ b : Bool, e = .returned (.bool b) ∧ D g w w' := by
  go_enter Tryz.func79, Tryz.ntmps79
  go_wp2_with (go_at_call 30; refine (l01Below g _ hc k hk (by omega)).mono ?_; rintro e w1 ⟨x, rfl, hx, hd⟩)
  go_ret
  exact ⟨_, rfl, hd⟩
set_option maxRecDepth 100000 in
set_option maxHeartbeats 1000000 in
theorem l01Pick (g : Nat) (w : World) (hc : Cur w g) (v : Value) (n : Nat) (xs : List ByteArray) (hr : Rd w v 1 n (strs xs)) (hb : v.ownBlock ≠ some g) (hn : 0 < n) (hn2 : n ≤ 256) :
    Calls Tryz.prog 31 #[.pointer (some ⟨g, 0, none⟩), v] w fun e w' => ∃ x, e = .returned (.string x) ∧ x ∈ xs ∧ D g w w' := by
  obtain ⟨a, ca, rfl, hca, hra⟩ := hr
  have HB := Lib.hid hb
  go_enter Tryz.func31, Tryz.ntmps31
  go_wp2_with fail
  refine (l01Below g _ hc n (by omega) (by omega)).mono ?_
  rintro e w1 ⟨i, rfl, hi, hd⟩
  obtain ⟨k, rfl⟩ : ∃ k : Nat, i = k := ⟨i.toNat, by omega⟩
  obtain ⟨_, _, h1, h2, hra⟩ := hd.rd ⟨a, ca, rfl, hca, hra⟩ HB.out
  cases h1
  obtain ⟨b1, o1, x, rfl, hxk, c1⟩ := hra.one (i := k) (by omega)
  go_wp2
  go_ret
  exact ⟨_, rfl, List.mem_of_getElem? hxk.out, hd⟩
set_option maxRecDepth 100000 in
set_option maxHeartbeats 1000000 in
theorem l01PickInt (g : Nat) (w : World) (hc : Cur w g) (v : Value) (n : Nat) (xs : List Int) (hr : Rd w v 1 n (ints xs)) (hb : v.ownBlock ≠ some g) (hn : 0 < n) (hn2 : n ≤ 256) :
    Calls Tryz.prog 45 #[.pointer (some ⟨g, 0, none⟩), v] w fun e w' => ∃ x : Int, e = .returned (.int .i64 x) ∧ x ∈ xs ∧ D g w w' := by
  obtain ⟨a, ca, rfl, hca, hra⟩ := hr
  have HB := Lib.hid hb
  go_enter Tryz.func45, Tryz.ntmps45
  go_wp2_with fail
  refine (l01Below g _ hc n (by omega) (by omega)).mono ?_
  rintro e w1 ⟨i, rfl, hi, hd⟩
  obtain ⟨k, rfl⟩ : ∃ k : Nat, i = k := ⟨i.toNat, by omega⟩
  obtain ⟨_, _, h1, h2, hra⟩ := hd.rd ⟨a, ca, rfl, hca, hra⟩ HB.out
  cases h1
  obtain ⟨b1, o1, x, rfl, hxk, c1⟩ := hra.one (i := k) (by omega)
  go_wp2
  go_ret
  exact ⟨_, rfl, List.mem_of_getElem? hxk.out, hd⟩
set_option maxRecDepth 100000 in
set_option maxHeartbeats 1000000 in
theorem l01New (v : Value) (n : Nat) (bs : List Int) (w : World) (hr : Rd w v 1 n (bs.map (Value.int .u8))) (hn : n ≤ 1048576) :
    Calls Tryz.prog 25 #[v] w fun e w' => e = .returned (.pointer (some ⟨w.heap.size, 0, none⟩)) ∧ Cur w' w.heap.size ∧ Grew w w' ∧ w.heap.size < w'.heap.size := by
  obtain ⟨a, ca, rfl, hca, hra⟩ := hr
  have HR := Lib.hid hra
  go_enter Tryz.func25, Tryz.ntmps25
  go_wp2
  go_loop [3, 4] (fun h i => ∃ k : Nat, ∃ z : Int, k ≤ n ∧ i = .int .i64 k ∧ h = .int .i64 z) (fun _ i => n - (intOf i).toNat)
  case atStart => exact ⟨0, _, Nat.zero_le _, rfl, rfl⟩
  case round =>
    obtain ⟨k, z, hk, rfl, rfl⟩ := hrel
    by_cases hlt : k < n
    · by_cases h4 : k < 4000
      · obtain ⟨b1, o1, x, rfl, hxk, c1⟩ := hra.one hlt
        go_wp2
        exact ⟨⟨k + 1, _, by omega, by go_num, rfl⟩, by simp [intOf]; omega⟩
      · go_wp2
        go_ret
        exact ⟨rfl, ⟨a, n, ca, 0, z, bs, by simp, by simp, by simp, by omega, by omega, hn, HR.out.grew ((Grew.refl w).alloc _), fun hn b hb => rda_lt HR.out hn hb, by simp [go_sem], by simp [go_sem]⟩, (Grew.refl w).alloc _, by simp⟩
    · go_wp2
      go_ret
      exact ⟨rfl, ⟨a, n, ca, 0, z, bs, by simp, by simp, by simp, by omega, by omega, hn, HR.out.grew ((Grew.refl w).alloc _), fun hn b hb => rda_lt HR.out hn hb, by simp [go_sem], by simp [go_sem]⟩, (Grew.refl w).alloc _, by simp⟩
end Go.Proofs.YtodbohmbdgbheaaGreatDoor
