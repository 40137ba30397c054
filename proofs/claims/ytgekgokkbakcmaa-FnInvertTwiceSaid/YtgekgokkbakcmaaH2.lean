/- The laws' helpers over slices of ints, texts and bools: copies, comparisons, marks. -/
import Derived.Test.YtgekgokkbakcmaaH1
namespace Go.Proofs.Ytgekgokkbakcmaa
open Go.RowKit
set_option linter.unusedVariables false
theorem Try.infoInt : (Try.prog.info? 3).map (fun i => (i.zero, i.size, i.bytes)) = some (some (.int .i64 0), 1, 8) := by kernel_rfl
set_option maxHeartbeats 400000 in
theorem toIntS (va : Value) (n : Nat) (xs : List Int) (w : World) (ha : Rd w va 1 n (ints xs)) (hx : n ≤ 4000000) :
    Calls Try.prog 109 #[va] w fun e w' => ∃ v, e = .returned v ∧ w'.ownsRow w.heap.size 3 1 v n (ints xs) ∧ Grew w w' := by
  obtain ⟨a, ca, rfl, hca, hra⟩ := ha
  have HX := Lib.hid hra.len_map
  obtain ⟨i0, hi, hz0, hz1, hz2⟩ := info_parts Try.infoInt
  go_enter Try.func109, Try.ntmps109
  go_wp2_with (at_make; refine wpList_make_full _ rfl _ _ 66 rfl w.heap.size 3 i0 (.int .i64 0) 1 Try.underlying66 hi hz0 hz1 _ _ _ _ n rfl rfl rfl rfl ?b2 ?b3 (Nat.le_refl _) ?_)
  case b2 => rw [hz2]; omega
  case b3 => unfold maxLen; omega
  intro w0 hown0 hgrow0
  clear hi hz0 hz1 hz2
  go_wp2
  have hb0 : Grew w w0 := (Grew.refl _).grown hgrow0 (fun k h => by cases h)
  go_loopw [4] (fun i wr => ∃ k : Nat, k ≤ n ∧ i = .int .i64 k ∧ Grew w wr ∧ wr.ownsRow w.heap.size 3 1 (.slice (some ⟨w.heap.size, 0, none⟩) n n) n (ints (xs.take k ++ List.replicate (n - k) (0 : Int)))) (fun i _ => n - (intOf i).toNat)
  case atStart =>
    refine ⟨0, Nat.zero_le _, rfl, hb0, ?_⟩
    simpa [Value.cells, toList_madeCells_one] using hown0
  case round =>
    obtain ⟨k, hk, rfl, hbel, hown⟩ := hrel
    by_cases hlt : k < n
    · obtain ⟨b1, o1, x, rfl, hxk, e1⟩ := (hra.grew hbel).one hlt
      have hfz := hown.frozenAt k
      obtain ⟨y, hy, hcell⟩ := own_one hown hlt
      have hst := Lib.hid (store_one hown k x)
      go_wp2
      go_roundw
      case rel =>
        refine ⟨k + 1, by omega, by go_num, hbel.setCell (Nat.le_refl _) _, ?_⟩
        have := hst.out
        rw [set_append_left (xs.take k) (List.replicate (n - k) (0 : Int)) k x (0 : Int) (List.replicate (n - (k + 1)) (0 : Int)) (by rw [List.length_take, HX.out]; omega) (by rw [show n - k = (n - (k + 1)) + 1 by omega]; rfl), ← take_snoc hxk.out] at this
        exact this
      case measure => simp [intOf]; omega
    · obtain rfl : k = n := by omega
      go_wp2
      go_ret
      refine ⟨_, rfl, ?_, hbel⟩
      have := hown
      rw [take_all HX.out] at this
      simpa using this
set_option maxHeartbeats 400000 in
/-- Equal slices are found equal. -/
theorem eqIntS (va vb : Value) (n : Nat) (xs : List Int) (w : World) (ha : Rd w va 1 n (ints xs)) (hb : Rd w vb 1 n (ints xs)) (hx : n ≤ 4000000) :
    Calls Try.prog 110 #[va, vb] w fun e w' => e = .returned (.bool true) ∧ Grew w w' := by
  obtain ⟨a, ca, rfl, hca, hra⟩ := ha
  obtain ⟨b, cb, rfl, hcb, hrb⟩ := hb
  go_enter Try.func110, Try.ntmps110
  go_wp2
  go_loopw [5] (fun i wr => ∃ k : Nat, k ≤ n ∧ i = .int .i64 k ∧ Grew w wr) (fun i _ => n - (intOf i).toNat)
  case atStart => exact ⟨0, Nat.zero_le _, rfl, Grew.refl _⟩
  case round =>
    obtain ⟨k, hk, rfl, hbel⟩ := hrel
    by_cases hlt : k < n
    · obtain ⟨b1, o1, x, rfl, hxk, e1⟩ := (hra.grew hbel).one hlt
      obtain ⟨b2, o2, y, rfl, hyk, e2⟩ := (hrb.grew hbel).one hlt
      obtain rfl : x = y := by have := hxk.out.symm.trans hyk.out; simpa using this
      go_wp2
      go_quiet (fail)
      go_wp2
      go_roundw
      case rel => exact ⟨k + 1, by omega, by go_num, hbel.drewN _⟩
      case measure => simp [intOf]; omega
    · go_wp2
      go_ret
      exact ⟨rfl, hbel⟩
set_option maxHeartbeats 400000 in
/-- What is marked holds the marks, and nothing else has turned. -/
theorem markIntS (va : Value) (n : Nat) (xs : List Int) (k0 : Int) (w : World) (lo hi : Nat) (ha : Own w lo hi 3 1 va n (ints xs)) (hx : n ≤ 4000000) (h0 : 0 ≤ k0) (h1 : k0 ≤ 3000000000000000) :
    Calls Try.prog 65 #[va, .int .i64 k0] w fun e w' => e = .returned (.int .i64 (k0 + n)) ∧ Own w' lo hi 3 1 va n (ints ((List.range n).map fun (j : Nat) => k0 + (j : Int))) ∧ Touch lo hi w w' := by
  rcases ha.cases with ⟨rfl, rfl, _⟩ | ⟨g, cap, rfl, hg1, hg2, hcap, hown⟩
  · go_enter Try.func65, Try.ntmps65
    go_wp2
    refine wp_loop_rounds 1 ?_
    rw [rounds_succ]
    go_wp2
    go_ret
    exact ⟨ret_int (by simp), ⟨⟨rfl, .inl ⟨rfl, rfl⟩⟩, fun b h => by cases h⟩, Touch.refl _ _ _⟩
  · have HX : Hid (xs.length = n) := Lib.hid (by have := hown.1; simpa using this)
    have HO := Lib.hid ha
    clear ha
    go_enter Try.func65, Try.ntmps65
    go_wp2
    go_loopw [1, 5] (fun c i wr => ∃ k : Nat, k ≤ n ∧ i = .int .i64 k ∧ c = .int .i64 (k0 + k) ∧ Touch lo hi w wr ∧ wr.ownsRow g 3 1 (.slice (some ⟨g, 0, none⟩) n cap) n (ints (((List.range k).map fun (j : Nat) => k0 + (j : Int)) ++ xs.drop k))) (fun _ i _ => n - (intOf i).toNat)
    case atStart => exact ⟨0, Nat.zero_le _, rfl, by simp, Touch.refl _ _ _, by simpa using hown⟩
    case round =>
      obtain ⟨k, hk, rfl, rfl, hbel, hown⟩ := hrel
      by_cases hlt : k < n
      · skip
        have hfz := hown.frozenAt k
        obtain ⟨y, hy, hcell⟩ := own_one hown hlt
        have hst := Lib.hid (store_one hown k ((k0 + (k : Int))))
        go_wp2
        go_roundw
        case rel =>
          refine ⟨k + 1, by omega, by go_num, by go_num, hbel.setCell hg1 hg2 _, ?_⟩
          have := hst.out
          have hd : xs.drop k = xs[k]'(by have := HX.out; omega) :: xs.drop (k + 1) := by rw [List.getElem_cons_drop]
          rw [set_append_left _ _ k _ _ _ (by simp) hd] at this
          rw [List.range_succ, List.map_append]
          simpa using this
        case measure => simp [intOf]; omega
      · obtain rfl : k = n := by omega
        go_wp2
        go_ret
        refine ⟨rfl, ⟨?_, HO.out.2⟩, hbel⟩
        have := hown
        rw [List.drop_eq_nil_of_le (by have := HX.out; omega), List.append_nil] at this
        exact ownsRow_base this hg1
set_option maxHeartbeats 400000 in
/-- What holds the marks is found to hold them. -/
theorem heldIntS (va : Value) (n : Nat) (k0 : Int) (w : World) (ha : Rd w va 1 n (ints ((List.range n).map fun (j : Nat) => k0 + (j : Int)))) (hx : n ≤ 4000000) (h0 : 0 ≤ k0) (h1 : k0 ≤ 3000000000000000) :
    Calls Try.prog 66 #[va, .int .i64 k0] w fun e w' => e = .returned (.int .i64 (k0 + n)) ∧ Grew w w' := by
  obtain ⟨a, ca, rfl, hca, hra⟩ := ha
  go_enter Try.func66, Try.ntmps66
  go_wp2
  go_loopw [1, 5] (fun c i wr => ∃ k : Nat, k ≤ n ∧ i = .int .i64 k ∧ c = .int .i64 (k0 + k) ∧ Grew w wr) (fun _ i _ => n - (intOf i).toNat)
  case atStart => exact ⟨0, Nat.zero_le _, rfl, by simp, Grew.refl _⟩
  case round =>
    obtain ⟨k, hk, rfl, rfl, hbel⟩ := hrel
    by_cases hlt : k < n
    · obtain ⟨b1, o1, x, rfl, hxk, e1⟩ := (hra.grew hbel).one hlt
      obtain rfl : x = (k0 + (k : Int)) := by have := hxk.out; simp [List.getElem?_range hlt] at this; exact this.symm
      go_wp2
      go_roundw
      case rel => exact ⟨k + 1, by omega, by go_num, by go_num, hbel⟩
      case measure => simp [intOf]; omega
    · go_wp2
      go_ret
      obtain rfl : k = n := by omega
      exact ⟨rfl, hbel⟩

set_option maxHeartbeats 400000 in
theorem szIntS (a : Option Addr) (n ca : Nat) (l : Int) (w : World) (hl : 0 ≤ l) (hl2 : l ≤ 4000000) (hs : n ≤ maxLen) :
    Calls Try.prog 108 #[.slice a n ca, .int .i64 l] w fun e w' => ∃ r : Int, e = .returned (.int .i64 r) ∧ Left l n r ∧ Grew w w' := by
  unfold maxLen at hs
  go_enter Try.func108, Try.ntmps108
  go_wp2
  all_goals go_ret
  · exact ⟨_, rfl, .inl rfl, Grew.refl _⟩
  · exact ⟨_, rfl, .inr ⟨rfl, by assumption⟩, Grew.refl _⟩
end Go.Proofs.Ytgekgokkbakcmaa
