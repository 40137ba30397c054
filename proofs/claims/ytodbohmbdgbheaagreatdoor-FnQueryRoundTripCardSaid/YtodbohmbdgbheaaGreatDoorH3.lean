/- The laws' helpers over nodes, fields and attributes: copies, comparisons, counts, marks. -/
import Derived.Test.YtodbohmbdgbheaaGreatDoorH2
import Derived.StillTailTactics
namespace Go.Proofs.YtodbohmbdgbheaaGreatDoor
open Go.RowKit
set_option linter.unusedVariables false
def V.ok0 (x : V) : Prop := x.str.size ≤ maxLen
def N.ok0 (x : N) : Prop := x.name.size ≤ maxLen ∧ x.val.ok0
def Fd.ok0 (x : Fd) : Prop := x.name.size ≤ maxLen
def At.ok0 (x : At) : Prop := x.name.size ≤ maxLen ∧ x.val.ok0
def szAll {α : Type} (f : α → Nat) (xs : List α) : Nat := (xs.map f).sum
theorem szAll_snoc {α : Type} (f : α → Nat) (xs : List α) (x : α) : szAll f (xs ++ [x]) = szAll f xs + f x := by simp [szAll]
theorem mem_szAll {α : Type} {f : α → Nat} {xs : List α} {x : α} (h : x ∈ xs) : f x ≤ szAll f xs := by
  induction xs with
  | nil => simp at h
  | cons y ys ih =>
    simp only [szAll, List.map_cons, List.sum_cons] at ih ⊢
    rcases List.mem_cons.1 h with rfl | h
    · omega
    · have := ih h; omega
set_option maxHeartbeats 400000 in
theorem szValue (v : V) (l : Int) (w : World) (hl : 0 ≤ l) (hl2 : l ≤ 4000000) (hs : v.ok0) :
    Calls Tryz.prog 63 #[v.v, .int .i64 l] w fun e w' => ∃ r : Int, e = .returned (.int .i64 r) ∧ Left l v.sz r ∧ Grew w w' := by
  unfold V.ok0 maxLen at hs
  go_enter Tryz.func63, Tryz.ntmps63
  go_wp2
  all_goals go_ret
  · exact ⟨_, rfl, .inl rfl, (Grew.refl _).alloc _⟩
  · exact ⟨_, rfl, .inr ⟨rfl, by assumption⟩, (Grew.refl _).alloc _⟩
set_option maxHeartbeats 400000 in
theorem toValue (v : V) (w : World) :
    Calls Tryz.prog 64 #[v.v] w fun e w' => ∃ o1 o2 o3, e = .returned v.v ∧ w' = ((w.alloc o1).alloc o2).alloc o3 := by
  go_enter Tryz.func64, Tryz.ntmps64
  go_wp2
  exact bodyPost_ret (v := v.v) (by simp [results, Tryz.results64, go_sem]) rfl ⟨_, _, _, rfl, rfl⟩
set_option maxHeartbeats 400000 in
theorem eqValue (a : V) (w : World) :
    Calls Tryz.prog 65 #[a.v, a.v] w fun e w' => e = .returned (.bool true) ∧ Grew w w' := by
  go_enter Tryz.func65, Tryz.ntmps65
  go_wp2
  go_ret
  exact ⟨rfl, ((Grew.refl _).alloc _).alloc _⟩

theorem Tryz.infoN : (Tryz.prog.info? 38).map (fun i => (i.zero, i.size, i.bytes)) = some (some (N.z.v), 7, 72) := by kernel_rfl
set_option maxHeartbeats 400000 in
theorem szNode (x : N) (l : Int) (w : World) (hl : 0 ≤ l) (hl2 : l ≤ 4000000) (hs : x.ok0) :
    Calls Tryz.prog 41 #[x.v, .int .i64 l] w fun e w' => ∃ r : Int, e = .returned (.int .i64 r) ∧ Left l x.sz r ∧ Grew w w' := by
  have hs1 := hs.1
  have hs2 := Lib.hid hs.2
  clear hs
  unfold maxLen at hs1
  by_cases h0 : l - (x.name.size : Int) < 0
  · go_enter Tryz.func41, Tryz.ntmps41
    go_wp2
    go_ret
    exact ⟨_, rfl, .inl rfl, (Grew.refl _).alloc _⟩
  · go_enter Tryz.func41, Tryz.ntmps41
    go_wp2_with fail
    refine (szValue x.val _ _ (by omega) (by omega) hs2.out).mono ?_
    rintro e w1 ⟨r1, rfl, h1, g1⟩
    rcases h1 with rfl | ⟨h1, h2⟩
    · go_wp2
      go_ret
      exact ⟨_, rfl, .inl rfl, ((Grew.refl _).alloc _).trans g1⟩
    · have H1 := Lib.hid h1
      clear h1
      go_wp2
      go_ret
      exact ⟨_, rfl, .inr ⟨by have := H1.out; unfold N.sz; omega, h2⟩, ((Grew.refl _).alloc _).trans g1⟩
set_option maxRecDepth 100000 in
set_option maxHeartbeats 1000000 in
theorem szNodeS (va : Value) (n : Nat) (xs : List N) (l : Int) (w : World) (ha : Rd w va 7 n (rows N.c xs)) (hn : n ≤ maxLen) (hok : ∀ x, x ∈ xs → x.ok0) (hl : 0 ≤ l) (hl2 : l ≤ 4000000) :
    Calls Tryz.prog 19 #[va, .int .i64 l] w fun e w' => ∃ r : Int, e = .returned (.int .i64 r) ∧ Left l (n + szAll N.sz xs) r ∧ Grew w w' := by
  unfold maxLen at hn
  obtain ⟨a, ca, rfl, hca, hra⟩ := ha
  have HX := Lib.hid (hra.len_rows N.len (by decide))
  have HO := Lib.hid hok
  clear hok
  by_cases h0 : l - (n : Int) < 0
  · go_enter Tryz.func19, Tryz.ntmps19
    go_wp2
    go_ret
    exact ⟨_, rfl, .inl rfl, Grew.refl _⟩
  · go_enter Tryz.func19, Tryz.ntmps19
    go_wp2
    go_loopw [1, 5] (fun c i wr => ∃ (k : Nat) (r : Int), k ≤ n ∧ i = .int .i64 k ∧ c = .int .i64 r ∧ 0 ≤ r ∧ r ≤ l ∧ Hid (r = l - (n : Int) - szAll N.sz (xs.take k)) ∧ Grew w wr) (fun _ i _ => n - (intOf i).toNat)
    case atStart => exact ⟨0, _, Nat.zero_le _, rfl, rfl, by omega, by omega, Lib.hid (by simp [szAll]), Grew.refl _⟩
    case round =>
      obtain ⟨k, r, hk, rfl, rfl, hr0, hrl, hr, hbel⟩ := hrel
      by_cases hlt : k < n
      · obtain ⟨b1, o1, x, rfl, hxk, c0, c1, c2, c3, c4, c5, c6⟩ := (hra.grew hbel).getN hlt
        have hxo := Lib.hid (HO.out x (List.mem_of_getElem? hxk.out))
        go_wp2_with fail
        refine (szNode x r _ hr0 (by omega) hxo.out).mono ?_
        rintro e w1 ⟨r1, rfl, h1, g1⟩
        rcases h1 with rfl | ⟨h1, h2⟩
        · go_wp2
          go_ret
          exact ⟨_, rfl, .inl rfl, hbel.trans g1⟩
        · have H1 := Lib.hid h1
          have hle : r1 ≤ l := by omega
          clear h1
          go_wp2
          go_roundw
          case rel => exact ⟨k + 1, r1, by omega, by go_num, rfl, h2, hle, Lib.hid (by rw [take_snoc hxk.out, szAll_snoc]; have := H1.out; have := hr.out; omega), hbel.trans g1⟩
          case measure => simp [intOf]; omega
      · obtain rfl : k = n := by omega
        go_wp2
        go_ret
        exact ⟨_, rfl, .inr ⟨by have := hr.out; rw [take_all HX.out] at this; omega, hr0⟩, hbel⟩
set_option maxHeartbeats 400000 in
theorem toNode (x : N) (w : World) :
    Calls Tryz.prog 42 #[x.v] w fun e w' => e = .returned x.v ∧ Grew w w' := by
  go_enter Tryz.func42, Tryz.ntmps42
  go_wp2_with (go_at_call 64; refine (toValue x.val _).mono ?_; rintro e w1 ⟨o1, o2, o3, rfl, rfl⟩)
  refine bodyPost_ret (v := x.v) (by simp [results, Tryz.results42, go_sem]) rfl ⟨rfl, ?_⟩
  repeat' (first | with_reducible exact Grew.refl _ | with_reducible apply Grew.alloc | with_reducible apply Grew.drew)
set_option maxHeartbeats 1000000 in
theorem toNodeS (va : Value) (n : Nat) (xs : List N) (w : World) (ha : Rd w va 7 n (rows N.c xs)) (hx : n ≤ 4000000) :
    Calls Tryz.prog 20 #[va] w fun e w' => ∃ v, e = .returned v ∧ w'.ownsRow w.heap.size 38 7 v n (rows N.c xs) ∧ Grew w w' := by
  obtain ⟨a, ca, rfl, hca, hra⟩ := ha
  have HX := Lib.hid (hra.len_rows N.len (by decide))
  obtain ⟨i0, hi, hz0, hz1, hz2⟩ := info_parts Tryz.infoN
  go_enter Tryz.func20, Tryz.ntmps20
  go_wp2_with (at_make; refine wpList_make_full _ rfl _ _ 24 rfl w.heap.size 38 i0 _ 7 Tryz.underlying24 hi hz0 hz1 _ _ _ _ n rfl rfl rfl rfl ?b2 ?b3 (Nat.le_refl _) ?_)
  case b2 => rw [hz2]; omega
  case b3 => unfold maxLen; omega
  intro w0 hown0 hgrow0
  clear hi hz0 hz1 hz2
  go_wp2
  have hb0 : Grew w w0 := (Grew.refl _).grown hgrow0 (fun k h => by cases h)
  go_loopw [4] (fun i wr => ∃ k : Nat, k ≤ n ∧ i = .int .i64 k ∧ Grew w wr ∧ wr.ownsRow w.heap.size 38 7 (.slice (some ⟨w.heap.size, 0, none⟩) n n) n (rows N.c (xs.take k ++ List.replicate (n - k) N.z))) (fun i _ => n - (intOf i).toNat)
  case atStart =>
    refine ⟨0, Nat.zero_le _, rfl, hb0, ?_⟩
    have hz := rows_made (enc := N.c) (k := 7) N.z (Value.cells N.z.v) rfl rfl n
    rw [List.take_zero, List.nil_append, Nat.sub_zero, ← hz]
    exact hown0
  case round =>
    obtain ⟨k, hk, rfl, hbel, hown⟩ := hrel
    by_cases hlt : k < n
    · obtain ⟨b1, o1, x, rfl, hxk, c0, c1, c2, c3, c4, c5, c6⟩ := (hra.grew hbel).getN hlt
      go_wp2_with (go_at_call 42; refine (toNode x _).mono ?_; rintro e w1 ⟨rfl, hb⟩; have ho1 := ownsRow_grew hown hb; have hf := fun j => ho1.frozenAt j; obtain ⟨y, hy, d0, d1, d2, d3, d4, d5, d6⟩ := ownN ho1 hlt)
      go_roundw
      case rel =>
        refine ⟨k + 1, by omega, by go_num, ?_, ?_⟩
        · repeat' (first | with_reducible exact hbel | with_reducible refine Grew.setCell ?_ (Nat.le_refl _) _ | with_reducible refine Grew.trans ?_ hb)
        · have hst := storeN ho1 hlt x
          rw [set_append_left (xs.take k) (List.replicate (n - k) N.z) k x N.z (List.replicate (n - (k + 1)) N.z) (by rw [List.length_take, HX.out]; omega) (by rw [show n - k = (n - (k + 1)) + 1 by omega]; rfl)] at hst
          rw [take_snoc hxk.out]
          exact hst
      case measure => simp [intOf]; omega
    · obtain rfl : k = n := by omega
      go_wp2
      go_ret
      refine ⟨_, rfl, ?_, hbel⟩
      rw [take_all HX.out] at hown
      simpa using hown
set_option maxHeartbeats 400000 in
theorem eqNode (a : N) (w : World) :
    Calls Tryz.prog 43 #[a.v, a.v] w fun e w' => e = .returned (.bool true) ∧ Grew w w' := by
  go_enter Tryz.func43, Tryz.ntmps43
  go_wp2_with (go_at_call 65; refine (eqValue a.val _).mono ?_; rintro e w1 ⟨rfl, hb⟩)
  go_ret
  exact ⟨rfl, (((Grew.refl _).alloc _).alloc _).trans hb⟩
set_option maxRecDepth 100000 in
set_option maxHeartbeats 1000000 in
theorem eqNodeS (va vb : Value) (n : Nat) (xs : List N) (w : World) (ha : Rd w va 7 n (rows N.c xs)) (hb : Rd w vb 7 n (rows N.c xs)) (hx : n ≤ 4000000) :
    Calls Tryz.prog 21 #[va, vb] w fun e w' => e = .returned (.bool true) ∧ Grew w w' := by
  obtain ⟨a, ca, rfl, hca, hra⟩ := ha
  obtain ⟨b, cb, rfl, hcb, hrb⟩ := hb
  go_enter Tryz.func21, Tryz.ntmps21
  go_wp2
  go_loopw [5] (fun i wr => ∃ k : Nat, k ≤ n ∧ i = .int .i64 k ∧ Grew w wr) (fun i _ => n - (intOf i).toNat)
  case atStart => exact ⟨0, Nat.zero_le _, rfl, Grew.refl _⟩
  case round =>
    obtain ⟨k, hk, rfl, hbel⟩ := hrel
    by_cases hlt : k < n
    · obtain ⟨b1, o1, x, rfl, hxk, c0, c1, c2, c3, c4, c5, c6⟩ := (hra.grew hbel).getN hlt
      obtain ⟨b2, o2, y, rfl, hyk, d0, d1, d2, d3, d4, d5, d6⟩ := (hrb.grew hbel).getN hlt
      obtain rfl : x = y := by have := hxk.out.symm.trans hyk.out; simpa using this
      go_wp2
      go_still_tail 8, (by kernel_rfl)
      change wpList _ _ _ _ _ wr.drew
      have g2 : Grew wr wr.drew := (Grew.refl _).drew
      generalize wr.drew = w2 at g2
      go_wp2_with (go_at_call 43; refine (eqNode x _).mono ?_; rintro e w1 ⟨rfl, hb⟩)
      go_roundw
      case rel => exact ⟨k + 1, by omega, by go_num, (hbel.trans g2).trans hb⟩
      case measure => simp [intOf]; omega
    · go_wp2
      go_ret
      exact ⟨rfl, hbel⟩
/-- The marks of one element. -/
def mkN (c : Int) : N := ⟨c, c + 1, c + 1 + 1, mtext (c + 1 + 1 + 1), ⟨c + 1 + 1 + 1 + 1, c + 1 + 1 + 1 + 1 + 1, mtext (c + 1 + 1 + 1 + 1 + 1 + 1)⟩⟩
set_option maxRecDepth 100000 in
set_option maxHeartbeats 1000000 in
/-- What is marked holds the marks, and nothing else has turned. -/
theorem markNodeS (va : Value) (n : Nat) (xs : List N) (k0 : Int) (w : World) (lo hi : Nat) (ha : Own w lo hi 38 7 va n (rows N.c xs)) (hx : n ≤ 4000000) (h0 : 0 ≤ k0) (h1 : k0 ≤ 3000000000000000) :
    Calls Tryz.prog 22 #[va, .int .i64 k0] w fun e w' => e = .returned (.int .i64 (k0 + (n : Int) * 7)) ∧ Own w' lo hi 38 7 va n (rows N.c ((List.range n).map fun (j : Nat) => mkN (k0 + (j : Int) * 7))) ∧ Touch lo hi w w' := by
  rcases ha.cases with ⟨rfl, rfl, _⟩ | ⟨g, cap, rfl, hg1, hg2, hcap, hown⟩
  · go_enter Tryz.func22, Tryz.ntmps22
    go_wp2
    refine wp_loop_rounds 1 ?_
    rw [rounds_succ]
    go_wp2
    go_ret
    exact ⟨ret_int (by simp), ⟨⟨rfl, .inl ⟨rfl, rfl⟩⟩, fun b h => by cases h⟩, Touch.refl _ _ _⟩
  · have HX : Hid (xs.length = n) := Lib.hid (by have := hown.1; rw [rows_length N.len] at this; omega)
    have HO := Lib.hid ha
    clear ha
    go_enter Tryz.func22, Tryz.ntmps22
    go_wp2
    go_loopw [1, 5] (fun c i wr => ∃ k : Nat, k ≤ n ∧ i = .int .i64 k ∧ c = .int .i64 (k0 + (k : Int) * 7) ∧ Touch lo hi w wr ∧ wr.ownsRow g 38 7 (.slice (some ⟨g, 0, none⟩) n cap) n (rows N.c (((List.range k).map fun (j : Nat) => mkN (k0 + (j : Int) * 7)) ++ xs.drop k))) (fun _ i _ => n - (intOf i).toNat)
    case atStart => exact ⟨0, Nat.zero_le _, rfl, by simp, Touch.refl _ _ _, by simpa using hown⟩
    case round =>
      obtain ⟨k, hk, rfl, rfl, hbel, hown⟩ := hrel
      by_cases hlt : k < n
      · have hf0 := fun j => hown.frozenAt j
        obtain ⟨u0, s0⟩ := own_some hown (k * 7) (by omega)
        obtain ⟨u1, s1⟩ := own_some hown (k * 7 + 1) (by omega)
        obtain ⟨u2, s2⟩ := own_some hown (k * 7 + 2) (by omega)
        go_wp2_with fail
        refine (markText _ _ (by omega) (by omega)).mono ?_
        rintro e w1 ⟨rfl, hb1⟩
        have ho1 := ownsRow_grew (ownsRow_stores (ownsRow_stores (ownsRow_stores hown (k * 7) (.int .i64 (k0 + (k : Int) * 7))) (k * 7 + 1) (.int .i64 (k0 + (k : Int) * 7 + 1))) (k * 7 + 2) (.int .i64 (k0 + (k : Int) * 7 + 1 + 1))) hb1
        have hf1 := fun j => ho1.frozenAt j
        obtain ⟨u3, s3⟩ := own_some ho1 (k * 7 + 3) (by omega)
        obtain ⟨u4, s4⟩ := own_some ho1 (k * 7 + 4) (by omega)
        obtain ⟨u5, s5⟩ := own_some ho1 (k * 7 + 5) (by omega)
        go_wp2_with fail
        refine (markText _ _ (by omega) (by omega)).mono ?_
        rintro e w2 ⟨rfl, hb2⟩
        have ho2 := ownsRow_grew (ownsRow_stores (ownsRow_stores (ownsRow_stores ho1 (k * 7 + 3) (.string (mtext (k0 + (k : Int) * 7 + 1 + 1 + 1)))) (k * 7 + 4) (.int .i64 (k0 + (k : Int) * 7 + 1 + 1 + 1 + 1))) (k * 7 + 5) (.int .i64 (k0 + (k : Int) * 7 + 1 + 1 + 1 + 1 + 1))) hb2
        have hf2 := fun j => ho2.frozenAt j
        obtain ⟨u6, s6⟩ := own_some ho2 (k * 7 + 6) (by omega)
        go_wp2
        go_roundw
        case rel =>
          refine ⟨k + 1, by omega, by go_num, by go_num, ?_, ?_⟩
          · repeat' (first | with_reducible exact hbel | with_reducible refine Touch.setCell ?_ hg1 hg2 _  | with_reducible refine Touch.grew ?_ hb1 | with_reducible refine Touch.grew ?_ hb2)
          · have hst := (ownsRow_stores ho2 (k * 7 + 6) (.string (mtext (k0 + (k : Int) * 7 + 1 + 1 + 1 + 1 + 1 + 1))))
            have hl : k < (((List.range k).map fun (j : Nat) => mkN (k0 + (j : Int) * 7)) ++ xs.drop k).length := by simp; have := HX.out; omega
            have hs := setsN _ k hl (⟨k0 + (k : Int) * 7, k0 + (k : Int) * 7 + 1, k0 + (k : Int) * 7 + 1 + 1, mtext (k0 + (k : Int) * 7 + 1 + 1 + 1), ⟨k0 + (k : Int) * 7 + 1 + 1 + 1 + 1, k0 + (k : Int) * 7 + 1 + 1 + 1 + 1 + 1, mtext (k0 + (k : Int) * 7 + 1 + 1 + 1 + 1 + 1 + 1)⟩⟩ : N)
            rw [hs] at hst
            have hd : xs.drop k = xs[k]'(by have := HX.out; omega) :: xs.drop (k + 1) := by rw [List.getElem_cons_drop]
            rw [set_append_left _ _ k _ _ _ (by simp) hd] at hst
            rw [List.range_succ, List.map_append, List.map_cons, List.map_nil]
            exact hst
        case measure => simp [intOf]; omega
      · obtain rfl : k = n := by omega
        go_wp2
        go_ret
        refine ⟨rfl, ⟨?_, HO.out.2⟩, hbel⟩
        have := hown
        rw [List.drop_eq_nil_of_le (by have := HX.out; omega), List.append_nil] at this
        exact ownsRow_base this hg1
set_option maxRecDepth 100000 in
set_option maxHeartbeats 1000000 in
/-- What holds the marks is found to hold them. -/
theorem heldNodeS (va : Value) (n : Nat) (k0 : Int) (w : World) (ha : Rd w va 7 n (rows N.c ((List.range n).map fun (j : Nat) => mkN (k0 + (j : Int) * 7)))) (hx : n ≤ 4000000) (h0 : 0 ≤ k0) (h1 : k0 ≤ 3000000000000000) :
    Calls Tryz.prog 23 #[va, .int .i64 k0] w fun e w' => e = .returned (.int .i64 (k0 + (n : Int) * 7)) ∧ Grew w w' := by
  obtain ⟨a, ca, rfl, hca, hra⟩ := ha
  go_enter Tryz.func23, Tryz.ntmps23
  go_wp2
  go_loopw [1, 5] (fun c i wr => ∃ k : Nat, k ≤ n ∧ i = .int .i64 k ∧ c = .int .i64 (k0 + (k : Int) * 7) ∧ Grew w wr) (fun _ i _ => n - (intOf i).toNat)
  case atStart => exact ⟨0, Nat.zero_le _, rfl, by simp, Grew.refl _⟩
  case round =>
    obtain ⟨k, hk, rfl, rfl, hbel⟩ := hrel
    by_cases hlt : k < n
    · obtain ⟨b1, o1, x, rfl, hxk, c0, c1, c2, c3, c4, c5, c6⟩ := (hra.grew hbel).getN hlt
      obtain rfl : x = mkN (k0 + (k : Int) * 7) := by have := hxk.out; simp [List.getElem?_range hlt] at this; exact this.symm
      simp only [mkN] at c0 c1 c2 c3 c4 c5 c6
      go_wp2_with fail
      go_region_held3 (fun w' => w'.cell? ⟨b1, o1 + k * 7 + 3, none⟩ = some (.string (mtext (k0 + (k : Int) * 7 + 1 + 1 + 1))) ∧ Grew wr w') (first | exact ⟨c3, (Grew.refl _).drew⟩ | exact held1 (by assumption) (by assumption)) (first | (go_at_call 44; refine (markText _ _ (by omega) (by omega)).mono ?_; rintro e w1 ⟨rfl, hb1⟩))
      have g1 : Grew wr w1 := snd_of (by assumption)
      have c4_1 := grew_cell g1 c4
      have c5_1 := grew_cell g1 c5
      have c6_1 := grew_cell g1 c6
      go_wp2_with fail
      go_region_held3 (fun w' => w'.cell? ⟨b1, o1 + k * 7 + 6, none⟩ = some (.string (mtext (k0 + (k : Int) * 7 + 1 + 1 + 1 + 1 + 1 + 1))) ∧ Grew wr w') (first | exact ⟨(grew_cell g1 c6), g1.drew⟩ | exact held1 (by assumption) (by assumption)) (first | (go_at_call 44; refine (markText _ _ (by omega) (by omega)).mono ?_; rintro e w2 ⟨rfl, hb2⟩))
      have g2 : Grew wr w2 := snd_of (by assumption)
      go_wp2
      go_roundw
      case rel => exact ⟨k + 1, by omega, by go_num, by go_num, hbel.trans g2⟩
      case measure => simp [intOf]; omega
    · go_wp2
      go_ret
      obtain rfl : k = n := by omega
      exact ⟨rfl, hbel⟩


/-- The marks of one element. -/
def mkFd (c : Int) : Fd := ⟨mtext (c), c + 1⟩


/-- The marks of one element. -/
def mkAt (c : Int) : At := ⟨mtext (c), ⟨c + 1, c + 1 + 1, mtext (c + 1 + 1 + 1)⟩⟩

end Go.Proofs.YtodbohmbdgbheaaGreatDoor
