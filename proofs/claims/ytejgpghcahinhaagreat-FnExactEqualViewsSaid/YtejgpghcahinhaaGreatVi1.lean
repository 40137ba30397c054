/- Texts H3, C2, E1, as far as they are needed. -/
import Derived.Test.YtejgpghcahinhaaGreatVi0
import Derived.StillTailTactics
import Derived.Deep.Light
import Derived.Deep.DeepCutAuto
namespace Go.Proofs.YtejgpghcahinhaaGreat
open Go.RowKit
set_option linter.unusedVariables false
def V.ok0 (x : V) : Prop := x.str.size ≤ maxLen
def N.ok0 (x : N) : Prop := x.name.size ≤ maxLen ∧ x.val.ok0
def Fd.ok0 (x : Fd) : Prop := x.name.size ≤ maxLen
def At.ok0 (x : At) : Prop := x.name.size ≤ maxLen ∧ x.val.ok0
def szAll {α : Type} (f : α → Nat) (xs : List α) : Nat := (xs.map f).sum
theorem szAll_snoc {α : Type} (f : α → Nat) (xs : List α) (x : α) : szAll f (xs ++ [x]) = szAll f xs + f x := by simp [szAll]
theorem mem_szAll {α : Type} {f : α → Nat} {xs : List α} {x : α} (h : x ∈ xs) : f x ≤ szAll f xs := by
  induction xs with
  | nil => simp at h
  | cons y ys ih =>
    simp only [szAll, List.map_cons, List.sum_cons] at ih ⊢
    rcases List.mem_cons.1 h with rfl | h
    · omega
    · have := ih h; omega
set_option maxHeartbeats 400000 in
theorem szValue (v : V) (l : Int) (w : World) (hl : 0 ≤ l) (hl2 : l ≤ 4000000) (hs : v.ok0) :
    Calls Tryz.prog 248 #[v.v, .int .i64 l] w fun e w' => ∃ r : Int, e = .returned (.int .i64 r) ∧ Left l v.sz r ∧ Grew w w' := by
  unfold V.ok0 maxLen at hs
  go_enter Tryz.func248, Tryz.ntmps248
  go_wp2
  all_goals go_ret
  · exact ⟨_, rfl, .inl rfl, (Grew.refl _).alloc _⟩
  · exact ⟨_, rfl, .inr ⟨rfl, by assumption⟩, (Grew.refl _).alloc _⟩
set_option maxHeartbeats 400000 in
theorem toValue (v : V) (w : World) :
    Calls Tryz.prog 250 #[v.v] w fun e w' => ∃ o1 o2 o3, e = .returned v.v ∧ w' = ((w.alloc o1).alloc o2).alloc o3 := by
  go_enter Tryz.func250, Tryz.ntmps250
  go_wp2
  exact bodyPost_ret (v := v.v) (by simp [results, Tryz.results250, go_sem]) rfl ⟨_, _, _, rfl, rfl⟩
set_option maxHeartbeats 400000 in
theorem eqValue (a : V) (w : World) :
    Calls Tryz.prog 252 #[a.v, a.v] w fun e w' => e = .returned (.bool true) ∧ Grew w w' := by
  go_enter Tryz.func252, Tryz.ntmps252
  go_wp2
  go_ret
  exact ⟨rfl, ((Grew.refl _).alloc _).alloc _⟩
theorem Tryz.infoN : (Tryz.prog.info? 159).map (fun i => (i.zero, i.size, i.bytes)) = some (some (N.z.v), 7, 72) := by kernel_rfl
set_option maxHeartbeats 400000 in
theorem szNode (x : N) (l : Int) (w : World) (hl : 0 ≤ l) (hl2 : l ≤ 4000000) (hs : x.ok0) :
    Calls Tryz.prog 228 #[x.v, .int .i64 l] w fun e w' => ∃ r : Int, e = .returned (.int .i64 r) ∧ Left l x.sz r ∧ Grew w w' := by
  have hs1 := hs.1
  have hs2 := Lib.hid hs.2
  clear hs
  unfold maxLen at hs1
  by_cases h0 : l - (x.name.size : Int) < 0
  · go_enter Tryz.func228, Tryz.ntmps228
    go_wp2
    go_ret
    exact ⟨_, rfl, .inl rfl, (Grew.refl _).alloc _⟩
  · go_enter Tryz.func228, Tryz.ntmps228
    go_wp2_with fail
    refine (szValue x.val _ _ (by omega) (by omega) hs2.out).mono ?_
    rintro e w1 ⟨r1, rfl, h1, g1⟩
    rcases h1 with rfl | ⟨h1, h2⟩
    · go_wp2
      go_ret
      exact ⟨_, rfl, .inl rfl, ((Grew.refl _).alloc _).trans g1⟩
    · have H1 := Lib.hid h1
      clear h1
      go_wp2
      go_ret
      exact ⟨_, rfl, .inr ⟨by have := H1.out; unfold N.sz; omega, h2⟩, ((Grew.refl _).alloc _).trans g1⟩
set_option maxRecDepth 100000 in
set_option maxHeartbeats 1000000 in
theorem szNodeS (va : Value) (n : Nat) (xs : List N) (l : Int) (w : World) (ha : Rd w va 7 n (rows N.c xs)) (hn : n ≤ maxLen) (hok : ∀ x, x ∈ xs → x.ok0) (hl : 0 ≤ l) (hl2 : l ≤ 4000000) :
    Calls Tryz.prog 190 #[va, .int .i64 l] w fun e w' => ∃ r : Int, e = .returned (.int .i64 r) ∧ Left l (n + szAll N.sz xs) r ∧ Grew w w' := by
  unfold maxLen at hn
  obtain ⟨a, ca, rfl, hca, hra⟩ := ha
  have HX := Lib.hid (hra.len_rows N.len (by decide))
  have HO := Lib.hid hok
  clear hok
  by_cases h0 : l - (n : Int) < 0
  · go_enter Tryz.func190, Tryz.ntmps190
    go_wp2
    go_ret
    exact ⟨_, rfl, .inl rfl, Grew.refl _⟩
  · go_enter Tryz.func190, Tryz.ntmps190
    go_wp2
    go_loopw [1, 5] (fun c i wr => ∃ (k : Nat) (r : Int), k ≤ n ∧ i = .int .i64 k ∧ c = .int .i64 r ∧ 0 ≤ r ∧ r ≤ l ∧ Hid (r = l - (n : Int) - szAll N.sz (xs.take k)) ∧ Grew w wr) (fun _ i _ => n - (intOf i).toNat)
    case atStart => exact ⟨0, _, Nat.zero_le _, rfl, rfl, by omega, by omega, Lib.hid (by simp [szAll]), Grew.refl _⟩
    case round =>
      obtain ⟨k, r, hk, rfl, rfl, hr0, hrl, hr, hbel⟩ := hrel
      by_cases hlt : k < n
      · obtain ⟨b1, o1, x, rfl, hxk, c0, c1, c2, c3, c4, c5, c6⟩ := (hra.grew hbel).getN hlt
        have hxo := Lib.hid (HO.out x (List.mem_of_getElem? hxk.out))
        go_wp2_with fail
        refine (szNode x r _ hr0 (by omega) hxo.out).mono ?_
        rintro e w1 ⟨r1, rfl, h1, g1⟩
        rcases h1 with rfl | ⟨h1, h2⟩
        · go_wp2
          go_ret
          exact ⟨_, rfl, .inl rfl, hbel.trans g1⟩
        · have H1 := Lib.hid h1
          have hle : r1 ≤ l := by omega
          clear h1
          go_wp2
          go_roundw
          case rel => exact ⟨k + 1, r1, by omega, by go_num, rfl, h2, hle, Lib.hid (by rw [take_snoc hxk.out, szAll_snoc]; have := H1.out; have := hr.out; omega), hbel.trans g1⟩
          case measure => simp [intOf]; omega
      · obtain rfl : k = n := by omega
        go_wp2
        go_ret
        exact ⟨_, rfl, .inr ⟨by have := hr.out; rw [take_all HX.out] at this; omega, hr0⟩, hbel⟩
set_option maxHeartbeats 400000 in
theorem toNode (x : N) (w : World) :
    Calls Tryz.prog 230 #[x.v] w fun e w' => e = .returned x.v ∧ Grew w w' := by
  go_enter Tryz.func230, Tryz.ntmps230
  go_wp2_with (go_at_call 250; refine (toValue x.val _).mono ?_; rintro e w1 ⟨o1, o2, o3, rfl, rfl⟩)
  refine bodyPost_ret (v := x.v) (by simp [results, Tryz.results230, go_sem]) rfl ⟨rfl, ?_⟩
  repeat' (first | with_reducible exact Grew.refl _ | with_reducible apply Grew.alloc | with_reducible apply Grew.drew)
set_option maxHeartbeats 1000000 in
theorem toNodeS (va : Value) (n : Nat) (xs : List N) (w : World) (ha : Rd w va 7 n (rows N.c xs)) (hx : n ≤ 4000000) :
    Calls Tryz.prog 193 #[va] w fun e w' => ∃ v, e = .returned v ∧ w'.ownsRow w.heap.size 159 7 v n (rows N.c xs) ∧ Grew w w' := by
  obtain ⟨a, ca, rfl, hca, hra⟩ := ha
  have HX := Lib.hid (hra.len_rows N.len (by decide))
  obtain ⟨i0, hi, hz0, hz1, hz2⟩ := info_parts Tryz.infoN
  go_enter Tryz.func193, Tryz.ntmps193
  go_wp2_with (at_make; refine wpList_make_full _ rfl _ _ 37 rfl w.heap.size 159 i0 _ 7 Tryz.underlying37 hi hz0 hz1 _ _ _ _ n rfl rfl rfl rfl ?b2 ?b3 (Nat.le_refl _) ?_)
  case b2 => rw [hz2]; omega
  case b3 => unfold maxLen; omega
  intro w0 hown0 hgrow0
  clear hi hz0 hz1 hz2
  go_wp2
  have hb0 : Grew w w0 := (Grew.refl _).grown hgrow0 (fun k h => by cases h)
  go_loopw [4] (fun i wr => ∃ k : Nat, k ≤ n ∧ i = .int .i64 k ∧ Grew w wr ∧ wr.ownsRow w.heap.size 159 7 (.slice (some ⟨w.heap.size, 0, none⟩) n n) n (rows N.c (xs.take k ++ List.replicate (n - k) N.z))) (fun i _ => n - (intOf i).toNat)
  case atStart =>
    refine ⟨0, Nat.zero_le _, rfl, hb0, ?_⟩
    have hz := rows_made (enc := N.c) (k := 7) N.z (Value.cells N.z.v) rfl rfl n
    rw [List.take_zero, List.nil_append, Nat.sub_zero, ← hz]
    exact hown0
  case round =>
    obtain ⟨k, hk, rfl, hbel, hown⟩ := hrel
    by_cases hlt : k < n
    · obtain ⟨b1, o1, x, rfl, hxk, c0, c1, c2, c3, c4, c5, c6⟩ := (hra.grew hbel).getN hlt
      go_wp2_with (go_at_call 230; refine (toNode x _).mono ?_; rintro e w1 ⟨rfl, hb⟩; have ho1 := ownsRow_grew hown hb; have hf := fun j => ho1.frozenAt j; obtain ⟨y, hy, d0, d1, d2, d3, d4, d5, d6⟩ := ownN ho1 hlt)
      go_roundw
      case rel =>
        refine ⟨k + 1, by omega, by go_num, ?_, ?_⟩
        · repeat' (first | with_reducible exact hbel | with_reducible refine Grew.setCell ?_ (Nat.le_refl _) _ | with_reducible refine Grew.trans ?_ hb)
        · have hst := storeN ho1 hlt x
          rw [set_append_left (xs.take k) (List.replicate (n - k) N.z) k x N.z (List.replicate (n - (k + 1)) N.z) (by rw [List.length_take, HX.out]; omega) (by rw [show n - k = (n - (k + 1)) + 1 by omega]; rfl)] at hst
          rw [take_snoc hxk.out]
          exact hst
      case measure => simp [intOf]; omega
    · obtain rfl : k = n := by omega
      go_wp2
      go_ret
      refine ⟨_, rfl, ?_, hbel⟩
      rw [take_all HX.out] at hown
      simpa using hown
set_option maxHeartbeats 400000 in
theorem eqNode (a : N) (w : World) :
    Calls Tryz.prog 232 #[a.v, a.v] w fun e w' => e = .returned (.bool true) ∧ Grew w w' := by
  go_enter Tryz.func232, Tryz.ntmps232
  go_wp2_with (go_at_call 252; refine (eqValue a.val _).mono ?_; rintro e w1 ⟨rfl, hb⟩)
  go_ret
  exact ⟨rfl, (((Grew.refl _).alloc _).alloc _).trans hb⟩
set_option maxRecDepth 100000 in
set_option maxHeartbeats 1000000 in
theorem eqNodeS (va vb : Value) (n : Nat) (xs : List N) (w : World) (ha : Rd w va 7 n (rows N.c xs)) (hb : Rd w vb 7 n (rows N.c xs)) (hx : n ≤ 4000000) :
    Calls Tryz.prog 196 #[va, vb] w fun e w' => e = .returned (.bool true) ∧ Grew w w' := by
  obtain ⟨a, ca, rfl, hca, hra⟩ := ha
  obtain ⟨b, cb, rfl, hcb, hrb⟩ := hb
  go_enter Tryz.func196, Tryz.ntmps196
  go_wp2
  go_loopw [5] (fun i wr => ∃ k : Nat, k ≤ n ∧ i = .int .i64 k ∧ Grew w wr) (fun i _ => n - (intOf i).toNat)
  case atStart => exact ⟨0, Nat.zero_le _, rfl, Grew.refl _⟩
  case round =>
    obtain ⟨k, hk, rfl, hbel⟩ := hrel
    by_cases hlt : k < n
    · obtain ⟨b1, o1, x, rfl, hxk, c0, c1, c2, c3, c4, c5, c6⟩ := (hra.grew hbel).getN hlt
      obtain ⟨b2, o2, y, rfl, hyk, d0, d1, d2, d3, d4, d5, d6⟩ := (hrb.grew hbel).getN hlt
      obtain rfl : x = y := by have := hxk.out.symm.trans hyk.out; simpa using this
      go_wp2
      go_still_tail 8, (by kernel_rfl)
      change wpList _ _ _ _ _ wr.drew
      have g2 : Grew wr wr.drew := (Grew.refl _).drew
      generalize wr.drew = w2 at g2
      go_wp2_with (go_at_call 232; refine (eqNode x _).mono ?_; rintro e w1 ⟨rfl, hb⟩)
      go_roundw
      case rel => exact ⟨k + 1, by omega, by go_num, (hbel.trans g2).trans hb⟩
      case measure => simp [intOf]; omega
    · go_wp2
      go_ret
      exact ⟨rfl, hbel⟩
def mkN (c : Int) : N := ⟨c, c + 1, c + 1 + 1, mtext (c + 1 + 1 + 1), ⟨c + 1 + 1 + 1 + 1, c + 1 + 1 + 1 + 1 + 1, mtext (c + 1 + 1 + 1 + 1 + 1 + 1)⟩⟩
set_option maxRecDepth 100000 in
set_option maxHeartbeats 1000000 in
theorem markNodeS (va : Value) (n : Nat) (xs : List N) (k0 : Int) (w : World) (lo hi : Nat) (ha : Own w lo hi 159 7 va n (rows N.c xs)) (hx : n ≤ 4000000) (h0 : 0 ≤ k0) (h1 : k0 ≤ 3000000000000000) :
    Calls Tryz.prog 141 #[va, .int .i64 k0] w fun e w' => e = .returned (.int .i64 (k0 + (n : Int) * 7)) ∧ Own w' lo hi 159 7 va n (rows N.c ((List.range n).map fun (j : Nat) => mkN (k0 + (j : Int) * 7))) ∧ Touch lo hi w w' := by
  rcases ha.cases with ⟨rfl, rfl, _⟩ | ⟨g, cap, rfl, hg1, hg2, hcap, hown⟩
  · go_enter Tryz.func141, Tryz.ntmps141
    go_wp2
    refine wp_loop_rounds 1 ?_
    rw [rounds_succ]
    go_wp2
    go_ret
    exact ⟨ret_int (by simp), ⟨⟨rfl, .inl ⟨rfl, rfl⟩⟩, fun b h => by cases h⟩, Touch.refl _ _ _⟩
  · have HX : Hid (xs.length = n) := Lib.hid (by have := hown.1; rw [rows_length N.len] at this; omega)
    have HO := Lib.hid ha
    clear ha
    go_enter Tryz.func141, Tryz.ntmps141
    go_wp2
    go_loopw [1, 5] (fun c i wr => ∃ k : Nat, k ≤ n ∧ i = .int .i64 k ∧ c = .int .i64 (k0 + (k : Int) * 7) ∧ Touch lo hi w wr ∧ wr.ownsRow g 159 7 (.slice (some ⟨g, 0, none⟩) n cap) n (rows N.c (((List.range k).map fun (j : Nat) => mkN (k0 + (j : Int) * 7)) ++ xs.drop k))) (fun _ i _ => n - (intOf i).toNat)
    case atStart => exact ⟨0, Nat.zero_le _, rfl, by simp, Touch.refl _ _ _, by simpa using hown⟩
    case round =>
      obtain ⟨k, hk, rfl, rfl, hbel, hown⟩ := hrel
      by_cases hlt : k < n
      · have hf0 := fun j => hown.frozenAt j
        obtain ⟨u0, s0⟩ := own_some hown (k * 7) (by omega)
        obtain ⟨u1, s1⟩ := own_some hown (k * 7 + 1) (by omega)
        obtain ⟨u2, s2⟩ := own_some hown (k * 7 + 2) (by omega)
        go_wp2_with fail
        refine (markText _ _ (by omega) (by omega)).mono ?_
        rintro e w1 ⟨rfl, hb1⟩
        have ho1 := ownsRow_grew (ownsRow_stores (ownsRow_stores (ownsRow_stores hown (k * 7) (.int .i64 (k0 + (k : Int) * 7))) (k * 7 + 1) (.int .i64 (k0 + (k : Int) * 7 + 1))) (k * 7 + 2) (.int .i64 (k0 + (k : Int) * 7 + 1 + 1))) hb1
        have hf1 := fun j => ho1.frozenAt j
        obtain ⟨u3, s3⟩ := own_some ho1 (k * 7 + 3) (by omega)
        obtain ⟨u4, s4⟩ := own_some ho1 (k * 7 + 4) (by omega)
        obtain ⟨u5, s5⟩ := own_some ho1 (k * 7 + 5) (by omega)
        go_wp2_with fail
        refine (markText _ _ (by omega) (by omega)).mono ?_
        rintro e w2 ⟨rfl, hb2⟩
        have ho2 := ownsRow_grew (ownsRow_stores (ownsRow_stores (ownsRow_stores ho1 (k * 7 + 3) (.string (mtext (k0 + (k : Int) * 7 + 1 + 1 + 1)))) (k * 7 + 4) (.int .i64 (k0 + (k : Int) * 7 + 1 + 1 + 1 + 1))) (k * 7 + 5) (.int .i64 (k0 + (k : Int) * 7 + 1 + 1 + 1 + 1 + 1))) hb2
        have hf2 := fun j => ho2.frozenAt j
        obtain ⟨u6, s6⟩ := own_some ho2 (k * 7 + 6) (by omega)
        go_wp2
        go_roundw
        case rel =>
          refine ⟨k + 1, by omega, by go_num, by go_num, ?_, ?_⟩
          · repeat' (first | with_reducible exact hbel | with_reducible refine Touch.setCell ?_ hg1 hg2 _  | with_reducible refine Touch.grew ?_ hb1 | with_reducible refine Touch.grew ?_ hb2)
          · have hst := (ownsRow_stores ho2 (k * 7 + 6) (.string (mtext (k0 + (k : Int) * 7 + 1 + 1 + 1 + 1 + 1 + 1))))
            have hl : k < (((List.range k).map fun (j : Nat) => mkN (k0 + (j : Int) * 7)) ++ xs.drop k).length := by simp; have := HX.out; omega
            have hs := setsN _ k hl (⟨k0 + (k : Int) * 7, k0 + (k : Int) * 7 + 1, k0 + (k : Int) * 7 + 1 + 1, mtext (k0 + (k : Int) * 7 + 1 + 1 + 1), ⟨k0 + (k : Int) * 7 + 1 + 1 + 1 + 1, k0 + (k : Int) * 7 + 1 + 1 + 1 + 1 + 1, mtext (k0 + (k : Int) * 7 + 1 + 1 + 1 + 1 + 1 + 1)⟩⟩ : N)
            rw [hs] at hst
            have hd : xs.drop k = xs[k]'(by have := HX.out; omega) :: xs.drop (k + 1) := by rw [List.getElem_cons_drop]
            rw [set_append_left _ _ k _ _ _ (by simp) hd] at hst
            rw [List.range_succ, List.map_append, List.map_cons, List.map_nil]
            exact hst
        case measure => simp [intOf]; omega
      · obtain rfl : k = n := by omega
        go_wp2
        go_ret
        refine ⟨rfl, ⟨?_, HO.out.2⟩, hbel⟩
        have := hown
        rw [List.drop_eq_nil_of_le (by have := HX.out; omega), List.append_nil] at this
        exact ownsRow_base this hg1
theorem Tryz.infoFd : (Tryz.prog.info? 167).map (fun i => (i.zero, i.size, i.bytes)) = some (some (Fd.z.v), 2, 24) := by kernel_rfl
set_option maxHeartbeats 400000 in
theorem szField (x : Fd) (l : Int) (w : World) (hl : 0 ≤ l) (hl2 : l ≤ 4000000) (hs : x.ok0) :
    Calls Tryz.prog 188 #[x.v, .int .i64 l] w fun e w' => ∃ r : Int, e = .returned (.int .i64 r) ∧ Left l x.sz r ∧ Grew w w' := by
  unfold Fd.ok0 maxLen at hs
  go_enter Tryz.func188, Tryz.ntmps188
  go_wp2
  all_goals go_ret
  · exact ⟨_, rfl, .inl rfl, (Grew.refl _).alloc _⟩
  · exact ⟨_, rfl, .inr ⟨rfl, by assumption⟩, (Grew.refl _).alloc _⟩
set_option maxRecDepth 100000 in
set_option maxHeartbeats 1000000 in
theorem szFieldS (va : Value) (n : Nat) (xs : List Fd) (l : Int) (w : World) (ha : Rd w va 2 n (rows Fd.c xs)) (hn : n ≤ maxLen) (hok : ∀ x, x ∈ xs → x.ok0) (hl : 0 ≤ l) (hl2 : l ≤ 4000000) :
    Calls Tryz.prog 129 #[va, .int .i64 l] w fun e w' => ∃ r : Int, e = .returned (.int .i64 r) ∧ Left l (n + szAll Fd.sz xs) r ∧ Grew w w' := by
  unfold maxLen at hn
  obtain ⟨a, ca, rfl, hca, hra⟩ := ha
  have HX := Lib.hid (hra.len_rows Fd.len (by decide))
  have HO := Lib.hid hok
  clear hok
  by_cases h0 : l - (n : Int) < 0
  · go_enter Tryz.func129, Tryz.ntmps129
    go_wp2
    go_ret
    exact ⟨_, rfl, .inl rfl, Grew.refl _⟩
  · go_enter Tryz.func129, Tryz.ntmps129
    go_wp2
    go_loopw [1, 5] (fun c i wr => ∃ (k : Nat) (r : Int), k ≤ n ∧ i = .int .i64 k ∧ c = .int .i64 r ∧ 0 ≤ r ∧ r ≤ l ∧ Hid (r = l - (n : Int) - szAll Fd.sz (xs.take k)) ∧ Grew w wr) (fun _ i _ => n - (intOf i).toNat)
    case atStart => exact ⟨0, _, Nat.zero_le _, rfl, rfl, by omega, by omega, Lib.hid (by simp [szAll]), Grew.refl _⟩
    case round =>
      obtain ⟨k, r, hk, rfl, rfl, hr0, hrl, hr, hbel⟩ := hrel
      by_cases hlt : k < n
      · obtain ⟨b1, o1, x, rfl, hxk, c0, c1⟩ := (hra.grew hbel).getFd hlt
        have hxo := Lib.hid (HO.out x (List.mem_of_getElem? hxk.out))
        go_wp2_with fail
        refine (szField x r _ hr0 (by omega) hxo.out).mono ?_
        rintro e w1 ⟨r1, rfl, h1, g1⟩
        rcases h1 with rfl | ⟨h1, h2⟩
        · go_wp2
          go_ret
          exact ⟨_, rfl, .inl rfl, hbel.trans g1⟩
        · have H1 := Lib.hid h1
          have hle : r1 ≤ l := by omega
          clear h1
          go_wp2
          go_roundw
          case rel => exact ⟨k + 1, r1, by omega, by go_num, rfl, h2, hle, Lib.hid (by rw [take_snoc hxk.out, szAll_snoc]; have := H1.out; have := hr.out; omega), hbel.trans g1⟩
          case measure => simp [intOf]; omega
      · obtain rfl : k = n := by omega
        go_wp2
        go_ret
        exact ⟨_, rfl, .inr ⟨by have := hr.out; rw [take_all HX.out] at this; omega, hr0⟩, hbel⟩
set_option maxHeartbeats 400000 in
theorem toField (x : Fd) (w : World) :
    Calls Tryz.prog 191 #[x.v] w fun e w' => e = .returned x.v ∧ Grew w w' := by
  go_enter Tryz.func191, Tryz.ntmps191
  go_wp2
  exact bodyPost_ret (v := x.v) (by simp [results, Tryz.results191, go_sem]) rfl ⟨rfl, (((Grew.refl _).alloc _).alloc _).alloc _⟩
set_option maxHeartbeats 1000000 in
theorem toFieldS (va : Value) (n : Nat) (xs : List Fd) (w : World) (ha : Rd w va 2 n (rows Fd.c xs)) (hx : n ≤ 4000000) :
    Calls Tryz.prog 132 #[va] w fun e w' => ∃ v, e = .returned v ∧ w'.ownsRow w.heap.size 167 2 v n (rows Fd.c xs) ∧ Grew w w' := by
  obtain ⟨a, ca, rfl, hca, hra⟩ := ha
  have HX := Lib.hid (hra.len_rows Fd.len (by decide))
  obtain ⟨i0, hi, hz0, hz1, hz2⟩ := info_parts Tryz.infoFd
  go_enter Tryz.func132, Tryz.ntmps132
  go_wp2_with (at_make; refine wpList_make_full _ rfl _ _ 24 rfl w.heap.size 167 i0 _ 2 Tryz.underlying24 hi hz0 hz1 _ _ _ _ n rfl rfl rfl rfl ?b2 ?b3 (Nat.le_refl _) ?_)
  case b2 => rw [hz2]; omega
  case b3 => unfold maxLen; omega
  intro w0 hown0 hgrow0
  clear hi hz0 hz1 hz2
  go_wp2
  have hb0 : Grew w w0 := (Grew.refl _).grown hgrow0 (fun k h => by cases h)
  go_loopw [4] (fun i wr => ∃ k : Nat, k ≤ n ∧ i = .int .i64 k ∧ Grew w wr ∧ wr.ownsRow w.heap.size 167 2 (.slice (some ⟨w.heap.size, 0, none⟩) n n) n (rows Fd.c (xs.take k ++ List.replicate (n - k) Fd.z))) (fun i _ => n - (intOf i).toNat)
  case atStart =>
    refine ⟨0, Nat.zero_le _, rfl, hb0, ?_⟩
    have hz := rows_made (enc := Fd.c) (k := 2) Fd.z (Value.cells Fd.z.v) rfl rfl n
    rw [List.take_zero, List.nil_append, Nat.sub_zero, ← hz]
    exact hown0
  case round =>
    obtain ⟨k, hk, rfl, hbel, hown⟩ := hrel
    by_cases hlt : k < n
    · obtain ⟨b1, o1, x, rfl, hxk, c0, c1⟩ := (hra.grew hbel).getFd hlt
      go_wp2_with (go_at_call 191; refine (toField x _).mono ?_; rintro e w1 ⟨rfl, hb⟩; have ho1 := ownsRow_grew hown hb; have hf := fun j => ho1.frozenAt j; obtain ⟨y, hy, d0, d1⟩ := ownFd ho1 hlt)
      go_roundw
      case rel =>
        refine ⟨k + 1, by omega, by go_num, ?_, ?_⟩
        · repeat' (first | with_reducible exact hbel | with_reducible refine Grew.setCell ?_ (Nat.le_refl _) _ | with_reducible refine Grew.trans ?_ hb)
        · have hst := storeFd ho1 hlt x
          rw [set_append_left (xs.take k) (List.replicate (n - k) Fd.z) k x Fd.z (List.replicate (n - (k + 1)) Fd.z) (by rw [List.length_take, HX.out]; omega) (by rw [show n - k = (n - (k + 1)) + 1 by omega]; rfl)] at hst
          rw [take_snoc hxk.out]
          exact hst
      case measure => simp [intOf]; omega
    · obtain rfl : k = n := by omega
      go_wp2
      go_ret
      refine ⟨_, rfl, ?_, hbel⟩
      rw [take_all HX.out] at hown
      simpa using hown
set_option maxHeartbeats 400000 in
theorem eqField (a : Fd) (w : World) :
    Calls Tryz.prog 194 #[a.v, a.v] w fun e w' => e = .returned (.bool true) ∧ Grew w w' := by
  go_enter Tryz.func194, Tryz.ntmps194
  go_wp2
  go_ret
  exact ⟨rfl, ((Grew.refl _).alloc _).alloc _⟩
set_option maxRecDepth 100000 in
set_option maxHeartbeats 1000000 in
theorem eqFieldS (va vb : Value) (n : Nat) (xs : List Fd) (w : World) (ha : Rd w va 2 n (rows Fd.c xs)) (hb : Rd w vb 2 n (rows Fd.c xs)) (hx : n ≤ 4000000) :
    Calls Tryz.prog 135 #[va, vb] w fun e w' => e = .returned (.bool true) ∧ Grew w w' := by
  obtain ⟨a, ca, rfl, hca, hra⟩ := ha
  obtain ⟨b, cb, rfl, hcb, hrb⟩ := hb
  go_enter Tryz.func135, Tryz.ntmps135
  go_wp2
  go_loopw [5] (fun i wr => ∃ k : Nat, k ≤ n ∧ i = .int .i64 k ∧ Grew w wr) (fun i _ => n - (intOf i).toNat)
  case atStart => exact ⟨0, Nat.zero_le _, rfl, Grew.refl _⟩
  case round =>
    obtain ⟨k, hk, rfl, hbel⟩ := hrel
    by_cases hlt : k < n
    · obtain ⟨b1, o1, x, rfl, hxk, c0, c1⟩ := (hra.grew hbel).getFd hlt
      obtain ⟨b2, o2, y, rfl, hyk, d0, d1⟩ := (hrb.grew hbel).getFd hlt
      obtain rfl : x = y := by have := hxk.out.symm.trans hyk.out; simpa using this
      go_wp2
      go_still_tail 8, (by kernel_rfl)
      change wpList _ _ _ _ _ wr.drew
      have g2 : Grew wr wr.drew := (Grew.refl _).drew
      generalize wr.drew = w2 at g2
      go_wp2_with (go_at_call 194; refine (eqField x _).mono ?_; rintro e w1 ⟨rfl, hb⟩)
      go_roundw
      case rel => exact ⟨k + 1, by omega, by go_num, (hbel.trans g2).trans hb⟩
      case measure => simp [intOf]; omega
    · go_wp2
      go_ret
      exact ⟨rfl, hbel⟩
def mkFd (c : Int) : Fd := ⟨mtext (c), c + 1⟩
set_option maxRecDepth 100000 in
set_option maxHeartbeats 1000000 in
theorem markFieldS (va : Value) (n : Nat) (xs : List Fd) (k0 : Int) (w : World) (lo hi : Nat) (ha : Own w lo hi 167 2 va n (rows Fd.c xs)) (hx : n ≤ 4000000) (h0 : 0 ≤ k0) (h1 : k0 ≤ 3000000000000000) :
    Calls Tryz.prog 138 #[va, .int .i64 k0] w fun e w' => e = .returned (.int .i64 (k0 + (n : Int) * 2)) ∧ Own w' lo hi 167 2 va n (rows Fd.c ((List.range n).map fun (j : Nat) => mkFd (k0 + (j : Int) * 2))) ∧ Touch lo hi w w' := by
  rcases ha.cases with ⟨rfl, rfl, _⟩ | ⟨g, cap, rfl, hg1, hg2, hcap, hown⟩
  · go_enter Tryz.func138, Tryz.ntmps138
    go_wp2
    refine wp_loop_rounds 1 ?_
    rw [rounds_succ]
    go_wp2
    go_ret
    exact ⟨ret_int (by simp), ⟨⟨rfl, .inl ⟨rfl, rfl⟩⟩, fun b h => by cases h⟩, Touch.refl _ _ _⟩
  · have HX : Hid (xs.length = n) := Lib.hid (by have := hown.1; rw [rows_length Fd.len] at this; omega)
    have HO := Lib.hid ha
    clear ha
    go_enter Tryz.func138, Tryz.ntmps138
    go_wp2
    go_loopw [1, 5] (fun c i wr => ∃ k : Nat, k ≤ n ∧ i = .int .i64 k ∧ c = .int .i64 (k0 + (k : Int) * 2) ∧ Touch lo hi w wr ∧ wr.ownsRow g 167 2 (.slice (some ⟨g, 0, none⟩) n cap) n (rows Fd.c (((List.range k).map fun (j : Nat) => mkFd (k0 + (j : Int) * 2)) ++ xs.drop k))) (fun _ i _ => n - (intOf i).toNat)
    case atStart => exact ⟨0, Nat.zero_le _, rfl, by simp, Touch.refl _ _ _, by simpa using hown⟩
    case round =>
      obtain ⟨k, hk, rfl, rfl, hbel, hown⟩ := hrel
      by_cases hlt : k < n
      · have hf0 := fun j => hown.frozenAt j
        go_wp2_with fail
        refine (markText _ _ (by omega) (by omega)).mono ?_
        rintro e w1 ⟨rfl, hb1⟩
        have ho1 := ownsRow_grew hown hb1
        have hf1 := fun j => ho1.frozenAt j
        obtain ⟨u0, s0⟩ := own_some ho1 (k * 2) (by omega)
        obtain ⟨u1, s1⟩ := own_some ho1 (k * 2 + 1) (by omega)
        go_wp2
        go_roundw
        case rel =>
          refine ⟨k + 1, by omega, by go_num, by go_num, ?_, ?_⟩
          · repeat' (first | with_reducible exact hbel | with_reducible refine Touch.setCell ?_ hg1 hg2 _  | with_reducible refine Touch.grew ?_ hb1)
          · have hst := (ownsRow_stores (ownsRow_stores ho1 (k * 2) (.string (mtext (k0 + (k : Int) * 2)))) (k * 2 + 1) (.int .i64 (k0 + (k : Int) * 2 + 1)))
            have hl : k < (((List.range k).map fun (j : Nat) => mkFd (k0 + (j : Int) * 2)) ++ xs.drop k).length := by simp; have := HX.out; omega
            have hs := setsFd _ k hl (⟨mtext (k0 + (k : Int) * 2), k0 + (k : Int) * 2 + 1⟩ : Fd)
            rw [hs] at hst
            have hd : xs.drop k = xs[k]'(by have := HX.out; omega) :: xs.drop (k + 1) := by rw [List.getElem_cons_drop]
            rw [set_append_left _ _ k _ _ _ (by simp) hd] at hst
            rw [List.range_succ, List.map_append, List.map_cons, List.map_nil]
            exact hst
        case measure => simp [intOf]; omega
      · obtain rfl : k = n := by omega
        go_wp2
        go_ret
        refine ⟨rfl, ⟨?_, HO.out.2⟩, hbel⟩
        have := hown
        rw [List.drop_eq_nil_of_le (by have := HX.out; omega), List.append_nil] at this
        exact ownsRow_base this hg1
theorem Tryz.infoAt : (Tryz.prog.info? 165).map (fun i => (i.zero, i.size, i.bytes)) = some (some (At.z.v), 4, 48) := by kernel_rfl
set_option maxHeartbeats 400000 in
theorem szAttr (x : At) (l : Int) (w : World) (hl : 0 ≤ l) (hl2 : l ≤ 4000000) (hs : x.ok0) :
    Calls Tryz.prog 247 #[x.v, .int .i64 l] w fun e w' => ∃ r : Int, e = .returned (.int .i64 r) ∧ Left l x.sz r ∧ Grew w w' := by
  have hs1 := hs.1
  have hs2 := Lib.hid hs.2
  clear hs
  unfold maxLen at hs1
  by_cases h0 : l - (x.name.size : Int) < 0
  · go_enter Tryz.func247, Tryz.ntmps247
    go_wp2
    go_ret
    exact ⟨_, rfl, .inl rfl, (Grew.refl _).alloc _⟩
  · go_enter Tryz.func247, Tryz.ntmps247
    go_wp2_with fail
    refine (szValue x.val _ _ (by omega) (by omega) hs2.out).mono ?_
    rintro e w1 ⟨r1, rfl, h1, g1⟩
    rcases h1 with rfl | ⟨h1, h2⟩
    · go_wp2
      go_ret
      exact ⟨_, rfl, .inl rfl, ((Grew.refl _).alloc _).trans g1⟩
    · have H1 := Lib.hid h1
      clear h1
      go_wp2
      go_ret
      exact ⟨_, rfl, .inr ⟨by have := H1.out; unfold At.sz; omega, h2⟩, ((Grew.refl _).alloc _).trans g1⟩
set_option maxRecDepth 100000 in
set_option maxHeartbeats 1000000 in
theorem szAttrS (va : Value) (n : Nat) (xs : List At) (l : Int) (w : World) (ha : Rd w va 4 n (rows At.c xs)) (hn : n ≤ maxLen) (hok : ∀ x, x ∈ xs → x.ok0) (hl : 0 ≤ l) (hl2 : l ≤ 4000000) :
    Calls Tryz.prog 227 #[va, .int .i64 l] w fun e w' => ∃ r : Int, e = .returned (.int .i64 r) ∧ Left l (n + szAll At.sz xs) r ∧ Grew w w' := by
  unfold maxLen at hn
  obtain ⟨a, ca, rfl, hca, hra⟩ := ha
  have HX := Lib.hid (hra.len_rows At.len (by decide))
  have HO := Lib.hid hok
  clear hok
  by_cases h0 : l - (n : Int) < 0
  · go_enter Tryz.func227, Tryz.ntmps227
    go_wp2
    go_ret
    exact ⟨_, rfl, .inl rfl, Grew.refl _⟩
  · go_enter Tryz.func227, Tryz.ntmps227
    go_wp2
    go_loopw [1, 5] (fun c i wr => ∃ (k : Nat) (r : Int), k ≤ n ∧ i = .int .i64 k ∧ c = .int .i64 r ∧ 0 ≤ r ∧ r ≤ l ∧ Hid (r = l - (n : Int) - szAll At.sz (xs.take k)) ∧ Grew w wr) (fun _ i _ => n - (intOf i).toNat)
    case atStart => exact ⟨0, _, Nat.zero_le _, rfl, rfl, by omega, by omega, Lib.hid (by simp [szAll]), Grew.refl _⟩
    case round =>
      obtain ⟨k, r, hk, rfl, rfl, hr0, hrl, hr, hbel⟩ := hrel
      by_cases hlt : k < n
      · obtain ⟨b1, o1, x, rfl, hxk, c0, c1, c2, c3⟩ := (hra.grew hbel).getAt hlt
        have hxo := Lib.hid (HO.out x (List.mem_of_getElem? hxk.out))
        go_wp2_with fail
        refine (szAttr x r _ hr0 (by omega) hxo.out).mono ?_
        rintro e w1 ⟨r1, rfl, h1, g1⟩
        rcases h1 with rfl | ⟨h1, h2⟩
        · go_wp2
          go_ret
          exact ⟨_, rfl, .inl rfl, hbel.trans g1⟩
        · have H1 := Lib.hid h1
          have hle : r1 ≤ l := by omega
          clear h1
          go_wp2
          go_roundw
          case rel => exact ⟨k + 1, r1, by omega, by go_num, rfl, h2, hle, Lib.hid (by rw [take_snoc hxk.out, szAll_snoc]; have := H1.out; have := hr.out; omega), hbel.trans g1⟩
          case measure => simp [intOf]; omega
      · obtain rfl : k = n := by omega
        go_wp2
        go_ret
        exact ⟨_, rfl, .inr ⟨by have := hr.out; rw [take_all HX.out] at this; omega, hr0⟩, hbel⟩
set_option maxHeartbeats 400000 in
theorem toAttr (x : At) (w : World) :
    Calls Tryz.prog 249 #[x.v] w fun e w' => e = .returned x.v ∧ Grew w w' := by
  go_enter Tryz.func249, Tryz.ntmps249
  go_wp2_with (go_at_call 250; refine (toValue x.val _).mono ?_; rintro e w1 ⟨o1, o2, o3, rfl, rfl⟩)
  refine bodyPost_ret (v := x.v) (by simp [results, Tryz.results249, go_sem]) rfl ⟨rfl, ?_⟩
  repeat' (first | with_reducible exact Grew.refl _ | with_reducible apply Grew.alloc | with_reducible apply Grew.drew)
set_option maxHeartbeats 1000000 in
theorem toAttrS (va : Value) (n : Nat) (xs : List At) (w : World) (ha : Rd w va 4 n (rows At.c xs)) (hx : n ≤ 4000000) :
    Calls Tryz.prog 229 #[va] w fun e w' => ∃ v, e = .returned v ∧ w'.ownsRow w.heap.size 165 4 v n (rows At.c xs) ∧ Grew w w' := by
  obtain ⟨a, ca, rfl, hca, hra⟩ := ha
  have HX := Lib.hid (hra.len_rows At.len (by decide))
  obtain ⟨i0, hi, hz0, hz1, hz2⟩ := info_parts Tryz.infoAt
  go_enter Tryz.func229, Tryz.ntmps229
  go_wp2_with (at_make; refine wpList_make_full _ rfl _ _ 77 rfl w.heap.size 165 i0 _ 4 Tryz.underlying77 hi hz0 hz1 _ _ _ _ n rfl rfl rfl rfl ?b2 ?b3 (Nat.le_refl _) ?_)
  case b2 => rw [hz2]; omega
  case b3 => unfold maxLen; omega
  intro w0 hown0 hgrow0
  clear hi hz0 hz1 hz2
  go_wp2
  have hb0 : Grew w w0 := (Grew.refl _).grown hgrow0 (fun k h => by cases h)
  go_loopw [4] (fun i wr => ∃ k : Nat, k ≤ n ∧ i = .int .i64 k ∧ Grew w wr ∧ wr.ownsRow w.heap.size 165 4 (.slice (some ⟨w.heap.size, 0, none⟩) n n) n (rows At.c (xs.take k ++ List.replicate (n - k) At.z))) (fun i _ => n - (intOf i).toNat)
  case atStart =>
    refine ⟨0, Nat.zero_le _, rfl, hb0, ?_⟩
    have hz := rows_made (enc := At.c) (k := 4) At.z (Value.cells At.z.v) rfl rfl n
    rw [List.take_zero, List.nil_append, Nat.sub_zero, ← hz]
    exact hown0
  case round =>
    obtain ⟨k, hk, rfl, hbel, hown⟩ := hrel
    by_cases hlt : k < n
    · obtain ⟨b1, o1, x, rfl, hxk, c0, c1, c2, c3⟩ := (hra.grew hbel).getAt hlt
      go_wp2_with (go_at_call 249; refine (toAttr x _).mono ?_; rintro e w1 ⟨rfl, hb⟩; have ho1 := ownsRow_grew hown hb; have hf := fun j => ho1.frozenAt j; obtain ⟨y, hy, d0, d1, d2, d3⟩ := ownAt ho1 hlt)
      go_roundw
      case rel =>
        refine ⟨k + 1, by omega, by go_num, ?_, ?_⟩
        · repeat' (first | with_reducible exact hbel | with_reducible refine Grew.setCell ?_ (Nat.le_refl _) _ | with_reducible refine Grew.trans ?_ hb)
        · have hst := storeAt ho1 hlt x
          rw [set_append_left (xs.take k) (List.replicate (n - k) At.z) k x At.z (List.replicate (n - (k + 1)) At.z) (by rw [List.length_take, HX.out]; omega) (by rw [show n - k = (n - (k + 1)) + 1 by omega]; rfl)] at hst
          rw [take_snoc hxk.out]
          exact hst
      case measure => simp [intOf]; omega
    · obtain rfl : k = n := by omega
      go_wp2
      go_ret
      refine ⟨_, rfl, ?_, hbel⟩
      rw [take_all HX.out] at hown
      simpa using hown
set_option maxHeartbeats 400000 in
theorem eqAttr (a : At) (w : World) :
    Calls Tryz.prog 251 #[a.v, a.v] w fun e w' => e = .returned (.bool true) ∧ Grew w w' := by
  go_enter Tryz.func251, Tryz.ntmps251
  go_wp2_with (go_at_call 252; refine (eqValue a.val _).mono ?_; rintro e w1 ⟨rfl, hb⟩)
  go_ret
  exact ⟨rfl, (((Grew.refl _).alloc _).alloc _).trans hb⟩
set_option maxRecDepth 100000 in
set_option maxHeartbeats 1000000 in
theorem eqAttrS (va vb : Value) (n : Nat) (xs : List At) (w : World) (ha : Rd w va 4 n (rows At.c xs)) (hb : Rd w vb 4 n (rows At.c xs)) (hx : n ≤ 4000000) :
    Calls Tryz.prog 231 #[va, vb] w fun e w' => e = .returned (.bool true) ∧ Grew w w' := by
  obtain ⟨a, ca, rfl, hca, hra⟩ := ha
  obtain ⟨b, cb, rfl, hcb, hrb⟩ := hb
  go_enter Tryz.func231, Tryz.ntmps231
  go_wp2
  go_loopw [5] (fun i wr => ∃ k : Nat, k ≤ n ∧ i = .int .i64 k ∧ Grew w wr) (fun i _ => n - (intOf i).toNat)
  case atStart => exact ⟨0, Nat.zero_le _, rfl, Grew.refl _⟩
  case round =>
    obtain ⟨k, hk, rfl, hbel⟩ := hrel
    by_cases hlt : k < n
    · obtain ⟨b1, o1, x, rfl, hxk, c0, c1, c2, c3⟩ := (hra.grew hbel).getAt hlt
      obtain ⟨b2, o2, y, rfl, hyk, d0, d1, d2, d3⟩ := (hrb.grew hbel).getAt hlt
      obtain rfl : x = y := by have := hxk.out.symm.trans hyk.out; simpa using this
      go_wp2
      go_still_tail 8, (by kernel_rfl)
      change wpList _ _ _ _ _ wr.drew
      have g2 : Grew wr wr.drew := (Grew.refl _).drew
      generalize wr.drew = w2 at g2
      go_wp2_with (go_at_call 251; refine (eqAttr x _).mono ?_; rintro e w1 ⟨rfl, hb⟩)
      go_roundw
      case rel => exact ⟨k + 1, by omega, by go_num, (hbel.trans g2).trans hb⟩
      case measure => simp [intOf]; omega
    · go_wp2
      go_ret
      exact ⟨rfl, hbel⟩
def mkAt (c : Int) : At := ⟨mtext (c), ⟨c + 1, c + 1 + 1, mtext (c + 1 + 1 + 1)⟩⟩
set_option maxRecDepth 100000 in
set_option maxHeartbeats 1000000 in
theorem markAttrS (va : Value) (n : Nat) (xs : List At) (k0 : Int) (w : World) (lo hi : Nat) (ha : Own w lo hi 165 4 va n (rows At.c xs)) (hx : n ≤ 4000000) (h0 : 0 ≤ k0) (h1 : k0 ≤ 3000000000000000) :
    Calls Tryz.prog 197 #[va, .int .i64 k0] w fun e w' => e = .returned (.int .i64 (k0 + (n : Int) * 4)) ∧ Own w' lo hi 165 4 va n (rows At.c ((List.range n).map fun (j : Nat) => mkAt (k0 + (j : Int) * 4))) ∧ Touch lo hi w w' := by
  rcases ha.cases with ⟨rfl, rfl, _⟩ | ⟨g, cap, rfl, hg1, hg2, hcap, hown⟩
  · go_enter Tryz.func197, Tryz.ntmps197
    go_wp2
    refine wp_loop_rounds 1 ?_
    rw [rounds_succ]
    go_wp2
    go_ret
    exact ⟨ret_int (by simp), ⟨⟨rfl, .inl ⟨rfl, rfl⟩⟩, fun b h => by cases h⟩, Touch.refl _ _ _⟩
  · have HX : Hid (xs.length = n) := Lib.hid (by have := hown.1; rw [rows_length At.len] at this; omega)
    have HO := Lib.hid ha
    clear ha
    go_enter Tryz.func197, Tryz.ntmps197
    go_wp2
    go_loopw [1, 5] (fun c i wr => ∃ k : Nat, k ≤ n ∧ i = .int .i64 k ∧ c = .int .i64 (k0 + (k : Int) * 4) ∧ Touch lo hi w wr ∧ wr.ownsRow g 165 4 (.slice (some ⟨g, 0, none⟩) n cap) n (rows At.c (((List.range k).map fun (j : Nat) => mkAt (k0 + (j : Int) * 4)) ++ xs.drop k))) (fun _ i _ => n - (intOf i).toNat)
    case atStart => exact ⟨0, Nat.zero_le _, rfl, by simp, Touch.refl _ _ _, by simpa using hown⟩
    case round =>
      obtain ⟨k, hk, rfl, rfl, hbel, hown⟩ := hrel
      by_cases hlt : k < n
      · have hf0 := fun j => hown.frozenAt j
        go_wp2_with fail
        refine (markText _ _ (by omega) (by omega)).mono ?_
        rintro e w1 ⟨rfl, hb1⟩
        have ho1 := ownsRow_grew hown hb1
        have hf1 := fun j => ho1.frozenAt j
        obtain ⟨u0, s0⟩ := own_some ho1 (k * 4) (by omega)
        obtain ⟨u1, s1⟩ := own_some ho1 (k * 4 + 1) (by omega)
        obtain ⟨u2, s2⟩ := own_some ho1 (k * 4 + 2) (by omega)
        go_wp2_with fail
        refine (markText _ _ (by omega) (by omega)).mono ?_
        rintro e w2 ⟨rfl, hb2⟩
        have ho2 := ownsRow_grew (ownsRow_stores (ownsRow_stores (ownsRow_stores ho1 (k * 4) (.string (mtext (k0 + (k : Int) * 4)))) (k * 4 + 1) (.int .i64 (k0 + (k : Int) * 4 + 1))) (k * 4 + 2) (.int .i64 (k0 + (k : Int) * 4 + 1 + 1))) hb2
        have hf2 := fun j => ho2.frozenAt j
        obtain ⟨u3, s3⟩ := own_some ho2 (k * 4 + 3) (by omega)
        go_wp2
        go_roundw
        case rel =>
          refine ⟨k + 1, by omega, by go_num, by go_num, ?_, ?_⟩
          · repeat' (first | with_reducible exact hbel | with_reducible refine Touch.setCell ?_ hg1 hg2 _  | with_reducible refine Touch.grew ?_ hb1 | with_reducible refine Touch.grew ?_ hb2)
          · have hst := (ownsRow_stores ho2 (k * 4 + 3) (.string (mtext (k0 + (k : Int) * 4 + 1 + 1 + 1))))
            have hl : k < (((List.range k).map fun (j : Nat) => mkAt (k0 + (j : Int) * 4)) ++ xs.drop k).length := by simp; have := HX.out; omega
            have hs := setsAt _ k hl (⟨mtext (k0 + (k : Int) * 4), ⟨k0 + (k : Int) * 4 + 1, k0 + (k : Int) * 4 + 1 + 1, mtext (k0 + (k : Int) * 4 + 1 + 1 + 1)⟩⟩ : At)
            rw [hs] at hst
            have hd : xs.drop k = xs[k]'(by have := HX.out; omega) :: xs.drop (k + 1) := by rw [List.getElem_cons_drop]
            rw [set_append_left _ _ k _ _ _ (by simp) hd] at hst
            rw [List.range_succ, List.map_append, List.map_cons, List.map_nil]
            exact hst
        case measure => simp [intOf]; omega
      · obtain rfl : k = n := by omega
        go_wp2
        go_ret
        refine ⟨rfl, ⟨?_, HO.out.2⟩, hbel⟩
        have := hown
        rw [List.drop_eq_nil_of_le (by have := HX.out; omega), List.append_nil] at this
        exact ownsRow_base this hg1
end Go.Proofs.YtejgpghcahinhaaGreat
namespace Go.Proofs.YtejgpghcahinhaaGreat
open Go.RowKit
set_option linter.unusedVariables false
def eqV (a b : V) : Bool := a.kind == b.kind && (a.int == b.int && a.str.toList == b.str.toList)
def eqN (a b : N) : Bool := a.op == b.op && (a.left == b.left && (a.right == b.right && (a.name.toList == b.name.toList && eqV a.val b.val)))
theorem runEqV0 (d : Nat) (a b : V) (w : World) : (Op.equalIn (d + 4) 157 a.v b.v).run Tryz.prog w = .ok (eqV a b) w := by
  have u3 := Tryz.underlying3
  have u9 := Tryz.underlying9
  have hS : Tryz.prog.underlying 157 = some (.struct (Tryz.prog.fieldsOf 157)) := by kernel_rfl
  have hp : Tryz.prog.stoodInHeld 157 = false := by kernel_rfl
  rw [run_equalIn_agg w (d + 3) 157 _ _ hS hp]
  simp only [Program.fieldsOf, Tryz.underlying157]
  go_simp
  by_cases h1 : a.kind = b.kind <;> by_cases h2 : a.int = b.int <;> by_cases h3 : a.str.toList = b.str.toList <;> simp [eqV, h1, h2, h3]
theorem runEqV (a b : V) (w : World) : (binOp .eql 157 a.v b.v).run Tryz.prog w = .ok (.bool (eqV a b)) w := by
  rw [run_eql_struct, show (10000 : Nat) = 9996 + 4 from rfl, runEqV0]; rfl
theorem runEqN (a b : N) (w : World) : (binOp .eql 159 a.v b.v).run Tryz.prog w = .ok (.bool (eqN a b)) w := by
  have u3 := Tryz.underlying3
  have u9 := Tryz.underlying9
  have hS : Tryz.prog.underlying 159 = some (.struct (Tryz.prog.fieldsOf 159)) := by kernel_rfl
  have hp : Tryz.prog.stoodInHeld 159 = false := by kernel_rfl
  rw [run_eql_struct, show (10000 : Nat) = 9999 + 1 from rfl, run_equalIn_agg w 9999 159 _ _ hS hp]
  simp only [Program.fieldsOf, Tryz.underlying159]
  go_simp
  unfold eqN eqV
  by_cases h1 : a.op = b.op <;> by_cases h2 : a.left = b.left <;> by_cases h3 : a.right = b.right <;> by_cases h4 : a.name.toList = b.name.toList <;> by_cases h5 : a.val.kind = b.val.kind <;> by_cases h6 : a.val.int = b.val.int <;> by_cases h7 : a.val.str.toList = b.val.str.toList <;> simp [h1, h2, h3, h4, h5, h6, h7]
def low (s : ByteArray) : Prop := ∀ i (h : i < s.size), (97 : Int) ≤ (s[i].toNat : Int) ∧ (s[i].toNat : Int) ≤ 122
noncomputable def lowB (s : ByteArray) : Bool := @decide (low s) (Classical.propDecidable _)
theorem lowB_true {s : ByteArray} (h : low s) : lowB s = true := by simp [lowB, h]
theorem lowB_false {s : ByteArray} (h : ¬ low s) : lowB s = false := by simp [lowB, h]
noncomputable def txtB (s : ByteArray) (m : Int) : Bool := lowB s && inB s.size 1 m
set_option maxRecDepth 100000 in
set_option maxHeartbeats 1000000 in
theorem l02Text (s : ByteArray) (m : Int) (w : World) (hs : s.size ≤ 4000000) :
    Calls Tryz.prog 169 #[.string s, .int .i64 m] w fun e w' => e = .returned (.bool (txtB s m)) ∧ w = w' := by
  go_enter Tryz.func169, Tryz.ntmps169
  go_wp2
  go_loop [5] (fun i => ∃ k : Nat, k ≤ s.size ∧ i = .int .i64 k ∧ Hid (∀ i (h : i < s.size), i < k → (97 : Int) ≤ (s[i].toNat : Int) ∧ (s[i].toNat : Int) ≤ 122)) (fun i => s.size - (intOf i).toNat)
  case atStart => exact ⟨0, Nat.zero_le _, rfl, fun i _ h => absurd h (by omega)⟩
  case round =>
    obtain ⟨k, hk, rfl, hl⟩ := hrel
    by_cases hlt : k < s.size
    · by_cases h1 : (s[k].toNat : Int) < 97
      · have HF := Lib.hid (lowB_false (s := s) (fun h => by have := (h k hlt).1; omega))
        go_wp2
        go_ret
        exact ⟨ret_bool (by unfold txtB; rw [HF.out]; rfl), rfl⟩
      · by_cases h2 : (122 : Int) < (s[k].toNat : Int)
        · have HF := Lib.hid (lowB_false (s := s) (fun h => by have := (h k hlt).2; omega))
          go_wp2
          go_ret
          exact ⟨ret_bool (by unfold txtB; rw [HF.out]; rfl), rfl⟩
        · go_wp2
          go_round
          case rel => exact ⟨k + 1, by omega, by go_num, fun i h hi => by
            by_cases e : i = k
            · subst e; omega
            · exact hl.out i h (by omega)⟩
          case measure => simp [intOf]; omega
    · obtain rfl : k = s.size := by omega
      have HT := Lib.hid (lowB_true (s := s) (fun i h => hl.out i h h))
      go_wp2_with (go_at_call 89; refine (l01In _ _ _ _).mono ?_; rintro e w' ⟨rfl, rfl⟩)
      go_ret
      exact ⟨ret_bool (by unfold txtB; rw [HT.out]; rfl), rfl⟩
set_option maxHeartbeats 400000 in
theorem specIsValidString (s : ByteArray) (w : World) (hs : s.size ≤ 4000000) :
    Calls Tryz.prog 105 #[.string s] w fun e w' => e = .returned (.bool (txtB s 6)) ∧ w = w' := by
  go_enter Tryz.func105, Tryz.ntmps105
  go_wp2_with (go_at_call 169; refine (l02Text s 6 _ hs).mono ?_; rintro e w' ⟨rfl, rfl⟩)
  go_ret
  exact ⟨rfl, rfl⟩
set_option maxHeartbeats 400000 in
theorem specIsValidAttrName (s : ByteArray) (w : World) (hs : s.size ≤ 4000000) :
    Calls Tryz.prog 155 #[.string s] w fun e w' => e = .returned (.bool (txtB s 1)) ∧ w = w' := by
  go_enter Tryz.func155, Tryz.ntmps155
  go_wp2_with (go_at_call 169; refine (l02Text s 1 _ hs).mono ?_; rintro e w' ⟨rfl, rfl⟩)
  go_ret
  exact ⟨rfl, rfl⟩
set_option maxRecDepth 100000 in
set_option maxHeartbeats 1000000 in
theorem implIsValidString (s : ByteArray) (w : World) (hs : s.size ≤ 4000000) :
    Calls Tryz.prog 159 #[.string s] w fun e w' => e = .returned (.bool (txtB s 6)) ∧ w = w' := by
  go_enter Tryz.func159, Tryz.ntmps159
  go_wp2
  go_loop [3, 6] (fun _ i => ∃ k : Nat, k ≤ s.size ∧ i = .int .i64 k ∧ Hid (∀ i (h : i < s.size), i < k → (97 : Int) ≤ (s[i].toNat : Int) ∧ (s[i].toNat : Int) ≤ 122)) (fun _ i => s.size - (intOf i).toNat)
  case atStart => exact ⟨0, Nat.zero_le _, rfl, fun i _ h => absurd h (by omega)⟩
  case round =>
    obtain ⟨k, hk, rfl, hl⟩ := hrel
    by_cases hlt : k < s.size
    · by_cases h1 : (s[k].toNat : Int) < 97
      · have HF := Lib.hid (lowB_false (s := s) (fun h => by have := (h k hlt).1; omega))
        go_wp2
        go_ret
        exact ⟨ret_bool (by unfold txtB; rw [HF.out]; rfl), rfl⟩
      · by_cases h2 : (122 : Int) < (s[k].toNat : Int)
        · have HF := Lib.hid (lowB_false (s := s) (fun h => by have := (h k hlt).2; omega))
          go_wp2
          go_ret
          exact ⟨ret_bool (by unfold txtB; rw [HF.out]; rfl), rfl⟩
        · go_wp2
          go_round
          case rel => exact ⟨k + 1, by omega, by go_num, fun i h hi => by
            by_cases e : i = k
            · subst e; omega
            · exact hl.out i h (by omega)⟩
          case measure => simp [intOf]; omega
    · obtain rfl : k = s.size := by omega
      have HT := Lib.hid (lowB_true (s := s) (fun i h => hl.out i h h))
      go_wp2_with (go_at_call 177; refine (within _ _ _ _).mono ?_; rintro e w' ⟨rfl, rfl⟩)
      go_ret
      exact ⟨ret_bool (by unfold txtB; rw [HT.out]; rfl), rfl⟩
set_option maxHeartbeats 1000000 in
theorem implIsValidAttrName (s : ByteArray) (w : World) (hs : s.size ≤ 4000000) :
    Calls Tryz.prog 220 #[.string s] w fun e w' => e = .returned (.bool (txtB s 1)) ∧ w = w' := by
  by_cases h1 : s.size = 1
  · have hp : 0 < s.size := by omega
    have hpi : (0 : Int) < (s.size : Int) := by omega
    have hq : ((s.size : Int) == 1) = true := by simp; omega
    have key : txtB s 1 = (decide ((97 : Int) ≤ (s[0].toNat : Int)) && decide ((s[0].toNat : Int) ≤ 122)) := by
      by_cases hl : low s
      · have := hl 0 hp
        rw [txtB, lowB_true hl]; simp [inB, h1]; omega
      · rw [txtB, lowB_false hl]
        have : ¬ ((97 : Int) ≤ (s[0].toNat : Int) ∧ (s[0].toNat : Int) ≤ 122) := fun h => hl (fun i hi => by
          obtain rfl : i = 0 := by omega
          exact h)
        simp; omega
    have HK := Lib.hid key
    clear key h1
    by_cases a1 : (97 : Int) ≤ (s[0].toNat : Int)
    · by_cases a2 : (s[0].toNat : Int) ≤ 122
      · go_enter Tryz.func220, Tryz.ntmps220
        go_wp2
        go_ret
        exact ⟨ret_bool (by rw [HK.out]; simp [a1, a2]), rfl⟩
      · go_enter Tryz.func220, Tryz.ntmps220
        go_wp2
        go_ret
        exact ⟨ret_bool (by rw [HK.out]; simp [a2]), rfl⟩
    · have A1 := Lib.hid a1
      go_enter Tryz.func220, Tryz.ntmps220
      go_wp2
      go_ret
      exact ⟨ret_bool (by rw [HK.out, decide_eq_false (by have := A1.out; omega)]; rfl), rfl⟩
  · have hq : ((s.size : Int) == 1) = false := by simp; omega
    have HK := Lib.hid (show txtB s 1 = false by unfold txtB inB; simp; omega)
    clear h1
    go_enter Tryz.func220, Tryz.ntmps220
    go_wp2
    go_ret
    exact ⟨ret_bool HK.out.symm, rfl⟩
noncomputable def valB (v : V) : Bool := if v.kind == 0 then eqV v V.z else if v.kind == 1 then inB v.int 0 999 && v.str.toList.isEmpty else if v.kind == 2 then txtB v.str 6 && v.int == 0 else false
set_option maxHeartbeats 1000000 in
theorem specIsValidValue (v : V) (w : World) (hs : v.str.size ≤ 4000000) :
    Calls Tryz.prog 206 #[v.v] w fun e w' => e = .returned (.bool (valB v)) ∧ Grew w w' := by
  have hE := fun w => runEqV v V.z w
  simp only [V.z] at hE
  go_enter Tryz.func206, Tryz.ntmps206
  go_wp2_with (first | (go_at_call 89; refine (l01In _ _ _ _).mono ?_; rintro e w' ⟨rfl, rfl⟩) | (go_at_call 105; refine (specIsValidString _ _ hs).mono ?_; rintro e w' ⟨rfl, rfl⟩))
  all_goals go_ret
  all_goals refine ⟨ret_bool ?_, (Grew.refl _).alloc _⟩
  all_goals go_light
  all_goals simp [valB, V.z, *]
set_option maxHeartbeats 1000000 in
theorem implIsValidValue (v : V) (w : World) (hs : v.str.size ≤ 4000000) :
    Calls Tryz.prog 240 #[v.v] w fun e w' => e = .returned (.bool (valB v)) ∧ Grew w w' := by
  have hE := fun w => runEqV v V.z w
  simp only [V.z] at hE
  go_enter Tryz.func240, Tryz.ntmps240
  go_wp2_with (first | (go_at_call 177; refine (within _ _ _ _).mono ?_; rintro e w' ⟨rfl, rfl⟩) | (go_at_call 159; refine (implIsValidString _ _ hs).mono ?_; rintro e w' ⟨rfl, rfl⟩))
  all_goals go_ret
  all_goals refine ⟨ret_bool ?_, (Grew.refl _).alloc _⟩
  all_goals go_light
  all_goals simp [valB, V.z, *]
noncomputable def nodB (n : N) (at_ m : Int) : Bool :=
  if n.op == 1 then eqN n ⟨n.op, 0, 0, ⟨#[]⟩, V.z⟩
  else if n.op == 2 then txtB n.name 1 && eqN n ⟨n.op, 0, 0, n.name, V.z⟩
  else if n.op == 3 then txtB n.name 1 && (valB n.val && (!(n.val.kind == 0) && (n.left == 0 && n.right == 0)))
  else if n.op == 4 then txtB n.name 1 && (valB n.val && (n.val.kind == 1 && (n.left == 0 && n.right == 0)))
  else if n.op == 5 then (inB n.left 0 m && decide (0 < at_)) && (n.right == 0 && (n.name.toList.isEmpty && eqV n.val V.z))
  else if n.op == 6 || n.op == 7 then (inB n.left 0 m && decide (0 < at_)) && (inB n.right 0 m && (n.name.toList.isEmpty && eqV n.val V.z))
  else if n.op == 8 || n.op == 9 then txtB n.name 6 && eqN n ⟨n.op, 0, 0, n.name, V.z⟩
  else false
noncomputable def nodK (n : N) (kb tb : Bool) : Bool :=
  if n.op == 1 then eqN n ⟨n.op, 0, 0, ⟨#[]⟩, V.z⟩
  else if n.op == 2 then txtB n.name 1 && eqN n ⟨n.op, 0, 0, n.name, V.z⟩
  else if n.op == 3 then txtB n.name 1 && (valB n.val && (!(n.val.kind == 0) && (n.left == 0 && n.right == 0)))
  else if n.op == 4 then txtB n.name 1 && (valB n.val && (n.val.kind == 1 && (n.left == 0 && n.right == 0)))
  else if n.op == 5 then kb && (n.right == 0 && (n.name.toList.isEmpty && eqV n.val V.z))
  else if n.op == 6 || n.op == 7 then tb && (n.name.toList.isEmpty && eqV n.val V.z)
  else if n.op == 8 || n.op == 9 then txtB n.name 6 && eqN n ⟨n.op, 0, 0, n.name, V.z⟩
  else false
theorem nodB_k (n : N) (at_ m : Int) (kb tb : Bool) (hk : kb = (inB n.left 0 m && decide (0 < at_))) (ht : tb = (kb && inB n.right 0 m)) : nodB n at_ m = nodK n kb tb := by
  subst ht; subst hk
  unfold nodB nodK
  simp only [Bool.and_assoc]
set_option maxRecDepth 100000 in
set_option maxHeartbeats 4000000 in
theorem specIsValidNode (n : N) (at_ : Int) (w : World) (hs : n.name.size ≤ 4000000) (hv : n.val.str.size ≤ 4000000) :
    Calls Tryz.prog 170 #[n.v, .int .i64 at_] w fun e w' => e = .returned (.bool (nodB n at_ (wrap64 (at_ - 1)))) ∧ Grew w w' := by
  obtain ⟨op, l, r, nm, v⟩ := n
  simp only at hs hv
  have hE := fun o w => runEqN ⟨o, l, r, nm, v⟩ ⟨o, 0, 0, ⟨#[]⟩, V.z⟩ w
  have hF := fun o w => runEqN ⟨o, l, r, nm, v⟩ ⟨o, 0, 0, nm, V.z⟩ w
  have hV := fun w => runEqV v V.z w
  simp only [V.z] at hV hE hF
  have hop : op = 1 ∨ op = 2 ∨ op = 3 ∨ op = 4 ∨ op = 5 ∨ op = 6 ∨ op = 7 ∨ op = 8 ∨ op = 9 ∨ ((op == 1) = false ∧ (op == 2) = false ∧ (op == 3) = false ∧ (op == 4) = false ∧ (op == 5) = false ∧ (op == 6) = false ∧ (op == 7) = false ∧ (op == 8) = false ∧ (op == 9) = false) := by
    simp only [beq_eq_false_iff_ne]; omega
  have HOP := Lib.hid hop
  clear hop
  go_enter Tryz.func170, Tryz.ntmps170
  go_upto_region 1 with fail
  go_cut [5] (fun s5 wc => ∃ kb : Bool, s5 = .bool kb ∧ Hid (kb = (inB l 0 (wrap64 (at_ - 1)) && decide (0 < at_))) ∧ wc = w.alloc (.cells #[.int .i64 op, .int .i64 l, .int .i64 r, .string nm, .int .i64 v.kind, .int .i64 v.int, .string v.str] 159))
  case first =>
    go_wp2_with (go_at_call 89; refine (l01In _ _ _ _).mono ?_; rintro e w' ⟨rfl, rfl⟩)
    all_goals go_meet
    all_goals refine ⟨_, rfl, ?_, rfl⟩
    all_goals go_light
    all_goals simp [Hid, *]
  case rest =>
    obtain ⟨kb, rfl, HK, rfl⟩ := hcut
    go_upto_region 2 with fail
    go_cut [5, 6] (fun s5 s6 wc => ∃ tb : Bool, s5 = .bool kb ∧ s6 = .bool tb ∧ Hid (tb = (kb && inB r 0 (wrap64 (at_ - 1)))) ∧ wc = w.alloc (.cells #[.int .i64 op, .int .i64 l, .int .i64 r, .string nm, .int .i64 v.kind, .int .i64 v.int, .string v.str] 159))
    case first =>
      cases kb
      all_goals go_wp2_with (go_at_call 89; refine (l01In _ _ _ _).mono ?_; rintro e w' ⟨rfl, rfl⟩)
      all_goals go_meet
      all_goals refine ⟨_, rfl, rfl, ?_, rfl⟩
      all_goals simp [Hid]
    case rest =>
      obtain ⟨tb, rfl, rfl, HT, rfl⟩ := hcut
      have HN := Lib.hid (nodB_k ⟨op, l, r, nm, v⟩ at_ _ kb tb HK.out HT.out)
      clear HK HT
      rcases HOP.out with rfl | rfl | rfl | rfl | rfl | rfl | rfl | rfl | rfl | ⟨p1, p2, p3, p4, p5, p6, p7, p8, p9⟩
      all_goals
        clear HOP
        go_wp2_with (first | (go_at_call 105; refine (specIsValidString _ _ hs).mono ?_; rintro e w' ⟨rfl, rfl⟩) | (go_at_call 155; refine (specIsValidAttrName _ _ hs).mono ?_; rintro e w' ⟨rfl, rfl⟩) | (go_at_call 206; refine (specIsValidValue _ _ hv).mono ?_; rintro e w1 ⟨rfl, hb⟩; obtain ⟨hc, hf⟩ := hb.cells))
        all_goals go_ret
        all_goals refine ⟨ret_bool ?_, ?_⟩
        all_goals first
          | (with_reducible exact (Grew.refl _).alloc _)
          | (with_reducible exact ((Grew.refl _).alloc _).trans (by assumption))
          | (rw [HN.out]; go_light; clear HN hE hF hV; (try clear hc hf hb); simp [nodK, V.z, bne, *])
end Go.Proofs.YtejgpghcahinhaaGreat
namespace Go.Proofs.YtejgpghcahinhaaGreat
open Go.RowKit
set_option linter.unusedVariables false
noncomputable def sameB {α : Type} (a b : α) : Bool := @decide (a = b) (Classical.propDecidable _)
theorem sameB_yes {α : Type} {a b : α} (h : a = b) : sameB a b = true := by simp [sameB, h]
theorem sameB_no {α : Type} {a b : α} (h : a ≠ b) : sameB a b = false := by simp [sameB, h]
theorem sameB_len {α : Type} {xs ys : List α} (h : xs.length ≠ ys.length) : sameB xs ys = false := sameB_no (fun e => h (by rw [e]))
theorem sameB_at {α : Type} {xs ys : List α} {k : Nat} {x y : α} (hx : xs[k]? = some x) (hy : ys[k]? = some y) (h : x ≠ y) : sameB xs ys = false :=
  sameB_no (fun e => h (by subst e; exact Option.some.inj (hx.symm.trans hy)))
theorem sameB_all {α : Type} {xs ys : List α} {n : Nat} (hx : xs.length = n) (hy : ys.length = n) (h : ∀ j, j < n → xs[j]? = ys[j]?) : sameB xs ys = true :=
  sameB_yes (List.ext_getElem? (fun j => by
    by_cases hj : j < n
    · exact h j hj
    · rw [List.getElem?_eq_none (by omega), List.getElem?_eq_none (by omega)]))
theorem same_snoc {α : Type} {xs ys : List α} {k : Nat} {x y : α} (h : ∀ j, j < k → xs[j]? = ys[j]?) (hx : xs[k]? = some x) (hy : ys[k]? = some y) (he : x = y) : ∀ j, j < k + 1 → xs[j]? = ys[j]? := fun j hj => by
  rcases Nat.lt_succ_iff_lt_or_eq.1 hj with h1 | rfl
  · exact h j h1
  · rw [hx, hy, he]
set_option maxRecDepth 100000 in
set_option maxHeartbeats 1000000 in
theorem l07Ints (va vb : Value) (n m : Nat) (xs ys : List Int) (w : World) (ha : Rd w va 1 n (ints xs)) (hb : Rd w vb 1 m (ints ys)) (hx : n ≤ 4000000) (hy : m ≤ 4000000) :
    Calls Tryz.prog 96 #[va, vb] w fun e w' => e = .returned (.bool (sameB xs ys)) ∧ Grew w w' := by
  obtain ⟨a, ca, rfl, hca, hra⟩ := ha
  obtain ⟨b, cb, rfl, hcb, hrb⟩ := hb
  have HX := Lib.hid hra.len_map
  have HY := Lib.hid hrb.len_map
  by_cases hnm : n = m
  · subst hnm
    go_enter Tryz.func96, Tryz.ntmps96
    go_wp2
    go_loopw [5] (fun i wr => ∃ k : Nat, k ≤ n ∧ i = .int .i64 k ∧ Hid (∀ j, j < k → xs[j]? = ys[j]?) ∧ Grew w wr) (fun i _ => n - (intOf i).toNat)
    case atStart => exact ⟨0, Nat.zero_le _, rfl, Lib.hid (fun j h => absurd h (Nat.not_lt_zero j)), Grew.refl _⟩
    case round =>
      obtain ⟨k, hk, rfl, hsame, hbel⟩ := hrel
      by_cases hlt : k < n
      · obtain ⟨b1, o1, x, rfl, hxk, e1⟩ := (hra.grew hbel).one hlt
        obtain ⟨b2, o2, y, rfl, hyk, e2⟩ := (hrb.grew hbel).one hlt
        by_cases he : x = y
        · subst he
          go_wp2
          go_quiet (fail)
          go_wp2
          go_roundw
          case rel => exact ⟨k + 1, by omega, by go_num, Lib.hid (same_snoc hsame.out hxk.out hyk.out rfl), hbel.drewN _⟩
          case measure => simp [intOf]; omega
        · have hq : (x == y) = false := by simp [he]
          have HE := Lib.hid he
          clear he
          go_wp2
          go_quiet (fail)
          go_wp2
          go_ret
          exact ⟨ret_bool (sameB_at hxk.out hyk.out HE.out).symm, hbel.drewN _⟩
      · go_wp2
        go_ret
        obtain rfl : k = n := by omega
        exact ⟨ret_bool (sameB_all HX.out HY.out hsame.out).symm, hbel⟩
  · go_enter Tryz.func96, Tryz.ntmps96
    go_wp2
    go_ret
    exact ⟨ret_bool (sameB_len (by rw [HX.out, HY.out]; exact hnm)).symm, Grew.refl _⟩
set_option maxRecDepth 100000 in
set_option maxHeartbeats 1000000 in
theorem slEqualInt (va vb : Value) (n m : Nat) (xs ys : List Int) (w : World) (ha : Rd w va 1 n (ints xs)) (hb : Rd w vb 1 m (ints ys)) (hx : n ≤ 4000000) (hy : m ≤ 4000000) :
    Calls Tryz.prog 114 #[va, vb] w fun e w' => e = .returned (.bool (sameB xs ys)) ∧ Grew w w' := by
  obtain ⟨a, ca, rfl, hca, hra⟩ := ha
  obtain ⟨b, cb, rfl, hcb, hrb⟩ := hb
  have HX := Lib.hid hra.len_map
  have HY := Lib.hid hrb.len_map
  by_cases hnm : n = m
  · subst hnm
    go_enter Tryz.func114, Tryz.ntmps114
    go_wp2
    go_loopw [5, 13] (fun _ i wr => ∃ k : Nat, k ≤ n ∧ i = .int .i64 k ∧ Hid (∀ j, j < k → xs[j]? = ys[j]?) ∧ Grew w wr) (fun _ i _ => n - (intOf i).toNat)
    case atStart => exact ⟨0, Nat.zero_le _, rfl, Lib.hid (fun j h => absurd h (Nat.not_lt_zero j)), Grew.refl _⟩
    case round =>
      obtain ⟨k, hk, rfl, hsame, hbel⟩ := hrel
      by_cases hlt : k < n
      · obtain ⟨b1, o1, x, rfl, hxk, e1⟩ := (hra.grew hbel).one hlt
        obtain ⟨b2, o2, y, rfl, hyk, e2⟩ := (hrb.grew hbel).one hlt
        by_cases he : x = y
        · subst he
          go_wp2
          go_quiet (fail)
          go_wp2
          go_roundw
          case rel => exact ⟨k + 1, by omega, by go_num, Lib.hid (same_snoc hsame.out hxk.out hyk.out rfl), hbel.drewN _⟩
          case measure => simp [intOf]; omega
        · have hq : (x == y) = false := by simp [he]
          have HE := Lib.hid he
          clear he
          go_wp2
          go_quiet (fail)
          go_wp2
          go_ret
          exact ⟨ret_bool (sameB_at hxk.out hyk.out HE.out).symm, hbel.drewN _⟩
      · go_wp2
        go_ret
        obtain rfl : k = n := by omega
        exact ⟨ret_bool (sameB_all HX.out HY.out hsame.out).symm, hbel⟩
  · go_enter Tryz.func114, Tryz.ntmps114
    go_wp2
    go_ret
    exact ⟨ret_bool (sameB_len (by rw [HX.out, HY.out]; exact hnm)).symm, Grew.refl _⟩
noncomputable def eqL {α : Type} (f : α → α → Bool) (xs ys : List α) : Bool := @decide (xs.length = ys.length ∧ ∀ (j : Nat) x y, xs[j]? = some x → ys[j]? = some y → f x y = true) (Classical.propDecidable _)
theorem eqL_len {α : Type} {f : α → α → Bool} {xs ys : List α} (h : xs.length ≠ ys.length) : eqL f xs ys = false := by
  have hn : ¬ (xs.length = ys.length ∧ ∀ (j : Nat) x y, xs[j]? = some x → ys[j]? = some y → f x y = true) := fun e => h e.1
  exact @decide_eq_false _ (Classical.propDecidable _) hn
theorem eqL_at {α : Type} {f : α → α → Bool} {xs ys : List α} {k : Nat} {x y : α} (hx : xs[k]? = some x) (hy : ys[k]? = some y) (h : f x y = false) : eqL f xs ys = false := by
  have hn : ¬ (xs.length = ys.length ∧ ∀ (j : Nat) x y, xs[j]? = some x → ys[j]? = some y → f x y = true) := fun e => by
    have := e.2 k x y hx hy; rw [h] at this; cases this
  exact @decide_eq_false _ (Classical.propDecidable _) hn
theorem eqL_all {α : Type} {f : α → α → Bool} {xs ys : List α} {n : Nat} (hx : xs.length = n) (hy : ys.length = n) (h : ∀ (j : Nat) x y, j < n → xs[j]? = some x → ys[j]? = some y → f x y = true) : eqL f xs ys = true := by
  have hn : (xs.length = ys.length ∧ ∀ (j : Nat) x y, xs[j]? = some x → ys[j]? = some y → f x y = true) := ⟨by omega, fun j x y h1 h2 => h j x y (by have := (List.getElem?_eq_some_iff.1 h1).1; omega) h1 h2⟩
  exact @decide_eq_true _ (Classical.propDecidable _) hn
theorem eqL_snoc {α : Type} {f : α → α → Bool} {xs ys : List α} {k : Nat} {x y : α} (h : ∀ (j : Nat) x y, j < k → xs[j]? = some x → ys[j]? = some y → f x y = true) (hx : xs[k]? = some x) (hy : ys[k]? = some y) (he : f x y = true) : ∀ (j : Nat) x y, j < k + 1 → xs[j]? = some x → ys[j]? = some y → f x y = true := fun j u v hj h1 h2 => by
  rcases Nat.lt_succ_iff_lt_or_eq.1 hj with h3 | rfl
  · exact h j u v h3 h1 h2
  · obtain rfl := Option.some.inj (hx.symm.trans h1); obtain rfl := Option.some.inj (hy.symm.trans h2); exact he
end Go.Proofs.YtejgpghcahinhaaGreat
