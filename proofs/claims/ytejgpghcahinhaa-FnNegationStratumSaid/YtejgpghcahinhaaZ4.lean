/- Contracts of DrawResultIDs, DrawContainsID, DrawEqualResults. -/
import Derived.Test.YtejgpghcahinhaaZ3
namespace Go.Proofs.Ytejgpghcahinhaa
open Go.RowKit
set_option linter.unusedVariables false
/-- The bytes of a draw. -/
def Cd (w : World) (v : Value) : Prop := ∃ (n : Nat) (bs : List Int), Rd w v 1 n (bs.map (Value.int .u8)) ∧ n ≤ 1048576
theorem Cd.grew {w w' : World} {v : Value} (h : Cd w v) (hg : Grew w w') : Cd w' v := by
  obtain ⟨n, bs, h1, h2⟩ := h
  exact ⟨n, bs, h1.grew hg, h2⟩
theorem D.out {g : Nat} {a b c : World} (h : Grew a b) (k : D g b c) (hl : a.heap.size ≤ g) : Grew a c := k.2.1.new h hl
theorem GLr.get {w : World} {base : Nat} {v : Value} {xs : List Rs} (h : GLr w base v xs) : ∃ a c ps, v = .slice a xs.length c ∧ w.ownsRow base 37 2 v xs.length (rows P2.c ps) ∧ All2 (Rs.O w base w.heap.size) xs ps := by
  obtain ⟨a, c, rfl⟩ := h.slice
  obtain ⟨ps, h1, h2⟩ := h
  exact ⟨a, c, ps, rfl, h1, h2⟩
set_option maxRecDepth 100000 in
set_option maxHeartbeats 1000000 in
theorem drawResultIDs (v : Value) (w : World) (hc : Cd w v) :
    Calls Try.prog 17 #[v] w fun e w' => ∃ u xs nm, e = .returned (.tuple #[u, .string nm]) ∧ ansOk xs ∧ nm.size ≤ 8 ∧ GLr w' w.heap.size u xs ∧ Grew w w' := by
  obtain ⟨n, bs, hr, hn⟩ := hc
  go_enter Try.func17, Try.ntmps17
  go_wp2_with fail
  refine (l01New v n bs _ hr hn).mono ?_
  rintro e w1 ⟨rfl, hc1, hg1, hs1⟩
  go_wp2_with fail
  refine (l14Answers _ _ hc1).mono ?_
  rintro e w2 ⟨u, xs, rfl, hok, hgl, hd⟩
  have HGL := Lib.hid hgl
  obtain ⟨ua, uc, rfl⟩ := hgl.slice
  clear hgl
  go_wp2_with fail
  refine (l11Name _ _ hd.cur).mono ?_
  rintro e w3 ⟨nm, rfl, hnm, hd2⟩
  go_wp2
  go_ret2
  exact ⟨_, xs, nm, rfl, hok, hnm, (HGL.out.d hd2 hs1).base hg1.size, D.out hg1 (hd.trans hd2) (Nat.le_refl _)⟩
set_option maxRecDepth 100000 in
set_option maxHeartbeats 1000000 in
theorem drawContainsID (v : Value) (w : World) (hc : Cd w v) :
    Calls Try.prog 18 #[v] w fun e w' => ∃ u xs x, e = .returned (.tuple #[u, .int .i64 x]) ∧ idsOk 8 xs ∧ w'.ownsRow w.heap.size 3 1 u xs.length (ints xs) ∧ Grew w w' := by
  obtain ⟨n, bs, hr, hn⟩ := hc
  go_enter Try.func18, Try.ntmps18
  go_wp2_with fail
  refine (l01New v n bs _ hr hn).mono ?_
  rintro e w1 ⟨rfl, hc1, hg1, hs1⟩
  go_wp2_with fail
  refine (l14Ids _ _ hc1).mono ?_
  rintro e w2 ⟨u, xs, rfl, hok, hgl, hd⟩
  have HGL := Lib.hid hgl
  obtain ⟨ua, uc, rfl⟩ := own_slice hgl
  clear hgl
  go_wp2_with fail
  refine (l05Id _ _ hd.cur).mono ?_
  rintro e w3 ⟨x, rfl, hd2⟩
  go_wp2
  go_ret2
  exact ⟨_, xs, x, rfl, hok, ownsRow_base (hd2.own HGL.out hs1) hg1.size, D.out hg1 (hd.trans hd2) (Nat.le_refl _)⟩
theorem one_p2 {w : World} {lo hi : Nat} {xs : List Rs} {ps : List P2} (h : All2 (Rs.O w lo hi) xs ps) : ∀ u ∈ rows P2.c ps, u.oneCell' = true := by
  intro u hu
  obtain ⟨l, hl, hul⟩ := List.mem_flatten.1 hu
  obtain ⟨p, hp, rfl⟩ := List.mem_map.1 hl
  obtain ⟨i, hi⟩ := List.getElem?_of_mem hp
  obtain ⟨x, hx, hr⟩ := h.get hi
  obtain ⟨a, c, hq⟩ := own_slice hr.2.1
  simp [P2.c] at hul
  rcases hul with rfl | rfl
  · rfl
  · rw [hq]; rfl
set_option maxRecDepth 100000 in
set_option maxHeartbeats 1000000 in
theorem drawEqualResults (v : Value) (w : World) (hc : Cd w v) :
    Calls Try.prog 19 #[v] w fun e w' => ∃ u t, e = .returned (.tuple #[u, t]) ∧ (∃ xs, ansOk xs ∧ GLr w' w.heap.size u xs) ∧ (∃ ys, ansOk ys ∧ GLr w' w.heap.size t ys) ∧ Grew w w' := by
  obtain ⟨n, bs, hr, hn⟩ := hc
  obtain ⟨i0, hi, hz0, hz1, hz2⟩ := info_parts Try.infoRs
  go_enter Try.func19, Try.ntmps19
  go_wp2_with fail
  refine (l01New v n bs _ hr hn).mono ?_
  rintro e w1 ⟨rfl, hc1, hg1, hs1⟩
  go_wp2_with fail
  refine (l14Answers _ _ hc1).mono ?_
  rintro e w2 ⟨u, xs, rfl, hok, hgl, hd⟩
  have HGL := Lib.hid hgl
  obtain ⟨ua, uc, ps, rfl, ho, hall⟩ := hgl.get
  have hlen := hok.1
  have HOK := Lib.hid hok
  clear hok hgl
  cases ua with
  | none =>
    have h0 : xs.length = 0 := by
      rcases ho.2 with ⟨h, h2⟩ | ⟨g, cap, cur, h, _⟩
      · exact h2
      · cases h
    have h1 : xs = [] := List.length_eq_zero_iff.1 h0
    subst h1
    go_wp2
    go_ret2
    exact ⟨_, _, rfl, ⟨[], HOK.out, (HGL.out.grew ((Grew.refl _).alloc _)).base hg1.size⟩, ⟨[], HOK.out, [], ownsRow_base (lit_own w2 37 2) (by have := hg1.size; have := hd.size; omega), All2.nil⟩, (D.out hg1 hd (Nat.le_refl _)).alloc _⟩
  | some ua =>
    have HN := Lib.hid (rd_of_own ho)
    have HALL := Lib.hid hall
    have HL := Lib.hid ho.1
    have hra : RdA w2 (some ua) 2 xs.length (rows P2.c ps) := by
      obtain ⟨a, c, h1, h2, h3⟩ := HN.out
      cases h1; exact h3
    have HRA := Lib.hid hra
    clear hra hall ho
    have hcu := hd.cur.lt
    go_wp2_with (at_builtin; refine wpList_append_own _ rfl _ _ 24 rfl w2.heap.size 37 i0 _ 2 40 Try.underlying24 hi hz0 hz1 hz2 rfl (by decide) _ 0 [] rfl (lit_own _ _ 2) ua xs.length uc (rows P2.c ps) rfl HL.out (rd_news HRA.out ((Grew.refl w2).alloc _)) (one_p2 HALL.out) (by unfold maxLen; omega) (by omega) (by simp) ?_)
    intro v' w4 hown' hgr2 _
    have hd24 : D w.heap.size w2 w4 := ((D.refl hd.cur).alloc _).grown hgr2 (fun j h => by cases h; exact Nat.le_refl _)
    have hd4 : D w.heap.size w1 w4 := (hd.alloc _).grown hgr2 (fun j h => by cases h; have := hd.size; omega)
    have hg4 : Grew w2 w4 := ((Grew.refl w2).alloc (.cells #[] 37)).grown hgr2 (fun j h => by cases h; exact Nat.le_refl _)
    have HB : Hid (w4.ownsRow w2.heap.size 37 2 v' xs.length (rows P2.c ps)) := by simpa using Lib.hid hown'
    have HA4 := Lib.hid (HALL.out.mono fun x p h => (h.grew hg4).mono (Nat.le_refl _) hg4.size)
    have HU := Lib.hid (HGL.out.grew hg4)
    clear hown' hgr2
    obtain ⟨ba, bc, rfl⟩ := own_slice HB.out
    have hs2 : w1.heap.size ≤ w2.heap.size := hd.size
    have HY := Lib.hid (show GLr w4 w1.heap.size (.slice ba xs.length bc) xs from ⟨ps, ownsRow_base HB.out hs2, HA4.out⟩)
    by_cases hpos : 0 < xs.length
    · go_wp2_with fail
      refine (l01Once _ _ hd4.cur 2 (by decide) (by decide)).mono ?_
      rintro e w5 ⟨b, rfl, hd5⟩
      have HU5 := Lib.hid (HU.out.d hd5 hs1)
      have HY5 := Lib.hid (HY.out.d hd5 hs1)
      cases b
      · go_wp2
        go_ret2
        exact ⟨_, _, rfl, ⟨_, HOK.out, HU5.out.base hg1.size⟩, ⟨_, HOK.out, HY5.out.base hg1.size⟩, D.out hg1 (hd4.trans hd5) (Nat.le_refl _)⟩
      · have HB5 := Lib.hid (hd5.own HB.out (by omega))
        have HA5 := Lib.hid (HA4.out.mono fun x p h => (h.touch hd5.2.1 (.inr hs1)).mono (Nat.le_refl _) hd5.size)
        obtain ⟨gb, rfl⟩ : ∃ gb, ba = some ⟨gb, 0, none⟩ := by
          rcases HB5.out.2 with ⟨h, h2⟩ | ⟨g, cap, cur, h, _⟩
          · omega
          · cases h; exact ⟨g, rfl⟩
        have hgb := (HB5.out.lt gb rfl)
        obtain ⟨p, hpk, c0, c1⟩ := ownP2 HB5.out hpos
        obtain ⟨x, hxk, hxr⟩ := HA5.out.get hpk.out
        have HXR := Lib.hid hxr
        have hf := HB5.out.frozenAt
        have hnx : p.name.size ≤ 8 := by rw [hxr.1]; exact (HOK.out.2 x (List.mem_of_getElem? hxk.out)).1
        simp only [Nat.zero_mul, Nat.zero_add] at c0 c1
        have hd6 := hd4.trans hd5
        have hne : gb ≠ w.heap.size := by omega
        clear hxr
        have hp0 : (0 : Int) < (xs.length : Int) := by omega
        go_wp2_with fail
        refine wp_region_noPanic ?_
        refine wp_region_held_drew (S := (fun w' => (w'.cell? ⟨gb, 0, none⟩ = some (.string p.name) ∧ (w'.cell? ⟨gb, 1, none⟩).isSome = true ∧ w'.frozen? ⟨gb, 0, none⟩ = false ∧ w'.frozen? ⟨gb, 1, none⟩ = false ∧ D w.heap.size w2 w'))) (by kernel_rfl) ?h1_S ?h1_r
        case h1_S => exact ⟨c0, by rw [show w5.drew.cell? ⟨gb, 1, none⟩ = w5.cell? ⟨gb, 1, none⟩ from rfl, c1]; rfl, hf 0, hf 1, (hd24.trans hd5).drew⟩
        case h1_r =>
          intro HS
          first
            | refine sk 0 rfl (by kernel_rfl) rfl HS ?_
            | (refine tk (v := ?v1_0) 0 rfl (by kernel_rfl) rfl ?y1_0 HS ?_; case y1_0 => (intro w' hSw; (try dsimp only at hSw); go_simp <;> (with_reducible rfl)))
          try simp only [Act.put, List.setIfInBounds_toArray, List.set_cons_zero, List.set_cons_succ]
          first
            | refine sk 1 rfl (by kernel_rfl) rfl HS ?_
            | (refine tk (v := ?v1_1) 1 rfl (by kernel_rfl) rfl ?y1_1 HS ?_; case y1_1 => (intro w' hSw; (try dsimp only at hSw); go_simp <;> (with_reducible rfl)))
          try simp only [Act.put, List.setIfInBounds_toArray, List.set_cons_zero, List.set_cons_succ]
          first
            | refine sk 2 rfl (by kernel_rfl) rfl HS ?_
            | (refine tk (v := ?v1_2) 2 rfl (by kernel_rfl) rfl ?y1_2 HS ?_; case y1_2 => (intro w' hSw; (try dsimp only at hSw); go_simp <;> (with_reducible rfl)))
          try simp only [Act.put, List.setIfInBounds_toArray, List.set_cons_zero, List.set_cons_succ]
          first
            | refine sk 3 rfl (by kernel_rfl) rfl HS ?_
            | (refine tk (v := ?v1_3) 3 rfl (by kernel_rfl) rfl ?y1_3 HS ?_; case y1_3 => (intro w' hSw; (try dsimp only at hSw); go_simp <;> (with_reducible rfl)))
          try simp only [Act.put, List.setIfInBounds_toArray, List.set_cons_zero, List.set_cons_succ]
          first
            | refine sk 4 rfl (by kernel_rfl) rfl HS ?_
            | (refine tk (v := ?v1_4) 4 rfl (by kernel_rfl) rfl ?y1_4 HS ?_; case y1_4 => (intro w' hSw; (try dsimp only at hSw); go_simp <;> (with_reducible rfl)))
          try simp only [Act.put, List.setIfInBounds_toArray, List.set_cons_zero, List.set_cons_succ]
          first
            | refine sk 5 rfl (by kernel_rfl) rfl HS ?_
            | (refine tk (v := ?v1_5) 5 rfl (by kernel_rfl) rfl ?y1_5 HS ?_; case y1_5 => (intro w' hSw; (try dsimp only at hSw); go_simp <;> (with_reducible rfl)))
          try simp only [Act.put, List.setIfInBounds_toArray, List.set_cons_zero, List.set_cons_succ]
          refine cl 6 rfl (by kernel_rfl) (fun K hK => ?_)
          go_simp
          go_at_call 118
          refine (l14Ids _ _ HS.2.2.2.2.cur).mono ?_
          rintro e w6 ⟨v6, zs, rfl, hzs, hv6, hd7⟩
          have HV6 := Lib.hid hv6
          have HZ := Lib.hid hzs
          obtain ⟨za, zc, rfl⟩ := own_slice hv6
          clear hv6 hzs
          have hs5 := HS.2.2.2.2.size
          have h2b := lt_of_cell HS.1
          refine hK.out _ _ ?s1_6 ?r1_6
          case s1_6 => (try dsimp only); (obtain ⟨u1, hu1⟩ := Option.isSome_iff_exists.1 HS.2.1; exact ⟨hd7.cell HS.1 hne, by rw [hd7.cell hu1 hne]; rfl, hd7.frozen h2b HS.2.2.1 hne, hd7.frozen h2b HS.2.2.2.1 hne, HS.2.2.2.2.trans hd7⟩)
          case r1_6 =>
            clear HS
            intro HS
            clear hK K
            try simp only [Act.put, List.setIfInBounds_toArray, List.set_cons_zero, List.set_cons_succ]
            first
              | refine sk 7 rfl (by kernel_rfl) rfl HS ?_
              | (refine tk (v := ?v1_7) 7 rfl (by kernel_rfl) rfl ?y1_7 HS ?_; case y1_7 => (intro w' hSw; (try dsimp only at hSw); go_simp <;> (with_reducible rfl)))
            try simp only [Act.put, List.setIfInBounds_toArray, List.set_cons_zero, List.set_cons_succ]
            first
              | refine sk 8 rfl (by kernel_rfl) rfl HS ?_
              | (refine tk (v := ?v1_8) 8 rfl (by kernel_rfl) rfl ?y1_8 HS ?_; case y1_8 => (intro w' hSw; (try dsimp only at hSw); go_simp <;> (with_reducible rfl)))
            try simp only [Act.put, List.setIfInBounds_toArray, List.set_cons_zero, List.set_cons_succ]
            refine cl 9 rfl (by kernel_rfl) (fun K hK => ?_)
            rw [if_pos (by rfl)]
            obtain ⟨u1, hu1⟩ := Option.isSome_iff_exists.1 HS.2.1
            have hu0 := HS.1
            have hf0 := HS.2.2.1
            have hf1 := HS.2.2.2.1
            go_simp
            refine hK.out _ _ ?s1_9 ?r1_9
            case s1_9 => exact ⟨by simp [go_sem, hu0], by simp [go_sem, hu1], by simp [go_sem, hf0], by simp [go_sem, hf1], (HS.2.2.2.2.setCell (by dsimp only; omega) _).setCell (by dsimp only; omega) _⟩
            case r1_9 =>
              clear HS
              intro HS
              clear hK K
              try simp only [Act.put, List.setIfInBounds_toArray, List.set_cons_zero, List.set_cons_succ]
              refine wpAnyH_done (by kernel_rfl) ?_ _
              refine NoPanic.normal ?_
              have hDW := HS.2.2.2.2
              clear HS
              go_wp2
              go_ret2
              refine ⟨_, _, rfl, ⟨xs, HOK.out, (HGL.out.d hDW hs1).base hg1.size⟩, ⟨xs.set 0 ⟨x.name, zs⟩, ⟨by simp; omega, fun y hy => ?_⟩, ?_⟩, D.out hg1 (hd.trans hDW) (Nat.le_refl _)⟩
              · rcases List.mem_or_eq_of_mem_set hy with hy | rfl
                · exact HOK.out.2 y hy
                · exact ⟨by have := (HOK.out.2 x (List.mem_of_getElem? hxk.out)).1; exact this, HZ.out⟩
              · refine ⟨ps.set 0 ⟨p.name, .slice za zs.length zc⟩, ?_, ?_⟩
                · have h1 := storeP2 (hd7.own (ownsRow_grew HB5.out (Grew.refl _).drew) (by omega)) hpos ⟨p.name, .slice za zs.length zc⟩
                  rw [Nat.zero_mul, Nat.zero_add] at h1
                  rw [List.length_set]
                  exact ownsRow_base h1 (by have := hg1.size; omega)
                · have h1 : All2 (Rs.O ((w6.setCell ⟨gb, 0, none⟩ (.string p.name)).setCell ⟨gb, 1, none⟩ (.slice za zs.length zc)) w.heap.size (((w6.setCell ⟨gb, 0, none⟩ (.string p.name)).setCell ⟨gb, 1, none⟩ (.slice za zs.length zc))).heap.size) xs ps := HALL.out.mono fun y q h => (h.touch hDW.2.1 (.inr hs1)).mono hg1.size hDW.size
                  refine h1.set 0 _ _ ⟨HXR.out.1, ?_⟩
                  have h2 := ownsRow_setCell_below (ownsRow_setCell_below HV6.out (a := ⟨gb, 0, none⟩) (by dsimp only; omega) (.string p.name)) (a := ⟨gb, 1, none⟩) (by dsimp only; omega) (.slice za zs.length zc)
                  exact (own_of h2).mono (by have := hd6.size; have := hg1.size; omega) (Nat.le_refl _)
    · have h1 : xs = [] := List.length_eq_zero_iff.1 (by omega)
      subst h1
      clear hpos
      go_wp2
      go_ret2
      exact ⟨_, _, rfl, ⟨_, HOK.out, HU.out.base hg1.size⟩, ⟨_, HOK.out, HY.out.base hg1.size⟩, D.out hg1 hd4 (Nat.le_refl _)⟩
end Go.Proofs.Ytejgpghcahinhaa
