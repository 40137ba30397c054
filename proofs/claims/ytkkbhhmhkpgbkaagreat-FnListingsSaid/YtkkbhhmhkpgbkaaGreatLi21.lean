/- Texts Z24, as far as they are needed. -/
import Derived.Test.YtkkbhhmhkpgbkaaGreatLi20
import Derived.Test.YtkkbhhmhkpgbkaaGreatLi8
import Derived.Test.YtkkbhhmhkpgbkaaGreatLi7
namespace Go.Proofs.YtkkbhhmhkpgbkaaGreat
open Go.RowKit
set_option linter.unusedVariables false
set_option linter.unusedSimpArgs false
structure Ev (w : World) (base : Nat) (p : PS) (v : Value) (s : St) (d : List Dr) : Prop where
  so : stOk 12 s
  dk : dirsOk 6 d
  st : StG w base s p
  dl : GLd w base v d
theorem Ev.tch {w w' : World} {base a b : Nat} {p : PS} {v : Value} {s : St} {d : List Dr} (h : Ev w base p v s d) (ht : Touch a b w w') (hb : b ≤ base) : Ev w' base p v s d := ⟨h.so, h.dk, h.st.tch ht hb, h.dl.tch ht hb⟩
theorem Ev.grew {w w' : World} {base : Nat} {p : PS} {v : Value} {s : St} {d : List Dr} (h : Ev w base p v s d) (hg : Grew w w') : Ev w' base p v s d := h.tch (hg.touch 0 0) (Nat.zero_le _)
theorem Ev.base {w : World} {b base : Nat} {p : PS} {v : Value} {s : St} {d : List Dr} (h : Ev w base p v s d) (hb : b ≤ base) : Ev w b p v s d := ⟨h.so, h.dk, h.st.base hb, h.dl.base hb⟩
theorem Ev.shapes {w : World} {base : Nat} {p : PS} {v : Value} {s : St} {d : List Dr} (h : Ev w base p v s d) : ∃ qa qc ra rc a c, p = ⟨.slice qa s.schema.length qc, .slice ra s.files.length rc, s.next⟩ ∧ v = .slice a d.length c := by
  obtain ⟨qa, qc, ra, rc, e1⟩ := h.st.slices
  obtain ⟨a, c, e2⟩ := GL.slice h.dl
  exact ⟨qa, qc, ra, rc, a, c, e1, e2⟩
theorem dirsOk.up {n m : Nat} {xs : List Dr} (h : dirsOk n xs) (hn : n ≤ m) : dirsOk m xs := ⟨Nat.le_trans h.1 hn, h.2⟩
set_option maxRecDepth 100000 in
set_option maxHeartbeats 8000000 in
theorem l15Case (g : Nat) (w : World) (hc : Cur w g) :
    Calls Tryz.prog 53 #[.pointer (some ⟨g, 0, none⟩)] w fun e w' => ∃ (p : PS) (v : Value), e = .returned (.tuple #[p.v, v]) ∧ ∃ s d, stOk 12 s ∧ dirsOk 6 d ∧ StG w' w.heap.size s p ∧ GLd w' w.heap.size v d ∧ D g w w' := by
  have hl := hc.lt
  have hne : w.heap.size ≠ g := by omega
  have B0 := Box.new w #[.slice none 0 0, .slice none 0 0, .int .i64 0] 27 3 rfl
  have d0 := (D.refl hc).alloc (.cells #[.slice none 0 0, .slice none 0 0, .int .i64 0] 27)
  have hs0 : (w.alloc (.cells #[.slice none 0 0, .slice none 0 0, .int .i64 0] 27)).heap.size = w.heap.size + 1 := by simp
  go_enter Tryz.func53, Tryz.ntmps53
  go_wp2_with fail
  refine (l05Store g _ d0.cur).mono ?_
  rintro e w2 ⟨p, rfl, s, hmd, hst, e1⟩
  have d2 := d0.trans e1
  have B2 := B0.d e1 hne
  rw [hs0] at hst
  obtain ⟨xa, xc, ya, yc, hp⟩ := hst.slices
  subst hp
  have SB := SBox.new d2 B2 hst
  have HOK := Lib.hid (hmd.2.2.2.mono (by decide : 7 ≤ 12))
  dsimp only at SB
  clear hst B0 B2 d0 d2 e1 hs0 hmd
  obtain ⟨m1, hm1⟩ : ∃ m, s.schema.length = m := ⟨_, rfl⟩
  obtain ⟨k, hk⟩ : ∃ m, s.files.length = m := ⟨_, rfl⟩
  obtain ⟨n1, hn1⟩ : ∃ m, s.next = m := ⟨_, rfl⟩
  rw [hm1, hk, hn1] at SB ⊢
  clear hm1 hk hn1
  go_wp2_with fail
  obtain ⟨ob, hob⟩ : ∃ x, w2.heap.size = x := ⟨_, rfl⟩
  generalize w2.alloc (.cells #[.slice xa m1 xc, .slice ya k yc, .int .i64 n1] 27) = W at SB ⊢
  rw [hob] at SB ⊢
  clear hob
  refine (l01Once g _ SB.cur 12 (by decide) (by decide)).mono ?_
  rintro e w3 ⟨b, rfl, e3⟩
  have F3 := Lib.hid (SB.step e3)
  clear SB e3
  go_upto_if 8 with fail
  go_cut [] (fun wc => ∃ (s : St) (p : PS), Hid (stOk 12 s) ∧ Hid (SBox w wc g ob s p))
  case first =>
    cases b
    · go_wp2
      go_meet
      exact ⟨s, _, HOK, F3⟩
    · go_wp2_with fail
      refine (l05Any g _ F3.out.cur).mono ?_
      rintro e w4 ⟨p', rfl, s', hok', hst', e4⟩
      have F5 := F3.out.step e4
      obtain ⟨za, zc, va, vc, rfl⟩ := hst'.slices
      have hw3 := F3.out.bx.1
      have FP := Lib.hid (F5.put hst' (by omega))
      have HOK' := Lib.hid hok'
      obtain ⟨c0, c1, c2, z⟩ := F5.cs
      dsimp only at c0 c1 c2
      unfold World.put3 at FP
      clear F5 F3 e4 hst' hok' HOK
      go_wp2
      go_meet
      exact ⟨s', _, HOK', FP⟩
  case rest =>
    clear HOK F3
    obtain ⟨s, p, HOK, F⟩ := hcut
    obtain ⟨xa, xc, ya, yc, hp⟩ := F.out.st.slices
    subst hp
    obtain ⟨m1, hm1⟩ : ∃ m, s.schema.length = m := ⟨_, rfl⟩
    obtain ⟨k, hk⟩ : ∃ m, s.files.length = m := ⟨_, rfl⟩
    obtain ⟨n1, hn1⟩ : ∃ m, s.next = m := ⟨_, rfl⟩
    rw [hm1, hk, hn1] at F
    clear hm1 hk hn1
    go_wp2_with fail
    refine (l01Once g _ F.out.cur 5 (by decide) (by decide)).mono ?_
    rintro e w4 ⟨b, rfl, e4⟩
    have F3 := Lib.hid (F.out.step e4)
    have FD := Lib.hid (F3.out.grew (Grew.refl _).drew)
    clear F e4
    cases b
    · go_wp2_with fail
      refine wp_region_noPanic ?_
      refine wp_region_T 3 (fun w' => (w'.cell? ⟨ob, 0, none⟩ = some (.slice xa m1 xc) ∧ w'.cell? ⟨ob, 1, none⟩ = some (.slice ya k yc) ∧ w'.cell? ⟨ob, 2, none⟩ = some (.int .i64 n1) ∧ Hid (SBox w w' g ob s ⟨.slice xa m1 xc, .slice ya k yc, n1⟩))) (by kernel_rfl) (⟨FD.out.cs.1, FD.out.cs.2.1, FD.out.cs.2.2.1, FD⟩) ?_
      intro HS
      replace HS := HS.resolve_left (by decide)
      refine tkT 0 [3] HS ?_
      refine tkP 1 (.inr HS) ?_
      refine clT 2 (fun K hK => ?_)
      rw [if_pos (by rfl)]
      go_simp
      go_at_call 45
      refine (l13Dirs g _ HS.2.2.2.out.cur).mono ?_
      rintro e wb ⟨v, rfl, d, hdo, hgl, eb⟩
      have FN := Lib.hid (HS.2.2.2.out.step eb)
      have hrb := HS.2.2.2.out.bx.1
      have HDO := Lib.hid (hdo.up (by decide : 4 ≤ 6))
      have HGL := Lib.hid hgl
      obtain ⟨da, dc, rfl⟩ := GL.slice hgl
      clear hgl hdo
      refine hK.out _ _ (⟨FN.out.cs.1, FN.out.cs.2.1, FN.out.cs.2.2.1, FN⟩) ?_
      clear HS hK K
      intro HS
      clear FN
      try simp only [Act.put, lpa, lpb, lpc]
      refine clE (fun K hK => ?_)
      have FE := Lib.hid HS.2.2.2.out
      have bx := FE.out.bx
      obtain ⟨b0, f0⟩ := bx.2.1 0 (by decide)
      obtain ⟨b1, f1⟩ := bx.2.1 1 (by decide)
      obtain ⟨b2, f2⟩ := bx.2.1 2 (by decide)
      have z0 := bx.2.2
      clear bx
      rw [if_pos (by rfl)]
      go_simp
      refine hK.out _ _ fun _ => ?_
      clear HS hK K
      try simp only [Act.put, lpa, lpb, lpc]
      refine tkP 4 (.inl (by kernel_rfl)) ?_
      refine doneT ?_
      refine NoPanic.normal ?_
      have HO := Lib.hid FE.out.out
      have HG2 := Lib.hid (HGL.out.tch (touch3 wb w.heap.size ⟨.slice xa m1 xc, .slice ya k yc, n1⟩) (by omega))
      go_wp2
      refine bodyPost_ret (v := .tuple #[PS.v ⟨.slice xa m1 xc, .slice ya k yc, n1⟩, .slice da d.length dc]) (by simp [results, Tryz.results53, go_sem, f0, f1, f2]) rfl ⟨⟨.slice xa m1 xc, .slice ya k yc, n1⟩, .slice da d.length dc, rfl, s, d, HOK.out, HDO.out, HO.out.1, HG2.out.base (by omega), HO.out.2⟩
    · go_wp2_with fail
      refine wp_region_noPanic ?_
      refine wp_region_T 3 (fun w' => (w'.cell? ⟨ob, 0, none⟩ = some (.slice xa m1 xc) ∧ w'.cell? ⟨ob, 1, none⟩ = some (.slice ya k yc) ∧ w'.cell? ⟨ob, 2, none⟩ = some (.int .i64 n1) ∧ Hid (SBox w w' g ob s ⟨.slice xa m1 xc, .slice ya k yc, n1⟩))) (by kernel_rfl) (⟨FD.out.cs.1, FD.out.cs.2.1, FD.out.cs.2.2.1, FD⟩) ?_
      intro HS
      replace HS := HS.resolve_left (by decide)
      refine tkT 0 [3] HS ?_
      refine tkP 1 (.inr HS) ?_
      refine clT 2 (fun K hK => ?_)
      rw [if_pos (by rfl)]
      go_simp
      go_at_call 90
      refine (l11Any g _ HS.2.2.2.out.cur).mono ?_
      rintro e wb ⟨v, rfl, d, hdo, hgl, eb⟩
      have FN := Lib.hid (HS.2.2.2.out.step eb)
      have hrb := HS.2.2.2.out.bx.1
      have HDO := Lib.hid (hdo)
      have HGL := Lib.hid hgl
      obtain ⟨da, dc, rfl⟩ := GL.slice hgl
      clear hgl hdo
      refine hK.out _ _ (⟨FN.out.cs.1, FN.out.cs.2.1, FN.out.cs.2.2.1, FN⟩) ?_
      clear HS hK K
      intro HS
      clear FN
      try simp only [Act.put, lpa, lpb, lpc]
      refine clE (fun K hK => ?_)
      have FE := Lib.hid HS.2.2.2.out
      have bx := FE.out.bx
      obtain ⟨b0, f0⟩ := bx.2.1 0 (by decide)
      obtain ⟨b1, f1⟩ := bx.2.1 1 (by decide)
      obtain ⟨b2, f2⟩ := bx.2.1 2 (by decide)
      have z0 := bx.2.2
      clear bx
      rw [if_pos (by rfl)]
      go_simp
      refine hK.out _ _ fun _ => ?_
      clear HS hK K
      try simp only [Act.put, lpa, lpb, lpc]
      refine tkP 4 (.inl (by kernel_rfl)) ?_
      refine doneT ?_
      refine NoPanic.normal ?_
      have HO := Lib.hid FE.out.out
      have HG2 := Lib.hid (HGL.out.tch (touch3 wb w.heap.size ⟨.slice xa m1 xc, .slice ya k yc, n1⟩) (by omega))
      go_wp2
      refine bodyPost_ret (v := .tuple #[PS.v ⟨.slice xa m1 xc, .slice ya k yc, n1⟩, .slice da d.length dc]) (by simp [results, Tryz.results53, go_sem, f0, f1, f2]) rfl ⟨⟨.slice xa m1 xc, .slice ya k yc, n1⟩, .slice da d.length dc, rfl, s, d, HOK.out, HDO.out, HO.out.1, HG2.out.base (by omega), HO.out.2⟩
set_option maxRecDepth 100000 in
set_option maxHeartbeats 8000000 in
theorem drawEvaluateForUser (v : Value) (w : World) (hc : Cd w v) :
    Calls Tryz.prog 33 #[v] w fun e w' => ∃ (p : PS) (u : Value) (x : Int), e = .returned (.tuple #[p.v, u, .int .i64 x]) ∧ ∃ s d, Ev w' w.heap.size p u s d ∧ Grew w w' := by
  obtain ⟨n, bs, hr, hn⟩ := hc
  have B0 := Box.new w #[.slice none 0 0, .slice none 0 0, .int .i64 0] 27 3 rfl
  have g0 := (Grew.refl w).alloc (.cells #[.slice none 0 0, .slice none 0 0, .int .i64 0] 27)
  have hs0 : (w.alloc (.cells #[.slice none 0 0, .slice none 0 0, .int .i64 0] 27)).heap.size = w.heap.size + 1 := by simp
  go_enter Tryz.func33, Tryz.ntmps33
  go_wp2_with fail
  refine (l01New v n bs _ (hr.grew g0) hn).mono ?_
  rintro e w1 ⟨rfl, hc1, hg1, hs1⟩
  rw [hs0] at hc1 hs1
  go_wp2_with fail
  refine (l15Case _ _ hc1).mono ?_
  rintro e w2 ⟨p, u, rfl, s, d, hok, hdo, hst, hgl, hd⟩
  have hne : w.heap.size ≠ w.heap.size + 1 := by omega
  have B2 := (B0.grew hg1).d hd hne
  have G2 : Grew (w.alloc (.cells #[.slice none 0 0, .slice none 0 0, .int .i64 0] 27)) w2 := D.out hg1 hd (by rw [hs0]; exact Nat.le_refl _)
  have HST := Lib.hid hst
  have HGL := Lib.hid hgl
  obtain ⟨xa, xc, ya, yc, hp⟩ := hst.slices
  subst hp
  obtain ⟨da, dc, rfl⟩ := GL.slice hgl
  clear hst hgl B0
  have hs2 := hd.size
  have gA := (Grew.refl w2).alloc (.cells #[.slice xa s.schema.length xc, .slice ya s.files.length yc, .int .i64 s.next] 27)
  have CA : CS (w2.alloc (.cells #[.slice xa s.schema.length xc, .slice ya s.files.length yc, .int .i64 s.next] 27)) w2.heap.size ⟨.slice xa s.schema.length xc, .slice ya s.files.length yc, s.next⟩ := CS.new rfl
  have HST3 := Lib.hid (HST.out.grew gA)
  have HGL3 := Lib.hid (HGL.out.grew gA)
  have B3 := B2.grew gA
  have D3 := hd.grew gA
  have G3 := G2.trans gA
  clear HST HGL B2
  go_wp2_with fail
  generalize w2.alloc (.cells #[.slice xa s.schema.length xc, .slice ya s.files.length yc, .int .i64 s.next] 27) = W at CA HST3 HGL3 B3 D3 G3 ⊢
  have CD := Lib.hid (CA.grew (Grew.refl _).drew)
  have DD := Lib.hid (D3.grew (Grew.refl _).drew)
  refine wp_region_noPanic ?_
  refine wp_region_T 4 (fun w' => (w'.cell? ⟨w2.heap.size, 0, none⟩ = some (.slice xa s.schema.length xc) ∧ w'.cell? ⟨w2.heap.size, 1, none⟩ = some (.slice ya s.files.length yc) ∧ w'.cell? ⟨w2.heap.size, 2, none⟩ = some (.int .i64 s.next) ∧ Hid (CS w' w2.heap.size ⟨.slice xa s.schema.length xc, .slice ya s.files.length yc, s.next⟩) ∧ Hid (D (w.heap.size + 1) w1 w') ∧ Hid (D (w.heap.size + 1) W w'))) (by kernel_rfl) (⟨CD.out.1, CD.out.2.1, CD.out.2.2.1, CD, DD, (Lib.hid ((D.refl D3.cur).grew (Grew.refl _).drew))⟩) ?_
  intro HS
  replace HS := HS.resolve_left (by decide)
  refine tkT 0 [4] HS ?_
  refine tkP 1 (.inr HS) ?_
  refine tkP 2 (.inr HS) ?_
  refine clT 3 (fun K hK => ?_)
  rw [if_pos (by rfl)]
  go_simp
  go_at_call 71
  refine (l06User _ _ HS.2.2.2.2.1.out.cur).mono ?_
  rintro e wb ⟨x, rfl, eb⟩
  have CN := Lib.hid (HS.2.2.2.1.out.d eb (by omega))
  have DN := Lib.hid (HS.2.2.2.2.1.out.trans eb)
  have DW := Lib.hid (HS.2.2.2.2.2.out.trans eb)
  refine hK.out _ _ (⟨CN.out.1, CN.out.2.1, CN.out.2.2.1, CN, DN, DW⟩) ?_
  clear HS hK K
  intro HS
  try simp only [Act.put, lpa, lpb, lpc]
  refine clE (fun K hK => ?_)
  have B4 := B3.d DW.out hne
  obtain ⟨b0, f0⟩ := B4.2.1 0 (by decide)
  obtain ⟨b1, f1⟩ := B4.2.1 1 (by decide)
  obtain ⟨b2, f2⟩ := B4.2.1 2 (by decide)
  have z0 := B4.2.2
  rw [if_pos (by rfl)]
  go_simp
  refine hK.out _ _ fun _ => ?_
  clear HS hK K
  try simp only [Act.put, lpa, lpb, lpc]
  refine tkP 5 (.inl (by kernel_rfl)) ?_
  refine tkP 6 (.inl (by kernel_rfl)) ?_
  refine doneT ?_
  refine NoPanic.normal ?_
  have HS := Lib.hid (((HST3.out.d DW.out (by omega)).tch (touch3 wb w.heap.size ⟨.slice xa s.schema.length xc, .slice ya s.files.length yc, s.next⟩) (by omega)).base (b := w.heap.size) (by omega))
  have HD := Lib.hid (((HGL3.out.d DW.out (by omega)).tch (touch3 wb w.heap.size ⟨.slice xa s.schema.length xc, .slice ya s.files.length yc, s.next⟩) (by omega)).base (base' := w.heap.size) (by omega))
  have HG : Grew w (World.put3 wb w.heap.size ⟨.slice xa s.schema.length xc, .slice ya s.files.length yc, s.next⟩) := Touch.new (g0.trans (D.out hg1 DN.out (by rw [hs0]; exact Nat.le_refl _))) (touch3 wb w.heap.size ⟨.slice xa s.schema.length xc, .slice ya s.files.length yc, s.next⟩) (Nat.le_refl _)
  go_wp2
  refine bodyPost_ret (v := .tuple #[PS.v ⟨.slice xa s.schema.length xc, .slice ya s.files.length yc, s.next⟩, .slice da d.length dc, .int .i64 x]) (by simp [results, Tryz.results33, go_sem, f0, f1, f2]) rfl ⟨⟨.slice xa s.schema.length xc, .slice ya s.files.length yc, s.next⟩, .slice da d.length dc, x, rfl, s, d, ⟨hok, hdo, HS.out, HD.out⟩, HG⟩
set_option maxRecDepth 100000 in
set_option maxHeartbeats 8000000 in
theorem drawListDir (v : Value) (w : World) (hc : Cd w v) :
    Calls Tryz.prog 36 #[v] w fun e w' => ∃ (p : PS) (u : Value) (x : Int) (nm : ByteArray), e = .returned (.tuple #[p.v, u, .int .i64 x, .string nm]) ∧ nm.size ≤ 8 ∧ ∃ s d, Ev w' w.heap.size p u s d ∧ Grew w w' := by
  obtain ⟨n, bs, hr, hn⟩ := hc
  have B0 := Box.new w #[.slice none 0 0, .slice none 0 0, .int .i64 0] 27 3 rfl
  have g0 := (Grew.refl w).alloc (.cells #[.slice none 0 0, .slice none 0 0, .int .i64 0] 27)
  have hs0 : (w.alloc (.cells #[.slice none 0 0, .slice none 0 0, .int .i64 0] 27)).heap.size = w.heap.size + 1 := by simp
  go_enter Tryz.func36, Tryz.ntmps36
  go_wp2_with fail
  refine (drawEvaluateForUser v _ ⟨n, bs, hr.grew g0, hn⟩).mono ?_
  rintro e w2 ⟨p, u, x, rfl, s, d, hev, g2⟩
  rw [hs0] at hev
  have B2 := B0.grew g2
  have HEV := Lib.hid hev
  obtain ⟨xa, xc, ya, yc, da, dc, rfl, rfl⟩ := hev.shapes
  clear hev B0
  have gA := (Grew.refl w2).alloc (.cells #[.slice xa s.schema.length xc, .slice ya s.files.length yc, .int .i64 s.next] 27)
  have CA : CS (w2.alloc (.cells #[.slice xa s.schema.length xc, .slice ya s.files.length yc, .int .i64 s.next] 27)) w2.heap.size ⟨.slice xa s.schema.length xc, .slice ya s.files.length yc, s.next⟩ := CS.new rfl
  have HEV3 := Lib.hid (HEV.out.grew gA)
  have B3 := B2.grew gA
  have G3 := (g0.trans g2).trans gA
  have HR3 := Lib.hid (hr.grew G3)
  clear HEV B2
  go_wp2_with fail
  generalize w2.alloc (.cells #[.slice xa s.schema.length xc, .slice ya s.files.length yc, .int .i64 s.next] 27) = W at CA HEV3 B3 G3 HR3 ⊢
  have CD := Lib.hid (CA.grew (Grew.refl _).drew)
  refine wp_region_noPanic ?_
  refine wp_region_T 6 (fun w' => (w'.cell? ⟨w2.heap.size, 0, none⟩ = some (.slice xa s.schema.length xc) ∧ w'.cell? ⟨w2.heap.size, 1, none⟩ = some (.slice ya s.files.length yc) ∧ w'.cell? ⟨w2.heap.size, 2, none⟩ = some (.int .i64 s.next) ∧ Hid (CS w' w2.heap.size ⟨.slice xa s.schema.length xc, .slice ya s.files.length yc, s.next⟩) ∧ Grew W w')) (by kernel_rfl) (⟨CD.out.1, CD.out.2.1, CD.out.2.2.1, CD, (Grew.refl _).drew⟩) ?_
  intro HS
  replace HS := HS.resolve_left (by decide)
  refine tkT 0 [6] HS ?_
  refine tkP 1 (.inr HS) ?_
  refine tkP 2 (.inr HS) ?_
  refine tkP 3 (.inr HS) ?_
  refine clT 4 (fun K hK => ?_)
  rw [if_pos (by rfl)]
  go_simp
  go_at_call 43
  refine (l01New v n bs _ (HR3.out.grew HS.2.2.2.2) hn).mono ?_
  have GW := HS.2.2.2.2
  rintro e wn ⟨rfl, hc1, hg1, hs1⟩
  have CN := Lib.hid (HS.2.2.2.1.out.grew hg1)
  have HC1 := Lib.hid hc1
  have GN := GW.trans hg1
  refine hK.out _ _ (⟨CN.out.1, CN.out.2.1, CN.out.2.2.1, CN, GN⟩) ?_
  clear HS hK K
  intro HS
  try simp only [Act.put, lpa, lpb, lpc]
  refine clT 5 (fun K hK => ?_)
  rw [if_pos (by rfl)]
  go_simp
  go_at_call 70
  refine (l11Name _ _ HC1.out).mono ?_
  rintro e wb ⟨nm, rfl, hnm, eb⟩
  have gX := D.out hg1 eb (Nat.le_refl _)
  have GB := GW.trans gX
  have CB := Lib.hid (CA.grew GB)
  refine hK.out _ _ (⟨CB.out.1, CB.out.2.1, CB.out.2.2.1, CB, GB⟩) ?_
  clear HS hK K
  intro HS
  try simp only [Act.put, lpa, lpb, lpc]
  refine clE (fun K hK => ?_)
  have B4 := B3.grew GB
  obtain ⟨b0, f0⟩ := B4.2.1 0 (by decide)
  obtain ⟨b1, f1⟩ := B4.2.1 1 (by decide)
  obtain ⟨b2, f2⟩ := B4.2.1 2 (by decide)
  have z0 := B4.2.2
  rw [if_pos (by rfl)]
  go_simp
  refine hK.out _ _ fun _ => ?_
  clear HS hK K
  try simp only [Act.put, lpa, lpb, lpc]
  refine tkP 7 (.inl (by kernel_rfl)) ?_
  refine tkP 8 (.inl (by kernel_rfl)) ?_
  refine tkP 9 (.inl (by kernel_rfl)) ?_
  refine doneT ?_
  refine NoPanic.normal ?_
  have HE : Ev (World.put3 wb w.heap.size ⟨.slice xa s.schema.length xc, .slice ya s.files.length yc, s.next⟩) w.heap.size ⟨.slice xa s.schema.length xc, .slice ya s.files.length yc, s.next⟩ (.slice da d.length dc) s d := ((HEV3.out.grew GB).tch (touch3 wb w.heap.size ⟨.slice xa s.schema.length xc, .slice ya s.files.length yc, s.next⟩) (by omega)).base (by omega)
  have HG : Grew w (World.put3 wb w.heap.size ⟨.slice xa s.schema.length xc, .slice ya s.files.length yc, s.next⟩) := Touch.new (G3.trans GB) (touch3 wb w.heap.size ⟨.slice xa s.schema.length xc, .slice ya s.files.length yc, s.next⟩) (Nat.le_refl _)
  go_wp2
  refine bodyPost_ret (v := .tuple #[PS.v ⟨.slice xa s.schema.length xc, .slice ya s.files.length yc, s.next⟩, .slice da d.length dc, .int .i64 x, .string nm]) (by simp [results, Tryz.results36, go_sem, f0, f1, f2]) rfl ⟨⟨.slice xa s.schema.length xc, .slice ya s.files.length yc, s.next⟩, .slice da d.length dc, x, nm, rfl, hnm, s, d, HE, HG⟩
set_option maxRecDepth 100000 in
set_option maxHeartbeats 8000000 in
theorem drawIsListed (v : Value) (w : World) (hc : Cd w v) :
    Calls Tryz.prog 37 #[v] w fun e w' => ∃ (p : PS) (u : Value) (x : Int) (nm : ByteArray) (id : Int), e = .returned (.tuple #[p.v, u, .int .i64 x, .string nm, .int .i64 id]) ∧ nm.size ≤ 8 ∧ ∃ s d, Ev w' w.heap.size p u s d ∧ Grew w w' := by
  obtain ⟨n, bs, hr, hn⟩ := hc
  have B0 := Box.new w #[.slice none 0 0, .slice none 0 0, .int .i64 0] 27 3 rfl
  have g0 := (Grew.refl w).alloc (.cells #[.slice none 0 0, .slice none 0 0, .int .i64 0] 27)
  have hs0 : (w.alloc (.cells #[.slice none 0 0, .slice none 0 0, .int .i64 0] 27)).heap.size = w.heap.size + 1 := by simp
  go_enter Tryz.func37, Tryz.ntmps37
  go_wp2_with fail
  refine (drawListDir v _ ⟨n, bs, hr.grew g0, hn⟩).mono ?_
  rintro e w2 ⟨p, u, x, nm, rfl, hnm, s, d, hev, g2⟩
  rw [hs0] at hev
  have B2 := B0.grew g2
  have HEV := Lib.hid hev
  obtain ⟨xa, xc, ya, yc, da, dc, rfl, rfl⟩ := hev.shapes
  clear hev B0
  have gA := (Grew.refl w2).alloc (.cells #[.slice xa s.schema.length xc, .slice ya s.files.length yc, .int .i64 s.next] 27)
  have CA : CS (w2.alloc (.cells #[.slice xa s.schema.length xc, .slice ya s.files.length yc, .int .i64 s.next] 27)) w2.heap.size ⟨.slice xa s.schema.length xc, .slice ya s.files.length yc, s.next⟩ := CS.new rfl
  have HEV3 := Lib.hid (HEV.out.grew gA)
  have B3 := B2.grew gA
  have G3 := (g0.trans g2).trans gA
  have HR3 := Lib.hid (hr.grew G3)
  clear HEV B2
  go_wp2_with fail
  generalize w2.alloc (.cells #[.slice xa s.schema.length xc, .slice ya s.files.length yc, .int .i64 s.next] 27) = W at CA HEV3 B3 G3 HR3 ⊢
  have CD := Lib.hid (CA.grew (Grew.refl _).drew)
  refine wp_region_noPanic ?_
  refine wp_region_T 7 (fun w' => (w'.cell? ⟨w2.heap.size, 0, none⟩ = some (.slice xa s.schema.length xc) ∧ w'.cell? ⟨w2.heap.size, 1, none⟩ = some (.slice ya s.files.length yc) ∧ w'.cell? ⟨w2.heap.size, 2, none⟩ = some (.int .i64 s.next) ∧ Hid (CS w' w2.heap.size ⟨.slice xa s.schema.length xc, .slice ya s.files.length yc, s.next⟩) ∧ Grew W w')) (by kernel_rfl) (⟨CD.out.1, CD.out.2.1, CD.out.2.2.1, CD, (Grew.refl _).drew⟩) ?_
  intro HS
  replace HS := HS.resolve_left (by decide)
  refine tkT 0 [7] HS ?_
  refine tkP 1 (.inr HS) ?_
  refine tkP 2 (.inr HS) ?_
  refine tkP 3 (.inr HS) ?_
  refine tkP 4 (.inr HS) ?_
  refine clT 5 (fun K hK => ?_)
  rw [if_pos (by rfl)]
  go_simp
  go_at_call 43
  refine (l01New v n bs _ (HR3.out.grew HS.2.2.2.2) hn).mono ?_
  have GW := HS.2.2.2.2
  rintro e wn ⟨rfl, hc1, hg1, hs1⟩
  have CN := Lib.hid (HS.2.2.2.1.out.grew hg1)
  have HC1 := Lib.hid hc1
  have GN := GW.trans hg1
  refine hK.out _ _ (⟨CN.out.1, CN.out.2.1, CN.out.2.2.1, CN, GN⟩) ?_
  clear HS hK K
  intro HS
  try simp only [Act.put, lpa, lpb, lpc]
  refine clT 6 (fun K hK => ?_)
  rw [if_pos (by rfl)]
  go_simp
  go_at_call 74
  refine (l05Id _ _ HC1.out).mono ?_
  rintro e wb ⟨id, rfl, eb⟩
  have gX := D.out hg1 eb (Nat.le_refl _)
  have GB := GW.trans gX
  have CB := Lib.hid (CA.grew GB)
  refine hK.out _ _ (⟨CB.out.1, CB.out.2.1, CB.out.2.2.1, CB, GB⟩) ?_
  clear HS hK K
  intro HS
  try simp only [Act.put, lpa, lpb, lpc]
  refine clE (fun K hK => ?_)
  have B4 := B3.grew GB
  obtain ⟨b0, f0⟩ := B4.2.1 0 (by decide)
  obtain ⟨b1, f1⟩ := B4.2.1 1 (by decide)
  obtain ⟨b2, f2⟩ := B4.2.1 2 (by decide)
  have z0 := B4.2.2
  rw [if_pos (by rfl)]
  go_simp
  refine hK.out _ _ fun _ => ?_
  clear HS hK K
  try simp only [Act.put, lpa, lpb, lpc]
  refine tkP 8 (.inl (by kernel_rfl)) ?_
  refine tkP 9 (.inl (by kernel_rfl)) ?_
  refine tkP 10 (.inl (by kernel_rfl)) ?_
  refine tkP 11 (.inl (by kernel_rfl)) ?_
  refine doneT ?_
  refine NoPanic.normal ?_
  have HE : Ev (World.put3 wb w.heap.size ⟨.slice xa s.schema.length xc, .slice ya s.files.length yc, s.next⟩) w.heap.size ⟨.slice xa s.schema.length xc, .slice ya s.files.length yc, s.next⟩ (.slice da d.length dc) s d := ((HEV3.out.grew GB).tch (touch3 wb w.heap.size ⟨.slice xa s.schema.length xc, .slice ya s.files.length yc, s.next⟩) (by omega)).base (by omega)
  have HG : Grew w (World.put3 wb w.heap.size ⟨.slice xa s.schema.length xc, .slice ya s.files.length yc, s.next⟩) := Touch.new (G3.trans GB) (touch3 wb w.heap.size ⟨.slice xa s.schema.length xc, .slice ya s.files.length yc, s.next⟩) (Nat.le_refl _)
  go_wp2
  refine bodyPost_ret (v := .tuple #[PS.v ⟨.slice xa s.schema.length xc, .slice ya s.files.length yc, s.next⟩, .slice da d.length dc, .int .i64 x, .string nm, .int .i64 id]) (by simp [results, Tryz.results37, go_sem, f0, f1, f2]) rfl ⟨⟨.slice xa s.schema.length xc, .slice ya s.files.length yc, s.next⟩, .slice da d.length dc, x, nm, id, rfl, hnm, s, d, HE, HG⟩
end Go.Proofs.YtkkbhhmhkpgbkaaGreat
