/- Texts Z28, Z23, Z29, as far as they are needed. -/
import Derived.Test.YtemikjbfjhebnaaGreatNi21
import Derived.Test.YtemikjbfjhebnaaGreatNi17
import Derived.Test.YtemikjbfjhebnaaGreatNi8
namespace Go.Proofs.YtemikjbfjhebnaaGreat
open Go.RowKit
set_option linter.unusedVariables false
set_option linter.unusedSimpArgs false
structure HBox (w0 wc : World) (g ob rb base : Nat) (s : St) (p : PS) : Prop where
  d : D g w0 wc
  lo : w0.heap.size ≤ ob
  rl : w0.heap.size ≤ rb
  gb : g < base
  bx : Box wc rb 3
  cs : CS wc ob p
  ty : TyAt wc ob 27
  tr : TyAt wc rb 27
  st : StG wc base s p
theorem HBox.step {w0 wc w2 : World} {g ob rb base : Nat} {s : St} {p : PS} (h : HBox w0 wc g ob rb base s p) (e : D g wc w2) : HBox w0 w2 g ob rb base s p := by
  have hg := h.d.lt
  have hl := h.lo
  have hr := h.rl
  exact ⟨h.d.trans e, hl, hr, h.gb, h.bx.d e (by omega), h.cs.d e (by omega), h.ty.d e (by omega), h.tr.d e (by omega), h.st.d e h.gb⟩
theorem HBox.grew {w0 wc w2 : World} {g ob rb base : Nat} {s : St} {p : PS} (h : HBox w0 wc g ob rb base s p) (e : Grew wc w2) : HBox w0 w2 g ob rb base s p :=
  h.step ((D.refl h.d.cur).grew e)
theorem HBox.cur {w0 wc : World} {g ob rb base : Nat} {s : St} {p : PS} (h : HBox w0 wc g ob rb base s p) : Cur wc g := h.d.cur
theorem HBox.put {w0 wc : World} {g ob rb base base' : Nat} {s s' : St} {p p' : PS} (h : HBox w0 wc g ob rb base s p) (hs : StG wc base' s' p') (hb : base ≤ base') : HBox w0 (World.put3 wc ob p') g ob rb base s' p' := by
  have hl := h.lo
  have t0 := h.ty
  refine ⟨?_, hl, h.rl, h.gb, ?_, h.cs.put p', ((t0.set _ _).set _ _).set _ _, ((h.tr.set _ _).set _ _).set _ _, ?_⟩
  · exact h.d.touch (touch3 wc ob p') (by omega)
  · exact ((h.bx.set _ _).set _ _).set _ _
  · exact (((hs.base hb).setTy (p := ⟨ob, 0, none⟩) t0 _).setTy (p := ⟨ob, 1, none⟩) (t0.set _ _) _).setTy (p := ⟨ob, 2, none⟩) ((t0.set _ _).set _ _) _
theorem HBox.out {w0 wc : World} {g ob rb base : Nat} {s : St} {p : PS} (h : HBox w0 wc g ob rb base s p) : StG (World.put3 wc rb p) base s p ∧ D g w0 (World.put3 wc rb p) :=
  ⟨((h.st.setTy (p := ⟨rb, 0, none⟩) h.tr _).setTy (p := ⟨rb, 1, none⟩) (h.tr.set _ _) _).setTy (p := ⟨rb, 2, none⟩) ((h.tr.set _ _).set _ _) _, h.d.touch (touch3 wc rb p) h.rl⟩
theorem ty_ne {w : World} {a b : Nat} {e e' : TypeId} (h : TyAt w a e) (k : TyAt w b e') (hne : e ≠ e') : a ≠ b := fun he => by
  subst he
  obtain ⟨q1, q2, q3⟩ := h
  obtain ⟨q4, q5, q6⟩ := k
  rw [q3] at q6
  simp at q6
  exact hne q6.2.1
theorem GrowF.setFl {w : World} {base : Nat} {v : Value} {fs : List Fl} (h : GrowF w base v fs) {b : Nat} (ht : TyAt w b 55) (hb : v.ownBlock ≠ some b) (j : Nat) (u : Value) : GrowF (w.setCell ⟨b, j, none⟩ u) base v fs := by
  obtain ⟨ps, h1, h2⟩ := h
  have t1 : Touch b (b + 1) w (w.setCell ⟨b, j, none⟩ u) := Touch.setCell (p := ⟨b, j, none⟩) (Touch.refl b (b + 1) w) (Nat.le_refl b) (Nat.lt_succ_self b) u
  refine ⟨ps, own_off h1 t1 (fun c hc => by have : c ≠ b := fun e => hb (by rw [← e]; exact hc); omega), h2.mono fun x q k => ⟨k.1, k.2.1, k.2.2.1, k.2.2.2.1, own_set k.2.2.2.2.1 (p := ⟨b, j, none⟩) ht (by decide) u, fun c hc => by have := k.2.2.2.2.2 c hc; simpa using this⟩⟩
theorem HBox.setFl {w0 wc : World} {g ob rb base fb : Nat} {s : St} {p : PS} (h : HBox w0 wc g ob rb base s p) (ht : TyAt wc fb 55) (hl : w0.heap.size ≤ fb) (hne : fb ≠ ob) (hv : p.r.ownBlock ≠ some fb) (j : Nat) (u : Value) : HBox w0 (wc.setCell ⟨fb, j, none⟩ u) g ob rb base s p :=
  ⟨h.d.setCell hl _, h.lo, h.rl, h.gb, h.bx.set _ _, h.cs.off hne _, h.ty.set _ _, h.tr.set _ _, ⟨own_set h.st.q (p := ⟨fb, j, none⟩) ht (by decide) _, h.st.r.setFl ht hv j u, h.st.n⟩⟩
theorem Fl.O.d {w w' : World} {g lo hi : Nat} {f : Fl} {q : P5} (h : Fl.O w lo hi f q) (e : D g w w') (hg : g < lo) : Fl.O w' lo hi f q :=
  ⟨h.1, h.2.1, h.2.2.1, h.2.2.2.1, e.own h.2.2.2.2.1 hg, h.2.2.2.2.2⟩
theorem stOk.creS {n : Nat} {s : St} {f : Fl} (h : stOk n s) (hf : flOk 6 f) : stOk (n + 1) (creS s f) := by
  rcases creS_or s f with e | e
  · rw [e]; exact h.mono (Nat.le_succ _)
  · rw [e]; exact h.add hf
set_option maxRecDepth 100000 in
set_option maxHeartbeats 8000000 in
theorem l06Hidden (g base : Nat) (s : St) (p : PS) (u : Int) (w : World) (hc : Cur w g) (hst : StG w base s p) (hgb : g < base) (hbw : base ≤ w.heap.size) (hso : stOk 7 s) (hu : 0 ≤ u ∧ u ≤ 2) :
    Calls Tryz.prog 31 #[.pointer (some ⟨g, 0, none⟩), p.v, .int .i64 u] w fun e w' => ∃ p' : PS, e = .returned p'.v ∧ ∃ s', stOk 12 s' ∧ StG w' base s' p' ∧ D g w w' := by
  have hl := hc.lt
  obtain ⟨qa, qc, ra, rc, hp⟩ := hst.slices
  subst hp
  have d0 := ((D.refl hc).alloc (.cells #[.slice qa s.schema.length qc, .slice ra s.files.length rc, .int .i64 s.next] 27)).alloc (.cells #[.slice none 0 0, .slice none 0 0, .int .i64 0] 27)
  have CA : CS ((w.alloc (.cells #[.slice qa s.schema.length qc, .slice ra s.files.length rc, .int .i64 s.next] 27)).alloc (.cells #[.slice none 0 0, .slice none 0 0, .int .i64 0] 27)) w.heap.size ⟨.slice qa s.schema.length qc, .slice ra s.files.length rc, s.next⟩ := (CS.new rfl : CS (w.alloc (.cells #[.slice qa s.schema.length qc, .slice ra s.files.length rc, .int .i64 s.next] 27)) w.heap.size ⟨.slice qa s.schema.length qc, .slice ra s.files.length rc, s.next⟩).grew ((Grew.refl _).alloc (.cells #[.slice none 0 0, .slice none 0 0, .int .i64 0] 27))
  have TA : TyAt ((w.alloc (.cells #[.slice qa s.schema.length qc, .slice ra s.files.length rc, .int .i64 s.next] 27)).alloc (.cells #[.slice none 0 0, .slice none 0 0, .int .i64 0] 27)) w.heap.size 27 := (TyAt.new w _ _).grew ((Grew.refl _).alloc (.cells #[.slice none 0 0, .slice none 0 0, .int .i64 0] 27))
  have BC := Box.new (w.alloc (.cells #[.slice qa s.schema.length qc, .slice ra s.files.length rc, .int .i64 s.next] 27)) #[.slice none 0 0, .slice none 0 0, .int .i64 0] 27 3 rfl
  have HS0 : HBox w ((w.alloc (.cells #[.slice qa s.schema.length qc, .slice ra s.files.length rc, .int .i64 s.next] 27)).alloc (.cells #[.slice none 0 0, .slice none 0 0, .int .i64 0] 27)) g w.heap.size (w.alloc (.cells #[.slice qa s.schema.length qc, .slice ra s.files.length rc, .int .i64 s.next] 27)).heap.size base s ⟨.slice qa s.schema.length qc, .slice ra s.files.length rc, s.next⟩ := ⟨d0, Nat.le_refl _, by simp, hgb, BC, CA, TA, TyAt.new _ _ _, hst.grew (((Grew.refl _).alloc (.cells #[.slice qa s.schema.length qc, .slice ra s.files.length rc, .int .i64 s.next] 27)).alloc (.cells #[.slice none 0 0, .slice none 0 0, .int .i64 0] 27))⟩
  have hsA : (w.alloc (.cells #[.slice qa s.schema.length qc, .slice ra s.files.length rc, .int .i64 s.next] 27)).heap.size = w.heap.size + 1 := by simp
  rw [hsA] at HS0
  go_enter Tryz.func31, Tryz.ntmps31
  go_wp2
  generalize (w.alloc (.cells #[.slice qa s.schema.length qc, .slice ra s.files.length rc, .int .i64 s.next] 27)).alloc (.cells #[.slice none 0 0, .slice none 0 0, .int .i64 0] 27) = W at HS0 ⊢
  have F0 := Lib.hid HS0
  have HOK0 := Lib.hid hso
  clear HS0 d0 CA TA BC hsA hst hso
  go_loopw [7] (fun i wr => ∃ (k : Nat) (s : St) (p : PS), k ≤ 4 ∧ i = .int .i64 k ∧ Hid (stOk (7 + k) s) ∧ Hid (HBox w wr g w.heap.size (w.heap.size + 1) base s p)) (fun i _ => 8 - (intOf i).toNat)
  case atStart => exact ⟨0, s, _, by omega, rfl, HOK0, F0⟩
  case round =>
    clear F0 HOK0
    obtain ⟨k, s, p, hk, rfl, hok, F⟩ := hrel
    go_wp2_with fail
    refine (l01Below g _ F.out.cur 4 (by omega) (by omega)).mono ?_
    rintro e w3 ⟨x, rfl, hx, e3⟩
    have F3 := Lib.hid (F.out.step e3)
    clear F e3
    obtain ⟨xa, xc, ya, yc, hp⟩ := F3.out.st.slices
    subst hp
    have hz := hok.out.sz (by omega)
    have hfl := hok.out.2.1
    obtain ⟨m1, hm1⟩ : ∃ m, s.schema.length = m := ⟨_, rfl⟩
    obtain ⟨n, hn⟩ : ∃ m, s.files.length = m := ⟨_, rfl⟩
    obtain ⟨n1, hn1⟩ : ∃ m, s.next = m := ⟨_, rfl⟩
    rw [hm1, hn, hn1] at F3
    rw [hn] at hfl
    have HN := Lib.hid hn
    have HM1 := Lib.hid hm1
    have HN1 := Lib.hid hn1
    clear hm1 hn hn1
    by_cases hlt : (k : Int) < 1 + x
    · have hk4 : k < 4 := by omega
      go_wp2_with fail
      refine (l04File g _ F3.out.cur 1).mono ?_
      rintro e w4 ⟨q, rfl, f, hf, hrow, e4⟩
      have F4 := Lib.hid (F3.out.step e4)
      have hfo := hf.ok
      obtain ⟨q_1, q_2, q_3, q_4, q_5⟩ := q
      obtain ⟨fa, fc, hfa⟩ := own_slice hrow.2.2.2.2.1
      simp only at hfa
      subst hfa
      obtain ⟨r1, r2, r3, r4, r5⟩ := hrow
      simp only at r1 r2 r3 r4 r5
      subst r1
      subst r2
      subst r3
      subst r4
      have hs3 := F3.out.d.size
      clear F3 e4
      go_wp2_with fail
      obtain ⟨ow, how⟩ : ∃ x, (u + 1) % 3 = x := ⟨_, rfl⟩
      rw [how]
      have hs4 := F4.out.d.size
      have hvr : ∀ b, (Value.slice ya n yc).ownBlock = some b → b < w4.heap.size := fun b hb => by obtain ⟨ps, h1, _⟩ := F4.out.st.r; exact (h1.lt b hb).2
      have gA := (Grew.refl w4).alloc (.cells #[.int .i64 f.id, .int .i64 ow, .bool false, .int .i64 f.link, .slice fa f.attrs.length fc] 55)
      have F5 := Lib.hid (F4.out.grew gA)
      have CF5 : CF (w4.alloc (.cells #[.int .i64 f.id, .int .i64 ow, .bool false, .int .i64 f.link, .slice fa f.attrs.length fc] 55)) w4.heap.size ⟨f.id, ow, false, f.link, .slice fa f.attrs.length fc⟩ := CF.new (p := ⟨f.id, ow, false, f.link, .slice fa f.attrs.length fc⟩) rfl
      have TF5 : TyAt (w4.alloc (.cells #[.int .i64 f.id, .int .i64 ow, .bool false, .int .i64 f.link, .slice fa f.attrs.length fc] 55)) w4.heap.size 55 := TyAt.new _ _ _
      have HO5 : Fl.O (w4.alloc (.cells #[.int .i64 f.id, .int .i64 ow, .bool false, .int .i64 f.link, .slice fa f.attrs.length fc] 55)) w3.heap.size w4.heap.size ⟨f.id, ow, false, f.link, f.attrs⟩ ⟨f.id, ow, false, f.link, .slice fa f.attrs.length fc⟩ := Fl.O.grew ⟨rfl, rfl, rfl, rfl, r5⟩ gA
      obtain ⟨fb, hfb⟩ : ∃ x, w4.heap.size = x := ⟨_, rfl⟩
      generalize w4.alloc (.cells #[.int .i64 f.id, .int .i64 ow, .bool false, .int .i64 f.link, .slice fa f.attrs.length fc] 55) = W4 at F5 CF5 TF5 HO5 ⊢
      rw [hfb] at CF5 TF5 HO5 hs4 hvr ⊢
      have hfz : Fl.sz ⟨f.id, ow, false, f.link, f.attrs⟩ ≤ 1000000 := by have h := hfo.sz; unfold Fl.sz at h ⊢; dsimp only; omega
      have HFO : Hid (flOk 6 ⟨f.id, ow, false, f.link, f.attrs⟩) := Lib.hid ⟨by have := hfo.1; dsimp only; omega, hfo.2⟩
      have HVR := Lib.hid hvr
      clear gA how F4 r5 hfb hfo hf hvr
      refine (l01Below g _ F5.out.cur 3 (by omega) (by omega)).mono ?_
      rintro e w5 ⟨y, rfl, hy, e5⟩
      have F6 := Lib.hid (F5.out.step e5)
      have CF6 := Lib.hid (CF5.d e5 (by omega))
      have TF6 := TF5.d e5 (by omega)
      have HO6 := Lib.hid (HO5.d e5 (by omega))
      have hb6 : base ≤ w5.heap.size := by have := F6.out.d.size; omega
      clear F5 CF5 TF5 HO5 e5
      have hys : y = 0 ∨ y = 1 ∨ y = 2 := by omega
      rcases hys with rfl | rfl | rfl
      · skip
        obtain ⟨c0, c1, c2, zc⟩ := F6.out.cs
        obtain ⟨b0, b1, b2, b3, b4, zb⟩ := CF6.out
        dsimp only at c0 c1 c2 b0 b1 b2 b3 b4
        go_wp2_with fail
        refine (createFile s ⟨.slice xa m1 xc, .slice ya n yc, n1⟩ ⟨f.id, ow, false, f.link, f.attrs⟩ ⟨f.id, ow, false, f.link, .slice fa f.attrs.length fc⟩ _ F6.out.st.rd HO6.out.rd (by omega) hfz).mono ?_
        rintro e w9 ⟨p9, rfl, hst9, g9⟩
        obtain ⟨za, zc2, va, vc, rfl⟩ := hst9.slices
        have F9 := F6.out.grew g9
        have FP := Lib.hid (F9.put hst9 (by first | omega | (simp; omega)))
        unfold World.put3 at FP
        clear c0 c1 c2 zc
        obtain ⟨c0, c1, c2, zc⟩ := F9.cs
        dsimp only at c0 c1 c2
        clear F9 hst9
        go_wp2
        go_roundw
        case rel => exact ⟨k + 1, creS s ⟨f.id, ow, false, f.link, f.attrs⟩, _, by omega, by go_num, Lib.hid (hok.out.creS HFO.out), FP⟩
        case measure => simp [intOf]; omega
      · skip
        obtain ⟨c0, c1, c2, zc⟩ := F6.out.cs
        obtain ⟨b0, b1, b2, b3, b4, zb⟩ := CF6.out
        dsimp only at c0 c1 c2 b0 b1 b2 b3 b4
        go_wp2_with fail
        have hn1 : (0 : Int) < (n : Int) + 1 := by omega
        have hn2 : (n : Int) + 1 ≤ 4294967296 := by omega
        refine (l01Below g _ F6.out.cur ((n : Int) + 1) hn1 hn2).mono ?_
        rintro e w7 ⟨z, rfl, hz7, e7⟩
        obtain ⟨j, rfl⟩ : ∃ j : Nat, z = j := ⟨z.toNat, by omega⟩
        have F7 := Lib.hid (F6.out.step e7)
        have CF7 := Lib.hid (CF6.out.d e7 (by omega))
        have TF7 := TF6.d e7 (by omega)
        have HO7 := Lib.hid (HO6.out.d e7 (by omega))
        have hb7 : base ≤ w7.heap.size := Nat.le_trans hb6 e7.size
        have hj0 : (0 : Int) ≤ j := by omega
        clear F6 CF6 TF6 HO6 e7 c0 c1 c2 zc b0 b1 b2 b3 b4 zb
        obtain ⟨c0, c1, c2, zc⟩ := F7.out.cs
        obtain ⟨b0, b1, b2, b3, b4, zb⟩ := CF7.out
        dsimp only at c0 c1 c2 b0 b1 b2 b3 b4
        by_cases hjn : j < n
        · have hjn2 : (j : Int) < n := by omega
          obtain ⟨ps, hr1, hr2⟩ := F7.out.st.r.rd
          obtain ⟨_, _, h1, _, hra⟩ := hr1
          cases h1
          have HR2 := Lib.hid hr2
          have hra2 := hra
          rw [HN.out] at hra2
          obtain ⟨r1, o1, q2, rfl, hpk, d0, d1, d2, d3, d4⟩ := hra2.getP5 hjn
          obtain ⟨x2, hxk, hxr⟩ := HR2.out.get hpk.out
          have HX := Lib.hid hxr
          obtain ⟨t_1, t_2, t_3, t_4, t_5⟩ := q2
          dsimp only at d0 d1 d2 d3 d4
          obtain ⟨cb, hcb⟩ : ∃ b, canB x2 u = b := ⟨_, rfl⟩
          have HCB := Lib.hid hcb
          clear hcb hra hra2 hr2 hxr
          go_wp2_with fail
          refine (specCanRead x2 ⟨t_1, t_2, t_3, t_4, t_5⟩ u _ HX.out).mono ?_
          rintro e w8 ⟨he, g8⟩
          rw [HCB.out] at he
          subst he
          have F8 := Lib.hid (F7.out.grew g8)
          have CF8 := Lib.hid (CF7.out.grew g8)
          have TF8 := TF7.grew g8
          have HO8 := Lib.hid (HO7.out.grew g8)
          have hb8 : base ≤ w8.heap.size := Nat.le_trans hb7 g8.size
          have e0 := grew_cell g8 d0
          clear c0 c1 c2 zc b0 b1 b2 b3 b4 zb d0 d1 d2 d3 d4 F7 CF7 TF7 HO7
          obtain ⟨c0, c1, c2, zc⟩ := F8.out.cs
          obtain ⟨b0, b1, b2, b3, b4, zb⟩ := CF8.out
          dsimp only at c0 c1 c2 b0 b1 b2 b3 b4
          cases cb
          · skip
            have HOX : Hid (Fl.O (w8.setCell ⟨fb, 0, none⟩ (.int .i64 t_1)) w3.heap.size fb ⟨t_1, ow, false, f.link, f.attrs⟩ ⟨t_1, ow, false, f.link, .slice fa f.attrs.length fc⟩) := Lib.hid ⟨rfl, rfl, rfl, rfl, own_set HO8.out.2.2.2.2.1 TF8 (by decide) _, HO8.out.2.2.2.2.2⟩
            have hobf := ty_ne F8.out.ty TF8 (by decide)
            have hrbf := ty_ne F8.out.tr TF8 (by decide)
            have hfbw : w.heap.size ≤ fb := by omega
            have FX : Hid (HBox w (w8.setCell ⟨fb, 0, none⟩ (.int .i64 t_1)) g w.heap.size (w.heap.size + 1) base s ⟨.slice xa m1 xc, .slice (some ⟨r1, o1, none⟩) s.files.length yc, n1⟩) := Lib.hid (F8.out.setFl TF8 hfbw hobf.symm (fun e => absurd (HVR.out fb e) (Nat.lt_irrefl _)) 0 _)
            go_wp2_with fail
            refine (replaceFile s ⟨.slice xa m1 xc, .slice (some ⟨r1, o1, none⟩) s.files.length yc, n1⟩ ⟨t_1, ow, false, f.link, f.attrs⟩ ⟨t_1, ow, false, f.link, .slice fa f.attrs.length fc⟩ _ FX.out.st.rd HOX.out.rd (by omega) hfz).mono ?_
            rintro e w9 ⟨_, _, rfl, ⟨bb, rfl⟩, p9, rfl, s9, hrr, hst9, g9⟩
            obtain ⟨za, zc2, va, vc, rfl⟩ := hst9.slices
            have F9 := FX.out.grew g9
            have FP := Lib.hid (F9.put hst9 (by first | omega | (simp; omega)))
            unfold World.put3 at FP
            clear c0 c1 c2 zc
            obtain ⟨c0, c1, c2, zc⟩ := F9.cs
            dsimp only at c0 c1 c2
            clear F9 hst9
            go_wp2
            go_roundw
            case rel => exact ⟨k + 1, s9, _, by omega, by go_num, Lib.hid ((hrr.ok hok.out HFO.out).mono (by omega)), FP⟩
            case measure => simp [intOf]; omega
          · go_wp2
            go_roundw
            case rel => exact ⟨k + 1, s, _, by omega, by go_num, Lib.hid (hok.out.mono (by omega)), F8⟩
            case measure => simp [intOf]; omega
        · have hjn2 : ¬ ((j : Int) < n) := by omega
          go_wp2
          go_roundw
          case rel => exact ⟨k + 1, s, _, by omega, by go_num, Lib.hid (hok.out.mono (by omega)), F7⟩
          case measure => simp [intOf]; omega
      · skip
        obtain ⟨c0, c1, c2, zc⟩ := F6.out.cs
        obtain ⟨b0, b1, b2, b3, b4, zb⟩ := CF6.out
        dsimp only at c0 c1 c2 b0 b1 b2 b3 b4
        go_wp2_with fail
        have hn1 : (0 : Int) < (n : Int) + 1 := by omega
        have hn2 : (n : Int) + 1 ≤ 4294967296 := by omega
        refine (l01Below g _ F6.out.cur ((n : Int) + 1) hn1 hn2).mono ?_
        rintro e w7 ⟨z, rfl, hz7, e7⟩
        obtain ⟨j, rfl⟩ : ∃ j : Nat, z = j := ⟨z.toNat, by omega⟩
        have F7 := Lib.hid (F6.out.step e7)
        have CF7 := Lib.hid (CF6.out.d e7 (by omega))
        have TF7 := TF6.d e7 (by omega)
        have HO7 := Lib.hid (HO6.out.d e7 (by omega))
        have hb7 : base ≤ w7.heap.size := Nat.le_trans hb6 e7.size
        have hj0 : (0 : Int) ≤ j := by omega
        clear F6 CF6 TF6 HO6 e7 c0 c1 c2 zc b0 b1 b2 b3 b4 zb
        obtain ⟨c0, c1, c2, zc⟩ := F7.out.cs
        obtain ⟨b0, b1, b2, b3, b4, zb⟩ := CF7.out
        dsimp only at c0 c1 c2 b0 b1 b2 b3 b4
        by_cases hjn : j < n
        · have hjn2 : (j : Int) < n := by omega
          obtain ⟨ps, hr1, hr2⟩ := F7.out.st.r.rd
          obtain ⟨_, _, h1, _, hra⟩ := hr1
          cases h1
          have HR2 := Lib.hid hr2
          have hra2 := hra
          rw [HN.out] at hra2
          obtain ⟨r1, o1, q2, rfl, hpk, d0, d1, d2, d3, d4⟩ := hra2.getP5 hjn
          obtain ⟨x2, hxk, hxr⟩ := HR2.out.get hpk.out
          have HX := Lib.hid hxr
          obtain ⟨t_1, t_2, t_3, t_4, t_5⟩ := q2
          dsimp only at d0 d1 d2 d3 d4
          obtain ⟨cb, hcb⟩ : ∃ b, canB x2 u = b := ⟨_, rfl⟩
          have HCB := Lib.hid hcb
          clear hcb hra hra2 hr2 hxr
          go_wp2_with fail
          refine (specCanRead x2 ⟨t_1, t_2, t_3, t_4, t_5⟩ u _ HX.out).mono ?_
          rintro e w8 ⟨he, g8⟩
          rw [HCB.out] at he
          subst he
          have F8 := Lib.hid (F7.out.grew g8)
          have CF8 := Lib.hid (CF7.out.grew g8)
          have TF8 := TF7.grew g8
          have HO8 := Lib.hid (HO7.out.grew g8)
          have hb8 : base ≤ w8.heap.size := Nat.le_trans hb7 g8.size
          have e0 := grew_cell g8 d0
          clear c0 c1 c2 zc b0 b1 b2 b3 b4 zb d0 d1 d2 d3 d4 F7 CF7 TF7 HO7
          obtain ⟨c0, c1, c2, zc⟩ := F8.out.cs
          obtain ⟨b0, b1, b2, b3, b4, zb⟩ := CF8.out
          dsimp only at c0 c1 c2 b0 b1 b2 b3 b4
          cases cb
          · skip
            have FD := Lib.hid (F8.out.grew (Grew.refl _).drew)
            have E0 := grew_cell (Grew.refl w8).drew e0
            clear c0 c1 c2 zc b0 b1 b2 b3 b4 zb
            go_wp2_with fail
            refine wp_region_noPanic ?_
            refine wp_region_T 11 (fun w' => (w'.cell? ⟨w.heap.size, 0, none⟩ = some (.slice xa m1 xc) ∧ w'.cell? ⟨w.heap.size, 1, none⟩ = some (.slice (some ⟨r1, o1, none⟩) s.files.length yc) ∧ w'.cell? ⟨w.heap.size, 2, none⟩ = some (.int .i64 n1) ∧ w'.cell? ⟨r1, o1 + j * 5, none⟩ = some (.int .i64 t_1) ∧ Hid (HBox w w' g w.heap.size (w.heap.size + 1) base s ⟨.slice xa m1 xc, .slice (some ⟨r1, o1, none⟩) s.files.length yc, n1⟩))) (by kernel_rfl) (⟨FD.out.cs.1, FD.out.cs.2.1, FD.out.cs.2.2.1, E0, FD⟩) ?_
            intro HS
            replace HS := HS.resolve_left (by decide)
            refine tkT 0 [11] HS ?_
            refine tkP 1 (.inr HS) ?_
            refine tkT 2 [11] HS ?_
            refine tkP 3 (.inr HS) ?_
            refine tkP 4 (.inr HS) ?_
            refine tkP 5 (.inr HS) ?_
            refine tkT 6 [11] HS ?_
            refine clT 7 (fun K hK => ?_)
            rw [if_pos (by rfl)]
            go_simp
            go_at_call 55
            refine (deleteFile s ⟨.slice xa m1 xc, .slice (some ⟨r1, o1, none⟩) s.files.length yc, n1⟩ t_1 _ HS.2.2.2.2.out.st.rd (by omega)).mono ?_
            rintro e wd ⟨_, _, rfl, ⟨bb, rfl⟩, p9, rfl, s9, hct, hst9, gd⟩
            have FN := Lib.hid (HS.2.2.2.2.out.grew gd)
            have CN := grew_cell gd HS.2.2.2.1
            obtain ⟨za, zc2, va, vc, rfl⟩ := hst9.slices
            have hsb := HS.2.2.2.2.out.d.size
            have FP := Lib.hid (FN.out.put hst9 (by omega))
            unfold World.put3 at FP
            clear hst9
            refine hK.out _ _ (⟨FN.out.cs.1, FN.out.cs.2.1, FN.out.cs.2.2.1, CN, FN⟩) ?_
            clear HS hK K
            intro HS
            clear FN CN
            try simp only [Act.put, lpa, lpb, lpc]
            refine tkP 8 (.inr HS) ?_
            refine tkP 9 (.inr HS) ?_
            refine tkP 10 (.inr HS) ?_
            refine clE (fun K hK => ?_)
            obtain ⟨c0, c1, c2, zc⟩ := HS.2.2.2.2.out.cs
            dsimp only at c0 c1 c2
            rw [if_pos (by rfl)]
            go_simp
            clear c0 c1 c2 zc
            refine hK.out _ _ fun _ => ?_
            clear HS hK K
            try simp only [Act.put, lpa, lpb, lpc]
            refine doneT ?_
            refine NoPanic.normal ?_
            go_wp2
            go_roundw
            case rel => exact ⟨k + 1, s9, _, by omega, by go_num, Lib.hid ((hct.ok hok.out).mono (by omega)), FP⟩
            case measure => simp [intOf]; omega
          · go_wp2
            go_roundw
            case rel => exact ⟨k + 1, s, _, by omega, by go_num, Lib.hid (hok.out.mono (by omega)), F8⟩
            case measure => simp [intOf]; omega
        · have hjn2 : ¬ ((j : Int) < n) := by omega
          go_wp2
          go_roundw
          case rel => exact ⟨k + 1, s, _, by omega, by go_num, Lib.hid (hok.out.mono (by omega)), F7⟩
          case measure => simp [intOf]; omega
    · obtain ⟨c0, c1, c2, zc⟩ := F3.out.cs
      have bx := F3.out.bx
      obtain ⟨b0, f0⟩ := bx.2.1 0 (by decide)
      obtain ⟨b1, f1⟩ := bx.2.1 1 (by decide)
      obtain ⟨b2, f2⟩ := bx.2.1 2 (by decide)
      have z0 := bx.2.2
      have HO := Lib.hid F3.out.out
      clear bx
      dsimp only at c0 c1 c2
      go_wp2
      change bodyPost _ _ _ _ _ _
      refine bodyPost_ret (v := PS.v ⟨.slice xa m1 xc, .slice ya n yc, n1⟩) (by simp [results, Tryz.results31, go_sem, f0, f1, f2]) rfl ⟨⟨.slice xa m1 xc, .slice ya n yc, n1⟩, rfl, s, hok.out.mono (by omega), HO.out.1, HO.out.2⟩
end Go.Proofs.YtemikjbfjhebnaaGreat
namespace Go.Proofs.YtemikjbfjhebnaaGreat
open Go.RowKit
set_option linter.unusedVariables false
set_option linter.unusedSimpArgs false
theorem SBox.setN {w0 wc : World} {g ob : Nat} {s : St} {p : PS} (h : SBox w0 wc g ob s p) (x : Int) : SBox w0 (wc.setCell ⟨ob, 2, none⟩ (.int .i64 x)) g ob ⟨s.schema, s.files, x⟩ ⟨p.q, p.r, x⟩ := by
  have hl := h.lo
  obtain ⟨c0, c1, c2, z⟩ := h.cs
  have hs := h.st.setTy (p := ⟨ob, 2, none⟩) h.ty (.int .i64 x)
  exact ⟨h.d.setCell (by dsimp only; omega) _, hl, h.bx.set _ _, ⟨by simp [go_sem, c0], by simp [go_sem, c1], by simp [go_sem, c2], fun j => by rw [World.frozen?_setCell]; exact z j⟩, h.ty.set _ _, ⟨hs.q, hs.r, rfl⟩⟩
theorem SBox.setQ {w0 wc : World} {g ob : Nat} {s : St} {p : PS} (h : SBox w0 wc g ob s p) {v : Value} {xs : List Fd} (ho : wc.ownsRow (w0.heap.size + 1) 87 2 v xs.length (rows Fd.c xs)) : SBox w0 (wc.setCell ⟨ob, 0, none⟩ v) g ob ⟨xs, s.files, s.next⟩ ⟨v, p.r, p.n⟩ := by
  have hl := h.lo
  obtain ⟨c0, c1, c2, z⟩ := h.cs
  have hs := h.st.setTy (p := ⟨ob, 0, none⟩) h.ty v
  exact ⟨h.d.setCell (by dsimp only; omega) _, hl, h.bx.set _ _, ⟨by simp [go_sem, c0], by simp [go_sem, c1], by simp [go_sem, c2], fun j => by rw [World.frozen?_setCell]; exact z j⟩, h.ty.set _ _, ⟨own_set ho h.ty (by decide) v, hs.r, hs.n⟩⟩
structure SSh (w0 wc : World) (g ob : Nat) (p : PS) : Prop where
  d : D g w0 wc
  lo : w0.heap.size < ob
  bx : Box wc w0.heap.size 3
  cs : CS wc ob p
  ty : TyAt wc ob 27
theorem SBox.sh {w0 wc : World} {g ob : Nat} {s : St} {p : PS} (h : SBox w0 wc g ob s p) : SSh w0 wc g ob p := ⟨h.d, h.lo, h.bx, h.cs, h.ty⟩
theorem SSh.step {w0 wc w2 : World} {g ob : Nat} {p : PS} (h : SSh w0 wc g ob p) (e : D g wc w2) : SSh w0 w2 g ob p := by
  have hg := h.d.lt
  have hl := h.lo
  exact ⟨h.d.trans e, hl, h.bx.d e (by omega), h.cs.d e (by omega), h.ty.d e (by omega)⟩
theorem SSh.grew {w0 wc w2 : World} {g ob : Nat} {p : PS} (h : SSh w0 wc g ob p) (e : Grew wc w2) : SSh w0 w2 g ob p := h.step ((D.refl h.d.cur).grew e)
theorem SSh.grownBy {w0 wc w2 : World} {g ob : Nat} {p : PS} (h : SSh w0 wc g ob p) {n : Nat} {cs : List Value} (hv : wc.ownsRow (w0.heap.size + 1) 55 5 p.r n cs) (hg : wc.grownBy w2 p.r.ownBlock) : SSh w0 w2 g ob p := by
  have hl := h.lo
  have ho : some ob ≠ p.r.ownBlock := fun e => own_nety hv h.ty (by decide) _ e.symm rfl
  have hr : some w0.heap.size ≠ p.r.ownBlock := fun e => by have := (hv.lt _ e.symm).1; omega
  obtain ⟨c0, c1, c2, z⟩ := h.cs
  refine ⟨h.d.grown hg (fun j hj => by have := (hv.lt j hj).1; omega), hl, ⟨Nat.lt_of_lt_of_le h.bx.1 hg.size, fun j hj => ?_, fun j => ?_⟩, ⟨hg.cell c0 ho, hg.cell c1 ho, hg.cell c2 ho, fun j => ?_⟩, h.ty.grownOwn hv hg (by decide)⟩
  · obtain ⟨u, hu⟩ := h.bx.2.1 j hj; exact ⟨u, hg.cell hu hr⟩
  · rw [World.frozen?_of_block (hg.block w0.heap.size h.bx.1 hr)]; exact h.bx.2.2 j
  · rw [World.frozen?_of_block (hg.block ob h.ty.lt ho)]; exact z j
theorem SSh.setR {w0 wc : World} {g ob : Nat} {s : St} {p : PS} {v : Value} (h : SSh w0 wc g ob p) (hs : StG wc (w0.heap.size + 1) s ⟨p.q, v, p.n⟩) : SBox w0 (wc.setCell ⟨ob, 1, none⟩ v) g ob s ⟨p.q, v, p.n⟩ := by
  have hl := h.lo
  obtain ⟨c0, c1, c2, z⟩ := h.cs
  exact ⟨h.d.setCell (by dsimp only; omega) _, hl, h.bx.set _ _, ⟨by simp [go_sem, c0], by simp [go_sem, c1], by simp [go_sem, c2], fun j => by rw [World.frozen?_setCell]; exact z j⟩, h.ty.set _ _, hs.setTy (p := ⟨ob, 1, none⟩) h.ty v⟩
theorem StG.cr {w w' : World} {g base : Nat} {s : St} {p : PS} {f : Fl} {q : P5} (h : StG w base s p) (e : D g w w') (hg : g < base) (hb : base ≤ w.heap.size) (hf : Fl.O w' w.heap.size w'.heap.size f q) : ∃ ps, Cr w' base w.heap.size s p ps f q := by
  obtain ⟨ps, h1, h2⟩ := h.r
  exact ⟨ps, e.own h.q hg, e.own h1 hg, h2.mono fun x q k => k.touch e.2.1 (.inr hg), hf, hb, e.size⟩
theorem Cr.app {w w' : World} {base lo : Nat} {s : St} {p : PS} {ps : List P5} {f : Fl} {q : P5} {v : Value} (h : Cr w base lo s p ps f q) (hn : p.n = s.next) (hown : w'.ownsRow base 55 5 v (s.files.length + 1) (rows P5.c ps ++ P5.c q)) (hg : w.grownBy w' p.r.ownBlock) : StG w' base ⟨s.schema, s.files ++ [f], s.next⟩ ⟨p.q, v, p.n⟩ := by
  refine ⟨?_, GrowF.snoc h.sr h.sa h.sf h.l h.m hown hg hg.size, hn⟩
  exact (own_grown (Own.mono (own_of h.sq) (Nat.le_refl _) (Nat.le_refl _)) h.sr (by decide) hg).1
def inGrow (s : St) : Prop := stoB s = true ∧ s.schema = sch4 ∧ s.next ≤ 8 + s.files.length ∧ stOk 12 s
theorem grow0 {s : St} (h : madeS s) : inGrow s := ⟨h.1, h.2.1, by have := h.2.2.1; omega, h.2.2.2.mono (by decide)⟩
theorem grow_next {s : St} {f : Fl} {i : Int} (h : inGrow s) (hk : s.files.length < 12) (hf : drawnF i f) : creS s f = addF s f ∧ inGrow (addF s f) := by
  obtain ⟨h1, h2, h3, h4⟩ := h
  have hc := cre_ok h1 h2 (by omega) hk hf
  have h5 := (sto_parts h1).2.2.2.2
  unfold inB at h5
  simp at h5
  have h6 : stOk s.files.length s := ⟨h4.1, Nat.le_refl _, h4.2.2⟩
  refine ⟨by simp [creS, hc], ?_, h2, by unfold addF; simp; omega, (h6.add (hf.ok.mono (by decide))).mono (by omega)⟩
  exact add_ok h1 (by have := hf.valid (i := s.next) (by omega); rw [h2]; exact this) (by omega) (by omega)
def lenAt (w : World) (a : Addr) : Nat := match w.cell? a with | some (.slice _ n _) => n | _ => 0
theorem lenAt_eq {w : World} {a : Addr} {o : Option Addr} {n c : Nat} (h : w.cell? a = some (.slice o n c)) : lenAt w a = n := by unfold lenAt; rw [h]
set_option maxRecDepth 100000 in
set_option maxHeartbeats 8000000 in
theorem l05Any (g : Nat) (w : World) (hc : Cur w g) :
    Calls Tryz.prog 29 #[.pointer (some ⟨g, 0, none⟩)] w fun e w' => ∃ p : PS, e = .returned p.v ∧ ∃ s, stOk 12 s ∧ StG w' w.heap.size s p ∧ D g w w' := by
  have hl := hc.lt
  have hne : w.heap.size ≠ g := by omega
  have B0 := Box.new w #[.slice none 0 0, .slice none 0 0, .int .i64 0] 27 3 rfl
  have d0 := (D.refl hc).alloc (.cells #[.slice none 0 0, .slice none 0 0, .int .i64 0] 27)
  have hs0 : (w.alloc (.cells #[.slice none 0 0, .slice none 0 0, .int .i64 0] 27)).heap.size = w.heap.size + 1 := by simp
  go_enter Tryz.func29, Tryz.ntmps29
  go_wp2_with fail
  refine (l05Store g _ d0.cur).mono ?_
  rintro e w2 ⟨p, rfl, s, hmd, hst, e1⟩
  have d2 := d0.trans e1
  have B2 := B0.d e1 hne
  rw [hs0] at hst
  obtain ⟨xa, xc, ya, yc, hp⟩ := hst.slices
  subst hp
  obtain ⟨j0, hj, hy0, hy1, hy2⟩ := info_parts Tryz.infoFl
  have SB := SBox.new d2 B2 hst
  dsimp only at SB
  clear hst B0 B2 d0 d2 e1 hs0
  have hz := hmd.2.2.2.sz (by decide)
  have HM := Lib.hid hmd
  obtain ⟨m1, hm1⟩ : ∃ m, s.schema.length = m := ⟨_, rfl⟩
  obtain ⟨k, hk⟩ : ∃ m, s.files.length = m := ⟨_, rfl⟩
  obtain ⟨n1, hn1⟩ : ∃ m, s.next = m := ⟨_, rfl⟩
  have hk7 : k ≤ 7 := by rw [← hk]; exact hmd.2.2.2.2.1
  rw [hm1, hk, hn1] at SB ⊢
  have HKL := Lib.hid hk
  have HM1 := Lib.hid hm1
  have HN1 := Lib.hid hn1
  clear hm1 hk hn1 hmd
  go_wp2_with fail
  obtain ⟨ob, hob⟩ : ∃ x, w2.heap.size = x := ⟨_, rfl⟩
  generalize w2.alloc (.cells #[.slice xa m1 xc, .slice ya k yc, .int .i64 n1] 27) = W at SB ⊢
  rw [hob] at SB ⊢
  clear hob
  refine (l01Below g _ SB.cur 14 (by omega) (by omega)).mono ?_
  rintro e w3 ⟨x, rfl, hx, e3⟩
  have F3 := Lib.hid (SB.step e3)
  clear SB e3
  have hxs : x = 0 ∨ x = 1 ∨ x = 2 ∨ x = 3 ∨ 4 ≤ x := by omega
  rcases hxs with rfl | rfl | rfl | rfl | hx5
  · have F4 := Lib.hid (F3.out.grew ((Grew.refl _).alloc (.cells #[.int .i64 0, .int .i64 60, .int .i64 61, .int .i64 62] 3)))
    go_wp2_with fail
    refine (l01PickInt g _ F4.out.cur _ 4 [0, 60, 61, 62] (lit_rd _ #[.int .i64 0, .int .i64 60, .int .i64 61, .int .i64 62] 3 1 4 4 rfl (Nat.le_refl _)) (cur_ne F3.out.cur) (by decide) (by decide)).mono ?_
    rintro e w4 ⟨y, rfl, hy, e4⟩
    clear hy
    have F5 := Lib.hid (F4.out.step e4)
    have F6 := Lib.hid (F5.out.setN y)
    clear F3 F4 e4
    obtain ⟨g0, g1, g2, gz⟩ := F5.out.cs
    dsimp only at g0 g1 g2
    have bx := F5.out.bx
    obtain ⟨b0, f0⟩ := bx.2.1 0 (by decide)
    obtain ⟨b1, f1⟩ := bx.2.1 1 (by decide)
    obtain ⟨b2, f2⟩ := bx.2.1 2 (by decide)
    have z0 := bx.2.2
    have hlo := F5.out.lo
    have hobne : ¬ (w.heap.size = ob) := by omega
    have hobne2 : ¬ (ob = w.heap.size) := by omega
    have HO := Lib.hid F6.out.out
    clear bx
    go_wp2
    refine bodyPost_ret (v := PS.v ⟨.slice xa m1 xc, .slice ya k yc, y⟩) (by simp [results, Tryz.results29, go_sem, f0, f1, f2, hobne, hobne2]) rfl ⟨⟨.slice xa m1 xc, .slice ya k yc, y⟩, rfl, ⟨s.schema, s.files, y⟩, HM.out.2.2.2.mono (by decide), HO.out.1, HO.out.2⟩
  · have FD := Lib.hid (F3.out.grew (Grew.refl _).drew)
    have FS := Lib.hid FD.out.sh
    have hbs : w.heap.size + 1 ≤ w3.drew.heap.size := by have := FD.out.bx.1; omega
    go_wp2_with fail
    refine wp_region_noPanic ?_
    refine wp_region_T 7 (fun w' => (w'.cell? ⟨ob, 1, none⟩ = some (.slice ya k yc) ∧ Hid (SSh w w' g ob ⟨.slice xa m1 xc, .slice ya k yc, n1⟩))) (by kernel_rfl) (⟨FS.out.cs.2.1, FS⟩) ?_
    intro HS
    replace HS := HS.resolve_left (by decide)
    refine tkP 0 (.inr HS) ?_
    refine tkT 1 [7] HS ?_
    refine tkP 2 (.inr HS) ?_
    refine clT 3 (fun K hK => ?_)
    rw [if_pos (by rfl)]
    go_simp
    go_at_call 58
    refine (l04Any g _ HS.2.out.d.cur).mono ?_
    rintro e wb ⟨⟨q_1, q_2, q_3, q_4, q_5⟩, rfl, f, hfo, hrow, eb⟩
    obtain ⟨qa, qc, hq5⟩ := own_slice hrow.2.2.2.2.1
    simp only at hq5
    subst hq5
    obtain ⟨ps, hcr⟩ := FD.out.st.cr eb (by omega) hbs hrow
    have CR := Lib.hid hcr
    have FN := Lib.hid (HS.2.out.step eb)
    clear hcr hrow
    refine hK.out _ _ (⟨FN.out.cs.2.1, FN⟩) ?_
    clear HS hK K
    intro HS
    clear FN
    try simp only [Act.put, lpa, lpb, lpc]
    refine clT 4 (fun K hK => ?_)
    have FN := Lib.hid (HS.2.out.grew ((Grew.refl _).alloc (.cells #[.int .i64 q_1, .int .i64 q_2, .bool q_3, .int .i64 q_4, .slice qa f.attrs.length qc] 55)))
    have CL := Lib.hid (CR.out.grew ((Grew.refl _).alloc (.cells #[.int .i64 q_1, .int .i64 q_2, .bool q_3, .int .i64 q_4, .slice qa f.attrs.length qc] 55)))
    rw [if_pos (by rfl)]
    go_simp
    refine hK.out _ _ (⟨FN.out.cs.2.1, FN⟩) ?_
    clear HS hK K
    intro HS
    clear FN
    try simp only [Act.put, lpa, lpb, lpc]
    refine clT 5 (fun K hK => ?_)
    rw [if_pos (by rfl)]
    have FW := HS.2
    have hlm := Nat.le_trans CL.out.l CL.out.m
    have hsr := CL.out.sr
    rw [HKL.out] at hsr
    refine wp_append_own _ _ _ 25 rfl (w.heap.size + 1) 55 j0 _ 5 56 Tryz.underlying25 hj hy0 hy1 hy2 rfl (by decide) _ _ _ rfl hsr ⟨_, 0, none⟩ 1 1 (P5.c ⟨q_1, q_2, q_3, q_4, .slice qa f.attrs.length qc⟩) rfl rfl (lit_news rfl) (fun x hx => by simp [P5.c] at hx; rcases hx with rfl | rfl | rfl | rfl | rfl <;> rfl) (by unfold maxLen; omega) (by omega) hlm ?_
    intro v' w8 hown' hgr2 _
    have FG := Lib.hid (FW.out.grownBy hsr hgr2)
    have HO8 := Lib.hid (CL.out.app HN1.out.symm (by rw [HKL.out]; exact hown') hgr2)
    obtain ⟨va, vc, rfl⟩ := own_slice hown'
    clear hown' hgr2 hsr
    refine hK.out _ _ (⟨FG.out.cs.2.1, FG⟩) ?_
    clear HS hK K
    intro HS
    try simp only [Act.put, lpa, lpb, lpc]
    refine tkP 6 (.inr HS) ?_
    refine clE (fun K hK => ?_)
    have c1 := HS.1
    have z := HS.2.out.cs.2.2.2
    have FZ := Lib.hid (FG.out.setR HO8.out)
    rw [if_pos (by rfl)]
    go_simp
    clear c1 z
    refine hK.out _ _ fun _ => ?_
    clear HS hK K
    try simp only [Act.put, lpa, lpb, lpc]
    refine doneT ?_
    refine NoPanic.normal ?_
    have HOK : Hid (stOk 12 ⟨s.schema, s.files ++ [f], s.next⟩) := Lib.hid ⟨HM.out.2.2.2.1, by rw [List.length_append, HKL.out]; simp; omega, fun y hy => (List.mem_append.1 hy).elim (HM.out.2.2.2.2.2 y) (fun hy => by simp at hy; subst hy; exact hfo)⟩
    obtain ⟨c0, c1, c2, _⟩ := FZ.out.cs
    have bx := FZ.out.bx
    obtain ⟨b0, f0⟩ := bx.2.1 0 (by decide)
    obtain ⟨b1, f1⟩ := bx.2.1 1 (by decide)
    obtain ⟨b2, f2⟩ := bx.2.1 2 (by decide)
    have z0 := bx.2.2
    have hlo := FZ.out.lo
    have HO := Lib.hid FZ.out.out
    clear bx
    dsimp only at c0 c1 c2
    go_wp2
    refine bodyPost_ret (v := PS.v ⟨.slice xa m1 xc, .slice va (k + 1) vc, n1⟩) (by simp [results, Tryz.results29, go_sem, f0, f1, f2]) rfl ⟨⟨.slice xa m1 xc, .slice va (k + 1) vc, n1⟩, rfl, ⟨s.schema, s.files ++ [f], s.next⟩, HOK.out, HO.out.1, HO.out.2⟩
  · go_wp2_with fail
    refine (l03Any g _ F3.out.cur).mono ?_
    rintro e w4 ⟨v, rfl, xs, hxs, hox, e4⟩
    obtain ⟨va, vc, rfl⟩ := own_slice hox
    have F5 := Lib.hid (F3.out.step e4)
    have hw3 := F3.out.bx.1
    have F6 := Lib.hid (F5.out.setQ (ownsRow_base hox (by omega)))
    clear F3 e4 hox
    obtain ⟨g0, g1, g2, gz⟩ := F5.out.cs
    dsimp only at g0 g1 g2
    have bx := F5.out.bx
    obtain ⟨b0, f0⟩ := bx.2.1 0 (by decide)
    obtain ⟨b1, f1⟩ := bx.2.1 1 (by decide)
    obtain ⟨b2, f2⟩ := bx.2.1 2 (by decide)
    have z0 := bx.2.2
    have hlo := F5.out.lo
    have hobne : ¬ (w.heap.size = ob) := by omega
    have hobne2 : ¬ (ob = w.heap.size) := by omega
    have HO := Lib.hid F6.out.out
    clear bx
    go_wp2
    refine bodyPost_ret (v := PS.v ⟨.slice va xs.length vc, .slice ya k yc, n1⟩) (by simp [results, Tryz.results29, go_sem, f0, f1, f2, hobne, hobne2]) rfl ⟨⟨.slice va xs.length vc, .slice ya k yc, n1⟩, rfl, ⟨xs, s.files, s.next⟩, ⟨hxs, by rw [HKL.out]; omega, HM.out.2.2.2.2.2⟩, HO.out.1, HO.out.2⟩
  · have HG := Lib.hid (grow0 HM.out)
    have F3' : Hid (∃ (s : St) (p : PS), inGrow s ∧ SBox w w3 g ob s p) := Lib.hid ⟨s, _, HG.out, F3.out⟩
    clear HG HM HKL HM1 HN1 F3 hk7 hz
    go_wp2
    go_loopw [] (fun wr => Hid (∃ (s : St) (p : PS), inGrow s ∧ SBox w wr g ob s p)) (fun wr => 12 - lenAt wr ⟨ob, 1, none⟩)
    case atStart => exact F3'
    case round =>
      obtain ⟨s, p, hin, F⟩ := hrel.out
      have F3 := Lib.hid F
      have HIN := Lib.hid hin
      obtain ⟨xa, xc, ya, yc, hp⟩ := F.st.slices
      subst hp
      have hz := hin.2.2.2.sz (by decide)
      obtain ⟨m1, hm1⟩ : ∃ m, s.schema.length = m := ⟨_, rfl⟩
      obtain ⟨k, hk⟩ : ∃ m, s.files.length = m := ⟨_, rfl⟩
      obtain ⟨n1, hn1⟩ : ∃ m, s.next = m := ⟨_, rfl⟩
      rw [hm1, hk, hn1] at F3
      have HKL := Lib.hid hk
      have HM1 := Lib.hid hm1
      have HN1 := Lib.hid hn1
      have hk12 : k ≤ 12 := by rw [← hk]; exact hin.2.2.2.2.1
      clear hm1 hk hn1 hin F F3'
      obtain ⟨c0, c1, c2, _⟩ := F3.out.cs
      dsimp only at c0 c1 c2
      have hla := lenAt_eq c1
      have HLA := Lib.hid hla
      clear hla
      by_cases hlt : k < 12
      · have hlt' : (k : Int) < 12 := by omega
        have FD := Lib.hid (F3.out.grew (Grew.refl _).drew)
        go_wp2_with fail
        refine wp_region_noPanic ?_
        refine wp_region_T 8 (fun w' => (w'.cell? ⟨ob, 0, none⟩ = some (.slice xa m1 xc) ∧ w'.cell? ⟨ob, 1, none⟩ = some (.slice ya k yc) ∧ w'.cell? ⟨ob, 2, none⟩ = some (.int .i64 n1) ∧ Hid (SBox w w' g ob s ⟨.slice xa m1 xc, .slice ya k yc, n1⟩))) (by kernel_rfl) (⟨FD.out.cs.1, FD.out.cs.2.1, FD.out.cs.2.2.1, FD⟩) ?_
        intro HS
        replace HS := HS.resolve_left (by decide)
        refine tkT 0 [8] HS ?_
        refine tkP 1 (.inr HS) ?_
        refine clT 2 (fun K hK => ?_)
        rw [if_pos (by rfl)]
        go_simp
        go_at_call 54
        refine (l04File g _ HS.2.2.2.out.cur 1).mono ?_
        rintro e wb ⟨pf, rfl, f, hf, hrow, eb⟩
        have FN := Lib.hid (HS.2.2.2.out.step eb)
        have HR := Lib.hid hrow.rd
        clear hrow
        refine hK.out _ _ (⟨FN.out.cs.1, FN.out.cs.2.1, FN.out.cs.2.2.1, FN⟩) ?_
        clear HS hK K
        intro HS
        clear FN
        try simp only [Act.put, lpa, lpb, lpc]
        refine clT 3 (fun K hK => ?_)
        rw [if_pos (by rfl)]
        go_simp
        go_at_call 53
        refine (createFile s ⟨.slice xa m1 xc, .slice ya k yc, n1⟩ f pf _ HS.2.2.2.out.st.rd HR.out (by omega) (by have := hf.ok.sz; omega)).mono ?_
        rintro e wd ⟨p', rfl, hst, gd⟩
        rw [(grow_next HIN.out (by rw [HKL.out]; exact hlt) hf).1] at hst
        have FN := Lib.hid (HS.2.2.2.out.grew gd)
        obtain ⟨za, zc, va, vc, rfl⟩ := hst.slices
        have hsb := HS.2.2.2.out.d.size
        have hrb := HS.2.2.2.out.bx.1
        have FP := Lib.hid (FN.out.put hst (by omega))
        unfold World.put3 at FP
        clear hst
        refine hK.out _ _ (⟨FN.out.cs.1, FN.out.cs.2.1, FN.out.cs.2.2.1, FN⟩) ?_
        clear HS hK K
        intro HS
        clear FN
        try simp only [Act.put, lpa, lpb, lpc]
        refine tkP 4 (.inr HS) ?_
        refine tkP 5 (.inr HS) ?_
        refine tkP 6 (.inr HS) ?_
        refine tkP 7 (.inr HS) ?_
        refine clE (fun K hK => ?_)
        obtain ⟨c0, c1, c2, z⟩ := HS.2.2.2.out.cs
        dsimp only at c0 c1 c2
        rw [if_pos (by rfl)]
        go_simp
        clear c0 c1 c2 z
        refine hK.out _ _ fun _ => ?_
        clear HS hK K
        try simp only [Act.put, lpa, lpb, lpc]
        refine doneT ?_
        refine NoPanic.normal ?_
        have HNX := Lib.hid (grow_next HIN.out (by rw [HKL.out]; exact hlt) hf).2
        have hl2 := lenAt_eq FP.out.cs.2.1
        have HL2 := Lib.hid hl2
        clear hl2
        go_wp2
        go_roundw
        case rel => exact Lib.hid ⟨_, _, HNX.out, FP.out⟩
        case measure => rw [HLA.out]; have h := HL2.out; have h3 : (addF s f).files.length = k + 1 := (by unfold addF; simp [HKL.out]); simp only [h3] at h ⊢; rw [h]; omega
      · have hlt' : ¬ ((k : Int) < 12) := by omega
        clear c0 c1 c2
        obtain ⟨c0, c1, c2, _⟩ := F3.out.cs
        have bx := F3.out.bx
        obtain ⟨b0, f0⟩ := bx.2.1 0 (by decide)
        obtain ⟨b1, f1⟩ := bx.2.1 1 (by decide)
        obtain ⟨b2, f2⟩ := bx.2.1 2 (by decide)
        have z0 := bx.2.2
        have hlo := F3.out.lo
        have HO := Lib.hid F3.out.out
        clear bx
        dsimp only at c0 c1 c2
        go_wp2
        change bodyPost _ _ _ _ _ _
        refine bodyPost_ret (v := PS.v ⟨.slice xa m1 xc, .slice ya k yc, n1⟩) (by simp [results, Tryz.results29, go_sem, f0, f1, f2]) rfl ⟨⟨.slice xa m1 xc, .slice ya k yc, n1⟩, rfl, s, HIN.out.2.2.2, HO.out.1, HO.out.2⟩
  · have hn0 : ¬ (x = 0) := by omega
    have hn1 : ¬ (x = 1) := by omega
    have hn2 : ¬ (x = 2) := by omega
    have hn3 : ¬ (x = 3) := by omega
    obtain ⟨c0, c1, c2, _⟩ := F3.out.cs
    have bx := F3.out.bx
    obtain ⟨b0, f0⟩ := bx.2.1 0 (by decide)
    obtain ⟨b1, f1⟩ := bx.2.1 1 (by decide)
    obtain ⟨b2, f2⟩ := bx.2.1 2 (by decide)
    have z0 := bx.2.2
    have hlo := F3.out.lo
    have HO := Lib.hid F3.out.out
    clear bx
    dsimp only at c0 c1 c2
    go_wp2
    refine bodyPost_ret (v := PS.v ⟨.slice xa m1 xc, .slice ya k yc, n1⟩) (by simp [results, Tryz.results29, go_sem, f0, f1, f2]) rfl ⟨⟨.slice xa m1 xc, .slice ya k yc, n1⟩, rfl, s, HM.out.2.2.2.mono (by decide), HO.out.1, HO.out.2⟩
end Go.Proofs.YtemikjbfjhebnaaGreat
namespace Go.Proofs.YtemikjbfjhebnaaGreat
open Go.RowKit
set_option linter.unusedVariables false
set_option linter.unusedSimpArgs false
structure EB (t g : Nat) (w1 wc : World) (ob base : Nat) (s : St) (p : PS) : Prop where
  d : D g w1 wc
  cs : CS wc ob p
  b0 : Box wc t 3
  b1 : Box wc (t + 1) 3
  st : StG wc base s p
  ho : g < ob
  ht : t + 1 < g
  hb : g < base
theorem EB.step {t g : Nat} {w1 wc w2 : World} {ob base : Nat} {s : St} {p : PS} (h : EB t g w1 wc ob base s p) (e : D g wc w2) : EB t g w1 w2 ob base s p := by
  have h1 := h.ho
  have h2 := h.ht
  exact ⟨h.d.trans e, h.cs.d e (by omega), h.b0.d e (by omega), h.b1.d e (by omega), h.st.d e h.hb, h1, h2, h.hb⟩
theorem EB.grew {t g : Nat} {w1 wc w2 : World} {ob base : Nat} {s : St} {p : PS} (h : EB t g w1 wc ob base s p) (e : Grew wc w2) : EB t g w1 w2 ob base s p :=
  h.step ((D.refl h.d.cur).grew e)
def TwoSt (w : World) (base : Nat) (p p2 : PS) : Prop := ∃ s s2, stOk 12 s ∧ stOk 12 s2 ∧ StG w base s p ∧ StG w base s2 p2
def TwoStD (w : World) (base : Nat) (p p2 : PS) (dv : Value) : Prop := ∃ s s2 d, stOk 12 s ∧ stOk 12 s2 ∧ dirsOk 4 d ∧ StG w base s p ∧ StG w base s2 p2 ∧ GLd w base dv d
theorem two_put {w wb : World} {t base base2 : Nat} {s s2 : St} {p p2 : PS} (h1 : StG wb base s p) (h2 : StG wb base2 s2 p2) (hb1 : t + 2 ≤ base) (hb2 : t + 2 ≤ base2) (hg : Grew w wb) (ht : w.heap.size ≤ t) :
    StG (World.put3 (World.put3 wb t p) (t + 1) p2) t s p ∧ StG (World.put3 (World.put3 wb t p) (t + 1) p2) t s2 p2 ∧ Grew w (World.put3 (World.put3 wb t p) (t + 1) p2) :=
  ⟨((h1.tch (touch3 wb t p) (by omega)).tch (touch3 _ (t + 1) p2) (by omega)).base (by omega), ((h2.tch (touch3 wb t p) (by omega)).tch (touch3 _ (t + 1) p2) (by omega)).base (by omega), Touch.new (Touch.new hg (touch3 wb t p) ht) (touch3 _ (t + 1) p2) (by omega)⟩
set_option maxRecDepth 100000 in
set_option maxHeartbeats 8000000 in
theorem drawEqualForUser (v : Value) (w : World) (hc : Cd w v) :
    Calls Tryz.prog 14 #[v] w fun e w' => ∃ (p p2 : PS) (u : Int), e = .returned (.tuple #[p.v, p2.v, .int .i64 u]) ∧ TwoSt w' w.heap.size p p2 ∧ Grew w w' := by
  obtain ⟨n, bs, hr, hn⟩ := hc
  have g0 := ((Grew.refl w).alloc (.cells #[.slice none 0 0, .slice none 0 0, .int .i64 0] 27)).alloc (.cells #[.slice none 0 0, .slice none 0 0, .int .i64 0] 27)
  have hs0 : ((w.alloc (.cells #[.slice none 0 0, .slice none 0 0, .int .i64 0] 27)).alloc (.cells #[.slice none 0 0, .slice none 0 0, .int .i64 0] 27)).heap.size = w.heap.size + 2 := by simp
  have B0 := (Box.new w #[.slice none 0 0, .slice none 0 0, .int .i64 0] 27 3 rfl).grew ((Grew.refl _).alloc (.cells #[.slice none 0 0, .slice none 0 0, .int .i64 0] 27))
  have B1 := Box.new (w.alloc (.cells #[.slice none 0 0, .slice none 0 0, .int .i64 0] 27)) #[.slice none 0 0, .slice none 0 0, .int .i64 0] 27 3 rfl
  have hs1_ : (w.alloc (.cells #[.slice none 0 0, .slice none 0 0, .int .i64 0] 27)).heap.size = w.heap.size + 1 := by simp
  rw [hs1_] at B1
  clear hs1_
  go_enter Tryz.func14, Tryz.ntmps14
  go_wp2_with fail
  refine (l01New v n bs _ (hr.grew g0) hn).mono ?_
  rintro e w1 ⟨rfl, hc1, hg1, hs1⟩
  rw [hs0] at hc1 hs1
  replace B0 := B0.grew hg1
  replace B1 := B1.grew hg1
  have G1 := g0.trans hg1
  go_wp2_with fail
  refine (l05Store _ _ hc1).mono ?_
  rintro e w2 ⟨p, rfl, aas, hmd, hst, hd⟩
  have HSO := Lib.hid hmd.2.2.2
  obtain ⟨aaqa, aaqc, aara, aarc, hp⟩ := hst.slices
  subst hp
  have F0 : EB w.heap.size (w.heap.size + 2) w1 (w2.alloc (.cells #[.slice aaqa aas.schema.length aaqc, .slice aara aas.files.length aarc, .int .i64 aas.next] 27)) w2.heap.size w1.heap.size aas ⟨.slice aaqa aas.schema.length aaqc, .slice aara aas.files.length aarc, aas.next⟩ :=
    ⟨hd.grew ((Grew.refl _).alloc (.cells #[.slice aaqa aas.schema.length aaqc, .slice aara aas.files.length aarc, .int .i64 aas.next] 27)), CS.new rfl, (B0.d hd (by omega)).grew ((Grew.refl _).alloc (.cells #[.slice aaqa aas.schema.length aaqc, .slice aara aas.files.length aarc, .int .i64 aas.next] 27)), (B1.d hd (by omega)).grew ((Grew.refl _).alloc (.cells #[.slice aaqa aas.schema.length aaqc, .slice aara aas.files.length aarc, .int .i64 aas.next] 27)), hst.grew ((Grew.refl _).alloc (.cells #[.slice aaqa aas.schema.length aaqc, .slice aara aas.files.length aarc, .int .i64 aas.next] 27)), by have := hd.size; omega, by omega, hs1⟩
  clear hmd hst hd B0 B1 hc1 hr hn
  go_wp2_with fail
  generalize w2.alloc (.cells #[.slice aaqa aas.schema.length aaqc, .slice aara aas.files.length aarc, .int .i64 aas.next] 27) = W at F0 ⊢
  obtain ⟨ob, hob⟩ : ∃ x, w2.heap.size = x := ⟨_, rfl⟩
  rw [hob] at F0 ⊢
  clear hob
  refine (l01Below _ _ F0.d.cur 3 (by omega) (by omega)).mono ?_
  rintro e w3 ⟨x, rfl, hx, e3⟩
  have F3 := Lib.hid (F0.step e3)
  have hx0 : (0 : Int) ≤ x := hx.1
  have hx2 : x ≤ 2 := by omega
  clear F0 e3 hx
  go_wp2_with fail
  refine (l01Once _ _ F3.out.d.cur 3 (by decide) (by decide)).mono ?_
  rintro e w4 ⟨b, rfl, e4⟩
  have F4 := Lib.hid (F3.out.step e4)
  have FD := Lib.hid (F4.out.grew (Grew.refl _).drew)
  have hl := F4.out.ho
  have ht1 : ob ≠ w.heap.size := by omega
  have ht2 : ob ≠ w.heap.size + 1 := by omega
  have hw1 : w.heap.size + 2 ≤ w1.heap.size := by omega
  clear F3 e4
  cases b
  · go_wp2_with fail
    refine wp_region_noPanic ?_
    refine wp_region_T 7 (fun w' => (w'.cell? ⟨ob, 0, none⟩ = some (.slice aaqa aas.schema.length aaqc) ∧ w'.cell? ⟨ob, 1, none⟩ = some (.slice aara aas.files.length aarc) ∧ w'.cell? ⟨ob, 2, none⟩ = some (.int .i64 aas.next))) (by kernel_rfl) (⟨FD.out.cs.1, FD.out.cs.2.1, FD.out.cs.2.2.1⟩) ?_
    intro HS
    replace HS := HS.resolve_left (by decide)
    refine tkT 0 [7] HS ?_
    refine tkP 1 (.inr HS) ?_
    refine tkT 2 [7] HS ?_
    refine tkP 3 (.inr HS) ?_
    refine tkP 5 (.inr HS) ?_
    refine clT 4 (fun K hK => ?_)
    rw [if_pos (by rfl)]
    go_simp
    go_at_call 31
    refine (l06Hidden _ w1.heap.size aas ⟨.slice aaqa aas.schema.length aaqc, .slice aara aas.files.length aarc, aas.next⟩ x _ FD.out.d.cur FD.out.st FD.out.hb (by have := FD.out.d.size; omega) HSO.out ⟨hx0, hx2⟩).mono ?_
    rintro e wb ⟨p2, rfl, bbs, hso2, hst2, eb⟩
    obtain ⟨bbqa, bbqc, bbra, bbrc, hp⟩ := hst2.slices
    subst hp
    have FB := Lib.hid (FD.out.step eb)
    have HS2 := Lib.hid hst2
    have HSO2 := Lib.hid hso2
    clear hst2 hso2 eb
    refine hK.out _ _ (⟨FB.out.cs.1, FB.out.cs.2.1, FB.out.cs.2.2.1⟩) ?_
    clear HS hK K
    intro HS
    try simp only [Act.put, lpa, lpb, lpc]
    refine clT 6 (fun K hK => ?_)
    have FE := Lib.hid FB.out
    obtain ⟨fb0, f0⟩ := FE.out.b0.2.1 0 (by decide)
    obtain ⟨fb1, f1⟩ := FE.out.b0.2.1 1 (by decide)
    obtain ⟨fb2, f2⟩ := FE.out.b0.2.1 2 (by decide)
    have fz := FE.out.b0.2.2
    obtain ⟨kb0, k0⟩ := FE.out.b1.2.1 0 (by decide)
    obtain ⟨kb1, k1⟩ := FE.out.b1.2.1 1 (by decide)
    obtain ⟨kb2, k2⟩ := FE.out.b1.2.1 2 (by decide)
    have kz := FE.out.b1.2.2
    have HT := two_put FE.out.st HS2.out (by omega) (by omega) (g0.trans (D.out hg1 FE.out.d (by rw [hs0]; exact Nat.le_refl _))) (Nat.le_refl _)
    unfold World.put3 at HT
    rw [if_pos (by rfl)]
    go_simp
    refine hK.out _ _ (⟨cell_set_ne (a := ⟨w.heap.size, 2, none⟩) (cell_set_ne (a := ⟨w.heap.size, 1, none⟩) (cell_set_ne (a := ⟨w.heap.size, 0, none⟩) HS.1 ht1) ht1) ht1, cell_set_ne (a := ⟨w.heap.size, 2, none⟩) (cell_set_ne (a := ⟨w.heap.size, 1, none⟩) (cell_set_ne (a := ⟨w.heap.size, 0, none⟩) HS.2.1 ht1) ht1) ht1, cell_set_ne (a := ⟨w.heap.size, 2, none⟩) (cell_set_ne (a := ⟨w.heap.size, 1, none⟩) (cell_set_ne (a := ⟨w.heap.size, 0, none⟩) HS.2.2 ht1) ht1) ht1⟩) ?_
    clear HS hK K
    intro HS
    try simp only [Act.put, lpa, lpb, lpc]
    refine clE (fun K hK => ?_)
    rw [if_pos (by rfl)]
    go_simp
    refine hK.out _ _ fun _ => ?_
    clear HS hK K
    try simp only [Act.put, lpa, lpb, lpc]
    refine tkP 8 (.inl (by kernel_rfl)) ?_
    refine doneT ?_
    refine NoPanic.normal ?_
    go_wp2
    refine bodyPost_ret (v := .tuple #[PS.v ⟨.slice aaqa aas.schema.length aaqc, .slice aara aas.files.length aarc, aas.next⟩, PS.v ⟨.slice bbqa bbs.schema.length bbqc, .slice bbra bbs.files.length bbrc, bbs.next⟩, .int .i64 x]) (by simp [results, Tryz.results14, go_sem, f0, f1, f2, k0, k1, k2]) rfl (by first | exact ⟨⟨.slice aaqa aas.schema.length aaqc, .slice aara aas.files.length aarc, aas.next⟩, ⟨.slice bbqa bbs.schema.length bbqc, .slice bbra bbs.files.length bbrc, bbs.next⟩, x, rfl, ⟨aas, bbs, HSO.out.mono (by decide), HSO2.out, HT.1, HT.2.1⟩, HT.2.2⟩ | exact ⟨⟨.slice aaqa aas.schema.length aaqc, .slice aara aas.files.length aarc, aas.next⟩, ⟨.slice bbqa bbs.schema.length bbqc, .slice bbra bbs.files.length bbrc, bbs.next⟩, ⟨x, rfl⟩, ⟨aas, bbs, HSO.out.mono (by decide), HSO2.out, HT.1, HT.2.1⟩, HT.2.2⟩)
  · go_wp2_with fail
    refine wp_region_noPanic ?_
    refine wp_region_T 6 (fun w' => (w'.cell? ⟨ob, 0, none⟩ = some (.slice aaqa aas.schema.length aaqc) ∧ w'.cell? ⟨ob, 1, none⟩ = some (.slice aara aas.files.length aarc) ∧ w'.cell? ⟨ob, 2, none⟩ = some (.int .i64 aas.next))) (by kernel_rfl) (⟨FD.out.cs.1, FD.out.cs.2.1, FD.out.cs.2.2.1⟩) ?_
    intro HS
    replace HS := HS.resolve_left (by decide)
    refine tkT 0 [6] HS ?_
    refine tkP 1 (.inr HS) ?_
    refine tkP 3 (.inr HS) ?_
    refine clT 2 (fun K hK => ?_)
    rw [if_pos (by rfl)]
    go_simp
    go_at_call 29
    refine (l05Any _ _ FD.out.d.cur).mono ?_
    rintro e wa ⟨p2, rfl, bbs, hso2, hst2, ea⟩
    obtain ⟨bbqa, bbqc, bbra, bbrc, hp⟩ := hst2.slices
    subst hp
    have hws := FD.out.d.size
    have FA := Lib.hid (FD.out.step ea)
    have HS1 := Lib.hid (hst2.base (b := w1.heap.size) hws)
    have HSO2 := Lib.hid hso2
    clear hst2 hso2 ea
    refine hK.out _ _ (⟨FA.out.cs.1, FA.out.cs.2.1, FA.out.cs.2.2.1⟩) ?_
    clear HS hK K
    intro HS
    try simp only [Act.put, lpa, lpb, lpc]
    refine clT 4 (fun K hK => ?_)
    rw [if_pos (by rfl)]
    go_simp
    go_at_call 30
    refine (l06User _ _ FA.out.d.cur).mono ?_
    rintro e wb ⟨y, rfl, eb⟩
    have FB := Lib.hid (FA.out.step eb)
    have HS2 := Lib.hid (HS1.out.d eb FA.out.hb)
    clear eb
    refine hK.out _ _ (⟨FB.out.cs.1, FB.out.cs.2.1, FB.out.cs.2.2.1⟩) ?_
    clear HS hK K
    intro HS
    try simp only [Act.put, lpa, lpb, lpc]
    refine clT 5 (fun K hK => ?_)
    have FE := Lib.hid FB.out
    obtain ⟨fb0, f0⟩ := FE.out.b0.2.1 0 (by decide)
    obtain ⟨fb1, f1⟩ := FE.out.b0.2.1 1 (by decide)
    obtain ⟨fb2, f2⟩ := FE.out.b0.2.1 2 (by decide)
    have fz := FE.out.b0.2.2
    obtain ⟨kb0, k0⟩ := FE.out.b1.2.1 0 (by decide)
    obtain ⟨kb1, k1⟩ := FE.out.b1.2.1 1 (by decide)
    obtain ⟨kb2, k2⟩ := FE.out.b1.2.1 2 (by decide)
    have kz := FE.out.b1.2.2
    have HT := two_put FE.out.st HS2.out (by omega) (by omega) (g0.trans (D.out hg1 FE.out.d (by rw [hs0]; exact Nat.le_refl _))) (Nat.le_refl _)
    unfold World.put3 at HT
    rw [if_pos (by rfl)]
    go_simp
    refine hK.out _ _ (⟨cell_set_ne (a := ⟨w.heap.size, 2, none⟩) (cell_set_ne (a := ⟨w.heap.size, 1, none⟩) (cell_set_ne (a := ⟨w.heap.size, 0, none⟩) HS.1 ht1) ht1) ht1, cell_set_ne (a := ⟨w.heap.size, 2, none⟩) (cell_set_ne (a := ⟨w.heap.size, 1, none⟩) (cell_set_ne (a := ⟨w.heap.size, 0, none⟩) HS.2.1 ht1) ht1) ht1, cell_set_ne (a := ⟨w.heap.size, 2, none⟩) (cell_set_ne (a := ⟨w.heap.size, 1, none⟩) (cell_set_ne (a := ⟨w.heap.size, 0, none⟩) HS.2.2 ht1) ht1) ht1⟩) ?_
    clear HS hK K
    intro HS
    try simp only [Act.put, lpa, lpb, lpc]
    refine clE (fun K hK => ?_)
    rw [if_pos (by rfl)]
    go_simp
    refine hK.out _ _ fun _ => ?_
    clear HS hK K
    try simp only [Act.put, lpa, lpb, lpc]
    refine tkP 7 (.inl (by kernel_rfl)) ?_
    refine doneT ?_
    refine NoPanic.normal ?_
    go_wp2
    refine bodyPost_ret (v := .tuple #[PS.v ⟨.slice aaqa aas.schema.length aaqc, .slice aara aas.files.length aarc, aas.next⟩, PS.v ⟨.slice bbqa bbs.schema.length bbqc, .slice bbra bbs.files.length bbrc, bbs.next⟩, .int .i64 y]) (by simp [results, Tryz.results14, go_sem, f0, f1, f2, k0, k1, k2]) rfl (by first | exact ⟨⟨.slice aaqa aas.schema.length aaqc, .slice aara aas.files.length aarc, aas.next⟩, ⟨.slice bbqa bbs.schema.length bbqc, .slice bbra bbs.files.length bbrc, bbs.next⟩, y, rfl, ⟨aas, bbs, HSO.out.mono (by decide), HSO2.out, HT.1, HT.2.1⟩, HT.2.2⟩ | exact ⟨⟨.slice aaqa aas.schema.length aaqc, .slice aara aas.files.length aarc, aas.next⟩, ⟨.slice bbqa bbs.schema.length bbqc, .slice bbra bbs.files.length bbrc, bbs.next⟩, ⟨y, rfl⟩, ⟨aas, bbs, HSO.out.mono (by decide), HSO2.out, HT.1, HT.2.1⟩, HT.2.2⟩)
set_option maxRecDepth 100000 in
set_option maxHeartbeats 8000000 in
theorem drawEqualViews (v : Value) (w : World) (hc : Cd w v) :
    Calls Tryz.prog 5 #[v] w fun e w' => ∃ (p p2 : PS) (dv : Value) (u : Int), e = .returned (.tuple #[p.v, p2.v, dv, .int .i64 u]) ∧ TwoStD w' w.heap.size p p2 dv ∧ Grew w w' := by
  obtain ⟨n, bs, hr, hn⟩ := hc
  have g0 := ((Grew.refl w).alloc (.cells #[.slice none 0 0, .slice none 0 0, .int .i64 0] 27)).alloc (.cells #[.slice none 0 0, .slice none 0 0, .int .i64 0] 27)
  have hs0 : ((w.alloc (.cells #[.slice none 0 0, .slice none 0 0, .int .i64 0] 27)).alloc (.cells #[.slice none 0 0, .slice none 0 0, .int .i64 0] 27)).heap.size = w.heap.size + 2 := by simp
  have B0 := (Box.new w #[.slice none 0 0, .slice none 0 0, .int .i64 0] 27 3 rfl).grew ((Grew.refl _).alloc (.cells #[.slice none 0 0, .slice none 0 0, .int .i64 0] 27))
  have B1 := Box.new (w.alloc (.cells #[.slice none 0 0, .slice none 0 0, .int .i64 0] 27)) #[.slice none 0 0, .slice none 0 0, .int .i64 0] 27 3 rfl
  have hs1_ : (w.alloc (.cells #[.slice none 0 0, .slice none 0 0, .int .i64 0] 27)).heap.size = w.heap.size + 1 := by simp
  rw [hs1_] at B1
  clear hs1_
  go_enter Tryz.func5, Tryz.ntmps5
  go_wp2_with fail
  refine (l01New v n bs _ (hr.grew g0) hn).mono ?_
  rintro e w1 ⟨rfl, hc1, hg1, hs1⟩
  rw [hs0] at hc1 hs1
  replace B0 := B0.grew hg1
  replace B1 := B1.grew hg1
  have G1 := g0.trans hg1
  go_wp2_with fail
  refine (drawEqualForUser v _ ⟨n, bs, hr.grew G1, hn⟩).mono ?_
  rintro e w2 ⟨p, p2, u, rfl, ⟨aas, bbs, hso, hso2, hst, hst2⟩, g2⟩
  obtain ⟨aaqa, aaqc, aara, aarc, hp⟩ := hst.slices
  subst hp
  obtain ⟨bbqa, bbqc, bbra, bbrc, hp⟩ := hst2.slices
  subst hp
  have GA := (g2.alloc (.cells #[.slice aaqa aas.schema.length aaqc, .slice aara aas.files.length aarc, .int .i64 aas.next] 27)).alloc (.cells #[.slice bbqa bbs.schema.length bbqc, .slice bbra bbs.files.length bbrc, .int .i64 bbs.next] 27)
  have C1 : CS ((w2.alloc (.cells #[.slice aaqa aas.schema.length aaqc, .slice aara aas.files.length aarc, .int .i64 aas.next] 27)).alloc (.cells #[.slice bbqa bbs.schema.length bbqc, .slice bbra bbs.files.length bbrc, .int .i64 bbs.next] 27)) w2.heap.size ⟨.slice aaqa aas.schema.length aaqc, .slice aara aas.files.length aarc, aas.next⟩ := (CS.new rfl : CS (w2.alloc (.cells #[.slice aaqa aas.schema.length aaqc, .slice aara aas.files.length aarc, .int .i64 aas.next] 27)) w2.heap.size ⟨.slice aaqa aas.schema.length aaqc, .slice aara aas.files.length aarc, aas.next⟩).grew ((Grew.refl _).alloc (.cells #[.slice bbqa bbs.schema.length bbqc, .slice bbra bbs.files.length bbrc, .int .i64 bbs.next] 27))
  have C2 : CS ((w2.alloc (.cells #[.slice aaqa aas.schema.length aaqc, .slice aara aas.files.length aarc, .int .i64 aas.next] 27)).alloc (.cells #[.slice bbqa bbs.schema.length bbqc, .slice bbra bbs.files.length bbrc, .int .i64 bbs.next] 27)) (w2.heap.size + 1) ⟨.slice bbqa bbs.schema.length bbqc, .slice bbra bbs.files.length bbrc, bbs.next⟩ := CS.new (by simp)
  have HSO := Lib.hid hso
  have HSO2 := Lib.hid hso2
  have F0 : EB w.heap.size (w.heap.size + 2) w1 ((w2.alloc (.cells #[.slice aaqa aas.schema.length aaqc, .slice aara aas.files.length aarc, .int .i64 aas.next] 27)).alloc (.cells #[.slice bbqa bbs.schema.length bbqc, .slice bbra bbs.files.length bbrc, .int .i64 bbs.next] 27)) w2.heap.size w1.heap.size aas ⟨.slice aaqa aas.schema.length aaqc, .slice aara aas.files.length aarc, aas.next⟩ :=
    ⟨(D.refl hc1).grew GA, C1, B0.grew GA, B1.grew GA, hst.grew (((Grew.refl _).alloc (.cells #[.slice aaqa aas.schema.length aaqc, .slice aara aas.files.length aarc, .int .i64 aas.next] 27)).alloc (.cells #[.slice bbqa bbs.schema.length bbqc, .slice bbra bbs.files.length bbrc, .int .i64 bbs.next] 27)), by have := g2.size; omega, by omega, hs1⟩
  have HS2 := Lib.hid (hst2.grew (((Grew.refl _).alloc (.cells #[.slice aaqa aas.schema.length aaqc, .slice aara aas.files.length aarc, .int .i64 aas.next] 27)).alloc (.cells #[.slice bbqa bbs.schema.length bbqc, .slice bbra bbs.files.length bbrc, .int .i64 bbs.next] 27)))
  clear hso hso2 hst hst2 B0 B1 hr hn hc1 GA C1
  go_wp2_with fail
  generalize (w2.alloc (.cells #[.slice aaqa aas.schema.length aaqc, .slice aara aas.files.length aarc, .int .i64 aas.next] 27)).alloc (.cells #[.slice bbqa bbs.schema.length bbqc, .slice bbra bbs.files.length bbrc, .int .i64 bbs.next] 27) = W at F0 HS2 C2 ⊢
  obtain ⟨ob, hob⟩ : ∃ x, w2.heap.size = x := ⟨_, rfl⟩
  rw [hob] at F0 C2 ⊢
  clear hob
  have FD := Lib.hid (F0.grew (Grew.refl _).drew)
  have CD := Lib.hid (C2.grew (Grew.refl _).drew)
  have HSD := Lib.hid (HS2.out.grew (Grew.refl _).drew)
  have hl := FD.out.ho
  have hw1 : w.heap.size + 2 ≤ w1.heap.size := by omega
  have ht1 : ob ≠ w.heap.size := by omega
  have ht3 : ob + 1 ≠ w.heap.size := by omega
  clear F0 C2 HS2
  refine wp_region_noPanic ?_
  refine wp_region_T 6 (fun w' => (w'.cell? ⟨ob, 0, none⟩ = some (.slice aaqa aas.schema.length aaqc) ∧ w'.cell? ⟨ob, 1, none⟩ = some (.slice aara aas.files.length aarc) ∧ w'.cell? ⟨ob, 2, none⟩ = some (.int .i64 aas.next) ∧ w'.cell? ⟨ob + 1, 0, none⟩ = some (.slice bbqa bbs.schema.length bbqc) ∧ w'.cell? ⟨ob + 1, 1, none⟩ = some (.slice bbra bbs.files.length bbrc) ∧ w'.cell? ⟨ob + 1, 2, none⟩ = some (.int .i64 bbs.next))) (by kernel_rfl) (⟨FD.out.cs.1, FD.out.cs.2.1, FD.out.cs.2.2.1, CD.out.1, CD.out.2.1, CD.out.2.2.1⟩) ?_
  intro HS
  replace HS := HS.resolve_left (by decide)
  refine tkT 0 [6] HS ?_
  refine tkT 1 [6] HS ?_
  refine tkP 2 (.inr HS) ?_
  refine tkP 4 (.inr HS) ?_
  refine clT 3 (fun K hK => ?_)
  rw [if_pos (by rfl)]
  go_simp
  go_at_call 15
  refine (l13Dirs _ _ FD.out.d.cur).mono ?_
  rintro e wb ⟨dv, rfl, d, hdo, hgl, eb⟩
  have hws := FD.out.d.size
  have FB := Lib.hid (FD.out.step eb)
  have CB := Lib.hid (CD.out.d eb (by omega))
  have HS2 := Lib.hid (HSD.out.d eb FD.out.hb)
  have HDO := Lib.hid hdo
  have HGL := Lib.hid hgl
  obtain ⟨da, dc, rfl⟩ := GL.slice hgl
  clear hgl hdo eb
  refine hK.out _ _ (⟨FB.out.cs.1, FB.out.cs.2.1, FB.out.cs.2.2.1, CB.out.1, CB.out.2.1, CB.out.2.2.1⟩) ?_
  clear HS hK K
  intro HS
  try simp only [Act.put, lpa, lpb, lpc]
  refine clT 5 (fun K hK => ?_)
  have FE := Lib.hid FB.out
  obtain ⟨fb0, f0⟩ := FE.out.b0.2.1 0 (by decide)
  obtain ⟨fb1, f1⟩ := FE.out.b0.2.1 1 (by decide)
  obtain ⟨fb2, f2⟩ := FE.out.b0.2.1 2 (by decide)
  have fz := FE.out.b0.2.2
  obtain ⟨kb0, k0⟩ := FE.out.b1.2.1 0 (by decide)
  obtain ⟨kb1, k1⟩ := FE.out.b1.2.1 1 (by decide)
  obtain ⟨kb2, k2⟩ := FE.out.b1.2.1 2 (by decide)
  have kz := FE.out.b1.2.2
  have HT := two_put FE.out.st HS2.out (by omega) (by omega) (g0.trans (D.out hg1 FE.out.d (by rw [hs0]; exact Nat.le_refl _))) (Nat.le_refl _)
  unfold World.put3 at HT
  have HL := ((HGL.out.tch (touch3 wb w.heap.size ⟨.slice aaqa aas.schema.length aaqc, .slice aara aas.files.length aarc, aas.next⟩) (by omega)).tch (touch3 _ (w.heap.size + 1) ⟨.slice bbqa bbs.schema.length bbqc, .slice bbra bbs.files.length bbrc, bbs.next⟩) (by omega)).base (base' := w.heap.size) (by omega)
  unfold World.put3 at HL
  rw [if_pos (by rfl)]
  go_simp
  refine hK.out _ _ (⟨cell_set_ne (a := ⟨w.heap.size, 2, none⟩) (cell_set_ne (a := ⟨w.heap.size, 1, none⟩) (cell_set_ne (a := ⟨w.heap.size, 0, none⟩) HS.1 ht1) ht1) ht1, cell_set_ne (a := ⟨w.heap.size, 2, none⟩) (cell_set_ne (a := ⟨w.heap.size, 1, none⟩) (cell_set_ne (a := ⟨w.heap.size, 0, none⟩) HS.2.1 ht1) ht1) ht1, cell_set_ne (a := ⟨w.heap.size, 2, none⟩) (cell_set_ne (a := ⟨w.heap.size, 1, none⟩) (cell_set_ne (a := ⟨w.heap.size, 0, none⟩) HS.2.2.1 ht1) ht1) ht1, cell_set_ne (a := ⟨w.heap.size, 2, none⟩) (cell_set_ne (a := ⟨w.heap.size, 1, none⟩) (cell_set_ne (a := ⟨w.heap.size, 0, none⟩) HS.2.2.2.1 ht3) ht3) ht3, cell_set_ne (a := ⟨w.heap.size, 2, none⟩) (cell_set_ne (a := ⟨w.heap.size, 1, none⟩) (cell_set_ne (a := ⟨w.heap.size, 0, none⟩) HS.2.2.2.2.1 ht3) ht3) ht3, cell_set_ne (a := ⟨w.heap.size, 2, none⟩) (cell_set_ne (a := ⟨w.heap.size, 1, none⟩) (cell_set_ne (a := ⟨w.heap.size, 0, none⟩) HS.2.2.2.2.2 ht3) ht3) ht3⟩) ?_
  clear HS hK K
  intro HS
  try simp only [Act.put, lpa, lpb, lpc]
  refine clE (fun K hK => ?_)
  rw [if_pos (by rfl)]
  go_simp
  refine hK.out _ _ fun _ => ?_
  clear HS hK K
  try simp only [Act.put, lpa, lpb, lpc]
  refine tkP 7 (.inl (by kernel_rfl)) ?_
  refine tkP 8 (.inl (by kernel_rfl)) ?_
  refine doneT ?_
  refine NoPanic.normal ?_
  go_wp2
  refine bodyPost_ret (v := .tuple #[PS.v ⟨.slice aaqa aas.schema.length aaqc, .slice aara aas.files.length aarc, aas.next⟩, PS.v ⟨.slice bbqa bbs.schema.length bbqc, .slice bbra bbs.files.length bbrc, bbs.next⟩, .slice da d.length dc, .int .i64 u]) (by simp [results, Tryz.results5, go_sem, f0, f1, f2, k0, k1, k2]) rfl (by first | exact ⟨⟨.slice aaqa aas.schema.length aaqc, .slice aara aas.files.length aarc, aas.next⟩, ⟨.slice bbqa bbs.schema.length bbqc, .slice bbra bbs.files.length bbrc, bbs.next⟩, .slice da d.length dc, u, rfl, ⟨aas, bbs, d, HSO.out, HSO2.out, HDO.out, HT.1, HT.2.1, HL⟩, HT.2.2⟩ | exact ⟨⟨.slice aaqa aas.schema.length aaqc, .slice aara aas.files.length aarc, aas.next⟩, ⟨.slice bbqa bbs.schema.length bbqc, .slice bbra bbs.files.length bbrc, bbs.next⟩, .slice da d.length dc, ⟨u, rfl⟩, ⟨aas, bbs, d, HSO.out, HSO2.out, HDO.out, HT.1, HT.2.1, HL⟩, HT.2.2⟩)
end Go.Proofs.YtemikjbfjhebnaaGreat
