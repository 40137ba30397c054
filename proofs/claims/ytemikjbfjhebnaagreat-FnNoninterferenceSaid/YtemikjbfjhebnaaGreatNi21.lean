/- Texts Z19, Z20, Z27, Z22, as far as they are needed. -/
import Derived.Test.YtemikjbfjhebnaaGreatNi20
import Derived.Test.YtemikjbfjhebnaaGreatNi6
namespace Go.Proofs.YtemikjbfjhebnaaGreat
open Go.RowKit
set_option linter.unusedVariables false
set_option linter.unusedSimpArgs false
noncomputable def creB (s : St) (f : Fl) : Bool := stoB s && (decide (s.files.length < 12) && filB s.schema ⟨s.next, f.owner, f.shared, f.link, f.attrs⟩)
noncomputable def creS (s : St) (f : Fl) : St := if creB s f then addF s f else s
noncomputable def creI (s : St) (f : Fl) : Int := if creB s f then s.next else 0
theorem creS_or (s : St) (f : Fl) : creS s f = s ∨ creS s f = addF s f := by
  unfold creS; split
  · exact .inr rfl
  · exact .inl rfl
theorem grown_off {w w' : World} {row : Option Nat} {base : Nat} (hg : w.grownBy w' row) (hr : ∀ k, row = some k → base ≤ k) : ∃ lo hi, base ≤ lo ∧ Touch lo hi w w' := by
  cases row with
  | none => exact ⟨base, base, Nat.le_refl _, grown_touch hg (fun k hk => by cases hk)⟩
  | some k => exact ⟨k, k + 1, hr k rfl, grown_touch hg (fun j hj => by cases hj; omega)⟩
structure Cr (w : World) (base lo : Nat) (s : St) (p : PS) (ps : List P5) (f : Fl) (q : P5) : Prop where
  sq : w.ownsRow base 87 2 p.q s.schema.length (rows Fd.c s.schema)
  sr : w.ownsRow base 55 5 p.r s.files.length (rows P5.c ps)
  sa : All2 (Fl.O w base lo) s.files ps
  sf : Fl.O w lo w.heap.size f q
  l : base ≤ lo
  m : lo ≤ w.heap.size
theorem Cr.tch {w w' : World} {base lo x y : Nat} {s : St} {p : PS} {ps : List P5} {f : Fl} {q : P5} (h : Cr w base lo s p ps f q) (ht : Touch x y w w') (hy : y ≤ base) : Cr w' base lo s p ps f q :=
  ⟨ownsRow_tch h.sq ht hy, ownsRow_tch h.sr ht hy, h.sa.mono fun x p k => k.touch ht (.inr hy), (h.sf.touch ht (.inr (Nat.le_trans hy h.l))).mono (Nat.le_refl _) ht.size, h.l, Nat.le_trans h.m ht.size⟩
theorem Cr.grew {w w' : World} {base lo : Nat} {s : St} {p : PS} {ps : List P5} {f : Fl} {q : P5} (h : Cr w base lo s p ps f q) (hg : Grew w w') : Cr w' base lo s p ps f q :=
  h.tch (hg.touch base base) (Nat.le_refl _)
theorem Cr.set {w : World} {base lo : Nat} {s : St} {p : PS} {ps : List P5} {f : Fl} {q : P5} (h : Cr w base lo s p ps f q) {c : Addr} (hc : c.block < base) (u : Value) : Cr (w.setCell c u) base lo s p ps f q :=
  h.tch (Touch.setCell (Touch.refl c.block (c.block + 1) w) (Nat.le_refl _) (Nat.lt_succ_self _) u) hc
theorem Cr.st {w : World} {base lo : Nat} {s : St} {p : PS} {ps : List P5} {f : Fl} {q : P5} (h : Cr w base lo s p ps f q) (hn : p.n = s.next) : StG w base s p :=
  ⟨h.sq, ⟨ps, h.sr, h.sa.mono fun x p k => k.mono (Nat.le_refl _) h.m⟩, hn⟩
theorem Cr.add {w w' : World} {base lo : Nat} {s : St} {p : PS} {ps : List P5} {f : Fl} {q : P5} {v : Value} (h : Cr w base lo s p ps ⟨s.next, f.owner, f.shared, f.link, f.attrs⟩ q) (hown : w'.ownsRow base 55 5 v (s.files.length + 1) (rows P5.c ps ++ P5.c q)) (hg : w.grownBy w' p.r.ownBlock) : StG w' base (addF s f) ⟨p.q, v, s.next + 1⟩ := by
  refine ⟨?_, GrowF.snoc h.sr h.sa h.sf h.l h.m hown hg hg.size, rfl⟩
  exact (own_grown (Own.mono (own_of h.sq) (Nat.le_refl _) (Nat.le_refl _)) h.sr (by decide) hg).1
theorem Fl.O.id {w : World} {lo hi : Nat} {f : Fl} {q : P5} (h : Fl.O w lo hi f q) (x : Int) : Fl.O w lo hi ⟨x, f.owner, f.shared, f.link, f.attrs⟩ ⟨x, q.owner, q.shared, q.link, q.attrs⟩ :=
  ⟨rfl, h.2.1, h.2.2.1, h.2.2.2.1, h.2.2.2.2⟩
set_option maxRecDepth 100000 in
set_option maxHeartbeats 8000000 in
theorem createFile (s : St) (p : PS) (f : Fl) (pf : P5) (w : World) (hs : St.R w s p) (hf : Fl.R w f pf) (hz : s.sz ≤ 4000000) (hfz : f.sz ≤ 1000000) :
    Calls Tryz.prog 53 #[p.v, pf.v] w fun e w' => ∃ p' : PS, e = .returned (.tuple #[p'.v, .int .i64 (creI s f), .bool (creB s f)]) ∧ StG w' w.heap.size (creS s f) p' ∧ Grew w w' := by
  have HS := Lib.hid hs
  have HF := Lib.hid hf
  obtain ⟨p_q, p_r, p_n⟩ := p
  obtain ⟨⟨qa, qc, hq, _, _⟩, ⟨_, ⟨ra, rc, hr, _, _⟩, _⟩, hn⟩ := hs
  simp only at hq hr hn
  subst hq
  subst hr
  subst hn
  obtain ⟨f_1, f_2, f_3, f_4, f_5⟩ := pf
  obtain ⟨h1, h2, h3, h4, ⟨fa, fc, h5, _, _⟩⟩ := hf
  simp only at h1 h2 h3 h4 h5
  subst h1
  subst h2
  subst h3
  subst h4
  subst h5
  have hfl : f.attrs.length ≤ 4000000 := by unfold Fl.sz at hfz; omega
  have hsm := St.small_of hz
  have hsf := hsm.2.1
  have hsc := hsm.1
  clear hsm
  obtain ⟨j0, hj, hy0, hy1, hy2⟩ := info_parts Tryz.infoFl
  have gW := (((Grew.refl w).alloc (.cells #[.slice qa s.schema.length qc, .slice ra s.files.length rc, .int .i64 s.next] 27)).alloc (.cells #[.int .i64 f.id, .int .i64 f.owner, .bool f.shared, .int .i64 f.link, .slice fa f.attrs.length fc] 55)).alloc (.cells #[.slice none 0 0, .slice none 0 0, .int .i64 0] 27)
  have SA := (CS.new rfl : CS (w.alloc (.cells #[.slice qa s.schema.length qc, .slice ra s.files.length rc, .int .i64 s.next] 27)) w.heap.size ⟨.slice qa s.schema.length qc, .slice ra s.files.length rc, s.next⟩).grew (((Grew.refl _).alloc (.cells #[.int .i64 f.id, .int .i64 f.owner, .bool f.shared, .int .i64 f.link, .slice fa f.attrs.length fc] 55)).alloc (.cells #[.slice none 0 0, .slice none 0 0, .int .i64 0] 27))
  have SF : CF (((w.alloc (.cells #[.slice qa s.schema.length qc, .slice ra s.files.length rc, .int .i64 s.next] 27)).alloc (.cells #[.int .i64 f.id, .int .i64 f.owner, .bool f.shared, .int .i64 f.link, .slice fa f.attrs.length fc] 55)).alloc (.cells #[.slice none 0 0, .slice none 0 0, .int .i64 0] 27)) (w.heap.size + 1) ⟨f.id, f.owner, f.shared, f.link, .slice fa f.attrs.length fc⟩ := (CF.new (p := ⟨f.id, f.owner, f.shared, f.link, .slice fa f.attrs.length fc⟩) (by simp)).grew ((Grew.refl _).alloc (.cells #[.slice none 0 0, .slice none 0 0, .int .i64 0] 27))
  have SC : CS (((w.alloc (.cells #[.slice qa s.schema.length qc, .slice ra s.files.length rc, .int .i64 s.next] 27)).alloc (.cells #[.int .i64 f.id, .int .i64 f.owner, .bool f.shared, .int .i64 f.link, .slice fa f.attrs.length fc] 55)).alloc (.cells #[.slice none 0 0, .slice none 0 0, .int .i64 0] 27)) (w.heap.size + 2) ⟨.slice none 0 0, .slice none 0 0, 0⟩ := CS.new (by simp)
  go_enter Tryz.func53, Tryz.ntmps53
  go_wp2_with fail
  generalize ((w.alloc (.cells #[.slice qa s.schema.length qc, .slice ra s.files.length rc, .int .i64 s.next] 27)).alloc (.cells #[.int .i64 f.id, .int .i64 f.owner, .bool f.shared, .int .i64 f.link, .slice fa f.attrs.length fc] 55)).alloc (.cells #[.slice none 0 0, .slice none 0 0, .int .i64 0] 27) = W at gW SA SF SC ⊢
  have hsW := SC.lt
  refine (l05Copy s ⟨.slice qa s.schema.length qc, .slice ra s.files.length rc, s.next⟩ W (HS.out.grew gW) hz).mono ?_
  rintro e w1 ⟨p1, rfl, hg, g1⟩
  obtain ⟨xa, xc, ya, yc, rfl⟩ := hg.slices
  have SA1 := SA.grew g1
  have SF1 := SF.grew g1
  have SC1 := SC.grew g1
  have G1 : Grew w (World.put3 w1 w.heap.size ⟨.slice xa s.schema.length xc, .slice ya s.files.length yc, s.next⟩) := Touch.new (gW.trans g1) (touch3 _ _ _) (Nat.le_refl _)
  have SA2 := Lib.hid (SA1.put ⟨.slice xa s.schema.length xc, .slice ya s.files.length yc, s.next⟩)
  have SF2 := Lib.hid (SF1.tch (touch3 w1 w.heap.size ⟨.slice xa s.schema.length xc, .slice ya s.files.length yc, s.next⟩) (by omega))
  have SC2 := Lib.hid (SC1.tch (touch3 w1 w.heap.size ⟨.slice xa s.schema.length xc, .slice ya s.files.length yc, s.next⟩) (by omega))
  have ST2 := Lib.hid (hg.tch (touch3 w1 w.heap.size ⟨.slice xa s.schema.length xc, .slice ya s.files.length yc, s.next⟩) (by omega))
  have hs1 := g1.size
  have hsz2 : (World.put3 w1 w.heap.size ⟨.slice xa s.schema.length xc, .slice ya s.files.length yc, s.next⟩).heap.size = w1.heap.size := by unfold World.put3; simp
  clear SA SF SC hg
  obtain ⟨A0, A1, A2, zA⟩ := SA1
  obtain ⟨B0, B1, B2, B3, B4, zB⟩ := SF1
  obtain ⟨C0, C1, C2, zC⟩ := SC1
  dsimp only at A0 A1 A2 B0 B1 B2 B3 B4 C0 C1 C2
  go_wp2_with fail
  refine (l04Copy f ⟨f.id, f.owner, f.shared, f.link, .slice fa f.attrs.length fc⟩ _ (HF.out.grew G1) hfl).mono ?_
  rintro e w3 ⟨⟨q_1, q_2, q_3, q_4, q_5⟩, rfl, ho, g3⟩
  obtain ⟨h1, h2, h3, h4, h5⟩ := ho
  simp only at h1 h2 h3 h4 h5
  subst h1
  subst h2
  subst h3
  subst h4
  obtain ⟨fa2, fc2, rfl⟩ := own_slice h5.1
  have g3' : Grew (World.put3 w1 w.heap.size ⟨.slice xa s.schema.length xc, .slice ya s.files.length yc, s.next⟩) w3 := g3
  obtain ⟨ps, r1, r2⟩ := ST2.out.r
  have CR3 : Cr w3 W.heap.size w1.heap.size s ⟨.slice xa s.schema.length xc, .slice ya s.files.length yc, s.next⟩ ps f ⟨f.id, f.owner, f.shared, f.link, .slice fa2 f.attrs.length fc2⟩ := by
    refine ⟨ownsRow_grew ST2.out.q g3', ownsRow_grew r1 g3', r2.mono fun x p k => ?_, ⟨rfl, rfl, rfl, rfl, ?_⟩, hs1, by have := g3'.size; omega⟩
    · rw [hsz2] at k; exact k.grew g3'
    · have h6 : Own w3 (World.put3 w1 w.heap.size ⟨.slice xa s.schema.length xc, .slice ya s.files.length yc, s.next⟩).heap.size w3.heap.size 84 4 (.slice fa2 f.attrs.length fc2) f.attrs.length (rows At.c f.attrs) := h5
      rw [hsz2] at h6; exact h6
  have SA3 := Lib.hid (SA2.out.grew g3')
  have SF3 := Lib.hid (SF2.out.grew g3')
  have SC3 := Lib.hid (SC2.out.grew g3')
  have G3 := G1.trans g3'
  clear h5 r1 r2 ST2 SA2 SF2 SC2 g3 hsz2
  have hs3 := CR3.m
  have T4 := touch5 w3 (w.heap.size + 1) ⟨f.id, f.owner, f.shared, f.link, .slice fa2 f.attrs.length fc2⟩
  have SA4 := Lib.hid ((SA3.out.tch T4 (by omega)).off (q := ⟨w.heap.size + 1, 0, none⟩) (by dsimp only; omega) (.int .i64 s.next))
  have SC4 := Lib.hid ((SC3.out.tch T4 (by omega)).off (q := ⟨w.heap.size + 1, 0, none⟩) (by dsimp only; omega) (.int .i64 s.next))
  have SF4 := Lib.hid ((SF3.out.put ⟨f.id, f.owner, f.shared, f.link, .slice fa2 f.attrs.length fc2⟩).id s.next)
  have CR4 := Lib.hid ((CR3.tch T4 (by omega)).set (c := ⟨w.heap.size + 1, 0, none⟩) (by dsimp only; omega) (.int .i64 s.next))
  have G4 : Grew w ((World.put5 w3 (w.heap.size + 1) ⟨f.id, f.owner, f.shared, f.link, .slice fa2 f.attrs.length fc2⟩).setCell ⟨w.heap.size + 1, 0, none⟩ (.int .i64 s.next)) := (Touch.new G3 T4 (by omega)).setCell (by dsimp only; omega) _
  clear CR3 T4
  clear A0 A1 A2 zA B0 B1 B2 B3 B4 zB C0 C1 C2 zC
  obtain ⟨A0, A1, A2, zA⟩ := SA3.out
  dsimp only at A0 A1 A2
  obtain ⟨B0, B1, B2, B3, B4, zB⟩ := SF3.out
  dsimp only at B0 B1 B2 B3 B4
  obtain ⟨C0, C1, C2, zC⟩ := SC3.out
  dsimp only at C0 C1 C2
  obtain ⟨vb, hvb⟩ : ∃ b, stoB s = b := ⟨_, rfl⟩
  have HV := Lib.hid hvb
  clear hvb SA3 SF3 SC3
  go_wp2_with fail
  refine (specIsValidStore s ⟨.slice xa s.schema.length xc, .slice ya s.files.length yc, s.next⟩ _ (CR4.out.st rfl).rd hz).mono ?_
  rintro e w5 ⟨he, g5⟩
  rw [HV.out] at he
  subst he
  have g5' : Grew ((World.put5 w3 (w.heap.size + 1) ⟨f.id, f.owner, f.shared, f.link, .slice fa2 f.attrs.length fc2⟩).setCell ⟨w.heap.size + 1, 0, none⟩ (.int .i64 s.next)) w5 := g5
  have SA5 := Lib.hid (SA4.out.grew g5')
  have SF5 := Lib.hid (SF4.out.grew g5')
  have SC5 := Lib.hid (SC4.out.grew g5')
  have CR5 := Lib.hid (CR4.out.grew g5')
  have G5 := G4.trans g5'
  clear SA4 SF4 SC4 CR4 g5
  clear A0 A1 A2 zA B0 B1 B2 B3 B4 zB C0 C1 C2 zC
  obtain ⟨A0, A1, A2, zA⟩ := SA5.out
  dsimp only at A0 A1 A2
  obtain ⟨B0, B1, B2, B3, B4, zB⟩ := SF5.out
  dsimp only at B0 B1 B2 B3 B4
  obtain ⟨C0, C1, C2, zC⟩ := SC5.out
  dsimp only at C0 C1 C2
  cases vb
  · skip
    go_wp2
    have hcr : creB s f = false := by unfold creB; rw [HV.out]; rfl
    refine bodyPost_ret (v := .tuple #[PS.v ⟨.slice xa s.schema.length xc, .slice ya s.files.length yc, s.next⟩, .int .i64 0, .bool false]) (by simp [results, Tryz.results53, go_sem, C0, C1, C2]) rfl ⟨⟨.slice xa s.schema.length xc, .slice ya s.files.length yc, s.next⟩, by simp [creI, hcr], ?_, ?_⟩
    · have e : creS s f = s := by simp [creS, hcr]
      rw [e]
      refine StG.base (a := W.heap.size) ?_ (by omega)
      have h := CR5.out.st rfl
      repeat' (first | with_reducible exact h | with_reducible refine StG.set ?_ ?_ _ | (dsimp only; omega))
    · repeat' (first | with_reducible exact G5 | with_reducible refine Grew.setCell ?_ ?_ _ | (dsimp only; omega))
  · by_cases hlt : 12 ≤ s.files.length
    · have hge : (12 : Int) ≤ (s.files.length : Int) := by omega
      go_wp2
      have hcr : creB s f = false := by unfold creB; rw [decide_eq_false (by omega)]; simp
      refine bodyPost_ret (v := .tuple #[PS.v ⟨.slice xa s.schema.length xc, .slice ya s.files.length yc, s.next⟩, .int .i64 0, .bool false]) (by simp [results, Tryz.results53, go_sem, C0, C1, C2]) rfl ⟨⟨.slice xa s.schema.length xc, .slice ya s.files.length yc, s.next⟩, by simp [creI, hcr], ?_, ?_⟩
      · have e : creS s f = s := by simp [creS, hcr]
        rw [e]
        refine StG.base (a := W.heap.size) ?_ (by omega)
        have h := CR5.out.st rfl
        repeat' (first | with_reducible exact h | with_reducible refine StG.set ?_ ?_ _ | (dsimp only; omega))
      · repeat' (first | with_reducible exact G5 | with_reducible refine Grew.setCell ?_ ?_ _ | (dsimp only; omega))
    · have hge : ¬ ((12 : Int) ≤ (s.files.length : Int)) := by omega
      obtain ⟨fb, hfb⟩ : ∃ b, filB s.schema ⟨s.next, f.owner, f.shared, f.link, f.attrs⟩ = b := ⟨_, rfl⟩
      have HFB := Lib.hid hfb
      clear hfb
      have hzs : szAll Fd.sz s.schema ≤ 4000000 := by unfold St.sz at hz; omega
      have hz2 : Fl.sz ⟨s.next, f.owner, f.shared, f.link, f.attrs⟩ ≤ 4000000 := by unfold Fl.sz at hfz ⊢; dsimp only; omega
      have HSC := Lib.hid (rd_of_own CR5.out.sq)
      have HFR := Lib.hid ((Fl.O.id CR5.out.sf s.next).rd)
      go_wp2_with fail
      refine (specIsValidFile _ s.schema.length s.schema ⟨s.next, f.owner, f.shared, f.link, f.attrs⟩ ⟨s.next, f.owner, f.shared, f.link, .slice fa2 f.attrs.length fc2⟩ _ HSC.out HFR.out hsc hzs hz2).mono ?_
      rintro e w6 ⟨he, g6⟩
      rw [HFB.out] at he
      subst he
      have SA6 := Lib.hid (SA5.out.grew g6)
      have SF6 := Lib.hid (SF5.out.grew g6)
      have SC6 := Lib.hid (SC5.out.grew g6)
      have CR6 := Lib.hid (CR5.out.grew g6)
      have G6 := G5.trans g6
      clear SA5 SF5 SC5 CR5 HSC HFR
      clear A0 A1 A2 zA B0 B1 B2 B3 B4 zB C0 C1 C2 zC
      obtain ⟨A0, A1, A2, zA⟩ := SA6.out
      dsimp only at A0 A1 A2
      obtain ⟨B0, B1, B2, B3, B4, zB⟩ := SF6.out
      dsimp only at B0 B1 B2 B3 B4
      obtain ⟨C0, C1, C2, zC⟩ := SC6.out
      dsimp only at C0 C1 C2
      cases fb
      · skip
        go_wp2
        have hcr : creB s f = false := by unfold creB; rw [HFB.out]; simp
        refine bodyPost_ret (v := .tuple #[PS.v ⟨.slice xa s.schema.length xc, .slice ya s.files.length yc, s.next⟩, .int .i64 0, .bool false]) (by simp [results, Tryz.results53, go_sem, C0, C1, C2]) rfl ⟨⟨.slice xa s.schema.length xc, .slice ya s.files.length yc, s.next⟩, by simp [creI, hcr], ?_, ?_⟩
        · have e : creS s f = s := by simp [creS, hcr]
          rw [e]
          refine StG.base (a := W.heap.size) ?_ (by omega)
          have h := CR6.out.st rfl
          repeat' (first | with_reducible exact h | with_reducible refine StG.set ?_ ?_ _ | (dsimp only; omega))
        · repeat' (first | with_reducible exact G6 | with_reducible refine Grew.setCell ?_ ?_ _ | (dsimp only; omega))
      · have hcr : creB s f = true := by unfold creB; rw [HV.out, HFB.out, decide_eq_true (by omega)]; rfl
        have HCR := Lib.hid hcr
        clear hcr
        have hwn : wrap64 (s.next + 1) = s.next + 1 := by
          have h1 := (sto_parts HV.out).2.2.2.2
          unfold inB at h1
          simp at h1
          unfold wrap64
          omega
        have gl := (Grew.refl w6).alloc (.cells #[.int .i64 s.next, .int .i64 f.owner, .bool f.shared, .int .i64 f.link, .slice fa2 f.attrs.length fc2] 55)
        have CR7 : Hid (Cr (w6.alloc (.cells #[.int .i64 s.next, .int .i64 f.owner, .bool f.shared, .int .i64 f.link, .slice fa2 f.attrs.length fc2] 55)) W.heap.size w1.heap.size s ⟨.slice xa s.schema.length xc, .slice ya s.files.length yc, s.next⟩ ps ⟨s.next, f.owner, f.shared, f.link, f.attrs⟩ ⟨s.next, f.owner, f.shared, f.link, .slice fa2 f.attrs.length fc2⟩) := by
          have h := CR6.out.grew gl
          exact Lib.hid ⟨h.sq, h.sr, h.sa, Fl.O.id h.sf s.next, h.l, h.m⟩
        have SA7 := Lib.hid (SA6.out.grew gl)
        have SF7 := Lib.hid (SF6.out.grew gl)
        have SC7 := Lib.hid (SC6.out.grew gl)
        have G7 := G6.trans gl
        have hlm : W.heap.size ≤ (w6.alloc (.cells #[.int .i64 s.next, .int .i64 f.owner, .bool f.shared, .int .i64 f.link, .slice fa2 f.attrs.length fc2] 55)).heap.size := Nat.le_trans CR7.out.l CR7.out.m
        clear SA6 SF6 SC6 CR6
        go_wp2_with (at_builtin; refine wpList_append_own _ rfl _ _ 25 rfl W.heap.size 55 j0 _ 5 56 Tryz.underlying25 hj hy0 hy1 hy2 rfl (by decide) _ _ _ rfl CR7.out.sr ⟨_, 0, none⟩ 1 1 (P5.c ⟨s.next, f.owner, f.shared, f.link, .slice fa2 f.attrs.length fc2⟩) rfl rfl (lit_news rfl) (fun x hx => by simp [P5.c] at hx; rcases hx with rfl | rfl | rfl | rfl | rfl <;> rfl) (by unfold maxLen; omega) (by omega) hlm ?_; intro v' w8 hown' hgr _; have hnl : ∀ k, (Value.slice ya s.files.length yc).ownBlock = some k → W.heap.size ≤ k := fun k h => (CR7.out.sr.lt k h).1; obtain ⟨lo8, hi8, hlo8, T8⟩ := grown_off hgr hnl; have SA8 := SA7.out.tch T8 (by omega); have SF8 := SF7.out.tch T8 (by omega); have SC8 := SC7.out.tch T8 (by omega); have ST8 := Lib.hid (CR7.out.add hown' hgr); have G8 := G7.grown hgr (fun k h => by have := hnl k h; omega); obtain ⟨va, vc, rfl⟩ := own_slice hown'; clear A0 A1 A2 zA B0 B1 B2 B3 B4 zB C0 C1 C2 zC hown' hgr hnl; obtain ⟨A0, A1, A2, zA⟩ := SA8; obtain ⟨B0, B1, B2, B3, B4, zB⟩ := SF8; obtain ⟨C0, C1, C2, zC⟩ := SC8; dsimp only at A0 A1 A2 B0 B1 B2 B3 B4 C0 C1 C2)
        have D0 : ((w8.setCell ⟨w.heap.size, 1, none⟩ (.slice va (s.files.length + 1) vc)).setCell ⟨w.heap.size, 2, none⟩ (.int .i64 (s.next + 1))).cell? ⟨w.heap.size, 0, none⟩ = some (.slice xa s.schema.length xc) := by simp [go_sem, A0]
        have D1 : ((w8.setCell ⟨w.heap.size, 1, none⟩ (.slice va (s.files.length + 1) vc)).setCell ⟨w.heap.size, 2, none⟩ (.int .i64 (s.next + 1))).cell? ⟨w.heap.size, 1, none⟩ = some (.slice va (s.files.length + 1) vc) := by simp [go_sem, A1]
        have D2 : ((w8.setCell ⟨w.heap.size, 1, none⟩ (.slice va (s.files.length + 1) vc)).setCell ⟨w.heap.size, 2, none⟩ (.int .i64 (s.next + 1))).cell? ⟨w.heap.size, 2, none⟩ = some (.int .i64 (s.next + 1)) := by simp [go_sem, A2]
        have E0 : ((w8.setCell ⟨w.heap.size, 1, none⟩ (.slice va (s.files.length + 1) vc)).setCell ⟨w.heap.size, 2, none⟩ (.int .i64 (s.next + 1))).cell? ⟨w.heap.size + 1, 0, none⟩ = some (.int .i64 s.next) := by simp [go_sem, B0]
        have F0 := cell_set_ne (cell_set_ne C0 (p := ⟨w.heap.size + 2, 0, none⟩) (a := ⟨w.heap.size, 1, none⟩) (v := .slice va (s.files.length + 1) vc) (by dsimp only; omega)) (a := ⟨w.heap.size, 2, none⟩) (v := .int .i64 (s.next + 1)) (by dsimp only; omega)
        have F1 := cell_set_ne (cell_set_ne C1 (p := ⟨w.heap.size + 2, 1, none⟩) (a := ⟨w.heap.size, 1, none⟩) (v := .slice va (s.files.length + 1) vc) (by dsimp only; omega)) (a := ⟨w.heap.size, 2, none⟩) (v := .int .i64 (s.next + 1)) (by dsimp only; omega)
        have F2 := cell_set_ne (cell_set_ne C2 (p := ⟨w.heap.size + 2, 2, none⟩) (a := ⟨w.heap.size, 1, none⟩) (v := .slice va (s.files.length + 1) vc) (by dsimp only; omega)) (a := ⟨w.heap.size, 2, none⟩) (v := .int .i64 (s.next + 1)) (by dsimp only; omega)
        have zF : ∀ j, ((w8.setCell ⟨w.heap.size, 1, none⟩ (.slice va (s.files.length + 1) vc)).setCell ⟨w.heap.size, 2, none⟩ (.int .i64 (s.next + 1))).frozen? ⟨w.heap.size + 2, j, none⟩ = false := fun j => by rw [World.frozen?_setCell, World.frozen?_setCell]; exact zC j
        have ST9 : Hid (StG ((w8.setCell ⟨w.heap.size, 1, none⟩ (.slice va (s.files.length + 1) vc)).setCell ⟨w.heap.size, 2, none⟩ (.int .i64 (s.next + 1))) W.heap.size (addF s f) ⟨.slice xa s.schema.length xc, .slice va (s.files.length + 1) vc, s.next + 1⟩) := Lib.hid ((ST8.out.set (a := ⟨w.heap.size, 1, none⟩) (by dsimp only; omega) _).set (a := ⟨w.heap.size, 2, none⟩) (by dsimp only; omega) _)
        have G9 : Grew w ((w8.setCell ⟨w.heap.size, 1, none⟩ (.slice va (s.files.length + 1) vc)).setCell ⟨w.heap.size, 2, none⟩ (.int .i64 (s.next + 1))) := (G8.setCell (p := ⟨w.heap.size, 1, none⟩) (by dsimp only; omega) _).setCell (p := ⟨w.heap.size, 2, none⟩) (by dsimp only; omega) _
        generalize ((w8.setCell ⟨w.heap.size, 1, none⟩ (.slice va (s.files.length + 1) vc)).setCell ⟨w.heap.size, 2, none⟩ (.int .i64 (s.next + 1))) = w9 at D0 D1 D2 E0 F0 F1 F2 zF ST9 G9 ⊢
        clear A0 A1 A2 zA B0 B1 B2 B3 B4 zB C0 C1 C2 zC
        refine wp_region_noPanic ?_
        refine wp_region_held_drew (S := (fun w' => (w'.cell? ⟨w.heap.size, 0, none⟩ = some (.slice xa s.schema.length xc) ∧ w'.cell? ⟨w.heap.size, 1, none⟩ = some (.slice va (s.files.length + 1) vc) ∧ w'.cell? ⟨w.heap.size, 2, none⟩ = some (.int .i64 (s.next + 1)) ∧ w'.cell? ⟨w.heap.size + 1, 0, none⟩ = some (.int .i64 s.next)))) (by kernel_rfl) ?h1_S ?h1_r
        case h1_S => exact ⟨grew_cell (Grew.refl _).drew D0, grew_cell (Grew.refl _).drew D1, grew_cell (Grew.refl _).drew D2, grew_cell (Grew.refl _).drew E0⟩
        case h1_r =>
         intro HS
         first | refine sk' 0 HS ?_ | refine tk' 0 HS ?_
         first | refine sk' 1 HS ?_ | refine tk' 1 HS ?_
         first | refine sk' 2 HS ?_ | refine tk' 2 HS ?_
         refine cl' 3 fun K hK => ?_
         have k0 : w9.drew.cell? ⟨w.heap.size + 1 + 1, 0, none⟩ = some (.slice none 0 0) := grew_cell (Grew.refl w9).drew F0
         have k1 : w9.drew.cell? ⟨w.heap.size + 1 + 1, 1, none⟩ = some (.slice none 0 0) := grew_cell (Grew.refl w9).drew F1
         have k2 : w9.drew.cell? ⟨w.heap.size + 1 + 1, 2, none⟩ = some (.int .i64 0) := grew_cell (Grew.refl w9).drew F2
         have kz : ∀ j, w9.drew.frozen? ⟨w.heap.size + 1 + 1, j, none⟩ = false := fun j => zF j
         rw [if_pos (by rfl)]
         go_simp
         refine hK.out _ _ ?s1_4_ ?r1_4_
         case s1_4_ => exact ⟨cell_set_ne (cell_set_ne (cell_set_ne HS.1 (by dsimp only; omega)) (by dsimp only; omega)) (by dsimp only; omega), cell_set_ne (cell_set_ne (cell_set_ne HS.2.1 (by dsimp only; omega)) (by dsimp only; omega)) (by dsimp only; omega), cell_set_ne (cell_set_ne (cell_set_ne HS.2.2.1 (by dsimp only; omega)) (by dsimp only; omega)) (by dsimp only; omega), cell_set_ne (cell_set_ne (cell_set_ne HS.2.2.2 (by dsimp only; omega)) (by dsimp only; omega)) (by dsimp only; omega)⟩
         case r1_4_ =>
          clear HS hK K; intro HS
          try simp only [Act.put, lpa, lpb, lpc]
          first | refine sk' 4 HS ?_ | refine tk' 4 HS ?_
          first | refine sk' 5 HS ?_ | refine tk' 5 HS ?_
          refine wpAnyH_done (by kernel_rfl) ?_ _
          refine NoPanic.normal ?_
          clear HS
          go_wp2
          refine bodyPost_ret (v := .tuple #[PS.v ⟨.slice xa s.schema.length xc, .slice va (s.files.length + 1) vc, s.next + 1⟩, .int .i64 s.next, .bool true]) (by simp [results, Tryz.results53, go_sem, F0, F1, F2]) rfl ⟨⟨.slice xa s.schema.length xc, .slice va (s.files.length + 1) vc, s.next + 1⟩, by simp [creI, HCR.out], ?_, ?_⟩
          · have e : creS s f = addF s f := by simp [creS, HCR.out]
            rw [e]
            refine StG.base (a := W.heap.size) (StG.grew ?_ (Grew.refl _).drew) (by omega)
            have h := ST9.out
            repeat' (first | with_reducible exact h | with_reducible refine StG.set ?_ ?_ _ | (dsimp only; omega))
          · refine Grew.drew ?_
            have h := G9
            repeat' (first | with_reducible exact h | with_reducible refine Grew.setCell ?_ ?_ _ | (dsimp only; omega))
end Go.Proofs.YtemikjbfjhebnaaGreat
namespace Go.Proofs.YtemikjbfjhebnaaGreat
open Go.RowKit
set_option linter.unusedVariables false
set_option linter.unusedSimpArgs false
theorem rows_mem {α : Type} {enc : α → List Value} {xs : List α} {u : Value} (h : u ∈ rows enc xs) : ∃ x, x ∈ xs ∧ u ∈ enc x := by
  unfold rows at h
  obtain ⟨l, hl, hu⟩ := List.mem_flatten.1 h
  obtain ⟨x, hx, rfl⟩ := List.mem_map.1 hl
  exact ⟨x, hx, hu⟩
theorem one_fl {w : World} {lo hi : Nat} {fs : List Fl} {ps : List P5} (h : All2 (Fl.O w lo hi) fs ps) {qs : List P5} (hq : ∀ p, p ∈ qs → p ∈ ps) : ∀ u ∈ rows P5.c qs, u.oneCell' = true := fun u hu => by
  obtain ⟨p, hp, hup⟩ := rows_mem hu
  obtain ⟨i, hi', hpe⟩ := List.getElem_of_mem (hq p hp)
  subst hpe
  obtain ⟨x, _, hO⟩ := h.get (List.getElem?_eq_getElem hi')
  obtain ⟨a, c, hs⟩ := own_slice hO.2.2.2.2.1
  simp only [P5.c, List.mem_cons, List.not_mem_nil, or_false] at hup
  rcases hup with rfl | rfl | rfl | rfl | rfl <;> first | rfl | (rw [hs]; rfl)
def isB (v : Value) : Prop := ∃ b, v = .bool b
def cutR (s s' : St) : Prop := s' = s ∨ ∃ k, s' = cutF s k
theorem cutR.ok {n : Nat} {s s' : St} (h : cutR s s') (hs : stOk n s) : stOk n s' := by
  rcases h with rfl | ⟨k, rfl⟩
  · exact hs
  · exact hs.cut
theorem StG.cut {w : World} {base k : Nat} {s : St} {q v : Value} {ps : List P5} {n : Int} (hk : k < s.files.length) (hq : w.ownsRow base 87 2 q s.schema.length (rows Fd.c s.schema)) (ha : All2 (Fl.O w base w.heap.size) s.files ps)
    (hr : w.ownsRow base 55 5 v (k + (s.files.length - (k + 1))) (rows P5.c (ps.take k) ++ rows P5.c (ps.drop (k + 1)))) (hn : n = s.next) : StG w base (cutF s k) ⟨q, v, n⟩ := by
  refine ⟨hq, ⟨ps.take k ++ ps.drop (k + 1), ?_, (ha.take k).app (ha.drop (k + 1))⟩, hn⟩
  have e : (cutF s k).files.length = k + (s.files.length - (k + 1)) := by unfold cutF; simp only [List.length_append, List.length_take, List.length_drop]; omega
  rw [rows_append, e]
  exact hr
set_option maxRecDepth 100000 in
set_option maxHeartbeats 8000000 in
theorem deleteFile (s : St) (p : PS) (id : Int) (w : World) (hs : St.R w s p) (hz : s.sz ≤ 4000000) :
    Calls Tryz.prog 55 #[p.v, .int .i64 id] w fun e w' => ∃ v b, e = .returned (.tuple #[v, b]) ∧ isB b ∧ ∃ p' : PS, v = p'.v ∧ ∃ s' : St, cutR s s' ∧ StG w' w.heap.size s' p' ∧ Grew w w' := by
  have HS := Lib.hid hs
  obtain ⟨p_q, p_r, p_n⟩ := p
  obtain ⟨⟨qa, qc, hq, _, _⟩, ⟨_, ⟨ra, rc, hr, _, _⟩, _⟩, hn⟩ := hs
  simp only at hq hr hn
  subst hq
  subst hr
  subst hn
  have hsm := St.small_of hz
  have hsf := hsm.2.1
  have hsc := hsm.1
  clear hsm
  obtain ⟨j0, hj, hy0, hy1, hy2⟩ := info_parts Tryz.infoFl
  have gW := ((Grew.refl w).alloc (.cells #[.slice qa s.schema.length qc, .slice ra s.files.length rc, .int .i64 s.next] 27)).alloc (.cells #[.slice none 0 0, .slice none 0 0, .int .i64 0] 27)
  have SA := (CS.new rfl : CS (w.alloc (.cells #[.slice qa s.schema.length qc, .slice ra s.files.length rc, .int .i64 s.next] 27)) w.heap.size ⟨.slice qa s.schema.length qc, .slice ra s.files.length rc, s.next⟩).grew ((Grew.refl _).alloc (.cells #[.slice none 0 0, .slice none 0 0, .int .i64 0] 27))
  have SC : CS ((w.alloc (.cells #[.slice qa s.schema.length qc, .slice ra s.files.length rc, .int .i64 s.next] 27)).alloc (.cells #[.slice none 0 0, .slice none 0 0, .int .i64 0] 27)) (w.heap.size + 1) ⟨.slice none 0 0, .slice none 0 0, 0⟩ := CS.new (by simp)
  go_enter Tryz.func55, Tryz.ntmps55
  go_wp2_with fail
  generalize (w.alloc (.cells #[.slice qa s.schema.length qc, .slice ra s.files.length rc, .int .i64 s.next] 27)).alloc (.cells #[.slice none 0 0, .slice none 0 0, .int .i64 0] 27) = W at gW SA SC ⊢
  have hsW := SC.lt
  refine (l05Copy s ⟨.slice qa s.schema.length qc, .slice ra s.files.length rc, s.next⟩ W (HS.out.grew gW) hz).mono ?_
  rintro e w1 ⟨p1, rfl, hg, g1⟩
  obtain ⟨xa, xc, ya, yc, rfl⟩ := hg.slices
  have SA1 := SA.grew g1
  have SC1 := SC.grew g1
  have G2 : Grew w (World.put3 w1 w.heap.size ⟨.slice xa s.schema.length xc, .slice ya s.files.length yc, s.next⟩) := Touch.new (gW.trans g1) (touch3 _ _ _) (Nat.le_refl _)
  have SA2 := Lib.hid (SA1.put ⟨.slice xa s.schema.length xc, .slice ya s.files.length yc, s.next⟩)
  have SC2 := Lib.hid (SC1.tch (touch3 w1 w.heap.size ⟨.slice xa s.schema.length xc, .slice ya s.files.length yc, s.next⟩) (by omega))
  have ST2 := Lib.hid (hg.tch (touch3 w1 w.heap.size ⟨.slice xa s.schema.length xc, .slice ya s.files.length yc, s.next⟩) (by omega))
  clear SA SC hg
  obtain ⟨A0, A1, A2, zA⟩ := SA1
  obtain ⟨C0, C1, C2, zC⟩ := SC1
  dsimp only at A0 A1 A2 C0 C1 C2
  go_wp2_with fail
  refine (l05PlaceAt _ _ _ s.files id _ ST2.out.rd.2.1 hsf).mono ?_
  rintro e w3 ⟨i, rfl, hat, g3⟩
  have g3' : Grew (World.put3 w1 w.heap.size ⟨.slice xa s.schema.length xc, .slice ya s.files.length yc, s.next⟩) w3 := g3
  have SA3 := Lib.hid (SA2.out.grew g3')
  have SC3 := Lib.hid (SC2.out.grew g3')
  have ST3 := Lib.hid (ST2.out.grew g3')
  have G3 := G2.trans g3'
  clear SA2 SC2 ST2 g3 A0 A1 A2 zA C0 C1 C2 zC
  obtain ⟨A0, A1, A2, zA⟩ := SA3.out
  obtain ⟨C0, C1, C2, zC⟩ := SC3.out
  dsimp only at A0 A1 A2 C0 C1 C2
  obtain ⟨vb, hvb⟩ : ∃ b, stoB s = b := ⟨_, rfl⟩
  have HV := Lib.hid hvb
  clear hvb
  go_wp2_with fail
  refine (specIsValidStore s ⟨.slice xa s.schema.length xc, .slice ya s.files.length yc, s.next⟩ _ ST3.out.rd hz).mono ?_
  rintro e w5 ⟨he, g5⟩
  rw [HV.out] at he
  subst he
  have SA5 := Lib.hid (SA3.out.grew g5)
  have SC5 := Lib.hid (SC3.out.grew g5)
  have ST5 := Lib.hid (ST3.out.grew g5)
  have G5 := G3.trans g5
  clear SA3 SC3 ST3 A0 A1 A2 zA C0 C1 C2 zC
  obtain ⟨A0, A1, A2, zA⟩ := SA5.out
  obtain ⟨C0, C1, C2, zC⟩ := SC5.out
  dsimp only at A0 A1 A2 C0 C1 C2
  cases vb
  · skip
    go_wp2
    refine bodyPost_ret (v := .tuple #[PS.v ⟨.slice xa s.schema.length xc, .slice ya s.files.length yc, s.next⟩, .bool false]) (by simp [results, Tryz.results55, go_sem, C0, C1, C2]) rfl ⟨_, _, rfl, ⟨_, rfl⟩, ⟨.slice xa s.schema.length xc, .slice ya s.files.length yc, s.next⟩, rfl, s, .inl rfl, ?_, ?_⟩
    · refine StG.base (a := W.heap.size) ?_ (by omega)
      have h := ST5.out
      repeat' (first | with_reducible exact h | with_reducible refine StG.set ?_ ?_ _ | (dsimp only; omega))
    · repeat' (first | with_reducible exact G5 | with_reducible refine Grew.setCell ?_ ?_ _ | (dsimp only; omega))
  · rcases hat with ⟨k, y, rfl, hyk, _, _⟩ | ⟨_, rfl⟩
    rotate_left
    · skip
      go_wp2
      refine bodyPost_ret (v := .tuple #[PS.v ⟨.slice xa s.schema.length xc, .slice ya s.files.length yc, s.next⟩, .bool false]) (by simp [results, Tryz.results55, go_sem, C0, C1, C2]) rfl ⟨_, _, rfl, ⟨_, rfl⟩, ⟨.slice xa s.schema.length xc, .slice ya s.files.length yc, s.next⟩, rfl, s, .inl rfl, ?_, ?_⟩
      · refine StG.base (a := W.heap.size) ?_ (by omega)
        have h := ST5.out
        repeat' (first | with_reducible exact h | with_reducible refine StG.set ?_ ?_ _ | (dsimp only; omega))
      · repeat' (first | with_reducible exact G5 | with_reducible refine Grew.setCell ?_ ?_ _ | (dsimp only; omega))
    have hkl : k < s.files.length := (List.getElem?_eq_some_iff.1 hyk).1
    have hk0 : ¬ ((k : Int) < 0) := by omega
    have hk0' : (0 : Int) ≤ k := by omega
    obtain ⟨ps, r1, r2⟩ := ST5.out.r
    obtain ⟨fg, fc, hfg⟩ := own_at0 r1 (by omega)
    simp only [Value.slice.injEq] at hfg
    obtain ⟨rfl, _, rfl⟩ := hfg
    have hyc : s.files.length ≤ yc := by
      obtain ⟨a_, c_, h1, h2, _⟩ := rd_of_own r1
      cases h1
      exact h2
    have R1 := Lib.hid r1
    have R2 := Lib.hid r2
    have hyk2 : (k : Int) ≤ yc := by omega
    have hk1n : ((k + 1 : Nat) : Int) ≤ s.files.length := by omega
    have hk1c : ((k + 1 : Nat) : Int) ≤ yc := by omega
    have hk10 : (0 : Int) ≤ ((k + 1 : Nat) : Int) := by omega
    have hkn : (k : Int) ≤ s.files.length := by omega
    have hk1a : (0 : Int) ≤ (k : Int) + 1 := by omega
    have hk1b : (k : Int) + 1 ≤ s.files.length := by omega
    have hcc1 : k ≤ yc := by omega
    have hcc2 : k + 1 ≤ yc := by omega
    have hcc3 : k + 1 ≤ s.files.length := by omega
    have hsz5 := g5.size
    have hbase5 : W.heap.size ≤ w5.heap.size := by have := g1.size; have := g3'.size; have e : (World.put3 w1 w.heap.size ⟨.slice xa s.schema.length xc, .slice (some ⟨fg, 0, none⟩) s.files.length yc, s.next⟩).heap.size = w1.heap.size := (by unfold World.put3; simp); omega
    clear r1 r2 hyk
    have hkw : IntKind.i64.wrap ((k : Int) + 1) = ((k + 1 : Nat) : Int) := by rw [IntKind.wrap_i64]; omega
    go_wp2_with fail
    refine wp_region_noPanic ?_
    refine wp_region_T 13 (fun w' => (w'.cell? ⟨w.heap.size, 1, none⟩ = some (.slice (some ⟨fg, 0, none⟩) s.files.length yc) ∧ Grew w5 w')) (by kernel_rfl) (⟨grew_cell (Grew.refl w5).drew A1, (Grew.refl w5).drew⟩) ?_
    intro HS
    replace HS := HS.resolve_left (by decide)
    refine tkP 1 (.inr HS) ?_
    refine tkT 2 [4, 5, 11, 13] HS ?_
    refine tkP 3 (.inr HS) ?_
    refine tkP 4 (.inr HS) ?_
    refine tkP 6 (.inr HS) ?_
    refine tkT 7 [10, 11, 13] HS ?_
    refine tkP 8 (.inr HS) ?_
    refine tkP 9 (.inr HS) ?_
    refine tkP 10 (.inr HS) ?_
    refine clT 0 (fun K hK => ?_)
    have GL := HS.2.alloc (.cells #[] 55)
    have A1L := grew_cell GL A1
    have HLW := HS.2.size
    rw [if_pos (by rfl)]
    go_simp
    refine hK.out _ _ (⟨A1L, GL⟩) ?_
    clear HS hK K
    intro HS
    clear A1L
    try simp only [Act.put, lpa, lpb, lpc]
    refine clT 5 (fun K hK => ?_)
    rw [if_pos (by rfl)]
    have hrl := Lib.hid (rd_of_own (ownsRow_grew R1.out HS.2))
    obtain ⟨_, _, hh1, _, hrl2⟩ := hrl.out
    cases hh1
    refine wp_append_lit _ _ _ 25 rfl W.heap.size 55 j0 _ 5 56 Tryz.underlying25 hj hy0 hy1 hy2 rfl (by decide) _ rfl (ownsRow_base (lit_own _ 55 5) hbase5) _ k _ (rows P5.c (ps.take k)) rfl (RdA.takeK P5.len hrl2 (by decide) (by omega)) (one_fl R2.out fun p hp => List.mem_of_mem_take hp) (by unfold maxLen; omega) (by omega) (by have := HS.2.size; omega) ?_
    intro v4 w6 ho4 hb4 hg4
    have GN := HS.2.trans hg4
    have A1N := grew_cell GN A1
    have O4 := Lib.hid ho4
    have hbb4 : ∀ b, v4.ownBlock = some b → w5.heap.size ≤ b := fun b hb => (hb4 b hb).elim (fun h => by rw [h]; exact Nat.le_refl _) (fun h => Nat.le_trans HS.2.size h)
    obtain ⟨a4, c4, rfl⟩ := own_slice ho4
    clear ho4 hb4 hrl2 hrl
    refine hK.out _ _ (⟨A1N, GN⟩) ?_
    clear HS hK K
    intro HS
    clear A1N GN
    try simp only [Act.put, lpa, lpb, lpc]
    refine clT 11 (fun K hK => ?_)
    rw [if_pos (by rfl)]
    have HNW := own_news (ownsRow_grew R1.out HS.2) ((k + 1) * 5)
    rw [rows_dropK P5.len] at HNW
    have HLD : (rows P5.c (ps.drop (k + 1))).length = (s.files.length - (k + 1)) * 5 := by rw [rows_length P5.len, List.length_drop, ← R2.out.1]
    refine wp_append_own _ _ _ 25 rfl W.heap.size 55 j0 _ 5 56 Tryz.underlying25 hj hy0 hy1 hy2 rfl (by decide) _ _ _ rfl (ownsRow_grew O4.out (Grew.refl _)) ⟨fg, if yc = k + 1 then 0 else (k + 1) * 5, none⟩ (s.files.length - (k + 1)) (yc - (k + 1)) (rows P5.c (ps.drop (k + 1))) (by by_cases h : yc = k + 1 <;> simp [Act.eval, h]) HLD (fun t u hu => by by_cases h : yc = k + 1 ; (rw [List.drop_of_length_le (by rw [← R2.out.1]; omega)] at hu; cases hu) ; (rw [if_neg h]; exact HNW t u hu)) (one_fl R2.out fun p hp => List.mem_of_mem_drop hp) (by unfold maxLen; omega) (by omega) (by have := HS.2.size; omega) ?_
    intro v9 w9 ho9 hgr9 _
    have GN := HS.2.grown hgr9 (fun j h => hbb4 j h)
    have A1N := grew_cell GN A1
    have O9 := Lib.hid ho9
    obtain ⟨a9, c9, rfl⟩ := own_slice ho9
    clear ho9 hgr9 HNW
    refine hK.out _ _ (⟨A1N, GN⟩) ?_
    clear HS hK K
    intro HS
    clear A1N
    try simp only [Act.put, lpa, lpb, lpc]
    refine tkP 12 (.inr HS) ?_
    refine clE (fun K hK => ?_)
    have GF := HS.2
    have SAF := SA5.out.grew GF
    obtain ⟨X0, X1, X2, zX⟩ := SAF
    dsimp only at X0 X1 X2
    rw [if_pos (by rfl)]
    go_simp
    refine hK.out _ _ fun _ => ?_
    clear HS hK K
    try simp only [Act.put, lpa, lpb, lpc]
    refine doneT ?_
    refine NoPanic.normal ?_
    have SCF := SC5.out.grew GF
    obtain ⟨Y0, Y1, Y2, zY⟩ := SCF
    dsimp only at Y0 Y1 Y2
    have STF : Hid (StG w9 W.heap.size (cutF s k) ⟨.slice xa s.schema.length xc, .slice a9 (k + (s.files.length - (k + 1))) c9, s.next⟩) := Lib.hid (StG.cut hcc3 (ownsRow_grew ST5.out.q GF) (R2.out.mono fun x p h => (h.grew GF).mono (Nat.le_refl _) GF.size) O9.out rfl)
    have GZ := G5.trans GF
    clear A0 A1 A2 zA C0 C1 C2 zC
    go_wp2
    all_goals
      refine bodyPost_ret (v := .tuple #[PS.v ⟨.slice xa s.schema.length xc, .slice a9 (k + (s.files.length - (k + 1))) c9, s.next⟩, .bool true]) (by simp [results, Tryz.results55, go_sem, Y0, Y1, Y2]) rfl ⟨_, _, rfl, ⟨_, rfl⟩, ⟨.slice xa s.schema.length xc, .slice a9 (k + (s.files.length - (k + 1))) c9, s.next⟩, rfl, cutF s k, .inr ⟨k, rfl⟩, ?_, ?_⟩
      · refine StG.base (a := W.heap.size) ?_ (by omega)
        have h := STF.out
        repeat' (first | with_reducible exact h | with_reducible refine StG.set ?_ ?_ _ | (dsimp only; omega))
      · repeat' (first | with_reducible exact GZ | with_reducible refine Grew.setCell ?_ ?_ _ | (dsimp only; omega))
end Go.Proofs.YtemikjbfjhebnaaGreat
namespace Go.Proofs.YtemikjbfjhebnaaGreat
open Go.RowKit
set_option linter.unusedVariables false
set_option linter.unusedSimpArgs false
def repR (f : Fl) (s s' : St) : Prop := s' = s ∨ ∃ k, s' = ⟨s.schema, s.files.set k f, s.next⟩
theorem repR.ok {n : Nat} {f : Fl} {s s' : St} (h : repR f s s') (hs : stOk n s) (hf : flOk 6 f) : stOk n s' := by
  rcases h with rfl | ⟨k, rfl⟩
  · exact hs
  · exact ⟨hs.1, by rw [List.length_set]; exact hs.2.1, fun x hx => (List.mem_or_eq_of_mem_set hx).elim (hs.2.2 x) (fun e => e ▸ hf)⟩
theorem GrowF.putF {w : World} {base g n cap i : Nat} {fs : List Fl} {f : Fl} {p : P5} (h : GrowF w base (.slice (some ⟨g, 0, none⟩) n cap) fs) (hn : fs.length = n) (hi : i < n) (hf : Fl.O w base w.heap.size f p) :
    GrowF (((((w.setCell ⟨g, i * 5, none⟩ (.int .i64 p.id)).setCell ⟨g, i * 5 + 1, none⟩ (.int .i64 p.owner)).setCell ⟨g, i * 5 + 2, none⟩ (.bool p.shared)).setCell ⟨g, i * 5 + 3, none⟩ (.int .i64 p.link)).setCell ⟨g, i * 5 + 4, none⟩ p.attrs) base (.slice (some ⟨g, 0, none⟩) n cap) (fs.set i f) := by
  obtain ⟨ps, h1, h2⟩ := h
  rw [hn] at h1
  have hpl := h2.1
  have e0 := ownsRow_stores h1 (i * 5) (.int .i64 p.id)
  have e1 := ownsRow_stores e0 (i * 5 + 1) (.int .i64 p.owner)
  have e2 := ownsRow_stores e1 (i * 5 + 2) (.bool p.shared)
  have e3 := ownsRow_stores e2 (i * 5 + 3) (.int .i64 p.link)
  have e4 := ownsRow_stores e3 (i * 5 + 4) p.attrs
  rw [setsP5 ps i (by omega) p] at e4
  have ht : Touch g (g + 1) w (((((w.setCell ⟨g, i * 5, none⟩ (.int .i64 p.id)).setCell ⟨g, i * 5 + 1, none⟩ (.int .i64 p.owner)).setCell ⟨g, i * 5 + 2, none⟩ (.bool p.shared)).setCell ⟨g, i * 5 + 3, none⟩ (.int .i64 p.link)).setCell ⟨g, i * 5 + 4, none⟩ p.attrs) :=
    ((((Touch.setCell (p := ⟨g, i * 5, none⟩) (Touch.refl g (g + 1) w) (Nat.le_refl g) (Nat.lt_succ_self g) _).setCell (p := ⟨g, i * 5 + 1, none⟩) (Nat.le_refl g) (Nat.lt_succ_self g) _).setCell (p := ⟨g, i * 5 + 2, none⟩) (Nat.le_refl g) (Nat.lt_succ_self g) _).setCell (p := ⟨g, i * 5 + 3, none⟩) (Nat.le_refl g) (Nat.lt_succ_self g) _).setCell (p := ⟨g, i * 5 + 4, none⟩) (Nat.le_refl g) (Nat.lt_succ_self g) _
  have T : ∀ x q, Fl.O w base w.heap.size x q → Fl.O _ base _ x q := fun x q hq => by
    have h6 := hq.touch' ht (fun v c hv hc => by
      simp only [Fl.subs, List.mem_cons, List.not_mem_nil, or_false] at hv
      subst hv
      have h7 := own_type hq.2.2.2.2.1 h1 (by decide) hc
      have h8 : c ≠ g := fun e => h7 (by rw [e]; rfl)
      omega)
    exact h6.mono (Nat.le_refl _) ht.size
  refine ⟨ps.set i p, ?_, (h2.mono T).set i f p (T _ _ hf)⟩
  rw [List.length_set, hn]
  exact e4
set_option maxRecDepth 100000 in
set_option maxHeartbeats 8000000 in
theorem replaceFile (s : St) (p : PS) (f : Fl) (pf : P5) (w : World) (hs : St.R w s p) (hf : Fl.R w f pf) (hz : s.sz ≤ 4000000) (hfz : f.sz ≤ 1000000) :
    Calls Tryz.prog 60 #[p.v, pf.v] w fun e w' => ∃ v b, e = .returned (.tuple #[v, b]) ∧ isB b ∧ ∃ p' : PS, v = p'.v ∧ ∃ s' : St, repR f s s' ∧ StG w' w.heap.size s' p' ∧ Grew w w' := by
  have HS := Lib.hid hs
  have HF := Lib.hid hf
  obtain ⟨p_q, p_r, p_n⟩ := p
  obtain ⟨⟨qa, qc, hq, _, _⟩, ⟨_, ⟨ra, rc, hr, _, _⟩, _⟩, hn⟩ := hs
  simp only at hq hr hn
  subst hq
  subst hr
  subst hn
  obtain ⟨f_1, f_2, f_3, f_4, f_5⟩ := pf
  obtain ⟨h1, h2, h3, h4, ⟨fa, fc, h5, _, _⟩⟩ := hf
  simp only at h1 h2 h3 h4 h5
  subst h1
  subst h2
  subst h3
  subst h4
  subst h5
  have hfl : f.attrs.length ≤ 4000000 := by unfold Fl.sz at hfz; omega
  have hsm := St.small_of hz
  have hsf := hsm.2.1
  have hsc := hsm.1
  clear hsm
  obtain ⟨j0, hj, hy0, hy1, hy2⟩ := info_parts Tryz.infoFl
  have gW := (((Grew.refl w).alloc (.cells #[.slice qa s.schema.length qc, .slice ra s.files.length rc, .int .i64 s.next] 27)).alloc (.cells #[.int .i64 f.id, .int .i64 f.owner, .bool f.shared, .int .i64 f.link, .slice fa f.attrs.length fc] 55)).alloc (.cells #[.slice none 0 0, .slice none 0 0, .int .i64 0] 27)
  have SA := (CS.new rfl : CS (w.alloc (.cells #[.slice qa s.schema.length qc, .slice ra s.files.length rc, .int .i64 s.next] 27)) w.heap.size ⟨.slice qa s.schema.length qc, .slice ra s.files.length rc, s.next⟩).grew (((Grew.refl _).alloc (.cells #[.int .i64 f.id, .int .i64 f.owner, .bool f.shared, .int .i64 f.link, .slice fa f.attrs.length fc] 55)).alloc (.cells #[.slice none 0 0, .slice none 0 0, .int .i64 0] 27))
  have SF : CF (((w.alloc (.cells #[.slice qa s.schema.length qc, .slice ra s.files.length rc, .int .i64 s.next] 27)).alloc (.cells #[.int .i64 f.id, .int .i64 f.owner, .bool f.shared, .int .i64 f.link, .slice fa f.attrs.length fc] 55)).alloc (.cells #[.slice none 0 0, .slice none 0 0, .int .i64 0] 27)) (w.heap.size + 1) ⟨f.id, f.owner, f.shared, f.link, .slice fa f.attrs.length fc⟩ := (CF.new (p := ⟨f.id, f.owner, f.shared, f.link, .slice fa f.attrs.length fc⟩) (by simp)).grew ((Grew.refl _).alloc (.cells #[.slice none 0 0, .slice none 0 0, .int .i64 0] 27))
  have SC : CS (((w.alloc (.cells #[.slice qa s.schema.length qc, .slice ra s.files.length rc, .int .i64 s.next] 27)).alloc (.cells #[.int .i64 f.id, .int .i64 f.owner, .bool f.shared, .int .i64 f.link, .slice fa f.attrs.length fc] 55)).alloc (.cells #[.slice none 0 0, .slice none 0 0, .int .i64 0] 27)) (w.heap.size + 2) ⟨.slice none 0 0, .slice none 0 0, 0⟩ := CS.new (by simp)
  go_enter Tryz.func60, Tryz.ntmps60
  go_wp2_with fail
  generalize ((w.alloc (.cells #[.slice qa s.schema.length qc, .slice ra s.files.length rc, .int .i64 s.next] 27)).alloc (.cells #[.int .i64 f.id, .int .i64 f.owner, .bool f.shared, .int .i64 f.link, .slice fa f.attrs.length fc] 55)).alloc (.cells #[.slice none 0 0, .slice none 0 0, .int .i64 0] 27) = W at gW SA SF SC ⊢
  have hsW := SC.lt
  refine (l05Copy s ⟨.slice qa s.schema.length qc, .slice ra s.files.length rc, s.next⟩ W (HS.out.grew gW) hz).mono ?_
  rintro e w1 ⟨p1, rfl, hg, g1⟩
  obtain ⟨xa, xc, ya, yc, rfl⟩ := hg.slices
  have SA1 := SA.grew g1
  have SF1 := SF.grew g1
  have SC1 := SC.grew g1
  have G1 : Grew w (World.put3 w1 w.heap.size ⟨.slice xa s.schema.length xc, .slice ya s.files.length yc, s.next⟩) := Touch.new (gW.trans g1) (touch3 _ _ _) (Nat.le_refl _)
  have SA2 := Lib.hid (SA1.put ⟨.slice xa s.schema.length xc, .slice ya s.files.length yc, s.next⟩)
  have SF2 := Lib.hid (SF1.tch (touch3 w1 w.heap.size ⟨.slice xa s.schema.length xc, .slice ya s.files.length yc, s.next⟩) (by omega))
  have SC2 := Lib.hid (SC1.tch (touch3 w1 w.heap.size ⟨.slice xa s.schema.length xc, .slice ya s.files.length yc, s.next⟩) (by omega))
  have ST2 := Lib.hid (hg.tch (touch3 w1 w.heap.size ⟨.slice xa s.schema.length xc, .slice ya s.files.length yc, s.next⟩) (by omega))
  have hs1 := g1.size
  have hsz2 : (World.put3 w1 w.heap.size ⟨.slice xa s.schema.length xc, .slice ya s.files.length yc, s.next⟩).heap.size = w1.heap.size := by unfold World.put3; simp
  clear SA SF SC hg
  obtain ⟨A0, A1, A2, zA⟩ := SA1
  obtain ⟨B0, B1, B2, B3, B4, zB⟩ := SF1
  obtain ⟨C0, C1, C2, zC⟩ := SC1
  dsimp only at A0 A1 A2 B0 B1 B2 B3 B4 C0 C1 C2
  go_wp2_with fail
  refine (l05PlaceAt _ _ _ s.files f.id _ ST2.out.rd.2.1 hsf).mono ?_
  rintro e w3 ⟨i, rfl, hat, g3⟩
  have g3' : Grew (World.put3 w1 w.heap.size ⟨.slice xa s.schema.length xc, .slice ya s.files.length yc, s.next⟩) w3 := g3
  have SA3 := Lib.hid (SA2.out.grew g3')
  have SF3 := Lib.hid (SF2.out.grew g3')
  have SC3 := Lib.hid (SC2.out.grew g3')
  have ST3 := Lib.hid (ST2.out.grew g3')
  have G3 := G1.trans g3'
  clear SA2 SF2 SC2 ST2 g3 A0 A1 A2 zA B0 B1 B2 B3 B4 zB C0 C1 C2 zC
  obtain ⟨A0, A1, A2, zA⟩ := SA3.out
  obtain ⟨B0, B1, B2, B3, B4, zB⟩ := SF3.out
  obtain ⟨C0, C1, C2, zC⟩ := SC3.out
  dsimp only at A0 A1 A2 B0 B1 B2 B3 B4 C0 C1 C2
  obtain ⟨vb, hvb⟩ : ∃ b, stoB s = b := ⟨_, rfl⟩
  have HV := Lib.hid hvb
  clear hvb
  go_wp2_with fail
  refine (specIsValidStore s ⟨.slice xa s.schema.length xc, .slice ya s.files.length yc, s.next⟩ _ ST3.out.rd hz).mono ?_
  rintro e w5 ⟨he, g5⟩
  rw [HV.out] at he
  subst he
  have SA5 := Lib.hid (SA3.out.grew g5)
  have SF5 := Lib.hid (SF3.out.grew g5)
  have SC5 := Lib.hid (SC3.out.grew g5)
  have ST5 := Lib.hid (ST3.out.grew g5)
  have G5 := G3.trans g5
  have HF5 := Lib.hid (HF.out.grew G5)
  clear SA3 SF3 SC3 ST3 A0 A1 A2 zA B0 B1 B2 B3 B4 zB C0 C1 C2 zC
  obtain ⟨A0, A1, A2, zA⟩ := SA5.out
  obtain ⟨B0, B1, B2, B3, B4, zB⟩ := SF5.out
  obtain ⟨C0, C1, C2, zC⟩ := SC5.out
  dsimp only at A0 A1 A2 B0 B1 B2 B3 B4 C0 C1 C2
  cases vb
  · skip
    go_wp2
    refine bodyPost_ret (v := .tuple #[PS.v ⟨.slice xa s.schema.length xc, .slice ya s.files.length yc, s.next⟩, .bool false]) (by simp [results, Tryz.results60, go_sem, C0, C1, C2]) rfl ⟨_, _, rfl, ⟨_, rfl⟩, ⟨.slice xa s.schema.length xc, .slice ya s.files.length yc, s.next⟩, rfl, s, .inl rfl, ?_, ?_⟩
    · refine StG.base (a := W.heap.size) ?_ (by omega)
      have h := ST5.out
      repeat' (first | with_reducible exact h | with_reducible refine StG.set ?_ ?_ _ | (dsimp only; omega))
    · repeat' (first | with_reducible exact G5 | with_reducible refine Grew.setCell ?_ ?_ _ | (dsimp only; omega))
  · rcases hat with ⟨k, y, rfl, hyk, _, _⟩ | ⟨_, rfl⟩
    rotate_left
    · skip
      go_wp2
      refine bodyPost_ret (v := .tuple #[PS.v ⟨.slice xa s.schema.length xc, .slice ya s.files.length yc, s.next⟩, .bool false]) (by simp [results, Tryz.results60, go_sem, C0, C1, C2]) rfl ⟨_, _, rfl, ⟨_, rfl⟩, ⟨.slice xa s.schema.length xc, .slice ya s.files.length yc, s.next⟩, rfl, s, .inl rfl, ?_, ?_⟩
      · refine StG.base (a := W.heap.size) ?_ (by omega)
        have h := ST5.out
        repeat' (first | with_reducible exact h | with_reducible refine StG.set ?_ ?_ _ | (dsimp only; omega))
      · repeat' (first | with_reducible exact G5 | with_reducible refine Grew.setCell ?_ ?_ _ | (dsimp only; omega))
    have hkl : k < s.files.length := (List.getElem?_eq_some_iff.1 hyk).1
    have hk0 : ¬ ((k : Int) < 0) := by omega
    have hk0' : (0 : Int) ≤ k := by omega
    have hkn : (k : Int) < s.files.length := by omega
    have hzs : szAll Fd.sz s.schema ≤ 4000000 := by unfold St.sz at hz; omega
    obtain ⟨fb, hfb⟩ : ∃ b, filB s.schema f = b := ⟨_, rfl⟩
    have HFB := Lib.hid hfb
    clear hfb hyk
    have HSC := Lib.hid (rd_of_own ST5.out.q)
    go_wp2_with fail
    refine (specIsValidFile _ s.schema.length s.schema f ⟨f.id, f.owner, f.shared, f.link, .slice fa f.attrs.length fc⟩ _ HSC.out HF5.out hsc hzs (by omega)).mono ?_
    rintro e w6 ⟨he, g6⟩
    rw [HFB.out] at he
    subst he
    have SA6 := Lib.hid (SA5.out.grew g6)
    have SF6 := Lib.hid (SF5.out.grew g6)
    have SC6 := Lib.hid (SC5.out.grew g6)
    have ST6 := Lib.hid (ST5.out.grew g6)
    have G6 := G5.trans g6
    have HF6 := Lib.hid (HF5.out.grew g6)
    clear SA5 SF5 SC5 ST5 HF5 HSC A0 A1 A2 zA B0 B1 B2 B3 B4 zB C0 C1 C2 zC
    obtain ⟨A0, A1, A2, zA⟩ := SA6.out
    obtain ⟨B0, B1, B2, B3, B4, zB⟩ := SF6.out
    obtain ⟨C0, C1, C2, zC⟩ := SC6.out
    dsimp only at A0 A1 A2 B0 B1 B2 B3 B4 C0 C1 C2
    cases fb
    · skip
      go_wp2
      refine bodyPost_ret (v := .tuple #[PS.v ⟨.slice xa s.schema.length xc, .slice ya s.files.length yc, s.next⟩, .bool false]) (by simp [results, Tryz.results60, go_sem, C0, C1, C2]) rfl ⟨_, _, rfl, ⟨_, rfl⟩, ⟨.slice xa s.schema.length xc, .slice ya s.files.length yc, s.next⟩, rfl, s, .inl rfl, ?_, ?_⟩
      · refine StG.base (a := W.heap.size) ?_ (by omega)
        have h := ST6.out
        repeat' (first | with_reducible exact h | with_reducible refine StG.set ?_ ?_ _ | (dsimp only; omega))
      · repeat' (first | with_reducible exact G6 | with_reducible refine Grew.setCell ?_ ?_ _ | (dsimp only; omega))
    · skip
      obtain ⟨ps, r1, r2⟩ := ST6.out.r
      obtain ⟨fg, fc2, hfg⟩ := own_at0 r1 (by omega)
      simp only [Value.slice.injEq] at hfg
      obtain ⟨rfl, _, rfl⟩ := hfg
      have hfgl := (r1.lt fg rfl)
      have hfz := r1.frozenAt
      obtain ⟨u0, hu0⟩ := own_some r1 (k * 5) (by omega)
      obtain ⟨u1, hu1⟩ := own_some r1 (k * 5 + 1) (by omega)
      obtain ⟨u2, hu2⟩ := own_some r1 (k * 5 + 2) (by omega)
      obtain ⟨u3, hu3⟩ := own_some r1 (k * 5 + 3) (by omega)
      obtain ⟨u4, hu4⟩ := own_some r1 (k * 5 + 4) (by omega)
      clear r2
      go_wp2_with fail
      refine wp_region_noPanic ?_
      refine wp_region_T 6 (fun w' => (w'.cell? ⟨w.heap.size, 1, none⟩ = some (.slice (some ⟨fg, 0, none⟩) s.files.length yc) ∧ w'.cell? ⟨w.heap.size + 1, 0, none⟩ = some (.int .i64 f.id) ∧ w'.cell? ⟨w.heap.size + 1, 1, none⟩ = some (.int .i64 f.owner) ∧ w'.cell? ⟨w.heap.size + 1, 2, none⟩ = some (.bool f.shared) ∧ w'.cell? ⟨w.heap.size + 1, 3, none⟩ = some (.int .i64 f.link) ∧ w'.cell? ⟨w.heap.size + 1, 4, none⟩ = some (.slice fa f.attrs.length fc) ∧ Grew w6 w')) (by kernel_rfl) (⟨grew_cell (Grew.refl w6).drew A1, grew_cell (Grew.refl w6).drew B0, grew_cell (Grew.refl w6).drew B1, grew_cell (Grew.refl w6).drew B2, grew_cell (Grew.refl w6).drew B3, grew_cell (Grew.refl w6).drew B4, (Grew.refl w6).drew⟩) ?_
      intro HS
      replace HS := HS.resolve_left (by decide)
      refine tkP 0 (.inr HS) ?_
      refine tkT 1 [6] HS ?_
      refine tkP 2 (.inr HS) ?_
      refine tkT 3 [6] HS ?_
      refine clT 4 (fun K hK => ?_)
      rw [if_pos (by rfl)]
      go_simp
      go_at_call 44
      refine (l04Copy f ⟨f.id, f.owner, f.shared, f.link, .slice fa f.attrs.length fc⟩ _ (HF6.out.grew HS.2.2.2.2.2.2) hfl).mono ?_
      rintro e w7 ⟨⟨q_1, q_2, q_3, q_4, q_5⟩, rfl, hO, g7⟩
      have GN := HS.2.2.2.2.2.2.trans g7
      have g6h := HS.2.2.2.2.2.2.size
      obtain ⟨qa2, qc2, hq5⟩ := own_slice hO.2.2.2.2.1
      simp only at hq5
      subst hq5
      have HO := Lib.hid (hO.mono (lo' := W.heap.size) (by have := g1.size; have := g3'.size; have := g5.size; have := g6.size; have e : (World.put3 w1 w.heap.size ⟨.slice xa s.schema.length xc, .slice (some ⟨fg, 0, none⟩) s.files.length yc, s.next⟩).heap.size = w1.heap.size := (by unfold World.put3; simp); omega) (Nat.le_refl _))
      clear hO
      refine hK.out _ _ (⟨grew_cell GN A1, grew_cell GN B0, grew_cell GN B1, grew_cell GN B2, grew_cell GN B3, grew_cell GN B4, GN⟩) ?_
      clear HS hK K
      intro HS
      try simp only [Act.put, lpa, lpb, lpc]
      refine tkP 5 (.inr HS) ?_
      refine clE (fun K hK => ?_)
      have GF := HS.2.2.2.2.2.2
      have v0 := grew_cell GF hu0
      have v1 := grew_cell GF hu1
      have v2 := grew_cell GF hu2
      have v3 := grew_cell GF hu3
      have v4 := grew_cell GF hu4
      have vz : ∀ j, w7.frozen? ⟨fg, j, none⟩ = false := fun j => grew_frozen (a := ⟨fg, j, none⟩) GF hfgl.2 (hfz j)
      rw [if_pos (by rfl)]
      go_simp
      refine hK.out _ _ fun _ => ?_
      clear HS hK K
      try simp only [Act.put, lpa, lpb, lpc]
      refine doneT ?_
      refine NoPanic.normal ?_
      have ST7 := ST6.out.grew GF
      have r1h := Lib.hid (ownsRow_grew r1 GF)
      have HGF := Lib.hid (GrowF.putF (i := k) ST7.r rfl hkl HO.out)
      have hfw : w.heap.size + 2 < fg := by omega
      have TT : Touch fg (fg + 1) w7 (((((w7.setCell ⟨fg, k * 5, none⟩ (.int .i64 q_1)).setCell ⟨fg, k * 5 + 1, none⟩ (.int .i64 q_2)).setCell ⟨fg, k * 5 + 2, none⟩ (.bool q_3)).setCell ⟨fg, k * 5 + 3, none⟩ (.int .i64 q_4)).setCell ⟨fg, k * 5 + 4, none⟩ (.slice qa2 f.attrs.length qc2)) := ((((Touch.setCell (p := ⟨fg, k * 5, none⟩) (Touch.refl fg (fg + 1) w7) (Nat.le_refl fg) (Nat.lt_succ_self fg) _).setCell (p := ⟨fg, k * 5 + 1, none⟩) (Nat.le_refl fg) (Nat.lt_succ_self fg) _).setCell (p := ⟨fg, k * 5 + 2, none⟩) (Nat.le_refl fg) (Nat.lt_succ_self fg) _).setCell (p := ⟨fg, k * 5 + 3, none⟩) (Nat.le_refl fg) (Nat.lt_succ_self fg) _).setCell (p := ⟨fg, k * 5 + 4, none⟩) (Nat.le_refl fg) (Nat.lt_succ_self fg) _
      have HQ8 := Lib.hid (own_off ST7.q TT (fun b hb => by have h7 := own_type ST7.q r1h.out (by decide) hb; have h8 : b ≠ fg := fun e => h7 (by rw [e]; rfl); omega))
      have SA8 := (SA6.out.grew GF).tch TT (by omega)
      have SC8 := (SC6.out.grew GF).tch TT (by omega)
      have HST8 : Hid (StG (((((w7.setCell ⟨fg, k * 5, none⟩ (.int .i64 q_1)).setCell ⟨fg, k * 5 + 1, none⟩ (.int .i64 q_2)).setCell ⟨fg, k * 5 + 2, none⟩ (.bool q_3)).setCell ⟨fg, k * 5 + 3, none⟩ (.int .i64 q_4)).setCell ⟨fg, k * 5 + 4, none⟩ (.slice qa2 f.attrs.length qc2)) W.heap.size ⟨s.schema, s.files.set k f, s.next⟩ ⟨.slice xa s.schema.length xc, .slice (some ⟨fg, 0, none⟩) s.files.length yc, s.next⟩) := Lib.hid ⟨HQ8.out, HGF.out, rfl⟩
      have G8 : Grew w (((((w7.setCell ⟨fg, k * 5, none⟩ (.int .i64 q_1)).setCell ⟨fg, k * 5 + 1, none⟩ (.int .i64 q_2)).setCell ⟨fg, k * 5 + 2, none⟩ (.bool q_3)).setCell ⟨fg, k * 5 + 3, none⟩ (.int .i64 q_4)).setCell ⟨fg, k * 5 + 4, none⟩ (.slice qa2 f.attrs.length qc2)) := Touch.new (G6.trans GF) TT (by omega)
      clear A0 A1 A2 zA B0 B1 B2 B3 B4 zB C0 C1 C2 zC v0 v1 v2 v3 v4 vz hu0 hu1 hu2 hu3 hu4
      obtain ⟨A0, A1, A2, zA⟩ := SA8
      obtain ⟨C0, C1, C2, zC⟩ := SC8
      dsimp only at A0 A1 A2 C0 C1 C2
      generalize (((((w7.setCell ⟨fg, k * 5, none⟩ (.int .i64 q_1)).setCell ⟨fg, k * 5 + 1, none⟩ (.int .i64 q_2)).setCell ⟨fg, k * 5 + 2, none⟩ (.bool q_3)).setCell ⟨fg, k * 5 + 3, none⟩ (.int .i64 q_4)).setCell ⟨fg, k * 5 + 4, none⟩ (.slice qa2 f.attrs.length qc2)) = w8 at A0 A1 A2 zA C0 C1 C2 zC HST8 G8 ⊢
      go_wp2
      refine bodyPost_ret (v := .tuple #[PS.v ⟨.slice xa s.schema.length xc, .slice (some ⟨fg, 0, none⟩) s.files.length yc, s.next⟩, .bool true]) (by simp [results, Tryz.results60, go_sem, C0, C1, C2]) rfl ⟨_, _, rfl, ⟨_, rfl⟩, ⟨.slice xa s.schema.length xc, .slice (some ⟨fg, 0, none⟩) s.files.length yc, s.next⟩, rfl, ⟨s.schema, s.files.set k f, s.next⟩, .inr ⟨k, rfl⟩, ?_, ?_⟩
      · refine StG.base (a := W.heap.size) ?_ (by omega)
        have h := HST8.out
        repeat' (first | with_reducible exact h | with_reducible refine StG.set ?_ ?_ _ | (dsimp only; omega))
      · repeat' (first | with_reducible exact G8 | with_reducible refine Grew.setCell ?_ ?_ _ | (dsimp only; omega))
end Go.Proofs.YtemikjbfjhebnaaGreat
namespace Go.Proofs.YtemikjbfjhebnaaGreat
open Go.RowKit
set_option linter.unusedVariables false
set_option linter.unusedSimpArgs false
def inMake (k : Nat) (s : St) : Prop := stoB s = true ∧ s.schema = sch4 ∧ s.next = k + 1 ∧ s.files.length = k ∧ stOk k s
def madeS (s : St) : Prop := stoB s = true ∧ s.schema = sch4 ∧ s.next ≤ 8 ∧ stOk 7 s
theorem made0 : inMake 0 ⟨sch4, [], 1⟩ := by
  refine ⟨sto_of (fun f hf => by cases hf) List.Pairwise.nil sch4_valid (by simp) (by decide), rfl, rfl, rfl, ⟨by decide, sch4_ok⟩, by simp, fun f hf => by cases hf⟩
theorem cre_ok {s : St} {f : Fl} (h1 : stoB s = true) (h2 : s.schema = sch4) (h3 : s.next ≤ 60) (h4 : s.files.length < 12) {i : Int} (hf : drawnF i f) : creB s f = true := by
  have h5 := (sto_parts h1).2.2.2.2
  unfold inB at h5
  simp at h5
  unfold creB
  rw [h1, h2, hf.valid ⟨h5.1, h3⟩, decide_eq_true h4]; rfl
theorem make_next {k : Nat} {s : St} {f : Fl} {i : Int} (h : inMake k s) (hk : k < 7) (hf : drawnF i f) : creS s f = addF s f ∧ inMake (k + 1) (addF s f) := by
  obtain ⟨h1, h2, h3, h4, h5⟩ := h
  have hc := cre_ok h1 h2 (by omega) (by omega) hf
  refine ⟨by simp [creS, hc], ?_⟩
  refine ⟨?_, h2, by unfold addF; dsimp only; omega, by unfold addF; simp [h4], h5.add (hf.ok.mono (by decide))⟩
  exact add_ok h1 (by have := hf.valid (i := s.next) (by omega); rw [h2]; exact this) (by omega) (by omega)
theorem make_done {k : Nat} {s : St} (h : inMake k s) (hk : k ≤ 7) : madeS s := ⟨h.1, h.2.1, by have := h.2.2.1; omega, h.2.2.2.2.mono hk⟩
theorem madeS.cut {s s' : St} (h : madeS s) (hc : cutR s s') : madeS s' := by
  rcases hc with rfl | ⟨k, rfl⟩
  · exact h
  · exact ⟨cut_ok h.1, h.2.1, h.2.2.1, h.2.2.2.cut⟩
theorem SBox.out {w0 wc : World} {g ob : Nat} {s : St} {p : PS} (h : SBox w0 wc g ob s p) : StG (World.put3 wc w0.heap.size p) w0.heap.size s p ∧ D g w0 (World.put3 wc w0.heap.size p) :=
  ⟨(h.st.tch (touch3 wc w0.heap.size p) (Nat.le_refl _)).base (Nat.le_succ _), h.d.touch (touch3 wc w0.heap.size p) (Nat.le_refl _)⟩
set_option maxRecDepth 100000 in
set_option maxHeartbeats 8000000 in
theorem l05Store (g : Nat) (w : World) (hc : Cur w g) :
    Calls Tryz.prog 26 #[.pointer (some ⟨g, 0, none⟩)] w fun e w' => ∃ p : PS, e = .returned p.v ∧ ∃ s, madeS s ∧ StG w' w.heap.size s p ∧ D g w w' := by
  have hl := hc.lt
  have hne : w.heap.size ≠ g := by omega
  have B0 := Box.new w #[.slice none 0 0, .slice none 0 0, .int .i64 0] 27 3 rfl
  have d0 := (D.refl hc).alloc (.cells #[.slice none 0 0, .slice none 0 0, .int .i64 0] 27)
  have hs0 : (w.alloc (.cells #[.slice none 0 0, .slice none 0 0, .int .i64 0] 27)).heap.size = w.heap.size + 1 := by simp
  go_enter Tryz.func26, Tryz.ntmps26
  go_wp2_with fail
  refine (l03Usual _).mono ?_
  rintro e w1 ⟨gb, rfl, hgb, ho, g1⟩
  have d1 := d0.grew g1
  go_wp2_with fail
  refine (newStore gb 4 4 _ sch4 _ ho (by decide)).mono ?_
  rintro e w2 ⟨p, rfl, hst, g2⟩
  have d2 := d1.grew g2
  have B2 := (B0.grew g1).grew g2
  have hs1 := g1.size
  rw [hs0] at hs1
  obtain ⟨xa, xc, ya, yc, hp⟩ := hst.slices
  have hp2 : p = ⟨.slice xa 4 xc, .slice ya 0 yc, 1⟩ := hp
  clear hp
  subst hp2
  have SB := SBox.new d2 B2 (hst.base hs1)
  dsimp only at SB
  clear hst ho B0 B2 d0 d1 d2 hs0
  go_wp2
  obtain ⟨ob, hob⟩ : ∃ x, w2.heap.size = x := ⟨_, rfl⟩
  generalize w2.alloc (.cells #[.slice xa 4 xc, .slice ya 0 yc, .int .i64 1] 27) = W at SB ⊢
  rw [hob] at SB ⊢
  clear hob
  have SB0 := Lib.hid SB
  clear SB
  go_loopw [4] (fun i wr => ∃ (k : Nat) (s : St) (p : PS), k ≤ 7 ∧ i = .int .i64 k ∧ Hid (inMake k s) ∧ Hid (SBox w wr g ob s p)) (fun i _ => 8 - (intOf i).toNat)
  case atStart => exact ⟨0, _, _, by omega, rfl, Lib.hid made0, SB0⟩
  case round =>
    obtain ⟨k, s, p, hk, rfl, hin, F⟩ := hrel
    go_wp2_with fail
    refine (l01Below g _ F.out.cur 7 (by omega) (by omega)).mono ?_
    rintro e w3 ⟨x, rfl, hx, e3⟩
    have F3 := Lib.hid (F.out.step e3)
    clear F e3 SB0
    obtain ⟨xa, xc, ya, yc, hp⟩ := F3.out.st.slices
    subst hp
    have hx2 : wrap64 (1 + x) = 1 + x := by unfold wrap64; omega
    have hz := hin.out.2.2.2.2.sz (by omega)
    have hkl := hin.out.2.2.2.1
    have HKL := Lib.hid hkl
    obtain ⟨m1, hm1⟩ : ∃ m, s.schema.length = m := ⟨_, rfl⟩
    rw [hm1, hkl] at F3
    have HM1 := Lib.hid hm1
    clear hm1 hkl
    obtain ⟨n1, hn1⟩ : ∃ m, s.next = m := ⟨_, rfl⟩
    rw [hn1] at F3
    have HN1 := Lib.hid hn1
    clear hn1
    by_cases hlt : (k : Int) < 1 + x
    · have FD := Lib.hid (F3.out.grew (Grew.refl _).drew)
      have hk7 : k < 7 := by omega
      go_wp2_with fail
      refine wp_region_noPanic ?_
      refine wp_region_T 8 (fun w' => (w'.cell? ⟨ob, 0, none⟩ = some (.slice xa m1 xc) ∧ w'.cell? ⟨ob, 1, none⟩ = some (.slice ya k yc) ∧ w'.cell? ⟨ob, 2, none⟩ = some (.int .i64 n1) ∧ Hid (SBox w w' g ob s ⟨.slice xa m1 xc, .slice ya k yc, n1⟩))) (by kernel_rfl) (⟨FD.out.cs.1, FD.out.cs.2.1, FD.out.cs.2.2.1, FD⟩) ?_
      intro HS
      replace HS := HS.resolve_left (by decide)
      refine tkT 0 [8] HS ?_
      refine tkP 1 (.inr HS) ?_
      refine clT 2 (fun K hK => ?_)
      rw [if_pos (by rfl)]
      go_simp
      go_at_call 54
      refine (l04File g _ HS.2.2.2.out.cur 1).mono ?_
      rintro e wb ⟨pf, rfl, f, hf, hrow, eb⟩
      have FN := Lib.hid (HS.2.2.2.out.step eb)
      have HR := Lib.hid hrow.rd
      clear hrow
      refine hK.out _ _ (⟨FN.out.cs.1, FN.out.cs.2.1, FN.out.cs.2.2.1, FN⟩) ?_
      clear HS hK K
      intro HS
      clear FN
      try simp only [Act.put, lpa, lpb, lpc]
      refine clT 3 (fun K hK => ?_)
      rw [if_pos (by rfl)]
      go_simp
      go_at_call 53
      refine (createFile s ⟨.slice xa m1 xc, .slice ya k yc, n1⟩ f pf _ HS.2.2.2.out.st.rd HR.out (by omega) (by have := hf.ok.sz; omega)).mono ?_
      rintro e wd ⟨p', rfl, hst, gd⟩
      rw [(make_next hin.out hk7 hf).1] at hst
      have FN := Lib.hid (HS.2.2.2.out.grew gd)
      obtain ⟨za, zc, va, vc, rfl⟩ := hst.slices
      have hsb := HS.2.2.2.out.d.size
      have hrb := HS.2.2.2.out.bx.1
      have FP := Lib.hid (FN.out.put hst (by omega))
      unfold World.put3 at FP
      clear hst
      refine hK.out _ _ (⟨FN.out.cs.1, FN.out.cs.2.1, FN.out.cs.2.2.1, FN⟩) ?_
      clear HS hK K
      intro HS
      clear FN
      try simp only [Act.put, lpa, lpb, lpc]
      refine tkP 4 (.inr HS) ?_
      refine tkP 5 (.inr HS) ?_
      refine tkP 6 (.inr HS) ?_
      refine tkP 7 (.inr HS) ?_
      refine clE (fun K hK => ?_)
      obtain ⟨c0, c1, c2, z⟩ := HS.2.2.2.out.cs
      dsimp only at c0 c1 c2
      rw [if_pos (by rfl)]
      go_simp
      clear c0 c1 c2 z
      refine hK.out _ _ fun _ => ?_
      clear HS hK K
      try simp only [Act.put, lpa, lpb, lpc]
      refine doneT ?_
      refine NoPanic.normal ?_
      have HNX := Lib.hid (make_next hin.out hk7 hf).2
      go_wp2
      go_roundw
      case rel => exact ⟨k + 1, _, _, by omega, by go_num, HNX, FP⟩
      case measure => simp [intOf]; omega
    · have HD := Lib.hid (make_done hin.out hk)
      have hlen : Hid (s.files.length = k) := HKL
      by_cases h2 : 2 < k
      · obtain ⟨c0, c1, c2, _⟩ := F3.out.cs
        dsimp only at c0 c1 c2
        have h2' : (2 : Int) < k := by omega
        go_wp2_with fail
        refine (l01Once g _ F3.out.cur 3 (by decide) (by decide)).mono ?_
        rintro e w4 ⟨b, rfl, e4⟩
        have F4 := Lib.hid (F3.out.step e4)
        clear c0 c1 c2 F3 e4
        cases b
        · skip
          obtain ⟨c0, c1, c2, _⟩ := F4.out.cs
          have bx := F4.out.bx
          obtain ⟨b0, f0⟩ := bx.2.1 0 (by decide)
          obtain ⟨b1, f1⟩ := bx.2.1 1 (by decide)
          obtain ⟨b2, f2⟩ := bx.2.1 2 (by decide)
          have z0 := bx.2.2
          have hlo := F4.out.lo
          have HO := Lib.hid F4.out.out
          clear bx
          dsimp only at c0 c1 c2
          go_wp2
          change bodyPost _ _ _ _ _ _
          refine bodyPost_ret (v := PS.v ⟨.slice xa m1 xc, .slice ya k yc, n1⟩) (by simp [results, Tryz.results26, go_sem, f0, f1, f2]) rfl ⟨⟨.slice xa m1 xc, .slice ya k yc, n1⟩, rfl, s, HD.out, HO.out.1, HO.out.2⟩
        · obtain ⟨ps, r1, r2⟩ := F4.out.st.r
          rw [HKL.out] at r1
          obtain ⟨fg, fc, hfg⟩ := own_at0 r1 (by omega)
          simp only [Value.slice.injEq] at hfg
          obtain ⟨rfl, _, rfl⟩ := hfg
          have hgf : GrowF w4 (w.heap.size + 1) (.slice (some ⟨fg, 0, none⟩) k yc) s.files := F4.out.st.r
          obtain ⟨y, _, _, _, hy0, _⟩ := hgf.at HKL.out (i := 1) (by omega)
          have FD := Lib.hid (F4.out.grew (Grew.refl _).drew)
          have CY : w4.drew.cell? ⟨fg, 5, none⟩ = some (.int .i64 y.id) := grew_cell (Grew.refl w4).drew hy0
          have hk1 : (1 : Int) < k := by omega
          clear r1 r2 hgf hy0
          go_wp2_with fail
          refine wp_region_noPanic ?_
          refine wp_region_T 10 (fun w' => (w'.cell? ⟨ob, 0, none⟩ = some (.slice xa m1 xc) ∧ w'.cell? ⟨ob, 1, none⟩ = some (.slice (some ⟨fg, 0, none⟩) k yc) ∧ w'.cell? ⟨ob, 2, none⟩ = some (.int .i64 n1) ∧ w'.cell? ⟨fg, 5, none⟩ = some (.int .i64 y.id) ∧ Hid (SBox w w' g ob s ⟨.slice xa m1 xc, .slice (some ⟨fg, 0, none⟩) k yc, n1⟩))) (by kernel_rfl) (⟨FD.out.cs.1, FD.out.cs.2.1, FD.out.cs.2.2.1, CY, FD⟩) ?_
          intro HS
          replace HS := HS.resolve_left (by decide)
          refine tkT 0 [10] HS ?_
          refine tkP 1 (.inr HS) ?_
          refine tkT 2 [10] HS ?_
          refine tkP 3 (.inr HS) ?_
          refine tkP 4 (.inr HS) ?_
          refine tkT 5 [10] HS ?_
          refine clT 6 (fun K hK => ?_)
          rw [if_pos (by rfl)]
          go_simp
          go_at_call 55
          refine (deleteFile s ⟨.slice xa m1 xc, .slice (some ⟨fg, 0, none⟩) k yc, n1⟩ y.id _ HS.2.2.2.2.out.st.rd (by omega)).mono ?_
          rintro e wd ⟨_, _, rfl, ⟨bb, rfl⟩, p', rfl, s', hct, hst, gd⟩
          have FN := Lib.hid (HS.2.2.2.2.out.grew gd)
          have CN := grew_cell gd HS.2.2.2.1
          obtain ⟨za, zc, va, vc, rfl⟩ := hst.slices
          have hsb := HS.2.2.2.2.out.d.size
          have hrb := HS.2.2.2.2.out.bx.1
          have FP := Lib.hid (FN.out.put hst (by omega))
          unfold World.put3 at FP
          clear hst
          refine hK.out _ _ (⟨FN.out.cs.1, FN.out.cs.2.1, FN.out.cs.2.2.1, CN, FN⟩) ?_
          clear HS hK K
          intro HS
          clear FN CN
          try simp only [Act.put, lpa, lpb, lpc]
          refine tkP 7 (.inr HS) ?_
          refine tkP 8 (.inr HS) ?_
          refine tkP 9 (.inr HS) ?_
          refine clE (fun K hK => ?_)
          obtain ⟨c0, c1, c2, z⟩ := HS.2.2.2.2.out.cs
          dsimp only at c0 c1 c2
          rw [if_pos (by rfl)]
          go_simp
          clear c0 c1 c2 z
          refine hK.out _ _ fun _ => ?_
          clear HS hK K
          try simp only [Act.put, lpa, lpb, lpc]
          refine doneT ?_
          refine NoPanic.normal ?_
          obtain ⟨c0, c1, c2, _⟩ := FP.out.cs
          have bx := FP.out.bx
          obtain ⟨b0, f0⟩ := bx.2.1 0 (by decide)
          obtain ⟨b1, f1⟩ := bx.2.1 1 (by decide)
          obtain ⟨b2, f2⟩ := bx.2.1 2 (by decide)
          have z0 := bx.2.2
          have hlo := FP.out.lo
          have HO := Lib.hid FP.out.out
          clear bx
          dsimp only at c0 c1 c2
          go_wp2
          change bodyPost _ _ _ _ _ _
          refine bodyPost_ret (v := PS.v ⟨.slice za s'.schema.length zc, .slice va s'.files.length vc, s'.next⟩) (by simp [results, Tryz.results26, go_sem, f0, f1, f2]) rfl ⟨⟨.slice za s'.schema.length zc, .slice va s'.files.length vc, s'.next⟩, rfl, s', HD.out.cut hct, HO.out.1, HO.out.2⟩
      · have h2' : ¬ ((2 : Int) < k) := by omega
        obtain ⟨c0, c1, c2, _⟩ := F3.out.cs
        have bx := F3.out.bx
        obtain ⟨b0, f0⟩ := bx.2.1 0 (by decide)
        obtain ⟨b1, f1⟩ := bx.2.1 1 (by decide)
        obtain ⟨b2, f2⟩ := bx.2.1 2 (by decide)
        have z0 := bx.2.2
        have hlo := F3.out.lo
        have HO := Lib.hid F3.out.out
        clear bx
        dsimp only at c0 c1 c2
        go_wp2
        change bodyPost _ _ _ _ _ _
        refine bodyPost_ret (v := PS.v ⟨.slice xa m1 xc, .slice ya k yc, n1⟩) (by simp [results, Tryz.results26, go_sem, f0, f1, f2]) rfl ⟨⟨.slice xa m1 xc, .slice ya k yc, n1⟩, rfl, s, HD.out, HO.out.1, HO.out.2⟩
end Go.Proofs.YtemikjbfjhebnaaGreat
