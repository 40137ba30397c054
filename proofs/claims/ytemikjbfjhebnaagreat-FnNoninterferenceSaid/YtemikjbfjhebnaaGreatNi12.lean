/- Texts V5, as far as they are needed. -/
import Derived.Test.YtemikjbfjhebnaaGreatNi1
import Derived.Test.YtemikjbfjhebnaaGreatNi2
namespace Go.Proofs.YtemikjbfjhebnaaGreat
open Go.RowKit
set_option linter.unusedVariables false
set_option linter.unusedSimpArgs false
theorem GrowF.tch {w w' : World} {base a b : Nat} {v : Value} {fs : List Fl} (h : GrowF w base v fs) (ht : Touch a b w w') (hd : b ≤ base) : GrowF w' base v fs := by
  obtain ⟨ps, h1, h2⟩ := h
  exact ⟨ps, ownsRow_tch h1 ht hd, h2.mono fun x p h => (h.touch ht (.inr hd)).mono (Nat.le_refl _) ht.size⟩
theorem GrowF.base0 {w : World} {a b : Nat} {v : Value} {fs : List Fl} (h : GrowF w a v fs) (hb : b ≤ a) : GrowF w b v fs := by
  obtain ⟨ps, h1, h2⟩ := h
  exact ⟨ps, ownsRow_base h1 hb, h2.mono fun x p h => h.mono hb (Nat.le_refl _)⟩
theorem GrowF.slice {w : World} {base : Nat} {v : Value} {fs : List Fl} (h : GrowF w base v fs) : ∃ a c, v = .slice a fs.length c := by
  obtain ⟨ps, h1, _⟩ := h
  exact own_slice h1
theorem Rd.tch {w w' : World} {lo hi k n : Nat} {v : Value} {cs : List Value} (h : Rd w v k n cs) (ht : Touch lo hi w w') (hb : ∀ b, v.ownBlock = some b → b < lo ∨ hi ≤ b) : Rd w' v k n cs := by
  obtain ⟨a, c, rfl, hc, ha⟩ := h
  exact ⟨a, c, rfl, hc, ha.tch ht fun _ b hb' => hb b.block (by rw [hb']; rfl)⟩
theorem Touch.grown {lo hi : Nat} {a b c : World} {row : Option Nat} (h : Touch lo hi a b) (hg : b.grownBy c row) (hr : ∀ k, row = some k → a.heap.size ≤ k) : Touch lo hi a c :=
  ⟨hg.os.trans h.os, hg.tape.trans h.tape, hg.output.trans h.output, Nat.le_trans h.size hg.size, fun b' hb ho => (hg.block b' (Nat.lt_of_lt_of_le hb h.size) (fun e => by have := hr b' e.symm; omega)).trans (h.block b' hb ho)⟩
theorem Touch.new' {lo hi : Nat} {a b : World} (h : Touch lo hi a b) {p : Addr} (hp : a.heap.size ≤ p.block) (u : Value) : Touch lo hi a (b.setCell p u) :=
  ⟨h.os, h.tape, h.output, by have := h.size; simpa using this, fun b' hb ho => (Below.heap_setCell _ _ _ _ (by omega)).trans (h.block b' hb ho)⟩
structure Out (w : World) (ob base : Nat) (vs v : Value) (nx : Int) (fs : List Fl) : Prop where
  c0 : w.cell? ⟨ob, 0, none⟩ = some vs
  c1 : w.cell? ⟨ob, 1, none⟩ = some v
  c2 : w.cell? ⟨ob, 2, none⟩ = some (.int .i64 nx)
  fz : ∀ j, w.frozen? ⟨ob, j, none⟩ = false
  row : GrowF w base v fs
  lt : ob < base
  le : base ≤ w.heap.size
theorem Out.grew {w w' : World} {ob base : Nat} {vs v : Value} {nx : Int} {fs : List Fl} (h : Out w ob base vs v nx fs) (hg : Grew w w') : Out w' ob base vs v nx fs :=
  ⟨grew_cell hg h.c0, grew_cell hg h.c1, grew_cell hg h.c2, fun j => grew_frozen (a := ⟨ob, j, none⟩) hg (lt_of_cell h.c0 : (⟨ob, 0, none⟩ : Addr).block < _) (h.fz j), h.row.grew hg, h.lt, Nat.le_trans h.le hg.size⟩
theorem Out.put {w w' : World} {ob base : Nat} {vs v v' : Value} {nx : Int} {fs fs' : List Fl} (h : Out w ob base vs v nx fs) (hg : w.grownBy w' v.ownBlock) (hr : GrowF w' base v' fs') : Out (w'.setCell ⟨ob, 1, none⟩ v') ob base vs v' nx fs' := by
  have hlt : ∀ k, v.ownBlock = some k → base ≤ k := fun k hk => by obtain ⟨ps, h1, _⟩ := h.row; exact (h1.lt k hk).1
  have hl := h.lt
  have hb := h.le
  have hob : some ob ≠ v.ownBlock := fun e => by have := hlt ob e.symm; omega
  have hfz : ∀ j, w'.frozen? ⟨ob, j, none⟩ = false := fun j => by
    rw [World.frozen?_of_block (w := w) (hg.block ob (by omega) hob)]; exact h.fz j
  have d0 := hg.cell h.c0 hob
  have d1 := hg.cell h.c1 hob
  have d2 := hg.cell h.c2 hob
  refine ⟨?_, ?_, ?_, fun j => ?_, ?_, hl, ?_⟩
  · simp [go_sem, d0]
  · simp [go_sem, d1]
  · simp [go_sem, d2]
  · rw [World.frozen?_setCell]; exact hfz j
  · exact hr.tch (a := ob) (b := ob + 1) (Touch.setCell (p := ⟨ob, 1, none⟩) (Touch.refl _ _ _) (Nat.le_refl _) (Nat.lt_succ_self _) _) hl
  · have := hg.size; simp; omega
theorem cell_set_ne {w : World} {p a : Addr} {u v : Value} (h : w.cell? p = some u) (hne : p.block ≠ a.block) : (w.setCell a v).cell? p = some u :=
  tch_cell (Touch.setCell (Touch.refl a.block (a.block + 1) w) (Nat.le_refl _) (Nat.lt_succ_self _) v) (by omega) h
theorem Out.fresh (w : World) (vs : Value) (nx : Int) : Out (w.alloc (.cells #[vs, .slice none 0 0, .int .i64 nx] 27)) w.heap.size (w.alloc (.cells #[vs, .slice none 0 0, .int .i64 nx] 27)).heap.size vs (.slice none 0 0) nx [] :=
  ⟨by simp, by simp, by simp, fun j => by simp [go_sem], GrowF.nil _ _, by simp, Nat.le_refl _⟩
theorem Out.stored {w : World} {ob : Nat} {vs q0 q1 q2 : Value} {nx : Int} (hl : ob < w.heap.size) (h0 : w.cell? ⟨ob, 0, none⟩ = some q0) (h1 : w.cell? ⟨ob, 1, none⟩ = some q1) (h2 : w.cell? ⟨ob, 2, none⟩ = some q2) (hz : ∀ j, w.frozen? ⟨ob, j, none⟩ = false) :
    Out (((w.setCell ⟨ob, 0, none⟩ vs).setCell ⟨ob, 1, none⟩ (.slice none 0 0)).setCell ⟨ob, 2, none⟩ (.int .i64 nx)) ob (((w.setCell ⟨ob, 0, none⟩ vs).setCell ⟨ob, 1, none⟩ (.slice none 0 0)).setCell ⟨ob, 2, none⟩ (.int .i64 nx)).heap.size vs (.slice none 0 0) nx [] :=
  ⟨by simp [go_sem, h0, h1, h2], by simp [go_sem, h0, h1, h2], by simp [go_sem, h0, h1, h2], fun j => by rw [World.frozen?_setCell, World.frozen?_setCell, World.frozen?_setCell]; exact hz j, GrowF.nil _ _, by simpa using hl, Nat.le_refl _⟩
theorem Out.rd {w : World} {ob base : Nat} {vs v : Value} {nx : Int} {fs : List Fl} (h : Out w ob base vs v nx fs) : RdLs w v fs := h.row.rd
theorem visL_same {gs : List Fl} {f : Fl} (h : hasF gs f.link = true) : visL gs f = f := by unfold visL; rw [if_pos h]
theorem visL_not {gs : List Fl} {f : Fl} (h : hasF gs f.link = false) : visL gs f = ⟨f.id, f.owner, f.shared, 0, f.attrs⟩ := by unfold visL; rw [if_neg (by rw [h]; decide)]
theorem visM_yes {gs : List Fl} {i : Nat} {f : Fl} (hx : gs[i]? = some f) (h : hasF gs f.link = true) : visM gs (i + 1) = visM gs i := by
  rw [visM_succ hx, visL_same h]
  have h1 := visM_at hx
  obtain ⟨h2, h3⟩ := List.getElem?_eq_some_iff.1 h1
  rw [← h3]; exact List.set_getElem_self h2
theorem visM_no {gs : List Fl} {i : Nat} {f : Fl} (hx : gs[i]? = some f) (h : hasF gs f.link = false) : visM gs (i + 1) = (visM gs i).set i ⟨f.id, f.owner, f.shared, 0, f.attrs⟩ := by
  rw [visM_succ hx, visL_not h]
theorem Out.link {w : World} {ob base g n cap i : Nat} {vs : Value} {nx l : Int} {fs : List Fl} {f : Fl} (h : Out w ob base vs (.slice (some ⟨g, 0, none⟩) n cap) nx fs) (hn : fs.length = n) (hf : fs[i]? = some f) :
    Out (w.setCell ⟨g, i * 5 + 3, none⟩ (.int .i64 l)) ob base vs (.slice (some ⟨g, 0, none⟩) n cap) nx (fs.set i ⟨f.id, f.owner, f.shared, l, f.attrs⟩) := by
  have hlt : base ≤ g := by obtain ⟨ps, h1, _⟩ := h.row; exact (h1.lt g rfl).1
  have hl := h.lt
  have hne : ¬ (g = ob) := by omega
  have hne2 : ¬ (ob = g) := by omega
  have d0 := h.c0
  have d1 := h.c1
  have d2 := h.c2
  refine ⟨?_, ?_, ?_, fun j => ?_, h.row.put hn hf, hl, ?_⟩
  · simp [go_sem, d0, hne, hne2]
  · simp [go_sem, d1, hne, hne2]
  · simp [go_sem, d2, hne, hne2]
  · rw [World.frozen?_setCell]; exact h.fz j
  · have := h.le; simpa using this
set_option maxRecDepth 100000 in
set_option maxHeartbeats 8000000 in
theorem specVisibleStoreO (s : St) (p : PS) (u : Int) (w : World) (h : St.R w s p) (hzs : s.sz ≤ 4000000) :
    Calls Tryz.prog 20 #[p.v, .int .i64 u] w fun e w' => ∃ p' : PS, e = .returned p'.v ∧ (St.R w' (visS s u) p' ∧ Grew w w') ∧ GrowF w' w.heap.size p'.r (visS s u).files ∧ ∀ b, p'.q.ownBlock = some b → w.heap.size ≤ b := by
  obtain ⟨p_q, p_r, p_n⟩ := p
  obtain ⟨hq, hr, hn0⟩ := h
  simp only at hq hr hn0
  subst hn0
  have hsm := St.small_of hzs
  have hsl := hsm.1
  have hfl := hsm.2.1
  have HSM := Lib.hid hsm.2.2
  have HQ := Lib.hid hq
  have HR := Lib.hid hr
  clear hsm
  obtain ⟨qa, qc, rfl, hqc, hqa⟩ := hq
  obtain ⟨rps, ⟨ra, rc, rfl, hrc, hra⟩, hall⟩ := hr
  have HA := Lib.hid hall
  have HQA := Lib.hid hqa
  clear hall hqa
  obtain ⟨i0, hi, hz0, hz1, hz2⟩ := info_parts Tryz.infoFd
  obtain ⟨j0, hj, hy0, hy1, hy2⟩ := info_parts Tryz.infoFl
  generalize hnn : s.files.length = n at hfl hra
  have HN := Lib.hid hnn
  clear hnn
  have gW := ((Grew.refl w).alloc (.cells #[.slice qa s.schema.length qc, .slice ra n rc, .int .i64 s.next] 27)).alloc (.cells #[.slice none 0 0, .slice none 0 0, .int .i64 0] 27)
  have e0 : ((w.alloc (.cells #[.slice qa s.schema.length qc, .slice ra n rc, .int .i64 s.next] 27)).alloc (.cells #[.slice none 0 0, .slice none 0 0, .int .i64 0] 27)).cell? ⟨w.heap.size, 0, none⟩ = some (.slice qa s.schema.length qc) := by simp
  have e1 : ((w.alloc (.cells #[.slice qa s.schema.length qc, .slice ra n rc, .int .i64 s.next] 27)).alloc (.cells #[.slice none 0 0, .slice none 0 0, .int .i64 0] 27)).cell? ⟨w.heap.size, 1, none⟩ = some (.slice ra n rc) := by simp
  have e2 : ((w.alloc (.cells #[.slice qa s.schema.length qc, .slice ra n rc, .int .i64 s.next] 27)).alloc (.cells #[.slice none 0 0, .slice none 0 0, .int .i64 0] 27)).cell? ⟨w.heap.size, 2, none⟩ = some (.int .i64 s.next) := by simp
  have r0 : ((w.alloc (.cells #[.slice qa s.schema.length qc, .slice ra n rc, .int .i64 s.next] 27)).alloc (.cells #[.slice none 0 0, .slice none 0 0, .int .i64 0] 27)).cell? ⟨w.heap.size + 1, 0, none⟩ = some (.slice none 0 0) := by simp
  have r1 : ((w.alloc (.cells #[.slice qa s.schema.length qc, .slice ra n rc, .int .i64 s.next] 27)).alloc (.cells #[.slice none 0 0, .slice none 0 0, .int .i64 0] 27)).cell? ⟨w.heap.size + 1, 1, none⟩ = some (.slice none 0 0) := by simp
  have r2 : ((w.alloc (.cells #[.slice qa s.schema.length qc, .slice ra n rc, .int .i64 s.next] 27)).alloc (.cells #[.slice none 0 0, .slice none 0 0, .int .i64 0] 27)).cell? ⟨w.heap.size + 1, 2, none⟩ = some (.int .i64 0) := by simp
  have rz : ∀ j, ((w.alloc (.cells #[.slice qa s.schema.length qc, .slice ra n rc, .int .i64 s.next] 27)).alloc (.cells #[.slice none 0 0, .slice none 0 0, .int .i64 0] 27)).frozen? ⟨w.heap.size + 1, j, none⟩ = false := fun j => by simp [go_sem]
  have hsW : w.heap.size + 2 ≤ ((w.alloc (.cells #[.slice qa s.schema.length qc, .slice ra n rc, .int .i64 s.next] 27)).alloc (.cells #[.slice none 0 0, .slice none 0 0, .int .i64 0] 27)).heap.size := by simp
  go_enter Tryz.func20, Tryz.ntmps20
  go_upto_region 1 with fail
  generalize (w.alloc (.cells #[.slice qa s.schema.length qc, .slice ra n rc, .int .i64 s.next] 27)).alloc (.cells #[.slice none 0 0, .slice none 0 0, .int .i64 0] 27) = W at gW e0 e1 e2 r0 r1 r2 rz hsW ⊢
  go_cut [5] (fun o wc => ∃ ob sa sc, o = .pointer (some ⟨ob, 0, none⟩) ∧ Hid (Out wc ob wc.heap.size (.slice sa s.schema.length sc) (.slice none 0 0) s.next []) ∧ Hid (wc.ownsRow W.heap.size 87 2 (.slice sa s.schema.length sc) s.schema.length (rows Fd.c s.schema)) ∧ Hid (TyAt wc ob 27) ∧ W.heap.size ≤ ob ∧ Grew W wc)
  case first =>
    refine wp_region_noPanic ?_
    refine wp_region_held_drew (S := (fun w' => (w'.cell? ⟨w.heap.size, 0, none⟩ = some (.slice qa s.schema.length qc) ∧ w'.cell? ⟨w.heap.size, 2, none⟩ = some (.int .i64 s.next) ∧ Grew W w'))) (by kernel_rfl) ?h1_S ?h1_r
    case h1_S => exact ⟨grew_cell (Grew.refl _).drew e0, grew_cell (Grew.refl _).drew e2, (Grew.refl _).drew⟩
    case h1_r =>
     intro HS
     refine tk' 1 HS ?_
     refine tk' 2 HS ?_
     refine tk' 4 HS ?_
     refine tk' 5 HS ?_
     refine cl2 0 7 rfl rfl (by kernel_rfl) (fun K hK => ?a1_5_) (fun K hK => ?b1_5_)
     case a1_5_ =>
      rw [if_pos (by rfl)]
      go_simp
      refine hK.out _ _ ?s1_6_ ?r1_6_
      case s1_6_ => exact ⟨grew_cell ((Grew.refl _).alloc _) HS.1, grew_cell ((Grew.refl _).alloc _) HS.2.1, HS.2.2.alloc _⟩
      case r1_6_ =>
       clear HS hK K; intro HS
       try simp only [Act.put, lpa, lpb, lpc]
       refine cl2 3 7 rfl rfl (by kernel_rfl) (fun K hK => ?a1_7_) (fun K hK => ?b1_7_)
       case a1_7_ =>
        rw [if_pos (by rfl)]
        have HL := Lib.hid (ownsRow_grew (lit_own W 87 2) (Grew.refl _).drew)
        refine wp_append_any _ _ _ 24 rfl W.heap.size 87 i0 _ 2 24 Tryz.underlying24 hi hz0 hz1 hz2 rfl (by decide) _ 0 [] rfl HL.out qa s.schema.length qc (rows Fd.c s.schema) rfl (RdA.grew HQA.out (gW.trans HS.2.2)) (one_fd _) (by unfold maxLen; omega) (by omega) (by have := HS.2.2.size; exact this) ?_
        intro vs w3 hvs hgr
        have hg3 := HS.2.2.grown hgr (fun k h => (HL.out.lt k h).1)
        have HVS : Hid (w3.ownsRow W.heap.size 87 2 vs s.schema.length (rows Fd.c s.schema)) := by simpa using Lib.hid hvs
        obtain ⟨sa, sc, rfl⟩ := own_slice HVS.out
        clear hvs hgr
        refine hK.out _ _ ?s1_8_ ?r1_8_
        case s1_8_ => exact ⟨grew_cell hg3 e0, grew_cell hg3 e2, hg3⟩
        case r1_8_ =>
         clear HS hK K; intro HS
         try simp only [Act.put, lpa, lpb, lpc]
         refine tk' 6 HS ?_
         refine cl' 7 fun K hK => ?_
         rw [if_pos (by rfl)]
         go_simp
         refine hK.out _ _ ?s1_10_ ?r1_10_
         case s1_10_ => exact ⟨grew_cell ((Grew.refl _).alloc _) HS.1, grew_cell ((Grew.refl _).alloc _) HS.2.1, HS.2.2.alloc _⟩
         case r1_10_ =>
          clear HS hK K; intro HS
          try simp only [Act.put, lpa, lpb, lpc]
          refine cl' 8 fun K hK => ?_
          rw [if_pos (by rfl)]
          go_simp
          refine hK.out _ _ ?s1_11_ ?r1_11_
          case s1_11_ => exact ⟨grew_cell (hg3.alloc _) e0, grew_cell (hg3.alloc _) e2, hg3.alloc _⟩
          case r1_11_ =>
           clear HS hK K; intro HS
           try simp only [Act.put, lpa, lpb, lpc]
           refine wpAnyH_done (by kernel_rfl) ?_ _
           refine NoPanic.normal ?_
           have hgF := HS.2.2
           clear HS
           have HOUT := Lib.hid (Out.fresh w3 (.slice sa s.schema.length sc) s.next)
           have HROW := Lib.hid (ownsRow_grew HVS.out ((Grew.refl _).alloc (.cells #[.slice sa s.schema.length sc, .slice none 0 0, .int .i64 s.next] 27)))
           have HTY := Lib.hid (TyAt.new w3 #[.slice sa s.schema.length sc, .slice none 0 0, .int .i64 s.next] 27)
           go_wp2_with fail
           go_meet
           exact ⟨w3.heap.size, sa, sc, rfl, HOUT, HROW, HTY, hg3.size, hgF⟩
       case b1_7_ =>
        rw [if_pos (by rfl)]
        go_simp
        refine hK.out _ _ ?s1_12_ ?r1_12_
        case s1_12_ => exact ⟨grew_cell ((Grew.refl _).alloc _) HS.1, grew_cell ((Grew.refl _).alloc _) HS.2.1, HS.2.2.alloc _⟩
        case r1_12_ =>
         clear HS hK K; intro HS
         try simp only [Act.put, lpa, lpb, lpc]
         refine cl' 3 fun K hK => ?_
         rw [if_pos (by rfl)]
         have HL := Lib.hid (ownsRow_grew (lit_own W 87 2) (((Grew.refl _).alloc (.cells #[.slice none 0 0, .slice none 0 0, .int .i64 0] 27)).drew))
         have TB : TyAt (((W.alloc (.cells #[] 87)).alloc (.cells #[.slice none 0 0, .slice none 0 0, .int .i64 0] 27)).drew) (W.heap.size + 1) 27 := by have h := (TyAt.new (W.alloc (.cells #[] 87)) #[.slice none 0 0, .slice none 0 0, .int .i64 0] 27).grew (Grew.refl _).drew; simpa using h
         refine wp_append_any _ _ _ 24 rfl W.heap.size 87 i0 _ 2 24 Tryz.underlying24 hi hz0 hz1 hz2 rfl (by decide) _ 0 [] rfl HL.out qa s.schema.length qc (rows Fd.c s.schema) rfl (RdA.grew HQA.out (gW.trans HS.2.2)) (one_fd _) (by unfold maxLen; omega) (by omega) (by have := HS.2.2.size; exact this) ?_
         intro vs w3 hvs hgr
         have hg3 := HS.2.2.grown hgr (fun k h => (HL.out.lt k h).1)
         have HVS : Hid (w3.ownsRow W.heap.size 87 2 vs s.schema.length (rows Fd.c s.schema)) := by simpa using Lib.hid hvs
         have T3 := TB.grownOwn HL.out hgr (by decide)
         have hne : some (W.heap.size + 1) ≠ (Value.slice (some ⟨W.heap.size, 0, none⟩) 0 0).ownBlock := fun e => own_nety HL.out TB (by decide) _ e.symm rfl
         have k0 := hgr.cell (show World.cell? _ ⟨(W.heap.size + 1), 0, none⟩ = some (.slice none 0 0) by simp <;> omega) hne
         have k1 := hgr.cell (show World.cell? _ ⟨(W.heap.size + 1), 1, none⟩ = some (.slice none 0 0) by simp <;> omega) hne
         have k2 := hgr.cell (show World.cell? _ ⟨(W.heap.size + 1), 2, none⟩ = some (.int .i64 0) by simp <;> omega) hne
         have zz : ∀ j, w3.frozen? ⟨(W.heap.size + 1), j, none⟩ = false := fun j => by rw [World.frozen?_of_block (hgr.block (W.heap.size + 1) (by simp <;> omega) hne)]; simp [go_sem]
         obtain ⟨sa, sc, rfl⟩ := own_slice HVS.out
         clear hvs hgr
         refine hK.out _ _ ?s1_13_ ?r1_13_
         case s1_13_ => exact ⟨grew_cell hg3 e0, grew_cell hg3 e2, hg3⟩
         case r1_13_ =>
          clear HS hK K; intro HS
          try simp only [Act.put, lpa, lpb, lpc]
          refine tk' 6 HS ?_
          refine cl' 8 fun K hK => ?_
          rw [if_pos (by rfl)]
          go_simp
          refine hK.out _ _ ?s1_15_ ?r1_15_
          case s1_15_ => exact ⟨cell_set_ne (cell_set_ne (cell_set_ne HS.1 (by dsimp only; omega)) (by dsimp only; omega)) (by dsimp only; omega), cell_set_ne (cell_set_ne (cell_set_ne HS.2.1 (by dsimp only; omega)) (by dsimp only; omega)) (by dsimp only; omega), ((HS.2.2.setCell (by dsimp only; omega) _).setCell (by dsimp only; omega) _).setCell (by dsimp only; omega) _⟩
          case r1_15_ =>
           clear HS hK K; intro HS
           try simp only [Act.put, lpa, lpb, lpc]
           refine wpAnyH_done (by kernel_rfl) ?_ _
           refine NoPanic.normal ?_
           have hgF := HS.2.2
           clear HS
           have HOUT := Lib.hid (Out.stored (vs := .slice sa s.schema.length sc) (nx := s.next) T3.lt k0 k1 k2 zz)
           have HROW := Lib.hid (own_set (own_set (own_set HVS.out T3 (by decide) (.slice sa s.schema.length sc) (p := ⟨(W.heap.size + 1), 0, none⟩)) (T3.set _ _) (by decide) (.slice none 0 0) (p := ⟨(W.heap.size + 1), 1, none⟩)) ((T3.set _ _).set _ _) (by decide) (.int .i64 s.next) (p := ⟨(W.heap.size + 1), 2, none⟩))
           have HTY := Lib.hid (((T3.set ⟨(W.heap.size + 1), 0, none⟩ (.slice sa s.schema.length sc)).set ⟨(W.heap.size + 1), 1, none⟩ (.slice none 0 0)).set ⟨(W.heap.size + 1), 2, none⟩ (.int .i64 s.next))
           go_wp2_with fail
           go_meet
           exact ⟨(W.heap.size + 1), sa, sc, rfl, HOUT, HROW, HTY, by omega, hgF⟩
     case b1_5_ =>
      rw [if_pos (by rfl)]
      go_simp
      refine hK.out _ _ ?s1_16_ ?r1_16_
      case s1_16_ => exact ⟨grew_cell ((Grew.refl _).alloc _) HS.1, grew_cell ((Grew.refl _).alloc _) HS.2.1, HS.2.2.alloc _⟩
      case r1_16_ =>
       clear HS hK K; intro HS
       try simp only [Act.put, lpa, lpb, lpc]
       refine cl' 0 fun K hK => ?_
       rw [if_pos (by rfl)]
       go_simp
       refine hK.out _ _ ?s1_17_ ?r1_17_
       case s1_17_ => exact ⟨grew_cell ((Grew.refl _).alloc _) HS.1, grew_cell ((Grew.refl _).alloc _) HS.2.1, HS.2.2.alloc _⟩
       case r1_17_ =>
        clear HS hK K; intro HS
        try simp only [Act.put, lpa, lpb, lpc]
        refine cl' 3 fun K hK => ?_
        rw [if_pos (by rfl)]
        have HL : Hid ((((W.alloc (.cells #[.slice none 0 0, .slice none 0 0, .int .i64 0] 27)).alloc (.cells #[] 87)).drew).ownsRow W.heap.size 87 2 (.slice (some ⟨W.heap.size + 1, 0, none⟩) 0 0) 0 []) := Lib.hid (by have h := ownsRow_base (ownsRow_grew (lit_own (W.alloc (.cells #[.slice none 0 0, .slice none 0 0, .int .i64 0] 27)) 87 2) (Grew.refl _).drew) (base' := W.heap.size) (by simp); simpa using h)
        have TB : TyAt (((W.alloc (.cells #[.slice none 0 0, .slice none 0 0, .int .i64 0] 27)).alloc (.cells #[] 87)).drew) W.heap.size 27 := (TyAt.new W #[.slice none 0 0, .slice none 0 0, .int .i64 0] 27).grew (((Grew.refl _).alloc _).drew)
        refine wp_append_any _ _ _ 24 rfl W.heap.size 87 i0 _ 2 24 Tryz.underlying24 hi hz0 hz1 hz2 rfl (by decide) _ 0 [] rfl HL.out qa s.schema.length qc (rows Fd.c s.schema) rfl (RdA.grew HQA.out (gW.trans HS.2.2)) (one_fd _) (by unfold maxLen; omega) (by omega) (by have := HS.2.2.size; exact this) ?_
        intro vs w3 hvs hgr
        have hg3 := HS.2.2.grown hgr (fun k h => (HL.out.lt k h).1)
        have HVS : Hid (w3.ownsRow W.heap.size 87 2 vs s.schema.length (rows Fd.c s.schema)) := by simpa using Lib.hid hvs
        have T3 := TB.grownOwn HL.out hgr (by decide)
        have hne : some W.heap.size ≠ (Value.slice (some ⟨W.heap.size + 1, 0, none⟩) 0 0).ownBlock := fun e => own_nety HL.out TB (by decide) _ e.symm rfl
        have k0 := hgr.cell (show World.cell? _ ⟨W.heap.size, 0, none⟩ = some (.slice none 0 0) by simp <;> omega) hne
        have k1 := hgr.cell (show World.cell? _ ⟨W.heap.size, 1, none⟩ = some (.slice none 0 0) by simp <;> omega) hne
        have k2 := hgr.cell (show World.cell? _ ⟨W.heap.size, 2, none⟩ = some (.int .i64 0) by simp <;> omega) hne
        have zz : ∀ j, w3.frozen? ⟨W.heap.size, j, none⟩ = false := fun j => by rw [World.frozen?_of_block (hgr.block W.heap.size (by simp <;> omega) hne)]; simp [go_sem]
        obtain ⟨sa, sc, rfl⟩ := own_slice HVS.out
        clear hvs hgr
        refine hK.out _ _ ?s1_18_ ?r1_18_
        case s1_18_ => exact ⟨grew_cell hg3 e0, grew_cell hg3 e2, hg3⟩
        case r1_18_ =>
         clear HS hK K; intro HS
         try simp only [Act.put, lpa, lpb, lpc]
         refine tk' 6 HS ?_
         refine cl' 8 fun K hK => ?_
         rw [if_pos (by rfl)]
         go_simp
         refine hK.out _ _ ?s1_20_ ?r1_20_
         case s1_20_ => exact ⟨cell_set_ne (cell_set_ne (cell_set_ne HS.1 (by dsimp only; omega)) (by dsimp only; omega)) (by dsimp only; omega), cell_set_ne (cell_set_ne (cell_set_ne HS.2.1 (by dsimp only; omega)) (by dsimp only; omega)) (by dsimp only; omega), ((HS.2.2.setCell (by dsimp only; omega) _).setCell (by dsimp only; omega) _).setCell (by dsimp only; omega) _⟩
         case r1_20_ =>
          clear HS hK K; intro HS
          try simp only [Act.put, lpa, lpb, lpc]
          refine wpAnyH_done (by kernel_rfl) ?_ _
          refine NoPanic.normal ?_
          have hgF := HS.2.2
          clear HS
          have HOUT := Lib.hid (Out.stored (vs := .slice sa s.schema.length sc) (nx := s.next) T3.lt k0 k1 k2 zz)
          have HROW := Lib.hid (own_set (own_set (own_set HVS.out T3 (by decide) (.slice sa s.schema.length sc) (p := ⟨W.heap.size, 0, none⟩)) (T3.set _ _) (by decide) (.slice none 0 0) (p := ⟨W.heap.size, 1, none⟩)) ((T3.set _ _).set _ _) (by decide) (.int .i64 s.next) (p := ⟨W.heap.size, 2, none⟩))
          have HTY := Lib.hid (((T3.set ⟨W.heap.size, 0, none⟩ (.slice sa s.schema.length sc)).set ⟨W.heap.size, 1, none⟩ (.slice none 0 0)).set ⟨W.heap.size, 2, none⟩ (.int .i64 s.next))
          go_wp2_with fail
          go_meet
          exact ⟨W.heap.size, sa, sc, rfl, HOUT, HROW, HTY, by omega, hgF⟩
  case rest =>
    obtain ⟨ob, sa, sc, rfl, hO, hV, hT, hob, hgc⟩ := hcut
    have HVB := Lib.hid (fun b hb => (And.intro (hV.out.lt b hb).1 (own_nety hV.out hT.out (by decide) b hb) : W.heap.size ≤ b ∧ b ≠ ob))
    have HRV := Lib.hid (rd_of_own hV.out)
    have gwc := gW.trans hgc
    have hT0 := Touch.refl ob (ob + 1) wc
    have hobl := hO.out.lt
    obtain ⟨WC, hWC⟩ : ∃ x, x = wc := ⟨_, rfl⟩
    rw [← hWC] at hT0 HRV hgc gwc hobl
    have HO : Hid (Out wc ob WC.heap.size (.slice sa s.schema.length sc) (.slice none 0 0) s.next (visF (s.files.take 0) u)) := by rw [hWC]; exact hO
    subst hWC
    clear hV hT hO e0 e2
    go_wp2
    go_loopw [6] (fun i wr => ∃ (k : Nat) (v : Value), k ≤ n ∧ i = .int .i64 k ∧ Hid (Out wr ob WC.heap.size (.slice sa s.schema.length sc) v s.next (visF (s.files.take k) u)) ∧ Touch ob (ob + 1) WC wr) (fun i _ => n - (intOf i).toNat)
    case atStart => exact ⟨0, _, Nat.zero_le _, rfl, HO, hT0⟩
    case round =>
      obtain ⟨k, v, hk, rfl, HK, ht⟩ := hrel
      have gr : Grew w wr := Touch.new gwc ht (by have := hgc.size; have := gW.size; omega)
      have gr2 : Grew W wr := Touch.new hgc ht hob
      have e1' := grew_cell gr2 e1
      by_cases hlt : k < n
      · obtain ⟨b1, o1, p, rfl, hpk, c0, c1, c2, c3, c4⟩ := hra.getP5 hlt
        obtain ⟨x, hxk, hxr⟩ := HA.out.get hpk.out
        have hb1 := lt_of_cell c0
        simp only at hb1
        replace c0 := grew_cell gr c0
        replace c1 := grew_cell gr c1
        replace c2 := grew_cell gr c2
        replace c3 := grew_cell gr c3
        replace c4 := grew_cell gr c4
        have HXR := Lib.hid hxr
        have HXS := Lib.hid (HSM.out x (List.mem_of_getElem? hxk.out))
        clear hxr
        have hk0 : (0 : Int) ≤ k := by omega
        have hkn : (k : Int) < n := by omega
        obtain ⟨p_1, p_2, p_3, p_4, p_5⟩ := p
        simp only at c0 c1 c2 c3 c4
        obtain ⟨cb, hcb⟩ : ∃ c, canB x u = c := ⟨_, rfl⟩
        have HCB := Lib.hid hcb
        clear hcb
        go_wp2_with fail
        refine (specCanRead x ⟨p_1, p_2, p_3, p_4, p_5⟩ u _ (HXR.out.grew gr)).mono ?_
        rintro e wa ⟨he, hga⟩
        rw [HCB.out] at he
        subst he
        have hta := ht.grew hga
        cases cb
        · have HN2 : Hid (Out wa ob WC.heap.size (.slice sa s.schema.length sc) v s.next (visF (s.files.take (k + 1)) u)) := by rw [visF_no hxk.out HCB.out]; exact Lib.hid (HK.out.grew hga)
          go_wp2
          go_roundw
          case rel => exact ⟨k + 1, v, by omega, by go_num, HN2, hta⟩
          case measure => simp [intOf]; omega
        · have HKA := Lib.hid (HK.out.grew (hga.trans (Grew.refl wa).drew))
          have hca := HKA.out.c1
          have z1 := HKA.out.fz 1
          have hfl2 : (visF (s.files.take k) u).length ≤ n := by
            refine Nat.le_trans (visF_le _ _) ?_
            rw [List.length_take]; omega
          replace e1' := grew_cell hga e1'
          replace c0 := grew_cell hga c0
          replace c1 := grew_cell hga c1
          replace c2 := grew_cell hga c2
          replace c3 := grew_cell hga c3
          replace c4 := grew_cell hga c4
          have htb := hta.drew
          have gra := gr.trans hga
          obtain ⟨ps, h1, h2⟩ := HKA.out.row
          have H1 := Lib.hid h1
          have H2 := Lib.hid h2
          obtain ⟨va, vc, rfl⟩ := own_slice h1
          have hle := HKA.out.le
          clear h1 h2
          go_wp2_with fail
          have hwob : w.heap.size + 1 < ob := by have := hgc.size; omega
          have hwcs := gwc.size
          refine wp_region_noPanic ?_
          refine wp_region_held_drew (S := (fun w' => (w'.cell? ⟨w.heap.size, 1, none⟩ = some (.slice (some ⟨b1, o1, none⟩) n rc) ∧ w'.cell? ⟨b1, o1 + k * 5, none⟩ = some (.int .i64 p_1) ∧ w'.cell? ⟨b1, o1 + k * 5 + 1, none⟩ = some (.int .i64 p_2) ∧ w'.cell? ⟨b1, o1 + k * 5 + 2, none⟩ = some (.bool p_3) ∧ w'.cell? ⟨b1, o1 + k * 5 + 3, none⟩ = some (.int .i64 p_4) ∧ w'.cell? ⟨b1, o1 + k * 5 + 4, none⟩ = some (p_5) ∧ Touch ob (ob + 1) WC w' ∧ Grew w w'))) (by kernel_rfl) ?h2_S ?h2_r
          case h2_S => exact ⟨grew_cell (Grew.refl _).drew e1', grew_cell (Grew.refl _).drew c0, grew_cell (Grew.refl _).drew c1, grew_cell (Grew.refl _).drew c2, grew_cell (Grew.refl _).drew c3, grew_cell (Grew.refl _).drew c4, htb, gra.drew⟩
          case h2_r =>
           intro HS
           refine tk' 0 HS ?_
           refine tk' 2 HS ?_
           refine tk' 3 HS ?_
           refine tk' 4 HS ?_
           refine tk' 5 HS ?_
           refine tk' 6 HS ?_
           refine cl2 1 7 rfl rfl (by kernel_rfl) (fun K hK => ?a2_7_) (fun K hK => ?b2_7_)
           case a2_7_ =>
            rw [if_pos (by rfl)]
            go_simp
            refine hK.out _ _ ?s2_8_ ?r2_8_
            case s2_8_ => exact HS
            case r2_8_ =>
             clear HS hK K; intro HS
             try simp only [Act.put, lpa, lpb, lpc]
             refine cl' 7 fun K hK => ?_
             rw [if_pos (by rfl)]
             go_simp
             go_at_call 44
             refine (l04Copy x ⟨p_1, p_2, p_3, p_4, p_5⟩ _ (HXR.out.grew (HS.2.2.2.2.2.2.2)) HXS.out).mono ?_
             rintro e w6 ⟨q, rfl, hq, hb⟩
             obtain ⟨q_1, q_2, q_3, q_4, q_5⟩ := q
             obtain ⟨q_a, q_c, hq5⟩ := own_slice hq.2.2.2.2.1
             simp only at hq5
             subst hq5
             have HQ6 := Lib.hid hq
             clear hq
             have H61 := Lib.hid (ownsRow_grew H1.out hb)
             have H62 : Hid (All2 (Fl.O w6 WC.heap.size wa.drew.heap.size) (visF (s.files.take k) u) ps) := Lib.hid (H2.out.mono fun x p h => h.grew hb)
             have HK6 := Lib.hid (HKA.out.grew hb)
             have hs6 := hb.size
             refine hK.out _ _ ?s2_9_ ?r2_9_
             case s2_9_ => exact ⟨grew_cell (hb) (HS.1), grew_cell (hb) (HS.2.1), grew_cell (hb) (HS.2.2.1), grew_cell (hb) (HS.2.2.2.1), grew_cell (hb) (HS.2.2.2.2.1), grew_cell (hb) (HS.2.2.2.2.2.1), HS.2.2.2.2.2.2.1.grew (hb), HS.2.2.2.2.2.2.2.trans (hb)⟩
             case r2_9_ =>
              have hc6 := HK6.out.c1
              clear HS hK K; intro HS
              try simp only [Act.put, lpa, lpb, lpc]
              refine cl' 8 fun K hK => ?_
              rw [if_pos (by rfl)]
              go_simp
              refine hK.out _ _ ?s2_10_ ?r2_10_
              case s2_10_ => exact ⟨grew_cell ((Grew.refl _).alloc (.cells #[.int .i64 q_1, .int .i64 q_2, .bool q_3, .int .i64 q_4, .slice q_a x.attrs.length q_c] 55)) (HS.1), grew_cell ((Grew.refl _).alloc (.cells #[.int .i64 q_1, .int .i64 q_2, .bool q_3, .int .i64 q_4, .slice q_a x.attrs.length q_c] 55)) (HS.2.1), grew_cell ((Grew.refl _).alloc (.cells #[.int .i64 q_1, .int .i64 q_2, .bool q_3, .int .i64 q_4, .slice q_a x.attrs.length q_c] 55)) (HS.2.2.1), grew_cell ((Grew.refl _).alloc (.cells #[.int .i64 q_1, .int .i64 q_2, .bool q_3, .int .i64 q_4, .slice q_a x.attrs.length q_c] 55)) (HS.2.2.2.1), grew_cell ((Grew.refl _).alloc (.cells #[.int .i64 q_1, .int .i64 q_2, .bool q_3, .int .i64 q_4, .slice q_a x.attrs.length q_c] 55)) (HS.2.2.2.2.1), grew_cell ((Grew.refl _).alloc (.cells #[.int .i64 q_1, .int .i64 q_2, .bool q_3, .int .i64 q_4, .slice q_a x.attrs.length q_c] 55)) (HS.2.2.2.2.2.1), HS.2.2.2.2.2.2.1.grew ((Grew.refl _).alloc (.cells #[.int .i64 q_1, .int .i64 q_2, .bool q_3, .int .i64 q_4, .slice q_a x.attrs.length q_c] 55)), HS.2.2.2.2.2.2.2.trans ((Grew.refl _).alloc (.cells #[.int .i64 q_1, .int .i64 q_2, .bool q_3, .int .i64 q_4, .slice q_a x.attrs.length q_c] 55))⟩
              case r2_10_ =>
               have hc7 := grew_cell ((Grew.refl _).alloc (.cells #[.int .i64 q_1, .int .i64 q_2, .bool q_3, .int .i64 q_4, .slice q_a x.attrs.length q_c] 55)) hc6
               clear HS hK K; intro HS
               try simp only [Act.put, lpa, lpb, lpc]
               refine cl' 9 fun K hK => ?_
               rw [if_pos (by rfl)]
               have HKB := Lib.hid (HK6.out.grew ((Grew.refl _).alloc (.cells #[.int .i64 q_1, .int .i64 q_2, .bool q_3, .int .i64 q_4, .slice q_a x.attrs.length q_c] 55)))
               have H71 := Lib.hid (ownsRow_grew H61.out ((Grew.refl _).alloc (.cells #[.int .i64 q_1, .int .i64 q_2, .bool q_3, .int .i64 q_4, .slice q_a x.attrs.length q_c] 55)))
               have H72 : Hid (All2 (Fl.O (w6.alloc (.cells #[.int .i64 q_1, .int .i64 q_2, .bool q_3, .int .i64 q_4, .slice q_a x.attrs.length q_c] 55)) WC.heap.size wa.drew.heap.size) (visF (s.files.take k) u) ps) := Lib.hid (H62.out.mono fun x_ p_ h_ => h_.grew ((Grew.refl _).alloc (.cells #[.int .i64 q_1, .int .i64 q_2, .bool q_3, .int .i64 q_4, .slice q_a x.attrs.length q_c] 55)))
               have HQ7 := Lib.hid ((HQ6.out.grew ((Grew.refl _).alloc (.cells #[.int .i64 q_1, .int .i64 q_2, .bool q_3, .int .i64 q_4, .slice q_a x.attrs.length q_c] 55))).mono (Nat.le_refl _) ((Grew.refl w6).alloc (.cells #[.int .i64 q_1, .int .i64 q_2, .bool q_3, .int .i64 q_4, .slice q_a x.attrs.length q_c] 55)).size)
               have hle7 := HKB.out.le
               refine wp_append_own _ _ _ 25 rfl WC.heap.size 55 j0 _ 5 56 Tryz.underlying25 hj hy0 hy1 hy2 rfl (by decide) _ _ _ rfl H71.out ⟨_, 0, none⟩ 1 1 (P5.c ⟨q_1, q_2, q_3, q_4, .slice q_a x.attrs.length q_c⟩) rfl rfl (lit_news rfl) (fun x hx => by simp [P5.c] at hx; rcases hx with rfl | rfl | rfl | rfl | rfl <;> rfl) (by unfold maxLen; omega) (by omega) hle7 ?_
               intro v' w7 hown' hgr2 _
               have hrow : GrowF w7 WC.heap.size v' (visF (s.files.take (k + 1)) u) := by rw [visF_yes hxk.out HCB.out]; exact GrowF.snoc H71.out H72.out HQ7.out hle (Nat.le_trans hs6 ((Grew.refl w6).alloc (.cells #[.int .i64 q_1, .int .i64 q_2, .bool q_3, .int .i64 q_4, .slice q_a x.attrs.length q_c] 55)).size) hown' hgr2 hgr2.size
               have HF := Lib.hid (HKB.out.put hgr2 hrow)
               have hlt7 : ∀ j, (Value.slice va (visF (s.files.take k) u).length vc).ownBlock = some j → WC.heap.size ≤ j := fun j h => (H71.out.lt j h).1
               have hoo : some ob ≠ (Value.slice va (visF (s.files.take k) u).length vc).ownBlock := fun e => by have := hlt7 ob e.symm; omega
               have k1 := hgr2.cell HKB.out.c1 hoo
               have zz1 : w7.frozen? ⟨ob, 1, none⟩ = false := by rw [World.frozen?_of_block (hgr2.block ob (by have := HKB.out.lt; omega) hoo)]; exact HKB.out.fz 1
               have hlow : ∀ j, (Value.slice va (visF (s.files.take k) u).length vc).ownBlock = some j → w.heap.size < j := fun j h => by have := hlt7 j h; have := gwc.size; omega
               obtain ⟨va2, vc2, rfl⟩ := own_slice hown'
               clear hown'
               refine hK.out _ _ ?s2_11_ ?r2_11_
               case s2_11_ => exact ⟨hgr2.cell (HS.1) (fun e => by have := hlow _ e.symm; dsimp only at this; omega), hgr2.cell (HS.2.1) (fun e => by have := hlow _ e.symm; dsimp only at this; omega), hgr2.cell (HS.2.2.1) (fun e => by have := hlow _ e.symm; dsimp only at this; omega), hgr2.cell (HS.2.2.2.1) (fun e => by have := hlow _ e.symm; dsimp only at this; omega), hgr2.cell (HS.2.2.2.2.1) (fun e => by have := hlow _ e.symm; dsimp only at this; omega), hgr2.cell (HS.2.2.2.2.2.1) (fun e => by have := hlow _ e.symm; dsimp only at this; omega), HS.2.2.2.2.2.2.1.grown hgr2 hlt7, HS.2.2.2.2.2.2.2.grown hgr2 (fun j h => Nat.le_of_lt (hlow j h))⟩
               case r2_11_ =>
                clear HS hK K; intro HS
                try simp only [Act.put, lpa, lpb, lpc]
                refine tk' 10 HS ?_
                refine cl' 11 fun K hK => ?_
                rw [if_pos (by rfl)]
                go_simp
                refine hK.out _ _ ?s2_13_ ?r2_13_
                case s2_13_ => exact ⟨cell_set_ne (HS.1) (by dsimp only; omega), cell_set_ne (HS.2.1) (by dsimp only; omega), cell_set_ne (HS.2.2.1) (by dsimp only; omega), cell_set_ne (HS.2.2.2.1) (by dsimp only; omega), cell_set_ne (HS.2.2.2.2.1) (by dsimp only; omega), cell_set_ne (HS.2.2.2.2.2.1) (by dsimp only; omega), HS.2.2.2.2.2.2.1.setCell (Nat.le_refl _) (Nat.lt_succ_self _) _, HS.2.2.2.2.2.2.2.setCell (by dsimp only; omega) _⟩
                case r2_13_ =>
                 clear HS hK K; intro HS
                 try simp only [Act.put, lpa, lpb, lpc]
                 refine wpAnyH_done (by kernel_rfl) ?_ _
                 refine NoPanic.normal ?_
                 have htF := HS.2.2.2.2.2.2.1
                 clear HS
                 go_wp2
                 go_roundw
                 case rel => exact ⟨k + 1, _, by omega, by go_num, HF, htF⟩
                 case measure => simp [intOf]; omega
           case b2_7_ =>
            rw [if_pos (by rfl)]
            go_simp
            go_at_call 44
            refine (l04Copy x ⟨p_1, p_2, p_3, p_4, p_5⟩ _ (HXR.out.grew (HS.2.2.2.2.2.2.2)) HXS.out).mono ?_
            rintro e w6 ⟨q, rfl, hq, hb⟩
            obtain ⟨q_1, q_2, q_3, q_4, q_5⟩ := q
            obtain ⟨q_a, q_c, hq5⟩ := own_slice hq.2.2.2.2.1
            simp only at hq5
            subst hq5
            have HQ6 := Lib.hid hq
            clear hq
            have H61 := Lib.hid (ownsRow_grew H1.out hb)
            have H62 : Hid (All2 (Fl.O w6 WC.heap.size wa.drew.heap.size) (visF (s.files.take k) u) ps) := Lib.hid (H2.out.mono fun x p h => h.grew hb)
            have HK6 := Lib.hid (HKA.out.grew hb)
            have hs6 := hb.size
            refine hK.out _ _ ?s2_14_ ?r2_14_
            case s2_14_ => exact ⟨grew_cell (hb) (HS.1), grew_cell (hb) (HS.2.1), grew_cell (hb) (HS.2.2.1), grew_cell (hb) (HS.2.2.2.1), grew_cell (hb) (HS.2.2.2.2.1), grew_cell (hb) (HS.2.2.2.2.2.1), HS.2.2.2.2.2.2.1.grew (hb), HS.2.2.2.2.2.2.2.trans (hb)⟩
            case r2_14_ =>
             have hc6 := HK6.out.c1
             clear HS hK K; intro HS
             try simp only [Act.put, lpa, lpb, lpc]
             refine cl2 1 8 rfl rfl (by kernel_rfl) (fun K hK => ?a2_15_) (fun K hK => ?b2_15_)
             case a2_15_ =>
              rw [if_pos (by rfl)]
              go_simp
              refine hK.out _ _ ?s2_16_ ?r2_16_
              case s2_16_ => exact HS
              case r2_16_ =>
               clear HS hK K; intro HS
               try simp only [Act.put, lpa, lpb, lpc]
               refine cl' 8 fun K hK => ?_
               rw [if_pos (by rfl)]
               go_simp
               refine hK.out _ _ ?s2_17_ ?r2_17_
               case s2_17_ => exact ⟨grew_cell ((Grew.refl _).alloc (.cells #[.int .i64 q_1, .int .i64 q_2, .bool q_3, .int .i64 q_4, .slice q_a x.attrs.length q_c] 55)) (HS.1), grew_cell ((Grew.refl _).alloc (.cells #[.int .i64 q_1, .int .i64 q_2, .bool q_3, .int .i64 q_4, .slice q_a x.attrs.length q_c] 55)) (HS.2.1), grew_cell ((Grew.refl _).alloc (.cells #[.int .i64 q_1, .int .i64 q_2, .bool q_3, .int .i64 q_4, .slice q_a x.attrs.length q_c] 55)) (HS.2.2.1), grew_cell ((Grew.refl _).alloc (.cells #[.int .i64 q_1, .int .i64 q_2, .bool q_3, .int .i64 q_4, .slice q_a x.attrs.length q_c] 55)) (HS.2.2.2.1), grew_cell ((Grew.refl _).alloc (.cells #[.int .i64 q_1, .int .i64 q_2, .bool q_3, .int .i64 q_4, .slice q_a x.attrs.length q_c] 55)) (HS.2.2.2.2.1), grew_cell ((Grew.refl _).alloc (.cells #[.int .i64 q_1, .int .i64 q_2, .bool q_3, .int .i64 q_4, .slice q_a x.attrs.length q_c] 55)) (HS.2.2.2.2.2.1), HS.2.2.2.2.2.2.1.grew ((Grew.refl _).alloc (.cells #[.int .i64 q_1, .int .i64 q_2, .bool q_3, .int .i64 q_4, .slice q_a x.attrs.length q_c] 55)), HS.2.2.2.2.2.2.2.trans ((Grew.refl _).alloc (.cells #[.int .i64 q_1, .int .i64 q_2, .bool q_3, .int .i64 q_4, .slice q_a x.attrs.length q_c] 55))⟩
               case r2_17_ =>
                have hc7 := grew_cell ((Grew.refl _).alloc (.cells #[.int .i64 q_1, .int .i64 q_2, .bool q_3, .int .i64 q_4, .slice q_a x.attrs.length q_c] 55)) hc6
                clear HS hK K; intro HS
                try simp only [Act.put, lpa, lpb, lpc]
                refine cl' 9 fun K hK => ?_
                rw [if_pos (by rfl)]
                have HKB := Lib.hid (HK6.out.grew ((Grew.refl _).alloc (.cells #[.int .i64 q_1, .int .i64 q_2, .bool q_3, .int .i64 q_4, .slice q_a x.attrs.length q_c] 55)))
                have H71 := Lib.hid (ownsRow_grew H61.out ((Grew.refl _).alloc (.cells #[.int .i64 q_1, .int .i64 q_2, .bool q_3, .int .i64 q_4, .slice q_a x.attrs.length q_c] 55)))
                have H72 : Hid (All2 (Fl.O (w6.alloc (.cells #[.int .i64 q_1, .int .i64 q_2, .bool q_3, .int .i64 q_4, .slice q_a x.attrs.length q_c] 55)) WC.heap.size wa.drew.heap.size) (visF (s.files.take k) u) ps) := Lib.hid (H62.out.mono fun x_ p_ h_ => h_.grew ((Grew.refl _).alloc (.cells #[.int .i64 q_1, .int .i64 q_2, .bool q_3, .int .i64 q_4, .slice q_a x.attrs.length q_c] 55)))
                have HQ7 := Lib.hid ((HQ6.out.grew ((Grew.refl _).alloc (.cells #[.int .i64 q_1, .int .i64 q_2, .bool q_3, .int .i64 q_4, .slice q_a x.attrs.length q_c] 55))).mono (Nat.le_refl _) ((Grew.refl w6).alloc (.cells #[.int .i64 q_1, .int .i64 q_2, .bool q_3, .int .i64 q_4, .slice q_a x.attrs.length q_c] 55)).size)
                have hle7 := HKB.out.le
                refine wp_append_own _ _ _ 25 rfl WC.heap.size 55 j0 _ 5 56 Tryz.underlying25 hj hy0 hy1 hy2 rfl (by decide) _ _ _ rfl H71.out ⟨_, 0, none⟩ 1 1 (P5.c ⟨q_1, q_2, q_3, q_4, .slice q_a x.attrs.length q_c⟩) rfl rfl (lit_news rfl) (fun x hx => by simp [P5.c] at hx; rcases hx with rfl | rfl | rfl | rfl | rfl <;> rfl) (by unfold maxLen; omega) (by omega) hle7 ?_
                intro v' w7 hown' hgr2 _
                have hrow : GrowF w7 WC.heap.size v' (visF (s.files.take (k + 1)) u) := by rw [visF_yes hxk.out HCB.out]; exact GrowF.snoc H71.out H72.out HQ7.out hle (Nat.le_trans hs6 ((Grew.refl w6).alloc (.cells #[.int .i64 q_1, .int .i64 q_2, .bool q_3, .int .i64 q_4, .slice q_a x.attrs.length q_c] 55)).size) hown' hgr2 hgr2.size
                have HF := Lib.hid (HKB.out.put hgr2 hrow)
                have hlt7 : ∀ j, (Value.slice va (visF (s.files.take k) u).length vc).ownBlock = some j → WC.heap.size ≤ j := fun j h => (H71.out.lt j h).1
                have hoo : some ob ≠ (Value.slice va (visF (s.files.take k) u).length vc).ownBlock := fun e => by have := hlt7 ob e.symm; omega
                have k1 := hgr2.cell HKB.out.c1 hoo
                have zz1 : w7.frozen? ⟨ob, 1, none⟩ = false := by rw [World.frozen?_of_block (hgr2.block ob (by have := HKB.out.lt; omega) hoo)]; exact HKB.out.fz 1
                have hlow : ∀ j, (Value.slice va (visF (s.files.take k) u).length vc).ownBlock = some j → w.heap.size < j := fun j h => by have := hlt7 j h; have := gwc.size; omega
                obtain ⟨va2, vc2, rfl⟩ := own_slice hown'
                clear hown'
                refine hK.out _ _ ?s2_18_ ?r2_18_
                case s2_18_ => exact ⟨hgr2.cell (HS.1) (fun e => by have := hlow _ e.symm; dsimp only at this; omega), hgr2.cell (HS.2.1) (fun e => by have := hlow _ e.symm; dsimp only at this; omega), hgr2.cell (HS.2.2.1) (fun e => by have := hlow _ e.symm; dsimp only at this; omega), hgr2.cell (HS.2.2.2.1) (fun e => by have := hlow _ e.symm; dsimp only at this; omega), hgr2.cell (HS.2.2.2.2.1) (fun e => by have := hlow _ e.symm; dsimp only at this; omega), hgr2.cell (HS.2.2.2.2.2.1) (fun e => by have := hlow _ e.symm; dsimp only at this; omega), HS.2.2.2.2.2.2.1.grown hgr2 hlt7, HS.2.2.2.2.2.2.2.grown hgr2 (fun j h => Nat.le_of_lt (hlow j h))⟩
                case r2_18_ =>
                 clear HS hK K; intro HS
                 try simp only [Act.put, lpa, lpb, lpc]
                 refine tk' 10 HS ?_
                 refine cl' 11 fun K hK => ?_
                 rw [if_pos (by rfl)]
                 go_simp
                 refine hK.out _ _ ?s2_20_ ?r2_20_
                 case s2_20_ => exact ⟨cell_set_ne (HS.1) (by dsimp only; omega), cell_set_ne (HS.2.1) (by dsimp only; omega), cell_set_ne (HS.2.2.1) (by dsimp only; omega), cell_set_ne (HS.2.2.2.1) (by dsimp only; omega), cell_set_ne (HS.2.2.2.2.1) (by dsimp only; omega), cell_set_ne (HS.2.2.2.2.2.1) (by dsimp only; omega), HS.2.2.2.2.2.2.1.setCell (Nat.le_refl _) (Nat.lt_succ_self _) _, HS.2.2.2.2.2.2.2.setCell (by dsimp only; omega) _⟩
                 case r2_20_ =>
                  clear HS hK K; intro HS
                  try simp only [Act.put, lpa, lpb, lpc]
                  refine wpAnyH_done (by kernel_rfl) ?_ _
                  refine NoPanic.normal ?_
                  have htF := HS.2.2.2.2.2.2.1
                  clear HS
                  go_wp2
                  go_roundw
                  case rel => exact ⟨k + 1, _, by omega, by go_num, HF, htF⟩
                  case measure => simp [intOf]; omega
             case b2_15_ =>
              rw [if_pos (by rfl)]
              go_simp
              refine hK.out _ _ ?s2_21_ ?r2_21_
              case s2_21_ => exact ⟨grew_cell ((Grew.refl _).alloc (.cells #[.int .i64 q_1, .int .i64 q_2, .bool q_3, .int .i64 q_4, .slice q_a x.attrs.length q_c] 55)) (HS.1), grew_cell ((Grew.refl _).alloc (.cells #[.int .i64 q_1, .int .i64 q_2, .bool q_3, .int .i64 q_4, .slice q_a x.attrs.length q_c] 55)) (HS.2.1), grew_cell ((Grew.refl _).alloc (.cells #[.int .i64 q_1, .int .i64 q_2, .bool q_3, .int .i64 q_4, .slice q_a x.attrs.length q_c] 55)) (HS.2.2.1), grew_cell ((Grew.refl _).alloc (.cells #[.int .i64 q_1, .int .i64 q_2, .bool q_3, .int .i64 q_4, .slice q_a x.attrs.length q_c] 55)) (HS.2.2.2.1), grew_cell ((Grew.refl _).alloc (.cells #[.int .i64 q_1, .int .i64 q_2, .bool q_3, .int .i64 q_4, .slice q_a x.attrs.length q_c] 55)) (HS.2.2.2.2.1), grew_cell ((Grew.refl _).alloc (.cells #[.int .i64 q_1, .int .i64 q_2, .bool q_3, .int .i64 q_4, .slice q_a x.attrs.length q_c] 55)) (HS.2.2.2.2.2.1), HS.2.2.2.2.2.2.1.grew ((Grew.refl _).alloc (.cells #[.int .i64 q_1, .int .i64 q_2, .bool q_3, .int .i64 q_4, .slice q_a x.attrs.length q_c] 55)), HS.2.2.2.2.2.2.2.trans ((Grew.refl _).alloc (.cells #[.int .i64 q_1, .int .i64 q_2, .bool q_3, .int .i64 q_4, .slice q_a x.attrs.length q_c] 55))⟩
              case r2_21_ =>
               have hc7 := grew_cell ((Grew.refl _).alloc (.cells #[.int .i64 q_1, .int .i64 q_2, .bool q_3, .int .i64 q_4, .slice q_a x.attrs.length q_c] 55)) hc6
               clear HS hK K; intro HS
               try simp only [Act.put, lpa, lpb, lpc]
               refine cl' 1 fun K hK => ?_
               rw [if_pos (by rfl)]
               go_simp
               refine hK.out _ _ ?s2_22_ ?r2_22_
               case s2_22_ => exact HS
               case r2_22_ =>
                clear HS hK K; intro HS
                try simp only [Act.put, lpa, lpb, lpc]
                refine cl' 9 fun K hK => ?_
                rw [if_pos (by rfl)]
                have HKB := Lib.hid (HK6.out.grew ((Grew.refl _).alloc (.cells #[.int .i64 q_1, .int .i64 q_2, .bool q_3, .int .i64 q_4, .slice q_a x.attrs.length q_c] 55)))
                have H71 := Lib.hid (ownsRow_grew H61.out ((Grew.refl _).alloc (.cells #[.int .i64 q_1, .int .i64 q_2, .bool q_3, .int .i64 q_4, .slice q_a x.attrs.length q_c] 55)))
                have H72 : Hid (All2 (Fl.O (w6.alloc (.cells #[.int .i64 q_1, .int .i64 q_2, .bool q_3, .int .i64 q_4, .slice q_a x.attrs.length q_c] 55)) WC.heap.size wa.drew.heap.size) (visF (s.files.take k) u) ps) := Lib.hid (H62.out.mono fun x_ p_ h_ => h_.grew ((Grew.refl _).alloc (.cells #[.int .i64 q_1, .int .i64 q_2, .bool q_3, .int .i64 q_4, .slice q_a x.attrs.length q_c] 55)))
                have HQ7 := Lib.hid ((HQ6.out.grew ((Grew.refl _).alloc (.cells #[.int .i64 q_1, .int .i64 q_2, .bool q_3, .int .i64 q_4, .slice q_a x.attrs.length q_c] 55))).mono (Nat.le_refl _) ((Grew.refl w6).alloc (.cells #[.int .i64 q_1, .int .i64 q_2, .bool q_3, .int .i64 q_4, .slice q_a x.attrs.length q_c] 55)).size)
                have hle7 := HKB.out.le
                refine wp_append_own _ _ _ 25 rfl WC.heap.size 55 j0 _ 5 56 Tryz.underlying25 hj hy0 hy1 hy2 rfl (by decide) _ _ _ rfl H71.out ⟨_, 0, none⟩ 1 1 (P5.c ⟨q_1, q_2, q_3, q_4, .slice q_a x.attrs.length q_c⟩) rfl rfl (lit_news rfl) (fun x hx => by simp [P5.c] at hx; rcases hx with rfl | rfl | rfl | rfl | rfl <;> rfl) (by unfold maxLen; omega) (by omega) hle7 ?_
                intro v' w7 hown' hgr2 _
                have hrow : GrowF w7 WC.heap.size v' (visF (s.files.take (k + 1)) u) := by rw [visF_yes hxk.out HCB.out]; exact GrowF.snoc H71.out H72.out HQ7.out hle (Nat.le_trans hs6 ((Grew.refl w6).alloc (.cells #[.int .i64 q_1, .int .i64 q_2, .bool q_3, .int .i64 q_4, .slice q_a x.attrs.length q_c] 55)).size) hown' hgr2 hgr2.size
                have HF := Lib.hid (HKB.out.put hgr2 hrow)
                have hlt7 : ∀ j, (Value.slice va (visF (s.files.take k) u).length vc).ownBlock = some j → WC.heap.size ≤ j := fun j h => (H71.out.lt j h).1
                have hoo : some ob ≠ (Value.slice va (visF (s.files.take k) u).length vc).ownBlock := fun e => by have := hlt7 ob e.symm; omega
                have k1 := hgr2.cell HKB.out.c1 hoo
                have zz1 : w7.frozen? ⟨ob, 1, none⟩ = false := by rw [World.frozen?_of_block (hgr2.block ob (by have := HKB.out.lt; omega) hoo)]; exact HKB.out.fz 1
                have hlow : ∀ j, (Value.slice va (visF (s.files.take k) u).length vc).ownBlock = some j → w.heap.size < j := fun j h => by have := hlt7 j h; have := gwc.size; omega
                obtain ⟨va2, vc2, rfl⟩ := own_slice hown'
                clear hown'
                refine hK.out _ _ ?s2_23_ ?r2_23_
                case s2_23_ => exact ⟨hgr2.cell (HS.1) (fun e => by have := hlow _ e.symm; dsimp only at this; omega), hgr2.cell (HS.2.1) (fun e => by have := hlow _ e.symm; dsimp only at this; omega), hgr2.cell (HS.2.2.1) (fun e => by have := hlow _ e.symm; dsimp only at this; omega), hgr2.cell (HS.2.2.2.1) (fun e => by have := hlow _ e.symm; dsimp only at this; omega), hgr2.cell (HS.2.2.2.2.1) (fun e => by have := hlow _ e.symm; dsimp only at this; omega), hgr2.cell (HS.2.2.2.2.2.1) (fun e => by have := hlow _ e.symm; dsimp only at this; omega), HS.2.2.2.2.2.2.1.grown hgr2 hlt7, HS.2.2.2.2.2.2.2.grown hgr2 (fun j h => Nat.le_of_lt (hlow j h))⟩
                case r2_23_ =>
                 clear HS hK K; intro HS
                 try simp only [Act.put, lpa, lpb, lpc]
                 refine tk' 10 HS ?_
                 refine cl' 11 fun K hK => ?_
                 rw [if_pos (by rfl)]
                 go_simp
                 refine hK.out _ _ ?s2_25_ ?r2_25_
                 case s2_25_ => exact ⟨cell_set_ne (HS.1) (by dsimp only; omega), cell_set_ne (HS.2.1) (by dsimp only; omega), cell_set_ne (HS.2.2.1) (by dsimp only; omega), cell_set_ne (HS.2.2.2.1) (by dsimp only; omega), cell_set_ne (HS.2.2.2.2.1) (by dsimp only; omega), cell_set_ne (HS.2.2.2.2.2.1) (by dsimp only; omega), HS.2.2.2.2.2.2.1.setCell (Nat.le_refl _) (Nat.lt_succ_self _) _, HS.2.2.2.2.2.2.2.setCell (by dsimp only; omega) _⟩
                 case r2_25_ =>
                  clear HS hK K; intro HS
                  try simp only [Act.put, lpa, lpb, lpc]
                  refine wpAnyH_done (by kernel_rfl) ?_ _
                  refine NoPanic.normal ?_
                  have htF := HS.2.2.2.2.2.2.1
                  clear HS
                  go_wp2
                  go_roundw
                  case rel => exact ⟨k + 1, _, by omega, by go_num, HF, htF⟩
                  case measure => simp [intOf]; omega
      · obtain rfl : k = n := by omega
        have htk : s.files.take k = s.files := take_all HN.out
        have HKF : Hid (Out wr ob WC.heap.size (.slice sa s.schema.length sc) v s.next (visF s.files u)) := by have h := HK.out; rw [htk] at h; exact Lib.hid h
        obtain ⟨gs, hgs⟩ : ∃ gs, visF s.files u = gs := ⟨_, rfl⟩
        have HGS := Lib.hid hgs
        obtain ⟨m, hm⟩ : ∃ m, gs.length = m := ⟨_, rfl⟩
        have HM := Lib.hid hm
        have hmk : m ≤ k := by
          rw [← hm, ← hgs]
          have h := visF_le s.files u
          rw [HN.out] at h; exact h
        obtain ⟨va, vc, hv⟩ := HKF.out.row.slice
        have HO2 : Hid (Out wr ob WC.heap.size (.slice sa s.schema.length sc) (.slice va m vc) s.next (visM gs 0)) := by
          have h := HKF.out
          rw [hgs] at h hv
          rw [hv, hm] at h
          rw [visM_zero]; exact Lib.hid h
        clear hgs hm htk HK HKF hv HO e1 hT0
        go_wp2
        go_loopw [7] (fun i wr => ∃ j : Nat, j ≤ m ∧ i = .int .i64 j ∧ Hid (Out wr ob WC.heap.size (.slice sa s.schema.length sc) (.slice va m vc) s.next (visM gs j)) ∧ Touch ob (ob + 1) WC wr) (fun i _ => m - (intOf i).toNat)
        case atStart => exact ⟨0, Nat.zero_le _, rfl, HO2, ht⟩
        case round =>
          clear ht gr gr2 HO2 e1'
          obtain ⟨j, hj, rfl, HK, ht⟩ := hrel
          have gr2 : Grew W wr := Touch.new hgc ht hob
          have c0 := HK.out.c0
          have c1 := HK.out.c1
          have c2 := HK.out.c2
          by_cases hlt : j < m
          · have hml : (visM gs j).length = m := by rw [visM_len]; exact HM.out
            obtain ⟨g, rfl⟩ : ∃ g, va = some ⟨g, 0, none⟩ := by
              obtain ⟨ps, h1, _⟩ := HK.out.row
              rw [hml] at h1
              rcases h1.2 with ⟨h2, h3⟩ | ⟨g, cap, cur, h2, _⟩
              · cases h2; omega
              · cases h2; exact ⟨g, rfl⟩
            obtain ⟨f, fa, fc, hfk, d0, d1, d2, d3, d4, fz, hgl, hgb⟩ := HK.out.row.at hml hlt
            have HML := Lib.hid hml
            have hmb : (visM gs j).length ≤ 4000000 := by omega
            clear hml d0 d1 d2 d4
            have hj0 : (0 : Int) ≤ j := by omega
            have hjm : (j : Int) < m := by omega
            have hgo : ob < g := by omega
            have hg0 := Grew.refl wr
            go_wp2_with fail
            refine wp_region_noPanic ?_
            refine wp_region_held_drew (S := (fun w' => (w'.cell? ⟨ob, 0, none⟩ = some (.slice sa s.schema.length sc) ∧ w'.cell? ⟨ob, 1, none⟩ = some (.slice (some ⟨g, 0, none⟩) m vc) ∧ w'.cell? ⟨ob, 2, none⟩ = some (.int .i64 s.next) ∧ w'.cell? ⟨g, j * 5 + 3, none⟩ = some (.int .i64 f.link) ∧ Grew wr w'))) (by kernel_rfl) ?h3_S ?h3_r
            case h3_S => exact ⟨grew_cell (Grew.refl _).drew c0, grew_cell (Grew.refl _).drew c1, grew_cell (Grew.refl _).drew c2, grew_cell (Grew.refl _).drew d3, hg0.drew⟩
            case h3_r =>
             intro HS
             refine tk' 0 HS ?_
             refine tk' 1 HS ?_
             refine tk' 2 HS ?_
             refine tk' 3 HS ?_
             refine tk' 4 HS ?_
             refine tk' 5 HS ?_
             refine tk' 6 HS ?_
             refine cl' 7 fun K hK => ?_
             rw [if_pos (by rfl)]
             go_simp
             go_at_call 45
             refine (l05Place (.slice sa s.schema.length sc) (.slice (some ⟨g, 0, none⟩) m vc) s.next (visM gs j) f.link _ (HK.out.row.rd.grew HS.2.2.2.2) hmb).mono ?_
             rintro e wx ⟨i, rfl, hcs, hb⟩
             rw [hasF_visM] at hcs
             have HCS := Lib.hid hcs
             clear hcs
             refine hK.out _ _ ?s3_8_ ?r3_8_
             case s3_8_ => exact ⟨grew_cell hb HS.1, grew_cell hb HS.2.1, grew_cell hb HS.2.2.1, grew_cell hb HS.2.2.2.1, HS.2.2.2.2.trans hb⟩
             case r3_8_ =>
              clear HS hK K; intro HS
              try simp only [Act.put, lpa, lpb, lpc]
              refine tk' 8 HS ?_
              refine wpAnyH_done (by kernel_rfl) ?_ _
              refine NoPanic.normal ?_
              have gx := HS.2.2.2.2
              have y0 := HS.1
              have y1 := HS.2.1
              have y3 := HS.2.2.2.1
              clear HS c0 c1 c2 d3
              obtain ⟨f2, hlg⟩ : ∃ y, gs[j]? = some y := ⟨_, List.getElem?_eq_getElem (show j < gs.length by have := HM.out; omega)⟩
              obtain rfl : f2 = f := Option.some.inj ((visM_at hlg).symm.trans hfk.out)
              have HX := Lib.hid (HK.out.grew gx)
              have tx := ht.grew gx
              have fzx := grew_frozen (a := ⟨g, j * 5 + 3, none⟩) gx (by exact hgl) fz
              have HLG := Lib.hid hlg
              have HFK := Lib.hid hfk.out
              clear hfk hlg fz
              have hcs := HCS.out
              clear HCS
              rcases hcs with ⟨h, hi0⟩ | ⟨h, rfl⟩
              · have hni : ¬ (i < 0) := by omega
                have HN2 : Hid (Out wx ob WC.heap.size (.slice sa s.schema.length sc) (.slice (some ⟨g, 0, none⟩) m vc) s.next (visM gs (j + 1))) := by rw [visM_yes HLG.out h]; exact HX
                clear h
                go_wp2
                go_roundw
                case rel => exact ⟨j + 1, by omega, by go_num, HN2, tx⟩
                case measure => simp [intOf]; omega
              · have HN2 : Hid (Out (wx.setCell ⟨g, j * 5 + 3, none⟩ (.int .i64 0)) ob WC.heap.size (.slice sa s.schema.length sc) (.slice (some ⟨g, 0, none⟩) m vc) s.next (visM gs (j + 1))) := by rw [visM_no HLG.out h]; exact Lib.hid (HX.out.link HML.out HFK.out)
                clear h
                go_wp2
                go_roundw
                case rel => exact ⟨j + 1, by omega, by go_num, HN2, tx.new' (by dsimp only; omega) _⟩
                case measure => simp [intOf]; omega
          · obtain rfl : j = m := by omega
            have hall : visM gs j = gs.map (visL gs) := visM_all HM.out
            have HA2 := Lib.hid hall
            clear hall
            have y0 := grew_cell gr2 r0
            have y1 := grew_cell gr2 r1
            have y2 := grew_cell gr2 r2
            have yz := fun q => grew_frozen (a := ⟨w.heap.size + 1, q, none⟩) gr2 (by dsimp only; omega) (rz q)
            have tv : Rd wr (.slice sa s.schema.length sc) 2 s.schema.length (rows Fd.c s.schema) := Rd.tch HRV.out ht (fun b hb => by have := HVB.out b hb; omega)
            have HTV := Lib.hid tv
            have hw1 : w.heap.size + 2 ≤ WC.heap.size := by have := hgc.size; omega
            have gr : Grew w wr := gW.trans gr2
            clear tv r0 r1 r2 rz
            go_wp2
            have T : ∀ a b c : Value, Touch (w.heap.size + 1) (w.heap.size + 2) wr (((wr.setCell ⟨w.heap.size + 1, 0, none⟩ a).setCell ⟨w.heap.size + 1, 1, none⟩ b).setCell ⟨w.heap.size + 1, 2, none⟩ c) := fun a b c =>
              (((Touch.refl (w.heap.size + 1) (w.heap.size + 2) wr).setCell (by dsimp only; omega) (by dsimp only; omega) a).setCell (by dsimp only; omega) (by dsimp only; omega) b).setCell (by dsimp only; omega) (by dsimp only; omega) c
            have hlen : (visF s.files u).length = j := by rw [HGS.out]; exact HM.out
            refine bodyPost_ret (v := PS.v ⟨.slice sa s.schema.length sc, .slice va j vc, s.next⟩) (by simp [results, Tryz.results20, go_sem, y0, y1, y2, PS.v]) rfl ⟨⟨.slice sa s.schema.length sc, .slice va j vc, s.next⟩, rfl, ⟨⟨?_, ?_, rfl⟩, ?_⟩, ?_, ?_⟩
            · exact Rd.tch HTV.out (T _ _ _) (fun b hb => by have := HVB.out b hb; omega)
            · have h := (HK.out.row.tch (T (.slice sa s.schema.length sc) (.slice va j vc) (.int .i64 s.next)) hw1).rd
              rw [HA2.out] at h
              unfold visS
              rw [HGS.out]
              exact h
            · exact ((gr.setCell (by dsimp only; omega) _).setCell (by dsimp only; omega) _).setCell (by dsimp only; omega) _
            · have h := HK.out.row.tch (T (.slice sa s.schema.length sc) (.slice va j vc) (.int .i64 s.next)) hw1
              rw [HA2.out] at h
              unfold visS
              rw [HGS.out]
              exact h.base0 (by omega)
            · exact fun b hb => by have := HVB.out b hb; omega
theorem specVisibleStore (s : St) (p : PS) (u : Int) (w : World) (h : St.R w s p) (hzs : s.sz ≤ 4000000) :
    Calls Tryz.prog 20 #[p.v, .int .i64 u] w fun e w' => ∃ p' : PS, e = .returned p'.v ∧ St.R w' (visS s u) p' ∧ Grew w w' :=
  (specVisibleStoreO s p u w h hzs).mono fun e w' h => by
    obtain ⟨p', h1, h2, _⟩ := h
    exact ⟨p', h1, h2⟩
set_option maxRecDepth 100000 in
set_option maxHeartbeats 8000000 in
theorem implVisibleStore (s : St) (p : PS) (u : Int) (w : World) (h : St.R w s p) (hzs : s.sz ≤ 4000000) :
    Calls Tryz.prog 37 #[p.v, .int .i64 u] w fun e w' => ∃ p' : PS, e = .returned p'.v ∧ St.R w' (visS s u) p' ∧ Grew w w' := by
  obtain ⟨p_q, p_r, p_n⟩ := p
  obtain ⟨hq, hr, hn0⟩ := h
  simp only at hq hr hn0
  subst hn0
  have hsm := St.small_of hzs
  have hsl := hsm.1
  have hfl := hsm.2.1
  have HSM := Lib.hid hsm.2.2
  have HQ := Lib.hid hq
  have HR := Lib.hid hr
  clear hsm
  obtain ⟨qa, qc, rfl, hqc, hqa⟩ := hq
  obtain ⟨rps, ⟨ra, rc, rfl, hrc, hra⟩, hall⟩ := hr
  have HA := Lib.hid hall
  have HQA := Lib.hid hqa
  clear hall hqa
  obtain ⟨i0, hi, hz0, hz1, hz2⟩ := info_parts Tryz.infoFd
  obtain ⟨j0, hj, hy0, hy1, hy2⟩ := info_parts Tryz.infoFl
  generalize hnn : s.files.length = n at hfl hra
  have HN := Lib.hid hnn
  clear hnn
  have gW := ((Grew.refl w).alloc (.cells #[.slice qa s.schema.length qc, .slice ra n rc, .int .i64 s.next] 27)).alloc (.cells #[.slice none 0 0, .slice none 0 0, .int .i64 0] 27)
  have e0 : ((w.alloc (.cells #[.slice qa s.schema.length qc, .slice ra n rc, .int .i64 s.next] 27)).alloc (.cells #[.slice none 0 0, .slice none 0 0, .int .i64 0] 27)).cell? ⟨w.heap.size, 0, none⟩ = some (.slice qa s.schema.length qc) := by simp
  have e1 : ((w.alloc (.cells #[.slice qa s.schema.length qc, .slice ra n rc, .int .i64 s.next] 27)).alloc (.cells #[.slice none 0 0, .slice none 0 0, .int .i64 0] 27)).cell? ⟨w.heap.size, 1, none⟩ = some (.slice ra n rc) := by simp
  have e2 : ((w.alloc (.cells #[.slice qa s.schema.length qc, .slice ra n rc, .int .i64 s.next] 27)).alloc (.cells #[.slice none 0 0, .slice none 0 0, .int .i64 0] 27)).cell? ⟨w.heap.size, 2, none⟩ = some (.int .i64 s.next) := by simp
  have r0 : ((w.alloc (.cells #[.slice qa s.schema.length qc, .slice ra n rc, .int .i64 s.next] 27)).alloc (.cells #[.slice none 0 0, .slice none 0 0, .int .i64 0] 27)).cell? ⟨w.heap.size + 1, 0, none⟩ = some (.slice none 0 0) := by simp
  have r1 : ((w.alloc (.cells #[.slice qa s.schema.length qc, .slice ra n rc, .int .i64 s.next] 27)).alloc (.cells #[.slice none 0 0, .slice none 0 0, .int .i64 0] 27)).cell? ⟨w.heap.size + 1, 1, none⟩ = some (.slice none 0 0) := by simp
  have r2 : ((w.alloc (.cells #[.slice qa s.schema.length qc, .slice ra n rc, .int .i64 s.next] 27)).alloc (.cells #[.slice none 0 0, .slice none 0 0, .int .i64 0] 27)).cell? ⟨w.heap.size + 1, 2, none⟩ = some (.int .i64 0) := by simp
  have rz : ∀ j, ((w.alloc (.cells #[.slice qa s.schema.length qc, .slice ra n rc, .int .i64 s.next] 27)).alloc (.cells #[.slice none 0 0, .slice none 0 0, .int .i64 0] 27)).frozen? ⟨w.heap.size + 1, j, none⟩ = false := fun j => by simp [go_sem]
  have hsW : w.heap.size + 2 ≤ ((w.alloc (.cells #[.slice qa s.schema.length qc, .slice ra n rc, .int .i64 s.next] 27)).alloc (.cells #[.slice none 0 0, .slice none 0 0, .int .i64 0] 27)).heap.size := by simp
  go_enter Tryz.func37, Tryz.ntmps37
  go_upto_region 1 with fail
  generalize (w.alloc (.cells #[.slice qa s.schema.length qc, .slice ra n rc, .int .i64 s.next] 27)).alloc (.cells #[.slice none 0 0, .slice none 0 0, .int .i64 0] 27) = W at gW e0 e1 e2 r0 r1 r2 rz hsW ⊢
  go_cut [5] (fun o wc => ∃ ob sa sc, o = .pointer (some ⟨ob, 0, none⟩) ∧ Hid (Out wc ob wc.heap.size (.slice sa s.schema.length sc) (.slice none 0 0) s.next []) ∧ Hid (wc.ownsRow W.heap.size 87 2 (.slice sa s.schema.length sc) s.schema.length (rows Fd.c s.schema)) ∧ Hid (TyAt wc ob 27) ∧ W.heap.size ≤ ob ∧ Grew W wc)
  case first =>
    refine wp_region_noPanic ?_
    refine wp_region_held_drew (S := (fun w' => (w'.cell? ⟨w.heap.size, 0, none⟩ = some (.slice qa s.schema.length qc) ∧ w'.cell? ⟨w.heap.size, 2, none⟩ = some (.int .i64 s.next) ∧ Grew W w'))) (by kernel_rfl) ?h4_S ?h4_r
    case h4_S => exact ⟨grew_cell (Grew.refl _).drew e0, grew_cell (Grew.refl _).drew e2, (Grew.refl _).drew⟩
    case h4_r =>
     intro HS
     refine tk' 0 HS ?_
     refine tk' 1 HS ?_
     refine tk' 3 HS ?_
     refine tk' 4 HS ?_
     refine cl2 2 6 rfl rfl (by kernel_rfl) (fun K hK => ?a4_5_) (fun K hK => ?b4_5_)
     case a4_5_ =>
      rw [if_pos (by rfl)]
      go_simp
      go_at_call 68
      refine (slCloneField _ s.schema.length s.schema _ (HQ.out.grew (gW.trans HS.2.2)) hsl).mono ?_
      rintro e w3 ⟨vs, rfl, hvs, hb⟩
      have hg3 := HS.2.2.trans hb
      have HVS : Hid (w3.ownsRow W.heap.size 87 2 vs s.schema.length (rows Fd.c s.schema)) := Lib.hid (ownsRow_base hvs (by simp))
      obtain ⟨sa, sc, rfl⟩ := own_slice HVS.out
      clear hvs
      refine hK.out _ _ ?s4_6_ ?r4_6_
      case s4_6_ => exact ⟨grew_cell hg3 e0, grew_cell hg3 e2, hg3⟩
      case r4_6_ =>
       clear HS hK K; intro HS
       try simp only [Act.put, lpa, lpb, lpc]
       refine tk' 5 HS ?_
       refine cl' 6 fun K hK => ?_
       rw [if_pos (by rfl)]
       go_simp
       refine hK.out _ _ ?s4_8_ ?r4_8_
       case s4_8_ => exact ⟨grew_cell ((Grew.refl _).alloc _) HS.1, grew_cell ((Grew.refl _).alloc _) HS.2.1, HS.2.2.alloc _⟩
       case r4_8_ =>
        clear HS hK K; intro HS
        try simp only [Act.put, lpa, lpb, lpc]
        refine cl' 7 fun K hK => ?_
        rw [if_pos (by rfl)]
        go_simp
        refine hK.out _ _ ?s4_9_ ?r4_9_
        case s4_9_ => exact ⟨grew_cell (hg3.alloc _) e0, grew_cell (hg3.alloc _) e2, hg3.alloc _⟩
        case r4_9_ =>
         clear HS hK K; intro HS
         try simp only [Act.put, lpa, lpb, lpc]
         refine wpAnyH_done (by kernel_rfl) ?_ _
         refine NoPanic.normal ?_
         have hgF := HS.2.2
         clear HS
         have HOUT := Lib.hid (Out.fresh w3 (.slice sa s.schema.length sc) s.next)
         have HROW := Lib.hid (ownsRow_grew HVS.out ((Grew.refl _).alloc (.cells #[.slice sa s.schema.length sc, .slice none 0 0, .int .i64 s.next] 27)))
         have HTY := Lib.hid (TyAt.new w3 #[.slice sa s.schema.length sc, .slice none 0 0, .int .i64 s.next] 27)
         go_wp2_with fail
         go_meet
         exact ⟨w3.heap.size, sa, sc, rfl, HOUT, HROW, HTY, hg3.size, hgF⟩
     case b4_5_ =>
      rw [if_pos (by rfl)]
      go_simp
      refine hK.out _ _ ?s4_10_ ?r4_10_
      case s4_10_ => exact ⟨grew_cell ((Grew.refl _).alloc _) HS.1, grew_cell ((Grew.refl _).alloc _) HS.2.1, HS.2.2.alloc _⟩
      case r4_10_ =>
       clear HS hK K; intro HS
       try simp only [Act.put, lpa, lpb, lpc]
       refine cl' 2 fun K hK => ?_
       rw [if_pos (by rfl)]
       go_simp
       go_at_call 68
       refine (slCloneField _ s.schema.length s.schema _ (HQ.out.grew (gW.trans HS.2.2)) hsl).mono ?_
       rintro e w3 ⟨vs, rfl, hvs, hb⟩
       have hg3 := HS.2.2.trans hb
       have HVS : Hid (w3.ownsRow W.heap.size 87 2 vs s.schema.length (rows Fd.c s.schema)) := Lib.hid (ownsRow_base hvs (by simp))
       have gb : Grew ((W.alloc (.cells #[.slice none 0 0, .slice none 0 0, .int .i64 0] 27)).drew) w3 := hb
       have T3 : TyAt w3 W.heap.size 27 := (TyAt.new W #[.slice none 0 0, .slice none 0 0, .int .i64 0] 27).grew (((Grew.refl _).drew).trans gb)
       have k0 := grew_cell gb (show ((W.alloc (.cells #[.slice none 0 0, .slice none 0 0, .int .i64 0] 27)).drew).cell? ⟨W.heap.size, 0, none⟩ = some (.slice none 0 0) by simp)
       have k1 := grew_cell gb (show ((W.alloc (.cells #[.slice none 0 0, .slice none 0 0, .int .i64 0] 27)).drew).cell? ⟨W.heap.size, 1, none⟩ = some (.slice none 0 0) by simp)
       have k2 := grew_cell gb (show ((W.alloc (.cells #[.slice none 0 0, .slice none 0 0, .int .i64 0] 27)).drew).cell? ⟨W.heap.size, 2, none⟩ = some (.int .i64 0) by simp)
       have zz : ∀ j, w3.frozen? ⟨W.heap.size, j, none⟩ = false := fun j => grew_frozen (a := ⟨W.heap.size, j, none⟩) gb (by simp) (by simp [go_sem])
       obtain ⟨sa, sc, rfl⟩ := own_slice HVS.out
       clear hvs
       refine hK.out _ _ ?s4_11_ ?r4_11_
       case s4_11_ => exact ⟨grew_cell hg3 e0, grew_cell hg3 e2, hg3⟩
       case r4_11_ =>
        clear HS hK K; intro HS
        try simp only [Act.put, lpa, lpb, lpc]
        refine tk' 5 HS ?_
        refine cl' 7 fun K hK => ?_
        rw [if_pos (by rfl)]
        go_simp
        refine hK.out _ _ ?s4_13_ ?r4_13_
        case s4_13_ => exact ⟨cell_set_ne (cell_set_ne (cell_set_ne HS.1 (by dsimp only; omega)) (by dsimp only; omega)) (by dsimp only; omega), cell_set_ne (cell_set_ne (cell_set_ne HS.2.1 (by dsimp only; omega)) (by dsimp only; omega)) (by dsimp only; omega), ((HS.2.2.setCell (by dsimp only; omega) _).setCell (by dsimp only; omega) _).setCell (by dsimp only; omega) _⟩
        case r4_13_ =>
         clear HS hK K; intro HS
         try simp only [Act.put, lpa, lpb, lpc]
         refine wpAnyH_done (by kernel_rfl) ?_ _
         refine NoPanic.normal ?_
         have hgF := HS.2.2
         clear HS
         have HOUT := Lib.hid (Out.stored (vs := .slice sa s.schema.length sc) (nx := s.next) T3.lt k0 k1 k2 zz)
         have HROW := Lib.hid (own_set (own_set (own_set HVS.out T3 (by decide) (.slice sa s.schema.length sc) (p := ⟨W.heap.size, 0, none⟩)) (T3.set _ _) (by decide) (.slice none 0 0) (p := ⟨W.heap.size, 1, none⟩)) ((T3.set _ _).set _ _) (by decide) (.int .i64 s.next) (p := ⟨W.heap.size, 2, none⟩))
         have HTY := Lib.hid (((T3.set ⟨W.heap.size, 0, none⟩ (.slice sa s.schema.length sc)).set ⟨W.heap.size, 1, none⟩ (.slice none 0 0)).set ⟨W.heap.size, 2, none⟩ (.int .i64 s.next))
         go_wp2_with fail
         go_meet
         exact ⟨W.heap.size, sa, sc, rfl, HOUT, HROW, HTY, by omega, hgF⟩
  case rest =>
    obtain ⟨ob, sa, sc, rfl, hO, hV, hT, hob, hgc⟩ := hcut
    have HVB := Lib.hid (fun b hb => (And.intro (hV.out.lt b hb).1 (own_nety hV.out hT.out (by decide) b hb) : W.heap.size ≤ b ∧ b ≠ ob))
    have HRV := Lib.hid (rd_of_own hV.out)
    have gwc := gW.trans hgc
    have hT0 := Touch.refl ob (ob + 1) wc
    have hobl := hO.out.lt
    obtain ⟨WC, hWC⟩ : ∃ x, x = wc := ⟨_, rfl⟩
    rw [← hWC] at hT0 HRV hgc gwc hobl
    have HO : Hid (Out wc ob WC.heap.size (.slice sa s.schema.length sc) (.slice none 0 0) s.next (visF (s.files.take 0) u)) := by rw [hWC]; exact hO
    subst hWC
    clear hV hT hO e0 e2
    have e1c := grew_cell hgc e1
    go_wp2
    go_loopw [7, 19] (fun _ i wr => ∃ (k : Nat) (v : Value), k ≤ n ∧ i = .int .i64 k ∧ Hid (Out wr ob WC.heap.size (.slice sa s.schema.length sc) v s.next (visF (s.files.take k) u)) ∧ Touch ob (ob + 1) WC wr) (fun _ i _ => n - (intOf i).toNat)
    case atStart => exact ⟨0, _, Nat.zero_le _, rfl, HO, hT0⟩
    case round =>
      obtain ⟨k, v, hk, rfl, HK, ht⟩ := hrel
      have gr : Grew w wr := Touch.new gwc ht (by have := hgc.size; have := gW.size; omega)
      have gr2 : Grew W wr := Touch.new hgc ht hob
      have e1' := grew_cell gr2 e1
      by_cases hlt : k < n
      · obtain ⟨b1, o1, p, rfl, hpk, c0, c1, c2, c3, c4⟩ := hra.getP5 hlt
        obtain ⟨x, hxk, hxr⟩ := HA.out.get hpk.out
        have hb1 := lt_of_cell c0
        simp only at hb1
        replace c0 := grew_cell gr c0
        replace c1 := grew_cell gr c1
        replace c2 := grew_cell gr c2
        replace c3 := grew_cell gr c3
        replace c4 := grew_cell gr c4
        have HXR := Lib.hid hxr
        have HXS := Lib.hid (HSM.out x (List.mem_of_getElem? hxk.out))
        clear hxr
        have hk0 : (0 : Int) ≤ k := by omega
        have hkn : (k : Int) < n := by omega
        obtain ⟨p_1, p_2, p_3, p_4, p_5⟩ := p
        simp only at c0 c1 c2 c3 c4
        obtain ⟨p_a, p_c, hp5, _, _⟩ := HXR.out.2.2.2.2
        simp only at hp5
        subst hp5
        obtain ⟨cb, hcb⟩ : ∃ c, canB x u = c := ⟨_, rfl⟩
        have HCB := Lib.hid hcb
        clear hcb
        go_wp2_with fail
        refine (implCanRead x ⟨p_1, p_2, p_3, p_4, .slice p_a x.attrs.length p_c⟩ u _ (HXR.out.grew (gr.alloc _))).mono ?_
        rintro e wa ⟨he, hga0⟩
        have hga := ((Grew.refl wr).alloc (.cells #[.int .i64 p_1, .int .i64 p_2, .bool p_3, .int .i64 p_4, .slice p_a x.attrs.length p_c] 55)).trans hga0
        have f0 := grew_cell hga0 (show (wr.alloc (.cells #[.int .i64 p_1, .int .i64 p_2, .bool p_3, .int .i64 p_4, .slice p_a x.attrs.length p_c] 55)).cell? ⟨wr.heap.size, 0, none⟩ = some (.int .i64 p_1) by simp)
        have f1 := grew_cell hga0 (show (wr.alloc (.cells #[.int .i64 p_1, .int .i64 p_2, .bool p_3, .int .i64 p_4, .slice p_a x.attrs.length p_c] 55)).cell? ⟨wr.heap.size, 1, none⟩ = some (.int .i64 p_2) by simp)
        have f2 := grew_cell hga0 (show (wr.alloc (.cells #[.int .i64 p_1, .int .i64 p_2, .bool p_3, .int .i64 p_4, .slice p_a x.attrs.length p_c] 55)).cell? ⟨wr.heap.size, 2, none⟩ = some (.bool p_3) by simp)
        have f3 := grew_cell hga0 (show (wr.alloc (.cells #[.int .i64 p_1, .int .i64 p_2, .bool p_3, .int .i64 p_4, .slice p_a x.attrs.length p_c] 55)).cell? ⟨wr.heap.size, 3, none⟩ = some (.int .i64 p_4) by simp)
        have f4 := grew_cell hga0 (show (wr.alloc (.cells #[.int .i64 p_1, .int .i64 p_2, .bool p_3, .int .i64 p_4, .slice p_a x.attrs.length p_c] 55)).cell? ⟨wr.heap.size, 4, none⟩ = some (.slice p_a x.attrs.length p_c) by simp)
        have hwcr := ht.size
        rw [HCB.out] at he
        subst he
        have hta := ht.grew hga
        cases cb
        · have HN2 : Hid (Out wa ob WC.heap.size (.slice sa s.schema.length sc) v s.next (visF (s.files.take (k + 1)) u)) := by rw [visF_no hxk.out HCB.out]; exact Lib.hid (HK.out.grew hga)
          go_wp2
          go_roundw
          case rel => exact ⟨k + 1, v, by omega, by go_num, HN2, hta⟩
          case measure => simp [intOf]; omega
        · have HLT := Lib.hid (show ∀ b, v.ownBlock = some b → b < wr.heap.size from fun b hb => by obtain ⟨ps0, h10, _⟩ := HK.out.row; exact (h10.lt b hb).2)
          have HKA := Lib.hid (HK.out.grew (hga.trans (Grew.refl wa).drew))
          have hca := HKA.out.c1
          have z1 := HKA.out.fz 1
          have hfl2 : (visF (s.files.take k) u).length ≤ n := by
            refine Nat.le_trans (visF_le _ _) ?_
            rw [List.length_take]; omega
          replace e1' := grew_cell hga e1'
          have htb := hta.drew
          have gra := gr.trans hga
          obtain ⟨ps, h1, h2⟩ := HKA.out.row
          have H1 := Lib.hid h1
          have H2 := Lib.hid h2
          obtain ⟨va, vc, rfl⟩ := own_slice h1
          have hle := HKA.out.le
          clear h1 h2
          go_wp2_with fail
          have hwob : w.heap.size + 1 < ob := by have := hgc.size; omega
          have hwcs := gwc.size
          refine wp_region_noPanic ?_
          refine wp_region_held_drew (S := (fun w' => (w'.cell? ⟨w.heap.size, 1, none⟩ = some (.slice (some ⟨b1, o1, none⟩) n rc) ∧ w'.cell? ⟨wr.heap.size, 0, none⟩ = some (.int .i64 p_1) ∧ w'.cell? ⟨wr.heap.size, 1, none⟩ = some (.int .i64 p_2) ∧ w'.cell? ⟨wr.heap.size, 2, none⟩ = some (.bool p_3) ∧ w'.cell? ⟨wr.heap.size, 3, none⟩ = some (.int .i64 p_4) ∧ w'.cell? ⟨wr.heap.size, 4, none⟩ = some (.slice p_a x.attrs.length p_c) ∧ Touch ob (ob + 1) WC w' ∧ Grew w w'))) (by kernel_rfl) ?h5_S ?h5_r
          case h5_S => exact ⟨grew_cell (Grew.refl _).drew e1', grew_cell (Grew.refl _).drew f0, grew_cell (Grew.refl _).drew f1, grew_cell (Grew.refl _).drew f2, grew_cell (Grew.refl _).drew f3, grew_cell (Grew.refl _).drew f4, htb, gra.drew⟩
          case h5_r =>
           intro HS
           refine tk' 0 HS ?_
           refine tk' 2 HS ?_
           refine cl2 1 3 rfl rfl (by kernel_rfl) (fun K hK => ?a5_3_) (fun K hK => ?b5_3_)
           case a5_3_ =>
            rw [if_pos (by rfl)]
            go_simp
            refine hK.out _ _ ?s5_4_ ?r5_4_
            case s5_4_ => exact HS
            case r5_4_ =>
             clear HS hK K; intro HS
             try simp only [Act.put, lpa, lpb, lpc]
             refine cl' 3 fun K hK => ?_
             rw [if_pos (by rfl)]
             go_simp
             go_at_call 70
             refine (implCopyFile x ⟨p_1, p_2, p_3, p_4, .slice p_a x.attrs.length p_c⟩ _ (HXR.out.grew (HS.2.2.2.2.2.2.2)) HXS.out).mono ?_
             rintro e w6 ⟨q, rfl, hq, hb⟩
             obtain ⟨q_1, q_2, q_3, q_4, q_5⟩ := q
             obtain ⟨q_a, q_c, hq5⟩ := own_slice hq.2.2.2.2.1
             simp only at hq5
             subst hq5
             have HQ6 := Lib.hid hq
             clear hq
             have H61 := Lib.hid (ownsRow_grew H1.out hb)
             have H62 : Hid (All2 (Fl.O w6 WC.heap.size wa.drew.heap.size) (visF (s.files.take k) u) ps) := Lib.hid (H2.out.mono fun x p h => h.grew hb)
             have HK6 := Lib.hid (HKA.out.grew hb)
             have hs6 := hb.size
             refine hK.out _ _ ?s5_5_ ?r5_5_
             case s5_5_ => exact ⟨grew_cell (hb) (HS.1), grew_cell (hb) (HS.2.1), grew_cell (hb) (HS.2.2.1), grew_cell (hb) (HS.2.2.2.1), grew_cell (hb) (HS.2.2.2.2.1), grew_cell (hb) (HS.2.2.2.2.2.1), HS.2.2.2.2.2.2.1.grew (hb), HS.2.2.2.2.2.2.2.trans (hb)⟩
             case r5_5_ =>
              have hc6 := HK6.out.c1
              clear HS hK K; intro HS
              try simp only [Act.put, lpa, lpb, lpc]
              refine cl' 4 fun K hK => ?_
              rw [if_pos (by rfl)]
              go_simp
              refine hK.out _ _ ?s5_6_ ?r5_6_
              case s5_6_ => exact ⟨grew_cell ((Grew.refl _).alloc (.cells #[.int .i64 q_1, .int .i64 q_2, .bool q_3, .int .i64 q_4, .slice q_a x.attrs.length q_c] 55)) (HS.1), grew_cell ((Grew.refl _).alloc (.cells #[.int .i64 q_1, .int .i64 q_2, .bool q_3, .int .i64 q_4, .slice q_a x.attrs.length q_c] 55)) (HS.2.1), grew_cell ((Grew.refl _).alloc (.cells #[.int .i64 q_1, .int .i64 q_2, .bool q_3, .int .i64 q_4, .slice q_a x.attrs.length q_c] 55)) (HS.2.2.1), grew_cell ((Grew.refl _).alloc (.cells #[.int .i64 q_1, .int .i64 q_2, .bool q_3, .int .i64 q_4, .slice q_a x.attrs.length q_c] 55)) (HS.2.2.2.1), grew_cell ((Grew.refl _).alloc (.cells #[.int .i64 q_1, .int .i64 q_2, .bool q_3, .int .i64 q_4, .slice q_a x.attrs.length q_c] 55)) (HS.2.2.2.2.1), grew_cell ((Grew.refl _).alloc (.cells #[.int .i64 q_1, .int .i64 q_2, .bool q_3, .int .i64 q_4, .slice q_a x.attrs.length q_c] 55)) (HS.2.2.2.2.2.1), HS.2.2.2.2.2.2.1.grew ((Grew.refl _).alloc (.cells #[.int .i64 q_1, .int .i64 q_2, .bool q_3, .int .i64 q_4, .slice q_a x.attrs.length q_c] 55)), HS.2.2.2.2.2.2.2.trans ((Grew.refl _).alloc (.cells #[.int .i64 q_1, .int .i64 q_2, .bool q_3, .int .i64 q_4, .slice q_a x.attrs.length q_c] 55))⟩
              case r5_6_ =>
               have hc7 := grew_cell ((Grew.refl _).alloc (.cells #[.int .i64 q_1, .int .i64 q_2, .bool q_3, .int .i64 q_4, .slice q_a x.attrs.length q_c] 55)) hc6
               clear HS hK K; intro HS
               try simp only [Act.put, lpa, lpb, lpc]
               refine cl' 5 fun K hK => ?_
               rw [if_pos (by rfl)]
               have HKB := Lib.hid (HK6.out.grew ((Grew.refl _).alloc (.cells #[.int .i64 q_1, .int .i64 q_2, .bool q_3, .int .i64 q_4, .slice q_a x.attrs.length q_c] 55)))
               have H71 := Lib.hid (ownsRow_grew H61.out ((Grew.refl _).alloc (.cells #[.int .i64 q_1, .int .i64 q_2, .bool q_3, .int .i64 q_4, .slice q_a x.attrs.length q_c] 55)))
               have H72 : Hid (All2 (Fl.O (w6.alloc (.cells #[.int .i64 q_1, .int .i64 q_2, .bool q_3, .int .i64 q_4, .slice q_a x.attrs.length q_c] 55)) WC.heap.size wa.drew.heap.size) (visF (s.files.take k) u) ps) := Lib.hid (H62.out.mono fun x_ p_ h_ => h_.grew ((Grew.refl _).alloc (.cells #[.int .i64 q_1, .int .i64 q_2, .bool q_3, .int .i64 q_4, .slice q_a x.attrs.length q_c] 55)))
               have HQ7 := Lib.hid ((HQ6.out.grew ((Grew.refl _).alloc (.cells #[.int .i64 q_1, .int .i64 q_2, .bool q_3, .int .i64 q_4, .slice q_a x.attrs.length q_c] 55))).mono (Nat.le_refl _) ((Grew.refl w6).alloc (.cells #[.int .i64 q_1, .int .i64 q_2, .bool q_3, .int .i64 q_4, .slice q_a x.attrs.length q_c] 55)).size)
               have hle7 := HKB.out.le
               refine wp_append_own _ _ _ 25 rfl WC.heap.size 55 j0 _ 5 56 Tryz.underlying25 hj hy0 hy1 hy2 rfl (by decide) _ _ _ rfl H71.out ⟨_, 0, none⟩ 1 1 (P5.c ⟨q_1, q_2, q_3, q_4, .slice q_a x.attrs.length q_c⟩) rfl rfl (lit_news rfl) (fun x hx => by simp [P5.c] at hx; rcases hx with rfl | rfl | rfl | rfl | rfl <;> rfl) (by unfold maxLen; omega) (by omega) hle7 ?_
               intro v' w7 hown' hgr2 _
               have hrow : GrowF w7 WC.heap.size v' (visF (s.files.take (k + 1)) u) := by rw [visF_yes hxk.out HCB.out]; exact GrowF.snoc H71.out H72.out HQ7.out hle (Nat.le_trans hs6 ((Grew.refl w6).alloc (.cells #[.int .i64 q_1, .int .i64 q_2, .bool q_3, .int .i64 q_4, .slice q_a x.attrs.length q_c] 55)).size) hown' hgr2 hgr2.size
               have HF := Lib.hid (HKB.out.put hgr2 hrow)
               have hlt7 : ∀ j, (Value.slice va (visF (s.files.take k) u).length vc).ownBlock = some j → WC.heap.size ≤ j := fun j h => (H71.out.lt j h).1
               have hoo : some ob ≠ (Value.slice va (visF (s.files.take k) u).length vc).ownBlock := fun e => by have := hlt7 ob e.symm; omega
               have k1 := hgr2.cell HKB.out.c1 hoo
               have zz1 : w7.frozen? ⟨ob, 1, none⟩ = false := by rw [World.frozen?_of_block (hgr2.block ob (by have := HKB.out.lt; omega) hoo)]; exact HKB.out.fz 1
               have hlow : ∀ j, (Value.slice va (visF (s.files.take k) u).length vc).ownBlock = some j → w.heap.size < j := fun j h => by have := hlt7 j h; have := gwc.size; omega
               have hlo2 : ∀ j, (Value.slice va (visF (s.files.take k) u).length vc).ownBlock = some j → j < wr.heap.size := HLT.out
               obtain ⟨va2, vc2, rfl⟩ := own_slice hown'
               clear hown'
               refine hK.out _ _ ?s5_7_ ?r5_7_
               case s5_7_ => exact ⟨hgr2.cell (HS.1) (fun e => by have := hlow _ e.symm; dsimp only at this; omega), hgr2.cell (HS.2.1) (fun e => by have := hlo2 _ e.symm; dsimp only at this; omega), hgr2.cell (HS.2.2.1) (fun e => by have := hlo2 _ e.symm; dsimp only at this; omega), hgr2.cell (HS.2.2.2.1) (fun e => by have := hlo2 _ e.symm; dsimp only at this; omega), hgr2.cell (HS.2.2.2.2.1) (fun e => by have := hlo2 _ e.symm; dsimp only at this; omega), hgr2.cell (HS.2.2.2.2.2.1) (fun e => by have := hlo2 _ e.symm; dsimp only at this; omega), HS.2.2.2.2.2.2.1.grown hgr2 hlt7, HS.2.2.2.2.2.2.2.grown hgr2 (fun j h => Nat.le_of_lt (hlow j h))⟩
               case r5_7_ =>
                clear HS hK K; intro HS
                try simp only [Act.put, lpa, lpb, lpc]
                refine tk' 6 HS ?_
                refine cl' 7 fun K hK => ?_
                rw [if_pos (by rfl)]
                go_simp
                refine hK.out _ _ ?s5_9_ ?r5_9_
                case s5_9_ => exact ⟨cell_set_ne (HS.1) (by dsimp only; omega), cell_set_ne (HS.2.1) (by dsimp only; omega), cell_set_ne (HS.2.2.1) (by dsimp only; omega), cell_set_ne (HS.2.2.2.1) (by dsimp only; omega), cell_set_ne (HS.2.2.2.2.1) (by dsimp only; omega), cell_set_ne (HS.2.2.2.2.2.1) (by dsimp only; omega), HS.2.2.2.2.2.2.1.setCell (Nat.le_refl _) (Nat.lt_succ_self _) _, HS.2.2.2.2.2.2.2.setCell (by dsimp only; omega) _⟩
                case r5_9_ =>
                 clear HS hK K; intro HS
                 try simp only [Act.put, lpa, lpb, lpc]
                 refine wpAnyH_done (by kernel_rfl) ?_ _
                 refine NoPanic.normal ?_
                 have htF := HS.2.2.2.2.2.2.1
                 clear HS
                 go_wp2
                 go_roundw
                 case rel => exact ⟨k + 1, _, by omega, by go_num, HF, htF⟩
                 case measure => simp [intOf]; omega
           case b5_3_ =>
            rw [if_pos (by rfl)]
            go_simp
            go_at_call 70
            refine (implCopyFile x ⟨p_1, p_2, p_3, p_4, .slice p_a x.attrs.length p_c⟩ _ (HXR.out.grew (HS.2.2.2.2.2.2.2)) HXS.out).mono ?_
            rintro e w6 ⟨q, rfl, hq, hb⟩
            obtain ⟨q_1, q_2, q_3, q_4, q_5⟩ := q
            obtain ⟨q_a, q_c, hq5⟩ := own_slice hq.2.2.2.2.1
            simp only at hq5
            subst hq5
            have HQ6 := Lib.hid hq
            clear hq
            have H61 := Lib.hid (ownsRow_grew H1.out hb)
            have H62 : Hid (All2 (Fl.O w6 WC.heap.size wa.drew.heap.size) (visF (s.files.take k) u) ps) := Lib.hid (H2.out.mono fun x p h => h.grew hb)
            have HK6 := Lib.hid (HKA.out.grew hb)
            have hs6 := hb.size
            refine hK.out _ _ ?s5_10_ ?r5_10_
            case s5_10_ => exact ⟨grew_cell (hb) (HS.1), grew_cell (hb) (HS.2.1), grew_cell (hb) (HS.2.2.1), grew_cell (hb) (HS.2.2.2.1), grew_cell (hb) (HS.2.2.2.2.1), grew_cell (hb) (HS.2.2.2.2.2.1), HS.2.2.2.2.2.2.1.grew (hb), HS.2.2.2.2.2.2.2.trans (hb)⟩
            case r5_10_ =>
             have hc6 := HK6.out.c1
             clear HS hK K; intro HS
             try simp only [Act.put, lpa, lpb, lpc]
             refine cl2 1 4 rfl rfl (by kernel_rfl) (fun K hK => ?a5_11_) (fun K hK => ?b5_11_)
             case a5_11_ =>
              rw [if_pos (by rfl)]
              go_simp
              refine hK.out _ _ ?s5_12_ ?r5_12_
              case s5_12_ => exact HS
              case r5_12_ =>
               clear HS hK K; intro HS
               try simp only [Act.put, lpa, lpb, lpc]
               refine cl' 4 fun K hK => ?_
               rw [if_pos (by rfl)]
               go_simp
               refine hK.out _ _ ?s5_13_ ?r5_13_
               case s5_13_ => exact ⟨grew_cell ((Grew.refl _).alloc (.cells #[.int .i64 q_1, .int .i64 q_2, .bool q_3, .int .i64 q_4, .slice q_a x.attrs.length q_c] 55)) (HS.1), grew_cell ((Grew.refl _).alloc (.cells #[.int .i64 q_1, .int .i64 q_2, .bool q_3, .int .i64 q_4, .slice q_a x.attrs.length q_c] 55)) (HS.2.1), grew_cell ((Grew.refl _).alloc (.cells #[.int .i64 q_1, .int .i64 q_2, .bool q_3, .int .i64 q_4, .slice q_a x.attrs.length q_c] 55)) (HS.2.2.1), grew_cell ((Grew.refl _).alloc (.cells #[.int .i64 q_1, .int .i64 q_2, .bool q_3, .int .i64 q_4, .slice q_a x.attrs.length q_c] 55)) (HS.2.2.2.1), grew_cell ((Grew.refl _).alloc (.cells #[.int .i64 q_1, .int .i64 q_2, .bool q_3, .int .i64 q_4, .slice q_a x.attrs.length q_c] 55)) (HS.2.2.2.2.1), grew_cell ((Grew.refl _).alloc (.cells #[.int .i64 q_1, .int .i64 q_2, .bool q_3, .int .i64 q_4, .slice q_a x.attrs.length q_c] 55)) (HS.2.2.2.2.2.1), HS.2.2.2.2.2.2.1.grew ((Grew.refl _).alloc (.cells #[.int .i64 q_1, .int .i64 q_2, .bool q_3, .int .i64 q_4, .slice q_a x.attrs.length q_c] 55)), HS.2.2.2.2.2.2.2.trans ((Grew.refl _).alloc (.cells #[.int .i64 q_1, .int .i64 q_2, .bool q_3, .int .i64 q_4, .slice q_a x.attrs.length q_c] 55))⟩
               case r5_13_ =>
                have hc7 := grew_cell ((Grew.refl _).alloc (.cells #[.int .i64 q_1, .int .i64 q_2, .bool q_3, .int .i64 q_4, .slice q_a x.attrs.length q_c] 55)) hc6
                clear HS hK K; intro HS
                try simp only [Act.put, lpa, lpb, lpc]
                refine cl' 5 fun K hK => ?_
                rw [if_pos (by rfl)]
                have HKB := Lib.hid (HK6.out.grew ((Grew.refl _).alloc (.cells #[.int .i64 q_1, .int .i64 q_2, .bool q_3, .int .i64 q_4, .slice q_a x.attrs.length q_c] 55)))
                have H71 := Lib.hid (ownsRow_grew H61.out ((Grew.refl _).alloc (.cells #[.int .i64 q_1, .int .i64 q_2, .bool q_3, .int .i64 q_4, .slice q_a x.attrs.length q_c] 55)))
                have H72 : Hid (All2 (Fl.O (w6.alloc (.cells #[.int .i64 q_1, .int .i64 q_2, .bool q_3, .int .i64 q_4, .slice q_a x.attrs.length q_c] 55)) WC.heap.size wa.drew.heap.size) (visF (s.files.take k) u) ps) := Lib.hid (H62.out.mono fun x_ p_ h_ => h_.grew ((Grew.refl _).alloc (.cells #[.int .i64 q_1, .int .i64 q_2, .bool q_3, .int .i64 q_4, .slice q_a x.attrs.length q_c] 55)))
                have HQ7 := Lib.hid ((HQ6.out.grew ((Grew.refl _).alloc (.cells #[.int .i64 q_1, .int .i64 q_2, .bool q_3, .int .i64 q_4, .slice q_a x.attrs.length q_c] 55))).mono (Nat.le_refl _) ((Grew.refl w6).alloc (.cells #[.int .i64 q_1, .int .i64 q_2, .bool q_3, .int .i64 q_4, .slice q_a x.attrs.length q_c] 55)).size)
                have hle7 := HKB.out.le
                refine wp_append_own _ _ _ 25 rfl WC.heap.size 55 j0 _ 5 56 Tryz.underlying25 hj hy0 hy1 hy2 rfl (by decide) _ _ _ rfl H71.out ⟨_, 0, none⟩ 1 1 (P5.c ⟨q_1, q_2, q_3, q_4, .slice q_a x.attrs.length q_c⟩) rfl rfl (lit_news rfl) (fun x hx => by simp [P5.c] at hx; rcases hx with rfl | rfl | rfl | rfl | rfl <;> rfl) (by unfold maxLen; omega) (by omega) hle7 ?_
                intro v' w7 hown' hgr2 _
                have hrow : GrowF w7 WC.heap.size v' (visF (s.files.take (k + 1)) u) := by rw [visF_yes hxk.out HCB.out]; exact GrowF.snoc H71.out H72.out HQ7.out hle (Nat.le_trans hs6 ((Grew.refl w6).alloc (.cells #[.int .i64 q_1, .int .i64 q_2, .bool q_3, .int .i64 q_4, .slice q_a x.attrs.length q_c] 55)).size) hown' hgr2 hgr2.size
                have HF := Lib.hid (HKB.out.put hgr2 hrow)
                have hlt7 : ∀ j, (Value.slice va (visF (s.files.take k) u).length vc).ownBlock = some j → WC.heap.size ≤ j := fun j h => (H71.out.lt j h).1
                have hoo : some ob ≠ (Value.slice va (visF (s.files.take k) u).length vc).ownBlock := fun e => by have := hlt7 ob e.symm; omega
                have k1 := hgr2.cell HKB.out.c1 hoo
                have zz1 : w7.frozen? ⟨ob, 1, none⟩ = false := by rw [World.frozen?_of_block (hgr2.block ob (by have := HKB.out.lt; omega) hoo)]; exact HKB.out.fz 1
                have hlow : ∀ j, (Value.slice va (visF (s.files.take k) u).length vc).ownBlock = some j → w.heap.size < j := fun j h => by have := hlt7 j h; have := gwc.size; omega
                have hlo2 : ∀ j, (Value.slice va (visF (s.files.take k) u).length vc).ownBlock = some j → j < wr.heap.size := HLT.out
                obtain ⟨va2, vc2, rfl⟩ := own_slice hown'
                clear hown'
                refine hK.out _ _ ?s5_14_ ?r5_14_
                case s5_14_ => exact ⟨hgr2.cell (HS.1) (fun e => by have := hlow _ e.symm; dsimp only at this; omega), hgr2.cell (HS.2.1) (fun e => by have := hlo2 _ e.symm; dsimp only at this; omega), hgr2.cell (HS.2.2.1) (fun e => by have := hlo2 _ e.symm; dsimp only at this; omega), hgr2.cell (HS.2.2.2.1) (fun e => by have := hlo2 _ e.symm; dsimp only at this; omega), hgr2.cell (HS.2.2.2.2.1) (fun e => by have := hlo2 _ e.symm; dsimp only at this; omega), hgr2.cell (HS.2.2.2.2.2.1) (fun e => by have := hlo2 _ e.symm; dsimp only at this; omega), HS.2.2.2.2.2.2.1.grown hgr2 hlt7, HS.2.2.2.2.2.2.2.grown hgr2 (fun j h => Nat.le_of_lt (hlow j h))⟩
                case r5_14_ =>
                 clear HS hK K; intro HS
                 try simp only [Act.put, lpa, lpb, lpc]
                 refine tk' 6 HS ?_
                 refine cl' 7 fun K hK => ?_
                 rw [if_pos (by rfl)]
                 go_simp
                 refine hK.out _ _ ?s5_16_ ?r5_16_
                 case s5_16_ => exact ⟨cell_set_ne (HS.1) (by dsimp only; omega), cell_set_ne (HS.2.1) (by dsimp only; omega), cell_set_ne (HS.2.2.1) (by dsimp only; omega), cell_set_ne (HS.2.2.2.1) (by dsimp only; omega), cell_set_ne (HS.2.2.2.2.1) (by dsimp only; omega), cell_set_ne (HS.2.2.2.2.2.1) (by dsimp only; omega), HS.2.2.2.2.2.2.1.setCell (Nat.le_refl _) (Nat.lt_succ_self _) _, HS.2.2.2.2.2.2.2.setCell (by dsimp only; omega) _⟩
                 case r5_16_ =>
                  clear HS hK K; intro HS
                  try simp only [Act.put, lpa, lpb, lpc]
                  refine wpAnyH_done (by kernel_rfl) ?_ _
                  refine NoPanic.normal ?_
                  have htF := HS.2.2.2.2.2.2.1
                  clear HS
                  go_wp2
                  go_roundw
                  case rel => exact ⟨k + 1, _, by omega, by go_num, HF, htF⟩
                  case measure => simp [intOf]; omega
             case b5_11_ =>
              rw [if_pos (by rfl)]
              go_simp
              refine hK.out _ _ ?s5_17_ ?r5_17_
              case s5_17_ => exact ⟨grew_cell ((Grew.refl _).alloc (.cells #[.int .i64 q_1, .int .i64 q_2, .bool q_3, .int .i64 q_4, .slice q_a x.attrs.length q_c] 55)) (HS.1), grew_cell ((Grew.refl _).alloc (.cells #[.int .i64 q_1, .int .i64 q_2, .bool q_3, .int .i64 q_4, .slice q_a x.attrs.length q_c] 55)) (HS.2.1), grew_cell ((Grew.refl _).alloc (.cells #[.int .i64 q_1, .int .i64 q_2, .bool q_3, .int .i64 q_4, .slice q_a x.attrs.length q_c] 55)) (HS.2.2.1), grew_cell ((Grew.refl _).alloc (.cells #[.int .i64 q_1, .int .i64 q_2, .bool q_3, .int .i64 q_4, .slice q_a x.attrs.length q_c] 55)) (HS.2.2.2.1), grew_cell ((Grew.refl _).alloc (.cells #[.int .i64 q_1, .int .i64 q_2, .bool q_3, .int .i64 q_4, .slice q_a x.attrs.length q_c] 55)) (HS.2.2.2.2.1), grew_cell ((Grew.refl _).alloc (.cells #[.int .i64 q_1, .int .i64 q_2, .bool q_3, .int .i64 q_4, .slice q_a x.attrs.length q_c] 55)) (HS.2.2.2.2.2.1), HS.2.2.2.2.2.2.1.grew ((Grew.refl _).alloc (.cells #[.int .i64 q_1, .int .i64 q_2, .bool q_3, .int .i64 q_4, .slice q_a x.attrs.length q_c] 55)), HS.2.2.2.2.2.2.2.trans ((Grew.refl _).alloc (.cells #[.int .i64 q_1, .int .i64 q_2, .bool q_3, .int .i64 q_4, .slice q_a x.attrs.length q_c] 55))⟩
              case r5_17_ =>
               have hc7 := grew_cell ((Grew.refl _).alloc (.cells #[.int .i64 q_1, .int .i64 q_2, .bool q_3, .int .i64 q_4, .slice q_a x.attrs.length q_c] 55)) hc6
               clear HS hK K; intro HS
               try simp only [Act.put, lpa, lpb, lpc]
               refine cl' 1 fun K hK => ?_
               rw [if_pos (by rfl)]
               go_simp
               refine hK.out _ _ ?s5_18_ ?r5_18_
               case s5_18_ => exact HS
               case r5_18_ =>
                clear HS hK K; intro HS
                try simp only [Act.put, lpa, lpb, lpc]
                refine cl' 5 fun K hK => ?_
                rw [if_pos (by rfl)]
                have HKB := Lib.hid (HK6.out.grew ((Grew.refl _).alloc (.cells #[.int .i64 q_1, .int .i64 q_2, .bool q_3, .int .i64 q_4, .slice q_a x.attrs.length q_c] 55)))
                have H71 := Lib.hid (ownsRow_grew H61.out ((Grew.refl _).alloc (.cells #[.int .i64 q_1, .int .i64 q_2, .bool q_3, .int .i64 q_4, .slice q_a x.attrs.length q_c] 55)))
                have H72 : Hid (All2 (Fl.O (w6.alloc (.cells #[.int .i64 q_1, .int .i64 q_2, .bool q_3, .int .i64 q_4, .slice q_a x.attrs.length q_c] 55)) WC.heap.size wa.drew.heap.size) (visF (s.files.take k) u) ps) := Lib.hid (H62.out.mono fun x_ p_ h_ => h_.grew ((Grew.refl _).alloc (.cells #[.int .i64 q_1, .int .i64 q_2, .bool q_3, .int .i64 q_4, .slice q_a x.attrs.length q_c] 55)))
                have HQ7 := Lib.hid ((HQ6.out.grew ((Grew.refl _).alloc (.cells #[.int .i64 q_1, .int .i64 q_2, .bool q_3, .int .i64 q_4, .slice q_a x.attrs.length q_c] 55))).mono (Nat.le_refl _) ((Grew.refl w6).alloc (.cells #[.int .i64 q_1, .int .i64 q_2, .bool q_3, .int .i64 q_4, .slice q_a x.attrs.length q_c] 55)).size)
                have hle7 := HKB.out.le
                refine wp_append_own _ _ _ 25 rfl WC.heap.size 55 j0 _ 5 56 Tryz.underlying25 hj hy0 hy1 hy2 rfl (by decide) _ _ _ rfl H71.out ⟨_, 0, none⟩ 1 1 (P5.c ⟨q_1, q_2, q_3, q_4, .slice q_a x.attrs.length q_c⟩) rfl rfl (lit_news rfl) (fun x hx => by simp [P5.c] at hx; rcases hx with rfl | rfl | rfl | rfl | rfl <;> rfl) (by unfold maxLen; omega) (by omega) hle7 ?_
                intro v' w7 hown' hgr2 _
                have hrow : GrowF w7 WC.heap.size v' (visF (s.files.take (k + 1)) u) := by rw [visF_yes hxk.out HCB.out]; exact GrowF.snoc H71.out H72.out HQ7.out hle (Nat.le_trans hs6 ((Grew.refl w6).alloc (.cells #[.int .i64 q_1, .int .i64 q_2, .bool q_3, .int .i64 q_4, .slice q_a x.attrs.length q_c] 55)).size) hown' hgr2 hgr2.size
                have HF := Lib.hid (HKB.out.put hgr2 hrow)
                have hlt7 : ∀ j, (Value.slice va (visF (s.files.take k) u).length vc).ownBlock = some j → WC.heap.size ≤ j := fun j h => (H71.out.lt j h).1
                have hoo : some ob ≠ (Value.slice va (visF (s.files.take k) u).length vc).ownBlock := fun e => by have := hlt7 ob e.symm; omega
                have k1 := hgr2.cell HKB.out.c1 hoo
                have zz1 : w7.frozen? ⟨ob, 1, none⟩ = false := by rw [World.frozen?_of_block (hgr2.block ob (by have := HKB.out.lt; omega) hoo)]; exact HKB.out.fz 1
                have hlow : ∀ j, (Value.slice va (visF (s.files.take k) u).length vc).ownBlock = some j → w.heap.size < j := fun j h => by have := hlt7 j h; have := gwc.size; omega
                have hlo2 : ∀ j, (Value.slice va (visF (s.files.take k) u).length vc).ownBlock = some j → j < wr.heap.size := HLT.out
                obtain ⟨va2, vc2, rfl⟩ := own_slice hown'
                clear hown'
                refine hK.out _ _ ?s5_19_ ?r5_19_
                case s5_19_ => exact ⟨hgr2.cell (HS.1) (fun e => by have := hlow _ e.symm; dsimp only at this; omega), hgr2.cell (HS.2.1) (fun e => by have := hlo2 _ e.symm; dsimp only at this; omega), hgr2.cell (HS.2.2.1) (fun e => by have := hlo2 _ e.symm; dsimp only at this; omega), hgr2.cell (HS.2.2.2.1) (fun e => by have := hlo2 _ e.symm; dsimp only at this; omega), hgr2.cell (HS.2.2.2.2.1) (fun e => by have := hlo2 _ e.symm; dsimp only at this; omega), hgr2.cell (HS.2.2.2.2.2.1) (fun e => by have := hlo2 _ e.symm; dsimp only at this; omega), HS.2.2.2.2.2.2.1.grown hgr2 hlt7, HS.2.2.2.2.2.2.2.grown hgr2 (fun j h => Nat.le_of_lt (hlow j h))⟩
                case r5_19_ =>
                 clear HS hK K; intro HS
                 try simp only [Act.put, lpa, lpb, lpc]
                 refine tk' 6 HS ?_
                 refine cl' 7 fun K hK => ?_
                 rw [if_pos (by rfl)]
                 go_simp
                 refine hK.out _ _ ?s5_21_ ?r5_21_
                 case s5_21_ => exact ⟨cell_set_ne (HS.1) (by dsimp only; omega), cell_set_ne (HS.2.1) (by dsimp only; omega), cell_set_ne (HS.2.2.1) (by dsimp only; omega), cell_set_ne (HS.2.2.2.1) (by dsimp only; omega), cell_set_ne (HS.2.2.2.2.1) (by dsimp only; omega), cell_set_ne (HS.2.2.2.2.2.1) (by dsimp only; omega), HS.2.2.2.2.2.2.1.setCell (Nat.le_refl _) (Nat.lt_succ_self _) _, HS.2.2.2.2.2.2.2.setCell (by dsimp only; omega) _⟩
                 case r5_21_ =>
                  clear HS hK K; intro HS
                  try simp only [Act.put, lpa, lpb, lpc]
                  refine wpAnyH_done (by kernel_rfl) ?_ _
                  refine NoPanic.normal ?_
                  have htF := HS.2.2.2.2.2.2.1
                  clear HS
                  go_wp2
                  go_roundw
                  case rel => exact ⟨k + 1, _, by omega, by go_num, HF, htF⟩
                  case measure => simp [intOf]; omega
      · obtain rfl : k = n := by omega
        have htk : s.files.take k = s.files := take_all HN.out
        have HKF : Hid (Out wr ob WC.heap.size (.slice sa s.schema.length sc) v s.next (visF s.files u)) := by have h := HK.out; rw [htk] at h; exact Lib.hid h
        obtain ⟨gs, hgs⟩ : ∃ gs, visF s.files u = gs := ⟨_, rfl⟩
        have HGS := Lib.hid hgs
        obtain ⟨m, hm⟩ : ∃ m, gs.length = m := ⟨_, rfl⟩
        have HM := Lib.hid hm
        have hmk : m ≤ k := by
          rw [← hm, ← hgs]
          have h := visF_le s.files u
          rw [HN.out] at h; exact h
        obtain ⟨va, vc, hv⟩ := HKF.out.row.slice
        have HO2 : Hid (Out wr ob WC.heap.size (.slice sa s.schema.length sc) (.slice va m vc) s.next (visM gs 0)) := by
          have h := HKF.out
          rw [hgs] at h hv
          rw [hv, hm] at h
          rw [visM_zero]; exact Lib.hid h
        clear hgs hm htk HK HKF hv HO e1 hT0
        have c1p := HO2.out.c1
        go_wp2
        go_loopw [8, 9, 37] (fun _ _ i wr => ∃ j : Nat, j ≤ m ∧ i = .int .i64 j ∧ Hid (Out wr ob WC.heap.size (.slice sa s.schema.length sc) (.slice va m vc) s.next (visM gs j)) ∧ Touch ob (ob + 1) WC wr) (fun _ _ i _ => m - (intOf i).toNat)
        case atStart => exact ⟨0, Nat.zero_le _, rfl, HO2, ht⟩
        case round =>
          clear ht gr gr2 HO2 e1' c1p
          obtain ⟨j, hj, rfl, HK, ht⟩ := hrel
          have gr2 : Grew W wr := Touch.new hgc ht hob
          have c0 := HK.out.c0
          have c1 := HK.out.c1
          have c2 := HK.out.c2
          by_cases hlt : j < m
          · have hml : (visM gs j).length = m := by rw [visM_len]; exact HM.out
            obtain ⟨g, rfl⟩ : ∃ g, va = some ⟨g, 0, none⟩ := by
              obtain ⟨ps, h1, _⟩ := HK.out.row
              rw [hml] at h1
              rcases h1.2 with ⟨h2, h3⟩ | ⟨g, cap, cur, h2, _⟩
              · cases h2; omega
              · cases h2; exact ⟨g, rfl⟩
            obtain ⟨f, fa, fc, hfk, d0, d1, d2, d3, d4, fz, hgl, hgb⟩ := HK.out.row.at hml hlt
            have HML := Lib.hid hml
            have hmb : (visM gs j).length ≤ 4000000 := by omega
            clear hml
            have b0 := grew_cell ((Grew.refl wr).alloc (.cells #[.int .i64 f.id, .int .i64 f.owner, .bool f.shared, .int .i64 f.link, .slice fa f.attrs.length fc] 55)) c0
            have b1 := grew_cell ((Grew.refl wr).alloc (.cells #[.int .i64 f.id, .int .i64 f.owner, .bool f.shared, .int .i64 f.link, .slice fa f.attrs.length fc] 55)) c1
            have b2 := grew_cell ((Grew.refl wr).alloc (.cells #[.int .i64 f.id, .int .i64 f.owner, .bool f.shared, .int .i64 f.link, .slice fa f.attrs.length fc] 55)) c2
            have hj0 : (0 : Int) ≤ j := by omega
            have hjm : (j : Int) < m := by omega
            have hgo : ob < g := by omega
            have hg0 := Grew.refl wr
            go_wp2_with fail
            refine (implFileAt (.slice sa s.schema.length sc) (.slice (some ⟨g, 0, none⟩) m vc) s.next (visM gs j) f.link _ (HK.out.row.rd.grew ((Grew.refl wr).alloc (.cells #[.int .i64 f.id, .int .i64 f.owner, .bool f.shared, .int .i64 f.link, .slice fa f.attrs.length fc] 55))) hmb).mono ?_
            rintro e wx ⟨i, rfl, hcs, hb⟩
            rw [hasF_visM] at hcs
            have HCS := Lib.hid hcs
            have gx := ((Grew.refl wr).alloc (.cells #[.int .i64 f.id, .int .i64 f.owner, .bool f.shared, .int .i64 f.link, .slice fa f.attrs.length fc] 55)).trans hb
            have y0 := grew_cell gx c0
            have y1 := grew_cell gx c1
            have y3 := grew_cell gx d3
            clear hcs c0 c1 c2 d0 d1 d2 d3 d4
            obtain ⟨f2, hlg⟩ : ∃ y, gs[j]? = some y := ⟨_, List.getElem?_eq_getElem (show j < gs.length by have := HM.out; omega)⟩
            obtain rfl : f2 = f := Option.some.inj ((visM_at hlg).symm.trans hfk.out)
            have HX := Lib.hid (HK.out.grew gx)
            have tx := ht.grew gx
            have fzx := grew_frozen (a := ⟨g, j * 5 + 3, none⟩) gx (by exact hgl) fz
            have HLG := Lib.hid hlg
            have HFK := Lib.hid hfk.out
            clear hfk hlg fz
            have hcs := HCS.out
            clear HCS
            rcases hcs with ⟨h, hi0⟩ | ⟨h, rfl⟩
            · have hni : ¬ (i < 0) := by omega
              have HN2 : Hid (Out wx ob WC.heap.size (.slice sa s.schema.length sc) (.slice (some ⟨g, 0, none⟩) m vc) s.next (visM gs (j + 1))) := by rw [visM_yes HLG.out h]; exact HX
              clear h
              go_wp2
              go_roundw
              case rel => exact ⟨j + 1, by omega, by go_num, HN2, tx⟩
              case measure => simp [intOf]; omega
            · have HN2 : Hid (Out (wx.setCell ⟨g, j * 5 + 3, none⟩ (.int .i64 0)) ob WC.heap.size (.slice sa s.schema.length sc) (.slice (some ⟨g, 0, none⟩) m vc) s.next (visM gs (j + 1))) := by rw [visM_no HLG.out h]; exact Lib.hid (HX.out.link HML.out HFK.out)
              clear h
              go_wp2
              go_roundw
              case rel => exact ⟨j + 1, by omega, by go_num, HN2, tx.new' (by dsimp only; omega) _⟩
              case measure => simp [intOf]; omega
          · obtain rfl : j = m := by omega
            have hall : visM gs j = gs.map (visL gs) := visM_all HM.out
            have HA2 := Lib.hid hall
            clear hall
            have y0 := grew_cell gr2 r0
            have y1 := grew_cell gr2 r1
            have y2 := grew_cell gr2 r2
            have yz := fun q => grew_frozen (a := ⟨w.heap.size + 1, q, none⟩) gr2 (by dsimp only; omega) (rz q)
            have tv : Rd wr (.slice sa s.schema.length sc) 2 s.schema.length (rows Fd.c s.schema) := Rd.tch HRV.out ht (fun b hb => by have := HVB.out b hb; omega)
            have HTV := Lib.hid tv
            have hw1 : w.heap.size + 2 ≤ WC.heap.size := by have := hgc.size; omega
            have gr : Grew w wr := gW.trans gr2
            clear tv r0 r1 r2 rz
            go_wp2
            have T : ∀ a b c : Value, Touch (w.heap.size + 1) (w.heap.size + 2) wr (((wr.setCell ⟨w.heap.size + 1, 0, none⟩ a).setCell ⟨w.heap.size + 1, 1, none⟩ b).setCell ⟨w.heap.size + 1, 2, none⟩ c) := fun a b c =>
              (((Touch.refl (w.heap.size + 1) (w.heap.size + 2) wr).setCell (by dsimp only; omega) (by dsimp only; omega) a).setCell (by dsimp only; omega) (by dsimp only; omega) b).setCell (by dsimp only; omega) (by dsimp only; omega) c
            have hlen : (visF s.files u).length = j := by rw [HGS.out]; exact HM.out
            refine bodyPost_ret (v := PS.v ⟨.slice sa s.schema.length sc, .slice va j vc, s.next⟩) (by simp [results, Tryz.results37, go_sem, y0, y1, y2, PS.v]) rfl ⟨⟨.slice sa s.schema.length sc, .slice va j vc, s.next⟩, rfl, ⟨?_, ?_, rfl⟩, ?_⟩
            · exact Rd.tch HTV.out (T _ _ _) (fun b hb => by have := HVB.out b hb; omega)
            · have h := (HK.out.row.tch (T (.slice sa s.schema.length sc) (.slice va j vc) (.int .i64 s.next)) hw1).rd
              rw [HA2.out] at h
              unfold visS
              rw [HGS.out]
              exact h
            · exact ((gr.setCell (by dsimp only; omega) _).setCell (by dsimp only; omega) _).setCell (by dsimp only; omega) _
end Go.Proofs.YtemikjbfjhebnaaGreat
