/- Texts Z30, as far as they are needed. -/
import Derived.Test.YtodbohmbdgbheaaMb12
import Derived.Test.YtodbohmbdgbheaaMb4
namespace Go.Proofs.Ytodbohmbdgbheaa
open Go.RowKit
set_option linter.unusedVariables false
set_option linter.unusedSimpArgs false
set_option maxRecDepth 100000 in
set_option maxHeartbeats 8000000 in
theorem drawMatches (v : Value) (w : World) (hc : Cd w v) :
    Calls Try.prog 5 #[v] w fun e w' => ∃ (u : Value) (p : P5) (t : Value), e = .returned (.tuple #[u, p.v, t]) ∧ ∃ q f rs, qOk 8 q ∧ flOk 6 f ∧ ansOk rs ∧ w'.ownsRow w.heap.size 47 7 u q.length (rows N.c q) ∧ Fl.R w' f p ∧ GLr w' w.heap.size t rs ∧ Grew w w' := by
  obtain ⟨n, bs, hr, hn⟩ := hc
  have B0 := Box.new w #[.int .i64 0, .int .i64 0, .bool false, .int .i64 0, .slice none 0 0] 27 5 rfl
  have g0 := (Grew.refl w).alloc (.cells #[.int .i64 0, .int .i64 0, .bool false, .int .i64 0, .slice none 0 0] 27)
  have hs0 : (w.alloc (.cells #[.int .i64 0, .int .i64 0, .bool false, .int .i64 0, .slice none 0 0] 27)).heap.size = w.heap.size + 1 := by simp
  go_enter Try.func5, Try.ntmps5
  go_wp2_with fail
  refine (l01New v n bs _ (hr.grew g0) hn).mono ?_
  rintro e w1 ⟨rfl, hc1, hg1, hs1⟩
  rw [hs0] at hc1 hs1
  go_wp2_with fail
  refine (l09Any _ _ hc1).mono ?_
  rintro e w2 ⟨u, rfl, q, hoq, hq, e2⟩
  have HQ := Lib.hid hoq
  obtain ⟨qa, qc, rfl⟩ := own_slice hoq
  clear hoq
  go_wp2_with fail
  refine (l04Any _ _ e2.cur).mono ?_
  rintro e w3 ⟨⟨p1, p2, p3, p4, p5⟩, rfl, f, hf, hrow, e3⟩
  have HR := Lib.hid hrow
  obtain ⟨pa, pc, hpa⟩ := own_slice hrow.2.2.2.2.1
  simp only at hpa
  subst hpa
  have hs2 := e2.size
  clear hrow
  go_wp2_with fail
  refine (l14Answers _ _ e3.cur).mono ?_
  rintro e w4 ⟨t, rs, rfl, hrs, hgr, e4⟩
  have HG := Lib.hid hgr
  obtain ⟨ta, tc, rfl⟩ := GL.slice hgr
  have hs3 := e3.size
  have hne : w.heap.size ≠ w.heap.size + 1 := by omega
  have B4 := (((B0.grew hg1).d e2 hne).d e3 hne).d e4 hne
  obtain ⟨b0, f0⟩ := B4.2.1 0 (by decide)
  obtain ⟨b1, f1⟩ := B4.2.1 1 (by decide)
  obtain ⟨b2, f2⟩ := B4.2.1 2 (by decide)
  obtain ⟨b3, f3⟩ := B4.2.1 3 (by decide)
  obtain ⟨b4, f4⟩ := B4.2.1 4 (by decide)
  have z0 := B4.2.2
  have T5 := touch5 w4 w.heap.size ⟨p1, p2, p3, p4, .slice pa f.attrs.length pc⟩
  have HQ9 := Lib.hid (ownsRow_base (ownsRow_tch (e4.own (e3.own HQ.out (by omega)) (by omega)) T5 (by omega)) (base' := w.heap.size) (by omega))
  have HF9 := Lib.hid (show Fl.R (World.put5 w4 w.heap.size ⟨p1, p2, p3, p4, .slice pa f.attrs.length pc⟩) f ⟨p1, p2, p3, p4, .slice pa f.attrs.length pc⟩ from ⟨HR.out.1, HR.out.2.1, HR.out.2.2.1, HR.out.2.2.2.1, rd_of_own (ownsRow_tch (e4.own HR.out.2.2.2.2.1 (by omega)) T5 (by omega))⟩)
  have HG9 := Lib.hid ((HG.out.tch T5 (by omega)).base (base' := w.heap.size) (by omega))
  have GG : Grew w (World.put5 w4 w.heap.size ⟨p1, p2, p3, p4, .slice pa f.attrs.length pc⟩) := Touch.new (g0.trans (D.out hg1 ((e2.trans e3).trans e4) (by rw [hs0]; exact Nat.le_refl _))) T5 (Nat.le_refl _)
  clear hgr B0 B4 T5
  go_wp2
  refine bodyPost_ret (v := .tuple #[.slice qa q.length qc, P5.v ⟨p1, p2, p3, p4, .slice pa f.attrs.length pc⟩, .slice ta rs.length tc]) (by simp [results, Try.results5, go_sem, f0, f1, f2, f3, f4]) rfl ⟨.slice qa q.length qc, ⟨p1, p2, p3, p4, .slice pa f.attrs.length pc⟩, .slice ta rs.length tc, rfl, q, f, rs, hq, hf, hrs, HQ9.out, HF9.out, HG9.out, GG⟩
set_option maxRecDepth 100000 in
set_option maxHeartbeats 8000000 in
theorem drawSelectFiles (v : Value) (w : World) (hc : Cd w v) :
    Calls Try.prog 6 #[v] w fun e w' => ∃ (p : PS) (u : Value) (t : Value), e = .returned (.tuple #[p.v, u, t]) ∧ ∃ s q rs, stOk 12 s ∧ qOk 8 q ∧ ansOk rs ∧ StG w' w.heap.size s p ∧ w'.ownsRow w.heap.size 47 7 u q.length (rows N.c q) ∧ GLr w' w.heap.size t rs ∧ Grew w w' := by
  obtain ⟨n, bs, hr, hn⟩ := hc
  have B0 := Box.new w #[.slice none 0 0, .slice none 0 0, .int .i64 0] 34 3 rfl
  have g0 := (Grew.refl w).alloc (.cells #[.slice none 0 0, .slice none 0 0, .int .i64 0] 34)
  have hs0 : (w.alloc (.cells #[.slice none 0 0, .slice none 0 0, .int .i64 0] 34)).heap.size = w.heap.size + 1 := by simp
  go_enter Try.func6, Try.ntmps6
  go_wp2_with fail
  refine (l01New v n bs _ (hr.grew g0) hn).mono ?_
  rintro e w1 ⟨rfl, hc1, hg1, hs1⟩
  rw [hs0] at hc1 hs1
  go_wp2_with fail
  refine (l05Any _ _ hc1).mono ?_
  rintro e w2 ⟨p, rfl, s, hso, hst, e2⟩
  have HST := Lib.hid hst
  obtain ⟨xa, xc, ya, yc, hp⟩ := hst.slices
  subst hp
  clear hst
  go_wp2_with fail
  refine (l09Any _ _ e2.cur).mono ?_
  rintro e w3 ⟨u, rfl, q, hoq, hq, e3⟩
  have HQ := Lib.hid hoq
  obtain ⟨qa, qc, rfl⟩ := own_slice hoq
  have hs2 := e2.size
  clear hoq
  go_wp2_with fail
  refine (l14Answers _ _ e3.cur).mono ?_
  rintro e w4 ⟨t, rs, rfl, hrs, hgr, e4⟩
  have HG := Lib.hid hgr
  obtain ⟨ta, tc, rfl⟩ := GL.slice hgr
  have hs3 := e3.size
  have hne : w.heap.size ≠ w.heap.size + 1 := by omega
  have B4 := (((B0.grew hg1).d e2 hne).d e3 hne).d e4 hne
  obtain ⟨b0, f0⟩ := B4.2.1 0 (by decide)
  obtain ⟨b1, f1⟩ := B4.2.1 1 (by decide)
  obtain ⟨b2, f2⟩ := B4.2.1 2 (by decide)
  have z0 := B4.2.2
  have T3 := touch3 w4 w.heap.size ⟨.slice xa s.schema.length xc, .slice ya s.files.length yc, s.next⟩
  have HS9 := Lib.hid ((((HST.out.d e3 (by omega)).d e4 (by omega)).tch T3 (by omega)).base (b := w.heap.size) (by omega))
  have HQ9 := Lib.hid (ownsRow_base (ownsRow_tch (e4.own HQ.out (by omega)) T3 (by omega)) (base' := w.heap.size) (by omega))
  have HG9 := Lib.hid ((HG.out.tch T3 (by omega)).base (base' := w.heap.size) (by omega))
  have GG : Grew w (World.put3 w4 w.heap.size ⟨.slice xa s.schema.length xc, .slice ya s.files.length yc, s.next⟩) := Touch.new (g0.trans (D.out hg1 ((e2.trans e3).trans e4) (by rw [hs0]; exact Nat.le_refl _))) T3 (Nat.le_refl _)
  clear hgr B0 B4 T3
  go_wp2
  refine bodyPost_ret (v := .tuple #[PS.v ⟨.slice xa s.schema.length xc, .slice ya s.files.length yc, s.next⟩, .slice qa q.length qc, .slice ta rs.length tc]) (by simp [results, Try.results6, go_sem, f0, f1, f2]) rfl ⟨⟨.slice xa s.schema.length xc, .slice ya s.files.length yc, s.next⟩, .slice qa q.length qc, .slice ta rs.length tc, rfl, s, q, rs, hso, hq, hrs, HS9.out, HQ9.out, HG9.out, GG⟩
end Go.Proofs.Ytodbohmbdgbheaa
