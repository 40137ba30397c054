/- Texts U1, as far as they are needed. -/
import Derived.Test.YtemikjbfjhebnaaGreatNi1
import Derived.Test.YtemikjbfjhebnaaGreatNi11
import Derived.Test.YtemikjbfjhebnaaGreatNi18
import Derived.Test.YtemikjbfjhebnaaGreatNi8
import Derived.OwnWalk
namespace Go.Proofs.YtemikjbfjhebnaaGreat
open Go.RowKit Go.Sort
set_option linter.unusedVariables false
noncomputable def evOk (xs : List Dr) (s : St) : Bool := stB xs && stoB s
noncomputable def evRs (xs : List Dr) (s : St) : List Rs := if evOk xs s then (evP xs s.files).1 else []
noncomputable def evT (xs : List Dr) (s : St) : Int := if evOk xs s then ((evP xs s.files).2 : Int) else 0
theorem rs0_snoc {xs : List Dr} {k : Nat} {x : Dr} (h : xs[k]? = some x) : rs0 (xs.take (k + 1)) = rs0 (xs.take k) ++ [⟨x.name, []⟩] := by
 unfold rs0; rw [take_snoc h, List.map_append]; rfl
theorem rs0_len (xs : List Dr) (k : Nat) (h : k ≤ xs.length) : (rs0 (xs.take k)).length = k := by
 unfold rs0; rw [List.length_map, List.length_take]; omega
theorem EvI.small {xs : List Dr} {fs : List Fl} {k : Nat} {rs : List Rs} (h : EvI xs fs k rs) (hf : fs.length ≤ 4000000) : ∀ x, x ∈ rs → x.small := by
 intro x hx
 obtain ⟨i, hi⟩ := List.getElem?_of_mem hx
 have h1 := h.len i
 rw [idsAt_get hi] at h1
 exact Nat.le_trans h1 hf
theorem EvI.tot {xs : List Dr} {fs : List Fl} {k n F : Nat} {rs : List Rs} (h : EvI xs fs k rs) (hn : xs.length = n) (hf : fs.length = F) : tot rs ≤ n * F := by
 have h1 := tot_le (rs := rs) (b := F) (fun i => by rw [← hf]; exact h.len i)
 rw [h.rlen, hn] at h1; exact h1
theorem lvls_le {xs : List Dr} {n : Nat} (hn : xs.length = n) : lvls xs ≤ n + 1 := by
 unfold lvls mxS
 cases h : stB xs with
 | false =>
  have : stL xs = [] := by unfold stL; rw [h]; rfl
  rw [this]; simp [mxL]
 | true =>
  have h1 : mxL (stL xs) ≤ ((n : Nat) : Int) := mxL_bd (fun x hx => by
   obtain ⟨i, hi, rfl⟩ := mem_gt hx
   rw [stL_len h, hn] at hi
   have h2 := h
   unfold stB at h2
   simp only [Bool.and_eq_true] at h2
   have h3 := strB_lt (dirE_ok rfl) h2.2 i (by rw [hn]; exact hi)
   unfold stL; rw [if_pos h]; rw [hn] at h3 ⊢; omega)
  omega
theorem mx_lvl {xs : List Dr} {k : Nat} : ((k : Int) ≤ mxS xs) ↔ k < lvls xs := by
 have h := mxL_ge (stL xs)
 unfold lvls; unfold mxS at *; omega
theorem own_pos {w : World} {base : Nat} {e : TypeId} {k n : Nat} {v : Value} {cs : List Value} (h : w.ownsRow base e k v n cs) (hn : 0 < n) : ∃ g cap, v = .slice (some ⟨g, 0, none⟩) n cap := by
 obtain ⟨_, ⟨_, h2⟩ | ⟨g, cap, cur, h1, _⟩⟩ := h
 ·
  omega
 ·
  exact ⟨g, cap, h1⟩
set_option maxRecDepth 100000 in
set_option maxHeartbeats 4000000 in
theorem specL15Run (s : St) (p : PS) (va : Value) (xs : List Dr) (w : World) (hs : St.R w s p) (ha : RdDs w va xs) (hx : xs.length ≤ 1900000) (hz : szAll Dr.sz xs ≤ 4000000) (hzs : s.sz ≤ 4000000) :
  Calls Tryz.prog 72 #[p.v, va] w fun e w' => ∃ v, e = .returned (.tuple #[v, .int .i64 (evT xs s), .bool (evOk xs s)]) ∧ OwnRss w' w.heap.size w'.heap.size v (evRs xs s) ∧ Grew w w' := by
 obtain ⟨p_q, p_r, p_n⟩ := p
 have hsn : p_n = s.next := hs.2.2
 subst hsn
 have HST := Lib.hid hs
 have HD := Lib.hid ha
 have HX0 := Lib.hid hx
 have HZ := Lib.hid hz
 have HZS := Lib.hid hzs
 clear hs
 obtain ⟨qs, ⟨a, ca, rfl, hca, hra⟩, hall⟩ := ha
 have HA := Lib.hid hall
 clear hall hca
 have hg0 := (Grew.refl w).alloc (.cells #[p_q, p_r, .int .i64 s.next] 27)
 have x0 : (w.alloc (.cells #[p_q, p_r, .int .i64 s.next] 27)).cell? ⟨w.heap.size, 0, none⟩ = some p_q := by simp
 have x1 : (w.alloc (.cells #[p_q, p_r, .int .i64 s.next] 27)).cell? ⟨w.heap.size, 1, none⟩ = some p_r := by simp
 have x2 : (w.alloc (.cells #[p_q, p_r, .int .i64 s.next] 27)).cell? ⟨w.heap.size, 2, none⟩ = some (.int .i64 s.next) := by simp
 obtain ⟨bt, hbt⟩ : ∃ b, stB xs = b := ⟨_, rfl⟩
 obtain ⟨bo, hbo⟩ : ∃ b, stoB s = b := ⟨_, rfl⟩
 have HSB := Lib.hid hbt
 have HSO := Lib.hid hbo
 have HNO := Lib.hid (show (bt && bo) = false → evOk xs s = false ∧ evT xs s = 0 ∧ evRs xs s = [] from fun h => by
  have h1 : evOk xs s = false := by unfold evOk; rw [hbt, hbo]; exact h
  exact ⟨h1, by unfold evT; rw [h1]; rfl, by unfold evRs; rw [h1]; rfl⟩)
 clear hbt hbo
 change Calls Tryz.prog _ #[.agg #[p_q, p_r, .int .i64 s.next], _] w _
 have hcs : bt = false ∨ bt = true := by cases bt <;> simp
 have hco : bo = false ∨ bo = true := by cases bo <;> simp
 rcases hcs with rfl | rfl
 ·
  go_enter Tryz.func72, Tryz.ntmps72
  go_wp2_with (go_at_call 62; refine (specStrata _ xs _ (HD.out.grew hg0) (by have := HX0.out; omega) HZ.out).mono ?_; rintro e w1 ⟨v1, he, hv1, hb1⟩; rw [HSB.out] at he; subst he; obtain ⟨oa, oc, rfl⟩ := own_slice hv1; clear hv1; have y0 := grew_cell hb1 x0; have y1 := grew_cell hb1 x1; have y2 := grew_cell hb1 x2)
  go_ret3
  have h1 := HNO.out rfl
  rw [h1.1, h1.2.1, h1.2.2]
  exact ⟨_, rfl, (GrowR.base (GrowR.lit w1) (hg0.trans hb1).size).own, (hg0.trans hb1).alloc _⟩
 rcases hco with rfl | rfl
 ·
  go_enter Tryz.func72, Tryz.ntmps72
  go_wp2_with (first | (go_at_call 62; refine (specStrata _ xs _ (HD.out.grew hg0) (by have := HX0.out; omega) HZ.out).mono ?_; rintro e w1 ⟨v1, he, hv1, hb1⟩; rw [HSB.out] at he; subst he; obtain ⟨oa, oc, rfl⟩ := own_slice hv1; clear hv1; have y0 := grew_cell hb1 x0; have y1 := grew_cell hb1 x1; have y2 := grew_cell hb1 x2) | (go_at_call 9; refine (specIsValidStore s ⟨p_q, p_r, s.next⟩ _ (HST.out.grew (hg0.trans hb1)) HZS.out).mono ?_; rintro e w2 ⟨he, hb2⟩; rw [HSO.out] at he; subst he))
  go_ret3
  have h1 := HNO.out rfl
  rw [h1.1, h1.2.1, h1.2.2]
  exact ⟨_, rfl, (GrowR.base (GrowR.lit w2) ((hg0.trans hb1).trans hb2).size).own, ((hg0.trans hb1).trans hb2).alloc _⟩
 have HOK := Lib.hid (show evOk xs s = true by unfold evOk; rw [HSB.out, HSO.out]; rfl)
 clear HNO
 obtain ⟨n, hn⟩ : ∃ n, xs.length = n := ⟨_, rfl⟩
 obtain ⟨F, hF⟩ : ∃ F, s.files.length = F := ⟨_, rfl⟩
 have HX := Lib.hid hn
 have HF := Lib.hid hF
 have hn5 : n ≤ 5 := by
  have h1 := HSB.out
  unfold stB at h1
  simp only [Bool.and_eq_true] at h1
  rw [← hn]; exact (dirs_use h1.1).1
 have hFb : F ≤ 4000000 := by have h1 := HZS.out; unfold St.sz at h1; omega
 have HLL := Lib.hid (show (stL xs).length = n by rw [stL_len HSB.out, hn])
 have HLV := Lib.hid (lvls_le hn)
 have HFM := Lib.hid (show ∀ y, y ∈ s.files → y.small from (St.small_of HZS.out).2.2)
 obtain ⟨NF, hNF⟩ : ∃ NF, n * F = NF := ⟨_, rfl⟩
 have HNF := Lib.hid hNF
 have hNFb : NF ≤ 20000000 := by have := Nat.mul_le_mul hn5 hFb; omega
 have HD2 := Lib.hid (show RdDs w (.slice a n ca) xs by have := HD.out; rw [hn] at this; exact this)
 rw [hn] at hra hx ⊢
 clear HD hn hF hNF
 obtain ⟨i0, hi, hz0, hz1, hz2⟩ := info_parts Tryz.infoRs
 go_enter Tryz.func72, Tryz.ntmps72
 go_wp2_with (first | (go_at_call 62; refine (specStrata _ xs _ (HD2.out.grew hg0) (by have := HX0.out; omega) HZ.out).mono ?_; rintro e w1 ⟨v1, he, hv1, hb1⟩; rw [HSB.out] at he; subst he; rw [HLL.out] at hv1; obtain ⟨oa, oc, rfl⟩ := own_slice hv1; have HSL := Lib.hid (rd_of_own hv1).rda; clear hv1; have y0 := grew_cell hb1 x0; have y1 := grew_cell hb1 x1; have y2 := grew_cell hb1 x2) | (go_at_call 9; refine (specIsValidStore s ⟨p_q, p_r, s.next⟩ _ (HST.out.grew (hg0.trans hb1)) HZS.out).mono ?_; rintro e w2 ⟨he, hb2⟩; rw [HSO.out] at he; subst he; have z0 := grew_cell hb2 y0; have z1 := grew_cell hb2 y1; have z2 := grew_cell hb2 y2; have HSL2 := Lib.hid (HSL.out.grew hb2)))
 have hgB := hb1.trans hb2
 clear y0 y1 y2
 clear x0 x1 x2
 clear HSL
 have hgA := hg0.trans hgB
 have hwA := hgA.size
 clear hg0 hb1 hb2 hgB
 go_loopw [9, 10] (fun v i wr => ∃ k g cap : Nat, k ≤ n ∧ i = .int .i64 k ∧ v = .slice (some ⟨g, 0, none⟩) k cap ∧ Hid (GrowR wr w2.heap.size v (rs0 (xs.take k))) ∧ Grew w2 wr) (fun _ i _ => n - (intOf i).toNat)
 case atStart => exact ⟨0, _, _, Nat.zero_le _, rfl, rfl, Lib.hid (GrowR.lit w2), (Grew.refl _).alloc _⟩
 case round =>
  obtain ⟨k, g, cap, hk, rfl, rfl, hgr, hbel⟩ := hrel
  have hbw := hgA.trans hbel
  by_cases hlt : k < n
  ·
   obtain ⟨b1, o1, p, rfl, hpk, c0, c1⟩ := (hra.grew hbw).getP2 hlt
   obtain ⟨x, hxk, hxr⟩ := HA.out.get hpk.out
   obtain ⟨pn, pq⟩ := p
   obtain ⟨hxn, hxq⟩ := hxr
   simp only at hxn hxq c0 c1
   subst hxn
   obtain ⟨pa, pc, rfl, hpc, hpr⟩ := hxq
   clear hpc hpr
   obtain ⟨ps, g1, g2, g3⟩ := hgr.out
   have htl : (rs0 (xs.take k)).length = k := rs0_len xs k (by have := HX.out; omega)
   rw [htl] at g1
   have G1 := Lib.hid g1
   have G2 := Lib.hid g2
   have G3 := Lib.hid g3
   have HTL := Lib.hid htl
   clear g1 g2 g3 htl
   have HOI : Hid (Own (wr.alloc (.cells #[] 3)) wr.heap.size (wr.alloc (.cells #[] 3)).heap.size 3 1 (.slice (some ⟨wr.heap.size, 0, none⟩) 0 0) 0 (ints [])) := Lib.hid (own_of (lit_own wr 3 1))
   have hga := ((Grew.refl wr).alloc (.cells #[] 3))
   go_wp2_with (at_builtin; refine wpList_append_own _ rfl _ _ 46 rfl w2.heap.size 75 i0 _ 2 40 Tryz.underlying46 hi hz0 hz1 hz2 rfl (by decide) _ _ _ rfl (ownsRow_grew G1.out (hga.alloc _)) ⟨_, 0, none⟩ 1 1 [.string x.name, .slice (some ⟨wr.heap.size, 0, none⟩) 0 0] rfl rfl (news2r (by simp)) (fun x hx => by simp at hx; rcases hx with rfl | rfl <;> rfl) (by unfold maxLen; omega) (by omega) (by have := (hbel.trans hga).size; simp at this ⊢; omega) ?_; intro v' w' hown' hgr2 _)
   go_roundw
   case rel =>
    obtain ⟨g', cap', hv'⟩ := own_pos hown' (Nat.succ_pos k)
    refine ⟨k + 1, g', cap', by omega, by go_num, hv', Lib.hid ?_, ((hbel.trans hga).alloc _).grown hgr2 (fun b h => (G1.out.lt b h).1)⟩
    rw [rs0_snoc hxk.out]
    refine GrowR.snoc (lo2 := wr.heap.size) (p := ⟨x.name, .slice (some ⟨wr.heap.size, 0, none⟩) 0 0⟩) (by rw [HTL.out]; exact ownsRow_grew G1.out (hga.alloc _)) (G2.out.mono fun x q h => h.grew (hga.alloc _)) G3.out ⟨rfl, (HOI.out.grew ((Grew.refl _).alloc _)).mono (Nat.le_refl _) ((Grew.refl _).alloc _).size⟩ hbel.size (hga.alloc _).size ?_ hgr2 hgr2.size
    rw [HTL.out]; simpa [P2.c] using hown'
   case measure => simp [intOf]; omega
  ·
   obtain rfl : n = k := by omega
   have HGR0 := Lib.hid (show GrowR wr w2.heap.size (.slice (some ⟨g, 0, none⟩) n cap) (rs0 xs) by have h1 := hgr.out; rw [take_all HX.out] at h1; exact h1)
   clear hgr hi hz0 hz1 hz2
   obtain ⟨M, hM⟩ : ∃ M, mxS xs = M := ⟨_, rfl⟩
   have HM := Lib.hid hM
   have HLM := Lib.hid (fun (k : Nat) => show ((k : Int) ≤ M) ↔ k < lvls xs by rw [← hM]; exact mx_lvl)
   clear hM
   obtain ⟨LV, hLV⟩ : ∃ L, lvls xs = L := ⟨_, rfl⟩
   have HLE := Lib.hid hLV
   have hlvb : LV ≤ n + 1 := by rw [← hLV]; exact HLV.out
   rw [hLV] at HLM
   clear hLV
   obtain ⟨W3, rfl⟩ : ∃ y, y = wr := ⟨_, rfl⟩
   go_wp2
   go_loopw [11, 12] (fun tv kv wr => ∃ (K t : Nat) (rs : List Rs), K ≤ LV ∧ kv = .int .i64 K ∧ tv = .int .i64 t ∧ Hid (EvR xs s.files K rs t) ∧ Hid (EvI xs s.files K rs) ∧ Hid (GrowR wr w2.heap.size (.slice (some ⟨g, 0, none⟩) n cap) rs) ∧ Hid (t ≤ tot rs + K) ∧ Grew w2 wr) (fun _ kv _ => LV - (intOf kv).toNat)
   case atStart => exact ⟨0, 0, rs0 xs, Nat.zero_le _, rfl, rfl, Lib.hid EvR.zero, Lib.hid (EvI.start _ _), HGR0, Lib.hid (Nat.zero_le _), hbel⟩
   case round =>
    obtain ⟨K, t, rs, hK, rfl, rfl, HEV, HEI, HGR, HTT, hbel2⟩ := hrel
    have hbw2 := hgA.trans hbel2
    by_cases hlt2 : K < LV
    ·
     have hle : (K : Int) ≤ M := (HLM.out K).2 hlt2
     go_wp2_with (go_at_call 95; refine (specMaxStratum _ xs _ (HD2.out.grew hbw2) (by have := HX0.out; omega) HZ.out).mono ?_; rintro e w6 ⟨he, hb6⟩; rw [HM.out] at he; subst he)
     have hbel6 := hbel2.trans hb6
     have HGR6 := Lib.hid (HGR.out.grew hb6)
     clear HGR
     go_loopw [11, 13] (fun tv mv wr => ∃ (m : Nat) (r : List Rs) (b : Bool), tv = .int .i64 ((t + m : Nat) : Int) ∧ mv = .bool b ∧ Hid (r = (passN xs s.files K rs m).1) ∧ Hid ((∀ j, j < m → (passN xs s.files K rs j).2 = true) ∧ (passN xs s.files K rs m).2 = b) ∧ Hid (EvI xs s.files K r) ∧ Hid (GrowR wr w2.heap.size (.slice (some ⟨g, 0, none⟩) n cap) r) ∧ Hid (tot rs + m ≤ tot r + (if b then 0 else 1)) ∧ Grew w2 wr) (fun _ mv wr => 2 * (NF - totW wr g n) + oneIf mv)
     case atStart => exact ⟨0, rs, true, by simp, rfl, Lib.hid rfl, Lib.hid ⟨fun j h => absurd h (Nat.not_lt_zero j), rfl⟩, HEI, HGR6, Lib.hid (by simp), hbel6⟩
     case round =>
      obtain ⟨m, r, b, rfl, rfl, HR, HFL, HEI2, HGR2, HTB, hbel7⟩ := hrel
      have hcb : b = true ∨ b = false := by cases b <;> simp
      have HRL := Lib.hid (show r.length = n by rw [HEI2.out.rlen, HX.out])
      have HT1 := Lib.hid (show totW wr g n = tot r ∧ tot r ≤ NF from ⟨totW_of HGR2.out HRL.out, by rw [← HNF.out]; exact HEI2.out.tot HX.out HF.out⟩)
      rcases hcb with rfl | rfl
      ·
       have htm : t + m ≤ NF + LV := by
        have h1 := HTB.out; have h2 := HTT.out; have h3 := HT1.out.2; simp at h1; omega
       have hwt : IntKind.i64.wrap (((t + m : Nat) : Int) + 1) = ((t + (m + 1) : Nat) : Int) := by simp [IntKind.wrap, IntKind.bits, IntKind.signed]; omega
       obtain ⟨W4, rfl⟩ : ∃ y, y = wr := ⟨_, rfl⟩
       go_wp2
       go_loopw [13, 14] (fun mv iv wr => ∃ (i : Nat) (r' : List Rs) (b' : Bool), i ≤ n ∧ iv = .int .i64 i ∧ mv = .bool b' ∧ Hid (passTo xs s.files K r i = (r', b')) ∧ Hid (EvI xs s.files K r') ∧ Hid (GrowR wr w2.heap.size (.slice (some ⟨g, 0, none⟩) n cap) r') ∧ Hid (tot r ≤ tot r' ∧ (b' = true → tot r < tot r')) ∧ Grew w2 wr) (fun _ iv _ => n - (intOf iv).toNat)
       case atStart => exact ⟨0, r, false, Nat.zero_le _, rfl, rfl, Lib.hid rfl, HEI2, HGR2, Lib.hid ⟨Nat.le_refl _, fun h => by cases h⟩, hbel7⟩
       case round =>
        obtain ⟨i, r', b', hi, rfl, rfl, HP, HEI3, HGR3, HT3, hbel8⟩ := hrel
        have hbw8 := hgA.trans hbel8
        by_cases hlt3 : i < n
        ·
         obtain ⟨b1, o1, p, rfl, hpk, c0, c1⟩ := (hra.grew hbw8).getP2 hlt3
         obtain ⟨x, hxk, hxr⟩ := HA.out.get hpk.out
         have hxs := dir_sz HZ.out hxk.out
         obtain ⟨pn, pq⟩ := p
         obtain ⟨hxn, hxq⟩ := hxr
         simp only at hxn hxq c0 c1
         subst hxn
         have HQ := Lib.hid hxq
         obtain ⟨pa, pc, rfl, hpc, hpr⟩ := hxq
         clear hpc hpr
         obtain ⟨lb, lo, lv, rfl, hlvk, l0⟩ := (HSL2.out.grew hbel8).one hlt3
         have HLVK := Lib.hid (gt_at hlvk.out)
         have q0 := grew_cell (w := w2) hbel8 z0
         have q1 := grew_cell (w := w2) hbel8 z1
         have q2 := grew_cell (w := w2) hbel8 z2
         have hin : (i : Int) < (n : Int) := by omega
         have HRL3 := Lib.hid (show r'.length = n by rw [HEI3.out.rlen, HX.out])
         have HSM := Lib.hid (HEI3.out.small (by rw [HF.out]; exact hFb))
         obtain ⟨r0, ra, rc, hri, e0, e1, HRD, hfz, hgl, hgb⟩ := HGR3.out.at HRL3.out hlt3
         have hr0 : r0.ids.length ≤ 4000000 := HSM.out r0 (List.mem_of_getElem? hri.out)
         have hsl := selL_len x.query s.files r'
         have HSEL := Lib.hid (show (selL x.query s.files r').length ≤ 4000000 by have := HF.out; omega)
         by_cases hk : lv = K
         ·
          have hneq : ((lv : Int) != (K : Int)) = false := by subst hk; simp
          have hnk : (lv : Int) = (K : Int) := by omega
          obtain ⟨sb, hsb⟩ : ∃ b, sameB (selL x.query s.files r') r0.ids = b := ⟨_, rfl⟩
          have HSBB := Lib.hid hsb
          have hcsb : sb = true ∨ sb = false := by cases sb <;> simp
          have HSW := Lib.hid (show (sb = true → selL x.query s.files r' = idsAt r' i) ∧ (sb = false → selL x.query s.files r' ≠ idsAt r' i) by
           rw [idsAt_get hri.out]
           refine ⟨fun h => ?_, fun h e => ?_⟩
           ·
            by_cases he : selL x.query s.files r' = r0.ids
            ·
             exact he
            ·
             rw [← hsb, sameB_no he] at h; cases h
           ·
            rw [← hsb, sameB_yes e] at h; cases h)
          have HLK := Lib.hid (show gt (stL xs) i = K by rw [HLVK.out]; exact hk)
          have HSELV := Lib.hid hsl
          clear hsb hk hsl
          rcases hcsb with rfl | rfl
          ·
           have hk0 := hi
           go_wp2_with fail
           refine wp_region_noPanic ?_
           refine wp_region_held_drew (S := (fun w' => (w'.cell? ⟨w.heap.size, 0, none⟩ = some (p_q) ∧ w'.cell? ⟨w.heap.size, 1, none⟩ = some (p_r) ∧ w'.cell? ⟨w.heap.size, 2, none⟩ = some (.int .i64 s.next) ∧ w'.cell? ⟨b1, o1 + i * 2 + 1, none⟩ = some (.slice pa x.query.length pc) ∧ Grew wr w'))) (by kernel_rfl) ?h1_S ?h1_r
           case h1_S => exact ⟨grew_cell (Grew.refl _).drew q0, grew_cell (Grew.refl _).drew q1, grew_cell (Grew.refl _).drew q2, grew_cell (Grew.refl _).drew c1, (Grew.refl _).drew⟩
           case h1_r =>
            intro HS
            refine tk' 0 HS ?_
            refine tk' 1 HS ?_
            refine tk' 2 HS ?_
            refine tk' 3 HS ?_
            refine tk' 4 HS ?_
            refine tk' 5 HS ?_
            refine tk' 6 HS ?_
            refine cl' 7 fun K hK => ?_
            go_simp
            go_at_call 96
            refine (specSelectFiles s ⟨p_q, p_r, s.next⟩ _ x.query _ r' _ (HST.out.grew (hbw8.trans HS.2.2.2.2)) (HQ.out.grew (hbw8.trans HS.2.2.2.2)) (HGR3.out.grew HS.2.2.2.2).own.rd (by rw [HF.out]; exact hFb) HFM.out hxs.2.1 hxs.2.2 (by rw [HRL3.out]; omega) HSM.out).mono ?_
            rintro e w7 ⟨v7, rfl, hv7, hb⟩
            obtain ⟨ia, ic, rfl⟩ := own_slice hv7
            have HV7 := Lib.hid (ownsRow_base hv7 (HS.2.2.2.2).size)
            clear hv7
            refine hK.out _ _ ?s1_7 ?r1_7
            case s1_7 => (try dsimp only); exact ⟨grew_cell hb HS.1, grew_cell hb HS.2.1, grew_cell hb HS.2.2.1, grew_cell hb HS.2.2.2.1, HS.2.2.2.2.trans hb⟩
            case r1_7 =>
             clear HS hK K; intro HS
             try simp only [Act.put, lpa, lpb, lpc]
             refine tk' 8 HS ?_
             refine wpAnyH_done (by kernel_rfl) ?_ _
             refine NoPanic.normal ?_
             have hg7 := HS.2.2.2.2
             have u1 := grew_cell hg7 e1
             have uf := grew_frozen hg7 hgl hfz
             go_wp2_with (go_at_call 42; refine (l07Ints _ _ _ _ _ _ _ (rd_of_own HV7.out) (HRD.out.grew hg7) HSEL.out hr0).mono ?_; rintro e w8 ⟨he, hb8⟩; rw [HSBB.out] at he; subst he; have u2 := grew_cell hb8 u1; have uf2 := grew_frozen hb8 (Nat.lt_of_lt_of_le hgl hg7.size) uf)
             go_roundw
             case rel => exact ⟨i + 1, r', b', by omega, by go_num, rfl, Lib.hid (by rw [passTo_succ, HP.out, st1_same hxk.out (HSW.out.1 (by first | rfl | trivial))]), HEI3, Lib.hid (HGR3.out.grew (hg7.trans hb8)), HT3, (hbel8.trans hg7).trans hb8⟩
             case measure => simp [intOf]; omega
          ·
           have hk0 := hi
           go_wp2_with fail
           refine wp_region_noPanic ?_
           refine wp_region_held_drew (S := (fun w' => (w'.cell? ⟨w.heap.size, 0, none⟩ = some (p_q) ∧ w'.cell? ⟨w.heap.size, 1, none⟩ = some (p_r) ∧ w'.cell? ⟨w.heap.size, 2, none⟩ = some (.int .i64 s.next) ∧ w'.cell? ⟨b1, o1 + i * 2 + 1, none⟩ = some (.slice pa x.query.length pc) ∧ Grew wr w'))) (by kernel_rfl) ?h2_S ?h2_r
           case h2_S => exact ⟨grew_cell (Grew.refl _).drew q0, grew_cell (Grew.refl _).drew q1, grew_cell (Grew.refl _).drew q2, grew_cell (Grew.refl _).drew c1, (Grew.refl _).drew⟩
           case h2_r =>
            intro HS
            refine tk' 0 HS ?_
            refine tk' 1 HS ?_
            refine tk' 2 HS ?_
            refine tk' 3 HS ?_
            refine tk' 4 HS ?_
            refine tk' 5 HS ?_
            refine tk' 6 HS ?_
            refine cl' 7 fun K hK => ?_
            go_simp
            go_at_call 96
            refine (specSelectFiles s ⟨p_q, p_r, s.next⟩ _ x.query _ r' _ (HST.out.grew (hbw8.trans HS.2.2.2.2)) (HQ.out.grew (hbw8.trans HS.2.2.2.2)) (HGR3.out.grew HS.2.2.2.2).own.rd (by rw [HF.out]; exact hFb) HFM.out hxs.2.1 hxs.2.2 (by rw [HRL3.out]; omega) HSM.out).mono ?_
            rintro e w7 ⟨v7, rfl, hv7, hb⟩
            obtain ⟨ia, ic, rfl⟩ := own_slice hv7
            have HV7 := Lib.hid (ownsRow_base hv7 (HS.2.2.2.2).size)
            clear hv7
            refine hK.out _ _ ?s2_7 ?r2_7
            case s2_7 => (try dsimp only); exact ⟨grew_cell hb HS.1, grew_cell hb HS.2.1, grew_cell hb HS.2.2.1, grew_cell hb HS.2.2.2.1, HS.2.2.2.2.trans hb⟩
            case r2_7 =>
             clear HS hK K; intro HS
             try simp only [Act.put, lpa, lpb, lpc]
             refine tk' 8 HS ?_
             refine wpAnyH_done (by kernel_rfl) ?_ _
             refine NoPanic.normal ?_
             have hg7 := HS.2.2.2.2
             have u1 := grew_cell hg7 e1
             have uf := grew_frozen hg7 hgl hfz
             go_wp2_with (go_at_call 42; refine (l07Ints _ _ _ _ _ _ _ (rd_of_own HV7.out) (HRD.out.grew hg7) HSEL.out hr0).mono ?_; rintro e w8 ⟨he, hb8⟩; rw [HSBB.out] at he; subst he; have u2 := grew_cell hb8 u1; have uf2 := grew_frozen hb8 (Nat.lt_of_lt_of_le hgl hg7.size) uf)
             go_roundw
             case rel =>
              have h5 := EvI.step HSB.out HEI3.out hxk.out HLK.out (HSW.out.2 (by first | rfl | trivial))
              have h6 := GrowR.put HGR3.out HRL3.out (hg7.trans hb8) (ownsRow_grew HV7.out hb8) hri.out
              have h7 : r0.name = x.name := by
               have h8 := HEI3.out.names
               have h9 : (r'.map Rs.name)[i]? = (xs.map Dr.name)[i]? := by rw [h8]
               rw [List.getElem?_map, List.getElem?_map, hri.out, hxk.out] at h9
               exact Option.some.inj h9
              rw [h7] at h6
              refine ⟨i + 1, r'.set i ⟨x.name, selL x.query s.files r'⟩, true, by omega, by go_num, rfl, Lib.hid (by rw [passTo_succ, HP.out, st1_new hxk.out HLK.out (HSW.out.2 (by first | rfl | trivial))]), Lib.hid h5.1, Lib.hid h6, Lib.hid ⟨?_, fun _ => ?_⟩, ((hbel8.trans hg7).trans hb8).setCell (p := ⟨g, i * 2 + 1, none⟩) hgb _⟩
              ·
               have h10 := HT3.out.1; have h11 := h5.2; omega
              ·
               have h10 := HT3.out.1; have h11 := h5.2; omega
             case measure => simp [intOf]; omega
         ·
          have hneq : ((lv : Int) != (K : Int)) = true := by simp; omega
          have hnk : ¬ ((lv : Int) = (K : Int)) := by omega
          go_wp2
          go_roundw
          case rel => exact ⟨i + 1, r', b', by omega, by go_num, rfl, Lib.hid (by rw [passTo_succ, HP.out, st1_skip (by rw [HLVK.out]; exact hk)]), HEI3, HGR3, HT3, hbel8⟩
          case measure => simp [intOf]; omega
        ·
         obtain rfl : n = i := by omega
         have HT4 := Lib.hid (show totW wr g n = tot r' ∧ tot r' ≤ NF from ⟨totW_of HGR3.out (by rw [HEI3.out.rlen, HX.out]), by rw [← HNF.out]; exact HEI3.out.tot HX.out HF.out⟩)
         have HPN := Lib.hid (show passN xs s.files K rs (m + 1) = (r', b') by unfold passN; rw [← HR.out, HX.out]; exact HP.out)
         go_wp2
         go_roundw
         case rel =>
          refine ⟨m + 1, r', b', by first | rfl | (congr 1), rfl, Lib.hid (by rw [HPN.out]), Lib.hid ⟨fun j hj => ?_, by rw [HPN.out]⟩, HEI3, HGR3, Lib.hid ?_, hbel8⟩
          ·
           rcases Nat.lt_succ_iff_lt_or_eq.1 hj with h1 | rfl
           ·
            exact HFL.out.1 j h1
           ·
            exact HFL.out.2
          ·
           have h1 := HTB.out; have h2 := HT3.out
           cases b' with
           | false => simp at h1 ⊢; omega
           | true => have h3 := h2.2 rfl; simp at h1 ⊢; omega
         case measure =>
          have h1 := HT1.out; have h2 := HT4.out; have h3 := HT3.out
          rw [h1.1, h2.1]
          cases b' with
          | false => simp [oneIf]; omega
          | true => have h4 := h3.2 rfl; simp [oneIf]; omega
      ·
       obtain ⟨m', rfl⟩ : ∃ m', m = m' + 1 := by
        cases m with
        | zero => have h1 := HFL.out.2; simp [passN] at h1
        | succ m' => exact ⟨m', rfl⟩
       have HEND := Lib.hid (show LvlEnd xs s.files K rs m' from ⟨fun j hj => HFL.out.1 j (by omega), HFL.out.2⟩)
       have hwk : IntKind.i64.wrap ((K : Int) + 1) = ((K + 1 : Nat) : Int) := by simp [IntKind.wrap, IntKind.bits, IntKind.signed]; omega
       go_wp2
       go_roundw
       case rel =>
        refine ⟨K + 1, t + (m' + 1), r, by omega, by first | rfl | go_num, rfl, Lib.hid ?_, Lib.hid HEI2.out.next, HGR2, Lib.hid ?_, hbel7⟩
        ·
         rw [HR.out]; exact EvR.succ HEV.out HEND.out
        ·
         have h1 := HTB.out; have h2 := HTT.out; simp at h1; omega
       case measure => simp [intOf]; omega
    ·
     have HKL := Lib.hid (show K = LV by omega)
     have hle : ¬ ((K : Int) ≤ M) := fun h => hlt2 ((HLM.out K).1 h)
     have HEE := Lib.hid (show evOk xs s = true ∧ evT xs s = (t : Int) ∧ evRs xs s = rs from by
      have h1 := evP_of (xs := xs) (fs := s.files) (rs := rs) (t := t) (by have h0 := HEV.out; rw [HKL.out] at h0; rw [HLE.out]; exact h0)
      refine ⟨HOK.out, ?_, ?_⟩
      ·
       unfold evT; rw [HOK.out, h1]; rfl
      ·
       unfold evRs; rw [HOK.out, h1]; rfl)
     go_wp2_with (go_at_call 95; refine (specMaxStratum _ xs _ (HD2.out.grew hbw2) (by have := HX0.out; omega) HZ.out).mono ?_; rintro e w6 ⟨he, hb6⟩; rw [HM.out] at he; subst he)
     go_ret3
     have h1 := HEE.out
     rw [h1.1, h1.2.1, h1.2.2]
     exact ⟨_, rfl, (GrowR.base (HGR.out.grew hb6) hwA).own, hbw2.trans hb6⟩
set_option maxRecDepth 100000 in
set_option maxHeartbeats 4000000 in
theorem implEvaluated (s : St) (p : PS) (va : Value) (xs : List Dr) (vn : Value) (w : World) (hs : St.R w s p) (ha : RdDs w va xs) (hvn : Rd w vn 1 xs.length (strs (xs.map Dr.name))) (hx : xs.length ≤ 1900000) (hz : szAll Dr.sz xs ≤ 4000000) (hzs : s.sz ≤ 4000000) :
  Calls Tryz.prog 66 #[p.v, va, .slice none 0 0, vn] w fun e w' => ∃ v, e = .returned (.tuple #[v, .int .i64 (evT xs s), .bool (evOk xs s)]) ∧ OwnRss w' w.heap.size w'.heap.size v (evRs xs s) ∧ Grew w w' := by
 obtain ⟨p_q, p_r, p_n⟩ := p
 have hsn : p_n = s.next := hs.2.2
 subst hsn
 have HST := Lib.hid hs
 have HD := Lib.hid ha
 have HX0 := Lib.hid hx
 have HZ := Lib.hid hz
 have HZS := Lib.hid hzs
 clear hs
 obtain ⟨qs, ⟨a, ca, rfl, hca, hra⟩, hall⟩ := ha
 have HA := Lib.hid hall
 clear hall hca
 have hg0 := (Grew.refl w).alloc (.cells #[p_q, p_r, .int .i64 s.next] 27)
 have x0 : (w.alloc (.cells #[p_q, p_r, .int .i64 s.next] 27)).cell? ⟨w.heap.size, 0, none⟩ = some p_q := by simp
 have x1 : (w.alloc (.cells #[p_q, p_r, .int .i64 s.next] 27)).cell? ⟨w.heap.size, 1, none⟩ = some p_r := by simp
 have x2 : (w.alloc (.cells #[p_q, p_r, .int .i64 s.next] 27)).cell? ⟨w.heap.size, 2, none⟩ = some (.int .i64 s.next) := by simp
 obtain ⟨bt, hbt⟩ : ∃ b, stB xs = b := ⟨_, rfl⟩
 obtain ⟨bo, hbo⟩ : ∃ b, stoB s = b := ⟨_, rfl⟩
 have HSB := Lib.hid hbt
 have HSO := Lib.hid hbo
 have HNO := Lib.hid (show (bt && bo) = false → evOk xs s = false ∧ evT xs s = 0 ∧ evRs xs s = [] from fun h => by
  have h1 : evOk xs s = false := by unfold evOk; rw [hbt, hbo]; exact h
  exact ⟨h1, by unfold evT; rw [h1]; rfl, by unfold evRs; rw [h1]; rfl⟩)
 clear hbt hbo
 change Calls Tryz.prog _ #[.agg #[p_q, p_r, .int .i64 s.next], _, _, _] w _
 have hcs : bt = false ∨ bt = true := by cases bt <;> simp
 have hco : bo = false ∨ bo = true := by cases bo <;> simp
 rcases hcs with rfl | rfl
 ·
  go_enter Tryz.func66, Tryz.ntmps66
  go_wp2_with (go_at_call 88; refine (implStrata _ xs _ (HD.out.grew hg0) (by have := HX0.out; omega) HZ.out).mono ?_; rintro e w1 ⟨v1, he, hv1, hb1⟩; rw [HSB.out] at he; subst he; obtain ⟨oa, oc, rfl⟩ := own_slice hv1; clear hv1; have y0 := grew_cell hb1 x0; have y1 := grew_cell hb1 x1; have y2 := grew_cell hb1 x2)
  go_ret3
  have h1 := HNO.out rfl
  rw [h1.1, h1.2.1, h1.2.2]
  exact ⟨_, rfl, ⟨[], own_of (World.ownsRow_nil _ _ _ _), All2.nil, by simpa using Dis.one (.slice none 0 0)⟩, hg0.trans hb1⟩
 rcases hco with rfl | rfl
 ·
  go_enter Tryz.func66, Tryz.ntmps66
  go_wp2_with (first | (go_at_call 88; refine (implStrata _ xs _ (HD.out.grew hg0) (by have := HX0.out; omega) HZ.out).mono ?_; rintro e w1 ⟨v1, he, hv1, hb1⟩; rw [HSB.out] at he; subst he; obtain ⟨oa, oc, rfl⟩ := own_slice hv1; clear hv1; have y0 := grew_cell hb1 x0; have y1 := grew_cell hb1 x1; have y2 := grew_cell hb1 x2) | (go_at_call 34; refine (implIsValidStore s ⟨p_q, p_r, s.next⟩ _ (HST.out.grew (hg0.trans hb1)) HZS.out).mono ?_; rintro e w2 ⟨he, hb2⟩; rw [HSO.out] at he; subst he))
  go_ret3
  have h1 := HNO.out rfl
  rw [h1.1, h1.2.1, h1.2.2]
  exact ⟨_, rfl, ⟨[], own_of (World.ownsRow_nil _ _ _ _), All2.nil, by simpa using Dis.one (.slice none 0 0)⟩, (hg0.trans hb1).trans hb2⟩
 have HOK := Lib.hid (show evOk xs s = true by unfold evOk; rw [HSB.out, HSO.out]; rfl)
 clear HNO
 obtain ⟨n, hn⟩ : ∃ n, xs.length = n := ⟨_, rfl⟩
 obtain ⟨F, hF⟩ : ∃ F, s.files.length = F := ⟨_, rfl⟩
 have HX := Lib.hid hn
 have HF := Lib.hid hF
 have hn5 : n ≤ 5 := by
  have h1 := HSB.out
  unfold stB at h1
  simp only [Bool.and_eq_true] at h1
  rw [← hn]; exact (dirs_use h1.1).1
 have hFb : F ≤ 4000000 := by have h1 := HZS.out; unfold St.sz at h1; omega
 have HLL := Lib.hid (show (stL xs).length = n by rw [stL_len HSB.out, hn])
 have HLV := Lib.hid (lvls_le hn)
 have HFM := Lib.hid (show ∀ y, y ∈ s.files → y.small from (St.small_of HZS.out).2.2)
 obtain ⟨NF, hNF⟩ : ∃ NF, n * F = NF := ⟨_, rfl⟩
 have HNF := Lib.hid hNF
 have hNFb : NF ≤ 20000000 := by have := Nat.mul_le_mul hn5 hFb; omega
 have HD2 := Lib.hid (show RdDs w (.slice a n ca) xs by have := HD.out; rw [hn] at this; exact this)
 rw [hn] at hra hx ⊢
 clear HD hn hF hNF
 obtain ⟨i0, hi, hz0, hz1, hz2⟩ := info_parts Tryz.infoRs
 have hvn2 : Rd w vn 1 n (strs (xs.map Dr.name)) := by have h1 := hvn; rw [HX.out] at h1; exact h1
 have HVN := Lib.hid hvn2
 obtain ⟨na, nc, rfl, hnc, hnr⟩ := hvn2
 clear hnc hnr hvn
 go_enter Tryz.func66, Tryz.ntmps66
 go_wp2_with (first | (go_at_call 88; refine (implStrata _ xs _ (HD2.out.grew hg0) (by have := HX0.out; omega) HZ.out).mono ?_; rintro e w1 ⟨v1, he, hv1, hb1⟩; rw [HSB.out] at he; subst he; rw [HLL.out] at hv1; obtain ⟨oa, oc, rfl⟩ := own_slice hv1; have HSL := Lib.hid (rd_of_own hv1).rda; clear hv1; have y0 := grew_cell hb1 x0; have y1 := grew_cell hb1 x1; have y2 := grew_cell hb1 x2) | (go_at_call 34; refine (implIsValidStore s ⟨p_q, p_r, s.next⟩ _ (HST.out.grew (hg0.trans hb1)) HZS.out).mono ?_; rintro e w2 ⟨he, hb2⟩; rw [HSO.out] at he; subst he; have z0 := grew_cell hb2 y0; have z1 := grew_cell hb2 y1; have z2 := grew_cell hb2 y2; have HSL2 := Lib.hid (HSL.out.grew hb2)))
 have hgB := hb1.trans hb2
 clear y0 y1 y2
 clear x0 x1 x2
 clear HSL
 have hgA := hg0.trans hgB
 have hwA := hgA.size
 clear hg0 hb1 hb2 hgB
 go_loopw [13, 38] (fun v i wr => ∃ k g cap : Nat, k ≤ n ∧ i = .int .i64 k ∧ v = .slice (some ⟨g, 0, none⟩) k cap ∧ Hid (GrowR wr w2.heap.size v (rs0 (xs.take k))) ∧ Grew w2 wr) (fun _ i _ => n - (intOf i).toNat)
 case atStart => exact ⟨0, _, _, Nat.zero_le _, rfl, rfl, Lib.hid (GrowR.lit w2), (Grew.refl _).alloc _⟩
 case round =>
  obtain ⟨k, g, cap, hk, rfl, rfl, hgr, hbel⟩ := hrel
  have hbw := hgA.trans hbel
  by_cases hlt : k < n
  ·
   obtain ⟨b1, o1, p, rfl, hpk, c0, c1⟩ := (hra.grew hbw).getP2 hlt
   obtain ⟨x, hxk, hxr⟩ := HA.out.get hpk.out
   obtain ⟨pn, pq⟩ := p
   obtain ⟨hxn, hxq⟩ := hxr
   simp only at hxn hxq c0 c1
   subst hxn
   obtain ⟨pa, pc, rfl, hpc, hpr⟩ := hxq
   clear hpc hpr
   obtain ⟨ps, g1, g2, g3⟩ := hgr.out
   have htl : (rs0 (xs.take k)).length = k := rs0_len xs k (by have := HX.out; omega)
   rw [htl] at g1
   have G1 := Lib.hid g1
   have G2 := Lib.hid g2
   have G3 := Lib.hid g3
   have HTL := Lib.hid htl
   clear g1 g2 g3 htl
   have HNX := Lib.hid (show hasB (xs.map Dr.name) x.name = true from hasB_iff.2 (List.mem_map.2 ⟨x, List.mem_of_getElem? hxk.out, rfl⟩))
   have hga2 := ((Grew.refl wr).alloc (.cells #[.string x.name, .slice pa x.query.length pc] 39)).alloc (.cells #[.string x.name, .slice none 0 0] 75)
   have bx0 : ((wr.alloc (.cells #[.string x.name, .slice pa x.query.length pc] 39)).alloc (.cells #[.string x.name, .slice none 0 0] 75)).cell? ⟨wr.heap.size, 0, none⟩ = some (.string x.name) := grew_cell ((Grew.refl _).alloc _) (by simp)
   have br0 : ((wr.alloc (.cells #[.string x.name, .slice pa x.query.length pc] 39)).alloc (.cells #[.string x.name, .slice none 0 0] 75)).cell? ⟨wr.heap.size + 1, 0, none⟩ = some (.string x.name) := by simp
   have br1 : ((wr.alloc (.cells #[.string x.name, .slice pa x.query.length pc] 39)).alloc (.cells #[.string x.name, .slice none 0 0] 75)).cell? ⟨wr.heap.size + 1, 1, none⟩ = some (.slice none 0 0) := by simp
   go_wp2_with (first | (go_at_call 89; refine (slContainsStr _ _ (xs.map Dr.name) x.name _ (HVN.out.grew (hbw.trans hga2)) (by omega)).mono ?_; rintro e w5 ⟨he, rfl⟩; rw [HNX.out] at he; subst he) | (at_builtin; refine wpList_append_own _ rfl _ _ 46 rfl w2.heap.size 75 i0 _ 2 40 Tryz.underlying46 hi hz0 hz1 hz2 rfl (by decide) _ _ _ rfl (ownsRow_grew G1.out (hga2.alloc _)) ⟨_, 0, none⟩ 1 1 [.string x.name, .slice none 0 0] rfl rfl (news2r (by simp)) (fun x hx => by simp at hx; rcases hx with rfl | rfl <;> rfl) (by unfold maxLen; omega) (by omega) (by have := (hbel.trans hga2).size; simp at this ⊢; omega) ?_; intro v' w' hown' hgr2 _))
   go_roundw
   case rel =>
    obtain ⟨g', cap', hv'⟩ := own_pos hown' (Nat.succ_pos k)
    refine ⟨k + 1, g', cap', by omega, by go_num, hv', Lib.hid ?_, ((hbel.trans hga2).alloc _).grown hgr2 (fun b h => (G1.out.lt b h).1)⟩
    rw [rs0_snoc hxk.out]
    refine GrowR.snoc (lo2 := wr.heap.size) (p := ⟨x.name, .slice none 0 0⟩) (by rw [HTL.out]; exact ownsRow_grew G1.out (hga2.alloc _)) (G2.out.mono fun x q h => h.grew (hga2.alloc _)) G3.out ⟨rfl, own_of (World.ownsRow_nil _ _ _ _)⟩ hbel.size (hga2.alloc _).size ?_ hgr2 hgr2.size
    rw [HTL.out]; simpa [P2.c] using hown'
   case measure => simp [intOf]; omega
  ·
   obtain rfl : n = k := by omega
   have HGR0 := Lib.hid (show GrowR wr w2.heap.size (.slice (some ⟨g, 0, none⟩) n cap) (rs0 xs) by have h1 := hgr.out; rw [take_all HX.out] at h1; exact h1)
   clear hgr hi hz0 hz1 hz2
   obtain ⟨M, hM⟩ : ∃ M, mxS xs = M := ⟨_, rfl⟩
   have HM := Lib.hid hM
   have HLM := Lib.hid (fun (k : Nat) => show ((k : Int) ≤ M) ↔ k < lvls xs by rw [← hM]; exact mx_lvl)
   clear hM
   obtain ⟨LV, hLV⟩ : ∃ L, lvls xs = L := ⟨_, rfl⟩
   have HLE := Lib.hid hLV
   have hlvb : LV ≤ n + 1 := by rw [← hLV]; exact HLV.out
   rw [hLV] at HLM
   clear hLV
   obtain ⟨W3, rfl⟩ : ∃ y, y = wr := ⟨_, rfl⟩
   go_wp2
   go_loopw [17, 18] (fun tv kv wr => ∃ (K t : Nat) (rs : List Rs), K ≤ LV ∧ kv = .int .i64 K ∧ tv = .int .i64 t ∧ Hid (EvR xs s.files K rs t) ∧ Hid (EvI xs s.files K rs) ∧ Hid (GrowR wr w2.heap.size (.slice (some ⟨g, 0, none⟩) n cap) rs) ∧ Hid (t ≤ tot rs + K) ∧ Grew w2 wr) (fun _ kv _ => LV - (intOf kv).toNat)
   case atStart => exact ⟨0, 0, rs0 xs, Nat.zero_le _, rfl, rfl, Lib.hid EvR.zero, Lib.hid (EvI.start _ _), HGR0, Lib.hid (Nat.zero_le _), hbel⟩
   case round =>
    obtain ⟨K, t, rs, hK, rfl, rfl, HEV, HEI, HGR, HTT, hbel2⟩ := hrel
    have hbw2 := hgA.trans hbel2
    by_cases hlt2 : K < LV
    ·
     have hle : (K : Int) ≤ M := (HLM.out K).2 hlt2
     go_wp2_with (go_at_call 90; refine (implMaxStratum _ xs _ (HD2.out.grew hbw2) (by have := HX0.out; omega) HZ.out).mono ?_; rintro e w6 ⟨he, hb6⟩; rw [HM.out] at he; subst he)
     have hbel6 := hbel2.trans hb6
     have HGR6 := Lib.hid (HGR.out.grew hb6)
     clear HGR
     go_loopw [17, 19] (fun tv mv wr => ∃ (m : Nat) (r : List Rs) (b : Bool), tv = .int .i64 ((t + m : Nat) : Int) ∧ mv = .bool b ∧ Hid (r = (passN xs s.files K rs m).1) ∧ Hid ((∀ j, j < m → (passN xs s.files K rs j).2 = true) ∧ (passN xs s.files K rs m).2 = b) ∧ Hid (EvI xs s.files K r) ∧ Hid (GrowR wr w2.heap.size (.slice (some ⟨g, 0, none⟩) n cap) r) ∧ Hid (tot rs + m ≤ tot r + (if b then 0 else 1)) ∧ Grew w2 wr) (fun _ mv wr => 2 * (NF - totW wr g n) + oneIf mv)
     case atStart => exact ⟨0, rs, true, by simp, rfl, Lib.hid rfl, Lib.hid ⟨fun j h => absurd h (Nat.not_lt_zero j), rfl⟩, HEI, HGR6, Lib.hid (by simp), hbel6⟩
     case round =>
      obtain ⟨m, r, b, rfl, rfl, HR, HFL, HEI2, HGR2, HTB, hbel7⟩ := hrel
      have hcb : b = true ∨ b = false := by cases b <;> simp
      have HRL := Lib.hid (show r.length = n by rw [HEI2.out.rlen, HX.out])
      have HT1 := Lib.hid (show totW wr g n = tot r ∧ tot r ≤ NF from ⟨totW_of HGR2.out HRL.out, by rw [← HNF.out]; exact HEI2.out.tot HX.out HF.out⟩)
      rcases hcb with rfl | rfl
      ·
       have htm : t + m ≤ NF + LV := by
        have h1 := HTB.out; have h2 := HTT.out; have h3 := HT1.out.2; simp at h1; omega
       have hwt : IntKind.i64.wrap (((t + m : Nat) : Int) + 1) = ((t + (m + 1) : Nat) : Int) := by simp [IntKind.wrap, IntKind.bits, IntKind.signed]; omega
       obtain ⟨W4, rfl⟩ : ∃ y, y = wr := ⟨_, rfl⟩
       go_wp2
       go_loopw [19, 71] (fun mv iv wr => ∃ (i : Nat) (r' : List Rs) (b' : Bool), i ≤ n ∧ iv = .int .i64 i ∧ mv = .bool b' ∧ Hid (passTo xs s.files K r i = (r', b')) ∧ Hid (EvI xs s.files K r') ∧ Hid (GrowR wr w2.heap.size (.slice (some ⟨g, 0, none⟩) n cap) r') ∧ Hid (tot r ≤ tot r' ∧ (b' = true → tot r < tot r')) ∧ Grew w2 wr) (fun _ iv _ => n - (intOf iv).toNat)
       case atStart => exact ⟨0, r, false, Nat.zero_le _, rfl, rfl, Lib.hid rfl, HEI2, HGR2, Lib.hid ⟨Nat.le_refl _, fun h => by cases h⟩, hbel7⟩
       case round =>
        obtain ⟨i, r', b', hi, rfl, rfl, HP, HEI3, HGR3, HT3, hbel8⟩ := hrel
        have hbw8 := hgA.trans hbel8
        by_cases hlt3 : i < n
        ·
         obtain ⟨b1, o1, p, rfl, hpk, c0, c1⟩ := (hra.grew hbw8).getP2 hlt3
         obtain ⟨x, hxk, hxr⟩ := HA.out.get hpk.out
         have hxs := dir_sz HZ.out hxk.out
         obtain ⟨pn, pq⟩ := p
         obtain ⟨hxn, hxq⟩ := hxr
         simp only at hxn hxq c0 c1
         subst hxn
         have HQ := Lib.hid hxq
         obtain ⟨pa, pc, rfl, hpc, hpr⟩ := hxq
         clear hpc hpr
         obtain ⟨lb, lo, lv, rfl, hlvk, l0⟩ := (HSL2.out.grew hbel8).one hlt3
         have HLVK := Lib.hid (gt_at hlvk.out)
         have hgy := (Grew.refl wr).alloc (.cells #[.string x.name, .slice pa x.query.length pc] 39)
         have ly := grew_cell hgy l0
         have q0 := grew_cell (w := w2) hbel8 z0
         have q1 := grew_cell (w := w2) hbel8 z1
         have q2 := grew_cell (w := w2) hbel8 z2
         have hin : (i : Int) < (n : Int) := by omega
         have HRL3 := Lib.hid (show r'.length = n by rw [HEI3.out.rlen, HX.out])
         have HSM := Lib.hid (HEI3.out.small (by rw [HF.out]; exact hFb))
         obtain ⟨r0, ra, rc, hri, e0, e1, HRD, hfz, hgl, hgb⟩ := HGR3.out.at HRL3.out hlt3
         have hr0 : r0.ids.length ≤ 4000000 := HSM.out r0 (List.mem_of_getElem? hri.out)
         have hsl := selL_len x.query s.files r'
         have HSEL := Lib.hid (show (selL x.query s.files r').length ≤ 4000000 by have := HF.out; omega)
         by_cases hk : lv = K
         ·
          have hneq : ((lv : Int) != (K : Int)) = false := by subst hk; simp
          have hnk : (lv : Int) = (K : Int) := by omega
          obtain ⟨sb, hsb⟩ : ∃ b, sameB (selL x.query s.files r') r0.ids = b := ⟨_, rfl⟩
          have HSBB := Lib.hid hsb
          have hcsb : sb = true ∨ sb = false := by cases sb <;> simp
          have HSW := Lib.hid (show (sb = true → selL x.query s.files r' = idsAt r' i) ∧ (sb = false → selL x.query s.files r' ≠ idsAt r' i) by
           rw [idsAt_get hri.out]
           refine ⟨fun h => ?_, fun h e => ?_⟩
           ·
            by_cases he : selL x.query s.files r' = r0.ids
            ·
             exact he
            ·
             rw [← hsb, sameB_no he] at h; cases h
           ·
            rw [← hsb, sameB_yes e] at h; cases h)
          have HLK := Lib.hid (show gt (stL xs) i = K by rw [HLVK.out]; exact hk)
          have HSELV := Lib.hid hsl
          clear hsb hk hsl
          have HNX := Lib.hid (show hasB (xs.map Dr.name) x.name = true from hasB_iff.2 (List.mem_map.2 ⟨x, List.mem_of_getElem? hxk.out, rfl⟩))
          have p0 := grew_cell hgy q0
          have p1 := grew_cell hgy q1
          have p2 := grew_cell hgy q2
          have f1 := grew_cell hgy e1
          have f0 := grew_cell hgy e0
          have yb0 : (wr.alloc (.cells #[.string x.name, .slice pa x.query.length pc] 39)).cell? ⟨wr.heap.size, 0, none⟩ = some (.string x.name) := by simp
          have yb1 : (wr.alloc (.cells #[.string x.name, .slice pa x.query.length pc] 39)).cell? ⟨wr.heap.size, 1, none⟩ = some (.slice pa x.query.length pc) := by simp
          rcases hcsb with rfl | rfl
          ·
           have hk0 := hi
           go_wp2_with (first | (go_at_call 89; refine (slContainsStr _ _ (xs.map Dr.name) x.name _ (HVN.out.grew (hbw8.trans hgy)) (by omega)).mono ?_; rintro e w5 ⟨he, rfl⟩; rw [HNX.out] at he; subst he) | (go_at_call 91; refine (implSelectFiles s ⟨p_q, p_r, s.next⟩ _ x.query _ r' _ (HST.out.grew (hbw8.trans hgy)) (HQ.out.grew (hbw8.trans hgy)) (HGR3.out.grew hgy).own.rd (by rw [HF.out]; exact hFb) HFM.out hxs.2.1 hxs.2.2 (by rw [HRL3.out]; omega) HSM.out).mono ?_; rintro e w7 ⟨v7, rfl, hv7, hb⟩; obtain ⟨ia, ic, rfl⟩ := own_slice hv7; have HV7 := Lib.hid (ownsRow_base hv7 hgy.size); clear hv7; have u1 := grew_cell hb f1) | (go_at_call 40; refine (slEqualInt _ _ _ _ _ _ _ (rd_of_own HV7.out) (HRD.out.grew (hgy.trans hb)) HSEL.out hr0).mono ?_; rintro e w8 ⟨he, hb8⟩; rw [HSBB.out] at he; subst he; have u2 := grew_cell hb8 u1; have uf2 := grew_frozen (hgy.trans (hb.trans hb8)) hgl hfz))
           have hg7 := hgy.trans hb
           go_roundw
           case rel => exact ⟨i + 1, r', b', by omega, by go_num, rfl, Lib.hid (by rw [passTo_succ, HP.out, st1_same hxk.out (HSW.out.1 (by first | rfl | trivial))]), HEI3, Lib.hid (HGR3.out.grew (hg7.trans hb8)), HT3, (hbel8.trans hg7).trans hb8⟩
           case measure => simp [intOf]; omega
          ·
           have hk0 := hi
           go_wp2_with (first | (go_at_call 89; refine (slContainsStr _ _ (xs.map Dr.name) x.name _ (HVN.out.grew (hbw8.trans hgy)) (by omega)).mono ?_; rintro e w5 ⟨he, rfl⟩; rw [HNX.out] at he; subst he) | (go_at_call 91; refine (implSelectFiles s ⟨p_q, p_r, s.next⟩ _ x.query _ r' _ (HST.out.grew (hbw8.trans hgy)) (HQ.out.grew (hbw8.trans hgy)) (HGR3.out.grew hgy).own.rd (by rw [HF.out]; exact hFb) HFM.out hxs.2.1 hxs.2.2 (by rw [HRL3.out]; omega) HSM.out).mono ?_; rintro e w7 ⟨v7, rfl, hv7, hb⟩; obtain ⟨ia, ic, rfl⟩ := own_slice hv7; have HV7 := Lib.hid (ownsRow_base hv7 hgy.size); clear hv7; have u1 := grew_cell hb f1) | (go_at_call 40; refine (slEqualInt _ _ _ _ _ _ _ (rd_of_own HV7.out) (HRD.out.grew (hgy.trans hb)) HSEL.out hr0).mono ?_; rintro e w8 ⟨he, hb8⟩; rw [HSBB.out] at he; subst he; have u2 := grew_cell hb8 u1; have uf2 := grew_frozen (hgy.trans (hb.trans hb8)) hgl hfz))
           have hg7 := hgy.trans hb
           go_roundw
           case rel =>
            have h5 := EvI.step HSB.out HEI3.out hxk.out HLK.out (HSW.out.2 (by first | rfl | trivial))
            have h6 := GrowR.put HGR3.out HRL3.out (hg7.trans hb8) (ownsRow_grew HV7.out hb8) hri.out
            have h7 : r0.name = x.name := by
             have h8 := HEI3.out.names
             have h9 : (r'.map Rs.name)[i]? = (xs.map Dr.name)[i]? := by rw [h8]
             rw [List.getElem?_map, List.getElem?_map, hri.out, hxk.out] at h9
             exact Option.some.inj h9
            rw [h7] at h6
            refine ⟨i + 1, r'.set i ⟨x.name, selL x.query s.files r'⟩, true, by omega, by go_num, rfl, Lib.hid (by rw [passTo_succ, HP.out, st1_new hxk.out HLK.out (HSW.out.2 (by first | rfl | trivial))]), Lib.hid h5.1, Lib.hid h6, Lib.hid ⟨?_, fun _ => ?_⟩, ((hbel8.trans hg7).trans hb8).setCell (p := ⟨g, i * 2 + 1, none⟩) hgb _⟩
            ·
             have h10 := HT3.out.1; have h11 := h5.2; omega
            ·
             have h10 := HT3.out.1; have h11 := h5.2; omega
           case measure => simp [intOf]; omega
         ·
          have hneq : ((lv : Int) != (K : Int)) = true := by simp; omega
          have hnk : ¬ ((lv : Int) = (K : Int)) := by omega
          go_wp2
          go_roundw
          case rel => exact ⟨i + 1, r', b', by omega, by go_num, rfl, Lib.hid (by rw [passTo_succ, HP.out, st1_skip (by rw [HLVK.out]; exact hk)]), HEI3, Lib.hid (HGR3.out.grew ((Grew.refl wr).alloc (.cells #[.string x.name, .slice pa x.query.length pc] 39))), HT3, hbel8.trans ((Grew.refl wr).alloc (.cells #[.string x.name, .slice pa x.query.length pc] 39))⟩
          case measure => simp [intOf]; omega
        ·
         obtain rfl : n = i := by omega
         have HT4 := Lib.hid (show totW wr g n = tot r' ∧ tot r' ≤ NF from ⟨totW_of HGR3.out (by rw [HEI3.out.rlen, HX.out]), by rw [← HNF.out]; exact HEI3.out.tot HX.out HF.out⟩)
         have HPN := Lib.hid (show passN xs s.files K rs (m + 1) = (r', b') by unfold passN; rw [← HR.out, HX.out]; exact HP.out)
         go_wp2
         go_roundw
         case rel =>
          refine ⟨m + 1, r', b', by first | rfl | (congr 1), rfl, Lib.hid (by rw [HPN.out]), Lib.hid ⟨fun j hj => ?_, by rw [HPN.out]⟩, HEI3, HGR3, Lib.hid ?_, hbel8⟩
          ·
           rcases Nat.lt_succ_iff_lt_or_eq.1 hj with h1 | rfl
           ·
            exact HFL.out.1 j h1
           ·
            exact HFL.out.2
          ·
           have h1 := HTB.out; have h2 := HT3.out
           cases b' with
           | false => simp at h1 ⊢; omega
           | true => have h3 := h2.2 rfl; simp at h1 ⊢; omega
         case measure =>
          have h1 := HT1.out; have h2 := HT4.out; have h3 := HT3.out
          rw [h1.1, h2.1]
          cases b' with
          | false => simp [oneIf]; omega
          | true => have h4 := h3.2 rfl; simp [oneIf]; omega
      ·
       obtain ⟨m', rfl⟩ : ∃ m', m = m' + 1 := by
        cases m with
        | zero => have h1 := HFL.out.2; simp [passN] at h1
        | succ m' => exact ⟨m', rfl⟩
       have HEND := Lib.hid (show LvlEnd xs s.files K rs m' from ⟨fun j hj => HFL.out.1 j (by omega), HFL.out.2⟩)
       have hwk : IntKind.i64.wrap ((K : Int) + 1) = ((K + 1 : Nat) : Int) := by simp [IntKind.wrap, IntKind.bits, IntKind.signed]; omega
       go_wp2
       go_roundw
       case rel =>
        refine ⟨K + 1, t + (m' + 1), r, by omega, by first | rfl | go_num, rfl, Lib.hid ?_, Lib.hid HEI2.out.next, HGR2, Lib.hid ?_, hbel7⟩
        ·
         rw [HR.out]; exact EvR.succ HEV.out HEND.out
        ·
         have h1 := HTB.out; have h2 := HTT.out; simp at h1; omega
       case measure => simp [intOf]; omega
    ·
     have HKL := Lib.hid (show K = LV by omega)
     have hle : ¬ ((K : Int) ≤ M) := fun h => hlt2 ((HLM.out K).1 h)
     have HEE := Lib.hid (show evOk xs s = true ∧ evT xs s = (t : Int) ∧ evRs xs s = rs from by
      have h1 := evP_of (xs := xs) (fs := s.files) (rs := rs) (t := t) (by have h0 := HEV.out; rw [HKL.out] at h0; rw [HLE.out]; exact h0)
      refine ⟨HOK.out, ?_, ?_⟩
      ·
       unfold evT; rw [HOK.out, h1]; rfl
      ·
       unfold evRs; rw [HOK.out, h1]; rfl)
     go_wp2_with (go_at_call 90; refine (implMaxStratum _ xs _ (HD2.out.grew hbw2) (by have := HX0.out; omega) HZ.out).mono ?_; rintro e w6 ⟨he, hb6⟩; rw [HM.out] at he; subst he)
     go_ret3
     have h1 := HEE.out
     rw [h1.1, h1.2.1, h1.2.2]
     exact ⟨_, rfl, (GrowR.base (HGR.out.grew hb6) hwA).own, hbw2.trans hb6⟩
end Go.Proofs.YtemikjbfjhebnaaGreat
