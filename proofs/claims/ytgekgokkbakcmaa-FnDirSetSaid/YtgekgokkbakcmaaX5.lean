/- Contracts of RemoveDir and SetDir. -/
import Derived.Test.YtgekgokkbakcmaaX3
import Derived.Test.YtgekgokkbakcmaaR2
import Derived.Test.YtgekgokkbakcmaaN2
import Derived.Test.YtgekgokkbakcmaaY12
import Derived.OwnWalk
namespace Go.Proofs.Ytgekgokkbakcmaa
open Go.RowKit Go.Sort
set_option linter.unusedVariables false
theorem one_p2s : ∀ (ps : List P2) {w : World} {lo hi : Nat} {ds : List Dr}, All2 (Dr.O w lo hi) ds ps → ∀ u ∈ rows P2.c ps, u.oneCell' = true
  | [], w, lo, hi, ds, _, u, hu => by simp [rows] at hu
  | p :: ps, w, lo, hi, ds, h, u, hu => by
    rw [rows_cons] at hu
    cases ds with
    | nil => have := h.1; simp at this
    | cons d ds =>
      rcases List.mem_append.1 hu with h1 | h1
      · have h0 := h.2 0 d p rfl rfl
        obtain ⟨a, c, hs⟩ := own_slice h0.2.1
        unfold P2.c at h1
        simp only [List.mem_cons, List.not_mem_nil, or_false] at h1
        rcases h1 with rfl | rfl
        · rfl
        · rw [hs]; rfl
      · exact one_p2s ps (ds := ds) ⟨by have := h.1; simpa using this, fun i x y hx hy => h.2 (i + 1) x y (by simpa using hx) (by simpa using hy)⟩ u h1
/-- A directory put in, one taken out, one replaced. -/
theorem GrowD.ins {w w' : World} {base lo2 i : Nat} {v v' : Value} {ds : List Dr} {d : Dr} {ps : List P2} {p : P2} (h1 : w.ownsRow base 49 2 v ds.length (rows P2.c ps)) (h2 : All2 (Dr.O w base lo2) ds ps) (h3 : Dis (ps.flatMap Dr.subs))
    (hp : Dr.O w lo2 w.heap.size d p) (hb : base ≤ lo2) (hl : lo2 ≤ w.heap.size) (hi : i ≤ ds.length)
    (hown : w'.ownsRow base 49 2 v' (ds.length + 1) ((rows P2.c ps).take (i * 2) ++ P2.c p ++ (rows P2.c ps).drop (i * 2))) (hg : w.grownBy w' v.ownBlock) : GrowD w' base v' (ds.take i ++ d :: ds.drop i) := by
  have hs := hg.size
  have hpl := h2.1
  have e := rows_take P2.len ps i (by omega)
  refine ⟨ps.take i ++ p :: ps.drop i, ?_, ?_, ?_⟩
  · rw [← e.1, ← e.2] at hown
    rw [rows_append, rows_cons, ← List.append_assoc, show (ds.take i ++ d :: ds.drop i).length = ds.length + 1 by simp; omega]
    exact hown
  · refine All2.ins (h2.mono fun x q hr => ?_) ?_ i
    · exact ⟨hr.1, (own_grown hr.2 h1 (by decide) hg).mono (Nat.le_refl _) (Nat.le_trans hl hs)⟩
    · exact ⟨hp.1, (own_grown hp.2 h1 (by decide) hg).mono hb hs⟩
  · have hd : Dis ((ps ++ [p]).flatMap Dr.subs) := by
      rw [List.flatMap_append]
      refine Dis.app h3 (by simpa [Dr.subs] using Dis.one p.q) ?_
      intro u v b hu hv hub hvb
      have h4 := All2.blk (subs := Dr.subs) (fun x p v b h hv hb => Dr.O.blk h hv hb) h2 hu hub
      have h5 := hp.blk (by simpa using hv) hvb
      omega
    exact hd.perm ((perm_ins ps p i).flatMap_right _)
theorem GrowD.del {w w' : World} {base hi i m : Nat} {v v' : Value} {ds : List Dr} {ps : List P2} (h1 : w.ownsRow base 49 2 v ds.length (rows P2.c ps)) (h2 : All2 (Dr.O w base hi) ds ps) (h3 : Dis (ps.flatMap Dr.subs))
    (hh : hi ≤ w.heap.size) (hi : i < ds.length) (hm : ds.length = m + 1)
    (hown : w'.ownsRow base 49 2 v' m ((rows P2.c ps).take (i * 2) ++ (rows P2.c ps).drop ((i + 1) * 2))) (hg : w.grownBy w' v.ownBlock) : GrowD w' base v' (ds.take i ++ ds.drop (i + 1)) := by
  have hs := hg.size
  have hpl := h2.1
  have e1 := (rows_take P2.len ps i (by omega)).1
  have e2 := (rows_take P2.len ps (i + 1) (by omega)).2
  refine ⟨ps.take i ++ ps.drop (i + 1), ?_, ?_, ?_⟩
  · rw [rows_append, e1, e2, show (ds.take i ++ ds.drop (i + 1)).length = m by simp; omega]
    exact hown
  · have h4 : All2 (Dr.O w' base w'.heap.size) ds ps := h2.mono fun x q hr => ⟨hr.1, (own_grown hr.2 h1 (by decide) hg).mono (Nat.le_refl _) (Nat.le_trans hh hs)⟩
    exact (h4.take i).app (h4.drop (i + 1))
  · have hd := h3.perm ((perm_cut ps i _ (List.getElem?_eq_getElem (by omega))).flatMap_right Dr.subs)
    rw [List.flatMap_cons] at hd
    exact hd.right
/-- What RemoveDir gives. -/
noncomputable def remOk (xs : List Dr) (s : ByteArray) : Bool := dirsB xs && (plcF xs s).isSome
noncomputable def remD (xs : List Dr) (s : ByteArray) : List Dr := if remOk xs s then remN xs s else xs
theorem rem_no {xs : List Dr} {s : ByteArray} (h : remOk xs s = false) : remD xs s = xs := by unfold remD; rw [h]; rfl
theorem rem_yes {xs : List Dr} {s : ByteArray} (h : remOk xs s = true) : remD xs s = remN xs s := by unfold remD; rw [h]; rfl
theorem remD_len (xs : List Dr) (s : ByteArray) : (remD xs s).length ≤ xs.length := by
  unfold remD; split
  · exact remN_len _ _
  · exact Nat.le_refl _
theorem remD_mem {xs : List Dr} {s : ByteArray} {x : Dr} (h : x ∈ remD xs s) : x ∈ xs := by
  unfold remD at h
  split at h
  · exact (List.mem_filter.1 h).1
  · exact h
theorem rem_ok1 {xs : List Dr} {s : ByteArray} (h : dirsB xs = false) : remOk xs s = false := by unfold remOk; rw [h]; rfl
theorem rem_ok2 {xs : List Dr} {s : ByteArray} (h : plcF xs s = none) : remOk xs s = false := by unfold remOk; rw [h]; simp
theorem rem_ok3 {xs : List Dr} {s : ByteArray} {k : Nat} (h : dirsB xs = true) (hp : plcF xs s = some k) : remOk xs s = true := by unfold remOk; rw [h, hp]; rfl
/-- Rows that are a call's own; what they hold lies elsewhere. -/
def PreD (w : World) (base : Nat) (W : World) (v : Value) (ds : List Dr) : Prop := ∃ ps : List P2, w.ownsRow base 49 2 v ds.length (rows P2.c ps) ∧ All2 (Dr.R W) ds ps
theorem PreD.rd {w W : World} {base : Nat} {v : Value} {ds : List Dr} (h : PreD w base W v ds) (hg : Grew W w) : RdDs w v ds := by
  obtain ⟨ps, h1, h2⟩ := h
  exact ⟨ps, rd_of_own h1, h2.mono fun x p h => h.grew hg⟩
theorem PreD.grew {w w' W : World} {base : Nat} {v : Value} {ds : List Dr} (h : PreD w base W v ds) (hg : Grew w w') : PreD w' base W v ds := by
  obtain ⟨ps, h1, h2⟩ := h
  exact ⟨ps, ownsRow_grew h1 hg, h2⟩
theorem PreD.lit (w W : World) : PreD (w.alloc (.cells #[] 49)) w.heap.size W (.slice (some ⟨w.heap.size, 0, none⟩) 0 0) [] :=
  ⟨[], lit_own w _ 2, All2.nil⟩
theorem PreD.base {w W : World} {base base' : Nat} {v : Value} {ds : List Dr} (h : PreD w base W v ds) (hb : base' ≤ base) : PreD w base' W v ds := by
  obtain ⟨ps, h1, h2⟩ := h
  exact ⟨ps, ownsRow_base h1 hb, h2⟩
set_option maxRecDepth 100000 in
set_option maxHeartbeats 2000000 in
theorem implRemoveDir (va : Value) (xs : List Dr) (s : ByteArray) (w : World) (ha : RdDs w va xs) (hx : xs.length ≤ 4000000) (hs : ∀ x, x ∈ xs → x.small) (hz : szAll Dr.sz xs ≤ 4000000) :
    Calls Try.prog 22 #[va, .string s] w fun e w' => ∃ v, e = .returned (.tuple #[v, .bool (remOk xs s)]) ∧ GrowD w' w.heap.size v (remD xs s) ∧ Grew w w' := by
  have HA := Lib.hid ha
  have HS := Lib.hid hs
  obtain ⟨qs, ⟨a, ca, rfl, hca, hra⟩, hall⟩ := ha
  clear hall hra hs
  generalize hn : xs.length = n at *
  have HN := Lib.hid hn
  clear hn
  go_enter Try.func22, Try.ntmps22
  go_wp2_with fail
  refine (implCopyDirs _ xs _ HA.out (by rw [HN.out]; exact hx) HS.out).mono ?_
  rintro e w1 ⟨v, rfl, hG, g1⟩
  have HG := Lib.hid hG
  have hvs : ∃ a c, v = .slice a n c := by obtain ⟨ps, h1, _⟩ := hG; rw [HN.out] at h1; exact own_slice h1
  obtain ⟨va, vc, rfl⟩ := hvs
  clear hG
  go_wp2_with fail
  refine (implDirAt _ xs s _ (HA.out.grew g1) (by rw [HN.out]; exact hx)).mono ?_
  rintro e w2 ⟨i, rfl, hp, g2⟩
  have hpc := plc_cases rfl hp
  clear hp
  obtain ⟨dv, hdv⟩ : ∃ b, dirsB xs = b := ⟨_, rfl⟩
  have HDV := Lib.hid hdv
  clear hdv
  go_wp2_with fail
  refine (implIsValidDirs _ xs _ (HA.out.grew (g1.trans g2)) (by rw [HN.out]; exact hx) hz).mono ?_
  rintro e w3 ⟨he, g3⟩
  rw [HDV.out] at he
  subst he
  have g23 := g2.trans g3
  cases dv
  · go_wp2
    go_ret2
    have h0 := rem_ok1 (s := s) HDV.out
    exact ⟨_, by rw [h0]; rfl, by rw [rem_no h0]; exact HG.out.grew g23, g1.trans g23⟩
  · rcases hpc with ⟨rfl, hp⟩ | ⟨k, rfl, hk, hp⟩
    · go_wp2
      go_ret2
      have h0 := rem_ok2 hp.out
      exact ⟨_, by rw [h0]; rfl, by rw [rem_no h0]; exact HG.out.grew g23, g1.trans g23⟩
    · rw [HN.out] at hk
      obtain ⟨m, rfl⟩ : ∃ m, n = m + 1 := ⟨n - 1, by omega⟩
      obtain ⟨ps, h1, h2, h3⟩ := HG.out.grew g23
      have H1 := Lib.hid h1
      have H2 := Lib.hid h2
      have H3 := Lib.hid h3
      rw [HN.out] at h1
      obtain ⟨g, c, hv⟩ : ∃ g c, (Value.slice va (m + 1) vc) = .slice (some ⟨g, 0, none⟩) (m + 1) c := by
        rcases h1.2 with ⟨h, h0⟩ | ⟨g, c, cur, h, _⟩
        · omega
        · exact ⟨g, c, h⟩
      obtain ⟨rfl, _, rfl⟩ : va = some ⟨g, 0, none⟩ ∧ True ∧ vc = c := by injection hv with e1 e2 e3; exact ⟨e1, trivial, e3⟩
      have HO := Lib.hid h1
      have hgb := (h1.lt g rfl).1
      clear h1 h2 h3 hv
      have hk0 : ¬ ((k : Int) < 0) := by omega
      have hk1 : IntKind.i64.wrap ((k : Int) + 1) = (k : Int) + 1 := by rw [IntKind.wrap_i64]; omega
      go_wp2_with fail
      refine (slDelDir g m _ k _ w.heap.size _ HO.out (by omega) (by omega) (one_p2s ps H2.out)).mono ?_
      rintro e w4 ⟨v', rfl, hown, hgr⟩
      have HW := Lib.hid hown
      have HGR := Lib.hid hgr
      clear hown hgr
      go_wp2
      go_ret2
      have h0 := rem_ok3 HDV.out hp.out
      refine ⟨_, by rw [h0]; rfl, ?_, ((g1.trans g23)).grown HGR.out (fun j h => by cases h; exact hgb)⟩
      rw [rem_yes h0, rem_erase (rise_of HDV.out) hp.out]
      exact GrowD.del H1.out H2.out H3.out (Nat.le_refl _) (by rw [HN.out]; omega) HN.out HW.out HGR.out
set_option maxRecDepth 100000 in
set_option maxHeartbeats 2000000 in
theorem specRemoveDir (va : Value) (xs : List Dr) (s : ByteArray) (w : World) (ha : RdDs w va xs) (hx : xs.length ≤ 4000000) (hs : ∀ x, x ∈ xs → x.small) (hz : szAll Dr.sz xs ≤ 4000000) :
    Calls Try.prog 20 #[va, .string s] w fun e w' => ∃ v, e = .returned (.tuple #[v, .bool (remOk xs s)]) ∧ GrowD w' w.heap.size v (remD xs s) ∧ Grew w w' := by
  have HA := Lib.hid ha
  have HS := Lib.hid hs
  obtain ⟨qs, ⟨a, ca, rfl, hca, hra⟩, hall⟩ := ha
  have HALL := Lib.hid hall
  clear hall hs
  generalize hn : xs.length = n at *
  have HN := Lib.hid hn
  clear hn
  have hx' : xs.length ≤ 4000000 := by rw [HN.out]; exact hx
  obtain ⟨i0, hi, hz0, hz1, hz2⟩ := info_parts Try.infoDr
  obtain ⟨dv, hdv⟩ : ∃ b, dirsB xs = b := ⟨_, rfl⟩
  have HDV := Lib.hid hdv
  clear hdv
  go_enter Try.func20, Try.ntmps20
  go_wp2_with fail
  refine (specIsValidDirs _ xs _ HA.out hx' hz).mono ?_
  rintro e w1 ⟨he, g1⟩
  rw [HDV.out] at he
  subst he
  cases dv
  · go_wp2_with fail
    refine (specL11Copy _ xs _ (HA.out.grew g1) hx' HS.out).mono ?_
    rintro e w2 ⟨v, rfl, hG, g2⟩
    have HG := Lib.hid hG
    clear hG
    go_wp2
    go_ret2
    have h0 := rem_ok1 (s := s) HDV.out
    obtain ⟨ps, h1, h2, h3⟩ := HG.out
    exact ⟨_, by rw [h0]; rfl, by rw [rem_no h0]; exact ⟨ps, ownsRow_base h1 g1.size, h2.mono fun x p h => h.mono g1.size (Nat.le_refl _), h3⟩, g1.trans g2⟩
  go_wp2_with fail
  refine (l11Place _ xs s _ (HA.out.grew g1) hx').mono ?_
  rintro e w2 ⟨i, rfl, hp, hww⟩
  have g2 : Grew w1 w2 := by rw [← hww]; exact Grew.refl _
  clear hww
  have hpc := plc_cases rfl hp
  clear hp
  have g12 := g1.trans g2
  rcases hpc with ⟨rfl, hp⟩ | ⟨k0, rfl, hk0, hp⟩
  · go_wp2_with fail
    refine (specL11Copy _ xs _ (HA.out.grew g12) hx' HS.out).mono ?_
    rintro e w3 ⟨v, rfl, hG, g3⟩
    have HG := Lib.hid hG
    clear hG
    go_wp2
    go_ret2
    have h0 := rem_ok2 hp.out
    obtain ⟨ps, h1, h2, h3⟩ := HG.out
    exact ⟨_, by rw [h0]; rfl, by rw [rem_no h0]; exact ⟨ps, ownsRow_base h1 g12.size, h2.mono fun x p h => h.mono g12.size (Nat.le_refl _), h3⟩, g12.trans g3⟩
  have hk1 : ¬ ((k0 : Int) < 0) := by omega
  have hs2 := g12.size
  go_wp2
  go_loopw [6, 7] (fun v i wr => ∃ k : Nat, k ≤ n ∧ i = .int .i64 k ∧ Hid (PreD wr w2.heap.size w v (remN (xs.take k) s)) ∧ Grew w2 wr) (fun _ i _ => n - (intOf i).toNat)
  case atStart => exact ⟨0, Nat.zero_le _, rfl, Lib.hid (PreD.lit w2 w), (Grew.refl _).alloc _⟩
  case round =>
    obtain ⟨k, hk, rfl, hpre, hbel⟩ := hrel
    have hbw := g12.trans hbel
    by_cases hlt : k < n
    · obtain ⟨b1, o1, p, rfl, hpk, c0, c1⟩ := (hra.grew hbw).getP2 hlt
      obtain ⟨x, hxk, hxr⟩ := HALL.out.get hpk.out
      have HXR := Lib.hid hxr
      obtain ⟨pn, pq⟩ := p
      obtain ⟨hxn, hxq⟩ := hxr
      simp only at hxn hxq c0 c1
      subst hxn
      obtain ⟨pa, pc, rfl, hpc, hpr⟩ := hxq
      clear hpr
      obtain ⟨ps, g1r, g2r⟩ := hpre.out
      have hle : (remN (xs.take k) s).length ≤ k := Nat.le_trans (remN_len _ _) (by rw [List.length_take]; omega)
      have G1 := Lib.hid g1r
      have G2 := Lib.hid g2r
      clear g1r g2r
      have hkn : (k : Int) < (n : Int) := by omega
      have hk0' : (0 : Int) ≤ (k : Int) := by omega
      obtain ⟨v, hv⟩ : ∃ v, (x.name.toList == s.toList) = v := ⟨_, rfl⟩
      have HV := Lib.hid hv
      have hnv : (x.name.toList == s.toList) = v := hv
      clear hv
      cases v
      · go_wp2_with (at_builtin; refine wpList_append_own _ rfl _ _ 35 rfl w2.heap.size 49 i0 _ 2 40 Try.underlying35 hi hz0 hz1 hz2 rfl (by decide) _ _ _ rfl (ownsRow_grew G1.out ((Grew.refl _).alloc (.cells #[.string x.name, .slice pa x.query.length pc] 49))) ⟨_, 0, none⟩ 1 1 [.string x.name, .slice pa x.query.length pc] rfl rfl (news2 (by simp)) (fun x hx => by simp at hx; rcases hx with rfl | rfl <;> rfl) (by unfold maxLen; omega) (by omega) (by have := hbel.size; simp; omega) ?_; intro v' w' hown' hgr2 _)
        go_roundw
        case rel =>
          refine ⟨k + 1, by omega, by go_num, Lib.hid ⟨ps ++ [⟨x.name, .slice pa x.query.length pc⟩], ?_, ?_⟩, (hbel.alloc _).grown hgr2 (fun g h => (G1.out.lt g h).1)⟩
          · rw [remN_no hxk.out HV.out, rows_append, List.length_append]; simpa [rows, P2.c] using hown'
          · rw [remN_no hxk.out HV.out]; exact G2.out.snoc HXR.out
        case measure => simp [intOf]; omega
      · go_wp2
        go_roundw
        case rel => exact ⟨k + 1, by omega, by go_num, Lib.hid (by rw [remN_yes hxk.out HV.out]; exact hpre.out), hbel⟩
        case measure => simp [intOf]; omega
    · obtain rfl : k = n := by omega
      have h9 := hpre.out
      rw [take_all HN.out] at h9
      have HP := Lib.hid h9
      clear h9
      have hvs : ∃ a c, u6 = .slice a (remN xs s).length c := by obtain ⟨ps, h1, _⟩ := HP.out; exact own_slice h1
      obtain ⟨ua, uc, rfl⟩ := hvs
      have hlr := remN_len xs s
      go_wp2_with fail
      refine (specL11Copy _ (remN xs s) _ (HP.out.rd hbw) (by omega) (fun x hx => HS.out x (List.mem_filter.1 hx).1)).mono ?_
      rintro e w5 ⟨v, rfl, hG, g5⟩
      have HG := Lib.hid hG
      clear hG
      go_wp2
      go_ret2
      have h0 := rem_ok3 HDV.out hp.out
      obtain ⟨ps, h1, h2, h3⟩ := HG.out
      have h4 := hbw.size
      exact ⟨_, by rw [h0]; rfl, by rw [rem_yes h0]; exact ⟨ps, ownsRow_base h1 h4, h2.mono fun x p h => h.mono h4 (Nat.le_refl _), h3⟩, hbw.trans g5⟩
end Go.Proofs.Ytgekgokkbakcmaa
