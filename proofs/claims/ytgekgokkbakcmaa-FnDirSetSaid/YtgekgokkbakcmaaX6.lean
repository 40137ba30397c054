/- Contracts of SetDir. -/
import Derived.Test.YtgekgokkbakcmaaX5
namespace Go.Proofs.Ytgekgokkbakcmaa
open Go.RowKit Go.Sort
set_option linter.unusedVariables false
theorem perm_set {α : Type} (xs : List α) (k : Nat) (x y : α) (h : xs[k]? = some y) : (xs.set k x).Perm (x :: (xs.take k ++ xs.drop (k + 1))) := by
  have hk := (List.getElem?_eq_some_iff.1 h).1
  have h1 := perm_cut (xs.set k x) k x (List.getElem?_set_self hk)
  rwa [List.take_set_of_le (Nat.le_refl k), List.drop_set_of_lt (by omega)] at h1
theorem GrowD.put {w w' : World} {base lo2 k : Nat} {v : Value} {ds : List Dr} {d : Dr} {ps : List P2} {p : P2} (h1 : w.ownsRow base 49 2 v ds.length (rows P2.c ps)) (h2 : All2 (Dr.O w base lo2) ds ps) (h3 : Dis (ps.flatMap Dr.subs))
    (hp : Dr.O w lo2 w.heap.size d p) (hb : base ≤ lo2) (hl : lo2 ≤ w.heap.size) (hk : k < ds.length)
    (hown : w'.ownsRow base 49 2 v ds.length (rows P2.c (ps.set k p))) (hg : w.grownBy w' v.ownBlock) : GrowD w' base v (ds.set k d) := by
  have hs := hg.size
  have hpl := h2.1
  refine ⟨ps.set k p, by rw [List.length_set]; exact hown, ?_, ?_⟩
  · refine All2.set (h2.mono fun x q hr => ?_) k d p ?_
    · exact ⟨hr.1, (own_grown hr.2 h1 (by decide) hg).mono (Nat.le_refl _) (Nat.le_trans hl hs)⟩
    · exact ⟨hp.1, (own_grown hp.2 h1 (by decide) hg).mono hb hs⟩
  · have hy : ps[k]? = some ps[k] := List.getElem?_eq_getElem (by omega)
    have hd := h3.perm ((perm_cut ps k _ hy).flatMap_right Dr.subs)
    rw [List.flatMap_cons] at hd
    have hd2 := hd.right
    refine Dis.perm ?_ ((perm_set ps k p _ hy).flatMap_right Dr.subs).symm
    rw [List.flatMap_cons]
    refine Dis.app (by simpa [Dr.subs] using Dis.one p.q) hd2 ?_
    intro u v b hu hv hub hvb
    have h4 : All2 (Dr.O w base lo2) (ds.take k ++ ds.drop (k + 1)) (ps.take k ++ ps.drop (k + 1)) := (h2.take k).app (h2.drop (k + 1))
    have h5 := All2.blk (subs := Dr.subs) (fun x p v b h hv hb => Dr.O.blk h hv hb) h4 hv hvb
    have h6 := hp.blk (by simpa using hu) hub
    omega
theorem GrowD.base {w : World} {a b : Nat} {v : Value} {ds : List Dr} (h : GrowD w a v ds) (hb : b ≤ a) : GrowD w b v ds := by
  obtain ⟨ps, h1, h2, h3⟩ := h
  exact ⟨ps, ownsRow_base h1 hb, h2.mono fun x p h => h.mono hb (Nat.le_refl _), h3⟩
theorem grown_cell2 (w : World) (g i j : Nat) (u v : Value) : w.grownBy ((w.setCell ⟨g, i, none⟩ u).setCell ⟨g, j, none⟩ v) (some g) :=
  ⟨rfl, rfl, rfl, by simp [World.setCell], fun k _ hk => by
    have hne : k ≠ g := fun e => hk (by rw [e])
    rw [Below.heap_setCell _ _ _ _ hne, Below.heap_setCell _ _ _ _ hne]⟩
/-- What SetDir gives. -/
noncomputable def setOk (xs : List Dr) (d : Dr) : Bool := dirsB xs && dirsB (setN d xs)
noncomputable def setD (xs : List Dr) (d : Dr) : List Dr := if setOk xs d then setN d xs else xs
theorem set_no {xs : List Dr} {d : Dr} (h : setOk xs d = false) : setD xs d = xs := by unfold setD; rw [h]; rfl
theorem set_yes {xs : List Dr} {d : Dr} (h : setOk xs d = true) : setD xs d = setN d xs := by unfold setD; rw [h]; rfl
theorem set_ok1 {xs : List Dr} {d : Dr} (h : dirsB xs = false) : setOk xs d = false := by unfold setOk; rw [h]; rfl
theorem set_ok2 {xs : List Dr} {d : Dr} {b : Bool} (h : dirsB xs = true) (h2 : dirsB (setN d xs) = b) : setOk xs d = b := by unfold setOk; rw [h, h2]; simp
theorem setN_sz (d : Dr) : ∀ (xs : List Dr), szAll Dr.sz (setN d xs) ≤ szAll Dr.sz xs + d.sz
  | [] => by simp [setN, szAll]
  | y :: ys => by
    have ih := setN_sz d ys
    unfold setN
    split
    · simp [szAll] at ih ⊢; omega
    · split
      · simp [szAll] at ih ⊢; omega
      · simp [szAll] at ih ⊢; omega
theorem setD_len (xs : List Dr) (d : Dr) : (setD xs d).length ≤ xs.length + 1 := by
  unfold setD; split
  · exact setN_len _ _
  · omega
theorem setD_sz (xs : List Dr) (d : Dr) : szAll Dr.sz (setD xs d) ≤ szAll Dr.sz xs + d.sz := by
  unfold setD; split
  · exact setN_sz _ _
  · omega
theorem setD_mem {xs : List Dr} {d x : Dr} (h : x ∈ setD xs d) : x = d ∨ x ∈ xs := by
  unfold setD at h
  split at h
  · exact setN_mem _ h
  · exact .inr h
/-- Where a higher name stands. -/
def gtp (xs : List Dr) (s : ByteArray) (n : Nat) (i : Int) : Prop := (i = -1 ∧ ∀ (j : Nat) y, j < n → xs[j]? = some y → Op.bytesLess s.toList y.name.toList = false) ∨ (∃ k : Nat, i = k ∧ k < n ∧ (∀ (j : Nat) y, j < k → xs[j]? = some y → Op.bytesLess s.toList y.name.toList = false) ∧ ∃ y, xs[k]? = some y ∧ Op.bytesLess s.toList y.name.toList = true)
theorem gtp_cases {xs : List Dr} {s : ByteArray} {n : Nat} {i : Int} (hn : xs.length = n) (h : gtp xs s n i) : (i = -1 ∧ Hid (gtF s xs = n)) ∨ ∃ k : Nat, i = k ∧ k < n ∧ Hid (gtF s xs = k) := by
  rcases h with ⟨h1, h2⟩ | ⟨k, h1, h2, h3, y, h4, h5⟩
  · exact .inl ⟨h1, Lib.hid ((gtF_no (by rw [hn]; exact h2)).trans hn)⟩
  · exact .inr ⟨k, h1, h2, Lib.hid (gtF_yes h3 h4 h5)⟩
theorem les_snoc {xs : List Dr} {s : ByteArray} {k : Nat} {x : Dr} (h : ∀ (j : Nat) y, j < k → xs[j]? = some y → Op.bytesLess s.toList y.name.toList = false) (hx : xs[k]? = some x) (hn : Op.bytesLess s.toList x.name.toList = false) : ∀ (j : Nat) y, j < k + 1 → xs[j]? = some y → Op.bytesLess s.toList y.name.toList = false := fun j y hj hy => by
  rcases Nat.lt_succ_iff_lt_or_eq.1 hj with h1 | rfl
  · exact h j y h1 hy
  · obtain rfl := Option.some.inj (hx.symm.trans hy); exact hn
theorem gt_eq (s n : ByteArray) : (!Op.bytesLess n.toList s.toList && !(n.toList == s.toList)) = Op.bytesLess s.toList n.toList := by
  rcases Ordered.tri (dl n) (dl s) with h | h | h
  · rw [(less_iff n s true).2 (decide_eq_true h), (less_iff s n false).2 (decide_eq_false (fun k => Ordered.irrefl _ (Ordered.trans _ _ _ h k)))]; rfl
  · rw [eq_dl.2 h, (less_iff s n false).2 (decide_eq_false (fun k => by rw [h] at k; exact Ordered.irrefl _ k))]; simp
  · rw [(less_iff n s false).2 (decide_eq_false (fun k => Ordered.irrefl _ (Ordered.trans _ _ _ h k))), (less_iff s n true).2 (decide_eq_true h), ne_dl.2 (fun e : dl n = dl s => by rw [e] at h; exact Ordered.irrefl _ h)]; rfl
set_option maxRecDepth 100000 in
set_option maxHeartbeats 1000000 in
theorem cloSetDir (n : ByteArray) (q : Value) (g : Nat) (s : ByteArray) (w : World) (hc : w.cell? ⟨g, 0, none⟩ = some (.string s)) :
    Calls Try.prog 78 #[.agg #[.string n, q], .pointer (some ⟨g, 0, none⟩)] w fun e w' => e = .returned (.bool (Op.bytesLess s.toList n.toList)) ∧ Grew w w' := by
  have e1 := grew_cell ((Grew.refl w).alloc (.cells #[.string n, q] 49)) hc
  go_enter Try.func78, Try.ntmps78
  go_wp2
  go_ret
  exact ⟨ret_bool (gt_eq s n), (Grew.refl _).alloc _⟩
set_option maxRecDepth 100000 in
set_option maxHeartbeats 1000000 in
theorem slIndexDir2 (va : Value) (xs : List Dr) (g : Nat) (s : ByteArray) (w : World) (ha : RdDs w va xs) (hx : xs.length ≤ 4000000) (hc : w.cell? ⟨g, 0, none⟩ = some (.string s)) :
    Calls Try.prog 77 #[va, .func (.func 78) #[] #[.pointer (some ⟨g, 0, none⟩)]] w fun e w' => ∃ i : Int, e = .returned (.int .i64 i) ∧ gtp xs s xs.length i ∧ Grew w w' := by
  obtain ⟨qs, ⟨a, ca, rfl, hca, hra⟩, hall⟩ := ha
  have HA := Lib.hid hall
  have HC := Lib.hid hc
  clear hall hc
  generalize hn : xs.length = n at hx hra
  have HX := Lib.hid hn
  clear hn
  go_enter Try.func77, Try.ntmps77
  go_wp2
  go_loopw [5, 8] (fun _ i wr => ∃ k : Nat, k ≤ n ∧ i = .int .i64 k ∧ Hid (∀ (j : Nat) y, j < k → xs[j]? = some y → Op.bytesLess s.toList y.name.toList = false) ∧ Grew w wr) (fun _ i _ => n - (intOf i).toNat)
  case atStart => exact ⟨0, Nat.zero_le _, rfl, Lib.hid (fun j y h => absurd h (Nat.not_lt_zero j)), Grew.refl _⟩
  case round =>
    obtain ⟨k, hk, rfl, hall, hbel⟩ := hrel
    by_cases hlt : k < n
    · obtain ⟨b1, o1, p, rfl, hpk, c0, c1⟩ := (hra.grew hbel).getP2 hlt
      obtain ⟨x, hxk, hxr⟩ := HA.out.get hpk.out
      obtain ⟨pn, pq⟩ := p
      obtain ⟨hxn, hxq⟩ := hxr
      simp only at hxn c0 c1
      subst hxn
      clear hxq
      obtain ⟨v, hv⟩ : ∃ v, Op.bytesLess s.toList x.name.toList = v := ⟨_, rfl⟩
      have HV := Lib.hid hv
      clear hv
      have hcs : v = true ∨ v = false := by cases v <;> simp
      rcases hcs with rfl | rfl
      · go_wp2_with (go_at_call 78; refine (cloSetDir x.name pq g s _ (grew_cell hbel HC.out)).mono ?_; rintro e w1 ⟨he, hb⟩; rw [HV.out] at he; subst he)
        go_ret
        exact ⟨_, rfl, .inr ⟨k, rfl, hlt, hall.out, x, hxk.out, HV.out⟩, hbel.trans hb⟩
      · go_wp2_with (go_at_call 78; refine (cloSetDir x.name pq g s _ (grew_cell hbel HC.out)).mono ?_; rintro e w1 ⟨he, hb⟩; rw [HV.out] at he; subst he)
        go_roundw
        case rel => exact ⟨k + 1, by omega, by go_num, Lib.hid (les_snoc hall.out hxk.out HV.out), hbel.trans hb⟩
        case measure => simp [intOf]; omega
    · obtain rfl : k = n := by omega
      go_wp2
      go_ret
      exact ⟨_, rfl, .inl ⟨rfl, hall.out⟩, hbel⟩
set_option maxRecDepth 100000 in
set_option maxHeartbeats 4000000 in
theorem implSetDir (va : Value) (xs : List Dr) (d : Dr) (p : P2) (w : World) (ha : RdDs w va xs) (hd : Dr.R w d p) (hx : xs.length ≤ 2000000) (hs : ∀ x, x ∈ xs → x.small) (hds : d.small) (hz : szAll Dr.sz xs ≤ 2000000) (hdz : d.sz ≤ 2000000) :
    Calls Try.prog 29 #[va, p.v] w fun e w' => ∃ v, e = .returned (.tuple #[v, .bool (setOk xs d)]) ∧ GrowD w' w.heap.size v (setD xs d) ∧ Grew w w' := by
  have HA := Lib.hid ha
  have HS := Lib.hid hs
  have HD := Lib.hid hd
  have HDS := Lib.hid hds
  obtain ⟨qs, ⟨a, ca, rfl, hca, hra⟩, hall⟩ := ha
  clear hall hra hs hds
  obtain ⟨pn, pq⟩ := p
  obtain ⟨hdn, hdq⟩ := hd
  simp only at hdn hdq
  subst hdn
  obtain ⟨pa, pc, rfl, hpc, hpr⟩ := hdq
  clear hpr
  have hx' : xs.length ≤ 4000000 := by omega
  have hz' : szAll Dr.sz xs ≤ 4000000 := by omega
  generalize hn : xs.length = n at *
  have HN := Lib.hid hn
  clear hn
  have g0 := (Grew.refl w).alloc (.cells #[.string d.name, .slice pa d.query.length pc] 49)
  have b0 : (w.alloc (.cells #[.string d.name, .slice pa d.query.length pc] 49)).cell? ⟨w.heap.size, 0, none⟩ = some (.string d.name) := by simp
  have b1 : (w.alloc (.cells #[.string d.name, .slice pa d.query.length pc] 49)).cell? ⟨w.heap.size, 1, none⟩ = some (.slice pa d.query.length pc) := by simp
  have hmf : ∀ (fn : Fn) (first cap : Array Value) (w : World), (Instr.makeFunc fn first cap).run Try.prog w = .ok (.func fn first cap) w := fun _ _ _ _ => rfl
  obtain ⟨dv, hdv⟩ : ∃ b, dirsB xs = b := ⟨_, rfl⟩
  have HDV := Lib.hid hdv
  clear hdv
  go_enter Try.func29, Try.ntmps29
  go_wp2_with fail
  generalize w.alloc (.cells #[.string d.name, .slice pa d.query.length pc] 49) = w0 at g0 b0 b1 ⊢
  refine (implCopyDirs _ xs _ (HA.out.grew g0) (by rw [HN.out]; exact hx') HS.out).mono ?_
  rintro e w1 ⟨v, rfl, hG, g1⟩
  have HG := Lib.hid hG
  have hvs : ∃ a c, v = .slice a n c := by obtain ⟨ps, h1, _⟩ := hG; rw [HN.out] at h1; exact own_slice h1
  obtain ⟨va, vc, rfl⟩ := hvs
  clear hG
  have g01 := g0.trans g1
  replace b0 := grew_cell g1 b0
  replace b1 := grew_cell g1 b1
  go_wp2_with fail
  refine (implDirAt _ xs d.name _ (HA.out.grew g01) (by rw [HN.out]; exact hx')).mono ?_
  rintro e w2 ⟨i, rfl, hp, g2⟩
  have hpc2 := plc_cases rfl hp
  clear hp
  replace b0 := grew_cell g2 b0
  replace b1 := grew_cell g2 b1
  have g02 := g01.trans g2
  have hs0 := g0.size
  have hs1 := g01.size
  have hs2 := g02.size
  have hb0 : w.heap.size ≤ w0.heap.size := hs0
  rcases hpc2 with ⟨rfl, hp⟩ | ⟨k, rfl, hk, hp⟩
  ·
    go_wp2_with fail
    refine (slIndexDir2 _ xs w.heap.size d.name _ (HA.out.grew g02) (by rw [HN.out]; exact hx') b0).mono ?_
    rintro e w3 ⟨j, rfl, hgt, g3⟩
    replace b0 := grew_cell g3 b0
    replace b1 := grew_cell g3 b1
    have hgc := gtp_cases HN.out (by have h := hgt; rw [HN.out] at h; exact h)
    clear hgt
    have hs3 := (g02.trans g3).size
    rcases hgc with ⟨rfl, hJ⟩ | ⟨J, rfl, hJn, hJ⟩
    ·
      have hneg : ¬ ((n : Int) < 0) := by omega
      have hJL : (n : Nat) ≤ n := by omega
      go_wp2_with fail
      refine (implCopyDir d ⟨d.name, .slice pa d.query.length pc⟩ _ (HD.out.grew (g02.trans g3)) HDS.out).mono ?_
      rintro e w4 ⟨⟨un, uq⟩, rfl, ho, g4⟩
      have HO := Lib.hid ho
      obtain ⟨hun, huq⟩ := ho
      simp only at hun
      subst hun
      obtain ⟨ua, uc, rfl⟩ := own_slice huq.1
      clear huq
      have g14 := (g2.trans g3).trans g4
      have gal := (Grew.refl w4).alloc (.cells #[.string d.name, .slice ua d.query.length uc] 49)
      obtain ⟨ps, h1, h2, h3⟩ := HG.out
      have H1 := Lib.hid (ownsRow_grew (ownsRow_grew h1 g14) gal)
      have H2 := Lib.hid (h2.mono fun x q h => ((h.grew (g14.trans gal)).mono (Nat.le_refl _) (g2.trans g3).size : Dr.O _ w0.heap.size w3.heap.size x q))
      have H3 := Lib.hid h3
      have hob : (Value.slice va n vc).ownBlock ≠ some w4.heap.size := fun e => by have := (h1.lt _ e).2; have := g14.size; omega
      have HN1 := Lib.hid (show (w4.alloc (.cells #[.string d.name, .slice ua d.query.length uc] 49)).ownsRow w0.heap.size 49 2 (.slice va n vc) n (rows P2.c ps) by have h := H1.out; rw [HN.out] at h; exact h)
      clear h1 h2 h3
      have hs4 := (g02.trans (g3.trans g4)).size
      have hs04 := (g1.trans g14).size
      go_wp2_with fail
      refine (slInsDir _ n n w4.heap.size _ [.string d.name, .slice ua d.query.length uc] w0.heap.size _ HN1.out hJL (by omega) (heap_alloc_new w4 _) rfl hob (one_p2s ps H2.out) (fun u hu => by simp at hu; rcases hu with rfl | rfl <;> rfl) (by simp; omega)).mono ?_
      rintro e w5 ⟨v', rfl, hown, hgr⟩
      have hgo : GrowD w5 w0.heap.size v' (xs.take n ++ d :: xs.drop n) := by
        refine GrowD.ins H1.out H2.out H3.out (p := ⟨d.name, .slice ua d.query.length uc⟩) ((HO.out.grew gal).mono (Nat.le_refl _) gal.size) (g1.trans (g2.trans g3)).size (Nat.le_trans g4.size gal.size) (by rw [HN.out]; exact hJL) ?_ hgr
        rw [HN.out]
        exact hown
      have HGR := Lib.hid hgr
      have hL5 : (xs.take n ++ d :: xs.drop n).length = n + 1 := by simp [HN.out] <;> omega
      obtain ⟨na, nc, rfl⟩ : ∃ a c, v' = .slice a (n + 1) c := by obtain ⟨ps, h1, _⟩ := hgo; rw [hL5] at h1; exact own_slice h1
      clear hown hgr hL5
      have HGO := Lib.hid hgo
      clear hgo
      have gA : Grew w w5 := (((g0.trans g1).trans g14).trans gal).grown HGR.out (fun j h => Nat.le_trans hs0 (HN1.out.lt j h).1)
      have gsz := gA.size
      go_wp2_with fail
      refine (implIsValidDirs _ xs _ (HA.out.grew gA) (by rw [HN.out]; exact hx') hz').mono ?_
      rintro e w6 ⟨he, g6⟩
      rw [HDV.out] at he
      subst he
      cases dv
      · go_wp2_with fail
        refine (implCopyDirs _ xs _ (HA.out.grew (gA.trans g6)) (by rw [HN.out]; exact hx') HS.out).mono ?_
        rintro e w7 ⟨v7, rfl, hG7, g7⟩
        have HG7 := Lib.hid hG7
        clear hG7
        go_wp2
        go_ret2
        have h0 := set_ok1 (d := d) HDV.out
        exact ⟨_, by rw [h0]; rfl, by rw [set_no h0]; exact HG7.out.base (gA.trans g6).size, (gA.trans g6).trans g7⟩
      have heq : (xs.take n ++ d :: xs.drop n) = setN d xs := by rw [← ins_at d hp.out, hJ.out]
      rw [heq] at HGO
      clear heq
      obtain ⟨ov, hov⟩ : ∃ b, dirsB (setN d xs) = b := ⟨_, rfl⟩
      have HOV := Lib.hid hov
      clear hov
      have hsl := setN_len d xs
      have hsz := setN_sz d xs
      rw [HN.out] at hsl
      have HRO := Lib.hid (HGO.out.own.rd)
      go_wp2_with fail
      refine (implIsValidDirs _ (setN d xs) _ (HRO.out.grew g6) (by omega) (by omega)).mono ?_
      rintro e w7 ⟨he, g7⟩
      rw [HOV.out] at he
      subst he
      have h0 := set_ok2 HDV.out HOV.out
      have H0 := Lib.hid h0
      clear h0
      cases ov
      · go_wp2_with fail
        refine (implCopyDirs _ xs _ (HA.out.grew ((gA.trans g6).trans g7)) (by rw [HN.out]; exact hx') HS.out).mono ?_
        rintro e w8 ⟨v8, rfl, hG8, g8⟩
        have HG8 := Lib.hid hG8
        clear hG8
        go_wp2
        go_ret2
        exact ⟨_, by rw [H0.out]; rfl, by rw [set_no H0.out]; exact HG8.out.base ((gA.trans g6).trans g7).size, ((gA.trans g6).trans g7).trans g8⟩
      · go_wp2
        go_ret2
        exact ⟨_, by rw [H0.out]; rfl, by rw [set_yes H0.out]; exact (HGO.out.grew (g6.trans g7)).base hs0, (gA.trans g6).trans g7⟩
    ·
      have hneg : ¬ ((J : Int) < 0) := by omega
      have hJL : (J : Nat) ≤ n := by omega
      go_wp2_with fail
      refine (implCopyDir d ⟨d.name, .slice pa d.query.length pc⟩ _ (HD.out.grew (g02.trans g3)) HDS.out).mono ?_
      rintro e w4 ⟨⟨un, uq⟩, rfl, ho, g4⟩
      have HO := Lib.hid ho
      obtain ⟨hun, huq⟩ := ho
      simp only at hun
      subst hun
      obtain ⟨ua, uc, rfl⟩ := own_slice huq.1
      clear huq
      have g14 := (g2.trans g3).trans g4
      have gal := (Grew.refl w4).alloc (.cells #[.string d.name, .slice ua d.query.length uc] 49)
      obtain ⟨ps, h1, h2, h3⟩ := HG.out
      have H1 := Lib.hid (ownsRow_grew (ownsRow_grew h1 g14) gal)
      have H2 := Lib.hid (h2.mono fun x q h => ((h.grew (g14.trans gal)).mono (Nat.le_refl _) (g2.trans g3).size : Dr.O _ w0.heap.size w3.heap.size x q))
      have H3 := Lib.hid h3
      have hob : (Value.slice va n vc).ownBlock ≠ some w4.heap.size := fun e => by have := (h1.lt _ e).2; have := g14.size; omega
      have HN1 := Lib.hid (show (w4.alloc (.cells #[.string d.name, .slice ua d.query.length uc] 49)).ownsRow w0.heap.size 49 2 (.slice va n vc) n (rows P2.c ps) by have h := H1.out; rw [HN.out] at h; exact h)
      clear h1 h2 h3
      have hs4 := (g02.trans (g3.trans g4)).size
      have hs04 := (g1.trans g14).size
      go_wp2_with fail
      refine (slInsDir _ n J w4.heap.size _ [.string d.name, .slice ua d.query.length uc] w0.heap.size _ HN1.out hJL (by omega) (heap_alloc_new w4 _) rfl hob (one_p2s ps H2.out) (fun u hu => by simp at hu; rcases hu with rfl | rfl <;> rfl) (by simp; omega)).mono ?_
      rintro e w5 ⟨v', rfl, hown, hgr⟩
      have hgo : GrowD w5 w0.heap.size v' (xs.take J ++ d :: xs.drop J) := by
        refine GrowD.ins H1.out H2.out H3.out (p := ⟨d.name, .slice ua d.query.length uc⟩) ((HO.out.grew gal).mono (Nat.le_refl _) gal.size) (g1.trans (g2.trans g3)).size (Nat.le_trans g4.size gal.size) (by rw [HN.out]; exact hJL) ?_ hgr
        rw [HN.out]
        exact hown
      have HGR := Lib.hid hgr
      have hL5 : (xs.take J ++ d :: xs.drop J).length = n + 1 := by simp [HN.out] <;> omega
      obtain ⟨na, nc, rfl⟩ : ∃ a c, v' = .slice a (n + 1) c := by obtain ⟨ps, h1, _⟩ := hgo; rw [hL5] at h1; exact own_slice h1
      clear hown hgr hL5
      have HGO := Lib.hid hgo
      clear hgo
      have gA : Grew w w5 := (((g0.trans g1).trans g14).trans gal).grown HGR.out (fun j h => Nat.le_trans hs0 (HN1.out.lt j h).1)
      have gsz := gA.size
      go_wp2_with fail
      refine (implIsValidDirs _ xs _ (HA.out.grew gA) (by rw [HN.out]; exact hx') hz').mono ?_
      rintro e w6 ⟨he, g6⟩
      rw [HDV.out] at he
      subst he
      cases dv
      · go_wp2_with fail
        refine (implCopyDirs _ xs _ (HA.out.grew (gA.trans g6)) (by rw [HN.out]; exact hx') HS.out).mono ?_
        rintro e w7 ⟨v7, rfl, hG7, g7⟩
        have HG7 := Lib.hid hG7
        clear hG7
        go_wp2
        go_ret2
        have h0 := set_ok1 (d := d) HDV.out
        exact ⟨_, by rw [h0]; rfl, by rw [set_no h0]; exact HG7.out.base (gA.trans g6).size, (gA.trans g6).trans g7⟩
      have heq : (xs.take J ++ d :: xs.drop J) = setN d xs := by rw [← ins_at d hp.out, hJ.out]
      rw [heq] at HGO
      clear heq
      obtain ⟨ov, hov⟩ : ∃ b, dirsB (setN d xs) = b := ⟨_, rfl⟩
      have HOV := Lib.hid hov
      clear hov
      have hsl := setN_len d xs
      have hsz := setN_sz d xs
      rw [HN.out] at hsl
      have HRO := Lib.hid (HGO.out.own.rd)
      go_wp2_with fail
      refine (implIsValidDirs _ (setN d xs) _ (HRO.out.grew g6) (by omega) (by omega)).mono ?_
      rintro e w7 ⟨he, g7⟩
      rw [HOV.out] at he
      subst he
      have h0 := set_ok2 HDV.out HOV.out
      have H0 := Lib.hid h0
      clear h0
      cases ov
      · go_wp2_with fail
        refine (implCopyDirs _ xs _ (HA.out.grew ((gA.trans g6).trans g7)) (by rw [HN.out]; exact hx') HS.out).mono ?_
        rintro e w8 ⟨v8, rfl, hG8, g8⟩
        have HG8 := Lib.hid hG8
        clear hG8
        go_wp2
        go_ret2
        exact ⟨_, by rw [H0.out]; rfl, by rw [set_no H0.out]; exact HG8.out.base ((gA.trans g6).trans g7).size, ((gA.trans g6).trans g7).trans g8⟩
      · go_wp2
        go_ret2
        exact ⟨_, by rw [H0.out]; rfl, by rw [set_yes H0.out]; exact (HGO.out.grew (g6.trans g7)).base hs0, (gA.trans g6).trans g7⟩
  ·
    rw [HN.out] at hk
    have hk0 : (0 : Int) ≤ (k : Int) := by omega
    have hkn : (k : Int) < (n : Int) := by omega
    have hk9 : ¬ ((k : Int) < 0) := by omega
    have g3 := Grew.refl w2
    go_wp2_with fail
    refine (implCopyDir d ⟨d.name, .slice pa d.query.length pc⟩ _ (HD.out.grew g02) HDS.out).mono ?_
    rintro e w4 ⟨⟨un, uq⟩, rfl, ho, g4⟩
    have HO := Lib.hid ho
    obtain ⟨hun, huq⟩ := ho
    simp only at hun
    subst hun
    obtain ⟨ua, uc, rfl⟩ := own_slice huq.1
    clear huq
    have g14 := g2.trans g4
    obtain ⟨ps, h1, h2, h3⟩ := HG.out
    have H1 := Lib.hid (ownsRow_grew h1 g14)
    have H2 := Lib.hid (h2.mono fun x q h => ((h.grew g14).mono (Nat.le_refl _) g2.size : Dr.O _ w0.heap.size w2.heap.size x q))
    have H3 := Lib.hid h3
    rw [HN.out] at h1
    obtain ⟨g, c, hv⟩ : ∃ g c, (Value.slice va n vc) = .slice (some ⟨g, 0, none⟩) n c := by
      rcases h1.2 with ⟨h, h0⟩ | ⟨g, c, cur, h, _⟩
      · omega
      · exact ⟨g, c, h⟩
    obtain ⟨rfl, rfl⟩ : va = some ⟨g, 0, none⟩ ∧ vc = c := by injection hv with e1 e2 e3; exact ⟨e1, e3⟩
    have HN1 := Lib.hid (ownsRow_grew h1 g14)
    have hgb := (h1.lt g rfl).1
    clear h1 h2 h3 hv
    obtain ⟨y, hyk, z0, z1⟩ := ownP2 HN1.out hk
    have zf0 := HN1.out.frozenAt (k * 2)
    have zf1 := HN1.out.frozenAt (k * 2 + 1)
    go_wp2_with fail
    have hown := storeP2 HN1.out hk ⟨d.name, .slice ua d.query.length uc⟩
    have hgr := grown_cell2 w4 g (k * 2) (k * 2 + 1) (.string d.name) (.slice ua d.query.length uc)
    simp only at hown
    generalize (w4.setCell ⟨g, k * 2, none⟩ (.string d.name)).setCell ⟨g, k * 2 + 1, none⟩ (.slice ua d.query.length uc) = w5 at hown hgr ⊢
    have hgo : GrowD w5 w0.heap.size (.slice (some ⟨g, 0, none⟩) n vc) (xs.set k d) := by
      refine GrowD.put H1.out H2.out H3.out (p := ⟨d.name, .slice ua d.query.length uc⟩) HO.out (g1.trans g2).size g4.size (by rw [HN.out]; exact hk) ?_ hgr
      rw [HN.out]
      exact hown
    have HGR := Lib.hid hgr
    clear hown hgr z0 z1 zf0 zf1
    have HGO := Lib.hid hgo
    clear hgo
    have gA : Grew w w5 := ((g0.trans g1).trans g14).grown HGR.out (fun j h => by cases h; exact Nat.le_trans hs0 hgb)
    have gsz := gA.size
    refine (implIsValidDirs _ xs _ (HA.out.grew gA) (by rw [HN.out]; exact hx') hz').mono ?_
    rintro e w6 ⟨he, g6⟩
    rw [HDV.out] at he
    subst he
    cases dv
    · go_wp2_with fail
      refine (implCopyDirs _ xs _ (HA.out.grew (gA.trans g6)) (by rw [HN.out]; exact hx') HS.out).mono ?_
      rintro e w7 ⟨v7, rfl, hG7, g7⟩
      have HG7 := Lib.hid hG7
      clear hG7
      go_wp2
      go_ret2
      have h0 := set_ok1 (d := d) HDV.out
      exact ⟨_, by rw [h0]; rfl, by rw [set_no h0]; exact HG7.out.base (gA.trans g6).size, (gA.trans g6).trans g7⟩
    have heq : (xs.set k d) = setN d xs := set_at d (rise_of HDV.out) hp.out
    rw [heq] at HGO
    clear heq
    obtain ⟨ov, hov⟩ : ∃ b, dirsB (setN d xs) = b := ⟨_, rfl⟩
    have HOV := Lib.hid hov
    clear hov
    have hsl := setN_len d xs
    have hsz := setN_sz d xs
    rw [HN.out] at hsl
    have HRO := Lib.hid (HGO.out.own.rd)
    go_wp2_with fail
    refine (implIsValidDirs _ (setN d xs) _ (HRO.out.grew g6) (by omega) (by omega)).mono ?_
    rintro e w7 ⟨he, g7⟩
    rw [HOV.out] at he
    subst he
    have h0 := set_ok2 HDV.out HOV.out
    have H0 := Lib.hid h0
    clear h0
    cases ov
    · go_wp2_with fail
      refine (implCopyDirs _ xs _ (HA.out.grew ((gA.trans g6).trans g7)) (by rw [HN.out]; exact hx') HS.out).mono ?_
      rintro e w8 ⟨v8, rfl, hG8, g8⟩
      have HG8 := Lib.hid hG8
      clear hG8
      go_wp2
      go_ret2
      exact ⟨_, by rw [H0.out]; rfl, by rw [set_no H0.out]; exact HG8.out.base ((gA.trans g6).trans g7).size, ((gA.trans g6).trans g7).trans g8⟩
    · go_wp2
      go_ret2
      exact ⟨_, by rw [H0.out]; rfl, by rw [set_yes H0.out]; exact (HGO.out.grew (g6.trans g7)).base hs0, (gA.trans g6).trans g7⟩
theorem PreD.snoc {w' W : World} {base : Nat} {v' : Value} {ds : List Dr} {d : Dr} {ps : List P2} {p : P2} (h2 : All2 (Dr.R W) ds ps) (hp : Dr.R W d p)
    (hown : w'.ownsRow base 49 2 v' (ds.length + 1) (rows P2.c ps ++ P2.c p)) : PreD w' base W v' (ds ++ [d]) :=
  ⟨ps ++ [p], by rw [List.length_append, rows_append]; simpa [rows] using hown, h2.snoc hp⟩
theorem setS_cons (x d : Dr) (put : Bool) (ds : List Dr) : setS x put (d :: ds) = (if !put && !Op.bytesLess d.name.toList x.name.toList then [x] else []) ++ ((if d.name.toList == x.name.toList then [] else [d]) ++ setS x (put || !Op.bytesLess d.name.toList x.name.toList) ds) := rfl
set_option maxRecDepth 100000 in
set_option maxHeartbeats 4000000 in
theorem specSetDir (va : Value) (xs : List Dr) (d : Dr) (p : P2) (w : World) (ha : RdDs w va xs) (hd : Dr.R w d p) (hx : xs.length ≤ 2000000) (hs : ∀ x, x ∈ xs → x.small) (hds : d.small) (hz : szAll Dr.sz xs ≤ 2000000) (hdz : d.sz ≤ 2000000) :
    Calls Try.prog 27 #[va, p.v] w fun e w' => ∃ v, e = .returned (.tuple #[v, .bool (setOk xs d)]) ∧ GrowD w' w.heap.size v (setD xs d) ∧ Grew w w' := by
  have HA := Lib.hid ha
  have HS := Lib.hid hs
  have HD := Lib.hid hd
  have HDS := Lib.hid hds
  obtain ⟨qs, ⟨a, ca, rfl, hca, hra⟩, hall⟩ := ha
  have HALL := Lib.hid hall
  clear hall hs hds
  obtain ⟨pn, pq⟩ := p
  obtain ⟨hdn, hdq⟩ := hd
  simp only at hdn hdq
  subst hdn
  obtain ⟨pa, pc, rfl, hpc, hpr⟩ := hdq
  clear hpr
  have hx' : xs.length ≤ 4000000 := by omega
  have hz' : szAll Dr.sz xs ≤ 4000000 := by omega
  generalize hn : xs.length = n at *
  have HN := Lib.hid hn
  clear hn
  obtain ⟨i0, hi, hz0, hz1, hz2⟩ := info_parts Try.infoDr
  have g0 := (Grew.refl w).alloc (.cells #[.string d.name, .slice pa d.query.length pc] 49)
  have b0 : (w.alloc (.cells #[.string d.name, .slice pa d.query.length pc] 49)).cell? ⟨w.heap.size, 0, none⟩ = some (.string d.name) := by simp
  have b1 : (w.alloc (.cells #[.string d.name, .slice pa d.query.length pc] 49)).cell? ⟨w.heap.size, 1, none⟩ = some (.slice pa d.query.length pc) := by simp
  obtain ⟨dv, hdv⟩ : ∃ b, dirsB xs = b := ⟨_, rfl⟩
  have HDV := Lib.hid hdv
  clear hdv
  go_enter Try.func27, Try.ntmps27
  go_wp2_with fail
  generalize w.alloc (.cells #[.string d.name, .slice pa d.query.length pc] 49) = w0 at g0 b0 b1 ⊢
  refine (specIsValidDirs _ xs _ (HA.out.grew g0) (by rw [HN.out]; exact hx') hz').mono ?_
  rintro e w1 ⟨he, g1⟩
  rw [HDV.out] at he
  subst he
  have g01 := g0.trans g1
  have hs1 := g01.size
  cases dv
  · go_wp2_with fail
    refine (specL11Copy _ xs _ (HA.out.grew g01) (by rw [HN.out]; exact hx') HS.out).mono ?_
    rintro e w7 ⟨v7, rfl, hG7, g7⟩
    have HG7 := Lib.hid hG7
    clear hG7
    go_wp2
    go_ret2
    have h0 := set_ok1 (d := d) HDV.out
    exact ⟨_, by rw [h0]; rfl, by rw [set_no h0]; exact HG7.out.base hs1, g01.trans g7⟩
  replace b0 := grew_cell g1 b0
  replace b1 := grew_cell g1 b1
  have HEQ := Lib.hid (setS_eq d (rise_of HDV.out))
  go_wp2
  go_loopw [6, 7, 8] (fun v b i wr => ∃ (k : Nat) (put : Bool) (out : List Dr), k ≤ n ∧ i = .int .i64 k ∧ b = .bool put ∧ Hid (out ++ setS d put (xs.drop k) = setN d xs) ∧ Hid (out.length ≤ 2 * k) ∧ Hid (PreD wr w1.heap.size w v out) ∧ Grew w1 wr) (fun _ _ i _ => n - (intOf i).toNat)
  case atStart => exact ⟨0, false, [], Nat.zero_le _, rfl, rfl, Lib.hid (by rw [List.nil_append, List.drop_zero]; exact HEQ.out), Lib.hid (Nat.le_refl _), Lib.hid (PreD.lit w1 w), (Grew.refl _).alloc _⟩
  case round =>
    obtain ⟨k, put, out, hk, rfl, rfl, hset, holen, hpre, hbel⟩ := hrel
    have hbw := g01.trans hbel
    have c0 := grew_cell hbel b0
    have c1 := grew_cell hbel b1
    by_cases hlt : k < n
    · obtain ⟨y1, o1, q, rfl, hpk, e0w, e1w⟩ := hra.getP2 hlt
      have e0 := grew_cell hbw e0w
      have e1 := grew_cell hbw e1w
      obtain ⟨x, hxk, hxr⟩ := HALL.out.get hpk.out
      have HXR := Lib.hid hxr
      obtain ⟨qn, qq⟩ := q
      obtain ⟨hxn, hxq⟩ := hxr
      simp only at hxn hxq e0 e1 e0w e1w
      subst hxn
      obtain ⟨xa, xc, rfl, hxc, hxra⟩ := hxq
      clear hxra
      obtain ⟨ps, p1, p2⟩ := hpre.out
      have P1 := Lib.hid p1
      have PL2 := Lib.hid p2
      have hol := holen.out
      clear p1 p2
      have hkn : (k : Int) < (n : Int) := by omega
      have hk0 : (0 : Int) ≤ (k : Int) := by omega
      have hdrop : xs.drop k = x :: xs.drop (k + 1) := by
        obtain ⟨h1, h2⟩ := List.getElem?_eq_some_iff.1 hxk.out
        rw [List.drop_eq_getElem_cons h1, h2]
      have hstep := hset.out
      rw [hdrop, setS_cons] at hstep
      have HST := Lib.hid hstep
      clear hdrop hstep
      obtain ⟨lv, hlv⟩ : ∃ b, Op.bytesLess x.name.toList d.name.toList = b := ⟨_, rfl⟩
      obtain ⟨ev, hev⟩ : ∃ b, (x.name.toList == d.name.toList) = b := ⟨_, rfl⟩
      rw [hlv, hev] at HST
      have HLV := Lib.hid hlv
      have HEV := Lib.hid hev
      have hal := Grew.refl wr
      have hpc0 := hpc
      have hxsz : x.query.length ≤ 4000000 := HS.out x (List.mem_of_getElem? hxk.out)
      cases put
      ·
        cases lv
        ·
          cases ev
          ·
            go_wp2
            go_quiet (fail)
            go_wp2_with (at_builtin; refine wpList_append_own _ rfl _ _ 35 rfl w1.heap.size 49 i0 _ 2 40 Try.underlying35 hi hz0 hz1 hz2 rfl (by decide) _ _ _ rfl (ownsRow_grew P1.out (((Grew.refl _).drewN _).alloc (.cells #[.string d.name, .slice pa d.query.length pc] 49))) ⟨_, 0, none⟩ 1 1 [.string d.name, .slice pa d.query.length pc] rfl rfl (news2 (by simp)) (fun x hx => by simp at hx; rcases hx with rfl | rfl <;> rfl) (by unfold maxLen; first | omega | (simp only [List.length_append, List.length_singleton]; omega)) (by first | omega | (simp only [List.length_append, List.length_singleton]; omega)) (by have := (hbel).size; simp; omega) ?_; intro vwa wa oa ga _)
            have belA := ((hbel.drewN _).alloc (.cells #[.string d.name, .slice pa d.query.length pc] 49)).grown ga (fun g h => (P1.out.lt g h).1)
            have OA := Lib.hid oa
            have PA := Lib.hid (PL2.out.snoc (x := d) (y := ⟨d.name, .slice pa d.query.length pc⟩) HD.out)
            clear oa ga e0 e1 c0 c1
            have hbwA := g01.trans belA
            have e0 := grew_cell hbwA e0w
            have e1 := grew_cell hbwA e1w
            have c0 := grew_cell belA b0
            have c1 := grew_cell belA b1
            have OA2 := Lib.hid (show wa.ownsRow w1.heap.size 49 2 vwa (out ++ [d]).length (rows P2.c (ps ++ [⟨d.name, .slice pa d.query.length pc⟩])) by rw [List.length_append, rows_append]; simpa [rows, P2.c] using OA.out)
            go_wp2
            go_quiet (fail)
            go_wp2_with (at_builtin; refine wpList_append_own _ rfl _ _ 35 rfl w1.heap.size 49 i0 _ 2 40 Try.underlying35 hi hz0 hz1 hz2 rfl (by decide) _ _ _ rfl (ownsRow_grew OA2.out (((Grew.refl _).drewN _).alloc (.cells #[.string x.name, .slice xa x.query.length xc] 49))) ⟨_, 0, none⟩ 1 1 [.string x.name, .slice xa x.query.length xc] rfl rfl (news2 (by simp)) (fun x hx => by simp at hx; rcases hx with rfl | rfl <;> rfl) (by unfold maxLen; first | omega | (simp only [List.length_append, List.length_singleton]; omega)) (by first | omega | (simp only [List.length_append, List.length_singleton]; omega)) (by have := (belA).size; simp; omega) ?_; intro vwb wb ob gb _)
            go_roundw
            case rel =>
              refine ⟨k + 1, true, (out ++ [d]) ++ [x], by omega, by go_num, rfl, Lib.hid ?_, Lib.hid (by simp only [List.length_append, List.length_singleton]; omega), Lib.hid (PreD.snoc PA.out HXR.out ob), (((belA).drewN _).alloc _).grown gb (fun g h => (OA2.out.lt g h).1)⟩
              have h := HST.out; simpa using h
            case measure => simp [intOf]; omega
          ·
            go_wp2
            go_quiet (fail)
            go_wp2_with (at_builtin; refine wpList_append_own _ rfl _ _ 35 rfl w1.heap.size 49 i0 _ 2 40 Try.underlying35 hi hz0 hz1 hz2 rfl (by decide) _ _ _ rfl (ownsRow_grew P1.out (((Grew.refl _).drewN _).alloc (.cells #[.string d.name, .slice pa d.query.length pc] 49))) ⟨_, 0, none⟩ 1 1 [.string d.name, .slice pa d.query.length pc] rfl rfl (news2 (by simp)) (fun x hx => by simp at hx; rcases hx with rfl | rfl <;> rfl) (by unfold maxLen; first | omega | (simp only [List.length_append, List.length_singleton]; omega)) (by first | omega | (simp only [List.length_append, List.length_singleton]; omega)) (by have := (hbel).size; simp; omega) ?_; intro vwa wa oa ga _)
            have belA := ((hbel.drewN _).alloc (.cells #[.string d.name, .slice pa d.query.length pc] 49)).grown ga (fun g h => (P1.out.lt g h).1)
            have OA := Lib.hid oa
            have PA := Lib.hid (PL2.out.snoc (x := d) (y := ⟨d.name, .slice pa d.query.length pc⟩) HD.out)
            clear oa ga e0 e1 c0 c1
            have hbwA := g01.trans belA
            have e0 := grew_cell hbwA e0w
            have e1 := grew_cell hbwA e1w
            have c0 := grew_cell belA b0
            have c1 := grew_cell belA b1
            have OA2 := Lib.hid (show wa.ownsRow w1.heap.size 49 2 vwa (out ++ [d]).length (rows P2.c (ps ++ [⟨d.name, .slice pa d.query.length pc⟩])) by rw [List.length_append, rows_append]; simpa [rows, P2.c] using OA.out)
            go_wp2
            go_quiet (fail)
            go_wp2
            go_roundw
            case rel =>
              refine ⟨k + 1, true, (out ++ [d]), by omega, by go_num, rfl, Lib.hid ?_, Lib.hid (by first | omega | (simp only [List.length_append, List.length_singleton]; omega)), Lib.hid (PreD.grew ⟨_, OA2.out, PA.out⟩ ((Grew.refl _).drewN _)), belA.drewN _⟩
              have h := HST.out; simpa using h
            case measure => simp [intOf]; omega
        ·
          cases ev
          ·
            go_wp2
            go_quiet (fail)
            go_wp2
            go_quiet (fail)
            go_wp2_with (at_builtin; refine wpList_append_own _ rfl _ _ 35 rfl w1.heap.size 49 i0 _ 2 40 Try.underlying35 hi hz0 hz1 hz2 rfl (by decide) _ _ _ rfl (ownsRow_grew P1.out (((Grew.refl _).drewN _).alloc (.cells #[.string x.name, .slice xa x.query.length xc] 49))) ⟨_, 0, none⟩ 1 1 [.string x.name, .slice xa x.query.length xc] rfl rfl (news2 (by simp)) (fun x hx => by simp at hx; rcases hx with rfl | rfl <;> rfl) (by unfold maxLen; first | omega | (simp only [List.length_append, List.length_singleton]; omega)) (by first | omega | (simp only [List.length_append, List.length_singleton]; omega)) (by have := (hbel).size; simp; omega) ?_; intro vwb wb ob gb _)
            go_roundw
            case rel =>
              refine ⟨k + 1, false, out ++ [x], by omega, by go_num, rfl, Lib.hid ?_, Lib.hid (by simp only [List.length_append, List.length_singleton]; omega), Lib.hid (PreD.snoc PL2.out HXR.out ob), (((hbel).drewN _).alloc _).grown gb (fun g h => (P1.out.lt g h).1)⟩
              have h := HST.out; simpa using h
            case measure => simp [intOf]; omega
          ·
            go_wp2
            go_quiet (fail)
            go_wp2
            go_quiet (fail)
            go_wp2
            go_roundw
            case rel =>
              refine ⟨k + 1, false, out, by omega, by go_num, rfl, Lib.hid ?_, Lib.hid (by first | omega | (simp only [List.length_append, List.length_singleton]; omega)), Lib.hid hpre.out.grew ((Grew.refl _).drewN _), hbel.drewN _⟩
              have h := HST.out; simpa using h
            case measure => simp [intOf]; omega
      ·
        cases ev
        ·
          go_wp2
          go_quiet (fail)
          go_wp2
          go_quiet (fail)
          go_wp2_with (at_builtin; refine wpList_append_own _ rfl _ _ 35 rfl w1.heap.size 49 i0 _ 2 40 Try.underlying35 hi hz0 hz1 hz2 rfl (by decide) _ _ _ rfl (ownsRow_grew P1.out (((Grew.refl _).drewN _).alloc (.cells #[.string x.name, .slice xa x.query.length xc] 49))) ⟨_, 0, none⟩ 1 1 [.string x.name, .slice xa x.query.length xc] rfl rfl (news2 (by simp)) (fun x hx => by simp at hx; rcases hx with rfl | rfl <;> rfl) (by unfold maxLen; first | omega | (simp only [List.length_append, List.length_singleton]; omega)) (by first | omega | (simp only [List.length_append, List.length_singleton]; omega)) (by have := (hbel).size; simp; omega) ?_; intro vwb wb ob gb _)
          go_roundw
          case rel =>
            refine ⟨k + 1, true, out ++ [x], by omega, by go_num, rfl, Lib.hid ?_, Lib.hid (by simp only [List.length_append, List.length_singleton]; omega), Lib.hid (PreD.snoc PL2.out HXR.out ob), (((hbel).drewN _).alloc _).grown gb (fun g h => (P1.out.lt g h).1)⟩
            have h := HST.out; simpa using h
          case measure => simp [intOf]; omega
        ·
          go_wp2
          go_quiet (fail)
          go_wp2
          go_quiet (fail)
          go_wp2
          go_roundw
          case rel =>
            refine ⟨k + 1, true, out, by omega, by go_num, rfl, Lib.hid ?_, Lib.hid (by first | omega | (simp only [List.length_append, List.length_singleton]; omega)), Lib.hid hpre.out.grew ((Grew.refl _).drewN _), hbel.drewN _⟩
            have h := HST.out; simpa using h
          case measure => simp [intOf]; omega
    · obtain rfl : k = n := by omega
      have hfin := hset.out
      rw [List.drop_eq_nil_of_le (by rw [HN.out]; exact Nat.le_refl _)] at hfin
      have HFIN := Lib.hid hfin
      clear hfin
      have hol := holen.out
      obtain ⟨ps, p1, p2⟩ := hpre.out
      have P1 := Lib.hid p1
      have PL2 := Lib.hid p2
      clear p1 p2
      cases put
      ·
        go_wp2_with (at_builtin; refine wpList_append_own _ rfl _ _ 35 rfl w1.heap.size 49 i0 _ 2 40 Try.underlying35 hi hz0 hz1 hz2 rfl (by decide) _ _ _ rfl (ownsRow_grew P1.out ((Grew.refl _).alloc (.cells #[.string d.name, .slice pa d.query.length pc] 49))) ⟨_, 0, none⟩ 1 1 [.string d.name, .slice pa d.query.length pc] rfl rfl (news2 (by simp)) (fun x hx => by simp at hx; rcases hx with rfl | rfl <;> rfl) (by unfold maxLen; first | omega | (simp only [List.length_append, List.length_singleton]; omega)) (by first | omega | (simp only [List.length_append, List.length_singleton]; omega)) (by have := (hbel).size; simp; omega) ?_; intro vwa wa oa ga _)
        have belA := (hbel.alloc (.cells #[.string d.name, .slice pa d.query.length pc] 49)).grown ga (fun g h => (P1.out.lt g h).1)
        have PA := Lib.hid (PL2.out.snoc (x := d) (y := ⟨d.name, .slice pa d.query.length pc⟩) HD.out)
        have OA2 := Lib.hid (show wa.ownsRow w1.heap.size 49 2 vwa (out ++ [d]).length (rows P2.c (ps ++ [⟨d.name, .slice pa d.query.length pc⟩])) by rw [List.length_append, rows_append]; simpa [rows, P2.c] using oa)
        have hpf : PreD wa w1.heap.size w vwa (setN d xs) := by have h : PreD wa w1.heap.size w vwa (out ++ [d]) := ⟨_, OA2.out, PA.out⟩; rw [show out ++ [d] = setN d xs by rw [← HFIN.out]; rfl] at h; exact h
        clear oa ga c0 c1 b0 b1
        have HPF := Lib.hid hpf
        clear hpf
        have hsl := setN_len d xs
        have hsz := setN_sz d xs
        rw [HN.out] at hsl
        have gsz := (g01.trans belA).size
        obtain ⟨ov, hov⟩ : ∃ b, dirsB (setN d xs) = b := ⟨_, rfl⟩
        have HOV := Lib.hid hov
        clear hov
        obtain ⟨na, nc, rfl⟩ : ∃ a c, vwa = .slice a (setN d xs).length c := by obtain ⟨ps, h1, _⟩ := HPF.out; exact own_slice h1
        have HRO := Lib.hid (HPF.out.rd (g01.trans belA))
        go_wp2_with fail
        refine (specIsValidDirs _ (setN d xs) _ HRO.out (by omega) (by omega)).mono ?_
        rintro e w7 ⟨he, g7⟩
        rw [HOV.out] at he
        subst he
        have H0 := Lib.hid (set_ok2 HDV.out HOV.out)
        have gF := (g01.trans belA).trans g7
        cases ov
        · go_wp2_with fail
          refine (specL11Copy _ xs _ (HA.out.grew gF) (by rw [HN.out]; exact hx') HS.out).mono ?_
          rintro e w8 ⟨v8, rfl, hG8, g8⟩
          have HG8 := Lib.hid hG8
          clear hG8
          go_wp2
          go_ret2
          exact ⟨_, by rw [H0.out]; rfl, by rw [set_no H0.out]; exact HG8.out.base gF.size, gF.trans g8⟩
        · go_wp2_with fail
          refine (specL11Copy _ (setN d xs) _ (HRO.out.grew g7) (by omega) (fun y hy => by rcases setN_mem d hy with rfl | h; exact HDS.out; exact HS.out y h)).mono ?_
          rintro e w8 ⟨v8, rfl, hG8, g8⟩
          have HG8 := Lib.hid hG8
          clear hG8
          go_wp2
          go_ret2
          exact ⟨_, by rw [H0.out]; rfl, by rw [set_yes H0.out]; exact HG8.out.base gF.size, gF.trans g8⟩
      ·
        have hpf : PreD wr w1.heap.size w u6 (setN d xs) := by have h := hpre.out; rw [show out = setN d xs by rw [← HFIN.out]; simp [setS]] at h; exact h
        have HPF := Lib.hid hpf
        clear hpf
        have hsl := setN_len d xs
        have hsz := setN_sz d xs
        rw [HN.out] at hsl
        have gsz := (g01.trans hbel).size
        obtain ⟨ov, hov⟩ : ∃ b, dirsB (setN d xs) = b := ⟨_, rfl⟩
        have HOV := Lib.hid hov
        clear hov
        obtain ⟨na, nc, rfl⟩ : ∃ a c, u6 = .slice a (setN d xs).length c := by obtain ⟨ps, h1, _⟩ := HPF.out; exact own_slice h1
        have HRO := Lib.hid (HPF.out.rd (g01.trans hbel))
        go_wp2_with fail
        refine (specIsValidDirs _ (setN d xs) _ HRO.out (by omega) (by omega)).mono ?_
        rintro e w7 ⟨he, g7⟩
        rw [HOV.out] at he
        subst he
        have H0 := Lib.hid (set_ok2 HDV.out HOV.out)
        have gF := (g01.trans hbel).trans g7
        cases ov
        · go_wp2_with fail
          refine (specL11Copy _ xs _ (HA.out.grew gF) (by rw [HN.out]; exact hx') HS.out).mono ?_
          rintro e w8 ⟨v8, rfl, hG8, g8⟩
          have HG8 := Lib.hid hG8
          clear hG8
          go_wp2
          go_ret2
          exact ⟨_, by rw [H0.out]; rfl, by rw [set_no H0.out]; exact HG8.out.base gF.size, gF.trans g8⟩
        · go_wp2_with fail
          refine (specL11Copy _ (setN d xs) _ (HRO.out.grew g7) (by omega) (fun y hy => by rcases setN_mem d hy with rfl | h; exact HDS.out; exact HS.out y h)).mono ?_
          rintro e w8 ⟨v8, rfl, hG8, g8⟩
          have HG8 := Lib.hid hG8
          clear hG8
          go_wp2
          go_ret2
          exact ⟨_, by rw [H0.out]; rfl, by rw [set_yes H0.out]; exact HG8.out.base gF.size, gF.trans g8⟩
end Go.Proofs.Ytgekgokkbakcmaa
