/- Contracts of TransitiveDependents. -/
import Derived.Test.YtejgpghcahinhaaY0
import Derived.Test.YtejgpghcahinhaaN3
import Derived.OwnWalk
namespace Go.Proofs.Ytejgpghcahinhaa
open Go.RowKit Go.Sort
set_option linter.unusedVariables false
/-- What is appended to an own row lies in its old block or in a new one. -/
theorem wpList_append_blk {P : Program} (w : World) {ops : Array Oper} {rest : List Oper} {o : Oper} {a : Act} {Q : Exit → Act → World → Prop} (hgd : o.guard = none) (s x : Operand) (t : TypeId)
    (ho : o.op = .call { callee := .builtin .append, args := #[s, x], argTypes := #[t, t] })
    (base : Nat) (e : TypeId) (i : TypeInfo) (z : Value) (size bytes : Nat) (ht : P.underlying t = some (.slice e)) (hi : P.info? e = some i) (hz : i.zero = some z)
    (hsize : i.size = size) (hby : i.bytes = bytes) (hzs : z.cells.size = size) (hsz : 0 < size)
    (v : Value) (n : Nat) (xs : List Value) (hs : a.eval s = v) (hown : w.ownsRow base e size v n xs)
    (ad : Addr) (m c : Nat) (news : List Value) (hx : a.eval x = .slice (some ad) m c) (hm : 0 < m) (hl : news.length = m * size) (hnews : ∀ j u, news[j]? = some u → w.cell? (ad.add j) = some u) (h1 : ∀ u ∈ news, u.oneCell' = true)
    (h63 : n + m ≤ maxLen) (hbytes : (n + m) * bytes ≤ 140737488355328) (hbase : base ≤ w.heap.size)
    (h : ∀ v' w', w'.ownsRow base e size v' (n + m) (xs ++ news) → w.grownBy w' v.ownBlock → (∀ b, v'.ownBlock = some b → v.ownBlock = some b ∨ w.heap.size ≤ b) → wpList P ops Q rest (a.put o.dst v') w') : wpList P ops Q (o :: rest) a w := by
  have hown0 := hown
  have hrd := rd_of_own hown
  obtain ⟨hl0, ⟨rfl, rfl⟩ | ⟨g, cap, cur, rfl, hg, hh, hr⟩⟩ := hown
  · obtain rfl : xs = [] := List.length_eq_zero_iff.1 (by simpa using hl0)
    refine wpList_append_grows w hgd s x t ho e i z size bytes ht hi hz hsize hby hzs hsz none 0 0 [] hs (fun _ => ⟨rfl, rfl⟩) (by simp) (by simp) ad m c news hx hl hnews h1 (by omega) h63 hbytes ?_
    intro v' w' r1 r2
    exact h v' w' (ownsRow_base r1 hbase) r2 (fun b hb => .inr (r1.lt b hb).1)
  · by_cases hf : n + m ≤ cap
    · refine wpList_append_fits w hgd s x t ho base e i size ht hi hsize g n cap xs hs hown0 ad m c news hx hl hnews h1 hf ?_
      intro w' r1 r2
      exact h _ w' r1 r2 (fun b hb => .inl hb)
    · obtain ⟨a', c', h2, hc, hra⟩ := hrd
      cases h2
      refine wpList_append_grows w hgd s x t ho e i z size bytes ht hi hz hsize hby hzs hsz (some ⟨g, 0, none⟩) n cap xs hs (by simp) hl0 (fun b hb => by cases hb; exact rd_news hra (Grew.refl w)) ad m c news hx hl hnews h1 (by omega) h63 hbytes ?_
      intro v' w' r1 r2
      exact h v' w' (ownsRow_base r1 hbase) ⟨r2.os, r2.tape, r2.output, r2.size, fun k hk _ => r2.block k hk (by simp)⟩ (fun b hb => .inr (r1.lt b hb).1)
theorem own_apart {w w' : World} {b0 : Nat} {e : TypeId} {k n : Nat} {u v : Value} {cs : List Value} (h : w.ownsRow b0 e k u n cs) (hd : ∀ g, u.ownBlock = some g → v.ownBlock ≠ some g) (hg : w.grownBy w' v.ownBlock) : w'.ownsRow b0 e k u n cs := by
  refine h.kept hg ?_
  cases hb : u.ownBlock with
  | none => exact .inl rfl
  | some g => exact .inr (fun h3 => hd g hb h3.symm)
/-- A value's own block lies outside a region. -/
def Off (v : Value) (lo hi : Nat) : Prop := ∀ b, v.ownBlock = some b → b < lo ∨ hi ≤ b
theorem hasB_so {L : List ByteArray} {s : ByteArray} : hasB (so L) s = hasB L s := by
  rw [Bool.eq_iff_iff, hasB_iff, hasB_iff, mem_so]
theorem RdS.rd {w : World} {v : Value} {xs : List ByteArray} (h : RdS w v xs) : Rd w v 1 xs.length (strs xs) := by
  obtain ⟨ad, c, rfl, h1, h2⟩ := h
  exact ⟨_, _, rfl, h1, h2⟩
theorem Rd.rda1 {w : World} {a : Option Addr} {k n c : Nat} {cs : List Value} (h : Rd w (.slice a n c) k n cs) : RdA w a k n cs := by
  obtain ⟨a', c', h1, _, h2⟩ := h
  cases h1
  exact h2
set_option maxRecDepth 100000 in
set_option maxHeartbeats 2000000 in
theorem specTransDep (va vb : Value) (xs : List Dr) (ns : List ByteArray) (w : World) (ha : RdDs w va xs) (hb : Rd w vb 1 ns.length (strs ns)) (hx : xs.length + ns.length ≤ 3900000) (hs : ∀ x, x ∈ xs → x.small) :
    Calls Try.prog 86 #[va, vb] w fun e w' => ∃ v, e = .returned v ∧ w'.ownsRow w.heap.size 9 1 v (clo xs ns).length (strs (clo xs ns)) ∧ Grew w w' := by
  obtain ⟨qs, ⟨a, ca, rfl, hca, hra⟩, hall⟩ := ha
  obtain ⟨bn, cb, rfl, hcb, hrb⟩ := hb
  have HA := Lib.hid hall
  have HS := Lib.hid hs
  clear hall hs
  generalize hn : xs.length = n at hx hra hca
  generalize hm : ns.length = m at hx hrb hcb
  have HX := Lib.hid hn
  have HN := Lib.hid hm
  clear hn hm
  have HG := Lib.hid (fun r i => show (so (midL xs ns r i)).length ≤ 4000000 from Nat.le_trans (so_len _) (by have := (Good.mid (xs := xs) (ns := ns) r i).le; have := HX.out; have := HN.out; omega))
  obtain ⟨i0, hi, hz0, hz1, hz2⟩ := info_parts Try.infoString
  go_enter Try.func86, Try.ntmps86
  go_wp2
  go_loopw [5, 6] (fun v i wr => ∃ k : Nat, k ≤ m ∧ i = .int .i64 k ∧ Hid (RdS wr v (so (ns.take k))) ∧ Grew w wr) (fun _ i _ => m - (intOf i).toNat)
  case atStart => exact ⟨0, Nat.zero_le _, rfl, Lib.hid (rds_of_own (xs := []) (lit_own w 9 1) (by simp)), (Grew.refl _).alloc _⟩
  case round =>
    obtain ⟨k, hk, rfl, hrd, hbel⟩ := hrel
    by_cases hlt : k < m
    · obtain ⟨b1, o1, y, rfl, hyk, c0⟩ := (hrb.grew hbel).one hlt
      have hsl : (so (ns.take k)).length ≤ 4000000 := Nat.le_trans (so_len _) (by rw [List.length_take]; omega)
      go_wp2_with (go_at_call 177; refine (l04Put _ _ y _ hrd.out hsl).mono ?_; rintro e w2 ⟨v2, rfl, hrd2, hb2⟩; have HR2 := Lib.hid hrd2; clear hrd2)
      go_roundw
      case rel =>
        refine ⟨k + 1, by omega, by go_num, Lib.hid ?_, hbel.trans hb2⟩
        rw [take_snoc hyk.out, so_snoc]; exact HR2.out
      case measure => simp [intOf]; omega
    · obtain rfl : k = m := by omega
      have H1 := Lib.hid (show RdS wr _ (so (passes xs ns 0)) by have h1 := hrd.out; rw [take_all HN.out] at h1; exact h1)
      clear hrd
      obtain ⟨W1, rfl⟩ : ∃ x, x = wr := ⟨_, rfl⟩
      go_wp2
      go_loopw [5, 7] (fun v i wr => ∃ r : Nat, r ≤ n + 1 ∧ i = .int .i64 r ∧ Hid (RdS wr v (so (passes xs ns r))) ∧ Grew W1 wr) (fun _ i _ => n + 1 - (intOf i).toNat)
      case atStart => exact ⟨0, Nat.zero_le _, rfl, H1, Grew.refl _⟩
      case round =>
        obtain ⟨r, hr, rfl, hrd, hg2⟩ := hrel
        by_cases hlr : r ≤ n
        · obtain ⟨W2, rfl⟩ : ∃ x, x = wr := ⟨_, rfl⟩
          have hbel2 := hbel.trans hg2
          go_wp2
          go_loopw [5, 8] (fun v i wr => ∃ j : Nat, j ≤ n ∧ i = .int .i64 j ∧ Hid (RdS wr v (so (midL xs ns r j))) ∧ Grew W2 wr) (fun _ i _ => n - (intOf i).toNat)
          case atStart => exact ⟨0, Nat.zero_le _, rfl, hrd, Grew.refl _⟩
          case round =>
            obtain ⟨j, hj, rfl, hrd3, hg3⟩ := hrel
            by_cases hlj : j < n
            · obtain ⟨b1, o1, p, rfl, hpk, c0, c1⟩ := (hra.grew (hbel2.trans hg3)).getP2 hlj
              obtain ⟨x, hxk, hxr⟩ := HA.out.get hpk.out
              have hmem := Lib.hid (List.mem_of_getElem? hxk.out)
              have hxs := HS.out x hmem.out
              unfold Dr.small at hxs
              obtain ⟨pn, pq⟩ := p
              obtain ⟨hxn, hxq⟩ := hxr
              simp only at hxn hxq c0 c1
              subst hxn
              have HQ := Lib.hid hxq
              clear hxq
              have hql : (qDirs x.query).length ≤ 4000000 := by have := qDirs_le x.query; omega
              obtain ⟨W3, rfl⟩ : ∃ x, x = wr := ⟨_, rfl⟩
              go_wp2_with (go_at_call 103; refine (specQueryDirs _ x.query.length x.query _ (HQ.out.grew (hbel2.trans hg3)) hxs).mono ?_; rintro e w4 ⟨v4, rfl, hq4, hb4⟩; obtain ⟨qa, qc, rfl⟩ := own_slice hq4; have HQ4 := Lib.hid (rd_of_own hq4).rda1; clear hq4)
              have HL3 := Lib.hid (show RdS w4 _ (so (askL (midL xs ns r j) x 0)) by rw [askL_zero]; exact hrd3.out.grew hb4)
              have c0' := grew_cell hb4 c0
              clear hrd3 c0 c1
              generalize hql2 : (qDirs x.query).length = q at HQ4 hql
              have HQL := Lib.hid hql2
              clear hql2
              go_loopw [5, 10] (fun v i wr => ∃ t : Nat, t ≤ q ∧ i = .int .i64 t ∧ Hid (RdS wr v (so (askL (midL xs ns r j) x t))) ∧ Grew w4 wr) (fun _ i _ => q - (intOf i).toNat)
              case atStart => exact ⟨0, Nat.zero_le _, rfl, HL3, Grew.refl _⟩
              case round =>
                obtain ⟨t, ht, rfl, hrd5, hg5⟩ := hrel
                by_cases hlt2 : t < q
                · obtain ⟨b2, o2, s, rfl, hsk, d0⟩ := (HQ4.out.grew hg5).one hlt2
                  have c5 := grew_cell hg5 c0'
                  have hsl : (so (askL (midL xs ns r j) x t)).length ≤ 4000000 := Nat.le_trans (so_len _) (by have := ((Good.mid (xs := xs) (ns := ns) r j).ask hmem.out t).le; have := HX.out; have := HN.out; omega)
                  obtain ⟨v, hv⟩ : ∃ v, hasB (askL (midL xs ns r j) x t) s = v := ⟨_, rfl⟩
                  have HV := Lib.hid hv
                  clear hv
                  have hcs : v = true ∨ v = false := by cases v <;> simp
                  have HRD := Lib.hid hrd5.out.rd
                  rcases hcs with rfl | rfl
                  · go_wp2_with (first | (go_at_call 178; refine (l12Has _ _ _ s _ HRD.out hsl).mono ?_; rintro e w5 ⟨he, rfl⟩; rw [hasB_so, HV.out] at he; subst he) | (go_at_call 177; refine (l04Put _ _ x.name _ hrd5.out hsl).mono ?_; rintro e w6 ⟨v2, rfl, hrd2, hb2⟩; have HR2 := Lib.hid hrd2; clear hrd2))
                    go_roundw
                    case rel =>
                      refine ⟨t + 1, by omega, by go_num, Lib.hid ?_, hg5.trans hb2⟩
                      rw [askL_yes hsk.out HV.out]; exact HR2.out
                    case measure => simp [intOf]; omega
                  · go_wp2_with (go_at_call 178; refine (l12Has _ _ _ s _ HRD.out hsl).mono ?_; rintro e w5 ⟨he, rfl⟩; rw [hasB_so, HV.out] at he; subst he)
                    go_roundw
                    case rel =>
                      refine ⟨t + 1, by omega, by go_num, Lib.hid ?_, hg5⟩
                      rw [askL_no hsk.out HV.out]; exact hrd5.out
                    case measure => simp [intOf]; omega
                · obtain rfl : t = q := by omega
                  go_wp2
                  go_roundw
                  case rel =>
                    refine ⟨j + 1, by omega, by go_num, Lib.hid ?_, (hg3.trans hb4).trans hg5⟩
                    rw [midL_succ ns r hxk.out, ← askL_all HQL.out]; exact hrd5.out
                  case measure => simp [intOf]; omega
            · obtain rfl : j = n := by omega
              go_wp2
              go_roundw
              case rel =>
                refine ⟨r + 1, by omega, by go_num, Lib.hid ?_, hg2.trans hg3⟩
                rw [← midL_all ns r HX.out]; exact hrd3.out
              case measure => simp [intOf]; omega
        · obtain rfl : r = n + 1 := by omega
          have h1 := hrd.out
          rw [← HX.out, so_passes] at h1
          have hbel2 := hbel.trans hg2
          have hql : (clo xs ns).length ≤ 4000000 := by have := clo_len xs ns; have := HX.out; have := HN.out; omega
          obtain ⟨ad, c, rfl, hc, hr⟩ := h1
          have HR := Lib.hid hr
          clear hr hrd
          generalize hL : (clo xs ns).length = L at hc HR hql
          have HL := Lib.hid hL
          clear hL
          go_wp2_with (at_builtin; refine wpList_append_own _ rfl _ _ 63 rfl wr.heap.size 9 i0 (.string ⟨#[]⟩) 1 16 Try.underlying63 hi hz0 hz1 hz2 rfl (by decide) _ 0 [] rfl (lit_own wr 9 1) _ L _ (strs (clo xs ns)) rfl (by rw [List.length_map, HL.out, Nat.mul_one]) (rd_news HR.out ((Grew.refl _).alloc _)) (one_strs _) (by unfold maxLen; omega) (by omega) (by simp) ?_)
          intro v' w' hown' hgr _
          go_wp2
          go_ret
          refine ⟨_, rfl, ?_, (hbel2.alloc _).grown hgr (fun k h => by cases h; exact hbel2.size)⟩
          rw [HL.out]
          exact ownsRow_base (by simpa using hown') hbel2.size
set_option maxRecDepth 100000 in
set_option maxHeartbeats 2000000 in
theorem implTransDep (va vb : Value) (xs : List Dr) (ns : List ByteArray) (w : World) (ha : RdDs w va xs) (hb : Rd w vb 1 ns.length (strs ns)) (hx : xs.length + ns.length ≤ 3900000) (hs : ∀ x, x ∈ xs → x.small) :
    Calls Try.prog 84 #[va, vb] w fun e w' => ∃ v, e = .returned v ∧ w'.ownsRow w.heap.size 9 1 v (clo xs ns).length (strs (clo xs ns)) ∧ Grew w w' := by
  have HD := Lib.hid ha
  have HB := Lib.hid hb
  have HS := Lib.hid hs
  obtain ⟨qs, ⟨a, ca, rfl, hca, hra⟩, hall⟩ := ha
  obtain ⟨bn, cb, rfl, hcb, hrb⟩ := hb
  clear hall hs hra hrb
  obtain ⟨i0, hi, hz0, hz1, hz2⟩ := info_parts Try.infoString
  generalize hn : xs.length = n at hx hca
  generalize hm : ns.length = m at hx hcb
  have HX := Lib.hid hn
  have HN := Lib.hid hm
  have HB2 := Lib.hid (show Rd w (.slice bn m cb) 1 m (strs ns) by have := HB.out; rw [hm] at this; exact this)
  clear hm HB
  have HD2 := Lib.hid (show RdDs w (.slice a n ca) xs by have := HD.out; rw [hn] at this; exact this)
  clear HD hn
  go_enter Try.func84, Try.ntmps84
  go_wp2_with fail
  refine (slCloneStr _ m ns _ HB2.out (by omega)).mono ?_
  rintro e w1 ⟨v1, rfl, ho1, hb1⟩
  have HO1 := Lib.hid (show w1.ownsRow w.heap.size 9 1 v1 ns.length (strs ns) by rw [HN.out]; exact ho1)
  clear ho1
  go_wp2
  go_loopw [5, 6] (fun v i wr => ∃ (O : List ByteArray) (k : Nat), k ≤ O.length ∧ i = .int .i64 k ∧ Hid (wr.ownsRow w.heap.size 9 1 v O.length (strs O)) ∧ Hid (Good xs ns O) ∧ Hid (DoneUp xs O k) ∧ Grew w wr) (fun _ i _ => n + m - (intOf i).toNat)
  case atStart => exact ⟨ns, 0, Nat.zero_le _, rfl, HO1, Lib.hid (Good.start xs ns), Lib.hid (DoneUp.start xs ns), hb1⟩
  case round =>
    obtain ⟨O, k, hk, rfl, hown, hgood, hdone, hbel⟩ := hrel
    have hol : O.length ≤ n + m := by have := hgood.out.le; have := HX.out; have := HN.out; omega
    obtain ⟨oa, oc, rfl⟩ := own_slice hown.out
    by_cases hlt : k < O.length
    · obtain ⟨b1, o1, o, rfl, hok, c0⟩ := (rd_of_own hown.out).rda1.one hlt
      have hlt2 : (k : Int) < (O.length : Int) := by omega
      obtain ⟨W1, rfl⟩ : ∃ x, x = wr := ⟨_, rfl⟩
      have hdl : (dep xs o).length ≤ 4000000 := by have := dep_le xs o; have := HX.out; omega
      go_wp2_with (go_at_call 87; refine (implDependents _ xs o _ (HD2.out.grew hbel) (by have := HX.out; omega) HS.out).mono ?_; rintro e w4 ⟨v4, rfl, hd4, hb4⟩; obtain ⟨da, dc, rfl⟩ := own_slice hd4; have HD4 := Lib.hid hd4; clear hd4)
      have HOF := Lib.hid (show Off (.slice (some ⟨b1, o1, none⟩) O.length oc) W1.heap.size w4.heap.size from fun b hb => .inl (hown.out.lt b hb).2)
      have HDF := Lib.hid (fun g (hg : Value.ownBlock (.slice da (dep xs o).length dc) = some g) => HD4.out.lt g hg)
      have HO4 := Lib.hid (ownsRow_grew hown.out hb4)
      have HO4k := Lib.hid (show O[k]? = some o from hok.out)
      have HSZ := Lib.hid (show W1.heap.size ≤ w4.heap.size from hb4.size)
      have hgw4 := hbel.trans hb4
      generalize hq : (dep xs o).length = q at HD4 hdl HDF
      have HQ := Lib.hid hq
      clear hq c0 hown
      go_loopw [5, 24] (fun v i wr => ∃ (O' : List ByteArray) (t : Nat), t ≤ q ∧ i = .int .i64 t ∧ Hid (wr.ownsRow w.heap.size 9 1 v O'.length (strs O')) ∧ Hid (Good xs ns O') ∧ Hid (DoneUp xs O' k ∧ O'[k]? = some o ∧ ∀ s, s ∈ (dep xs o).take t → s ∈ O') ∧ Hid (Off v W1.heap.size w4.heap.size) ∧ Hid (wr.ownsRow W1.heap.size 9 1 (.slice da q dc) q (strs (dep xs o))) ∧ Grew w wr ∧ w4.heap.size ≤ wr.heap.size) (fun _ i _ => q - (intOf i).toNat)
      case atStart => exact ⟨O, 0, Nat.zero_le _, rfl, HO4, hgood, Lib.hid ⟨hdone.out, HO4k.out, fun s hs => by simp at hs⟩, HOF, HD4, hgw4, Nat.le_refl _⟩
      case round =>
        obtain ⟨O', t, ht, rfl, hown, hgood', hst, hoff, hdep, hbel', hsz⟩ := hrel
        have hol' : O'.length ≤ n + m := by have := hgood'.out.le; have := HX.out; have := HN.out; omega
        by_cases hlt3 : t < q
        · obtain ⟨b2, o2, s, hda, hsk, d0⟩ := (rd_of_own hdep.out).rda1.one hlt3
          subst hda
          obtain ⟨v, hv⟩ : ∃ v, hasB O' s = v := ⟨_, rfl⟩
          have HV := Lib.hid hv
          clear hv
          have hcs : v = true ∨ v = false := by cases v <;> simp
          have HRD := Lib.hid (rd_of_own hown.out)
          have hmem := Lib.hid (List.mem_of_getElem? hsk.out)
          have homem := Lib.hid (List.mem_of_getElem? hst.out.2.1)
          rcases hcs with rfl | rfl
          · go_wp2_with (go_at_call 176; refine (slContainsStr _ _ O' s _ HRD.out (by omega)).mono ?_; rintro e w5 ⟨he, rfl⟩; rw [HV.out] at he; subst he)
            go_roundw
            case rel =>
              refine ⟨O', t + 1, by omega, by go_num, hown, hgood', Lib.hid ⟨hst.out.1, hst.out.2.1, fun z hz => ?_⟩, hoff, hdep, hbel', hsz⟩
              rw [take_snoc hsk.out] at hz
              rcases List.mem_append.1 hz with h | h
              · exact hst.out.2.2 z h
              · simp at h; subst h; exact hasB_iff.1 HV.out
            case measure => simp [intOf]; omega
          · have hbs : w.heap.size ≤ wr.heap.size := hbel'.size
            go_wp2_with (first | (go_at_call 176; refine (slContainsStr _ _ O' s _ HRD.out (by omega)).mono ?_; rintro e w5 ⟨he, rfl⟩; rw [HV.out] at he; subst he) | (at_builtin; refine wpList_append_blk _ rfl _ _ 63 rfl w.heap.size 9 i0 (.string ⟨#[]⟩) 1 16 Try.underlying63 hi hz0 hz1 hz2 rfl (by decide) _ _ _ rfl (hown.out.alloc _) ⟨_, 0, none⟩ 1 1 [.string s] rfl (by decide) rfl (cell_one_new _ _ _) (fun x hx => by simp at hx; subst hx; rfl) (by unfold maxLen; omega) (by omega) (by simp; omega) ?_; intro v' w' hown' hgr hblk))
            go_roundw
            case rel =>
              have e1 := addN_no HV.out
              refine ⟨addN O' s, t + 1, by omega, by go_num, Lib.hid (by rw [e1]; simpa using hown'), Lib.hid (hgood'.out.addDep homem.out hmem.out), Lib.hid ⟨hst.out.1.add (by have := (List.getElem?_eq_some_iff.1 hst.out.2.1).1; omega) s, addN_get hst.out.2.1, fun z hz => ?_⟩, Lib.hid (fun b hb => ?_), Lib.hid (own_apart (hdep.out.alloc _) (fun g h1 h2 => ?_) hgr), (hbel'.alloc _).grown hgr (fun g h => (hown.out.lt g h).1), ?_⟩
              · rw [take_snoc hsk.out] at hz
                rcases List.mem_append.1 hz with h | h
                · exact mem_addN.2 (.inl (hst.out.2.2 z h))
                · simp at h; subst h; exact mem_addN.2 (.inr rfl)
              · rcases hblk b hb with h | h
                · exact hoff.out b h
                · right; simp at h; omega
              · have h3 := hoff.out g h2
                have h4 := HDF.out g h1
                omega
              · have := hgr.size; simp at this; omega
            case measure => simp [intOf]; omega
        · obtain rfl : t = q := by omega
          go_wp2
          go_roundw
          case rel =>
            refine ⟨O', k + 1, ?_, by go_num, hown, hgood', Lib.hid (hst.out.1.succ hst.out.2.1 (fun s hs => hst.out.2.2 s (by rw [take_all HQ.out]; exact hs))), hbel'⟩
            have := (List.getElem?_eq_some_iff.1 hst.out.2.1).1; omega
          case measure => simp [intOf]; omega
    · have hke : k = O.length := by omega
      have HC := Lib.hid (clo_done hgood.out (by have := hdone.out; rw [hke] at this; exact this.closed))
      have hol2 : O.length ≤ 4000000 := by omega
      have HRO := Lib.hid (rd_of_own hown.out)
      subst hke
      go_wp2_with (go_at_call 147; refine (sortedOnce _ _ _ _ HRO.out hol2).mono ?_; rintro e w2 ⟨v2, rfl, hown2, hb2⟩)
      go_ret
      refine ⟨_, rfl, ?_, hbel.trans hb2⟩
      rw [← HC.out]
      exact ownsRow_base hown2 hbel.size
end Go.Proofs.Ytejgpghcahinhaa
