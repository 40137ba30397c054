/- Texts K3, K4, Y5, J, O, O2, as far as they are needed. -/
import Derived.Test.YtgekgokkbakcmaaGreatSt3
import Derived.Test.YtgekgokkbakcmaaGreatSt1
import Derived.OwnWalk
import Derived.Test.YtgekgokkbakcmaaGreatSt4
import Derived.Test.YtgekgokkbakcmaaGreatSt0
import Derived.Test.YtgekgokkbakcmaaGreatChecked
import Derived.Test.YtgekgokkbakcmaaGreatRows
import Derived.JoinedOf
import Derived.ProofKit
import Derived.OpenShut
import Derived.ShutString
import Derived.ChangeOld
import Derived.Deep.Slices
namespace Go.Proofs.YtgekgokkbakcmaaGreat
open Go.RowKit Go.Sort
set_option linter.unusedVariables false
theorem wpList_append_blk {P : Program} (w : World) {ops : Array Oper} {rest : List Oper} {o : Oper} {a : Act} {Q : Exit → Act → World → Prop} (hgd : o.guard = none) (s x : Operand) (t : TypeId)
    (ho : o.op = .call { callee := .builtin .append, args := #[s, x], argTypes := #[t, t] })
    (base : Nat) (e : TypeId) (i : TypeInfo) (z : Value) (size bytes : Nat) (ht : P.underlying t = some (.slice e)) (hi : P.info? e = some i) (hz : i.zero = some z)
    (hsize : i.size = size) (hby : i.bytes = bytes) (hzs : z.cells.size = size) (hsz : 0 < size)
    (v : Value) (n : Nat) (xs : List Value) (hs : a.eval s = v) (hown : w.ownsRow base e size v n xs)
    (ad : Addr) (m c : Nat) (news : List Value) (hx : a.eval x = .slice (some ad) m c) (hm : 0 < m) (hl : news.length = m * size) (hnews : ∀ j u, news[j]? = some u → w.cell? (ad.add j) = some u) (h1 : ∀ u ∈ news, u.oneCell' = true)
    (h63 : n + m ≤ maxLen) (hbytes : (n + m) * bytes ≤ 140737488355328) (hbase : base ≤ w.heap.size)
    (h : ∀ v' w', w'.ownsRow base e size v' (n + m) (xs ++ news) → w.grownBy w' v.ownBlock → (∀ b, v'.ownBlock = some b → v.ownBlock = some b ∨ w.heap.size ≤ b) → wpList P ops Q rest (a.put o.dst v') w') : wpList P ops Q (o :: rest) a w := by
  have hown0 := hown
  have hrd := rd_of_own hown
  obtain ⟨hl0, ⟨rfl, rfl⟩ | ⟨g, cap, cur, rfl, hg, hh, hr⟩⟩ := hown
  · obtain rfl : xs = [] := List.length_eq_zero_iff.1 (by simpa using hl0)
    refine wpList_append_grows w hgd s x t ho e i z size bytes ht hi hz hsize hby hzs hsz none 0 0 [] hs (fun _ => ⟨rfl, rfl⟩) (by simp) (by simp) ad m c news hx hl hnews h1 (by omega) h63 hbytes ?_
    intro v' w' r1 r2
    exact h v' w' (ownsRow_base r1 hbase) r2 (fun b hb => .inr (r1.lt b hb).1)
  · by_cases hf : n + m ≤ cap
    · refine wpList_append_fits w hgd s x t ho base e i size ht hi hsize g n cap xs hs hown0 ad m c news hx hl hnews h1 hf ?_
      intro w' r1 r2
      exact h _ w' r1 r2 (fun b hb => .inl hb)
    · obtain ⟨a', c', h2, hc, hra⟩ := hrd
      cases h2
      refine wpList_append_grows w hgd s x t ho e i z size bytes ht hi hz hsize hby hzs hsz (some ⟨g, 0, none⟩) n cap xs hs (by simp) hl0 (fun b hb => by cases hb; exact rd_news hra (Grew.refl w)) ad m c news hx hl hnews h1 (by omega) h63 hbytes ?_
      intro v' w' r1 r2
      exact h v' w' (ownsRow_base r1 hbase) ⟨r2.os, r2.tape, r2.output, r2.size, fun k hk _ => r2.block k hk (by simp)⟩ (fun b hb => .inr (r1.lt b hb).1)
theorem own_apart {w w' : World} {b0 : Nat} {e : TypeId} {k n : Nat} {u v : Value} {cs : List Value} (h : w.ownsRow b0 e k u n cs) (hd : ∀ g, u.ownBlock = some g → v.ownBlock ≠ some g) (hg : w.grownBy w' v.ownBlock) : w'.ownsRow b0 e k u n cs := by
  refine h.kept hg ?_
  cases hb : u.ownBlock with
  | none => exact .inl rfl
  | some g => exact .inr (fun h3 => hd g hb h3.symm)
def Off (v : Value) (lo hi : Nat) : Prop := ∀ b, v.ownBlock = some b → b < lo ∨ hi ≤ b
theorem hasB_so {L : List ByteArray} {s : ByteArray} : hasB (so L) s = hasB L s := by
  rw [Bool.eq_iff_iff, hasB_iff, hasB_iff, mem_so]
theorem RdS.rd {w : World} {v : Value} {xs : List ByteArray} (h : RdS w v xs) : Rd w v 1 xs.length (strs xs) := by
  obtain ⟨ad, c, rfl, h1, h2⟩ := h
  exact ⟨_, _, rfl, h1, h2⟩
theorem Rd.rda1 {w : World} {a : Option Addr} {k n c : Nat} {cs : List Value} (h : Rd w (.slice a n c) k n cs) : RdA w a k n cs := by
  obtain ⟨a', c', h1, _, h2⟩ := h
  cases h1
  exact h2
set_option maxRecDepth 100000 in
set_option maxHeartbeats 2000000 in
theorem specTransDep (va vb : Value) (xs : List Dr) (ns : List ByteArray) (w : World) (ha : RdDs w va xs) (hb : Rd w vb 1 ns.length (strs ns)) (hx : xs.length + ns.length ≤ 3900000) (hs : ∀ x, x ∈ xs → x.small) :
    Calls Tryz.prog 132 #[va, vb] w fun e w' => ∃ v, e = .returned v ∧ w'.ownsRow w.heap.size 9 1 v (clo xs ns).length (strs (clo xs ns)) ∧ Grew w w' := by
  obtain ⟨qs, ⟨a, ca, rfl, hca, hra⟩, hall⟩ := ha
  obtain ⟨bn, cb, rfl, hcb, hrb⟩ := hb
  have HA := Lib.hid hall
  have HS := Lib.hid hs
  clear hall hs
  generalize hn : xs.length = n at hx hra hca
  generalize hm : ns.length = m at hx hrb hcb
  have HX := Lib.hid hn
  have HN := Lib.hid hm
  clear hn hm
  have HG := Lib.hid (fun r i => show (so (midL xs ns r i)).length ≤ 4000000 from Nat.le_trans (so_len _) (by have := (Good.mid (xs := xs) (ns := ns) r i).le; have := HX.out; have := HN.out; omega))
  obtain ⟨i0, hi, hz0, hz1, hz2⟩ := info_parts Tryz.infoString
  go_enter Tryz.func132, Tryz.ntmps132
  go_wp2
  go_loopw [5, 6] (fun v i wr => ∃ k : Nat, k ≤ m ∧ i = .int .i64 k ∧ Hid (RdS wr v (so (ns.take k))) ∧ Grew w wr) (fun _ i _ => m - (intOf i).toNat)
  case atStart => exact ⟨0, Nat.zero_le _, rfl, Lib.hid (rds_of_own (xs := []) (lit_own w 9 1) (by simp)), (Grew.refl _).alloc _⟩
  case round =>
    obtain ⟨k, hk, rfl, hrd, hbel⟩ := hrel
    by_cases hlt : k < m
    · obtain ⟨b1, o1, y, rfl, hyk, c0⟩ := (hrb.grew hbel).one hlt
      have hsl : (so (ns.take k)).length ≤ 4000000 := Nat.le_trans (so_len _) (by rw [List.length_take]; omega)
      go_wp2_with (go_at_call 139; refine (l04Put _ _ y _ hrd.out hsl).mono ?_; rintro e w2 ⟨v2, rfl, hrd2, hb2⟩; have HR2 := Lib.hid hrd2; clear hrd2)
      go_roundw
      case rel =>
        refine ⟨k + 1, by omega, by go_num, Lib.hid ?_, hbel.trans hb2⟩
        rw [take_snoc hyk.out, so_snoc]; exact HR2.out
      case measure => simp [intOf]; omega
    · obtain rfl : k = m := by omega
      have H1 := Lib.hid (show RdS wr _ (so (passes xs ns 0)) by have h1 := hrd.out; rw [take_all HN.out] at h1; exact h1)
      clear hrd
      obtain ⟨W1, rfl⟩ : ∃ x, x = wr := ⟨_, rfl⟩
      go_wp2
      go_loopw [5, 7] (fun v i wr => ∃ r : Nat, r ≤ n + 1 ∧ i = .int .i64 r ∧ Hid (RdS wr v (so (passes xs ns r))) ∧ Grew W1 wr) (fun _ i _ => n + 1 - (intOf i).toNat)
      case atStart => exact ⟨0, Nat.zero_le _, rfl, H1, Grew.refl _⟩
      case round =>
        obtain ⟨r, hr, rfl, hrd, hg2⟩ := hrel
        by_cases hlr : r ≤ n
        · obtain ⟨W2, rfl⟩ : ∃ x, x = wr := ⟨_, rfl⟩
          have hbel2 := hbel.trans hg2
          go_wp2
          go_loopw [5, 8] (fun v i wr => ∃ j : Nat, j ≤ n ∧ i = .int .i64 j ∧ Hid (RdS wr v (so (midL xs ns r j))) ∧ Grew W2 wr) (fun _ i _ => n - (intOf i).toNat)
          case atStart => exact ⟨0, Nat.zero_le _, rfl, hrd, Grew.refl _⟩
          case round =>
            obtain ⟨j, hj, rfl, hrd3, hg3⟩ := hrel
            by_cases hlj : j < n
            · obtain ⟨b1, o1, p, rfl, hpk, c0, c1⟩ := (hra.grew (hbel2.trans hg3)).getP2 hlj
              obtain ⟨x, hxk, hxr⟩ := HA.out.get hpk.out
              have hmem := Lib.hid (List.mem_of_getElem? hxk.out)
              have hxs := HS.out x hmem.out
              unfold Dr.small at hxs
              obtain ⟨pn, pq⟩ := p
              obtain ⟨hxn, hxq⟩ := hxr
              simp only at hxn hxq c0 c1
              subst hxn
              have HQ := Lib.hid hxq
              clear hxq
              have hql : (qDirs x.query).length ≤ 4000000 := by have := qDirs_le x.query; omega
              obtain ⟨W3, rfl⟩ : ∃ x, x = wr := ⟨_, rfl⟩
              go_wp2_with (go_at_call 174; refine (specQueryDirs _ x.query.length x.query _ (HQ.out.grew (hbel2.trans hg3)) hxs).mono ?_; rintro e w4 ⟨v4, rfl, hq4, hb4⟩; obtain ⟨qa, qc, rfl⟩ := own_slice hq4; have HQ4 := Lib.hid (rd_of_own hq4).rda1; clear hq4)
              have HL3 := Lib.hid (show RdS w4 _ (so (askL (midL xs ns r j) x 0)) by rw [askL_zero]; exact hrd3.out.grew hb4)
              have c0' := grew_cell hb4 c0
              clear hrd3 c0 c1
              generalize hql2 : (qDirs x.query).length = q at HQ4 hql
              have HQL := Lib.hid hql2
              clear hql2
              go_loopw [5, 10] (fun v i wr => ∃ t : Nat, t ≤ q ∧ i = .int .i64 t ∧ Hid (RdS wr v (so (askL (midL xs ns r j) x t))) ∧ Grew w4 wr) (fun _ i _ => q - (intOf i).toNat)
              case atStart => exact ⟨0, Nat.zero_le _, rfl, HL3, Grew.refl _⟩
              case round =>
                obtain ⟨t, ht, rfl, hrd5, hg5⟩ := hrel
                by_cases hlt2 : t < q
                · obtain ⟨b2, o2, s, rfl, hsk, d0⟩ := (HQ4.out.grew hg5).one hlt2
                  have c5 := grew_cell hg5 c0'
                  have hsl : (so (askL (midL xs ns r j) x t)).length ≤ 4000000 := Nat.le_trans (so_len _) (by have := ((Good.mid (xs := xs) (ns := ns) r j).ask hmem.out t).le; have := HX.out; have := HN.out; omega)
                  obtain ⟨v, hv⟩ : ∃ v, hasB (askL (midL xs ns r j) x t) s = v := ⟨_, rfl⟩
                  have HV := Lib.hid hv
                  clear hv
                  have hcs : v = true ∨ v = false := by cases v <;> simp
                  have HRD := Lib.hid hrd5.out.rd
                  rcases hcs with rfl | rfl
                  · go_wp2_with (first | (go_at_call 81; refine (l12Has _ _ _ s _ HRD.out hsl).mono ?_; rintro e w5 ⟨he, rfl⟩; rw [hasB_so, HV.out] at he; subst he) | (go_at_call 139; refine (l04Put _ _ x.name _ hrd5.out hsl).mono ?_; rintro e w6 ⟨v2, rfl, hrd2, hb2⟩; have HR2 := Lib.hid hrd2; clear hrd2))
                    go_roundw
                    case rel =>
                      refine ⟨t + 1, by omega, by go_num, Lib.hid ?_, hg5.trans hb2⟩
                      rw [askL_yes hsk.out HV.out]; exact HR2.out
                    case measure => simp [intOf]; omega
                  · go_wp2_with (go_at_call 81; refine (l12Has _ _ _ s _ HRD.out hsl).mono ?_; rintro e w5 ⟨he, rfl⟩; rw [hasB_so, HV.out] at he; subst he)
                    go_roundw
                    case rel =>
                      refine ⟨t + 1, by omega, by go_num, Lib.hid ?_, hg5⟩
                      rw [askL_no hsk.out HV.out]; exact hrd5.out
                    case measure => simp [intOf]; omega
                · obtain rfl : t = q := by omega
                  go_wp2
                  go_roundw
                  case rel =>
                    refine ⟨j + 1, by omega, by go_num, Lib.hid ?_, (hg3.trans hb4).trans hg5⟩
                    rw [midL_succ ns r hxk.out, ← askL_all HQL.out]; exact hrd5.out
                  case measure => simp [intOf]; omega
            · obtain rfl : j = n := by omega
              go_wp2
              go_roundw
              case rel =>
                refine ⟨r + 1, by omega, by go_num, Lib.hid ?_, hg2.trans hg3⟩
                rw [← midL_all ns r HX.out]; exact hrd3.out
              case measure => simp [intOf]; omega
        · obtain rfl : r = n + 1 := by omega
          have h1 := hrd.out
          rw [← HX.out, so_passes] at h1
          have hbel2 := hbel.trans hg2
          have hql : (clo xs ns).length ≤ 4000000 := by have := clo_len xs ns; have := HX.out; have := HN.out; omega
          obtain ⟨ad, c, rfl, hc, hr⟩ := h1
          have HR := Lib.hid hr
          clear hr hrd
          generalize hL : (clo xs ns).length = L at hc HR hql
          have HL := Lib.hid hL
          clear hL
          go_wp2_with (at_builtin; refine wpList_append_own _ rfl _ _ 44 rfl wr.heap.size 9 i0 (.string ⟨#[]⟩) 1 16 Tryz.underlying44 hi hz0 hz1 hz2 rfl (by decide) _ 0 [] rfl (lit_own wr 9 1) _ L _ (strs (clo xs ns)) rfl (by rw [List.length_map, HL.out, Nat.mul_one]) (rd_news HR.out ((Grew.refl _).alloc _)) (one_strs _) (by unfold maxLen; omega) (by omega) (by simp) ?_)
          intro v' w' hown' hgr _
          go_wp2
          go_ret
          refine ⟨_, rfl, ?_, (hbel2.alloc _).grown hgr (fun k h => by cases h; exact hbel2.size)⟩
          rw [HL.out]
          exact ownsRow_base (by simpa using hown') hbel2.size
set_option maxRecDepth 100000 in
set_option maxHeartbeats 2000000 in
theorem implTransDep (va vb : Value) (xs : List Dr) (ns : List ByteArray) (w : World) (ha : RdDs w va xs) (hb : Rd w vb 1 ns.length (strs ns)) (hx : xs.length + ns.length ≤ 3900000) (hs : ∀ x, x ∈ xs → x.small) :
    Calls Tryz.prog 130 #[va, vb] w fun e w' => ∃ v, e = .returned v ∧ w'.ownsRow w.heap.size 9 1 v (clo xs ns).length (strs (clo xs ns)) ∧ Grew w w' := by
  have HD := Lib.hid ha
  have HB := Lib.hid hb
  have HS := Lib.hid hs
  obtain ⟨qs, ⟨a, ca, rfl, hca, hra⟩, hall⟩ := ha
  obtain ⟨bn, cb, rfl, hcb, hrb⟩ := hb
  clear hall hs hra hrb
  obtain ⟨i0, hi, hz0, hz1, hz2⟩ := info_parts Tryz.infoString
  generalize hn : xs.length = n at hx hca
  generalize hm : ns.length = m at hx hcb
  have HX := Lib.hid hn
  have HN := Lib.hid hm
  have HB2 := Lib.hid (show Rd w (.slice bn m cb) 1 m (strs ns) by have := HB.out; rw [hm] at this; exact this)
  clear hm HB
  have HD2 := Lib.hid (show RdDs w (.slice a n ca) xs by have := HD.out; rw [hn] at this; exact this)
  clear HD hn
  go_enter Tryz.func130, Tryz.ntmps130
  go_wp2_with fail
  refine (slCloneStr _ m ns _ HB2.out (by omega)).mono ?_
  rintro e w1 ⟨v1, rfl, ho1, hb1⟩
  have HO1 := Lib.hid (show w1.ownsRow w.heap.size 9 1 v1 ns.length (strs ns) by rw [HN.out]; exact ho1)
  clear ho1
  go_wp2
  go_loopw [5, 6] (fun v i wr => ∃ (O : List ByteArray) (k : Nat), k ≤ O.length ∧ i = .int .i64 k ∧ Hid (wr.ownsRow w.heap.size 9 1 v O.length (strs O)) ∧ Hid (Good xs ns O) ∧ Hid (DoneUp xs O k) ∧ Grew w wr) (fun _ i _ => n + m - (intOf i).toNat)
  case atStart => exact ⟨ns, 0, Nat.zero_le _, rfl, HO1, Lib.hid (Good.start xs ns), Lib.hid (DoneUp.start xs ns), hb1⟩
  case round =>
    obtain ⟨O, k, hk, rfl, hown, hgood, hdone, hbel⟩ := hrel
    have hol : O.length ≤ n + m := by have := hgood.out.le; have := HX.out; have := HN.out; omega
    obtain ⟨oa, oc, rfl⟩ := own_slice hown.out
    by_cases hlt : k < O.length
    · obtain ⟨b1, o1, o, rfl, hok, c0⟩ := (rd_of_own hown.out).rda1.one hlt
      have hlt2 : (k : Int) < (O.length : Int) := by omega
      obtain ⟨W1, rfl⟩ : ∃ x, x = wr := ⟨_, rfl⟩
      have hdl : (dep xs o).length ≤ 4000000 := by have := dep_le xs o; have := HX.out; omega
      go_wp2_with (go_at_call 129; refine (implDependents _ xs o _ (HD2.out.grew hbel) (by have := HX.out; omega) HS.out).mono ?_; rintro e w4 ⟨v4, rfl, hd4, hb4⟩; obtain ⟨da, dc, rfl⟩ := own_slice hd4; have HD4 := Lib.hid hd4; clear hd4)
      have HOF := Lib.hid (show Off (.slice (some ⟨b1, o1, none⟩) O.length oc) W1.heap.size w4.heap.size from fun b hb => .inl (hown.out.lt b hb).2)
      have HDF := Lib.hid (fun g (hg : Value.ownBlock (.slice da (dep xs o).length dc) = some g) => HD4.out.lt g hg)
      have HO4 := Lib.hid (ownsRow_grew hown.out hb4)
      have HO4k := Lib.hid (show O[k]? = some o from hok.out)
      have HSZ := Lib.hid (show W1.heap.size ≤ w4.heap.size from hb4.size)
      have hgw4 := hbel.trans hb4
      generalize hq : (dep xs o).length = q at HD4 hdl HDF
      have HQ := Lib.hid hq
      clear hq c0 hown
      go_loopw [5, 24] (fun v i wr => ∃ (O' : List ByteArray) (t : Nat), t ≤ q ∧ i = .int .i64 t ∧ Hid (wr.ownsRow w.heap.size 9 1 v O'.length (strs O')) ∧ Hid (Good xs ns O') ∧ Hid (DoneUp xs O' k ∧ O'[k]? = some o ∧ ∀ s, s ∈ (dep xs o).take t → s ∈ O') ∧ Hid (Off v W1.heap.size w4.heap.size) ∧ Hid (wr.ownsRow W1.heap.size 9 1 (.slice da q dc) q (strs (dep xs o))) ∧ Grew w wr ∧ w4.heap.size ≤ wr.heap.size) (fun _ i _ => q - (intOf i).toNat)
      case atStart => exact ⟨O, 0, Nat.zero_le _, rfl, HO4, hgood, Lib.hid ⟨hdone.out, HO4k.out, fun s hs => by simp at hs⟩, HOF, HD4, hgw4, Nat.le_refl _⟩
      case round =>
        obtain ⟨O', t, ht, rfl, hown, hgood', hst, hoff, hdep, hbel', hsz⟩ := hrel
        have hol' : O'.length ≤ n + m := by have := hgood'.out.le; have := HX.out; have := HN.out; omega
        by_cases hlt3 : t < q
        · obtain ⟨b2, o2, s, hda, hsk, d0⟩ := (rd_of_own hdep.out).rda1.one hlt3
          subst hda
          obtain ⟨v, hv⟩ : ∃ v, hasB O' s = v := ⟨_, rfl⟩
          have HV := Lib.hid hv
          clear hv
          have hcs : v = true ∨ v = false := by cases v <;> simp
          have HRD := Lib.hid (rd_of_own hown.out)
          have hmem := Lib.hid (List.mem_of_getElem? hsk.out)
          have homem := Lib.hid (List.mem_of_getElem? hst.out.2.1)
          rcases hcs with rfl | rfl
          · go_wp2_with (go_at_call 77; refine (slContainsStr _ _ O' s _ HRD.out (by omega)).mono ?_; rintro e w5 ⟨he, rfl⟩; rw [HV.out] at he; subst he)
            go_roundw
            case rel =>
              refine ⟨O', t + 1, by omega, by go_num, hown, hgood', Lib.hid ⟨hst.out.1, hst.out.2.1, fun z hz => ?_⟩, hoff, hdep, hbel', hsz⟩
              rw [take_snoc hsk.out] at hz
              rcases List.mem_append.1 hz with h | h
              · exact hst.out.2.2 z h
              · simp at h; subst h; exact hasB_iff.1 HV.out
            case measure => simp [intOf]; omega
          · have hbs : w.heap.size ≤ wr.heap.size := hbel'.size
            go_wp2_with (first | (go_at_call 77; refine (slContainsStr _ _ O' s _ HRD.out (by omega)).mono ?_; rintro e w5 ⟨he, rfl⟩; rw [HV.out] at he; subst he) | (at_builtin; refine wpList_append_blk _ rfl _ _ 44 rfl w.heap.size 9 i0 (.string ⟨#[]⟩) 1 16 Tryz.underlying44 hi hz0 hz1 hz2 rfl (by decide) _ _ _ rfl (hown.out.alloc _) ⟨_, 0, none⟩ 1 1 [.string s] rfl (by decide) rfl (cell_one_new _ _ _) (fun x hx => by simp at hx; subst hx; rfl) (by unfold maxLen; omega) (by omega) (by simp; omega) ?_; intro v' w' hown' hgr hblk))
            go_roundw
            case rel =>
              have e1 := addN_no HV.out
              refine ⟨addN O' s, t + 1, by omega, by go_num, Lib.hid (by rw [e1]; simpa using hown'), Lib.hid (hgood'.out.addDep homem.out hmem.out), Lib.hid ⟨hst.out.1.add (by have := (List.getElem?_eq_some_iff.1 hst.out.2.1).1; omega) s, addN_get hst.out.2.1, fun z hz => ?_⟩, Lib.hid (fun b hb => ?_), Lib.hid (own_apart (hdep.out.alloc _) (fun g h1 h2 => ?_) hgr), (hbel'.alloc _).grown hgr (fun g h => (hown.out.lt g h).1), ?_⟩
              · rw [take_snoc hsk.out] at hz
                rcases List.mem_append.1 hz with h | h
                · exact mem_addN.2 (.inl (hst.out.2.2 z h))
                · simp at h; subst h; exact mem_addN.2 (.inr rfl)
              · rcases hblk b hb with h | h
                · exact hoff.out b h
                · right; simp at h; omega
              · have h3 := hoff.out g h2
                have h4 := HDF.out g h1
                omega
              · have := hgr.size; simp at this; omega
            case measure => simp [intOf]; omega
        · obtain rfl : t = q := by omega
          go_wp2
          go_roundw
          case rel =>
            refine ⟨O', k + 1, ?_, by go_num, hown, hgood', Lib.hid (hst.out.1.succ hst.out.2.1 (fun s hs => hst.out.2.2 s (by rw [take_all HQ.out]; exact hs))), hbel'⟩
            have := (List.getElem?_eq_some_iff.1 hst.out.2.1).1; omega
          case measure => simp [intOf]; omega
    · have hke : k = O.length := by omega
      have HC := Lib.hid (clo_done hgood.out (by have := hdone.out; rw [hke] at this; exact this.closed))
      have hol2 : O.length ≤ 4000000 := by omega
      have HRO := Lib.hid (rd_of_own hown.out)
      subst hke
      go_wp2_with (go_at_call 171; refine (sortedOnce _ _ _ _ HRO.out hol2).mono ?_; rintro e w2 ⟨v2, rfl, hown2, hb2⟩)
      go_ret
      refine ⟨_, rfl, ?_, hbel.trans hb2⟩
      rw [← HC.out]
      exact ownsRow_base hown2 hbel.size
end Go.Proofs.YtgekgokkbakcmaaGreat
namespace Go.Proofs.YtgekgokkbakcmaaGreat
open Go.RowKit Go.Sort
set_option linter.unusedVariables false
theorem rd_lit1 (w : World) (y : ByteArray) : Rd (w.alloc (.cells #[.string y] 9)) (.slice (some ⟨w.heap.size, 0, none⟩) 1 1) 1 [y].length (strs [y]) := by
  refine ⟨_, 1, rfl, Nat.le_refl _, by simp, fun _ => ⟨_, 0, rfl, fun j hj => ?_⟩⟩
  have : j = 0 := by simp at hj; exact hj
  subst this
  simp
set_option maxRecDepth 100000 in
set_option maxHeartbeats 1000000 in
theorem specAsks (va : Value) (xs : List Dr) (f t : ByteArray) (w : World) (ha : RdDs w va xs) (hx : xs.length ≤ 1900000) (hs : ∀ x, x ∈ xs → x.small) :
    Calls Tryz.prog 80 #[va, .string f, .string t] w fun e w' => e = .returned (.bool (asksB xs f t)) ∧ Grew w w' := by
  have HD := Lib.hid ha
  have HS := Lib.hid hs
  obtain ⟨qs, ⟨a, ca, rfl, hca, hra⟩, hall⟩ := ha
  clear hall hs hra
  have hdl := dep_le xs t
  have hcl := clo_len xs (dep xs t)
  go_enter Tryz.func80, Tryz.ntmps80
  go_wp2_with fail
  refine (specDependents _ xs t _ HD.out (by omega) HS.out).mono ?_
  rintro e w1 ⟨v1, rfl, h1, hb1⟩
  have H1 := Lib.hid (rd_of_own h1)
  obtain ⟨xa, xc, rfl⟩ := own_slice h1
  clear h1
  go_wp2_with fail
  refine (specTransDep _ _ xs (dep xs t) _ (HD.out.grew hb1) H1.out (by omega) HS.out).mono ?_
  rintro e w2 ⟨v2, rfl, h2, hb2⟩
  have H2 := Lib.hid (rd_of_own h2)
  obtain ⟨ya, yc, rfl⟩ := own_slice h2
  clear h2
  go_wp2_with fail
  refine (l12Has _ _ (clo xs (dep xs t)) f _ H2.out (by omega)).mono ?_
  rintro e w3 ⟨rfl, rfl⟩
  go_wp2
  go_ret
  exact ⟨rfl, hb1.trans hb2⟩
theorem any_snoc_no {α : Type} {p : α → Bool} {l : List α} {k : Nat} {x : α} (h : (l.take k).any p = false) (hx : l[k]? = some x) (hp : p x = false) : (l.take (k + 1)).any p = false := by
  rw [take_snoc hx, List.any_append, h]; simp [hp]
theorem any_yes {α : Type} {p : α → Bool} {l : List α} {k : Nat} {x : α} (hx : l[k]? = some x) (hp : p x = true) : l.any p = true := List.any_eq_true.2 ⟨x, List.mem_of_getElem? hx, hp⟩
set_option maxRecDepth 100000 in
set_option maxHeartbeats 1000000 in
theorem implDependsOn (va : Value) (xs : List Dr) (f t : ByteArray) (w : World) (ha : RdDs w va xs) (hx : xs.length ≤ 1900000) (hs : ∀ x, x ∈ xs → x.small) :
    Calls Tryz.prog 78 #[va, .string f, .string t] w fun e w' => e = .returned (.bool (asksB xs f t)) ∧ Grew w w' := by
  have HD := Lib.hid ha
  have HS := Lib.hid hs
  obtain ⟨qs, ⟨a, ca, rfl, hca, hra⟩, hall⟩ := ha
  clear hall hs hra
  have hdl := dep_le xs t
  go_enter Tryz.func78, Tryz.ntmps78
  go_wp2_with fail
  refine (implDependents _ xs t _ HD.out (by omega) HS.out).mono ?_
  rintro e w1 ⟨v1, rfl, h1, hb1⟩
  have H1 := Lib.hid (rd_of_own h1)
  obtain ⟨da, dc, rfl⟩ := own_slice h1
  clear h1
  have HDA := Lib.hid H1.out.rda1
  clear H1
  generalize hq : (dep xs t).length = q at HDA hdl
  have HQ := Lib.hid hq
  clear hq
  go_wp2
  go_loopw [13] (fun i wr => ∃ k : Nat, k ≤ q ∧ i = .int .i64 k ∧ Hid (((dep xs t).take k).any (fun y => hasB (clo xs [y]) f) = false) ∧ Grew w1 wr) (fun i _ => q - (intOf i).toNat)
  case atStart => exact ⟨0, Nat.zero_le _, rfl, Lib.hid (by simp), Grew.refl _⟩
  case round =>
    obtain ⟨k, hk, rfl, hno, hg2⟩ := hrel
    by_cases hlt : k < q
    · obtain ⟨b2, o2, y, rfl, hyk, d0⟩ := (HDA.out.grew hg2).one hlt
      have hcl := clo_len xs [y]
      simp only [List.length_singleton] at hcl
      obtain ⟨v, hv⟩ : ∃ v, hasB (clo xs [y]) f = v := ⟨_, rfl⟩
      have HV := Lib.hid hv
      clear hv
      have hal := (Grew.refl wr).alloc (.cells #[.string y] 9)
      have hgw := (hb1.trans hg2).trans hal
      have hcs : v = true ∨ v = false := by cases v <;> simp
      rcases hcs with rfl | rfl
      · go_wp2_with (first | (go_at_call 130; refine (implTransDep _ _ xs [y] _ (HD.out.grew hgw) (rd_lit1 wr y) (by simp; omega) HS.out).mono ?_; rintro e w2 ⟨v2, rfl, h2, hb2⟩; have H2 := Lib.hid (rd_of_own h2); obtain ⟨ya, yc, rfl⟩ := own_slice h2; clear h2) | (go_at_call 77; refine (slContainsStr _ _ (clo xs [y]) f _ H2.out (by omega)).mono ?_; rintro e w5 ⟨he, rfl⟩; rw [HV.out] at he; subst he))
        go_ret
        exact ⟨ret_bool (by rw [asks_any]; exact (any_yes hyk.out HV.out).symm), hgw.trans hb2⟩
      · go_wp2_with (first | (go_at_call 130; refine (implTransDep _ _ xs [y] _ (HD.out.grew hgw) (rd_lit1 wr y) (by simp; omega) HS.out).mono ?_; rintro e w2 ⟨v2, rfl, h2, hb2⟩; have H2 := Lib.hid (rd_of_own h2); obtain ⟨ya, yc, rfl⟩ := own_slice h2; clear h2) | (go_at_call 77; refine (slContainsStr _ _ (clo xs [y]) f _ H2.out (by omega)).mono ?_; rintro e w5 ⟨he, rfl⟩; rw [HV.out] at he; subst he))
        go_roundw
        case rel => exact ⟨k + 1, by omega, by go_num, Lib.hid (any_snoc_no hno.out hyk.out HV.out), (hg2.trans hal).trans hb2⟩
        case measure => simp [intOf]; omega
    · obtain rfl : k = q := by omega
      go_wp2
      go_ret
      exact ⟨ret_bool (by rw [asks_any]; have := hno.out; rw [take_all HQ.out] at this; exact this.symm), hb1.trans hg2⟩
def namesIf (p : ByteArray → Bool) (zs : List Dr) : List ByteArray := (zs.filter fun x => p x.name).map Dr.name
theorem namesIf_yes {p : ByteArray → Bool} {xs : List Dr} {k : Nat} {x : Dr} (h : xs[k]? = some x) (hh : p x.name = true) : namesIf p (xs.take (k + 1)) = namesIf p (xs.take k) ++ [x.name] := by
  rw [take_snoc h]; unfold namesIf; rw [List.filter_append, List.map_append]; simp [hh]
theorem namesIf_no {p : ByteArray → Bool} {xs : List Dr} {k : Nat} {x : Dr} (h : xs[k]? = some x) (hh : p x.name = false) : namesIf p (xs.take (k + 1)) = namesIf p (xs.take k) := by
  rw [take_snoc h]; unfold namesIf; rw [List.filter_append, List.map_append]; simp [hh]
theorem namesIf_le (p : ByteArray → Bool) (xs : List Dr) : (namesIf p xs).length ≤ xs.length := by
  unfold namesIf; rw [List.length_map]; exact List.length_filter_le _ _
theorem namesIf_tk (p : ByteArray → Bool) (xs : List Dr) (k : Nat) : (namesIf p (xs.take k)).length ≤ k := Nat.le_trans (namesIf_le _ _) (by rw [List.length_take]; omega)
noncomputable def recP (xs : List Dr) (s : ByteArray) : Bool := asksB xs s s
noncomputable def unsQ (xs : List Dr) (s : ByteArray) (y : Dr) : Bool := (y.name.toList == s.toList || asksB xs s y.name) && hasB (depsL y.query true) s
noncomputable def unsP (xs : List Dr) (s : ByteArray) : Bool := xs.any (unsQ xs s)
set_option maxRecDepth 100000 in
set_option maxHeartbeats 2000000 in
theorem specRecursiveDirs (va : Value) (xs : List Dr) (w : World) (ha : RdDs w va xs) (hx : xs.length ≤ 1900000) (hs : ∀ x, x ∈ xs → x.small) :
    Calls Tryz.prog 25 #[va] w fun e w' => ∃ v, e = .returned v ∧ w'.ownsRow w.heap.size 9 1 v (namesIf (recP xs) xs).length (strs (namesIf (recP xs) xs)) ∧ Grew w w' := by
  have HD := Lib.hid ha
  have HS := Lib.hid hs
  obtain ⟨qs, ⟨a, ca, rfl, hca, hra⟩, hall⟩ := ha
  have HA := Lib.hid hall
  clear hall hs
  have HX0 := Lib.hid hx
  generalize hn : xs.length = n at hx hra
  have HX := Lib.hid hn
  have HD2 := Lib.hid (show RdDs w (.slice a n ca) xs by have := HD.out; rw [hn] at this; exact this)
  clear hn HD
  obtain ⟨i0, hi, hz0, hz1, hz2⟩ := info_parts Tryz.infoString
  go_enter Tryz.func25, Tryz.ntmps25
  go_wp2
  go_loopw [3, 4] (fun v i wr => ∃ k : Nat, k ≤ n ∧ i = .int .i64 k ∧ Hid (wr.ownsRow w.heap.size 9 1 v (namesIf (recP xs) (xs.take k)).length (strs (namesIf (recP xs) (xs.take k)))) ∧ Grew w wr) (fun _ i _ => n - (intOf i).toNat)
  case atStart => exact ⟨0, Nat.zero_le _, rfl, Lib.hid (lit_own w 9 1), (Grew.refl _).alloc _⟩
  case round =>
    obtain ⟨k, hk, rfl, hown, hbel⟩ := hrel
    have hnl := namesIf_tk (recP xs) xs k
    by_cases hlt : k < n
    · obtain ⟨b1, o1, p, rfl, hpk, c0, c1⟩ := (hra.grew hbel).getP2 hlt
      obtain ⟨x, hxk, hxr⟩ := HA.out.get hpk.out
      obtain ⟨pn, pq⟩ := p
      obtain ⟨hxn, hxq⟩ := hxr
      simp only at hxn hxq c0 c1
      subst hxn
      clear hxq
      obtain ⟨v, hv⟩ : ∃ v, asksB xs x.name x.name = v := ⟨_, rfl⟩
      have HV := Lib.hid hv
      clear hv
      have hcs : v = true ∨ v = false := by cases v <;> simp
      rcases hcs with rfl | rfl
      · have hk0 := hk
        go_wp2_with fail
        refine wp_region_noPanic ?_
        refine wp_region_held_drew (S := (fun w' => (w'.cell? ⟨b1, o1 + k * 2, none⟩ = some (.string x.name) ∧ Grew wr w'))) (by kernel_rfl) ?h1_S ?h1_r
        case h1_S => exact ⟨grew_cell (Grew.refl _).drew c0, (Grew.refl _).drew⟩
        case h1_r =>
          intro HS_
          first
            | refine sk 0 rfl (by kernel_rfl) rfl HS_ ?_
            | (refine tk (v := ?v1_0) 0 rfl (by kernel_rfl) rfl ?y1_0 HS_ ?_; case y1_0 => (intro w' hSw; (try dsimp only at hSw); go_simp <;> (with_reducible rfl)))
          try simp only [Act.put, List.setIfInBounds_toArray, List.set_cons_zero, List.set_cons_succ]
          first
            | refine sk 1 rfl (by kernel_rfl) rfl HS_ ?_
            | (refine tk (v := ?v1_1) 1 rfl (by kernel_rfl) rfl ?y1_1 HS_ ?_; case y1_1 => (intro w' hSw; (try dsimp only at hSw); go_simp <;> (with_reducible rfl)))
          try simp only [Act.put, List.setIfInBounds_toArray, List.set_cons_zero, List.set_cons_succ]
          first
            | refine sk 2 rfl (by kernel_rfl) rfl HS_ ?_
            | (refine tk (v := ?v1_2) 2 rfl (by kernel_rfl) rfl ?y1_2 HS_ ?_; case y1_2 => (intro w' hSw; (try dsimp only at hSw); go_simp <;> (with_reducible rfl)))
          try simp only [Act.put, List.setIfInBounds_toArray, List.set_cons_zero, List.set_cons_succ]
          first
            | refine sk 3 rfl (by kernel_rfl) rfl HS_ ?_
            | (refine tk (v := ?v1_3) 3 rfl (by kernel_rfl) rfl ?y1_3 HS_ ?_; case y1_3 => (intro w' hSw; (try dsimp only at hSw); go_simp <;> (with_reducible rfl)))
          try simp only [Act.put, List.setIfInBounds_toArray, List.set_cons_zero, List.set_cons_succ]
          first
            | refine sk 4 rfl (by kernel_rfl) rfl HS_ ?_
            | (refine tk (v := ?v1_4) 4 rfl (by kernel_rfl) rfl ?y1_4 HS_ ?_; case y1_4 => (intro w' hSw; (try dsimp only at hSw); go_simp <;> (with_reducible rfl)))
          try simp only [Act.put, List.setIfInBounds_toArray, List.set_cons_zero, List.set_cons_succ]
          first
            | refine sk 5 rfl (by kernel_rfl) rfl HS_ ?_
            | (refine tk (v := ?v1_5) 5 rfl (by kernel_rfl) rfl ?y1_5 HS_ ?_; case y1_5 => (intro w' hSw; (try dsimp only at hSw); go_simp <;> (with_reducible rfl)))
          try simp only [Act.put, List.setIfInBounds_toArray, List.set_cons_zero, List.set_cons_succ]
          first
            | refine sk 6 rfl (by kernel_rfl) rfl HS_ ?_
            | (refine tk (v := ?v1_6) 6 rfl (by kernel_rfl) rfl ?y1_6 HS_ ?_; case y1_6 => (intro w' hSw; (try dsimp only at hSw); go_simp <;> (with_reducible rfl)))
          try simp only [Act.put, List.setIfInBounds_toArray, List.set_cons_zero, List.set_cons_succ]
          first
            | refine sk 7 rfl (by kernel_rfl) rfl HS_ ?_
            | (refine tk (v := ?v1_7) 7 rfl (by kernel_rfl) rfl ?y1_7 HS_ ?_; case y1_7 => (intro w' hSw; (try dsimp only at hSw); go_simp <;> (with_reducible rfl)))
          try simp only [Act.put, List.setIfInBounds_toArray, List.set_cons_zero, List.set_cons_succ]
          first
            | refine sk 8 rfl (by kernel_rfl) rfl HS_ ?_
            | (refine tk (v := ?v1_8) 8 rfl (by kernel_rfl) rfl ?y1_8 HS_ ?_; case y1_8 => (intro w' hSw; (try dsimp only at hSw); go_simp <;> (with_reducible rfl)))
          try simp only [Act.put, List.setIfInBounds_toArray, List.set_cons_zero, List.set_cons_succ]
          first
            | refine sk 9 rfl (by kernel_rfl) rfl HS_ ?_
            | (refine tk (v := ?v1_9) 9 rfl (by kernel_rfl) rfl ?y1_9 HS_ ?_; case y1_9 => (intro w' hSw; (try dsimp only at hSw); go_simp <;> (with_reducible rfl)))
          try simp only [Act.put, List.setIfInBounds_toArray, List.set_cons_zero, List.set_cons_succ]
          first
            | refine sk 10 rfl (by kernel_rfl) rfl HS_ ?_
            | (refine tk (v := ?v1_10) 10 rfl (by kernel_rfl) rfl ?y1_10 HS_ ?_; case y1_10 => (intro w' hSw; (try dsimp only at hSw); go_simp <;> (with_reducible rfl)))
          try simp only [Act.put, List.setIfInBounds_toArray, List.set_cons_zero, List.set_cons_succ]
          refine cl 11 rfl (by kernel_rfl) (fun K hK => ?_)
          go_simp
          go_at_call 80
          refine (specAsks _ xs x.name x.name _ (HD2.out.grew (hbel.trans HS_.2)) HX0.out HS.out).mono ?_
          rintro e w2 ⟨he, hb⟩
          rw [HV.out] at he
          subst he
          refine hK.out _ _ ?s1_11 ?r1_11
          case s1_11 => (try dsimp only); exact ⟨grew_cell hb HS_.1, HS_.2.trans hb⟩
          case r1_11 =>
            clear HS_
            intro HS_
            clear hK K
            try simp only [Act.put, List.setIfInBounds_toArray, List.set_cons_zero, List.set_cons_succ]
            refine wpAnyH_done (by kernel_rfl) ?_ _
            refine NoPanic.normal ?_
            have c9 := HS_.1
            go_wp2_with (at_builtin; refine wpList_append_own _ rfl _ _ 44 rfl w.heap.size 9 i0 (.string ⟨#[]⟩) 1 16 Tryz.underlying44 hi hz0 hz1 hz2 rfl (by decide) _ _ _ rfl ((ownsRow_grew hown.out HS_.2).alloc _) ⟨_, 0, none⟩ 1 1 [.string x.name] rfl rfl (cell_one_new _ _ _) (fun x hx => by simp at hx; subst hx; rfl) (by unfold maxLen; omega) (by omega) (by have := (hbel.trans HS_.2).size; simp; omega) ?_; intro v' w' hown' hgr _)
            go_roundw
            case rel =>
              refine ⟨k + 1, by omega, by go_num, Lib.hid ?_, ((hbel.trans HS_.2).alloc _).grown hgr (fun g h => (hown.out.lt g h).1)⟩
              rw [namesIf_yes hxk.out (show recP xs x.name = true from HV.out)]; simpa using hown'
            case measure => simp [intOf]; omega
      · have hk0 := hk
        go_wp2_with fail
        refine wp_region_noPanic ?_
        refine wp_region_held_drew (S := (fun w' => (w'.cell? ⟨b1, o1 + k * 2, none⟩ = some (.string x.name) ∧ Grew wr w'))) (by kernel_rfl) ?h2_S ?h2_r
        case h2_S => exact ⟨grew_cell (Grew.refl _).drew c0, (Grew.refl _).drew⟩
        case h2_r =>
          intro HS_
          first
            | refine sk 0 rfl (by kernel_rfl) rfl HS_ ?_
            | (refine tk (v := ?v2_0) 0 rfl (by kernel_rfl) rfl ?y2_0 HS_ ?_; case y2_0 => (intro w' hSw; (try dsimp only at hSw); go_simp <;> (with_reducible rfl)))
          try simp only [Act.put, List.setIfInBounds_toArray, List.set_cons_zero, List.set_cons_succ]
          first
            | refine sk 1 rfl (by kernel_rfl) rfl HS_ ?_
            | (refine tk (v := ?v2_1) 1 rfl (by kernel_rfl) rfl ?y2_1 HS_ ?_; case y2_1 => (intro w' hSw; (try dsimp only at hSw); go_simp <;> (with_reducible rfl)))
          try simp only [Act.put, List.setIfInBounds_toArray, List.set_cons_zero, List.set_cons_succ]
          first
            | refine sk 2 rfl (by kernel_rfl) rfl HS_ ?_
            | (refine tk (v := ?v2_2) 2 rfl (by kernel_rfl) rfl ?y2_2 HS_ ?_; case y2_2 => (intro w' hSw; (try dsimp only at hSw); go_simp <;> (with_reducible rfl)))
          try simp only [Act.put, List.setIfInBounds_toArray, List.set_cons_zero, List.set_cons_succ]
          first
            | refine sk 3 rfl (by kernel_rfl) rfl HS_ ?_
            | (refine tk (v := ?v2_3) 3 rfl (by kernel_rfl) rfl ?y2_3 HS_ ?_; case y2_3 => (intro w' hSw; (try dsimp only at hSw); go_simp <;> (with_reducible rfl)))
          try simp only [Act.put, List.setIfInBounds_toArray, List.set_cons_zero, List.set_cons_succ]
          first
            | refine sk 4 rfl (by kernel_rfl) rfl HS_ ?_
            | (refine tk (v := ?v2_4) 4 rfl (by kernel_rfl) rfl ?y2_4 HS_ ?_; case y2_4 => (intro w' hSw; (try dsimp only at hSw); go_simp <;> (with_reducible rfl)))
          try simp only [Act.put, List.setIfInBounds_toArray, List.set_cons_zero, List.set_cons_succ]
          first
            | refine sk 5 rfl (by kernel_rfl) rfl HS_ ?_
            | (refine tk (v := ?v2_5) 5 rfl (by kernel_rfl) rfl ?y2_5 HS_ ?_; case y2_5 => (intro w' hSw; (try dsimp only at hSw); go_simp <;> (with_reducible rfl)))
          try simp only [Act.put, List.setIfInBounds_toArray, List.set_cons_zero, List.set_cons_succ]
          first
            | refine sk 6 rfl (by kernel_rfl) rfl HS_ ?_
            | (refine tk (v := ?v2_6) 6 rfl (by kernel_rfl) rfl ?y2_6 HS_ ?_; case y2_6 => (intro w' hSw; (try dsimp only at hSw); go_simp <;> (with_reducible rfl)))
          try simp only [Act.put, List.setIfInBounds_toArray, List.set_cons_zero, List.set_cons_succ]
          first
            | refine sk 7 rfl (by kernel_rfl) rfl HS_ ?_
            | (refine tk (v := ?v2_7) 7 rfl (by kernel_rfl) rfl ?y2_7 HS_ ?_; case y2_7 => (intro w' hSw; (try dsimp only at hSw); go_simp <;> (with_reducible rfl)))
          try simp only [Act.put, List.setIfInBounds_toArray, List.set_cons_zero, List.set_cons_succ]
          first
            | refine sk 8 rfl (by kernel_rfl) rfl HS_ ?_
            | (refine tk (v := ?v2_8) 8 rfl (by kernel_rfl) rfl ?y2_8 HS_ ?_; case y2_8 => (intro w' hSw; (try dsimp only at hSw); go_simp <;> (with_reducible rfl)))
          try simp only [Act.put, List.setIfInBounds_toArray, List.set_cons_zero, List.set_cons_succ]
          first
            | refine sk 9 rfl (by kernel_rfl) rfl HS_ ?_
            | (refine tk (v := ?v2_9) 9 rfl (by kernel_rfl) rfl ?y2_9 HS_ ?_; case y2_9 => (intro w' hSw; (try dsimp only at hSw); go_simp <;> (with_reducible rfl)))
          try simp only [Act.put, List.setIfInBounds_toArray, List.set_cons_zero, List.set_cons_succ]
          first
            | refine sk 10 rfl (by kernel_rfl) rfl HS_ ?_
            | (refine tk (v := ?v2_10) 10 rfl (by kernel_rfl) rfl ?y2_10 HS_ ?_; case y2_10 => (intro w' hSw; (try dsimp only at hSw); go_simp <;> (with_reducible rfl)))
          try simp only [Act.put, List.setIfInBounds_toArray, List.set_cons_zero, List.set_cons_succ]
          refine cl 11 rfl (by kernel_rfl) (fun K hK => ?_)
          go_simp
          go_at_call 80
          refine (specAsks _ xs x.name x.name _ (HD2.out.grew (hbel.trans HS_.2)) HX0.out HS.out).mono ?_
          rintro e w2 ⟨he, hb⟩
          rw [HV.out] at he
          subst he
          refine hK.out _ _ ?s2_11 ?r2_11
          case s2_11 => (try dsimp only); exact ⟨grew_cell hb HS_.1, HS_.2.trans hb⟩
          case r2_11 =>
            clear HS_
            intro HS_
            clear hK K
            try simp only [Act.put, List.setIfInBounds_toArray, List.set_cons_zero, List.set_cons_succ]
            refine wpAnyH_done (by kernel_rfl) ?_ _
            refine NoPanic.normal ?_
            go_wp2
            go_roundw
            case rel =>
              refine ⟨k + 1, by omega, by go_num, Lib.hid ?_, hbel.trans HS_.2⟩
              rw [namesIf_no hxk.out (show recP xs x.name = false from HV.out)]; exact ownsRow_grew hown.out HS_.2
            case measure => simp [intOf]; omega
    · obtain rfl : k = n := by omega
      go_wp2
      go_ret
      refine ⟨_, rfl, ?_, hbel⟩
      have := hown.out
      rw [take_all HX.out] at this
      exact this
set_option maxRecDepth 100000 in
set_option maxHeartbeats 2000000 in
theorem implRecursiveDirs (va : Value) (xs : List Dr) (w : World) (ha : RdDs w va xs) (hx : xs.length ≤ 1900000) (hs : ∀ x, x ∈ xs → x.small) :
    Calls Tryz.prog 24 #[va] w fun e w' => ∃ v, e = .returned v ∧ w'.ownsRow w.heap.size 9 1 v (namesIf (recP xs) xs).length (strs (namesIf (recP xs) xs)) ∧ Grew w w' := by
  have HD := Lib.hid ha
  have HS := Lib.hid hs
  obtain ⟨qs, ⟨a, ca, rfl, hca, hra⟩, hall⟩ := ha
  have HA := Lib.hid hall
  clear hall hs
  have HX0 := Lib.hid hx
  generalize hn : xs.length = n at hx hra
  have HX := Lib.hid hn
  have HD2 := Lib.hid (show RdDs w (.slice a n ca) xs by have := HD.out; rw [hn] at this; exact this)
  clear hn HD
  obtain ⟨i0, hi, hz0, hz1, hz2⟩ := info_parts Tryz.infoString
  go_enter Tryz.func24, Tryz.ntmps24
  go_wp2
  go_loopw [3, 9] (fun v i wr => ∃ k : Nat, k ≤ n ∧ i = .int .i64 k ∧ Hid (wr.ownsRow w.heap.size 9 1 v (namesIf (recP xs) (xs.take k)).length (strs (namesIf (recP xs) (xs.take k)))) ∧ Grew w wr) (fun _ i _ => n - (intOf i).toNat)
  case atStart => exact ⟨0, Nat.zero_le _, rfl, Lib.hid (lit_own w 9 1), (Grew.refl _).alloc _⟩
  case round =>
    obtain ⟨k, hk, rfl, hown, hbel⟩ := hrel
    have hnl := namesIf_tk (recP xs) xs k
    by_cases hlt : k < n
    · obtain ⟨b1, o1, p, rfl, hpk, c0, c1⟩ := (hra.grew hbel).getP2 hlt
      obtain ⟨x, hxk, hxr⟩ := HA.out.get hpk.out
      obtain ⟨pn, pq⟩ := p
      obtain ⟨hxn, hxq⟩ := hxr
      simp only at hxn hxq c0 c1
      subst hxn
      obtain ⟨pa, pc, rfl, hpc, hpr⟩ := hxq
      clear hpr
      obtain ⟨v, hv⟩ : ∃ v, asksB xs x.name x.name = v := ⟨_, rfl⟩
      have HV := Lib.hid hv
      clear hv
      have hal := (Grew.refl wr).alloc (.cells #[.string x.name, .slice pa x.query.length pc] 39)
      have bx0 : (wr.alloc (.cells #[.string x.name, .slice pa x.query.length pc] 39)).cell? ⟨wr.heap.size, 0, none⟩ = some (.string x.name) := by simp
      have hcs : v = true ∨ v = false := by cases v <;> simp
      rcases hcs with rfl | rfl
      · go_wp2_with (first | (go_at_call 78; refine (implDependsOn _ xs x.name x.name _ (HD2.out.grew (hbel.trans hal)) HX0.out HS.out).mono ?_; rintro e w2 ⟨he, hb⟩; rw [HV.out] at he; subst he; have c9 := grew_cell hb bx0) | (at_builtin; refine wpList_append_own _ rfl _ _ 44 rfl w.heap.size 9 i0 (.string ⟨#[]⟩) 1 16 Tryz.underlying44 hi hz0 hz1 hz2 rfl (by decide) _ _ _ rfl ((ownsRow_grew hown.out (hal.trans hb)).alloc _) ⟨_, 0, none⟩ 1 1 [.string x.name] rfl rfl (cell_one_new _ _ _) (fun x hx => by simp at hx; subst hx; rfl) (by unfold maxLen; omega) (by omega) (by have := ((hbel.trans hal).trans hb).size; simp; omega) ?_; intro v' w' hown' hgr _))
        go_roundw
        case rel =>
          refine ⟨k + 1, by omega, by go_num, Lib.hid ?_, (((hbel.trans hal).trans hb).alloc _).grown hgr (fun g h => (hown.out.lt g h).1)⟩
          rw [namesIf_yes hxk.out (show recP xs x.name = true from HV.out)]; simpa using hown'
        case measure => simp [intOf]; omega
      · go_wp2_with (go_at_call 78; refine (implDependsOn _ xs x.name x.name _ (HD2.out.grew (hbel.trans hal)) HX0.out HS.out).mono ?_; rintro e w2 ⟨he, hb⟩; rw [HV.out] at he; subst he; have c9 := grew_cell hb bx0)
        go_roundw
        case rel =>
          refine ⟨k + 1, by omega, by go_num, Lib.hid ?_, (hbel.trans hal).trans hb⟩
          rw [namesIf_no hxk.out (show recP xs x.name = false from HV.out)]; exact ownsRow_grew hown.out (hal.trans hb)
        case measure => simp [intOf]; omega
    · obtain rfl : k = n := by omega
      go_wp2
      go_ret
      refine ⟨_, rfl, ?_, hbel⟩
      have := hown.out
      rw [take_all HX.out] at this
      exact this
end Go.Proofs.YtgekgokkbakcmaaGreat
namespace Go.Proofs.YtgekgokkbakcmaaGreat
open Go.RowKit
set_option linter.unusedVariables false
theorem qry_len {xs : List N} (h : qryB xs = true) : 1 ≤ xs.length ∧ xs.length ≤ 9 := by
  unfold qryB at h
  simp only [Bool.and_eq_true, inB, decide_eq_true_eq] at h
  omega
theorem nod5' {x : N} {p : Nat} (ho : x.op = 5) (hp : p < 4000000) (h : nodB x p (wrap64 ((p : Int) - 1)) = true) : ∃ j : Nat, x.left = j ∧ j < p := by
  obtain ⟨op, l, r, nm, v⟩ := x
  simp only at ho; subst ho
  exact nod5 hp h
theorem nod67' {x : N} {p : Nat} (ho : x.op = 6 ∨ x.op = 7) (hp : p < 4000000) (h : nodB x p (wrap64 ((p : Int) - 1)) = true) : ∃ j i : Nat, x.left = j ∧ x.right = i ∧ j < p ∧ i < p := by
  obtain ⟨op, l, r, nm, v⟩ := x
  exact nod67 ho hp h
theorem negR_last {xs : List N} (h : qryB xs = true) : ∀ (k : Nat) (bs : List Bool), k ≤ xs.length → bs.length = xs.length → bs[xs.length - 1]? = some false → (negR xs k bs)[xs.length - 1]? = some false
  | 0, bs, _, _, hb => hb
  | k + 1, bs, hk, hl, hb => by
    have hn := qry_len h
    have hx : xs[k]? = some xs[k] := List.getElem?_eq_getElem (by omega)
    rw [negR_step hx]
    refine negR_last h k _ (by omega) (by rw [negS_length]; exact hl) ?_
    have hnod := qry_node h hx
    unfold negS
    split
    · next h5 =>
      obtain ⟨j, hj, hjk⟩ := nod5' h5 (by omega) hnod
      rw [hj, Int.toNat_natCast, List.getElem?_set_ne (by omega)]; exact hb
    · split
      · next h5 h67 =>
        obtain ⟨j, i, hj, hi, hjk, hik⟩ := nod67' h67 (by omega) hnod
        rw [hj, hi, Int.toNat_natCast, Int.toNat_natCast, List.getElem?_set_ne (by omega), List.getElem?_set_ne (by omega)]; exact hb
      · exact hb
theorem negL_yes {xs : List N} (h : qryB xs = true) : (negL xs).length = xs.length ∧ (negL xs)[xs.length - 1]? = some false := by
  have hn := qry_len h
  unfold negL
  rw [if_pos h]
  refine ⟨by rw [negR_length]; simp, negR_last h _ _ (Nat.le_refl _) (by simp) ?_⟩
  rw [List.getElem?_replicate, if_pos (by omega)]
theorem dep_all {xs : List N} (h : qryB xs = true) {s : ByteArray} (hs : s ∈ qDirs xs) : s ∈ depsL xs false ∨ s ∈ depsL xs true := by
  unfold qDirs at hs
  rw [mem_so] at hs
  unfold qDirsN at hs
  obtain ⟨x, hx, rfl⟩ := List.mem_map.1 hs
  rw [List.mem_filter] at hx
  obtain ⟨i, hi⟩ := List.getElem?_of_mem hx.1
  have hil := (List.getElem?_eq_some_iff.1 hi).1
  have hb : (negL xs)[i]? = some (negL xs)[i]! := by
    rw [List.getElem?_eq_getElem (by rw [(negL_yes h).1]; exact hil), getElem!_pos _ _ (by rw [(negL_yes h).1]; exact hil)]
  have hz := zipN_get hi hb
  have hmem : ∀ u, (negL xs)[i]! = u → x.name ∈ depsL xs u := fun u hu => by
    unfold depsL
    rw [mem_so]
    unfold depsZ
    refine List.mem_map.2 ⟨(x, (negL xs)[i]!), ?_, rfl⟩
    rw [List.mem_filter]
    exact ⟨List.mem_of_getElem? hz, by rw [hu]; simpa using hx.2⟩
  cases hu : (negL xs)[i]!
  · exact .inl (hmem _ hu)
  · exact .inr (hmem _ hu)
end Go.Proofs.YtgekgokkbakcmaaGreat
namespace Go.Proofs.YtgekgokkbakcmaaGreat
theorem j3 : (Tryz.pinned.checked.prog.mayEnter && ((Rows.fnNoninterferenceRow.lifted == Tryz.pinned.checked.prog.liftsFinal) && (Tryz.pinned.checked.prog.make == some Rows.fnNoninterferenceRow.make))) = true := by kernel_rfl
theorem j_may : Tryz.pinned.checked.prog.mayEnter = true := (Bool.and_eq_true_iff.1 j3).1
theorem j_lift : Tryz.pinned.checked.prog.liftsFinal = Rows.fnNoninterferenceRow.lifted := (eq_of_beq (Bool.and_eq_true_iff.1 (Bool.and_eq_true_iff.1 j3).2).1).symm
theorem j_make : Tryz.pinned.checked.prog.make = some Rows.fnNoninterferenceRow.make := eq_of_beq (Bool.and_eq_true_iff.1 (Bool.and_eq_true_iff.1 j3).2).2
end Go.Proofs.YtgekgokkbakcmaaGreat
namespace Go.Proofs.YtgekgokkbakcmaaGreat
open Go.ChangeShapes Go.WideShapes Go.ChangeAt Go.RowKit
open Go.ChangeMaps (open_string shut_string)
set_option linter.unusedVariables false
theorem own : ownKnob Tryz.prog.godebug = none := by kernel_rfl
theorem laidOut : laidOutB Tryz.prog = true := by kernel_rfl
theorem list_of {α : Type} {Q : Nat → α → Prop} : ∀ (n : Nat), (∀ i, i < n → ∃ a, Q i a) → ∃ xs : List α, xs.length = n ∧ ∀ i a, xs[i]? = some a → Q i a := by
  intro n
  induction n with
  | zero => intro _; exact ⟨[], rfl, fun i a h => by simp at h⟩
  | succ n ih =>
    intro h
    obtain ⟨xs, hl, hx⟩ := ih (fun i hi => h i (by omega))
    obtain ⟨a, ha⟩ := h n (by omega)
    refine ⟨xs ++ [a], by simp [hl], fun i b hb => ?_⟩
    by_cases hi : i < n
    · rw [List.getElem?_append_left (by omega)] at hb; exact hx i b hb
    · rw [List.getElem?_append_right (by omega)] at hb
      have : i = n := by
        have := (List.getElem?_eq_some_iff.1 hb).1
        simp at this; omega
      subst this
      rw [hl, Nat.sub_self] at hb
      simp at hb; subst hb; exact ha
theorem mapM_get {α β : Type} (f : α → Option β) : ∀ (l : List α) (r : List β), l.mapM f = some r → r.length = l.length ∧ ∀ (i : Nat) (a : α), l[i]? = some a → f a = r[i]? := by
  intro l
  induction l with
  | nil => intro r h; simp at h; subst h; exact ⟨rfl, fun i a h => by simp at h⟩
  | cons x l ih =>
    intro r h
    rw [List.mapM_cons] at h
    cases hx : f x with
    | none => simp [hx] at h
    | some y =>
      cases hl : l.mapM f with
      | none => simp [hx, hl] at h
      | some ys =>
        simp [hx, hl] at h
        subst h
        obtain ⟨h1, h2⟩ := ih ys hl
        refine ⟨by simp [h1], fun i a ha => ?_⟩
        cases i with
        | zero => simp at ha; subst ha; simpa using hx
        | succ i => simpa using h2 i a (by simpa using ha)
section
variable {H : Type} {enc : TypeId × Value → H} {P : Program} {w : World} {base : Nat} {spare : Nat → Bool} {held : Bool}
theorem open_rows {α : Type} {f : α → List Value} {ok : α → Prop} {t e : TypeId} {k fuel : Nat} {v : Value} {x : DataW H × List MemPlace} (ht : P.underlying t = some (.slice e)) (hk : P.cellsOf e = k) (h0 : 0 < k) (hf : ∀ a, (f a).length = k)
    (hE : ∀ n cs y, DataW.trod enc P w base spare held n e cs = some y → ∃ a, cs = f a ∧ ok a) (h : DataW.trod enc P w base spare held fuel t [v] = some x) :
    ∃ n xs, Rd w v k n (rows f xs) ∧ n ≤ maxLen ∧ ∀ a, a ∈ xs → ok a := by
  rcases Deep.open_slice ht h with ⟨hv, _⟩ | ⟨a, len, cap, m, n, D, Pl, hv, _, hl, hm, rfl, _, hel⟩
  · simp at hv; subst hv
    exact ⟨0, [], ⟨none, 0, rfl, Nat.le_refl _, by simp [rows], fun h => absurd h (by omega)⟩, Nat.zero_le _, fun a h => by simp at h⟩
  · simp at hv; subst hv
    have hlm : len ≤ (if spare a.block then cap else len) := by split <;> omega
    have hx : ∀ i, i < len → ∃ z, (ok z ∧ w.cells? base (a.add (i * k)) k = some (f z)) := by
      intro i hi
      obtain ⟨cs, hc, ht'⟩ := hel i (by omega)
      obtain ⟨z, rfl, hz⟩ := hE _ _ _ ht'
      rw [hk] at hc
      exact ⟨z, hz, hc⟩
    obtain ⟨xs, hxl, hxs⟩ := list_of len hx
    refine ⟨len, xs, ⟨some a, cap, rfl, hl, by rw [rows_length hf, hxl], fun hn => ?_⟩, by omega, fun z hz => ?_⟩
    · have cell : ∀ i z, xs[i]? = some z → ∀ j u, (f z)[j]? = some u → w.cell? (a.add (i * k + j)) = some u := by
        intro i z hi j u hu
        have hc := (hxs i z hi).2
        unfold World.cells? at hc
        split at hc
        · obtain ⟨h1, h2⟩ := mapM_get _ _ _ hc
          have hj : j < k := by rw [← hf z]; exact (List.getElem?_eq_some_iff.1 hu).1
          have := h2 j j (by rw [List.getElem?_range hj])
          rw [hu] at this
          rw [← this]
          congr 1
          simp only [Addr.add]
          by_cases h3 : i * k = 0
          · by_cases h4 : j = 0
            · simp [h3, h4]
            · simp [h3]
          · by_cases h4 : j = 0
            · simp [h4]
            · simp [h3, h4]; omega
        · cases hc
      obtain ⟨b, o, s⟩ := a
      have hs : s = none := by
        have h1 := cell 0 xs[0] (List.getElem?_eq_getElem (by omega)) 0 _ (List.getElem?_eq_getElem (by rw [hf]; exact h0))
        simpa [Addr.add] using World.cell?_spot h1
      subst hs
      refine ⟨b, o, rfl, fun j hj => ?_⟩
      have hd : j / k < len := (Nat.div_lt_iff_lt_mul h0).2 hj
      have hmd := Nat.mod_lt j h0
      have he : j = j / k * k + j % k := by rw [Nat.mul_comm]; exact (Nat.div_add_mod j k).symm
      have hg : xs[j / k]? = some (xs[j / k]'(by omega)) := List.getElem?_eq_getElem (by omega)
      have hu : (f (xs[j / k]'(by omega)))[j % k]? = some ((f (xs[j / k]'(by omega)))[j % k]'(by rw [hf]; exact hmd)) := List.getElem?_eq_getElem (by rw [hf]; exact hmd)
      have h1 := cell _ _ hg _ _ hu
      have h2 := rows_at hf xs (j / k) (j % k) _ hg hmd
      rw [← he] at h1 h2
      rw [h2, hu, ← h1]
      congr 1
      simp only [Addr.add]
      by_cases hz : j = 0
      · simp [hz]
      · simp [hz]
    · obtain ⟨i, hi, rfl⟩ := List.getElem_of_mem hz
      exact (hxs i _ (List.getElem?_eq_getElem hi)).1
theorem rows_one {α : Type} (f : α → Value) (xs : List α) : rows (fun a => [f a]) xs = xs.map f := by
  induction xs with
  | nil => rfl
  | cons x xs ih => rw [rows_cons, ih]; rfl
end
def I64 (n : Int) : Prop := -9223372036854775808 ≤ n ∧ n ≤ 9223372036854775807
def V.ok (x : V) : Prop := I64 x.kind ∧ I64 x.int ∧ x.str.size ≤ maxLen
def N.ok (x : N) : Prop := I64 x.op ∧ I64 x.left ∧ I64 x.right ∧ x.name.size ≤ maxLen ∧ x.val.ok
def Fd.ok (x : Fd) : Prop := x.name.size ≤ maxLen ∧ I64 x.kind
def At.ok (x : At) : Prop := x.name.size ≤ maxLen ∧ x.val.ok
section
variable {H : Type} {enc : TypeId × Value → H} {w : World} {base : Nat} {spare : Nat → Bool} {held : Bool}
end
end Go.Proofs.YtgekgokkbakcmaaGreat
namespace Go.Proofs.YtgekgokkbakcmaaGreat
open Go.ChangeShapes Go.WideShapes Go.ChangeAt Go.RowKit
open Go.ChangeMaps (open_string shut_string)
set_option linter.unusedVariables false
theorem mem_get {α : Type} {x : α} {xs : List α} (h : x ∈ xs) : ∃ i : Nat, xs[i]? = some x := by
  obtain ⟨i, hi, rfl⟩ := List.getElem_of_mem h
  exact ⟨i, List.getElem?_eq_getElem hi⟩
theorem All2.mem {α β : Type} {R : α → β → Prop} {xs : List α} {ys : List β} (h : All2 R xs ys) {x : α} (hx : x ∈ xs) : ∃ y, R x y := by
  obtain ⟨i, hi⟩ := mem_get hx
  have hl := (List.getElem?_eq_some_iff.1 hi).1
  exact ⟨_, h.2 i _ _ hi (List.getElem?_eq_getElem (show i < ys.length by rw [← h.1]; exact hl))⟩
section
variable {H : Type} {enc : TypeId × Value → H} {w : World} {base : Nat} {spare : Nat → Bool} {held : Bool}
theorem getU {n : Nat} {cs : List Value} {y : DataW H × List MemPlace} (h : DataW.trod enc Tryz.prog w base spare held n 5 cs = some y) : ∃ a : Int, cs = [.int .u8 a] ∧ 0 ≤ a ∧ a ≤ 255 := by
  obtain ⟨a, rfl, _, hw⟩ := DataW.trod_int Tryz.underlying5 h
  exact ⟨a, rfl, by simpa [Lit.wf, IntKind.min, IntKind.max, IntKind.signed, IntKind.bits] using hw⟩
theorem open_bytes {fuel : Nat} {v : Value} {x : DataW H × List MemPlace} (h : DataW.trod enc Tryz.prog w base spare held fuel 22 [v] = some x) :
    ∃ n, ∃ xs : List Int, Rd w v 1 n (xs.map (Value.int .u8)) ∧ n ≤ maxLen ∧ ∀ a : Int, a ∈ xs → 0 ≤ a ∧ a ≤ 255 := by
  obtain ⟨n, xs, h1, h2⟩ := open_rows (f := fun a => [Value.int .u8 a]) (ok := fun a : Int => 0 ≤ a ∧ a ≤ 255) Tryz.underlying22 (by kernel_rfl) (by decide) (fun _ => rfl) (fun n cs y h => getU h) h
  exact ⟨n, xs, by rw [rows_one] at h1; exact h1, h2⟩
end
end Go.Proofs.YtgekgokkbakcmaaGreat
