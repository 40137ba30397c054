/- Texts H6, N5, I0, V4, Z0, Z1, Z2, X1, M1, C3, C4, as far as they are needed. -/
import Derived.Test.YtejgpghcahinhaaGreatVi3
import Derived.Test.YtejgpghcahinhaaGreatVi2
import Derived.Test.YtejgpghcahinhaaGreatVi0
import Derived.Laws.Bits128
import Derived.Laws.OwnMore
import Derived.Test.YtejgpghcahinhaaGreatVi1
namespace Go.Proofs.YtejgpghcahinhaaGreat
open Go.RowKit
set_option linter.unusedVariables false
set_option maxRecDepth 100000 in
set_option maxHeartbeats 4000000 in
theorem heldResultS (va : Value) (xs : List Rs) (k0 : Int) (w : World) (ha : RdRs w va (mkRss k0 xs)) (hx : xs.length ≤ 4000000) (hs : ∀ x, x ∈ xs → x.small) (h0 : 0 ≤ k0) (h1 : k0 + cntL cntRs xs ≤ 3000000000000000) :
    Calls Tryz.prog 79 #[va, .int .i64 k0] w fun e w' => e = .returned (.int .i64 (k0 + cntL cntRs xs)) ∧ Grew w w' := by
  obtain ⟨ps, ⟨a, ca, rfl, hca, hra⟩, hall⟩ := ha
  have hlm : (mkRss k0 xs).length = xs.length := by unfold mkRss; rw [mkL_length]
  rw [hlm] at hca hra
  rw [hlm]
  have HS := Lib.hid hs
  have HA := Lib.hid hall
  have HH := Lib.hid h1
  clear hlm hs hall h1
  generalize hnn : xs.length = n at *
  have HX := Lib.hid hnn
  clear hnn
  go_enter Tryz.func79, Tryz.ntmps79
  go_wp2
  go_loopw [1, 5] (fun c i wr => ∃ (k : Nat), k ≤ n ∧ i = .int .i64 k ∧ c = .int .i64 (k0 + cntL cntRs (xs.take k)) ∧ Grew w wr) (fun _ i _ => n - (intOf i).toNat)
  case atStart => exact ⟨0, Nat.zero_le _, rfl, by simp [cntL], Grew.refl _⟩
  case round =>
    obtain ⟨k, hk, rfl, rfl, hbel⟩ := hrel
    have hcb := cntL_le cntRs cntRs_0 xs k
    by_cases hlt : k < n
    · have hxk : xs[k]? = some (xs[k]'(by have := HX.out; omega)) := List.getElem?_eq_getElem _
      generalize (xs[k]'(by have := HX.out; omega)) = x at hxk
      have HXK := Lib.hid hxk
      have hcs := (cntL_le cntRs cntRs_0 xs (k + 1)).2
      rw [take_snoc hxk, cntL_snoc] at hcs
      clear hxk
      have hxs := HS.out x (List.mem_of_getElem? HXK.out)
      have hcx : cntL cntRs (xs.take k) + cntRs x ≤ 3000000000000000 - k0 := by have := HH.out; omega
      clear hcs
      obtain ⟨b1, o1, p, rfl, hpk, c0, c1⟩ := (hra.grew hbel).getP2 hlt
      have hxr := HA.out.2 k _ _ (by show (mkRss k0 xs)[k]? = _; unfold mkRss; rw [mkL_get, HXK.out]; rfl) hpk.out
      generalize hcc : cntL cntRs (xs.take k) = cc at *
      have HCC := Lib.hid hcc
      clear hcc
      unfold cntRs at hcx
      obtain ⟨r_name, r_q⟩ := p
      obtain ⟨hr_name, hr_q⟩ := hxr
      simp only [mkRs1, List.length_map, List.length_range] at hr_name hr_q
      subst hr_name
      obtain ⟨a_q, ca_q, hq_q, hca_q, hra_q⟩ := hr_q
      subst hq_q
      have HR_q := Lib.hid (show Rd w (.slice a_q x.ids.length ca_q) 1 x.ids.length _ from ⟨a_q, ca_q, rfl, hca_q, hra_q⟩)
      go_wp2_with fail
      go_region_held3 (fun w' => w'.cell? ⟨b1, o1 + k * 2, none⟩ = some (.string (mtext (k0 + cc))) ∧ Grew wr w') (first | exact ⟨c0, (Grew.refl _).drew⟩ | exact held1 (by assumption) (by assumption)) (first | (go_at_call 140; refine (markText _ _ (by omega) (by omega)).mono ?_; rintro e w1 ⟨rfl, hb1⟩))
      have g1 : Grew wr w1 := snd_of (by assumption)
      have e1_1 := grew_cell g1 c1
      go_wp2_with fail
      refine (heldIntS _ x.ids.length _ _ (HR_q.out.grew (hbel.trans g1)) hxs (by omega) (by omega)).mono ?_
      rintro e w2 ⟨rfl, hb2⟩
      have g2 : Grew wr w2 := g1.trans hb2
      have hpos2 : ¬ (k0 + cc + 1 + ((x.ids.length : Nat) : Int) < 0) := by omega
      go_wp2
      go_roundw
      case rel =>
        refine ⟨k + 1, by omega, by go_num, ?_, hbel.trans g2⟩
        rw [take_snoc HXK.out, cntL_snoc, HCC.out]
        unfold cntRs
        congr 1
        omega
      case measure => simp [intOf]; omega
    · obtain rfl : k = n := by omega
      go_wp2
      go_ret
      rw [take_all HX.out]
      exact ⟨rfl, hbel⟩
end Go.Proofs.YtejgpghcahinhaaGreat
namespace Go.Proofs.YtejgpghcahinhaaGreat
open Go.RowKit
set_option linter.unusedVariables false
def plc (xs : List Dr) (s : ByteArray) (n : Nat) (i : Int) : Prop := (i = -1 ∧ ∀ (j : Nat) y, j < n → xs[j]? = some y → (y.name.toList == s.toList) = false) ∨ (∃ k : Nat, i = k ∧ k < n ∧ (∀ (j : Nat) y, j < k → xs[j]? = some y → (y.name.toList == s.toList) = false) ∧ ∃ y, xs[k]? = some y ∧ (y.name.toList == s.toList) = true)
theorem nod_snoc {xs : List Dr} {s : ByteArray} {k : Nat} {x : Dr} (h : ∀ (j : Nat) y, j < k → xs[j]? = some y → (y.name.toList == s.toList) = false) (hx : xs[k]? = some x) (hn : (x.name.toList == s.toList) = false) : ∀ (j : Nat) y, j < k + 1 → xs[j]? = some y → (y.name.toList == s.toList) = false := fun j y hj hy => by
  rcases Nat.lt_succ_iff_lt_or_eq.1 hj with h1 | rfl
  · exact h j y h1 hy
  · obtain rfl := Option.some.inj (hx.symm.trans hy); exact hn
set_option maxRecDepth 100000 in
set_option maxHeartbeats 1000000 in
theorem l11Place (va : Value) (xs : List Dr) (s : ByteArray) (w : World) (ha : RdDs w va xs) (hx : xs.length ≤ 4000000) :
    Calls Tryz.prog 103 #[va, .string s] w fun e w' => ∃ i : Int, e = .returned (.int .i64 i) ∧ plc xs s xs.length i ∧ w = w' := by
  obtain ⟨qs, ⟨a, ca, rfl, hca, hra⟩, hall⟩ := ha
  have HA := Lib.hid hall
  clear hall
  generalize hn : xs.length = n at hx hra
  have HX := Lib.hid hn
  clear hn
  go_enter Tryz.func103, Tryz.ntmps103
  go_wp2
  go_loop [5] (fun i => ∃ k : Nat, k ≤ n ∧ i = .int .i64 k ∧ Hid (∀ (j : Nat) y, j < k → xs[j]? = some y → (y.name.toList == s.toList) = false)) (fun i => n - (intOf i).toNat)
  case atStart => exact ⟨0, Nat.zero_le _, rfl, Lib.hid (fun j y h => absurd h (Nat.not_lt_zero j))⟩
  case round =>
    obtain ⟨k, hk, rfl, hall⟩ := hrel
    by_cases hlt : k < n
    · obtain ⟨b1, o1, p, rfl, hpk, c0, c1⟩ := hra.getP2 hlt
      obtain ⟨x, hxk, hxr⟩ := HA.out.get hpk.out
      obtain ⟨pn, pq⟩ := p
      obtain ⟨hxn, hxq⟩ := hxr
      simp only at hxn c0 c1
      subst hxn
      clear hxq
      have hcs : (x.name.toList == s.toList) = true ∨ (x.name.toList == s.toList) = false := by cases x.name.toList == s.toList <;> simp
      rcases hcs with hn | hn
      · go_wp2
        go_ret
        exact ⟨_, rfl, .inr ⟨k, rfl, hlt, hall.out, x, hxk.out, hn⟩, rfl⟩
      · go_wp2
        exact ⟨⟨k + 1, by omega, by go_num, Lib.hid (nod_snoc hall.out hxk.out hn)⟩, by simp [intOf]; omega⟩
    · obtain rfl : k = n := by omega
      go_wp2
      go_ret
      exact ⟨_, rfl, .inl ⟨rfl, hall.out⟩, rfl⟩
set_option maxRecDepth 100000 in
set_option maxHeartbeats 1000000 in
theorem cloDirAt (n : ByteArray) (q : Value) (g : Nat) (s : ByteArray) (w : World) (hc : w.cell? ⟨g, 0, none⟩ = some (.string s)) :
    Calls Tryz.prog 168 #[.agg #[.string n, q], .pointer (some ⟨g, 0, none⟩)] w fun e w' => e = .returned (.bool (n.toList == s.toList)) ∧ Grew w w' := by
  have e1 := grew_cell ((Grew.refl w).alloc (.cells #[.string n, q] 39)) hc
  go_enter Tryz.func168, Tryz.ntmps168
  go_wp2
  go_ret
  exact ⟨rfl, (Grew.refl _).alloc _⟩
set_option maxRecDepth 100000 in
set_option maxHeartbeats 1000000 in
theorem slIndexDir (va : Value) (xs : List Dr) (g : Nat) (s : ByteArray) (w : World) (ha : RdDs w va xs) (hx : xs.length ≤ 4000000) (hc : w.cell? ⟨g, 0, none⟩ = some (.string s)) :
    Calls Tryz.prog 167 #[va, .func (.func 168) #[] #[.pointer (some ⟨g, 0, none⟩)]] w fun e w' => ∃ i : Int, e = .returned (.int .i64 i) ∧ plc xs s xs.length i ∧ Grew w w' := by
  obtain ⟨qs, ⟨a, ca, rfl, hca, hra⟩, hall⟩ := ha
  have HA := Lib.hid hall
  have HC := Lib.hid hc
  clear hall hc
  generalize hn : xs.length = n at hx hra
  have HX := Lib.hid hn
  clear hn
  go_enter Tryz.func167, Tryz.ntmps167
  go_wp2
  go_loopw [5, 8] (fun _ i wr => ∃ k : Nat, k ≤ n ∧ i = .int .i64 k ∧ Hid (∀ (j : Nat) y, j < k → xs[j]? = some y → (y.name.toList == s.toList) = false) ∧ Grew w wr) (fun _ i _ => n - (intOf i).toNat)
  case atStart => exact ⟨0, Nat.zero_le _, rfl, Lib.hid (fun j y h => absurd h (Nat.not_lt_zero j)), Grew.refl _⟩
  case round =>
    obtain ⟨k, hk, rfl, hall, hbel⟩ := hrel
    by_cases hlt : k < n
    · obtain ⟨b1, o1, p, rfl, hpk, c0, c1⟩ := (hra.grew hbel).getP2 hlt
      obtain ⟨x, hxk, hxr⟩ := HA.out.get hpk.out
      obtain ⟨pn, pq⟩ := p
      obtain ⟨hxn, hxq⟩ := hxr
      simp only at hxn c0 c1
      subst hxn
      clear hxq
      obtain ⟨v, hv⟩ : ∃ v, (x.name.toList == s.toList) = v := ⟨_, rfl⟩
      have HV := Lib.hid hv
      clear hv
      have hcs : v = true ∨ v = false := by cases v <;> simp
      rcases hcs with rfl | rfl
      · go_wp2_with (go_at_call 168; refine (cloDirAt x.name pq g s _ (grew_cell hbel HC.out)).mono ?_; rintro e w1 ⟨he, hb⟩; rw [HV.out] at he; subst he)
        go_ret
        exact ⟨_, rfl, .inr ⟨k, rfl, hlt, hall.out, x, hxk.out, HV.out⟩, hbel.trans hb⟩
      · go_wp2_with (go_at_call 168; refine (cloDirAt x.name pq g s _ (grew_cell hbel HC.out)).mono ?_; rintro e w1 ⟨he, hb⟩; rw [HV.out] at he; subst he)
        go_roundw
        case rel => exact ⟨k + 1, by omega, by go_num, Lib.hid (nod_snoc hall.out hxk.out HV.out), hbel.trans hb⟩
        case measure => simp [intOf]; omega
    · obtain rfl : k = n := by omega
      go_wp2
      go_ret
      exact ⟨_, rfl, .inl ⟨rfl, hall.out⟩, hbel⟩
set_option maxRecDepth 100000 in
set_option maxHeartbeats 1000000 in
theorem implDirAt (va : Value) (xs : List Dr) (s : ByteArray) (w : World) (ha : RdDs w va xs) (hx : xs.length ≤ 4000000) :
    Calls Tryz.prog 102 #[va, .string s] w fun e w' => ∃ i : Int, e = .returned (.int .i64 i) ∧ plc xs s xs.length i ∧ Grew w w' := by
  have hg := (Grew.refl w).alloc (.cells #[.string s] 9)
  have HA := Lib.hid (RdDs.grew ha hg)
  obtain ⟨qs, ⟨a, ca, rfl, hca, hra⟩, hall⟩ := ha
  clear hall hra
  have hmf : ∀ (fn : Fn) (first cap : Array Value) (w : World), (Instr.makeFunc fn first cap).run Tryz.prog w = .ok (.func fn first cap) w := fun _ _ _ _ => rfl
  go_enter Tryz.func102, Tryz.ntmps102
  go_wp2_with fail
  refine (slIndexDir _ xs w.heap.size s _ HA.out hx (by simp)).mono ?_
  rintro e w1 ⟨i, rfl, hp, hb⟩
  go_wp2
  go_ret
  exact ⟨_, rfl, hp, hg.trans hb⟩
end Go.Proofs.YtejgpghcahinhaaGreat
namespace Go.Proofs.YtejgpghcahinhaaGreat
open Go.RowKit
theorem Tryz.infoRs : (Tryz.prog.info? 122).map (fun i => (i.zero, i.size, i.bytes)) = some (some (P2.z.v), 2, 40) := by kernel_rfl
end Go.Proofs.YtejgpghcahinhaaGreat
namespace Go.Proofs.YtejgpghcahinhaaGreat
open Go.RowKit
set_option linter.unusedVariables false
theorem hasF_no {fs : List Fl} {id : Int} {k : Nat} {x : Fl} (h : hasF (fs.take k) id = false) (hx : fs[k]? = some x) (hn : (x.id == id) = false) : hasF (fs.take (k + 1)) id = false := by
  rw [take_snoc hx]; unfold hasF at h ⊢; rw [List.any_append, h]; simp [hn]
theorem hasF_yes {fs : List Fl} {id : Int} {k : Nat} {x : Fl} (hx : fs[k]? = some x) (hn : (x.id == id) = true) : hasF fs id = true := by
  unfold hasF; rw [List.any_eq_true]; exact ⟨x, List.mem_of_getElem? hx, hn⟩
set_option maxHeartbeats 400000 in
theorem implIsUserV (u : Int) (w : World) : Calls Tryz.prog 124 #[.int .i64 u] w fun e w' => e = .returned (.bool (inB u 0 2)) ∧ w = w' := by
  go_enter Tryz.func124, Tryz.ntmps124
  go_wp2_with (go_at_call 177; refine (within _ _ _ _).mono ?_; rintro e w' ⟨rfl, rfl⟩)
  go_ret
  exact ⟨rfl, rfl⟩
theorem canB_eq (f : Fl) (u : Int) : canB f u = (inB u 0 2 && ((f.owner == u) || f.shared)) := rfl
set_option maxRecDepth 100000 in
set_option maxHeartbeats 1000000 in
theorem specCanRead (f : Fl) (p : P5) (u : Int) (w : World) (h : Fl.R w f p) :
    Calls Tryz.prog 63 #[p.v, .int .i64 u] w fun e w' => e = .returned (.bool (canB f u)) ∧ Grew w w' := by
  obtain ⟨pi, po, ps, pl, pa⟩ := p
  obtain ⟨h1, h2, h3, h4, h5⟩ := h
  simp only at h1 h2 h3 h4 h5
  have hc : canB f u = (inB u 0 2 && ((po == u) || ps)) := by rw [canB_eq, h2, h3]
  have HC := Lib.hid hc
  clear hc h1 h2 h3 h4 h5
  have hi : inB u 0 2 = true ∨ inB u 0 2 = false := by cases inB u 0 2 <;> simp
  have ho : (po == u) = true ∨ (po == u) = false := by cases po == u <;> simp
  rcases hi with hi | hi <;> rcases ho with ho | ho
  all_goals
    go_enter Tryz.func63, Tryz.ntmps63
    go_wp2_with (go_at_call 89; refine (l01In _ _ _ _).mono ?_; rintro e w' ⟨he, rfl⟩; rw [hi] at he; subst he)
    go_ret
    exact ⟨ret_bool (by rw [HC.out, hi, ho]; simp), (Grew.refl w).alloc _⟩
set_option maxRecDepth 100000 in
set_option maxHeartbeats 1000000 in
theorem implCanRead (f : Fl) (p : P5) (u : Int) (w : World) (h : Fl.R w f p) :
    Calls Tryz.prog 184 #[p.v, .int .i64 u] w fun e w' => e = .returned (.bool (canB f u)) ∧ Grew w w' := by
  obtain ⟨pi, po, ps, pl, pa⟩ := p
  obtain ⟨h1, h2, h3, h4, h5⟩ := h
  simp only at h1 h2 h3 h4 h5
  have hc : canB f u = (inB u 0 2 && ((po == u) || ps)) := by rw [canB_eq, h2, h3]
  have HC := Lib.hid hc
  clear hc h1 h2 h3 h4 h5
  have hi : inB u 0 2 = true ∨ inB u 0 2 = false := by cases inB u 0 2 <;> simp
  have ho : (po == u) = true ∨ (po == u) = false := by cases po == u <;> simp
  rcases hi with hi | hi <;> rcases ho with ho | ho
  all_goals
    go_enter Tryz.func184, Tryz.ntmps184
    go_wp2_with (go_at_call 124; refine (implIsUserV _ _).mono ?_; rintro e w' ⟨he, rfl⟩; rw [hi] at he; subst he)
    go_ret
    exact ⟨ret_bool (by rw [HC.out, hi, ho]; simp), (Grew.refl w).alloc _⟩
theorem one_at : ∀ (xs : List At), ∀ u ∈ rows At.c xs, u.oneCell' = true
  | [], u, h => by simp [rows] at h
  | x :: xs, u, h => by
    rw [rows_cons, List.mem_append] at h
    rcases h with h | h
    · simp [At.c] at h; rcases h with rfl | rfl | rfl | rfl <;> rfl
    · exact one_at xs u h
theorem one_fd : ∀ (xs : List Fd), ∀ u ∈ rows Fd.c xs, u.oneCell' = true
  | [], u, h => by simp [rows] at h
  | x :: xs, u, h => by
    rw [rows_cons, List.mem_append] at h
    rcases h with h | h
    · simp [Fd.c] at h; rcases h with rfl | rfl <;> rfl
    · exact one_fd xs u h
set_option maxRecDepth 100000 in
set_option maxHeartbeats 1000000 in
theorem slCloneAttr (va : Value) (n : Nat) (xs : List At) (w : World) (ha : Rd w va 4 n (rows At.c xs)) (hx : n ≤ 4000000) :
    Calls Tryz.prog 223 #[va] w fun e w' => ∃ v, e = .returned v ∧ w'.ownsRow w.heap.size 165 4 v n (rows At.c xs) ∧ Grew w w' := by
  obtain ⟨a, ca, rfl, hca, hra⟩ := ha
  have HX := Lib.hid (hra.len_rows At.len (by decide))
  have hen : ∀ a w, (binOp .eql 77 (.slice a n ca) (.slice none 0 0)).run Tryz.prog w = .ok (.bool a.isNone) w := fun a w => Lib.run_eql_slice_nil w 77 165 a n ca 0 0 Tryz.underlying77
  cases a with
  | none =>
    have hn : n = 0 := by rcases Nat.eq_zero_or_pos n with h | h; exact h; obtain ⟨b, o, h2, _⟩ := hra.2 h; cases h2
    subst hn
    have e1 := hen none
    go_enter Tryz.func223, Tryz.ntmps223
    go_wp2
    go_ret
    obtain rfl : xs = [] := List.length_eq_zero_iff.1 HX.out
    exact ⟨_, rfl, World.ownsRow_nil _ _ _ _, Grew.refl _⟩
  | some a =>
    have e1 := hen (some a)
    obtain ⟨i0, hi, hz0, hz1, hz2⟩ := info_parts Tryz.infoAt
    have HN := Lib.hid (rd_news hra ((Grew.refl w).alloc (.cells #[] 165)))
    have HL := Lib.hid (lit_own w 165 4)
    have HC := Lib.hid hra.1
    clear hra hen
    go_enter Tryz.func223, Tryz.ntmps223
    go_wp2_with (at_builtin; refine wpList_append_own _ rfl _ _ 77 rfl w.heap.size 165 i0 _ 4 48 Tryz.underlying77 hi hz0 hz1 hz2 rfl (by decide) _ 0 [] rfl HL.out a n ca (rows At.c xs) rfl ?c1 ?c2 ?c3 ?c4 ?c5 ?c6 ?_)
    case c1 => exact HC.out
    case c2 => exact HN.out
    case c3 => exact one_at xs
    case c4 => unfold maxLen; omega
    case c5 => omega
    case c6 => simp
    intro v' w' hown' hgrow _
    go_wp2
    go_ret
    refine ⟨_, rfl, by simpa using hown', ((Grew.refl w).alloc _).grown hgrow (fun k h => ?_)⟩
    cases h; exact Nat.le_refl _
set_option maxRecDepth 100000 in
set_option maxHeartbeats 1000000 in
theorem slCloneField (va : Value) (n : Nat) (xs : List Fd) (w : World) (ha : Rd w va 2 n (rows Fd.c xs)) (hx : n ≤ 4000000) :
    Calls Tryz.prog 183 #[va] w fun e w' => ∃ v, e = .returned v ∧ w'.ownsRow w.heap.size 167 2 v n (rows Fd.c xs) ∧ Grew w w' := by
  obtain ⟨a, ca, rfl, hca, hra⟩ := ha
  have HX := Lib.hid (hra.len_rows Fd.len (by decide))
  have hen : ∀ a w, (binOp .eql 24 (.slice a n ca) (.slice none 0 0)).run Tryz.prog w = .ok (.bool a.isNone) w := fun a w => Lib.run_eql_slice_nil w 24 167 a n ca 0 0 Tryz.underlying24
  cases a with
  | none =>
    have hn : n = 0 := by rcases Nat.eq_zero_or_pos n with h | h; exact h; obtain ⟨b, o, h2, _⟩ := hra.2 h; cases h2
    subst hn
    have e1 := hen none
    go_enter Tryz.func183, Tryz.ntmps183
    go_wp2
    go_ret
    obtain rfl : xs = [] := List.length_eq_zero_iff.1 HX.out
    exact ⟨_, rfl, World.ownsRow_nil _ _ _ _, Grew.refl _⟩
  | some a =>
    have e1 := hen (some a)
    obtain ⟨i0, hi, hz0, hz1, hz2⟩ := info_parts Tryz.infoFd
    have HN := Lib.hid (rd_news hra ((Grew.refl w).alloc (.cells #[] 167)))
    have HL := Lib.hid (lit_own w 167 2)
    have HC := Lib.hid hra.1
    clear hra hen
    go_enter Tryz.func183, Tryz.ntmps183
    go_wp2_with (at_builtin; refine wpList_append_own _ rfl _ _ 24 rfl w.heap.size 167 i0 _ 2 24 Tryz.underlying24 hi hz0 hz1 hz2 rfl (by decide) _ 0 [] rfl HL.out a n ca (rows Fd.c xs) rfl ?c1 ?c2 ?c3 ?c4 ?c5 ?c6 ?_)
    case c1 => exact HC.out
    case c2 => exact HN.out
    case c3 => exact one_fd xs
    case c4 => unfold maxLen; omega
    case c5 => omega
    case c6 => simp
    intro v' w' hown' hgrow _
    go_wp2
    go_ret
    refine ⟨_, rfl, by simpa using hown', ((Grew.refl w).alloc _).grown hgrow (fun k h => ?_)⟩
    cases h; exact Nat.le_refl _
set_option maxRecDepth 100000 in
set_option maxHeartbeats 1000000 in
theorem implCopyFile (x : Fl) (p : P5) (w : World) (h : Fl.R w x p) (hx : x.small) :
    Calls Tryz.prog 185 #[p.v] w fun e w' => ∃ p' : P5, e = .returned p'.v ∧ Fl.O w' w.heap.size w'.heap.size x p' ∧ Grew w w' := by
  obtain ⟨pi, po, ps, pl, pa⟩ := p
  obtain ⟨h1, h2, h3, h4, ⟨a_q, ca_q, hq_q, hca_q, hra_q⟩⟩ := h
  simp only at h1 h2 h3 h4 hq_q
  subst hq_q
  have H1 := Lib.hid h1
  have H2 := Lib.hid h2
  have H3 := Lib.hid h3
  have H4 := Lib.hid h4
  clear h1 h2 h3 h4
  go_enter Tryz.func185, Tryz.ntmps185
  go_wp2_with fail
  refine (slCloneAttr _ _ x.attrs _ ⟨a_q, ca_q, rfl, hca_q, hra_q.grew (((Grew.refl w).alloc _).alloc _)⟩ hx).mono ?_
  rintro e w1 ⟨v, rfl, ho1, hb1⟩
  obtain ⟨a1, c1, rfl⟩ := own_slice ho1
  have g1 : Grew w w1 := (((Grew.refl w).alloc _).alloc _).trans hb1
  have f1_1_0 := grew_cell (a := ⟨w.heap.size, 0, none⟩) hb1 (by simp [go_sem]; rfl)
  have f1_1_1 := grew_cell (a := ⟨w.heap.size, 1, none⟩) hb1 (by simp [go_sem]; rfl)
  have f1_1_2 := grew_cell (a := ⟨w.heap.size, 2, none⟩) hb1 (by simp [go_sem]; rfl)
  have f1_1_3 := grew_cell (a := ⟨w.heap.size, 3, none⟩) hb1 (by simp [go_sem]; rfl)
  have f1_1_4 := grew_cell (a := ⟨w.heap.size, 4, none⟩) hb1 (by simp [go_sem]; rfl)
  have f1_2_0 := grew_cell (a := ⟨w.heap.size + 1, 0, none⟩) hb1 (by simp [go_sem]; rfl)
  have f1_2_1 := grew_cell (a := ⟨w.heap.size + 1, 1, none⟩) hb1 (by simp [go_sem]; rfl)
  have f1_2_2 := grew_cell (a := ⟨w.heap.size + 1, 2, none⟩) hb1 (by simp [go_sem]; rfl)
  have f1_2_3 := grew_cell (a := ⟨w.heap.size + 1, 3, none⟩) hb1 (by simp [go_sem]; rfl)
  have f1_2_4 := grew_cell (a := ⟨w.heap.size + 1, 4, none⟩) hb1 (by simp [go_sem]; rfl)
  have z1_1 := fun j => grew_frozen (a := ⟨w.heap.size, j, none⟩) hb1 (by simp; omega) (by simp [go_sem])
  have z1_2 := fun j => grew_frozen (a := ⟨w.heap.size + 1, j, none⟩) hb1 (by simp) (by simp [go_sem])
  go_wp2
  have ow1 := (ownsRow_setCell_below (ownsRow_setCell_below (ownsRow_setCell_below (ownsRow_setCell_below (ownsRow_setCell_below (ownsRow_setCell_below (ownsRow_base ho1 (base' := w.heap.size + 2) (by simp)) (a := ⟨w.heap.size, 4, none⟩) (by simp) (Value.slice a1 x.attrs.length c1)) (a := ⟨w.heap.size + 1, 0, none⟩) (by simp) (Value.int .i64 pi)) (a := ⟨w.heap.size + 1, 1, none⟩) (by simp) (Value.int .i64 po)) (a := ⟨w.heap.size + 1, 2, none⟩) (by simp) (Value.bool ps)) (a := ⟨w.heap.size + 1, 3, none⟩) (by simp) (Value.int .i64 pl)) (a := ⟨w.heap.size + 1, 4, none⟩) (by simp) (Value.slice a1 x.attrs.length c1))
  refine bodyPost_ret (v := P5.v ⟨pi, po, ps, pl, .slice a1 x.attrs.length c1⟩) (by simp [results, Tryz.results185, go_sem, f1_2_0, f1_2_1, f1_2_2, f1_2_3, f1_2_4]) rfl ⟨⟨pi, po, ps, pl, .slice a1 x.attrs.length c1⟩, rfl, ⟨H1.out, H2.out, H3.out, H4.out, (own_of ow1).mono (by omega) (Nat.le_refl _)⟩, ?_⟩
  · repeat' (first | with_reducible exact g1 | with_reducible refine Grew.setCell ?_ ?_ _ | (dsimp only; omega))
set_option maxRecDepth 100000 in
set_option maxHeartbeats 2000000 in
theorem l04Copy (x : Fl) (p : P5) (w : World) (h : Fl.R w x p) (hx : x.small) :
    Calls Tryz.prog 150 #[p.v] w fun e w' => ∃ p' : P5, e = .returned p'.v ∧ Fl.O w' w.heap.size w'.heap.size x p' ∧ Grew w w' := by
  obtain ⟨pi, po, ps, pl, pa⟩ := p
  obtain ⟨h1, h2, h3, h4, ⟨a_q, ca_q, hq_q, hca_q, hra_q⟩⟩ := h
  simp only at h1 h2 h3 h4 hq_q
  subst hq_q
  have H1 := Lib.hid h1
  have H2 := Lib.hid h2
  have H3 := Lib.hid h3
  have H4 := Lib.hid h4
  have hlen : x.attrs.length ≤ 4000000 := hx
  clear h1 h2 h3 h4 hx
  obtain ⟨i0, hi, hz0, hz1, hz2⟩ := info_parts Tryz.infoAt
  have gW := ((Grew.refl w).alloc (.cells #[.int .i64 pi, .int .i64 po, .bool ps, .int .i64 pl, .slice a_q x.attrs.length ca_q] 79)).alloc (.cells #[.int .i64 0, .int .i64 0, .bool false, .int .i64 0, .slice none 0 0] 79)
  obtain ⟨W, hW⟩ : ∃ W, W = (w.alloc (.cells #[.int .i64 pi, .int .i64 po, .bool ps, .int .i64 pl, .slice a_q x.attrs.length ca_q] 79)).alloc (.cells #[.int .i64 0, .int .i64 0, .bool false, .int .i64 0, .slice none 0 0] 79) := ⟨_, rfl⟩
  have hs : W.heap.size = w.heap.size + 2 := by rw [hW]; simp
  have HW := Lib.hid hW
  rw [← hW] at gW
  cases a_q with
  | none =>
    have h0 : x.attrs.length = 0 := by rcases Nat.eq_zero_or_pos x.attrs.length with h | h; exact h; obtain ⟨b, o, h2, _⟩ := hra_q.2 h; cases h2
    have HE := Lib.hid (List.length_eq_zero_iff.1 h0)
    rw [h0] at hca_q
    clear hra_q hW
    rw [h0]
    go_enter Tryz.func150, Tryz.ntmps150
    go_wp2
    refine bodyPost_ret (v := P5.v ⟨pi, po, ps, pl, .slice (some ⟨w.heap.size + 2, 0, none⟩) 0 0⟩) (by simp [results, Tryz.results150, go_sem]) rfl ⟨⟨pi, po, ps, pl, .slice (some ⟨w.heap.size + 2, 0, none⟩) 0 0⟩, rfl, ⟨H1.out, H2.out, H3.out, H4.out, ?_⟩, ?_⟩
    · rw [HE.out]
      have h1 : ∀ V : World, V.heap.size = w.heap.size + 1 + 1 → Own (V.alloc (.cells #[] 165)) w.heap.size (V.alloc (.cells #[] 165)).heap.size 165 4 (.slice (some ⟨w.heap.size + 1 + 1, 0, none⟩) 0 0) 0 [] := fun V h => by
        have h1 := own_of (lit_own V 165 4)
        rw [h] at h1
        exact h1.mono (by omega) (Nat.le_refl _)
      exact h1 _ (by simp)
    · exact (((Grew.refl w).alloc _).alloc _).alloc _
  | some a_q =>
    have HN := Lib.hid (rd_news hra_q (gW.alloc (.cells #[] 165)))
    have HC := Lib.hid hra_q.1
    have HLIT : Hid ((W.alloc (.cells #[] 165)).ownsRow (w.heap.size + 1 + 1) 165 4 (.slice (some ⟨w.heap.size + 1 + 1, 0, none⟩) 0 0) 0 []) := by
      have h1 := lit_own W 165 4
      rw [hs] at h1
      exact Lib.hid h1
    clear hra_q hW
    go_enter Tryz.func150, Tryz.ntmps150
    go_wp2_with (at_builtin; refine wpList_append_own _ rfl _ _ 77 rfl (w.heap.size + 1 + 1) 165 i0 _ 4 48 Tryz.underlying77 hi hz0 hz1 hz2 rfl (by decide) _ 0 [] rfl (by rw [← HW.out]; exact HLIT.out) a_q x.attrs.length ca_q (rows At.c x.attrs) rfl ?c1 ?c2 ?c3 ?c4 ?c5 ?c6 ?_)
    case c1 => exact HC.out
    case c2 => rw [← HW.out]; exact HN.out
    case c3 => exact one_at x.attrs
    case c4 => unfold maxLen; omega
    case c5 => omega
    case c6 => simp
    intro v1 w1 hown1 hgr1 _
    rw [← HW.out] at hgr1
    have hgA : Grew W w1 := ((Grew.refl W).alloc (.cells #[] 165)).grown hgr1 (fun k h => by cases h; dsimp only; omega)
    have hg1 := gW.trans hgA
    have HO : Hid (w1.ownsRow (w.heap.size + 1 + 1) 165 4 v1 x.attrs.length (rows At.c x.attrs)) := by simpa using Lib.hid hown1
    obtain ⟨a1, c1, rfl⟩ := own_slice HO.out
    clear hown1 hgr1
    have f0_0 := grew_cell (a := ⟨w.heap.size, 0, none⟩) (u := .int .i64 pi) hgA (by rw [HW.out]; simp)
    have f0_1 := grew_cell (a := ⟨w.heap.size, 1, none⟩) (u := .int .i64 po) hgA (by rw [HW.out]; simp)
    have f0_2 := grew_cell (a := ⟨w.heap.size, 2, none⟩) (u := .bool ps) hgA (by rw [HW.out]; simp)
    have f0_3 := grew_cell (a := ⟨w.heap.size, 3, none⟩) (u := .int .i64 pl) hgA (by rw [HW.out]; simp)
    have f0_4 := grew_cell (a := ⟨w.heap.size, 4, none⟩) (u := .slice (some a_q) x.attrs.length ca_q) hgA (by rw [HW.out]; simp)
    have z0 := fun j => grew_frozen (a := ⟨w.heap.size, j, none⟩) hgA (by simp; omega) (by rw [HW.out]; simp [go_sem])
    have f1_0 := grew_cell (a := ⟨w.heap.size + 1, 0, none⟩) (u := .int .i64 0) hgA (by rw [HW.out]; simp)
    have f1_1 := grew_cell (a := ⟨w.heap.size + 1, 1, none⟩) (u := .int .i64 0) hgA (by rw [HW.out]; simp)
    have f1_2 := grew_cell (a := ⟨w.heap.size + 1, 2, none⟩) (u := .bool false) hgA (by rw [HW.out]; simp)
    have f1_3 := grew_cell (a := ⟨w.heap.size + 1, 3, none⟩) (u := .int .i64 0) hgA (by rw [HW.out]; simp)
    have f1_4 := grew_cell (a := ⟨w.heap.size + 1, 4, none⟩) (u := .slice none 0 0) hgA (by rw [HW.out]; simp)
    have z1 := fun j => grew_frozen (a := ⟨w.heap.size + 1, j, none⟩) hgA (by simp; omega) (by rw [HW.out]; simp [go_sem])
    go_wp2
    have ow1 := (ownsRow_setCell_below (ownsRow_setCell_below (ownsRow_setCell_below (ownsRow_setCell_below (ownsRow_setCell_below (ownsRow_setCell_below HO.out (a := ⟨w.heap.size, 4, none⟩) (by dsimp only; omega) (Value.slice a1 x.attrs.length c1)) (a := ⟨w.heap.size + 1, 0, none⟩) (by dsimp only; omega) (Value.int .i64 pi)) (a := ⟨w.heap.size + 1, 1, none⟩) (by dsimp only; omega) (Value.int .i64 po)) (a := ⟨w.heap.size + 1, 2, none⟩) (by dsimp only; omega) (Value.bool ps)) (a := ⟨w.heap.size + 1, 3, none⟩) (by dsimp only; omega) (Value.int .i64 pl)) (a := ⟨w.heap.size + 1, 4, none⟩) (by dsimp only; omega) (Value.slice a1 x.attrs.length c1))
    refine bodyPost_ret (v := P5.v ⟨pi, po, ps, pl, .slice a1 x.attrs.length c1⟩) (by simp [results, Tryz.results150, go_sem, f1_0, f1_1, f1_2, f1_3, f1_4]) rfl ⟨⟨pi, po, ps, pl, .slice a1 x.attrs.length c1⟩, rfl, ⟨H1.out, H2.out, H3.out, H4.out, (own_of ow1).mono (by omega) (Nat.le_refl _)⟩, ?_⟩
    repeat' (first | with_reducible exact hg1 | with_reducible refine Grew.setCell ?_ ?_ _ | (dsimp only; omega))
set_option maxRecDepth 100000 in
set_option maxHeartbeats 1000000 in
theorem l05Place (p_q p_r : Value) (nx : Int) (fs : List Fl) (id : Int) (w : World) (hr : RdLs w p_r fs) (hx : fs.length ≤ 4000000) :
    Calls Tryz.prog 151 #[.agg #[p_q, p_r, .int .i64 nx], .int .i64 id] w fun e w' => ∃ i : Int, e = .returned (.int .i64 i) ∧ ((hasF fs id = true ∧ 0 ≤ i) ∨ (hasF fs id = false ∧ i = -1)) ∧ Grew w w' := by
  have hg0 := (Grew.refl w).alloc (.cells #[p_q, p_r, .int .i64 nx] 27)
  have HR := Lib.hid (RdLs.grew hr hg0)
  obtain ⟨qs, ⟨a, ca, rfl, hca, hra⟩, hall⟩ := hr
  clear hra hall
  obtain ⟨qs, ⟨_, _, h1, _, hra⟩, hall⟩ := HR.out
  cases h1
  have HA := Lib.hid hall
  clear hall
  generalize hn : fs.length = n at hx hra
  have HX := Lib.hid hn
  clear hn
  go_enter Tryz.func151, Tryz.ntmps151
  go_wp2
  go_loop [5] (fun i => ∃ k : Nat, k ≤ n ∧ i = .int .i64 k ∧ Hid (hasF (fs.take k) id = false)) (fun i => n - (intOf i).toNat)
  case atStart => exact ⟨0, Nat.zero_le _, rfl, Lib.hid rfl⟩
  case round =>
    obtain ⟨k, hk, rfl, hno⟩ := hrel
    by_cases hlt : k < n
    · obtain ⟨b1, o1, p, rfl, hpk, c0, c1, c2, c3, c4⟩ := hra.getP5 hlt
      obtain ⟨x, hxk, hxr⟩ := HA.out.get hpk.out
      have hid := hxr.1
      rw [hid] at c0
      have hcs : (x.id == id) = true ∨ (x.id == id) = false := by cases x.id == id <;> simp
      rcases hcs with hn | hn
      · have HF := Lib.hid (hasF_yes hxk.out hn)
        go_wp2
        go_ret
        exact ⟨_, rfl, .inl ⟨HF.out, by omega⟩, (Grew.refl w).alloc _⟩
      · have HF := Lib.hid (hasF_no hno.out hxk.out hn)
        go_wp2
        exact ⟨⟨k + 1, by omega, by go_num, HF⟩, by simp [intOf]; omega⟩
    · obtain rfl : k = n := by omega
      have h1 := hno.out
      rw [take_all HX.out] at h1
      have H1 := Lib.hid h1
      clear h1 hno
      go_wp2
      go_ret
      exact ⟨_, rfl, .inr ⟨H1.out, rfl⟩, (Grew.refl w).alloc _⟩
set_option maxRecDepth 100000 in
set_option maxHeartbeats 1000000 in
theorem cloFileAt (p : P5) (g : Nat) (id : Int) (w : World) (hc : w.cell? ⟨g, 0, none⟩ = some (.int .i64 id)) :
    Calls Tryz.prog 225 #[p.v, .pointer (some ⟨g, 0, none⟩)] w fun e w' => e = .returned (.bool (p.id == id)) ∧ Grew w w' := by
  have e1 := grew_cell ((Grew.refl w).alloc (.cells #[.int .i64 p.id, .int .i64 p.owner, .bool p.shared, .int .i64 p.link, p.attrs] 79)) hc
  go_enter Tryz.func225, Tryz.ntmps225
  go_wp2
  go_ret
  exact ⟨rfl, (Grew.refl _).alloc _⟩
set_option maxRecDepth 100000 in
set_option maxHeartbeats 1000000 in
theorem slIndexFile (va : Value) (fs : List Fl) (g : Nat) (id : Int) (w : World) (hr : RdLs w va fs) (hx : fs.length ≤ 4000000) (hc : w.cell? ⟨g, 0, none⟩ = some (.int .i64 id)) :
    Calls Tryz.prog 224 #[va, .func (.func 225) #[] #[.pointer (some ⟨g, 0, none⟩)]] w fun e w' => ∃ i : Int, e = .returned (.int .i64 i) ∧ ((hasF fs id = true ∧ 0 ≤ i) ∨ (hasF fs id = false ∧ i = -1)) ∧ Grew w w' := by
  obtain ⟨qs, ⟨a, ca, rfl, hca, hra⟩, hall⟩ := hr
  have HA := Lib.hid hall
  have HC := Lib.hid hc
  clear hall hc
  generalize hn : fs.length = n at hx hra
  have HX := Lib.hid hn
  clear hn
  go_enter Tryz.func224, Tryz.ntmps224
  go_wp2
  go_loopw [5, 8] (fun _ i wr => ∃ k : Nat, k ≤ n ∧ i = .int .i64 k ∧ Hid (hasF (fs.take k) id = false) ∧ Grew w wr) (fun _ i _ => n - (intOf i).toNat)
  case atStart => exact ⟨0, Nat.zero_le _, rfl, Lib.hid rfl, Grew.refl _⟩
  case round =>
    obtain ⟨k, hk, rfl, hno, hbel⟩ := hrel
    by_cases hlt : k < n
    · obtain ⟨b1, o1, p, rfl, hpk, c0, c1, c2, c3, c4⟩ := (hra.grew hbel).getP5 hlt
      obtain ⟨x, hxk, hxr⟩ := HA.out.get hpk.out
      have hid := hxr.1
      obtain ⟨v, hv⟩ : ∃ v, (p.id == id) = v := ⟨_, rfl⟩
      have hv2 : (x.id == id) = v := by rw [← hid]; exact hv
      have HV := Lib.hid hv
      have HV2 := Lib.hid hv2
      clear hv hv2 hid hxr
      cases v
      · have HF := Lib.hid (hasF_no hno.out hxk.out HV2.out)
        go_wp2_with (go_at_call 225; refine (cloFileAt ⟨p.id, p.owner, p.shared, p.link, p.attrs⟩ g id _ (grew_cell hbel HC.out)).mono ?_; rintro e w1 ⟨he, hb⟩; rw [HV.out] at he; subst he)
        go_roundw
        case rel => exact ⟨k + 1, by omega, by go_num, HF, hbel.trans hb⟩
        case measure => simp [intOf]; omega
      · have HF := Lib.hid (hasF_yes hxk.out HV2.out)
        go_wp2_with (go_at_call 225; refine (cloFileAt ⟨p.id, p.owner, p.shared, p.link, p.attrs⟩ g id _ (grew_cell hbel HC.out)).mono ?_; rintro e w1 ⟨he, hb⟩; rw [HV.out] at he; subst he)
        go_ret
        exact ⟨_, rfl, .inl ⟨HF.out, by omega⟩, hbel.trans hb⟩
    · obtain rfl : k = n := by omega
      have h1 := hno.out
      rw [take_all HX.out] at h1
      have H1 := Lib.hid h1
      clear h1 hno
      go_wp2
      go_ret
      exact ⟨_, rfl, .inr ⟨H1.out, rfl⟩, hbel⟩
set_option maxRecDepth 100000 in
set_option maxHeartbeats 1000000 in
theorem implFileAt (p_q p_r : Value) (nx : Int) (fs : List Fl) (id : Int) (w : World) (hr : RdLs w p_r fs) (hx : fs.length ≤ 4000000) :
    Calls Tryz.prog 186 #[.agg #[p_q, p_r, .int .i64 nx], .int .i64 id] w fun e w' => ∃ i : Int, e = .returned (.int .i64 i) ∧ ((hasF fs id = true ∧ 0 ≤ i) ∨ (hasF fs id = false ∧ i = -1)) ∧ Grew w w' := by
  have hg := ((Grew.refl w).alloc (.cells #[p_q, p_r, .int .i64 nx] 27)).alloc (.cells #[.int .i64 id] 3)
  have HA := Lib.hid (RdLs.grew hr hg)
  obtain ⟨qs, ⟨a, ca, rfl, hca, hra⟩, hall⟩ := hr
  clear hall hra
  have hmf : ∀ (fn : Fn) (first cap : Array Value) (w : World), (Instr.makeFunc fn first cap).run Tryz.prog w = .ok (.func fn first cap) w := fun _ _ _ _ => rfl
  go_enter Tryz.func186, Tryz.ntmps186
  go_wp2_with fail
  refine (slIndexFile _ fs (w.heap.size + 1) id _ HA.out hx (by simp)).mono ?_
  rintro e w1 ⟨i, rfl, hp, hb⟩
  go_wp2
  go_ret
  exact ⟨_, rfl, hp, hg.trans hb⟩
end Go.Proofs.YtejgpghcahinhaaGreat
namespace Go.Proofs.YtejgpghcahinhaaGreat
open Go.RowKit
set_option linter.unusedVariables false
def Cur (w : World) (g : Nat) : Prop :=
  ∃ (a : Option Addr) (n c : Nat) (i h : Int) (bs : List Int), w.cell? ⟨g, 0, none⟩ = some (.slice a n c) ∧ w.cell? ⟨g, 1, none⟩ = some (.int .i64 i) ∧ w.cell? ⟨g, 2, none⟩ = some (.int .i64 h) ∧
    0 ≤ i ∧ i ≤ n ∧ n ≤ 1048576 ∧ RdA w a 1 n (bs.map (Value.int .u8)) ∧ (0 < n → ∀ b, a = some b → b.block < g) ∧ w.frozen? ⟨g, 1, none⟩ = false ∧ w.frozen? ⟨g, 2, none⟩ = false
theorem Cur.lt {w : World} {g : Nat} (h : Cur w g) : g < w.heap.size := by
  obtain ⟨a, n, c, i, k, bs, h0, _⟩ := h
  exact lt_of_cell h0
theorem tch_cell {w w' : World} {lo hi : Nat} (ht : Touch lo hi w w') {p : Addr} {u : Value} (hb : p.block < lo ∨ hi ≤ p.block) (h : w.cell? p = some u) : w'.cell? p = some u :=
  (World.cell?_of_block (w := w) (ht.block p.block (lt_of_cell h) hb)).trans h
theorem tch_frozen {w w' : World} {lo hi : Nat} (ht : Touch lo hi w w') {p : Addr} (hl : p.block < w.heap.size) (hb : p.block < lo ∨ hi ≤ p.block) (h : w.frozen? p = false) : w'.frozen? p = false :=
  (World.frozen?_of_block (w := w) (ht.block p.block hl hb)).trans h
theorem RdA.tch {w w' : World} {a : Option Addr} {k n lo hi : Nat} {cs : List Value} (h : RdA w a k n cs) (ht : Touch lo hi w w') (hb : 0 < n → ∀ b, a = some b → b.block < lo ∨ hi ≤ b.block) : RdA w' a k n cs := by
  obtain ⟨hl, hr⟩ := h
  refine ⟨hl, fun hn => ?_⟩
  obtain ⟨b, o, rfl, hj⟩ := hr hn
  refine ⟨b, o, rfl, fun j hjn => ?_⟩
  have h0 := hj j hjn
  rw [List.getElem?_eq_getElem (by omega)] at h0 ⊢
  exact tch_cell ht (p := ⟨b, o + j, none⟩) (hb hn ⟨b, o, none⟩ rfl) h0
theorem Cur.touch {w w' : World} {g lo hi : Nat} (h : Cur w g) (ht : Touch lo hi w w') (hg : g < lo) : Cur w' g := by
  have hlt := h.lt
  obtain ⟨a, n, c, i, k, bs, h0, h1, h2, h3, h4, h5, h6, h7, h8, h9⟩ := h
  exact ⟨a, n, c, i, k, bs, tch_cell ht (.inl hg) h0, tch_cell ht (.inl hg) h1, tch_cell ht (.inl hg) h2, h3, h4, h5, h6.tch ht (fun hn b hb => .inl (by have := h7 hn b hb; omega)), h7, tch_frozen ht hlt (.inl hg) h8, tch_frozen ht hlt (.inl hg) h9⟩
theorem Cur.grew {w w' : World} {g : Nat} (h : Cur w g) (hg : Grew w w') : Cur w' g := h.touch (hg.touch (g + 1) (g + 1)) (Nat.lt_succ_self g)
def D (g : Nat) (w w' : World) : Prop := g < w.heap.size ∧ Touch g (g + 1) w w' ∧ Cur w' g
theorem D.refl {w : World} {g : Nat} (h : Cur w g) : D g w w := ⟨h.lt, Touch.refl _ _ _, h⟩
theorem D.cur {g : Nat} {w w' : World} (h : D g w w') : Cur w' g := h.2.2
theorem D.size {g : Nat} {w w' : World} (h : D g w w') : w.heap.size ≤ w'.heap.size := h.2.1.size
theorem D.lt {g : Nat} {w w' : World} (h : D g w w') : g < w.heap.size := h.1
theorem D.trans {g : Nat} {a b c : World} (h : D g a b) (k : D g b c) : D g a c := ⟨h.1, h.2.1.trans k.2.1, k.2.2⟩
theorem D.grew {g : Nat} {a b c : World} (h : D g a b) (k : Grew b c) : D g a c := ⟨h.1, h.2.1.grew k, h.2.2.grew k⟩
theorem D.alloc {g : Nat} {a b : World} (h : D g a b) (o : Obj) : D g a (b.alloc o) := h.grew ((Grew.refl b).alloc o)
theorem D.drew {g : Nat} {a b : World} (h : D g a b) : D g a b.drew := h.grew (Grew.refl b).drew
theorem D.drewN {g : Nat} {a b : World} (h : D g a b) (n : Nat) : D g a (b.drewN n) := h.grew ((Grew.refl b).drewN n)
theorem D.touch {g lo hi : Nat} {a b c : World} (h : D g a b) (k : Touch lo hi b c) (hl : a.heap.size ≤ lo) : D g a c := by
  have hg := h.1
  refine ⟨hg, ⟨k.os.trans h.2.1.os, k.tape.trans h.2.1.tape, k.output.trans h.2.1.output, Nat.le_trans h.2.1.size k.size, fun b' hb ho => ?_⟩, h.2.2.touch k (by omega)⟩
  exact (k.block b' (Nat.lt_of_lt_of_le hb h.2.1.size) (.inl (by omega))).trans (h.2.1.block b' hb ho)
theorem D.setCell {g : Nat} {a b : World} (h : D g a b) {p : Addr} (hp : a.heap.size ≤ p.block) (u : Value) : D g a (b.setCell p u) :=
  h.touch (lo := p.block) (hi := p.block + 1) (Touch.setCell (Touch.refl _ _ _) (Nat.le_refl _) (Nat.lt_succ_self _) u) hp
theorem grown_touch {w w' : World} {row : Option Nat} (hg : w.grownBy w' row) {lo hi : Nat} (hr : ∀ k, row = some k → lo ≤ k ∧ k < hi) : Touch lo hi w w' :=
  ⟨hg.os, hg.tape, hg.output, hg.size, fun b hb ho => hg.block b hb (fun e => by have := hr b e.symm; omega)⟩
theorem D.grown {g : Nat} {a b c : World} {row : Option Nat} (h : D g a b) (hg : b.grownBy c row) (hr : ∀ k, row = some k → a.heap.size ≤ k) : D g a c := by
  cases row with
  | none => exact h.touch (lo := a.heap.size) (hi := a.heap.size) (grown_touch hg (fun k hk => by cases hk)) (Nat.le_refl _)
  | some k => exact h.touch (lo := k) (hi := k + 1) (grown_touch hg (fun j hj => by cases hj; omega)) (hr k rfl)
theorem D.cell {g : Nat} {w w' : World} (h : D g w w') {p : Addr} {u : Value} (hc : w.cell? p = some u) (hp : p.block ≠ g) : w'.cell? p = some u :=
  tch_cell h.2.1 (by omega) hc
theorem D.frozen {g : Nat} {w w' : World} (h : D g w w') {p : Addr} (hl : p.block < w.heap.size) (hf : w.frozen? p = false) (hp : p.block ≠ g) : w'.frozen? p = false :=
  tch_frozen h.2.1 hl (by omega) hf
theorem ownsRow_tch {w w' : World} {lo hi base : Nat} {e : TypeId} {k n : Nat} {v : Value} {cs : List Value} (h : w.ownsRow base e k v n cs) (ht : Touch lo hi w w') (hd : hi ≤ base) : w'.ownsRow base e k v n cs := by
  obtain ⟨hl, ⟨rfl, rfl⟩ | ⟨g, cap, cur, rfl, hg, hh, hr⟩⟩ := h
  · exact ⟨hl, .inl ⟨rfl, rfl⟩⟩
  · refine ⟨hl, .inr ⟨g, cap, cur, rfl, hg, ?_, hr⟩⟩
    rw [ht.block g (Array.getElem?_eq_some_iff.1 hh).1 (.inr (by omega))]
    exact hh
theorem D.own {g : Nat} {w w' : World} (h : D g w w') {base : Nat} {e : TypeId} {k n : Nat} {v : Value} {cs : List Value} (hr : w.ownsRow base e k v n cs) (hg : g < base) : w'.ownsRow base e k v n cs :=
  ownsRow_tch hr h.2.1 hg
theorem D.rd {g : Nat} {w w' : World} (h : D g w w') {k n : Nat} {v : Value} {cs : List Value} (hr : Rd w v k n cs) (hg : v.ownBlock ≠ some g) : Rd w' v k n cs := by
  obtain ⟨a, c, rfl, hc, ha⟩ := hr
  refine ⟨a, c, rfl, hc, ha.tch h.2.1 fun _ b hb => ?_⟩
  subst hb
  have : b.block ≠ g := fun e => hg (by simp [Value.ownBlock, e])
  omega
end Go.Proofs.YtejgpghcahinhaaGreat
namespace Go.Proofs.YtejgpghcahinhaaGreat
open Go.RowKit
set_option linter.unusedVariables false
theorem D.of {w w' : World} {g : Nat} (hl : g < w.heap.size) (ht : Touch g (g + 1) w w') (hc : Cur w' g) : D g w w' := ⟨hl, ht, hc⟩
end Go.Proofs.YtejgpghcahinhaaGreat
namespace Go.Proofs.YtejgpghcahinhaaGreat
open Go.RowKit
set_option linter.unusedVariables false
section
variable {P : Program} {md : Region.Mode} {ops : Array Oper} {Q : Exit → Act → World → Prop} {S : World → Prop}
theorem cl2 (i j : Nat) {oi oj : Oper} {rs rt : List Oper} {fuel : Nat} {listed : Array Bool} {a : Act} {w : World} (hi : ops.toList.drop i = oi :: rs) (hj : ops.toList.drop j = oj :: rt) (hr : Region.ready md ops listed = [i, j])
    (h : ∀ K' : Act → World → Prop, Shut (∀ a w, S w → (S w → wpAnyH P md ops Q S fuel (listed.setIfInBounds i true) a w) → K' a w) → if Region.wanted oi (yielded ops a.tmps) = true then Oper.wp P oi a w K' Q else K' (a.put oi.dst undef) w)
    (h' : ∀ K' : Act → World → Prop, Shut (∀ a w, S w → (S w → wpAnyH P md ops Q S fuel (listed.setIfInBounds j true) a w) → K' a w) → if Region.wanted oj (yielded ops a.tmps) = true then Oper.wp P oj a w K' Q else K' (a.put oj.dst undef) w) :
    wpAnyH P md ops Q S (fuel + 1) listed a w :=
  wpAnyH_ready hr (by simp) (AllReadyH.cons (at_of_drop hi) h (AllReadyH.cons (at_of_drop hj) h' AllReadyH.nil))
end
theorem lit_news {w : World} {cs : Array Value} {e : TypeId} {g : Nat} (hg : g = w.heap.size) : ∀ j u, cs.toList[j]? = some u → (w.alloc (.cells cs e)).cell? ((⟨g, 0, none⟩ : Addr).add j) = some u := by
  subst hg
  intro j u hu
  rw [Addr.add_lit, Nat.zero_add, World.cell?_alloc_at (w := w) cs e w.heap.size j rfl, ← Array.getElem?_toList]
  exact hu
end Go.Proofs.YtejgpghcahinhaaGreat
namespace Go.Proofs.YtejgpghcahinhaaGreat
open Go.RowKit
set_option linter.unusedVariables false
section
variable {P : Program} (w : World)
theorem run_append_nil' (base : Nat) (t ty e : TypeId) (i : TypeInfo) (size : Nat) (ht : P.underlying t = some (.slice e)) (hi : P.info? e = some i)
    (v : Value) (n c : Nat) (xs : List Value) (hown : w.ownsRow base e size v n xs) : (Builtin.append_ #[t, t] ty #[v, .slice none 0 c]).run P w = .ok v w := by
  rcases hown.2 with ⟨rfl, rfl⟩ | ⟨g, cap, cur, rfl, _, _, hnc, _⟩
  · simp [Builtin.append_, run_underlying ht, sizeOf, typeInfo, hi, Builtin.lenOf, Builtin.firstCells]
  · simp [Builtin.append_, run_underlying ht, sizeOf, typeInfo, hi, Builtin.lenOf, Builtin.firstCells, hnc, storeCells]
theorem wp_append_any {o : Oper} {a : Act} {K : Act → World → Prop} {Q : Exit → Act → World → Prop} (s x : Operand) (t : TypeId)
    (ho : o.op = .call { callee := .builtin .append, args := #[s, x], argTypes := #[t, t] })
    (base : Nat) (e : TypeId) (i : TypeInfo) (z : Value) (size bytes : Nat) (ht : P.underlying t = some (.slice e)) (hi : P.info? e = some i) (hz : i.zero = some z)
    (hsize : i.size = size) (hby : i.bytes = bytes) (hzs : z.cells.size = size) (hsz : 0 < size)
    (v : Value) (n : Nat) (xs : List Value) (hs : a.eval s = v) (hown : w.ownsRow base e size v n xs)
    (ad : Option Addr) (m c : Nat) (news : List Value) (hx : a.eval x = .slice ad m c) (hra : RdA w ad size m news) (h1 : ∀ u ∈ news, u.oneCell' = true)
    (h63 : n + m ≤ maxLen) (hbytes : (n + m) * bytes ≤ 140737488355328) (hbase : base ≤ w.heap.size)
    (h : ∀ v' w', w'.ownsRow base e size v' (n + m) (xs ++ news) → w.grownBy w' v.ownBlock → K (a.put o.dst v') w') : o.wp P a w K Q := by
  cases ad with
  | some ad => exact wp_append_own w s x t ho base e i z size bytes ht hi hz hsize hby hzs hsz v n xs hs hown ad m c news hx hra.1 (rd_news hra (Grew.refl w)) h1 h63 hbytes hbase (fun v' w' h2 h3 _ => h v' w' h2 h3)
  | none =>
    have h0 : m = 0 := by rcases Nat.eq_zero_or_pos m with h | h; exact h; obtain ⟨b, o, h2, _⟩ := hra.2 h; cases h2
    subst h0
    have hn : news = [] := List.length_eq_zero_iff.1 (by simpa using hra.1)
    subst hn
    have hr := run_append_nil' (P := P) w base t o.type e i size ht hi v n c xs hown
    unfold Oper.wp execOp
    simp only [ho, resolve, invoke, builtin, Sem.run_bind, Sem.run_pure, Result.andThen_ok, List.map_toArray, List.map_cons, List.map_nil, hs, hx, hr]
    exact h v w (by simpa using hown) ⟨rfl, rfl, rfl, Nat.le_refl _, fun _ _ _ => rfl⟩
end
def TyAt (w : World) (b : Nat) (e : TypeId) : Prop := ∃ cs fr, w.heap[b]? = some (.cells cs e fr)
theorem TyAt.lt {w : World} {b : Nat} {e : TypeId} (h : TyAt w b e) : b < w.heap.size := by
  obtain ⟨cs, fr, h⟩ := h
  exact (Array.getElem?_eq_some_iff.1 h).1
theorem TyAt.new (w : World) (cs : Array Value) (e : TypeId) : TyAt (w.alloc (.cells cs e)) w.heap.size e := ⟨cs, (0, 0), heap_alloc_new w _⟩
theorem TyAt.tch {w w' : World} {b lo hi : Nat} {e : TypeId} (h : TyAt w b e) (ht : Touch lo hi w w') (hb : b < lo ∨ hi ≤ b) : TyAt w' b e := by
  have hl := h.lt
  obtain ⟨cs, fr, h⟩ := h
  exact ⟨cs, fr, (ht.block b hl hb).trans h⟩
theorem TyAt.grew {w w' : World} {b : Nat} {e : TypeId} (h : TyAt w b e) (hg : Grew w w') : TyAt w' b e := h.tch (hg.touch 0 0) (.inr (Nat.zero_le _))
theorem TyAt.d {w w' : World} {b g : Nat} {e : TypeId} (h : TyAt w b e) (hd : D g w w') (hb : b ≠ g) : TyAt w' b e := h.tch hd.2.1 (by omega)
theorem TyAt.set {w : World} {b : Nat} {e : TypeId} (h : TyAt w b e) (p : Addr) (u : Value) : TyAt (w.setCell p u) b e := by
  obtain ⟨cs, fr, h⟩ := h
  by_cases hp : b = p.block
  · subst hp
    exact ⟨if p.spot.isSome = true then cs else cs.setIfInBounds p.off u, fr, by simp [World.setCell, Array.getElem?_modify, h]⟩
  · exact ⟨cs, fr, (Below.heap_setCell _ _ _ _ hp).trans h⟩
theorem own_nety {w : World} {base : Nat} {e e' : TypeId} {k n b : Nat} {v : Value} {cs : List Value} (h : w.ownsRow base e k v n cs) (ht : TyAt w b e') (hne : e ≠ e') : ∀ c, v.ownBlock = some c → c ≠ b := by
  intro c hc hcb
  subst hcb
  obtain ⟨cs', fr, ht⟩ := ht
  rcases h.2 with ⟨rfl, _⟩ | ⟨g, cap, cur, rfl, _, hg, _⟩
  · simp [Value.ownBlock] at hc
  · simp [Value.ownBlock] at hc
    subst hc
    rw [hg] at ht
    simp at ht
    exact hne ht.2.1
theorem TyAt.grownOwn {w w' : World} {base : Nat} {e e' : TypeId} {k n b : Nat} {v : Value} {cs : List Value} (ht : TyAt w b e') (h : w.ownsRow base e k v n cs) (hg : w.grownBy w' v.ownBlock) (hne : e ≠ e') : TyAt w' b e' := by
  have h1 := own_nety h ht hne
  have hl := ht.lt
  obtain ⟨cs', fr, ht⟩ := ht
  exact ⟨cs', fr, (hg.block b hl (fun hb => h1 b hb.symm rfl)).trans ht⟩
theorem own_set {w : World} {base : Nat} {e e' : TypeId} {k n : Nat} {v : Value} {cs : List Value} {p : Addr} (h : w.ownsRow base e k v n cs) (ht : TyAt w p.block e') (hne : e ≠ e') (u : Value) : (w.setCell p u).ownsRow base e k v n cs := by
  have h1 := own_nety h ht hne
  refine h.kept (row := some p.block) ⟨rfl, rfl, rfl, by simp, fun k _ hk => Below.heap_setCell _ _ _ _ (fun e => hk (by rw [e]))⟩ ?_
  cases hb : v.ownBlock with
  | none => exact .inl rfl
  | some b => exact .inr (fun e => h1 b hb (Option.some.inj e))
end Go.Proofs.YtejgpghcahinhaaGreat
namespace Go.Proofs.YtejgpghcahinhaaGreat
open Go.RowKit
set_option linter.unusedVariables false
def getA : List At → ByteArray → V
  | [], _ => V.z
  | x :: xs, s => if x.name.toList == s.toList then x.val else getA xs s
theorem getA_yes : ∀ {xs : List At} {s : ByteArray} {k : Nat} {x : At}, (∀ (j : Nat) y, j < k → xs[j]? = some y → (y.name.toList == s.toList) = false) → xs[k]? = some x → (x.name.toList == s.toList) = true → getA xs s = x.val
  | [], s, k, x, _, h, _ => by simp at h
  | y :: ys, s, 0, x, _, h, h2 => by
    simp at h; subst h; unfold getA; rw [h2]; rfl
  | y :: ys, s, k + 1, x, h1, h, h2 => by
    have h3 := h1 0 y (Nat.succ_pos k) rfl
    unfold getA; rw [h3]
    exact getA_yes (k := k) (fun j z hj hz => h1 (j + 1) z (Nat.succ_lt_succ hj) (by simpa using hz)) (by simpa using h) h2
theorem getA_no : ∀ {xs : List At} {s : ByteArray}, (∀ (j : Nat) y, j < xs.length → xs[j]? = some y → (y.name.toList == s.toList) = false) → getA xs s = V.z
  | [], s, _ => rfl
  | y :: ys, s, h1 => by
    have h3 := h1 0 y (by simp) rfl
    unfold getA; rw [h3]
    exact getA_no (fun j z hj hz => h1 (j + 1) z (by simpa using hj) (by simpa using hz))
theorem noa_snoc {xs : List At} {s : ByteArray} {k : Nat} {x : At} (h : ∀ (j : Nat) y, j < k → xs[j]? = some y → (y.name.toList == s.toList) = false) (hx : xs[k]? = some x) (hn : (x.name.toList == s.toList) = false) : ∀ (j : Nat) y, j < k + 1 → xs[j]? = some y → (y.name.toList == s.toList) = false := fun j y hj hy => by
  rcases Nat.lt_succ_iff_lt_or_eq.1 hj with h1 | rfl
  · exact h j y h1 hy
  · obtain rfl := Option.some.inj (hx.symm.trans hy); exact hn
set_option maxRecDepth 100000 in
set_option maxHeartbeats 1000000 in
theorem specGetAttr (f : Fl) (p : P5) (s : ByteArray) (w : World) (h : Fl.R w f p) (hx : f.small) :
    Calls Tryz.prog 246 #[p.v, .string s] w fun e w' => e = .returned (getA f.attrs s).v ∧ Grew w w' := by
  obtain ⟨p1, p2, p3, p4, p5⟩ := p
  obtain ⟨h1, h2, h3, h4, h5⟩ := h
  simp only at h5
  clear h1 h2 h3 h4
  obtain ⟨a, ca, rfl, hca, hra⟩ := h5
  unfold Fl.small at hx
  generalize hn : f.attrs.length = n at hx hca hra
  have HN := Lib.hid hn
  clear hn
  go_enter Tryz.func246, Tryz.ntmps246
  go_wp2
  have hg := ((Grew.refl w).alloc (.cells #[.int .i64 p1, .int .i64 p2, .bool p3, .int .i64 p4, .slice a n ca] 79)).alloc (.cells #[.int .i64 0, .int .i64 0, .string ⟨#[]⟩] 157)
  have d4 : ((w.alloc (.cells #[.int .i64 p1, .int .i64 p2, .bool p3, .int .i64 p4, .slice a n ca] 79)).alloc (.cells #[.int .i64 0, .int .i64 0, .string ⟨#[]⟩] 157)).cell? ⟨w.heap.size, 4, none⟩ = some (.slice a n ca) := grew_cell ((Grew.refl _).alloc _) (by simp)
  have r0 : ((w.alloc (.cells #[.int .i64 p1, .int .i64 p2, .bool p3, .int .i64 p4, .slice a n ca] 79)).alloc (.cells #[.int .i64 0, .int .i64 0, .string ⟨#[]⟩] 157)).cell? ⟨w.heap.size + 1, 0, none⟩ = some (.int .i64 0) := by simp [go_sem]
  have r1 : ((w.alloc (.cells #[.int .i64 p1, .int .i64 p2, .bool p3, .int .i64 p4, .slice a n ca] 79)).alloc (.cells #[.int .i64 0, .int .i64 0, .string ⟨#[]⟩] 157)).cell? ⟨w.heap.size + 1, 1, none⟩ = some (.int .i64 0) := by simp [go_sem]
  have r2 : ((w.alloc (.cells #[.int .i64 p1, .int .i64 p2, .bool p3, .int .i64 p4, .slice a n ca] 79)).alloc (.cells #[.int .i64 0, .int .i64 0, .string ⟨#[]⟩] 157)).cell? ⟨w.heap.size + 1, 2, none⟩ = some (.string ⟨#[]⟩) := by simp [go_sem]
  have z1 : ∀ j, ((w.alloc (.cells #[.int .i64 p1, .int .i64 p2, .bool p3, .int .i64 p4, .slice a n ca] 79)).alloc (.cells #[.int .i64 0, .int .i64 0, .string ⟨#[]⟩] 157)).frozen? ⟨w.heap.size + 1, j, none⟩ = false := fun j => by simp [go_sem]
  generalize (w.alloc (.cells #[.int .i64 p1, .int .i64 p2, .bool p3, .int .i64 p4, .slice a n ca] 79)).alloc (.cells #[.int .i64 0, .int .i64 0, .string ⟨#[]⟩] 157) = W at hg d4 r0 r1 r2 z1 ⊢
  go_loopw [5] (fun i wr => ∃ k : Nat, k ≤ n ∧ i = .int .i64 k ∧ Hid (∀ (j : Nat) y, j < k → f.attrs[j]? = some y → (y.name.toList == s.toList) = false) ∧ wr = W) (fun i _ => n - (intOf i).toNat)
  case atStart => exact ⟨0, Nat.zero_le _, rfl, Lib.hid (fun j y h => absurd h (Nat.not_lt_zero j)), rfl⟩
  case round =>
    obtain ⟨k, hk, rfl, hall, rfl⟩ := hrel
    by_cases hlt : k < n
    · obtain ⟨b1, o1, x, rfl, hxk, c0, c1, c2, c3⟩ := (hra.grew hg).getAt hlt
      have hcs : (x.name.toList == s.toList) = true ∨ (x.name.toList == s.toList) = false := by cases x.name.toList == s.toList <;> simp
      rcases hcs with hn | hn
      · have HY := Lib.hid (getA_yes hall.out hxk.out hn)
        go_wp2
        refine bodyPost_ret (v := x.val.v) (by simp [results, Tryz.results246, go_sem, r0, r1, r2]) rfl ⟨by rw [HY.out], ?_⟩
        repeat' (first | with_reducible exact hg | with_reducible refine Grew.setCell ?_ ?_ _ | (dsimp only; omega))
      · go_wp2
        go_roundw
        case rel => exact ⟨k + 1, by omega, by go_num, Lib.hid (noa_snoc hall.out hxk.out hn), by trivial⟩
        case measure => simp [intOf]; omega
    · obtain rfl : k = n := by omega
      have HY := Lib.hid (getA_no (fun j y h h2 => hall.out j y (by rw [← HN.out]; exact h) h2))
      go_wp2
      refine bodyPost_ret (v := V.z.v) (by simp [results, Tryz.results246, go_sem, r0, r1, r2, V.z]) rfl ⟨by rw [HY.out], ?_⟩
      repeat' (first | with_reducible exact hg | with_reducible refine Grew.setCell ?_ ?_ _ | (dsimp only; omega))
set_option maxRecDepth 100000 in
set_option maxHeartbeats 1000000 in
theorem implGetAttr (f : Fl) (p : P5) (s : ByteArray) (w : World) (h : Fl.R w f p) (hx : f.small) :
    Calls Tryz.prog 244 #[p.v, .string s] w fun e w' => e = .returned (getA f.attrs s).v ∧ Grew w w' := by
  obtain ⟨p1, p2, p3, p4, p5⟩ := p
  obtain ⟨h1, h2, h3, h4, h5⟩ := h
  simp only at h5
  clear h1 h2 h3 h4
  obtain ⟨a, ca, rfl, hca, hra⟩ := h5
  unfold Fl.small at hx
  generalize hn : f.attrs.length = n at hx hca hra
  have HN := Lib.hid hn
  clear hn
  go_enter Tryz.func244, Tryz.ntmps244
  go_wp2
  have hg := ((Grew.refl w).alloc (.cells #[.int .i64 p1, .int .i64 p2, .bool p3, .int .i64 p4, .slice a n ca] 79)).alloc (.cells #[.int .i64 0, .int .i64 0, .string ⟨#[]⟩] 157)
  have d4 : ((w.alloc (.cells #[.int .i64 p1, .int .i64 p2, .bool p3, .int .i64 p4, .slice a n ca] 79)).alloc (.cells #[.int .i64 0, .int .i64 0, .string ⟨#[]⟩] 157)).cell? ⟨w.heap.size, 4, none⟩ = some (.slice a n ca) := grew_cell ((Grew.refl _).alloc _) (by simp)
  have r0 : ((w.alloc (.cells #[.int .i64 p1, .int .i64 p2, .bool p3, .int .i64 p4, .slice a n ca] 79)).alloc (.cells #[.int .i64 0, .int .i64 0, .string ⟨#[]⟩] 157)).cell? ⟨w.heap.size + 1, 0, none⟩ = some (.int .i64 0) := by simp [go_sem]
  have r1 : ((w.alloc (.cells #[.int .i64 p1, .int .i64 p2, .bool p3, .int .i64 p4, .slice a n ca] 79)).alloc (.cells #[.int .i64 0, .int .i64 0, .string ⟨#[]⟩] 157)).cell? ⟨w.heap.size + 1, 1, none⟩ = some (.int .i64 0) := by simp [go_sem]
  have r2 : ((w.alloc (.cells #[.int .i64 p1, .int .i64 p2, .bool p3, .int .i64 p4, .slice a n ca] 79)).alloc (.cells #[.int .i64 0, .int .i64 0, .string ⟨#[]⟩] 157)).cell? ⟨w.heap.size + 1, 2, none⟩ = some (.string ⟨#[]⟩) := by simp [go_sem]
  have z1 : ∀ j, ((w.alloc (.cells #[.int .i64 p1, .int .i64 p2, .bool p3, .int .i64 p4, .slice a n ca] 79)).alloc (.cells #[.int .i64 0, .int .i64 0, .string ⟨#[]⟩] 157)).frozen? ⟨w.heap.size + 1, j, none⟩ = false := fun j => by simp [go_sem]
  generalize (w.alloc (.cells #[.int .i64 p1, .int .i64 p2, .bool p3, .int .i64 p4, .slice a n ca] 79)).alloc (.cells #[.int .i64 0, .int .i64 0, .string ⟨#[]⟩] 157) = W at hg d4 r0 r1 r2 z1 ⊢
  go_loopw [10] (fun i wr => ∃ k : Nat, k ≤ n ∧ i = .int .i64 k ∧ Hid (∀ (j : Nat) y, j < k → f.attrs[j]? = some y → (y.name.toList == s.toList) = false) ∧ Grew W wr) (fun i _ => n - (intOf i).toNat)
  case atStart => exact ⟨0, Nat.zero_le _, rfl, Lib.hid (fun j y h => absurd h (Nat.not_lt_zero j)), Grew.refl _⟩
  case round =>
    obtain ⟨k, hk, rfl, hall, hbel⟩ := hrel
    have hgw := hg.trans hbel
    replace z1 : ∀ j, wr.frozen? ⟨w.heap.size + 1, j, none⟩ = false := fun j => grew_frozen (a := ⟨w.heap.size + 1, j, none⟩) hbel (show w.heap.size + 1 < W.heap.size from lt_of_cell r0) (z1 j)
    replace r0 := grew_cell hbel r0
    replace r1 := grew_cell hbel r1
    replace r2 := grew_cell hbel r2
    by_cases hlt : k < n
    · obtain ⟨b1, o1, x, rfl, hxk, c0, c1, c2, c3⟩ := (hra.grew hgw).getAt hlt
      have hcs : (x.name.toList == s.toList) = true ∨ (x.name.toList == s.toList) = false := by cases x.name.toList == s.toList <;> simp
      have hal := (Grew.refl wr).alloc (.cells #[.string x.name, .int .i64 x.val.kind, .int .i64 x.val.int, .string x.val.str] 165)
      have q0 := grew_cell hal r0
      have q1 := grew_cell hal r1
      have q2 := grew_cell hal r2
      have zq := fun j => grew_frozen (a := ⟨w.heap.size + 1, j, none⟩) hal (show w.heap.size + 1 < wr.heap.size from lt_of_cell r0) (z1 j)
      have hgal := hgw.alloc (.cells #[.string x.name, .int .i64 x.val.kind, .int .i64 x.val.int, .string x.val.str] 165)
      rcases hcs with hn | hn
      · have HY := Lib.hid (getA_yes hall.out hxk.out hn)
        go_wp2
        refine bodyPost_ret (v := x.val.v) (by simp [results, Tryz.results244, go_sem, q0, q1, q2]) rfl ⟨by rw [HY.out], ?_⟩
        repeat' (first | with_reducible exact hgw | with_reducible exact hgal | with_reducible refine Grew.alloc ?_ _ | with_reducible refine Grew.setCell ?_ ?_ _ | (dsimp only; omega))
      · go_wp2
        go_roundw
        case rel => exact ⟨k + 1, by omega, by go_num, Lib.hid (noa_snoc hall.out hxk.out hn), hbel.alloc _⟩
        case measure => simp [intOf]; omega
    · obtain rfl : k = n := by omega
      have HY := Lib.hid (getA_no (fun j y h h2 => hall.out j y (by rw [← HN.out]; exact h) h2))
      go_wp2
      refine bodyPost_ret (v := V.z.v) (by simp [results, Tryz.results244, go_sem, r0, r1, r2, V.z]) rfl ⟨by rw [HY.out], ?_⟩
      repeat' (first | with_reducible exact hgw | with_reducible refine Grew.setCell ?_ ?_ _ | (dsimp only; omega))
set_option maxRecDepth 100000 in
set_option maxHeartbeats 1000000 in
theorem implIntAttr (f : Fl) (p : P5) (s : ByteArray) (w : World) (h : Fl.R w f p) (hx : f.small) :
    Calls Tryz.prog 245 #[p.v, .string s] w fun e w' => e = .returned (.tuple #[.int .i64 (if (getA f.attrs s).kind = 1 then (getA f.attrs s).int else 0), .bool ((getA f.attrs s).kind == 1)]) ∧ Grew w w' := by
  obtain ⟨p1, p2, p3, p4, p5⟩ := p
  obtain ⟨v, hv⟩ : ∃ v, getA f.attrs s = v := ⟨_, rfl⟩
  have HV := Lib.hid hv
  rw [hv]
  obtain ⟨ti, hti⟩ : ∃ t, (if v.kind = 1 then v.int else 0) = t := ⟨_, rfl⟩
  obtain ⟨tb, htb⟩ : ∃ t, (v.kind == 1) = t := ⟨_, rfl⟩
  rw [hti, htb]
  have hg := (Grew.refl w).alloc (.cells #[.int .i64 p1, .int .i64 p2, .bool p3, .int .i64 p4, p5] 79)
  have HF := Lib.hid (h.grew hg)
  clear hv h
  obtain ⟨vk, vi, vs⟩ := v
  simp only at hti htb
  by_cases hk : vk = 1
  · subst hk
    have e1 : ti = vi := by rw [← hti]; rfl
    have e2 : tb = true := by rw [← htb]; rfl
    subst e1; subst e2
    clear hti htb
    go_enter Tryz.func245, Tryz.ntmps245
    go_wp2_with fail
    refine (implGetAttr f ⟨p1, p2, p3, p4, p5⟩ s _ HF.out hx).mono ?_
    rintro e w1 ⟨he, hb⟩
    rw [HV.out] at he
    subst he
    go_wp2
    go_ret2
    exact ⟨rfl, (hg.trans hb).alloc _⟩
  · have hq : (vk == 1) = false := by simp [hk]
    have e1 : ti = 0 := by rw [← hti, if_neg hk]
    have e2 : tb = false := by rw [← htb]; exact hq
    subst e1; subst e2
    clear hti htb hk
    go_enter Tryz.func245, Tryz.ntmps245
    go_wp2_with fail
    refine (implGetAttr f ⟨p1, p2, p3, p4, p5⟩ s _ HF.out hx).mono ?_
    rintro e w1 ⟨he, hb⟩
    rw [HV.out] at he
    subst he
    go_wp2
    go_ret2
    exact ⟨rfl, (hg.trans hb).alloc _⟩
end Go.Proofs.YtejgpghcahinhaaGreat
namespace Go.Proofs.YtejgpghcahinhaaGreat
open Go.RowKit
set_option linter.unusedVariables false
noncomputable def nodI (n : N) (at_ m : Int) : Bool :=
  if n.op == 1 then eqN n ⟨n.op, 0, 0, ⟨#[]⟩, V.z⟩
  else if n.op == 2 then eqN n ⟨n.op, 0, 0, n.name, V.z⟩ && txtB n.name 1
  else if n.op == 3 || n.op == 4 then eqN n ⟨n.op, 0, 0, n.name, n.val⟩ && (txtB n.name 1 && (valB n.val && (!(n.val.kind == 0) && (n.op == 3 || n.val.kind == 1))))
  else if n.op == 5 then eqN n ⟨n.op, n.left, 0, ⟨#[]⟩, V.z⟩ && (decide (0 < at_) && inB n.left 0 m)
  else if n.op == 6 || n.op == 7 then eqN n ⟨n.op, n.left, n.right, ⟨#[]⟩, V.z⟩ && (decide (0 < at_) && (inB n.left 0 m && inB n.right 0 m))
  else if n.op == 8 || n.op == 9 then eqN n ⟨n.op, 0, 0, n.name, V.z⟩ && txtB n.name 6
  else false
theorem nodI_eq (n : N) (at_ m : Int) : nodB n at_ m = nodI n at_ m := by
  obtain ⟨op, l, r, nm, v⟩ := n
  unfold nodB nodI
  have e1 : (ByteArray.mk #[]).toList = [] := by decide +kernel
  have ev : eqV v v = true := by simp [eqV]
  have hk : ∀ k : Int, k = 1 → k ≠ 0 := fun k h => by omega
  by_cases h1 : op = 1
  · subst h1; simp
  by_cases h2 : op = 2
  · subst h2; simp [Bool.and_comm]
  by_cases h3 : op = 3
  · subst h3; simp only [eqN, ev]; rw [Bool.eq_iff_iff]; simp; constructor <;> (intro h; simp_all)
  by_cases h4 : op = 4
  · subst h4; simp only [eqN, ev]; rw [Bool.eq_iff_iff]; simp; constructor <;> (intro h; simp_all)
  by_cases h5 : op = 5
  · subst h5; simp only [eqN]; rw [Bool.eq_iff_iff]; simp [e1]; constructor <;> (intro h; simp_all)
  by_cases h6 : op = 6
  · subst h6; simp only [eqN]; rw [Bool.eq_iff_iff]; simp [e1]; constructor <;> (intro h; simp_all)
  by_cases h7 : op = 7
  · subst h7; simp only [eqN]; rw [Bool.eq_iff_iff]; simp [e1]; constructor <;> (intro h; simp_all)
  by_cases h8 : op = 8
  · subst h8; simp [Bool.and_comm]
  by_cases h9 : op = 9
  · subst h9; simp [Bool.and_comm]
  · simp [h1, h2, h3, h4, h5, h6, h7, h8, h9]
set_option maxRecDepth 100000 in
set_option maxHeartbeats 4000000 in
theorem implIsValidNode (n : N) (at_ : Int) (w : World) (hs : n.name.size ≤ 4000000) (hv : n.val.str.size ≤ 4000000) :
    Calls Tryz.prog 211 #[n.v, .int .i64 at_] w fun e w' => e = .returned (.bool (nodB n at_ (wrap64 (at_ - 1)))) ∧ Grew w w' := by
  obtain ⟨op, l, r, nm, v⟩ := n
  simp only at hs hv
  have h1 := fun o w => runEqN ⟨o, l, r, nm, v⟩ ⟨o, 0, 0, ⟨#[]⟩, V.z⟩ w
  have h2 := fun o w => runEqN ⟨o, l, r, nm, v⟩ ⟨o, 0, 0, nm, V.z⟩ w
  have h3 := fun o w => runEqN ⟨o, l, r, nm, v⟩ ⟨o, 0, 0, nm, v⟩ w
  have h4 := fun o w => runEqN ⟨o, l, r, nm, v⟩ ⟨o, l, 0, ⟨#[]⟩, V.z⟩ w
  have h5 := fun o w => runEqN ⟨o, l, r, nm, v⟩ ⟨o, l, r, ⟨#[]⟩, V.z⟩ w
  simp only [V.z] at h1 h2 h3 h4 h5
  have hop : (op = 1 ∨ op = 2 ∨ op = 5 ∨ op = 8 ∨ op = 9 ∨ ((op == 1) = false ∧ (op == 2) = false ∧ (op == 3) = false ∧ (op == 4) = false ∧ (op == 5) = false ∧ (op == 6) = false ∧ (op == 7) = false ∧ (op == 8) = false ∧ (op == 9) = false)) ∨ (op = 3 ∨ op = 4 ∨ op = 6 ∨ op = 7) := by
    simp only [beq_eq_false_iff_ne]; omega
  rcases hop with hop | hop
  · rcases hop with rfl | rfl | rfl | rfl | rfl | ⟨p1, p2, p3, p4, p5, p6, p7, p8, p9⟩
    all_goals
      go_enter Tryz.func211, Tryz.ntmps211
      go_wp2_with (first | (go_at_call 177; refine (within _ _ _ _).mono ?_; rintro e w' ⟨rfl, rfl⟩) | (go_at_call 159; refine (implIsValidString _ _ hs).mono ?_; rintro e w' ⟨rfl, rfl⟩) | (go_at_call 220; refine (implIsValidAttrName _ _ hs).mono ?_; rintro e w' ⟨rfl, rfl⟩) | (go_at_call 240; refine (implIsValidValue _ _ hv).mono ?_; rintro e w1 ⟨rfl, hb⟩; obtain ⟨hc, hf⟩ := hb.cells))
      all_goals go_ret
      all_goals refine ⟨ret_bool ?_, ?_⟩
      all_goals first
        | (rw [nodI_eq]; go_light; clear h1 h2 h3 h4 h5; (try clear hc hf hb); simp [nodI, V.z, *]; done)
        | (have hn : ¬ (0 < at_) := by omega
           rw [nodI_eq]; go_light; clear h1 h2 h3 h4 h5; simp [nodI, V.z, hn]; done)
        | (repeat' (first | with_reducible exact Grew.refl _ | with_reducible apply Grew.alloc | with_reducible apply Grew.drew | with_reducible refine Grew.trans ?_ (by assumption)))
  · rcases hop with rfl | rfl | rfl | rfl
    all_goals
      go_enter Tryz.func211, Tryz.ntmps211
      go_wp2
      go_region
      all_goals go_wp2_with (first | (go_at_call 177; refine (within _ _ _ _).mono ?_; rintro e w' ⟨rfl, rfl⟩) | (go_at_call 159; refine (implIsValidString _ _ hs).mono ?_; rintro e w' ⟨rfl, rfl⟩) | (go_at_call 220; refine (implIsValidAttrName _ _ hs).mono ?_; rintro e w' ⟨rfl, rfl⟩) | (go_at_call 240; refine (implIsValidValue _ _ hv).mono ?_; rintro e w1 ⟨rfl, hb⟩; obtain ⟨hc, hf⟩ := hb.cells))
      all_goals go_ret
      all_goals refine ⟨ret_bool ?_, ?_⟩
      all_goals first
        | (rw [nodI_eq]; go_light; clear h1 h2 h3 h4 h5; (try clear hc hf hb); simp [nodI, V.z, *]; done)
        | (rw [nodI_eq]; go_light; clear h1 h2 h3 h4 h5; (try clear hc hf hb); simp [nodI, V.z, bne, *]; done)
        | (have hn : ¬ (0 < at_) := by omega
           rw [nodI_eq]; go_light; clear h1 h2 h3 h4 h5; simp [nodI, V.z, hn]; done)
        | (repeat' (first | with_reducible exact Grew.refl _ | with_reducible apply Grew.alloc | with_reducible apply Grew.drew | with_reducible refine Grew.trans ?_ (by assumption)))
end Go.Proofs.YtejgpghcahinhaaGreat
namespace Go.Proofs.YtejgpghcahinhaaGreat
open Go.RowKit
set_option linter.unusedVariables false
def ref1 (n : N) (at_ : Int) : Int := (if (n.op == 6 || (n.op == 7 || n.op == 5)) && n.left == at_ then 1 else 0) + (if (n.op == 6 || n.op == 7) && n.right == at_ then 1 else 0)
def refs (q : List N) (at_ : Int) : Int := (q.map (ref1 · at_)).sum
theorem refs_snoc (q : List N) (n : N) (at_ : Int) : refs (q ++ [n]) at_ = refs q at_ + ref1 n at_ := by simp [refs]
theorem ref1_b (n : N) (at_ : Int) : 0 ≤ ref1 n at_ ∧ ref1 n at_ ≤ 2 := by unfold ref1; split <;> split <;> omega
theorem ref1_cases (n : N) (at_ : Int) : (n.op = 5 ∨ n.op = 6 ∨ n.op = 7 ∨ ((n.op == 5) = false ∧ (n.op == 6) = false ∧ (n.op == 7) = false)) ∧ ((n.left == at_) = true ∨ (n.left == at_) = false) ∧ ((n.right == at_) = true ∨ (n.right == at_) = false) := by
  refine ⟨?_, ?_, ?_⟩
  · simp only [beq_eq_false_iff_ne]; omega
  · cases n.left == at_ <;> simp
  · cases n.right == at_ <;> simp
set_option maxRecDepth 100000 in
set_option maxHeartbeats 4000000 in
theorem specCountReferences (va : Value) (n : Nat) (xs : List N) (at_ : Int) (w : World) (ha : Rd w va 7 n (rows N.c xs)) (hx : n ≤ 4000000) :
    Calls Tryz.prog 171 #[va, .int .i64 at_] w fun e w' => e = .returned (.int .i64 (refs xs at_)) ∧ Grew w w' := by
  obtain ⟨a, ca, rfl, hca, hra⟩ := ha
  have HX := Lib.hid (hra.len_rows N.len (by decide))
  go_enter Tryz.func171, Tryz.ntmps171
  go_wp2
  go_loopw [5, 6, 7] (fun c i _ wr => ∃ (k : Nat) (r : Int), k ≤ n ∧ i = .int .i64 k ∧ c = .int .i64 r ∧ 0 ≤ r ∧ r ≤ 2 * k ∧ Hid (r = refs (xs.take k) at_) ∧ Grew w wr) (fun _ i _ _ => n - (intOf i).toNat)
  case atStart => exact ⟨0, 0, Nat.zero_le _, rfl, rfl, by omega, by omega, Lib.hid (by simp [refs]), Grew.refl _⟩
  case round =>
    obtain ⟨k, r, hk, rfl, rfl, h0, h1, hr, hbel⟩ := hrel
    by_cases hlt : k < n
    · obtain ⟨b1, o1, x, rfl, hxk, c0, c1, c2, c3, c4, c5, c6⟩ := (hra.grew hbel).getN hlt
      have hstep : ∀ d, ref1 x at_ = d → r + d = refs (xs.take (k + 1)) at_ := fun d h => by rw [take_snoc hxk.out, refs_snoc, ← hr.out, h]
      have HS := Lib.hid hstep
      clear hstep
      obtain ⟨op, l, rr, nm, v⟩ := x
      have hcs := ref1_cases ⟨op, l, rr, nm, v⟩ at_
      simp only at hcs
      obtain ⟨hop, hl, hr2⟩ := hcs
      rcases hop with rfl | rfl | rfl | ⟨p5, p6, p7⟩ <;> rcases hl with hl | hl <;> rcases hr2 with hr2 | hr2
      all_goals
        go_wp2
        go_roundw
        case rel =>
          have hd := HS.out _ rfl
          clear HS
          go_light
          simp [ref1, *] at hd
          exact ⟨k + 1, _, by omega, by go_num, rfl, by omega, by omega, Lib.hid (by omega), hbel⟩
        case measure => simp [intOf]; omega
    · go_wp2
      go_ret
      obtain rfl : k = n := by omega
      exact ⟨ret_int (by rw [hr.out, take_all HX.out]), hbel⟩
set_option maxRecDepth 100000 in
set_option maxHeartbeats 4000000 in
theorem implCountReferences (va : Value) (n : Nat) (xs : List N) (at_ : Int) (w : World) (ha : Rd w va 7 n (rows N.c xs)) (hx : n ≤ 4000000) :
    Calls Tryz.prog 212 #[va, .int .i64 at_] w fun e w' => e = .returned (.int .i64 (refs xs at_)) ∧ Grew w w' := by
  obtain ⟨a, ca, rfl, hca, hra⟩ := ha
  have HX := Lib.hid (hra.len_rows N.len (by decide))
  go_enter Tryz.func212, Tryz.ntmps212
  go_wp2
  go_loopw [5, 8, 11] (fun c _ i wr => ∃ (k : Nat) (r : Int), k ≤ n ∧ i = .int .i64 k ∧ c = .int .i64 r ∧ 0 ≤ r ∧ r ≤ 2 * k ∧ Hid (r = refs (xs.take k) at_) ∧ Grew w wr) (fun _ _ i _ => n - (intOf i).toNat)
  case atStart => exact ⟨0, 0, Nat.zero_le _, rfl, rfl, by omega, by omega, Lib.hid (by simp [refs]), Grew.refl _⟩
  case round =>
    obtain ⟨k, r, hk, rfl, rfl, h0, h1, hr, hbel⟩ := hrel
    by_cases hlt : k < n
    · obtain ⟨b1, o1, x, rfl, hxk, c0, c1, c2, c3, c4, c5, c6⟩ := (hra.grew hbel).getN hlt
      have hstep : ∀ d, ref1 x at_ = d → r + d = refs (xs.take (k + 1)) at_ := fun d h => by rw [take_snoc hxk.out, refs_snoc, ← hr.out, h]
      have HS := Lib.hid hstep
      clear hstep
      obtain ⟨op, l, rr, nm, v⟩ := x
      have hcs := ref1_cases ⟨op, l, rr, nm, v⟩ at_
      simp only at hcs
      obtain ⟨hop, hl, hr2⟩ := hcs
      rcases hop with rfl | rfl | rfl | ⟨p5, p6, p7⟩ <;> rcases hl with hl | hl <;> rcases hr2 with hr2 | hr2
      all_goals
        go_wp2
        go_roundw
        case rel =>
          have hd := HS.out _ rfl
          clear HS
          go_light
          simp [ref1, *] at hd
          exact ⟨k + 1, _, by omega, by go_num, rfl, by omega, by omega, Lib.hid (by omega), hbel.alloc _⟩
        case measure => simp [intOf]; omega
    · go_wp2
      go_ret
      obtain rfl : k = n := by omega
      exact ⟨ret_int (by rw [hr.out, take_all HX.out]), hbel⟩
end Go.Proofs.YtejgpghcahinhaaGreat
