/- Texts X2, C6, R1, D1, D2, H5, S, N3, H7, V3, H6, N5, I0, V4, Z0, Z1, Z2, as far as they are needed. -/
import Derived.Test.YtodbohmbdgbheaaMb0
import Derived.Lib.AppendZerosOnto
import Derived.Lib.SliceRun
import Derived.Lib.Overlaps
import Derived.Deep.DeepAppendRoom
import Derived.ArgAppend
import Derived.Laws.Bits128
namespace Go.Proofs.Ytodbohmbdgbheaa
open Go.RowKit
set_option linter.unusedVariables false
structure Row (w : World) (g : Nat) (e : TypeId) (k cap : Nat) (L : List Value) : Prop where
  heap : w.heap[g]? = some (.cells L.toArray e (0, 0))
  len : L.length = cap * k
  max : cap ≤ maxLen
theorem Row.own {w : World} {g : Nat} {e : TypeId} {k cap : Nat} {L : List Value} (h : Row w g e k cap L) {base n : Nat} {xs : List Value} (hb : base ≤ g) (hn : n ≤ cap) (hx : L.take (n * k) = xs) : w.ownsRow base e k (.slice (some ⟨g, 0, none⟩) n cap) n xs := by
  refine ⟨?_, .inr ⟨g, cap, L.toArray, rfl, hb, h.heap, hn, h.max, by simp [h.len], by simpa using hx⟩⟩
  rw [← hx, List.length_take, h.len]
  exact Nat.min_eq_left (Nat.mul_le_mul_right k hn)
theorem Row.cell {w : World} {g : Nat} {e : TypeId} {k cap : Nat} {L : List Value} (h : Row w g e k cap L) (j : Nat) : w.cell? ⟨g, j, none⟩ = L[j]? := by
  simp [World.cell?, h.heap]
theorem Row.grown {w w' : World} {g : Nat} {e : TypeId} {k cap : Nat} {L : List Value} {row : Option Nat} (h : Row w g e k cap L) (hg : w.grownBy w' row) (hne : row ≠ some g) : Row w' g e k cap L :=
  ⟨by rw [hg.block g (Array.getElem?_eq_some_iff.1 h.heap).1 (fun e => hne e.symm)]; exact h.heap, h.len, h.max⟩
theorem Row.drew {w : World} {g : Nat} {e : TypeId} {k cap : Nat} {L : List Value} (h : Row w g e k cap L) : Row w.drew g e k cap L := ⟨h.heap, h.len, h.max⟩
theorem Row.lt {w : World} {g : Nat} {e : TypeId} {k cap : Nat} {L : List Value} (h : Row w g e k cap L) : g < w.heap.size := (Array.getElem?_eq_some_iff.1 h.heap).1
def over (L : List Value) (o : Nat) (cs : List Value) : List Value := L.take o ++ cs ++ L.drop (o + cs.length)
theorem over_len {L : List Value} {o : Nat} {cs : List Value} (h : o + cs.length ≤ L.length) : (over L o cs).length = L.length := by
  unfold over; simp only [List.length_append, List.length_take, List.length_drop]; omega
theorem Row.set {w : World} {g : Nat} {e : TypeId} {k cap : Nat} {L : List Value} (h : Row w g e k cap L) (o : Nat) (cs : List Value) (hf : o + cs.length ≤ L.length) : Row (w.setRow g (over L o cs).toArray) g e k cap (over L o cs) :=
  ⟨setRow_heap w g _ _ e _ h.heap, by rw [over_len hf]; exact h.len, h.max⟩
section
variable {P : Program}
end
theorem run_append_lit {P : Program} (w : World) (base : Nat) (t ty e : TypeId) (i : TypeInfo) (z : Value) (size bytes : Nat) (ht : P.underlying t = some (.slice e)) (hi : P.info? e = some i) (hz : i.zero = some z)
    (hsize : i.size = size) (hby : i.bytes = bytes) (hzs : z.cells.size = size) (hsz : 0 < size) (g : Nat) (hlit : w.ownsRow base e size (.slice (some ⟨g, 0, none⟩) 0 0) 0 [])
    (ad : Option Addr) (m c : Nat) (news : List Value) (hra : RdA w ad size m news) (h1 : ∀ u ∈ news, u.oneCell' = true) (h63 : m ≤ maxLen) (hbytes : m * bytes ≤ 140737488355328) (hbase : base ≤ w.heap.size) :
    ∃ v' w', (Builtin.append_ #[t, t] ty #[.slice (some ⟨g, 0, none⟩) 0 0, .slice ad m c]).run P w = .ok v' w' ∧ w'.ownsRow base e size v' m news ∧ (∀ b, v'.ownBlock = some b → b = g ∨ w.heap.size ≤ b) ∧ Grew w w' := by
  rcases Nat.eq_zero_or_pos m with h0 | h0
  · subst h0
    have hn : news = [] := List.length_eq_zero_iff.1 (by simpa using hra.1)
    subst hn
    refine ⟨_, w, ?_, hlit, fun b hb => .inl (by simpa [Value.ownBlock] using hb.symm), Grew.refl w⟩
    cases ad with
    | none => simp [Builtin.append_, run_underlying ht, sizeOf, typeInfo, hi, Builtin.lenOf, Builtin.firstCells, storeCells]
    | some a => simp [Builtin.append_, run_underlying ht, sizeOf, typeInfo, hi, Builtin.lenOf, Builtin.firstCells, loadCells, loadCellsFrom, storeCells]
  · obtain ⟨b, o, rfl, hj⟩ := hra.2 h0
    have hnews : ∀ j u, news[j]? = some u → w.cell? ((⟨b, o, none⟩ : Addr).add j) = some u := fun j u hu => by
      rw [Addr.add_lit, hj j (by rw [← hra.1]; exact (List.getElem?_eq_some_iff.1 hu).1), hu]
    obtain ⟨v', w', hr, hown, hg, _⟩ := run_append_own (P := P) w base t ty e i z size bytes ht hi hz hsize hby hzs hsz _ 0 [] hlit ⟨b, o, none⟩ m c news hra.1 hnews h1 (by omega) (by simpa using hbytes) hbase
    have hr2 := run_append_grow (P := P) w t ty e i z ht hi hz ⟨g, 0, none⟩ 0 0 [] (by simp) (by simp) ⟨b, o, none⟩ m c news (by rw [hra.1, hsize]) hnews (by omega) (by unfold maxLen at h63; omega) (growslice_fits (by omega) (by rw [hby]; simpa using hbytes))
    rw [hr] at hr2
    injection hr2 with e1 e2
    subst e1; subst e2
    refine ⟨_, _, hr, by simpa using hown, fun b hb => .inr (by simp [Value.ownBlock] at hb; omega), ((Grew.refl w).drew).alloc _⟩
theorem wp_append_lit {P : Program} (w : World) {o : Oper} {a : Act} {K : Act → World → Prop} {Q : Exit → Act → World → Prop} (s x : Operand) (t : TypeId)
    (ho : o.op = .call { callee := .builtin .append, args := #[s, x], argTypes := #[t, t] })
    (base : Nat) (e : TypeId) (i : TypeInfo) (z : Value) (size bytes : Nat) (ht : P.underlying t = some (.slice e)) (hi : P.info? e = some i) (hz : i.zero = some z)
    (hsize : i.size = size) (hby : i.bytes = bytes) (hzs : z.cells.size = size) (hsz : 0 < size)
    (g : Nat) (hs : a.eval s = .slice (some ⟨g, 0, none⟩) 0 0) (hlit : w.ownsRow base e size (.slice (some ⟨g, 0, none⟩) 0 0) 0 [])
    (ad : Option Addr) (m c : Nat) (news : List Value) (hx : a.eval x = .slice ad m c) (hra : RdA w ad size m news) (h1 : ∀ u ∈ news, u.oneCell' = true)
    (h63 : m ≤ maxLen) (hbytes : m * bytes ≤ 140737488355328) (hbase : base ≤ w.heap.size)
    (h : ∀ v' w', w'.ownsRow base e size v' m news → (∀ b, v'.ownBlock = some b → b = g ∨ w.heap.size ≤ b) → Grew w w' → K (a.put o.dst v') w') : o.wp P a w K Q := by
  obtain ⟨v', w', hr, h2, h3, h4⟩ := run_append_lit (P := P) w base t o.type e i z size bytes ht hi hz hsize hby hzs hsz g hlit ad m c news hra h1 h63 hbytes hbase
  unfold Oper.wp execOp
  simp only [ho, resolve, invoke, builtin, Sem.run_bind, Sem.run_pure, Result.andThen_ok, List.map_toArray, List.map_cons, List.map_nil, hs, hx, hr]
  exact h v' w' h2 h3 h4
theorem All2.app {α β : Type} {R : α → β → Prop} {xs ys : List α} {ps qs : List β} (h1 : All2 R xs ps) (h2 : All2 R ys qs) : All2 R (xs ++ ys) (ps ++ qs) := by
  refine ⟨by simp [h1.1, h2.1], fun i x p hx hp => ?_⟩
  have hl := h1.1
  rcases Nat.lt_or_ge i xs.length with hi | hi
  · rw [List.getElem?_append_left hi] at hx
    rw [List.getElem?_append_left (by omega)] at hp
    exact h1.2 i x p hx hp
  · rw [List.getElem?_append_right hi] at hx
    rw [List.getElem?_append_right (by omega)] at hp
    exact h2.2 (i - xs.length) x p hx (by rw [hl]; exact hp)
theorem All2.take {α β : Type} {R : α → β → Prop} {xs : List α} {ps : List β} (h : All2 R xs ps) (i : Nat) : All2 R (xs.take i) (ps.take i) := by
  refine ⟨by simp [h.1], fun j x p hx hp => ?_⟩
  rw [List.getElem?_take] at hx hp
  split at hx
  · rename_i hj; rw [if_pos hj] at hp; exact h.2 j x p hx hp
  · cases hx
theorem All2.drop {α β : Type} {R : α → β → Prop} {xs : List α} {ps : List β} (h : All2 R xs ps) (i : Nat) : All2 R (xs.drop i) (ps.drop i) := by
  refine ⟨by simp [h.1], fun j x p hx hp => ?_⟩
  rw [List.getElem?_drop] at hx hp
  exact h.2 (i + j) x p hx hp
end Go.Proofs.Ytodbohmbdgbheaa
namespace Go.Proofs.Ytodbohmbdgbheaa
open Go.RowKit
set_option linter.unusedVariables false
theorem alloc_heap (w : World) (o : Obj) : (w.alloc o).heap = w.heap.push o := rfl
theorem lit_own (w : World) (e : TypeId) (k : Nat) : (w.alloc (.cells #[] e)).ownsRow w.heap.size e k (.slice (some ⟨w.heap.size, 0, none⟩) 0 0) 0 [] :=
  ⟨by simp, .inr ⟨w.heap.size, 0, #[], rfl, Nat.le_refl _, by rw [alloc_heap]; simp, Nat.le_refl _, by simp [maxLen], by simp, by simp⟩⟩
theorem rd_news {w w' : World} {a : Addr} {k n : Nat} {cs : List Value} (h : RdA w (some a) k n cs) (hg : Grew w w') : ∀ j u, cs[j]? = some u → w'.cell? (a.add j) = some u := fun j u hu => by
  have hj := (List.getElem?_eq_some_iff.1 hu).1
  rw [h.1] at hj
  have hn : 0 < n := by
    rcases Nat.eq_zero_or_pos n with h0 | h0
    · subst h0; omega
    · exact h0
  obtain ⟨b, o, h1, h2⟩ := h.2 hn
  obtain rfl := Option.some.inj h1
  have h3 := grew_cell hg ((h2 j hj).trans hu)
  cases j with
  | zero => simpa [Addr.add] using h3
  | succ j => simpa [Addr.add] using h3
theorem Try.infoInt : (Try.prog.info? 3).map (fun i => (i.zero, i.size, i.bytes)) = some (some (.int .i64 0), 1, 8) := by kernel_rfl
set_option maxRecDepth 100000 in
set_option maxHeartbeats 1000000 in
theorem slCloneInt (va : Value) (n : Nat) (xs : List Int) (w : World) (ha : Rd w va 1 n (ints xs)) (hx : n ≤ 4000000) :
    Calls Try.prog 71 #[va] w fun e w' => ∃ v, e = .returned v ∧ w'.ownsRow w.heap.size 3 1 v n (ints xs) ∧ Grew w w' := by
  obtain ⟨a, ca, rfl, hca, hra⟩ := ha
  have HX := Lib.hid hra.len_map
  have hen : ∀ a w, (binOp .eql 37 (.slice a n ca) (.slice none 0 0)).run Try.prog w = .ok (.bool a.isNone) w := fun a w => Lib.run_eql_slice_nil w 37 3 a n ca 0 0 Try.underlying37
  cases a with
  | none =>
    have hn : n = 0 := by rcases Nat.eq_zero_or_pos n with h | h; exact h; obtain ⟨b, o, h2, _⟩ := hra.2 h; cases h2
    subst hn
    have e1 := hen none
    go_enter Try.func71, Try.ntmps71
    go_wp2
    go_ret
    obtain rfl : xs = [] := List.length_eq_zero_iff.1 HX.out
    exact ⟨_, rfl, World.ownsRow_nil _ _ _ _, Grew.refl _⟩
  | some a =>
    have e1 := hen (some a)
    obtain ⟨i0, hi, hz0, hz1, hz2⟩ := info_parts Try.infoInt
    have HN := Lib.hid (rd_news hra ((Grew.refl w).alloc (.cells #[] 3)))
    have HL := Lib.hid (lit_own w 3 1)
    have HC := Lib.hid hra.1
    clear hra hen
    go_enter Try.func71, Try.ntmps71
    go_wp2_with (at_builtin; refine wpList_append_own _ rfl _ _ 37 rfl w.heap.size 3 i0 (.int .i64 0) 1 8 Try.underlying37 hi hz0 hz1 hz2 rfl (by decide) _ 0 [] rfl HL.out a n ca (ints xs) rfl ?c1 ?c2 ?c3 ?c4 ?c5 ?c6 ?_)
    case c1 => exact HC.out
    case c2 => exact HN.out
    case c3 => intro u hu; simp at hu; obtain ⟨x, _, rfl⟩ := hu; rfl
    case c4 => unfold maxLen; omega
    case c5 => omega
    case c6 => simp
    intro v' w' hown' hgrow _
    go_wp2
    go_ret
    refine ⟨_, rfl, by simpa using hown', ((Grew.refl w).alloc _).grown hgrow (fun k h => ?_)⟩
    cases h; exact Nat.le_refl _
end Go.Proofs.Ytodbohmbdgbheaa
namespace Go.Proofs.Ytodbohmbdgbheaa
open Go.RowKit
set_option linter.unusedVariables false
def resIds : List Rs → ByteArray → List Int
  | [], _ => []
  | x :: xs, s => if x.name.toList == s.toList then x.ids else resIds xs s
theorem resIds_yes : ∀ {xs : List Rs} {s : ByteArray} {k : Nat} {x : Rs}, (∀ (j : Nat) y, j < k → xs[j]? = some y → (y.name.toList == s.toList) = false) → xs[k]? = some x → (x.name.toList == s.toList) = true → resIds xs s = x.ids
  | [], s, k, x, _, h, _ => by simp at h
  | y :: ys, s, 0, x, _, h, h2 => by
    simp at h; subst h; unfold resIds; rw [h2]; rfl
  | y :: ys, s, k + 1, x, h1, h, h2 => by
    have h3 := h1 0 y (Nat.succ_pos k) rfl
    unfold resIds; rw [h3]
    exact resIds_yes (k := k) (fun j z hj hz => h1 (j + 1) z (Nat.succ_lt_succ hj) (by simpa using hz)) (by simpa using h) h2
theorem resIds_no : ∀ {xs : List Rs} {s : ByteArray}, (∀ (j : Nat) y, j < xs.length → xs[j]? = some y → (y.name.toList == s.toList) = false) → resIds xs s = []
  | [], s, _ => rfl
  | y :: ys, s, h1 => by
    have h3 := h1 0 y (by simp) rfl
    unfold resIds; rw [h3]
    exact resIds_no (fun j z hj hz => h1 (j + 1) z (by simpa using hj) (by simpa using hz))
theorem resIds_small : ∀ {xs : List Rs} {s : ByteArray}, (∀ x, x ∈ xs → x.small) → (resIds xs s).length ≤ 4000000
  | [], s, _ => by simp [resIds]
  | y :: ys, s, h => by
    unfold resIds
    cases hn : y.name.toList == s.toList
    · exact resIds_small (fun x hx => h x (List.mem_cons_of_mem _ hx))
    · have := h y (List.mem_cons_self ..); unfold Rs.small at this; exact this
theorem no_snoc {xs : List Rs} {s : ByteArray} {k : Nat} {x : Rs} (h : ∀ (j : Nat) y, j < k → xs[j]? = some y → (y.name.toList == s.toList) = false) (hx : xs[k]? = some x) (hn : (x.name.toList == s.toList) = false) : ∀ (j : Nat) y, j < k + 1 → xs[j]? = some y → (y.name.toList == s.toList) = false := fun j y hj hy => by
  rcases Nat.lt_succ_iff_lt_or_eq.1 hj with h1 | rfl
  · exact h j y h1 hy
  · obtain rfl := Option.some.inj (hx.symm.trans hy); exact hn
set_option maxRecDepth 100000 in
set_option maxHeartbeats 1000000 in
theorem specResultIDs (va : Value) (xs : List Rs) (s : ByteArray) (w : World) (ha : RdRs w va xs) (hx : xs.length ≤ 4000000) (hs : ∀ x, x ∈ xs → x.small) :
    Calls Try.prog 51 #[va, .string s] w fun e w' => ∃ v, e = .returned v ∧ w'.ownsRow w.heap.size 3 1 v (resIds xs s).length (ints (resIds xs s)) ∧ Grew w w' := by
  obtain ⟨qs, ⟨a, ca, rfl, hca, hra⟩, hall⟩ := ha
  have HS := Lib.hid hs
  have HA := Lib.hid hall
  clear hall hs
  generalize hn : xs.length = n at hx hra
  have HX := Lib.hid hn
  clear hn
  go_enter Try.func51, Try.ntmps51
  go_wp2
  go_loopw [5] (fun i wr => ∃ k : Nat, k ≤ n ∧ i = .int .i64 k ∧ Hid (∀ (j : Nat) y, j < k → xs[j]? = some y → (y.name.toList == s.toList) = false) ∧ Grew w wr) (fun i _ => n - (intOf i).toNat)
  case atStart => exact ⟨0, Nat.zero_le _, rfl, Lib.hid (fun j y h => absurd h (Nat.not_lt_zero j)), Grew.refl _⟩
  case round =>
    obtain ⟨k, hk, rfl, hall, hbel⟩ := hrel
    by_cases hlt : k < n
    · obtain ⟨b1, o1, p, rfl, hpk, c0, c1⟩ := (hra.grew hbel).getP2 hlt
      obtain ⟨x, hxk, hxr⟩ := HA.out.get hpk.out
      have hxs := HS.out x (List.mem_of_getElem? hxk.out)
      unfold Rs.small at hxs
      obtain ⟨pn, pq⟩ := p
      obtain ⟨hxn, hxq⟩ := hxr
      simp only at hxn hxq c0 c1
      have HXQ := Lib.hid hxq
      obtain ⟨pa, pc, rfl, hpc, hpr⟩ := hxq
      have hcs : (pn.toList == s.toList) = true ∨ (pn.toList == s.toList) = false := by cases pn.toList == s.toList <;> simp
      have HXN := Lib.hid hxn
      clear hxn
      rcases hcs with hn | hn
      · have e1 := grew_cell ((Grew.refl wr).alloc (.cells #[] 3)) c1
        have HY := Lib.hid (resIds_yes hall.out hxk.out (by rw [← HXN.out]; exact hn))
        have HL := Lib.hid (lit_own wr 3 1)
        have HC := Lib.hid hpr.1
        cases pa with
        | none =>
          have h0 : x.ids.length = 0 := by rcases Nat.eq_zero_or_pos x.ids.length with h | h; exact h; obtain ⟨b, o, h2, _⟩ := hpr.2 h; cases h2
          clear hpr
          rw [h0] at c1 e1
          have H0 := Lib.hid h0
          clear h0
          go_wp2
          go_ret
          refine ⟨_, rfl, ?_, hbel.alloc _⟩
          rw [HY.out, List.length_eq_zero_iff.1 H0.out]
          exact ownsRow_base (lit_own wr 3 1) hbel.size
        | some pa =>
          have HN := Lib.hid (rd_news (hpr.grew hbel) ((Grew.refl wr).alloc (.cells #[] 3)))
          clear hpr
          obtain ⟨i0, hi, hz0, hz1, hz2⟩ := info_parts Try.infoInt
          go_wp2_with (at_builtin; refine wpList_append_own _ rfl _ _ 37 rfl wr.heap.size 3 i0 (.int .i64 0) 1 8 Try.underlying37 hi hz0 hz1 hz2 rfl (by decide) _ 0 [] rfl HL.out pa x.ids.length pc (ints x.ids) rfl ?c1 ?c2 ?c3 ?c4 ?c5 ?c6 ?_)
          case c1 => exact HC.out
          case c2 => exact HN.out
          case c3 => intro u hu; simp at hu; obtain ⟨x, _, rfl⟩ := hu; rfl
          case c4 => unfold maxLen; omega
          case c5 => omega
          case c6 => simp
          intro v' w' hown' hgrow _
          go_wp2
          go_ret
          refine ⟨_, rfl, ?_, (hbel.alloc _).grown hgrow (fun k h => ?_)⟩
          · rw [HY.out]; exact ownsRow_base (by simpa using hown') hbel.size
          · cases h; exact hbel.size
      · go_wp2
        go_roundw
        case rel => exact ⟨k + 1, by omega, by go_num, Lib.hid (no_snoc hall.out hxk.out (by rw [← HXN.out]; exact hn)), hbel⟩
        case measure => simp [intOf]; omega
    · go_wp2
      go_ret
      have hk2 : k = n := by omega
      refine ⟨_, rfl, ?_, hbel.alloc _⟩
      rw [resIds_no (fun j y h h2 => hall.out j y (by rw [hk2, ← HX.out]; exact h) h2)]
      exact ownsRow_base (lit_own wr 3 1) hbel.size
set_option maxRecDepth 100000 in
set_option maxHeartbeats 1000000 in
theorem implResultIDs (va : Value) (xs : List Rs) (s : ByteArray) (w : World) (ha : RdRs w va xs) (hx : xs.length ≤ 4000000) (hs : ∀ x, x ∈ xs → x.small) :
    Calls Try.prog 48 #[va, .string s] w fun e w' => ∃ v, e = .returned v ∧ w'.ownsRow w.heap.size 3 1 v (resIds xs s).length (ints (resIds xs s)) ∧ Grew w w' := by
  obtain ⟨qs, ⟨a, ca, rfl, hca, hra⟩, hall⟩ := ha
  have HS := Lib.hid hs
  have HA := Lib.hid hall
  clear hall hs
  generalize hn : xs.length = n at hx hra
  have HX := Lib.hid hn
  clear hn
  go_enter Try.func48, Try.ntmps48
  go_wp2
  go_loopw [9] (fun i wr => ∃ k : Nat, k ≤ n ∧ i = .int .i64 k ∧ Hid (∀ (j : Nat) y, j < k → xs[j]? = some y → (y.name.toList == s.toList) = false) ∧ Grew w wr) (fun i _ => n - (intOf i).toNat)
  case atStart => exact ⟨0, Nat.zero_le _, rfl, Lib.hid (fun j y h => absurd h (Nat.not_lt_zero j)), Grew.refl _⟩
  case round =>
    obtain ⟨k, hk, rfl, hall, hbel⟩ := hrel
    by_cases hlt : k < n
    · obtain ⟨b1, o1, p, rfl, hpk, c0, c1⟩ := (hra.grew hbel).getP2 hlt
      obtain ⟨x, hxk, hxr⟩ := HA.out.get hpk.out
      have hxs := HS.out x (List.mem_of_getElem? hxk.out)
      unfold Rs.small at hxs
      obtain ⟨pn, pq⟩ := p
      obtain ⟨hxn, hxq⟩ := hxr
      simp only at hxn hxq c0 c1
      have HXQ := Lib.hid hxq
      obtain ⟨pa, pc, rfl, hpc, hpr⟩ := hxq
      have hcs : (pn.toList == s.toList) = true ∨ (pn.toList == s.toList) = false := by cases pn.toList == s.toList <;> simp
      have HXN := Lib.hid hxn
      clear hxn
      rcases hcs with hn | hn
      · have HY := Lib.hid (resIds_yes hall.out hxk.out (by rw [← HXN.out]; exact hn))
        clear hpr
        go_wp2_with (go_at_call 71; refine (slCloneInt _ _ x.ids _ (HXQ.out.grew (hbel.alloc _)) hxs).mono ?_; rintro e w1 ⟨v, rfl, hown, hb⟩)
        go_ret
        refine ⟨_, rfl, ?_, (hbel.alloc _).trans hb⟩
        rw [HY.out]; exact ownsRow_base hown (hbel.alloc _).size
      · go_wp2
        go_roundw
        case rel => exact ⟨k + 1, by omega, by go_num, Lib.hid (no_snoc hall.out hxk.out (by rw [← HXN.out]; exact hn)), hbel.alloc _⟩
        case measure => simp [intOf]; omega
    · go_wp2
      go_ret
      have hk2 : k = n := by omega
      refine ⟨_, rfl, ?_, hbel⟩
      rw [resIds_no (fun j y h h2 => hall.out j y (by rw [hk2, ← HX.out]; exact h) h2)]
      exact World.ownsRow_nil _ _ _ _
end Go.Proofs.Ytodbohmbdgbheaa
namespace Go.Proofs.Ytodbohmbdgbheaa
open Go.RowKit
set_option linter.unusedVariables false
end Go.Proofs.Ytodbohmbdgbheaa
namespace Go.Proofs.Ytodbohmbdgbheaa
open Go.RowKit
set_option linter.unusedVariables false
end Go.Proofs.Ytodbohmbdgbheaa
namespace Go.Proofs.Ytodbohmbdgbheaa
open Go.RowKit
set_option linter.unusedVariables false
theorem All2.upd {α β : Type} {R S : α → β → Prop} {xs : List α} {ys : List β} (h : All2 R xs ys) (k : Nat) (x : α) (y : β) (hs : ∀ (i : Nat) a b, i ≠ k → xs[i]? = some a → ys[i]? = some b → R a b → S a b) (hr : S x y) : All2 S (xs.set k x) (ys.set k y) := by
  refine ⟨by simp [h.1], fun j a b ha hb => ?_⟩
  by_cases hij : k = j
  · subst hij
    have hl := (List.getElem?_eq_some_iff.1 ha).1
    simp at hl
    rw [List.getElem?_set_self hl] at ha
    rw [List.getElem?_set_self (by rw [← h.1]; exact hl)] at hb
    simp at ha hb; subst ha; subst hb; exact hr
  · rw [List.getElem?_set_ne hij] at ha hb
    exact hs j a b (fun e => hij e.symm) ha hb (h.2 j a b ha hb)
theorem Own.touch' {w w' : World} {lo hi a b : Nat} {e : TypeId} {k n : Nat} {v : Value} {cs : List Value} (h : Own w lo hi e k v n cs) (ht : Touch a b w w') (hd : ∀ c, v.ownBlock = some c → c < a ∨ b ≤ c) : Own w' lo hi e k v n cs := by
  refine ⟨?_, h.2⟩
  obtain ⟨hl, ⟨rfl, rfl⟩ | ⟨g, cap, cur, rfl, hg, hh, hr⟩⟩ := h.1
  · exact ⟨hl, .inl ⟨rfl, rfl⟩⟩
  · have hb := h.1.lt g rfl
    exact ⟨hl, .inr ⟨g, cap, cur, rfl, hg, (ht.block g hb.2 (hd g rfl)).trans hh, hr⟩⟩
def Dr.sz (x : Dr) : Nat := x.name.size + (x.query.length + szAll N.sz x.query)
def Rs.sz (x : Rs) : Nat := x.name.size + (x.ids.length)
theorem Rs.O.touch' {w w' : World} {lo hi a b : Nat} {x : Rs} {p : P2} (h : Rs.O w lo hi x p) (ht : Touch a b w w') (hd : ∀ v c, v ∈ Rs.subs p → v.ownBlock = some c → c < a ∨ b ≤ c) : Rs.O w' lo hi x p := ⟨h.1, (h.2).touch' ht (fun c hc => hd _ c (by simp [Rs.subs]) hc)⟩
def Df.sz (x : Df) : Nat := x.name.size + (x.added.length) + (x.removed.length)
def Fl.sz (x : Fl) : Nat := (x.attrs.length + szAll At.sz x.attrs)
theorem Fl.O.touch' {w w' : World} {lo hi a b : Nat} {x : Fl} {p : P5} (h : Fl.O w lo hi x p) (ht : Touch a b w w') (hd : ∀ v c, v ∈ Fl.subs p → v.ownBlock = some c → c < a ∨ b ≤ c) : Fl.O w' lo hi x p := ⟨h.1, h.2.1, h.2.2.1, h.2.2.2.1, (h.2.2.2.2).touch' ht (fun c hc => hd _ c (by simp [Fl.subs]) hc)⟩
end Go.Proofs.Ytodbohmbdgbheaa
namespace Go.Proofs.Ytodbohmbdgbheaa
end Go.Proofs.Ytodbohmbdgbheaa
namespace Go.Proofs.Ytodbohmbdgbheaa
open Go.RowKit
set_option linter.unusedVariables false
theorem own_type {w : World} {B B' : Nat} {e e' : TypeId} {k k' n n' : Nat} {v v' : Value} {xs xs' : List Value} (h : w.ownsRow B e k v n xs) (h' : w.ownsRow B' e' k' v' n' xs') (hne : e ≠ e') {b : Nat} (hb : v.ownBlock = some b) : v'.ownBlock ≠ some b := by
  intro hb'
  obtain ⟨_, ⟨rfl, _⟩ | ⟨g, cap, cur, rfl, _, hh, _⟩⟩ := h
  · cases hb
  obtain ⟨_, ⟨rfl, _⟩ | ⟨g', cap', cur', rfl, _, hh', _⟩⟩ := h'
  · cases hb'
  cases hb; cases hb'
  rw [hh] at hh'
  injection Option.some.inj hh' with h1 h2
  exact hne h2
theorem own_grown {w w' : World} {B lo hi : Nat} {e e' : TypeId} {k k' n n' : Nat} {v v' : Value} {xs xs' : List Value} (h : Own w lo hi e k v n xs) (h' : w.ownsRow B e' k' v' n' xs') (hne : e ≠ e') (hg : w.grownBy w' v'.ownBlock) : Own w' lo hi e k v n xs := by
  refine ⟨h.1.kept hg ?_, h.2⟩
  cases hb : v.ownBlock with
  | none => exact .inl rfl
  | some b => exact .inr (fun h3 => own_type h.1 h' hne hb h3.symm)
end Go.Proofs.Ytodbohmbdgbheaa
namespace Go.Proofs.Ytodbohmbdgbheaa
open Go.RowKit
set_option linter.unusedVariables false
structure PS where
  q : Value
  r : Value
  n : Int
def PS.c (x : PS) : List Value := [x.q, x.r, .int .i64 x.n]
abbrev PS.v (x : PS) : Value := .agg #[x.q, x.r, .int .i64 x.n]
def St.R (w : World) (x : St) (p : PS) : Prop := Rd w p.q 2 x.schema.length (rows Fd.c x.schema) ∧ RdLs w p.r x.files ∧ p.n = x.next
def St.sz (x : St) : Nat := (x.schema.length + szAll Fd.sz x.schema) + (x.files.length + szAll Fl.sz x.files)
def St.small (x : St) : Prop := x.schema.length ≤ 4000000 ∧ x.files.length ≤ 4000000 ∧ ∀ y, y ∈ x.files → y.small
theorem St.sz_small {x : St} (h : x.sz ≤ 4000000) : x.small := by
  unfold St.sz at h
  refine ⟨by omega, by omega, fun y hy => ?_⟩
  have h2 := mem_szAll (f := Fl.sz) hy
  have h3 : y.attrs.length ≤ y.sz := by unfold Fl.sz; omega
  unfold Fl.small
  omega
theorem St.small_of {x : St} (h : x.sz ≤ 4000000) : x.small := St.sz_small h
theorem St.R.grew {w w' : World} {x : St} {p : PS} (h : St.R w x p) (hg : Grew w w') : St.R w' x p := ⟨h.1.grew hg, RdLs.grew h.2.1 hg, h.2.2⟩
def St.O (w : World) (lo hi : Nat) (x : St) (p : PS) : Prop :=
  ∃ mid, (lo ≤ mid ∧ mid ≤ hi) ∧ Own w lo mid 87 2 p.q x.schema.length (rows Fd.c x.schema) ∧ OwnFls w mid hi p.r x.files ∧ p.n = x.next
theorem St.O.grew {w w' : World} {lo hi : Nat} {x : St} {p : PS} (h : St.O w lo hi x p) (hg : Grew w w') : St.O w' lo hi x p := by
  obtain ⟨mid, hm, h1, h2, h3⟩ := h
  exact ⟨mid, hm, h1.grew hg, OwnFls.grew h2 hg, h3⟩
theorem St.O.touch {w w' : World} {lo hi a b : Nat} {x : St} {p : PS} (h : St.O w lo hi x p) (ht : Touch a b w w') (hd : hi ≤ a ∨ b ≤ lo) : St.O w' lo hi x p := by
  obtain ⟨mid, hm, h1, h2, h3⟩ := h
  exact ⟨mid, hm, h1.touch ht (by omega), OwnFls.touch h2 ht (by omega), h3⟩
theorem St.O.rd {w : World} {lo hi : Nat} {x : St} {p : PS} (h : St.O w lo hi x p) : St.R w x p := by
  obtain ⟨mid, hm, h1, h2, h3⟩ := h
  exact ⟨h1.rd, OwnFls.rd h2, h3⟩
theorem St.O.slices {w : World} {lo hi : Nat} {x : St} {p : PS} (h : St.O w lo hi x p) : ∃ a c b d, p = ⟨.slice a x.schema.length c, .slice b x.files.length d, x.next⟩ := by
  obtain ⟨pq, pr, pn⟩ := p
  obtain ⟨mid, hm, h1, ⟨ps, h2, _⟩, h3⟩ := h
  obtain ⟨a, c, ha⟩ := own_slice h1.1
  obtain ⟨b, d, hb⟩ := own_slice h2.1
  simp only at ha hb h3
  subst ha; subst hb; subst h3
  exact ⟨a, c, b, d, rfl⟩
end Go.Proofs.Ytodbohmbdgbheaa
namespace Go.Proofs.Ytodbohmbdgbheaa
open Go.RowKit
set_option linter.unusedVariables false
def hasF (fs : List Fl) (id : Int) : Bool := fs.any fun g => g.id == id
def GrowF (w : World) (base : Nat) (v : Value) (fs : List Fl) : Prop := ∃ ps : List P5, w.ownsRow base 27 5 v fs.length (rows P5.c ps) ∧ All2 (Fl.O w base w.heap.size) fs ps
theorem GrowF.nil (w : World) (base : Nat) : GrowF w base (.slice none 0 0) [] := ⟨[], World.ownsRow_nil _ _ _ _, All2.nil⟩
theorem GrowF.rd {w : World} {base : Nat} {v : Value} {fs : List Fl} (h : GrowF w base v fs) : RdLs w v fs := by
  obtain ⟨ps, h1, h2⟩ := h
  exact ⟨ps, rd_of_own h1, h2.mono fun x p h => h.rd⟩
theorem GrowF.grew {w w' : World} {base : Nat} {v : Value} {fs : List Fl} (h : GrowF w base v fs) (hg : Grew w w') : GrowF w' base v fs := by
  obtain ⟨ps, h1, h2⟩ := h
  exact ⟨ps, ownsRow_grew h1 hg, h2.mono fun x p h => (h.grew hg).mono (Nat.le_refl _) hg.size⟩
theorem GrowF.snoc {w w' : World} {base lo2 : Nat} {v v' : Value} {fs : List Fl} {f : Fl} {ps : List P5} {p : P5} (h1 : w.ownsRow base 27 5 v fs.length (rows P5.c ps)) (h2 : All2 (Fl.O w base lo2) fs ps)
    (hp : Fl.O w lo2 w.heap.size f p) (hb : base ≤ lo2) (hl : lo2 ≤ w.heap.size) (hown : w'.ownsRow base 27 5 v' (fs.length + 1) (rows P5.c ps ++ P5.c p)) (hg : w.grownBy w' v.ownBlock) (hs : w.heap.size ≤ w'.heap.size) : GrowF w' base v' (fs ++ [f]) := by
  refine ⟨ps ++ [p], ?_, ?_⟩
  · rw [List.length_append, rows_append]; simpa [rows] using hown
  · refine All2.snoc (h2.mono fun x q hr => ?_) ?_
    · exact ⟨hr.1, hr.2.1, hr.2.2.1, hr.2.2.2.1, (own_grown hr.2.2.2.2 h1 (by decide) hg).mono (Nat.le_refl _) (Nat.le_trans hl hs)⟩
    · exact ⟨hp.1, hp.2.1, hp.2.2.1, hp.2.2.2.1, (own_grown hp.2.2.2.2 h1 (by decide) hg).mono hb hs⟩
theorem GrowF.at {w : World} {base g n cap i : Nat} {fs : List Fl} (h : GrowF w base (.slice (some ⟨g, 0, none⟩) n cap) fs) (hn : fs.length = n) (hi : i < n) :
    ∃ f a c, Hid (fs[i]? = some f) ∧ w.cell? ⟨g, i * 5, none⟩ = some (.int .i64 f.id) ∧ w.cell? ⟨g, i * 5 + 1, none⟩ = some (.int .i64 f.owner) ∧ w.cell? ⟨g, i * 5 + 2, none⟩ = some (.bool f.shared) ∧ w.cell? ⟨g, i * 5 + 3, none⟩ = some (.int .i64 f.link) ∧ w.cell? ⟨g, i * 5 + 4, none⟩ = some (.slice a f.attrs.length c) ∧ w.frozen? ⟨g, i * 5 + 3, none⟩ = false ∧ g < w.heap.size ∧ base ≤ g := by
  obtain ⟨ps, h1, h2⟩ := h
  rw [hn] at h1
  have hpl := h2.1
  have hp : ps[i]? = some ps[i] := List.getElem?_eq_getElem (by omega)
  have hf : fs[i]? = some fs[i] := List.getElem?_eq_getElem (by omega)
  have hO := h2.2 i _ _ hf hp
  obtain ⟨p', hp', hc⟩ := own_row P5.len (by decide) h1 hi
  obtain rfl := Option.some.inj (hp'.out.symm.trans hp)
  obtain ⟨a, c, hq⟩ := own_slice hO.2.2.2.2.1
  have e0 := hc 0 (.int .i64 ps[i].id) rfl
  have e1 := hc 1 (.int .i64 ps[i].owner) rfl
  have e2 := hc 2 (.bool ps[i].shared) rfl
  have e3 := hc 3 (.int .i64 ps[i].link) rfl
  have e4 := hc 4 ps[i].attrs rfl
  rw [hO.1] at e0
  rw [hO.2.1] at e1
  rw [hO.2.2.1] at e2
  rw [hO.2.2.2.1] at e3
  rw [hq] at e4
  exact ⟨fs[i], a, c, Lib.hid hf, e0, e1, e2, e3, e4, h1.frozenAt _, (h1.lt g rfl).2, (h1.lt g rfl).1⟩
theorem GrowF.put {w : World} {base g n cap i : Nat} {fs : List Fl} {f : Fl} {l : Int} (h : GrowF w base (.slice (some ⟨g, 0, none⟩) n cap) fs) (hn : fs.length = n) (hf : fs[i]? = some f) :
    GrowF (w.setCell ⟨g, i * 5 + 3, none⟩ (.int .i64 l)) base (.slice (some ⟨g, 0, none⟩) n cap) (fs.set i ⟨f.id, f.owner, f.shared, l, f.attrs⟩) := by
  obtain ⟨ps, h1, h2⟩ := h
  rw [hn] at h1
  have hpl := h2.1
  have hi := (List.getElem?_eq_some_iff.1 hf).1
  have hp : ps[i]? = some ps[i] := List.getElem?_eq_getElem (by omega)
  have hO := h2.2 i f ps[i] hf hp
  have ht : Touch g (g + 1) w (w.setCell ⟨g, i * 5 + 3, none⟩ (.int .i64 l)) := Touch.setCell (p := ⟨g, i * 5 + 3, none⟩) (Touch.refl g (g + 1) w) (Nat.le_refl g) (Nat.lt_succ_self g) _
  have hss : (w.setCell ⟨g, i * 5 + 3, none⟩ (.int .i64 l)).heap.size = w.heap.size := by simp
  refine ⟨ps.set i ⟨ps[i].id, ps[i].owner, ps[i].shared, l, ps[i].attrs⟩, ?_, ?_⟩
  · have e := ownsRow_stores h1 (i * 5 + 3) (.int .i64 l)
    rw [List.length_set, hn]
    have e2 : (rows P5.c ps).set (i * 5 + 3) (.int .i64 l) = rows P5.c (ps.set i ⟨ps[i].id, ps[i].owner, ps[i].shared, l, ps[i].attrs⟩) := by
      have h5 := setnP5 ps i ps[i] hp ps[i].id ps[i].owner ps[i].shared l
      have a0 : (rows P5.c ps).set (i * 5) (.int .i64 ps[i].id) = rows P5.c ps := set_noop (rows_at P5.len ps i 0 ps[i] hp (by decide))
      have a1 : (rows P5.c ps).set (i * 5 + 1) (.int .i64 ps[i].owner) = rows P5.c ps := set_noop (rows_at P5.len ps i 1 ps[i] hp (by decide))
      have a2 : (rows P5.c ps).set (i * 5 + 2) (.bool ps[i].shared) = rows P5.c ps := set_noop (rows_at P5.len ps i 2 ps[i] hp (by decide))
      rw [a0, a1, a2] at h5
      exact h5
    rw [← e2]; exact e
  · have hall : All2 (Fl.O (w.setCell ⟨g, i * 5 + 3, none⟩ (.int .i64 l)) base (w.setCell ⟨g, i * 5 + 3, none⟩ (.int .i64 l)).heap.size) fs ps := h2.mono fun x q hq => by
      have h6 := hq.touch' ht (fun v c hv hc => by
        simp only [Fl.subs, List.mem_cons, List.not_mem_nil, or_false] at hv
        subst hv
        have h7 := own_type hq.2.2.2.2.1 h1 (by decide) hc
        have h8 : c ≠ g := fun e => h7 (by rw [e]; rfl)
        omega)
      exact h6.mono (Nat.le_refl _) (by omega)
    have hO2 := hall.2 i f ps[i] hf hp
    exact hall.set i _ _ ⟨hO2.1, hO2.2.1, hO2.2.2.1, rfl, hO2.2.2.2.2⟩
end Go.Proofs.Ytodbohmbdgbheaa
namespace Go.Proofs.Ytodbohmbdgbheaa
open Go.RowKit
set_option linter.unusedVariables false
end Go.Proofs.Ytodbohmbdgbheaa
namespace Go.Proofs.Ytodbohmbdgbheaa
open Go.RowKit
set_option linter.unusedVariables false
theorem one_rows : ∀ (xs : List N), ∀ u ∈ rows N.c xs, u.oneCell' = true
  | [], u, h => by simp [rows] at h
  | x :: xs, u, h => by
    rw [rows_cons, List.mem_append] at h
    rcases h with h | h
    · simp [N.c] at h; rcases h with rfl | rfl | rfl | rfl | rfl | rfl | rfl <;> rfl
    · exact one_rows xs u h
end Go.Proofs.Ytodbohmbdgbheaa
namespace Go.Proofs.Ytodbohmbdgbheaa
open Go.RowKit
theorem Try.infoN : (Try.prog.info? 47).map (fun i => (i.zero, i.size, i.bytes)) = some (some (N.z.v), 7, 72) := by kernel_rfl
theorem Try.infoFd : (Try.prog.info? 87).map (fun i => (i.zero, i.size, i.bytes)) = some (some (Fd.z.v), 2, 24) := by kernel_rfl
theorem Try.infoAt : (Try.prog.info? 71).map (fun i => (i.zero, i.size, i.bytes)) = some (some (At.z.v), 4, 48) := by kernel_rfl
theorem Try.infoRs : (Try.prog.info? 76).map (fun i => (i.zero, i.size, i.bytes)) = some (some (P2.z.v), 2, 40) := by kernel_rfl
theorem Try.infoFl : (Try.prog.info? 27).map (fun i => (i.zero, i.size, i.bytes)) = some (some (P5.z.v), 5, 56) := by kernel_rfl
end Go.Proofs.Ytodbohmbdgbheaa
namespace Go.Proofs.Ytodbohmbdgbheaa
open Go.RowKit
set_option linter.unusedVariables false
theorem hasF_no {fs : List Fl} {id : Int} {k : Nat} {x : Fl} (h : hasF (fs.take k) id = false) (hx : fs[k]? = some x) (hn : (x.id == id) = false) : hasF (fs.take (k + 1)) id = false := by
  rw [take_snoc hx]; unfold hasF at h ⊢; rw [List.any_append, h]; simp [hn]
theorem one_at : ∀ (xs : List At), ∀ u ∈ rows At.c xs, u.oneCell' = true
  | [], u, h => by simp [rows] at h
  | x :: xs, u, h => by
    rw [rows_cons, List.mem_append] at h
    rcases h with h | h
    · simp [At.c] at h; rcases h with rfl | rfl | rfl | rfl <;> rfl
    · exact one_at xs u h
theorem one_fd : ∀ (xs : List Fd), ∀ u ∈ rows Fd.c xs, u.oneCell' = true
  | [], u, h => by simp [rows] at h
  | x :: xs, u, h => by
    rw [rows_cons, List.mem_append] at h
    rcases h with h | h
    · simp [Fd.c] at h; rcases h with rfl | rfl <;> rfl
    · exact one_fd xs u h
set_option maxRecDepth 100000 in
set_option maxHeartbeats 2000000 in
theorem l04Copy (x : Fl) (p : P5) (w : World) (h : Fl.R w x p) (hx : x.small) :
    Calls Try.prog 67 #[p.v] w fun e w' => ∃ p' : P5, e = .returned p'.v ∧ Fl.O w' w.heap.size w'.heap.size x p' ∧ Grew w w' := by
  obtain ⟨pi, po, ps, pl, pa⟩ := p
  obtain ⟨h1, h2, h3, h4, ⟨a_q, ca_q, hq_q, hca_q, hra_q⟩⟩ := h
  simp only at h1 h2 h3 h4 hq_q
  subst hq_q
  have H1 := Lib.hid h1
  have H2 := Lib.hid h2
  have H3 := Lib.hid h3
  have H4 := Lib.hid h4
  have hlen : x.attrs.length ≤ 4000000 := hx
  clear h1 h2 h3 h4 hx
  obtain ⟨i0, hi, hz0, hz1, hz2⟩ := info_parts Try.infoAt
  have gW := ((Grew.refl w).alloc (.cells #[.int .i64 pi, .int .i64 po, .bool ps, .int .i64 pl, .slice a_q x.attrs.length ca_q] 27)).alloc (.cells #[.int .i64 0, .int .i64 0, .bool false, .int .i64 0, .slice none 0 0] 27)
  obtain ⟨W, hW⟩ : ∃ W, W = (w.alloc (.cells #[.int .i64 pi, .int .i64 po, .bool ps, .int .i64 pl, .slice a_q x.attrs.length ca_q] 27)).alloc (.cells #[.int .i64 0, .int .i64 0, .bool false, .int .i64 0, .slice none 0 0] 27) := ⟨_, rfl⟩
  have hs : W.heap.size = w.heap.size + 2 := by rw [hW]; simp
  have HW := Lib.hid hW
  rw [← hW] at gW
  cases a_q with
  | none =>
    have h0 : x.attrs.length = 0 := by rcases Nat.eq_zero_or_pos x.attrs.length with h | h; exact h; obtain ⟨b, o, h2, _⟩ := hra_q.2 h; cases h2
    have HE := Lib.hid (List.length_eq_zero_iff.1 h0)
    rw [h0] at hca_q
    clear hra_q hW
    rw [h0]
    go_enter Try.func67, Try.ntmps67
    go_wp2
    refine bodyPost_ret (v := P5.v ⟨pi, po, ps, pl, .slice (some ⟨w.heap.size + 2, 0, none⟩) 0 0⟩) (by simp [results, Try.results67, go_sem]) rfl ⟨⟨pi, po, ps, pl, .slice (some ⟨w.heap.size + 2, 0, none⟩) 0 0⟩, rfl, ⟨H1.out, H2.out, H3.out, H4.out, ?_⟩, ?_⟩
    · rw [HE.out]
      have h1 : ∀ V : World, V.heap.size = w.heap.size + 1 + 1 → Own (V.alloc (.cells #[] 71)) w.heap.size (V.alloc (.cells #[] 71)).heap.size 71 4 (.slice (some ⟨w.heap.size + 1 + 1, 0, none⟩) 0 0) 0 [] := fun V h => by
        have h1 := own_of (lit_own V 71 4)
        rw [h] at h1
        exact h1.mono (by omega) (Nat.le_refl _)
      exact h1 _ (by simp)
    · exact (((Grew.refl w).alloc _).alloc _).alloc _
  | some a_q =>
    have HN := Lib.hid (rd_news hra_q (gW.alloc (.cells #[] 71)))
    have HC := Lib.hid hra_q.1
    have HLIT : Hid ((W.alloc (.cells #[] 71)).ownsRow (w.heap.size + 1 + 1) 71 4 (.slice (some ⟨w.heap.size + 1 + 1, 0, none⟩) 0 0) 0 []) := by
      have h1 := lit_own W 71 4
      rw [hs] at h1
      exact Lib.hid h1
    clear hra_q hW
    go_enter Try.func67, Try.ntmps67
    go_wp2_with (at_builtin; refine wpList_append_own _ rfl _ _ 25 rfl (w.heap.size + 1 + 1) 71 i0 _ 4 48 Try.underlying25 hi hz0 hz1 hz2 rfl (by decide) _ 0 [] rfl (by rw [← HW.out]; exact HLIT.out) a_q x.attrs.length ca_q (rows At.c x.attrs) rfl ?c1 ?c2 ?c3 ?c4 ?c5 ?c6 ?_)
    case c1 => exact HC.out
    case c2 => rw [← HW.out]; exact HN.out
    case c3 => exact one_at x.attrs
    case c4 => unfold maxLen; omega
    case c5 => omega
    case c6 => simp
    intro v1 w1 hown1 hgr1 _
    rw [← HW.out] at hgr1
    have hgA : Grew W w1 := ((Grew.refl W).alloc (.cells #[] 71)).grown hgr1 (fun k h => by cases h; dsimp only; omega)
    have hg1 := gW.trans hgA
    have HO : Hid (w1.ownsRow (w.heap.size + 1 + 1) 71 4 v1 x.attrs.length (rows At.c x.attrs)) := by simpa using Lib.hid hown1
    obtain ⟨a1, c1, rfl⟩ := own_slice HO.out
    clear hown1 hgr1
    have f0_0 := grew_cell (a := ⟨w.heap.size, 0, none⟩) (u := .int .i64 pi) hgA (by rw [HW.out]; simp)
    have f0_1 := grew_cell (a := ⟨w.heap.size, 1, none⟩) (u := .int .i64 po) hgA (by rw [HW.out]; simp)
    have f0_2 := grew_cell (a := ⟨w.heap.size, 2, none⟩) (u := .bool ps) hgA (by rw [HW.out]; simp)
    have f0_3 := grew_cell (a := ⟨w.heap.size, 3, none⟩) (u := .int .i64 pl) hgA (by rw [HW.out]; simp)
    have f0_4 := grew_cell (a := ⟨w.heap.size, 4, none⟩) (u := .slice (some a_q) x.attrs.length ca_q) hgA (by rw [HW.out]; simp)
    have z0 := fun j => grew_frozen (a := ⟨w.heap.size, j, none⟩) hgA (by simp; omega) (by rw [HW.out]; simp [go_sem])
    have f1_0 := grew_cell (a := ⟨w.heap.size + 1, 0, none⟩) (u := .int .i64 0) hgA (by rw [HW.out]; simp)
    have f1_1 := grew_cell (a := ⟨w.heap.size + 1, 1, none⟩) (u := .int .i64 0) hgA (by rw [HW.out]; simp)
    have f1_2 := grew_cell (a := ⟨w.heap.size + 1, 2, none⟩) (u := .bool false) hgA (by rw [HW.out]; simp)
    have f1_3 := grew_cell (a := ⟨w.heap.size + 1, 3, none⟩) (u := .int .i64 0) hgA (by rw [HW.out]; simp)
    have f1_4 := grew_cell (a := ⟨w.heap.size + 1, 4, none⟩) (u := .slice none 0 0) hgA (by rw [HW.out]; simp)
    have z1 := fun j => grew_frozen (a := ⟨w.heap.size + 1, j, none⟩) hgA (by simp; omega) (by rw [HW.out]; simp [go_sem])
    go_wp2
    have ow1 := (ownsRow_setCell_below (ownsRow_setCell_below (ownsRow_setCell_below (ownsRow_setCell_below (ownsRow_setCell_below (ownsRow_setCell_below HO.out (a := ⟨w.heap.size, 4, none⟩) (by dsimp only; omega) (Value.slice a1 x.attrs.length c1)) (a := ⟨w.heap.size + 1, 0, none⟩) (by dsimp only; omega) (Value.int .i64 pi)) (a := ⟨w.heap.size + 1, 1, none⟩) (by dsimp only; omega) (Value.int .i64 po)) (a := ⟨w.heap.size + 1, 2, none⟩) (by dsimp only; omega) (Value.bool ps)) (a := ⟨w.heap.size + 1, 3, none⟩) (by dsimp only; omega) (Value.int .i64 pl)) (a := ⟨w.heap.size + 1, 4, none⟩) (by dsimp only; omega) (Value.slice a1 x.attrs.length c1))
    refine bodyPost_ret (v := P5.v ⟨pi, po, ps, pl, .slice a1 x.attrs.length c1⟩) (by simp [results, Try.results67, go_sem, f1_0, f1_1, f1_2, f1_3, f1_4]) rfl ⟨⟨pi, po, ps, pl, .slice a1 x.attrs.length c1⟩, rfl, ⟨H1.out, H2.out, H3.out, H4.out, (own_of ow1).mono (by omega) (Nat.le_refl _)⟩, ?_⟩
    repeat' (first | with_reducible exact hg1 | with_reducible refine Grew.setCell ?_ ?_ _ | (dsimp only; omega))
end Go.Proofs.Ytodbohmbdgbheaa
namespace Go.Proofs.Ytodbohmbdgbheaa
open Go.RowKit
set_option linter.unusedVariables false
def Cur (w : World) (g : Nat) : Prop :=
  ∃ (a : Option Addr) (n c : Nat) (i h : Int) (bs : List Int), w.cell? ⟨g, 0, none⟩ = some (.slice a n c) ∧ w.cell? ⟨g, 1, none⟩ = some (.int .i64 i) ∧ w.cell? ⟨g, 2, none⟩ = some (.int .i64 h) ∧
    0 ≤ i ∧ i ≤ n ∧ n ≤ 1048576 ∧ RdA w a 1 n (bs.map (Value.int .u8)) ∧ (0 < n → ∀ b, a = some b → b.block < g) ∧ w.frozen? ⟨g, 1, none⟩ = false ∧ w.frozen? ⟨g, 2, none⟩ = false
theorem Cur.lt {w : World} {g : Nat} (h : Cur w g) : g < w.heap.size := by
  obtain ⟨a, n, c, i, k, bs, h0, _⟩ := h
  exact lt_of_cell h0
theorem tch_cell {w w' : World} {lo hi : Nat} (ht : Touch lo hi w w') {p : Addr} {u : Value} (hb : p.block < lo ∨ hi ≤ p.block) (h : w.cell? p = some u) : w'.cell? p = some u :=
  (World.cell?_of_block (w := w) (ht.block p.block (lt_of_cell h) hb)).trans h
theorem tch_frozen {w w' : World} {lo hi : Nat} (ht : Touch lo hi w w') {p : Addr} (hl : p.block < w.heap.size) (hb : p.block < lo ∨ hi ≤ p.block) (h : w.frozen? p = false) : w'.frozen? p = false :=
  (World.frozen?_of_block (w := w) (ht.block p.block hl hb)).trans h
theorem RdA.tch {w w' : World} {a : Option Addr} {k n lo hi : Nat} {cs : List Value} (h : RdA w a k n cs) (ht : Touch lo hi w w') (hb : 0 < n → ∀ b, a = some b → b.block < lo ∨ hi ≤ b.block) : RdA w' a k n cs := by
  obtain ⟨hl, hr⟩ := h
  refine ⟨hl, fun hn => ?_⟩
  obtain ⟨b, o, rfl, hj⟩ := hr hn
  refine ⟨b, o, rfl, fun j hjn => ?_⟩
  have h0 := hj j hjn
  rw [List.getElem?_eq_getElem (by omega)] at h0 ⊢
  exact tch_cell ht (p := ⟨b, o + j, none⟩) (hb hn ⟨b, o, none⟩ rfl) h0
theorem Cur.touch {w w' : World} {g lo hi : Nat} (h : Cur w g) (ht : Touch lo hi w w') (hg : g < lo) : Cur w' g := by
  have hlt := h.lt
  obtain ⟨a, n, c, i, k, bs, h0, h1, h2, h3, h4, h5, h6, h7, h8, h9⟩ := h
  exact ⟨a, n, c, i, k, bs, tch_cell ht (.inl hg) h0, tch_cell ht (.inl hg) h1, tch_cell ht (.inl hg) h2, h3, h4, h5, h6.tch ht (fun hn b hb => .inl (by have := h7 hn b hb; omega)), h7, tch_frozen ht hlt (.inl hg) h8, tch_frozen ht hlt (.inl hg) h9⟩
theorem Cur.grew {w w' : World} {g : Nat} (h : Cur w g) (hg : Grew w w') : Cur w' g := h.touch (hg.touch (g + 1) (g + 1)) (Nat.lt_succ_self g)
def D (g : Nat) (w w' : World) : Prop := g < w.heap.size ∧ Touch g (g + 1) w w' ∧ Cur w' g
theorem D.refl {w : World} {g : Nat} (h : Cur w g) : D g w w := ⟨h.lt, Touch.refl _ _ _, h⟩
theorem D.cur {g : Nat} {w w' : World} (h : D g w w') : Cur w' g := h.2.2
theorem D.size {g : Nat} {w w' : World} (h : D g w w') : w.heap.size ≤ w'.heap.size := h.2.1.size
theorem D.lt {g : Nat} {w w' : World} (h : D g w w') : g < w.heap.size := h.1
theorem D.trans {g : Nat} {a b c : World} (h : D g a b) (k : D g b c) : D g a c := ⟨h.1, h.2.1.trans k.2.1, k.2.2⟩
theorem D.grew {g : Nat} {a b c : World} (h : D g a b) (k : Grew b c) : D g a c := ⟨h.1, h.2.1.grew k, h.2.2.grew k⟩
theorem D.alloc {g : Nat} {a b : World} (h : D g a b) (o : Obj) : D g a (b.alloc o) := h.grew ((Grew.refl b).alloc o)
theorem D.drew {g : Nat} {a b : World} (h : D g a b) : D g a b.drew := h.grew (Grew.refl b).drew
theorem D.drewN {g : Nat} {a b : World} (h : D g a b) (n : Nat) : D g a (b.drewN n) := h.grew ((Grew.refl b).drewN n)
theorem D.touch {g lo hi : Nat} {a b c : World} (h : D g a b) (k : Touch lo hi b c) (hl : a.heap.size ≤ lo) : D g a c := by
  have hg := h.1
  refine ⟨hg, ⟨k.os.trans h.2.1.os, k.tape.trans h.2.1.tape, k.output.trans h.2.1.output, Nat.le_trans h.2.1.size k.size, fun b' hb ho => ?_⟩, h.2.2.touch k (by omega)⟩
  exact (k.block b' (Nat.lt_of_lt_of_le hb h.2.1.size) (.inl (by omega))).trans (h.2.1.block b' hb ho)
theorem D.setCell {g : Nat} {a b : World} (h : D g a b) {p : Addr} (hp : a.heap.size ≤ p.block) (u : Value) : D g a (b.setCell p u) :=
  h.touch (lo := p.block) (hi := p.block + 1) (Touch.setCell (Touch.refl _ _ _) (Nat.le_refl _) (Nat.lt_succ_self _) u) hp
theorem grown_touch {w w' : World} {row : Option Nat} (hg : w.grownBy w' row) {lo hi : Nat} (hr : ∀ k, row = some k → lo ≤ k ∧ k < hi) : Touch lo hi w w' :=
  ⟨hg.os, hg.tape, hg.output, hg.size, fun b hb ho => hg.block b hb (fun e => by have := hr b e.symm; omega)⟩
theorem D.grown {g : Nat} {a b c : World} {row : Option Nat} (h : D g a b) (hg : b.grownBy c row) (hr : ∀ k, row = some k → a.heap.size ≤ k) : D g a c := by
  cases row with
  | none => exact h.touch (lo := a.heap.size) (hi := a.heap.size) (grown_touch hg (fun k hk => by cases hk)) (Nat.le_refl _)
  | some k => exact h.touch (lo := k) (hi := k + 1) (grown_touch hg (fun j hj => by cases hj; omega)) (hr k rfl)
theorem D.cell {g : Nat} {w w' : World} (h : D g w w') {p : Addr} {u : Value} (hc : w.cell? p = some u) (hp : p.block ≠ g) : w'.cell? p = some u :=
  tch_cell h.2.1 (by omega) hc
theorem D.frozen {g : Nat} {w w' : World} (h : D g w w') {p : Addr} (hl : p.block < w.heap.size) (hf : w.frozen? p = false) (hp : p.block ≠ g) : w'.frozen? p = false :=
  tch_frozen h.2.1 hl (by omega) hf
theorem ownsRow_tch {w w' : World} {lo hi base : Nat} {e : TypeId} {k n : Nat} {v : Value} {cs : List Value} (h : w.ownsRow base e k v n cs) (ht : Touch lo hi w w') (hd : hi ≤ base) : w'.ownsRow base e k v n cs := by
  obtain ⟨hl, ⟨rfl, rfl⟩ | ⟨g, cap, cur, rfl, hg, hh, hr⟩⟩ := h
  · exact ⟨hl, .inl ⟨rfl, rfl⟩⟩
  · refine ⟨hl, .inr ⟨g, cap, cur, rfl, hg, ?_, hr⟩⟩
    rw [ht.block g (Array.getElem?_eq_some_iff.1 hh).1 (.inr (by omega))]
    exact hh
theorem D.own {g : Nat} {w w' : World} (h : D g w w') {base : Nat} {e : TypeId} {k n : Nat} {v : Value} {cs : List Value} (hr : w.ownsRow base e k v n cs) (hg : g < base) : w'.ownsRow base e k v n cs :=
  ownsRow_tch hr h.2.1 hg
theorem D.rd {g : Nat} {w w' : World} (h : D g w w') {k n : Nat} {v : Value} {cs : List Value} (hr : Rd w v k n cs) (hg : v.ownBlock ≠ some g) : Rd w' v k n cs := by
  obtain ⟨a, c, rfl, hc, ha⟩ := hr
  refine ⟨a, c, rfl, hc, ha.tch h.2.1 fun _ b hb => ?_⟩
  subst hb
  have : b.block ≠ g := fun e => hg (by simp [Value.ownBlock, e])
  omega
def GL {α β : Type} (enc : β → List Value) (k : Nat) (e : TypeId) (O : World → Nat → Nat → α → β → Prop) (w : World) (base : Nat) (v : Value) (xs : List α) : Prop :=
  ∃ ps, w.ownsRow base e k v xs.length (rows enc ps) ∧ All2 (O w base w.heap.size) xs ps
theorem GL.rd {α β : Type} {enc : β → List Value} {k : Nat} {e : TypeId} {O : World → Nat → Nat → α → β → Prop} {R : World → α → β → Prop} (hO : ∀ w lo hi x p, O w lo hi x p → R w x p) {w : World} {base : Nat} {v : Value} {xs : List α} (h : GL enc k e O w base v xs) : RdL enc k R w v xs := by
  obtain ⟨ps, h1, h2⟩ := h
  exact ⟨ps, rd_of_own h1, h2.mono fun x p h => hO _ _ _ _ _ h⟩
theorem GL.touch {α β : Type} {enc : β → List Value} {k : Nat} {e : TypeId} {O : World → Nat → Nat → α → β → Prop} (hO : ∀ w w' lo hi a b x p, O w lo hi x p → Touch a b w w' → (hi ≤ a ∨ b ≤ lo) → O w' lo hi x p) (hM : ∀ w lo hi hi' x p, O w lo hi x p → hi ≤ hi' → O w lo hi' x p)
    {w w' : World} {base a b : Nat} {v : Value} {xs : List α} (h : GL enc k e O w base v xs) (ht : Touch a b w w') (hd : b ≤ base) : GL enc k e O w' base v xs := by
  obtain ⟨ps, h1, h2⟩ := h
  exact ⟨ps, ownsRow_tch h1 ht hd, h2.mono fun x p h => hM _ _ _ _ _ _ (hO _ _ _ _ _ _ _ _ h ht (.inr hd)) ht.size⟩
theorem GL.slice {α β : Type} {enc : β → List Value} {k : Nat} {e : TypeId} {O : World → Nat → Nat → α → β → Prop} {w : World} {base : Nat} {v : Value} {xs : List α} (h : GL enc k e O w base v xs) : ∃ a c, v = .slice a xs.length c := by
  obtain ⟨ps, h1, _⟩ := h
  exact own_slice h1
theorem GL.base {α β : Type} {enc : β → List Value} {k : Nat} {e : TypeId} {O : World → Nat → Nat → α → β → Prop} (hM : ∀ w lo lo' hi x p, O w lo hi x p → lo' ≤ lo → O w lo' hi x p) {w : World} {base base' : Nat} {v : Value} {xs : List α} (h : GL enc k e O w base v xs) (hb : base' ≤ base) : GL enc k e O w base' v xs := by
  obtain ⟨ps, h1, h2⟩ := h
  exact ⟨ps, ownsRow_base h1 hb, h2.mono fun x p h => hM _ _ _ _ _ _ h hb⟩
end Go.Proofs.Ytodbohmbdgbheaa
namespace Go.Proofs.Ytodbohmbdgbheaa
open Go.RowKit
set_option linter.unusedVariables false
theorem and255 (n : Int) : bits .and .i64 n 255 = n % 256 := by
  have h255 : (BitVec.ofInt 64 255).toNat = 2 ^ 8 - 1 := by decide
  have key : (BitVec.ofInt 64 n &&& BitVec.ofInt 64 255).toNat = (n % ((2 ^ 64 : Nat) : Int)).toNat % 2 ^ 8 := by
    rw [BitVec.toNat_and, BitVec.toNat_ofInt, h255, Nat.and_two_pow_sub_one_eq_mod]
  show IntKind.i64.wrap ((BitVec.ofInt 64 n &&& BitVec.ofInt 64 255).toNat : Nat) = n % 256
  rw [key, IntKind.wrap_i64]
  omega
theorem and255_ok (n : Int) : 0 ≤ bits .and .i64 n 255 ∧ bits .and .i64 n 255 ≤ 255 := by rw [and255]; omega
theorem curOf {w w' : World} {g : Nat} (ht : Touch g (g + 1) w w') {a : Option Addr} {n c : Nat} {i h : Int} {bs : List Int} (h0 : w'.cell? ⟨g, 0, none⟩ = some (.slice a n c)) (h1 : w'.cell? ⟨g, 1, none⟩ = some (.int .i64 i)) (h2 : w'.cell? ⟨g, 2, none⟩ = some (.int .i64 h))
    (h3 : 0 ≤ i) (h4 : i ≤ n) (h5 : n ≤ 1048576) (h6 : RdA w a 1 n (bs.map (Value.int .u8))) (h7 : 0 < n → ∀ b, a = some b → b.block < g) (h8 : w'.frozen? ⟨g, 1, none⟩ = false) (h9 : w'.frozen? ⟨g, 2, none⟩ = false) : Cur w' g :=
  ⟨a, n, c, i, h, bs, h0, h1, h2, h3, h4, h5, h6.tch ht (fun hn b hb => .inl (h7 hn b hb)), h7, h8, h9⟩
theorem D.of {w w' : World} {g : Nat} (hl : g < w.heap.size) (ht : Touch g (g + 1) w w') (hc : Cur w' g) : D g w w' := ⟨hl, ht, hc⟩
set_option maxRecDepth 100000 in
set_option maxHeartbeats 1000000 in
theorem l01Byte (g : Nat) (w : World) (hc : Cur w g) :
    Calls Try.prog 58 #[.pointer (some ⟨g, 0, none⟩)] w fun e w' => ∃ x : Int, e = .returned (.int .i64 x) ∧ (0 ≤ x ∧ x ≤ 255) ∧ D g w w' := by
  have hlt := hc.lt
  obtain ⟨a, n, c, i, h, bs, h0, h1, h2, h3, h4, h5, h6, h7, h8, h9⟩ := hc
  have HB := Lib.hid h7
  have HR := Lib.hid h6
  clear h7
  by_cases hin : i < (n : Int)
  · obtain ⟨k, rfl⟩ : ∃ k : Nat, i = k := ⟨i.toNat, by omega⟩
    have hkn : k < n := by omega
    obtain ⟨b1, o1, x, rfl, hx, hcx⟩ := h6.one hkn
    have hb1 := HB.out (by omega) _ rfl
    have hne : ¬ (b1 = g) := by simp at hb1; omega
    clear h6 h3 h4
    go_enter Try.func58, Try.ntmps58
    go_wp2
    go_quiet (fail)
    go_wp2
    go_quiet (fail)
    go_wp2
    go_quiet (fail)
    go_wp2
    go_ret
    have ht : ∀ (u v : Value) (p : Nat), Touch g (g + 1) w (((w.setCell ⟨g, 2, none⟩ u).drewN p).setCell ⟨g, 1, none⟩ v) := fun u v p => (((Touch.refl g (g + 1) w).setCell (p := ⟨g, 2, none⟩) (Nat.le_refl _) (Nat.lt_succ_self _) u).drewN p).setCell (p := ⟨g, 1, none⟩) (Nat.le_refl _) (Nat.lt_succ_self _) v
    exact ⟨_, rfl, and255_ok _, D.of hlt (ht _ _ _) (curOf (ht _ _ _) (i := (k : Int) + 1) (by simp [go_sem, h0]; rfl) (by simp [go_sem, h1]; try go_num) (by simp [go_sem, h2]; rfl) (by omega) (by omega) h5 HR.out HB.out (by simp [go_sem, h8]) (by simp [go_sem, h9]))⟩
  · go_enter Try.func58, Try.ntmps58
    go_wp2
    go_quiet (fail)
    go_wp2
    go_quiet (fail)
    go_wp2
    go_ret
    have ht : ∀ (u : Value) (p q : Nat), Touch g (g + 1) w (((w.setCell ⟨g, 2, none⟩ u).drewN p).drewN q) := fun u p q => (((Touch.refl g (g + 1) w).setCell (p := ⟨g, 2, none⟩) (Nat.le_refl _) (Nat.lt_succ_self _) u).drewN p).drewN q
    exact ⟨_, rfl, and255_ok _, D.of hlt (ht _ _ _) (curOf (ht _ _ _) (by simp [go_sem, h0]; rfl) (by simp [go_sem, h1]) (by simp [go_sem, h2]; rfl) h3 h4 h5 HR.out HB.out (by simp [go_sem, h8]) (by simp [go_sem, h9]))⟩
theorem mod_ok {x k : Int} (hk : 0 < k) : 0 ≤ x % k ∧ x % k < k := ⟨Int.emod_nonneg _ (by omega), Int.emod_lt_of_pos _ hk⟩
set_option maxRecDepth 100000 in
set_option maxHeartbeats 1000000 in
theorem l01Below (g : Nat) (w : World) (hc : Cur w g) (k : Int) (hk : 0 < k) (hk2 : k ≤ 4294967296) :
    Calls Try.prog 30 #[.pointer (some ⟨g, 0, none⟩), .int .i64 k] w fun e w' => ∃ x : Int, e = .returned (.int .i64 x) ∧ (0 ≤ x ∧ x < k) ∧ D g w w' := by
  by_cases hle : k ≤ 256
  · go_enter Try.func30, Try.ntmps30
    go_wp2_with (go_at_call 58; refine (l01Byte g _ hc).mono ?_; rintro e w1 ⟨x, rfl, hx, hd⟩)
    go_ret
    exact ⟨_, rfl, mod_ok hk, hd⟩
  · go_enter Try.func30, Try.ntmps30
    go_wp2_with fail
    refine (l01Byte g _ hc).mono ?_; rintro e w1 ⟨x, rfl, hx, hd1⟩
    go_wp2_with fail
    refine (l01Byte g _ hd1.cur).mono ?_; rintro e w2 ⟨y, rfl, hy, hd2⟩
    go_wp2_with fail
    refine (l01Byte g _ hd2.cur).mono ?_; rintro e w3 ⟨z, rfl, hz, hd3⟩
    go_wp2_with fail
    refine (l01Byte g _ hd3.cur).mono ?_; rintro e w4 ⟨t, rfl, ht, hd4⟩
    go_wp2
    go_ret
    exact ⟨_, rfl, mod_ok hk, ((hd1.trans hd2).trans hd3).trans hd4⟩
set_option maxRecDepth 100000 in
set_option maxHeartbeats 1000000 in
theorem l01Once (g : Nat) (w : World) (hc : Cur w g) (k : Int) (hk : 0 < k) (hk2 : k ≤ 256) :
    Calls Try.prog 62 #[.pointer (some ⟨g, 0, none⟩), .int .i64 k] w fun e w' => ∃ b : Bool, e = .returned (.bool b) ∧ D g w w' := by
  go_enter Try.func62, Try.ntmps62
  go_wp2_with (go_at_call 30; refine (l01Below g _ hc k hk (by omega)).mono ?_; rintro e w1 ⟨x, rfl, hx, hd⟩)
  go_ret
  exact ⟨_, rfl, hd⟩
set_option maxRecDepth 100000 in
set_option maxHeartbeats 1000000 in
theorem l01Pick (g : Nat) (w : World) (hc : Cur w g) (v : Value) (n : Nat) (xs : List ByteArray) (hr : Rd w v 1 n (strs xs)) (hb : v.ownBlock ≠ some g) (hn : 0 < n) (hn2 : n ≤ 256) :
    Calls Try.prog 32 #[.pointer (some ⟨g, 0, none⟩), v] w fun e w' => ∃ x, e = .returned (.string x) ∧ x ∈ xs ∧ D g w w' := by
  obtain ⟨a, ca, rfl, hca, hra⟩ := hr
  have HB := Lib.hid hb
  go_enter Try.func32, Try.ntmps32
  go_wp2_with fail
  refine (l01Below g _ hc n (by omega) (by omega)).mono ?_
  rintro e w1 ⟨i, rfl, hi, hd⟩
  obtain ⟨k, rfl⟩ : ∃ k : Nat, i = k := ⟨i.toNat, by omega⟩
  obtain ⟨_, _, h1, h2, hra⟩ := hd.rd ⟨a, ca, rfl, hca, hra⟩ HB.out
  cases h1
  obtain ⟨b1, o1, x, rfl, hxk, c1⟩ := hra.one (i := k) (by omega)
  go_wp2
  go_ret
  exact ⟨_, rfl, List.mem_of_getElem? hxk.out, hd⟩
set_option maxRecDepth 100000 in
set_option maxHeartbeats 1000000 in
theorem l01PickInt (g : Nat) (w : World) (hc : Cur w g) (v : Value) (n : Nat) (xs : List Int) (hr : Rd w v 1 n (ints xs)) (hb : v.ownBlock ≠ some g) (hn : 0 < n) (hn2 : n ≤ 256) :
    Calls Try.prog 31 #[.pointer (some ⟨g, 0, none⟩), v] w fun e w' => ∃ x : Int, e = .returned (.int .i64 x) ∧ x ∈ xs ∧ D g w w' := by
  obtain ⟨a, ca, rfl, hca, hra⟩ := hr
  have HB := Lib.hid hb
  go_enter Try.func31, Try.ntmps31
  go_wp2_with fail
  refine (l01Below g _ hc n (by omega) (by omega)).mono ?_
  rintro e w1 ⟨i, rfl, hi, hd⟩
  obtain ⟨k, rfl⟩ : ∃ k : Nat, i = k := ⟨i.toNat, by omega⟩
  obtain ⟨_, _, h1, h2, hra⟩ := hd.rd ⟨a, ca, rfl, hca, hra⟩ HB.out
  cases h1
  obtain ⟨b1, o1, x, rfl, hxk, c1⟩ := hra.one (i := k) (by omega)
  go_wp2
  go_ret
  exact ⟨_, rfl, List.mem_of_getElem? hxk.out, hd⟩
theorem rda_lt {w : World} {a : Option Addr} {k n : Nat} {cs : List Value} (h : RdA w a (k + 1) n cs) (hn : 0 < n) {b : Addr} (hb : a = some b) : b.block < w.heap.size := by
  obtain ⟨c, o, rfl, hj⟩ := h.2 hn
  cases hb
  have h0 := hj 0 (by rw [Nat.mul_succ]; omega)
  rw [List.getElem?_eq_getElem (by rw [h.1, Nat.mul_succ]; omega)] at h0
  exact lt_of_cell (a := ⟨c, o + 0, none⟩) h0
set_option maxRecDepth 100000 in
set_option maxHeartbeats 1000000 in
theorem l01New (v : Value) (n : Nat) (bs : List Int) (w : World) (hr : Rd w v 1 n (bs.map (Value.int .u8))) (hn : n ≤ 1048576) :
    Calls Try.prog 15 #[v] w fun e w' => e = .returned (.pointer (some ⟨w.heap.size, 0, none⟩)) ∧ Cur w' w.heap.size ∧ Grew w w' ∧ w.heap.size < w'.heap.size := by
  obtain ⟨a, ca, rfl, hca, hra⟩ := hr
  have HR := Lib.hid hra
  go_enter Try.func15, Try.ntmps15
  go_wp2
  go_loop [3, 4] (fun h i => ∃ k : Nat, ∃ z : Int, k ≤ n ∧ i = .int .i64 k ∧ h = .int .i64 z) (fun _ i => n - (intOf i).toNat)
  case atStart => exact ⟨0, _, Nat.zero_le _, rfl, rfl⟩
  case round =>
    obtain ⟨k, z, hk, rfl, rfl⟩ := hrel
    by_cases hlt : k < n
    · by_cases h4 : k < 4000
      · obtain ⟨b1, o1, x, rfl, hxk, c1⟩ := hra.one hlt
        go_wp2
        exact ⟨⟨k + 1, _, by omega, by go_num, rfl⟩, by simp [intOf]; omega⟩
      · go_wp2
        go_ret
        exact ⟨rfl, ⟨a, n, ca, 0, z, bs, by simp, by simp, by simp, by omega, by omega, hn, HR.out.grew ((Grew.refl w).alloc _), fun hn b hb => rda_lt HR.out hn hb, by simp [go_sem], by simp [go_sem]⟩, (Grew.refl w).alloc _, by simp⟩
    · go_wp2
      go_ret
      exact ⟨rfl, ⟨a, n, ca, 0, z, bs, by simp, by simp, by simp, by omega, by omega, hn, HR.out.grew ((Grew.refl w).alloc _), fun hn b hb => rda_lt HR.out hn hb, by simp [go_sem], by simp [go_sem]⟩, (Grew.refl w).alloc _, by simp⟩
end Go.Proofs.Ytodbohmbdgbheaa
namespace Go.Proofs.Ytodbohmbdgbheaa
open Go.RowKit
set_option linter.unusedVariables false
section
variable {P : Program} {md : Region.Mode} {ops : Array Oper} {Q : Exit → Act → World → Prop} {S : World → Prop}
theorem cl2 (i j : Nat) {oi oj : Oper} {rs rt : List Oper} {fuel : Nat} {listed : Array Bool} {a : Act} {w : World} (hi : ops.toList.drop i = oi :: rs) (hj : ops.toList.drop j = oj :: rt) (hr : Region.ready md ops listed = [i, j])
    (h : ∀ K' : Act → World → Prop, Shut (∀ a w, S w → (S w → wpAnyH P md ops Q S fuel (listed.setIfInBounds i true) a w) → K' a w) → if Region.wanted oi (yielded ops a.tmps) = true then Oper.wp P oi a w K' Q else K' (a.put oi.dst undef) w)
    (h' : ∀ K' : Act → World → Prop, Shut (∀ a w, S w → (S w → wpAnyH P md ops Q S fuel (listed.setIfInBounds j true) a w) → K' a w) → if Region.wanted oj (yielded ops a.tmps) = true then Oper.wp P oj a w K' Q else K' (a.put oj.dst undef) w) :
    wpAnyH P md ops Q S (fuel + 1) listed a w :=
  wpAnyH_ready hr (by simp) (AllReadyH.cons (at_of_drop hi) h (AllReadyH.cons (at_of_drop hj) h' AllReadyH.nil))
end
theorem lit_rd (w : World) (cs : Array Value) (e : TypeId) (k n cap : Nat) (hl : cs.size = n * k) (hc : n ≤ cap) : Rd (w.alloc (.cells cs e)) (.slice (some ⟨w.heap.size, 0, none⟩) n cap) k n cs.toList := by
  refine ⟨_, cap, rfl, hc, by simpa using hl, fun _ => ⟨_, 0, rfl, fun j hj => ?_⟩⟩
  rw [Nat.zero_add, World.cell?_alloc_at (w := w) cs e w.heap.size j rfl, Array.getElem?_toList]
theorem lit_owns (w : World) (cs : Array Value) (e : TypeId) (k n : Nat) (hl : cs.size = n * k) (hc : n ≤ maxLen) : (w.alloc (.cells cs e)).ownsRow w.heap.size e k (.slice (some ⟨w.heap.size, 0, none⟩) n n) n cs.toList :=
  ⟨by simpa using hl, .inr ⟨w.heap.size, n, cs, rfl, Nat.le_refl _, heap_alloc_new w _, Nat.le_refl _, hc, hl, by rw [← hl, ← Array.length_toList, List.take_length]⟩⟩
theorem lit_news {w : World} {cs : Array Value} {e : TypeId} {g : Nat} (hg : g = w.heap.size) : ∀ j u, cs.toList[j]? = some u → (w.alloc (.cells cs e)).cell? ((⟨g, 0, none⟩ : Addr).add j) = some u := by
  subst hg
  intro j u hu
  rw [Addr.add_lit, Nat.zero_add, World.cell?_alloc_at (w := w) cs e w.heap.size j rfl, ← Array.getElem?_toList]
  exact hu
theorem cur_ne {w : World} {g n c : Nat} (h : Cur w g) : (Value.slice (some ⟨w.heap.size, 0, none⟩) n c).ownBlock ≠ some g := by
  have := h.lt; simp [Value.ownBlock]; omega
set_option maxRecDepth 100000 in
set_option maxHeartbeats 1000000 in
theorem l09DirName (g : Nat) (w : World) (hc : Cur w g) :
    Calls Try.prog 60 #[.pointer (some ⟨g, 0, none⟩)] w fun e w' => ∃ x : ByteArray, e = .returned (.string x) ∧ x.size ≤ 8 ∧ D g w w' := by
  go_enter Try.func60, Try.ntmps60
  go_wp2_with fail
  refine (l01Pick g _ (hc.grew ((Grew.refl w).alloc _)) _ 7 [⟨#[100, 97]⟩, ⟨#[100, 98]⟩, ⟨#[100, 99]⟩, ⟨#[100, 100]⟩, ⟨#[100, 97]⟩, ⟨#[100, 98]⟩, ⟨#[100, 99]⟩] (lit_rd w _ _ 1 7 7 rfl (Nat.le_refl _)) (cur_ne hc) (by decide) (by decide)).mono ?_
  rintro e w1 ⟨x, rfl, hx, hd⟩
  go_wp2
  go_ret
  refine ⟨_, rfl, ?_, (D.refl hc).alloc _ |>.trans hd⟩
  simp at hx
  rcases hx with rfl | rfl | rfl | rfl | rfl | rfl | rfl <;> decide
def idsOk (k : Nat) (xs : List Int) : Prop := xs.Pairwise (· < ·) ∧ (∀ x, x ∈ xs → 1 ≤ x ∧ x < k) ∧ xs.length + 1 ≤ k
theorem idsOk.snoc {k : Nat} {xs : List Int} (h : idsOk k xs) : idsOk (k + 1) (xs ++ [(k : Int)]) := by
  obtain ⟨h1, h2, h3⟩ := h
  refine ⟨List.pairwise_append.2 ⟨h1, by simp, fun a ha b hb => by simp at hb; subst hb; exact (h2 a ha).2⟩, fun x hx => ?_, by simp; omega⟩
  rw [List.mem_append] at hx
  rcases hx with hx | hx
  · have := h2 x hx; omega
  · simp at hx; omega
theorem idsOk.up {k : Nat} {xs : List Int} (h : idsOk k xs) : idsOk (k + 1) xs :=
  ⟨h.1, fun x hx => by have := h.2.1 x hx; omega, by have := h.2.2; omega⟩
set_option maxRecDepth 100000 in
set_option maxHeartbeats 1000000 in
theorem l14Ids (g : Nat) (w : World) (hc : Cur w g) :
    Calls Try.prog 39 #[.pointer (some ⟨g, 0, none⟩)] w fun e w' => ∃ v xs, e = .returned v ∧ idsOk 8 xs ∧ w'.ownsRow w.heap.size 3 1 v xs.length (ints xs) ∧ D g w w' := by
  obtain ⟨i0, hi, hz0, hz1, hz2⟩ := info_parts Try.infoInt
  have hl := hc.lt
  go_enter Try.func39, Try.ntmps39
  go_wp2
  go_loopw [3, 4] (fun v i wr => ∃ (k : Nat) (xs : List Int), k ≤ 8 ∧ i = .int .i64 k ∧ Hid (idsOk k xs) ∧ Hid (wr.ownsRow w.heap.size 3 1 v xs.length (ints xs)) ∧ D g w wr) (fun _ i _ => 8 - (intOf i).toNat)
  case atStart => exact ⟨1, [], by omega, rfl, Lib.hid ⟨by simp, by simp, by simp⟩, Lib.hid (lit_own w _ 1), (D.refl hc).alloc _⟩
  case round =>
    obtain ⟨k, xs, hk, rfl, hok, hown, hd⟩ := hrel
    by_cases hlt : k < 8
    · have hxl := hok.out.2.2
      go_wp2_with fail
      refine (l01Once g _ hd.cur 2 (by decide) (by decide)).mono ?_
      rintro e w1 ⟨b, rfl, hd1⟩
      cases b
      · go_wp2
        go_roundw
        case rel => exact ⟨k + 1, xs, by omega, by go_num, Lib.hid hok.out.up, Lib.hid (hd1.own hown.out hl), hd.trans hd1⟩
        case measure => simp [intOf]; omega
      · go_wp2_with (at_builtin; refine wpList_append_own _ rfl _ _ 37 rfl w.heap.size 3 i0 _ 1 8 Try.underlying37 hi hz0 hz1 hz2 rfl (by decide) _ _ _ rfl ((hd1.own hown.out hl).alloc (.cells #[.int .i64 k] 3)) ⟨_, 0, none⟩ 1 1 [.int .i64 k] rfl rfl (lit_news rfl) (fun x hx => by simp at hx; subst hx; rfl) (by unfold maxLen; omega) (by omega) (by have := (hd.trans hd1).size; simp; omega) ?_; intro v' w' hown' hgr2 _)
        go_roundw
        case rel => exact ⟨k + 1, xs ++ [(k : Int)], by omega, by go_num, Lib.hid hok.out.snoc, Lib.hid (by simpa using hown'), ((hd.trans hd1).alloc _).grown hgr2 (fun j h => (hown.out.lt j h).1)⟩
        case measure => simp [intOf]; omega
    · obtain rfl : k = 8 := by omega
      go_wp2
      go_ret
      exact ⟨_, xs, rfl, hok.out, hown.out, hd⟩
end Go.Proofs.Ytodbohmbdgbheaa
