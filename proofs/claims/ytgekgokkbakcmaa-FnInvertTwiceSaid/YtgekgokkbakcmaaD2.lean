/- Contracts of DiffIDs. -/
import Derived.Test.YtgekgokkbakcmaaD1
import Derived.ArgAppend
namespace Go.Proofs.Ytgekgokkbakcmaa
open Go.RowKit
set_option linter.unusedVariables false
/-- A growing row: a literal without cells at a known block, or a row of blocks from base on. -/
def Sep (w : World) (base : Nat) (e : TypeId) (k lit : Nat) (v : Value) (n : Nat) (cs : List Value) : Prop :=
  (v = .slice (some ⟨lit, 0, none⟩) 0 0 ∧ n = 0 ∧ cs = []) ∨ w.ownsRow base e k v n cs
theorem Sep.lit {w : World} {base : Nat} {e : TypeId} {k lit : Nat} : Sep w base e k lit (.slice (some ⟨lit, 0, none⟩) 0 0) 0 [] := .inl ⟨rfl, rfl, rfl⟩
theorem Sep.alloc {w : World} {base : Nat} {e : TypeId} {k lit : Nat} {v : Value} {n : Nat} {cs : List Value} (h : Sep w base e k lit v n cs) (o : Obj) : Sep (w.alloc o) base e k lit v n cs := h.imp id fun h => h.alloc o
theorem Sep.grew {w w' : World} {base : Nat} {e : TypeId} {k lit : Nat} {v : Value} {n : Nat} {cs : List Value} (h : Sep w base e k lit v n cs) (hg : Grew w w') : Sep w' base e k lit v n cs := h.imp id fun h => ownsRow_grew h hg
theorem Sep.rd {w : World} {base : Nat} {e : TypeId} {k lit : Nat} {v : Value} {n : Nat} {cs : List Value} (h : Sep w base e k lit v n cs) : Rd w v k n cs := by
  rcases h with ⟨rfl, rfl, rfl⟩ | h
  · exact ⟨_, 0, rfl, Nat.le_refl _, by simp, fun h => absurd h (Nat.lt_irrefl _)⟩
  · exact rd_of_own h
theorem wpList_append_sep {P : Program} (w : World) {ops : Array Oper} {rest : List Oper} {o : Oper} {a : Act} {Q : Exit → Act → World → Prop} (hgd : o.guard = none) (s x : Operand) (t : TypeId)
    (ho : o.op = .call { callee := .builtin .append, args := #[s, x], argTypes := #[t, t] })
    (base : Nat) (e : TypeId) (i : TypeInfo) (z : Value) (size bytes : Nat) (ht : P.underlying t = some (.slice e)) (hi : P.info? e = some i) (hz : i.zero = some z)
    (hsize : i.size = size) (hby : i.bytes = bytes) (hzs : z.cells.size = size) (hsz : 0 < size) (lit : Nat)
    (v : Value) (n : Nat) (xs : List Value) (hs : a.eval s = v) (hsep : Sep w base e size lit v n xs)
    (ad : Addr) (m c : Nat) (news : List Value) (hx : a.eval x = .slice (some ad) m c) (hm : 0 < m) (hl : news.length = m * size) (hnews : ∀ j u, news[j]? = some u → w.cell? (ad.add j) = some u) (h1 : ∀ u ∈ news, u.oneCell' = true)
    (h63 : n + m ≤ maxLen) (hbytes : (n + m) * bytes ≤ 140737488355328) (hbase : base ≤ w.heap.size)
    (h : ∀ v' w', w'.ownsRow base e size v' (n + m) (xs ++ news) → (∃ row, w.grownBy w' row ∧ ∀ k, row = some k → base ≤ k) → wpList P ops Q rest (a.put o.dst v') w') : wpList P ops Q (o :: rest) a w := by
  rcases hsep with ⟨rfl, rfl, rfl⟩ | hown
  · refine wpList_append_grows w hgd s x t ho e i z size bytes ht hi hz hsize hby hzs hsz (some ⟨lit, 0, none⟩) 0 0 [] hs (by simp) (by simp) (by simp) ad m c news hx hl hnews h1 (by omega) h63 hbytes ?_
    intro v' w' r1 r2
    exact h v' w' (ownsRow_base r1 hbase) ⟨none, r2, fun k hk => by cases hk⟩
  · refine wpList_append_own w hgd s x t ho base e i z size bytes ht hi hz hsize hby hzs hsz v n xs hs hown ad m c news hx hl hnews h1 h63 hbytes hbase ?_
    intro v' w' r1 r2 _
    exact h v' w' r1 ⟨_, r2, fun k hk => (hown.lt k hk).1⟩
theorem own_kept {w w' : World} {b0 : Nat} {e : TypeId} {k n : Nat} {v : Value} {cs : List Value} {base : Nat} (h : w.ownsRow b0 e k v n cs) (hv : ∀ g, v.ownBlock = some g → g < base) (hg : ∃ row, w.grownBy w' row ∧ ∀ k, row = some k → base ≤ k) : w'.ownsRow b0 e k v n cs := by
  obtain ⟨row, h1, h2⟩ := hg
  refine h.kept h1 ?_
  cases hb : v.ownBlock with
  | none => exact .inl rfl
  | some g => exact .inr (fun h3 => by have := hv g hb; have := h2 g h3.symm; omega)
theorem Grew.sep {a w w' : World} {base : Nat} (h : Grew a w) (hg : ∃ row, w.grownBy w' row ∧ ∀ k, row = some k → base ≤ k) (hb : a.heap.size ≤ base) : Grew a w' := by
  obtain ⟨row, h1, h2⟩ := hg
  exact h.grown h1 fun k hk => Nat.le_trans hb (h2 k hk)
theorem Sep.base {w : World} {base b0 : Nat} {e : TypeId} {k lit : Nat} {v : Value} {n : Nat} {cs : List Value} (h : Sep w base e k lit v n cs) (hb : b0 ≤ base) (hl : w.ownsRow b0 e k (.slice (some ⟨lit, 0, none⟩) 0 0) 0 []) : w.ownsRow b0 e k v n cs := by
  rcases h with ⟨rfl, rfl, rfl⟩ | h
  · exact hl
  · exact ownsRow_base h hb
theorem Rd.len1 {α : Type} {f : α → Value} {w : World} {v : Value} {n : Nat} {xs : List α} (h : Rd w v 1 n (xs.map f)) : xs.length = n := by
  obtain ⟨a, c, _, _, h⟩ := h; exact h.len_map
theorem Sep.blk {w : World} {base : Nat} {e : TypeId} {k lit : Nat} {v : Value} {n : Nat} {cs : List Value} (h : Sep w base e k lit v n cs) {b : Nat} (hb : v.ownBlock = some b) : b = lit ∨ base ≤ b := by
  rcases h with ⟨rfl, rfl, rfl⟩ | h
  · simp [Value.ownBlock] at hb; exact .inl hb.symm
  · exact .inr (h.lt b hb).1
theorem wo_le (xs ys : List Int) : (wo xs ys).length ≤ xs.length := List.length_filter_le _ _
theorem wo_take_le (xs ys : List Int) (k : Nat) : (wo (xs.take k) ys).length ≤ k := Nat.le_trans (wo_le _ _) (by rw [List.length_take]; omega)
set_option maxRecDepth 100000 in
set_option maxHeartbeats 1000000 in
theorem specDiffIDs2 (va vb : Value) (n m : Nat) (xs ys : List Int) (w : World) (ha : Rd w va 1 n (ints xs)) (hb : Rd w vb 1 m (ints ys)) (hx : n ≤ 4000000) (hy : m ≤ 4000000) :
    Calls Try.prog 148 #[va, vb] w fun e w' => ∃ u v, e = .returned (.tuple #[u, v]) ∧ (∀ b, u.ownBlock = some b → v.ownBlock ≠ some b) ∧ w'.ownsRow w.heap.size 3 1 u (wo ys xs).length (ints (wo ys xs)) ∧ w'.ownsRow w.heap.size 3 1 v (wo xs ys).length (ints (wo xs ys)) ∧ Grew w w' := by
  have HA := Lib.hid ha
  have HB := Lib.hid hb
  obtain ⟨a, ca, rfl, hca, hra⟩ := ha
  obtain ⟨b, cb, rfl, hcb, hrb⟩ := hb
  have HX := Lib.hid hra.len_map
  have HY := Lib.hid hrb.len_map
  obtain ⟨i0, hi, hz0, hz1, hz2⟩ := info_parts Try.infoInt
  go_enter Try.func148, Try.ntmps148
  go_wp2
  have hl0 := ownsRow_grew (lit_own w 3 1) ((Grew.refl _).alloc (.cells #[] 3))
  have hl1 := lit_own (w.alloc (.cells #[] 3)) 3 1
  have hg := ((Grew.refl w).alloc (.cells #[] 3)).alloc (.cells #[] 3)
  have hs : ((w.alloc (.cells #[] 3)).alloc (.cells #[] 3)).heap.size = w.heap.size + 2 := by simp
  rw [show (w.alloc (.cells #[] 3)).heap.size = w.heap.size + 1 by simp] at hl1
  generalize (w.alloc (.cells #[] 3)).alloc (.cells #[] 3) = W at hl0 hl1 hg hs ⊢
  have HL0 := Lib.hid hl0
  have HL1 := Lib.hid hl1
  have HS := Lib.hid hs
  clear hl0 hl1 hs
  go_loopw [6, 8] (fun v i wr => ∃ k : Nat, k ≤ m ∧ i = .int .i64 k ∧ Hid (Sep wr (w.heap.size + 2) 3 1 w.heap.size v (wo (ys.take k) xs).length (ints (wo (ys.take k) xs))) ∧ Grew W wr) (fun _ i _ => m - (intOf i).toNat)
  case atStart => exact ⟨0, Nat.zero_le _, rfl, Lib.hid Sep.lit, Grew.refl _⟩
  case round =>
    obtain ⟨k, hk, rfl, hsep, hbel⟩ := hrel
    by_cases hlt : k < m
    · obtain ⟨b1, o1, y, rfl, hyk, e1⟩ := (hrb.grew (hg.trans hbel)).one hlt
      obtain ⟨v, hv⟩ : ∃ v, v = has xs y := ⟨_, rfl⟩
      have HV := Lib.hid hv
      clear hv
      have hv : v = false ∨ v = true := by cases v <;> simp
      have hwl := wo_take_le ys xs k
      rcases hv with rfl | rfl
      · go_wp2_with (first | (go_at_call 138; refine (specContainsID _ _ xs y _ (HA.out.grew (hg.trans hbel)) hx).mono ?_; rintro e w1 ⟨he, rfl⟩; rw [← HV.out] at he; subst he) | (at_builtin; refine wpList_append_sep _ rfl _ _ 66 rfl (w.heap.size + 2) 3 i0 (.int .i64 0) 1 8 Try.underlying66 hi hz0 hz1 hz2 rfl (by decide) w.heap.size _ _ _ rfl (hsep.out.alloc _) ⟨_, 0, none⟩ 1 1 [.int .i64 y] rfl (by decide) rfl (cell_one_new _ _ _) (fun x hx => by simp at hx; subst hx; rfl) (by unfold maxLen; omega) (by omega) (by have := hbel.size; have := HS.out; simp; omega) ?_; rintro v' w' hown' hgr))
        go_roundw
        case rel =>
          refine ⟨k + 1, by omega, by go_num, Lib.hid (.inr ?_), (hbel.alloc _).sep hgr (by have := HS.out; omega)⟩
          rw [wo_no hyk.out HV.out.symm]; simpa using hown'
        case measure => simp [intOf]; omega
      · go_wp2_with (go_at_call 138; refine (specContainsID _ _ xs y _ (HA.out.grew (hg.trans hbel)) hx).mono ?_; rintro e w1 ⟨he, rfl⟩; rw [← HV.out] at he; subst he)
        go_roundw
        case rel =>
          refine ⟨k + 1, by omega, by go_num, ?_, hbel⟩
          rw [wo_yes hyk.out HV.out.symm]; exact hsep
        case measure => simp [intOf]; omega
    · obtain rfl : k = m := by omega
      have h1 := hsep.out.base (b0 := w.heap.size) (by omega) (ownsRow_grew HL0.out hbel)
      rw [take_all HY.out] at h1
      have HIN := Lib.hid h1
      have HB1 := Lib.hid (fun b (h : u6.ownBlock = some b) => hsep.out.blk h)
      have hL1 := Lib.hid (ownsRow_grew HL1.out hbel)
      have hg2 := hg.trans hbel
      have hsz : w.heap.size + 2 ≤ wr.heap.size := by have := hbel.size; have := HS.out; omega
      clear h1 hsep hbel hg hlt hrb
      obtain ⟨W1, rfl⟩ : ∃ x, x = wr := ⟨_, rfl⟩
      have HU := Lib.hid (fun g (h : u6.ownBlock = some g) => (HIN.out.lt g h).2)
      go_wp2
      go_loopw [7, 9] (fun v i w2 => ∃ k : Nat, k ≤ n ∧ i = .int .i64 k ∧ Hid (Sep w2 W1.heap.size 3 1 (w.heap.size + 1) v (wo (xs.take k) ys).length (ints (wo (xs.take k) ys))) ∧ Hid (w2.ownsRow w.heap.size 3 1 u6 (wo ys xs).length (ints (wo ys xs))) ∧ Grew W1 w2) (fun _ i _ => n - (intOf i).toNat)
      case atStart => exact ⟨0, Nat.zero_le _, rfl, Lib.hid Sep.lit, HIN, Grew.refl _⟩
      case round =>
        obtain ⟨k2, hk2, rfl, hsep, hin, hbel⟩ := hrel
        by_cases hlt : k2 < n
        · obtain ⟨b1, o1, y, rfl, hyk, e1⟩ := (hra.grew (hg2.trans hbel)).one hlt
          obtain ⟨v, hv⟩ : ∃ v, v = has ys y := ⟨_, rfl⟩
          have HV := Lib.hid hv
          clear hv
          have hv : v = false ∨ v = true := by cases v <;> simp
          have hwl := wo_take_le xs ys k2
          rcases hv with rfl | rfl
          · go_wp2_with (first | (go_at_call 138; refine (specContainsID _ _ ys y _ (HB.out.grew (hg2.trans hbel)) hy).mono ?_; rintro e w1 ⟨he, rfl⟩; rw [← HV.out] at he; subst he) | (at_builtin; refine wpList_append_sep _ rfl _ _ 66 rfl W1.heap.size 3 i0 (.int .i64 0) 1 8 Try.underlying66 hi hz0 hz1 hz2 rfl (by decide) (w.heap.size + 1) _ _ _ rfl (hsep.out.alloc _) ⟨_, 0, none⟩ 1 1 [.int .i64 y] rfl (by decide) rfl (cell_one_new _ _ _) (fun x hx => by simp at hx; subst hx; rfl) (by unfold maxLen; omega) (by omega) (by have := hbel.size; simp; omega) ?_; rintro v' w' hown' hgr))
            go_roundw
            case rel =>
              refine ⟨k2 + 1, by omega, by go_num, Lib.hid (.inr ?_), Lib.hid (own_kept (hin.out.alloc _) HU.out hgr), (hbel.alloc _).sep hgr (Nat.le_refl _)⟩
              rw [wo_no hyk.out HV.out.symm]; simpa using hown'
            case measure => simp [intOf]; omega
          · go_wp2_with (go_at_call 138; refine (specContainsID _ _ ys y _ (HB.out.grew (hg2.trans hbel)) hy).mono ?_; rintro e w1 ⟨he, rfl⟩; rw [← HV.out] at he; subst he)
            go_roundw
            case rel =>
              refine ⟨k2 + 1, by omega, by go_num, ?_, hin, hbel⟩
              rw [wo_yes hyk.out HV.out.symm]; exact hsep
            case measure => simp [intOf]; omega
        · obtain rfl : k2 = n := by omega
          have h1 := hsep.out.base (b0 := w.heap.size) (by omega) (ownsRow_base (ownsRow_grew hL1.out hbel) (by omega))
          rw [take_all HX.out] at h1
          have HOUT := Lib.hid h1
          have HB2 := Lib.hid (fun b (h : u7.ownBlock = some b) => hsep.out.blk h)
          clear h1 hsep
          go_wp2
          go_ret2
          refine ⟨_, _, rfl, ?_, hin.out, HOUT.out, hg2.trans hbel⟩
          intro b h1 h2
          have h3 := HB1.out b h1
          have h4 := HB2.out b h2
          have h5 := HU.out b h1
          omega
theorem specDiffIDs (va vb : Value) (n m : Nat) (xs ys : List Int) (w : World) (ha : Rd w va 1 n (ints xs)) (hb : Rd w vb 1 m (ints ys)) (hx : n ≤ 4000000) (hy : m ≤ 4000000) :
    Calls Try.prog 148 #[va, vb] w fun e w' => ∃ u v, e = .returned (.tuple #[u, v]) ∧ w'.ownsRow w.heap.size 3 1 u (wo ys xs).length (ints (wo ys xs)) ∧ w'.ownsRow w.heap.size 3 1 v (wo xs ys).length (ints (wo xs ys)) ∧ Grew w w' :=
  (specDiffIDs2 va vb n m xs ys w ha hb hx hy).mono fun e w' ⟨u, v, h1, _, h2⟩ => ⟨u, v, h1, h2⟩
end Go.Proofs.Ytgekgokkbakcmaa
