/- Texts N4, L1, as far as they are needed. -/
import Derived.Test.YtemikjbfjhebnaaGreatNi4
import Derived.Test.YtemikjbfjhebnaaGreatNi1
import Derived.StillTailTactics
namespace Go.Proofs.YtemikjbfjhebnaaGreat
open Go.RowKit
set_option linter.unusedVariables false
def negS (bs : List Bool) (i : Nat) (x : N) : List Bool :=
  if x.op = 5 then bs.set x.left.toNat true
  else if x.op = 6 ∨ x.op = 7 then (bs.set x.left.toNat (bs.getD i false)).set x.right.toNat (bs.getD i false)
  else bs
def negR (xs : List N) : Nat → List Bool → List Bool
  | 0, bs => bs
  | k + 1, bs => negR xs k (match xs[k]? with | some x => negS bs k x | none => bs)
theorem negR_step {xs : List N} {k : Nat} {x : N} {bs : List Bool} (h : xs[k]? = some x) : negR xs (k + 1) bs = negR xs k (negS bs k x) := by
  show negR xs k (match xs[k]? with | some x => negS bs k x | none => bs) = _
  rw [h]
theorem negS_length (bs : List Bool) (i : Nat) (x : N) : (negS bs i x).length = bs.length := by
  unfold negS; split
  · simp
  · split <;> simp
theorem negR_length (xs : List N) : ∀ (k : Nat) (bs : List Bool), (negR xs k bs).length = bs.length
  | 0, bs => rfl
  | k + 1, bs => by
    unfold negR
    rw [negR_length xs k]
    split
    · exact negS_length _ _ _
    · rfl
noncomputable def negL (xs : List N) : List Bool := if qryB xs = true then negR xs xs.length (List.replicate xs.length false) else []
theorem negL_le (xs : List N) : (negL xs).length ≤ xs.length := by
  unfold negL; split
  · rw [negR_length]; simp
  · simp
theorem qry_node {xs : List N} {p : Nat} {x : N} (h : qryB xs = true) (hx : xs[p]? = some x) : nodB x p (wrap64 ((p : Int) - 1)) = true := by
  have h1 := (qry_ex xs).choose_spec
  unfold qryB at h
  simp only [Bool.and_eq_true] at h
  have h2 := h1.1 h.1 p x hx
  unfold qryAt at h2
  simp only [Bool.and_eq_true] at h2
  exact h2.1
theorem in_kid {l : Int} {p : Nat} (hp : p < 4000000) (h : inB l 0 (wrap64 ((p : Int) - 1)) = true) : ∃ j : Nat, l = j ∧ j < p := by
  rw [show wrap64 ((p : Int) - 1) = (p : Int) - 1 by unfold wrap64; omega] at h
  simp only [inB, Bool.and_eq_true, decide_eq_true_eq] at h
  exact ⟨l.toNat, by omega, by omega⟩
theorem nod5 {l r : Int} {nm : ByteArray} {v : V} {p : Nat} (hp : p < 4000000) (h : nodB ⟨5, l, r, nm, v⟩ p (wrap64 ((p : Int) - 1)) = true) : ∃ j : Nat, l = j ∧ j < p := by
  unfold nodB at h
  simp at h
  exact in_kid hp h.1.1
theorem nod67 {op l r : Int} {nm : ByteArray} {v : V} {p : Nat} (ho : op = 6 ∨ op = 7) (hp : p < 4000000) (h : nodB ⟨op, l, r, nm, v⟩ p (wrap64 ((p : Int) - 1)) = true) : ∃ j i : Nat, l = j ∧ r = i ∧ j < p ∧ i < p := by
  unfold nodB at h
  rcases ho with rfl | rfl
  all_goals
    simp at h
    obtain ⟨j, h1, h2⟩ := in_kid hp h.1.1
    obtain ⟨i, h3, h4⟩ := in_kid hp h.2.1
    exact ⟨j, i, h1, h3, h2, h4⟩
theorem idx_down (p : Nat) : (p = 0 ∧ Value.int .i64 ((p : Int) - 1) = .int .i64 (-1)) ∨ (∃ q : Nat, p = q + 1 ∧ Value.int .i64 ((p : Int) - 1) = .int .i64 q) := by
  cases p with
  | zero => exact .inl ⟨rfl, rfl⟩
  | succ q => exact .inr ⟨q, rfl, by congr 1; omega⟩
theorem getD_of {bs : List Bool} {i : Nat} {b : Bool} (h : bs[i]? = some b) : bs.getD i false = b := by simp [h]
set_option maxRecDepth 100000 in
set_option maxHeartbeats 2000000 in
theorem specNegatedNodes (va : Value) (n : Nat) (xs : List N) (w : World) (ha : Rd w va 7 n (rows N.c xs)) (hx : n ≤ 4000000) (hz : szAll N.sz xs ≤ 4000000) :
    Calls Tryz.prog 124 #[va] w fun e w' => ∃ v, e = .returned v ∧ w'.ownsRow w.heap.size 4 1 v (negL xs).length (bools (negL xs)) ∧ Grew w w' := by
  have HA := Lib.hid ha
  obtain ⟨a, ca, rfl, hca, hra⟩ := ha
  have HX := Lib.hid (hra.len_rows N.len (by decide))
  obtain ⟨qv, hqv⟩ : ∃ b, qryB xs = b := ⟨_, rfl⟩
  have HQ := Lib.hid hqv
  clear hqv
  have hcs : qv = false ∨ qv = true := by cases qv <;> simp
  rcases hcs with rfl | rfl
  · go_enter Tryz.func124, Tryz.ntmps124
    go_wp2_with (go_at_call 100; refine (specIsValidQuery _ n xs _ HA.out hx hz).mono ?_; rintro e w1 ⟨he, hb⟩; rw [HQ.out] at he; subst he)
    go_ret
    refine ⟨_, rfl, ?_, hb.alloc _⟩
    have : negL xs = [] := by unfold negL; rw [HQ.out]; rfl
    rw [this]
    exact ownsRow_base (lit_own w1 4 1) hb.size
  · obtain ⟨i0, hi, hz0, hz1, hz2⟩ := info_parts Tryz.infoBool
    go_enter Tryz.func124, Tryz.ntmps124
    go_wp2_with fail
    refine (specIsValidQuery _ n xs _ HA.out hx hz).mono ?_
    rintro e w1 ⟨he, hb⟩
    rw [HQ.out] at he; subst he
    go_wp2_with (at_make; refine wpList_make_full _ rfl _ _ 140 rfl w1.heap.size 4 i0 (.bool false) 1 Tryz.underlying140 hi hz0 hz1 _ _ _ _ n rfl rfl rfl rfl ?b2 ?b3 (Nat.le_refl _) ?_)
    case b2 => rw [hz2]; omega
    case b3 => unfold maxLen; omega
    intro w0 hown0 hgrow0
    clear hi hz0 hz1 hz2
    have hb0 : Grew w1 w0 := (Grew.refl _).grown hgrow0 (fun k h => by cases h)
    have hwn : IntKind.i64.wrap ((n : Int) - 1) = (n : Int) - 1 := by simp [IntKind.wrap, IntKind.bits, IntKind.signed]; omega
    go_wp2
    go_loopw [4] (fun i wr => ∃ (k : Nat) (bs : List Bool), k ≤ n ∧ ((k = 0 ∧ i = .int .i64 (-1)) ∨ (∃ p : Nat, k = p + 1 ∧ i = .int .i64 p)) ∧ Hid (negR xs k bs = negL xs) ∧ Hid (wr.ownsRow w1.heap.size 4 1 (.slice (some ⟨w1.heap.size, 0, none⟩) n n) n (bools bs)) ∧ Grew w1 wr) (fun i _ => (intOf i + 1).toNat)
    case atStart =>
      refine ⟨n, List.replicate n false, Nat.le_refl _, idx_down n, Lib.hid ?_, Lib.hid (by simpa [Value.cells, toList_madeCells_one] using hown0), hb0⟩
      unfold negL; rw [HQ.out, if_pos rfl, HX.out]
    case round =>
      obtain ⟨k, bs, hk, hi, hneg, hown, hbel⟩ := hrel
      rcases hi with ⟨rfl, rfl⟩ | ⟨p, rfl, rfl⟩
      · go_wp2
        go_ret
        have h1 : bs = negL xs := hneg.out
        have h2 : bs.length = n := by have := hown.out.1; simpa using this
        refine ⟨_, rfl, ?_, hb.trans hbel⟩
        rw [← h1, h2]
        exact ownsRow_base hown.out hb.size
      · have hlt : p < n := hk
        have hwp : IntKind.i64.wrap ((p : Int) - 1) = (p : Int) - 1 := by simp [IntKind.wrap, IntKind.bits, IntKind.signed]; omega
        obtain ⟨b1, o1, x, rfl, hxp, c0, c1, c2, c3, c4, c5, c6⟩ := (hra.grew (hb.trans hbel)).getN hlt
        have hnode := Lib.hid (qry_node HQ.out hxp.out)
        have hstep := Lib.hid ((negR_step (bs := bs) hxp.out).symm.trans hneg.out)
        obtain ⟨bi, hbi, hci⟩ := own_one hown.out hlt
        have hg1 := (hown.out.lt w1.heap.size rfl).2
        obtain ⟨op, l, r, nm, v⟩ := x
        simp only at c0 c1 c2 c3 c4 c5 c6
        by_cases h5 : op = 5
        · subst h5
          obtain ⟨j, rfl, hj⟩ := nod5 (by omega) hnode.out
          obtain ⟨bj, hbj, hcj⟩ := own_one hown.out (show j < n by omega)
          have hjn : (j : Int) < (n : Int) := by omega
          have hga := (Grew.refl wr).alloc (.cells #[.int .i64 5, .int .i64 j, .int .i64 r, .string nm, .int .i64 v.kind, .int .i64 v.int, .string v.str] 70)
          have e1 := grew_cell hga hcj
          have e2 := grew_frozen hga hg1 (hown.out.frozenAt j)
          have hst := Lib.hid (ownsRow_grew (store_one hown.out j true) ((Grew.refl _).alloc (.cells #[.int .i64 5, .int .i64 j, .int .i64 r, .string nm, .int .i64 v.kind, .int .i64 v.int, .string v.str] 70)))
          go_wp2
          go_roundw
          case rel =>
            refine ⟨p, negS bs p ⟨5, j, r, nm, v⟩, by omega, idx_down p, hstep, Lib.hid ?_, (hbel.setCell (p := ⟨w1.heap.size, j, none⟩) (Nat.le_refl _) _).alloc _⟩
            unfold negS; rw [if_pos rfl]; exact hst.out
          case measure => simp [intOf]
        · by_cases h67 : op = 6 ∨ op = 7
          · obtain ⟨j, i2, rfl, rfl, hj, hi2⟩ := nod67 h67 (by omega) hnode.out
            rcases h67 with rfl | rfl
            · have hjn : (j : Int) < (n : Int) := by omega
              have hin : (i2 : Int) < (n : Int) := by omega
              have hga := (Grew.refl wr).alloc (.cells #[.int .i64 6, .int .i64 j, .int .i64 i2, .string nm, .int .i64 v.kind, .int .i64 v.int, .string v.str] 70)
              have e1 : (wr.alloc (.cells #[.int .i64 6, .int .i64 j, .int .i64 i2, .string nm, .int .i64 v.kind, .int .i64 v.int, .string v.str] 70)).cell? ⟨wr.heap.size, 1, none⟩ = some (.int .i64 j) := by simp
              have e2 : (wr.alloc (.cells #[.int .i64 6, .int .i64 j, .int .i64 i2, .string nm, .int .i64 v.kind, .int .i64 v.int, .string v.str] 70)).cell? ⟨wr.heap.size, 2, none⟩ = some (.int .i64 i2) := by simp
              have hO := ownsRow_grew hown.out hga
              go_wp2
              generalize wr.alloc (.cells #[.int .i64 6, .int .i64 j, .int .i64 i2, .string nm, .int .i64 v.kind, .int .i64 v.int, .string v.str] 70) = W at hga e1 e2 hO ⊢
              obtain ⟨bi2, hbi2, ei⟩ := own_one hO hlt
              obtain rfl : bi = bi2 := Option.some.inj (hbi.out.symm.trans hbi2.out)
              go_still_tail 8, (by kernel_rfl)
              change wpList _ _ _ _ _ W.drew
              have g2 : Grew W W.drew := (Grew.refl _).drew
              replace e1 := grew_cell g2 e1
              replace e2 := grew_cell g2 e2
              replace hO := ownsRow_grew hO g2
              replace hga := hga.trans g2
              clear ei g2 hbi2
              generalize W.drew = W2 at hga e1 e2 hO ⊢
              obtain ⟨bj, hbj, ej⟩ := own_one hO (show j < n by omega)
              have hfj := hO.frozenAt j
              have hne : w1.heap.size ≠ wr.heap.size := by omega
              have hO3 := store_one hO j bi
              have hg3 := (hbel.trans hga).setCell (p := ⟨w1.heap.size, j, none⟩) (Nat.le_refl _) (.bool bi)
              have k2 : (W2.setCell ⟨w1.heap.size, j, none⟩ (.bool bi)).cell? ⟨wr.heap.size, 2, none⟩ = some (.int .i64 i2) := by
                rw [World.cell?_setCell_other _ _ _ _ (fun e => hne (congrArg Addr.block e))]; exact e2
              go_wp2
              generalize W2.setCell ⟨w1.heap.size, j, none⟩ (.bool bi) = W3 at hO3 hg3 k2 ⊢
              clear e1 e2 ej hfj hO hga
              obtain ⟨bi3, hbi3, ei⟩ := own_one hO3 hlt
              obtain rfl : bi = bi3 := by
                have h1 := hbi3.out
                rw [List.getElem?_set_ne (by omega)] at h1
                exact Option.some.inj (hbi.out.symm.trans h1)
              go_still_tail 8, (by kernel_rfl)
              change wpList _ _ _ _ _ W3.drew
              have g2 : Grew W3 W3.drew := (Grew.refl _).drew
              replace hO3 := ownsRow_grew hO3 g2
              replace hg3 := hg3.trans g2
              clear ei g2 hbi3
              generalize W3.drew = W4 at hg3 hO3 ⊢
              obtain ⟨bj4, hbj4, ej⟩ := own_one hO3 (show i2 < n by omega)
              have hfj := hO3.frozenAt i2
              have hst := Lib.hid (store_one hO3 i2 bi)
              go_wp2
              go_roundw
              case rel =>
                refine ⟨p, negS bs p ⟨6, j, i2, nm, v⟩, by omega, idx_down p, hstep, Lib.hid ?_, hg3.setCell (p := ⟨w1.heap.size, i2, none⟩) (Nat.le_refl _) _⟩
                unfold negS; rw [if_neg (by simp), if_pos (by simp), getD_of hbi.out]; exact hst.out
              case measure => simp [intOf]
            · have hjn : (j : Int) < (n : Int) := by omega
              have hin : (i2 : Int) < (n : Int) := by omega
              have hga := (Grew.refl wr).alloc (.cells #[.int .i64 7, .int .i64 j, .int .i64 i2, .string nm, .int .i64 v.kind, .int .i64 v.int, .string v.str] 70)
              have e1 : (wr.alloc (.cells #[.int .i64 7, .int .i64 j, .int .i64 i2, .string nm, .int .i64 v.kind, .int .i64 v.int, .string v.str] 70)).cell? ⟨wr.heap.size, 1, none⟩ = some (.int .i64 j) := by simp
              have e2 : (wr.alloc (.cells #[.int .i64 7, .int .i64 j, .int .i64 i2, .string nm, .int .i64 v.kind, .int .i64 v.int, .string v.str] 70)).cell? ⟨wr.heap.size, 2, none⟩ = some (.int .i64 i2) := by simp
              have hO := ownsRow_grew hown.out hga
              go_wp2
              generalize wr.alloc (.cells #[.int .i64 7, .int .i64 j, .int .i64 i2, .string nm, .int .i64 v.kind, .int .i64 v.int, .string v.str] 70) = W at hga e1 e2 hO ⊢
              obtain ⟨bi2, hbi2, ei⟩ := own_one hO hlt
              obtain rfl : bi = bi2 := Option.some.inj (hbi.out.symm.trans hbi2.out)
              go_still_tail 8, (by kernel_rfl)
              change wpList _ _ _ _ _ W.drew
              have g2 : Grew W W.drew := (Grew.refl _).drew
              replace e1 := grew_cell g2 e1
              replace e2 := grew_cell g2 e2
              replace hO := ownsRow_grew hO g2
              replace hga := hga.trans g2
              clear ei g2 hbi2
              generalize W.drew = W2 at hga e1 e2 hO ⊢
              obtain ⟨bj, hbj, ej⟩ := own_one hO (show j < n by omega)
              have hfj := hO.frozenAt j
              have hne : w1.heap.size ≠ wr.heap.size := by omega
              have hO3 := store_one hO j bi
              have hg3 := (hbel.trans hga).setCell (p := ⟨w1.heap.size, j, none⟩) (Nat.le_refl _) (.bool bi)
              have k2 : (W2.setCell ⟨w1.heap.size, j, none⟩ (.bool bi)).cell? ⟨wr.heap.size, 2, none⟩ = some (.int .i64 i2) := by
                rw [World.cell?_setCell_other _ _ _ _ (fun e => hne (congrArg Addr.block e))]; exact e2
              go_wp2
              generalize W2.setCell ⟨w1.heap.size, j, none⟩ (.bool bi) = W3 at hO3 hg3 k2 ⊢
              clear e1 e2 ej hfj hO hga
              obtain ⟨bi3, hbi3, ei⟩ := own_one hO3 hlt
              obtain rfl : bi = bi3 := by
                have h1 := hbi3.out
                rw [List.getElem?_set_ne (by omega)] at h1
                exact Option.some.inj (hbi.out.symm.trans h1)
              go_still_tail 8, (by kernel_rfl)
              change wpList _ _ _ _ _ W3.drew
              have g2 : Grew W3 W3.drew := (Grew.refl _).drew
              replace hO3 := ownsRow_grew hO3 g2
              replace hg3 := hg3.trans g2
              clear ei g2 hbi3
              generalize W3.drew = W4 at hg3 hO3 ⊢
              obtain ⟨bj4, hbj4, ej⟩ := own_one hO3 (show i2 < n by omega)
              have hfj := hO3.frozenAt i2
              have hst := Lib.hid (store_one hO3 i2 bi)
              go_wp2
              go_roundw
              case rel =>
                refine ⟨p, negS bs p ⟨7, j, i2, nm, v⟩, by omega, idx_down p, hstep, Lib.hid ?_, hg3.setCell (p := ⟨w1.heap.size, i2, none⟩) (Nat.le_refl _) _⟩
                unfold negS; rw [if_neg (by simp), if_pos (by simp), getD_of hbi.out]; exact hst.out
              case measure => simp [intOf]
          · have h50 : (op == 5) = false := by simp [h5]
            have h60 : (op == 6) = false := by simp; omega
            have h70 : (op == 7) = false := by simp; omega
            go_wp2
            go_roundw
            case rel =>
              refine ⟨p, negS bs p ⟨op, l, r, nm, v⟩, by omega, idx_down p, hstep, Lib.hid ?_, hbel.alloc _⟩
              unfold negS; rw [if_neg h5, if_neg h67]; exact ownsRow_grew hown.out ((Grew.refl _).alloc _)
            case measure => simp [intOf]
set_option maxRecDepth 100000 in
set_option maxHeartbeats 2000000 in
theorem implNegatedNodes (va : Value) (n : Nat) (xs : List N) (w : World) (ha : Rd w va 7 n (rows N.c xs)) (hx : n ≤ 4000000) (hz : szAll N.sz xs ≤ 4000000) :
    Calls Tryz.prog 130 #[va] w fun e w' => ∃ v, e = .returned v ∧ w'.ownsRow w.heap.size 4 1 v (negL xs).length (bools (negL xs)) ∧ Grew w w' := by
  have HA := Lib.hid ha
  obtain ⟨a, ca, rfl, hca, hra⟩ := ha
  have HX := Lib.hid (hra.len_rows N.len (by decide))
  obtain ⟨qv, hqv⟩ : ∃ b, qryB xs = b := ⟨_, rfl⟩
  have HQ := Lib.hid hqv
  clear hqv
  have hcs : qv = false ∨ qv = true := by cases qv <;> simp
  rcases hcs with rfl | rfl
  · go_enter Tryz.func130, Tryz.ntmps130
    go_wp2_with (go_at_call 119; refine (implIsValidQuery _ n xs _ HA.out hx hz).mono ?_; rintro e w1 ⟨he, hb⟩; rw [HQ.out] at he; subst he)
    go_ret
    refine ⟨_, rfl, ?_, hb⟩
    have : negL xs = [] := by unfold negL; rw [HQ.out]; rfl
    rw [this]
    exact World.ownsRow_nil _ _ _ _
  · obtain ⟨i0, hi, hz0, hz1, hz2⟩ := info_parts Tryz.infoBool
    go_enter Tryz.func130, Tryz.ntmps130
    go_wp2_with fail
    refine (implIsValidQuery _ n xs _ HA.out hx hz).mono ?_
    rintro e w1 ⟨he, hb⟩
    rw [HQ.out] at he; subst he
    go_wp2_with (at_make; refine wpList_make_full _ rfl _ _ 140 rfl w1.heap.size 4 i0 (.bool false) 1 Tryz.underlying140 hi hz0 hz1 _ _ _ _ n rfl rfl rfl rfl ?b2 ?b3 (Nat.le_refl _) ?_)
    case b2 => rw [hz2]; omega
    case b3 => unfold maxLen; omega
    intro w0 hown0 hgrow0
    clear hi hz0 hz1 hz2
    have hb0 : Grew w1 w0 := (Grew.refl _).grown hgrow0 (fun k h => by cases h)
    have hwn : IntKind.i64.wrap ((n : Int) - 1) = (n : Int) - 1 := by simp [IntKind.wrap, IntKind.bits, IntKind.signed]; omega
    go_wp2
    go_loopw [4] (fun i wr => ∃ (k : Nat) (bs : List Bool), k ≤ n ∧ ((k = 0 ∧ i = .int .i64 (-1)) ∨ (∃ p : Nat, k = p + 1 ∧ i = .int .i64 p)) ∧ Hid (negR xs k bs = negL xs) ∧ Hid (wr.ownsRow w1.heap.size 4 1 (.slice (some ⟨w1.heap.size, 0, none⟩) n n) n (bools bs)) ∧ Grew w1 wr) (fun i _ => (intOf i + 1).toNat)
    case atStart =>
      refine ⟨n, List.replicate n false, Nat.le_refl _, idx_down n, Lib.hid ?_, Lib.hid (by simpa [Value.cells, toList_madeCells_one] using hown0), hb0⟩
      unfold negL; rw [HQ.out, if_pos rfl, HX.out]
    case round =>
      obtain ⟨k, bs, hk, hi, hneg, hown, hbel⟩ := hrel
      rcases hi with ⟨rfl, rfl⟩ | ⟨p, rfl, rfl⟩
      · go_wp2
        go_ret
        have h1 : bs = negL xs := hneg.out
        have h2 : bs.length = n := by have := hown.out.1; simpa using this
        refine ⟨_, rfl, ?_, hb.trans hbel⟩
        rw [← h1, h2]
        exact ownsRow_base hown.out hb.size
      · have hlt : p < n := hk
        have hwp : IntKind.i64.wrap ((p : Int) - 1) = (p : Int) - 1 := by simp [IntKind.wrap, IntKind.bits, IntKind.signed]; omega
        obtain ⟨b1, o1, x, rfl, hxp, c0, c1, c2, c3, c4, c5, c6⟩ := (hra.grew (hb.trans hbel)).getN hlt
        have hnode := Lib.hid (qry_node HQ.out hxp.out)
        have hstep := Lib.hid ((negR_step (bs := bs) hxp.out).symm.trans hneg.out)
        obtain ⟨bi, hbi, hci⟩ := own_one hown.out hlt
        have hg1 := (hown.out.lt w1.heap.size rfl).2
        obtain ⟨op, l, r, nm, v⟩ := x
        simp only at c0 c1 c2 c3 c4 c5 c6
        by_cases h5 : op = 5
        · subst h5
          obtain ⟨j, rfl, hj⟩ := nod5 (by omega) hnode.out
          obtain ⟨bj, hbj, hcj⟩ := own_one hown.out (show j < n by omega)
          have hjn : (j : Int) < (n : Int) := by omega
          have e2 := hown.out.frozenAt j
          have hst := Lib.hid (store_one hown.out j true)
          have hcb : bi = false ∨ bi = true := by cases bi <;> simp
          rcases hcb with rfl | rfl
          all_goals go_wp2
          all_goals go_roundw
          all_goals first
            | (refine ⟨p, negS bs p ⟨5, j, r, nm, v⟩, by omega, idx_down p, hstep, Lib.hid ?_, hbel.setCell (p := ⟨w1.heap.size, j, none⟩) (Nat.le_refl _) _⟩
               unfold negS; rw [if_pos rfl]; exact hst.out)
            | (simp [intOf]; done)
        · by_cases h67 : op = 6 ∨ op = 7
          · obtain ⟨j, i2, rfl, rfl, hj, hi2⟩ := nod67 h67 (by omega) hnode.out
            have hjn : (j : Int) < (n : Int) := by omega
            have hin : (i2 : Int) < (n : Int) := by omega
            obtain ⟨bj, hbj, ej⟩ := own_one hown.out (show j < n by omega)
            have hO2 := store_one hown.out j bi
            obtain ⟨bk, hbk, ek⟩ := own_one hO2 (show i2 < n by omega)
            have ek2 := grew_cell (Grew.refl _).drew ek
            have hfk2 := (ownsRow_grew hO2 (Grew.refl _).drew).frozenAt i2
            have hfj := hown.out.frozenAt j
            have hfk := hO2.frozenAt i2
            have hst := Lib.hid (ownsRow_grew (store_one hO2 i2 bi) (Grew.refl _).drew)
            have hg3 := ((hbel.setCell (p := ⟨w1.heap.size, j, none⟩) (Nat.le_refl _) (.bool bi)).setCell (p := ⟨w1.heap.size, i2, none⟩) (Nat.le_refl _) (.bool bi)).drew
            clear hO2
            have hcb : bi = false ∨ bi = true := by cases bi <;> simp
            rcases h67 with rfl | rfl
            all_goals rcases hcb with rfl | rfl
            all_goals go_wp2
            all_goals go_region
            all_goals go_wp2
            all_goals go_roundw
            all_goals first
              | (refine ⟨p, negS bs p ⟨_, j, i2, nm, v⟩, by omega, idx_down p, hstep, Lib.hid ?_, hg3⟩
                 unfold negS; rw [if_neg (by simp), if_pos (by simp), getD_of hbi.out]; exact hst.out)
              | (simp [intOf]; done)
          · have h50 : (op == 5) = false := by simp [h5]
            have h60 : (op == 6) = false := by simp; omega
            have h70 : (op == 7) = false := by simp; omega
            have hcb : bi = false ∨ bi = true := by cases bi <;> simp
            rcases hcb with rfl | rfl
            all_goals go_wp2
            all_goals go_roundw
            all_goals first
              | (refine ⟨p, negS bs p ⟨op, l, r, nm, v⟩, by omega, idx_down p, hstep, Lib.hid ?_, hbel⟩
                 unfold negS; rw [if_neg h5, if_neg h67]; exact hown.out)
              | (simp [intOf]; done)
end Go.Proofs.YtemikjbfjhebnaaGreat
namespace Go.Proofs.YtemikjbfjhebnaaGreat
open Go.RowKit Go.Sort
set_option linter.unusedVariables false
def depsZ (zs : List (N × Bool)) (u : Bool) : List ByteArray := (zs.filter fun p => inB p.1.op 8 9 && (p.2 == u)).map fun p => p.1.name
theorem depsZ_yes {zs : List (N × Bool)} {u : Bool} {k : Nat} {p : N × Bool} (h : zs[k]? = some p) (h1 : inB p.1.op 8 9 = true) (h2 : (p.2 == u) = true) : depsZ (zs.take (k + 1)) u = depsZ (zs.take k) u ++ [p.1.name] := by
  rw [take_snoc h]; unfold depsZ; rw [List.filter_append, List.map_append]; simp [h1, h2]
theorem depsZ_no {zs : List (N × Bool)} {u : Bool} {k : Nat} {p : N × Bool} (h : zs[k]? = some p) (hh : inB p.1.op 8 9 = false ∨ (p.2 == u) = false) : depsZ (zs.take (k + 1)) u = depsZ (zs.take k) u := by
  rw [take_snoc h]; unfold depsZ; rw [List.filter_append, List.map_append]
  rcases hh with hh | hh
  · simp [hh]
  · simp [hh]
theorem depsZ_le (zs : List (N × Bool)) (u : Bool) : (depsZ zs u).length ≤ zs.length := by
  unfold depsZ; rw [List.length_map]; exact List.length_filter_le _ _
theorem depsZ_tk (zs : List (N × Bool)) (u : Bool) (k : Nat) : (depsZ (zs.take k) u).length ≤ k := Nat.le_trans (depsZ_le _ _) (by rw [List.length_take]; omega)
noncomputable def zipN (xs : List N) : List (N × Bool) := xs.zip (negL xs)
theorem zipN_len (xs : List N) : (zipN xs).length = (negL xs).length := by
  unfold zipN; rw [List.length_zip]; have := negL_le xs; omega
theorem zipN_get {xs : List N} {k : Nat} {x : N} {b : Bool} (h1 : xs[k]? = some x) (h2 : (negL xs)[k]? = some b) : (zipN xs)[k]? = some (x, b) := by
  unfold zipN; exact List.getElem?_zip_eq_some.2 ⟨h1, h2⟩
noncomputable def depsL (xs : List N) (u : Bool) : List ByteArray := so (depsZ (zipN xs) u)
theorem depsL_le (xs : List N) (u : Bool) : (depsL xs u).length ≤ xs.length :=
  Nat.le_trans (so_len _) (Nat.le_trans (depsZ_le _ _) (by rw [zipN_len]; exact negL_le xs))
theorem Rd.rda {w : World} {a : Option Addr} {k n c : Nat} {cs : List Value} (h : Rd w (.slice a n c) k n cs) : RdA w a k n cs := by
  obtain ⟨a', c', h1, _, h2⟩ := h
  cases h1
  exact h2
set_option maxRecDepth 100000 in
set_option maxHeartbeats 1000000 in
theorem l12Names (va : Value) (u : Bool) (n : Nat) (xs : List N) (w : World) (ha : Rd w va 7 n (rows N.c xs)) (hx : n ≤ 4000000) (hz : szAll N.sz xs ≤ 4000000) :
    Calls Tryz.prog 117 #[va, .bool u] w fun e w' => ∃ v, e = .returned v ∧ w'.ownsRow w.heap.size 9 1 v (depsL xs u).length (strs (depsL xs u)) ∧ Grew w w' := by
  have HA := Lib.hid ha
  obtain ⟨a, ca, rfl, hca, hra⟩ := ha
  have HX := Lib.hid (hra.len_rows N.len (by decide))
  obtain ⟨i0, hi, hz0, hz1, hz2⟩ := info_parts Tryz.infoString
  go_enter Tryz.func117, Tryz.ntmps117
  go_wp2_with fail
  refine (specNegatedNodes _ n xs _ (HA.out.grew ((Grew.refl w).alloc (.cells #[] 9))) hx hz).mono ?_
  rintro e w1 ⟨vb, rfl, hnb, hb1⟩
  have HNB := Lib.hid hnb
  obtain ⟨na, nc, rfl⟩ := own_slice hnb
  clear hnb
  have hml := negL_le xs
  rw [HX.out] at hml
  generalize hm : (negL xs).length = m at hml HNB ⊢
  have HM := Lib.hid hm
  clear hm
  have HZ := Lib.hid ((zipN_len xs).trans HM.out)
  have hbw : Grew w w1 := ((Grew.refl w).alloc (.cells #[] 9)).trans hb1
  have hst : RdS w1 (.slice (some ⟨w.heap.size, 0, none⟩) 0 0) (so (depsZ ((zipN xs).take 0) u)) := (rds_of_own (xs := []) (lit_own w 9 1) (by simp)).grew hb1
  have HST := Lib.hid hst
  clear hst
  go_wp2
  go_loopw [5, 7] (fun v i wr => ∃ k : Nat, k ≤ m ∧ i = .int .i64 k ∧ Hid (RdS wr v (so (depsZ ((zipN xs).take k) u))) ∧ Grew w1 wr) (fun _ i _ => m - (intOf i).toNat)
  case atStart => exact ⟨0, Nat.zero_le _, rfl, HST, Grew.refl _⟩
  case round =>
    obtain ⟨k, hk, rfl, hrd, hg2⟩ := hrel
    have hbel := hbw.trans hg2
    have hnl := depsZ_tk (zipN xs) u k
    by_cases hlt : k < m
    · obtain ⟨b1, o1, x, rfl, hxk, c0, c1, c2, c3, c4, c5, c6⟩ := (hra.grew hbel).getN (show k < n by omega)
      obtain ⟨nb, no, b, hnab, hbk, cb⟩ := ((rd_of_own HNB.out).rda.grew hg2).one hlt
      cases hnab
      have HZK := Lib.hid (zipN_get hxk.out hbk.out)
      obtain ⟨v, hv⟩ : ∃ v, inB x.op 8 9 = v := ⟨_, rfl⟩
      obtain ⟨t, ht⟩ : ∃ t, (b == u) = t := ⟨_, rfl⟩
      have HV := Lib.hid hv
      have HT := Lib.hid ht
      clear hv
      have hkn : (k : Int) < (n : Int) := by omega
      have hcs : v = true ∨ v = false := by cases v <;> simp
      have hct : t = true ∨ t = false := by cases t <;> simp
      have hsl : (so (depsZ ((zipN xs).take k) u)).length ≤ 4000000 := by have := so_len (depsZ ((zipN xs).take k) u); omega
      rcases hcs with rfl | rfl
      · rcases hct with rfl | rfl
        · go_wp2_with (first | (go_at_call 24; refine (l01In _ 8 9 _).mono ?_; rintro e w2 ⟨he, rfl⟩; rw [HV.out] at he; subst he) | (go_at_call 125; refine (l04Put _ _ x.name _ hrd.out hsl).mono ?_; rintro e w3 ⟨v2, rfl, hrd2, hb2⟩; have HR2 := Lib.hid hrd2; clear hrd2))
          go_roundw
          case rel =>
            refine ⟨k + 1, by omega, by go_num, Lib.hid ?_, hg2.trans hb2⟩
            rw [depsZ_yes HZK.out HV.out HT.out, so_snoc]; exact HR2.out
          case measure => simp [intOf]; omega
        · go_wp2_with (go_at_call 24; refine (l01In _ 8 9 _).mono ?_; rintro e w2 ⟨he, rfl⟩; rw [HV.out] at he; subst he)
          go_roundw
          case rel =>
            refine ⟨k + 1, by omega, by go_num, Lib.hid ?_, hg2⟩
            rw [depsZ_no HZK.out (.inr HT.out)]; exact hrd.out
          case measure => simp [intOf]; omega
      · clear ht
        go_wp2_with (go_at_call 24; refine (l01In _ 8 9 _).mono ?_; rintro e w2 ⟨he, rfl⟩; rw [HV.out] at he; subst he)
        go_roundw
        case rel =>
          refine ⟨k + 1, by omega, by go_num, Lib.hid ?_, hg2⟩
          rw [depsZ_no HZK.out (.inl HV.out)]; exact hrd.out
        case measure => simp [intOf]; omega
    · obtain rfl : k = m := by omega
      have h1 := hrd.out
      rw [take_all HZ.out] at h1
      have hql : (depsL xs u).length ≤ 4000000 := by have := depsL_le xs u; have := HX.out; omega
      obtain ⟨ad, c, rfl, hc, hr⟩ := h1
      have HR := Lib.hid hr
      clear hr hrd
      generalize hL : (so (depsZ (zipN xs) u)).length = L at hc HR
      have hL2 : (depsL xs u).length = L := hL
      rw [hL2] at hql
      have HL := Lib.hid hL2
      clear hL hL2
      go_wp2_with (at_builtin; refine wpList_append_own _ rfl _ _ 100 rfl wr.heap.size 9 i0 (.string ⟨#[]⟩) 1 16 Tryz.underlying100 hi hz0 hz1 hz2 rfl (by decide) _ 0 [] rfl (lit_own wr 9 1) _ L _ (strs (depsL xs u)) rfl (by rw [List.length_map, HL.out, Nat.mul_one]) (rd_news HR.out ((Grew.refl _).alloc _)) (one_strs _) (by unfold maxLen; omega) (by omega) (by simp) ?_)
      intro v' w' hown' hgr _
      go_wp2
      go_ret
      refine ⟨_, rfl, ?_, (hbel.alloc _).grown hgr (fun k h => by cases h; exact hbel.size)⟩
      rw [HL.out]
      exact ownsRow_base (by simpa using hown') hbel.size
set_option maxRecDepth 100000 in
set_option maxHeartbeats 1000000 in
theorem depsBelow (va : Value) (u : Bool) (n : Nat) (xs : List N) (w : World) (ha : Rd w va 7 n (rows N.c xs)) (hx : n ≤ 4000000) (hz : szAll N.sz xs ≤ 4000000) :
    Calls Tryz.prog 121 #[va, .bool u] w fun e w' => ∃ v, e = .returned v ∧ w'.ownsRow w.heap.size 9 1 v (depsL xs u).length (strs (depsL xs u)) ∧ Grew w w' := by
  have HA := Lib.hid ha
  obtain ⟨a, ca, rfl, hca, hra⟩ := ha
  have HX := Lib.hid (hra.len_rows N.len (by decide))
  obtain ⟨i0, hi, hz0, hz1, hz2⟩ := info_parts Tryz.infoString
  go_enter Tryz.func121, Tryz.ntmps121
  go_wp2_with fail
  refine (implNegatedNodes _ n xs _ (HA.out.grew ((Grew.refl w).alloc (.cells #[] 9))) hx hz).mono ?_
  rintro e w1 ⟨vb, rfl, hnb, hb1⟩
  have HNB := Lib.hid hnb
  obtain ⟨na, nc, rfl⟩ := own_slice hnb
  clear hnb
  have hml := negL_le xs
  rw [HX.out] at hml
  generalize hm : (negL xs).length = m at hml HNB ⊢
  have HM := Lib.hid hm
  clear hm
  have HZ := Lib.hid ((zipN_len xs).trans HM.out)
  have hbw : Grew w w1 := ((Grew.refl w).alloc (.cells #[] 9)).trans hb1
  have HST := Lib.hid (show w1.ownsRow w.heap.size 9 1 (.slice (some ⟨w.heap.size, 0, none⟩) 0 0) (depsZ ((zipN xs).take 0) u).length (strs (depsZ ((zipN xs).take 0) u)) from ownsRow_grew (lit_own w 9 1) hb1)
  have HNW := Lib.hid (ownsRow_base HNB.out ((Grew.refl w).alloc (.cells #[] 9)).size)
  go_wp2
  go_loopw [5, 12] (fun v i wr => ∃ k : Nat, k ≤ m ∧ i = .int .i64 k ∧ Hid (wr.ownsRow w.heap.size 9 1 v (depsZ ((zipN xs).take k) u).length (strs (depsZ ((zipN xs).take k) u))) ∧ Hid (wr.ownsRow w.heap.size 4 1 (.slice na m nc) m (bools (negL xs))) ∧ Grew w wr) (fun _ i _ => m - (intOf i).toNat)
  case atStart => exact ⟨0, Nat.zero_le _, rfl, HST, HNW, hbw⟩
  case round =>
    obtain ⟨k, hk, rfl, hown, hnw, hbel⟩ := hrel
    have hnl := depsZ_tk (zipN xs) u k
    by_cases hlt : k < m
    · obtain ⟨b1, o1, x, rfl, hxk, c0, c1, c2, c3, c4, c5, c6⟩ := (hra.grew hbel).getN (show k < n by omega)
      obtain ⟨nb, no, b, hnab, hbk, cb⟩ := (rd_of_own hnw.out).rda.one hlt
      cases hnab
      have HZK := Lib.hid (zipN_get hxk.out hbk.out)
      obtain ⟨v, hv⟩ : ∃ v, inB x.op 8 9 = v := ⟨_, rfl⟩
      obtain ⟨t, ht⟩ : ∃ t, (b == u) = t := ⟨_, rfl⟩
      have HV := Lib.hid hv
      have HT := Lib.hid ht
      clear hv
      have hkn : (k : Int) < (n : Int) := by omega
      have hcs : v = true ∨ v = false := by cases v <;> simp
      have hct : t = true ∨ t = false := by cases t <;> simp
      obtain ⟨op, l, r, nm, vv⟩ := x
      simp only at c0 c1 c2 c3 c4 c5 c6
      rcases hcs with rfl | rfl
      · rcases hct with rfl | rfl
        · go_wp2_with (first | (go_at_call 131; refine (namesDir ⟨op, l, r, nm, vv⟩ _).mono ?_; rintro e w2 ⟨he, hb⟩; rw [HV.out] at he; subst he; have c9 := grew_cell hb c3) | (at_builtin; refine wpList_append_own _ rfl _ _ 100 rfl w.heap.size 9 i0 (.string ⟨#[]⟩) 1 16 Tryz.underlying100 hi hz0 hz1 hz2 rfl (by decide) _ _ _ rfl ((ownsRow_grew hown.out hb).alloc _) ⟨_, 0, none⟩ 1 1 [.string nm] rfl rfl (cell_one_new _ _ _) (fun x hx => by simp at hx; subst hx; rfl) (by unfold maxLen; omega) (by omega) (by have := (hbel.trans hb).size; simp; omega) ?_; intro v' w' hown' hgr _))
          go_roundw
          case rel =>
            refine ⟨k + 1, by omega, by go_num, Lib.hid ?_, Lib.hid (own_grown (own_of ((ownsRow_grew hnw.out hb).alloc _)) ((ownsRow_grew hown.out hb).alloc _) (by decide) hgr).1, ((hbel.trans hb).alloc _).grown hgr (fun g h => (hown.out.lt g h).1)⟩
            rw [depsZ_yes HZK.out HV.out HT.out]; simpa using hown'
          case measure => simp [intOf]; omega
        · go_wp2_with (go_at_call 131; refine (namesDir ⟨op, l, r, nm, vv⟩ _).mono ?_; rintro e w2 ⟨he, hb⟩; rw [HV.out] at he; subst he)
          go_roundw
          case rel =>
            refine ⟨k + 1, by omega, by go_num, Lib.hid ?_, Lib.hid (ownsRow_grew hnw.out hb), hbel.trans hb⟩
            rw [depsZ_no HZK.out (.inr HT.out)]; exact ownsRow_grew hown.out hb
          case measure => simp [intOf]; omega
      · clear ht
        go_wp2_with (go_at_call 131; refine (namesDir ⟨op, l, r, nm, vv⟩ _).mono ?_; rintro e w2 ⟨he, hb⟩; rw [HV.out] at he; subst he)
        go_roundw
        case rel =>
          refine ⟨k + 1, by omega, by go_num, Lib.hid ?_, Lib.hid (ownsRow_grew hnw.out hb), hbel.trans hb⟩
          rw [depsZ_no HZK.out (.inl HV.out)]; exact ownsRow_grew hown.out hb
        case measure => simp [intOf]; omega
    · obtain rfl : k = m := by omega
      have h1 := hown.out
      rw [take_all HZ.out] at h1
      have H1 := Lib.hid h1
      have hql : (depsZ (zipN xs) u).length ≤ 4000000 := by have := depsZ_le (zipN xs) u; have := HZ.out; omega
      clear h1 hown
      go_wp2_with (go_at_call 132; refine (sortedOnce _ _ _ _ (rd_of_own H1.out) hql).mono ?_; rintro e w2 ⟨v2, rfl, hown2, hb2⟩)
      go_ret
      exact ⟨_, rfl, ownsRow_base hown2 hbel.size, hbel.trans hb2⟩
set_option maxRecDepth 100000 in
set_option maxHeartbeats 1000000 in
theorem specNegativeDeps (va : Value) (n : Nat) (xs : List N) (w : World) (ha : Rd w va 7 n (rows N.c xs)) (hx : n ≤ 4000000) (hz : szAll N.sz xs ≤ 4000000) :
    Calls Tryz.prog 103 #[va] w fun e w' => ∃ v, e = .returned v ∧ w'.ownsRow w.heap.size 9 1 v (depsL xs true).length (strs (depsL xs true)) ∧ Grew w w' := by
  have HA := Lib.hid ha
  obtain ⟨a, ca, rfl, hca, hra⟩ := ha
  clear hra
  go_enter Tryz.func103, Tryz.ntmps103
  go_wp2_with (go_at_call 117; refine (l12Names _ true n xs _ HA.out hx hz).mono ?_; rintro e w1 ⟨v, rfl, hown, hb⟩)
  go_ret
  exact ⟨_, rfl, hown, hb⟩
set_option maxRecDepth 100000 in
set_option maxHeartbeats 1000000 in
theorem implNegativeDeps (va : Value) (n : Nat) (xs : List N) (w : World) (ha : Rd w va 7 n (rows N.c xs)) (hx : n ≤ 4000000) (hz : szAll N.sz xs ≤ 4000000) :
    Calls Tryz.prog 109 #[va] w fun e w' => ∃ v, e = .returned v ∧ w'.ownsRow w.heap.size 9 1 v (depsL xs true).length (strs (depsL xs true)) ∧ Grew w w' := by
  have HA := Lib.hid ha
  obtain ⟨a, ca, rfl, hca, hra⟩ := ha
  clear hra
  go_enter Tryz.func109, Tryz.ntmps109
  go_wp2_with (go_at_call 121; refine (depsBelow _ true n xs _ HA.out hx hz).mono ?_; rintro e w1 ⟨v, rfl, hown, hb⟩)
  go_ret
  exact ⟨_, rfl, hown, hb⟩
set_option maxRecDepth 100000 in
set_option maxHeartbeats 1000000 in
theorem specPositiveDeps (va : Value) (n : Nat) (xs : List N) (w : World) (ha : Rd w va 7 n (rows N.c xs)) (hx : n ≤ 4000000) (hz : szAll N.sz xs ≤ 4000000) :
    Calls Tryz.prog 101 #[va] w fun e w' => ∃ v, e = .returned v ∧ w'.ownsRow w.heap.size 9 1 v (depsL xs false).length (strs (depsL xs false)) ∧ Grew w w' := by
  have HA := Lib.hid ha
  obtain ⟨a, ca, rfl, hca, hra⟩ := ha
  clear hra
  go_enter Tryz.func101, Tryz.ntmps101
  go_wp2_with (go_at_call 117; refine (l12Names _ false n xs _ HA.out hx hz).mono ?_; rintro e w1 ⟨v, rfl, hown, hb⟩)
  go_ret
  exact ⟨_, rfl, hown, hb⟩
set_option maxRecDepth 100000 in
set_option maxHeartbeats 1000000 in
theorem implPositiveDeps (va : Value) (n : Nat) (xs : List N) (w : World) (ha : Rd w va 7 n (rows N.c xs)) (hx : n ≤ 4000000) (hz : szAll N.sz xs ≤ 4000000) :
    Calls Tryz.prog 108 #[va] w fun e w' => ∃ v, e = .returned v ∧ w'.ownsRow w.heap.size 9 1 v (depsL xs false).length (strs (depsL xs false)) ∧ Grew w w' := by
  have HA := Lib.hid ha
  obtain ⟨a, ca, rfl, hca, hra⟩ := ha
  clear hra
  go_enter Tryz.func108, Tryz.ntmps108
  go_wp2_with (go_at_call 121; refine (depsBelow _ false n xs _ HA.out hx hz).mono ?_; rintro e w1 ⟨v, rfl, hown, hb⟩)
  go_ret
  exact ⟨_, rfl, hown, hb⟩
end Go.Proofs.YtemikjbfjhebnaaGreat
