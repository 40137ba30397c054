/- Texts H5, S, N3, H7, V3, as far as they are needed. -/
import Derived.Test.YtejgpghcahinhaaGreatVi2
import Derived.Test.YtejgpghcahinhaaGreatVi0
namespace Go.Proofs.YtejgpghcahinhaaGreat
open Go.RowKit
set_option linter.unusedVariables false
def mkL {α : Type} (mk : Int → α → α) (cnt : α → Int) : Int → List α → List α
  | _, [] => []
  | c, x :: xs => mk c x :: mkL mk cnt (c + cnt x) xs
def cntL {α : Type} (cnt : α → Int) (xs : List α) : Int := (xs.map cnt).sum
theorem mkL_length {α : Type} (mk : Int → α → α) (cnt : α → Int) : ∀ (c : Int) (xs : List α), (mkL mk cnt c xs).length = xs.length := by
  intro c xs
  induction xs generalizing c with
  | nil => rfl
  | cons x xs ih => simp [mkL, ih]
theorem cntL_snoc {α : Type} (cnt : α → Int) (xs : List α) (x : α) : cntL cnt (xs ++ [x]) = cntL cnt xs + cnt x := by simp [cntL]
theorem mkL_snoc {α : Type} (mk : Int → α → α) (cnt : α → Int) : ∀ (c : Int) (xs : List α) (x : α), mkL mk cnt c (xs ++ [x]) = mkL mk cnt c xs ++ [mk (c + cntL cnt xs) x] := by
  intro c xs
  induction xs generalizing c with
  | nil => intro x; simp [mkL, cntL]
  | cons y ys ih => intro x; simp only [List.cons_append, mkL, ih, cntL, List.map_cons, List.sum_cons, Int.add_assoc]
theorem mkL_get {α : Type} (mk : Int → α → α) (cnt : α → Int) : ∀ (c : Int) (xs : List α) (j : Nat), (mkL mk cnt c xs)[j]? = (xs[j]?).map (mk (c + cntL cnt (xs.take j))) := by
  intro c xs
  induction xs generalizing c with
  | nil => intro j; simp [mkL]
  | cons y ys ih =>
    intro j
    cases j with
    | zero => simp [mkL, cntL]
    | succ j => simp only [mkL, List.getElem?_cons_succ, ih, List.take_succ_cons, cntL, List.map_cons, List.sum_cons, Int.add_assoc]
theorem cntL_le {α : Type} (cnt : α → Int) (h0 : ∀ x, 0 ≤ cnt x) : ∀ (xs : List α) (k : Nat), 0 ≤ cntL cnt (xs.take k) ∧ cntL cnt (xs.take k) ≤ cntL cnt xs := by
  intro xs
  induction xs with
  | nil => intro k; simp [cntL]
  | cons y ys ih =>
    intro k
    have h1 := (ih ys.length).1
    rw [List.take_length] at h1
    cases k with
    | zero => have := h0 y; simp only [List.take_zero, cntL, List.map_nil, List.sum_nil, List.map_cons, List.sum_cons] at h1 ⊢; omega
    | succ k => have := ih k; have := h0 y; simp only [List.take_succ_cons, cntL, List.map_cons, List.sum_cons] at *; omega
theorem All2.upd {α β : Type} {R S : α → β → Prop} {xs : List α} {ys : List β} (h : All2 R xs ys) (k : Nat) (x : α) (y : β) (hs : ∀ (i : Nat) a b, i ≠ k → xs[i]? = some a → ys[i]? = some b → R a b → S a b) (hr : S x y) : All2 S (xs.set k x) (ys.set k y) := by
  refine ⟨by simp [h.1], fun j a b ha hb => ?_⟩
  by_cases hij : k = j
  · subst hij
    have hl := (List.getElem?_eq_some_iff.1 ha).1
    simp at hl
    rw [List.getElem?_set_self hl] at ha
    rw [List.getElem?_set_self (by rw [← h.1]; exact hl)] at hb
    simp at ha hb; subst ha; subst hb; exact hr
  · rw [List.getElem?_set_ne hij] at ha hb
    exact hs j a b (fun e => hij e.symm) ha hb (h.2 j a b ha hb)
theorem Dis.flat {β : Type} {subs : β → List Value} : ∀ {ps : List β}, Dis (ps.flatMap subs) → ∀ (i j : Nat) (p q : β) (u v : Value) (b : Nat), i ≠ j → ps[i]? = some p → ps[j]? = some q → u ∈ subs p → v ∈ subs q → u.ownBlock = some b → v.ownBlock ≠ some b := by
  intro ps
  induction ps with
  | nil => intro _ i j p q u v b _ h; simp at h
  | cons r rs ih =>
    intro h i j p q u v b hij hp hq hu hv hb
    rw [List.flatMap_cons] at h
    cases i with
    | zero =>
      cases j with
      | zero => exact absurd rfl hij
      | succ j =>
        simp at hp hq; subst hp
        exact Dis.two h hu (List.mem_flatMap.2 ⟨q, List.mem_of_getElem? hq, hv⟩) hb
    | succ i =>
      cases j with
      | zero =>
        simp at hp hq; subst hq
        intro hvb
        exact Dis.two h hv (List.mem_flatMap.2 ⟨p, List.mem_of_getElem? hp, hu⟩) hvb hb
      | succ j => exact ih h.right i j p q u v b (by omega) (by simpa using hp) (by simpa using hq) hu hv hb
theorem flatMap_set_same {β : Type} {subs : β → List Value} : ∀ (ps : List β) (k : Nat) (p q : β), ps[k]? = some p → subs q = subs p → (ps.set k q).flatMap subs = ps.flatMap subs := by
  intro ps
  induction ps with
  | nil => intro k p q h; simp at h
  | cons r rs ih =>
    intro k p q h hs
    cases k with
    | zero => simp at h; subst h; simp [hs]
    | succ k => simp only [List.set_cons_succ, List.flatMap_cons]; rw [ih k p q (by simpa using h) hs]
theorem Own.tight {w : World} {lo hi : Nat} {e : TypeId} {k n : Nat} {v : Value} {cs : List Value} (h : Own w lo hi e k v n cs) :
    ∃ lo' hi', lo ≤ lo' ∧ hi' ≤ hi ∧ Own w lo' hi' e k v n cs ∧ ∀ b, lo' ≤ b → b < hi' → v.ownBlock = some b := by
  rcases h.cases with ⟨rfl, rfl, rfl⟩ | ⟨g, cap, rfl, hg1, hg2, hc, hown⟩
  · by_cases hl : hi ≤ lo
    · exact ⟨lo, hi, Nat.le_refl _, Nat.le_refl _, h, fun b h1 h2 => by omega⟩
    · exact ⟨lo, lo, Nat.le_refl _, by omega, ⟨h.1, fun b hb => by cases hb⟩, fun b h1 h2 => by omega⟩
  · refine ⟨g, g + 1, hg1, hg2, ⟨hown, fun b hb => ?_⟩, fun b h1 h2 => ?_⟩
    · simp [Value.ownBlock] at hb; omega
    · have : b = g := by omega
      subst this; rfl
theorem Own.touch' {w w' : World} {lo hi a b : Nat} {e : TypeId} {k n : Nat} {v : Value} {cs : List Value} (h : Own w lo hi e k v n cs) (ht : Touch a b w w') (hd : ∀ c, v.ownBlock = some c → c < a ∨ b ≤ c) : Own w' lo hi e k v n cs := by
  refine ⟨?_, h.2⟩
  obtain ⟨hl, ⟨rfl, rfl⟩ | ⟨g, cap, cur, rfl, hg, hh, hr⟩⟩ := h.1
  · exact ⟨hl, .inl ⟨rfl, rfl⟩⟩
  · have hb := h.1.lt g rfl
    exact ⟨hl, .inr ⟨g, cap, cur, rfl, hg, (ht.block g hb.2 (hd g rfl)).trans hh, hr⟩⟩
theorem ownsRow_touch {w w' : World} {base a b : Nat} {e : TypeId} {k n g cap : Nat} {cs : List Value} (h : w.ownsRow base e k (.slice (some ⟨g, 0, none⟩) n cap) n cs) (ht : Touch a b w w') (hd : g < a ∨ b ≤ g) : w'.ownsRow base e k (.slice (some ⟨g, 0, none⟩) n cap) n cs :=
  (Own.touch' (own_of h) ht (fun c hc => by simp [Value.ownBlock] at hc; omega)).1
theorem touch_cell {w w' : World} {a b : Nat} (ht : Touch a b w w') {p : Addr} {u : Value} (hd : p.block < a ∨ b ≤ p.block) (h : w.cell? p = some u) : w'.cell? p = some u := by
  rw [World.cell?_of_block (w := w) (w' := w') (ht.block p.block (lt_of_cell h) hd)]; exact h
def Dr.ok0 (x : Dr) : Prop := (x.name.size ≤ maxLen) ∧ (x.query.length ≤ maxLen) ∧ (∀ y, y ∈ x.query → N.ok0 y)
def Dr.sz (x : Dr) : Nat := x.name.size + (x.query.length + szAll N.sz x.query)
set_option maxHeartbeats 1000000 in
theorem szDir (x : Dr) (p : P2) (l : Int) (w : World) (h : Dr.R w x p) (ho : x.ok0) (hl : 0 ≤ l) (hl2 : l ≤ 4000000) :
    Calls Tryz.prog 131 #[p.v, .int .i64 l] w fun e w' => ∃ r : Int, e = .returned (.int .i64 r) ∧ Left l x.sz r ∧ Grew w w' := by
  obtain ⟨p_name, p_q⟩ := p
  obtain ⟨h_name, ⟨a_q, ca_q, hq_q, hca_q, hra_q⟩⟩ := h
  simp only at h_name hq_q
  subst hq_q
  subst h_name
  have o_name := ho.1
  have o_q := Lib.hid (ho.2.1)
  have oo_q := Lib.hid (ho.2.2)
  clear ho
  unfold maxLen at o_name
  by_cases h0 : l - (x.name.size : Int) < 0
  · go_enter Tryz.func131, Tryz.ntmps131
    go_wp2
    go_ret
    exact ⟨_, rfl, .inl rfl, (Grew.refl _).alloc _⟩
  · go_enter Tryz.func131, Tryz.ntmps131
    go_wp2_with fail
    refine (szNodeS _ _ x.query _ _ ⟨a_q, ca_q, rfl, hca_q, hra_q.grew ((Grew.refl w).alloc _)⟩ o_q.out oo_q.out (by omega) (by omega)).mono ?_
    rintro e w1 ⟨r1, rfl, h1, gs1⟩
    rcases h1 with rfl | ⟨h1, hnn1⟩
    · go_wp2
      go_ret
      exact ⟨_, rfl, .inl rfl, ((Grew.refl w).alloc _).trans gs1⟩
    · have H1 := Lib.hid h1
      have hle1 : r1 ≤ 4000000 := by omega
      clear h1
      have gw1 : Grew w w1 := ((Grew.refl w).alloc _).trans gs1
      go_wp2
      go_ret
      exact ⟨_, rfl, .inr ⟨by unfold Dr.sz; have := H1.out; omega, hnn1⟩, gw1⟩
set_option maxRecDepth 100000 in
set_option maxHeartbeats 1000000 in
theorem szDirS (va : Value) (xs : List Dr) (l : Int) (w : World) (ha : RdDs w va xs) (hn : xs.length ≤ maxLen) (hok : ∀ x, x ∈ xs → x.ok0) (hl : 0 ≤ l) (hl2 : l ≤ 4000000) :
    Calls Tryz.prog 66 #[va, .int .i64 l] w fun e w' => ∃ r : Int, e = .returned (.int .i64 r) ∧ Left l (xs.length + szAll Dr.sz xs) r ∧ Grew w w' := by
  unfold maxLen at hn
  obtain ⟨qs, ⟨a, ca, rfl, hca, hra⟩, hall⟩ := ha
  have HO := Lib.hid hok
  have HA := Lib.hid hall
  clear hok hall
  generalize hnn : xs.length = n at *
  have HX := Lib.hid hnn
  clear hnn
  by_cases h0 : l - (n : Int) < 0
  · go_enter Tryz.func66, Tryz.ntmps66
    go_wp2
    go_ret
    exact ⟨_, rfl, .inl rfl, Grew.refl _⟩
  · go_enter Tryz.func66, Tryz.ntmps66
    go_wp2
    go_loopw [1, 5] (fun c i wr => ∃ (k : Nat) (r : Int), k ≤ n ∧ i = .int .i64 k ∧ c = .int .i64 r ∧ 0 ≤ r ∧ r ≤ l ∧ Hid (r = l - (n : Int) - szAll Dr.sz (xs.take k)) ∧ Grew w wr) (fun _ i _ => n - (intOf i).toNat)
    case atStart => exact ⟨0, _, Nat.zero_le _, rfl, rfl, by omega, by omega, Lib.hid (by simp [szAll]), Grew.refl _⟩
    case round =>
      obtain ⟨k, r, hk, rfl, rfl, hr0, hrl, hr, hbel⟩ := hrel
      by_cases hlt : k < n
      · obtain ⟨b1, o1, p, rfl, hpk, c0, c1⟩ := (hra.grew hbel).getP2 hlt
        obtain ⟨x, hxk, hxr⟩ := HA.out.get hpk.out
        have hxo := Lib.hid (HO.out x (List.mem_of_getElem? hxk.out))
        go_wp2_with fail
        refine (szDir x p r _ (hxr.grew hbel) hxo.out hr0 (by omega)).mono ?_
        rintro e w1 ⟨r1, rfl, h1, g1⟩
        rcases h1 with rfl | ⟨h1, h2⟩
        · go_wp2
          go_ret
          exact ⟨_, rfl, .inl rfl, hbel.trans g1⟩
        · have H1 := Lib.hid h1
          have hle : r1 ≤ l := by omega
          clear h1
          go_wp2
          go_roundw
          case rel => exact ⟨k + 1, r1, by omega, by go_num, rfl, h2, hle, Lib.hid (by rw [take_snoc hxk.out, szAll_snoc]; have := H1.out; have := hr.out; omega), hbel.trans g1⟩
          case measure => simp [intOf]; omega
      · obtain rfl : k = n := by omega
        go_wp2
        go_ret
        exact ⟨_, rfl, .inr ⟨by have := hr.out; rw [take_all HX.out] at this; omega, hr0⟩, hbel⟩
def cntDr (x : Dr) : Int := 1 + (((x.query.length : Nat) : Int) * 7)
theorem cntDr_0 (x : Dr) : 0 ≤ cntDr x := by unfold cntDr; omega
def mkDr1 (c : Int) (x : Dr) : Dr := ⟨mtext (c), ((List.range x.query.length).map fun (j : Nat) => mkN ((c + 1) + (j : Int) * 7))⟩
def mkDrs (c : Int) (xs : List Dr) : List Dr := mkL mkDr1 cntDr c xs
theorem Dr.O.touch' {w w' : World} {lo hi a b : Nat} {x : Dr} {p : P2} (h : Dr.O w lo hi x p) (ht : Touch a b w w') (hd : ∀ v c, v ∈ Dr.subs p → v.ownBlock = some c → c < a ∨ b ≤ c) : Dr.O w' lo hi x p := ⟨h.1, (h.2).touch' ht (fun c hc => hd _ c (by simp [Dr.subs]) hc)⟩
set_option maxRecDepth 100000 in
set_option maxHeartbeats 4000000 in
theorem markDirS (va : Value) (xs : List Dr) (k0 : Int) (w : World) (lo hi : Nat) (ha : OwnDrs w lo hi va xs) (hx : xs.length ≤ 4000000) (hs : ∀ x, x ∈ xs → x.small) (h0 : 0 ≤ k0) (h1 : k0 + cntL cntDr xs ≤ 3000000000000000) :
    Calls Tryz.prog 74 #[va, .int .i64 k0] w fun e w' => e = .returned (.int .i64 (k0 + cntL cntDr xs)) ∧ OwnDrs w' lo hi va (mkDrs k0 xs) ∧ Touch lo hi w w' := by
  obtain ⟨ps, hop, hall, hdis⟩ := ha
  rcases hop.cases with ⟨rfl, hn0, _⟩ | ⟨g, cap, rfl, hg1, hg2, hcap, hown⟩
  · have hxs : xs = [] := List.length_eq_zero_iff.1 hn0
    subst hxs
    have hp : ps = [] := List.length_eq_zero_iff.1 hall.1.symm
    subst hp
    go_enter Tryz.func74, Tryz.ntmps74
    go_wp2
    refine wp_loop_rounds 1 ?_
    rw [rounds_succ]
    go_wp2
    go_ret
    exact ⟨ret_int (by simp [cntL]), ⟨[], hop, All2.nil, hdis⟩, Touch.refl _ _ _⟩
  · have HS := Lib.hid hs
    have HOP := Lib.hid hop
    have HH := Lib.hid h1
    have hpl : Hid (ps.length = xs.length) := Lib.hid hall.1.symm
    clear hop hs h1
    generalize hnn : xs.length = n at *
    have HX := Lib.hid hnn
    clear hnn
    go_enter Tryz.func74, Tryz.ntmps74
    go_wp2
    go_loopw [1, 5] (fun c i wr => ∃ (k : Nat) (ps : List P2), k ≤ n ∧ i = .int .i64 k ∧ c = .int .i64 (k0 + cntL cntDr (xs.take k)) ∧ Touch lo hi w wr ∧ wr.ownsRow g 39 2 (.slice (some ⟨g, 0, none⟩) n cap) n (rows P2.c ps) ∧ All2 (Dr.O wr lo hi) (mkDrs k0 (xs.take k) ++ xs.drop k) ps ∧ Dis (.slice (some ⟨g, 0, none⟩) n cap :: ps.flatMap Dr.subs)) (fun _ i _ => n - (intOf i).toNat)
    case atStart => exact ⟨0, ps, Nat.zero_le _, rfl, by simp [cntL], Touch.refl _ _ _, hown, by simpa [mkDrs, mkL] using hall, hdis⟩
    case round =>
      obtain ⟨k, ps, hk, rfl, rfl, hbel, hown, hall, hdis⟩ := hrel
      have hcb := cntL_le cntDr cntDr_0 xs k
      by_cases hlt : k < n
      · have hxk : xs[k]? = some (xs[k]'(by have := HX.out; omega)) := List.getElem?_eq_getElem _
        generalize (xs[k]'(by have := HX.out; omega)) = x at hxk
        have HXK := Lib.hid hxk
        have hcs := (cntL_le cntDr cntDr_0 xs (k + 1)).2
        rw [take_snoc hxk, cntL_snoc] at hcs
        clear hxk
        have hxs := HS.out x (List.mem_of_getElem? HXK.out)
        have hcx : cntL cntDr (xs.take k) + cntDr x ≤ 3000000000000000 - k0 := by have := HH.out; omega
        clear hcs
        obtain ⟨p, hpk, d0, d1⟩ := ownP2 hown hlt
        have hlk : (mkDrs k0 (xs.take k)).length = k := by unfold mkDrs; rw [mkL_length, List.length_take, HX.out]; omega
        have hL : (mkDrs k0 (xs.take k) ++ xs.drop k)[k]? = some x := by
          rw [List.getElem?_append_right (by omega), hlk, Nat.sub_self, List.getElem?_drop, Nat.add_zero]; exact HXK.out
        have hO := hall.2 k _ _ hL hpk.out
        have HL := Lib.hid hL
        have HLK := Lib.hid hlk
        clear hL hlk
        obtain ⟨r_name, r_q⟩ := p
        obtain ⟨t_q, u_q, e_q⟩ := own_slice (hO.2).1
        simp only at e_q
        subst e_q
        generalize hcc : cntL cntDr (xs.take k) = cc at *
        have HCC := Lib.hid hcc
        clear hcc
        have hcx' := hcx
        unfold cntDr at hcx'
        have hf0 := fun j => hown.frozenAt j
        go_wp2_with fail
        refine (markText _ _ (by omega) (by omega)).mono ?_
        rintro e w1 ⟨rfl, hb1⟩
        have ho1 := ownsRow_grew hown hb1
        have hf1 := fun j => ho1.frozenAt j
        have y1_0 := grew_cell hb1 (a := ⟨g, k * 2, none⟩) (by first | exact d0 | simp [go_sem, d0])
        have y1_1 := grew_cell hb1 (a := ⟨g, k * 2 + 1, none⟩) (by first | exact d1 | simp [go_sem, d1])
        go_wp2_with fail
        have ow2 := hO.2
        have hne2 : ∀ c, Value.ownBlock (.slice t_q x.query.length u_q) = some c → c ≠ g := fun c hc e => hdis.head (u := .slice t_q x.query.length u_q) (List.mem_flatMap.2 ⟨(⟨r_name, .slice t_q x.query.length u_q⟩ : P2), List.mem_of_getElem? hpk.out, by simp [Dr.subs]⟩) (b := g) rfl (by rw [← e]; exact hc)
        have oc2 := (Own.touch' (ow2.grew hb1) (a := g) (b := g + 1) (Touch.setCell (Touch.refl _ _ _) (p := ⟨g, k * 2, none⟩) (Nat.le_refl _) (Nat.lt_succ_self _) (.string (mtext (k0 + cc)))) (fun c hc => by have := hne2 c hc; omega))
        obtain ⟨lo2, hi2, hlo2, hhi2, ot2, htt2⟩ := Own.tight oc2
        refine (markNodeS _ _ x.query _ _ lo2 hi2 ot2 hxs (by omega) (by omega)).mono ?_
        rintro e w2 ⟨rfl, om2, ht2⟩
        have hgo2 : g < lo2 ∨ hi2 ≤ g := by
          by_cases h1 : lo2 ≤ g
          · by_cases h2 : g < hi2
            · exact absurd rfl (hne2 g (htt2 g h1 h2))
            · exact .inr (by omega)
          · exact .inl (by omega)
        have ho2 := ownsRow_touch (ownsRow_stores ho1 (k * 2) (.string (mtext (k0 + cc)))) ht2 hgo2
        have hf2 := fun j => ho2.frozenAt j
        go_wp2
        go_roundw
        case rel =>
          refine ⟨k + 1, ps.set k (⟨mtext (k0 + cc), .slice t_q x.query.length u_q⟩ : P2), by omega, by go_num, ?_, ?_, ?_, ?_, ?_⟩
          · rw [take_snoc HXK.out, cntL_snoc, HCC.out]
            unfold cntDr
            congr 1
            omega
          · exact hbel.trans ((Touch.setCell ((Touch.refl lo hi wr).grew hb1) (p := ⟨g, k * 2, none⟩) hg1 hg2 (.string (mtext (k0 + cc)))).trans (ht2.mono hlo2 hhi2))
          · have hst := ho2
            rw [setnP2 ps k _ hpk.out] at hst
            exact hst
          · have e1 : mkDrs k0 (xs.take (k + 1)) ++ xs.drop (k + 1) = (mkDrs k0 (xs.take k) ++ xs.drop k).set k (mkDr1 (k0 + cc) x) := by
              have hd : xs.drop k = x :: xs.drop (k + 1) := by
                have h2 := List.drop_eq_getElem_cons (l := xs) (i := k) (by have := HX.out; omega)
                have h3 := HXK.out
                rw [List.getElem?_eq_getElem (by have := HX.out; omega)] at h3
                simp only [Option.some.injEq] at h3
                rw [h3] at h2; exact h2
              rw [set_append_left _ _ k _ _ _ HLK.out hd, take_snoc HXK.out]
              unfold mkDrs
              rw [mkL_snoc, HCC.out]
            rw [e1]
            exact All2.upd hall k _ _ (fun i a b hik ha hb hr => by
              have hng : ∀ v c, v ∈ Dr.subs b → v.ownBlock = some c → c ≠ g := fun v c hv hc e => hdis.head (List.mem_flatMap.2 ⟨b, List.mem_of_getElem? hb, hv⟩) (b := g) rfl (by rw [← e]; exact hc)
              have hnt2 : ∀ v c, v ∈ Dr.subs b → v.ownBlock = some c → c < lo2 ∨ hi2 ≤ c := by
                intro v c hv hc
                by_cases h1 : lo2 ≤ c
                · by_cases h2 : c < hi2
                  · exact absurd (htt2 c h1 h2) (hdis.tail.flat i k b _ v _ c hik hb hpk.out hv (by simp [Dr.subs]) hc)
                  · exact .inr (by omega)
                · exact .inl (by omega)
              exact (Dr.O.touch' (Dr.O.touch' (hr.grew hb1) (a := g) (b := g + 1) (Touch.setCell (Touch.refl _ _ _) (p := ⟨g, k * 2, none⟩) (Nat.le_refl _) (Nat.lt_succ_self _) (.string (mtext (k0 + cc)))) (fun v c hv hc => by have := hng v c hv hc; omega)) ht2 (fun v c hv hc => hnt2 v c hv hc))) ⟨rfl, (by have hz := (om2.mono hlo2 hhi2); simpa [mkDr1] using hz)⟩
          · rw [flatMap_set_same (subs := Dr.subs) ps k _ (⟨mtext (k0 + cc), .slice t_q x.query.length u_q⟩ : P2) hpk.out rfl]
            exact hdis
        case measure => simp [intOf]; omega
      · obtain rfl : k = n := by omega
        go_wp2
        go_ret
        rw [take_all HX.out] at hall ⊢
        rw [List.drop_eq_nil_of_le (by have := HX.out; omega), List.append_nil] at hall
        refine ⟨rfl, ⟨ps, ?_, hall, hdis⟩, hbel⟩
        have hl : (mkDrs k0 xs).length = k := by unfold mkDrs; rw [mkL_length, HX.out]
        rw [hl]
        exact ⟨ownsRow_base hown hg1, fun b hb => by simp [Value.ownBlock] at hb; omega⟩
def Rs.ok0 (x : Rs) : Prop := (x.name.size ≤ maxLen) ∧ (x.ids.length ≤ maxLen)
def Rs.sz (x : Rs) : Nat := x.name.size + (x.ids.length)
def cntRs (x : Rs) : Int := 1 + (((x.ids.length : Nat) : Int))
theorem cntRs_0 (x : Rs) : 0 ≤ cntRs x := by unfold cntRs; omega
def mkRs1 (c : Int) (x : Rs) : Rs := ⟨mtext (c), ((List.range x.ids.length).map fun (j : Nat) => (c + 1) + (j : Int))⟩
def mkRss (c : Int) (xs : List Rs) : List Rs := mkL mkRs1 cntRs c xs
theorem Rs.O.touch' {w w' : World} {lo hi a b : Nat} {x : Rs} {p : P2} (h : Rs.O w lo hi x p) (ht : Touch a b w w') (hd : ∀ v c, v ∈ Rs.subs p → v.ownBlock = some c → c < a ∨ b ≤ c) : Rs.O w' lo hi x p := ⟨h.1, (h.2).touch' ht (fun c hc => hd _ c (by simp [Rs.subs]) hc)⟩
set_option maxRecDepth 100000 in
set_option maxHeartbeats 4000000 in
theorem markResultS (va : Value) (xs : List Rs) (k0 : Int) (w : World) (lo hi : Nat) (ha : OwnRss w lo hi va xs) (hx : xs.length ≤ 4000000) (hs : ∀ x, x ∈ xs → x.small) (h0 : 0 ≤ k0) (h1 : k0 + cntL cntRs xs ≤ 3000000000000000) :
    Calls Tryz.prog 78 #[va, .int .i64 k0] w fun e w' => e = .returned (.int .i64 (k0 + cntL cntRs xs)) ∧ OwnRss w' lo hi va (mkRss k0 xs) ∧ Touch lo hi w w' := by
  obtain ⟨ps, hop, hall, hdis⟩ := ha
  rcases hop.cases with ⟨rfl, hn0, _⟩ | ⟨g, cap, rfl, hg1, hg2, hcap, hown⟩
  · have hxs : xs = [] := List.length_eq_zero_iff.1 hn0
    subst hxs
    have hp : ps = [] := List.length_eq_zero_iff.1 hall.1.symm
    subst hp
    go_enter Tryz.func78, Tryz.ntmps78
    go_wp2
    refine wp_loop_rounds 1 ?_
    rw [rounds_succ]
    go_wp2
    go_ret
    exact ⟨ret_int (by simp [cntL]), ⟨[], hop, All2.nil, hdis⟩, Touch.refl _ _ _⟩
  · have HS := Lib.hid hs
    have HOP := Lib.hid hop
    have HH := Lib.hid h1
    have hpl : Hid (ps.length = xs.length) := Lib.hid hall.1.symm
    clear hop hs h1
    generalize hnn : xs.length = n at *
    have HX := Lib.hid hnn
    clear hnn
    go_enter Tryz.func78, Tryz.ntmps78
    go_wp2
    go_loopw [1, 5] (fun c i wr => ∃ (k : Nat) (ps : List P2), k ≤ n ∧ i = .int .i64 k ∧ c = .int .i64 (k0 + cntL cntRs (xs.take k)) ∧ Touch lo hi w wr ∧ wr.ownsRow g 122 2 (.slice (some ⟨g, 0, none⟩) n cap) n (rows P2.c ps) ∧ All2 (Rs.O wr lo hi) (mkRss k0 (xs.take k) ++ xs.drop k) ps ∧ Dis (.slice (some ⟨g, 0, none⟩) n cap :: ps.flatMap Rs.subs)) (fun _ i _ => n - (intOf i).toNat)
    case atStart => exact ⟨0, ps, Nat.zero_le _, rfl, by simp [cntL], Touch.refl _ _ _, hown, by simpa [mkRss, mkL] using hall, hdis⟩
    case round =>
      obtain ⟨k, ps, hk, rfl, rfl, hbel, hown, hall, hdis⟩ := hrel
      have hcb := cntL_le cntRs cntRs_0 xs k
      by_cases hlt : k < n
      · have hxk : xs[k]? = some (xs[k]'(by have := HX.out; omega)) := List.getElem?_eq_getElem _
        generalize (xs[k]'(by have := HX.out; omega)) = x at hxk
        have HXK := Lib.hid hxk
        have hcs := (cntL_le cntRs cntRs_0 xs (k + 1)).2
        rw [take_snoc hxk, cntL_snoc] at hcs
        clear hxk
        have hxs := HS.out x (List.mem_of_getElem? HXK.out)
        have hcx : cntL cntRs (xs.take k) + cntRs x ≤ 3000000000000000 - k0 := by have := HH.out; omega
        clear hcs
        obtain ⟨p, hpk, d0, d1⟩ := ownP2 hown hlt
        have hlk : (mkRss k0 (xs.take k)).length = k := by unfold mkRss; rw [mkL_length, List.length_take, HX.out]; omega
        have hL : (mkRss k0 (xs.take k) ++ xs.drop k)[k]? = some x := by
          rw [List.getElem?_append_right (by omega), hlk, Nat.sub_self, List.getElem?_drop, Nat.add_zero]; exact HXK.out
        have hO := hall.2 k _ _ hL hpk.out
        have HL := Lib.hid hL
        have HLK := Lib.hid hlk
        clear hL hlk
        obtain ⟨r_name, r_q⟩ := p
        obtain ⟨t_q, u_q, e_q⟩ := own_slice (hO.2).1
        simp only at e_q
        subst e_q
        generalize hcc : cntL cntRs (xs.take k) = cc at *
        have HCC := Lib.hid hcc
        clear hcc
        have hcx' := hcx
        unfold cntRs at hcx'
        have hf0 := fun j => hown.frozenAt j
        go_wp2_with fail
        refine (markText _ _ (by omega) (by omega)).mono ?_
        rintro e w1 ⟨rfl, hb1⟩
        have ho1 := ownsRow_grew hown hb1
        have hf1 := fun j => ho1.frozenAt j
        have y1_0 := grew_cell hb1 (a := ⟨g, k * 2, none⟩) (by first | exact d0 | simp [go_sem, d0])
        have y1_1 := grew_cell hb1 (a := ⟨g, k * 2 + 1, none⟩) (by first | exact d1 | simp [go_sem, d1])
        go_wp2_with fail
        have ow2 := hO.2
        have hne2 : ∀ c, Value.ownBlock (.slice t_q x.ids.length u_q) = some c → c ≠ g := fun c hc e => hdis.head (u := .slice t_q x.ids.length u_q) (List.mem_flatMap.2 ⟨(⟨r_name, .slice t_q x.ids.length u_q⟩ : P2), List.mem_of_getElem? hpk.out, by simp [Rs.subs]⟩) (b := g) rfl (by rw [← e]; exact hc)
        have oc2 := (Own.touch' (ow2.grew hb1) (a := g) (b := g + 1) (Touch.setCell (Touch.refl _ _ _) (p := ⟨g, k * 2, none⟩) (Nat.le_refl _) (Nat.lt_succ_self _) (.string (mtext (k0 + cc)))) (fun c hc => by have := hne2 c hc; omega))
        obtain ⟨lo2, hi2, hlo2, hhi2, ot2, htt2⟩ := Own.tight oc2
        refine (markIntS _ _ x.ids _ _ lo2 hi2 ot2 hxs (by omega) (by omega)).mono ?_
        rintro e w2 ⟨rfl, om2, ht2⟩
        have hgo2 : g < lo2 ∨ hi2 ≤ g := by
          by_cases h1 : lo2 ≤ g
          · by_cases h2 : g < hi2
            · exact absurd rfl (hne2 g (htt2 g h1 h2))
            · exact .inr (by omega)
          · exact .inl (by omega)
        have ho2 := ownsRow_touch (ownsRow_stores ho1 (k * 2) (.string (mtext (k0 + cc)))) ht2 hgo2
        have hf2 := fun j => ho2.frozenAt j
        go_wp2
        go_roundw
        case rel =>
          refine ⟨k + 1, ps.set k (⟨mtext (k0 + cc), .slice t_q x.ids.length u_q⟩ : P2), by omega, by go_num, ?_, ?_, ?_, ?_, ?_⟩
          · rw [take_snoc HXK.out, cntL_snoc, HCC.out]
            unfold cntRs
            congr 1
            omega
          · exact hbel.trans ((Touch.setCell ((Touch.refl lo hi wr).grew hb1) (p := ⟨g, k * 2, none⟩) hg1 hg2 (.string (mtext (k0 + cc)))).trans (ht2.mono hlo2 hhi2))
          · have hst := ho2
            rw [setnP2 ps k _ hpk.out] at hst
            exact hst
          · have e1 : mkRss k0 (xs.take (k + 1)) ++ xs.drop (k + 1) = (mkRss k0 (xs.take k) ++ xs.drop k).set k (mkRs1 (k0 + cc) x) := by
              have hd : xs.drop k = x :: xs.drop (k + 1) := by
                have h2 := List.drop_eq_getElem_cons (l := xs) (i := k) (by have := HX.out; omega)
                have h3 := HXK.out
                rw [List.getElem?_eq_getElem (by have := HX.out; omega)] at h3
                simp only [Option.some.injEq] at h3
                rw [h3] at h2; exact h2
              rw [set_append_left _ _ k _ _ _ HLK.out hd, take_snoc HXK.out]
              unfold mkRss
              rw [mkL_snoc, HCC.out]
            rw [e1]
            exact All2.upd hall k _ _ (fun i a b hik ha hb hr => by
              have hng : ∀ v c, v ∈ Rs.subs b → v.ownBlock = some c → c ≠ g := fun v c hv hc e => hdis.head (List.mem_flatMap.2 ⟨b, List.mem_of_getElem? hb, hv⟩) (b := g) rfl (by rw [← e]; exact hc)
              have hnt2 : ∀ v c, v ∈ Rs.subs b → v.ownBlock = some c → c < lo2 ∨ hi2 ≤ c := by
                intro v c hv hc
                by_cases h1 : lo2 ≤ c
                · by_cases h2 : c < hi2
                  · exact absurd (htt2 c h1 h2) (hdis.tail.flat i k b _ v _ c hik hb hpk.out hv (by simp [Rs.subs]) hc)
                  · exact .inr (by omega)
                · exact .inl (by omega)
              exact (Rs.O.touch' (Rs.O.touch' (hr.grew hb1) (a := g) (b := g + 1) (Touch.setCell (Touch.refl _ _ _) (p := ⟨g, k * 2, none⟩) (Nat.le_refl _) (Nat.lt_succ_self _) (.string (mtext (k0 + cc)))) (fun v c hv hc => by have := hng v c hv hc; omega)) ht2 (fun v c hv hc => hnt2 v c hv hc))) ⟨rfl, (by have hz := (om2.mono hlo2 hhi2); simpa [mkRs1] using hz)⟩
          · rw [flatMap_set_same (subs := Rs.subs) ps k _ (⟨mtext (k0 + cc), .slice t_q x.ids.length u_q⟩ : P2) hpk.out rfl]
            exact hdis
        case measure => simp [intOf]; omega
      · obtain rfl : k = n := by omega
        go_wp2
        go_ret
        rw [take_all HX.out] at hall ⊢
        rw [List.drop_eq_nil_of_le (by have := HX.out; omega), List.append_nil] at hall
        refine ⟨rfl, ⟨ps, ?_, hall, hdis⟩, hbel⟩
        have hl : (mkRss k0 xs).length = k := by unfold mkRss; rw [mkL_length, HX.out]
        rw [hl]
        exact ⟨ownsRow_base hown hg1, fun b hb => by simp [Value.ownBlock] at hb; omega⟩
def Df.ok0 (x : Df) : Prop := (x.name.size ≤ maxLen) ∧ (x.added.length ≤ maxLen) ∧ (x.removed.length ≤ maxLen)
def Df.sz (x : Df) : Nat := x.name.size + (x.added.length) + (x.removed.length)
def Fl.ok0 (x : Fl) : Prop := (x.attrs.length ≤ maxLen) ∧ (∀ y, y ∈ x.attrs → At.ok0 y)
def Fl.sz (x : Fl) : Nat := (x.attrs.length + szAll At.sz x.attrs)
set_option maxHeartbeats 1000000 in
theorem szFile (x : Fl) (p : P5) (l : Int) (w : World) (h : Fl.R w x p) (ho : x.ok0) (hl : 0 ≤ l) (hl2 : l ≤ 4000000) :
    Calls Tryz.prog 189 #[p.v, .int .i64 l] w fun e w' => ∃ r : Int, e = .returned (.int .i64 r) ∧ Left l x.sz r ∧ Grew w w' := by
  obtain ⟨p_id, p_owner, p_shared, p_link, p_attrs⟩ := p
  obtain ⟨h_id, h_owner, h_shared, h_link, ⟨a_attrs, ca_attrs, hq_attrs, hca_attrs, hra_attrs⟩⟩ := h
  simp only at h_id h_owner h_shared h_link hq_attrs
  subst hq_attrs
  subst h_id
  subst h_owner
  subst h_shared
  subst h_link
  have o_attrs := Lib.hid (ho.1)
  have oo_attrs := Lib.hid (ho.2)
  clear ho
  go_enter Tryz.func189, Tryz.ntmps189
  go_wp2_with fail
  refine (szAttrS _ _ x.attrs _ _ ⟨a_attrs, ca_attrs, rfl, hca_attrs, hra_attrs.grew ((Grew.refl w).alloc _)⟩ o_attrs.out oo_attrs.out (by omega) (by omega)).mono ?_
  rintro e w1 ⟨r1, rfl, h1, gs1⟩
  rcases h1 with rfl | ⟨h1, hnn1⟩
  · go_wp2
    go_ret
    exact ⟨_, rfl, .inl rfl, ((Grew.refl w).alloc _).trans gs1⟩
  · have H1 := Lib.hid h1
    have hle1 : r1 ≤ 4000000 := by omega
    clear h1
    have gw1 : Grew w w1 := ((Grew.refl w).alloc _).trans gs1
    go_wp2
    go_ret
    exact ⟨_, rfl, .inr ⟨by unfold Fl.sz; have := H1.out; omega, hnn1⟩, gw1⟩
set_option maxRecDepth 100000 in
set_option maxHeartbeats 1000000 in
theorem szFileS (va : Value) (xs : List Fl) (l : Int) (w : World) (ha : RdLs w va xs) (hn : xs.length ≤ maxLen) (hok : ∀ x, x ∈ xs → x.ok0) (hl : 0 ≤ l) (hl2 : l ≤ 4000000) :
    Calls Tryz.prog 130 #[va, .int .i64 l] w fun e w' => ∃ r : Int, e = .returned (.int .i64 r) ∧ Left l (xs.length + szAll Fl.sz xs) r ∧ Grew w w' := by
  unfold maxLen at hn
  obtain ⟨qs, ⟨a, ca, rfl, hca, hra⟩, hall⟩ := ha
  have HO := Lib.hid hok
  have HA := Lib.hid hall
  clear hok hall
  generalize hnn : xs.length = n at *
  have HX := Lib.hid hnn
  clear hnn
  by_cases h0 : l - (n : Int) < 0
  · go_enter Tryz.func130, Tryz.ntmps130
    go_wp2
    go_ret
    exact ⟨_, rfl, .inl rfl, Grew.refl _⟩
  · go_enter Tryz.func130, Tryz.ntmps130
    go_wp2
    go_loopw [1, 5] (fun c i wr => ∃ (k : Nat) (r : Int), k ≤ n ∧ i = .int .i64 k ∧ c = .int .i64 r ∧ 0 ≤ r ∧ r ≤ l ∧ Hid (r = l - (n : Int) - szAll Fl.sz (xs.take k)) ∧ Grew w wr) (fun _ i _ => n - (intOf i).toNat)
    case atStart => exact ⟨0, _, Nat.zero_le _, rfl, rfl, by omega, by omega, Lib.hid (by simp [szAll]), Grew.refl _⟩
    case round =>
      obtain ⟨k, r, hk, rfl, rfl, hr0, hrl, hr, hbel⟩ := hrel
      by_cases hlt : k < n
      · obtain ⟨b1, o1, p, rfl, hpk, c0, c1, c2, c3, c4⟩ := (hra.grew hbel).getP5 hlt
        obtain ⟨x, hxk, hxr⟩ := HA.out.get hpk.out
        have hxo := Lib.hid (HO.out x (List.mem_of_getElem? hxk.out))
        go_wp2_with fail
        refine (szFile x p r _ (hxr.grew hbel) hxo.out hr0 (by omega)).mono ?_
        rintro e w1 ⟨r1, rfl, h1, g1⟩
        rcases h1 with rfl | ⟨h1, h2⟩
        · go_wp2
          go_ret
          exact ⟨_, rfl, .inl rfl, hbel.trans g1⟩
        · have H1 := Lib.hid h1
          have hle : r1 ≤ l := by omega
          clear h1
          go_wp2
          go_roundw
          case rel => exact ⟨k + 1, r1, by omega, by go_num, rfl, h2, hle, Lib.hid (by rw [take_snoc hxk.out, szAll_snoc]; have := H1.out; have := hr.out; omega), hbel.trans g1⟩
          case measure => simp [intOf]; omega
      · obtain rfl : k = n := by omega
        go_wp2
        go_ret
        exact ⟨_, rfl, .inr ⟨by have := hr.out; rw [take_all HX.out] at this; omega, hr0⟩, hbel⟩
def cntFl (x : Fl) : Int := 4 + (((x.attrs.length : Nat) : Int) * 4)
theorem cntFl_0 (x : Fl) : 0 ≤ cntFl x := by unfold cntFl; omega
def mkFl1 (c : Int) (x : Fl) : Fl := ⟨(c), (c + 1), ((c + 1 + 1) % 3 == 0), (c + 1 + 1 + 1), ((List.range x.attrs.length).map fun (j : Nat) => mkAt ((c + 1 + 1 + 1 + 1) + (j : Int) * 4))⟩
def mkFls (c : Int) (xs : List Fl) : List Fl := mkL mkFl1 cntFl c xs
theorem Fl.O.touch' {w w' : World} {lo hi a b : Nat} {x : Fl} {p : P5} (h : Fl.O w lo hi x p) (ht : Touch a b w w') (hd : ∀ v c, v ∈ Fl.subs p → v.ownBlock = some c → c < a ∨ b ≤ c) : Fl.O w' lo hi x p := ⟨h.1, h.2.1, h.2.2.1, h.2.2.2.1, (h.2.2.2.2).touch' ht (fun c hc => hd _ c (by simp [Fl.subs]) hc)⟩
set_option maxRecDepth 100000 in
set_option maxHeartbeats 4000000 in
theorem markFileS (va : Value) (xs : List Fl) (k0 : Int) (w : World) (lo hi : Nat) (ha : OwnFls w lo hi va xs) (hx : xs.length ≤ 4000000) (hs : ∀ x, x ∈ xs → x.small) (h0 : 0 ≤ k0) (h1 : k0 + cntL cntFl xs ≤ 3000000000000000) :
    Calls Tryz.prog 139 #[va, .int .i64 k0] w fun e w' => e = .returned (.int .i64 (k0 + cntL cntFl xs)) ∧ OwnFls w' lo hi va (mkFls k0 xs) ∧ Touch lo hi w w' := by
  obtain ⟨ps, hop, hall, hdis⟩ := ha
  rcases hop.cases with ⟨rfl, hn0, _⟩ | ⟨g, cap, rfl, hg1, hg2, hcap, hown⟩
  · have hxs : xs = [] := List.length_eq_zero_iff.1 hn0
    subst hxs
    have hp : ps = [] := List.length_eq_zero_iff.1 hall.1.symm
    subst hp
    go_enter Tryz.func139, Tryz.ntmps139
    go_wp2
    refine wp_loop_rounds 1 ?_
    rw [rounds_succ]
    go_wp2
    go_ret
    exact ⟨ret_int (by simp [cntL]), ⟨[], hop, All2.nil, hdis⟩, Touch.refl _ _ _⟩
  · have HS := Lib.hid hs
    have HOP := Lib.hid hop
    have HH := Lib.hid h1
    have hpl : Hid (ps.length = xs.length) := Lib.hid hall.1.symm
    clear hop hs h1
    generalize hnn : xs.length = n at *
    have HX := Lib.hid hnn
    clear hnn
    go_enter Tryz.func139, Tryz.ntmps139
    go_wp2
    go_loopw [1, 5] (fun c i wr => ∃ (k : Nat) (ps : List P5), k ≤ n ∧ i = .int .i64 k ∧ c = .int .i64 (k0 + cntL cntFl (xs.take k)) ∧ Touch lo hi w wr ∧ wr.ownsRow g 79 5 (.slice (some ⟨g, 0, none⟩) n cap) n (rows P5.c ps) ∧ All2 (Fl.O wr lo hi) (mkFls k0 (xs.take k) ++ xs.drop k) ps ∧ Dis (.slice (some ⟨g, 0, none⟩) n cap :: ps.flatMap Fl.subs)) (fun _ i _ => n - (intOf i).toNat)
    case atStart => exact ⟨0, ps, Nat.zero_le _, rfl, by simp [cntL], Touch.refl _ _ _, hown, by simpa [mkFls, mkL] using hall, hdis⟩
    case round =>
      obtain ⟨k, ps, hk, rfl, rfl, hbel, hown, hall, hdis⟩ := hrel
      have hcb := cntL_le cntFl cntFl_0 xs k
      by_cases hlt : k < n
      · have hxk : xs[k]? = some (xs[k]'(by have := HX.out; omega)) := List.getElem?_eq_getElem _
        generalize (xs[k]'(by have := HX.out; omega)) = x at hxk
        have HXK := Lib.hid hxk
        have hcs := (cntL_le cntFl cntFl_0 xs (k + 1)).2
        rw [take_snoc hxk, cntL_snoc] at hcs
        clear hxk
        have hxs := HS.out x (List.mem_of_getElem? HXK.out)
        have hcx : cntL cntFl (xs.take k) + cntFl x ≤ 3000000000000000 - k0 := by have := HH.out; omega
        clear hcs
        obtain ⟨p, hpk, d0, d1, d2, d3, d4⟩ := ownP5 hown hlt
        have hlk : (mkFls k0 (xs.take k)).length = k := by unfold mkFls; rw [mkL_length, List.length_take, HX.out]; omega
        have hL : (mkFls k0 (xs.take k) ++ xs.drop k)[k]? = some x := by
          rw [List.getElem?_append_right (by omega), hlk, Nat.sub_self, List.getElem?_drop, Nat.add_zero]; exact HXK.out
        have hO := hall.2 k _ _ hL hpk.out
        have HL := Lib.hid hL
        have HLK := Lib.hid hlk
        clear hL hlk
        obtain ⟨r_id, r_owner, r_shared, r_link, r_attrs⟩ := p
        obtain ⟨t_attrs, u_attrs, e_attrs⟩ := own_slice (hO.2.2.2.2).1
        simp only at e_attrs
        subst e_attrs
        generalize hcc : cntL cntFl (xs.take k) = cc at *
        have HCC := Lib.hid hcc
        clear hcc
        have hcx' := hcx
        unfold cntFl at hcx'
        have hf0 := fun j => hown.frozenAt j
        go_wp2_with fail
        have ow1 := hO.2.2.2.2
        have hne1 : ∀ c, Value.ownBlock (.slice t_attrs x.attrs.length u_attrs) = some c → c ≠ g := fun c hc e => hdis.head (u := .slice t_attrs x.attrs.length u_attrs) (List.mem_flatMap.2 ⟨(⟨r_id, r_owner, r_shared, r_link, .slice t_attrs x.attrs.length u_attrs⟩ : P5), List.mem_of_getElem? hpk.out, by simp [Fl.subs]⟩) (b := g) rfl (by rw [← e]; exact hc)
        have oc1 := (Own.touch' (Own.touch' (Own.touch' (Own.touch' ow1 (a := g) (b := g + 1) (Touch.setCell (Touch.refl _ _ _) (p := ⟨g, k * 5, none⟩) (Nat.le_refl _) (Nat.lt_succ_self _) (.int .i64 (k0 + cc))) (fun c hc => by have := hne1 c hc; omega)) (a := g) (b := g + 1) (Touch.setCell (Touch.refl _ _ _) (p := ⟨g, k * 5 + 1, none⟩) (Nat.le_refl _) (Nat.lt_succ_self _) (.int .i64 (k0 + cc + 1))) (fun c hc => by have := hne1 c hc; omega)) (a := g) (b := g + 1) (Touch.setCell (Touch.refl _ _ _) (p := ⟨g, k * 5 + 2, none⟩) (Nat.le_refl _) (Nat.lt_succ_self _) (.bool (((k0 + cc + 1 + 1) % 3 == 0)))) (fun c hc => by have := hne1 c hc; omega)) (a := g) (b := g + 1) (Touch.setCell (Touch.refl _ _ _) (p := ⟨g, k * 5 + 3, none⟩) (Nat.le_refl _) (Nat.lt_succ_self _) (.int .i64 (k0 + cc + 1 + 1 + 1))) (fun c hc => by have := hne1 c hc; omega))
        obtain ⟨lo1, hi1, hlo1, hhi1, ot1, htt1⟩ := Own.tight oc1
        refine (markAttrS _ _ x.attrs _ _ lo1 hi1 ot1 hxs (by omega) (by omega)).mono ?_
        rintro e w1 ⟨rfl, om1, ht1⟩
        have hgo1 : g < lo1 ∨ hi1 ≤ g := by
          by_cases h1 : lo1 ≤ g
          · by_cases h2 : g < hi1
            · exact absurd rfl (hne1 g (htt1 g h1 h2))
            · exact .inr (by omega)
          · exact .inl (by omega)
        have ho1 := ownsRow_touch (ownsRow_stores (ownsRow_stores (ownsRow_stores (ownsRow_stores hown (k * 5) (.int .i64 (k0 + cc))) (k * 5 + 1) (.int .i64 (k0 + cc + 1))) (k * 5 + 2) (.bool (((k0 + cc + 1 + 1) % 3 == 0)))) (k * 5 + 3) (.int .i64 (k0 + cc + 1 + 1 + 1))) ht1 hgo1
        have hf1 := fun j => ho1.frozenAt j
        go_wp2
        go_roundw
        case rel =>
          refine ⟨k + 1, ps.set k (⟨k0 + cc, k0 + cc + 1, ((k0 + cc + 1 + 1) % 3 == 0), k0 + cc + 1 + 1 + 1, .slice t_attrs x.attrs.length u_attrs⟩ : P5), by omega, by go_num, ?_, ?_, ?_, ?_, ?_⟩
          · rw [take_snoc HXK.out, cntL_snoc, HCC.out]
            unfold cntFl
            congr 1
            omega
          · exact hbel.trans ((Touch.setCell (Touch.setCell (Touch.setCell (Touch.setCell (Touch.refl lo hi wr) (p := ⟨g, k * 5, none⟩) hg1 hg2 (.int .i64 (k0 + cc))) (p := ⟨g, k * 5 + 1, none⟩) hg1 hg2 (.int .i64 (k0 + cc + 1))) (p := ⟨g, k * 5 + 2, none⟩) hg1 hg2 (.bool (((k0 + cc + 1 + 1) % 3 == 0)))) (p := ⟨g, k * 5 + 3, none⟩) hg1 hg2 (.int .i64 (k0 + cc + 1 + 1 + 1))).trans (ht1.mono hlo1 hhi1))
          · have hst := ho1
            rw [setnP5 ps k _ hpk.out] at hst
            exact hst
          · have e1 : mkFls k0 (xs.take (k + 1)) ++ xs.drop (k + 1) = (mkFls k0 (xs.take k) ++ xs.drop k).set k (mkFl1 (k0 + cc) x) := by
              have hd : xs.drop k = x :: xs.drop (k + 1) := by
                have h2 := List.drop_eq_getElem_cons (l := xs) (i := k) (by have := HX.out; omega)
                have h3 := HXK.out
                rw [List.getElem?_eq_getElem (by have := HX.out; omega)] at h3
                simp only [Option.some.injEq] at h3
                rw [h3] at h2; exact h2
              rw [set_append_left _ _ k _ _ _ HLK.out hd, take_snoc HXK.out]
              unfold mkFls
              rw [mkL_snoc, HCC.out]
            rw [e1]
            exact All2.upd hall k _ _ (fun i a b hik ha hb hr => by
              have hng : ∀ v c, v ∈ Fl.subs b → v.ownBlock = some c → c ≠ g := fun v c hv hc e => hdis.head (List.mem_flatMap.2 ⟨b, List.mem_of_getElem? hb, hv⟩) (b := g) rfl (by rw [← e]; exact hc)
              have hnt1 : ∀ v c, v ∈ Fl.subs b → v.ownBlock = some c → c < lo1 ∨ hi1 ≤ c := by
                intro v c hv hc
                by_cases h1 : lo1 ≤ c
                · by_cases h2 : c < hi1
                  · exact absurd (htt1 c h1 h2) (hdis.tail.flat i k b _ v _ c hik hb hpk.out hv (by simp [Fl.subs]) hc)
                  · exact .inr (by omega)
                · exact .inl (by omega)
              exact (Fl.O.touch' (Fl.O.touch' (Fl.O.touch' (Fl.O.touch' (Fl.O.touch' hr (a := g) (b := g + 1) (Touch.setCell (Touch.refl _ _ _) (p := ⟨g, k * 5, none⟩) (Nat.le_refl _) (Nat.lt_succ_self _) (.int .i64 (k0 + cc))) (fun v c hv hc => by have := hng v c hv hc; omega)) (a := g) (b := g + 1) (Touch.setCell (Touch.refl _ _ _) (p := ⟨g, k * 5 + 1, none⟩) (Nat.le_refl _) (Nat.lt_succ_self _) (.int .i64 (k0 + cc + 1))) (fun v c hv hc => by have := hng v c hv hc; omega)) (a := g) (b := g + 1) (Touch.setCell (Touch.refl _ _ _) (p := ⟨g, k * 5 + 2, none⟩) (Nat.le_refl _) (Nat.lt_succ_self _) (.bool (((k0 + cc + 1 + 1) % 3 == 0)))) (fun v c hv hc => by have := hng v c hv hc; omega)) (a := g) (b := g + 1) (Touch.setCell (Touch.refl _ _ _) (p := ⟨g, k * 5 + 3, none⟩) (Nat.le_refl _) (Nat.lt_succ_self _) (.int .i64 (k0 + cc + 1 + 1 + 1))) (fun v c hv hc => by have := hng v c hv hc; omega)) ht1 (fun v c hv hc => hnt1 v c hv hc))) ⟨rfl, rfl, rfl, rfl, (by have hz := (om1.mono hlo1 hhi1); simpa [mkFl1] using hz)⟩
          · rw [flatMap_set_same (subs := Fl.subs) ps k _ (⟨k0 + cc, k0 + cc + 1, ((k0 + cc + 1 + 1) % 3 == 0), k0 + cc + 1 + 1 + 1, .slice t_attrs x.attrs.length u_attrs⟩ : P5) hpk.out rfl]
            exact hdis
        case measure => simp [intOf]; omega
      · obtain rfl : k = n := by omega
        go_wp2
        go_ret
        rw [take_all HX.out] at hall ⊢
        rw [List.drop_eq_nil_of_le (by have := HX.out; omega), List.append_nil] at hall
        refine ⟨rfl, ⟨ps, ?_, hall, hdis⟩, hbel⟩
        have hl : (mkFls k0 xs).length = k := by unfold mkFls; rw [mkL_length, HX.out]
        rw [hl]
        exact ⟨ownsRow_base hown hg1, fun b hb => by simp [Value.ownBlock] at hb; omega⟩
end Go.Proofs.YtejgpghcahinhaaGreat
namespace Go.Proofs.YtejgpghcahinhaaGreat
theorem cntL_bound {α : Type} {cnt : α → Int} {f : α → Nat} (h : ∀ x, 0 ≤ cnt x ∧ cnt x ≤ 7 * (1 + (f x : Int))) : ∀ xs : List α, 0 ≤ cntL cnt xs ∧ cntL cnt xs ≤ 7 * ((xs.length : Int) + (szAll f xs : Int))
  | [] => by simp [cntL, szAll]
  | x :: xs => by
    have h1 := h x
    have h2 := cntL_bound h xs
    simp only [cntL, szAll, List.map_cons, List.sum_cons, List.length_cons] at h2 ⊢
    omega
theorem Dr.cnt_ok {xs : List Dr} (h1 : xs.length ≤ 4000000) (h2 : szAll Dr.sz xs ≤ 4000000) : 0 ≤ cntL cntDr xs ∧ cntL cntDr xs ≤ 56000000 := by
  have := cntL_bound (cnt := cntDr) (f := Dr.sz) (fun x => by unfold cntDr Dr.sz; omega) xs
  omega
theorem Dr.small_of {x : Dr} (h : x.sz ≤ 4000000) : x.small := by unfold Dr.sz at h; unfold Dr.small; omega
theorem Fl.cnt_ok {xs : List Fl} (h1 : xs.length ≤ 4000000) (h2 : szAll Fl.sz xs ≤ 4000000) : 0 ≤ cntL cntFl xs ∧ cntL cntFl xs ≤ 56000000 := by
  have := cntL_bound (cnt := cntFl) (f := Fl.sz) (fun x => by unfold cntFl Fl.sz; omega) xs
  omega
theorem Fl.small_of {x : Fl} (h : x.sz ≤ 4000000) : x.small := by unfold Fl.sz at h; unfold Fl.small; omega
end Go.Proofs.YtejgpghcahinhaaGreat
namespace Go.Proofs.YtejgpghcahinhaaGreat
open Go.RowKit
set_option linter.unusedVariables false
theorem own_type {w : World} {B B' : Nat} {e e' : TypeId} {k k' n n' : Nat} {v v' : Value} {xs xs' : List Value} (h : w.ownsRow B e k v n xs) (h' : w.ownsRow B' e' k' v' n' xs') (hne : e ≠ e') {b : Nat} (hb : v.ownBlock = some b) : v'.ownBlock ≠ some b := by
  intro hb'
  obtain ⟨_, ⟨rfl, _⟩ | ⟨g, cap, cur, rfl, _, hh, _⟩⟩ := h
  · cases hb
  obtain ⟨_, ⟨rfl, _⟩ | ⟨g', cap', cur', rfl, _, hh', _⟩⟩ := h'
  · cases hb'
  cases hb; cases hb'
  rw [hh] at hh'
  injection Option.some.inj hh' with h1 h2
  exact hne h2
theorem own_grown {w w' : World} {B lo hi : Nat} {e e' : TypeId} {k k' n n' : Nat} {v v' : Value} {xs xs' : List Value} (h : Own w lo hi e k v n xs) (h' : w.ownsRow B e' k' v' n' xs') (hne : e ≠ e') (hg : w.grownBy w' v'.ownBlock) : Own w' lo hi e k v n xs := by
  refine ⟨h.1.kept hg ?_, h.2⟩
  cases hb : v.ownBlock with
  | none => exact .inl rfl
  | some b => exact .inr (fun h3 => own_type h.1 h' hne hb h3.symm)
end Go.Proofs.YtejgpghcahinhaaGreat
namespace Go.Proofs.YtejgpghcahinhaaGreat
open Go.RowKit
set_option linter.unusedVariables false
structure PS where
  q : Value
  r : Value
  n : Int
def PS.c (x : PS) : List Value := [x.q, x.r, .int .i64 x.n]
abbrev PS.v (x : PS) : Value := .agg #[x.q, x.r, .int .i64 x.n]
def St.R (w : World) (x : St) (p : PS) : Prop := Rd w p.q 2 x.schema.length (rows Fd.c x.schema) ∧ RdLs w p.r x.files ∧ p.n = x.next
def St.sz (x : St) : Nat := (x.schema.length + szAll Fd.sz x.schema) + (x.files.length + szAll Fl.sz x.files)
def St.small (x : St) : Prop := x.schema.length ≤ 4000000 ∧ x.files.length ≤ 4000000 ∧ ∀ y, y ∈ x.files → y.small
theorem St.R.grew {w w' : World} {x : St} {p : PS} (h : St.R w x p) (hg : Grew w w') : St.R w' x p := ⟨h.1.grew hg, RdLs.grew h.2.1 hg, h.2.2⟩
def St.O (w : World) (lo hi : Nat) (x : St) (p : PS) : Prop :=
  ∃ mid, (lo ≤ mid ∧ mid ≤ hi) ∧ Own w lo mid 167 2 p.q x.schema.length (rows Fd.c x.schema) ∧ OwnFls w mid hi p.r x.files ∧ p.n = x.next
theorem St.O.grew {w w' : World} {lo hi : Nat} {x : St} {p : PS} (h : St.O w lo hi x p) (hg : Grew w w') : St.O w' lo hi x p := by
  obtain ⟨mid, hm, h1, h2, h3⟩ := h
  exact ⟨mid, hm, h1.grew hg, OwnFls.grew h2 hg, h3⟩
theorem St.O.touch {w w' : World} {lo hi a b : Nat} {x : St} {p : PS} (h : St.O w lo hi x p) (ht : Touch a b w w') (hd : hi ≤ a ∨ b ≤ lo) : St.O w' lo hi x p := by
  obtain ⟨mid, hm, h1, h2, h3⟩ := h
  exact ⟨mid, hm, h1.touch ht (by omega), OwnFls.touch h2 ht (by omega), h3⟩
theorem St.O.rd {w : World} {lo hi : Nat} {x : St} {p : PS} (h : St.O w lo hi x p) : St.R w x p := by
  obtain ⟨mid, hm, h1, h2, h3⟩ := h
  exact ⟨h1.rd, OwnFls.rd h2, h3⟩
theorem St.O.slices {w : World} {lo hi : Nat} {x : St} {p : PS} (h : St.O w lo hi x p) : ∃ a c b d, p = ⟨.slice a x.schema.length c, .slice b x.files.length d, x.next⟩ := by
  obtain ⟨pq, pr, pn⟩ := p
  obtain ⟨mid, hm, h1, ⟨ps, h2, _⟩, h3⟩ := h
  obtain ⟨a, c, ha⟩ := own_slice h1.1
  obtain ⟨b, d, hb⟩ := own_slice h2.1
  simp only at ha hb h3
  subst ha; subst hb; subst h3
  exact ⟨a, c, b, d, rfl⟩
theorem OwnFls.setBelow {w : World} {lo hi : Nat} {v : Value} {xs : List Fl} (h : OwnFls w lo hi v xs) {a : Addr} (ha : a.block < lo) (u : Value) : OwnFls (w.setCell a u) lo hi v xs :=
  OwnFls.touch h (a := a.block) (b := a.block + 1) (Touch.setCell (Touch.refl _ _ _) (Nat.le_refl _) (Nat.lt_succ_self _) u) (.inr ha)
theorem St.sz_small {x : St} (h : x.sz ≤ 4000000) : x.small := by
  unfold St.sz at h
  refine ⟨by omega, by omega, fun y hy => Fl.small_of ?_⟩
  have := mem_szAll (f := Fl.sz) hy
  omega
theorem St.small_of {x : St} (h : x.sz ≤ 4000000) : x.small := St.sz_small h
theorem St.cnt_ok {x : St} (h : x.sz ≤ 4000000) : 0 ≤ cntL cntFl x.files ∧ cntL cntFl x.files ≤ 56000000 ∧ (x.schema.length : Int) ≤ 4000000 := by
  unfold St.sz at h
  have := Fl.cnt_ok (xs := x.files) (by omega) (by omega)
  omega
set_option maxRecDepth 100000 in
set_option maxHeartbeats 1000000 in
theorem toStore (x : St) (p : PS) (w : World) (h : St.R w x p) (hx : x.small) :
    Calls Tryz.prog 68 #[p.v] w fun e w' => ∃ p' : PS, e = .returned p'.v ∧ St.O w' w.heap.size w'.heap.size x p' ∧ True ∧ Grew w w' := by
  obtain ⟨p_q, p_r, p_n⟩ := p
  obtain ⟨⟨a_q, ca_q, hq_q, hca_q, hra_q⟩, hr_r, h_n⟩ := h
  simp only at hq_q hr_r h_n
  subst hq_q
  subst h_n
  have HR := Lib.hid hr_r
  obtain ⟨qs, ⟨a_r, ca_r, hq_r, hca_r, hra_r⟩, hall⟩ := hr_r
  subst hq_r
  clear hra_r hall
  have HX := Lib.hid hx.2.2
  go_enter Tryz.func68, Tryz.ntmps68
  go_wp2_with fail
  refine (toFieldS _ _ x.schema _ ⟨a_q, ca_q, rfl, hca_q, hra_q.grew ((((Grew.refl w).alloc _).alloc _).alloc _)⟩ hx.1).mono ?_
  rintro e w1 ⟨v, rfl, ho1, hb1⟩
  obtain ⟨a1, c1, rfl⟩ := own_slice ho1
  have g1 : Grew w w1 := ((((Grew.refl w).alloc _).alloc _).alloc _).trans hb1
  have f1_0_0 := grew_cell (a := ⟨w.heap.size, 0, none⟩) hb1 (by simp [go_sem]; rfl)
  have f1_0_1 := grew_cell (a := ⟨w.heap.size, 1, none⟩) hb1 (by simp [go_sem]; rfl)
  have f1_0_2 := grew_cell (a := ⟨w.heap.size, 2, none⟩) hb1 (by simp [go_sem]; rfl)
  have f1_1_0 := grew_cell (a := ⟨w.heap.size + 1, 0, none⟩) hb1 (by simp [go_sem]; rfl)
  have f1_1_1 := grew_cell (a := ⟨w.heap.size + 1, 1, none⟩) hb1 (by simp [go_sem]; rfl)
  have f1_1_2 := grew_cell (a := ⟨w.heap.size + 1, 2, none⟩) hb1 (by simp [go_sem]; rfl)
  have z1_1 := fun j => grew_frozen (a := ⟨w.heap.size + 1, j, none⟩) hb1 (by simp) (by simp [go_sem])
  have f1_2_0 := grew_cell (a := ⟨w.heap.size + 1 + 1, 0, none⟩) hb1 (by simp [go_sem]; rfl)
  have f1_2_1 := grew_cell (a := ⟨w.heap.size + 1 + 1, 1, none⟩) hb1 (by simp [go_sem]; rfl)
  have f1_2_2 := grew_cell (a := ⟨w.heap.size + 1 + 1, 2, none⟩) hb1 (by simp [go_sem]; rfl)
  have z1_2 := fun j => grew_frozen (a := ⟨w.heap.size + 1 + 1, j, none⟩) hb1 (by simp) (by simp [go_sem])
  have hsz1 : w.heap.size + 3 ≤ w1.heap.size := by have := hb1.size; simpa using this
  go_wp2_with fail
  refine (toFileS _ x.files _ (RdLs.grew HR.out (g1.setCell (p := ⟨w.heap.size + 1 + 1, 0, none⟩) (by dsimp only; omega) _)) hx.2.1 HX.out).mono ?_
  rintro e w2 ⟨v, rfl, ho2, hb2⟩
  have HO2 := Lib.hid ho2
  obtain ⟨ps2, hop2, _, _⟩ := ho2
  obtain ⟨a2, c2, rfl⟩ := own_slice hop2.1
  clear hop2
  have g2 : Grew w w2 := (g1.setCell (p := ⟨w.heap.size + 1 + 1, 0, none⟩) (by dsimp only; omega) _).trans hb2
  have f2_0_2 := grew_cell (a := ⟨w.heap.size, 2, none⟩) hb2 (by simp [go_sem, f1_0_2]; try rfl)
  have f2_1_0 := grew_cell (a := ⟨w.heap.size + 1, 0, none⟩) hb2 (by simp [go_sem, f1_1_0]; try rfl)
  have f2_1_1 := grew_cell (a := ⟨w.heap.size + 1, 1, none⟩) hb2 (by simp [go_sem, f1_1_1]; try rfl)
  have f2_1_2 := grew_cell (a := ⟨w.heap.size + 1, 2, none⟩) hb2 (by simp [go_sem, f1_1_2]; try rfl)
  have z2_1 := fun j => grew_frozen (a := ⟨w.heap.size + 1, j, none⟩) hb2 (by have := hb1.size; simp at this ⊢; omega) (by simp [go_sem, z1_1])
  have f2_2_0 := grew_cell (a := ⟨w.heap.size + 1 + 1, 0, none⟩) hb2 (by simp [go_sem, f1_2_0]; try rfl)
  have f2_2_1 := grew_cell (a := ⟨w.heap.size + 1 + 1, 1, none⟩) hb2 (by simp [go_sem, f1_2_1]; try rfl)
  have f2_2_2 := grew_cell (a := ⟨w.heap.size + 1 + 1, 2, none⟩) hb2 (by simp [go_sem, f1_2_2]; try rfl)
  have z2_2 := fun j => grew_frozen (a := ⟨w.heap.size + 1 + 1, j, none⟩) hb2 (by have := hb1.size; simp at this ⊢; omega) (by simp [go_sem, z1_2])
  clear f1_0_0 f1_0_1 f1_0_2 f1_1_0 f1_1_1 f1_1_2 f1_2_0 f1_2_1 f1_2_2 z1_1 z1_2
  have ow1 := Lib.hid (ownsRow_grew (ownsRow_setCell_below (ownsRow_base ho1 (base' := w.heap.size + 3) (by simp)) (a := ⟨w.heap.size + 1 + 1, 0, none⟩) (by simp) (Value.slice a1 x.schema.length c1)) hb2)
  have hlt1 := Lib.hid (fun b hb => (ho1.lt b hb).2)
  have HM := Lib.hid hb2.size
  clear ho1
  go_wp2
  refine bodyPost_ret (v := PS.v ⟨.slice a1 x.schema.length c1, .slice a2 x.files.length c2, x.next⟩) (by simp [results, Tryz.results68, go_sem, f2_1_0, f2_1_1, f2_1_2]) rfl ⟨⟨.slice a1 x.schema.length c1, .slice a2 x.files.length c2, x.next⟩, rfl, ⟨w1.heap.size, ⟨by omega, ?_⟩, ⟨?_, hlt1.out⟩, ?_, rfl⟩, trivial, ?_⟩
  · have := HM.out; simpa using this
  · refine ownsRow_base (base := w.heap.size + 3) ?_ (by omega)
    repeat' (first | with_reducible exact ow1.out | with_reducible refine ownsRow_setCell_below ?_ ?_ _ | (dsimp only; omega))
  · have h1 : OwnFls w2 w1.heap.size w2.heap.size (.slice a2 x.files.length c2) x.files := by have := HO2.out; simpa using this
    have h2 : ∀ w', OwnFls w' w1.heap.size w2.heap.size (.slice a2 x.files.length c2) x.files → w'.heap.size = w2.heap.size → OwnFls w' w1.heap.size w'.heap.size (.slice a2 x.files.length c2) x.files := fun w' h e => by rw [e]; exact h
    refine h2 _ ?_ (by simp)
    repeat' (first | with_reducible exact h1 | with_reducible refine OwnFls.setBelow ?_ ?_ _ | (dsimp only; omega))
  · repeat' (first | with_reducible exact g2 | with_reducible refine Grew.setCell ?_ ?_ _ | (dsimp only; omega))
set_option maxRecDepth 100000 in
set_option maxHeartbeats 1000000 in
theorem eqStore (x : St) (p p' : PS) (w : World) (h : St.R w x p) (h' : St.R w x p') (hx : x.small) :
    Calls Tryz.prog 70 #[p.v, p'.v] w fun e w' => e = .returned (.bool true) ∧ Grew w w' := by
  obtain ⟨p_q, p_r, p_n⟩ := p
  obtain ⟨hr_q, hr_r, h_n⟩ := h
  obtain ⟨p_q', p_r', p_n'⟩ := p'
  obtain ⟨hr_q', hr_r', h_n'⟩ := h'
  simp only at hr_q hr_r h_n hr_q' hr_r' h_n'
  subst h_n
  obtain rfl := h_n'
  have HR := Lib.hid hr_r
  have HR' := Lib.hid hr_r'
  clear hr_r hr_r'
  have HX := Lib.hid hx.2.2
  go_enter Tryz.func70, Tryz.ntmps70
  go_wp2_with fail
  refine (eqFieldS _ _ _ x.schema _ (hr_q.grew (((Grew.refl w).alloc _).alloc _)) (hr_q'.grew (((Grew.refl w).alloc _).alloc _)) hx.1).mono ?_
  rintro e w1 ⟨rfl, hb1⟩
  have g1 : Grew w w1 := (((Grew.refl w).alloc _).alloc _).trans hb1
  have f1_0_0 := grew_cell (a := ⟨w.heap.size, 0, none⟩) hb1 (by simp [go_sem]; rfl)
  have f1_0_1 := grew_cell (a := ⟨w.heap.size, 1, none⟩) hb1 (by simp [go_sem]; rfl)
  have f1_0_2 := grew_cell (a := ⟨w.heap.size, 2, none⟩) hb1 (by simp [go_sem]; rfl)
  have f1_1_0 := grew_cell (a := ⟨w.heap.size + 1, 0, none⟩) hb1 (by simp [go_sem]; rfl)
  have f1_1_1 := grew_cell (a := ⟨w.heap.size + 1, 1, none⟩) hb1 (by simp [go_sem]; rfl)
  have f1_1_2 := grew_cell (a := ⟨w.heap.size + 1, 2, none⟩) hb1 (by simp [go_sem]; rfl)
  go_wp2_with fail
  refine (eqFileS _ _ x.files _ (RdLs.grew HR.out g1) (RdLs.grew HR'.out g1) hx.2.1 HX.out).mono ?_
  rintro e w2 ⟨rfl, hb2⟩
  have g2 : Grew w w2 := g1.trans hb2
  have f2_0_2 := grew_cell hb2 f1_0_2
  have f2_1_2 := grew_cell hb2 f1_1_2
  go_wp2
  go_ret
  exact ⟨rfl, g2⟩
set_option maxRecDepth 100000 in
set_option maxHeartbeats 1000000 in
theorem szStore (x : St) (p : PS) (l : Int) (w : World) (h : St.R w x p) (ho : x.schema.length ≤ maxLen ∧ (∀ y, y ∈ x.schema → y.ok0) ∧ x.files.length ≤ maxLen ∧ (∀ y, y ∈ x.files → y.ok0) ∧ (-9223372036854775808 ≤ x.next ∧ x.next ≤ 9223372036854775807)) (hl : 0 ≤ l) (hl2 : l ≤ 4000000) :
    Calls Tryz.prog 65 #[p.v, .int .i64 l] w fun e w' => ∃ r : Int, e = .returned (.int .i64 r) ∧ Left l x.sz r ∧ Grew w w' := by
  obtain ⟨p_q, p_r, p_n⟩ := p
  obtain ⟨⟨a_q, ca_q, hq_q, hca_q, hra_q⟩, hr_r, h_n⟩ := h
  simp only at hq_q hr_r h_n
  subst hq_q
  subst h_n
  have HR := Lib.hid hr_r
  obtain ⟨qs, ⟨a_r, ca_r, hq_r, hca_r, hra_r⟩, hall⟩ := hr_r
  subst hq_r
  clear hra_r hall
  have o1 := Lib.hid ho.1
  have o2 := Lib.hid ho.2.1
  have o3 := Lib.hid ho.2.2.1
  have o4 := Lib.hid ho.2.2.2.1
  clear ho
  go_enter Tryz.func65, Tryz.ntmps65
  go_wp2_with fail
  refine (szFieldS _ _ x.schema _ _ ⟨a_q, ca_q, rfl, hca_q, hra_q.grew ((Grew.refl w).alloc _)⟩ o1.out o2.out (by omega) (by omega)).mono ?_
  rintro e w1 ⟨r1, rfl, h1, gs1⟩
  rcases h1 with rfl | ⟨h1, hnn1⟩
  · go_wp2
    go_ret
    exact ⟨_, rfl, .inl rfl, ((Grew.refl w).alloc _).trans gs1⟩
  · have H1 := Lib.hid h1
    have hle1 : r1 ≤ 4000000 := by omega
    clear h1
    have f1_0 := grew_cell (a := ⟨w.heap.size, 0, none⟩) gs1 (by simp [go_sem]; try rfl)
    have f1_1 := grew_cell (a := ⟨w.heap.size, 1, none⟩) gs1 (by simp [go_sem]; try rfl)
    have f1_2 := grew_cell (a := ⟨w.heap.size, 2, none⟩) gs1 (by simp [go_sem]; try rfl)
    have gw1 : Grew w w1 := ((Grew.refl w).alloc _).trans gs1
    go_wp2_with fail
    refine (szFileS _ x.files _ _ (RdLs.grew HR.out gw1) o3.out o4.out (by omega) (by omega)).mono ?_
    rintro e w2 ⟨r2, rfl, h2, gs2⟩
    rcases h2 with rfl | ⟨h2, hnn2⟩
    · go_wp2
      go_ret
      exact ⟨_, rfl, .inl rfl, gw1.trans gs2⟩
    · have H2 := Lib.hid h2
      have hle2 : r2 ≤ 4000000 := by omega
      clear h2
      have gw2 : Grew w w2 := gw1.trans gs2
      go_wp2
      go_ret
      exact ⟨_, rfl, .inr ⟨by unfold St.sz; have := H1.out; have := H2.out; omega, hnn2⟩, gw2⟩
set_option maxRecDepth 100000 in
set_option maxHeartbeats 1000000 in
theorem markStore (x : St) (p : PS) (k0 : Int) (w : World) (lo hi : Nat) (h : St.O w lo hi x p) (hx : x.small) (h0 : 0 ≤ k0) (h1 : k0 ≤ 2000000000000000) (hc : 0 ≤ cntL cntFl x.files ∧ cntL cntFl x.files ≤ 56000000) :
    Calls Tryz.prog 73 #[p.v, .int .i64 k0] w fun e w' => e = .returned (.int .i64 (k0 + (x.schema.length : Int) * 2 + cntL cntFl x.files)) ∧ True ∧ Touch lo hi w w' := by
  obtain ⟨sa, sc, fa, fc, rfl⟩ := h.slices
  obtain ⟨mid, ⟨hm1, hm2⟩, hq, hr, _⟩ := h
  simp only at hq hr
  have HQ := Lib.hid hq
  have HR := Lib.hid hr
  have hlo : hi ≤ w.heap.size ∨ w.heap.size < hi := by omega
  have HX := Lib.hid hx.2.2
  clear hr
  obtain ⟨lo1, hi1, hl1, hh1, hqt, htight⟩ := hq.tight
  have HQT := Lib.hid hqt
  have hbx : w.heap.size < lo1 ∨ hi1 ≤ w.heap.size := by
    rcases Nat.lt_or_ge w.heap.size lo1 with h | h
    · exact .inl h
    · rcases Nat.lt_or_ge w.heap.size hi1 with h2 | h2
      · have := (HQT.out.1.lt _ (htight _ h h2)).2; omega
      · exact .inr h2
  clear hq hqt htight
  have f0 : (w.alloc (.cells #[.slice sa x.schema.length sc, .slice fa x.files.length fc, .int .i64 x.next] 27)).cell? ⟨w.heap.size, 1, none⟩ = some (.slice fa x.files.length fc) := by simp
  have hg := (Grew.refl w).alloc (.cells #[.slice sa x.schema.length sc, .slice fa x.files.length fc, .int .i64 x.next] 27)
  go_enter Tryz.func73, Tryz.ntmps73
  go_wp2_with fail
  refine (markFieldS _ x.schema.length x.schema k0 _ lo1 hi1 (HQT.out.grew hg) hx.1 h0 (by omega)).mono ?_
  rintro e w1 ⟨rfl, ho, ht⟩
  have hr1 := Lib.hid (OwnFls.touch (OwnFls.grew HR.out hg) ht (.inr hh1))
  have f1 := touch_cell ht hbx f0
  have ht2 : Touch lo hi w w1 := (hg.touch lo hi).trans (ht.mono hl1 (Nat.le_trans hh1 hm2))
  have hsl : (x.schema.length : Int) ≤ 4000000 := by have := hx.1; omega
  clear ho f0
  go_wp2_with fail
  refine (markFileS _ x.files _ _ mid hi hr1.out hx.2.1 HX.out (by omega) (by omega)).mono ?_
  rintro e w2 ⟨rfl, _, ht3⟩
  go_wp2
  go_ret
  exact ⟨rfl, trivial, ht2.trans (ht3.mono hm1 (Nat.le_refl _))⟩
end Go.Proofs.YtejgpghcahinhaaGreat
namespace Go.Proofs.YtejgpghcahinhaaGreat
open Go.RowKit
set_option linter.unusedVariables false
def canB (f : Fl) (u : Int) : Bool := inB u 0 2 && ((f.owner == u) || f.shared)
def visF (fs : List Fl) (u : Int) : List Fl := fs.filter fun f => canB f u
def hasF (fs : List Fl) (id : Int) : Bool := fs.any fun g => g.id == id
def visL (fs : List Fl) (f : Fl) : Fl := if hasF fs f.link then f else ⟨f.id, f.owner, f.shared, 0, f.attrs⟩
def visS (s : St) (u : Int) : St := ⟨s.schema, (visF s.files u).map (visL (visF s.files u)), s.next⟩
theorem visF_yes {fs : List Fl} {u : Int} {k : Nat} {f : Fl} (h : fs[k]? = some f) (hc : canB f u = true) : visF (fs.take (k + 1)) u = visF (fs.take k) u ++ [f] := by
  unfold visF; rw [take_snoc h, List.filter_append]; simp [hc]
theorem visF_no {fs : List Fl} {u : Int} {k : Nat} {f : Fl} (h : fs[k]? = some f) (hc : canB f u = false) : visF (fs.take (k + 1)) u = visF (fs.take k) u := by
  unfold visF; rw [take_snoc h, List.filter_append]; simp [hc]
theorem visF_le (fs : List Fl) (u : Int) : (visF fs u).length ≤ fs.length := List.length_filter_le _ _
theorem visL_id (fs : List Fl) (f : Fl) : (visL fs f).id = f.id := by unfold visL; split <;> rfl
theorem visL_sz (fs : List Fl) (f : Fl) : (visL fs f).sz = f.sz := by unfold visL; split <;> rfl
def visM (fs : List Fl) (i : Nat) : List Fl := (fs.take i).map (visL fs) ++ fs.drop i
theorem visM_zero (fs : List Fl) : visM fs 0 = fs := by simp [visM]
theorem visM_all {fs : List Fl} {n : Nat} (h : fs.length = n) : visM fs n = fs.map (visL fs) := by
  unfold visM; rw [take_all h, List.drop_eq_nil_of_le (by omega), List.append_nil]
theorem visM_len (fs : List Fl) (i : Nat) : (visM fs i).length = fs.length := by
  unfold visM; rw [List.length_append, List.length_map, List.length_take, List.length_drop]; omega
theorem visM_at {fs : List Fl} {i : Nat} {f : Fl} (h : fs[i]? = some f) : (visM fs i)[i]? = some f := by
  have hi := (List.getElem?_eq_some_iff.1 h).1
  unfold visM
  rw [List.getElem?_append_right (by rw [List.length_map, List.length_take]; omega), List.length_map, List.length_take, List.getElem?_drop]
  rw [show i + (i - min i fs.length) = i by omega]; exact h
theorem visM_succ {fs : List Fl} {i : Nat} {f : Fl} (h : fs[i]? = some f) : visM fs (i + 1) = (visM fs i).set i (visL fs f) := by
  have hi := (List.getElem?_eq_some_iff.1 h).1
  unfold visM
  rw [take_snoc h, List.map_append, List.map_cons, List.map_nil, List.drop_eq_getElem_cons hi]
  have hf : fs[i] = f := by rw [List.getElem?_eq_getElem hi] at h; exact Option.some.inj h
  rw [List.set_append_right _ _ (by rw [List.length_map, List.length_take]; omega), List.length_map, List.length_take]
  rw [show i - min i fs.length = 0 by omega, List.set_cons_zero, List.append_assoc]; rfl
theorem hasF_visM (fs : List Fl) (i : Nat) (id : Int) : hasF (visM fs i) id = hasF fs id := by
  unfold hasF visM
  rw [List.any_append, List.any_map]
  have h : ((fun g : Fl => g.id == id) ∘ visL fs) = fun g => g.id == id := by
    funext f; show ((visL fs f).id == id) = (f.id == id); rw [visL_id]
  rw [h, ← List.any_append, List.take_append_drop]
theorem visF_sz (u : Int) : ∀ (fs : List Fl), szAll Fl.sz (visF fs u) ≤ szAll Fl.sz fs
  | [] => Nat.le_refl _
  | f :: fs => by
    have ih := visF_sz u fs
    unfold visF at ih ⊢
    rw [List.filter_cons]
    split
    · simp [szAll] at ih ⊢; omega
    · simp [szAll] at ih ⊢; omega
theorem visL_all (gs : List Fl) : ∀ (fs : List Fl), szAll Fl.sz (fs.map (visL gs)) = szAll Fl.sz fs
  | [] => rfl
  | f :: fs => by
    have ih := visL_all gs fs
    have h := visL_sz gs f
    simp [szAll] at ih ⊢; omega
theorem visS_sz (s : St) (u : Int) : (visS s u).sz ≤ s.sz := by
  have h1 := visF_sz u s.files
  have h2 := visF_le s.files u
  have h3 := visL_all (visF s.files u) (visF s.files u)
  unfold St.sz visS
  simp only [List.length_map]
  omega
def GrowF (w : World) (base : Nat) (v : Value) (fs : List Fl) : Prop := ∃ ps : List P5, w.ownsRow base 79 5 v fs.length (rows P5.c ps) ∧ All2 (Fl.O w base w.heap.size) fs ps
theorem GrowF.nil (w : World) (base : Nat) : GrowF w base (.slice none 0 0) [] := ⟨[], World.ownsRow_nil _ _ _ _, All2.nil⟩
theorem GrowF.rd {w : World} {base : Nat} {v : Value} {fs : List Fl} (h : GrowF w base v fs) : RdLs w v fs := by
  obtain ⟨ps, h1, h2⟩ := h
  exact ⟨ps, rd_of_own h1, h2.mono fun x p h => h.rd⟩
theorem GrowF.grew {w w' : World} {base : Nat} {v : Value} {fs : List Fl} (h : GrowF w base v fs) (hg : Grew w w') : GrowF w' base v fs := by
  obtain ⟨ps, h1, h2⟩ := h
  exact ⟨ps, ownsRow_grew h1 hg, h2.mono fun x p h => (h.grew hg).mono (Nat.le_refl _) hg.size⟩
theorem GrowF.snoc {w w' : World} {base lo2 : Nat} {v v' : Value} {fs : List Fl} {f : Fl} {ps : List P5} {p : P5} (h1 : w.ownsRow base 79 5 v fs.length (rows P5.c ps)) (h2 : All2 (Fl.O w base lo2) fs ps)
    (hp : Fl.O w lo2 w.heap.size f p) (hb : base ≤ lo2) (hl : lo2 ≤ w.heap.size) (hown : w'.ownsRow base 79 5 v' (fs.length + 1) (rows P5.c ps ++ P5.c p)) (hg : w.grownBy w' v.ownBlock) (hs : w.heap.size ≤ w'.heap.size) : GrowF w' base v' (fs ++ [f]) := by
  refine ⟨ps ++ [p], ?_, ?_⟩
  · rw [List.length_append, rows_append]; simpa [rows] using hown
  · refine All2.snoc (h2.mono fun x q hr => ?_) ?_
    · exact ⟨hr.1, hr.2.1, hr.2.2.1, hr.2.2.2.1, (own_grown hr.2.2.2.2 h1 (by decide) hg).mono (Nat.le_refl _) (Nat.le_trans hl hs)⟩
    · exact ⟨hp.1, hp.2.1, hp.2.2.1, hp.2.2.2.1, (own_grown hp.2.2.2.2 h1 (by decide) hg).mono hb hs⟩
theorem GrowF.at {w : World} {base g n cap i : Nat} {fs : List Fl} (h : GrowF w base (.slice (some ⟨g, 0, none⟩) n cap) fs) (hn : fs.length = n) (hi : i < n) :
    ∃ f a c, Hid (fs[i]? = some f) ∧ w.cell? ⟨g, i * 5, none⟩ = some (.int .i64 f.id) ∧ w.cell? ⟨g, i * 5 + 1, none⟩ = some (.int .i64 f.owner) ∧ w.cell? ⟨g, i * 5 + 2, none⟩ = some (.bool f.shared) ∧ w.cell? ⟨g, i * 5 + 3, none⟩ = some (.int .i64 f.link) ∧ w.cell? ⟨g, i * 5 + 4, none⟩ = some (.slice a f.attrs.length c) ∧ w.frozen? ⟨g, i * 5 + 3, none⟩ = false ∧ g < w.heap.size ∧ base ≤ g := by
  obtain ⟨ps, h1, h2⟩ := h
  rw [hn] at h1
  have hpl := h2.1
  have hp : ps[i]? = some ps[i] := List.getElem?_eq_getElem (by omega)
  have hf : fs[i]? = some fs[i] := List.getElem?_eq_getElem (by omega)
  have hO := h2.2 i _ _ hf hp
  obtain ⟨p', hp', hc⟩ := own_row P5.len (by decide) h1 hi
  obtain rfl := Option.some.inj (hp'.out.symm.trans hp)
  obtain ⟨a, c, hq⟩ := own_slice hO.2.2.2.2.1
  have e0 := hc 0 (.int .i64 ps[i].id) rfl
  have e1 := hc 1 (.int .i64 ps[i].owner) rfl
  have e2 := hc 2 (.bool ps[i].shared) rfl
  have e3 := hc 3 (.int .i64 ps[i].link) rfl
  have e4 := hc 4 ps[i].attrs rfl
  rw [hO.1] at e0
  rw [hO.2.1] at e1
  rw [hO.2.2.1] at e2
  rw [hO.2.2.2.1] at e3
  rw [hq] at e4
  exact ⟨fs[i], a, c, Lib.hid hf, e0, e1, e2, e3, e4, h1.frozenAt _, (h1.lt g rfl).2, (h1.lt g rfl).1⟩
theorem GrowF.put {w : World} {base g n cap i : Nat} {fs : List Fl} {f : Fl} {l : Int} (h : GrowF w base (.slice (some ⟨g, 0, none⟩) n cap) fs) (hn : fs.length = n) (hf : fs[i]? = some f) :
    GrowF (w.setCell ⟨g, i * 5 + 3, none⟩ (.int .i64 l)) base (.slice (some ⟨g, 0, none⟩) n cap) (fs.set i ⟨f.id, f.owner, f.shared, l, f.attrs⟩) := by
  obtain ⟨ps, h1, h2⟩ := h
  rw [hn] at h1
  have hpl := h2.1
  have hi := (List.getElem?_eq_some_iff.1 hf).1
  have hp : ps[i]? = some ps[i] := List.getElem?_eq_getElem (by omega)
  have hO := h2.2 i f ps[i] hf hp
  have ht : Touch g (g + 1) w (w.setCell ⟨g, i * 5 + 3, none⟩ (.int .i64 l)) := Touch.setCell (p := ⟨g, i * 5 + 3, none⟩) (Touch.refl g (g + 1) w) (Nat.le_refl g) (Nat.lt_succ_self g) _
  have hss : (w.setCell ⟨g, i * 5 + 3, none⟩ (.int .i64 l)).heap.size = w.heap.size := by simp
  refine ⟨ps.set i ⟨ps[i].id, ps[i].owner, ps[i].shared, l, ps[i].attrs⟩, ?_, ?_⟩
  · have e := ownsRow_stores h1 (i * 5 + 3) (.int .i64 l)
    rw [List.length_set, hn]
    have e2 : (rows P5.c ps).set (i * 5 + 3) (.int .i64 l) = rows P5.c (ps.set i ⟨ps[i].id, ps[i].owner, ps[i].shared, l, ps[i].attrs⟩) := by
      have h5 := setnP5 ps i ps[i] hp ps[i].id ps[i].owner ps[i].shared l
      have a0 : (rows P5.c ps).set (i * 5) (.int .i64 ps[i].id) = rows P5.c ps := set_noop (rows_at P5.len ps i 0 ps[i] hp (by decide))
      have a1 : (rows P5.c ps).set (i * 5 + 1) (.int .i64 ps[i].owner) = rows P5.c ps := set_noop (rows_at P5.len ps i 1 ps[i] hp (by decide))
      have a2 : (rows P5.c ps).set (i * 5 + 2) (.bool ps[i].shared) = rows P5.c ps := set_noop (rows_at P5.len ps i 2 ps[i] hp (by decide))
      rw [a0, a1, a2] at h5
      exact h5
    rw [← e2]; exact e
  · have hall : All2 (Fl.O (w.setCell ⟨g, i * 5 + 3, none⟩ (.int .i64 l)) base (w.setCell ⟨g, i * 5 + 3, none⟩ (.int .i64 l)).heap.size) fs ps := h2.mono fun x q hq => by
      have h6 := hq.touch' ht (fun v c hv hc => by
        simp only [Fl.subs, List.mem_cons, List.not_mem_nil, or_false] at hv
        subst hv
        have h7 := own_type hq.2.2.2.2.1 h1 (by decide) hc
        have h8 : c ≠ g := fun e => h7 (by rw [e]; rfl)
        omega)
      exact h6.mono (Nat.le_refl _) (by omega)
    have hO2 := hall.2 i f ps[i] hf hp
    exact hall.set i _ _ ⟨hO2.1, hO2.2.1, hO2.2.2.1, rfl, hO2.2.2.2.2⟩
end Go.Proofs.YtejgpghcahinhaaGreat
