/- The laws' helpers over directories, results, diffs and files: sizes, marks, and the look at marks. -/
import Derived.Test.YtopcdojekjlijaaGreatH4
namespace Go.Proofs.YtopcdojekjlijaaGreat
open Go.RowKit
set_option linter.unusedVariables false
def mkL {α : Type} (mk : Int → α → α) (cnt : α → Int) : Int → List α → List α
  | _, [] => []
  | c, x :: xs => mk c x :: mkL mk cnt (c + cnt x) xs
def cntL {α : Type} (cnt : α → Int) (xs : List α) : Int := (xs.map cnt).sum
theorem mkL_length {α : Type} (mk : Int → α → α) (cnt : α → Int) : ∀ (c : Int) (xs : List α), (mkL mk cnt c xs).length = xs.length := by
  intro c xs
  induction xs generalizing c with
  | nil => rfl
  | cons x xs ih => simp [mkL, ih]
theorem cntL_snoc {α : Type} (cnt : α → Int) (xs : List α) (x : α) : cntL cnt (xs ++ [x]) = cntL cnt xs + cnt x := by simp [cntL]
theorem mkL_snoc {α : Type} (mk : Int → α → α) (cnt : α → Int) : ∀ (c : Int) (xs : List α) (x : α), mkL mk cnt c (xs ++ [x]) = mkL mk cnt c xs ++ [mk (c + cntL cnt xs) x] := by
  intro c xs
  induction xs generalizing c with
  | nil => intro x; simp [mkL, cntL]
  | cons y ys ih => intro x; simp only [List.cons_append, mkL, ih, cntL, List.map_cons, List.sum_cons, Int.add_assoc]
theorem mkL_get {α : Type} (mk : Int → α → α) (cnt : α → Int) : ∀ (c : Int) (xs : List α) (j : Nat), (mkL mk cnt c xs)[j]? = (xs[j]?).map (mk (c + cntL cnt (xs.take j))) := by
  intro c xs
  induction xs generalizing c with
  | nil => intro j; simp [mkL]
  | cons y ys ih =>
    intro j
    cases j with
    | zero => simp [mkL, cntL]
    | succ j => simp only [mkL, List.getElem?_cons_succ, ih, List.take_succ_cons, cntL, List.map_cons, List.sum_cons, Int.add_assoc]
theorem cntL_le {α : Type} (cnt : α → Int) (h0 : ∀ x, 0 ≤ cnt x) : ∀ (xs : List α) (k : Nat), 0 ≤ cntL cnt (xs.take k) ∧ cntL cnt (xs.take k) ≤ cntL cnt xs := by
  intro xs
  induction xs with
  | nil => intro k; simp [cntL]
  | cons y ys ih =>
    intro k
    have h1 := (ih ys.length).1
    rw [List.take_length] at h1
    cases k with
    | zero => have := h0 y; simp only [List.take_zero, cntL, List.map_nil, List.sum_nil, List.map_cons, List.sum_cons] at h1 ⊢; omega
    | succ k => have := ih k; have := h0 y; simp only [List.take_succ_cons, cntL, List.map_cons, List.sum_cons] at *; omega
theorem All2.upd {α β : Type} {R S : α → β → Prop} {xs : List α} {ys : List β} (h : All2 R xs ys) (k : Nat) (x : α) (y : β) (hs : ∀ (i : Nat) a b, i ≠ k → xs[i]? = some a → ys[i]? = some b → R a b → S a b) (hr : S x y) : All2 S (xs.set k x) (ys.set k y) := by
  refine ⟨by simp [h.1], fun j a b ha hb => ?_⟩
  by_cases hij : k = j
  · subst hij
    have hl := (List.getElem?_eq_some_iff.1 ha).1
    simp at hl
    rw [List.getElem?_set_self hl] at ha
    rw [List.getElem?_set_self (by rw [← h.1]; exact hl)] at hb
    simp at ha hb; subst ha; subst hb; exact hr
  · rw [List.getElem?_set_ne hij] at ha hb
    exact hs j a b (fun e => hij e.symm) ha hb (h.2 j a b ha hb)
theorem Dis.flat {β : Type} {subs : β → List Value} : ∀ {ps : List β}, Dis (ps.flatMap subs) → ∀ (i j : Nat) (p q : β) (u v : Value) (b : Nat), i ≠ j → ps[i]? = some p → ps[j]? = some q → u ∈ subs p → v ∈ subs q → u.ownBlock = some b → v.ownBlock ≠ some b := by
  intro ps
  induction ps with
  | nil => intro _ i j p q u v b _ h; simp at h
  | cons r rs ih =>
    intro h i j p q u v b hij hp hq hu hv hb
    rw [List.flatMap_cons] at h
    cases i with
    | zero =>
      cases j with
      | zero => exact absurd rfl hij
      | succ j =>
        simp at hp hq; subst hp
        exact Dis.two h hu (List.mem_flatMap.2 ⟨q, List.mem_of_getElem? hq, hv⟩) hb
    | succ i =>
      cases j with
      | zero =>
        simp at hp hq; subst hq
        intro hvb
        exact Dis.two h hv (List.mem_flatMap.2 ⟨p, List.mem_of_getElem? hp, hu⟩) hvb hb
      | succ j => exact ih h.right i j p q u v b (by omega) (by simpa using hp) (by simpa using hq) hu hv hb
theorem Dis.part {β : Type} {subs : β → List Value} : ∀ {ps : List β}, Dis (ps.flatMap subs) → ∀ (i : Nat) (p : β), ps[i]? = some p → Dis (subs p) := by
  intro ps
  induction ps with
  | nil => intro _ i p h; simp at h
  | cons r rs ih =>
    intro h i p hp
    rw [List.flatMap_cons] at h
    cases i with
    | zero => simp at hp; subst hp; exact h.left
    | succ i => exact ih h.right i p (by simpa using hp)
theorem flatMap_set_same {β : Type} {subs : β → List Value} : ∀ (ps : List β) (k : Nat) (p q : β), ps[k]? = some p → subs q = subs p → (ps.set k q).flatMap subs = ps.flatMap subs := by
  intro ps
  induction ps with
  | nil => intro k p q h; simp at h
  | cons r rs ih =>
    intro k p q h hs
    cases k with
    | zero => simp at h; subst h; simp [hs]
    | succ k => simp only [List.set_cons_succ, List.flatMap_cons]; rw [ih k p q (by simpa using h) hs]
/-- A region that holds no more than the row's own block. -/
theorem Own.tight {w : World} {lo hi : Nat} {e : TypeId} {k n : Nat} {v : Value} {cs : List Value} (h : Own w lo hi e k v n cs) :
    ∃ lo' hi', lo ≤ lo' ∧ hi' ≤ hi ∧ Own w lo' hi' e k v n cs ∧ ∀ b, lo' ≤ b → b < hi' → v.ownBlock = some b := by
  rcases h.cases with ⟨rfl, rfl, rfl⟩ | ⟨g, cap, rfl, hg1, hg2, hc, hown⟩
  · by_cases hl : hi ≤ lo
    · exact ⟨lo, hi, Nat.le_refl _, Nat.le_refl _, h, fun b h1 h2 => by omega⟩
    · exact ⟨lo, lo, Nat.le_refl _, by omega, ⟨h.1, fun b hb => by cases hb⟩, fun b h1 h2 => by omega⟩
  · refine ⟨g, g + 1, hg1, hg2, ⟨hown, fun b hb => ?_⟩, fun b h1 h2 => ?_⟩
    · simp [Value.ownBlock] at hb; omega
    · have : b = g := by omega
      subst this; rfl
theorem Own.touch' {w w' : World} {lo hi a b : Nat} {e : TypeId} {k n : Nat} {v : Value} {cs : List Value} (h : Own w lo hi e k v n cs) (ht : Touch a b w w') (hd : ∀ c, v.ownBlock = some c → c < a ∨ b ≤ c) : Own w' lo hi e k v n cs := by
  refine ⟨?_, h.2⟩
  obtain ⟨hl, ⟨rfl, rfl⟩ | ⟨g, cap, cur, rfl, hg, hh, hr⟩⟩ := h.1
  · exact ⟨hl, .inl ⟨rfl, rfl⟩⟩
  · have hb := h.1.lt g rfl
    exact ⟨hl, .inr ⟨g, cap, cur, rfl, hg, (ht.block g hb.2 (hd g rfl)).trans hh, hr⟩⟩
theorem ownsRow_touch {w w' : World} {base a b : Nat} {e : TypeId} {k n g cap : Nat} {cs : List Value} (h : w.ownsRow base e k (.slice (some ⟨g, 0, none⟩) n cap) n cs) (ht : Touch a b w w') (hd : g < a ∨ b ≤ g) : w'.ownsRow base e k (.slice (some ⟨g, 0, none⟩) n cap) n cs :=
  (Own.touch' (own_of h) ht (fun c hc => by simp [Value.ownBlock] at hc; omega)).1
theorem touch_cell {w w' : World} {a b : Nat} (ht : Touch a b w w') {p : Addr} {u : Value} (hd : p.block < a ∨ b ≤ p.block) (h : w.cell? p = some u) : w'.cell? p = some u := by
  rw [World.cell?_of_block (w := w) (w' := w') (ht.block p.block (lt_of_cell h) hd)]; exact h
theorem lt_block_of_cell {w : World} {a : Addr} {v : Value} (h : w.cell? a = some v) : a.block < w.heap.size := lt_of_cell h

def Dr.ok0 (x : Dr) : Prop := (x.name.size ≤ maxLen) ∧ (x.query.length ≤ maxLen) ∧ (∀ y, y ∈ x.query → N.ok0 y)
def Dr.sz (x : Dr) : Nat := x.name.size + (x.query.length + szAll N.sz x.query)
set_option maxHeartbeats 1000000 in
theorem szDir (x : Dr) (p : P2) (l : Int) (w : World) (h : Dr.R w x p) (ho : x.ok0) (hl : 0 ≤ l) (hl2 : l ≤ 4000000) :
    Calls Tryz.prog 33 #[p.v, .int .i64 l] w fun e w' => ∃ r : Int, e = .returned (.int .i64 r) ∧ Left l x.sz r ∧ Grew w w' := by
  obtain ⟨p_name, p_q⟩ := p
  obtain ⟨h_name, ⟨a_q, ca_q, hq_q, hca_q, hra_q⟩⟩ := h
  simp only at h_name hq_q
  subst hq_q
  subst h_name
  have o_name := ho.1
  have o_q := Lib.hid (ho.2.1)
  have oo_q := Lib.hid (ho.2.2)
  clear ho
  unfold maxLen at o_name
  by_cases h0 : l - (x.name.size : Int) < 0
  · go_enter Tryz.func33, Tryz.ntmps33
    go_wp2
    go_ret
    exact ⟨_, rfl, .inl rfl, (Grew.refl _).alloc _⟩
  · go_enter Tryz.func33, Tryz.ntmps33
    go_wp2_with fail
    refine (szNodeS _ _ x.query _ _ ⟨a_q, ca_q, rfl, hca_q, hra_q.grew ((Grew.refl w).alloc _)⟩ o_q.out oo_q.out (by omega) (by omega)).mono ?_
    rintro e w1 ⟨r1, rfl, h1, gs1⟩
    rcases h1 with rfl | ⟨h1, hnn1⟩
    · go_wp2
      go_ret
      exact ⟨_, rfl, .inl rfl, ((Grew.refl w).alloc _).trans gs1⟩
    · have H1 := Lib.hid h1
      have hle1 : r1 ≤ 4000000 := by omega
      clear h1
      have gw1 : Grew w w1 := ((Grew.refl w).alloc _).trans gs1
      go_wp2
      go_ret
      exact ⟨_, rfl, .inr ⟨by unfold Dr.sz; have := H1.out; omega, hnn1⟩, gw1⟩
set_option maxRecDepth 100000 in
set_option maxHeartbeats 1000000 in
theorem szDirS (va : Value) (xs : List Dr) (l : Int) (w : World) (ha : RdDs w va xs) (hn : xs.length ≤ maxLen) (hok : ∀ x, x ∈ xs → x.ok0) (hl : 0 ≤ l) (hl2 : l ≤ 4000000) :
    Calls Tryz.prog 8 #[va, .int .i64 l] w fun e w' => ∃ r : Int, e = .returned (.int .i64 r) ∧ Left l (xs.length + szAll Dr.sz xs) r ∧ Grew w w' := by
  unfold maxLen at hn
  obtain ⟨qs, ⟨a, ca, rfl, hca, hra⟩, hall⟩ := ha
  have HO := Lib.hid hok
  have HA := Lib.hid hall
  clear hok hall
  generalize hnn : xs.length = n at *
  have HX := Lib.hid hnn
  clear hnn
  by_cases h0 : l - (n : Int) < 0
  · go_enter Tryz.func8, Tryz.ntmps8
    go_wp2
    go_ret
    exact ⟨_, rfl, .inl rfl, Grew.refl _⟩
  · go_enter Tryz.func8, Tryz.ntmps8
    go_wp2
    go_loopw [1, 5] (fun c i wr => ∃ (k : Nat) (r : Int), k ≤ n ∧ i = .int .i64 k ∧ c = .int .i64 r ∧ 0 ≤ r ∧ r ≤ l ∧ Hid (r = l - (n : Int) - szAll Dr.sz (xs.take k)) ∧ Grew w wr) (fun _ i _ => n - (intOf i).toNat)
    case atStart => exact ⟨0, _, Nat.zero_le _, rfl, rfl, by omega, by omega, Lib.hid (by simp [szAll]), Grew.refl _⟩
    case round =>
      obtain ⟨k, r, hk, rfl, rfl, hr0, hrl, hr, hbel⟩ := hrel
      by_cases hlt : k < n
      · obtain ⟨b1, o1, p, rfl, hpk, c0, c1⟩ := (hra.grew hbel).getP2 hlt
        obtain ⟨x, hxk, hxr⟩ := HA.out.get hpk.out
        have hxo := Lib.hid (HO.out x (List.mem_of_getElem? hxk.out))
        go_wp2_with fail
        refine (szDir x p r _ (hxr.grew hbel) hxo.out hr0 (by omega)).mono ?_
        rintro e w1 ⟨r1, rfl, h1, g1⟩
        rcases h1 with rfl | ⟨h1, h2⟩
        · go_wp2
          go_ret
          exact ⟨_, rfl, .inl rfl, hbel.trans g1⟩
        · have H1 := Lib.hid h1
          have hle : r1 ≤ l := by omega
          clear h1
          go_wp2
          go_roundw
          case rel => exact ⟨k + 1, r1, by omega, by go_num, rfl, h2, hle, Lib.hid (by rw [take_snoc hxk.out, szAll_snoc]; have := H1.out; have := hr.out; omega), hbel.trans g1⟩
          case measure => simp [intOf]; omega
      · obtain rfl : k = n := by omega
        go_wp2
        go_ret
        exact ⟨_, rfl, .inr ⟨by have := hr.out; rw [take_all HX.out] at this; omega, hr0⟩, hbel⟩
/-- The marks of one. -/
def cntDr (x : Dr) : Int := 1 + (((x.query.length : Nat) : Int) * 7)
theorem cntDr_0 (x : Dr) : 0 ≤ cntDr x := by unfold cntDr; omega
def mkDr1 (c : Int) (x : Dr) : Dr := ⟨mtext (c), ((List.range x.query.length).map fun (j : Nat) => mkN ((c + 1) + (j : Int) * 7))⟩
def mkDrs (c : Int) (xs : List Dr) : List Dr := mkL mkDr1 cntDr c xs
theorem Dr.O.touch' {w w' : World} {lo hi a b : Nat} {x : Dr} {p : P2} (h : Dr.O w lo hi x p) (ht : Touch a b w w') (hd : ∀ v c, v ∈ Dr.subs p → v.ownBlock = some c → c < a ∨ b ≤ c) : Dr.O w' lo hi x p := ⟨h.1, (h.2).touch' ht (fun c hc => hd _ c (by simp [Dr.subs]) hc)⟩
set_option maxRecDepth 100000 in
set_option maxHeartbeats 4000000 in
/-- What is marked holds the marks, and nothing else has turned. -/
theorem markDirS (va : Value) (xs : List Dr) (k0 : Int) (w : World) (lo hi : Nat) (ha : OwnDrs w lo hi va xs) (hx : xs.length ≤ 4000000) (hs : ∀ x, x ∈ xs → x.small) (h0 : 0 ≤ k0) (h1 : k0 + cntL cntDr xs ≤ 3000000000000000) :
    Calls Tryz.prog 23 #[va, .int .i64 k0] w fun e w' => e = .returned (.int .i64 (k0 + cntL cntDr xs)) ∧ OwnDrs w' lo hi va (mkDrs k0 xs) ∧ Touch lo hi w w' := by
  obtain ⟨ps, hop, hall, hdis⟩ := ha
  rcases hop.cases with ⟨rfl, hn0, _⟩ | ⟨g, cap, rfl, hg1, hg2, hcap, hown⟩
  · have hxs : xs = [] := List.length_eq_zero_iff.1 hn0
    subst hxs
    have hp : ps = [] := List.length_eq_zero_iff.1 hall.1.symm
    subst hp
    go_enter Tryz.func23, Tryz.ntmps23
    go_wp2
    refine wp_loop_rounds 1 ?_
    rw [rounds_succ]
    go_wp2
    go_ret
    exact ⟨ret_int (by simp [cntL]), ⟨[], hop, All2.nil, hdis⟩, Touch.refl _ _ _⟩
  · have HS := Lib.hid hs
    have HOP := Lib.hid hop
    have HH := Lib.hid h1
    have hpl : Hid (ps.length = xs.length) := Lib.hid hall.1.symm
    clear hop hs h1
    generalize hnn : xs.length = n at *
    have HX := Lib.hid hnn
    clear hnn
    go_enter Tryz.func23, Tryz.ntmps23
    go_wp2
    go_loopw [1, 5] (fun c i wr => ∃ (k : Nat) (ps : List P2), k ≤ n ∧ i = .int .i64 k ∧ c = .int .i64 (k0 + cntL cntDr (xs.take k)) ∧ Touch lo hi w wr ∧ wr.ownsRow g 69 2 (.slice (some ⟨g, 0, none⟩) n cap) n (rows P2.c ps) ∧ All2 (Dr.O wr lo hi) (mkDrs k0 (xs.take k) ++ xs.drop k) ps ∧ Dis (.slice (some ⟨g, 0, none⟩) n cap :: ps.flatMap Dr.subs)) (fun _ i _ => n - (intOf i).toNat)
    case atStart => exact ⟨0, ps, Nat.zero_le _, rfl, by simp [cntL], Touch.refl _ _ _, hown, by simpa [mkDrs, mkL] using hall, hdis⟩
    case round =>
      obtain ⟨k, ps, hk, rfl, rfl, hbel, hown, hall, hdis⟩ := hrel
      have hcb := cntL_le cntDr cntDr_0 xs k
      by_cases hlt : k < n
      · have hxk : xs[k]? = some (xs[k]'(by have := HX.out; omega)) := List.getElem?_eq_getElem _
        generalize (xs[k]'(by have := HX.out; omega)) = x at hxk
        have HXK := Lib.hid hxk
        have hcs := (cntL_le cntDr cntDr_0 xs (k + 1)).2
        rw [take_snoc hxk, cntL_snoc] at hcs
        clear hxk
        have hxs := HS.out x (List.mem_of_getElem? HXK.out)
        have hcx : cntL cntDr (xs.take k) + cntDr x ≤ 3000000000000000 - k0 := by have := HH.out; omega
        clear hcs
        obtain ⟨p, hpk, d0, d1⟩ := ownP2 hown hlt
        have hlk : (mkDrs k0 (xs.take k)).length = k := by unfold mkDrs; rw [mkL_length, List.length_take, HX.out]; omega
        have hL : (mkDrs k0 (xs.take k) ++ xs.drop k)[k]? = some x := by
          rw [List.getElem?_append_right (by omega), hlk, Nat.sub_self, List.getElem?_drop, Nat.add_zero]; exact HXK.out
        have hO := hall.2 k _ _ hL hpk.out
        have HL := Lib.hid hL
        have HLK := Lib.hid hlk
        clear hL hlk
        obtain ⟨r_name, r_q⟩ := p
        obtain ⟨t_q, u_q, e_q⟩ := own_slice (hO.2).1
        simp only at e_q
        subst e_q
        generalize hcc : cntL cntDr (xs.take k) = cc at *
        have HCC := Lib.hid hcc
        clear hcc
        have hcx' := hcx
        unfold cntDr at hcx'
        have hf0 := fun j => hown.frozenAt j
        go_wp2_with fail
        refine (markText _ _ (by omega) (by omega)).mono ?_
        rintro e w1 ⟨rfl, hb1⟩
        have ho1 := ownsRow_grew hown hb1
        have hf1 := fun j => ho1.frozenAt j
        have y1_0 := grew_cell hb1 (a := ⟨g, k * 2, none⟩) (by first | exact d0 | simp [go_sem, d0])
        have y1_1 := grew_cell hb1 (a := ⟨g, k * 2 + 1, none⟩) (by first | exact d1 | simp [go_sem, d1])
        go_wp2_with fail
        have ow2 := hO.2
        have hne2 : ∀ c, Value.ownBlock (.slice t_q x.query.length u_q) = some c → c ≠ g := fun c hc e => hdis.head (u := .slice t_q x.query.length u_q) (List.mem_flatMap.2 ⟨(⟨r_name, .slice t_q x.query.length u_q⟩ : P2), List.mem_of_getElem? hpk.out, by simp [Dr.subs]⟩) (b := g) rfl (by rw [← e]; exact hc)
        have oc2 := (Own.touch' (ow2.grew hb1) (a := g) (b := g + 1) (Touch.setCell (Touch.refl _ _ _) (p := ⟨g, k * 2, none⟩) (Nat.le_refl _) (Nat.lt_succ_self _) (.string (mtext (k0 + cc)))) (fun c hc => by have := hne2 c hc; omega))
        obtain ⟨lo2, hi2, hlo2, hhi2, ot2, htt2⟩ := Own.tight oc2
        refine (markNodeS _ _ x.query _ _ lo2 hi2 ot2 hxs (by omega) (by omega)).mono ?_
        rintro e w2 ⟨rfl, om2, ht2⟩
        have hgo2 : g < lo2 ∨ hi2 ≤ g := by
          by_cases h1 : lo2 ≤ g
          · by_cases h2 : g < hi2
            · exact absurd rfl (hne2 g (htt2 g h1 h2))
            · exact .inr (by omega)
          · exact .inl (by omega)
        have ho2 := ownsRow_touch (ownsRow_stores ho1 (k * 2) (.string (mtext (k0 + cc)))) ht2 hgo2
        have hf2 := fun j => ho2.frozenAt j
        go_wp2
        go_roundw
        case rel =>
          refine ⟨k + 1, ps.set k (⟨mtext (k0 + cc), .slice t_q x.query.length u_q⟩ : P2), by omega, by go_num, ?_, ?_, ?_, ?_, ?_⟩
          · rw [take_snoc HXK.out, cntL_snoc, HCC.out]
            unfold cntDr
            congr 1
            omega
          · exact hbel.trans ((Touch.setCell ((Touch.refl lo hi wr).grew hb1) (p := ⟨g, k * 2, none⟩) hg1 hg2 (.string (mtext (k0 + cc)))).trans (ht2.mono hlo2 hhi2))
          · have hst := ho2
            rw [setnP2 ps k _ hpk.out] at hst
            exact hst
          · have e1 : mkDrs k0 (xs.take (k + 1)) ++ xs.drop (k + 1) = (mkDrs k0 (xs.take k) ++ xs.drop k).set k (mkDr1 (k0 + cc) x) := by
              have hd : xs.drop k = x :: xs.drop (k + 1) := by
                have h2 := List.drop_eq_getElem_cons (l := xs) (i := k) (by have := HX.out; omega)
                have h3 := HXK.out
                rw [List.getElem?_eq_getElem (by have := HX.out; omega)] at h3
                simp only [Option.some.injEq] at h3
                rw [h3] at h2; exact h2
              rw [set_append_left _ _ k _ _ _ HLK.out hd, take_snoc HXK.out]
              unfold mkDrs
              rw [mkL_snoc, HCC.out]
            rw [e1]
            exact All2.upd hall k _ _ (fun i a b hik ha hb hr => by
              have hng : ∀ v c, v ∈ Dr.subs b → v.ownBlock = some c → c ≠ g := fun v c hv hc e => hdis.head (List.mem_flatMap.2 ⟨b, List.mem_of_getElem? hb, hv⟩) (b := g) rfl (by rw [← e]; exact hc)
              have hnt2 : ∀ v c, v ∈ Dr.subs b → v.ownBlock = some c → c < lo2 ∨ hi2 ≤ c := by
                intro v c hv hc
                by_cases h1 : lo2 ≤ c
                · by_cases h2 : c < hi2
                  · exact absurd (htt2 c h1 h2) (hdis.tail.flat i k b _ v _ c hik hb hpk.out hv (by simp [Dr.subs]) hc)
                  · exact .inr (by omega)
                · exact .inl (by omega)
              exact (Dr.O.touch' (Dr.O.touch' (hr.grew hb1) (a := g) (b := g + 1) (Touch.setCell (Touch.refl _ _ _) (p := ⟨g, k * 2, none⟩) (Nat.le_refl _) (Nat.lt_succ_self _) (.string (mtext (k0 + cc)))) (fun v c hv hc => by have := hng v c hv hc; omega)) ht2 (fun v c hv hc => hnt2 v c hv hc))) ⟨rfl, (by have hz := (om2.mono hlo2 hhi2); simpa [mkDr1] using hz)⟩
          · rw [flatMap_set_same (subs := Dr.subs) ps k _ (⟨mtext (k0 + cc), .slice t_q x.query.length u_q⟩ : P2) hpk.out rfl]
            exact hdis
        case measure => simp [intOf]; omega
      · obtain rfl : k = n := by omega
        go_wp2
        go_ret
        rw [take_all HX.out] at hall ⊢
        rw [List.drop_eq_nil_of_le (by have := HX.out; omega), List.append_nil] at hall
        refine ⟨rfl, ⟨ps, ?_, hall, hdis⟩, hbel⟩
        have hl : (mkDrs k0 xs).length = k := by unfold mkDrs; rw [mkL_length, HX.out]
        rw [hl]
        exact ⟨ownsRow_base hown hg1, fun b hb => by simp [Value.ownBlock] at hb; omega⟩
def Rs.ok0 (x : Rs) : Prop := (x.name.size ≤ maxLen) ∧ (x.ids.length ≤ maxLen)
def Rs.sz (x : Rs) : Nat := x.name.size + (x.ids.length)
set_option maxHeartbeats 1000000 in
theorem szResult (x : Rs) (p : P2) (l : Int) (w : World) (h : Rs.R w x p) (ho : x.ok0) (hl : 0 ≤ l) (hl2 : l ≤ 4000000) :
    Calls Tryz.prog 43 #[p.v, .int .i64 l] w fun e w' => ∃ r : Int, e = .returned (.int .i64 r) ∧ Left l x.sz r ∧ Grew w w' := by
  obtain ⟨p_name, p_q⟩ := p
  obtain ⟨h_name, ⟨a_q, ca_q, hq_q, hca_q, hra_q⟩⟩ := h
  simp only at h_name hq_q
  subst hq_q
  subst h_name
  have o_name := ho.1
  have o_q := Lib.hid (ho.2)
  clear ho
  unfold maxLen at o_name
  by_cases h0 : l - (x.name.size : Int) < 0
  · go_enter Tryz.func43, Tryz.ntmps43
    go_wp2
    go_ret
    exact ⟨_, rfl, .inl rfl, (Grew.refl _).alloc _⟩
  · go_enter Tryz.func43, Tryz.ntmps43
    go_wp2_with fail
    refine (szIntS _ _ _ _ _ (by omega) (by omega) o_q.out).mono ?_
    rintro e w1 ⟨r1, rfl, h1, gs1⟩
    rcases h1 with rfl | ⟨h1, hnn1⟩
    · go_wp2
      go_ret
      exact ⟨_, rfl, .inl rfl, ((Grew.refl w).alloc _).trans gs1⟩
    · have H1 := Lib.hid h1
      have hle1 : r1 ≤ 4000000 := by omega
      clear h1
      have gw1 : Grew w w1 := ((Grew.refl w).alloc _).trans gs1
      go_wp2
      go_ret
      exact ⟨_, rfl, .inr ⟨by unfold Rs.sz; have := H1.out; omega, hnn1⟩, gw1⟩
set_option maxRecDepth 100000 in
set_option maxHeartbeats 1000000 in
theorem szResultS (va : Value) (xs : List Rs) (l : Int) (w : World) (ha : RdRs w va xs) (hn : xs.length ≤ maxLen) (hok : ∀ x, x ∈ xs → x.ok0) (hl : 0 ≤ l) (hl2 : l ≤ 4000000) :
    Calls Tryz.prog 15 #[va, .int .i64 l] w fun e w' => ∃ r : Int, e = .returned (.int .i64 r) ∧ Left l (xs.length + szAll Rs.sz xs) r ∧ Grew w w' := by
  unfold maxLen at hn
  obtain ⟨qs, ⟨a, ca, rfl, hca, hra⟩, hall⟩ := ha
  have HO := Lib.hid hok
  have HA := Lib.hid hall
  clear hok hall
  generalize hnn : xs.length = n at *
  have HX := Lib.hid hnn
  clear hnn
  by_cases h0 : l - (n : Int) < 0
  · go_enter Tryz.func15, Tryz.ntmps15
    go_wp2
    go_ret
    exact ⟨_, rfl, .inl rfl, Grew.refl _⟩
  · go_enter Tryz.func15, Tryz.ntmps15
    go_wp2
    go_loopw [1, 5] (fun c i wr => ∃ (k : Nat) (r : Int), k ≤ n ∧ i = .int .i64 k ∧ c = .int .i64 r ∧ 0 ≤ r ∧ r ≤ l ∧ Hid (r = l - (n : Int) - szAll Rs.sz (xs.take k)) ∧ Grew w wr) (fun _ i _ => n - (intOf i).toNat)
    case atStart => exact ⟨0, _, Nat.zero_le _, rfl, rfl, by omega, by omega, Lib.hid (by simp [szAll]), Grew.refl _⟩
    case round =>
      obtain ⟨k, r, hk, rfl, rfl, hr0, hrl, hr, hbel⟩ := hrel
      by_cases hlt : k < n
      · obtain ⟨b1, o1, p, rfl, hpk, c0, c1⟩ := (hra.grew hbel).getP2 hlt
        obtain ⟨x, hxk, hxr⟩ := HA.out.get hpk.out
        have hxo := Lib.hid (HO.out x (List.mem_of_getElem? hxk.out))
        go_wp2_with fail
        refine (szResult x p r _ (hxr.grew hbel) hxo.out hr0 (by omega)).mono ?_
        rintro e w1 ⟨r1, rfl, h1, g1⟩
        rcases h1 with rfl | ⟨h1, h2⟩
        · go_wp2
          go_ret
          exact ⟨_, rfl, .inl rfl, hbel.trans g1⟩
        · have H1 := Lib.hid h1
          have hle : r1 ≤ l := by omega
          clear h1
          go_wp2
          go_roundw
          case rel => exact ⟨k + 1, r1, by omega, by go_num, rfl, h2, hle, Lib.hid (by rw [take_snoc hxk.out, szAll_snoc]; have := H1.out; have := hr.out; omega), hbel.trans g1⟩
          case measure => simp [intOf]; omega
      · obtain rfl : k = n := by omega
        go_wp2
        go_ret
        exact ⟨_, rfl, .inr ⟨by have := hr.out; rw [take_all HX.out] at this; omega, hr0⟩, hbel⟩
/-- The marks of one. -/
def cntRs (x : Rs) : Int := 1 + (((x.ids.length : Nat) : Int))
theorem cntRs_0 (x : Rs) : 0 ≤ cntRs x := by unfold cntRs; omega
def mkRs1 (c : Int) (x : Rs) : Rs := ⟨mtext (c), ((List.range x.ids.length).map fun (j : Nat) => (c + 1) + (j : Int))⟩
def mkRss (c : Int) (xs : List Rs) : List Rs := mkL mkRs1 cntRs c xs
theorem Rs.O.touch' {w w' : World} {lo hi a b : Nat} {x : Rs} {p : P2} (h : Rs.O w lo hi x p) (ht : Touch a b w w') (hd : ∀ v c, v ∈ Rs.subs p → v.ownBlock = some c → c < a ∨ b ≤ c) : Rs.O w' lo hi x p := ⟨h.1, (h.2).touch' ht (fun c hc => hd _ c (by simp [Rs.subs]) hc)⟩
set_option maxRecDepth 100000 in
set_option maxHeartbeats 4000000 in
/-- What is marked holds the marks, and nothing else has turned. -/
theorem markResultS (va : Value) (xs : List Rs) (k0 : Int) (w : World) (lo hi : Nat) (ha : OwnRss w lo hi va xs) (hx : xs.length ≤ 4000000) (hs : ∀ x, x ∈ xs → x.small) (h0 : 0 ≤ k0) (h1 : k0 + cntL cntRs xs ≤ 3000000000000000) :
    Calls Tryz.prog 24 #[va, .int .i64 k0] w fun e w' => e = .returned (.int .i64 (k0 + cntL cntRs xs)) ∧ OwnRss w' lo hi va (mkRss k0 xs) ∧ Touch lo hi w w' := by
  obtain ⟨ps, hop, hall, hdis⟩ := ha
  rcases hop.cases with ⟨rfl, hn0, _⟩ | ⟨g, cap, rfl, hg1, hg2, hcap, hown⟩
  · have hxs : xs = [] := List.length_eq_zero_iff.1 hn0
    subst hxs
    have hp : ps = [] := List.length_eq_zero_iff.1 hall.1.symm
    subst hp
    go_enter Tryz.func24, Tryz.ntmps24
    go_wp2
    refine wp_loop_rounds 1 ?_
    rw [rounds_succ]
    go_wp2
    go_ret
    exact ⟨ret_int (by simp [cntL]), ⟨[], hop, All2.nil, hdis⟩, Touch.refl _ _ _⟩
  · have HS := Lib.hid hs
    have HOP := Lib.hid hop
    have HH := Lib.hid h1
    have hpl : Hid (ps.length = xs.length) := Lib.hid hall.1.symm
    clear hop hs h1
    generalize hnn : xs.length = n at *
    have HX := Lib.hid hnn
    clear hnn
    go_enter Tryz.func24, Tryz.ntmps24
    go_wp2
    go_loopw [1, 5] (fun c i wr => ∃ (k : Nat) (ps : List P2), k ≤ n ∧ i = .int .i64 k ∧ c = .int .i64 (k0 + cntL cntRs (xs.take k)) ∧ Touch lo hi w wr ∧ wr.ownsRow g 82 2 (.slice (some ⟨g, 0, none⟩) n cap) n (rows P2.c ps) ∧ All2 (Rs.O wr lo hi) (mkRss k0 (xs.take k) ++ xs.drop k) ps ∧ Dis (.slice (some ⟨g, 0, none⟩) n cap :: ps.flatMap Rs.subs)) (fun _ i _ => n - (intOf i).toNat)
    case atStart => exact ⟨0, ps, Nat.zero_le _, rfl, by simp [cntL], Touch.refl _ _ _, hown, by simpa [mkRss, mkL] using hall, hdis⟩
    case round =>
      obtain ⟨k, ps, hk, rfl, rfl, hbel, hown, hall, hdis⟩ := hrel
      have hcb := cntL_le cntRs cntRs_0 xs k
      by_cases hlt : k < n
      · have hxk : xs[k]? = some (xs[k]'(by have := HX.out; omega)) := List.getElem?_eq_getElem _
        generalize (xs[k]'(by have := HX.out; omega)) = x at hxk
        have HXK := Lib.hid hxk
        have hcs := (cntL_le cntRs cntRs_0 xs (k + 1)).2
        rw [take_snoc hxk, cntL_snoc] at hcs
        clear hxk
        have hxs := HS.out x (List.mem_of_getElem? HXK.out)
        have hcx : cntL cntRs (xs.take k) + cntRs x ≤ 3000000000000000 - k0 := by have := HH.out; omega
        clear hcs
        obtain ⟨p, hpk, d0, d1⟩ := ownP2 hown hlt
        have hlk : (mkRss k0 (xs.take k)).length = k := by unfold mkRss; rw [mkL_length, List.length_take, HX.out]; omega
        have hL : (mkRss k0 (xs.take k) ++ xs.drop k)[k]? = some x := by
          rw [List.getElem?_append_right (by omega), hlk, Nat.sub_self, List.getElem?_drop, Nat.add_zero]; exact HXK.out
        have hO := hall.2 k _ _ hL hpk.out
        have HL := Lib.hid hL
        have HLK := Lib.hid hlk
        clear hL hlk
        obtain ⟨r_name, r_q⟩ := p
        obtain ⟨t_q, u_q, e_q⟩ := own_slice (hO.2).1
        simp only at e_q
        subst e_q
        generalize hcc : cntL cntRs (xs.take k) = cc at *
        have HCC := Lib.hid hcc
        clear hcc
        have hcx' := hcx
        unfold cntRs at hcx'
        have hf0 := fun j => hown.frozenAt j
        go_wp2_with fail
        refine (markText _ _ (by omega) (by omega)).mono ?_
        rintro e w1 ⟨rfl, hb1⟩
        have ho1 := ownsRow_grew hown hb1
        have hf1 := fun j => ho1.frozenAt j
        have y1_0 := grew_cell hb1 (a := ⟨g, k * 2, none⟩) (by first | exact d0 | simp [go_sem, d0])
        have y1_1 := grew_cell hb1 (a := ⟨g, k * 2 + 1, none⟩) (by first | exact d1 | simp [go_sem, d1])
        go_wp2_with fail
        have ow2 := hO.2
        have hne2 : ∀ c, Value.ownBlock (.slice t_q x.ids.length u_q) = some c → c ≠ g := fun c hc e => hdis.head (u := .slice t_q x.ids.length u_q) (List.mem_flatMap.2 ⟨(⟨r_name, .slice t_q x.ids.length u_q⟩ : P2), List.mem_of_getElem? hpk.out, by simp [Rs.subs]⟩) (b := g) rfl (by rw [← e]; exact hc)
        have oc2 := (Own.touch' (ow2.grew hb1) (a := g) (b := g + 1) (Touch.setCell (Touch.refl _ _ _) (p := ⟨g, k * 2, none⟩) (Nat.le_refl _) (Nat.lt_succ_self _) (.string (mtext (k0 + cc)))) (fun c hc => by have := hne2 c hc; omega))
        obtain ⟨lo2, hi2, hlo2, hhi2, ot2, htt2⟩ := Own.tight oc2
        refine (markIntS _ _ x.ids _ _ lo2 hi2 ot2 hxs (by omega) (by omega)).mono ?_
        rintro e w2 ⟨rfl, om2, ht2⟩
        have hgo2 : g < lo2 ∨ hi2 ≤ g := by
          by_cases h1 : lo2 ≤ g
          · by_cases h2 : g < hi2
            · exact absurd rfl (hne2 g (htt2 g h1 h2))
            · exact .inr (by omega)
          · exact .inl (by omega)
        have ho2 := ownsRow_touch (ownsRow_stores ho1 (k * 2) (.string (mtext (k0 + cc)))) ht2 hgo2
        have hf2 := fun j => ho2.frozenAt j
        go_wp2
        go_roundw
        case rel =>
          refine ⟨k + 1, ps.set k (⟨mtext (k0 + cc), .slice t_q x.ids.length u_q⟩ : P2), by omega, by go_num, ?_, ?_, ?_, ?_, ?_⟩
          · rw [take_snoc HXK.out, cntL_snoc, HCC.out]
            unfold cntRs
            congr 1
            omega
          · exact hbel.trans ((Touch.setCell ((Touch.refl lo hi wr).grew hb1) (p := ⟨g, k * 2, none⟩) hg1 hg2 (.string (mtext (k0 + cc)))).trans (ht2.mono hlo2 hhi2))
          · have hst := ho2
            rw [setnP2 ps k _ hpk.out] at hst
            exact hst
          · have e1 : mkRss k0 (xs.take (k + 1)) ++ xs.drop (k + 1) = (mkRss k0 (xs.take k) ++ xs.drop k).set k (mkRs1 (k0 + cc) x) := by
              have hd : xs.drop k = x :: xs.drop (k + 1) := by
                have h2 := List.drop_eq_getElem_cons (l := xs) (i := k) (by have := HX.out; omega)
                have h3 := HXK.out
                rw [List.getElem?_eq_getElem (by have := HX.out; omega)] at h3
                simp only [Option.some.injEq] at h3
                rw [h3] at h2; exact h2
              rw [set_append_left _ _ k _ _ _ HLK.out hd, take_snoc HXK.out]
              unfold mkRss
              rw [mkL_snoc, HCC.out]
            rw [e1]
            exact All2.upd hall k _ _ (fun i a b hik ha hb hr => by
              have hng : ∀ v c, v ∈ Rs.subs b → v.ownBlock = some c → c ≠ g := fun v c hv hc e => hdis.head (List.mem_flatMap.2 ⟨b, List.mem_of_getElem? hb, hv⟩) (b := g) rfl (by rw [← e]; exact hc)
              have hnt2 : ∀ v c, v ∈ Rs.subs b → v.ownBlock = some c → c < lo2 ∨ hi2 ≤ c := by
                intro v c hv hc
                by_cases h1 : lo2 ≤ c
                · by_cases h2 : c < hi2
                  · exact absurd (htt2 c h1 h2) (hdis.tail.flat i k b _ v _ c hik hb hpk.out hv (by simp [Rs.subs]) hc)
                  · exact .inr (by omega)
                · exact .inl (by omega)
              exact (Rs.O.touch' (Rs.O.touch' (hr.grew hb1) (a := g) (b := g + 1) (Touch.setCell (Touch.refl _ _ _) (p := ⟨g, k * 2, none⟩) (Nat.le_refl _) (Nat.lt_succ_self _) (.string (mtext (k0 + cc)))) (fun v c hv hc => by have := hng v c hv hc; omega)) ht2 (fun v c hv hc => hnt2 v c hv hc))) ⟨rfl, (by have hz := (om2.mono hlo2 hhi2); simpa [mkRs1] using hz)⟩
          · rw [flatMap_set_same (subs := Rs.subs) ps k _ (⟨mtext (k0 + cc), .slice t_q x.ids.length u_q⟩ : P2) hpk.out rfl]
            exact hdis
        case measure => simp [intOf]; omega
      · obtain rfl : k = n := by omega
        go_wp2
        go_ret
        rw [take_all HX.out] at hall ⊢
        rw [List.drop_eq_nil_of_le (by have := HX.out; omega), List.append_nil] at hall
        refine ⟨rfl, ⟨ps, ?_, hall, hdis⟩, hbel⟩
        have hl : (mkRss k0 xs).length = k := by unfold mkRss; rw [mkL_length, HX.out]
        rw [hl]
        exact ⟨ownsRow_base hown hg1, fun b hb => by simp [Value.ownBlock] at hb; omega⟩
def Df.ok0 (x : Df) : Prop := (x.name.size ≤ maxLen) ∧ (x.added.length ≤ maxLen) ∧ (x.removed.length ≤ maxLen)
def Df.sz (x : Df) : Nat := x.name.size + (x.added.length) + (x.removed.length)
/-- The marks of one. -/
def cntDf (x : Df) : Int := 1 + (((x.added.length : Nat) : Int)) + (((x.removed.length : Nat) : Int))
theorem cntDf_0 (x : Df) : 0 ≤ cntDf x := by unfold cntDf; omega
def mkDf1 (c : Int) (x : Df) : Df := ⟨mtext (c), ((List.range x.added.length).map fun (j : Nat) => (c + 1) + (j : Int)), ((List.range x.removed.length).map fun (j : Nat) => (c + 1 + ((x.added.length : Nat) : Int)) + (j : Int))⟩
def mkDfs (c : Int) (xs : List Df) : List Df := mkL mkDf1 cntDf c xs
def Fl.ok0 (x : Fl) : Prop := (x.attrs.length ≤ maxLen) ∧ (∀ y, y ∈ x.attrs → At.ok0 y)
def Fl.sz (x : Fl) : Nat := (x.attrs.length + szAll At.sz x.attrs)
set_option maxHeartbeats 1000000 in
theorem szFile (x : Fl) (p : P5) (l : Int) (w : World) (h : Fl.R w x p) (ho : x.ok0) (hl : 0 ≤ l) (hl2 : l ≤ 4000000) :
    Calls Tryz.prog 62 #[p.v, .int .i64 l] w fun e w' => ∃ r : Int, e = .returned (.int .i64 r) ∧ Left l x.sz r ∧ Grew w w' := by
  obtain ⟨p_id, p_owner, p_shared, p_link, p_attrs⟩ := p
  obtain ⟨h_id, h_owner, h_shared, h_link, ⟨a_attrs, ca_attrs, hq_attrs, hca_attrs, hra_attrs⟩⟩ := h
  simp only at h_id h_owner h_shared h_link hq_attrs
  subst hq_attrs
  subst h_id
  subst h_owner
  subst h_shared
  subst h_link
  have o_attrs := Lib.hid (ho.1)
  have oo_attrs := Lib.hid (ho.2)
  clear ho
  go_enter Tryz.func62, Tryz.ntmps62
  go_wp2_with fail
  refine (szAttrS _ _ x.attrs _ _ ⟨a_attrs, ca_attrs, rfl, hca_attrs, hra_attrs.grew ((Grew.refl w).alloc _)⟩ o_attrs.out oo_attrs.out (by omega) (by omega)).mono ?_
  rintro e w1 ⟨r1, rfl, h1, gs1⟩
  rcases h1 with rfl | ⟨h1, hnn1⟩
  · go_wp2
    go_ret
    exact ⟨_, rfl, .inl rfl, ((Grew.refl w).alloc _).trans gs1⟩
  · have H1 := Lib.hid h1
    have hle1 : r1 ≤ 4000000 := by omega
    clear h1
    have gw1 : Grew w w1 := ((Grew.refl w).alloc _).trans gs1
    go_wp2
    go_ret
    exact ⟨_, rfl, .inr ⟨by unfold Fl.sz; have := H1.out; omega, hnn1⟩, gw1⟩
set_option maxRecDepth 100000 in
set_option maxHeartbeats 1000000 in
theorem szFileS (va : Value) (xs : List Fl) (l : Int) (w : World) (ha : RdLs w va xs) (hn : xs.length ≤ maxLen) (hok : ∀ x, x ∈ xs → x.ok0) (hl : 0 ≤ l) (hl2 : l ≤ 4000000) :
    Calls Tryz.prog 32 #[va, .int .i64 l] w fun e w' => ∃ r : Int, e = .returned (.int .i64 r) ∧ Left l (xs.length + szAll Fl.sz xs) r ∧ Grew w w' := by
  unfold maxLen at hn
  obtain ⟨qs, ⟨a, ca, rfl, hca, hra⟩, hall⟩ := ha
  have HO := Lib.hid hok
  have HA := Lib.hid hall
  clear hok hall
  generalize hnn : xs.length = n at *
  have HX := Lib.hid hnn
  clear hnn
  by_cases h0 : l - (n : Int) < 0
  · go_enter Tryz.func32, Tryz.ntmps32
    go_wp2
    go_ret
    exact ⟨_, rfl, .inl rfl, Grew.refl _⟩
  · go_enter Tryz.func32, Tryz.ntmps32
    go_wp2
    go_loopw [1, 5] (fun c i wr => ∃ (k : Nat) (r : Int), k ≤ n ∧ i = .int .i64 k ∧ c = .int .i64 r ∧ 0 ≤ r ∧ r ≤ l ∧ Hid (r = l - (n : Int) - szAll Fl.sz (xs.take k)) ∧ Grew w wr) (fun _ i _ => n - (intOf i).toNat)
    case atStart => exact ⟨0, _, Nat.zero_le _, rfl, rfl, by omega, by omega, Lib.hid (by simp [szAll]), Grew.refl _⟩
    case round =>
      obtain ⟨k, r, hk, rfl, rfl, hr0, hrl, hr, hbel⟩ := hrel
      by_cases hlt : k < n
      · obtain ⟨b1, o1, p, rfl, hpk, c0, c1, c2, c3, c4⟩ := (hra.grew hbel).getP5 hlt
        obtain ⟨x, hxk, hxr⟩ := HA.out.get hpk.out
        have hxo := Lib.hid (HO.out x (List.mem_of_getElem? hxk.out))
        go_wp2_with fail
        refine (szFile x p r _ (hxr.grew hbel) hxo.out hr0 (by omega)).mono ?_
        rintro e w1 ⟨r1, rfl, h1, g1⟩
        rcases h1 with rfl | ⟨h1, h2⟩
        · go_wp2
          go_ret
          exact ⟨_, rfl, .inl rfl, hbel.trans g1⟩
        · have H1 := Lib.hid h1
          have hle : r1 ≤ l := by omega
          clear h1
          go_wp2
          go_roundw
          case rel => exact ⟨k + 1, r1, by omega, by go_num, rfl, h2, hle, Lib.hid (by rw [take_snoc hxk.out, szAll_snoc]; have := H1.out; have := hr.out; omega), hbel.trans g1⟩
          case measure => simp [intOf]; omega
      · obtain rfl : k = n := by omega
        go_wp2
        go_ret
        exact ⟨_, rfl, .inr ⟨by have := hr.out; rw [take_all HX.out] at this; omega, hr0⟩, hbel⟩
/-- The marks of one. -/
def cntFl (x : Fl) : Int := 4 + (((x.attrs.length : Nat) : Int) * 4)
theorem cntFl_0 (x : Fl) : 0 ≤ cntFl x := by unfold cntFl; omega
def mkFl1 (c : Int) (x : Fl) : Fl := ⟨(c), (c + 1), ((c + 1 + 1) % 3 == 0), (c + 1 + 1 + 1), ((List.range x.attrs.length).map fun (j : Nat) => mkAt ((c + 1 + 1 + 1 + 1) + (j : Int) * 4))⟩
def mkFls (c : Int) (xs : List Fl) : List Fl := mkL mkFl1 cntFl c xs
theorem Fl.O.touch' {w w' : World} {lo hi a b : Nat} {x : Fl} {p : P5} (h : Fl.O w lo hi x p) (ht : Touch a b w w') (hd : ∀ v c, v ∈ Fl.subs p → v.ownBlock = some c → c < a ∨ b ≤ c) : Fl.O w' lo hi x p := ⟨h.1, h.2.1, h.2.2.1, h.2.2.2.1, (h.2.2.2.2).touch' ht (fun c hc => hd _ c (by simp [Fl.subs]) hc)⟩
set_option maxRecDepth 100000 in
set_option maxHeartbeats 4000000 in
/-- What is marked holds the marks, and nothing else has turned. -/
theorem markFileS (va : Value) (xs : List Fl) (k0 : Int) (w : World) (lo hi : Nat) (ha : OwnFls w lo hi va xs) (hx : xs.length ≤ 4000000) (hs : ∀ x, x ∈ xs → x.small) (h0 : 0 ≤ k0) (h1 : k0 + cntL cntFl xs ≤ 3000000000000000) :
    Calls Tryz.prog 56 #[va, .int .i64 k0] w fun e w' => e = .returned (.int .i64 (k0 + cntL cntFl xs)) ∧ OwnFls w' lo hi va (mkFls k0 xs) ∧ Touch lo hi w w' := by
  obtain ⟨ps, hop, hall, hdis⟩ := ha
  rcases hop.cases with ⟨rfl, hn0, _⟩ | ⟨g, cap, rfl, hg1, hg2, hcap, hown⟩
  · have hxs : xs = [] := List.length_eq_zero_iff.1 hn0
    subst hxs
    have hp : ps = [] := List.length_eq_zero_iff.1 hall.1.symm
    subst hp
    go_enter Tryz.func56, Tryz.ntmps56
    go_wp2
    refine wp_loop_rounds 1 ?_
    rw [rounds_succ]
    go_wp2
    go_ret
    exact ⟨ret_int (by simp [cntL]), ⟨[], hop, All2.nil, hdis⟩, Touch.refl _ _ _⟩
  · have HS := Lib.hid hs
    have HOP := Lib.hid hop
    have HH := Lib.hid h1
    have hpl : Hid (ps.length = xs.length) := Lib.hid hall.1.symm
    clear hop hs h1
    generalize hnn : xs.length = n at *
    have HX := Lib.hid hnn
    clear hnn
    go_enter Tryz.func56, Tryz.ntmps56
    go_wp2
    go_loopw [1, 5] (fun c i wr => ∃ (k : Nat) (ps : List P5), k ≤ n ∧ i = .int .i64 k ∧ c = .int .i64 (k0 + cntL cntFl (xs.take k)) ∧ Touch lo hi w wr ∧ wr.ownsRow g 107 5 (.slice (some ⟨g, 0, none⟩) n cap) n (rows P5.c ps) ∧ All2 (Fl.O wr lo hi) (mkFls k0 (xs.take k) ++ xs.drop k) ps ∧ Dis (.slice (some ⟨g, 0, none⟩) n cap :: ps.flatMap Fl.subs)) (fun _ i _ => n - (intOf i).toNat)
    case atStart => exact ⟨0, ps, Nat.zero_le _, rfl, by simp [cntL], Touch.refl _ _ _, hown, by simpa [mkFls, mkL] using hall, hdis⟩
    case round =>
      obtain ⟨k, ps, hk, rfl, rfl, hbel, hown, hall, hdis⟩ := hrel
      have hcb := cntL_le cntFl cntFl_0 xs k
      by_cases hlt : k < n
      · have hxk : xs[k]? = some (xs[k]'(by have := HX.out; omega)) := List.getElem?_eq_getElem _
        generalize (xs[k]'(by have := HX.out; omega)) = x at hxk
        have HXK := Lib.hid hxk
        have hcs := (cntL_le cntFl cntFl_0 xs (k + 1)).2
        rw [take_snoc hxk, cntL_snoc] at hcs
        clear hxk
        have hxs := HS.out x (List.mem_of_getElem? HXK.out)
        have hcx : cntL cntFl (xs.take k) + cntFl x ≤ 3000000000000000 - k0 := by have := HH.out; omega
        clear hcs
        obtain ⟨p, hpk, d0, d1, d2, d3, d4⟩ := ownP5 hown hlt
        have hlk : (mkFls k0 (xs.take k)).length = k := by unfold mkFls; rw [mkL_length, List.length_take, HX.out]; omega
        have hL : (mkFls k0 (xs.take k) ++ xs.drop k)[k]? = some x := by
          rw [List.getElem?_append_right (by omega), hlk, Nat.sub_self, List.getElem?_drop, Nat.add_zero]; exact HXK.out
        have hO := hall.2 k _ _ hL hpk.out
        have HL := Lib.hid hL
        have HLK := Lib.hid hlk
        clear hL hlk
        obtain ⟨r_id, r_owner, r_shared, r_link, r_attrs⟩ := p
        obtain ⟨t_attrs, u_attrs, e_attrs⟩ := own_slice (hO.2.2.2.2).1
        simp only at e_attrs
        subst e_attrs
        generalize hcc : cntL cntFl (xs.take k) = cc at *
        have HCC := Lib.hid hcc
        clear hcc
        have hcx' := hcx
        unfold cntFl at hcx'
        have hf0 := fun j => hown.frozenAt j
        go_wp2_with fail
        have ow1 := hO.2.2.2.2
        have hne1 : ∀ c, Value.ownBlock (.slice t_attrs x.attrs.length u_attrs) = some c → c ≠ g := fun c hc e => hdis.head (u := .slice t_attrs x.attrs.length u_attrs) (List.mem_flatMap.2 ⟨(⟨r_id, r_owner, r_shared, r_link, .slice t_attrs x.attrs.length u_attrs⟩ : P5), List.mem_of_getElem? hpk.out, by simp [Fl.subs]⟩) (b := g) rfl (by rw [← e]; exact hc)
        have oc1 := (Own.touch' (Own.touch' (Own.touch' (Own.touch' ow1 (a := g) (b := g + 1) (Touch.setCell (Touch.refl _ _ _) (p := ⟨g, k * 5, none⟩) (Nat.le_refl _) (Nat.lt_succ_self _) (.int .i64 (k0 + cc))) (fun c hc => by have := hne1 c hc; omega)) (a := g) (b := g + 1) (Touch.setCell (Touch.refl _ _ _) (p := ⟨g, k * 5 + 1, none⟩) (Nat.le_refl _) (Nat.lt_succ_self _) (.int .i64 (k0 + cc + 1))) (fun c hc => by have := hne1 c hc; omega)) (a := g) (b := g + 1) (Touch.setCell (Touch.refl _ _ _) (p := ⟨g, k * 5 + 2, none⟩) (Nat.le_refl _) (Nat.lt_succ_self _) (.bool (((k0 + cc + 1 + 1) % 3 == 0)))) (fun c hc => by have := hne1 c hc; omega)) (a := g) (b := g + 1) (Touch.setCell (Touch.refl _ _ _) (p := ⟨g, k * 5 + 3, none⟩) (Nat.le_refl _) (Nat.lt_succ_self _) (.int .i64 (k0 + cc + 1 + 1 + 1))) (fun c hc => by have := hne1 c hc; omega))
        obtain ⟨lo1, hi1, hlo1, hhi1, ot1, htt1⟩ := Own.tight oc1
        refine (markAttrS _ _ x.attrs _ _ lo1 hi1 ot1 hxs (by omega) (by omega)).mono ?_
        rintro e w1 ⟨rfl, om1, ht1⟩
        have hgo1 : g < lo1 ∨ hi1 ≤ g := by
          by_cases h1 : lo1 ≤ g
          · by_cases h2 : g < hi1
            · exact absurd rfl (hne1 g (htt1 g h1 h2))
            · exact .inr (by omega)
          · exact .inl (by omega)
        have ho1 := ownsRow_touch (ownsRow_stores (ownsRow_stores (ownsRow_stores (ownsRow_stores hown (k * 5) (.int .i64 (k0 + cc))) (k * 5 + 1) (.int .i64 (k0 + cc + 1))) (k * 5 + 2) (.bool (((k0 + cc + 1 + 1) % 3 == 0)))) (k * 5 + 3) (.int .i64 (k0 + cc + 1 + 1 + 1))) ht1 hgo1
        have hf1 := fun j => ho1.frozenAt j
        go_wp2
        go_roundw
        case rel =>
          refine ⟨k + 1, ps.set k (⟨k0 + cc, k0 + cc + 1, ((k0 + cc + 1 + 1) % 3 == 0), k0 + cc + 1 + 1 + 1, .slice t_attrs x.attrs.length u_attrs⟩ : P5), by omega, by go_num, ?_, ?_, ?_, ?_, ?_⟩
          · rw [take_snoc HXK.out, cntL_snoc, HCC.out]
            unfold cntFl
            congr 1
            omega
          · exact hbel.trans ((Touch.setCell (Touch.setCell (Touch.setCell (Touch.setCell (Touch.refl lo hi wr) (p := ⟨g, k * 5, none⟩) hg1 hg2 (.int .i64 (k0 + cc))) (p := ⟨g, k * 5 + 1, none⟩) hg1 hg2 (.int .i64 (k0 + cc + 1))) (p := ⟨g, k * 5 + 2, none⟩) hg1 hg2 (.bool (((k0 + cc + 1 + 1) % 3 == 0)))) (p := ⟨g, k * 5 + 3, none⟩) hg1 hg2 (.int .i64 (k0 + cc + 1 + 1 + 1))).trans (ht1.mono hlo1 hhi1))
          · have hst := ho1
            rw [setnP5 ps k _ hpk.out] at hst
            exact hst
          · have e1 : mkFls k0 (xs.take (k + 1)) ++ xs.drop (k + 1) = (mkFls k0 (xs.take k) ++ xs.drop k).set k (mkFl1 (k0 + cc) x) := by
              have hd : xs.drop k = x :: xs.drop (k + 1) := by
                have h2 := List.drop_eq_getElem_cons (l := xs) (i := k) (by have := HX.out; omega)
                have h3 := HXK.out
                rw [List.getElem?_eq_getElem (by have := HX.out; omega)] at h3
                simp only [Option.some.injEq] at h3
                rw [h3] at h2; exact h2
              rw [set_append_left _ _ k _ _ _ HLK.out hd, take_snoc HXK.out]
              unfold mkFls
              rw [mkL_snoc, HCC.out]
            rw [e1]
            exact All2.upd hall k _ _ (fun i a b hik ha hb hr => by
              have hng : ∀ v c, v ∈ Fl.subs b → v.ownBlock = some c → c ≠ g := fun v c hv hc e => hdis.head (List.mem_flatMap.2 ⟨b, List.mem_of_getElem? hb, hv⟩) (b := g) rfl (by rw [← e]; exact hc)
              have hnt1 : ∀ v c, v ∈ Fl.subs b → v.ownBlock = some c → c < lo1 ∨ hi1 ≤ c := by
                intro v c hv hc
                by_cases h1 : lo1 ≤ c
                · by_cases h2 : c < hi1
                  · exact absurd (htt1 c h1 h2) (hdis.tail.flat i k b _ v _ c hik hb hpk.out hv (by simp [Fl.subs]) hc)
                  · exact .inr (by omega)
                · exact .inl (by omega)
              exact (Fl.O.touch' (Fl.O.touch' (Fl.O.touch' (Fl.O.touch' (Fl.O.touch' hr (a := g) (b := g + 1) (Touch.setCell (Touch.refl _ _ _) (p := ⟨g, k * 5, none⟩) (Nat.le_refl _) (Nat.lt_succ_self _) (.int .i64 (k0 + cc))) (fun v c hv hc => by have := hng v c hv hc; omega)) (a := g) (b := g + 1) (Touch.setCell (Touch.refl _ _ _) (p := ⟨g, k * 5 + 1, none⟩) (Nat.le_refl _) (Nat.lt_succ_self _) (.int .i64 (k0 + cc + 1))) (fun v c hv hc => by have := hng v c hv hc; omega)) (a := g) (b := g + 1) (Touch.setCell (Touch.refl _ _ _) (p := ⟨g, k * 5 + 2, none⟩) (Nat.le_refl _) (Nat.lt_succ_self _) (.bool (((k0 + cc + 1 + 1) % 3 == 0)))) (fun v c hv hc => by have := hng v c hv hc; omega)) (a := g) (b := g + 1) (Touch.setCell (Touch.refl _ _ _) (p := ⟨g, k * 5 + 3, none⟩) (Nat.le_refl _) (Nat.lt_succ_self _) (.int .i64 (k0 + cc + 1 + 1 + 1))) (fun v c hv hc => by have := hng v c hv hc; omega)) ht1 (fun v c hv hc => hnt1 v c hv hc))) ⟨rfl, rfl, rfl, rfl, (by have hz := (om1.mono hlo1 hhi1); simpa [mkFl1] using hz)⟩
          · rw [flatMap_set_same (subs := Fl.subs) ps k _ (⟨k0 + cc, k0 + cc + 1, ((k0 + cc + 1 + 1) % 3 == 0), k0 + cc + 1 + 1 + 1, .slice t_attrs x.attrs.length u_attrs⟩ : P5) hpk.out rfl]
            exact hdis
        case measure => simp [intOf]; omega
      · obtain rfl : k = n := by omega
        go_wp2
        go_ret
        rw [take_all HX.out] at hall ⊢
        rw [List.drop_eq_nil_of_le (by have := HX.out; omega), List.append_nil] at hall
        refine ⟨rfl, ⟨ps, ?_, hall, hdis⟩, hbel⟩
        have hl : (mkFls k0 xs).length = k := by unfold mkFls; rw [mkL_length, HX.out]
        rw [hl]
        exact ⟨ownsRow_base hown hg1, fun b hb => by simp [Value.ownBlock] at hb; omega⟩
end Go.Proofs.YtopcdojekjlijaaGreat
