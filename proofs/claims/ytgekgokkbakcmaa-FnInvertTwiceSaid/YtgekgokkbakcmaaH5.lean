/- The laws' helpers over directories, results, diffs and files: sizes, marks, and the look at marks. -/
import Derived.Test.YtgekgokkbakcmaaH4
namespace Go.Proofs.Ytgekgokkbakcmaa
open Go.RowKit
set_option linter.unusedVariables false
def mkL {α : Type} (mk : Int → α → α) (cnt : α → Int) : Int → List α → List α
  | _, [] => []
  | c, x :: xs => mk c x :: mkL mk cnt (c + cnt x) xs
def cntL {α : Type} (cnt : α → Int) (xs : List α) : Int := (xs.map cnt).sum
theorem mkL_length {α : Type} (mk : Int → α → α) (cnt : α → Int) : ∀ (c : Int) (xs : List α), (mkL mk cnt c xs).length = xs.length := by
  intro c xs
  induction xs generalizing c with
  | nil => rfl
  | cons x xs ih => simp [mkL, ih]
theorem cntL_snoc {α : Type} (cnt : α → Int) (xs : List α) (x : α) : cntL cnt (xs ++ [x]) = cntL cnt xs + cnt x := by simp [cntL]
theorem mkL_snoc {α : Type} (mk : Int → α → α) (cnt : α → Int) : ∀ (c : Int) (xs : List α) (x : α), mkL mk cnt c (xs ++ [x]) = mkL mk cnt c xs ++ [mk (c + cntL cnt xs) x] := by
  intro c xs
  induction xs generalizing c with
  | nil => intro x; simp [mkL, cntL]
  | cons y ys ih => intro x; simp only [List.cons_append, mkL, ih, cntL, List.map_cons, List.sum_cons, Int.add_assoc]
theorem mkL_get {α : Type} (mk : Int → α → α) (cnt : α → Int) : ∀ (c : Int) (xs : List α) (j : Nat), (mkL mk cnt c xs)[j]? = (xs[j]?).map (mk (c + cntL cnt (xs.take j))) := by
  intro c xs
  induction xs generalizing c with
  | nil => intro j; simp [mkL]
  | cons y ys ih =>
    intro j
    cases j with
    | zero => simp [mkL, cntL]
    | succ j => simp only [mkL, List.getElem?_cons_succ, ih, List.take_succ_cons, cntL, List.map_cons, List.sum_cons, Int.add_assoc]
theorem cntL_le {α : Type} (cnt : α → Int) (h0 : ∀ x, 0 ≤ cnt x) : ∀ (xs : List α) (k : Nat), 0 ≤ cntL cnt (xs.take k) ∧ cntL cnt (xs.take k) ≤ cntL cnt xs := by
  intro xs
  induction xs with
  | nil => intro k; simp [cntL]
  | cons y ys ih =>
    intro k
    have h1 := (ih ys.length).1
    rw [List.take_length] at h1
    cases k with
    | zero => have := h0 y; simp only [List.take_zero, cntL, List.map_nil, List.sum_nil, List.map_cons, List.sum_cons] at h1 ⊢; omega
    | succ k => have := ih k; have := h0 y; simp only [List.take_succ_cons, cntL, List.map_cons, List.sum_cons] at *; omega
theorem All2.upd {α β : Type} {R S : α → β → Prop} {xs : List α} {ys : List β} (h : All2 R xs ys) (k : Nat) (x : α) (y : β) (hs : ∀ (i : Nat) a b, i ≠ k → xs[i]? = some a → ys[i]? = some b → R a b → S a b) (hr : S x y) : All2 S (xs.set k x) (ys.set k y) := by
  refine ⟨by simp [h.1], fun j a b ha hb => ?_⟩
  by_cases hij : k = j
  · subst hij
    have hl := (List.getElem?_eq_some_iff.1 ha).1
    simp at hl
    rw [List.getElem?_set_self hl] at ha
    rw [List.getElem?_set_self (by rw [← h.1]; exact hl)] at hb
    simp at ha hb; subst ha; subst hb; exact hr
  · rw [List.getElem?_set_ne hij] at ha hb
    exact hs j a b (fun e => hij e.symm) ha hb (h.2 j a b ha hb)
theorem Dis.flat {β : Type} {subs : β → List Value} : ∀ {ps : List β}, Dis (ps.flatMap subs) → ∀ (i j : Nat) (p q : β) (u v : Value) (b : Nat), i ≠ j → ps[i]? = some p → ps[j]? = some q → u ∈ subs p → v ∈ subs q → u.ownBlock = some b → v.ownBlock ≠ some b := by
  intro ps
  induction ps with
  | nil => intro _ i j p q u v b _ h; simp at h
  | cons r rs ih =>
    intro h i j p q u v b hij hp hq hu hv hb
    rw [List.flatMap_cons] at h
    cases i with
    | zero =>
      cases j with
      | zero => exact absurd rfl hij
      | succ j =>
        simp at hp hq; subst hp
        exact Dis.two h hu (List.mem_flatMap.2 ⟨q, List.mem_of_getElem? hq, hv⟩) hb
    | succ i =>
      cases j with
      | zero =>
        simp at hp hq; subst hq
        intro hvb
        exact Dis.two h hv (List.mem_flatMap.2 ⟨p, List.mem_of_getElem? hp, hu⟩) hvb hb
      | succ j => exact ih h.right i j p q u v b (by omega) (by simpa using hp) (by simpa using hq) hu hv hb
theorem Dis.part {β : Type} {subs : β → List Value} : ∀ {ps : List β}, Dis (ps.flatMap subs) → ∀ (i : Nat) (p : β), ps[i]? = some p → Dis (subs p) := by
  intro ps
  induction ps with
  | nil => intro _ i p h; simp at h
  | cons r rs ih =>
    intro h i p hp
    rw [List.flatMap_cons] at h
    cases i with
    | zero => simp at hp; subst hp; exact h.left
    | succ i => exact ih h.right i p (by simpa using hp)
theorem flatMap_set_same {β : Type} {subs : β → List Value} : ∀ (ps : List β) (k : Nat) (p q : β), ps[k]? = some p → subs q = subs p → (ps.set k q).flatMap subs = ps.flatMap subs := by
  intro ps
  induction ps with
  | nil => intro k p q h; simp at h
  | cons r rs ih =>
    intro k p q h hs
    cases k with
    | zero => simp at h; subst h; simp [hs]
    | succ k => simp only [List.set_cons_succ, List.flatMap_cons]; rw [ih k p q (by simpa using h) hs]
/-- A region that holds no more than the row's own block. -/
theorem Own.tight {w : World} {lo hi : Nat} {e : TypeId} {k n : Nat} {v : Value} {cs : List Value} (h : Own w lo hi e k v n cs) :
    ∃ lo' hi', lo ≤ lo' ∧ hi' ≤ hi ∧ Own w lo' hi' e k v n cs ∧ ∀ b, lo' ≤ b → b < hi' → v.ownBlock = some b := by
  rcases h.cases with ⟨rfl, rfl, rfl⟩ | ⟨g, cap, rfl, hg1, hg2, hc, hown⟩
  · by_cases hl : hi ≤ lo
    · exact ⟨lo, hi, Nat.le_refl _, Nat.le_refl _, h, fun b h1 h2 => by omega⟩
    · exact ⟨lo, lo, Nat.le_refl _, by omega, ⟨h.1, fun b hb => by cases hb⟩, fun b h1 h2 => by omega⟩
  · refine ⟨g, g + 1, hg1, hg2, ⟨hown, fun b hb => ?_⟩, fun b h1 h2 => ?_⟩
    · simp [Value.ownBlock] at hb; omega
    · have : b = g := by omega
      subst this; rfl
theorem Own.touch' {w w' : World} {lo hi a b : Nat} {e : TypeId} {k n : Nat} {v : Value} {cs : List Value} (h : Own w lo hi e k v n cs) (ht : Touch a b w w') (hd : ∀ c, v.ownBlock = some c → c < a ∨ b ≤ c) : Own w' lo hi e k v n cs := by
  refine ⟨?_, h.2⟩
  obtain ⟨hl, ⟨rfl, rfl⟩ | ⟨g, cap, cur, rfl, hg, hh, hr⟩⟩ := h.1
  · exact ⟨hl, .inl ⟨rfl, rfl⟩⟩
  · have hb := h.1.lt g rfl
    exact ⟨hl, .inr ⟨g, cap, cur, rfl, hg, (ht.block g hb.2 (hd g rfl)).trans hh, hr⟩⟩
theorem ownsRow_touch {w w' : World} {base a b : Nat} {e : TypeId} {k n g cap : Nat} {cs : List Value} (h : w.ownsRow base e k (.slice (some ⟨g, 0, none⟩) n cap) n cs) (ht : Touch a b w w') (hd : g < a ∨ b ≤ g) : w'.ownsRow base e k (.slice (some ⟨g, 0, none⟩) n cap) n cs :=
  (Own.touch' (own_of h) ht (fun c hc => by simp [Value.ownBlock] at hc; omega)).1
theorem touch_cell {w w' : World} {a b : Nat} (ht : Touch a b w w') {p : Addr} {u : Value} (hd : p.block < a ∨ b ≤ p.block) (h : w.cell? p = some u) : w'.cell? p = some u := by
  rw [World.cell?_of_block (w := w) (w' := w') (ht.block p.block (lt_of_cell h) hd)]; exact h
theorem lt_block_of_cell {w : World} {a : Addr} {v : Value} (h : w.cell? a = some v) : a.block < w.heap.size := lt_of_cell h

def Dr.ok0 (x : Dr) : Prop := (x.name.size ≤ maxLen) ∧ (x.query.length ≤ maxLen) ∧ (∀ y, y ∈ x.query → N.ok0 y)
def Dr.sz (x : Dr) : Nat := x.name.size + (x.query.length + szAll N.sz x.query)
set_option maxHeartbeats 1000000 in
theorem szDir (x : Dr) (p : P2) (l : Int) (w : World) (h : Dr.R w x p) (ho : x.ok0) (hl : 0 ≤ l) (hl2 : l ≤ 4000000) :
    Calls Try.prog 26 #[p.v, .int .i64 l] w fun e w' => ∃ r : Int, e = .returned (.int .i64 r) ∧ Left l x.sz r ∧ Grew w w' := by
  obtain ⟨p_name, p_q⟩ := p
  obtain ⟨h_name, ⟨a_q, ca_q, hq_q, hca_q, hra_q⟩⟩ := h
  simp only at h_name hq_q
  subst hq_q
  subst h_name
  have o_name := ho.1
  have o_q := Lib.hid (ho.2.1)
  have oo_q := Lib.hid (ho.2.2)
  clear ho
  unfold maxLen at o_name
  by_cases h0 : l - (x.name.size : Int) < 0
  · go_enter Try.func26, Try.ntmps26
    go_wp2
    go_ret
    exact ⟨_, rfl, .inl rfl, (Grew.refl _).alloc _⟩
  · go_enter Try.func26, Try.ntmps26
    go_wp2_with fail
    refine (szNodeS _ _ x.query _ _ ⟨a_q, ca_q, rfl, hca_q, hra_q.grew ((Grew.refl w).alloc _)⟩ o_q.out oo_q.out (by omega) (by omega)).mono ?_
    rintro e w1 ⟨r1, rfl, h1, gs1⟩
    rcases h1 with rfl | ⟨h1, hnn1⟩
    · go_wp2
      go_ret
      exact ⟨_, rfl, .inl rfl, ((Grew.refl w).alloc _).trans gs1⟩
    · have H1 := Lib.hid h1
      have hle1 : r1 ≤ 4000000 := by omega
      clear h1
      have gw1 : Grew w w1 := ((Grew.refl w).alloc _).trans gs1
      go_wp2
      go_ret
      exact ⟨_, rfl, .inr ⟨by unfold Dr.sz; have := H1.out; omega, hnn1⟩, gw1⟩
set_option maxRecDepth 100000 in
set_option maxHeartbeats 1000000 in
theorem szDirS (va : Value) (xs : List Dr) (l : Int) (w : World) (ha : RdDs w va xs) (hn : xs.length ≤ maxLen) (hok : ∀ x, x ∈ xs → x.ok0) (hl : 0 ≤ l) (hl2 : l ≤ 4000000) :
    Calls Try.prog 19 #[va, .int .i64 l] w fun e w' => ∃ r : Int, e = .returned (.int .i64 r) ∧ Left l (xs.length + szAll Dr.sz xs) r ∧ Grew w w' := by
  unfold maxLen at hn
  obtain ⟨qs, ⟨a, ca, rfl, hca, hra⟩, hall⟩ := ha
  have HO := Lib.hid hok
  have HA := Lib.hid hall
  clear hok hall
  generalize hnn : xs.length = n at *
  have HX := Lib.hid hnn
  clear hnn
  by_cases h0 : l - (n : Int) < 0
  · go_enter Try.func19, Try.ntmps19
    go_wp2
    go_ret
    exact ⟨_, rfl, .inl rfl, Grew.refl _⟩
  · go_enter Try.func19, Try.ntmps19
    go_wp2
    go_loopw [1, 5] (fun c i wr => ∃ (k : Nat) (r : Int), k ≤ n ∧ i = .int .i64 k ∧ c = .int .i64 r ∧ 0 ≤ r ∧ r ≤ l ∧ Hid (r = l - (n : Int) - szAll Dr.sz (xs.take k)) ∧ Grew w wr) (fun _ i _ => n - (intOf i).toNat)
    case atStart => exact ⟨0, _, Nat.zero_le _, rfl, rfl, by omega, by omega, Lib.hid (by simp [szAll]), Grew.refl _⟩
    case round =>
      obtain ⟨k, r, hk, rfl, rfl, hr0, hrl, hr, hbel⟩ := hrel
      by_cases hlt : k < n
      · obtain ⟨b1, o1, p, rfl, hpk, c0, c1⟩ := (hra.grew hbel).getP2 hlt
        obtain ⟨x, hxk, hxr⟩ := HA.out.get hpk.out
        have hxo := Lib.hid (HO.out x (List.mem_of_getElem? hxk.out))
        go_wp2_with fail
        refine (szDir x p r _ (hxr.grew hbel) hxo.out hr0 (by omega)).mono ?_
        rintro e w1 ⟨r1, rfl, h1, g1⟩
        rcases h1 with rfl | ⟨h1, h2⟩
        · go_wp2
          go_ret
          exact ⟨_, rfl, .inl rfl, hbel.trans g1⟩
        · have H1 := Lib.hid h1
          have hle : r1 ≤ l := by omega
          clear h1
          go_wp2
          go_roundw
          case rel => exact ⟨k + 1, r1, by omega, by go_num, rfl, h2, hle, Lib.hid (by rw [take_snoc hxk.out, szAll_snoc]; have := H1.out; have := hr.out; omega), hbel.trans g1⟩
          case measure => simp [intOf]; omega
      · obtain rfl : k = n := by omega
        go_wp2
        go_ret
        exact ⟨_, rfl, .inr ⟨by have := hr.out; rw [take_all HX.out] at this; omega, hr0⟩, hbel⟩
/-- The marks of one. -/
def cntDr (x : Dr) : Int := 1 + (((x.query.length : Nat) : Int) * 7)
theorem cntDr_0 (x : Dr) : 0 ≤ cntDr x := by unfold cntDr; omega
def mkDr1 (c : Int) (x : Dr) : Dr := ⟨mtext (c), ((List.range x.query.length).map fun (j : Nat) => mkN ((c + 1) + (j : Int) * 7))⟩
def mkDrs (c : Int) (xs : List Dr) : List Dr := mkL mkDr1 cntDr c xs
theorem Dr.O.touch' {w w' : World} {lo hi a b : Nat} {x : Dr} {p : P2} (h : Dr.O w lo hi x p) (ht : Touch a b w w') (hd : ∀ v c, v ∈ Dr.subs p → v.ownBlock = some c → c < a ∨ b ≤ c) : Dr.O w' lo hi x p := ⟨h.1, (h.2).touch' ht (fun c hc => hd _ c (by simp [Dr.subs]) hc)⟩
set_option maxRecDepth 100000 in
set_option maxHeartbeats 4000000 in
/-- What is marked holds the marks, and nothing else has turned. -/
theorem markDirS (va : Value) (xs : List Dr) (k0 : Int) (w : World) (lo hi : Nat) (ha : OwnDrs w lo hi va xs) (hx : xs.length ≤ 4000000) (hs : ∀ x, x ∈ xs → x.small) (h0 : 0 ≤ k0) (h1 : k0 + cntL cntDr xs ≤ 3000000000000000) :
    Calls Try.prog 24 #[va, .int .i64 k0] w fun e w' => e = .returned (.int .i64 (k0 + cntL cntDr xs)) ∧ OwnDrs w' lo hi va (mkDrs k0 xs) ∧ Touch lo hi w w' := by
  obtain ⟨ps, hop, hall, hdis⟩ := ha
  rcases hop.cases with ⟨rfl, hn0, _⟩ | ⟨g, cap, rfl, hg1, hg2, hcap, hown⟩
  · have hxs : xs = [] := List.length_eq_zero_iff.1 hn0
    subst hxs
    have hp : ps = [] := List.length_eq_zero_iff.1 hall.1.symm
    subst hp
    go_enter Try.func24, Try.ntmps24
    go_wp2
    refine wp_loop_rounds 1 ?_
    rw [rounds_succ]
    go_wp2
    go_ret
    exact ⟨ret_int (by simp [cntL]), ⟨[], hop, All2.nil, hdis⟩, Touch.refl _ _ _⟩
  · have HS := Lib.hid hs
    have HOP := Lib.hid hop
    have HH := Lib.hid h1
    have hpl : Hid (ps.length = xs.length) := Lib.hid hall.1.symm
    clear hop hs h1
    generalize hnn : xs.length = n at *
    have HX := Lib.hid hnn
    clear hnn
    go_enter Try.func24, Try.ntmps24
    go_wp2
    go_loopw [1, 5] (fun c i wr => ∃ (k : Nat) (ps : List P2), k ≤ n ∧ i = .int .i64 k ∧ c = .int .i64 (k0 + cntL cntDr (xs.take k)) ∧ Touch lo hi w wr ∧ wr.ownsRow g 49 2 (.slice (some ⟨g, 0, none⟩) n cap) n (rows P2.c ps) ∧ All2 (Dr.O wr lo hi) (mkDrs k0 (xs.take k) ++ xs.drop k) ps ∧ Dis (.slice (some ⟨g, 0, none⟩) n cap :: ps.flatMap Dr.subs)) (fun _ i _ => n - (intOf i).toNat)
    case atStart => exact ⟨0, ps, Nat.zero_le _, rfl, by simp [cntL], Touch.refl _ _ _, hown, by simpa [mkDrs, mkL] using hall, hdis⟩
    case round =>
      obtain ⟨k, ps, hk, rfl, rfl, hbel, hown, hall, hdis⟩ := hrel
      have hcb := cntL_le cntDr cntDr_0 xs k
      by_cases hlt : k < n
      · have hxk : xs[k]? = some (xs[k]'(by have := HX.out; omega)) := List.getElem?_eq_getElem _
        generalize (xs[k]'(by have := HX.out; omega)) = x at hxk
        have HXK := Lib.hid hxk
        have hcs := (cntL_le cntDr cntDr_0 xs (k + 1)).2
        rw [take_snoc hxk, cntL_snoc] at hcs
        clear hxk
        have hxs := HS.out x (List.mem_of_getElem? HXK.out)
        have hcx : cntL cntDr (xs.take k) + cntDr x ≤ 3000000000000000 - k0 := by have := HH.out; omega
        clear hcs
        obtain ⟨p, hpk, d0, d1⟩ := ownP2 hown hlt
        have hlk : (mkDrs k0 (xs.take k)).length = k := by unfold mkDrs; rw [mkL_length, List.length_take, HX.out]; omega
        have hL : (mkDrs k0 (xs.take k) ++ xs.drop k)[k]? = some x := by
          rw [List.getElem?_append_right (by omega), hlk, Nat.sub_self, List.getElem?_drop, Nat.add_zero]; exact HXK.out
        have hO := hall.2 k _ _ hL hpk.out
        have HL := Lib.hid hL
        have HLK := Lib.hid hlk
        clear hL hlk
        obtain ⟨r_name, r_q⟩ := p
        obtain ⟨t_q, u_q, e_q⟩ := own_slice (hO.2).1
        simp only at e_q
        subst e_q
        generalize hcc : cntL cntDr (xs.take k) = cc at *
        have HCC := Lib.hid hcc
        clear hcc
        have hcx' := hcx
        unfold cntDr at hcx'
        have hf0 := fun j => hown.frozenAt j
        go_wp2_with fail
        refine (markText _ _ (by omega) (by omega)).mono ?_
        rintro e w1 ⟨rfl, hb1⟩
        have ho1 := ownsRow_grew hown hb1
        have hf1 := fun j => ho1.frozenAt j
        have y1_0 := grew_cell hb1 (a := ⟨g, k * 2, none⟩) (by first | exact d0 | simp [go_sem, d0])
        have y1_1 := grew_cell hb1 (a := ⟨g, k * 2 + 1, none⟩) (by first | exact d1 | simp [go_sem, d1])
        go_wp2_with fail
        have ow2 := hO.2
        have hne2 : ∀ c, Value.ownBlock (.slice t_q x.query.length u_q) = some c → c ≠ g := fun c hc e => hdis.head (u := .slice t_q x.query.length u_q) (List.mem_flatMap.2 ⟨(⟨r_name, .slice t_q x.query.length u_q⟩ : P2), List.mem_of_getElem? hpk.out, by simp [Dr.subs]⟩) (b := g) rfl (by rw [← e]; exact hc)
        have oc2 := (Own.touch' (ow2.grew hb1) (a := g) (b := g + 1) (Touch.setCell (Touch.refl _ _ _) (p := ⟨g, k * 2, none⟩) (Nat.le_refl _) (Nat.lt_succ_self _) (.string (mtext (k0 + cc)))) (fun c hc => by have := hne2 c hc; omega))
        obtain ⟨lo2, hi2, hlo2, hhi2, ot2, htt2⟩ := Own.tight oc2
        refine (markNodeS _ _ x.query _ _ lo2 hi2 ot2 hxs (by omega) (by omega)).mono ?_
        rintro e w2 ⟨rfl, om2, ht2⟩
        have hgo2 : g < lo2 ∨ hi2 ≤ g := by
          by_cases h1 : lo2 ≤ g
          · by_cases h2 : g < hi2
            · exact absurd rfl (hne2 g (htt2 g h1 h2))
            · exact .inr (by omega)
          · exact .inl (by omega)
        have ho2 := ownsRow_touch (ownsRow_stores ho1 (k * 2) (.string (mtext (k0 + cc)))) ht2 hgo2
        have hf2 := fun j => ho2.frozenAt j
        go_wp2
        go_roundw
        case rel =>
          refine ⟨k + 1, ps.set k (⟨mtext (k0 + cc), .slice t_q x.query.length u_q⟩ : P2), by omega, by go_num, ?_, ?_, ?_, ?_, ?_⟩
          · rw [take_snoc HXK.out, cntL_snoc, HCC.out]
            unfold cntDr
            congr 1
            omega
          · exact hbel.trans ((Touch.setCell ((Touch.refl lo hi wr).grew hb1) (p := ⟨g, k * 2, none⟩) hg1 hg2 (.string (mtext (k0 + cc)))).trans (ht2.mono hlo2 hhi2))
          · have hst := ho2
            rw [setnP2 ps k _ hpk.out] at hst
            exact hst
          · have e1 : mkDrs k0 (xs.take (k + 1)) ++ xs.drop (k + 1) = (mkDrs k0 (xs.take k) ++ xs.drop k).set k (mkDr1 (k0 + cc) x) := by
              have hd : xs.drop k = x :: xs.drop (k + 1) := by
                have h2 := List.drop_eq_getElem_cons (l := xs) (i := k) (by have := HX.out; omega)
                have h3 := HXK.out
                rw [List.getElem?_eq_getElem (by have := HX.out; omega)] at h3
                simp only [Option.some.injEq] at h3
                rw [h3] at h2; exact h2
              rw [set_append_left _ _ k _ _ _ HLK.out hd, take_snoc HXK.out]
              unfold mkDrs
              rw [mkL_snoc, HCC.out]
            rw [e1]
            exact All2.upd hall k _ _ (fun i a b hik ha hb hr => by
              have hng : ∀ v c, v ∈ Dr.subs b → v.ownBlock = some c → c ≠ g := fun v c hv hc e => hdis.head (List.mem_flatMap.2 ⟨b, List.mem_of_getElem? hb, hv⟩) (b := g) rfl (by rw [← e]; exact hc)
              have hnt2 : ∀ v c, v ∈ Dr.subs b → v.ownBlock = some c → c < lo2 ∨ hi2 ≤ c := by
                intro v c hv hc
                by_cases h1 : lo2 ≤ c
                · by_cases h2 : c < hi2
                  · exact absurd (htt2 c h1 h2) (hdis.tail.flat i k b _ v _ c hik hb hpk.out hv (by simp [Dr.subs]) hc)
                  · exact .inr (by omega)
                · exact .inl (by omega)
              exact (Dr.O.touch' (Dr.O.touch' (hr.grew hb1) (a := g) (b := g + 1) (Touch.setCell (Touch.refl _ _ _) (p := ⟨g, k * 2, none⟩) (Nat.le_refl _) (Nat.lt_succ_self _) (.string (mtext (k0 + cc)))) (fun v c hv hc => by have := hng v c hv hc; omega)) ht2 (fun v c hv hc => hnt2 v c hv hc))) ⟨rfl, (by have hz := (om2.mono hlo2 hhi2); simpa [mkDr1] using hz)⟩
          · rw [flatMap_set_same (subs := Dr.subs) ps k _ (⟨mtext (k0 + cc), .slice t_q x.query.length u_q⟩ : P2) hpk.out rfl]
            exact hdis
        case measure => simp [intOf]; omega
      · obtain rfl : k = n := by omega
        go_wp2
        go_ret
        rw [take_all HX.out] at hall ⊢
        rw [List.drop_eq_nil_of_le (by have := HX.out; omega), List.append_nil] at hall
        refine ⟨rfl, ⟨ps, ?_, hall, hdis⟩, hbel⟩
        have hl : (mkDrs k0 xs).length = k := by unfold mkDrs; rw [mkL_length, HX.out]
        rw [hl]
        exact ⟨ownsRow_base hown hg1, fun b hb => by simp [Value.ownBlock] at hb; omega⟩
def Rs.ok0 (x : Rs) : Prop := (x.name.size ≤ maxLen) ∧ (x.ids.length ≤ maxLen)
def Rs.sz (x : Rs) : Nat := x.name.size + (x.ids.length)
/-- The marks of one. -/
def cntRs (x : Rs) : Int := 1 + (((x.ids.length : Nat) : Int))
theorem cntRs_0 (x : Rs) : 0 ≤ cntRs x := by unfold cntRs; omega
def mkRs1 (c : Int) (x : Rs) : Rs := ⟨mtext (c), ((List.range x.ids.length).map fun (j : Nat) => (c + 1) + (j : Int))⟩
def mkRss (c : Int) (xs : List Rs) : List Rs := mkL mkRs1 cntRs c xs
theorem Rs.O.touch' {w w' : World} {lo hi a b : Nat} {x : Rs} {p : P2} (h : Rs.O w lo hi x p) (ht : Touch a b w w') (hd : ∀ v c, v ∈ Rs.subs p → v.ownBlock = some c → c < a ∨ b ≤ c) : Rs.O w' lo hi x p := ⟨h.1, (h.2).touch' ht (fun c hc => hd _ c (by simp [Rs.subs]) hc)⟩
def Df.ok0 (x : Df) : Prop := (x.name.size ≤ maxLen) ∧ (x.added.length ≤ maxLen) ∧ (x.removed.length ≤ maxLen)
def Df.sz (x : Df) : Nat := x.name.size + (x.added.length) + (x.removed.length)
set_option maxHeartbeats 1000000 in
theorem szDiff (x : Df) (p : P3) (l : Int) (w : World) (h : Df.R w x p) (ho : x.ok0) (hl : 0 ≤ l) (hl2 : l ≤ 4000000) :
    Calls Try.prog 60 #[p.v, .int .i64 l] w fun e w' => ∃ r : Int, e = .returned (.int .i64 r) ∧ Left l x.sz r ∧ Grew w w' := by
  obtain ⟨p_name, p_q, p_r⟩ := p
  obtain ⟨h_name, ⟨a_q, ca_q, hq_q, hca_q, hra_q⟩, ⟨a_r, ca_r, hq_r, hca_r, hra_r⟩⟩ := h
  simp only at h_name hq_q hq_r
  subst hq_q
  subst hq_r
  subst h_name
  have o_name := ho.1
  have o_q := Lib.hid (ho.2.1)
  have o_r := Lib.hid (ho.2.2)
  clear ho
  unfold maxLen at o_name
  by_cases h0 : l - (x.name.size : Int) < 0
  · go_enter Try.func60, Try.ntmps60
    go_wp2
    go_ret
    exact ⟨_, rfl, .inl rfl, (Grew.refl _).alloc _⟩
  · go_enter Try.func60, Try.ntmps60
    go_wp2_with fail
    refine (szIntS _ _ _ _ _ (by omega) (by omega) o_q.out).mono ?_
    rintro e w1 ⟨r1, rfl, h1, gs1⟩
    rcases h1 with rfl | ⟨h1, hnn1⟩
    · go_wp2
      go_ret
      exact ⟨_, rfl, .inl rfl, ((Grew.refl w).alloc _).trans gs1⟩
    · have H1 := Lib.hid h1
      have hle1 : r1 ≤ 4000000 := by omega
      clear h1
      have f1_0 := grew_cell (a := ⟨w.heap.size, 0, none⟩) gs1 (by simp [go_sem]; try rfl)
      have f1_1 := grew_cell (a := ⟨w.heap.size, 1, none⟩) gs1 (by simp [go_sem]; try rfl)
      have f1_2 := grew_cell (a := ⟨w.heap.size, 2, none⟩) gs1 (by simp [go_sem]; try rfl)
      have gw1 : Grew w w1 := ((Grew.refl w).alloc _).trans gs1
      go_wp2_with fail
      refine (szIntS _ _ _ _ _ (by omega) (by omega) o_r.out).mono ?_
      rintro e w2 ⟨r2, rfl, h2, gs2⟩
      rcases h2 with rfl | ⟨h2, hnn2⟩
      · go_wp2
        go_ret
        exact ⟨_, rfl, .inl rfl, gw1.trans gs2⟩
      · have H2 := Lib.hid h2
        have hle2 : r2 ≤ 4000000 := by omega
        clear h2
        have gw2 : Grew w w2 := gw1.trans gs2
        go_wp2
        go_ret
        exact ⟨_, rfl, .inr ⟨by unfold Df.sz; have := H1.out; have := H2.out; omega, hnn2⟩, gw2⟩
set_option maxRecDepth 100000 in
set_option maxHeartbeats 1000000 in
theorem szDiffS (va : Value) (xs : List Df) (l : Int) (w : World) (ha : RdFs w va xs) (hn : xs.length ≤ maxLen) (hok : ∀ x, x ∈ xs → x.ok0) (hl : 0 ≤ l) (hl2 : l ≤ 4000000) :
    Calls Try.prog 13 #[va, .int .i64 l] w fun e w' => ∃ r : Int, e = .returned (.int .i64 r) ∧ Left l (xs.length + szAll Df.sz xs) r ∧ Grew w w' := by
  unfold maxLen at hn
  obtain ⟨qs, ⟨a, ca, rfl, hca, hra⟩, hall⟩ := ha
  have HO := Lib.hid hok
  have HA := Lib.hid hall
  clear hok hall
  generalize hnn : xs.length = n at *
  have HX := Lib.hid hnn
  clear hnn
  by_cases h0 : l - (n : Int) < 0
  · go_enter Try.func13, Try.ntmps13
    go_wp2
    go_ret
    exact ⟨_, rfl, .inl rfl, Grew.refl _⟩
  · go_enter Try.func13, Try.ntmps13
    go_wp2
    go_loopw [1, 5] (fun c i wr => ∃ (k : Nat) (r : Int), k ≤ n ∧ i = .int .i64 k ∧ c = .int .i64 r ∧ 0 ≤ r ∧ r ≤ l ∧ Hid (r = l - (n : Int) - szAll Df.sz (xs.take k)) ∧ Grew w wr) (fun _ i _ => n - (intOf i).toNat)
    case atStart => exact ⟨0, _, Nat.zero_le _, rfl, rfl, by omega, by omega, Lib.hid (by simp [szAll]), Grew.refl _⟩
    case round =>
      obtain ⟨k, r, hk, rfl, rfl, hr0, hrl, hr, hbel⟩ := hrel
      by_cases hlt : k < n
      · obtain ⟨b1, o1, p, rfl, hpk, c0, c1, c2⟩ := (hra.grew hbel).getP3 hlt
        obtain ⟨x, hxk, hxr⟩ := HA.out.get hpk.out
        have hxo := Lib.hid (HO.out x (List.mem_of_getElem? hxk.out))
        go_wp2_with fail
        refine (szDiff x p r _ (hxr.grew hbel) hxo.out hr0 (by omega)).mono ?_
        rintro e w1 ⟨r1, rfl, h1, g1⟩
        rcases h1 with rfl | ⟨h1, h2⟩
        · go_wp2
          go_ret
          exact ⟨_, rfl, .inl rfl, hbel.trans g1⟩
        · have H1 := Lib.hid h1
          have hle : r1 ≤ l := by omega
          clear h1
          go_wp2
          go_roundw
          case rel => exact ⟨k + 1, r1, by omega, by go_num, rfl, h2, hle, Lib.hid (by rw [take_snoc hxk.out, szAll_snoc]; have := H1.out; have := hr.out; omega), hbel.trans g1⟩
          case measure => simp [intOf]; omega
      · obtain rfl : k = n := by omega
        go_wp2
        go_ret
        exact ⟨_, rfl, .inr ⟨by have := hr.out; rw [take_all HX.out] at this; omega, hr0⟩, hbel⟩
/-- The marks of one. -/
def cntDf (x : Df) : Int := 1 + (((x.added.length : Nat) : Int)) + (((x.removed.length : Nat) : Int))
theorem cntDf_0 (x : Df) : 0 ≤ cntDf x := by unfold cntDf; omega
def mkDf1 (c : Int) (x : Df) : Df := ⟨mtext (c), ((List.range x.added.length).map fun (j : Nat) => (c + 1) + (j : Int)), ((List.range x.removed.length).map fun (j : Nat) => (c + 1 + ((x.added.length : Nat) : Int)) + (j : Int))⟩
def mkDfs (c : Int) (xs : List Df) : List Df := mkL mkDf1 cntDf c xs
theorem Df.O.touch' {w w' : World} {lo hi a b : Nat} {x : Df} {p : P3} (h : Df.O w lo hi x p) (ht : Touch a b w w') (hd : ∀ v c, v ∈ Df.subs p → v.ownBlock = some c → c < a ∨ b ≤ c) : Df.O w' lo hi x p := ⟨h.1, (h.2.1).touch' ht (fun c hc => hd _ c (by simp [Df.subs]) hc), (h.2.2).touch' ht (fun c hc => hd _ c (by simp [Df.subs]) hc)⟩
set_option maxRecDepth 100000 in
set_option maxHeartbeats 4000000 in
/-- What is marked holds the marks, and nothing else has turned. -/
theorem markDiffS (va : Value) (xs : List Df) (k0 : Int) (w : World) (lo hi : Nat) (ha : OwnDfs w lo hi va xs) (hx : xs.length ≤ 4000000) (hs : ∀ x, x ∈ xs → x.small) (h0 : 0 ≤ k0) (h1 : k0 + cntL cntDf xs ≤ 3000000000000000) :
    Calls Try.prog 17 #[va, .int .i64 k0] w fun e w' => e = .returned (.int .i64 (k0 + cntL cntDf xs)) ∧ OwnDfs w' lo hi va (mkDfs k0 xs) ∧ Touch lo hi w w' := by
  obtain ⟨ps, hop, hall, hdis⟩ := ha
  rcases hop.cases with ⟨rfl, hn0, _⟩ | ⟨g, cap, rfl, hg1, hg2, hcap, hown⟩
  · have hxs : xs = [] := List.length_eq_zero_iff.1 hn0
    subst hxs
    have hp : ps = [] := List.length_eq_zero_iff.1 hall.1.symm
    subst hp
    go_enter Try.func17, Try.ntmps17
    go_wp2
    refine wp_loop_rounds 1 ?_
    rw [rounds_succ]
    go_wp2
    go_ret
    exact ⟨ret_int (by simp [cntL]), ⟨[], hop, All2.nil, hdis⟩, Touch.refl _ _ _⟩
  · have HS := Lib.hid hs
    have HOP := Lib.hid hop
    have HH := Lib.hid h1
    have hpl : Hid (ps.length = xs.length) := Lib.hid hall.1.symm
    clear hop hs h1
    generalize hnn : xs.length = n at *
    have HX := Lib.hid hnn
    clear hnn
    go_enter Try.func17, Try.ntmps17
    go_wp2
    go_loopw [1, 5] (fun c i wr => ∃ (k : Nat) (ps : List P3), k ≤ n ∧ i = .int .i64 k ∧ c = .int .i64 (k0 + cntL cntDf (xs.take k)) ∧ Touch lo hi w wr ∧ wr.ownsRow g 94 3 (.slice (some ⟨g, 0, none⟩) n cap) n (rows P3.c ps) ∧ All2 (Df.O wr lo hi) (mkDfs k0 (xs.take k) ++ xs.drop k) ps ∧ Dis (.slice (some ⟨g, 0, none⟩) n cap :: ps.flatMap Df.subs)) (fun _ i _ => n - (intOf i).toNat)
    case atStart => exact ⟨0, ps, Nat.zero_le _, rfl, by simp [cntL], Touch.refl _ _ _, hown, by simpa [mkDfs, mkL] using hall, hdis⟩
    case round =>
      obtain ⟨k, ps, hk, rfl, rfl, hbel, hown, hall, hdis⟩ := hrel
      have hcb := cntL_le cntDf cntDf_0 xs k
      by_cases hlt : k < n
      · have hxk : xs[k]? = some (xs[k]'(by have := HX.out; omega)) := List.getElem?_eq_getElem _
        generalize (xs[k]'(by have := HX.out; omega)) = x at hxk
        have HXK := Lib.hid hxk
        have hcs := (cntL_le cntDf cntDf_0 xs (k + 1)).2
        rw [take_snoc hxk, cntL_snoc] at hcs
        clear hxk
        have hxs := HS.out x (List.mem_of_getElem? HXK.out)
        have hcx : cntL cntDf (xs.take k) + cntDf x ≤ 3000000000000000 - k0 := by have := HH.out; omega
        clear hcs
        obtain ⟨p, hpk, d0, d1, d2⟩ := ownP3 hown hlt
        have hlk : (mkDfs k0 (xs.take k)).length = k := by unfold mkDfs; rw [mkL_length, List.length_take, HX.out]; omega
        have hL : (mkDfs k0 (xs.take k) ++ xs.drop k)[k]? = some x := by
          rw [List.getElem?_append_right (by omega), hlk, Nat.sub_self, List.getElem?_drop, Nat.add_zero]; exact HXK.out
        have hO := hall.2 k _ _ hL hpk.out
        have HL := Lib.hid hL
        have HLK := Lib.hid hlk
        clear hL hlk
        obtain ⟨r_name, r_q, r_r⟩ := p
        obtain ⟨t_q, u_q, e_q⟩ := own_slice (hO.2.1).1
        simp only at e_q
        subst e_q
        obtain ⟨t_r, u_r, e_r⟩ := own_slice (hO.2.2).1
        simp only at e_r
        subst e_r
        generalize hcc : cntL cntDf (xs.take k) = cc at *
        have HCC := Lib.hid hcc
        clear hcc
        have hcx' := hcx
        unfold cntDf at hcx'
        have hf0 := fun j => hown.frozenAt j
        go_wp2_with fail
        refine (markText _ _ (by omega) (by omega)).mono ?_
        rintro e w1 ⟨rfl, hb1⟩
        have ho1 := ownsRow_grew hown hb1
        have hf1 := fun j => ho1.frozenAt j
        have y1_0 := grew_cell hb1 (a := ⟨g, k * 3, none⟩) (by first | exact d0 | simp [go_sem, d0])
        have y1_1 := grew_cell hb1 (a := ⟨g, k * 3 + 1, none⟩) (by first | exact d1 | simp [go_sem, d1])
        have y1_2 := grew_cell hb1 (a := ⟨g, k * 3 + 2, none⟩) (by first | exact d2 | simp [go_sem, d2])
        go_wp2_with fail
        have ow2 := hO.2.1
        have hne2 : ∀ c, Value.ownBlock (.slice t_q x.added.length u_q) = some c → c ≠ g := fun c hc e => hdis.head (u := .slice t_q x.added.length u_q) (List.mem_flatMap.2 ⟨(⟨r_name, .slice t_q x.added.length u_q, .slice t_r x.removed.length u_r⟩ : P3), List.mem_of_getElem? hpk.out, by simp [Df.subs]⟩) (b := g) rfl (by rw [← e]; exact hc)
        have oc2 := (Own.touch' (ow2.grew hb1) (a := g) (b := g + 1) (Touch.setCell (Touch.refl _ _ _) (p := ⟨g, k * 3, none⟩) (Nat.le_refl _) (Nat.lt_succ_self _) (.string (mtext (k0 + cc)))) (fun c hc => by have := hne2 c hc; omega))
        obtain ⟨lo2, hi2, hlo2, hhi2, ot2, htt2⟩ := Own.tight oc2
        have sib2 : ∀ c, Value.ownBlock (.slice t_r x.removed.length u_r) = some c → c < lo2 ∨ hi2 ≤ c := by
          intro c hc
          have hd2 := hdis.tail.part k _ hpk.out
          by_cases h1 : lo2 ≤ c
          · by_cases h2 : c < hi2
            · exact absurd hc (hd2.head (by simp) (htt2 c h1 h2))
            · exact .inr (by omega)
          · exact .inl (by omega)
        refine (markIntS _ _ x.added _ _ lo2 hi2 ot2 hxs.1 (by omega) (by omega)).mono ?_
        rintro e w2 ⟨rfl, om2, ht2⟩
        have hgo2 : g < lo2 ∨ hi2 ≤ g := by
          by_cases h1 : lo2 ≤ g
          · by_cases h2 : g < hi2
            · exact absurd rfl (hne2 g (htt2 g h1 h2))
            · exact .inr (by omega)
          · exact .inl (by omega)
        have ho2 := ownsRow_touch (ownsRow_stores ho1 (k * 3) (.string (mtext (k0 + cc)))) ht2 hgo2
        have hf2 := fun j => ho2.frozenAt j
        have y2_0 := touch_cell ht2 (p := ⟨g, k * 3, none⟩) (u := (.string (mtext (k0 + cc)))) hgo2 (by first | exact y1_0 | simp [go_sem, y1_0])
        have y2_1 := touch_cell ht2 (p := ⟨g, k * 3 + 1, none⟩) (u := .slice t_q x.added.length u_q) hgo2 (by first | exact y1_1 | simp [go_sem, y1_1])
        have y2_2 := touch_cell ht2 (p := ⟨g, k * 3 + 2, none⟩) (u := .slice t_r x.removed.length u_r) hgo2 (by first | exact y1_2 | simp [go_sem, y1_2])
        go_wp2_with fail
        have ow3 := hO.2.2
        have hne3 : ∀ c, Value.ownBlock (.slice t_r x.removed.length u_r) = some c → c ≠ g := fun c hc e => hdis.head (u := .slice t_r x.removed.length u_r) (List.mem_flatMap.2 ⟨(⟨r_name, .slice t_q x.added.length u_q, .slice t_r x.removed.length u_r⟩ : P3), List.mem_of_getElem? hpk.out, by simp [Df.subs]⟩) (b := g) rfl (by rw [← e]; exact hc)
        have oc3 := (Own.touch' (Own.touch' (ow3.grew hb1) (a := g) (b := g + 1) (Touch.setCell (Touch.refl _ _ _) (p := ⟨g, k * 3, none⟩) (Nat.le_refl _) (Nat.lt_succ_self _) (.string (mtext (k0 + cc)))) (fun c hc => by have := hne3 c hc; omega)) ht2 (fun c hc => by exact sib2 c hc))
        obtain ⟨lo3, hi3, hlo3, hhi3, ot3, htt3⟩ := Own.tight oc3
        have sib3 : ∀ c, Value.ownBlock (.slice t_q x.added.length u_q) = some c → c < lo3 ∨ hi3 ≤ c := by
          intro c hc
          have hd2 := hdis.tail.part k _ hpk.out
          by_cases h1 : lo3 ≤ c
          · by_cases h2 : c < hi3
            · exact absurd (htt3 c h1 h2) (hd2.head (by simp) hc)
            · exact .inr (by omega)
          · exact .inl (by omega)
        refine (markIntS _ _ x.removed _ _ lo3 hi3 ot3 hxs.2 (by omega) (by omega)).mono ?_
        rintro e w3 ⟨rfl, om3, ht3⟩
        have hgo3 : g < lo3 ∨ hi3 ≤ g := by
          by_cases h1 : lo3 ≤ g
          · by_cases h2 : g < hi3
            · exact absurd rfl (hne3 g (htt3 g h1 h2))
            · exact .inr (by omega)
          · exact .inl (by omega)
        have ho3 := ownsRow_touch ho2 ht3 hgo3
        have hf3 := fun j => ho3.frozenAt j
        go_wp2
        go_roundw
        case rel =>
          refine ⟨k + 1, ps.set k (⟨mtext (k0 + cc), .slice t_q x.added.length u_q, .slice t_r x.removed.length u_r⟩ : P3), by omega, by go_num, ?_, ?_, ?_, ?_, ?_⟩
          · rw [take_snoc HXK.out, cntL_snoc, HCC.out]
            unfold cntDf
            congr 1
            omega
          · exact hbel.trans (((Touch.setCell ((Touch.refl lo hi wr).grew hb1) (p := ⟨g, k * 3, none⟩) hg1 hg2 (.string (mtext (k0 + cc)))).trans (ht2.mono hlo2 hhi2)).trans (ht3.mono hlo3 hhi3))
          · have hst := ho3
            rw [setnP3 ps k _ hpk.out] at hst
            exact hst
          · have e1 : mkDfs k0 (xs.take (k + 1)) ++ xs.drop (k + 1) = (mkDfs k0 (xs.take k) ++ xs.drop k).set k (mkDf1 (k0 + cc) x) := by
              have hd : xs.drop k = x :: xs.drop (k + 1) := by
                have h2 := List.drop_eq_getElem_cons (l := xs) (i := k) (by have := HX.out; omega)
                have h3 := HXK.out
                rw [List.getElem?_eq_getElem (by have := HX.out; omega)] at h3
                simp only [Option.some.injEq] at h3
                rw [h3] at h2; exact h2
              rw [set_append_left _ _ k _ _ _ HLK.out hd, take_snoc HXK.out]
              unfold mkDfs
              rw [mkL_snoc, HCC.out]
            rw [e1]
            exact All2.upd hall k _ _ (fun i a b hik ha hb hr => by
              have hng : ∀ v c, v ∈ Df.subs b → v.ownBlock = some c → c ≠ g := fun v c hv hc e => hdis.head (List.mem_flatMap.2 ⟨b, List.mem_of_getElem? hb, hv⟩) (b := g) rfl (by rw [← e]; exact hc)
              have hnt2 : ∀ v c, v ∈ Df.subs b → v.ownBlock = some c → c < lo2 ∨ hi2 ≤ c := by
                intro v c hv hc
                by_cases h1 : lo2 ≤ c
                · by_cases h2 : c < hi2
                  · exact absurd (htt2 c h1 h2) (hdis.tail.flat i k b _ v _ c hik hb hpk.out hv (by simp [Df.subs]) hc)
                  · exact .inr (by omega)
                · exact .inl (by omega)
              have hnt3 : ∀ v c, v ∈ Df.subs b → v.ownBlock = some c → c < lo3 ∨ hi3 ≤ c := by
                intro v c hv hc
                by_cases h1 : lo3 ≤ c
                · by_cases h2 : c < hi3
                  · exact absurd (htt3 c h1 h2) (hdis.tail.flat i k b _ v _ c hik hb hpk.out hv (by simp [Df.subs]) hc)
                  · exact .inr (by omega)
                · exact .inl (by omega)
              exact (Df.O.touch' (Df.O.touch' (Df.O.touch' (hr.grew hb1) (a := g) (b := g + 1) (Touch.setCell (Touch.refl _ _ _) (p := ⟨g, k * 3, none⟩) (Nat.le_refl _) (Nat.lt_succ_self _) (.string (mtext (k0 + cc)))) (fun v c hv hc => by have := hng v c hv hc; omega)) ht2 (fun v c hv hc => hnt2 v c hv hc)) ht3 (fun v c hv hc => hnt3 v c hv hc))) ⟨rfl, (by have hz := (Own.touch' (om2.mono hlo2 hhi2) ht3 (fun c hc => by exact sib3 c hc)); simpa [mkDf1] using hz), (by have hz := (om3.mono hlo3 hhi3); simpa [mkDf1] using hz)⟩
          · rw [flatMap_set_same (subs := Df.subs) ps k _ (⟨mtext (k0 + cc), .slice t_q x.added.length u_q, .slice t_r x.removed.length u_r⟩ : P3) hpk.out rfl]
            exact hdis
        case measure => simp [intOf]; omega
      · obtain rfl : k = n := by omega
        go_wp2
        go_ret
        rw [take_all HX.out] at hall ⊢
        rw [List.drop_eq_nil_of_le (by have := HX.out; omega), List.append_nil] at hall
        refine ⟨rfl, ⟨ps, ?_, hall, hdis⟩, hbel⟩
        have hl : (mkDfs k0 xs).length = k := by unfold mkDfs; rw [mkL_length, HX.out]
        rw [hl]
        exact ⟨ownsRow_base hown hg1, fun b hb => by simp [Value.ownBlock] at hb; omega⟩
def Fl.ok0 (x : Fl) : Prop := (x.attrs.length ≤ maxLen) ∧ (∀ y, y ∈ x.attrs → At.ok0 y)
def Fl.sz (x : Fl) : Nat := (x.attrs.length + szAll At.sz x.attrs)
/-- The marks of one. -/
def cntFl (x : Fl) : Int := 4 + (((x.attrs.length : Nat) : Int) * 4)
theorem cntFl_0 (x : Fl) : 0 ≤ cntFl x := by unfold cntFl; omega
def mkFl1 (c : Int) (x : Fl) : Fl := ⟨(c), (c + 1), ((c + 1 + 1) % 3 == 0), (c + 1 + 1 + 1), ((List.range x.attrs.length).map fun (j : Nat) => mkAt ((c + 1 + 1 + 1 + 1) + (j : Int) * 4))⟩
def mkFls (c : Int) (xs : List Fl) : List Fl := mkL mkFl1 cntFl c xs
theorem Fl.O.touch' {w w' : World} {lo hi a b : Nat} {x : Fl} {p : P5} (h : Fl.O w lo hi x p) (ht : Touch a b w w') (hd : ∀ v c, v ∈ Fl.subs p → v.ownBlock = some c → c < a ∨ b ≤ c) : Fl.O w' lo hi x p := ⟨h.1, h.2.1, h.2.2.1, h.2.2.2.1, (h.2.2.2.2).touch' ht (fun c hc => hd _ c (by simp [Fl.subs]) hc)⟩
end Go.Proofs.Ytgekgokkbakcmaa
