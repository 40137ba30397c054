/- FQueryRoundTrip, with Tx25, Tx26, Tx27, Z9D, ZQ, WQueryRoundTrip. -/
import Derived.Test.YtodbohmbdgbheaaGreatDoorTx20
import Derived.Test.YtodbohmbdgbheaaGreatDoorTx5
import Derived.Test.YtodbohmbdgbheaaGreatDoorTx9
import Derived.Test.YtodbohmbdgbheaaGreatDoorTx23
import Derived.Test.YtodbohmbdgbheaaGreatDoorTx10
import Derived.Test.YtodbohmbdgbheaaGreatDoorZ2
import Derived.Test.YtodbohmbdgbheaaGreatDoorZ5D
import Derived.Test.YtodbohmbdgbheaaGreatDoorW0
import Derived.Test.YtodbohmbdgbheaaGreatDoorTx24
import Derived.Test.YtodbohmbdgbheaaGreatDoorO2
namespace Go.Proofs.YtodbohmbdgbheaaGreatDoor
open Go.RowKit
set_option linter.unusedVariables false
theorem bys_back (p : List By) : (bys p).map (fun l => (⟨l.toArray⟩ : By)) = p := by
  unfold bys
  rw [List.map_map]
  conv => rhs; rw [← List.map_id p]
  apply List.map_congr_left
  intro x _
  simp
/-- A text whose words read as these nodes. -/
theorem pq_of {s : By} {p : List By} {e : List N} (hs : s.data.toList = Lib.join (bys p) [32]) (h : Rq 0 p e) (hv : ∀ x ∈ e, NV x) (hn : e.length ≤ 9) : pqB s = true ∧ pqN s = e ∧ (⟨(txq e).toArray⟩ : By) = s := by
  have hq := h.qry hn hv
  obtain ⟨hw, hl⟩ := h.words hv
  have hp := h.pos.1
  have hne : bys p ≠ [] := fun hc => by
    have h1 := congrArg List.length hc
    simp [bys] at h1
    subst h1
    simp at hp
  have hf := fields_join hw hne (.inl rfl : ([] : List UInt8) = [] ∨ ([] : List UInt8) = [32])
  rw [List.append_nil, ← hs] at hf
  have hjl := join_len (bys p) hw
  have hjb := join_bytes hw
  rw [← hs] at hjl hjb
  have hbl : (bys p).length = p.length := by simp [bys]
  have hsf : sfB s = true := by
    unfold sfB ascB
    rw [hf, hbl]
    simp only [Bool.and_eq_true, decide_eq_true_eq, List.all_eq_true]
    refine ⟨?_, hjb, by omega⟩
    rw [size_list']
    omega
  have hsl : sfL s = p := by
    rw [sf_yes hsf]
    unfold Lib.fieldsB
    rw [hf, bys_back]
  obtain ⟨h1, h2⟩ := okI_of h hq
  have hpq : pqB s = true := by unfold pqB; rw [hsf, hsl, h1]; rfl
  refine ⟨hpq, ?_, ?_⟩
  · rw [pq_yes hpq, hsl, h2]
  · rw [h.tx hq, ← hs]
theorem txt_a {m : Int} (hm : 1 ≤ m) : txtB ⟨#[97]⟩ m = true := by
  unfold txtB
  rw [lowB_true (fun i hi => by
    have h1 : i = 0 := by have : i < 1 := hi; omega
    subst h1; exact (by decide : (97 : Int) ≤ ((97 : UInt8).toNat : Int) ∧ ((97 : UInt8).toNat : Int) ≤ 122))]
  simp [inB, ByteArray.size]; omega
theorem txt_d {m : Int} (hm : 1 ≤ m) : txtB ⟨#[100]⟩ m = true := by
  unfold txtB
  rw [lowB_true (fun i hi => by
    have h1 : i = 0 := by have : i < 1 := hi; omega
    subst h1; exact (by decide : (97 : Int) ≤ ((100 : UInt8).toNat : Int) ∧ ((100 : UInt8).toNat : Int) ≤ 122))]
  simp [inB, ByteArray.size]; omega
abbrev vN (n : Nat) : V := ⟨1, n, ⟨#[]⟩⟩
abbrev dN (n : Nat) : By := ⟨(Lib.decDigits n).toArray⟩
theorem vN_ok {n : Nat} (h : n ≤ 999) : valB (vN n) = true := by
  simp [valB, inB]; omega
theorem fv_vN {n : Nat} (h : n ≤ 999) : fvB (vN n) = dN n := by
  unfold fvB
  rw [vN_ok h]
  simp [itoa_nat]
/-- 'eq a n' -/
def eqA (n : Nat) : List N := [nd 3 0 0 ⟨#[97]⟩ (vN n)]
theorem rqA {n : Nat} (h : n ≤ 999) (k : Nat) : Rq k [kw (3 : Nat), ⟨#[97]⟩, dN n] (eqA n) := by
  obtain ⟨h1, h2⟩ := val_word (vN_ok h) (by show (1 : Int) ≠ 0; decide)
  rw [fv_vN h] at h1 h2
  have h3 := Rq.val k 3 ⟨#[97]⟩ (dN n) (.inl rfl) h1
  rw [h2] at h3
  exact h3
/-- 'and eq a n not in d' -/
def andA (n : Nat) : List N := [nd 3 0 0 ⟨#[97]⟩ (vN n), nd 8 0 0 ⟨#[100]⟩ V.z, nd 5 1 0 ⟨#[]⟩ V.z, nd 6 0 2 ⟨#[]⟩ V.z]
theorem rqAnd {n : Nat} (h : n ≤ 999) : Rq 0 [kw (6 : Nat), kw (3 : Nat), ⟨#[97]⟩, dN n, kw (5 : Nat), kw (8 : Nat), ⟨#[100]⟩] (andA n) :=
  Rq.two 0 6 _ _ _ _ (.inl rfl) (rqA h 0) (Rq.not 1 _ _ (Rq.name 1 8 ⟨#[100]⟩ (.inr (.inl rfl))))
theorem nvA (n : Nat) : ∀ x ∈ eqA n, NV x := by
  intro x hx
  rw [List.mem_singleton.1 hx]
  exact .inr (.inr (.inr (.inr (.inr (.inl ⟨rfl, txt_a (by decide), (by decide : (1 : Int) ≠ 0)⟩)))))
theorem nvAnd (n : Nat) : ∀ x ∈ andA n, NV x := by
  intro x hx
  simp only [andA, List.mem_cons, List.not_mem_nil, or_false] at hx
  rcases hx with rfl | rfl | rfl | rfl
  · exact nvA n _ (List.mem_singleton.2 rfl)
  · exact .inr (.inr (.inr (.inr (.inr (.inr (.inr ⟨.inl rfl, txt_d (by decide)⟩))))))
  · exact .inr (.inl rfl)
  · exact .inr (.inr (.inl rfl))
/-- The law's texts. -/
def tA (n : Nat) : By := ⟨#[101, 113, 32, 97, 32]⟩ ++ dN n
def tAnd (n : Nat) : By := (⟨#[97, 110, 100, 32]⟩ ++ tA n) ++ ⟨#[32]⟩ ++ ⟨#[110, 111, 116, 32, 105, 110, 32, 100]⟩
theorem pqA {n : Nat} (h : n ≤ 999) : pqB (tA n) = true ∧ pqN (tA n) = eqA n := by
  have h1 := pq_of (s := tA n) (p := [kw (3 : Nat), ⟨#[97]⟩, dN n]) (by simp [tA, bys, Lib.join, List.intercalate, kw, dN]) (rqA h 0) (nvA n) (by simp [eqA])
  exact ⟨h1.1, h1.2.1⟩
theorem pqAnd {n : Nat} (h : n ≤ 999) : pqB (tAnd n) = true ∧ pqN (tAnd n) = andA n ∧ (⟨(txq (andA n)).toArray⟩ : By) = tAnd n :=
  pq_of (s := tAnd n) (p := [kw (6 : Nat), kw (3 : Nat), ⟨#[97]⟩, dN n, kw (5 : Nat), kw (8 : Nat), ⟨#[100]⟩]) (by simp [tAnd, tA, bys, Lib.join, List.intercalate, kw, dN]) (rqAnd h) (nvAnd n) (by simp [andA])
theorem dN_size {n : Nat} (h : n ≤ 999) : (dN n).size ≤ 3 := by
  have h1 := dec_short h
  show (Lib.decDigits n).toArray.size ≤ 3
  simpa using h1
end Go.Proofs.YtodbohmbdgbheaaGreatDoor

namespace Go.Proofs.YtodbohmbdgbheaaGreatDoor
open Go.RowKit
set_option linter.unusedVariables false
/-- A query's text. -/
noncomputable def txB (q : List N) : By := ⟨(txq q).toArray⟩
theorem txB_sz (q : List N) : (txB q).size ≤ 133 := by
  show (txq q).toArray.size ≤ 133
  rw [List.size_toArray]
  cases h : qryB q with
  | false => rw [txq_no h]; exact Nat.zero_le _
  | true => obtain ⟨_, _, _, _, _, _, _, _, _, h⟩ := trip2 h; exact h
set_option maxRecDepth 100000 in
set_option maxHeartbeats 1000000 in
theorem specPostorderQuery (q : List N) (va : Value) (w : World) (hq : Rd w va 7 q.length (rows N.c q)) (hql : q.length ≤ 4000000) (hz : szAll N.sz q ≤ 4000000) :
    Calls Tryz.prog 17 #[va] w fun e w' => ∃ v, e = .returned v ∧ w'.ownsRow w.heap.size 38 7 v (pqN (txB q)).length (rows N.c (pqN (txB q))) ∧ Grew w w' := by
  have HQ := Lib.hid hq
  have hs := txB_sz q
  have HF := Lib.hid (specFormatQuery q va w hq hql hz)
  clear hq hz
  obtain ⟨T, hT_⟩ : ∃ y, txB q = y := ⟨_, rfl⟩
  have HT := Lib.hid (show (⟨(txq q).toArray⟩ : By) = T from hT_)
  rw [hT_] at hs ⊢
  clear hT_
  go_enter Tryz.func17, Tryz.ntmps17
  go_wp2_with fail
  refine HF.out.mono ?_
  rintro e w1 ⟨he, g1⟩
  rw [HT.out] at he
  subst he
  go_wp2_with fail
  refine (specParseQuery T (by omega) _).mono ?_
  rintro e w2 ⟨v, rfl, o2, g2⟩
  obtain ⟨a, c, rfl⟩ := own_slice o2
  go_wp2
  go_ret
  exact ⟨_, rfl, ownsRow_base o2 g1.size, g1.trans g2⟩
set_option maxRecDepth 100000 in
set_option maxHeartbeats 1000000 in
theorem implPostorderQuery (q : List N) (va : Value) (w : World) (hq : Rd w va 7 q.length (rows N.c q)) (hql : q.length ≤ 4000000) (hz : szAll N.sz q ≤ 4000000) (ht : TabP w) (hE : ErrS w) (hA : TabA w) :
    Calls Tryz.prog 12 #[va] w fun e w' => ∃ v, e = .returned v ∧ w'.ownsRow w.heap.size 38 7 v (pqN (txB q)).length (rows N.c (pqN (txB q))) ∧ Grew w w' := by
  have HQ := Lib.hid hq
  have hs := txB_sz q
  have HF := Lib.hid (implFormatQuery q va w hq hql hz ht)
  have HW := Lib.hid (fun (u : World) (g : Grew w u) => (⟨ht.grew g, hE.grew g, hA.grew g⟩ : TabP u ∧ ErrS u ∧ TabA u))
  clear hq hz ht hE hA
  obtain ⟨T, hT_⟩ : ∃ y, txB q = y := ⟨_, rfl⟩
  have HT := Lib.hid (show (⟨(txq q).toArray⟩ : By) = T from hT_)
  rw [hT_] at hs ⊢
  clear hT_
  go_enter Tryz.func12, Tryz.ntmps12
  go_wp2_with fail
  refine HF.out.mono ?_
  rintro e w1 ⟨he, g1⟩
  rw [HT.out] at he
  subst he
  go_wp2_with fail
  refine (implParseQuery T (by omega) _ (HW.out _ g1).1 (HW.out _ g1).2.1 (HW.out _ g1).2.2).mono ?_
  rintro e w2 ⟨v, rfl, o2, g2⟩
  obtain ⟨a, c, rfl⟩ := own_slice o2
  go_wp2
  go_ret
  exact ⟨_, rfl, ownsRow_base o2 g1.size, g1.trans g2⟩
end Go.Proofs.YtodbohmbdgbheaaGreatDoor

namespace Go.Proofs.YtodbohmbdgbheaaGreatDoor
open Go.RowKit
set_option linter.unusedVariables false
theorem pq_gen {s : By} {p : List By} {e : List N} (hf : Lib.fields s.data.toList = bys p) (ha : ascB s.data.toList = true) (hsz : s.size ≤ 600) (hpl : p.length ≤ 24) (h : Rq 0 p e) (hq : qryB e = true) : pqB s = true ∧ pqN s = e := by
  have hbl : (bys p).length = p.length := by simp [bys]
  have hsf : sfB s = true := by
    unfold sfB
    rw [hf, hbl, ha]
    simp only [Bool.and_eq_true, decide_eq_true_eq]
    exact ⟨hsz, trivial, hpl⟩
  have hsl : sfL s = p := by
    rw [sf_yes hsf]
    unfold Lib.fieldsB
    rw [hf, bys_back]
  obtain ⟨h1, h2⟩ := okI_of h hq
  have hpq : pqB s = true := by unfold pqB; rw [hsf, hsl, h1]; rfl
  exact ⟨hpq, by rw [pq_yes hpq, hsl, h2]⟩
theorem okI_nil : okI [] = false := by
  unfold okI
  have h1 : rdI (([] : List By).length + 10) [] [] = (false, [], [nd 0 0 0 ⟨#[]⟩ V.z]) := rdI_0 (d := 9) (ws := []) (ns := []) opOf_nil
  rw [h1]; rfl
theorem pq_blank {s : By} (hf : Lib.fields s.data.toList = []) : pqB s = false ∧ pqN s = [] := by
  have h1 : pqB s = false := by
    unfold pqB
    cases hb : sfB s with
    | false => rfl
    | true =>
      rw [sf_yes hb]
      unfold Lib.fieldsB
      rw [hf]
      exact okI_nil
  exact ⟨h1, pq_no h1⟩
/-- The text with blanks about it. -/
def padB (s : By) : By := (⟨#[32, 32]⟩ ++ s) ++ ⟨#[32]⟩
theorem pad_list (s : By) : (padB s).data.toList = 32 :: 32 :: (s.data.toList ++ [32]) := by simp [padB]
theorem txB_list (q : List N) : (txB q).data.toList = txq q := by simp [txB]
theorem asc_of {l : List UInt8} (h : ∀ b ∈ l, 32 ≤ b.toNat ∧ b.toNat ≤ 126) : ascB l = true := by
  unfold ascB
  simp only [List.all_eq_true, decide_eq_true_eq]
  exact h
/-- THE ROUND TRIP. -/
theorem round {q : List N} (hq : qryB q = true) : ∃ e, qryB e = true ∧ txB e = txB q ∧ pqB (txB q) = true ∧ pqN (txB q) = e ∧ pqB (padB (txB q)) = true ∧ pqN (padB (txB q)) = e := by
  obtain ⟨p, e, h1, h2, h3, h4, h5, h6, h7, h8⟩ := trip2 hq
  have hne : bys p ≠ [] := fun hc => by
    have h1 := congrArg List.length hc
    simp [bys] at h1
    exact h6 h1
  have hb : ∀ b ∈ txq q, 32 ≤ b.toNat ∧ b.toNat ≤ 126 := by rw [h1]; exact join_bytes h5
  have f1 : Lib.fields (txB q).data.toList = bys p := by
    rw [txB_list, h1, ← List.append_nil (Lib.join (bys p) [32])]
    exact fields_join h5 hne (.inl rfl)
  have f2 : Lib.fields (padB (txB q)).data.toList = bys p := by
    rw [pad_list, txB_list, h1, fields_pad]
    exact fields_join h5 hne (.inr rfl)
  have a1 : ascB (txB q).data.toList = true := by rw [txB_list]; exact asc_of hb
  have a2 : ascB (padB (txB q)).data.toList = true := by
    rw [pad_list, txB_list]
    apply asc_of
    intro b hbm
    simp only [List.mem_cons, List.mem_append, List.not_mem_nil, or_false] at hbm
    rcases hbm with rfl | rfl | h | rfl
    · decide
    · decide
    · exact hb b h
    · decide
  have s1 := txB_sz q
  have s2 : (padB (txB q)).size ≤ 600 := by
    rw [size_list', pad_list]
    rw [size_list'] at s1
    simp only [List.length_cons, List.length_append, List.length_nil]
    omega
  obtain ⟨g1, g2⟩ := pq_gen f1 a1 (by omega) (by omega) h2 h3
  obtain ⟨g3, g4⟩ := pq_gen f2 a2 s2 (by omega) h2 h3
  exact ⟨e, h3, by unfold txB; rw [h4], g1, g2, g3, g4⟩
theorem txB_no {q : List N} (h : qryB q = false) : txB q = ⟨#[]⟩ := by unfold txB; rw [txq_no h]
theorem txB_yes {q : List N} (h : qryB q = true) : txB q ≠ ⟨#[]⟩ := fun hc => by
  have h1 := congrArg (fun b : By => b.data.toList) hc
  simp only [txB_list] at h1
  exact txq_yes h h1
theorem round_no {q : List N} (h : qryB q = false) : pqB (txB q) = false ∧ pqN (txB q) = [] ∧ pqB (padB (txB q)) = false ∧ pqN (padB (txB q)) = [] ∧ pqN (txB []) = [] := by
  have n0 : qryB ([] : List N) = false := by
    cases hq : qryB ([] : List N) with
    | false => rfl
    | true => have := (txq_len hq).1; simp at this
  have e : ∀ x : List N, qryB x = false → (txB x).data.toList = [] := fun x hx => by rw [txB_list, txq_no hx]
  have f1 : ∀ x : List N, qryB x = false → Lib.fields (txB x).data.toList = [] := fun x hx => by rw [e x hx]; rfl
  have f2 : Lib.fields (padB (txB q)).data.toList = [] := by rw [pad_list, e q h]; decide
  exact ⟨(pq_blank (f1 q h)).1, (pq_blank (f1 q h)).2, (pq_blank f2).1, (pq_blank f2).2, (pq_blank (f1 [] n0)).2⟩
theorem pq_tx {t : By} (h : pqB t = true) : txB (pqN t) ≠ ⟨#[]⟩ := by
  have h1 := h
  rw [pq_yes h]
  unfold pqB at h1
  simp only [Bool.and_eq_true] at h1
  exact txB_yes (okI_rq h1.2).2
theorem tx_all : txB [nd 1 0 0 ⟨#[]⟩ V.z] = ⟨#[97, 108, 108]⟩ := by
  have hv : ∀ x ∈ [nd 1 0 0 ⟨#[]⟩ V.z], NV x := fun x hx => by rw [List.mem_singleton.1 hx]; exact .inl rfl
  have h := Rq.all 0
  have hq := h.qry (by decide) hv
  unfold txB
  rw [h.tx hq]
  rfl
theorem pqN_sz (t : By) : szAll N.sz (pqN t) ≤ 4000000 := by
  cases h : pqB t with
  | false => rw [pq_no h]; exact Nat.zero_le _
  | true =>
    have hl := pq_len h
    have h1 := h
    unfold pqB at h1
    simp only [Bool.and_eq_true] at h1
    obtain ⟨hs, _⟩ := sfL_short h1.1
    have h2 := rdI_short ((sfL t).length + 10) (sfL t) [] hs (fun x hx => by cases hx)
    rw [← pq_yes h] at h2
    have := short_sz _ h2
    omega
end Go.Proofs.YtodbohmbdgbheaaGreatDoor

namespace Go.Proofs.YtodbohmbdgbheaaGreatDoor
open Go.RowKit
set_option linter.unusedVariables false
/-- The bytes of a draw. -/
def Cd (w : World) (v : Value) : Prop := ∃ (n : Nat) (bs : List Int), Rd w v 1 n (bs.map (Value.int .u8)) ∧ n ≤ 1048576
theorem Cd.grew {w w' : World} {v : Value} (h : Cd w v) (hg : Grew w w') : Cd w' v := by
  obtain ⟨n, bs, h1, h2⟩ := h
  exact ⟨n, bs, h1.grew hg, h2⟩
theorem D.out {g : Nat} {a b c : World} (h : Grew a b) (k : D g b c) (hl : a.heap.size ≤ g) : Grew a c := k.2.1.new h hl
theorem own_first {w : World} {base n size : Nat} {e : TypeId} {v : Value} {xs : List Value} (h : w.ownsRow base e size v n xs) (hn : 0 < n) : ∃ g c, v = .slice (some ⟨g, 0, none⟩) n c := by
  obtain ⟨_, ⟨_, h0⟩ | ⟨g, cap, cur, h1, _⟩⟩ := h
  · omega
  · exact ⟨g, cap, h1⟩
end Go.Proofs.YtodbohmbdgbheaaGreatDoor

namespace Go.Proofs.YtodbohmbdgbheaaGreatDoor
open Go.RowKit
set_option linter.unusedVariables false
theorem q_szQ {n : Nat} : ∀ {xs : List N}, qOk n xs → szAll N.sz xs ≤ xs.length * 16
  | [], _ => by simp [szAll]
  | x :: r, h => by
    have h1 := h.2 x (List.mem_cons_self ..)
    have h2 : qOk r.length r := ⟨Nat.le_refl _, fun y hy => h.2 y (List.mem_cons_of_mem _ hy)⟩
    have h3 := q_szQ h2
    have h4 : szAll N.sz (x :: r) = N.sz x + szAll N.sz r := by simp [szAll]
    have h5 : N.sz x ≤ 16 := by have := h1.1; have := h1.2; unfold N.sz V.sz; omega
    rw [h4, List.length_cons]; omega
set_option maxRecDepth 100000 in
set_option maxHeartbeats 1000000 in
theorem drawFormatQuery (v : Value) (w : World) (hc : Cd w v) :
    Calls Tryz.prog 6 #[v] w fun e w' => ∃ q, e = .returned q ∧ ∃ xs, w'.ownsRow w.heap.size 38 7 q xs.length (rows N.c xs) ∧ qOk 8 xs ∧ Grew w w' := by
  obtain ⟨n, bs, hr, hn⟩ := hc
  go_enter Tryz.func6, Tryz.ntmps6
  go_wp2_with fail
  refine (l01New v n bs _ hr hn).mono ?_
  rintro e w1 ⟨rfl, hc1, hg1, hs1⟩
  go_wp2_with fail
  refine (l09Any _ _ hc1).mono ?_
  rintro e w2 ⟨q, rfl, xs, ho, hq, hd⟩
  go_wp2
  go_ret
  exact ⟨_, rfl, xs, ownsRow_base ho hg1.size, hq, D.out hg1 hd (Nat.le_refl _)⟩
set_option maxRecDepth 100000 in
set_option maxHeartbeats 1000000 in
theorem drawOpKeyword (v : Value) (w : World) (hc : Cd w v) :
    Calls Tryz.prog 11 #[v] w fun e w' => ∃ x : Int, e = .returned (.int .i64 x) ∧ Grew w w' := by
  obtain ⟨n, bs, hr, hn⟩ := hc
  go_enter Tryz.func11, Tryz.ntmps11
  go_wp2_with fail
  refine (l01New v n bs _ hr hn).mono ?_
  rintro e w1 ⟨rfl, hc1, hg1, hs1⟩
  go_wp2_with fail
  refine (l01Below _ _ hc1 12 (by decide) (by decide)).mono ?_
  rintro e w2 ⟨x, rfl, hx, hd⟩
  go_wp2
  go_ret
  exact ⟨_, rfl, D.out hg1 hd (Nat.le_refl _)⟩
set_option maxRecDepth 100000 in
set_option maxHeartbeats 2000000 in
theorem drawParseQuery (v : Value) (w : World) (hc : Cd w v) :
    Calls Tryz.prog 9 #[v] w fun e w' => ∃ t : ByteArray, e = .returned (.string t) ∧ t.size ≤ 200 ∧ Grew w w' := by
  obtain ⟨n, bs, hr, hn⟩ := hc
  go_enter Tryz.func9, Tryz.ntmps9
  go_wp2_with fail
  refine (l01New v n bs _ hr hn).mono ?_
  rintro e w1 ⟨rfl, hc1, hg1, hs1⟩
  go_wp2_with fail
  refine (l09Question _ _ hc1).mono ?_
  rintro e w2 ⟨q, rfl, xs, ho, hpos, hq, hd⟩
  have hl := hq.1
  have hsz := q_szQ hq
  have hs := txB_sz xs
  obtain ⟨T, hT_⟩ : ∃ y, txB xs = y := ⟨_, rfl⟩
  have HT := Lib.hid (show (⟨(txq xs).toArray⟩ : By) = T from hT_)
  rw [hT_] at hs
  clear hT_ hpos hq
  go_wp2_with fail
  refine (specFormatQuery xs q _ (rd_of_own ho) (by omega) (by omega)).mono ?_
  rintro e w3 ⟨he, g3⟩
  rw [HT.out] at he
  subst he
  have D3 := Lib.hid (hd.grew g3)
  clear ho hsz hd g3
  go_wp2_with fail
  refine (l01Below _ _ D3.out.cur 6 (by decide) (by decide)).mono ?_
  rintro e w4 ⟨x, rfl, hx, d4⟩
  have D4 := Lib.hid (D3.out.trans d4)
  have hc4 := Lib.hid D4.out.cur
  clear d4 hc1
  have h9 : ¬ (9223372036854775807 < 2 + T.size) := by omega
  by_cases h0 : x = 0
  · subst h0
    go_wp2
    go_ret
    refine ⟨_, rfl, ?_, D.out hg1 D4.out (Nat.le_refl _)⟩
    simp only [ByteArray.size_append]
    show 2 + T.size + 1 ≤ 200
    omega
  · by_cases h1 : x = 1
    · subst h1
      go_wp2_with fail
      refine (l01Pick _ _ (hc4.out.grew ((Grew.refl w4).alloc _)) _ 4 [⟨#[32, 97, 108, 108]⟩, ⟨#[120]⟩, ⟨#[32, 49]⟩, ⟨#[127]⟩] (lit_rd w4 _ _ 1 4 4 rfl (Nat.le_refl _)) (cur_ne hc4.out) (by decide) (by decide)).mono ?_
      rintro e w5 ⟨y, rfl, hy, d5⟩
      have hys : y.size ≤ 4 := by simp at hy; rcases hy with rfl | rfl | rfl | rfl <;> decide
      have D5 := Lib.hid ((D4.out.alloc _).trans d5)
      clear hy d5
      go_wp2
      go_ret
      refine ⟨_, rfl, ?_, D.out hg1 D5.out (Nat.le_refl _)⟩
      rw [ByteArray.size_append]
      omega
    · by_cases h2 : x = 2
      · subst h2
        go_wp2_with fail
        refine (l01Pick _ _ (hc4.out.grew ((Grew.refl w4).alloc _)) _ 13 [⟨#[]⟩, ⟨#[97, 110, 100, 32, 97, 108, 108]⟩, ⟨#[110, 111, 116]⟩, ⟨#[101, 113, 32, 97]⟩, ⟨#[101, 113, 32, 97, 32, 45]⟩, ⟨#[108, 116, 32, 97, 32, 114, 101, 100]⟩, ⟨#[101, 113, 32, 116, 32, 114, 101, 100]⟩, ⟨#[104, 97, 115, 32, 97, 98]⟩, ⟨#[105, 110, 32, 65]⟩, ⟨#[97, 110, 100, 32, 97, 108, 108, 32, 97, 108, 108]⟩, ⟨#[111, 114, 32, 97, 108, 108, 32, 104, 97, 115, 32, 97]⟩, ⟨#[110, 111, 116, 32, 110, 111, 116, 32, 110, 111, 116, 32, 110, 111, 116, 32, 110, 111, 116, 32, 110, 111, 116, 32, 110, 111, 116, 32, 110, 111, 116, 32, 110, 111, 116, 32, 97, 108, 108]⟩, ⟨#[110, 111, 116, 32, 110, 111, 116, 32, 110, 111, 116, 32, 110, 111, 116, 32, 110, 111, 116, 32, 110, 111, 116, 32, 110, 111, 116, 32, 110, 111, 116, 32, 97, 108, 108]⟩] (lit_rd w4 _ _ 1 13 13 rfl (Nat.le_refl _)) (cur_ne hc4.out) (by decide) (by decide)).mono ?_
        rintro e w5 ⟨y, rfl, hy, d5⟩
        have hys : y.size ≤ 60 := by simp at hy; rcases hy with rfl | rfl | rfl | rfl | rfl | rfl | rfl | rfl | rfl | rfl | rfl | rfl | rfl <;> decide
        have D5 := Lib.hid ((D4.out.alloc _).trans d5)
        clear hy d5
        go_wp2
        go_ret
        exact ⟨_, rfl, by omega, D.out hg1 D5.out (Nat.le_refl _)⟩
      · go_wp2
        go_ret
        exact ⟨_, rfl, by omega, D.out hg1 D4.out (Nat.le_refl _)⟩
end Go.Proofs.YtodbohmbdgbheaaGreatDoor

namespace Go.Proofs.YtodbohmbdgbheaaGreatDoor.fnQueryRoundTrip
open Go.RowKit
set_option linter.unusedVariables false
theorem eqN_self : ∀ x : N, eqN x x = true := fun x => by simp [eqN, eqV]
theorem eqL_self' {α : Type} {f : α → α → Bool} (hf : ∀ x, f x x = true) (xs : List α) : eqL f xs xs = true := by
  unfold eqL
  exact @decide_eq_true _ (Classical.propDecidable _) ⟨rfl, fun j x y hx hy => by obtain rfl := Option.some.inj (hx.symm.trans hy); exact hf x⟩
set_option maxRecDepth 100000 in
set_option maxHeartbeats 8000000 in
theorem walkLaw (w : World) (v : Value) (n : Nat) (xs : List Int) (hr : Rd w v 1 n (xs.map (Value.int .u8))) (hn : n ≤ maxLen) (ho : ∀ a : Int, a ∈ xs → 0 ≤ a ∧ a ≤ 255) (ht : TabP w) (hE : ErrS w) (hA : TabA w) :
    Calls Tryz.prog 3 #[v] w fun e w' => e = .returned (.bool true) ∧ Grew w w' := by
  clear ho
  have HT := Lib.hid (fun (u : World) (g : Grew w u) => (⟨ht.grew g, hE.grew g, hA.grew g⟩ : TabP u ∧ ErrS u ∧ TabA u))
  clear ht hE hA
  by_cases hbig : (1048576 : Int) < (n : Int)
  · have hd : decide ((1048576 : Int) < (n : Int)) = true := by simp [hbig]
    go_enter Tryz.func3, Tryz.ntmps3
    go_wp2_with fail
    refine (big v n _ _ hr hn).mono ?_
    rintro e w1 ⟨rfl, rfl⟩
    go_wp2
    go_ret
    exact ⟨rfl, Grew.refl _⟩
  have hd : decide ((1048576 : Int) < (n : Int)) = false := by simp [hbig]
  have hcd : Hid (Cd w v) := Lib.hid ⟨n, xs, hr, by omega⟩
  go_enter Tryz.func3, Tryz.ntmps3
  go_wp2_with fail
  refine (big v n _ _ hr hn).mono ?_
  rintro e w1 ⟨rfl, rfl⟩
  go_wp2_with fail
  refine (drawFormatQuery v _ hcd.out).mono ?_
  rintro e w1 ⟨vq, rfl, q, oq, hq, G1⟩
  have hl := hq.1
  have hsz := q_szQ hq
  have RQ := Lib.hid (rd_of_own oq)
  obtain ⟨aq, cq, hvq⟩ := own_slice oq
  subst hvq
  clear oq hq
  have hs := txB_sz q
  obtain ⟨b, hb_⟩ : ∃ b, qryB q = b := ⟨_, rfl⟩
  obtain ⟨T, hT_⟩ : ∃ y, txB q = y := ⟨_, rfl⟩
  obtain ⟨L, hL_⟩ : ∃ y, pqN T = y := ⟨_, rfl⟩
  have U : pqB (padB T) = b ∧ pqN (padB T) = L ∧ txB L = T ∧ (b = true → qryB L = true ∧ (T.toList == []) = false) ∧ (b = false → T = ⟨#[]⟩) := by
    cases b with
    | true =>
      obtain ⟨e, h1, h2, h3, h4, h5, h6⟩ := round hb_
      rw [hT_] at h2 h3 h4 h5 h6
      rw [hL_] at h4
      subst h4
      refine ⟨h5, h6, h2, fun _ => ⟨h1, empty_ne ?_⟩, fun h => (by cases h)⟩
      rw [← hT_]; exact txB_yes hb_
    | false =>
      obtain ⟨h1, h2, h3, h4, h5⟩ := round_no hb_
      have h6 := txB_no hb_
      rw [hT_] at h1 h2 h3 h4 h6
      rw [hL_] at h2
      subst h2
      refine ⟨h3, h4, ?_, fun h => (by cases h), fun _ => h6⟩
      rw [h6]
      refine txB_no ?_
      cases hq : qryB ([] : List N) with
      | false => rfl
      | true => have := (txq_len hq).1; simp at this
  have HLs := pqN_sz T
  have HLl := pq_le T
  rw [hL_] at HLs HLl
  have HU1 := Lib.hid U.1
  have HU2 := Lib.hid U.2.1
  have HU3 := Lib.hid U.2.2.1
  have HU4 := Lib.hid U.2.2.2.1
  have HU5 := Lib.hid U.2.2.2.2
  have HTX := Lib.hid (show (⟨(txq q).toArray⟩ : By) = T from hT_)
  have HTB := Lib.hid hT_
  have HLL := Lib.hid hL_
  have HTL := Lib.hid (show (⟨(txq L).toArray⟩ : By) = T from U.2.2.1)
  rw [hT_] at hs
  clear U hb_ hT_ hL_
  have FQ := Lib.hid (fun (u : World) (g : Grew w1 u) => show Calls Tryz.prog 7 #[.slice aq q.length cq] u (fun e w' => e = .returned (.string T) ∧ Grew u w') from by
    have h := implFormatQuery q _ u (RQ.out.grew g) (by omega) (by omega) (HT.out _ (G1.trans g)).1
    rw [HTX.out] at h; exact h)
  have FS := Lib.hid (fun (u : World) (g : Grew w1 u) => show Calls Tryz.prog 13 #[.slice aq q.length cq] u (fun e w' => e = .returned (.string T) ∧ Grew u w') from by
    have h := specFormatQuery q _ u (RQ.out.grew g) (by omega) (by omega)
    rw [HTX.out] at h; exact h)
  have PP := Lib.hid (fun (u : World) (g : Grew w1 u) => show Calls Tryz.prog 8 #[.string ((⟨#[32, 32]⟩ ++ T) ++ ⟨#[32]⟩)] u (fun e w' => ∃ v, e = .returned (.tuple #[v, .bool b]) ∧ w'.ownsRow u.heap.size 38 7 v L.length (rows N.c L) ∧ Grew u w') from by
    have h3 := HT.out _ (G1.trans g)
    have h := implParseQuery (padB T) (by unfold padB; rw [ByteArray.size_append, ByteArray.size_append]; show 2 + T.size + 1 ≤ _; omega) u h3.1 h3.2.1 h3.2.2
    rw [HU1.out, HU2.out] at h; exact h)
  have QI := Lib.hid (fun (u : World) (g : Grew w1 u) => show Calls Tryz.prog 12 #[.slice aq q.length cq] u (fun e w' => ∃ v, e = .returned v ∧ w'.ownsRow u.heap.size 38 7 v L.length (rows N.c L) ∧ Grew u w') from by
    have h3 := HT.out _ (G1.trans g)
    have h := implPostorderQuery q _ u (RQ.out.grew g) (by omega) (by omega) h3.1 h3.2.1 h3.2.2
    rw [HTB.out, HLL.out] at h; exact h)
  have QS := Lib.hid (fun (u : World) (g : Grew w1 u) => show Calls Tryz.prog 17 #[.slice aq q.length cq] u (fun e w' => ∃ v, e = .returned v ∧ w'.ownsRow u.heap.size 38 7 v L.length (rows N.c L) ∧ Grew u w') from by
    have h := specPostorderQuery q _ u (RQ.out.grew g) (by omega) (by omega)
    rw [HTB.out, HLL.out] at h; exact h)
  have FL := Lib.hid (fun (va : Value) (u : World) (g : Grew w1 u) (hL : Rd u va 7 L.length (rows N.c L)) => show Calls Tryz.prog 7 #[va] u (fun e w' => e = .returned (.string T) ∧ Grew u w') from by
    have h := implFormatQuery L va u hL HLl HLs (HT.out _ (G1.trans g)).1
    rw [HTL.out] at h; exact h)
  have QL := Lib.hid (fun (va : Value) (u : World) (g : Grew w1 u) (hL : Rd u va 7 L.length (rows N.c L)) => show Calls Tryz.prog 12 #[va] u (fun e w' => ∃ v, e = .returned v ∧ w'.ownsRow u.heap.size 38 7 v L.length (rows N.c L) ∧ Grew u w') from by
    have h3 := HT.out _ (G1.trans g)
    have h := implPostorderQuery L va u hL HLl HLs h3.1 h3.2.1 h3.2.2
    rw [HU3.out, HLL.out] at h; exact h)
  have VL := Lib.hid (fun (va : Value) (u : World) (hL : Rd u va 7 L.length (rows N.c L)) => implIsValidQuery va L.length L u hL HLl HLs)
  have SM := Lib.hid (fun (va vb : Value) (X : List N) (u : World) (ha : Rd u va 7 X.length (rows N.c X)) (hb : Rd u vb 7 X.length (rows N.c X)) (h : X.length ≤ 4000000) => show Calls Tryz.prog 14 #[va, vb] u (fun e w' => e = .returned (.bool true) ∧ Grew u w') from by
    have h := sameNodes va vb X.length X.length X X u ha hb h h
    rw [eqL_self' eqN_self] at h; exact h)
  have FA := Lib.hid (fun (va : Value) (u : World) (g : Grew w1 u) (h1 : Rd u va 7 1 (rows N.c [nd 1 0 0 ⟨#[]⟩ V.z])) => show Calls Tryz.prog 7 #[va] u (fun e w' => e = .returned (.string ⟨#[97, 108, 108]⟩) ∧ Grew u w') from by
    have h := implFormatQuery [nd 1 0 0 ⟨#[]⟩ V.z] va u h1 (by show 1 ≤ 4000000; decide) (by simp [szAll, N.sz, V.sz, V.z, ByteArray.size]) (HT.out _ (G1.trans g)).1
    have h2 := tx_all
    unfold txB at h2
    rw [h2] at h; exact h)
  clear hsz hl
  go_wp2_with fail
  refine (FQ.out _ (Grew.refl _)).mono ?_
  rintro e w2 ⟨rfl, s2⟩
  have g2 := Lib.hid ((Grew.refl w1).trans s2)
  go_wp2_with fail
  refine (PP.out _ g2.out).mono ?_
  rintro e w3 ⟨vr, rfl, o3, s3⟩
  have g3 := Lib.hid (g2.out.trans s3)
  have RR := Lib.hid (rd_of_own o3)
  obtain ⟨ar, cr, hvr⟩ := own_slice o3
  subst hvr
  clear o3 s2
  go_wp2_with fail
  refine (drawParseQuery v _ (hcd.out.grew (G1.trans g3.out))).mono ?_
  rintro e w4 ⟨t, rfl, hts, s4⟩
  have g4 := Lib.hid (g3.out.trans s4)
  obtain ⟨M, hM_⟩ : ∃ y, pqN t = y := ⟨_, rfl⟩
  obtain ⟨hb, hhb_⟩ : ∃ y, pqB t = y := ⟨_, rfl⟩
  have HMl := pq_le t
  have HMs := pqN_sz t
  have HMX := Lib.hid (fun h : pqB t = true => empty_ne (pq_tx h))
  rw [hM_] at HMl HMs HMX
  rw [hhb_] at HMX
  obtain ⟨X, hX_⟩ : ∃ y, txB M = y := ⟨_, rfl⟩
  have HXX := Lib.hid (show (⟨(txq M).toArray⟩ : By) = X from hX_)
  rw [hX_] at HMX
  have PI := Lib.hid (fun (u : World) (g : Grew w1 u) => show Calls Tryz.prog 8 #[.string t] u (fun e w' => ∃ v, e = .returned (.tuple #[v, .bool hb]) ∧ w'.ownsRow u.heap.size 38 7 v M.length (rows N.c M) ∧ Grew u w') from by
    have h3 := HT.out _ (G1.trans g)
    have h := implParseQuery t (by omega) u h3.1 h3.2.1 h3.2.2
    rw [hM_, hhb_] at h; exact h)
  have PS := Lib.hid (fun (u : World) => show Calls Tryz.prog 10 #[.string t] u (fun e w' => ∃ v, e = .returned (.tuple #[v, .bool hb]) ∧ w'.ownsRow u.heap.size 38 7 v M.length (rows N.c M) ∧ Grew u w') from by
    have h := specParseQuery t (by omega) u
    rw [hM_, hhb_] at h; exact h)
  have FX := Lib.hid (fun (va : Value) (u : World) (g : Grew w1 u) (hL : Rd u va 7 M.length (rows N.c M)) => show Calls Tryz.prog 7 #[va] u (fun e w' => e = .returned (.string X) ∧ Grew u w') from by
    have h := implFormatQuery M va u hL HMl HMs (HT.out _ (G1.trans g)).1
    rw [HXX.out] at h; exact h)
  clear hM_ hhb_ hX_
  go_wp2_with fail
  refine (PI.out _ g4.out).mono ?_
  rintro e w5 ⟨vx, rfl, o5, s5⟩
  have g5 := Lib.hid (g4.out.trans s5)
  have RX := Lib.hid (rd_of_own o5)
  obtain ⟨ax, cx, hvx⟩ := own_slice o5
  subst hvx
  clear o5
  go_wp2_with fail
  refine (PS.out _).mono ?_
  rintro e w6 ⟨vy, rfl, o6, s6⟩
  have g6 := Lib.hid (g5.out.trans s6)
  have RY := Lib.hid (rd_of_own o6)
  obtain ⟨ay, cy, hvy⟩ := own_slice o6
  subst hvy
  clear o6
  go_wp2_with fail
  refine (drawOpKeyword v _ (hcd.out.grew (G1.trans g6.out))).mono ?_
  rintro e w7 ⟨op, rfl, s7⟩
  have g7 := Lib.hid (g6.out.trans s7)
  obtain ⟨K, hK_⟩ : ∃ y, kw op = y := ⟨_, rfl⟩
  have HK := Lib.hid hK_
  clear hK_
  go_wp2_with fail
  refine (QI.out _ g7.out).mono ?_
  rintro e w8 ⟨vp, rfl, o8, s8⟩
  have g8 := Lib.hid (g7.out.trans s8)
  have RP := Lib.hid (rd_of_own o8)
  obtain ⟨ap, cp, hvp⟩ := own_slice o8
  subst hvp
  clear o8
  go_wp2_with fail
  refine (FS.out _ g8.out).mono ?_
  rintro e w9 ⟨rfl, s9⟩
  have g9 := Lib.hid (g8.out.trans s9)
  cases b with
  | true =>
    have hTe := (HU4.out rfl).2
    have HQL := Lib.hid (HU4.out rfl).1
    cases hb with
    | true =>
      have hXe := HMX.out rfl
      go_wp2_with fail
      refine (SM.out _ _ M _ (RX.out.grew (((((Grew.refl _).trans s6).trans s7).trans s8).trans s9)) (RY.out.grew ((((Grew.refl _).trans s7).trans s8).trans s9)) HMl).mono ?_
      rintro e w10 ⟨rfl, s10⟩
      have g10 := Lib.hid (g9.out.trans s10)
      go_wp2_with fail
      refine (implOpKeyword op _).mono ?_
      rintro e w11 ⟨he, s11⟩
      have g11 := Lib.hid (g10.out.trans s11)
      rw [HK.out] at he
      subst he
      go_wp2_with fail
      refine (specOpKeyword op _).mono ?_
      rintro e w12 ⟨he, s12⟩
      have g12 := Lib.hid (g11.out.trans s12)
      rw [HK.out] at he
      subst he
      go_wp2_with fail
      refine (QS.out _ g12.out).mono ?_
      rintro e w13 ⟨vz, rfl, oz, s13⟩
      have g13 := Lib.hid (g12.out.trans s13)
      have RZ := Lib.hid (rd_of_own oz)
      obtain ⟨az, cz, hvz⟩ := own_slice oz
      subst hvz
      clear oz
      go_wp2_with fail
      refine (SM.out _ _ L _ (RP.out.grew ((((((Grew.refl _).trans s9).trans s10).trans s11).trans s12).trans s13)) (RZ.out.grew (Grew.refl _)) HLl).mono ?_
      rintro e w14 ⟨rfl, s14⟩
      have g14 := Lib.hid (g13.out.trans s14)
      go_wp2_with fail
      refine (SM.out _ _ L _ (RR.out.grew ((((((((((((Grew.refl _).trans s4).trans s5).trans s6).trans s7).trans s8).trans s9).trans s10).trans s11).trans s12).trans s13).trans s14)) (RP.out.grew (((((((Grew.refl _).trans s9).trans s10).trans s11).trans s12).trans s13).trans s14)) HLl).mono ?_
      rintro e w15 ⟨rfl, s15⟩
      have g15 := Lib.hid (g14.out.trans s15)
      go_wp2_with fail
      refine (FL.out _ _ g15.out (RR.out.grew (((((((((((((Grew.refl _).trans s4).trans s5).trans s6).trans s7).trans s8).trans s9).trans s10).trans s11).trans s12).trans s13).trans s14).trans s15))).mono ?_
      rintro e w16 ⟨rfl, s16⟩
      have g16 := Lib.hid (g15.out.trans s16)
      go_wp2_with fail
      refine (VL.out _ _ (RR.out.grew ((((((((((((((Grew.refl _).trans s4).trans s5).trans s6).trans s7).trans s8).trans s9).trans s10).trans s11).trans s12).trans s13).trans s14).trans s15).trans s16))).mono ?_
      rintro e w17 ⟨he, s17⟩
      have g17 := Lib.hid (g16.out.trans s17)
      rw [HQL.out] at he
      subst he
      go_wp2_with fail
      refine (QL.out _ _ g17.out (RP.out.grew ((((((((((Grew.refl _).trans s9).trans s10).trans s11).trans s12).trans s13).trans s14).trans s15).trans s16).trans s17))).mono ?_
      rintro e w18 ⟨vu, rfl, ou, s18⟩
      have g18 := Lib.hid (g17.out.trans s18)
      have RU := Lib.hid (rd_of_own ou)
      obtain ⟨au, cu, hvu⟩ := own_slice ou
      subst hvu
      clear ou
      go_wp2_with fail
      refine (SM.out _ _ L _ (RU.out.grew (Grew.refl _)) (RP.out.grew (((((((((((Grew.refl _).trans s9).trans s10).trans s11).trans s12).trans s13).trans s14).trans s15).trans s16).trans s17).trans s18)) HLl).mono ?_
      rintro e w19 ⟨rfl, s19⟩
      have g19 := Lib.hid (g18.out.trans s19)
      go_wp2_with fail
      refine (FX.out _ _ g19.out (RX.out.grew (((((((((((((((Grew.refl _).trans s6).trans s7).trans s8).trans s9).trans s10).trans s11).trans s12).trans s13).trans s14).trans s15).trans s16).trans s17).trans s18).trans s19))).mono ?_
      rintro e w20 ⟨rfl, s20⟩
      have g20 := Lib.hid (g19.out.trans s20)
      go_wp2_with fail
      refine (FA.out _ _ (g20.out.alloc _) (lit_rd w20 #[.int .i64 1, .int .i64 0, .int .i64 0, .string ⟨#[]⟩, .int .i64 0, .int .i64 0, .string ⟨#[]⟩] 38 7 1 1 rfl (Nat.le_refl _))).mono ?_
      rintro e wz ⟨rfl, sz⟩
      go_wp2
      go_ret
      exact ⟨rfl, (G1.trans (g20.out.alloc _)).trans sz⟩
    | false =>
      go_wp2_with fail
      refine (SM.out _ _ M _ (RX.out.grew (((((Grew.refl _).trans s6).trans s7).trans s8).trans s9)) (RY.out.grew ((((Grew.refl _).trans s7).trans s8).trans s9)) HMl).mono ?_
      rintro e w10 ⟨rfl, s10⟩
      have g10 := Lib.hid (g9.out.trans s10)
      go_wp2_with fail
      refine (implOpKeyword op _).mono ?_
      rintro e w11 ⟨he, s11⟩
      have g11 := Lib.hid (g10.out.trans s11)
      rw [HK.out] at he
      subst he
      go_wp2_with fail
      refine (specOpKeyword op _).mono ?_
      rintro e w12 ⟨he, s12⟩
      have g12 := Lib.hid (g11.out.trans s12)
      rw [HK.out] at he
      subst he
      go_wp2_with fail
      refine (QS.out _ g12.out).mono ?_
      rintro e w13 ⟨vz, rfl, oz, s13⟩
      have g13 := Lib.hid (g12.out.trans s13)
      have RZ := Lib.hid (rd_of_own oz)
      obtain ⟨az, cz, hvz⟩ := own_slice oz
      subst hvz
      clear oz
      go_wp2_with fail
      refine (SM.out _ _ L _ (RP.out.grew ((((((Grew.refl _).trans s9).trans s10).trans s11).trans s12).trans s13)) (RZ.out.grew (Grew.refl _)) HLl).mono ?_
      rintro e w14 ⟨rfl, s14⟩
      have g14 := Lib.hid (g13.out.trans s14)
      go_wp2_with fail
      refine (SM.out _ _ L _ (RR.out.grew ((((((((((((Grew.refl _).trans s4).trans s5).trans s6).trans s7).trans s8).trans s9).trans s10).trans s11).trans s12).trans s13).trans s14)) (RP.out.grew (((((((Grew.refl _).trans s9).trans s10).trans s11).trans s12).trans s13).trans s14)) HLl).mono ?_
      rintro e w15 ⟨rfl, s15⟩
      have g15 := Lib.hid (g14.out.trans s15)
      go_wp2_with fail
      refine (FL.out _ _ g15.out (RR.out.grew (((((((((((((Grew.refl _).trans s4).trans s5).trans s6).trans s7).trans s8).trans s9).trans s10).trans s11).trans s12).trans s13).trans s14).trans s15))).mono ?_
      rintro e w16 ⟨rfl, s16⟩
      have g16 := Lib.hid (g15.out.trans s16)
      go_wp2_with fail
      refine (VL.out _ _ (RR.out.grew ((((((((((((((Grew.refl _).trans s4).trans s5).trans s6).trans s7).trans s8).trans s9).trans s10).trans s11).trans s12).trans s13).trans s14).trans s15).trans s16))).mono ?_
      rintro e w17 ⟨he, s17⟩
      have g17 := Lib.hid (g16.out.trans s17)
      rw [HQL.out] at he
      subst he
      go_wp2_with fail
      refine (QL.out _ _ g17.out (RP.out.grew ((((((((((Grew.refl _).trans s9).trans s10).trans s11).trans s12).trans s13).trans s14).trans s15).trans s16).trans s17))).mono ?_
      rintro e w18 ⟨vu, rfl, ou, s18⟩
      have g18 := Lib.hid (g17.out.trans s18)
      have RU := Lib.hid (rd_of_own ou)
      obtain ⟨au, cu, hvu⟩ := own_slice ou
      subst hvu
      clear ou
      go_wp2_with fail
      refine (SM.out _ _ L _ (RU.out.grew (Grew.refl _)) (RP.out.grew (((((((((((Grew.refl _).trans s9).trans s10).trans s11).trans s12).trans s13).trans s14).trans s15).trans s16).trans s17).trans s18)) HLl).mono ?_
      rintro e w19 ⟨rfl, s19⟩
      have g19 := Lib.hid (g18.out.trans s19)
      go_wp2_with fail
      refine (FA.out _ _ (g19.out.alloc _) (lit_rd w19 #[.int .i64 1, .int .i64 0, .int .i64 0, .string ⟨#[]⟩, .int .i64 0, .int .i64 0, .string ⟨#[]⟩] 38 7 1 1 rfl (Nat.le_refl _))).mono ?_
      rintro e wz ⟨rfl, sz⟩
      go_wp2
      go_ret
      exact ⟨rfl, (G1.trans (g19.out.alloc _)).trans sz⟩
  | false =>
    have hTe := HU5.out rfl
    subst hTe
    cases hb with
    | true =>
      have hXe := HMX.out rfl
      go_wp2_with fail
      refine (SM.out _ _ M _ (RX.out.grew (((((Grew.refl _).trans s6).trans s7).trans s8).trans s9)) (RY.out.grew ((((Grew.refl _).trans s7).trans s8).trans s9)) HMl).mono ?_
      rintro e w10 ⟨rfl, s10⟩
      have g10 := Lib.hid (g9.out.trans s10)
      go_wp2_with fail
      refine (implOpKeyword op _).mono ?_
      rintro e w11 ⟨he, s11⟩
      have g11 := Lib.hid (g10.out.trans s11)
      rw [HK.out] at he
      subst he
      go_wp2_with fail
      refine (specOpKeyword op _).mono ?_
      rintro e w12 ⟨he, s12⟩
      have g12 := Lib.hid (g11.out.trans s12)
      rw [HK.out] at he
      subst he
      go_wp2_with fail
      refine (QS.out _ g12.out).mono ?_
      rintro e w13 ⟨vz, rfl, oz, s13⟩
      have g13 := Lib.hid (g12.out.trans s13)
      have RZ := Lib.hid (rd_of_own oz)
      obtain ⟨az, cz, hvz⟩ := own_slice oz
      subst hvz
      clear oz
      go_wp2_with fail
      refine (SM.out _ _ L _ (RP.out.grew ((((((Grew.refl _).trans s9).trans s10).trans s11).trans s12).trans s13)) (RZ.out.grew (Grew.refl _)) HLl).mono ?_
      rintro e w14 ⟨rfl, s14⟩
      have g14 := Lib.hid (g13.out.trans s14)
      go_wp2_with fail
      refine (QL.out _ _ g14.out (RP.out.grew (((((((Grew.refl _).trans s9).trans s10).trans s11).trans s12).trans s13).trans s14))).mono ?_
      rintro e w15 ⟨vu, rfl, ou, s15⟩
      have g15 := Lib.hid (g14.out.trans s15)
      have RU := Lib.hid (rd_of_own ou)
      obtain ⟨au, cu, hvu⟩ := own_slice ou
      subst hvu
      clear ou
      go_wp2_with fail
      refine (SM.out _ _ L _ (RU.out.grew (Grew.refl _)) (RP.out.grew ((((((((Grew.refl _).trans s9).trans s10).trans s11).trans s12).trans s13).trans s14).trans s15)) HLl).mono ?_
      rintro e w16 ⟨rfl, s16⟩
      have g16 := Lib.hid (g15.out.trans s16)
      go_wp2_with fail
      refine (FX.out _ _ g16.out (RX.out.grew ((((((((((((Grew.refl _).trans s6).trans s7).trans s8).trans s9).trans s10).trans s11).trans s12).trans s13).trans s14).trans s15).trans s16))).mono ?_
      rintro e w17 ⟨rfl, s17⟩
      have g17 := Lib.hid (g16.out.trans s17)
      go_wp2_with fail
      refine (FA.out _ _ (g17.out.alloc _) (lit_rd w17 #[.int .i64 1, .int .i64 0, .int .i64 0, .string ⟨#[]⟩, .int .i64 0, .int .i64 0, .string ⟨#[]⟩] 38 7 1 1 rfl (Nat.le_refl _))).mono ?_
      rintro e wz ⟨rfl, sz⟩
      go_wp2
      go_ret
      exact ⟨rfl, (G1.trans (g17.out.alloc _)).trans sz⟩
    | false =>
      go_wp2_with fail
      refine (SM.out _ _ M _ (RX.out.grew (((((Grew.refl _).trans s6).trans s7).trans s8).trans s9)) (RY.out.grew ((((Grew.refl _).trans s7).trans s8).trans s9)) HMl).mono ?_
      rintro e w10 ⟨rfl, s10⟩
      have g10 := Lib.hid (g9.out.trans s10)
      go_wp2_with fail
      refine (implOpKeyword op _).mono ?_
      rintro e w11 ⟨he, s11⟩
      have g11 := Lib.hid (g10.out.trans s11)
      rw [HK.out] at he
      subst he
      go_wp2_with fail
      refine (specOpKeyword op _).mono ?_
      rintro e w12 ⟨he, s12⟩
      have g12 := Lib.hid (g11.out.trans s12)
      rw [HK.out] at he
      subst he
      go_wp2_with fail
      refine (QS.out _ g12.out).mono ?_
      rintro e w13 ⟨vz, rfl, oz, s13⟩
      have g13 := Lib.hid (g12.out.trans s13)
      have RZ := Lib.hid (rd_of_own oz)
      obtain ⟨az, cz, hvz⟩ := own_slice oz
      subst hvz
      clear oz
      go_wp2_with fail
      refine (SM.out _ _ L _ (RP.out.grew ((((((Grew.refl _).trans s9).trans s10).trans s11).trans s12).trans s13)) (RZ.out.grew (Grew.refl _)) HLl).mono ?_
      rintro e w14 ⟨rfl, s14⟩
      have g14 := Lib.hid (g13.out.trans s14)
      go_wp2_with fail
      refine (QL.out _ _ g14.out (RP.out.grew (((((((Grew.refl _).trans s9).trans s10).trans s11).trans s12).trans s13).trans s14))).mono ?_
      rintro e w15 ⟨vu, rfl, ou, s15⟩
      have g15 := Lib.hid (g14.out.trans s15)
      have RU := Lib.hid (rd_of_own ou)
      obtain ⟨au, cu, hvu⟩ := own_slice ou
      subst hvu
      clear ou
      go_wp2_with fail
      refine (SM.out _ _ L _ (RU.out.grew (Grew.refl _)) (RP.out.grew ((((((((Grew.refl _).trans s9).trans s10).trans s11).trans s12).trans s13).trans s14).trans s15)) HLl).mono ?_
      rintro e w16 ⟨rfl, s16⟩
      have g16 := Lib.hid (g15.out.trans s16)
      go_wp2_with fail
      refine (FA.out _ _ (g16.out.alloc _) (lit_rd w16 #[.int .i64 1, .int .i64 0, .int .i64 0, .string ⟨#[]⟩, .int .i64 0, .int .i64 0, .string ⟨#[]⟩] 38 7 1 1 rfl (Nat.le_refl _))).mono ?_
      rintro e wz ⟨rfl, sz⟩
      go_wp2
      go_ret
      exact ⟨rfl, (G1.trans (g16.out.alloc _)).trans sz⟩
end Go.Proofs.YtodbohmbdgbheaaGreatDoor.fnQueryRoundTrip

namespace Go.Proofs.YtodbohmbdgbheaaGreatDoor.fnQueryRoundTrip
open Go.ChangeShapes Go.WideShapes Go.ChangeAt Go.RowKit
open Go.ChangeMaps (open_string shut_string)
set_option linter.unusedVariables false
set_option maxRecDepth 100000 in
theorem lifted (os : Os) (started : os.Started) (H : Type) (enc : TypeId × Value → H) :
    ReturnsInHanded {} Tryz.checked os 3 .any (fun w args => (Rows.fnQueryRoundTripSpec.pre enc Tryz.prog Tryz.f3 Rows.fnQueryRoundTripRow.domain false w args ∧ laidMetH Tryz.prog Rows.fnQueryRoundTripRow.laid w) ∧ sizedMet enc Tryz.prog Tryz.f3 (OpenSpec.ofChange Rows.fnQueryRoundTripSpec) false w args) (Rows.fnQueryRoundTripSpec.post enc Tryz.prog Tryz.f3 false true false false) := by
  refine returnsInHanded_of_change_and (C := Tryz.checked) (X := fun w _ => laidMetH Tryz.prog Rows.fnQueryRoundTripRow.laid w) (fun _ _ _ hh h => h.of_heap hh) (by kernel_rfl) started (by kernel_rfl) Tryz.func3
    (ChangeSpec.witness_shaped (enc := enc) (C := Tryz.checked) (os := os) (X := fun w _ => laidMetH Tryz.prog Rows.fnQueryRoundTripRow.laid w) false (World.laidAll Tryz.prog os Rows.fnQueryRoundTripRow.laid) #[.slice none 0 0] 8 (World.laidAll_os _ _ _)
      (World.shaped_of_ZipB (by kernel_rfl) (by kernel_rfl)) (by kernel_rfl) (by kernel_rfl) (by kernel_rfl)
      (by rw [MakeChecks.laidMetH_plain _ _ _ (by kernel_rfl)]; exact laidMet_laidAll _ (by kernel_rfl) (by kernel_rfl))) ?_
  intro W base args ds gs before hval0 hW hcnd _ hL0 _
  have hL : laidMet Tryz.prog Rows.fnQueryRoundTripRow.laid W := by have h := hL0; rw [MakeChecks.laidMetH_plain _ _ _ (by kernel_rfl)] at h; exact h
  have hval : ∀ (j : Nat) t v, Tryz.f3.params[j]? = some t → args[j]? = some v → Value.okWide Tryz.prog W .any base t v := hval0
  have hW' := hW
  obtain ⟨p, q, hA0, hV, rfl, hfz, hnd⟩ := hW
  have hA : DataW.TrodAll enc Tryz.prog W 0 (fun _ => true) true Tryz.f3.params.toList args.toList ds p := hA0
  rw [Tryz.params3] at hA hval
  obtain ⟨v0, vs0, d0, ds0, p0, q0, hargs, rfl, rfl, h0, r0⟩ := trodAll_cons hA
  obtain ⟨rfl, rfl, rfl⟩ := trodAll_nil r0
  obtain rfl : args = #[v0] := by cases args; simp_all
  obtain ⟨rfl, rfl⟩ := trodVars_none hV
  have k0 := h0
  have lt0 : ∀ x ∈ p0, x.block < W.heap.size := by obtain ⟨m, hm⟩ := k0; exact DataW.trod_lt m _ _ _ hm
  obtain ⟨s0, l0, c0, rfl⟩ := okWide_slice Tryz.underlying22 (hval 0 22 v0 rfl rfl)
  obtain ⟨fu0, hf0⟩ := h0
  obtain ⟨n0, x0, hr0, hn0, ho0⟩ := open_bytes hf0
  clear hA0 hval0
  refine (walkLaw W _ n0 x0 hr0 hn0 ho0 (tabP_of hL) (errS_of hL) (tabA_of hL)).mono fun e W' ⟨he, bel⟩ => ?_
  subst he
  exact ⟨_, rfl, _, _, _, [], _, [], hW', trodAll_mk1 (shut_bool Tryz.underlying4 _), (trodAll_cons_mk (Below.trod laidOut (by kernel_rfl) (of_decide_eq_true (by kernel_rfl)) k0 bel lt0) trodAll_mk0), rfl, bel.below.frame _, fun h => by cases h⟩
theorem holds : Rows.FnQueryRoundTripSaid :=
  OpenClaim.holds_of_wide 3 Tryz.f3 rfl rfl rfl rfl rfl rfl rfl ⟨rfl, rfl, rfl, rfl, rfl⟩ rfl rfl rfl rfl rfl (by kernel_rfl) Tryz.func3 (by kernel_rfl)
    (of_decide_eq_true (by kernel_rfl)) (by unfold Func.isWrapper; first | (rw [if_pos (by decide +kernel)]; kernel_rfl) | (rw [if_neg (by decide +kernel)]; exact ⟨rfl, rfl⟩))
    (fun os started H enc _ => lifted os started H enc)
theorem proved : Rows.FnQueryRoundTripCardSaid :=
  Claim7.holds_tied_plain_at .later [] [.data, .data, .data, .sentinel, .sentinel, .listed, .data] true (true, "6c79f0ad1c4420700070a834265e37a9fa7869d063959ef4b961b059568dc5df") true holds (fun _ h => by cases h) (by kernel_rfl) (fun _ h => by cases h) fnQueryRoundTrip_row_tie rfl ⟨rfl, rfl⟩ (by kernel_rfl) rfl
    (fun f fn hf hfn => by
      obtain rfl : f = 3 := Option.some.inj ((show Tryz.prog.funcNamed "loop.example/g00976/laws.FnQueryRoundTrip" = some 3 by kernel_rfl).symm.trans hf) |>.symm
      obtain rfl : fn = Tryz.f3 := (Option.some.inj (Tryz.func3.symm.trans hfn)).symm
      exact ⟨by kernel_rfl, fun j t ht => by
        rw [Tryz.params3] at ht
        have hm : t ∈ [22] := by simpa using Array.mem_of_getElem? ht
        have hall : ([22].all fun u => !Tryz.prog.wantsStandIn u) = true := by kernel_rfl
        exact (show Tryz.prog.wantsStandIn t = false by simpa using List.all_eq_true.1 hall t hm)⟩)
    (by kernel_rfl)
end Go.Proofs.YtodbohmbdgbheaaGreatDoor.fnQueryRoundTrip
