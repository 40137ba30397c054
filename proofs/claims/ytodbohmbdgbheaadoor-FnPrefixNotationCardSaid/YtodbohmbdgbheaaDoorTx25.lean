/- From the relation to ParseQuery's answer; the query of FnPrefixNotation. -/
import Derived.Test.YtodbohmbdgbheaaDoorTx20
import Derived.Test.YtodbohmbdgbheaaDoorTx5
import Derived.Test.YtodbohmbdgbheaaDoorTx9
namespace Go.Proofs.YtodbohmbdgbheaaDoor
open Go.RowKit
set_option linter.unusedVariables false
theorem bys_back (p : List By) : (bys p).map (fun l => (⟨l.toArray⟩ : By)) = p := by
  unfold bys
  rw [List.map_map]
  conv => rhs; rw [← List.map_id p]
  apply List.map_congr_left
  intro x _
  simp
/-- A text whose words read as these nodes. -/
theorem pq_of {s : By} {p : List By} {e : List N} (hs : s.data.toList = Lib.join (bys p) [32]) (h : Rq 0 p e) (hv : ∀ x ∈ e, NV x) (hn : e.length ≤ 9) : pqB s = true ∧ pqN s = e ∧ (⟨(txq e).toArray⟩ : By) = s := by
  have hq := h.qry hn hv
  obtain ⟨hw, hl⟩ := h.words hv
  have hp := h.pos.1
  have hne : bys p ≠ [] := fun hc => by
    have h1 := congrArg List.length hc
    simp [bys] at h1
    subst h1
    simp at hp
  have hf := fields_join hw hne (.inl rfl : ([] : List UInt8) = [] ∨ ([] : List UInt8) = [32])
  rw [List.append_nil, ← hs] at hf
  have hjl := join_len (bys p) hw
  have hjb := join_bytes hw
  rw [← hs] at hjl hjb
  have hbl : (bys p).length = p.length := by simp [bys]
  have hsf : sfB s = true := by
    unfold sfB ascB
    rw [hf, hbl]
    simp only [Bool.and_eq_true, decide_eq_true_eq, List.all_eq_true]
    refine ⟨?_, hjb, by omega⟩
    rw [size_list']
    omega
  have hsl : sfL s = p := by
    rw [sf_yes hsf]
    unfold Lib.fieldsB
    rw [hf, bys_back]
  obtain ⟨h1, h2⟩ := okI_of h hq
  have hpq : pqB s = true := by unfold pqB; rw [hsf, hsl, h1]; rfl
  refine ⟨hpq, ?_, ?_⟩
  · rw [pq_yes hpq, hsl, h2]
  · rw [h.tx hq, ← hs]
theorem txt_a {m : Int} (hm : 1 ≤ m) : txtB ⟨#[97]⟩ m = true := by
  unfold txtB
  rw [lowB_true (fun i hi => by
    have h1 : i = 0 := by have : i < 1 := hi; omega
    subst h1; exact (by decide : (97 : Int) ≤ ((97 : UInt8).toNat : Int) ∧ ((97 : UInt8).toNat : Int) ≤ 122))]
  simp [inB, ByteArray.size]; omega
theorem txt_d {m : Int} (hm : 1 ≤ m) : txtB ⟨#[100]⟩ m = true := by
  unfold txtB
  rw [lowB_true (fun i hi => by
    have h1 : i = 0 := by have : i < 1 := hi; omega
    subst h1; exact (by decide : (97 : Int) ≤ ((100 : UInt8).toNat : Int) ∧ ((100 : UInt8).toNat : Int) ≤ 122))]
  simp [inB, ByteArray.size]; omega
abbrev vN (n : Nat) : V := ⟨1, n, ⟨#[]⟩⟩
abbrev dN (n : Nat) : By := ⟨(Lib.decDigits n).toArray⟩
theorem vN_ok {n : Nat} (h : n ≤ 999) : valB (vN n) = true := by
  simp [valB, inB]; omega
theorem fv_vN {n : Nat} (h : n ≤ 999) : fvB (vN n) = dN n := by
  unfold fvB
  rw [vN_ok h]
  simp [itoa_nat]
/-- 'eq a n' -/
def eqA (n : Nat) : List N := [nd 3 0 0 ⟨#[97]⟩ (vN n)]
theorem rqA {n : Nat} (h : n ≤ 999) (k : Nat) : Rq k [kw (3 : Nat), ⟨#[97]⟩, dN n] (eqA n) := by
  obtain ⟨h1, h2⟩ := val_word (vN_ok h) (by show (1 : Int) ≠ 0; decide)
  rw [fv_vN h] at h1 h2
  have h3 := Rq.val k 3 ⟨#[97]⟩ (dN n) (.inl rfl) h1
  rw [h2] at h3
  exact h3
/-- 'and eq a n not in d' -/
def andA (n : Nat) : List N := [nd 3 0 0 ⟨#[97]⟩ (vN n), nd 8 0 0 ⟨#[100]⟩ V.z, nd 5 1 0 ⟨#[]⟩ V.z, nd 6 0 2 ⟨#[]⟩ V.z]
theorem rqAnd {n : Nat} (h : n ≤ 999) : Rq 0 [kw (6 : Nat), kw (3 : Nat), ⟨#[97]⟩, dN n, kw (5 : Nat), kw (8 : Nat), ⟨#[100]⟩] (andA n) :=
  Rq.two 0 6 _ _ _ _ (.inl rfl) (rqA h 0) (Rq.not 1 _ _ (Rq.name 1 8 ⟨#[100]⟩ (.inr (.inl rfl))))
theorem nvA (n : Nat) : ∀ x ∈ eqA n, NV x := by
  intro x hx
  rw [List.mem_singleton.1 hx]
  exact .inr (.inr (.inr (.inr (.inr (.inl ⟨rfl, txt_a (by decide), (by decide : (1 : Int) ≠ 0)⟩)))))
theorem nvAnd (n : Nat) : ∀ x ∈ andA n, NV x := by
  intro x hx
  simp only [andA, List.mem_cons, List.not_mem_nil, or_false] at hx
  rcases hx with rfl | rfl | rfl | rfl
  · exact nvA n _ (List.mem_singleton.2 rfl)
  · exact .inr (.inr (.inr (.inr (.inr (.inr (.inr ⟨.inl rfl, txt_d (by decide)⟩))))))
  · exact .inr (.inl rfl)
  · exact .inr (.inr (.inl rfl))
/-- The law's texts. -/
def tA (n : Nat) : By := ⟨#[101, 113, 32, 97, 32]⟩ ++ dN n
def tAnd (n : Nat) : By := (⟨#[97, 110, 100, 32]⟩ ++ tA n) ++ ⟨#[32]⟩ ++ ⟨#[110, 111, 116, 32, 105, 110, 32, 100]⟩
theorem pqA {n : Nat} (h : n ≤ 999) : pqB (tA n) = true ∧ pqN (tA n) = eqA n := by
  have h1 := pq_of (s := tA n) (p := [kw (3 : Nat), ⟨#[97]⟩, dN n]) (by simp [tA, bys, Lib.join, List.intercalate, kw, dN]) (rqA h 0) (nvA n) (by simp [eqA])
  exact ⟨h1.1, h1.2.1⟩
theorem pqAnd {n : Nat} (h : n ≤ 999) : pqB (tAnd n) = true ∧ pqN (tAnd n) = andA n ∧ (⟨(txq (andA n)).toArray⟩ : By) = tAnd n :=
  pq_of (s := tAnd n) (p := [kw (6 : Nat), kw (3 : Nat), ⟨#[97]⟩, dN n, kw (5 : Nat), kw (8 : Nat), ⟨#[100]⟩]) (by simp [tAnd, tA, bys, Lib.join, List.intercalate, kw, dN]) (rqAnd h) (nvAnd n) (by simp [andA])
theorem dN_size {n : Nat} (h : n ≤ 999) : (dN n).size ≤ 3 := by
  have h1 := dec_short h
  show (Lib.decDigits n).toArray.size ≤ 3
  simpa using h1
end Go.Proofs.YtodbohmbdgbheaaDoor
