/- Texts of queries: a node's text by its children's. No program in sight. -/
import Derived.Test.YtodbohmbdgbheaaGreatDoorTx5
namespace Go.Proofs.YtodbohmbdgbheaaGreatDoor
open Go.RowKit
set_option linter.unusedVariables false
noncomputable def txA (q : List N) (d a : Nat) : By := ⟨(Lib.join (bys (wdsQ q d a)) [32]).toArray⟩
theorem join_app : ∀ (a b : List (List UInt8)), a ≠ [] → b ≠ [] → Lib.join (a ++ b) [32] = Lib.join a [32] ++ 32 :: Lib.join b [32]
  | [], _, h, _ => absurd rfl h
  | x :: r, [], _, h => absurd rfl h
  | x :: r, y :: s, _, _ => by
    rw [List.cons_append, Lib.join_cons, Lib.join_cons, Lib.join_cons]
    simp [Lib.joinTail, List.append_assoc]
theorem kw_size {m : Nat} (h1 : 1 ≤ m) (h9 : m ≤ 9) : (kw (m : Nat)).size ≤ 6 := by
  have := (kw_wd h1 h9).2.1
  have h : (kw (m : Nat)).size = (kw (m : Nat)).data.toList.length := by rw [Array.length_toList]; rfl
  omega
theorem wds_ne {q : List N} (hq : qryB q = true) {d a : Nat} (ha : a < q.length) (hd : a < d) : wdsQ q d a ≠ [] := by
  obtain ⟨e, h1, _, _⟩ := wds_rq hq d a ha hd 0
  intro hc
  have := h1.pos
  rw [hc] at this
  simp at this
/-- A node's text by its children's. -/
theorem txA_at {q : List N} (hq : qryB q = true) {d i : Nat} {x : N} (h : q[i]? = some x) (hd : i ≤ d) : txA q (d + 1) i =
    (if x.op = 2 ∨ x.op = 8 ∨ x.op = 9 then kw x.op ++ ⟨#[32]⟩ ++ x.name
      else if x.op = 3 ∨ x.op = 4 then kw x.op ++ ⟨#[32]⟩ ++ x.name ++ ⟨#[32]⟩ ++ fvB x.val
      else if x.op = 5 then kw x.op ++ ⟨#[32]⟩ ++ txA q d x.left.toNat
      else if x.op = 6 ∨ x.op = 7 then kw x.op ++ ⟨#[32]⟩ ++ txA q d x.left.toNat ++ ⟨#[32]⟩ ++ txA q d x.right.toNat
      else kw x.op) := by
  have hl := txq_len hq
  have hi := (List.getElem?_eq_some_iff.1 h).1
  have hc := nod_cases (by omega) (qry_vf hq i x (Nat.zero_le _) h)
  have hne := fun (j : Nat) (hj : j < i) => wds_ne hq (d := d) (a := j) (by omega) (by omega)
  have tA : ∀ j, (txA q d j).data.toList = Lib.join (bys (wdsQ q d j)) [32] := fun j => rfl
  apply ba_ext
  show Lib.join (bys (wdsQ q (d + 1) i)) [32] = _
  unfold wdsQ
  rw [h]
  dsimp only
  rcases hc with h1 | ⟨h1, h2⟩ | ⟨h1, h2, h3, h4⟩ | ⟨h1, h2, h3, h4⟩ | ⟨h1, j, h2, h3⟩ | ⟨h1, j, m, h2, h3, h4, h5⟩ | ⟨h1, h2⟩
  · rw [if_neg (by omega), if_neg (by omega), if_neg (by omega), if_neg (by omega), if_neg (by omega), if_neg (by omega), if_neg (by omega), if_neg (by omega)]
    simp [bys, Lib.join_one]
  · rw [if_pos (.inl h1), if_pos (.inl h1)]
    simp [bys, Lib.join_cons, Lib.joinTail]
  · rw [if_neg (by omega), if_pos (.inl h1), if_neg (by omega), if_pos (.inl h1)]
    simp [bys, Lib.join_cons, Lib.joinTail]
  · rw [if_neg (by omega), if_pos (.inr h1), if_neg (by omega), if_pos (.inr h1)]
    simp [bys, Lib.join_cons, Lib.joinTail]
  · rw [if_neg (by omega), if_neg (by omega), if_pos h1, if_neg (by omega), if_neg (by omega), if_pos h1, show x.left.toNat = j by omega]
    have hb : bys (kw x.op :: wdsQ q d j) = [(kw x.op).data.toList] ++ bys (wdsQ q d j) := rfl
    rw [hb, join_app _ _ (by simp) (by simpa [bys] using hne j h3), Lib.join_one]
    simp [tA]
  · rw [if_neg (by omega), if_neg (by omega), if_neg (by omega), if_pos h1, if_neg (by omega), if_neg (by omega), if_neg (by omega), if_pos h1, show x.left.toNat = j by omega, show x.right.toNat = m by omega]
    have hb : bys (kw x.op :: (wdsQ q d j ++ wdsQ q d m)) = [(kw x.op).data.toList] ++ (bys (wdsQ q d j) ++ bys (wdsQ q d m)) := by simp [bys]
    rw [hb, join_app _ _ (by simp) (by simpa [bys] using fun h => absurd h (hne j h4)), join_app _ _ (by simpa [bys] using hne j h4) (by simpa [bys] using hne m h5), Lib.join_one]
    simp [tA]
  · rw [if_pos (.inr h1), if_pos (.inr h1)]
    simp [bys, Lib.join_cons, Lib.joinTail]
theorem tsz_pow (q : List N) : ∀ (d a : Nat), tsz q d a + 1 ≤ 2 ^ d
  | 0, _ => by simp [tsz]
  | d + 1, a => by
    have hp : 1 ≤ 2 ^ d := Nat.one_le_two_pow
    rw [Nat.pow_succ]
    unfold tsz
    split
    · omega
    · rename_i x _
      have h1 := tsz_pow q d x.left.toNat
      have h2 := tsz_pow q d x.right.toNat
      split
      · omega
      · split <;> omega
theorem txA_len {q : List N} (hq : qryB q = true) {d a : Nat} (h9 : d ≤ 9) (ha : a < q.length) (hd : a < d) : (txA q d a).size ≤ 10000 := by
  obtain ⟨e, h1, h2, h3⟩ := wds_rq hq d a ha hd 0
  obtain ⟨h4, h5⟩ := h1.words h3
  have h6 := join_len _ h4
  have h7 := tsz_pow q d a
  have h8 : 2 ^ d ≤ 2 ^ 9 := Nat.pow_le_pow_right (by decide) h9
  have h9 : (2 : Nat) ^ 9 = 512 := by decide
  have h10 : (txA q d a).size = (Lib.join (bys (wdsQ q d a)) [32]).length := by simp [txA, ByteArray.size]
  rw [List.length_map] at h6
  omega
theorem wd_size {s : By} (h : Wd s.data.toList) : s.size ≤ 6 := by
  have := h.2.1
  have h2 : s.size = s.data.toList.length := by rw [Array.length_toList]; rfl
  omega
theorem eqV_z {v : V} (h : eqV v V.z = true) : v = V.z := by
  obtain ⟨k, n, s⟩ := v
  simp only [eqV, V.z, Bool.and_eq_true, beq_iff_eq] at h
  obtain ⟨h1, h2, h3⟩ := h
  rw [Lib.toList_data, Lib.toList_data] at h3
  subst h1; subst h2
  have : s = ⟨#[]⟩ := ba_ext h3
  subst this; rfl
/-- The names and values of a valid query are short. -/
theorem nod_sizes {q : List N} (hq : qryB q = true) {i : Nat} {x : N} (h : q[i]? = some x) : x.name.size ≤ 6 ∧ x.val.str.size ≤ 4000000 ∧ (fvB x.val).size ≤ 6 := by
  have hl := txq_len hq
  have hi := (List.getElem?_eq_some_iff.1 h).1
  have hn := qry_vf hq i x (Nat.zero_le _) h
  have hc := nod_cases (by omega) hn
  have hz : (fvB V.z).size ≤ 6 := by
    have : fvB V.z = ⟨#[45]⟩ := by unfold fvB; rw [valB_z]; rfl
    rw [this]; decide
  have hz0 : (⟨#[]⟩ : By).size ≤ 6 := by decide
  have hE : ∀ s : By, s.toList.isEmpty = true → s.size ≤ 6 := fun s hs => by
    rw [Lib.toList_data, List.isEmpty_iff] at hs
    have : s = ⟨#[]⟩ := ba_ext hs
    subst this; exact hz0
  have hT : ∀ (s t : By), s.toList = t.toList → s = t := fun s t hs => by
    rw [Lib.toList_data, Lib.toList_data] at hs
    exact ba_ext hs
  have fv : valB x.val = true → x.val.kind ≠ 0 → x.val.str.size ≤ 4000000 ∧ (fvB x.val).size ≤ 6 := fun h1 h2 => by
    have h3 := val_word h1 h2
    have h4 := wd_size (pv_wd h3.1)
    refine ⟨?_, h4⟩
    unfold valB at h1
    simp only [beq_iff_eq] at h1
    rw [if_neg h2] at h1
    by_cases hk : x.val.kind = 1
    · rw [if_pos hk, Bool.and_eq_true] at h1
      have := hE _ h1.2
      omega
    · rw [if_neg hk] at h1
      by_cases hk2 : x.val.kind = 2
      · rw [if_pos hk2, Bool.and_eq_true] at h1
        have := wd_size (txt_wd h1.1 (by decide))
        omega
      · rw [if_neg hk2] at h1; cases h1
  have zv : eqV x.val V.z = true → x.val.str.size ≤ 4000000 ∧ (fvB x.val).size ≤ 6 := fun h1 => by
    rw [eqV_z h1]
    exact ⟨by decide, hz⟩
  rw [wrap_less (by omega)] at hn
  unfold nodB at hn
  rcases hc with h1 | ⟨h1, h2⟩ | ⟨h1, h2, h3, h4⟩ | ⟨h1, h2, h3, h4⟩ | ⟨h1, j, h2, h3⟩ | ⟨h1, j, m, h2, h3, h4, h5⟩ | ⟨h1, h2⟩
  · rw [h1] at hn
    simp only [eqN, beq_self_eq_true, if_true, Bool.and_eq_true, beq_iff_eq] at hn
    obtain ⟨_, _, _, h5, h6⟩ := hn
    have := hT _ _ h5
    rw [this]
    exact ⟨hz0, zv h6⟩
  · have h3 := txt_wd h2 (by decide)
    rw [h1] at hn
    simp only [show ((2 : Int) == 1) = false from rfl, Bool.false_eq_true, if_false, eqN, beq_self_eq_true, if_true, Bool.and_eq_true, beq_iff_eq] at hn
    exact ⟨wd_size h3, zv hn.2.2.2.2.2⟩
  · exact ⟨wd_size (txt_wd h2 (by decide)), fv h3 h4⟩
  · exact ⟨wd_size (txt_wd h2 (by decide)), fv h3 (by omega)⟩
  · rw [h1] at hn
    simp only [show ((5 : Int) == 1) = false from rfl, show ((5 : Int) == 2) = false from rfl, show ((5 : Int) == 3) = false from rfl, show ((5 : Int) == 4) = false from rfl, Bool.false_eq_true, if_false, beq_self_eq_true, if_true, Bool.and_eq_true, beq_iff_eq] at hn
    exact ⟨hE _ hn.2.2.1, zv hn.2.2.2⟩
  · have e6 : (x.op == 6 || x.op == 7) = true := by rcases h1 with h | h <;> rw [h] <;> rfl
    have e1 : (x.op == 1) = false := by rcases h1 with h | h <;> rw [h] <;> rfl
    have e2 : (x.op == 2) = false := by rcases h1 with h | h <;> rw [h] <;> rfl
    have e3 : (x.op == 3) = false := by rcases h1 with h | h <;> rw [h] <;> rfl
    have e4 : (x.op == 4) = false := by rcases h1 with h | h <;> rw [h] <;> rfl
    have e5 : (x.op == 5) = false := by rcases h1 with h | h <;> rw [h] <;> rfl
    rw [e1, e2, e3, e4, e5, e6] at hn
    simp only [Bool.false_eq_true, if_false, if_true, Bool.and_eq_true] at hn
    exact ⟨hE _ hn.2.2.1, zv hn.2.2.2⟩
  · have h3 := txt_wd h2 (by decide)
    have e6 : (x.op == 6 || x.op == 7) = false := by rcases h1 with h | h <;> rw [h] <;> rfl
    have e8 : (x.op == 8 || x.op == 9) = true := by rcases h1 with h | h <;> rw [h] <;> rfl
    have e1 : (x.op == 1) = false := by rcases h1 with h | h <;> rw [h] <;> rfl
    have e2 : (x.op == 2) = false := by rcases h1 with h | h <;> rw [h] <;> rfl
    have e3 : (x.op == 3) = false := by rcases h1 with h | h <;> rw [h] <;> rfl
    have e4 : (x.op == 4) = false := by rcases h1 with h | h <;> rw [h] <;> rfl
    have e5 : (x.op == 5) = false := by rcases h1 with h | h <;> rw [h] <;> rfl
    rw [e1, e2, e3, e4, e5, e6, e8] at hn
    simp only [Bool.false_eq_true, if_false, if_true, Bool.and_eq_true, eqN, beq_iff_eq] at hn
    exact ⟨wd_size h3, zv hn.2.2.2.2.2⟩
theorem nc5 {l : Int} {i : Nat} {r : Int} {P1 P2 P3 P4 : Prop} (h : ((5 : Nat) : Int) = 1 ∨ (((5 : Nat) : Int) = 2 ∧ P1) ∨ (((5 : Nat) : Int) = 3 ∧ P2) ∨ (((5 : Nat) : Int) = 4 ∧ P3) ∨ (((5 : Nat) : Int) = 5 ∧ ∃ j : Nat, l = j ∧ j < i) ∨ ((((5 : Nat) : Int) = 6 ∨ ((5 : Nat) : Int) = 7) ∧ ∃ j m : Nat, l = j ∧ r = m ∧ j < i ∧ m < i) ∨ ((((5 : Nat) : Int) = 8 ∨ ((5 : Nat) : Int) = 9) ∧ P4)) : ∃ j : Nat, l = j ∧ j < i := by
  rcases h with h | ⟨h, _⟩ | ⟨h, _⟩ | ⟨h, _⟩ | ⟨h, h2⟩ | ⟨h, _⟩ | ⟨h, _⟩
  · omega
  · omega
  · omega
  · omega
  · exact h2
  · omega
  · omega
theorem nc67 {o : Nat} {l : Int} {i : Nat} {r : Int} {P1 P2 P3 P4 P5 : Prop} (ho : o = 6 ∨ o = 7) (h : ((o : Nat) : Int) = 1 ∨ (((o : Nat) : Int) = 2 ∧ P1) ∨ (((o : Nat) : Int) = 3 ∧ P2) ∨ (((o : Nat) : Int) = 4 ∧ P3) ∨ (((o : Nat) : Int) = 5 ∧ P5) ∨ ((((o : Nat) : Int) = 6 ∨ ((o : Nat) : Int) = 7) ∧ ∃ j m : Nat, l = j ∧ r = m ∧ j < i ∧ m < i) ∨ ((((o : Nat) : Int) = 8 ∨ ((o : Nat) : Int) = 9) ∧ P4)) : ∃ j m : Nat, l = j ∧ r = m ∧ j < i ∧ m < i := by
  rcases h with h | ⟨h, _⟩ | ⟨h, _⟩ | ⟨h, _⟩ | ⟨h, _⟩ | ⟨h, h2⟩ | ⟨h, _⟩
  · omega
  · omega
  · omega
  · omega
  · omega
  · exact h2
  · omega
theorem txq_none {q : List N} (h : qryB q = false) : (txq q).toArray = #[] := by rw [txq_no h]
theorem txq_A {q : List N} (h : qryB q = true) : (⟨(txq q).toArray⟩ : By) = txA q q.length (q.length - 1) := by unfold txq txA; rw [if_pos h]
end Go.Proofs.YtodbohmbdgbheaaGreatDoor
