/- Numerals: what ParseUint reads, plain. No program in sight. -/
import Derived.Lib.ItoaMem
import Derived.Lib.AtoiTie
import Derived.Lib.AtoiBound
namespace Go.Proofs.YtodbohmbdgbheaaGreatDoor
open Go.Lib
theorem digitVal_of {d : Nat} (h : d < 10) : digitVal (UInt8.ofNat (48 + d)) = some d := by
  have : (UInt8.ofNat (48 + d)).toNat = 48 + d := by rw [UInt8.toNat_ofNat']; omega
  unfold digitVal
  rw [this, if_pos (by omega)]
  simp
theorem decFrom_app : ∀ (l r : List UInt8) (a : Nat), decFrom a (l ++ r) = (decFrom a l).bind fun m => decFrom m r
  | [], r, a => rfl
  | b :: l, r, a => by
    simp only [List.cons_append, decFrom]
    cases digitVal b with
    | none => rfl
    | some d => exact decFrom_app l r _
theorem decFrom_dec (u : Nat) : decFrom 0 (decDigits u) = some u := by
  induction u using Nat.strongRecOn with
  | _ u ih =>
    by_cases h : u < 10
    · rw [decDigits, dif_pos h]
      unfold decFrom
      rw [digitVal_of h]
      simp [decFrom]
    · rw [decDigits, dif_neg h, decFrom_app, ih (u / 10) (by omega)]
      show decFrom (u / 10) [UInt8.ofNat (48 + u % 10)] = some u
      unfold decFrom
      rw [digitVal_of (Nat.mod_lt u (by decide : 0 < 10))]
      simp only [decFrom, Option.some.injEq]
      omega
theorem dec_ne (u : Nat) : decDigits u ≠ [] := fun h => by
  have := decDigits_length u
  have := nDigits_pos u
  rw [h] at *; simp at *; omega
theorem dec_digits (u : Nat) : ∀ b ∈ decDigits u, 48 ≤ b.toNat ∧ b.toNat ≤ 57 := fun b hb => by
  obtain ⟨k, hk⟩ := List.getElem?_of_mem hb
  obtain ⟨d, hd⟩ := digit_of_decFrom _ _ _ (decFrom_dec u) k b hk
  have := digitVal_eq hd
  omega
/-- What ParseUint reads: a numeral without leading zeros, at most MaxUint. -/
def puN (l : List UInt8) : Option Nat := match decFrom 0 l with
  | some n => if n ≤ 1000000000 ∧ decDigits n = l then some n else none
  | none => none
theorem puN_some {l : List UInt8} {n : Nat} (h : puN l = some n) : n ≤ 1000000000 ∧ l = decDigits n := by
  unfold puN at h
  split at h
  · split at h
    · rename_i h2; injection h with h; subst h; exact ⟨h2.1, h2.2.symm⟩
    · cases h
  · cases h
theorem puN_dec {n : Nat} (h : n ≤ 1000000000) : puN (decDigits n) = some n := by
  unfold puN
  rw [decFrom_dec]
  simp [h]
theorem puN_none {l : List UInt8} (h : ∀ n, n ≤ 1000000000 → l ≠ decDigits n) : puN l = none := by
  cases hp : puN l with
  | none => rfl
  | some n => exact absurd (puN_some hp).2 (h n (puN_some hp).1)
theorem nDigits_le {u : Nat} (h : u ≤ 1000000000) : nDigits u ≤ 10 := by
  apply Nat.le_of_not_lt
  intro hc
  have h1 : 10 ^ 10 ≤ u := by
    have key : ∀ (k u : Nat), k < nDigits u → 10 ^ k ≤ u ∨ k = 0 := by
      intro k
      induction k with
      | zero => intro u _; exact Or.inr rfl
      | succ k ih =>
        intro u hu
        by_cases h10 : u < 10
        · rw [nDigits_small h10] at hu; omega
        · rw [nDigits_big h10] at hu
          rcases ih (u / 10) (by omega) with h | h
          · left; rw [Nat.pow_succ]; omega
          · subst h; left; simp; omega
    rcases key 10 u hc with h | h
    · exact h
    · omega
  have : (10 : Nat) ^ 10 = 10000000000 := by decide
  omega
theorem puN_long {l : List UInt8} (h : 10 < l.length) : puN l = none :=
  puN_none fun n hn e => by
    have := decDigits_length n
    have := nDigits_le hn
    rw [e] at h
    omega
theorem atoi_dec (n : Nat) : atoi (decDigits n) = some (n : Int) := by
  cases hl : decDigits n with
  | nil => exact absurd hl (dec_ne n)
  | cons b r =>
    have hb := dec_digits n b (by rw [hl]; exact List.mem_cons_self ..)
    have h45 : (b == 45) = false := by
      simp only [beq_eq_false_iff_ne, ne_eq]; rintro rfl
      have : (45 : UInt8).toNat = 45 := rfl
      omega
    have h43 : (b == 43) = false := by
      simp only [beq_eq_false_iff_ne, ne_eq]; rintro rfl
      have : (43 : UInt8).toNat = 43 := rfl
      omega
    have := decFrom_dec n
    rw [hl] at this
    simp [atoi, h45, h43, decNat, this]
theorem itoa_nat (n : Nat) : itoa (n : Int) = decDigits n := itoa_nonneg n
/-- The program's way: Atoi, the bounds, and the numeral written again. -/
theorem pu_atoi {l : List UInt8} {v : Int} (h : atoi l = some v) : puN l = if 0 ≤ v ∧ v ≤ 1000000000 ∧ itoa v = l then some v.toNat else none := by
  split
  · rename_i hc
    obtain ⟨h0, h1, h2⟩ := hc
    obtain ⟨n, rfl⟩ : ∃ n : Nat, v = n := ⟨v.toNat, by omega⟩
    rw [itoa_nat] at h2
    rw [← h2, puN_dec (by omega)]
    simp
  · rename_i hc
    refine puN_none fun n hn e => hc ?_
    subst e
    rw [atoi_dec] at h
    injection h with h
    subst h
    exact ⟨by omega, by omega, itoa_nat n⟩
theorem pu_atoi_none {l : List UInt8} (h : atoi l = none) : puN l = none := puN_none fun n _ e => by rw [e, atoi_dec] at h; cases h
end Go.Proofs.YtodbohmbdgbheaaGreatDoor
