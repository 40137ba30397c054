/- Contracts: figures, FormatInt. -/
import Derived.Test.YtodbohmbdgbheaaGreatDoorTx1
import Derived.Test.YtodbohmbdgbheaaGreatDoorC1
import Derived.Test.YtodbohmbdgbheaaGreatDoorShelfD
import Derived.Laws.IdiomStrings
import Derived.Laws.BytesArg
namespace Go.Proofs.YtodbohmbdgbheaaGreatDoor
open Go.RowKit
set_option linter.unusedVariables false
theorem dec_len {n : Nat} (h : n ≤ 9223372036854775807) : (Lib.decDigits n).length ≤ 20 := by
  rw [Lib.decDigits_length]
  apply Nat.le_of_not_lt
  intro hc
  have key : ∀ (k u : Nat), k < Lib.nDigits u → 10 ^ k ≤ u ∨ k = 0 := by
    intro k
    induction k with
    | zero => intro u _; exact Or.inr rfl
    | succ k ih =>
      intro u hu
      by_cases h10 : u < 10
      · rw [Lib.nDigits_small h10] at hu; omega
      · rw [Lib.nDigits_big h10] at hu
        rcases ih (u / 10) (by omega) with h | h
        · left; rw [Nat.pow_succ]; omega
        · subst h; left; simp; omega
  rcases key 20 n hc with h2 | h2
  · have : (10 : Nat) ^ 20 = 100000000000000000000 := by decide
    omega
  · omega
theorem str_cons (m : Nat) (l : List UInt8) : (strOfNums [48 + (m : Int) % 10] ++ ⟨l.toArray⟩ : ByteArray) = ⟨(UInt8.ofNat (48 + m % 10) :: l).toArray⟩ := by
  have h : (48 + (m : Int) % 10).toNat = 48 + m % 10 := by omega
  apply ba_ext
  simp [strOfNums, h]
/-- What a variable holds stays. -/
theorem var_grew {w w' : World} {n : String} {v : Array Value} (h : w.var? Tryz.prog n = some v) (hb : Grew w w') : w'.var? Tryz.prog n = some v := by
  unfold World.var? at h ⊢
  cases hg : Tryz.prog.globalNamed n with
  | none => rw [hg] at h; cases h
  | some g =>
    rw [hg] at h
    simp only [Option.bind_some] at h ⊢
    have hlt : g < w.heap.size := by
      rcases Nat.lt_or_ge g w.heap.size with h' | h'
      · exact h'
      · rw [Array.getElem?_eq_none h'] at h; cases h
    rw [hb.below.block g hlt]
    exact h
/-- The table of the powers of ten is laid. -/
def TabP (w : World) : Prop := Lib.TabIs Tryz.prog w "internal/strconv.uint64pow10" .u64 Lib.pow10Tab
theorem TabP.grew {w w' : World} (h : TabP w) (hb : Grew w w') : TabP w' := var_grew h hb
theorem grew_grow (w : World) (q : Nat) (os : Array Obj) : Grew w (Sort.grow (w.drewN q) os) :=
  ⟨rfl, rfl, rfl, by show w.heap.size ≤ (w.heap ++ os).size; rw [Array.size_append]; omega, fun i hi => by
    show ((w.drewN q).heap ++ os)[i]? = _
    rw [Array.getElem?_append_left (by show i < w.heap.size; omega)]
    rfl⟩
theorem dec_step {m : Nat} (hm : m ≠ 0) (N : List UInt8) (l : List UInt8) (h : N = Lib.decDigits m ++ l) :
    N = (if m / 10 = 0 then [] else Lib.decDigits (m / 10)) ++ (UInt8.ofNat (48 + m % 10) :: l) := by
  rw [h]
  by_cases h10 : m < 10
  · rw [Lib.decDigits, dif_pos h10, if_pos (by omega), show m % 10 = m by omega]; rfl
  · rw [Lib.decDigits, dif_neg h10, if_neg (by omega), List.append_assoc]; rfl
set_option maxHeartbeats 1000000 in
theorem l01Figure (x : Int) (hp : 0 ≤ x) (hx : x < 10) (w : World) :
    Calls Tryz.prog 91 #[.int .i64 x] w fun e w' => e = .returned (.int .u8 (48 + x)) ∧ w' = w := by
  go_enter Tryz.func91, Tryz.ntmps91
  go_wp2
  go_ret
  exact ⟨rfl, rfl⟩
set_option maxRecDepth 100000 in
set_option maxHeartbeats 4000000 in
theorem specFormatInt (n : Nat) (hn : n ≤ 9223372036854775807) (W : World) :
    Calls Tryz.prog 84 #[.int .i64 n] W fun e w' => e = .returned (.string ⟨(Lib.decDigits n).toArray⟩) ∧ Grew W w' := by
  by_cases h0 : n = 0
  · subst h0
    go_enter Tryz.func84, Tryz.ntmps84
    go_wp2
    go_ret
    exact ⟨ret_str (by rw [Lib.decDigits_one (by decide)]; rfl), Grew.refl _⟩
  · have hne : ¬ ((n : Int) = 0) := by omega
    have hlt : ¬ ((n : Int) < 0) := by omega
    go_enter Tryz.func84, Tryz.ntmps84
    go_wp2
    go_loopw [0, 4] (fun i s wr => ∃ (m : Nat) (l : List UInt8), m ≤ n ∧ i = .int .i64 m ∧ s = .string ⟨l.toArray⟩ ∧ Hid (Lib.decDigits n = (if m = 0 then [] else Lib.decDigits m) ++ l) ∧ Grew W wr) (fun i _ _ => (intOf i).toNat)
    case atStart => exact ⟨n, [], Nat.le_refl _, rfl, rfl, by show _ = _; rw [if_neg h0, List.append_nil], Grew.refl _⟩
    case round =>
      obtain ⟨m, l, hm, rfl, rfl, hl, hg⟩ := hrel
      by_cases hm0 : m = 0
      · subst hm0
        go_wp2
        go_ret
        refine ⟨ret_str ?_, hg⟩
        have := hl.out
        simp at this
        rw [this]
      · have hmi : ¬ ((m : Int) = 0) := by omega
        have hmp : (0 : Int) ≤ m := by omega
        have h10 : (m : Int) % 10 < 10 := by omega
        have h10' : (0 : Int) ≤ (m : Int) % 10 := by omega
        have hcell : ∀ i, i < 1 → (wr.alloc (.cells #[.int .u8 (48 + (m : Int) % 10)] 5)).cell? ⟨wr.heap.size, 0 + i, none⟩ = some (.int .u8 ([48 + (m : Int) % 10].getD i 0)) := by
          intro i hi
          obtain rfl : i = 0 := by omega
          simp
        have hcv := run_convert_bytes_arg (P := Tryz.prog) (wr.alloc (.cells #[.int .u8 (48 + (m : Int) % 10)] 5)) 22 5 Tryz.underlying22 Tryz.underlying5 wr.heap.size 0 1 1 [48 + (m : Int) % 10] rfl hcell 9 Tryz.underlying9
        clear hcell
        have hl20 : l.length ≤ 20 := by
          have h1 := dec_len hn
          rw [hl.out, List.length_append] at h1
          omega
        have hs1 : (strOfNums [48 + (m : Int) % 10]).size = 1 := strOfNums_size _
        go_wp2_with (go_at_call 91; refine (l01Figure _ h10' h10 _).mono ?_; rintro e w1 ⟨rfl, rfl⟩)
        go_roundw
        case rel =>
          refine ⟨m / 10, UInt8.ofNat (48 + m % 10) :: l, by omega, by go_num, ?_, ?_, hg.alloc _⟩
          · rw [str_cons]
          · show _ = _
            have h1 := hl.out
            rw [if_neg hm0] at h1
            exact dec_step hm0 _ _ h1
        case measure => simp [intOf]; omega
set_option maxHeartbeats 1000000 in
theorem implFormatInt (n : Nat) (hn : n ≤ 9223372036854775807) (w : World) (ht : TabP w) :
    Calls Tryz.prog 70 #[.int .i64 n] w fun e w' => e = .returned (.string ⟨(Lib.decDigits n).toArray⟩) ∧ Grew w w' := by
  have HI := Lib.hid (itoa_nat n)
  have HT := Lib.hid ht
  clear ht
  go_enter Tryz.func70, Tryz.ntmps70
  go_wp2_with (go_at_call 85; refine (Tryz.strconv_Itoa n (by omega) (by omega) _ HT.out).mono ?_; rintro e w1 ⟨rfl, q, os, rfl⟩)
  go_ret
  refine ⟨ret_str (by rw [HI.out]), grew_grow _ _ _⟩
end Go.Proofs.YtodbohmbdgbheaaGreatDoor
