/- The walk of laws.FnQueryLimits. -/
import Derived.Test.YtejgpghcahinhaaW0
import Derived.Test.YtejgpghcahinhaaZ9
import Derived.Test.YtejgpghcahinhaaQ3
import Derived.Test.YtejgpghcahinhaaQ4
import Derived.Test.YtejgpghcahinhaaC5
namespace Go.Proofs.Ytejgpghcahinhaa.fnQueryLimits
open Go.RowKit
set_option linter.unusedVariables false
/-- A chain of k negations. -/
def chain : Nat → List N
  | 0 => [⟨1, 0, 0, ⟨#[]⟩, ⟨0, 0, ⟨#[]⟩⟩⟩]
  | k + 1 => chain k ++ [⟨5, (k : Int), 0, ⟨#[]⟩, ⟨0, 0, ⟨#[]⟩⟩⟩]
theorem chain_len : ∀ k, (chain k).length = k + 1
  | 0 => rfl
  | k + 1 => by unfold chain; rw [List.length_append, chain_len k]; rfl
theorem chain_get : ∀ (k i : Nat) (x : N), (chain k)[i]? = some x → (i = 0 ∧ x = ⟨1, 0, 0, ⟨#[]⟩, ⟨0, 0, ⟨#[]⟩⟩⟩) ∨ (∃ j : Nat, i = j + 1 ∧ x = ⟨5, (j : Int), 0, ⟨#[]⟩, ⟨0, 0, ⟨#[]⟩⟩⟩)
  | 0, i, x, h => by
    have hi := (List.getElem?_eq_some_iff.1 h).1
    have h0 : i = 0 := by simpa [chain] using hi
    subst h0
    simp [chain] at h
    exact .inl ⟨rfl, h.symm⟩
  | k + 1, i, x, h => by
    unfold chain at h
    by_cases hi : i < k + 1
    · rw [List.getElem?_append_left (by rw [chain_len]; exact hi)] at h
      exact chain_get k i x h
    · rw [List.getElem?_append_right (by rw [chain_len]; omega), chain_len] at h
      have hl := (List.getElem?_eq_some_iff.1 h).1
      simp at hl
      obtain rfl : i = k + 1 := by omega
      simp at h
      exact .inr ⟨k, rfl, h.symm⟩
theorem chain_refs : ∀ (k i : Nat), refs (chain k) (i : Int) = if i < k then 1 else 0
  | 0, i => by simp [chain, refs, ref1]
  | k + 1, i => by
    unfold chain
    rw [refs_snoc, chain_refs k i]
    by_cases h1 : i < k
    · rw [if_pos h1, if_pos (by omega)]
      have h2 : ((k : Int) == (i : Int)) = false := by simp; omega
      simp [ref1, h2]
    · rw [if_neg h1]
      by_cases h2 : i = k
      · subst h2; rw [if_pos (by omega)]; simp [ref1]
      · rw [if_neg (by omega)]
        have h3 : ((k : Int) == (i : Int)) = false := by simp; omega
        simp [ref1, h3]
theorem chain_qry (k : Nat) (hk : k ≤ 1000) : qryB (chain k) = decide (((k + 1 : Nat) : Int) ≤ 9) := by
  rw [qryB_yes]
  · rw [chain_len]; simp [inB]; omega
  · intro i x hi hx
    unfold qryAt
    rw [chain_refs, chain_len]
    rw [chain_len] at hi
    have h2 : (decide (k + 1 ≤ i + 1) || ((if i < k then (1 : Int) else 0) == 1)) = true := by
      by_cases h : i < k
      · rw [if_pos h]; simp
      · have : k + 1 ≤ i + 1 := by omega
        simp [this]
    rw [h2, Bool.and_true]
    rcases chain_get k i x hx with ⟨rfl, rfl⟩ | ⟨j, rfl, rfl⟩
    · simp [nodB, eqN, eqV, V.z]
    · have h3 : wrap64 (((j + 1 : Nat) : Int) - 1) = j := by unfold wrap64; omega
      rw [h3]
      simp [nodB, eqV, V.z, inB]
theorem chain_dirs : ∀ k, qDirsN (chain k) = []
  | 0 => rfl
  | k + 1 => by
    have h := chain_dirs k
    unfold qDirsN at h ⊢
    unfold chain
    rw [List.filter_append, List.map_append, h]; simp [inB]
theorem chain_attrs : ∀ k, qAttrsN (chain k) = []
  | 0 => rfl
  | k + 1 => by
    have h := chain_attrs k
    unfold qAttrsN at h ⊢
    unfold chain
    rw [List.filter_append, List.map_append, h]; simp [inB]
theorem chain_sz : ∀ k, szAll N.sz (chain k) = 0
  | 0 => by simp [chain, szAll, N.sz, V.sz, ByteArray.size]
  | k + 1 => by
    have h := chain_sz k
    unfold szAll at h ⊢
    unfold chain
    simp [h, N.sz, V.sz, ByteArray.size]
def lenV (v : Value) : Nat := match v with
  | .slice _ n _ => n
  | _ => 0
theorem so_nil : (so ([] : List ByteArray)).length = 0 := by have := so_len []; simpa using this
set_option maxRecDepth 100000 in
set_option maxHeartbeats 4000000 in
theorem walkLaw (w : World) (v : Value) (n : Nat) (xs : List Int) (hr : Rd w v 1 n (xs.map (Value.int .u8))) (hn : n ≤ maxLen) (ho : ∀ a : Int, a ∈ xs → 0 ≤ a ∧ a ≤ 255) :
    Calls Try.prog 7 #[v] w fun e w' => e = .returned (.bool true) ∧ Grew w w' := by
  clear ho
  by_cases hbig : (1048576 : Int) < (n : Int)
  · have hd : decide ((1048576 : Int) < (n : Int)) = true := by simp [hbig]
    go_enter Try.func7, Try.ntmps7
    go_wp2_with fail
    refine (big v n _ _ hr hn).mono ?_
    rintro e w1 ⟨rfl, rfl⟩
    go_wp2
    go_ret
    exact ⟨rfl, Grew.refl _⟩
  have hd : decide ((1048576 : Int) < (n : Int)) = false := by simp [hbig]
  have hcd : Cd w v := ⟨n, xs, hr, by omega⟩
  have G0 := Grew.refl w
  go_enter Try.func7, Try.ntmps7
  go_wp2_with fail
  refine (big v n _ _ hr hn).mono ?_
  rintro e w1 ⟨rfl, rfl⟩
  obtain ⟨i0, hi, hz0, hz1, hz2⟩ := info_parts Try.infoN
  go_wp2_with fail
  refine (drawPlaces v _ hcd).mono ?_
  rintro e w1 ⟨u0, rfl, ps, hpl, hpr, o_p, g1⟩
  have G1 := G0.trans g1
  obtain ⟨a_p, c_p, rfl⟩ := own_slice o_p
  obtain ⟨_, _, h1, _, hra⟩ := rd_of_own o_p
  cases h1
  obtain ⟨b1, o1, x, rfl, hxk, e1⟩ := hra.one (i := 0) (by decide)
  have hx := hpr x (List.mem_of_getElem? hxk.out)
  obtain ⟨t, ht⟩ : ∃ t : Nat, x % 10 = t := ⟨(x % 10).toNat, by omega⟩
  have ht9 : t ≤ 9 := by omega
  have hw : IntKind.i64.wrap (1 + x % 10) = 1 + x % 10 := by rw [IntKind.wrap_i64]; omega
  simp only [Nat.add_zero] at e1
  clear hpl hpr hra hxk o_p
  go_wp2
  go_loopw [5] (fun q wr => ∃ k : Nat, k ≤ t ∧ ∃ (a : Option Addr) (c : Nat), q = .slice a (k + 1) c ∧ Hid (wr.ownsRow w1.heap.size 60 7 (.slice a (k + 1) c) (k + 1) (rows N.c (chain k))) ∧ Grew w1 wr) (fun q _ => 12 - lenV q)
  case atStart =>
    have h0 := lit_owns w1 #[.int .i64 1, .int .i64 0, .int .i64 0, .string ⟨#[]⟩, .int .i64 0, .int .i64 0, .string ⟨#[]⟩] 60 7 1 rfl (by decide)
    refine ⟨0, ?_, some ⟨w1.heap.size, 0, none⟩, 1, ?_, ?_, ?_⟩
    · exact Nat.zero_le _
    · rfl
    · exact Lib.hid h0
    · exact (Grew.refl _).alloc _
  case round =>
    obtain ⟨k, hk, qa, qc, rfl, hown, hbel⟩ := hrel
    by_cases hlt : k < t
    · have hc1 : ((k + 1 : Nat) : Int) < 1 + x % 10 := by omega
      have hc2 : ((k + 1 : Nat) : Int) - 1 = k := by omega
      go_wp2_with (at_builtin; refine wpList_append_own _ rfl _ _ 61 rfl w1.heap.size 60 i0 _ 7 72 Try.underlying61 hi hz0 hz1 hz2 rfl (by decide) _ _ _ rfl (hown.out.alloc _) ⟨_, 0, none⟩ 1 1 _ rfl rfl (lit_news (by simp)) (fun x hx => by simp at hx; rcases hx with rfl | rfl | rfl | rfl | rfl | rfl | rfl <;> rfl) (by unfold maxLen; omega) (by omega) (by have := hbel.size; simp; omega) ?_; intro v' w' hown' hgr2 _)
      have hg' := (hbel.alloc _).grown hgr2 (fun j h => (hown.out.lt j h).1)
      have hrow : Hid (w'.ownsRow w1.heap.size 60 7 v' (k + 1 + 1) (rows N.c (chain (k + 1)))) := by
        unfold chain
        rw [rows_append]
        simpa [rows, N.c] using Lib.hid hown'
      obtain ⟨va, vc, rfl⟩ := own_slice hrow.out
      go_roundw
      case rel => exact ⟨k + 1, by omega, _, _, rfl, hrow, hg'⟩
      case measure => simp [lenV]; omega
    · obtain rfl : k = t := by omega
      have hc1 : ¬ (((k + 1 : Nat) : Int) < 1 + x % 10) := by omega
      have R := Lib.hid (rd_of_own hown.out)
      have hq := chain_qry k (by omega)
      have hd1 : (qDirs (chain k)).length = 0 := by unfold qDirs; rw [chain_dirs]; exact so_nil
      have ha1 : (qAttrs (chain k)).length = 0 := by unfold qAttrs; rw [chain_attrs]; exact so_nil
      have hn9 : (1 : Int) + x % 10 = ((k + 1 : Nat) : Int) := by omega
      have hs0 : szAll N.sz (chain k) ≤ 4000000 := by rw [chain_sz]; decide
      have hcs : (qryB (chain k) = true ∧ (1 : Int) + (k : Int) ≤ 9) ∨ (qryB (chain k) = false ∧ ¬ ((1 : Int) + (k : Int) ≤ 9)) := by
        rw [hq]
        by_cases h : k ≤ 8
        · exact .inl ⟨by simp; omega, by omega⟩
        · exact .inr ⟨by simp; omega, by omega⟩
      clear hq hn9 hlt hk
      rcases hcs with ⟨hq, h9⟩ | ⟨hq, h9⟩
      all_goals
        go_wp2_with fail
        refine (implIsValidQuery _ (k + 1) (chain k) _ R.out (by omega) hs0).mono ?_
        rintro e w2 ⟨he, g2⟩
        rw [hq] at he
        subst he
        go_wp2_with fail
        refine (implQueryDirs _ (k + 1) (chain k) _ (R.out.grew g2) (by omega)).mono ?_
        rintro e w3 ⟨v3, rfl, o3, g3⟩
        rw [hd1] at o3
        obtain ⟨a3, c3, rfl⟩ := own_slice o3
        clear o3
        go_wp2_with fail
        refine (implQueryAttrs _ (k + 1) (chain k) _ (R.out.grew (g2.trans g3)) (by omega)).mono ?_
        rintro e w4 ⟨v4, rfl, o4, g4⟩
        rw [ha1] at o4
        obtain ⟨a4, c4, rfl⟩ := own_slice o4
        clear o4
        go_wp2
        go_ret
        have gF := ((((G1.trans hbel).trans g2).trans g3).trans g4)
        first
          | exact ⟨rfl, gF⟩
          | exact ⟨ret_bool (by simp; omega), gF⟩
end Go.Proofs.Ytejgpghcahinhaa.fnQueryLimits
