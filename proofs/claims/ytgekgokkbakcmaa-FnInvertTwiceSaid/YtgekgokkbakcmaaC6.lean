/- Contracts of slices.Clone, slices.DeleteFunc and of without. -/
import Derived.Test.YtgekgokkbakcmaaC1
import Derived.Lib.SliceRun
namespace Go.Proofs.Ytgekgokkbakcmaa
open Go.RowKit
set_option linter.unusedVariables false
theorem alloc_heap (w : World) (o : Obj) : (w.alloc o).heap = w.heap.push o := rfl
theorem lit_own (w : World) (e : TypeId) (k : Nat) : (w.alloc (.cells #[] e)).ownsRow w.heap.size e k (.slice (some ⟨w.heap.size, 0, none⟩) 0 0) 0 [] :=
  ⟨by simp, .inr ⟨w.heap.size, 0, #[], rfl, Nat.le_refl _, by rw [alloc_heap]; simp, Nat.le_refl _, by simp [maxLen], by simp, by simp⟩⟩
theorem rd_news {w w' : World} {a : Addr} {k n : Nat} {cs : List Value} (h : RdA w (some a) k n cs) (hg : Grew w w') : ∀ j u, cs[j]? = some u → w'.cell? (a.add j) = some u := fun j u hu => by
  have hj := (List.getElem?_eq_some_iff.1 hu).1
  rw [h.1] at hj
  have hn : 0 < n := by
    rcases Nat.eq_zero_or_pos n with h0 | h0
    · subst h0; omega
    · exact h0
  obtain ⟨b, o, h1, h2⟩ := h.2 hn
  obtain rfl := Option.some.inj h1
  have h3 := grew_cell hg ((h2 j hj).trans hu)
  cases j with
  | zero => simpa [Addr.add] using h3
  | succ j => simpa [Addr.add] using h3
theorem Try.infoBool : (Try.prog.info? 4).map (fun i => (i.zero, i.size, i.bytes)) = some (some (.bool false), 1, 1) := by kernel_rfl
theorem Try.infoString : (Try.prog.info? 9).map (fun i => (i.zero, i.size, i.bytes)) = some (some (.string ⟨#[]⟩), 1, 16) := by kernel_rfl
set_option maxRecDepth 100000 in
set_option maxHeartbeats 1000000 in
theorem slCloneInt (va : Value) (n : Nat) (xs : List Int) (w : World) (ha : Rd w va 1 n (ints xs)) (hx : n ≤ 4000000) :
    Calls Try.prog 59 #[va] w fun e w' => ∃ v, e = .returned v ∧ w'.ownsRow w.heap.size 3 1 v n (ints xs) ∧ Grew w w' := by
  obtain ⟨a, ca, rfl, hca, hra⟩ := ha
  have HX := Lib.hid hra.len_map
  have hen : ∀ a w, (binOp .eql 66 (.slice a n ca) (.slice none 0 0)).run Try.prog w = .ok (.bool a.isNone) w := fun a w => Lib.run_eql_slice_nil w 66 3 a n ca 0 0 Try.underlying66
  cases a with
  | none =>
    have hn : n = 0 := by rcases Nat.eq_zero_or_pos n with h | h; exact h; obtain ⟨b, o, h2, _⟩ := hra.2 h; cases h2
    subst hn
    have e1 := hen none
    go_enter Try.func59, Try.ntmps59
    go_wp2
    go_ret
    obtain rfl : xs = [] := List.length_eq_zero_iff.1 HX.out
    exact ⟨_, rfl, World.ownsRow_nil _ _ _ _, Grew.refl _⟩
  | some a =>
    have e1 := hen (some a)
    obtain ⟨i0, hi, hz0, hz1, hz2⟩ := info_parts Try.infoInt
    have HN := Lib.hid (rd_news hra ((Grew.refl w).alloc (.cells #[] 3)))
    have HL := Lib.hid (lit_own w 3 1)
    have HC := Lib.hid hra.1
    clear hra hen
    go_enter Try.func59, Try.ntmps59
    go_wp2_with (at_builtin; refine wpList_append_own _ rfl _ _ 66 rfl w.heap.size 3 i0 (.int .i64 0) 1 8 Try.underlying66 hi hz0 hz1 hz2 rfl (by decide) _ 0 [] rfl HL.out a n ca (ints xs) rfl ?c1 ?c2 ?c3 ?c4 ?c5 ?c6 ?_)
    case c1 => exact HC.out
    case c2 => exact HN.out
    case c3 => intro u hu; simp at hu; obtain ⟨x, _, rfl⟩ := hu; rfl
    case c4 => unfold maxLen; omega
    case c5 => omega
    case c6 => simp
    intro v' w' hown' hgrow _
    go_wp2
    go_ret
    refine ⟨_, rfl, by simpa using hown', ((Grew.refl w).alloc _).grown hgrow (fun k h => ?_)⟩
    cases h; exact Nat.le_refl _
end Go.Proofs.Ytgekgokkbakcmaa
