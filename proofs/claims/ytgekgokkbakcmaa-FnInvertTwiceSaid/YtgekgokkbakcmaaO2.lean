/- Arguments that are structures with slices in them, opened into what the walks ask. -/
import Derived.Test.YtgekgokkbakcmaaO
import Derived.Test.YtgekgokkbakcmaaH6
namespace Go.Proofs.Ytgekgokkbakcmaa
open Go.ChangeShapes Go.WideShapes Go.ChangeAt Go.RowKit
open Go.ChangeMaps (open_string shut_string)
set_option linter.unusedVariables false
theorem V.ok.to0 {x : V} (h : x.ok) : x.ok0 := h.2.2
theorem N.ok.to0 {x : N} (h : x.ok) : x.ok0 := ⟨h.2.2.2.1, h.2.2.2.2.to0⟩
theorem Fd.ok.to0 {x : Fd} (h : x.ok) : x.ok0 := h.1
theorem At.ok.to0 {x : At} (h : x.ok) : x.ok0 := ⟨h.1, h.2.to0⟩
theorem pick2 {α β : Type} {Q : α → β → Prop} : ∀ (ps : List β), (∀ p, p ∈ ps → ∃ x, Q x p) → ∃ xs, All2 Q xs ps := by
  intro ps
  induction ps with
  | nil => intro _; exact ⟨[], All2.nil⟩
  | cons p ps ih =>
    intro h
    obtain ⟨x, hx⟩ := h p (by simp)
    obtain ⟨xs, hxs⟩ := ih (fun q hq => h q (by simp [hq]))
    refine ⟨x :: xs, by simp [hxs.1], fun i a b ha hb => ?_⟩
    cases i with
    | zero => simp at ha hb; subst ha; subst hb; exact hx
    | succ i => exact hxs.2 i a b (by simpa using ha) (by simpa using hb)
theorem mem_get {α : Type} {x : α} {xs : List α} (h : x ∈ xs) : ∃ i : Nat, xs[i]? = some x := by
  obtain ⟨i, hi, rfl⟩ := List.getElem_of_mem h
  exact ⟨i, List.getElem?_eq_getElem hi⟩
theorem All2.mem {α β : Type} {R : α → β → Prop} {xs : List α} {ys : List β} (h : All2 R xs ys) {x : α} (hx : x ∈ xs) : ∃ y, R x y := by
  obtain ⟨i, hi⟩ := mem_get hx
  have hl := (List.getElem?_eq_some_iff.1 hi).1
  exact ⟨_, h.2 i _ _ hi (List.getElem?_eq_getElem (show i < ys.length by rw [← h.1]; exact hl))⟩
section
variable {H : Type} {enc : TypeId × Value → H} {w : World} {base : Nat} {spare : Nat → Bool} {held : Bool}
theorem getU {n : Nat} {cs : List Value} {y : DataW H × List MemPlace} (h : DataW.trod enc Try.prog w base spare held n 5 cs = some y) : ∃ a : Int, cs = [.int .u8 a] ∧ 0 ≤ a ∧ a ≤ 255 := by
  obtain ⟨a, rfl, _, hw⟩ := DataW.trod_int Try.underlying5 h
  exact ⟨a, rfl, by simpa [Lit.wf, IntKind.min, IntKind.max, IntKind.signed, IntKind.bits] using hw⟩
theorem open_bytes {fuel : Nat} {v : Value} {x : DataW H × List MemPlace} (h : DataW.trod enc Try.prog w base spare held fuel 22 [v] = some x) :
    ∃ n, ∃ xs : List Int, Rd w v 1 n (xs.map (Value.int .u8)) ∧ n ≤ maxLen ∧ ∀ a : Int, a ∈ xs → 0 ≤ a ∧ a ≤ 255 := by
  obtain ⟨n, xs, h1, h2⟩ := open_rows (f := fun a => [Value.int .u8 a]) (ok := fun a : Int => 0 ≤ a ∧ a ≤ 255) Try.underlying22 (by kernel_rfl) (by decide) (fun _ => rfl) (fun n cs y h => getU h) h
  exact ⟨n, xs, by rw [rows_one] at h1; exact h1, h2⟩
theorem getDir {n : Nat} {cs : List Value} {y : DataW H × List MemPlace} (h : DataW.trod enc Try.prog w base spare held n 44 cs = some y) : ∃ p : P2, cs = p.c ∧ ∃ x : Dr, Dr.R w x p ∧ x.ok0 := by
  obtain ⟨xs, m, _, _, hl, hx, hf⟩ := DataW.trod_struct Try.underlying44 h
  have hk : Try.prog.cellsOf 44 = 2 := by kernel_rfl
  rw [hk] at hl
  obtain ⟨c0, t0, rfl, hl0⟩ := len_cons hl
  obtain ⟨c1, t1, rfl, hl1⟩ := len_cons hl0
  obtain rfl := List.length_eq_zero_iff.1 hl1
  have k0 : Try.prog.cellsOf 9 = 1 := by kernel_rfl
  have f0 : DataW.trod enc Try.prog w base spare held m 9 [c0] = some (xs[0]'(by rw [hx]; decide)) := by
    have := hf 0 _ rfl
    rw [List.getElem?_eq_getElem (show 0 < xs.length by rw [hx]; decide)] at this
    simpa [k0] using this
  obtain ⟨a0, e0, o0⟩ := getS f0
  simp only [List.cons.injEq, and_true] at e0
  subst e0
  have k1 : Try.prog.cellsOf 42 = 1 := by kernel_rfl
  have f1 : DataW.trod enc Try.prog w base spare held m 42 [c1] = some (xs[1]'(by rw [hx]; decide)) := by
    have := hf 1 _ rfl
    rw [List.getElem?_eq_getElem (show 1 < xs.length by rw [hx]; decide)] at this
    simpa [k1] using this
  obtain ⟨n1, l1, r1, q1, o1⟩ := open_Ns f1
  obtain rfl : l1.length = n1 := by obtain ⟨_, _, _, _, hh⟩ := r1; exact hh.len_rows N.len (by decide)
  exact ⟨⟨a0, c1⟩, rfl, ⟨a0, l1⟩, ⟨rfl, r1⟩, o0, q1, fun y hy => (o1 y hy).to0⟩
theorem open_dirs {fuel : Nat} {v : Value} {x : DataW H × List MemPlace} (h : DataW.trod enc Try.prog w base spare held fuel 33 [v] = some x) :
    ∃ xs : List Dr, RdDs w v xs ∧ xs.length ≤ maxLen ∧ ∀ x, x ∈ xs → x.ok0 := by
  obtain ⟨n, ps, h1, h2, h3⟩ := open_rows (f := P2.c) (ok := fun p : P2 => ∃ x : Dr, Dr.R w x p ∧ x.ok0) Try.underlying33 (by kernel_rfl) (by decide) P2.len (fun n cs y h => getDir h) h
  obtain ⟨xs, hx⟩ := pick2 ps h3
  have hl : ps.length = n := by obtain ⟨_, _, _, _, hh⟩ := h1; exact hh.len_rows P2.len (by decide)
  have hxl : xs.length = n := by rw [hx.1, hl]
  refine ⟨xs, ⟨ps, by rw [hxl]; exact h1, hx.mono fun x p h => h.1⟩, by rw [hxl]; exact h2, fun x hm => ?_⟩
  obtain ⟨p, hp⟩ := hx.mem hm
  exact hp.2
theorem getDiff {n : Nat} {cs : List Value} {y : DataW H × List MemPlace} (h : DataW.trod enc Try.prog w base spare held n 98 cs = some y) : ∃ p : P3, cs = p.c ∧ ∃ x : Df, Df.R w x p ∧ x.ok0 := by
  obtain ⟨xs, m, _, _, hl, hx, hf⟩ := DataW.trod_struct Try.underlying98 h
  have hk : Try.prog.cellsOf 98 = 3 := by kernel_rfl
  rw [hk] at hl
  obtain ⟨c0, t0, rfl, hl0⟩ := len_cons hl
  obtain ⟨c1, t1, rfl, hl1⟩ := len_cons hl0
  obtain ⟨c2, t2, rfl, hl2⟩ := len_cons hl1
  obtain rfl := List.length_eq_zero_iff.1 hl2
  have k0 : Try.prog.cellsOf 9 = 1 := by kernel_rfl
  have f0 : DataW.trod enc Try.prog w base spare held m 9 [c0] = some (xs[0]'(by rw [hx]; decide)) := by
    have := hf 0 _ rfl
    rw [List.getElem?_eq_getElem (show 0 < xs.length by rw [hx]; decide)] at this
    simpa [k0] using this
  obtain ⟨a0, e0, o0⟩ := getS f0
  simp only [List.cons.injEq, and_true] at e0
  subst e0
  have k1 : Try.prog.cellsOf 66 = 1 := by kernel_rfl
  have f1 : DataW.trod enc Try.prog w base spare held m 66 [c1] = some (xs[1]'(by rw [hx]; decide)) := by
    have := hf 1 _ rfl
    rw [List.getElem?_eq_getElem (show 1 < xs.length by rw [hx]; decide)] at this
    simpa [k1] using this
  obtain ⟨n1, l1, r1, q1, o1⟩ := open_ints1 f1
  obtain rfl : l1.length = n1 := by obtain ⟨_, _, _, _, hh⟩ := r1; exact hh.len_map
  have k2 : Try.prog.cellsOf 66 = 1 := by kernel_rfl
  have f2 : DataW.trod enc Try.prog w base spare held m 66 [c2] = some (xs[2]'(by rw [hx]; decide)) := by
    have := hf 2 _ rfl
    rw [List.getElem?_eq_getElem (show 2 < xs.length by rw [hx]; decide)] at this
    simpa [k2] using this
  obtain ⟨n2, l2, r2, q2, o2⟩ := open_ints1 f2
  obtain rfl : l2.length = n2 := by obtain ⟨_, _, _, _, hh⟩ := r2; exact hh.len_map
  exact ⟨⟨a0, c1, c2⟩, rfl, ⟨a0, l1, l2⟩, ⟨rfl, r1, r2⟩, o0, q1, q2⟩
theorem open_diffs {fuel : Nat} {v : Value} {x : DataW H × List MemPlace} (h : DataW.trod enc Try.prog w base spare held fuel 28 [v] = some x) :
    ∃ xs : List Df, RdFs w v xs ∧ xs.length ≤ maxLen ∧ ∀ x, x ∈ xs → x.ok0 := by
  obtain ⟨n, ps, h1, h2, h3⟩ := open_rows (f := P3.c) (ok := fun p : P3 => ∃ x : Df, Df.R w x p ∧ x.ok0) Try.underlying28 (by kernel_rfl) (by decide) P3.len (fun n cs y h => getDiff h) h
  obtain ⟨xs, hx⟩ := pick2 ps h3
  have hl : ps.length = n := by obtain ⟨_, _, _, _, hh⟩ := h1; exact hh.len_rows P3.len (by decide)
  have hxl : xs.length = n := by rw [hx.1, hl]
  refine ⟨xs, ⟨ps, by rw [hxl]; exact h1, hx.mono fun x p h => h.1⟩, by rw [hxl]; exact h2, fun x hm => ?_⟩
  obtain ⟨p, hp⟩ := hx.mem hm
  exact hp.2
end
end Go.Proofs.Ytgekgokkbakcmaa
