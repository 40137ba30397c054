/- An argument's reading, opened into what the walks ask. -/
import Derived.Test.YtodbohmbdgbheaaGreatDoorT
import Derived.Test.YtodbohmbdgbheaaGreatDoorRows
import Derived.ProofKit
import Derived.OpenShut
import Derived.ShutString
import Derived.ChangeOld
import Derived.Deep.Slices
namespace Go.Proofs.YtodbohmbdgbheaaGreatDoor
open Go.ChangeShapes Go.WideShapes Go.ChangeAt Go.RowKit
open Go.ChangeMaps (open_string shut_string)
set_option linter.unusedVariables false
theorem own : ownKnob Tryz.prog.godebug = none := by kernel_rfl
theorem laidOut : laidOutB Tryz.prog = true := by kernel_rfl

theorem list_of {α : Type} {Q : Nat → α → Prop} : ∀ (n : Nat), (∀ i, i < n → ∃ a, Q i a) → ∃ xs : List α, xs.length = n ∧ ∀ i a, xs[i]? = some a → Q i a := by
  intro n
  induction n with
  | zero => intro _; exact ⟨[], rfl, fun i a h => by simp at h⟩
  | succ n ih =>
    intro h
    obtain ⟨xs, hl, hx⟩ := ih (fun i hi => h i (by omega))
    obtain ⟨a, ha⟩ := h n (by omega)
    refine ⟨xs ++ [a], by simp [hl], fun i b hb => ?_⟩
    by_cases hi : i < n
    · rw [List.getElem?_append_left (by omega)] at hb; exact hx i b hb
    · rw [List.getElem?_append_right (by omega)] at hb
      have : i = n := by
        have := (List.getElem?_eq_some_iff.1 hb).1
        simp at this; omega
      subst this
      rw [hl, Nat.sub_self] at hb
      simp at hb; subst hb; exact ha
theorem mapM_get {α β : Type} (f : α → Option β) : ∀ (l : List α) (r : List β), l.mapM f = some r → r.length = l.length ∧ ∀ (i : Nat) (a : α), l[i]? = some a → f a = r[i]? := by
  intro l
  induction l with
  | nil => intro r h; simp at h; subst h; exact ⟨rfl, fun i a h => by simp at h⟩
  | cons x l ih =>
    intro r h
    rw [List.mapM_cons] at h
    cases hx : f x with
    | none => simp [hx] at h
    | some y =>
      cases hl : l.mapM f with
      | none => simp [hx, hl] at h
      | some ys =>
        simp [hx, hl] at h
        subst h
        obtain ⟨h1, h2⟩ := ih ys hl
        refine ⟨by simp [h1], fun i a ha => ?_⟩
        cases i with
        | zero => simp at ha; subst ha; simpa using hx
        | succ i => simpa using h2 i a (by simpa using ha)
section
variable {H : Type} {enc : TypeId × Value → H} {P : Program} {w : World} {base : Nat} {spare : Nat → Bool} {held : Bool}
/-- A slice of whatever elements of k cells: what its cells are, by a law on one element. -/
theorem open_rows {α : Type} {f : α → List Value} {ok : α → Prop} {t e : TypeId} {k fuel : Nat} {v : Value} {x : DataW H × List MemPlace} (ht : P.underlying t = some (.slice e)) (hk : P.cellsOf e = k) (h0 : 0 < k) (hf : ∀ a, (f a).length = k)
    (hE : ∀ n cs y, DataW.trod enc P w base spare held n e cs = some y → ∃ a, cs = f a ∧ ok a) (h : DataW.trod enc P w base spare held fuel t [v] = some x) :
    ∃ n xs, Rd w v k n (rows f xs) ∧ n ≤ maxLen ∧ ∀ a, a ∈ xs → ok a := by
  rcases Deep.open_slice ht h with ⟨hv, _⟩ | ⟨a, len, cap, m, n, D, Pl, hv, _, hl, hm, rfl, _, hel⟩
  · simp at hv; subst hv
    exact ⟨0, [], ⟨none, 0, rfl, Nat.le_refl _, by simp [rows], fun h => absurd h (by omega)⟩, Nat.zero_le _, fun a h => by simp at h⟩
  · simp at hv; subst hv
    have hlm : len ≤ (if spare a.block then cap else len) := by split <;> omega
    have hx : ∀ i, i < len → ∃ z, (ok z ∧ w.cells? base (a.add (i * k)) k = some (f z)) := by
      intro i hi
      obtain ⟨cs, hc, ht'⟩ := hel i (by omega)
      obtain ⟨z, rfl, hz⟩ := hE _ _ _ ht'
      rw [hk] at hc
      exact ⟨z, hz, hc⟩
    obtain ⟨xs, hxl, hxs⟩ := list_of len hx
    refine ⟨len, xs, ⟨some a, cap, rfl, hl, by rw [rows_length hf, hxl], fun hn => ?_⟩, by omega, fun z hz => ?_⟩
    · have cell : ∀ i z, xs[i]? = some z → ∀ j u, (f z)[j]? = some u → w.cell? (a.add (i * k + j)) = some u := by
        intro i z hi j u hu
        have hc := (hxs i z hi).2
        unfold World.cells? at hc
        split at hc
        · obtain ⟨h1, h2⟩ := mapM_get _ _ _ hc
          have hj : j < k := by rw [← hf z]; exact (List.getElem?_eq_some_iff.1 hu).1
          have := h2 j j (by rw [List.getElem?_range hj])
          rw [hu] at this
          rw [← this]
          congr 1
          simp only [Addr.add]
          by_cases h3 : i * k = 0
          · by_cases h4 : j = 0
            · simp [h3, h4]
            · simp [h3]
          · by_cases h4 : j = 0
            · simp [h4]
            · simp [h3, h4]; omega
        · cases hc
      obtain ⟨b, o, s⟩ := a
      have hs : s = none := by
        have h1 := cell 0 xs[0] (List.getElem?_eq_getElem (by omega)) 0 _ (List.getElem?_eq_getElem (by rw [hf]; exact h0))
        simpa [Addr.add] using World.cell?_spot h1
      subst hs
      refine ⟨b, o, rfl, fun j hj => ?_⟩
      have hd : j / k < len := (Nat.div_lt_iff_lt_mul h0).2 hj
      have hmd := Nat.mod_lt j h0
      have he : j = j / k * k + j % k := by rw [Nat.mul_comm]; exact (Nat.div_add_mod j k).symm
      have hg : xs[j / k]? = some (xs[j / k]'(by omega)) := List.getElem?_eq_getElem (by omega)
      have hu : (f (xs[j / k]'(by omega)))[j % k]? = some ((f (xs[j / k]'(by omega)))[j % k]'(by rw [hf]; exact hmd)) := List.getElem?_eq_getElem (by rw [hf]; exact hmd)
      have h1 := cell _ _ hg _ _ hu
      have h2 := rows_at hf xs (j / k) (j % k) _ hg hmd
      rw [← he] at h1 h2
      rw [h2, hu, ← h1]
      congr 1
      simp only [Addr.add]
      by_cases hz : j = 0
      · simp [hz]
      · simp [hz]
    · obtain ⟨i, hi, rfl⟩ := List.getElem_of_mem hz
      exact (hxs i _ (List.getElem?_eq_getElem hi)).1
theorem len_cons {α : Type} {l : List α} {n : Nat} (h : l.length = n + 1) : ∃ a t, l = a :: t ∧ t.length = n := by
  cases l with
  | nil => simp at h
  | cons a t => exact ⟨a, t, rfl, by simpa using h⟩
theorem rows_one {α : Type} (f : α → Value) (xs : List α) : rows (fun a => [f a]) xs = xs.map f := by
  induction xs with
  | nil => rfl
  | cons x xs ih => rw [rows_cons, ih]; rfl
end
def I64 (n : Int) : Prop := -9223372036854775808 ≤ n ∧ n ≤ 9223372036854775807
theorem i64_of {n : Int} (h : (Lit.int .i64 n).wf = true) : I64 n := by simpa [I64, Lit.wf, IntKind.min, IntKind.max, IntKind.signed, IntKind.bits] using h
def V.ok (x : V) : Prop := I64 x.kind ∧ I64 x.int ∧ x.str.size ≤ maxLen
def N.ok (x : N) : Prop := I64 x.op ∧ I64 x.left ∧ I64 x.right ∧ x.name.size ≤ maxLen ∧ x.val.ok
def Fd.ok (x : Fd) : Prop := x.name.size ≤ maxLen ∧ I64 x.kind
def At.ok (x : At) : Prop := x.name.size ≤ maxLen ∧ x.val.ok
section
variable {H : Type} {enc : TypeId × Value → H} {w : World} {base : Nat} {spare : Nat → Bool} {held : Bool}
theorem getI {n : Nat} {cs : List Value} {y : DataW H × List MemPlace} (h : DataW.trod enc Tryz.prog w base spare held n 3 cs = some y) : ∃ a : Int, cs = [.int .i64 a] ∧ I64 a := by
  obtain ⟨a, rfl, _, hw⟩ := DataW.trod_int Tryz.underlying3 h
  exact ⟨a, rfl, i64_of hw⟩
theorem getS {n : Nat} {cs : List Value} {y : DataW H × List MemPlace} (h : DataW.trod enc Tryz.prog w base spare held n 9 cs = some y) : ∃ a : ByteArray, cs = [.string a] ∧ a.size ≤ maxLen := by
  obtain ⟨a, rfl, _, hw⟩ := DataW.trod_string Tryz.underlying9 h
  exact ⟨a, rfl, hw⟩
theorem getL {n : Nat} {cs : List Value} {y : DataW H × List MemPlace} (h : DataW.trod enc Tryz.prog w base spare held n 4 cs = some y) : ∃ a : Bool, cs = [.bool a] := by
  obtain ⟨a, rfl, _⟩ := DataW.trod_bool Tryz.underlying4 h
  exact ⟨a, rfl⟩
theorem open_ints1 {fuel : Nat} {v : Value} {x : DataW H × List MemPlace} (h : DataW.trod enc Tryz.prog w base spare held fuel 69 [v] = some x) :
    ∃ n xs, Rd w v 1 n (ints xs) ∧ n ≤ maxLen ∧ ∀ a, a ∈ xs → I64 a := by
  obtain ⟨n, xs, h1, h2⟩ := open_rows (f := fun a => [Value.int .i64 a]) (ok := I64) Tryz.underlying69 (by kernel_rfl) (by decide) (fun _ => rfl) (fun n cs y h => getI h) h
  exact ⟨n, xs, by rw [rows_one] at h1; exact h1, h2⟩
theorem open_strs1 {fuel : Nat} {v : Value} {x : DataW H × List MemPlace} (h : DataW.trod enc Tryz.prog w base spare held fuel 48 [v] = some x) :
    ∃ n xs, Rd w v 1 n (strs xs) ∧ n ≤ maxLen ∧ ∀ a : ByteArray, a ∈ xs → a.size ≤ maxLen := by
  obtain ⟨n, xs, h1, h2⟩ := open_rows (f := fun a => [Value.string a]) (ok := fun a : ByteArray => a.size ≤ maxLen) Tryz.underlying48 (by kernel_rfl) (by decide) (fun _ => rfl) (fun n cs y h => getS h) h
  exact ⟨n, xs, by rw [rows_one] at h1; exact h1, h2⟩
theorem getV {n : Nat} {cs : List Value} {y : DataW H × List MemPlace} (h : DataW.trod enc Tryz.prog w base spare held n 63 cs = some y) : ∃ a : V, cs = a.c ∧ a.ok := by
  obtain ⟨xs, m, _, _, hl, hx, hf⟩ := DataW.trod_struct Tryz.underlying63 h
  have hk : Tryz.prog.cellsOf 63 = 3 := by kernel_rfl
  rw [hk] at hl
  obtain ⟨c0, t0, rfl, hl0⟩ := len_cons hl
  obtain ⟨c1, t1, rfl, hl1⟩ := len_cons hl0
  obtain ⟨c2, t2, rfl, hl2⟩ := len_cons hl1
  obtain rfl := List.length_eq_zero_iff.1 hl2
  have k0 : Tryz.prog.cellsOf 3 = 1 := by kernel_rfl
  have f0 : DataW.trod enc Tryz.prog w base spare held m 3 [c0] = some (xs[0]'(by rw [hx]; decide)) := by
    have := hf 0 _ rfl
    rw [List.getElem?_eq_getElem (show 0 < xs.length by rw [hx]; decide)] at this
    simpa [k0] using this
  obtain ⟨a0, e0, o0⟩ := getI f0
  simp only [List.cons.injEq, and_true] at e0
  subst e0
  have k1 : Tryz.prog.cellsOf 3 = 1 := by kernel_rfl
  have f1 : DataW.trod enc Tryz.prog w base spare held m 3 [c1] = some (xs[1]'(by rw [hx]; decide)) := by
    have := hf 1 _ rfl
    rw [List.getElem?_eq_getElem (show 1 < xs.length by rw [hx]; decide)] at this
    simpa [k1] using this
  obtain ⟨a1, e1, o1⟩ := getI f1
  simp only [List.cons.injEq, and_true] at e1
  subst e1
  have k2 : Tryz.prog.cellsOf 9 = 1 := by kernel_rfl
  have f2 : DataW.trod enc Tryz.prog w base spare held m 9 [c2] = some (xs[2]'(by rw [hx]; decide)) := by
    have := hf 2 _ rfl
    rw [List.getElem?_eq_getElem (show 2 < xs.length by rw [hx]; decide)] at this
    simpa [k2] using this
  obtain ⟨a2, e2, o2⟩ := getS f2
  simp only [List.cons.injEq, and_true] at e2
  subst e2
  exact ⟨⟨a0, a1, a2⟩, rfl, o0, o1, o2⟩
theorem getN {n : Nat} {cs : List Value} {y : DataW H × List MemPlace} (h : DataW.trod enc Tryz.prog w base spare held n 65 cs = some y) : ∃ a : N, cs = a.c ∧ a.ok := by
  obtain ⟨xs, m, _, _, hl, hx, hf⟩ := DataW.trod_struct Tryz.underlying65 h
  have hk : Tryz.prog.cellsOf 65 = 7 := by kernel_rfl
  rw [hk] at hl
  obtain ⟨c0, t0, rfl, hl0⟩ := len_cons hl
  obtain ⟨c1, t1, rfl, hl1⟩ := len_cons hl0
  obtain ⟨c2, t2, rfl, hl2⟩ := len_cons hl1
  obtain ⟨c3, t3, rfl, hl3⟩ := len_cons hl2
  obtain ⟨c4, t4, rfl, hl4⟩ := len_cons hl3
  obtain ⟨c5, t5, rfl, hl5⟩ := len_cons hl4
  obtain ⟨c6, t6, rfl, hl6⟩ := len_cons hl5
  obtain rfl := List.length_eq_zero_iff.1 hl6
  have k0 : Tryz.prog.cellsOf 3 = 1 := by kernel_rfl
  have f0 : DataW.trod enc Tryz.prog w base spare held m 3 [c0] = some (xs[0]'(by rw [hx]; decide)) := by
    have := hf 0 _ rfl
    rw [List.getElem?_eq_getElem (show 0 < xs.length by rw [hx]; decide)] at this
    simpa [k0] using this
  obtain ⟨a0, e0, o0⟩ := getI f0
  simp only [List.cons.injEq, and_true] at e0
  subst e0
  have k1 : Tryz.prog.cellsOf 3 = 1 := by kernel_rfl
  have f1 : DataW.trod enc Tryz.prog w base spare held m 3 [c1] = some (xs[1]'(by rw [hx]; decide)) := by
    have := hf 1 _ rfl
    rw [List.getElem?_eq_getElem (show 1 < xs.length by rw [hx]; decide)] at this
    simpa [k1] using this
  obtain ⟨a1, e1, o1⟩ := getI f1
  simp only [List.cons.injEq, and_true] at e1
  subst e1
  have k2 : Tryz.prog.cellsOf 3 = 1 := by kernel_rfl
  have f2 : DataW.trod enc Tryz.prog w base spare held m 3 [c2] = some (xs[2]'(by rw [hx]; decide)) := by
    have := hf 2 _ rfl
    rw [List.getElem?_eq_getElem (show 2 < xs.length by rw [hx]; decide)] at this
    simpa [k2] using this
  obtain ⟨a2, e2, o2⟩ := getI f2
  simp only [List.cons.injEq, and_true] at e2
  subst e2
  have k3 : Tryz.prog.cellsOf 9 = 1 := by kernel_rfl
  have f3 : DataW.trod enc Tryz.prog w base spare held m 9 [c3] = some (xs[3]'(by rw [hx]; decide)) := by
    have := hf 3 _ rfl
    rw [List.getElem?_eq_getElem (show 3 < xs.length by rw [hx]; decide)] at this
    simpa [k3] using this
  obtain ⟨a3, e3, o3⟩ := getS f3
  simp only [List.cons.injEq, and_true] at e3
  subst e3
  have k4 : Tryz.prog.cellsOf 63 = 3 := by kernel_rfl
  have f4 : DataW.trod enc Tryz.prog w base spare held m 63 [c4, c5, c6] = some (xs[4]'(by rw [hx]; decide)) := by
    have := hf 4 _ rfl
    rw [List.getElem?_eq_getElem (show 4 < xs.length by rw [hx]; decide)] at this
    simpa [k4] using this
  obtain ⟨a4, e4, o4⟩ := getV f4
  simp only [V.c, List.cons.injEq, and_true] at e4
  obtain ⟨rfl, rfl, rfl⟩ := e4
  exact ⟨⟨a0, a1, a2, a3, a4⟩, rfl, o0, o1, o2, o3, o4⟩
theorem open_Ns {fuel : Nat} {v : Value} {x : DataW H × List MemPlace} (h : DataW.trod enc Tryz.prog w base spare held fuel 39 [v] = some x) :
    ∃ n xs, Rd w v 7 n (rows N.c xs) ∧ n ≤ maxLen ∧ ∀ a : N, a ∈ xs → a.ok :=
  open_rows (f := N.c) (ok := N.ok) Tryz.underlying39 (by kernel_rfl) (by decide) N.len (fun n cs y h => getN h) h
end
end Go.Proofs.YtodbohmbdgbheaaGreatDoor
