/- Texts V0, Y8, J, O, O2, as far as they are needed. -/
import Derived.Test.YtemikjbfjhebnaaGreatNi1
import Derived.Test.YtemikjbfjhebnaaGreatNi10
import Derived.Test.YtemikjbfjhebnaaGreatChecked
import Derived.Test.YtemikjbfjhebnaaGreatRows
import Derived.JoinedOf
import Derived.Test.YtemikjbfjhebnaaGreatNi0
import Derived.ProofKit
import Derived.OpenShut
import Derived.ShutString
import Derived.ChangeOld
import Derived.Deep.Slices
namespace Go.Proofs.YtemikjbfjhebnaaGreat
open Go.RowKit
set_option linter.unusedVariables false
def GrowR (w : World) (base : Nat) (v : Value) (ds : List Rs) : Prop :=
  ∃ ps : List P2, w.ownsRow base 75 2 v ds.length (rows P2.c ps) ∧ All2 (Rs.O w base w.heap.size) ds ps ∧ Dis (ps.flatMap Rs.subs)
theorem GrowR.own {w : World} {base : Nat} {v : Value} {ds : List Rs} (h : GrowR w base v ds) : OwnRss w base w.heap.size v ds := by
  obtain ⟨ps, h1, h2, h3⟩ := h
  refine ⟨ps, own_of h1, h2, h3.cons ?_⟩
  intro u b hu hv
  obtain ⟨p, hp, hup⟩ := List.mem_flatMap.1 hu
  obtain ⟨i, hi', rfl⟩ := List.getElem_of_mem hp
  obtain ⟨x, hx, _, hr1⟩ := h2.get (List.getElem?_eq_getElem hi')
  simp only [Rs.subs, List.mem_cons, List.not_mem_nil, or_false] at hup
  subst hup
  exact own_type h1 hr1.1 (by decide) hv
theorem GrowR.grew {w : World} {base : Nat} {v : Value} {ds : List Rs} (h : GrowR w base v ds) {w' : World} (hg : Grew w w') : GrowR w' base v ds := by
  obtain ⟨ps, h1, h2, h3⟩ := h
  exact ⟨ps, ownsRow_grew h1 hg, h2.mono fun x p h => (h.grew hg).mono (Nat.le_refl _) hg.size, h3⟩
theorem GrowR.lit (w : World) : GrowR (w.alloc (.cells #[] 75)) w.heap.size (.slice (some ⟨w.heap.size, 0, none⟩) 0 0) [] :=
  ⟨[], lit_own w _ 2, All2.nil, Dis.nil⟩
theorem GrowR.base {w : World} {a b : Nat} {v : Value} {ds : List Rs} (h : GrowR w a v ds) (hb : b ≤ a) : GrowR w b v ds := by
  obtain ⟨ps, h1, h2, h3⟩ := h
  exact ⟨ps, ownsRow_base h1 hb, h2.mono fun x p h => h.mono hb (Nat.le_refl _), h3⟩
theorem GrowR.snoc {w w' : World} {base lo2 : Nat} {v v' : Value} {ds : List Rs} {d : Rs} {ps : List P2} {p : P2} (h1 : w.ownsRow base 75 2 v ds.length (rows P2.c ps)) (h2 : All2 (Rs.O w base lo2) ds ps) (h3 : Dis (ps.flatMap Rs.subs))
    (hp : Rs.O w lo2 w.heap.size d p) (hb : base ≤ lo2) (hl : lo2 ≤ w.heap.size)
    (hown : w'.ownsRow base 75 2 v' (ds.length + 1) (rows P2.c ps ++ P2.c p)) (hg : w.grownBy w' v.ownBlock) (hs : w.heap.size ≤ w'.heap.size) : GrowR w' base v' (ds ++ [d]) := by
  refine ⟨ps ++ [p], ?_, ?_, ?_⟩
  · rw [List.length_append, rows_append]; simpa [rows] using hown
  · refine All2.snoc (h2.mono fun x q hr => ?_) ?_
    · exact ⟨hr.1, (own_grown hr.2 h1 (by decide) hg).mono (Nat.le_refl _) (Nat.le_trans hl hs)⟩
    · exact ⟨hp.1, (own_grown hp.2 h1 (by decide) hg).mono hb hs⟩
  · rw [List.flatMap_append]
    refine Dis.app h3 (by simpa [Rs.subs] using Dis.one p.q) ?_
    intro u v b hu hv hub hvb
    have h4 := All2.blk (subs := Rs.subs) (fun x p v b h hv hb => Rs.O.blk h hv hb) h2 hu hub
    have h5 := hp.blk (by simpa using hv) hvb
    omega
theorem news2r {w : World} {a b : Value} {e : TypeId} {g : Nat} (hg : g = w.heap.size) : ∀ j u, [a, b][j]? = some u → (w.alloc (.cells #[a, b] e)).cell? ((⟨g, 0, none⟩ : Addr).add j) = some u := by
  subst hg
  intro j u hu
  match j with
  | 0 => simp at hu; subst hu; simp [Addr.add]
  | 1 => simp at hu; subst hu; simp [Addr.add]
  | j + 2 => simp at hu
theorem Dis.put : ∀ {L : List Value} {i : Nat} {u : Value}, Dis L → (∀ v b, v ∈ L → u.ownBlock = some b → v.ownBlock ≠ some b) → Dis (L.set i u)
  | [], i, u, h, _ => by simpa using h
  | v :: vs, 0, u, h, hf => by
    rw [List.set_cons_zero]
    exact h.tail.cons (fun z b hz hb => hf z b (List.mem_cons_of_mem _ hz) hb)
  | v :: vs, i + 1, u, h, hf => by
    rw [List.set_cons_succ]
    refine (Dis.put h.tail (fun z b hz hb => hf z b (List.mem_cons_of_mem _ hz) hb)).cons (fun z b hz hb => ?_)
    rcases List.mem_or_eq_of_mem_set hz with h1 | rfl
    · exact h.head h1 hb
    · intro he; exact hf v b (List.mem_cons_self ..) he hb
theorem subs_map (ps : List P2) : ps.flatMap Rs.subs = ps.map P2.q := by
  induction ps with
  | nil => rfl
  | cons p ps ih => rw [List.flatMap_cons, ih]; rfl
theorem GrowR.at {w : World} {base g n cap i : Nat} {rs : List Rs} (h : GrowR w base (.slice (some ⟨g, 0, none⟩) n cap) rs) (hn : rs.length = n) (hi : i < n) :
    ∃ r a c, Hid (rs[i]? = some r) ∧ w.cell? ⟨g, i * 2, none⟩ = some (.string r.name) ∧ w.cell? ⟨g, i * 2 + 1, none⟩ = some (.slice a r.ids.length c) ∧ Hid (Rd w (.slice a r.ids.length c) 1 r.ids.length (ints r.ids)) ∧ w.frozen? ⟨g, i * 2 + 1, none⟩ = false ∧ g < w.heap.size ∧ base ≤ g := by
  obtain ⟨ps, h1, h2, h3⟩ := h
  rw [hn] at h1
  have hpl := h2.1
  have hp : ps[i]? = some ps[i] := List.getElem?_eq_getElem (by omega)
  have hr : rs[i]? = some rs[i] := List.getElem?_eq_getElem (by omega)
  have hO := h2.2 i _ _ hr hp
  obtain ⟨p', hp', hc⟩ := own_row P2.len (by decide) h1 hi
  obtain rfl := Option.some.inj (hp'.out.symm.trans hp)
  obtain ⟨a, c, hq⟩ := own_slice hO.2.1
  refine ⟨rs[i], a, c, Lib.hid hr, ?_, ?_, ?_, h1.frozenAt _, (h1.lt g rfl).2, (h1.lt g rfl).1⟩
  · have := hc 0 (.string ps[i].name) rfl
    rw [hO.1] at this; exact this
  · have := hc 1 ps[i].q rfl
    rw [hq] at this; exact this
  · have := hO.2.rd
    rw [hq] at this; exact Lib.hid this
theorem GrowR.put {w w1 : World} {base g n cap i : Nat} {rs : List Rs} {r : Rs} {u : Value} {l : List Int} (h : GrowR w base (.slice (some ⟨g, 0, none⟩) n cap) rs) (hn : rs.length = n) (hg : Grew w w1)
    (hu : w1.ownsRow w.heap.size 3 1 u l.length (ints l)) (hr : rs[i]? = some r) : GrowR (w1.setCell ⟨g, i * 2 + 1, none⟩ u) base (.slice (some ⟨g, 0, none⟩) n cap) (rs.set i ⟨r.name, l⟩) := by
  obtain ⟨ps, h1, h2, h3⟩ := h
  rw [hn] at h1
  have hpl := h2.1
  have hi := (List.getElem?_eq_some_iff.1 hr).1
  have hp : ps[i]? = some ps[i] := List.getElem?_eq_getElem (by omega)
  have hO := h2.2 i r ps[i] hr hp
  have hgl := h1.lt g rfl
  have hsz := hg.size
  have ht : Touch g (g + 1) w1 (w1.setCell ⟨g, i * 2 + 1, none⟩ u) := Touch.setCell (p := ⟨g, i * 2 + 1, none⟩) (Touch.refl g (g + 1) w1) (Nat.le_refl g) (Nat.lt_succ_self g) u
  have hss : (w1.setCell ⟨g, i * 2 + 1, none⟩ u).heap.size = w1.heap.size := by simp
  refine ⟨ps.set i ⟨ps[i].name, u⟩, ?_, ?_, ?_⟩
  · have e := ownsRow_stores (ownsRow_grew h1 hg) (i * 2 + 1) u
    rw [List.length_set, hn]
    have e2 : (rows P2.c ps).set (i * 2 + 1) u = rows P2.c (ps.set i ⟨ps[i].name, u⟩) := by
      have h5 := setsP2 ps i (by omega) ⟨ps[i].name, u⟩
      have h6 : (rows P2.c ps).set (i * 2) (.string ps[i].name) = rows P2.c ps := set_noop (rows_at P2.len ps i 0 ps[i] hp (by decide))
      simp only at h5
      rw [h6] at h5
      exact h5
    rw [← e2]; exact e
  · refine (h2.mono fun x q hq => ?_).set i _ _ ?_
    · have h5 : Rs.O w1 base w.heap.size x q := hq.grew hg
      have h6 := h5.touch' ht (fun v c hv hc => by
        simp only [Rs.subs, List.mem_cons, List.not_mem_nil, or_false] at hv
        subst hv
        have h7 := own_type hq.2.1 h1 (by decide) hc
        have h8 : c ≠ g := fun e => h7 (by rw [e]; rfl)
        omega)
      exact h6.mono (Nat.le_refl _) (by omega)
    · refine ⟨hO.1, ?_⟩
      have h5 : Own w1 w.heap.size w1.heap.size 3 1 u l.length (ints l) := ⟨hu, fun b hb => (hu.lt b hb).2⟩
      exact (h5.touch ht (.inr (by omega))).mono (by omega) (by omega)
  · rw [subs_map] at h3 ⊢
    rw [List.map_set]
    refine Dis.put h3 (fun v b hv hb he => ?_)
    obtain ⟨p, hpm, rfl⟩ := List.mem_map.1 hv
    obtain ⟨j, hj, rfl⟩ := List.getElem_of_mem hpm
    obtain ⟨x, hx, hq⟩ := h2.get (List.getElem?_eq_getElem hj)
    have h5 := (hu.lt b hb).1
    have h6 := (hq.2.1.lt b he).2
    omega
def totW (w : World) (g n : Nat) : Nat := sumN ((List.range n).map fun j => match w.cell? ⟨g, j * 2 + 1, none⟩ with | some (.slice _ l _) => l | _ => 0)
theorem totW_of {w : World} {base g n cap : Nat} {rs : List Rs} (h : GrowR w base (.slice (some ⟨g, 0, none⟩) n cap) rs) (hn : rs.length = n) : totW w g n = tot rs := by
  unfold totW tot
  congr 1
  apply List.ext_getElem (by simp [hn])
  intro i h1 h2
  obtain ⟨r, a, c, hr, _, hc, _⟩ := h.at hn (i := i) (by simpa using h1)
  simp only [List.getElem_map, List.getElem_range, hc]
  have h3 := hr.out
  have h4 : i < rs.length := by simpa using h2
  rw [List.getElem?_eq_getElem h4] at h3
  cases h3
  rfl
end Go.Proofs.YtemikjbfjhebnaaGreat
namespace Go.Proofs.YtemikjbfjhebnaaGreat
open Go.RowKit Go.Sort
set_option linter.unusedVariables false
structure PassI (xs : List Dr) (fs : List Fl) (k : Nat) (rs : List Rs) (i : Nat) (a : List Rs × Bool) : Prop where
  ev : EvI xs fs k a.1
  le : LeK xs k rs a.1
  t0 : tot rs ≤ tot a.1
  t1 : a.2 = true → tot rs < tot a.1
  same : a.2 = false → a.1 = rs ∧ ∀ j x, j < i → xs[j]? = some x → gt (stL xs) j = k → selL x.query fs rs = idsAt rs j
end Go.Proofs.YtemikjbfjhebnaaGreat
namespace Go.Proofs.YtemikjbfjhebnaaGreat
theorem j3 : (Tryz.pinned.checked.prog.mayEnter && ((Rows.fnNoninterferenceRow.lifted == Tryz.pinned.checked.prog.liftsFinal) && (Tryz.pinned.checked.prog.make == some Rows.fnNoninterferenceRow.make))) = true := by kernel_rfl
theorem j_may : Tryz.pinned.checked.prog.mayEnter = true := (Bool.and_eq_true_iff.1 j3).1
theorem j_lift : Tryz.pinned.checked.prog.liftsFinal = Rows.fnNoninterferenceRow.lifted := (eq_of_beq (Bool.and_eq_true_iff.1 (Bool.and_eq_true_iff.1 j3).2).1).symm
theorem j_make : Tryz.pinned.checked.prog.make = some Rows.fnNoninterferenceRow.make := eq_of_beq (Bool.and_eq_true_iff.1 (Bool.and_eq_true_iff.1 j3).2).2
end Go.Proofs.YtemikjbfjhebnaaGreat
namespace Go.Proofs.YtemikjbfjhebnaaGreat
open Go.ChangeShapes Go.WideShapes Go.ChangeAt Go.RowKit
open Go.ChangeMaps (open_string shut_string)
set_option linter.unusedVariables false
theorem own : ownKnob Tryz.prog.godebug = none := by kernel_rfl
theorem laidOut : laidOutB Tryz.prog = true := by kernel_rfl
theorem list_of {α : Type} {Q : Nat → α → Prop} : ∀ (n : Nat), (∀ i, i < n → ∃ a, Q i a) → ∃ xs : List α, xs.length = n ∧ ∀ i a, xs[i]? = some a → Q i a := by
  intro n
  induction n with
  | zero => intro _; exact ⟨[], rfl, fun i a h => by simp at h⟩
  | succ n ih =>
    intro h
    obtain ⟨xs, hl, hx⟩ := ih (fun i hi => h i (by omega))
    obtain ⟨a, ha⟩ := h n (by omega)
    refine ⟨xs ++ [a], by simp [hl], fun i b hb => ?_⟩
    by_cases hi : i < n
    · rw [List.getElem?_append_left (by omega)] at hb; exact hx i b hb
    · rw [List.getElem?_append_right (by omega)] at hb
      have : i = n := by
        have := (List.getElem?_eq_some_iff.1 hb).1
        simp at this; omega
      subst this
      rw [hl, Nat.sub_self] at hb
      simp at hb; subst hb; exact ha
theorem mapM_get {α β : Type} (f : α → Option β) : ∀ (l : List α) (r : List β), l.mapM f = some r → r.length = l.length ∧ ∀ (i : Nat) (a : α), l[i]? = some a → f a = r[i]? := by
  intro l
  induction l with
  | nil => intro r h; simp at h; subst h; exact ⟨rfl, fun i a h => by simp at h⟩
  | cons x l ih =>
    intro r h
    rw [List.mapM_cons] at h
    cases hx : f x with
    | none => simp [hx] at h
    | some y =>
      cases hl : l.mapM f with
      | none => simp [hx, hl] at h
      | some ys =>
        simp [hx, hl] at h
        subst h
        obtain ⟨h1, h2⟩ := ih ys hl
        refine ⟨by simp [h1], fun i a ha => ?_⟩
        cases i with
        | zero => simp at ha; subst ha; simpa using hx
        | succ i => simpa using h2 i a (by simpa using ha)
section
variable {H : Type} {enc : TypeId × Value → H} {P : Program} {w : World} {base : Nat} {spare : Nat → Bool} {held : Bool}
theorem open_rows {α : Type} {f : α → List Value} {ok : α → Prop} {t e : TypeId} {k fuel : Nat} {v : Value} {x : DataW H × List MemPlace} (ht : P.underlying t = some (.slice e)) (hk : P.cellsOf e = k) (h0 : 0 < k) (hf : ∀ a, (f a).length = k)
    (hE : ∀ n cs y, DataW.trod enc P w base spare held n e cs = some y → ∃ a, cs = f a ∧ ok a) (h : DataW.trod enc P w base spare held fuel t [v] = some x) :
    ∃ n xs, Rd w v k n (rows f xs) ∧ n ≤ maxLen ∧ ∀ a, a ∈ xs → ok a := by
  rcases Deep.open_slice ht h with ⟨hv, _⟩ | ⟨a, len, cap, m, n, D, Pl, hv, _, hl, hm, rfl, _, hel⟩
  · simp at hv; subst hv
    exact ⟨0, [], ⟨none, 0, rfl, Nat.le_refl _, by simp [rows], fun h => absurd h (by omega)⟩, Nat.zero_le _, fun a h => by simp at h⟩
  · simp at hv; subst hv
    have hlm : len ≤ (if spare a.block then cap else len) := by split <;> omega
    have hx : ∀ i, i < len → ∃ z, (ok z ∧ w.cells? base (a.add (i * k)) k = some (f z)) := by
      intro i hi
      obtain ⟨cs, hc, ht'⟩ := hel i (by omega)
      obtain ⟨z, rfl, hz⟩ := hE _ _ _ ht'
      rw [hk] at hc
      exact ⟨z, hz, hc⟩
    obtain ⟨xs, hxl, hxs⟩ := list_of len hx
    refine ⟨len, xs, ⟨some a, cap, rfl, hl, by rw [rows_length hf, hxl], fun hn => ?_⟩, by omega, fun z hz => ?_⟩
    · have cell : ∀ i z, xs[i]? = some z → ∀ j u, (f z)[j]? = some u → w.cell? (a.add (i * k + j)) = some u := by
        intro i z hi j u hu
        have hc := (hxs i z hi).2
        unfold World.cells? at hc
        split at hc
        · obtain ⟨h1, h2⟩ := mapM_get _ _ _ hc
          have hj : j < k := by rw [← hf z]; exact (List.getElem?_eq_some_iff.1 hu).1
          have := h2 j j (by rw [List.getElem?_range hj])
          rw [hu] at this
          rw [← this]
          congr 1
          simp only [Addr.add]
          by_cases h3 : i * k = 0
          · by_cases h4 : j = 0
            · simp [h3, h4]
            · simp [h3]
          · by_cases h4 : j = 0
            · simp [h4]
            · simp [h3, h4]; omega
        · cases hc
      obtain ⟨b, o, s⟩ := a
      have hs : s = none := by
        have h1 := cell 0 xs[0] (List.getElem?_eq_getElem (by omega)) 0 _ (List.getElem?_eq_getElem (by rw [hf]; exact h0))
        simpa [Addr.add] using World.cell?_spot h1
      subst hs
      refine ⟨b, o, rfl, fun j hj => ?_⟩
      have hd : j / k < len := (Nat.div_lt_iff_lt_mul h0).2 hj
      have hmd := Nat.mod_lt j h0
      have he : j = j / k * k + j % k := by rw [Nat.mul_comm]; exact (Nat.div_add_mod j k).symm
      have hg : xs[j / k]? = some (xs[j / k]'(by omega)) := List.getElem?_eq_getElem (by omega)
      have hu : (f (xs[j / k]'(by omega)))[j % k]? = some ((f (xs[j / k]'(by omega)))[j % k]'(by rw [hf]; exact hmd)) := List.getElem?_eq_getElem (by rw [hf]; exact hmd)
      have h1 := cell _ _ hg _ _ hu
      have h2 := rows_at hf xs (j / k) (j % k) _ hg hmd
      rw [← he] at h1 h2
      rw [h2, hu, ← h1]
      congr 1
      simp only [Addr.add]
      by_cases hz : j = 0
      · simp [hz]
      · simp [hz]
    · obtain ⟨i, hi, rfl⟩ := List.getElem_of_mem hz
      exact (hxs i _ (List.getElem?_eq_getElem hi)).1
theorem rows_one {α : Type} (f : α → Value) (xs : List α) : rows (fun a => [f a]) xs = xs.map f := by
  induction xs with
  | nil => rfl
  | cons x xs ih => rw [rows_cons, ih]; rfl
end
def I64 (n : Int) : Prop := -9223372036854775808 ≤ n ∧ n ≤ 9223372036854775807
def V.ok (x : V) : Prop := I64 x.kind ∧ I64 x.int ∧ x.str.size ≤ maxLen
def N.ok (x : N) : Prop := I64 x.op ∧ I64 x.left ∧ I64 x.right ∧ x.name.size ≤ maxLen ∧ x.val.ok
def Fd.ok (x : Fd) : Prop := x.name.size ≤ maxLen ∧ I64 x.kind
def At.ok (x : At) : Prop := x.name.size ≤ maxLen ∧ x.val.ok
section
variable {H : Type} {enc : TypeId × Value → H} {w : World} {base : Nat} {spare : Nat → Bool} {held : Bool}
end
end Go.Proofs.YtemikjbfjhebnaaGreat
namespace Go.Proofs.YtemikjbfjhebnaaGreat
open Go.ChangeShapes Go.WideShapes Go.ChangeAt Go.RowKit
open Go.ChangeMaps (open_string shut_string)
set_option linter.unusedVariables false
section
variable {H : Type} {enc : TypeId × Value → H} {w : World} {base : Nat} {spare : Nat → Bool} {held : Bool}
theorem getU {n : Nat} {cs : List Value} {y : DataW H × List MemPlace} (h : DataW.trod enc Tryz.prog w base spare held n 5 cs = some y) : ∃ a : Int, cs = [.int .u8 a] ∧ 0 ≤ a ∧ a ≤ 255 := by
  obtain ⟨a, rfl, _, hw⟩ := DataW.trod_int Tryz.underlying5 h
  exact ⟨a, rfl, by simpa [Lit.wf, IntKind.min, IntKind.max, IntKind.signed, IntKind.bits] using hw⟩
theorem open_bytes {fuel : Nat} {v : Value} {x : DataW H × List MemPlace} (h : DataW.trod enc Tryz.prog w base spare held fuel 22 [v] = some x) :
    ∃ n, ∃ xs : List Int, Rd w v 1 n (xs.map (Value.int .u8)) ∧ n ≤ maxLen ∧ ∀ a : Int, a ∈ xs → 0 ≤ a ∧ a ≤ 255 := by
  obtain ⟨n, xs, h1, h2⟩ := open_rows (f := fun a => [Value.int .u8 a]) (ok := fun a : Int => 0 ≤ a ∧ a ≤ 255) Tryz.underlying22 (by kernel_rfl) (by decide) (fun _ => rfl) (fun n cs y h => getU h) h
  exact ⟨n, xs, by rw [rows_one] at h1; exact h1, h2⟩
end
end Go.Proofs.YtemikjbfjhebnaaGreat
