/- What a draw may do: write its cursor's block, and make new blocks. No program in sight. -/
import Derived.Test.YtodbohmbdgbheaaGreatDoorH6
namespace Go.Proofs.YtodbohmbdgbheaaGreatDoor
open Go.RowKit
set_option linter.unusedVariables false
/-- The cursor of a draw: block g holds the bytes, how many of them are read, and a number. -/
def Cur (w : World) (g : Nat) : Prop :=
  ∃ (a : Option Addr) (n c : Nat) (i h : Int) (bs : List Int), w.cell? ⟨g, 0, none⟩ = some (.slice a n c) ∧ w.cell? ⟨g, 1, none⟩ = some (.int .i64 i) ∧ w.cell? ⟨g, 2, none⟩ = some (.int .i64 h) ∧
    0 ≤ i ∧ i ≤ n ∧ n ≤ 1048576 ∧ RdA w a 1 n (bs.map (Value.int .u8)) ∧ (0 < n → ∀ b, a = some b → b.block < g) ∧ w.frozen? ⟨g, 1, none⟩ = false ∧ w.frozen? ⟨g, 2, none⟩ = false
theorem Cur.lt {w : World} {g : Nat} (h : Cur w g) : g < w.heap.size := by
  obtain ⟨a, n, c, i, k, bs, h0, _⟩ := h
  exact lt_of_cell h0
theorem tch_cell {w w' : World} {lo hi : Nat} (ht : Touch lo hi w w') {p : Addr} {u : Value} (hb : p.block < lo ∨ hi ≤ p.block) (h : w.cell? p = some u) : w'.cell? p = some u :=
  (World.cell?_of_block (w := w) (ht.block p.block (lt_of_cell h) hb)).trans h
theorem tch_frozen {w w' : World} {lo hi : Nat} (ht : Touch lo hi w w') {p : Addr} (hl : p.block < w.heap.size) (hb : p.block < lo ∨ hi ≤ p.block) (h : w.frozen? p = false) : w'.frozen? p = false :=
  (World.frozen?_of_block (w := w) (ht.block p.block hl hb)).trans h
theorem RdA.tch {w w' : World} {a : Option Addr} {k n lo hi : Nat} {cs : List Value} (h : RdA w a k n cs) (ht : Touch lo hi w w') (hb : 0 < n → ∀ b, a = some b → b.block < lo ∨ hi ≤ b.block) : RdA w' a k n cs := by
  obtain ⟨hl, hr⟩ := h
  refine ⟨hl, fun hn => ?_⟩
  obtain ⟨b, o, rfl, hj⟩ := hr hn
  refine ⟨b, o, rfl, fun j hjn => ?_⟩
  have h0 := hj j hjn
  rw [List.getElem?_eq_getElem (by omega)] at h0 ⊢
  exact tch_cell ht (p := ⟨b, o + j, none⟩) (hb hn ⟨b, o, none⟩ rfl) h0
theorem Cur.touch {w w' : World} {g lo hi : Nat} (h : Cur w g) (ht : Touch lo hi w w') (hg : g < lo) : Cur w' g := by
  have hlt := h.lt
  obtain ⟨a, n, c, i, k, bs, h0, h1, h2, h3, h4, h5, h6, h7, h8, h9⟩ := h
  exact ⟨a, n, c, i, k, bs, tch_cell ht (.inl hg) h0, tch_cell ht (.inl hg) h1, tch_cell ht (.inl hg) h2, h3, h4, h5, h6.tch ht (fun hn b hb => .inl (by have := h7 hn b hb; omega)), h7, tch_frozen ht hlt (.inl hg) h8, tch_frozen ht hlt (.inl hg) h9⟩
theorem Cur.grew {w w' : World} {g : Nat} (h : Cur w g) (hg : Grew w w') : Cur w' g := h.touch (hg.touch (g + 1) (g + 1)) (Nat.lt_succ_self g)
/-- Nothing but the cursor's block has changed, and it is a cursor still. -/
def D (g : Nat) (w w' : World) : Prop := g < w.heap.size ∧ Touch g (g + 1) w w' ∧ Cur w' g
theorem D.refl {w : World} {g : Nat} (h : Cur w g) : D g w w := ⟨h.lt, Touch.refl _ _ _, h⟩
theorem D.cur {g : Nat} {w w' : World} (h : D g w w') : Cur w' g := h.2.2
theorem D.size {g : Nat} {w w' : World} (h : D g w w') : w.heap.size ≤ w'.heap.size := h.2.1.size
theorem D.lt {g : Nat} {w w' : World} (h : D g w w') : g < w.heap.size := h.1
theorem D.trans {g : Nat} {a b c : World} (h : D g a b) (k : D g b c) : D g a c := ⟨h.1, h.2.1.trans k.2.1, k.2.2⟩
theorem D.grew {g : Nat} {a b c : World} (h : D g a b) (k : Grew b c) : D g a c := ⟨h.1, h.2.1.grew k, h.2.2.grew k⟩
theorem D.alloc {g : Nat} {a b : World} (h : D g a b) (o : Obj) : D g a (b.alloc o) := h.grew ((Grew.refl b).alloc o)
theorem D.drew {g : Nat} {a b : World} (h : D g a b) : D g a b.drew := h.grew (Grew.refl b).drew
theorem D.drewN {g : Nat} {a b : World} (h : D g a b) (n : Nat) : D g a (b.drewN n) := h.grew ((Grew.refl b).drewN n)
/-- What is new since 'a' may be written. -/
theorem D.touch {g lo hi : Nat} {a b c : World} (h : D g a b) (k : Touch lo hi b c) (hl : a.heap.size ≤ lo) : D g a c := by
  have hg := h.1
  refine ⟨hg, ⟨k.os.trans h.2.1.os, k.tape.trans h.2.1.tape, k.output.trans h.2.1.output, Nat.le_trans h.2.1.size k.size, fun b' hb ho => ?_⟩, h.2.2.touch k (by omega)⟩
  exact (k.block b' (Nat.lt_of_lt_of_le hb h.2.1.size) (.inl (by omega))).trans (h.2.1.block b' hb ho)
theorem D.setCell {g : Nat} {a b : World} (h : D g a b) {p : Addr} (hp : a.heap.size ≤ p.block) (u : Value) : D g a (b.setCell p u) :=
  h.touch (lo := p.block) (hi := p.block + 1) (Touch.setCell (Touch.refl _ _ _) (Nat.le_refl _) (Nat.lt_succ_self _) u) hp
theorem grown_touch {w w' : World} {row : Option Nat} (hg : w.grownBy w' row) {lo hi : Nat} (hr : ∀ k, row = some k → lo ≤ k ∧ k < hi) : Touch lo hi w w' :=
  ⟨hg.os, hg.tape, hg.output, hg.size, fun b hb ho => hg.block b hb (fun e => by have := hr b e.symm; omega)⟩
theorem D.grown {g : Nat} {a b c : World} {row : Option Nat} (h : D g a b) (hg : b.grownBy c row) (hr : ∀ k, row = some k → a.heap.size ≤ k) : D g a c := by
  cases row with
  | none => exact h.touch (lo := a.heap.size) (hi := a.heap.size) (grown_touch hg (fun k hk => by cases hk)) (Nat.le_refl _)
  | some k => exact h.touch (lo := k) (hi := k + 1) (grown_touch hg (fun j hj => by cases hj; omega)) (hr k rfl)
theorem D.cell {g : Nat} {w w' : World} (h : D g w w') {p : Addr} {u : Value} (hc : w.cell? p = some u) (hp : p.block ≠ g) : w'.cell? p = some u :=
  tch_cell h.2.1 (by omega) hc
theorem D.frozen {g : Nat} {w w' : World} (h : D g w w') {p : Addr} (hl : p.block < w.heap.size) (hf : w.frozen? p = false) (hp : p.block ≠ g) : w'.frozen? p = false :=
  tch_frozen h.2.1 hl (by omega) hf
theorem ownsRow_tch {w w' : World} {lo hi base : Nat} {e : TypeId} {k n : Nat} {v : Value} {cs : List Value} (h : w.ownsRow base e k v n cs) (ht : Touch lo hi w w') (hd : hi ≤ base) : w'.ownsRow base e k v n cs := by
  obtain ⟨hl, ⟨rfl, rfl⟩ | ⟨g, cap, cur, rfl, hg, hh, hr⟩⟩ := h
  · exact ⟨hl, .inl ⟨rfl, rfl⟩⟩
  · refine ⟨hl, .inr ⟨g, cap, cur, rfl, hg, ?_, hr⟩⟩
    rw [ht.block g (Array.getElem?_eq_some_iff.1 hh).1 (.inr (by omega))]
    exact hh
theorem D.own {g : Nat} {w w' : World} (h : D g w w') {base : Nat} {e : TypeId} {k n : Nat} {v : Value} {cs : List Value} (hr : w.ownsRow base e k v n cs) (hg : g < base) : w'.ownsRow base e k v n cs :=
  ownsRow_tch hr h.2.1 hg
theorem D.rd {g : Nat} {w w' : World} (h : D g w w') {k n : Nat} {v : Value} {cs : List Value} (hr : Rd w v k n cs) (hg : v.ownBlock ≠ some g) : Rd w' v k n cs := by
  obtain ⟨a, c, rfl, hc, ha⟩ := hr
  refine ⟨a, c, rfl, hc, ha.tch h.2.1 fun _ b hb => ?_⟩
  subst hb
  have : b.block ≠ g := fun e => hg (by simp [Value.ownBlock, e])
  omega
theorem own_ne {w : World} {base g : Nat} {e : TypeId} {k n : Nat} {v : Value} {cs : List Value} (hr : w.ownsRow base e k v n cs) (hg : g < base) : v.ownBlock ≠ some g := fun h => by
  have := (hr.lt g h).1; omega
/-- A list that a draw hands back: its own rows. -/
def GL {α β : Type} (enc : β → List Value) (k : Nat) (e : TypeId) (O : World → Nat → Nat → α → β → Prop) (w : World) (base : Nat) (v : Value) (xs : List α) : Prop :=
  ∃ ps, w.ownsRow base e k v xs.length (rows enc ps) ∧ All2 (O w base w.heap.size) xs ps
theorem GL.rd {α β : Type} {enc : β → List Value} {k : Nat} {e : TypeId} {O : World → Nat → Nat → α → β → Prop} {R : World → α → β → Prop} (hO : ∀ w lo hi x p, O w lo hi x p → R w x p) {w : World} {base : Nat} {v : Value} {xs : List α} (h : GL enc k e O w base v xs) : RdL enc k R w v xs := by
  obtain ⟨ps, h1, h2⟩ := h
  exact ⟨ps, rd_of_own h1, h2.mono fun x p h => hO _ _ _ _ _ h⟩
theorem GL.touch {α β : Type} {enc : β → List Value} {k : Nat} {e : TypeId} {O : World → Nat → Nat → α → β → Prop} (hO : ∀ w w' lo hi a b x p, O w lo hi x p → Touch a b w w' → (hi ≤ a ∨ b ≤ lo) → O w' lo hi x p) (hM : ∀ w lo hi hi' x p, O w lo hi x p → hi ≤ hi' → O w lo hi' x p)
    {w w' : World} {base a b : Nat} {v : Value} {xs : List α} (h : GL enc k e O w base v xs) (ht : Touch a b w w') (hd : b ≤ base) : GL enc k e O w' base v xs := by
  obtain ⟨ps, h1, h2⟩ := h
  exact ⟨ps, ownsRow_tch h1 ht hd, h2.mono fun x p h => hM _ _ _ _ _ _ (hO _ _ _ _ _ _ _ _ h ht (.inr hd)) ht.size⟩
theorem GL.slice {α β : Type} {enc : β → List Value} {k : Nat} {e : TypeId} {O : World → Nat → Nat → α → β → Prop} {w : World} {base : Nat} {v : Value} {xs : List α} (h : GL enc k e O w base v xs) : ∃ a c, v = .slice a xs.length c := by
  obtain ⟨ps, h1, _⟩ := h
  exact own_slice h1
theorem GL.base {α β : Type} {enc : β → List Value} {k : Nat} {e : TypeId} {O : World → Nat → Nat → α → β → Prop} (hM : ∀ w lo lo' hi x p, O w lo hi x p → lo' ≤ lo → O w lo' hi x p) {w : World} {base base' : Nat} {v : Value} {xs : List α} (h : GL enc k e O w base v xs) (hb : base' ≤ base) : GL enc k e O w base' v xs := by
  obtain ⟨ps, h1, h2⟩ := h
  exact ⟨ps, ownsRow_base h1 hb, h2.mono fun x p h => hM _ _ _ _ _ _ h hb⟩
end Go.Proofs.YtodbohmbdgbheaaGreatDoor
