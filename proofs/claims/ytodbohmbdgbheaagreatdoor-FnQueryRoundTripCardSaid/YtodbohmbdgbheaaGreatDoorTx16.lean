/- A frame for calls that append to a row they were handed; bounds of the reference's reader. -/
import Derived.Test.YtodbohmbdgbheaaGreatDoorTx15
import Derived.Test.YtodbohmbdgbheaaGreatDoorTx13
import Derived.Test.YtodbohmbdgbheaaGreatDoorTx2
import Derived.Test.YtodbohmbdgbheaaGreatDoorC6
import Derived.Test.YtodbohmbdgbheaaGreatDoorH4
import Derived.Maps.AppendAt
namespace Go.Proofs.YtodbohmbdgbheaaGreatDoor
open Go.RowKit
set_option linter.unusedVariables false
/-- From w to w' no block has turned but x, the row v's own, and new ones; the row is now v', in v's block or in a new one. -/
structure Ext (x : Option Nat) (w w' : World) (v v' : Value) : Prop where
  os : w'.os = w.os
  tape : w'.tape = w.tape
  output : w'.output = w.output
  size : w.heap.size ≤ w'.heap.size
  kept : ∀ k, k < w.heap.size → some k ≠ x → some k ≠ v.ownBlock → w'.heap[k]? = w.heap[k]?
  blk : v'.ownBlock = v.ownBlock ∨ ∀ k, v'.ownBlock = some k → w.heap.size ≤ k
theorem Ext.refl (x : Option Nat) (w : World) (v : Value) : Ext x w w v v := ⟨rfl, rfl, rfl, Nat.le_refl _, fun _ _ _ _ => rfl, .inl rfl⟩
theorem Ext.trans {x : Option Nat} {a b c : World} {u v t : Value} (h : Ext x a b u v) (k : Ext x b c v t) : Ext x a c u t := by
  refine ⟨k.os.trans h.os, k.tape.trans h.tape, k.output.trans h.output, Nat.le_trans h.size k.size, fun j hj hx hu => ?_, ?_⟩
  · rw [k.kept j (Nat.lt_of_lt_of_le hj h.size) hx ?_, h.kept j hj hx hu]
    rcases h.blk with hb | hb
    · rw [hb]; exact hu
    · exact fun e => by have := hb j e.symm; omega
  · rcases k.blk with kb | kb
    · rcases h.blk with hb | hb
      · exact .inl (kb.trans hb)
      · exact .inr fun j hj => hb j (by rw [← kb]; exact hj)
    · exact .inr fun j hj => Nat.le_trans h.size (kb j hj)
theorem Ext.grew {x : Option Nat} {a b c : World} {u v : Value} (h : Ext x a b u v) (k : Grew b c) : Ext x a c u v :=
  ⟨k.below.os.trans h.os, k.below.tape.trans h.tape, k.below.output.trans h.output, Nat.le_trans h.size k.size, fun j hj hx hu => by rw [k.below.block j (Nat.lt_of_lt_of_le hj h.size), h.kept j hj hx hu], h.blk⟩
theorem Ext.pre {x : Option Nat} {a b c : World} {u v : Value} (k : Grew a b) (h : Ext x b c u v) : Ext x a c u v :=
  ⟨h.os.trans k.below.os, h.tape.trans k.below.tape, h.output.trans k.below.output, Nat.le_trans k.size h.size, fun j hj hx hu => by rw [h.kept j (Nat.lt_of_lt_of_le hj k.size) hx hu, k.below.block j hj], h.blk.imp id fun hb j hj => Nat.le_trans k.size (hb j hj)⟩
theorem Ext.cell {x : Option Nat} {w w' : World} {u v : Value} (h : Ext x w w' u v) {a : Addr} {y : Value} (hc : w.cell? a = some y) (hx : some a.block ≠ x) (hu : some a.block ≠ u.ownBlock) : w'.cell? a = some y := by
  have hb := h.kept a.block (lt_of_cell hc) hx hu
  simp only [World.cell?] at hc ⊢
  rw [hb]; exact hc
theorem Ext.frozen {x : Option Nat} {w w' : World} {u v : Value} (h : Ext x w w' u v) {a : Addr} {y : Value} (hc : w.cell? a = some y) (hx : some a.block ≠ x) (hu : some a.block ≠ u.ownBlock) {b : Bool} (hf : w.frozen? a = b) : w'.frozen? a = b := by
  have hb := h.kept a.block (lt_of_cell hc) hx hu
  unfold World.frozen? at hf ⊢
  rw [hb]; exact hf
theorem sc_other (w : World) {b o j : Nat} {y : Value} (h : j ≠ b) : (w.setCell ⟨b, o, none⟩ y).heap[j]? = w.heap[j]? := by
  unfold World.setCell
  simp only [Array.getElem?_modify]
  rw [if_neg (fun e => h e.symm)]
/-- A store into another block. -/
theorem own_other {w : World} {base : Nat} {e : TypeId} {k n : Nat} {v : Value} {cs : List Value} (h : w.ownsRow base e k v n cs) {b o : Nat} {u : Value} (hb : v.ownBlock ≠ some b) : (w.setCell ⟨b, o, none⟩ u).ownsRow base e k v n cs := by
  refine h.kept (row := some b) ?_ ?_
  · have hg : Below w.heap.size w w := Below.refl _ _
    refine ⟨?_, ?_, ?_, ?_, fun j hj hne => ?_⟩
    · exact rfl
    · exact rfl
    · exact rfl
    · rw [World.size_setCell]; exact Nat.le_refl _
    · exact sc_other _ (fun e => hne (by rw [e]))
  · cases hv : v.ownBlock with
    | none => exact .inl rfl
    | some g => exact .inr (fun e => hb (by rw [hv, e]))
theorem Ext.set {x : Option Nat} {a w : World} {u v : Value} (h : Ext x a w u v) {b o : Nat} {y : Value} (hb : a.heap.size ≤ b) : Ext x a (w.setCell ⟨b, o, none⟩ y) u v := by
  refine ⟨(rfl).trans h.os, (rfl).trans h.tape, (rfl).trans h.output, by rw [World.size_setCell]; exact h.size, fun j hj hx hu => ?_, h.blk⟩
  rw [sc_other _ (fun e => by omega), h.kept j hj hx hu]
theorem Ext.grewTo {x : Option Nat} {a w w' : World} {v v' : Value} (h : Ext x w w' v v') (hg : Grew a w) (hx : ∀ k, x = some k → a.heap.size ≤ k) (hv : ∀ k, v.ownBlock = some k → a.heap.size ≤ k) : Grew a w' :=
  ⟨h.os.trans hg.below.os, h.tape.trans hg.below.tape, h.output.trans hg.below.output, Nat.le_trans hg.size h.size, fun k hk => by
    rw [h.kept k (Nat.lt_of_lt_of_le hk hg.size) (fun e => by have := hx k e.symm; omega) (fun e => by have := hv k e.symm; omega), hg.below.block k hk]⟩
theorem Ext.app {x : Option Nat} {a w w' : World} {u v v' : Value} (h : Ext x a w u v) (hg : w.grownBy w' v.ownBlock) (hat : v'.ownBlock = v.ownBlock ∨ v'.ownBlock = some w.heap.size) : Ext x a w' u v' :=
  h.trans ⟨hg.os, hg.tape, hg.output, hg.size, fun k hk _ hu => hg.block k hk hu, hat.imp id fun e k hk => by rw [e] at hk; injection hk with hk; omega⟩
theorem RdF.ext {x : Option Nat} {w w' : World} {u v : Value} {F : Nat} {vp : Value} {ws : List By} (h : RdF w F vp ws) (he : Ext x w w' u v) (hx : some F ≠ x) (hu : some F ≠ u.ownBlock) : RdF w' F vp ws := by
  obtain ⟨o, c, h1, hc, hf, hw⟩ := h
  exact ⟨o, c, h1, hc, Nat.lt_of_lt_of_le hf he.size, fun j y hj => he.cell (hw j y hj) hx hu⟩
/-- Bounds of the reference's reader. -/
theorem rdS_len : ∀ (d : Nat) (ws : List By) (ns : List N) (deep : Nat), (rdS d ws ns deep).1.length ≤ max ns.length (10 + d)
  | 0, ws, ns, deep => by simp [rdS]; omega
  | d + 1, ws, ns, deep => by
    unfold rdS
    dsimp only
    have hA := rdS_len d ws.tail ns (deep + 1)
    have hB := rdS_len d (ws.drop (1 + (rdS d ws.tail ns (deep + 1)).2)) (rdS d ws.tail ns (deep + 1)).1 (deep + 1)
    generalize rdS d (ws.drop (1 + (rdS d ws.tail ns (deep + 1)).2)) (rdS d ws.tail ns (deep + 1)).1 (deep + 1) = B at *
    generalize rdS d ws.tail ns (deep + 1) = A at *
    split
    · exact Nat.le_max_left _ _
    · rename_i h0
      split
      · simp; omega
      · split
        · simp; omega
        · split
          · split
            · simp at hA ⊢; omega
            · simp at hA ⊢; omega
          · split
            · split
              · simp at hA ⊢; omega
              · split
                · simp at hA hB ⊢; omega
                · simp at hA hB ⊢; omega
            · simp; omega
theorem rdS_used : ∀ (d : Nat) (ws : List By) (ns : List N) (deep : Nat), (rdS d ws ns deep).2 ≤ ws.length + 2 ∧ ((rdS d ws ns deep).2 ≠ 0 → ws ≠ [])
  | 0, ws, ns, deep => by simp [rdS]
  | d + 1, ws, ns, deep => by
    unfold rdS
    dsimp only
    have hA := rdS_used d ws.tail ns (deep + 1)
    have hB := rdS_used d (ws.drop (1 + (rdS d ws.tail ns (deep + 1)).2)) (rdS d ws.tail ns (deep + 1)).1 (deep + 1)
    generalize rdS d (ws.drop (1 + (rdS d ws.tail ns (deep + 1)).2)) (rdS d ws.tail ns (deep + 1)).1 (deep + 1) = B at *
    generalize rdS d ws.tail ns (deep + 1) = A at *
    split
    · simp
    · rename_i h0
      have hne : ws ≠ [] := fun e => h0 (.inl (by rw [e]; exact opOf_nil))
      have hl : 1 ≤ ws.length := by cases ws with | nil => exact absurd rfl hne | cons _ _ => simp
      have htl : ws.tail.length = ws.length - 1 := List.length_tail
      have hdl : (ws.drop (1 + A.2)).length = ws.length - (1 + A.2) := List.length_drop
      split
      · exact ⟨by dsimp only; omega, fun _ => hne⟩
      · split
        · exact ⟨by dsimp only; omega, fun _ => hne⟩
        · split
          · split
            · exact ⟨Nat.zero_le _, fun h => absurd rfl h⟩
            · exact ⟨by dsimp only; omega, fun _ => hne⟩
          · split
            · split
              · exact ⟨Nat.zero_le _, fun h => absurd rfl h⟩
              · split
                · exact ⟨Nat.zero_le _, fun h => absurd rfl h⟩
                · rename_i hk2
                  have h3 := hB.2 hk2
                  have h4 : 1 ≤ (ws.drop (1 + A.2)).length := by
                    cases hw : ws.drop (1 + A.2) with
                    | nil => exact absurd hw h3
                    | cons _ _ => simp
                  exact ⟨by dsimp only; omega, fun _ => hne⟩
            · exact ⟨by dsimp only; omega, fun _ => hne⟩
set_option maxHeartbeats 1000000 in
theorem l10Part (p : List By) (vp : Value) (F k : Nat) (w : World) (h : RdF w F vp p) (hp : p.length ≤ 4000000) (hk : k ≤ 4000000) :
    Calls Tryz.prog 55 #[vp, .int .i64 k] w fun e w' => e = .returned (.string (hdB (p.drop k))) ∧ w' = w := by
  obtain ⟨o, c, rfl, hc, hf, hx⟩ := h
  by_cases hlt : k < p.length
  · have cx := hx k p[k] (List.getElem?_eq_getElem hlt)
    have HD := Lib.hid (show hdB (p.drop k) = p[k] by rw [List.drop_eq_getElem_cons hlt]; rfl)
    generalize p[k] = y at cx HD
    clear hx
    have h1 : (k : Int) < p.length := by omega
    have h0 : (0 : Int) ≤ k := by omega
    go_enter Tryz.func55, Tryz.ntmps55
    go_wp2
    go_ret
    exact ⟨ret_str HD.out.symm, rfl⟩
  · have HD := Lib.hid (show hdB (p.drop k) = ⟨#[]⟩ by rw [List.drop_eq_nil_of_le (by omega)]; rfl)
    clear hx
    have h1 : ¬ ((k : Int) < p.length) := by omega
    go_enter Tryz.func55, Tryz.ntmps55
    go_wp2
    go_ret
    exact ⟨ret_str HD.out.symm, rfl⟩
end Go.Proofs.YtodbohmbdgbheaaGreatDoor
