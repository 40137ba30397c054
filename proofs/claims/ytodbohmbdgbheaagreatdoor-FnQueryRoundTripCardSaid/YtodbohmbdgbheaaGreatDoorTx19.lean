/- Contracts: the program's reader: its box, the next word. -/
import Derived.Test.YtodbohmbdgbheaaGreatDoorTx16
namespace Go.Proofs.YtodbohmbdgbheaaGreatDoor
open Go.RowKit
set_option linter.unusedVariables false
/-- The reader's box g: the words that are left (in block F), the nodes read (rows from base on). -/
structure RI (w : World) (g F base : Nat) (ws : List By) (v : Value) (ns : List N) : Prop where
  f : ∃ fv, w.cell? ⟨g, 0, none⟩ = some fv ∧ RdF w F fv ws
  n : w.cell? ⟨g, 1, none⟩ = some v
  z0 : w.frozen? ⟨g, 0, none⟩ = false
  z1 : w.frozen? ⟨g, 1, none⟩ = false
  own : w.ownsRow base 38 7 v ns.length (rows N.c ns)
  lf : F < g
  lg : g < base
  lb : base ≤ w.heap.size
theorem RI.ge {w : World} {g F base : Nat} {ws : List By} {v : Value} {ns : List N} (h : RI w g F base ws v ns) : ∀ k, v.ownBlock = some k → base ≤ k ∧ k < w.heap.size := fun k hk => h.own.lt k hk
theorem RI.grew {w w' : World} {g F base : Nat} {ws : List By} {v : Value} {ns : List N} (h : RI w g F base ws v ns) (hg : Grew w w') : RI w' g F base ws v ns := by
  obtain ⟨fv, h1, h2⟩ := h.f
  exact ⟨⟨fv, grew_cell hg h1, h2.grew hg⟩, grew_cell hg h.n, grew_frozen hg (lt_of_cell h1) h.z0, grew_frozen hg (lt_of_cell h.n) h.z1, ownsRow_grew h.own hg, h.lf, h.lg, Nat.le_trans h.lb hg.size⟩
/-- A store into a box of the call's own. -/
theorem RI.set {w : World} {g F base : Nat} {ws : List By} {v : Value} {ns : List N} (h : RI w g F base ws v ns) {b o : Nat} {u : Value} (hb : base ≤ b) (hv : v.ownBlock ≠ some b) : RI (w.setCell ⟨b, o, none⟩ u) g F base ws v ns := by
  have hg := h.lg
  have hF := h.lf
  have other : ∀ {k j : Nat}, k < base → (w.setCell ⟨b, o, none⟩ u).cell? ⟨k, j, none⟩ = w.cell? ⟨k, j, none⟩ := fun {k j} hk => by
    simp only [World.cell?]
    rw [sc_other w (show k ≠ b by omega)]
  have otherf : ∀ {k j : Nat}, k < base → (w.setCell ⟨b, o, none⟩ u).frozen? ⟨k, j, none⟩ = w.frozen? ⟨k, j, none⟩ := fun {k j} hk => by
    unfold World.frozen?
    rw [sc_other w (show k ≠ b by omega)]
  obtain ⟨fv, h1, o', c, h2, hc, hf, hx⟩ := h.f
  exact ⟨⟨fv, (other hg).trans h1, o', c, h2, hc, by rw [World.size_setCell]; exact hf, fun j x hj => (other (by omega)).trans (hx j x hj)⟩, (other hg).trans h.n, (otherf hg).trans h.z0, (otherf hg).trans h.z1, own_other h.own hv, h.lf, h.lg, by rw [World.size_setCell]; exact h.lb⟩
theorem RI.pop {w : World} {g F base : Nat} {x : By} {r : List By} {v : Value} {ns : List N} (h : RI w g F base (x :: r) v ns) {o2 c2 n : Nat} (hn : r.length = n) (hr : n ≤ c2) (hx : ∀ (j : Nat) y, r[j]? = some y → w.cell? ⟨F, o2 + j, none⟩ = some (.string y)) :
    RI (w.setCell ⟨g, 0, none⟩ (.slice (some ⟨F, o2, none⟩) n c2)) g F base r v ns ∧ Ext (some g) w (w.setCell ⟨g, 0, none⟩ (.slice (some ⟨F, o2, none⟩) n c2)) v v := by
  subst hn
  have hg := h.lg
  have hF := h.lf
  obtain ⟨fv, h1, _, _, _, _, hf, _⟩ := h.f
  have h2 := h.n
  have hv : v.ownBlock ≠ some g := fun e => by have := (h.ge g e).1; omega
  refine ⟨⟨⟨_, by simp [go_sem, h1], o2, c2, rfl, hr, by rw [World.size_setCell]; exact hf, fun j y hj => ?_⟩, by simp [go_sem, h2], by simp [go_sem, h.z0], by simp [go_sem, h.z1], own_other h.own hv, h.lf, h.lg, by rw [World.size_setCell]; exact h.lb⟩, ⟨rfl, rfl, rfl, by rw [World.size_setCell]; exact Nat.le_refl _, fun k hk hx _ => sc_other w (fun e => hx (by rw [e])), .inl rfl⟩⟩
  have h3 := hx j y hj
  simp only [World.cell?] at h3 ⊢
  rw [sc_other w (show F ≠ g by omega)]
  exact h3
set_option maxRecDepth 100000 in
set_option maxHeartbeats 4000000 in
theorem implNext (g F base : Nat) (ws : List By) (v : Value) (ns : List N) (w : World) (h : RI w g F base ws v ns) (hl : ws.length ≤ 1000) :
    Calls Tryz.prog 51 #[.pointer (some ⟨g, 0, none⟩)] w fun e w' => e = .returned (.string (hdB ws)) ∧ RI w' g F base ws.tail v ns ∧ Ext (some g) w w' v v := by
  have H := Lib.hid h
  obtain ⟨fv, h1, o, c, rfl, hc, hf, hx⟩ := h.f
  have z0 := h.z0
  cases ws with
  | nil =>
    clear hx h
    go_enter Tryz.func51, Tryz.ntmps51
    go_wp2
    go_ret
    exact ⟨rfl, H.out, Ext.refl _ _ _⟩
  | cons x r =>
    have cx := hx 0 x rfl
    rw [Nat.add_zero] at cx
    have HX := Lib.hid hx
    have hn0 := h.n
    clear hx h
    obtain ⟨n, hn⟩ : ∃ n, r.length = n := ⟨_, rfl⟩
    have HN := Lib.hid hn
    simp only [List.length_cons] at hc hl h1
    rw [hn] at hc hl h1
    clear hn
    have hpos : (0 : Int) < (n : Int) + 1 := by omega
    go_enter Tryz.func51, Tryz.ntmps51
    go_wp2
    · go_ret
      refine ⟨rfl, H.out.pop HN.out (by omega) (fun j y hj => ?_)⟩
      have := (List.getElem?_eq_some_iff.1 hj).1
      rw [HN.out] at this
      omega
    · go_ret
      refine ⟨rfl, H.out.pop HN.out (by omega) (fun j y hj => ?_)⟩
      have := HX.out (j + 1) y (by simpa using hj)
      rw [show o + 1 + j = o + (j + 1) by omega]
      exact this
end Go.Proofs.YtodbohmbdgbheaaGreatDoor
