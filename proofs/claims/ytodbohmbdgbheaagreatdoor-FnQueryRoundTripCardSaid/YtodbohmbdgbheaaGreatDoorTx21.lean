/- The program's reader: its ways apart, bounds; a node is put at the end of its row. -/
import Derived.Test.YtodbohmbdgbheaaGreatDoorTx19
import Derived.Test.YtodbohmbdgbheaaGreatDoorTx18
namespace Go.Proofs.YtodbohmbdgbheaaGreatDoor
open Go.RowKit
set_option linter.unusedVariables false
theorem rdI_0 {d : Nat} {ws : List By} {ns : List N} (ho : opOf (hdB ws) = 0) : rdI (d + 1) ws ns = (false, ws.tail, ns ++ [nd 0 0 0 ⟨#[]⟩ V.z]) := by
  unfold rdI; dsimp only; rw [ho, if_neg (by omega), if_neg (by omega), if_neg (by omega), if_neg (by omega)]; simp
theorem rdI_1 {d : Nat} {ws : List By} {ns : List N} (ho : opOf (hdB ws) = 1) : rdI (d + 1) ws ns = (true, ws.tail, ns ++ [nd 1 0 0 ⟨#[]⟩ V.z]) := by
  unfold rdI; dsimp only; rw [ho, if_neg (by omega), if_neg (by omega), if_neg (by omega), if_neg (by omega)]; simp
theorem rdI_2 {d : Nat} {ws : List By} {ns : List N} {op : Nat} (ho : opOf (hdB ws) = op) (h : op = 2 ∨ op = 8 ∨ op = 9) : rdI (d + 1) ws ns = (true, ws.tail.tail, ns ++ [nd op 0 0 (hdB ws.tail) V.z]) := by
  unfold rdI; dsimp only; rw [ho, if_pos h]
theorem rdI_3 {d : Nat} {ws : List By} {ns : List N} {op : Nat} (ho : opOf (hdB ws) = op) (h : op = 3 ∨ op = 4) : rdI (d + 1) ws ns = (pvB (hdB ws.tail.tail), ws.tail.tail.tail, ns ++ [nd op 0 0 (hdB ws.tail) (pvR (hdB ws.tail.tail))]) := by
  unfold rdI; dsimp only; rw [ho, if_neg (by omega), if_pos h]
theorem rdI_5 {d : Nat} {ws : List By} {ns : List N} (ho : opOf (hdB ws) = 5) {A : Bool × List By × List N} (hA : rdI d ws.tail ns = A) : rdI (d + 1) ws ns = (A.1, A.2.1, A.2.2 ++ [nd 5 ((A.2.2.length : Int) - 1) 0 ⟨#[]⟩ V.z]) := by
  subst hA
  conv => lhs; unfold rdI
  dsimp only; rw [ho, if_neg (by omega), if_neg (by omega), if_pos rfl]
theorem rdI_no {d : Nat} {ws : List By} {ns : List N} {op : Nat} (ho : opOf (hdB ws) = op) (h : op = 6 ∨ op = 7) {aw : List By} {an : List N} (hA : rdI d ws.tail ns = (false, aw, an)) : rdI (d + 1) ws ns = (false, aw, an ++ [nd op ((an.length : Int) - 1) ((an.length : Int) - 1) ⟨#[]⟩ V.z]) := by
  conv => lhs; unfold rdI
  dsimp only; rw [hA, ho, if_neg (by omega), if_neg (by omega), if_neg (by omega), if_pos h, if_neg (by simp)]
theorem rdI_yes {d : Nat} {ws : List By} {ns : List N} {op : Nat} (ho : opOf (hdB ws) = op) (h : op = 6 ∨ op = 7) {aw : List By} {an : List N} (hA : rdI d ws.tail ns = (true, aw, an)) {bb : Bool} {bw : List By} {bn : List N} (hB : rdI d aw an = (bb, bw, bn)) :
    rdI (d + 1) ws ns = (bb, bw, bn ++ [nd op ((an.length : Int) - 1) ((bn.length : Int) - 1) ⟨#[]⟩ V.z]) := by
  conv => lhs; unfold rdI
  dsimp only; rw [hA]; dsimp only; rw [hB, ho, if_neg (by omega), if_neg (by omega), if_neg (by omega), if_pos h, if_pos rfl]
/-- What is left, and how many were read. -/
theorem rdI_b : ∀ (d : Nat) (ws : List By) (ns : List N), (∀ x, x ∈ (rdI d ws ns).2.1 → x ∈ ws) ∧ (rdI d ws ns).2.1.length ≤ ws.length ∧ (rdI d ws ns).2.2.length + (rdI d ws ns).2.1.length ≤ ns.length + ws.length + 1 ∧ ((rdI d ws ns).1 = true → (rdI d ws ns).2.2.length + (rdI d ws ns).2.1.length ≤ ns.length + ws.length)
  | 0, ws, ns => by simp [rdI]
  | d + 1, ws, ns => by
    have hA := rdI_b d ws.tail ns
    have htl : ws.tail.length = ws.length - 1 := List.length_tail
    have htl2 : ws.tail.tail.length = ws.length - 2 := by rw [List.length_tail, htl]; omega
    have htl3 : ws.tail.tail.tail.length = ws.length - 3 := by rw [List.length_tail, htl2]; omega
    have hm : ∀ x, x ∈ ws.tail → x ∈ ws := fun x hx => List.mem_of_mem_tail hx
    have hm2 : ∀ x, x ∈ ws.tail.tail → x ∈ ws := fun x hx => hm x (List.mem_of_mem_tail hx)
    have hm3 : ∀ x, x ∈ ws.tail.tail.tail → x ∈ ws := fun x hx => hm2 x (List.mem_of_mem_tail hx)
    have hnz : opOf (hdB ws) ≠ 0 → 1 ≤ ws.length := fun h => by
      cases ws with
      | nil => exact absurd opOf_nil h
      | cons _ _ => simp
    have hle := opOf_le (hdB ws)
    obtain ⟨q, hq⟩ : ∃ q, opOf (hdB ws) = q := ⟨_, rfl⟩
    rw [hq] at hnz hle
    obtain ⟨⟨ab, aw, an⟩, ha⟩ : ∃ y, rdI d ws.tail ns = y := ⟨_, rfl⟩
    rw [ha] at hA
    dsimp only at hA
    obtain ⟨a1, a2, a3, a4⟩ := hA
    have hqc : q = 0 ∨ q = 1 ∨ (q = 2 ∨ q = 8 ∨ q = 9) ∨ (q = 3 ∨ q = 4) ∨ q = 5 ∨ (q = 6 ∨ q = 7) := by omega
    rcases hqc with rfl | rfl | h | h | rfl | h
    · rw [rdI_0 hq]; refine ⟨hm, ?_, ?_, ?_⟩ <;> simp <;> omega
    · have := hnz (by decide)
      rw [rdI_1 hq]; refine ⟨hm, ?_, ?_, ?_⟩ <;> simp <;> omega
    · have := hnz (by omega)
      rw [rdI_2 hq h]; dsimp only; rw [htl2]; refine ⟨hm2, ?_, ?_, ?_⟩ <;> simp <;> omega
    · have := hnz (by omega)
      rw [rdI_3 hq h]; dsimp only; rw [htl3]; refine ⟨hm3, ?_, ?_, fun _ => ?_⟩ <;> simp <;> omega
    · have := hnz (by decide)
      rw [rdI_5 hq ha]; dsimp only; refine ⟨fun x hx => hm x (a1 x hx), by omega, ?_, fun h => ?_⟩
      · simp; omega
      · have := a4 h; simp; omega
    · have h1 := hnz (by omega)
      cases ab with
      | false => rw [rdI_no hq h ha]; dsimp only; refine ⟨fun x hx => hm x (a1 x hx), by omega, ?_, fun h => by cases h⟩; simp; omega
      | true =>
        have h4 := a4 rfl
        have hB := rdI_b d aw an
        obtain ⟨⟨bb, bw, bn⟩, hb⟩ : ∃ y, rdI d aw an = y := ⟨_, rfl⟩
        rw [hb] at hB
        dsimp only at hB
        obtain ⟨b1, b2, b3, b4⟩ := hB
        rw [rdI_yes hq h ha hb]; dsimp only; refine ⟨fun x hx => hm x (a1 x (b1 x hx)), by omega, ?_, fun h => ?_⟩
        · simp; omega
        · have := b4 h; simp; omega
theorem wp_append_own_at {P : Program} (w : World) {o : Oper} {a : Act} {K : Act → World → Prop} {Q : Exit → Act → World → Prop} (s x : Operand) (t : TypeId)
    (ho : o.op = .call { callee := .builtin .append, args := #[s, x], argTypes := #[t, t] })
    (base : Nat) (e : TypeId) (i : TypeInfo) (z : Value) (size bytes : Nat) (ht : P.underlying t = some (.slice e)) (hi : P.info? e = some i) (hz : i.zero = some z)
    (hsize : i.size = size) (hby : i.bytes = bytes) (hzs : z.cells.size = size) (hsz : 0 < size)
    (v : Value) (n : Nat) (xs : List Value) (hs : a.eval s = v) (hown : w.ownsRow base e size v n xs)
    (ad : Addr) (m c : Nat) (news : List Value) (hx : a.eval x = .slice (some ad) m c) (hl : news.length = m * size) (hnews : ∀ j u, news[j]? = some u → w.cell? (ad.add j) = some u) (h1 : ∀ u ∈ news, u.oneCell' = true)
    (h63 : n + m ≤ maxLen) (hbytes : (n + m) * bytes ≤ 140737488355328) (hbase : base ≤ w.heap.size)
    (h : ∀ v' w', w'.ownsRow base e size v' (n + m) (xs ++ news) → w.grownBy w' v.ownBlock → (v'.ownBlock = v.ownBlock ∨ v'.ownBlock = some w.heap.size) → K (a.put o.dst v') w') : o.wp P a w K Q := by
  obtain ⟨v', w', hr, h2, h3, h4, h5⟩ := run_append_own_at (P := P) w base t o.type e i z size bytes ht hi hz hsize hby hzs hsz v n xs hown ad m c news hl hnews h1 h63 hbytes hbase
  unfold Oper.wp execOp
  simp only [ho, resolve, invoke, builtin, Sem.run_bind, Sem.run_pure, Result.andThen_ok, List.map_toArray, List.map_cons, List.map_nil, hs, hx, hr]
  exact h v' w' h2 h3 h5
theorem Ext.setx {g o : Nat} {a w : World} {u v y : Value} (h : Ext (some g) a w u v) : Ext (some g) a (w.setCell ⟨g, o, none⟩ y) u v := by
  refine ⟨(rfl).trans h.os, (rfl).trans h.tape, (rfl).trans h.output, by rw [World.size_setCell]; exact h.size, fun j hj hx hu => ?_, h.blk⟩
  rw [sc_other _ (fun e => hx (by rw [e])), h.kept j hj hx hu]
theorem RI.ne {w : World} {g F base : Nat} {ws : List By} {v : Value} {ns : List N} (h : RI w g F base ws v ns) {k : Nat} (hk : k < base) : some k ≠ v.ownBlock := fun e => by have := (h.ge k e.symm).1; omega
theorem RI.push {W W2 w9 : World} {g F base : Nat} {ws : List By} {v v9 : Value} {ns : List N} (x : N) (h : RI W g F base ws v ns) (hG : Grew W W2) (o9 : w9.ownsRow base 38 7 v9 (ns.length + 1) (rows N.c ns ++ x.c)) (hgr : W2.grownBy w9 v.ownBlock) (hat : v9.ownBlock = v.ownBlock ∨ v9.ownBlock = some W2.heap.size) :
    RI (w9.setCell ⟨g, 1, none⟩ v9) g F base ws v9 (ns ++ [x]) ∧ Ext (some g) W (w9.setCell ⟨g, 1, none⟩ v9) v v9 := by
  have E1 : Ext (some g) W w9 v v9 := ((Ext.refl (some g) W v).grew hG).app hgr hat
  have E0 : Ext none W w9 v v9 := ((Ext.refl none W v).grew hG).app hgr hat
  have hg := h.lg
  have hF := h.lf
  have hng := h.ne hg
  have hnF := h.ne (show F < base by omega)
  have hn0 : ∀ k, some k ≠ (none : Option Nat) := fun k e => by cases e
  refine ⟨?_, E1.setx⟩
  obtain ⟨fv, h1, h2⟩ := h.f
  have c0 := E0.cell h1 (hn0 _) hng
  have c1 := E0.cell h.n (hn0 _) hng
  have z0 := E0.frozen h1 (hn0 _) hng h.z0
  have z1 := E0.frozen h.n (hn0 _) hng h.z1
  obtain ⟨o', c, e2, hc, hf, hx⟩ := h2.ext E0 (hn0 _) hnF
  refine ⟨⟨fv, by simp [go_sem, c0], o', c, e2, hc, by rw [World.size_setCell]; exact hf, fun j y hj => ?_⟩, by simp [go_sem, c1], by simp [go_sem, z0], by simp [go_sem, z1], ?_, h.lf, h.lg, by rw [World.size_setCell]; exact Nat.le_trans h.lb E1.size⟩
  · have h3 := hx j y hj
    simp only [World.cell?] at h3 ⊢
    rw [sc_other w9 (show F ≠ g by omega)]
    exact h3
  · refine own_other ?_ (fun e => by have := (o9.lt g e).1; omega)
    rw [List.length_append, rows_append]
    have h3 : rows N.c [x] = x.c := by simp [rows]
    rw [h3]
    exact o9
end Go.Proofs.YtodbohmbdgbheaaGreatDoor
