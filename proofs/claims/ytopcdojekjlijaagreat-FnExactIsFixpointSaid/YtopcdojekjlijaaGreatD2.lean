/- Contracts of DiffIDs. -/
import Derived.Test.YtopcdojekjlijaaGreatD1
import Derived.ArgAppend
namespace Go.Proofs.YtopcdojekjlijaaGreat
open Go.RowKit
set_option linter.unusedVariables false
/-- A growing row: a literal without cells at a known block, or a row of blocks from base on. -/
def Sep (w : World) (base : Nat) (e : TypeId) (k lit : Nat) (v : Value) (n : Nat) (cs : List Value) : Prop :=
  (v = .slice (some ⟨lit, 0, none⟩) 0 0 ∧ n = 0 ∧ cs = []) ∨ w.ownsRow base e k v n cs
theorem Sep.lit {w : World} {base : Nat} {e : TypeId} {k lit : Nat} : Sep w base e k lit (.slice (some ⟨lit, 0, none⟩) 0 0) 0 [] := .inl ⟨rfl, rfl, rfl⟩
theorem Sep.alloc {w : World} {base : Nat} {e : TypeId} {k lit : Nat} {v : Value} {n : Nat} {cs : List Value} (h : Sep w base e k lit v n cs) (o : Obj) : Sep (w.alloc o) base e k lit v n cs := h.imp id fun h => h.alloc o
theorem Sep.grew {w w' : World} {base : Nat} {e : TypeId} {k lit : Nat} {v : Value} {n : Nat} {cs : List Value} (h : Sep w base e k lit v n cs) (hg : Grew w w') : Sep w' base e k lit v n cs := h.imp id fun h => ownsRow_grew h hg
theorem Sep.rd {w : World} {base : Nat} {e : TypeId} {k lit : Nat} {v : Value} {n : Nat} {cs : List Value} (h : Sep w base e k lit v n cs) : Rd w v k n cs := by
  rcases h with ⟨rfl, rfl, rfl⟩ | h
  · exact ⟨_, 0, rfl, Nat.le_refl _, by simp, fun h => absurd h (Nat.lt_irrefl _)⟩
  · exact rd_of_own h
theorem wpList_append_sep {P : Program} (w : World) {ops : Array Oper} {rest : List Oper} {o : Oper} {a : Act} {Q : Exit → Act → World → Prop} (hgd : o.guard = none) (s x : Operand) (t : TypeId)
    (ho : o.op = .call { callee := .builtin .append, args := #[s, x], argTypes := #[t, t] })
    (base : Nat) (e : TypeId) (i : TypeInfo) (z : Value) (size bytes : Nat) (ht : P.underlying t = some (.slice e)) (hi : P.info? e = some i) (hz : i.zero = some z)
    (hsize : i.size = size) (hby : i.bytes = bytes) (hzs : z.cells.size = size) (hsz : 0 < size) (lit : Nat)
    (v : Value) (n : Nat) (xs : List Value) (hs : a.eval s = v) (hsep : Sep w base e size lit v n xs)
    (ad : Addr) (m c : Nat) (news : List Value) (hx : a.eval x = .slice (some ad) m c) (hm : 0 < m) (hl : news.length = m * size) (hnews : ∀ j u, news[j]? = some u → w.cell? (ad.add j) = some u) (h1 : ∀ u ∈ news, u.oneCell' = true)
    (h63 : n + m ≤ maxLen) (hbytes : (n + m) * bytes ≤ 140737488355328) (hbase : base ≤ w.heap.size)
    (h : ∀ v' w', w'.ownsRow base e size v' (n + m) (xs ++ news) → (∃ row, w.grownBy w' row ∧ ∀ k, row = some k → base ≤ k) → wpList P ops Q rest (a.put o.dst v') w') : wpList P ops Q (o :: rest) a w := by
  rcases hsep with ⟨rfl, rfl, rfl⟩ | hown
  · refine wpList_append_grows w hgd s x t ho e i z size bytes ht hi hz hsize hby hzs hsz (some ⟨lit, 0, none⟩) 0 0 [] hs (by simp) (by simp) (by simp) ad m c news hx hl hnews h1 (by omega) h63 hbytes ?_
    intro v' w' r1 r2
    exact h v' w' (ownsRow_base r1 hbase) ⟨none, r2, fun k hk => by cases hk⟩
  · refine wpList_append_own w hgd s x t ho base e i z size bytes ht hi hz hsize hby hzs hsz v n xs hs hown ad m c news hx hl hnews h1 h63 hbytes hbase ?_
    intro v' w' r1 r2 _
    exact h v' w' r1 ⟨_, r2, fun k hk => (hown.lt k hk).1⟩
theorem own_kept {w w' : World} {b0 : Nat} {e : TypeId} {k n : Nat} {v : Value} {cs : List Value} {base : Nat} (h : w.ownsRow b0 e k v n cs) (hv : ∀ g, v.ownBlock = some g → g < base) (hg : ∃ row, w.grownBy w' row ∧ ∀ k, row = some k → base ≤ k) : w'.ownsRow b0 e k v n cs := by
  obtain ⟨row, h1, h2⟩ := hg
  refine h.kept h1 ?_
  cases hb : v.ownBlock with
  | none => exact .inl rfl
  | some g => exact .inr (fun h3 => by have := hv g hb; have := h2 g h3.symm; omega)
theorem Grew.sep {a w w' : World} {base : Nat} (h : Grew a w) (hg : ∃ row, w.grownBy w' row ∧ ∀ k, row = some k → base ≤ k) (hb : a.heap.size ≤ base) : Grew a w' := by
  obtain ⟨row, h1, h2⟩ := hg
  exact h.grown h1 fun k hk => Nat.le_trans hb (h2 k hk)
theorem Sep.base {w : World} {base b0 : Nat} {e : TypeId} {k lit : Nat} {v : Value} {n : Nat} {cs : List Value} (h : Sep w base e k lit v n cs) (hb : b0 ≤ base) (hl : w.ownsRow b0 e k (.slice (some ⟨lit, 0, none⟩) 0 0) 0 []) : w.ownsRow b0 e k v n cs := by
  rcases h with ⟨rfl, rfl, rfl⟩ | h
  · exact hl
  · exact ownsRow_base h hb
theorem Rd.len1 {α : Type} {f : α → Value} {w : World} {v : Value} {n : Nat} {xs : List α} (h : Rd w v 1 n (xs.map f)) : xs.length = n := by
  obtain ⟨a, c, _, _, h⟩ := h; exact h.len_map
theorem Sep.blk {w : World} {base : Nat} {e : TypeId} {k lit : Nat} {v : Value} {n : Nat} {cs : List Value} (h : Sep w base e k lit v n cs) {b : Nat} (hb : v.ownBlock = some b) : b = lit ∨ base ≤ b := by
  rcases h with ⟨rfl, rfl, rfl⟩ | h
  · simp [Value.ownBlock] at hb; exact .inl hb.symm
  · exact .inr (h.lt b hb).1
theorem wo_le (xs ys : List Int) : (wo xs ys).length ≤ xs.length := List.length_filter_le _ _
theorem wo_take_le (xs ys : List Int) (k : Nat) : (wo (xs.take k) ys).length ≤ k := Nat.le_trans (wo_le _ _) (by rw [List.length_take]; omega)
end Go.Proofs.YtopcdojekjlijaaGreat
