/- append onto a row of the call's own, the source nil or not. No program in sight. -/
import Derived.Test.YtgekgokkbakcmaaC6
import Derived.Test.YtgekgokkbakcmaaZ0
import Derived.Laws.OwnMore
namespace Go.Proofs.Ytgekgokkbakcmaa
open Go.RowKit
set_option linter.unusedVariables false
section
variable {P : Program} (w : World)
theorem run_append_nil' (base : Nat) (t ty e : TypeId) (i : TypeInfo) (size : Nat) (ht : P.underlying t = some (.slice e)) (hi : P.info? e = some i)
    (v : Value) (n c : Nat) (xs : List Value) (hown : w.ownsRow base e size v n xs) : (Builtin.append_ #[t, t] ty #[v, .slice none 0 c]).run P w = .ok v w := by
  rcases hown.2 with ⟨rfl, rfl⟩ | ⟨g, cap, cur, rfl, _, _, hnc, _⟩
  · simp [Builtin.append_, run_underlying ht, sizeOf, typeInfo, hi, Builtin.lenOf, Builtin.firstCells]
  · simp [Builtin.append_, run_underlying ht, sizeOf, typeInfo, hi, Builtin.lenOf, Builtin.firstCells, hnc, storeCells]
/-- append(s, x...) onto a row of the call's own, x whatever can be read, nil too. -/
theorem wp_append_any {o : Oper} {a : Act} {K : Act → World → Prop} {Q : Exit → Act → World → Prop} (s x : Operand) (t : TypeId)
    (ho : o.op = .call { callee := .builtin .append, args := #[s, x], argTypes := #[t, t] })
    (base : Nat) (e : TypeId) (i : TypeInfo) (z : Value) (size bytes : Nat) (ht : P.underlying t = some (.slice e)) (hi : P.info? e = some i) (hz : i.zero = some z)
    (hsize : i.size = size) (hby : i.bytes = bytes) (hzs : z.cells.size = size) (hsz : 0 < size)
    (v : Value) (n : Nat) (xs : List Value) (hs : a.eval s = v) (hown : w.ownsRow base e size v n xs)
    (ad : Option Addr) (m c : Nat) (news : List Value) (hx : a.eval x = .slice ad m c) (hra : RdA w ad size m news) (h1 : ∀ u ∈ news, u.oneCell' = true)
    (h63 : n + m ≤ maxLen) (hbytes : (n + m) * bytes ≤ 140737488355328) (hbase : base ≤ w.heap.size)
    (h : ∀ v' w', w'.ownsRow base e size v' (n + m) (xs ++ news) → w.grownBy w' v.ownBlock → K (a.put o.dst v') w') : o.wp P a w K Q := by
  cases ad with
  | some ad => exact wp_append_own w s x t ho base e i z size bytes ht hi hz hsize hby hzs hsz v n xs hs hown ad m c news hx hra.1 (rd_news hra (Grew.refl w)) h1 h63 hbytes hbase (fun v' w' h2 h3 _ => h v' w' h2 h3)
  | none =>
    have h0 : m = 0 := by rcases Nat.eq_zero_or_pos m with h | h; exact h; obtain ⟨b, o, h2, _⟩ := hra.2 h; cases h2
    subst h0
    have hn : news = [] := List.length_eq_zero_iff.1 (by simpa using hra.1)
    subst hn
    have hr := run_append_nil' (P := P) w base t o.type e i size ht hi v n c xs hown
    unfold Oper.wp execOp
    simp only [ho, resolve, invoke, builtin, Sem.run_bind, Sem.run_pure, Result.andThen_ok, List.map_toArray, List.map_cons, List.map_nil, hs, hx, hr]
    exact h v w (by simpa using hown) ⟨rfl, rfl, rfl, Nat.le_refl _, fun _ _ _ => rfl⟩
theorem wpList_append_any {ops : Array Oper} {rest : List Oper} {o : Oper} {a : Act} {Q : Exit → Act → World → Prop} (hgd : o.guard = none) (s x : Operand) (t : TypeId)
    (ho : o.op = .call { callee := .builtin .append, args := #[s, x], argTypes := #[t, t] })
    (base : Nat) (e : TypeId) (i : TypeInfo) (z : Value) (size bytes : Nat) (ht : P.underlying t = some (.slice e)) (hi : P.info? e = some i) (hz : i.zero = some z)
    (hsize : i.size = size) (hby : i.bytes = bytes) (hzs : z.cells.size = size) (hsz : 0 < size)
    (v : Value) (n : Nat) (xs : List Value) (hs : a.eval s = v) (hown : w.ownsRow base e size v n xs)
    (ad : Option Addr) (m c : Nat) (news : List Value) (hx : a.eval x = .slice ad m c) (hra : RdA w ad size m news) (h1 : ∀ u ∈ news, u.oneCell' = true)
    (h63 : n + m ≤ maxLen) (hbytes : (n + m) * bytes ≤ 140737488355328) (hbase : base ≤ w.heap.size)
    (h : ∀ v' w', w'.ownsRow base e size v' (n + m) (xs ++ news) → w.grownBy w' v.ownBlock → wpList P ops Q rest (a.put o.dst v') w') : wpList P ops Q (o :: rest) a w :=
  wpList_plain hgd fun _ hK => wp_append_any w s x t ho base e i z size bytes ht hi hz hsize hby hzs hsz v n xs hs hown ad m c news hx hra h1 h63 hbytes hbase fun v' w' h2 h3 => hK _ _ (h v' w' h2 h3)
end
/-- A block holds cells of a type. -/
def TyAt (w : World) (b : Nat) (e : TypeId) : Prop := ∃ cs fr, w.heap[b]? = some (.cells cs e fr)
theorem TyAt.lt {w : World} {b : Nat} {e : TypeId} (h : TyAt w b e) : b < w.heap.size := by
  obtain ⟨cs, fr, h⟩ := h
  exact (Array.getElem?_eq_some_iff.1 h).1
theorem TyAt.new (w : World) (cs : Array Value) (e : TypeId) : TyAt (w.alloc (.cells cs e)) w.heap.size e := ⟨cs, (0, 0), heap_alloc_new w _⟩
theorem TyAt.tch {w w' : World} {b lo hi : Nat} {e : TypeId} (h : TyAt w b e) (ht : Touch lo hi w w') (hb : b < lo ∨ hi ≤ b) : TyAt w' b e := by
  have hl := h.lt
  obtain ⟨cs, fr, h⟩ := h
  exact ⟨cs, fr, (ht.block b hl hb).trans h⟩
theorem TyAt.grew {w w' : World} {b : Nat} {e : TypeId} (h : TyAt w b e) (hg : Grew w w') : TyAt w' b e := h.tch (hg.touch 0 0) (.inr (Nat.zero_le _))
theorem TyAt.d {w w' : World} {b g : Nat} {e : TypeId} (h : TyAt w b e) (hd : D g w w') (hb : b ≠ g) : TyAt w' b e := h.tch hd.2.1 (by omega)
theorem TyAt.set {w : World} {b : Nat} {e : TypeId} (h : TyAt w b e) (p : Addr) (u : Value) : TyAt (w.setCell p u) b e := by
  obtain ⟨cs, fr, h⟩ := h
  by_cases hp : b = p.block
  · subst hp
    exact ⟨if p.spot.isSome = true then cs else cs.setIfInBounds p.off u, fr, by simp [World.setCell, Array.getElem?_modify, h]⟩
  · exact ⟨cs, fr, (Below.heap_setCell _ _ _ _ hp).trans h⟩
theorem own_nety {w : World} {base : Nat} {e e' : TypeId} {k n b : Nat} {v : Value} {cs : List Value} (h : w.ownsRow base e k v n cs) (ht : TyAt w b e') (hne : e ≠ e') : ∀ c, v.ownBlock = some c → c ≠ b := by
  intro c hc hcb
  subst hcb
  obtain ⟨cs', fr, ht⟩ := ht
  rcases h.2 with ⟨rfl, _⟩ | ⟨g, cap, cur, rfl, _, hg, _⟩
  · simp [Value.ownBlock] at hc
  · simp [Value.ownBlock] at hc
    subst hc
    rw [hg] at ht
    simp at ht
    exact hne ht.2.1
theorem TyAt.grownOwn {w w' : World} {base : Nat} {e e' : TypeId} {k n b : Nat} {v : Value} {cs : List Value} (ht : TyAt w b e') (h : w.ownsRow base e k v n cs) (hg : w.grownBy w' v.ownBlock) (hne : e ≠ e') : TyAt w' b e' := by
  have h1 := own_nety h ht hne
  have hl := ht.lt
  obtain ⟨cs', fr, ht⟩ := ht
  exact ⟨cs', fr, (hg.block b hl (fun hb => h1 b hb.symm rfl)).trans ht⟩
theorem own_set {w : World} {base : Nat} {e e' : TypeId} {k n : Nat} {v : Value} {cs : List Value} {p : Addr} (h : w.ownsRow base e k v n cs) (ht : TyAt w p.block e') (hne : e ≠ e') (u : Value) : (w.setCell p u).ownsRow base e k v n cs := by
  have h1 := own_nety h ht hne
  refine h.kept (row := some p.block) ⟨rfl, rfl, rfl, by simp, fun k _ hk => Below.heap_setCell _ _ _ _ (fun e => hk (by rw [e]))⟩ ?_
  cases hb : v.ownBlock with
  | none => exact .inl rfl
  | some b => exact .inr (fun e => h1 b hb (Option.some.inj e))
end Go.Proofs.Ytgekgokkbakcmaa
