/- Plain laws on own rows of k cells an element: what copy, clear, append-of-make and the append of a row's own tail leave. No program in sight. -/
import Derived.Test.YtgekgokkbakcmaaP
import Derived.Lib.AppendZerosOnto
import Derived.Lib.SliceRun
import Derived.Lib.Overlaps
import Derived.Deep.DeepAppendRoom
namespace Go.Proofs.Ytgekgokkbakcmaa
open Go.RowKit
set_option linter.unusedVariables false
/-- A row that is known whole. -/
structure Row (w : World) (g : Nat) (e : TypeId) (k cap : Nat) (L : List Value) : Prop where
  heap : w.heap[g]? = some (.cells L.toArray e (0, 0))
  len : L.length = cap * k
  max : cap ≤ maxLen
theorem Row.own {w : World} {g : Nat} {e : TypeId} {k cap : Nat} {L : List Value} (h : Row w g e k cap L) {base n : Nat} {xs : List Value} (hb : base ≤ g) (hn : n ≤ cap) (hx : L.take (n * k) = xs) : w.ownsRow base e k (.slice (some ⟨g, 0, none⟩) n cap) n xs := by
  refine ⟨?_, .inr ⟨g, cap, L.toArray, rfl, hb, h.heap, hn, h.max, by simp [h.len], by simpa using hx⟩⟩
  rw [← hx, List.length_take, h.len]
  exact Nat.min_eq_left (Nat.mul_le_mul_right k hn)
theorem row_of {w : World} {base : Nat} {e : TypeId} {k g n cap : Nat} {xs : List Value} (h : w.ownsRow base e k (.slice (some ⟨g, 0, none⟩) n cap) n xs) : ∃ L, Row w g e k cap L ∧ L.take (n * k) = xs ∧ n ≤ cap ∧ base ≤ g := by
  obtain ⟨hl, ⟨h1, _⟩ | ⟨g', cap', cur, h1, h2, h3, h4, h5, h6, h7⟩⟩ := h
  · cases h1
  · cases h1
    exact ⟨cur.toList, ⟨by simpa using h3, by simpa using h6, h5⟩, h7, h4, h2⟩
theorem Row.cell {w : World} {g : Nat} {e : TypeId} {k cap : Nat} {L : List Value} (h : Row w g e k cap L) (j : Nat) : w.cell? ⟨g, j, none⟩ = L[j]? := by
  simp [World.cell?, h.heap]
theorem Row.grown {w w' : World} {g : Nat} {e : TypeId} {k cap : Nat} {L : List Value} {row : Option Nat} (h : Row w g e k cap L) (hg : w.grownBy w' row) (hne : row ≠ some g) : Row w' g e k cap L :=
  ⟨by rw [hg.block g (Array.getElem?_eq_some_iff.1 h.heap).1 (fun e => hne e.symm)]; exact h.heap, h.len, h.max⟩
theorem Row.drew {w : World} {g : Nat} {e : TypeId} {k cap : Nat} {L : List Value} (h : Row w g e k cap L) : Row w.drew g e k cap L := ⟨h.heap, h.len, h.max⟩
theorem Row.lt {w : World} {g : Nat} {e : TypeId} {k cap : Nat} {L : List Value} (h : Row w g e k cap L) : g < w.heap.size := (Array.getElem?_eq_some_iff.1 h.heap).1
/-- Some cells laid over others. -/
def over (L : List Value) (o : Nat) (cs : List Value) : List Value := L.take o ++ cs ++ L.drop (o + cs.length)
theorem over_len {L : List Value} {o : Nat} {cs : List Value} (h : o + cs.length ≤ L.length) : (over L o cs).length = L.length := by
  unfold over; simp only [List.length_append, List.length_take, List.length_drop]; omega
theorem Row.set {w : World} {g : Nat} {e : TypeId} {k cap : Nat} {L : List Value} (h : Row w g e k cap L) (o : Nat) (cs : List Value) (hf : o + cs.length ≤ L.length) : Row (w.setRow g (over L o cs).toArray) g e k cap (over L o cs) :=
  ⟨setRow_heap w g _ _ e _ h.heap, by rw [over_len hf]; exact h.len, h.max⟩
theorem grown_setRow (w : World) (g : Nat) (cs : Array Value) : w.grownBy (w.setRow g cs) (some g) :=
  ⟨rfl, rfl, rfl, by simp [World.setRow], fun k _ hk => setRow_other w g k cs (fun e => hk (by rw [e]))⟩
theorem grown_trans {a b c : World} {row : Option Nat} (h : a.grownBy b row) (k : b.grownBy c row) : a.grownBy c row :=
  ⟨k.os.trans h.os, k.tape.trans h.tape, k.output.trans h.output, Nat.le_trans h.size k.size, fun i hi hne => (k.block i (Nat.lt_of_lt_of_le hi h.size) hne).trans (h.block i hi hne)⟩
theorem grown_drew (w : World) (row : Option Nat) : w.grownBy w.drew row := ⟨rfl, rfl, rfl, Nat.le_refl _, fun _ _ _ => rfl⟩
section
variable {P : Program}
theorem run_copyK {w : World} {g : Nat} {e : TypeId} {k cap : Nat} {L : List Value} (h : Row w g e k cap L) (t elem ty : TypeId) (hu : P.underlying t = some (.slice elem)) (hs : (P.info? elem).map (·.size) = some k)
    (o dLen dCap : Nat) (a : Addr) (sLen sCap m : Nat) (cs : List Value) (hm : Nat.min sLen dLen = m) (hn : cs.length = m * k) (hsrc : ∀ j v, cs[j]? = some v → w.cell? (a.add j) = some v) (hf : o + cs.length ≤ L.length) (h1 : ∀ v ∈ cs, v.oneCell' = true) :
    (Builtin.copy_ #[t, t] ty #[.slice (some ⟨g, o, none⟩) dLen dCap, .slice (some a) sLen sCap]).run P w = .ok (goInt m) (w.setRow g (over L o cs).toArray) := by
  have hl := run_firstCells_some (P := P) w k m a sLen sCap cs hn hsrc
  have hst := run_storeCells_at P g o e cs 0 L.toArray w h.heap (by simpa using hf) h1
  simp only [Nat.add_zero] at hst
  cases hq : P.info? elem with
  | none => simp [hq] at hs
  | some i =>
    have hi : i.size = k := by simpa [hq] using hs
    simp [Builtin.copy_, run_underlying hu, Builtin.lenOf, sizeOf, typeInfo, hq, hi, hm, hl, hst, over]
theorem run_clearK {w : World} {g : Nat} {e : TypeId} {k cap : Nat} {L : List Value} (h : Row w g e k cap L) (t elem ty : TypeId) (z : Value) (hu : P.underlying t = some (.slice elem)) (hv : ∀ w, (zeroValue elem).run P w = .ok z w) (hz : z.cells.size = k) (h1 : ∀ v ∈ z.cells, v.oneCell' = true)
    (o n c : Nat) (hn : 0 < n) (hf : o + n * k ≤ L.length) :
    ∃ cs : List Value, cs.length = n * k ∧ (Builtin.clear_ #[t] ty #[.slice (some ⟨g, o, none⟩) n c]).run P w = .ok (.tuple #[]) (w.setRow g (over L o cs).toArray) := by
  refine ⟨(Builtin.zeroCells z.cells n).toList, by simp [size_zeroCells, hz], ?_⟩
  have hst := run_storeCells_at P g o e (Builtin.zeroCells z.cells n).toList 0 L.toArray w h.heap (by simp [size_zeroCells, hz]; exact hf) (by
    intro v hv'
    simp only [Builtin.zeroCells, Array.toList_map, List.mem_map] at hv'
    obtain ⟨i, hi, rfl⟩ := hv'
    have hi2 : i < n * z.cells.size := by simpa using hi
    have h0 : 0 < z.cells.size := by
      rcases Nat.eq_zero_or_pos z.cells.size with h | h
      · rw [h] at hi2; simp at hi2
      · exact h
    rw [getElem!_pos z.cells _ (Nat.mod_lt _ h0)]
    exact h1 _ (Array.getElem_mem _))
  simp only [Nat.add_zero] at hst
  obtain ⟨m, rfl⟩ : ∃ m, n = m + 1 := ⟨n - 1, by omega⟩
  simp [Builtin.clear_, run_underlying hu, hv, hst, over]
theorem wp_copyK {w : World} {g : Nat} {e : TypeId} {k cap : Nat} {L : List Value} (h : Row w g e k cap L) {op : Oper} {a : Act} {K : Act → World → Prop} {Q : Exit → Act → World → Prop} (d s : Operand) (t elem : TypeId)
    (ho : op.op = .call { callee := .builtin .copy, args := #[d, s], argTypes := #[t, t] }) (hu : P.underlying t = some (.slice elem)) (hs : (P.info? elem).map (·.size) = some k)
    (o dLen dCap : Nat) (ad : Addr) (sLen sCap m : Nat) (hd : a.eval d = .slice (some ⟨g, o, none⟩) dLen dCap) (hx : a.eval s = .slice (some ad) sLen sCap)
    (cs : List Value) (hm : Nat.min sLen dLen = m) (hn : cs.length = m * k) (hsrc : ∀ j v, cs[j]? = some v → w.cell? (ad.add j) = some v) (hf : o + cs.length ≤ L.length) (h1 : ∀ v ∈ cs, v.oneCell' = true)
    (hk : ∀ w', Row w' g e k cap (over L o cs) → w.grownBy w' (some g) → K (a.put op.dst (goInt m)) w') : op.wp P a w K Q := by
  have hr := run_copyK (P := P) h t elem op.type hu hs o dLen dCap ad sLen sCap m cs hm hn hsrc hf h1
  unfold Oper.wp execOp
  simp only [ho, resolve, invoke, builtin, Sem.run_bind, Sem.run_pure, Result.andThen_ok, List.map_toArray, List.map_cons, List.map_nil, hd, hx, hr]
  exact hk _ (h.set o cs hf) (grown_setRow w g _)
theorem wpList_copyK {w : World} {g : Nat} {e : TypeId} {k cap : Nat} {L : List Value} (h : Row w g e k cap L) {ops : Array Oper} {rest : List Oper} {op : Oper} {a : Act} {Q : Exit → Act → World → Prop} (hgd : op.guard = none) (d s : Operand) (t elem : TypeId)
    (ho : op.op = .call { callee := .builtin .copy, args := #[d, s], argTypes := #[t, t] }) (hu : P.underlying t = some (.slice elem)) (hs : (P.info? elem).map (·.size) = some k)
    (o dLen dCap : Nat) (ad : Addr) (sLen sCap m : Nat) (hd : a.eval d = .slice (some ⟨g, o, none⟩) dLen dCap) (hx : a.eval s = .slice (some ad) sLen sCap)
    (cs : List Value) (hm : Nat.min sLen dLen = m) (hn : cs.length = m * k) (hsrc : ∀ j v, cs[j]? = some v → w.cell? (ad.add j) = some v) (hf : o + cs.length ≤ L.length) (h1 : ∀ v ∈ cs, v.oneCell' = true)
    (hk : ∀ w', Row w' g e k cap (over L o cs) → w.grownBy w' (some g) → wpList P ops Q rest (a.put op.dst (goInt m)) w') : wpList P ops Q (op :: rest) a w :=
  wpList_plain hgd fun _ hK => wp_copyK h d s t elem ho hu hs o dLen dCap ad sLen sCap m hd hx cs hm hn hsrc hf h1 fun w' h2 h3 => hK _ _ (hk w' h2 h3)
/-- append(s[:i], make(S, q)...) where there is no room. -/
theorem run_appendZ {w : World} {g : Nat} {e : TypeId} {k cap : Nat} {L : List Value} (h : Row w g e k cap L) (t tn ty elem : TypeId) (inf : TypeInfo) (z : Value) (kq kn : IntKind) (hu : P.underlying t = some (.slice elem)) (htn : P.underlying tn = some (.int kn)) (hi : P.info? elem = some inf) (hz : inf.zero = some z) (hs : inf.size = k) (hzs : z.cells.size = k) (hk0 : 0 < k) (bytes : Nat) (hby : inf.bytes = bytes)
    (i q : Nat) (hic : i ≤ cap) (hq : 0 < q) (hroom : cap < i + q) (hbig : (i + q) * bytes ≤ 140737488355328) (hmx : i + q ≤ maxLen) :
    ∃ w' cap' L', (Builtin.append_ #[t, tn] ty #[.slice (some ⟨g, 0, none⟩) i cap, .int kq q]).run P w = .ok (.slice (some ⟨w.heap.size, 0, none⟩) (i + q) cap') w' ∧
      Row w' w.heap.size elem k cap' L' ∧ i + q ≤ cap' ∧ L'.take (i * k) = L.take (i * k) ∧ w.grownBy w' none := by
  have hl : (L.take (i * k)).length = i * k := by
    rw [List.length_take, h.len]; exact Nat.min_eq_left (Nat.mul_le_mul_right k hic)
  have hold : (Builtin.firstCells inf.size i (.slice (some ⟨g, 0, none⟩) i cap)).run P w.drew = .ok (L.take (i * k)).toArray w.drew := by
    rw [hs]
    refine run_firstCells_some w.drew k i ⟨g, 0, none⟩ i cap (L.take (i * k)) hl (fun j v hj => ?_)
    rw [Addr.add_lit, Nat.zero_add, h.drew.cell]
    rw [List.getElem?_take] at hj
    split at hj
    · exact hj
    · cases hj
  have hmi : (i + q : Nat) ≤ 9223372036854775807 := by unfold maxLen at hmx; omega
  have hb2 : q * inf.bytes ≤ 281474976710656 := by
    rw [hby]
    have : q * bytes ≤ (i + q) * bytes := Nat.mul_le_mul_right _ (by omega)
    omega
  have hr := Lib.run_append_grow_zeros (P := P) w t tn ty elem inf z kq kn hu htn hi hz (some ⟨g, 0, none⟩) i cap (L.take (i * k)) hold q hq (by omega) hroom (by omega) hb2 (by rw [hby]; exact growslice_fits hroom hbig)
  have hge := grownCap_ge w (i + q) cap elem
  have hcm := grownCap_le_maxLen w (i + q) cap elem hmx
  refine ⟨_, _, (L.take (i * k) ++ ((Builtin.zeroCells z.cells q).toList ++ (Builtin.zeroCells z.cells (grownCap w (i + q) cap elem - (i + q))).toList)), hr, ⟨?_, ?_, hcm⟩, hge, ?_, ⟨rfl, rfl, rfl, by simp, fun j hj _ => heap_alloc_old w.drew _ hj⟩⟩
  · have := heap_alloc_new w.drew (.cells ((L.take (i * k)).toArray ++ Builtin.zeroCells z.cells q ++ Builtin.zeroCells z.cells (grownCap w (i + q) cap elem - (i + q))) elem)
    rw [show w.drew.heap.size = w.heap.size from rfl] at this
    rw [this]
    congr 2
    apply Array.ext'
    simp
  · simp only [List.length_append, hl, Array.length_toList, size_zeroCells, hzs, ← Nat.add_mul]
    congr 1; omega
  · rw [List.take_append_of_le_length (by omega), List.take_of_length_le (by omega)]
end
/-- append(literal, x...): what the literal's block was stays as it was. -/
theorem run_append_lit {P : Program} (w : World) (base : Nat) (t ty e : TypeId) (i : TypeInfo) (z : Value) (size bytes : Nat) (ht : P.underlying t = some (.slice e)) (hi : P.info? e = some i) (hz : i.zero = some z)
    (hsize : i.size = size) (hby : i.bytes = bytes) (hzs : z.cells.size = size) (hsz : 0 < size) (g : Nat) (hlit : w.ownsRow base e size (.slice (some ⟨g, 0, none⟩) 0 0) 0 [])
    (ad : Option Addr) (m c : Nat) (news : List Value) (hra : RdA w ad size m news) (h1 : ∀ u ∈ news, u.oneCell' = true) (h63 : m ≤ maxLen) (hbytes : m * bytes ≤ 140737488355328) (hbase : base ≤ w.heap.size) :
    ∃ v' w', (Builtin.append_ #[t, t] ty #[.slice (some ⟨g, 0, none⟩) 0 0, .slice ad m c]).run P w = .ok v' w' ∧ w'.ownsRow base e size v' m news ∧ (∀ b, v'.ownBlock = some b → b = g ∨ w.heap.size ≤ b) ∧ Grew w w' := by
  rcases Nat.eq_zero_or_pos m with h0 | h0
  · subst h0
    have hn : news = [] := List.length_eq_zero_iff.1 (by simpa using hra.1)
    subst hn
    refine ⟨_, w, ?_, hlit, fun b hb => .inl (by simpa [Value.ownBlock] using hb.symm), Grew.refl w⟩
    cases ad with
    | none => simp [Builtin.append_, run_underlying ht, sizeOf, typeInfo, hi, Builtin.lenOf, Builtin.firstCells, storeCells]
    | some a => simp [Builtin.append_, run_underlying ht, sizeOf, typeInfo, hi, Builtin.lenOf, Builtin.firstCells, loadCells, loadCellsFrom, storeCells]
  · obtain ⟨b, o, rfl, hj⟩ := hra.2 h0
    have hnews : ∀ j u, news[j]? = some u → w.cell? ((⟨b, o, none⟩ : Addr).add j) = some u := fun j u hu => by
      rw [Addr.add_lit, hj j (by rw [← hra.1]; exact (List.getElem?_eq_some_iff.1 hu).1), hu]
    obtain ⟨v', w', hr, hown, hg, _⟩ := run_append_own (P := P) w base t ty e i z size bytes ht hi hz hsize hby hzs hsz _ 0 [] hlit ⟨b, o, none⟩ m c news hra.1 hnews h1 (by omega) (by simpa using hbytes) hbase
    have hr2 := run_append_grow (P := P) w t ty e i z ht hi hz ⟨g, 0, none⟩ 0 0 [] (by simp) (by simp) ⟨b, o, none⟩ m c news (by rw [hra.1, hsize]) hnews (by omega) (by unfold maxLen at h63; omega) (growslice_fits (by omega) (by rw [hby]; simpa using hbytes))
    rw [hr] at hr2
    injection hr2 with e1 e2
    subst e1; subst e2
    refine ⟨_, _, hr, by simpa using hown, fun b hb => .inr (by simp [Value.ownBlock] at hb; omega), ((Grew.refl w).drew).alloc _⟩
theorem wp_append_lit {P : Program} (w : World) {o : Oper} {a : Act} {K : Act → World → Prop} {Q : Exit → Act → World → Prop} (s x : Operand) (t : TypeId)
    (ho : o.op = .call { callee := .builtin .append, args := #[s, x], argTypes := #[t, t] })
    (base : Nat) (e : TypeId) (i : TypeInfo) (z : Value) (size bytes : Nat) (ht : P.underlying t = some (.slice e)) (hi : P.info? e = some i) (hz : i.zero = some z)
    (hsize : i.size = size) (hby : i.bytes = bytes) (hzs : z.cells.size = size) (hsz : 0 < size)
    (g : Nat) (hs : a.eval s = .slice (some ⟨g, 0, none⟩) 0 0) (hlit : w.ownsRow base e size (.slice (some ⟨g, 0, none⟩) 0 0) 0 [])
    (ad : Option Addr) (m c : Nat) (news : List Value) (hx : a.eval x = .slice ad m c) (hra : RdA w ad size m news) (h1 : ∀ u ∈ news, u.oneCell' = true)
    (h63 : m ≤ maxLen) (hbytes : m * bytes ≤ 140737488355328) (hbase : base ≤ w.heap.size)
    (h : ∀ v' w', w'.ownsRow base e size v' m news → (∀ b, v'.ownBlock = some b → b = g ∨ w.heap.size ≤ b) → Grew w w' → K (a.put o.dst v') w') : o.wp P a w K Q := by
  obtain ⟨v', w', hr, h2, h3, h4⟩ := run_append_lit (P := P) w base t o.type e i z size bytes ht hi hz hsize hby hzs hsz g hlit ad m c news hra h1 h63 hbytes hbase
  unfold Oper.wp execOp
  simp only [ho, resolve, invoke, builtin, Sem.run_bind, Sem.run_pure, Result.andThen_ok, List.map_toArray, List.map_cons, List.map_nil, hs, hx, hr]
  exact h v' w' h2 h3 h4
theorem Dis.perm {us vs : List Value} (h : Dis us) (hp : us.Perm vs) : Dis vs := by
  unfold Dis at *
  exact (hp.filterMap _).nodup_iff.1 h
theorem rows_take {α : Type} {enc : α → List Value} {k : Nat} (hk : ∀ x, (enc x).length = k) (xs : List α) (i : Nat) (hi : i ≤ xs.length) : rows enc (xs.take i) = (rows enc xs).take (i * k) ∧ rows enc (xs.drop i) = (rows enc xs).drop (i * k) := by
  have h1 : rows enc xs = rows enc (xs.take i) ++ rows enc (xs.drop i) := by rw [← rows_append, List.take_append_drop]
  have h2 : (rows enc (xs.take i)).length = i * k := by rw [rows_length hk, List.length_take, Nat.min_eq_left hi]
  rw [h1]
  exact ⟨(List.take_left' h2).symm, (List.drop_left' h2).symm⟩
theorem All2.app {α β : Type} {R : α → β → Prop} {xs ys : List α} {ps qs : List β} (h1 : All2 R xs ps) (h2 : All2 R ys qs) : All2 R (xs ++ ys) (ps ++ qs) := by
  refine ⟨by simp [h1.1, h2.1], fun i x p hx hp => ?_⟩
  have hl := h1.1
  rcases Nat.lt_or_ge i xs.length with hi | hi
  · rw [List.getElem?_append_left hi] at hx
    rw [List.getElem?_append_left (by omega)] at hp
    exact h1.2 i x p hx hp
  · rw [List.getElem?_append_right hi] at hx
    rw [List.getElem?_append_right (by omega)] at hp
    exact h2.2 (i - xs.length) x p hx (by rw [hl]; exact hp)
theorem All2.take {α β : Type} {R : α → β → Prop} {xs : List α} {ps : List β} (h : All2 R xs ps) (i : Nat) : All2 R (xs.take i) (ps.take i) := by
  refine ⟨by simp [h.1], fun j x p hx hp => ?_⟩
  rw [List.getElem?_take] at hx hp
  split at hx
  · rename_i hj; rw [if_pos hj] at hp; exact h.2 j x p hx hp
  · cases hx
theorem All2.drop {α β : Type} {R : α → β → Prop} {xs : List α} {ps : List β} (h : All2 R xs ps) (i : Nat) : All2 R (xs.drop i) (ps.drop i) := by
  refine ⟨by simp [h.1], fun j x p hx hp => ?_⟩
  rw [List.getElem?_drop] at hx hp
  exact h.2 (i + j) x p hx hp
theorem All2.ins {α β : Type} {R : α → β → Prop} {xs : List α} {ps : List β} (h : All2 R xs ps) {x : α} {p : β} (hr : R x p) (i : Nat) : All2 R (xs.take i ++ x :: xs.drop i) (ps.take i ++ p :: ps.drop i) := by
  have h1 : All2 R [x] [p] := All2.snoc (All2.nil) hr
  exact (h.take i).app (h1.app (h.drop i))
theorem perm_ins {α : Type} (xs : List α) (x : α) (i : Nat) : (xs ++ [x]).Perm (xs.take i ++ x :: xs.drop i) := by
  have h1 : (xs.take i ++ x :: xs.drop i).Perm (x :: (xs.take i ++ xs.drop i)) := List.perm_middle
  rw [List.take_append_drop] at h1
  exact (List.perm_append_singleton x xs).trans h1.symm
theorem perm_cut {α : Type} (xs : List α) (i : Nat) (x : α) (h : xs[i]? = some x) : xs.Perm (x :: (xs.take i ++ xs.drop (i + 1))) := by
  have h1 : xs = xs.take i ++ x :: xs.drop (i + 1) := by
    obtain ⟨hi, rfl⟩ := List.getElem?_eq_some_iff.1 h
    rw [List.getElem_cons_drop, List.take_append_drop]
  conv => lhs; rw [h1]
  exact List.perm_middle
/-- What Insert leaves: the row's head, the new cells, the row's rest. -/
theorem over_shift {L X Y vs : List Value} (h : L.take (X.length + Y.length) = X ++ Y) (hl : X.length + Y.length + vs.length ≤ L.length) :
    (over (over L (X.length + vs.length) Y) X.length vs).take (X.length + vs.length + Y.length) = X ++ vs ++ Y := by
  have h0 : L.take X.length = X := by
    have := congrArg (List.take X.length) h
    rw [List.take_take, Nat.min_eq_left (by omega)] at this
    rw [this]; simp
  have e1 : (over L (X.length + vs.length) Y).take X.length = X := by
    unfold over
    rw [List.append_assoc, List.take_append_of_le_length (by rw [List.length_take]; omega), List.take_take, Nat.min_eq_left (by omega), h0]
  have e2 : (over L (X.length + vs.length) Y).drop (X.length + vs.length) = Y ++ L.drop (X.length + vs.length + Y.length) := by
    unfold over
    rw [List.append_assoc, List.drop_append_of_le_length (by rw [List.length_take]; omega), List.drop_eq_nil_of_le (by rw [List.length_take]; omega), List.nil_append]
  have e0 : over (over L (X.length + vs.length) Y) X.length vs = (over L (X.length + vs.length) Y).take X.length ++ vs ++ (over L (X.length + vs.length) Y).drop (X.length + vs.length) := rfl
  rw [e0, e1, e2]
  rw [← List.append_assoc, List.take_append_of_le_length (by simp only [List.length_append]; omega)]
  exact List.take_of_length_le (by simp only [List.length_append]; omega)
/-- The same in a new row: first the new cells, then the rest. -/
theorem over_grow {L X Y vs : List Value} (h : L.take X.length = X) (hl : X.length + Y.length + vs.length ≤ L.length) :
    (over (over L X.length vs) (X.length + vs.length) Y).take (X.length + vs.length + Y.length) = X ++ vs ++ Y := by
  have e1 : (over L X.length vs).take (X.length + vs.length) = X ++ vs := by
    unfold over
    rw [h, List.take_append_of_le_length (by simp)]
    exact List.take_of_length_le (by simp)
  have e0 : over (over L X.length vs) (X.length + vs.length) Y = (over L X.length vs).take (X.length + vs.length) ++ Y ++ (over L X.length vs).drop (X.length + vs.length + Y.length) := rfl
  rw [e0, e1]
  rw [List.take_append_of_le_length (by simp only [List.length_append]; omega)]
  exact List.take_of_length_le (by simp only [List.length_append]; omega)
/-- A row cut short. -/
theorem own_cutK {w : World} {base g n cap i k : Nat} {e : TypeId} {cs : List Value} (h : w.ownsRow base e k (.slice (some ⟨g, 0, none⟩) n cap) n cs) (hi : i ≤ n) : w.ownsRow base e k (.slice (some ⟨g, 0, none⟩) i cap) i (cs.take (i * k)) := by
  obtain ⟨L, hR, ht, hn, hb⟩ := row_of h
  refine hR.own hb (by omega) ?_
  rw [← ht, List.take_take, Nat.min_eq_left (Nat.mul_le_mul_right k hi)]
end Go.Proofs.Ytgekgokkbakcmaa
