/- Texts of queries: the text of a valid query is read again. No program in sight. -/
import Derived.Test.YtodbohmbdgbheaaGreatDoorTx3
namespace Go.Proofs.YtodbohmbdgbheaaGreatDoor
open Go.RowKit
set_option linter.unusedVariables false
/-- How many nodes hang on a node, itself counted. -/
noncomputable def tsz (q : List N) : Nat → Nat → Nat
  | 0, _ => 0
  | d + 1, a => match q[a]? with
    | none => 0
    | some x => if x.op = 5 then 1 + tsz q d x.left.toNat else if x.op = 6 ∨ x.op = 7 then 1 + (tsz q d x.left.toNat + tsz q d x.right.toNat) else 1
noncomputable def kids (x : N) : List Nat := if x.op = 5 then [x.left.toNat] else if x.op = 6 ∨ x.op = 7 then [x.left.toNat, x.right.toNat] else []
theorem tsz_kids (q : List N) (d a : Nat) (x : N) (h : q[a]? = some x) : tsz q (d + 1) a = 1 + ((kids x).map (tsz q d)).sum := by
  unfold tsz kids
  rw [h]
  dsimp only
  split
  · simp
  · split
    · simp
    · simp
theorem nod_cases {x : N} {a : Nat} (ha : a ≤ 1000000) (h : nodB x (a : Int) (wrap64 ((a : Int) - 1)) = true) :
    (x.op = 1) ∨ (x.op = 2 ∧ txtB x.name 1 = true) ∨ (x.op = 3 ∧ txtB x.name 1 = true ∧ valB x.val = true ∧ x.val.kind ≠ 0) ∨ (x.op = 4 ∧ txtB x.name 1 = true ∧ valB x.val = true ∧ x.val.kind = 1) ∨
    (x.op = 5 ∧ ∃ j : Nat, x.left = j ∧ j < a) ∨ ((x.op = 6 ∨ x.op = 7) ∧ ∃ j i : Nat, x.left = j ∧ x.right = i ∧ j < a ∧ i < a) ∨ ((x.op = 8 ∨ x.op = 9) ∧ txtB x.name 6 = true) := by
  rw [wrap_less ha] at h
  unfold nodB at h
  simp only [beq_iff_eq, Bool.or_eq_true] at h
  by_cases h1 : x.op = 1
  · exact .inl h1
  rw [if_neg h1] at h
  by_cases h2 : x.op = 2
  · rw [if_pos h2, Bool.and_eq_true] at h; exact .inr (.inl ⟨h2, h.1⟩)
  rw [if_neg h2] at h
  by_cases h3 : x.op = 3
  · rw [if_pos h3] at h; simp only [Bool.and_eq_true, Bool.not_eq_true', beq_eq_false_iff_ne] at h; exact .inr (.inr (.inl ⟨h3, h.1, h.2.1, h.2.2.1⟩))
  rw [if_neg h3] at h
  by_cases h4 : x.op = 4
  · rw [if_pos h4] at h; simp only [Bool.and_eq_true, beq_iff_eq] at h; exact .inr (.inr (.inr (.inl ⟨h4, h.1, h.2.1, h.2.2.1⟩)))
  rw [if_neg h4] at h
  by_cases h5 : x.op = 5
  · rw [if_pos h5] at h; simp only [Bool.and_eq_true, inB, decide_eq_true_eq] at h
    exact .inr (.inr (.inr (.inr (.inl ⟨h5, x.left.toNat, by omega, by omega⟩))))
  rw [if_neg h5] at h
  by_cases h6 : x.op = 6 ∨ x.op = 7
  · rw [if_pos h6] at h; simp only [Bool.and_eq_true, inB, decide_eq_true_eq] at h
    exact .inr (.inr (.inr (.inr (.inr (.inl ⟨h6, x.left.toNat, x.right.toNat, by omega, by omega, by omega, by omega⟩)))))
  rw [if_neg h6] at h
  by_cases h8 : x.op = 8 ∨ x.op = 9
  · rw [if_pos h8, Bool.and_eq_true] at h; exact .inr (.inr (.inr (.inr (.inr (.inr ⟨h8, h.1⟩)))))
  rw [if_neg h8] at h
  cases h
theorem kids_lt {q : List N} (hq : qryB q = true) {a : Nat} {x : N} (hx : q[a]? = some x) : ∀ j ∈ kids x, j < a := by
  have hl := txq_len hq
  have ha := (List.getElem?_eq_some_iff.1 hx).1
  have := nod_cases (by omega) (qry_vf hq a x (Nat.zero_le _) hx)
  intro j hj
  unfold kids at hj
  rcases this with h | ⟨h, _⟩ | ⟨h, _⟩ | ⟨h, _⟩ | ⟨h, i, h1, h2⟩ | ⟨h, i, m, h1, h2, h3, h4⟩ | ⟨h, _⟩
  · simp [h] at hj
  · simp [h] at hj
  · simp [h] at hj
  · simp [h] at hj
  · rw [if_pos h] at hj; rw [List.mem_singleton] at hj; omega
  · rw [if_neg (by omega), if_pos h] at hj
    rcases List.mem_cons.1 hj with hj | hj
    · omega
    · rw [List.mem_singleton] at hj; omega
  · rw [if_neg (by omega), if_neg (by omega)] at hj; cases hj
theorem kids_ref {q : List N} (hq : qryB q = true) {a : Nat} {x : N} (hx : q[a]? = some x) (i : Nat) : ref1 x (i : Int) = ((kids x).count i : Nat) := by
  have hl := txq_len hq
  have ha := (List.getElem?_eq_some_iff.1 hx).1
  have := nod_cases (by omega) (qry_vf hq a x (Nat.zero_le _) hx)
  unfold kids
  rcases this with h | ⟨h, _⟩ | ⟨h, _⟩ | ⟨h, _⟩ | ⟨h, j, h1, h2⟩ | ⟨h, j, m, h1, h2, h3, h4⟩ | ⟨h, _⟩
  · simp [ref1, h]
  · simp [ref1, h]
  · simp [ref1, h]
  · simp [ref1, h]
  · rw [if_pos h]
    unfold ref1
    rw [h, h1]
    simp only [List.count_cons, List.count_nil]
    simp
    split <;> split <;> omega
  · have e1 : (x.op == 6 || x.op == 7) = true := by rcases h with h | h <;> rw [h] <;> rfl
    have e2 : (x.op == 6 || (x.op == 7 || x.op == 5)) = true := by rcases h with h | h <;> rw [h] <;> rfl
    rw [if_neg (by omega), if_pos h]
    unfold ref1
    rw [h1, h2, e1, e2]
    simp only [List.count_cons, List.count_nil]
    simp
    repeat' split
    all_goals omega
  · have e1 : (x.op == 6 || x.op == 7) = false := by rcases h with h | h <;> rw [h] <;> rfl
    have e2 : (x.op == 6 || (x.op == 7 || x.op == 5)) = false := by rcases h with h | h <;> rw [h] <;> rfl
    rw [if_neg (by omega), if_neg (by omega)]
    unfold ref1
    rw [e1, e2]
    simp
theorem tsz_stable {q : List N} (hq : qryB q = true) : ∀ (d e a : Nat), a < d → a < e → tsz q d a = tsz q e a
  | 0, _, _, h, _ => absurd h (Nat.not_lt_zero _)
  | _, 0, _, _, h => absurd h (Nat.not_lt_zero _)
  | d + 1, e + 1, a, hd, he => by
    cases hx : q[a]? with
    | none => unfold tsz; rw [hx]
    | some x =>
      rw [tsz_kids q d a x hx, tsz_kids q e a x hx]
      congr 2
      refine List.map_congr_left fun j hj => ?_
      have := kids_lt hq hx j hj
      exact tsz_stable hq d e j (by omega) (by omega)
theorem refs_none {q : List N} (hq : qryB q = true) : ∀ n, n ≤ q.length → ∀ i, n ≤ i + 1 → refs (q.take n) (i : Int) = 0
  | 0, _, _, _ => by simp [refs]
  | n + 1, hn, i, hi => by
    have hx : q[n]? = some q[n] := List.getElem?_eq_getElem (by omega)
    rw [List.take_add_one, hx, Option.toList_some, refs_snoc, refs_none hq n (by omega) i (by omega), kids_ref hq hx]
    have : (kids q[n]).count i = 0 := List.count_eq_zero.2 fun hc => by
      have := kids_lt hq hx i hc
      omega
    rw [this]; rfl
/-- Whatever is referred to once from outside or inside: all is counted. -/
theorem forest {q : List N} (hq : qryB q = true) : ∀ (n : Nat) (S : List Nat) (d : Nat), n ≤ q.length → n ≤ d → (∀ s ∈ S, s < n) → (∀ i, i < n → ((S.count i : Nat) : Int) + refs (q.take n) (i : Int) = 1) → (S.map (tsz q d)).sum = n
  | 0, S, d, _, _, hS, _ => by
    cases S with
    | nil => rfl
    | cons s r => exact absurd (hS s (List.mem_cons_self ..)) (Nat.not_lt_zero _)
  | n + 1, S, d, hn, hd, hS, hc => by
    have hx : q[n]? = some q[n] := List.getElem?_eq_getElem (by omega)
    have h1 := hc n (by omega)
    rw [refs_none hq (n + 1) hn n (by omega)] at h1
    have hcn : S.count n = 1 := by omega
    have hm : n ∈ S := List.count_pos_iff.1 (by omega)
    have hp := List.perm_cons_erase hm
    have hlt : ∀ s ∈ S.erase n, s < n := fun s hs => by
      have h2 := hS s (List.mem_of_mem_erase hs)
      have h3 : s ≠ n := fun e => by
        subst e
        have : (S.erase s).count s = 0 := by rw [List.count_erase_self, hcn]
        have := List.count_pos_iff.2 hs
        omega
      omega
    have ih := forest hq n (kids q[n] ++ S.erase n) d (by omega) (by omega)
      (fun s hs => (List.mem_append.1 hs).elim (fun h => kids_lt hq hx s h) (hlt s))
      (fun i hi => by
        have h2 := hc i (by omega)
        rw [List.take_add_one, hx, Option.toList_some, refs_snoc, kids_ref hq hx] at h2
        rw [List.count_append, List.count_erase_of_ne (by omega : i ≠ n)]
        omega)
    obtain ⟨d', rfl⟩ : ∃ d', d = d' + 1 := ⟨d - 1, by omega⟩
    have hs : ((kids q[n]).map (tsz q d')) = ((kids q[n]).map (tsz q (d' + 1))) := List.map_congr_left fun j hj => by
      have := kids_lt hq hx j hj
      exact tsz_stable hq _ _ j (by omega) (by omega)
    rw [(hp.map (tsz q (d' + 1))).sum_nat, List.map_cons, List.sum_cons, tsz_kids q d' n _ hx, hs]
    rw [List.map_append, List.sum_append] at ih
    omega
theorem tsz_all {q : List N} (hq : qryB q = true) : tsz q q.length (q.length - 1) = q.length := by
  have hl := txq_len hq
  have h := forest hq q.length [q.length - 1] q.length (Nat.le_refl _) (Nat.le_refl _) (fun s hs => by rw [List.mem_singleton] at hs; omega) (fun i hi => by
    rw [List.take_length]
    by_cases hr : i = q.length - 1
    · subst hr
      have := refs_none hq q.length (Nat.le_refl _) (q.length - 1) (by omega)
      rw [List.take_length] at this
      rw [this]; simp
    · have hx : q[i]? = some q[i] := List.getElem?_eq_getElem hi
      have h1 := (qry_ex q).choose_spec
      have h0 := hq
      unfold qryB at h0
      simp only [Bool.and_eq_true] at h0
      have h2 := h1.1 h0.1 i _ hx
      unfold qryAt at h2
      simp only [Bool.and_eq_true, Bool.or_eq_true, decide_eq_true_eq, beq_iff_eq] at h2
      have h3 : refs q (i : Int) = 1 := by
        rcases h2.2 with h3 | h3
        · omega
        · exact h3
      have h4 : [q.length - 1].count i = 0 := List.count_eq_zero.2 (by rw [List.mem_singleton]; exact hr)
      rw [h3, h4]; rfl)
  simpa using h
theorem low_first {s : By} {m : Int} (h : txtB s m = true) : ∃ b r, s.data.toList = b :: r ∧ 97 ≤ b.toNat ∧ b.toNat ≤ 122 := by
  cases hd : s.data.toList with
  | nil => exact absurd (ba_ext (b := ⟨#[]⟩) hd) (txtB_ne h)
  | cons b r =>
    refine ⟨b, r, rfl, ?_⟩
    unfold txtB at h
    rw [Bool.and_eq_true] at h
    have hl : low s := by
      unfold lowB at h
      exact @of_decide_eq_true _ (Classical.propDecidable _) h.1
    have hz : 0 < s.size := by
      have : s.size = s.data.toList.length := by rw [Array.length_toList]; rfl
      rw [this, hd, List.length_cons]; omega
    have := hl 0 hz
    have hb : s[0] = b := by
      have h1 : s.data.toList[0]? = some b := by rw [hd]; rfl
      have h2 : s.data[0]? = some b := by rw [← Array.getElem?_toList]; exact h1
      have h3 := Array.getElem?_eq_some_iff.1 h2
      exact h3.2
    rw [hb] at this
    omega
/-- A valid value is read from its text. -/
theorem val_word {v : V} (h : valB v = true) (hk : v.kind ≠ 0) : pvB (fvB v) = true ∧ pvV (fvB v) = v := by
  have key : pvV (fvB v) = v := by
    obtain ⟨k, n, s⟩ := v
    unfold fvB
    rw [h]
    simp only [Bool.not_true, Bool.false_eq_true, if_false]
    unfold valB at h
    simp only [beq_iff_eq] at h hk ⊢
    rw [if_neg hk] at h
    by_cases h1 : k = 1
    · subst h1
      rw [if_pos rfl] at h ⊢
      simp only [Bool.and_eq_true, inB, decide_eq_true_eq] at h
      obtain ⟨⟨h2, h3⟩, h4⟩ := h
      rw [Lib.toList_data, List.isEmpty_iff] at h4
      have hs : s = ⟨#[]⟩ := ba_ext h4
      subst hs
      obtain ⟨m, rfl⟩ : ∃ m : Nat, n = m := ⟨n.toNat, by omega⟩
      unfold pvV
      rw [show (⟨(Lib.itoa (m : Int)).toArray⟩ : By).data.toList = Lib.decDigits m from itoa_nat m, puN_dec (by omega)]
    · rw [if_neg h1] at h ⊢
      by_cases h2 : k = 2
      · subst h2
        rw [if_pos rfl] at h ⊢
        simp only [Bool.and_eq_true, beq_iff_eq] at h
        obtain ⟨h3, rfl⟩ := h
        obtain ⟨b, r, hb, hb1, hb2⟩ := low_first h3
        have hp : puN s.data.toList = none := puN_none fun m _ e => by
          have := dec_digits m b (by rw [← e, hb]; exact List.mem_cons_self ..)
          omega
        unfold pvV
        rw [hp]
        dsimp only
        rw [if_neg]
        rintro rfl
        have hb' : b = 45 := by injection hb with hb _; exact hb.symm
        subst hb'
        have : (45 : UInt8).toNat = 45 := rfl
        omega
      · rw [if_neg h2] at h; cases h
  refine ⟨?_, key⟩
  unfold pvB
  rw [key, h]
theorem kw_cast {x : N} {i : Nat} (h : x.op = i) : kw x.op = kw (i : Nat) := by rw [h]
/-- The words of a node of a valid query are read as so many nodes as hang on it. -/
theorem wds_rq {q : List N} (hq : qryB q = true) : ∀ (d a : Nat), a < q.length → a < d → ∀ k, ∃ e, Rq k (wdsQ q d a) e ∧ e.length = tsz q d a ∧ ∀ x ∈ e, NV x
  | 0, _, _, h, _ => absurd h (Nat.not_lt_zero _)
  | d + 1, a, ha, hd, k => by
    have hl := txq_len hq
    have hx : q[a]? = some q[a] := List.getElem?_eq_getElem ha
    have hc := nod_cases (by omega) (qry_vf hq a _ (Nat.zero_le _) hx)
    unfold wdsQ tsz
    rw [hx]
    dsimp only
    generalize q[a] = x at hc ⊢
    rcases hc with h | ⟨h, h2⟩ | ⟨h, h2, h3, h4⟩ | ⟨h, h2, h3, h4⟩ | ⟨h, j, h1, h2⟩ | ⟨h, j, m, h1, h2, h3, h4⟩ | ⟨h, h2⟩
    · rw [if_neg (by omega), if_neg (by omega), if_neg (by omega), if_neg (by omega), if_neg (by omega), if_neg (by omega), kw_cast (i := 1) h]
      exact ⟨_, .all k, rfl, fun y hy => by rw [List.mem_singleton.1 hy]; exact .inl rfl⟩
    · rw [if_pos (.inl h), if_neg (by omega), if_neg (by omega), kw_cast (i := 2) h]
      exact ⟨_, .name k 2 x.name (.inl rfl), rfl, fun y hy => by rw [List.mem_singleton.1 hy]; exact .inr (.inr (.inr (.inr (.inl ⟨rfl, h2⟩))))⟩
    · rw [if_neg (by omega), if_pos (.inl h), if_neg (by omega), if_neg (by omega), kw_cast (i := 3) h]
      obtain ⟨h5, h6⟩ := val_word h3 h4
      exact ⟨_, .val k 3 x.name (fvB x.val) (.inl rfl) h5, rfl, fun y hy => by rw [List.mem_singleton.1 hy, h6]; exact .inr (.inr (.inr (.inr (.inr (.inl ⟨rfl, h2, h4⟩)))))⟩
    · rw [if_neg (by omega), if_pos (.inr h), if_neg (by omega), if_neg (by omega), kw_cast (i := 4) h]
      obtain ⟨h5, h6⟩ := val_word h3 (by omega)
      exact ⟨_, .val k 4 x.name (fvB x.val) (.inr rfl) h5, rfl, fun y hy => by rw [List.mem_singleton.1 hy, h6]; exact .inr (.inr (.inr (.inr (.inr (.inr (.inl ⟨rfl, h2, h4⟩))))))⟩
    · rw [if_neg (by omega), if_neg (by omega), if_pos h, if_pos h, kw_cast (i := 5) h, show x.left.toNat = j by omega]
      obtain ⟨e, h5, h6, h7⟩ := wds_rq hq d j (by omega) (by omega) k
      refine ⟨_, .not k _ e h5, by simp [h6]; omega, fun y hy => ?_⟩
      rcases List.mem_append.1 hy with hy | hy
      · exact h7 y hy
      · rw [List.mem_singleton.1 hy]; exact .inr (.inl rfl)
    · obtain ⟨i, hi, hi2⟩ : ∃ i : Nat, x.op = i ∧ (i = 6 ∨ i = 7) := by rcases h with h | h; exact ⟨6, h, .inl rfl⟩; exact ⟨7, h, .inr rfl⟩
      rw [if_neg (by omega), if_neg (by omega), if_neg (by omega), if_pos h, if_neg (by omega), if_pos h, kw_cast hi, show x.left.toNat = j by omega, show x.right.toNat = m by omega]
      obtain ⟨e, h5, h6, h7⟩ := wds_rq hq d j (by omega) (by omega) k
      obtain ⟨e2, h8, h9, h10⟩ := wds_rq hq d m (by omega) (by omega) (k + e.length)
      refine ⟨_, .two k i _ _ e e2 hi2 h5 h8, by simp [h6, h9]; omega, fun y hy => ?_⟩
      rcases List.mem_append.1 hy with hy | hy
      · rcases List.mem_append.1 hy with hy | hy
        · exact h7 y hy
        · exact h10 y hy
      · rw [List.mem_singleton.1 hy]
        rcases hi2 with rfl | rfl
        · exact .inr (.inr (.inl rfl))
        · exact .inr (.inr (.inr (.inl rfl)))
    · obtain ⟨i, hi, hi2⟩ : ∃ i : Nat, x.op = i ∧ (i = 8 ∨ i = 9) := by rcases h with h | h; exact ⟨8, h, .inl rfl⟩; exact ⟨9, h, .inr rfl⟩
      rw [if_pos (.inr h), if_neg (by omega), if_neg (by omega), kw_cast hi]
      exact ⟨_, .name k i x.name (.inr hi2), rfl, fun y hy => by rw [List.mem_singleton.1 hy]; exact .inr (.inr (.inr (.inr (.inr (.inr (.inr ⟨by rcases hi2 with rfl | rfl; exact .inl rfl; exact .inr rfl, h2⟩))))))⟩
/-- THE ROUND TRIP, in words. -/
theorem trip {q : List N} (hq : qryB q = true) : ∃ e, Rq 0 (wdsQ q q.length (q.length - 1)) e ∧ qryB e = true ∧ e.length = q.length ∧ txq e = txq q := by
  have hl := txq_len hq
  obtain ⟨e, h1, h2, h3⟩ := wds_rq hq q.length (q.length - 1) (by omega) (by omega) 0
  rw [tsz_all hq] at h2
  have h4 := h1.qry (by omega) h3
  refine ⟨e, h1, h4, h2, ?_⟩
  rw [h1.tx h4]
  unfold txq
  rw [if_pos hq]
end Go.Proofs.YtodbohmbdgbheaaGreatDoor
