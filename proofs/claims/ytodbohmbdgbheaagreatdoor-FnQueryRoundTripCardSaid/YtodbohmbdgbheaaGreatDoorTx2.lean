/- Texts of queries: the two readers agree, and what is read is what is written. No program in sight. -/
import Derived.Test.YtodbohmbdgbheaaGreatDoorTx1
namespace Go.Proofs.YtodbohmbdgbheaaGreatDoor
open Go.RowKit
set_option linter.unusedVariables false
/-- What is read: words u give the nodes e, the first at place k. -/
inductive Rq : Nat → List By → List N → Prop
  | all (k : Nat) : Rq k [kw (1 : Nat)] [nd 1 0 0 ⟨#[]⟩ V.z]
  | name (k op : Nat) (nm : By) : (op = 2 ∨ op = 8 ∨ op = 9) → Rq k [kw (op : Nat), nm] [nd op 0 0 nm V.z]
  | val (k op : Nat) (nm s : By) : (op = 3 ∨ op = 4) → pvB s = true → Rq k [kw (op : Nat), nm, s] [nd op 0 0 nm (pvV s)]
  | not (k : Nat) (u : List By) (e : List N) : Rq k u e → Rq k (kw (5 : Nat) :: u) (e ++ [nd 5 (((k + e.length : Nat) : Int) - 1) 0 ⟨#[]⟩ V.z])
  | two (k op : Nat) (u1 u2 : List By) (e1 e2 : List N) : (op = 6 ∨ op = 7) → Rq k u1 e1 → Rq (k + e1.length) u2 e2 →
      Rq k (kw (op : Nat) :: (u1 ++ u2)) (e1 ++ e2 ++ [nd op (((k + e1.length : Nat) : Int) - 1) (((k + e1.length + e2.length : Nat) : Int) - 1) ⟨#[]⟩ V.z])
theorem Rq.pos {k : Nat} {u : List By} {e : List N} (h : Rq k u e) : 1 ≤ u.length ∧ 1 ≤ e.length := by
  induction h <;> simp only [List.length_cons, List.length_append, List.length_nil] <;> omega
theorem nod_name {op : Nat} {l r : Int} {nm : By} {v : V} {a m : Int} (ho : op = 2 ∨ op = 8 ∨ op = 9 ∨ op = 3 ∨ op = 4) (h : nodB (nd op l r nm v) a m = true) : nm ≠ ⟨#[]⟩ := by
  rcases ho with rfl | rfl | rfl | rfl | rfl <;> simp [nodB] at h <;> exact txtB_ne h.1
theorem nod_val {op : Nat} {l r : Int} {nm : By} {v : V} {a m : Int} (ho : op = 3 ∨ op = 4) (h : nodB (nd op l r nm v) a m = true) : v ≠ V.z := by
  rintro rfl
  rcases ho with rfl | rfl <;> simp [nodB, V.z] at h
theorem drop_two {ws : List By} (h1 : hdB ws.tail ≠ ⟨#[]⟩) : ∃ w n r, ws = w :: n :: r := by
  match ws with
  | [] => exact absurd rfl h1
  | [w] => exact absurd rfl h1
  | w :: n :: r => exact ⟨w, n, r, rfl⟩
theorem drop_three {ws : List By} (h1 : hdB ws.tail.tail ≠ ⟨#[]⟩) : ∃ w n s r, ws = w :: n :: s :: r := by
  match ws with
  | [] => exact absurd rfl h1
  | [w] => exact absurd rfl h1
  | [w, n] => exact absurd rfl h1
  | w :: n :: s :: r => exact ⟨w, n, s, r, rfl⟩
theorem op_cons {ws : List By} (h : opOf (hdB ws) ≠ 0) : ∃ r, ws = kw (opOf (hdB ws) : Nat) :: r := by
  match ws with
  | [] => exact absurd opOf_nil h
  | w :: r => exact ⟨r, by rw [opOf_kw h]; rfl⟩
theorem hd_pv {ws : List By} (h : pvB (hdB ws) = true) : hdB ws ≠ ⟨#[]⟩ := fun e => by rw [e, pv_nil] at h; cases h
/-- What the program's reader accepts. -/
theorem rdI_rq : ∀ (d : Nat) (ws : List By) (ns : List N), (rdI d ws ns).1 = true → VF ns.length (rdI d ws ns).2.2 →
    ∃ u e, ws = u ++ (rdI d ws ns).2.1 ∧ (rdI d ws ns).2.2 = ns ++ e ∧ Rq ns.length u e
  | 0, ws, ns, h, _ => by simp [rdI] at h
  | d + 1, ws, ns, h, hv => by
    unfold rdI at h hv ⊢
    dsimp only at h hv ⊢
    have ihA := rdI_rq d ws.tail ns
    have ihB := rdI_rq d (rdI d ws.tail ns).2.1 (rdI d ws.tail ns).2.2
    obtain ⟨pe, hpe, _⟩ := rdI_pre d (rdI d ws.tail ns).2.1 (rdI d ws.tail ns).2.2
    obtain ⟨pa, hpa, _⟩ := rdI_pre d ws.tail ns
    have hle := opOf_le (hdB ws)
    have hcons := fun h => op_cons (ws := ws) h
    generalize hop : opOf (hdB ws) = op at h hv hle hcons ⊢
    generalize rdI d ws.tail ns = A at *
    obtain ⟨okA, rA, nA⟩ := A
    dsimp only at h hv ihA ihB hpe hpa ⊢
    generalize rdI d rA nA = B at *
    obtain ⟨okB, rB, nB⟩ := B
    dsimp only at h hv ihB hpe ⊢
    split at h
    · rename_i ho
      rw [if_pos ho] at hv ⊢
      have hn := nod_name (by rcases ho with h | h | h <;> simp [h]) (hv.last (Nat.le_refl _))
      obtain ⟨w, n, r, rfl⟩ := drop_two hn
      obtain ⟨r', hr⟩ := hcons (by omega)
      injection hr with hr _
      refine ⟨[w, n], _, rfl, rfl, ?_⟩
      rw [hr]
      exact .name _ _ _ ho
    · rename_i h1
      rw [if_neg h1] at hv ⊢
      split at h
      · rename_i ho
        rw [if_pos ho] at hv ⊢
        obtain ⟨w, n, s, r, rfl⟩ := drop_three (hd_pv h)
        obtain ⟨r', hr⟩ := hcons (by omega)
        injection hr with hr _
        refine ⟨[w, n, s], _, rfl, rfl, ?_⟩
        have h' : pvB s = true := h
        have hp : pvR s = pvV s := by unfold pvR; rw [if_pos h']
        show Rq _ _ [nd op 0 0 n (pvR s)]
        rw [hr, hp]
        exact .val _ _ _ _ ho h
      · rename_i h2
        rw [if_neg h2] at hv ⊢
        split at h
        · rename_i ho
          rw [if_pos ho] at hv ⊢
          obtain ⟨u, e, h3, h4, h5⟩ := ihA h hv.pre
          dsimp only at h3 h4 ⊢
          obtain ⟨r, hr⟩ := hcons (by omega)
          subst ho
          refine ⟨kw (5 : Nat) :: u, e ++ [nd 5 ((nA.length : Int) - 1) 0 ⟨#[]⟩ V.z], ?_, by rw [h4, List.append_assoc], ?_⟩
          · rw [hr]
            rw [hr] at h3
            rw [List.cons_append, ← h3]; rfl
          · have : nA.length = ns.length + e.length := by rw [h4]; simp
            rw [this]
            exact .not _ _ _ h5
        · rename_i h5'
          rw [if_neg h5'] at hv ⊢
          split at h
          · rename_i ho
            rw [if_pos ho] at hv ⊢
            split at h
            · rename_i hA
              rw [if_pos hA] at hv ⊢
              dsimp only at h hv ⊢
              have hvB := hv.pre
              have hvA : VF ns.length nA := by rw [hpe] at hvB; exact hvB.pre
              obtain ⟨u, e, h3, h4, h5⟩ := ihA hA hvA
              have hnA : nA.length = ns.length + e.length := by rw [h4]; simp
              obtain ⟨u2, e2, h6, h7, h8⟩ := ihB h (hvB.of (by omega))
              have hnB : nB.length = ns.length + e.length + e2.length := by rw [h7]; simp [hnA]
              obtain ⟨r, hr⟩ := hcons (by omega)
              refine ⟨kw (op : Nat) :: (u ++ u2), (e ++ e2) ++ [nd op ((nA.length : Int) - 1) ((nB.length : Int) - 1) ⟨#[]⟩ V.z], ?_, by rw [h7, h4]; simp, ?_⟩
              · rw [hr]
                rw [hr] at h3
                rw [List.cons_append, List.append_assoc, ← h6, ← h3]; rfl
              · rw [hnB, hnA] at *
                exact .two _ _ _ _ _ _ ho h5 h8
            · cases h
          · rename_i h6
            rw [if_neg h6] at hv ⊢
            have ho : op = 1 := by have : op ≠ 0 := by simpa using h
                                   omega
            subst ho
            obtain ⟨r, hr⟩ := hcons (by omega)
            refine ⟨[kw (1 : Nat)], _, ?_, rfl, .all _⟩
            rw [hr]; rfl
theorem rdS_pre : ∀ (d : Nat) (ws : List By) (ns : List N) (deep : Nat), ∃ e, (rdS d ws ns deep).1 = ns ++ e
  | 0, ws, ns, deep => ⟨[], by simp [rdS]⟩
  | d + 1, ws, ns, deep => by
    unfold rdS
    obtain ⟨e, he⟩ := rdS_pre d ws.tail ns (deep + 1)
    obtain ⟨e2, he2⟩ := rdS_pre d (ws.drop (1 + (rdS d ws.tail ns (deep + 1)).2)) (rdS d ws.tail ns (deep + 1)).1 (deep + 1)
    dsimp only
    generalize rdS d (ws.drop (1 + (rdS d ws.tail ns (deep + 1)).2)) (rdS d ws.tail ns (deep + 1)).1 (deep + 1) = B at *
    generalize rdS d ws.tail ns (deep + 1) = A at *
    split
    · exact ⟨[], by simp⟩
    · split
      · exact ⟨_, rfl⟩
      · split
        · exact ⟨_, rfl⟩
        · split
          · split
            · exact ⟨e, he⟩
            · exact ⟨e ++ [_], by rw [he, List.append_assoc]⟩
          · split
            · split
              · exact ⟨e, he⟩
              · split
                · exact ⟨e ++ e2, by rw [he2, he, List.append_assoc]⟩
                · exact ⟨_, app3 he he2 _⟩
            · exact ⟨_, rfl⟩
/-- What the reference's reader accepts. -/
theorem rdS_rq : ∀ (d : Nat) (ws : List By) (ns : List N) (deep : Nat), (rdS d ws ns deep).2 ≠ 0 → VF ns.length (rdS d ws ns deep).1 →
    ∃ u e, ws = u ++ ws.drop (rdS d ws ns deep).2 ∧ u.length = (rdS d ws ns deep).2 ∧ (rdS d ws ns deep).1 = ns ++ e ∧ Rq ns.length u e
  | 0, ws, ns, deep, h, _ => by simp [rdS] at h
  | d + 1, ws, ns, deep, h, hv => by
    unfold rdS at h hv ⊢
    dsimp only at h hv ⊢
    have ihA := rdS_rq d ws.tail ns (deep + 1)
    have ihB := rdS_rq d (ws.drop (1 + (rdS d ws.tail ns (deep + 1)).2)) (rdS d ws.tail ns (deep + 1)).1 (deep + 1)
    obtain ⟨pe, hpe⟩ := rdS_pre d (ws.drop (1 + (rdS d ws.tail ns (deep + 1)).2)) (rdS d ws.tail ns (deep + 1)).1 (deep + 1)
    have hle := opOf_le (hdB ws)
    have hcons := fun h => op_cons (ws := ws) h
    generalize hop : opOf (hdB ws) = op at h hv hle hcons ⊢
    generalize rdS d (ws.drop (1 + (rdS d ws.tail ns (deep + 1)).2)) (rdS d ws.tail ns (deep + 1)).1 (deep + 1) = B at *
    generalize rdS d ws.tail ns (deep + 1) = A at *
    obtain ⟨nA, kA⟩ := A
    obtain ⟨nB, kB⟩ := B
    dsimp only at h hv ihA ihB hpe ⊢
    split at h
    · exact absurd rfl h
    · rename_i h0
      rw [if_neg h0] at hv ⊢
      have hz : op ≠ 0 := fun e => h0 (Or.inl e)
      obtain ⟨r, hr⟩ := hcons hz
      split at h
      · rename_i ho
        rw [if_pos ho] at hv ⊢
        have hn := nod_name (by rcases ho with h | h | h <;> simp [h]) (hv.last (Nat.le_refl _))
        obtain ⟨w, n, r2, rfl⟩ := drop_two hn
        injection hr with hr _
        refine ⟨[w, n], _, rfl, rfl, rfl, ?_⟩
        rw [hr]
        exact .name _ _ _ ho
      · rename_i h1
        rw [if_neg h1] at hv ⊢
        split at h
        · rename_i ho
          rw [if_pos ho] at hv ⊢
          have hn := nod_val ho (hv.last (Nat.le_refl _))
          obtain ⟨hp, hp2⟩ := pvR_kind hn
          obtain ⟨w, n, s, r2, rfl⟩ := drop_three (hd_pv hp)
          injection hr with hr _
          refine ⟨[w, n, s], _, rfl, rfl, rfl, ?_⟩
          have hp3 : pvR s = pvV s := hp2
          show Rq _ _ [nd op 0 0 n (pvR s)]
          rw [hr, hp3]
          exact .val _ _ _ _ ho hp
        · rename_i h2
          rw [if_neg h2] at hv ⊢
          split at h
          · rename_i ho
            rw [if_pos ho] at hv ⊢
            split at h
            · exact absurd rfl h
            · rename_i hk
              rw [if_neg hk] at hv ⊢
              obtain ⟨u, e, h3, h3', h4, h5⟩ := ihA hk hv.pre
              dsimp only at h3 h3' h4 ⊢
              subst ho
              refine ⟨kw (5 : Nat) :: u, e ++ [nd 5 ((nA.length : Int) - 1) 0 ⟨#[]⟩ V.z], ?_, by simp [h3']; omega, by rw [h4, List.append_assoc], ?_⟩
              · rw [hr] at h3 ⊢
                rw [List.tail_cons] at h3
                rw [Nat.add_comm 1, List.drop_succ_cons, List.cons_append, ← h3]
              · have : nA.length = ns.length + e.length := by rw [h4]; simp
                rw [this]
                exact .not _ _ _ h5
          · rename_i h5'
            rw [if_neg h5'] at hv ⊢
            split at h
            · rename_i ho
              rw [if_pos ho] at hv ⊢
              split at h
              · exact absurd rfl h
              · rename_i hk
                rw [if_neg hk] at hv ⊢
                split at h
                · exact absurd rfl h
                · rename_i hk2
                  rw [if_neg hk2] at hv ⊢
                  dsimp only at h hv ⊢
                  have hvB := hv.pre
                  have hvA : VF ns.length nA := by rw [hpe] at hvB; exact hvB.pre
                  obtain ⟨u, e, h3, h3', h4, h5⟩ := ihA hk hvA
                  have hnA : nA.length = ns.length + e.length := by rw [h4]; simp
                  obtain ⟨u2, e2, h6, h6', h7, h8⟩ := ihB hk2 (hvB.of (by omega))
                  have hnB : nB.length = ns.length + e.length + e2.length := by rw [h7]; simp [hnA]
                  refine ⟨kw (op : Nat) :: (u ++ u2), (e ++ e2) ++ [nd op ((nA.length : Int) - 1) ((nB.length : Int) - 1) ⟨#[]⟩ V.z], ?_, by simp [h3', h6']; omega, by rw [h7, h4]; simp, ?_⟩
                  · rw [hr] at h3 h6 ⊢
                    rw [List.tail_cons] at h3
                    rw [Nat.add_comm 1 kA, List.drop_succ_cons] at h6
                    rw [show 1 + kA + kB = (kA + kB) + 1 by omega, List.drop_succ_cons, List.cons_append, List.append_assoc, ← List.drop_drop, ← h6, ← h3]
                  · rw [hnB, hnA] at *
                    exact .two _ _ _ _ _ _ ho h5 h8
            · rename_i h6
              rw [if_neg h6] at hv ⊢
              have ho : op = 1 := by omega
              subst ho
              refine ⟨[kw (1 : Nat)], _, ?_, rfl, rfl, .all _⟩
              rw [hr]; rfl
theorem opOf_hd {i : Nat} {r : List By} (h1 : 1 ≤ i) (h9 : i ≤ 9) : opOf (hdB (kw (i : Nat) :: r)) = i := opOf_of h1 h9
/-- What stands as it should is read by the program .. -/
theorem Rq.rdI {k : Nat} {u : List By} {e : List N} (h : Rq k u e) : ∀ (d : Nat) (r : List By) (ns : List N), ns.length = k → u.length ≤ d → rdI d (u ++ r) ns = (true, r, ns ++ e) := by
  induction h with
  | all k => intro d r ns hk hd; obtain ⟨d, rfl⟩ : ∃ x, d = x + 1 := ⟨d - 1, by simp at hd; omega⟩
             unfold YtodbohmbdgbheaaGreatDoor.rdI
             simp only [List.cons_append, opOf_hd (show 1 ≤ 1 by decide) (show 1 ≤ 9 by decide)]
             simp
  | name k op nm ho =>
    intro d r ns hk hd; obtain ⟨d, rfl⟩ : ∃ x, d = x + 1 := ⟨d - 1, by simp at hd; omega⟩
    unfold YtodbohmbdgbheaaGreatDoor.rdI
    simp only [List.cons_append, opOf_hd (show 1 ≤ op by omega) (show op ≤ 9 by omega)]
    simp [ho, hdB]
  | val k op nm s ho hp =>
    intro d r ns hk hd; obtain ⟨d, rfl⟩ : ∃ x, d = x + 1 := ⟨d - 1, by simp at hd; omega⟩
    unfold YtodbohmbdgbheaaGreatDoor.rdI
    simp only [List.cons_append, opOf_hd (show 1 ≤ op by omega) (show op ≤ 9 by omega)]
    rw [if_neg (by omega), if_pos ho]
    simp [hdB, hp, pvR]
  | not k u e _ ih =>
    intro d r ns hk hd; obtain ⟨d, rfl⟩ : ∃ x, d = x + 1 := ⟨d - 1, by simp at hd; omega⟩
    unfold YtodbohmbdgbheaaGreatDoor.rdI
    simp only [List.cons_append, opOf_hd (show 1 ≤ 5 by decide) (show 5 ≤ 9 by decide)]
    rw [List.tail_cons, ih d r ns hk (by simp at hd; omega)]
    simp [hk]
  | two k op u1 u2 e1 e2 ho _ _ ih1 ih2 =>
    intro d r ns hk hd; obtain ⟨d, rfl⟩ : ∃ x, d = x + 1 := ⟨d - 1, by simp at hd; omega⟩
    unfold YtodbohmbdgbheaaGreatDoor.rdI
    simp only [List.cons_append, opOf_hd (show 1 ≤ op by omega) (show op ≤ 9 by omega)]
    rw [if_neg (by omega), if_neg (by omega), if_neg (by omega), if_pos ho]
    simp only [List.length_cons, List.length_append] at hd
    rw [List.tail_cons, List.append_assoc, ih1 d _ ns hk (by omega)]
    dsimp only
    rw [if_pos rfl, ih2 d r (ns ++ e1) (by simp [hk]) (by omega)]
    simp [hk]
    omega
/-- .. and by the reference. -/
theorem Rq.rdS {k : Nat} {u : List By} {e : List N} (h : Rq k u e) : ∀ (d : Nat) (r : List By) (ns : List N) (deep : Nat), ns.length = k → u.length ≤ d → deep + k + e.length ≤ 9 → rdS d (u ++ r) ns deep = (ns ++ e, u.length) := by
  induction h with
  | all k =>
    intro d r ns deep hk hd hb; obtain ⟨d, rfl⟩ : ∃ x, d = x + 1 := ⟨d - 1, by simp at hd; omega⟩
    unfold YtodbohmbdgbheaaGreatDoor.rdS
    simp only [List.cons_append, opOf_hd (show 1 ≤ 1 by decide) (show 1 ≤ 9 by decide)]
    simp only [List.length_cons, List.length_nil] at hb
    rw [if_neg (by omega)]
    simp
  | name k op nm ho =>
    intro d r ns deep hk hd hb; obtain ⟨d, rfl⟩ : ∃ x, d = x + 1 := ⟨d - 1, by simp at hd; omega⟩
    unfold YtodbohmbdgbheaaGreatDoor.rdS
    simp only [List.cons_append, opOf_hd (show 1 ≤ op by omega) (show op ≤ 9 by omega)]
    simp only [List.length_cons, List.length_nil] at hb
    rw [if_neg (by omega), if_pos ho]
    simp [hdB]
  | val k op nm s ho hp =>
    intro d r ns deep hk hd hb; obtain ⟨d, rfl⟩ : ∃ x, d = x + 1 := ⟨d - 1, by simp at hd; omega⟩
    unfold YtodbohmbdgbheaaGreatDoor.rdS
    simp only [List.cons_append, opOf_hd (show 1 ≤ op by omega) (show op ≤ 9 by omega)]
    simp only [List.length_cons, List.length_nil] at hb
    rw [if_neg (by omega), if_neg (by omega), if_pos ho]
    simp [hdB, hp, pvR]
  | not k u e hq ih =>
    intro d r ns deep hk hd hb; obtain ⟨d, rfl⟩ : ∃ x, d = x + 1 := ⟨d - 1, by simp at hd; omega⟩
    unfold YtodbohmbdgbheaaGreatDoor.rdS
    simp only [List.cons_append, opOf_hd (show 1 ≤ 5 by decide) (show 5 ≤ 9 by decide)]
    simp only [List.length_append, List.length_cons, List.length_nil] at hb hd
    have := hq.pos
    rw [if_neg (by omega), if_neg (by omega), if_neg (by omega), if_pos trivial, List.tail_cons, ih d r ns (deep + 1) hk (by omega) (by omega)]
    dsimp only
    rw [if_neg (by omega)]
    simp [hk]
    omega
  | two k op u1 u2 e1 e2 ho hq1 hq2 ih1 ih2 =>
    intro d r ns deep hk hd hb; obtain ⟨d, rfl⟩ : ∃ x, d = x + 1 := ⟨d - 1, by simp at hd; omega⟩
    unfold YtodbohmbdgbheaaGreatDoor.rdS
    simp only [List.cons_append, opOf_hd (show 1 ≤ op by omega) (show op ≤ 9 by omega)]
    simp only [List.length_append, List.length_cons, List.length_nil] at hb hd
    have := hq1.pos
    have := hq2.pos
    rw [if_neg (by omega), if_neg (by omega), if_neg (by omega), if_neg (by omega), if_pos ho, List.tail_cons, List.append_assoc, ih1 d _ ns (deep + 1) hk (by omega) (by omega)]
    dsimp only
    rw [if_neg (by omega), Nat.add_comm 1 u1.length, List.drop_succ_cons, List.drop_left, ih2 d r (ns ++ e1) (deep + 1) (by simp [hk]) (by omega) (by omega)]
    dsimp only
    rw [if_neg (by omega)]
    simp [hk]
    omega
/-- The words of a node of a query, a look d deep. -/
noncomputable def wdsQ (q : List N) : Nat → Nat → List By
  | 0, _ => []
  | d + 1, a => match q[a]? with
    | none => []
    | some x =>
      if x.op = 2 ∨ x.op = 8 ∨ x.op = 9 then [kw x.op, x.name]
      else if x.op = 3 ∨ x.op = 4 then [kw x.op, x.name, fvB x.val]
      else if x.op = 5 then kw x.op :: wdsQ q d x.left.toNat
      else if x.op = 6 ∨ x.op = 7 then kw x.op :: (wdsQ q d x.left.toNat ++ wdsQ q d x.right.toNat)
      else [kw x.op]
/-- What was read is written as it stood. -/
theorem Rq.wds {k : Nat} {u : List By} {e : List N} (h : Rq k u e) : ∀ (ns t : List N) (d : Nat), ns.length = k → k + e.length ≤ d → wdsQ (ns ++ (e ++ t)) d (k + e.length - 1) = u := by
  have at_ : ∀ (ns e1 t : List N) (x : N), (ns ++ (e1 ++ [x] ++ t))[ns.length + e1.length]? = some x := fun ns e1 t x => by
    rw [List.getElem?_append_right (by omega), Nat.add_sub_cancel_left, List.append_assoc, List.getElem?_append_right (Nat.le_refl _), Nat.sub_self]; rfl
  induction h with
  | all k => intro ns t d hk hd; obtain ⟨d, rfl⟩ : ∃ x, d = x + 1 := ⟨d - 1, by simp at hd; omega⟩
             have := at_ ns [] t (nd 1 0 0 ⟨#[]⟩ V.z)
             simp only [List.length_nil, Nat.add_zero, List.nil_append] at this
             subst hk
             unfold wdsQ
             simp only [List.length_cons, List.length_nil, Nat.zero_add, Nat.add_sub_cancel]
             rw [this]
             simp
  | name k op nm ho =>
    intro ns t d hk hd; obtain ⟨d, rfl⟩ : ∃ x, d = x + 1 := ⟨d - 1, by simp at hd; omega⟩
    have := at_ ns [] t (nd op 0 0 nm V.z)
    simp only [List.length_nil, Nat.add_zero, List.nil_append] at this
    subst hk
    unfold wdsQ
    simp only [List.length_cons, List.length_nil, Nat.zero_add, Nat.add_sub_cancel]
    rw [this]
    dsimp only
    rw [if_pos (by omega)]
  | val k op nm s ho hp =>
    intro ns t d hk hd; obtain ⟨d, rfl⟩ : ∃ x, d = x + 1 := ⟨d - 1, by simp at hd; omega⟩
    have := at_ ns [] t (nd op 0 0 nm (pvV s))
    simp only [List.length_nil, Nat.add_zero, List.nil_append] at this
    subst hk
    unfold wdsQ
    simp only [List.length_cons, List.length_nil, Nat.zero_add, Nat.add_sub_cancel]
    rw [this]
    dsimp only
    rw [if_neg (by omega), if_pos (by omega), fv_pv hp]
  | not k u e hq ih =>
    intro ns t d hk hd; obtain ⟨d, rfl⟩ : ∃ x, d = x + 1 := ⟨d - 1, by simp at hd; omega⟩
    have := at_ ns e t (nd 5 (((k + e.length : Nat) : Int) - 1) 0 ⟨#[]⟩ V.z)
    have hp := hq.pos
    simp only [List.length_append, List.length_cons, List.length_nil] at hd
    have i1 := ih ns ([nd 5 (((k + e.length : Nat) : Int) - 1) 0 ⟨#[]⟩ V.z] ++ t) d hk (by omega)
    rw [hk] at this
    unfold wdsQ
    rw [show k + (e ++ [nd 5 (((k + e.length : Nat) : Int) - 1) 0 ⟨#[]⟩ V.z]).length - 1 = k + e.length by rw [List.length_append]; simp only [List.length_cons, List.length_nil]; omega, this]
    dsimp only
    rw [if_neg (by omega), if_neg (by omega), if_pos (by omega), show (((k + e.length : Nat) : Int) - 1).toNat = k + e.length - 1 by omega, List.append_assoc e, i1]
  | two k op u1 u2 e1 e2 ho hq1 hq2 ih1 ih2 =>
    intro ns t d hk hd; obtain ⟨d, rfl⟩ : ∃ x, d = x + 1 := ⟨d - 1, by simp at hd; omega⟩
    generalize hx : nd op (((k + e1.length : Nat) : Int) - 1) (((k + e1.length + e2.length : Nat) : Int) - 1) ⟨#[]⟩ V.z = x at *
    have := at_ ns (e1 ++ e2) t x
    have hp1 := hq1.pos
    have hp2 := hq2.pos
    simp only [List.length_append, List.length_cons, List.length_nil] at hd
    have i1 := ih1 ns (e2 ++ ([x] ++ t)) d hk (by omega)
    have i2 := ih2 (ns ++ e1) ([x] ++ t) d (by simp [hk]) (by omega)
    have hl : ns ++ (e1 ++ e2 ++ [x] ++ t) = ns ++ (e1 ++ (e2 ++ ([x] ++ t))) := by simp
    have hl2 : ns ++ e1 ++ (e2 ++ ([x] ++ t)) = ns ++ (e1 ++ (e2 ++ ([x] ++ t))) := by simp
    rw [hl2] at i2
    rw [hl] at this ⊢
    rw [hk, List.length_append, ← Nat.add_assoc] at this
    unfold wdsQ
    rw [show k + (e1 ++ e2 ++ [x]).length - 1 = k + e1.length + e2.length by simp; omega, this]
    subst hx
    dsimp only
    rw [if_neg (by omega), if_neg (by omega), if_neg (by omega), if_pos (by omega), show (((k + e1.length : Nat) : Int) - 1).toNat = k + e1.length - 1 by omega, show (((k + e1.length + e2.length : Nat) : Int) - 1).toNat = k + e1.length + e2.length - 1 by omega, i1, i2]
end Go.Proofs.YtodbohmbdgbheaaGreatDoor
