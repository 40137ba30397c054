/- Texts of queries: the words of a text are its fields; a text is short. No program in sight. -/
import Derived.Test.YtodbohmbdgbheaaGreatDoorTx4
import Derived.Lib.Fields
namespace Go.Proofs.YtodbohmbdgbheaaGreatDoor
open Go.RowKit
set_option linter.unusedVariables false
/-- A word: no blanks, not empty, at most six letters. -/
def Wd (l : List UInt8) : Prop := l ≠ [] ∧ l.length ≤ 6 ∧ ∀ b ∈ l, 33 ≤ b.toNat ∧ b.toNat ≤ 126
theorem isSp_no {b : UInt8} (h : 33 ≤ b.toNat ∧ b.toNat ≤ 126) : Lib.isSp b = false := by
  have key : ∀ i : Fin 256, Lib.isSp (UInt8.ofNat i.val) = true → i.val ≤ 32 := by decide +kernel
  cases hb : Lib.isSp b with
  | false => rfl
  | true =>
    have := key ⟨b.toNat, b.toNat_lt⟩ (by rw [UInt8.ofNat_toNat]; exact hb)
    simp only at this
    omega
theorem fields_word : ∀ (l cur r : List UInt8), (∀ b ∈ l, 33 ≤ b.toNat ∧ b.toNat ≤ 126) → Lib.fieldsGo cur (l ++ r) = Lib.fieldsGo (cur ++ l) r
  | [], cur, r, _ => by simp
  | b :: l, cur, r, h => by
    rw [List.cons_append, Lib.fieldsGo_more _ _ _ (isSp_no (h b (List.mem_cons_self ..))), fields_word l _ r (fun x hx => h x (List.mem_cons_of_mem _ hx)), List.append_assoc]
    rfl
theorem fields_tail : ∀ (ws : List (List UInt8)) (cur t : List UInt8), (∀ w ∈ ws, Wd w) → cur ≠ [] → (t = [] ∨ t = [32]) → Lib.fieldsGo cur (Lib.joinTail [32] ws ++ t) = cur :: ws
  | [], cur, t, _, hc, ht => by
    rcases ht with rfl | rfl
    · simp only [Lib.joinTail, List.map_nil, List.flatten_nil, List.append_nil, Lib.fieldsGo]
      cases cur with
      | nil => exact absurd rfl hc
      | cons _ _ => rfl
    · show Lib.fieldsGo cur [32] = _
      rw [Lib.fieldsGo_end _ _ _ (by decide) hc]; rfl
  | w :: ws, cur, t, h, hc, ht => by
    have hw := h w (List.mem_cons_self ..)
    have e : Lib.joinTail [32] (w :: ws) ++ t = 32 :: (w ++ (Lib.joinTail [32] ws ++ t)) := by simp [Lib.joinTail]
    rw [e, Lib.fieldsGo_end _ _ _ (by decide) hc, fields_word w [] _ hw.2.2, List.nil_append, fields_tail ws w t (fun x hx => h x (List.mem_cons_of_mem _ hx)) hw.1 ht]
theorem fields_join {ws : List (List UInt8)} (h : ∀ w ∈ ws, Wd w) (hne : ws ≠ []) {t : List UInt8} (ht : t = [] ∨ t = [32]) : Lib.fields (Lib.join ws [32] ++ t) = ws := by
  cases ws with
  | nil => exact absurd rfl hne
  | cons w r =>
    have hw := h w (List.mem_cons_self ..)
    unfold Lib.fields
    rw [Lib.join_cons, List.append_assoc, fields_word w [] _ hw.2.2, List.nil_append]
    exact fields_tail r w t (fun x hx => h x (List.mem_cons_of_mem _ hx)) hw.1 ht
theorem fields_pad {l : List UInt8} : Lib.fields (32 :: 32 :: l) = Lib.fields l := by
  unfold Lib.fields
  rw [Lib.fieldsGo_sp _ _ (by decide), Lib.fieldsGo_sp _ _ (by decide)]
theorem join_len : ∀ (ws : List (List UInt8)), (∀ w ∈ ws, Wd w) → (Lib.join ws [32]).length ≤ 7 * ws.length
  | [], _ => by simp [Lib.join_nil]
  | w :: r, h => by
    have hw := h w (List.mem_cons_self ..)
    rw [Lib.join_cons, List.length_append, Lib.joinTail_length]
    have : Lib.lens r ≤ 6 * r.length := by
      have h2 : ∀ x ∈ r, Wd x := fun x hx => h x (List.mem_cons_of_mem _ hx)
      clear h hw
      induction r with
      | nil => simp [Lib.lens]
      | cons y r ih =>
        have h3 := (h2 y (List.mem_cons_self ..)).2.1
        have h4 := ih (fun x hx => h2 x (List.mem_cons_of_mem _ hx))
        simp only [Lib.lens, List.map_cons, List.sum_cons, List.length_cons] at h4 ⊢
        omega
    have := hw.2.1
    simp only [List.length_cons, List.length_nil]
    omega
theorem join_bytes {ws : List (List UInt8)} (h : ∀ w ∈ ws, Wd w) : ∀ b ∈ Lib.join ws [32], 32 ≤ b.toNat ∧ b.toNat ≤ 126 := by
  cases ws with
  | nil => intro b hb; simp [Lib.join_nil] at hb
  | cons w r =>
    intro b hb
    rw [Lib.join_cons, List.mem_append] at hb
    rcases hb with hb | hb
    · have := (h w (List.mem_cons_self ..)).2.2 b hb; omega
    · unfold Lib.joinTail at hb
      rw [List.mem_flatten] at hb
      obtain ⟨l, hl, hb⟩ := hb
      obtain ⟨y, hy, rfl⟩ := List.mem_map.1 hl
      rcases List.mem_append.1 hb with hb | hb
      · rw [List.mem_singleton] at hb; subst hb; decide
      · have := (h y (List.mem_cons_of_mem _ hy)).2.2 b hb; omega
theorem kw_wd {i : Nat} (h1 : 1 ≤ i) (h9 : i ≤ 9) : Wd (kw (i : Nat)).data.toList := by
  have : i = 1 ∨ i = 2 ∨ i = 3 ∨ i = 4 ∨ i = 5 ∨ i = 6 ∨ i = 7 ∨ i = 8 ∨ i = 9 := by omega
  unfold Wd
  rcases this with rfl | rfl | rfl | rfl | rfl | rfl | rfl | rfl | rfl <;> decide
theorem txt_wd {s : By} {m : Int} (h : txtB s m = true) (hm : m ≤ 6) : Wd s.data.toList := by
  refine ⟨fun e => txtB_ne h (ba_ext (b := ⟨#[]⟩) e), ?_, ?_⟩
  · have h2 := h
    unfold txtB at h2
    simp only [Bool.and_eq_true, inB, decide_eq_true_eq] at h2
    have : s.size = s.data.toList.length := by rw [Array.length_toList]; rfl
    omega
  · intro b hb
    have hl : low s := by
      unfold txtB at h
      rw [Bool.and_eq_true] at h
      have h := h.1
      unfold lowB at h
      exact @of_decide_eq_true _ (Classical.propDecidable _) h
    obtain ⟨i, hi⟩ := List.getElem?_of_mem hb
    have h2 : s.data[i]? = some b := by rw [← Array.getElem?_toList]; exact hi
    obtain ⟨h3, h4⟩ := Array.getElem?_eq_some_iff.1 h2
    have h5 := hl i h3
    have h6 : s[i]'h3 = b := h4
    rw [h6] at h5
    omega
theorem dec_short {n : Nat} (h : n ≤ 999) : (Lib.decDigits n).length ≤ 3 := by
  rw [Lib.decDigits_length]
  by_cases h1 : n < 10
  · rw [Lib.nDigits_small h1]; omega
  · rw [Lib.nDigits_big h1]
    by_cases h2 : n / 10 < 10
    · rw [Lib.nDigits_small h2]; omega
    · rw [Lib.nDigits_big h2, Lib.nDigits_small (by omega)]; omega
theorem pv_wd {s : By} (h : pvB s = true) : Wd s.data.toList := by
  unfold pvB pvV at h
  cases hp : puN s.data.toList with
  | some n =>
    rw [hp] at h
    have hn : n ≤ 999 := by
      simp only [valB, inB] at h
      simp at h
      omega
    have hs := (puN_some hp).2
    rw [hs]
    refine ⟨dec_ne n, by have := dec_short hn; omega, fun b hb => ?_⟩
    have := dec_digits n b hb
    omega
  | none =>
    rw [hp] at h
    dsimp only at h
    by_cases hd : s = ⟨#[45]⟩
    · subst hd; unfold Wd; decide
    · rw [if_neg hd] at h
      have : txtB s 6 = true := by
        simp [valB] at h
        exact h
      exact txt_wd this (by decide)
/-- The words of what is read. -/
theorem Rq.words {k : Nat} {u : List By} {e : List N} (h : Rq k u e) : (∀ x ∈ e, NV x) → (∀ w ∈ bys u, Wd w) ∧ u.length ≤ 2 * e.length + 1 := by
  have two : ∀ {a : List UInt8} {r : List (List UInt8)}, Wd a → (∀ w ∈ r, Wd w) → ∀ w ∈ a :: r, Wd w := fun h1 h2 w hw => by
    rcases List.mem_cons.1 hw with rfl | hw
    · exact h1
    · exact h2 w hw
  induction h with
  | all k => exact fun _ => ⟨two (kw_wd (by decide) (by decide)) (fun w hw => by cases hw), by simp⟩
  | name k op nm ho =>
    intro hv
    have hN := hv (nd op 0 0 nm V.z) (List.mem_singleton.2 rfl)
    unfold NV at hN
    refine ⟨two (kw_wd (by omega) (by omega)) (two ?_ (fun w hw => by cases hw)), by simp⟩
    rcases ho with rfl | rfl | rfl <;> simp at hN
    · exact txt_wd hN (by decide)
    · exact txt_wd hN (by decide)
    · exact txt_wd hN (by decide)
  | val k op nm s ho hp =>
    intro hv
    have hN := hv (nd op 0 0 nm (pvV s)) (List.mem_singleton.2 rfl)
    unfold NV at hN
    refine ⟨two (kw_wd (by omega) (by omega)) (two ?_ (two (pv_wd hp) (fun w hw => by cases hw))), by simp⟩
    rcases ho with rfl | rfl <;> simp at hN
    · exact txt_wd hN.1 (by decide)
    · exact txt_wd hN.1 (by decide)
  | not k u e hq ih =>
    intro hv
    obtain ⟨h1, h2⟩ := ih (fun x hx => hv x (List.mem_append_left _ hx))
    refine ⟨two (kw_wd (by decide) (by decide)) h1, ?_⟩
    simp only [List.length_cons, List.length_append, List.length_nil]
    omega
  | two k op u1 u2 e1 e2 ho hq1 hq2 ih1 ih2 =>
    intro hv
    obtain ⟨h1, h2⟩ := ih1 (fun x hx => hv x (by simp [hx]))
    obtain ⟨h3, h4⟩ := ih2 (fun x hx => hv x (by simp [hx]))
    refine ⟨two (kw_wd (by omega) (by omega)) (fun w hw => ?_), ?_⟩
    · rw [List.map_append, List.mem_append] at hw
      exact hw.elim (h1 w) (h3 w)
    · simp only [List.length_cons, List.length_append, List.length_nil]
      omega
/-- THE ROUND TRIP: the text of a valid query, its words, what is read. -/
theorem trip2 {q : List N} (hq : qryB q = true) : ∃ p e, txq q = Lib.join (bys p) [32] ∧ Rq 0 p e ∧ qryB e = true ∧ txq e = txq q ∧ (∀ w ∈ bys p, Wd w) ∧ p ≠ [] ∧ p.length ≤ 19 ∧ (txq q).length ≤ 133 := by
  have hl := txq_len hq
  obtain ⟨e, h1, h2, h3⟩ := wds_rq hq q.length (q.length - 1) (by omega) (by omega) 0
  rw [tsz_all hq] at h2
  have h4 := h1.qry (by omega) h3
  have h5 : txq q = Lib.join (bys (wdsQ q q.length (q.length - 1))) [32] := by unfold txq; rw [if_pos hq]
  obtain ⟨h6, h7⟩ := h1.words h3
  have h8 := h1.pos
  refine ⟨_, e, h5, h1, h4, by rw [h1.tx h4, h5], h6, fun hc => by rw [hc] at h8; simp at h8, by omega, ?_⟩
  have := join_len _ h6
  rw [h5]
  rw [List.length_map] at this
  omega
theorem txq_no {q : List N} (hq : qryB q = false) : txq q = [] := by unfold txq; rw [hq]; rfl
theorem txq_yes {q : List N} (hq : qryB q = true) : txq q ≠ [] := by
  obtain ⟨p, e, h1, h2, h3, h4, h5, h6, h7, h8⟩ := trip2 hq
  rw [h1]
  exact join_ne h2.head
end Go.Proofs.YtodbohmbdgbheaaGreatDoor
