/- A region that draws its order and ends by a store into what it has loaded: the condition on the world need not hold behind that store. No program in sight. -/
import Derived.Test.YtodbohmbdgbheaaGreatDoorG
namespace Go.Proofs.YtodbohmbdgbheaaGreatDoor
section
variable {P : Program} {md : Region.Mode} {ops : Array Oper} {Q : Exit → Act → World → Prop} {S : World → Prop} {T : Nat}
/-- As wpAnyH; but once number T has come up the condition is no longer asked for. -/
def wpT (P : Program) (md : Region.Mode) (ops : Array Oper) (Q : Exit → Act → World → Prop) (T : Nat) (S : World → Prop) : Nat → Array Bool → Act → World → Prop
  | 0, L, a, w => Region.ready md ops L = [] ∧ Q .normal a w
  | n + 1, L, a, w => (Region.ready md ops L = [] → Q .normal a w) ∧ ∀ i ∈ Region.ready md ops L, wpOp P ops Q i (fun a' w' => ((L.setIfInBounds i true).getD T false = true ∨ S w') ∧ wpT P md ops Q T S n (L.setIfInBounds i true) a' w') a w
theorem wpT_any : ∀ (n : Nat) (L : Array Bool) (a : Act) (w : World), wpT P md ops Q T S n L a w → wpAny P md ops Q n L a w
  | 0, _, _, _, h => h
  | n + 1, _, _, _, h => ⟨h.1, fun i hi => wpOp_mono (fun _ _ k => wpT_any n _ _ _ k.2) (h.2 i hi)⟩
/-- Each of cs waits for the one ahead of it (the first for x), and none of them has come up. -/
def waits (md : Region.Mode) (ops : Array Oper) (L : Array Bool) : Nat → List Nat → Bool
  | _, [] => true
  | x, c :: cs => (!L.getD c false) && (match ops[c]? with | some o => o.after.any fun e => Region.binds md e && e.on == x | none => false) && waits md ops L c cs
theorem not_ready {L : Array Bool} : ∀ {cs : List Nat} {x : Nat}, waits md ops L x cs = true → L.getD x false = false → ∀ c, c ∈ cs → c ∉ Region.ready md ops L
  | [], _, _, _, c, hc, _ => by cases hc
  | d :: cs, x, h, hx, c, hc, hr => by
    unfold waits at h
    simp only [Bool.and_eq_true, Bool.not_eq_true'] at h
    obtain ⟨⟨h1, h2⟩, h3⟩ := h
    rcases List.mem_cons.1 hc with rfl | hc
    · obtain ⟨_, o, ho, hall⟩ := mem_ready.1 hr
      rw [ho] at h2
      simp only [Array.any_eq_true] at h2
      obtain ⟨j, hj, he⟩ := h2
      simp only [Bool.and_eq_true, beq_iff_eq] at he
      have h4 := hall _ (Array.getElem_mem hj) he.1
      rw [he.2, hx] at h4
      cases h4
    · exact not_ready h3 h1 c hc hr
theorem waits_set {L : Array Bool} {j : Nat} : ∀ {cs : List Nat} {x : Nat}, waits md ops L x cs = true → j ∉ cs → waits md ops (L.setIfInBounds j true) x cs = true
  | [], _, _, _ => rfl
  | d :: cs, x, h, hj => by
    unfold waits at h ⊢
    simp only [Bool.and_eq_true] at h ⊢
    have hne : j ≠ d := fun e => hj (by rw [e]; exact List.mem_cons_self ..)
    exact ⟨⟨by rw [getD_set_ne false hne]; exact h.1.1, h.1.2⟩, waits_set h.2 fun k => hj (List.mem_cons_of_mem _ k)⟩
theorem waits_off {L : Array Bool} : ∀ {cs : List Nat} {x : Nat}, waits md ops L x cs = true → ∀ c, c ∈ cs → L.getD c false = false
  | [], _, _, c, hc => by cases hc
  | d :: cs, x, h, c, hc => by
    unfold waits at h
    simp only [Bool.and_eq_true, Bool.not_eq_true'] at h
    rcases List.mem_cons.1 hc with rfl | hc
    · exact h.1.1
    · exact waits_off h.2 c hc
theorem off_of_ready {L : Array Bool} {i : Nat} (h : i ∈ Region.ready md ops L) : L.getD i false = false := by
  have h1 := (mem_ready.1 h).1
  rcases Nat.lt_or_ge i L.size with h2 | h2
  · simp [h2] at h1 ⊢; exact h1
  · simp [Array.getElem?_eq_none h2] at h1
/-- Number i may be taken now: what it yields hangs on nothing, or on S alone, and T waits for it. -/
theorem takeT {i : Nat} {oi : Oper} {v : Value} {X : World → Prop} {cs : List Nat} (hi : ops[i]? = some oi) (hsel : ∀ (j : Nat) (o : Oper) k b, ops[j]? = some o → o.op ≠ .select k b)
    (hQ : ∀ c a w, Q (.panic c) (a.put oi.dst v) w → Q (.panic c) a w) (hiT : i ≠ T) (hX : (∀ w, X w) ∨ ((∀ w, S w → X w) ∧ T ∈ cs)) :
    ∀ (n : Nat) (L : Array Bool) (a : Act) (w : World),
      (∀ j oj, ops[j]? = some oj → j ≠ i → L.getD j true = false → (∀ e ∈ oj.after, Region.binds md e = true → e.on ≠ i) → oi.apart ops oj = true) →
      i ∈ Region.ready md ops L → ((∀ w, X w) ∨ waits md ops L i cs = true) → YieldsIf P ops X oi v a → X w → (L.getD T false = true ∨ S w) →
      wpT P md ops Q T S n (L.setIfInBounds i true) (a.put oi.dst v) w → wpT P md ops Q T S (n + 1) L a w := by
  intro n
  induction n with
  | zero =>
    intro L a w _ hr _ hy hx hS H
    refine ⟨fun h => (by rw [h] at hr; cases hr), fun j hj => ?_⟩
    by_cases hji : j = i
    · subst hji
      exact hy.wpOp hi hx ⟨by rw [getD_set_ne false hiT]; exact hS, H⟩
    · have := ready_mono hj hji
      rw [H.1] at this
      cases this
  | succ n ih =>
    intro L a w hfree hr hch hy hx hS H
    refine ⟨fun h => (by rw [h] at hr; cases hr), fun j hj => ?_⟩
    by_cases hji : j = i
    · subst hji
      exact hy.wpOp hi hx ⟨by rw [getD_set_ne false hiT]; exact hS, H⟩
    · obtain ⟨hjun, oj, hoj, hall⟩ := mem_ready.1 hj
      have hno : ∀ e ∈ oj.after, Region.binds md e = true → e.on ≠ i := fun e he hb heq => by
        have k1 := hall e he hb
        rw [heq, off_of_ready hr] at k1
        cases k1
      have hput := wpOp_putIf hoj (hfree j oj hoj hji hjun hno) (fun k b => hsel i oi k b hi) (fun k b => hsel j oj k b hoj) hQ hy (H.2 j (ready_mono hj hji))
      have hoff := off_of_ready hr
      refine wpOp_mono (fun a' w' h3 => ?_) hput
      obtain ⟨hy', hc', H'⟩ := h3
      rw [Array.setIfInBounds_comm _ _ (Ne.symm hji), getD_set_ne false hiT] at hc'
      have hx' : X w' := by
        rcases hX with h | ⟨h, hT⟩
        · exact h w'
        · rcases hch with h5 | h5
          · exact h5 w'
          · rcases hc' with h6 | h6
            · have hjT : j ≠ T := fun e => not_ready h5 hoff T hT (by rw [← e]; exact hj)
              rw [getD_set_ne false hjT, waits_off h5 T hT] at h6
              cases h6
            · exact h w' h6
      have hch' : (∀ w, X w) ∨ waits md ops (L.setIfInBounds j true) i cs = true := by
        rcases hch with h5 | h5
        · exact .inl h5
        · exact .inr (waits_set h5 fun hm => not_ready h5 hoff j hm hj)
      have hfree' : ∀ k ok, ops[k]? = some ok → k ≠ i → (L.setIfInBounds j true).getD k true = false → (∀ e ∈ ok.after, Region.binds md e = true → e.on ≠ i) → oi.apart ops ok = true := fun k ok hk hki hun hn => by
        refine hfree k ok hk hki ?_ hn
        by_cases hjk : j = k
        · subst hjk; exact hjun
        · rw [getD_set_ne true hjk] at hun; exact hun
      refine ⟨hc', ih _ a' w' hfree' (ready_mono hr (Ne.symm hji)) hch' hy' hx' hc' ?_⟩
      rw [Array.setIfInBounds_comm _ _ hji]
      exact H'
theorem wp_region_T {id : Nat} {a : Act} {w : World} (T : Nat) (S : World → Prop) (hm : P.follows .mixedOrders = true) (hS : S w.drew)
    (h : (((Array.replicate ops.size false).getD T false = true) ∨ S w.drew) → wpT P .any ops Q T S ops.size (Array.replicate ops.size false) a w.drew) : (Code.region id ops true).wp P Q a w :=
  wp_region_any hm (wpT_any _ _ _ _ (h (.inr hS)))
/-- A load, or what needs no world, is taken; T waits for it by way of cs (cs may be empty for what needs no world). -/
theorem tkT (i : Nat) (cs : List Nat) {oi : Oper} {rs : List Oper} {v : Value} {n : Nat} {L L' : Array Bool} {a a' : Act} {w : World} (hS : S w)
    (h : wpT P md ops (NoPanic Q) T S n L' a' w)
    (hi : ops.toList.drop i = oi :: rs := by rfl)
    (hc : (Region.noSelect ops && (Region.free md ops L i && (Region.ready md ops L).contains i)) = true := by kernel_rfl)
    (hch : (waits md ops L i cs && (cs.contains T && !(i == T))) = true := by kernel_rfl)
    (hw : Region.wanted oi (yielded ops a.tmps) = true := by rfl)
    (hy : ∀ w, S w → (execOp a.eval oi).run P w = .ok (.value v) w := by (intro w' hSw; (try dsimp only at hSw); go_simp <;> (with_reducible rfl)))
    (hl : L.setIfInBounds i true = L' := by ((try simp only [lpa, lpb, lpc]) <;> rfl))
    (ha : a.put oi.dst v = a' := by ((try simp only [Act.put, lpa, lpb, lpc]) <;> rfl)) :
    wpT P md ops (NoPanic Q) T S (n + 1) L a w := by
  subst hl; subst ha
  have h3 := chk3 hch
  exact takeT (X := S) (cs := cs) (at_of_drop hi) (Region.noSelect_spec (chk3 hc).1) (fun _ _ _ h => h) (by have := h3.2.2; simpa using this) (.inr ⟨fun _ h => h, by have := h3.2.1; simpa using this⟩) n L a w (Region.free_spec (at_of_drop hi) (chk3 hc).2.1) (by have := (chk3 hc).2.2; simpa using this) (.inr h3.1) (.inl ⟨hw, hy⟩) hS (.inr hS) h
theorem tkP (i : Nat) {oi : Oper} {rs : List Oper} {v : Value} {n : Nat} {L L' : Array Bool} {a a' : Act} {w : World} (hS : L.getD T false = true ∨ S w)
    (h : wpT P md ops (NoPanic Q) T S n L' a' w)
    (hi : ops.toList.drop i = oi :: rs := by rfl)
    (hc : (Region.noSelect ops && (Region.free md ops L i && (Region.ready md ops L).contains i)) = true := by kernel_rfl)
    (hiT : (i == T) = false := by kernel_rfl)
    (hw : Region.wanted oi (yielded ops a.tmps) = true := by rfl)
    (hy : ∀ w, (execOp a.eval oi).run P w = .ok (.value v) w := by (intro w'; go_simp <;> (with_reducible rfl)))
    (hl : L.setIfInBounds i true = L' := by ((try simp only [lpa, lpb, lpc]) <;> rfl))
    (ha : a.put oi.dst v = a' := by ((try simp only [Act.put, lpa, lpb, lpc]) <;> rfl)) :
    wpT P md ops (NoPanic Q) T S (n + 1) L a w := by
  subst hl; subst ha
  exact takeT (X := fun _ => True) (cs := []) (at_of_drop hi) (Region.noSelect_spec (chk3 hc).1) (fun _ _ _ h => h) (by simpa using hiT) (.inl fun _ => trivial) n L a w (Region.free_spec (at_of_drop hi) (chk3 hc).2.1) (by have := (chk3 hc).2.2; simpa using this) (.inl fun _ => trivial) (.inl ⟨hw, fun w _ => hy w⟩) trivial hS h
/-- The one operation that may come up is run; S is to be shown behind it. -/
theorem clT (i : Nat) {oi : Oper} {rs : List Oper} {n : Nat} {L : Array Bool} {a : Act} {w : World}
    (h : ∀ K' : Act → World → Prop, Shut (∀ a w, S w → (S w → wpT P md ops Q T S n (L.setIfInBounds i true) a w) → K' a w) → if Region.wanted oi (yielded ops a.tmps) = true then Oper.wp P oi a w K' Q else K' (a.put oi.dst undef) w)
    (hi : ops.toList.drop i = oi :: rs := by rfl) (hr : Region.ready md ops L = [i] := by kernel_rfl) : wpT P md ops Q T S (n + 1) L a w :=
  ⟨fun h0 => absurd (hr ▸ h0) (by simp), fun j hj => by
    rw [hr] at hj
    obtain rfl : j = i := by simpa using hj
    exact wpOp_step (at_of_drop hi) fun K' hK => h K' fun a w hS hW => hK a w ⟨.inr hS, hW hS⟩⟩
/-- Two may come up. -/
theorem clT2 (i j : Nat) {oi oj : Oper} {rs rt : List Oper} {n : Nat} {L : Array Bool} {a : Act} {w : World}
    (h : ∀ K' : Act → World → Prop, Shut (∀ a w, S w → (S w → wpT P md ops Q T S n (L.setIfInBounds i true) a w) → K' a w) → if Region.wanted oi (yielded ops a.tmps) = true then Oper.wp P oi a w K' Q else K' (a.put oi.dst undef) w)
    (h' : ∀ K' : Act → World → Prop, Shut (∀ a w, S w → (S w → wpT P md ops Q T S n (L.setIfInBounds j true) a w) → K' a w) → if Region.wanted oj (yielded ops a.tmps) = true then Oper.wp P oj a w K' Q else K' (a.put oj.dst undef) w)
    (hi : ops.toList.drop i = oi :: rs := by rfl) (hj : ops.toList.drop j = oj :: rt := by rfl) (hr : Region.ready md ops L = [i, j] := by kernel_rfl) : wpT P md ops Q T S (n + 1) L a w :=
  ⟨fun h0 => absurd (hr ▸ h0) (by simp), fun k hk => by
    rw [hr] at hk
    rcases List.mem_cons.1 hk with rfl | hk
    · exact wpOp_step (at_of_drop hi) fun K' hK => h K' fun a w hS hW => hK a w ⟨.inr hS, hW hS⟩
    · obtain rfl : k = j := by simpa using hk
      exact wpOp_step (at_of_drop hj) fun K' hK => h' K' fun a w hS hW => hK a w ⟨.inr hS, hW hS⟩⟩
/-- Number T itself: nothing is to be shown behind it. -/
theorem clE {oi : Oper} {rs : List Oper} {n : Nat} {L : Array Bool} {a : Act} {w : World}
    (h : ∀ K' : Act → World → Prop, Shut (∀ a w, (((L.setIfInBounds T true).getD T false = true ∨ S w) → wpT P md ops Q T S n (L.setIfInBounds T true) a w) → K' a w) → if Region.wanted oi (yielded ops a.tmps) = true then Oper.wp P oi a w K' Q else K' (a.put oi.dst undef) w)
    (hi : ops.toList.drop T = oi :: rs := by rfl) (hr : Region.ready md ops L = [T] := by kernel_rfl) (hl : (L.setIfInBounds T true).getD T false = true := by kernel_rfl) : wpT P md ops Q T S (n + 1) L a w :=
  ⟨fun h0 => absurd (hr ▸ h0) (by simp), fun j hj => by
    rw [hr] at hj
    obtain rfl : j = T := by simpa using hj
    exact wpOp_step (at_of_drop hi) fun K' hK => h K' fun a w hW => hK a w ⟨.inl hl, hW (.inl hl)⟩⟩
theorem doneT {n : Nat} {L : Array Bool} {a : Act} {w : World} (h : Q .normal a w) (hr : Region.ready md ops L = [] := by kernel_rfl) : wpT P md ops Q T S n L a w := by
  cases n with
  | zero => exact ⟨hr, h⟩
  | succ n => exact ⟨fun _ => h, by rw [hr]; simp⟩
end
end Go.Proofs.YtodbohmbdgbheaaGreatDoor
