/- Contract: ParseQuery of the program. -/
import Derived.Test.YtodbohmbdgbheaaGreatDoorTx22
import Derived.Test.YtodbohmbdgbheaaGreatDoorTx20
namespace Go.Proofs.YtodbohmbdgbheaaGreatDoor
open Go.RowKit
set_option linter.unusedVariables false
theorem rdI_short : ∀ (d : Nat) (ws : List By) (ns : List N), (∀ x, x ∈ ws → x.size ≤ 600) → (∀ x, x ∈ ns → Shrt x) → ∀ x, x ∈ (rdI d ws ns).2.2 → Shrt x
  | 0, ws, ns, _, hn => by simpa [rdI] using hn
  | d + 1, ws, ns, hw, hn => by
    have app : ∀ (l : List N) (y : N), (∀ x, x ∈ l → Shrt x) → Shrt y → ∀ x, x ∈ l ++ [y] → Shrt x := fun l y h1 h2 x hx => by
      rcases List.mem_append.1 hx with hx | hx
      · exact h1 x hx
      · rw [List.mem_singleton.1 hx]; exact h2
    have hle := opOf_le (hdB ws)
    obtain ⟨q, hq⟩ : ∃ q, opOf (hdB ws) = q := ⟨_, rfl⟩
    rw [hq] at hle
    have hA := rdI_short d ws.tail ns (tail_short hw) hn
    have hM := (rdI_b d ws.tail ns).1
    obtain ⟨⟨ab, aw, an⟩, ha⟩ : ∃ y, rdI d ws.tail ns = y := ⟨_, rfl⟩
    rw [ha] at hA hM
    dsimp only at hA hM
    have hqc : q = 0 ∨ q = 1 ∨ (q = 2 ∨ q = 8 ∨ q = 9) ∨ (q = 3 ∨ q = 4) ∨ q = 5 ∨ (q = 6 ∨ q = 7) := by omega
    rcases hqc with rfl | rfl | h | h | rfl | h
    · rw [rdI_0 hq]; exact app _ _ hn (shrt_leaf _ _ _)
    · rw [rdI_1 hq]; exact app _ _ hn (shrt_leaf _ _ _)
    · rw [rdI_2 hq h]; exact app _ _ hn ⟨hd_short (tail_short hw), nil_short⟩
    · rw [rdI_3 hq h]; exact app _ _ hn ⟨hd_short (tail_short hw), pvR_size (hd_short (tail_short (tail_short hw)))⟩
    · rw [rdI_5 hq ha]; exact app _ _ hA (shrt_leaf _ _ _)
    · cases ab with
      | false => rw [rdI_no hq h ha]; exact app _ _ hA (shrt_leaf _ _ _)
      | true =>
        have hB := rdI_short d aw an (fun x hx => tail_short hw x (hM x hx)) hA
        obtain ⟨⟨bb, bw, bn⟩, hb⟩ : ∃ y, rdI d aw an = y := ⟨_, rfl⟩
        rw [hb] at hB
        rw [rdI_yes hq h ha hb]; exact app _ _ hB (shrt_leaf _ _ _)
theorem RI.new {w : World} {F : Nat} {v : Value} {ws : List By} (h : RdF w F v ws) (T : TypeId) : RI (w.alloc (.cells #[v, .slice none 0 0] T)) w.heap.size F (w.heap.size + 1) ws (.slice none 0 0) [] := by
  have h2 := h.grew ((Grew.refl w).alloc (.cells #[v, .slice none 0 0] T))
  obtain ⟨o, c, _, _, hf, _⟩ := h
  exact ⟨⟨v, by simp, h2⟩, by simp, by simp [go_sem], by simp [go_sem], World.ownsRow_nil _ _ _ _, hf, Nat.lt_succ_self _, by simp⟩
theorem pq_le (s : By) : (pqN s).length ≤ 4000000 := by
  cases h : pqB s with
  | false => rw [pq_no h]; exact Nat.zero_le _
  | true => have := pq_len h; omega
set_option maxRecDepth 100000 in
set_option maxHeartbeats 4000000 in
theorem implParseQuery (s : By) (hs : s.size ≤ 4000000) (w : World) (ht : TabP w) (hE : ErrS w) (hA : TabA w) :
    Calls Tryz.prog 8 #[.string s] w fun e w' => ∃ v, e = .returned (.tuple #[v, .bool (pqB s)]) ∧ w'.ownsRow w.heap.size 38 7 v (pqN s).length (rows N.c (pqN s)) ∧ Grew w w' := by
  have HT := Lib.hid ht
  have HE := Lib.hid hE
  have HTA := Lib.hid hA
  clear ht hE hA
  have HNO : Hid (∀ w', Grew w w' → pqB s = false → w'.ownsRow w.heap.size 38 7 (.slice none 0 0) (pqN s).length (rows N.c (pqN s))) := Lib.hid fun w' _ h => by
    rw [pq_no h]; exact World.ownsRow_nil _ _ _ _
  obtain ⟨b, hb_⟩ : ∃ b, sfB s = b := ⟨_, rfl⟩
  have HSB := Lib.hid hb_
  cases b with
  | false =>
    have HP := Lib.hid (show pqB s = false by unfold pqB; rw [hb_]; rfl)
    clear hb_
    go_enter Tryz.func8, Tryz.ntmps8
    go_wp2_with fail
    refine (implSplitFields s hs _ HTA.out).mono ?_
    rintro e w1 ⟨v1, he, _, g1⟩
    rw [HSB.out] at he
    subst he
    go_wp2
    go_ret2
    exact ⟨_, (by rw [HP.out] <;> rfl), HNO.out _ g1 HP.out, g1⟩
  | true =>
    obtain ⟨hsh, hp24⟩ := sfL_short hb_
    have HPB := Lib.hid (show pqB s = okI (sfL s) by unfold pqB; rw [hb_]; rfl)
    have HPN := Lib.hid (fun h : pqB s = true => pq_yes h)
    clear hb_
    obtain ⟨p, hp_⟩ : ∃ y, sfL s = y := ⟨_, rfl⟩
    have HPP := Lib.hid hp_
    rw [hp_] at hsh hp24 HPB HPN
    have HSH := Lib.hid hsh
    have hA0 := rdI_b (p.length + 10) p []
    have hS0 := rdI_short (p.length + 10) p [] hsh (fun x hx => by cases hx)
    clear hp_ hsh
    obtain ⟨⟨ab, aw, an⟩, ha_⟩ : ∃ y, rdI (p.length + 10) p [] = y := ⟨_, rfl⟩
    rw [ha_] at hA0 hS0 HPN
    have HOK := Lib.hid (show pqB s = (ab && (aw.isEmpty && qryB an)) by rw [HPB.out]; unfold okI; rw [ha_])
    have HA := Lib.hid ha_
    dsimp only at hA0 hS0 HPN
    obtain ⟨_, hal, han, _⟩ := hA0
    simp only [List.length_nil] at han
    have hsz := short_sz an hS0
    have hn4 : an.length ≤ 4000000 := by omega
    have hsz4 : szAll N.sz an ≤ 4000000 := by omega
    clear hS0 ha_ HPB hsz
    go_enter Tryz.func8, Tryz.ntmps8
    go_wp2_with fail
    refine (implSplitFields s hs _ HTA.out).mono ?_
    rintro e w1 ⟨v1, he, hrd, g1⟩
    rw [HSB.out] at he
    subst he
    have h1 := hrd HSB.out
    rw [HPP.out] at h1
    have R1 := Lib.hid h1
    have G1 := Lib.hid g1
    have hs1 := g1.size
    obtain ⟨o1, k1, hv1, _, _, _⟩ := h1
    subst hv1
    clear hrd g1
    have hrl : p.length ≤ 1000 := by omega
    go_wp2_with fail
    refine (implNode w1.heap.size w.heap.size (w1.heap.size + 1) w HT.out HE.out hs1 (p.length + 10) p [] (.slice none 0 0) _ (by omega) hrl (by simp only [List.length_nil]; omega) (fun x hx => by have := HSH.out x hx; omega) (RI.new R1.out _) (G1.out.alloc _)).mono ?_
    rintro e w2 ⟨v2, he, r2, x2⟩
    rw [HA.out] at he r2 
    dsimp only at he r2
    subst he
    have G2 := Lib.hid (x2.grewTo (G1.out.alloc _) (fun k hk => by injection hk with hk; omega) (fun k hk => by cases hk))
    have R2 := Lib.hid r2
    clear r2 x2
    cases ab with
    | false =>
      have HP := Lib.hid (show pqB s = false by rw [HOK.out]; rfl)
      go_wp2
      go_ret2
      exact ⟨_, (by rw [HP.out] <;> rfl), HNO.out _ G2.out HP.out, G2.out⟩
    | true =>
      obtain ⟨fv, c0, o, c, hfv, _, _, _⟩ := R2.out.f
      subst hfv
      have c1 := R2.out.n
      obtain ⟨va, vc, hv_⟩ := own_slice R2.out.own
      subst hv_
      by_cases hw0 : aw = []
      · subst hw0
        simp only [List.length_nil] at c0
        obtain ⟨vb, hvb⟩ : ∃ y, qryB an = y := ⟨_, rfl⟩
        have HVB := Lib.hid hvb
        have HQ := Lib.hid (show pqB s = vb by rw [HOK.out, hvb]; rfl)
        clear hvb
        go_wp2_with fail
        refine (implIsValidQuery _ an.length an _ (rd_of_own R2.out.own) hn4 hsz4).mono ?_
        rintro e w3 ⟨he, g3⟩
        rw [HVB.out] at he
        subst he
        have c1' := grew_cell g3 c1
        have G3 := Lib.hid (G2.out.trans g3)
        have O3 := Lib.hid (ownsRow_grew R2.out.own g3)
        clear c0 c1
        cases vb with
        | false =>
          go_wp2
          go_ret2
          exact ⟨_, (by rw [HQ.out] <;> rfl), HNO.out _ G3.out HQ.out, G3.out⟩
        | true =>
          go_wp2
          go_ret2
          refine ⟨_, (by rw [HQ.out] <;> rfl), ?_, G3.out⟩
          rw [HPN.out HQ.out]
          exact ownsRow_base O3.out (by omega)
      · have HP := Lib.hid (show pqB s = false by rw [HOK.out, show aw.isEmpty = false by simpa using hw0]; rfl)
        have hpos : (0 : Int) < aw.length := by
          have := List.length_pos_iff.2 hw0
          omega
        go_wp2
        go_ret2
        exact ⟨_, (by rw [HP.out] <;> rfl), HNO.out _ G2.out HP.out, G2.out⟩
end Go.Proofs.YtodbohmbdgbheaaGreatDoor
