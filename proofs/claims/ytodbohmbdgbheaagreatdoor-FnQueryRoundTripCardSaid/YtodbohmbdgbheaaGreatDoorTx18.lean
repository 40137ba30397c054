/- Contracts: l10Join, ParseQuery of the reference. -/
import Derived.Test.YtodbohmbdgbheaaGreatDoorTx17
import Derived.Test.YtodbohmbdgbheaaGreatDoorTx9
import Derived.Test.YtodbohmbdgbheaaGreatDoorTx8
namespace Go.Proofs.YtodbohmbdgbheaaGreatDoor
open Go.RowKit
set_option linter.unusedVariables false
/-- A short node. -/
def Shrt (x : N) : Prop := x.name.size ≤ 600 ∧ x.val.str.size ≤ 600
theorem nil_short : (⟨#[]⟩ : By).size ≤ 600 := by decide
theorem pvR_size {s : By} (h : s.size ≤ 600) : (pvR s).str.size ≤ 600 := by
  unfold pvR
  split
  · unfold pvV
    split
    · exact nil_short
    · split
      · exact nil_short
      · exact h
  · exact nil_short
theorem hd_short {ws : List By} (h : ∀ x, x ∈ ws → x.size ≤ 600) : (hdB ws).size ≤ 600 := by
  cases ws with
  | nil => decide
  | cons x r => exact h x (List.mem_cons_self ..)
theorem tail_short {ws : List By} (h : ∀ x, x ∈ ws → x.size ≤ 600) : ∀ x, x ∈ ws.tail → x.size ≤ 600 := fun x hx => h x (List.mem_of_mem_tail hx)
theorem shrt_leaf (op : Nat) (l r : Int) : Shrt (nd op l r ⟨#[]⟩ V.z) := ⟨nil_short, nil_short⟩
theorem rdS_short : ∀ (d : Nat) (ws : List By) (ns : List N) (deep : Nat), (∀ x, x ∈ ws → x.size ≤ 600) → (∀ x, x ∈ ns → Shrt x) → ∀ x, x ∈ (rdS d ws ns deep).1 → Shrt x
  | 0, ws, ns, deep, _, hn => by simpa [rdS] using hn
  | d + 1, ws, ns, deep, hw, hn => by
    have app : ∀ (l : List N) (y : N), (∀ x, x ∈ l → Shrt x) → Shrt y → ∀ x, x ∈ l ++ [y] → Shrt x := fun l y h1 h2 x hx => by
      rcases List.mem_append.1 hx with hx | hx
      · exact h1 x hx
      · rw [List.mem_singleton.1 hx]; exact h2
    unfold rdS
    dsimp only
    have hA := rdS_short d ws.tail ns (deep + 1) (tail_short hw) hn
    have hB := rdS_short d (ws.drop (1 + (rdS d ws.tail ns (deep + 1)).2)) (rdS d ws.tail ns (deep + 1)).1 (deep + 1) (fun x hx => hw x (List.mem_of_mem_drop hx)) hA
    generalize rdS d (ws.drop (1 + (rdS d ws.tail ns (deep + 1)).2)) (rdS d ws.tail ns (deep + 1)).1 (deep + 1) = B at *
    generalize rdS d ws.tail ns (deep + 1) = A at *
    split
    · exact hn
    · split
      · exact app _ _ hn ⟨hd_short (tail_short hw), nil_short⟩
      · split
        · exact app _ _ hn ⟨hd_short (tail_short hw), pvR_size (hd_short (tail_short (tail_short hw)))⟩
        · split
          · split
            · exact hA
            · exact app _ _ hA (shrt_leaf _ _ _)
          · split
            · split
              · exact hA
              · split
                · exact hB
                · exact app _ _ hB (shrt_leaf _ _ _)
            · exact app _ _ hn (shrt_leaf _ _ _)
theorem short_sz : ∀ (l : List N), (∀ x, x ∈ l → Shrt x) → szAll N.sz l ≤ 1200 * l.length
  | [], _ => by simp [szAll]
  | x :: r, h => by
    have h1 := h x (List.mem_cons_self ..)
    have h2 := short_sz r (fun y hy => h y (List.mem_cons_of_mem _ hy))
    have h3 : N.sz x = x.name.size + x.val.sz := rfl
    have h4 : x.val.sz = x.val.str.size := rfl
    simp only [szAll, List.map_cons, List.sum_cons, List.length_cons] at h2 ⊢
    have := h1.1; have := h1.2
    omega
theorem piece_short {l : List UInt8} : ∀ (cur : List UInt8) (r : List UInt8), ∀ x ∈ Lib.fieldsGo cur r, x.length ≤ cur.length + r.length
  | cur, [] => fun x hx => by
    unfold Lib.fieldsGo at hx
    split at hx
    · cases hx
    · rw [List.mem_singleton.1 hx]; simp
  | cur, b :: r => fun x hx => by
    unfold Lib.fieldsGo at hx
    split at hx
    · split at hx
      · have := piece_short (l := l) [] r x hx; simp at this ⊢; omega
      · rcases List.mem_cons.1 hx with rfl | hx
        · simp
        · have := piece_short (l := l) [] r x hx; simp at this ⊢; omega
    · have := piece_short (l := l) (cur ++ [b]) r x hx; simp at this ⊢; omega
theorem sfL_short {s : By} (h : sfB s = true) : (∀ x, x ∈ sfL s → x.size ≤ 600) ∧ (sfL s).length ≤ 24 := by
  have h0 := h
  unfold sfB at h
  simp only [Bool.and_eq_true, decide_eq_true_eq] at h
  rw [sf_yes h0]
  refine ⟨fun x hx => ?_, by rw [Lib.fieldsB_length]; exact h.2.2⟩
  unfold Lib.fieldsB at hx
  obtain ⟨l, hl, rfl⟩ := List.mem_map.1 hx
  have h1 := piece_short (l := []) [] _ l hl
  have h2 := size_list' s
  have h3 : (⟨l.toArray⟩ : By).size = l.length := by simp [ByteArray.size]
  simp only [List.length_nil] at h1
  omega
theorem join_take {p : List By} {k : Nat} {y : By} (h : p[k]? = some y) (hk : 0 < k) : Lib.join (bys (p.take (k + 1))) [32] = Lib.join (bys (p.take k)) [32] ++ 32 :: y.data.toList := by
  have hl := (List.getElem?_eq_some_iff.1 h).1
  have e : bys (p.take (k + 1)) = bys (p.take k) ++ [y.data.toList] := by rw [take_snoc h]; simp [bys]
  rw [e, join_app _ _ (by
    intro hc
    have h2 : (p.take k).length = k := by rw [List.length_take]; omega
    have := congrArg List.length hc
    rw [List.length_map, h2] at this
    simp only [List.length_nil] at this
    omega) (by simp), Lib.join_one]
theorem join_short : ∀ (p : List By), (∀ x, x ∈ p → x.size ≤ 600) → (Lib.join (bys p) [32]).length ≤ 601 * p.length
  | [], _ => by simp [bys, Lib.join_nil]
  | x :: r, h => by
    unfold bys
    rw [List.map_cons, Lib.join_cons, List.length_append, Lib.joinTail_length]
    have h1 := h x (List.mem_cons_self ..)
    rw [size_list] at h1
    have h2 : Lib.lens (r.map (·.data.toList)) ≤ 600 * r.length := by
      have hr : ∀ y, y ∈ r → y.size ≤ 600 := fun y hy => h y (List.mem_cons_of_mem _ hy)
      clear h h1
      induction r with
      | nil => simp [Lib.lens]
      | cons y r ih =>
        have h3 := ih (fun z hz => hr z (List.mem_cons_of_mem _ hz))
        have h4 := hr y (List.mem_cons_self ..)
        rw [size_list] at h4
        simp only [Lib.lens, List.map_cons, List.sum_cons, List.length_cons] at h3 ⊢
        omega
    simp only [List.length_cons, List.length_nil, List.length_map]
    omega
set_option maxHeartbeats 2000000 in
theorem l10Join (p : List By) (vp : Value) (F : Nat) (w : World) (h : RdF w F vp p) (hp : p.length ≤ 24) (hps : ∀ x, x ∈ p → x.size ≤ 600) :
    Calls Tryz.prog 34 #[vp] w fun e w' => e = .returned (.string ⟨(Lib.join (bys p) [32]).toArray⟩) ∧ w' = w := by
  obtain ⟨o, c, rfl, hc, hf, hx⟩ := h
  have HX := Lib.hid hx
  have HPS := Lib.hid hps
  clear hx hps
  go_enter Tryz.func34, Tryz.ntmps34
  go_wp2
  go_loop [3, 4] (fun s i => ∃ k : Nat, k ≤ p.length ∧ i = .int .i64 k ∧ s = .string ⟨(Lib.join (bys (p.take k)) [32]).toArray⟩) (fun _ i => p.length - (intOf i).toNat)
  case atStart => exact ⟨0, Nat.zero_le _, rfl, by simp [bys, Lib.join_nil]⟩
  case round =>
    obtain ⟨k, hk, rfl, rfl⟩ := hrel
    have hjl := join_short (p.take k) (fun x hx => HPS.out x (List.mem_of_mem_take hx))
    have htk : (p.take k).length = k := by rw [List.length_take]; omega
    rw [htk] at hjl
    clear htk
    obtain ⟨J, hJ_⟩ : ∃ y, Lib.join (bys (p.take k)) [32] = y := ⟨_, rfl⟩
    have HJ := Lib.hid hJ_
    rw [hJ_] at hjl ⊢
    clear hJ_
    have hJl : J.length ≤ 15000 := by omega
    clear hjl
    by_cases hlt : k < p.length
    · have cx := HX.out k p[k] (List.getElem?_eq_getElem hlt)
      have hys := HPS.out p[k] (List.getElem_mem hlt)
      have HY := Lib.hid (show p[k]? = some p[k] from List.getElem?_eq_getElem hlt)
      generalize p[k] = y at cx hys HY
      have hki : (k : Int) < p.length := by omega
      have hk0 : (0 : Int) ≤ k := by omega
      by_cases h0 : k = 0
      · subst h0
        rw [Nat.add_zero] at cx
        have HJ0 := Lib.hid (show J = [] by rw [← HJ.out]; simp [bys, Lib.join_nil])
        go_wp2
        go_round
        case rel => exact ⟨1, by omega, rfl, congrArg Value.string (ba_ext (by rw [take_snoc HY.out, HJ0.out]; simp [bys, Lib.join_one]))⟩
        case measure => simp [intOf]; omega
      · have hkp : (0 : Int) < k := by omega
        go_wp2
        go_round
        case rel => exact ⟨k + 1, by omega, by go_num, congrArg Value.string (ba_ext (by rw [join_take HY.out (by omega), HJ.out]; simp))⟩
        case measure => simp [intOf]; omega
    · obtain rfl : k = p.length := by omega
      go_wp2
      go_ret
      exact ⟨ret_str (by rw [← HJ.out, List.take_length]), rfl⟩
end Go.Proofs.YtodbohmbdgbheaaGreatDoor
