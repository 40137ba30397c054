/- The contract of impl.IsValidNode. -/
import Derived.Test.YtodbohmbdgbheaaGreatDoorC2
namespace Go.Proofs.YtodbohmbdgbheaaGreatDoor
open Go.RowKit
set_option linter.unusedVariables false
/-- The same, as the program tests it. -/
noncomputable def nodI (n : N) (at_ m : Int) : Bool :=
  if n.op == 1 then eqN n ⟨n.op, 0, 0, ⟨#[]⟩, V.z⟩
  else if n.op == 2 then eqN n ⟨n.op, 0, 0, n.name, V.z⟩ && txtB n.name 1
  else if n.op == 3 || n.op == 4 then eqN n ⟨n.op, 0, 0, n.name, n.val⟩ && (txtB n.name 1 && (valB n.val && (!(n.val.kind == 0) && (n.op == 3 || n.val.kind == 1))))
  else if n.op == 5 then eqN n ⟨n.op, n.left, 0, ⟨#[]⟩, V.z⟩ && (decide (0 < at_) && inB n.left 0 m)
  else if n.op == 6 || n.op == 7 then eqN n ⟨n.op, n.left, n.right, ⟨#[]⟩, V.z⟩ && (decide (0 < at_) && (inB n.left 0 m && inB n.right 0 m))
  else if n.op == 8 || n.op == 9 then eqN n ⟨n.op, 0, 0, n.name, V.z⟩ && txtB n.name 6
  else false
theorem nodI_eq (n : N) (at_ m : Int) : nodB n at_ m = nodI n at_ m := by
  obtain ⟨op, l, r, nm, v⟩ := n
  unfold nodB nodI
  have e1 : (ByteArray.mk #[]).toList = [] := by decide +kernel
  have ev : eqV v v = true := by simp [eqV]
  have hk : ∀ k : Int, k = 1 → k ≠ 0 := fun k h => by omega
  by_cases h1 : op = 1
  · subst h1; simp
  by_cases h2 : op = 2
  · subst h2; simp [Bool.and_comm]
  by_cases h3 : op = 3
  · subst h3; simp only [eqN, ev]; rw [Bool.eq_iff_iff]; simp; constructor <;> (intro h; simp_all)
  by_cases h4 : op = 4
  · subst h4; simp only [eqN, ev]; rw [Bool.eq_iff_iff]; simp; constructor <;> (intro h; simp_all)
  by_cases h5 : op = 5
  · subst h5; simp only [eqN]; rw [Bool.eq_iff_iff]; simp [e1]; constructor <;> (intro h; simp_all)
  by_cases h6 : op = 6
  · subst h6; simp only [eqN]; rw [Bool.eq_iff_iff]; simp [e1]; constructor <;> (intro h; simp_all)
  by_cases h7 : op = 7
  · subst h7; simp only [eqN]; rw [Bool.eq_iff_iff]; simp [e1]; constructor <;> (intro h; simp_all)
  by_cases h8 : op = 8
  · subst h8; simp [Bool.and_comm]
  by_cases h9 : op = 9
  · subst h9; simp [Bool.and_comm]
  · simp [h1, h2, h3, h4, h5, h6, h7, h8, h9]
set_option maxRecDepth 100000 in
set_option maxHeartbeats 4000000 in
theorem implIsValidNode (n : N) (at_ : Int) (w : World) (hs : n.name.size ≤ 4000000) (hv : n.val.str.size ≤ 4000000) :
    Calls Tryz.prog 39 #[n.v, .int .i64 at_] w fun e w' => e = .returned (.bool (nodB n at_ (wrap64 (at_ - 1)))) ∧ Grew w w' := by
  obtain ⟨op, l, r, nm, v⟩ := n
  simp only at hs hv
  have h1 := fun o w => runEqN ⟨o, l, r, nm, v⟩ ⟨o, 0, 0, ⟨#[]⟩, V.z⟩ w
  have h2 := fun o w => runEqN ⟨o, l, r, nm, v⟩ ⟨o, 0, 0, nm, V.z⟩ w
  have h3 := fun o w => runEqN ⟨o, l, r, nm, v⟩ ⟨o, 0, 0, nm, v⟩ w
  have h4 := fun o w => runEqN ⟨o, l, r, nm, v⟩ ⟨o, l, 0, ⟨#[]⟩, V.z⟩ w
  have h5 := fun o w => runEqN ⟨o, l, r, nm, v⟩ ⟨o, l, r, ⟨#[]⟩, V.z⟩ w
  simp only [V.z] at h1 h2 h3 h4 h5
  have hop : (op = 1 ∨ op = 2 ∨ op = 5 ∨ op = 8 ∨ op = 9 ∨ ((op == 1) = false ∧ (op == 2) = false ∧ (op == 3) = false ∧ (op == 4) = false ∧ (op == 5) = false ∧ (op == 6) = false ∧ (op == 7) = false ∧ (op == 8) = false ∧ (op == 9) = false)) ∨ (op = 3 ∨ op = 4 ∨ op = 6 ∨ op = 7) := by
    simp only [beq_eq_false_iff_ne]; omega
  rcases hop with hop | hop
  · rcases hop with rfl | rfl | rfl | rfl | rfl | ⟨p1, p2, p3, p4, p5, p6, p7, p8, p9⟩
    all_goals
      go_enter Tryz.func39, Tryz.ntmps39
      go_wp2_with (first | (go_at_call 37; refine (within _ _ _ _).mono ?_; rintro e w' ⟨rfl, rfl⟩) | (go_at_call 62; refine (implIsValidString _ _ hs).mono ?_; rintro e w' ⟨rfl, rfl⟩) | (go_at_call 60; refine (implIsValidAttrName _ _ hs).mono ?_; rintro e w' ⟨rfl, rfl⟩) | (go_at_call 61; refine (implIsValidValue _ _ hv).mono ?_; rintro e w1 ⟨rfl, hb⟩; obtain ⟨hc, hf⟩ := hb.cells))
      all_goals go_ret
      all_goals refine ⟨ret_bool ?_, ?_⟩
      all_goals first
        | (rw [nodI_eq]; go_light; clear h1 h2 h3 h4 h5; (try clear hc hf hb); simp [nodI, V.z, *]; done)
        | (have hn : ¬ (0 < at_) := by omega
           rw [nodI_eq]; go_light; clear h1 h2 h3 h4 h5; simp [nodI, V.z, hn]; done)
        | (repeat' (first | with_reducible exact Grew.refl _ | with_reducible apply Grew.alloc | with_reducible apply Grew.drew | with_reducible refine Grew.trans ?_ (by assumption)))
  · rcases hop with rfl | rfl | rfl | rfl
    all_goals
      go_enter Tryz.func39, Tryz.ntmps39
      go_wp2
      go_region
      all_goals go_wp2_with (first | (go_at_call 37; refine (within _ _ _ _).mono ?_; rintro e w' ⟨rfl, rfl⟩) | (go_at_call 62; refine (implIsValidString _ _ hs).mono ?_; rintro e w' ⟨rfl, rfl⟩) | (go_at_call 60; refine (implIsValidAttrName _ _ hs).mono ?_; rintro e w' ⟨rfl, rfl⟩) | (go_at_call 61; refine (implIsValidValue _ _ hv).mono ?_; rintro e w1 ⟨rfl, hb⟩; obtain ⟨hc, hf⟩ := hb.cells))
      all_goals go_ret
      all_goals refine ⟨ret_bool ?_, ?_⟩
      all_goals first
        | (rw [nodI_eq]; go_light; clear h1 h2 h3 h4 h5; (try clear hc hf hb); simp [nodI, V.z, *]; done)
        | (rw [nodI_eq]; go_light; clear h1 h2 h3 h4 h5; (try clear hc hf hb); simp [nodI, V.z, bne, *]; done)
        | (have hn : ¬ (0 < at_) := by omega
           rw [nodI_eq]; go_light; clear h1 h2 h3 h4 h5; simp [nodI, V.z, hn]; done)
        | (repeat' (first | with_reducible exact Grew.refl _ | with_reducible apply Grew.alloc | with_reducible apply Grew.drew | with_reducible refine Grew.trans ?_ (by assumption)))
end Go.Proofs.YtodbohmbdgbheaaGreatDoor
