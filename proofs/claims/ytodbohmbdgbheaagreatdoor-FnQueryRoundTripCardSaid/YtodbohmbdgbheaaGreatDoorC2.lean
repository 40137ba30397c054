/- Contracts of chapter 9: texts, values, nodes, references, queries. -/
import Derived.Test.YtodbohmbdgbheaaGreatDoorC1
import Derived.Test.YtodbohmbdgbheaaGreatDoorH3
import Derived.Deep.Light
import Derived.Deep.DeepCutAuto
namespace Go.Proofs.YtodbohmbdgbheaaGreatDoor
open Go.RowKit
set_option linter.unusedVariables false
def eqV (a b : V) : Bool := a.kind == b.kind && (a.int == b.int && a.str.toList == b.str.toList)
def eqN (a b : N) : Bool := a.op == b.op && (a.left == b.left && (a.right == b.right && (a.name.toList == b.name.toList && eqV a.val b.val)))
theorem runEqV0 (d : Nat) (a b : V) (w : World) : (Op.equalIn (d + 4) 36 a.v b.v).run Tryz.prog w = .ok (eqV a b) w := by
  have u3 := Tryz.underlying3
  have u9 := Tryz.underlying9
  have hS : Tryz.prog.underlying 36 = some (.struct (Tryz.prog.fieldsOf 36)) := by kernel_rfl
  have hp : Tryz.prog.stoodInHeld 36 = false := by kernel_rfl
  rw [run_equalIn_agg w (d + 3) 36 _ _ hS hp]
  simp only [Program.fieldsOf, Tryz.underlying36]
  go_simp
  by_cases h1 : a.kind = b.kind <;> by_cases h2 : a.int = b.int <;> by_cases h3 : a.str.toList = b.str.toList <;> simp [eqV, h1, h2, h3]
theorem runEqV (a b : V) (w : World) : (binOp .eql 36 a.v b.v).run Tryz.prog w = .ok (.bool (eqV a b)) w := by
  rw [run_eql_struct, show (10000 : Nat) = 9996 + 4 from rfl, runEqV0]; rfl
theorem runEqN (a b : N) (w : World) : (binOp .eql 38 a.v b.v).run Tryz.prog w = .ok (.bool (eqN a b)) w := by
  have u3 := Tryz.underlying3
  have u9 := Tryz.underlying9
  have hS : Tryz.prog.underlying 38 = some (.struct (Tryz.prog.fieldsOf 38)) := by kernel_rfl
  have hp : Tryz.prog.stoodInHeld 38 = false := by kernel_rfl
  rw [run_eql_struct, show (10000 : Nat) = 9999 + 1 from rfl, run_equalIn_agg w 9999 38 _ _ hS hp]
  simp only [Program.fieldsOf, Tryz.underlying38]
  go_simp
  unfold eqN eqV
  by_cases h1 : a.op = b.op <;> by_cases h2 : a.left = b.left <;> by_cases h3 : a.right = b.right <;> by_cases h4 : a.name.toList = b.name.toList <;> by_cases h5 : a.val.kind = b.val.kind <;> by_cases h6 : a.val.int = b.val.int <;> by_cases h7 : a.val.str.toList = b.val.str.toList <;> simp [h1, h2, h3, h4, h5, h6, h7]
/-- All bytes from a to z. -/
def low (s : ByteArray) : Prop := ∀ i (h : i < s.size), (97 : Int) ≤ (s[i].toNat : Int) ∧ (s[i].toNat : Int) ≤ 122
noncomputable def lowB (s : ByteArray) : Bool := @decide (low s) (Classical.propDecidable _)
theorem lowB_true {s : ByteArray} (h : low s) : lowB s = true := by simp [lowB, h]
theorem lowB_false {s : ByteArray} (h : ¬ low s) : lowB s = false := by simp [lowB, h]
/-- 1 to m bytes, all from a to z. -/
noncomputable def txtB (s : ByteArray) (m : Int) : Bool := lowB s && inB s.size 1 m
set_option maxRecDepth 100000 in
set_option maxHeartbeats 1000000 in
theorem l02Text (s : ByteArray) (m : Int) (w : World) (hs : s.size ≤ 4000000) :
    Calls Tryz.prog 90 #[.string s, .int .i64 m] w fun e w' => e = .returned (.bool (txtB s m)) ∧ w = w' := by
  go_enter Tryz.func90, Tryz.ntmps90
  go_wp2
  go_loop [5] (fun i => ∃ k : Nat, k ≤ s.size ∧ i = .int .i64 k ∧ Hid (∀ i (h : i < s.size), i < k → (97 : Int) ≤ (s[i].toNat : Int) ∧ (s[i].toNat : Int) ≤ 122)) (fun i => s.size - (intOf i).toNat)
  case atStart => exact ⟨0, Nat.zero_le _, rfl, fun i _ h => absurd h (by omega)⟩
  case round =>
    obtain ⟨k, hk, rfl, hl⟩ := hrel
    by_cases hlt : k < s.size
    · by_cases h1 : (s[k].toNat : Int) < 97
      · have HF := Lib.hid (lowB_false (s := s) (fun h => by have := (h k hlt).1; omega))
        go_wp2
        go_ret
        exact ⟨ret_bool (by unfold txtB; rw [HF.out]; rfl), rfl⟩
      · by_cases h2 : (122 : Int) < (s[k].toNat : Int)
        · have HF := Lib.hid (lowB_false (s := s) (fun h => by have := (h k hlt).2; omega))
          go_wp2
          go_ret
          exact ⟨ret_bool (by unfold txtB; rw [HF.out]; rfl), rfl⟩
        · go_wp2
          go_round
          case rel => exact ⟨k + 1, by omega, by go_num, fun i h hi => by
            by_cases e : i = k
            · subst e; omega
            · exact hl.out i h (by omega)⟩
          case measure => simp [intOf]; omega
    · obtain rfl : k = s.size := by omega
      have HT := Lib.hid (lowB_true (s := s) (fun i h => hl.out i h h))
      go_wp2_with (go_at_call 38; refine (l01In _ _ _ _).mono ?_; rintro e w' ⟨rfl, rfl⟩)
      go_ret
      exact ⟨ret_bool (by unfold txtB; rw [HT.out]; rfl), rfl⟩
set_option maxHeartbeats 400000 in
theorem specIsValidString (s : ByteArray) (w : World) (hs : s.size ≤ 4000000) :
    Calls Tryz.prog 83 #[.string s] w fun e w' => e = .returned (.bool (txtB s 6)) ∧ w = w' := by
  go_enter Tryz.func83, Tryz.ntmps83
  go_wp2_with (go_at_call 90; refine (l02Text s 6 _ hs).mono ?_; rintro e w' ⟨rfl, rfl⟩)
  go_ret
  exact ⟨rfl, rfl⟩
set_option maxHeartbeats 400000 in
theorem specIsValidAttrName (s : ByteArray) (w : World) (hs : s.size ≤ 4000000) :
    Calls Tryz.prog 82 #[.string s] w fun e w' => e = .returned (.bool (txtB s 1)) ∧ w = w' := by
  go_enter Tryz.func82, Tryz.ntmps82
  go_wp2_with (go_at_call 90; refine (l02Text s 1 _ hs).mono ?_; rintro e w' ⟨rfl, rfl⟩)
  go_ret
  exact ⟨rfl, rfl⟩
set_option maxRecDepth 100000 in
set_option maxHeartbeats 1000000 in
theorem implIsValidString (s : ByteArray) (w : World) (hs : s.size ≤ 4000000) :
    Calls Tryz.prog 62 #[.string s] w fun e w' => e = .returned (.bool (txtB s 6)) ∧ w = w' := by
  go_enter Tryz.func62, Tryz.ntmps62
  go_wp2
  go_loop [3, 6] (fun _ i => ∃ k : Nat, k ≤ s.size ∧ i = .int .i64 k ∧ Hid (∀ i (h : i < s.size), i < k → (97 : Int) ≤ (s[i].toNat : Int) ∧ (s[i].toNat : Int) ≤ 122)) (fun _ i => s.size - (intOf i).toNat)
  case atStart => exact ⟨0, Nat.zero_le _, rfl, fun i _ h => absurd h (by omega)⟩
  case round =>
    obtain ⟨k, hk, rfl, hl⟩ := hrel
    by_cases hlt : k < s.size
    · by_cases h1 : (s[k].toNat : Int) < 97
      · have HF := Lib.hid (lowB_false (s := s) (fun h => by have := (h k hlt).1; omega))
        go_wp2
        go_ret
        exact ⟨ret_bool (by unfold txtB; rw [HF.out]; rfl), rfl⟩
      · by_cases h2 : (122 : Int) < (s[k].toNat : Int)
        · have HF := Lib.hid (lowB_false (s := s) (fun h => by have := (h k hlt).2; omega))
          go_wp2
          go_ret
          exact ⟨ret_bool (by unfold txtB; rw [HF.out]; rfl), rfl⟩
        · go_wp2
          go_round
          case rel => exact ⟨k + 1, by omega, by go_num, fun i h hi => by
            by_cases e : i = k
            · subst e; omega
            · exact hl.out i h (by omega)⟩
          case measure => simp [intOf]; omega
    · obtain rfl : k = s.size := by omega
      have HT := Lib.hid (lowB_true (s := s) (fun i h => hl.out i h h))
      go_wp2_with (go_at_call 37; refine (within _ _ _ _).mono ?_; rintro e w' ⟨rfl, rfl⟩)
      go_ret
      exact ⟨ret_bool (by unfold txtB; rw [HT.out]; rfl), rfl⟩
set_option maxHeartbeats 1000000 in
theorem implIsValidAttrName (s : ByteArray) (w : World) (hs : s.size ≤ 4000000) :
    Calls Tryz.prog 60 #[.string s] w fun e w' => e = .returned (.bool (txtB s 1)) ∧ w = w' := by
  by_cases h1 : s.size = 1
  · have hp : 0 < s.size := by omega
    have hpi : (0 : Int) < (s.size : Int) := by omega
    have hq : ((s.size : Int) == 1) = true := by simp; omega
    have key : txtB s 1 = (decide ((97 : Int) ≤ (s[0].toNat : Int)) && decide ((s[0].toNat : Int) ≤ 122)) := by
      by_cases hl : low s
      · have := hl 0 hp
        rw [txtB, lowB_true hl]; simp [inB, h1]; omega
      · rw [txtB, lowB_false hl]
        have : ¬ ((97 : Int) ≤ (s[0].toNat : Int) ∧ (s[0].toNat : Int) ≤ 122) := fun h => hl (fun i hi => by
          obtain rfl : i = 0 := by omega
          exact h)
        simp; omega
    have HK := Lib.hid key
    clear key h1
    by_cases a1 : (97 : Int) ≤ (s[0].toNat : Int)
    · by_cases a2 : (s[0].toNat : Int) ≤ 122
      · go_enter Tryz.func60, Tryz.ntmps60
        go_wp2
        go_ret
        exact ⟨ret_bool (by rw [HK.out]; simp [a1, a2]), rfl⟩
      · go_enter Tryz.func60, Tryz.ntmps60
        go_wp2
        go_ret
        exact ⟨ret_bool (by rw [HK.out]; simp [a2]), rfl⟩
    · have A1 := Lib.hid a1
      go_enter Tryz.func60, Tryz.ntmps60
      go_wp2
      go_ret
      exact ⟨ret_bool (by rw [HK.out, decide_eq_false (by have := A1.out; omega)]; rfl), rfl⟩
  · have hq : ((s.size : Int) == 1) = false := by simp; omega
    have HK := Lib.hid (show txtB s 1 = false by unfold txtB inB; simp; omega)
    clear h1
    go_enter Tryz.func60, Tryz.ntmps60
    go_wp2
    go_ret
    exact ⟨ret_bool HK.out.symm, rfl⟩
/-- A valid value. -/
noncomputable def valB (v : V) : Bool := if v.kind == 0 then eqV v V.z else if v.kind == 1 then inB v.int 0 999 && v.str.toList.isEmpty else if v.kind == 2 then txtB v.str 6 && v.int == 0 else false
set_option maxHeartbeats 1000000 in
theorem specIsValidValue (v : V) (w : World) (hs : v.str.size ≤ 4000000) :
    Calls Tryz.prog 81 #[v.v] w fun e w' => e = .returned (.bool (valB v)) ∧ Grew w w' := by
  have hE := fun w => runEqV v V.z w
  simp only [V.z] at hE
  go_enter Tryz.func81, Tryz.ntmps81
  go_wp2_with (first | (go_at_call 38; refine (l01In _ _ _ _).mono ?_; rintro e w' ⟨rfl, rfl⟩) | (go_at_call 83; refine (specIsValidString _ _ hs).mono ?_; rintro e w' ⟨rfl, rfl⟩))
  all_goals go_ret
  all_goals refine ⟨ret_bool ?_, (Grew.refl _).alloc _⟩
  all_goals go_light
  all_goals simp [valB, V.z, *]
set_option maxHeartbeats 1000000 in
theorem implIsValidValue (v : V) (w : World) (hs : v.str.size ≤ 4000000) :
    Calls Tryz.prog 61 #[v.v] w fun e w' => e = .returned (.bool (valB v)) ∧ Grew w w' := by
  have hE := fun w => runEqV v V.z w
  simp only [V.z] at hE
  go_enter Tryz.func61, Tryz.ntmps61
  go_wp2_with (first | (go_at_call 37; refine (within _ _ _ _).mono ?_; rintro e w' ⟨rfl, rfl⟩) | (go_at_call 62; refine (implIsValidString _ _ hs).mono ?_; rintro e w' ⟨rfl, rfl⟩))
  all_goals go_ret
  all_goals refine ⟨ret_bool ?_, (Grew.refl _).alloc _⟩
  all_goals go_light
  all_goals simp [valB, V.z, *]
/-- A valid node at a place; m: the place less one. -/
noncomputable def nodB (n : N) (at_ m : Int) : Bool :=
  if n.op == 1 then eqN n ⟨n.op, 0, 0, ⟨#[]⟩, V.z⟩
  else if n.op == 2 then txtB n.name 1 && eqN n ⟨n.op, 0, 0, n.name, V.z⟩
  else if n.op == 3 then txtB n.name 1 && (valB n.val && (!(n.val.kind == 0) && (n.left == 0 && n.right == 0)))
  else if n.op == 4 then txtB n.name 1 && (valB n.val && (n.val.kind == 1 && (n.left == 0 && n.right == 0)))
  else if n.op == 5 then (inB n.left 0 m && decide (0 < at_)) && (n.right == 0 && (n.name.toList.isEmpty && eqV n.val V.z))
  else if n.op == 6 || n.op == 7 then (inB n.left 0 m && decide (0 < at_)) && (inB n.right 0 m && (n.name.toList.isEmpty && eqV n.val V.z))
  else if n.op == 8 || n.op == 9 then txtB n.name 6 && eqN n ⟨n.op, 0, 0, n.name, V.z⟩
  else false
/-- The same by what the children's tests have given. -/
noncomputable def nodK (n : N) (kb tb : Bool) : Bool :=
  if n.op == 1 then eqN n ⟨n.op, 0, 0, ⟨#[]⟩, V.z⟩
  else if n.op == 2 then txtB n.name 1 && eqN n ⟨n.op, 0, 0, n.name, V.z⟩
  else if n.op == 3 then txtB n.name 1 && (valB n.val && (!(n.val.kind == 0) && (n.left == 0 && n.right == 0)))
  else if n.op == 4 then txtB n.name 1 && (valB n.val && (n.val.kind == 1 && (n.left == 0 && n.right == 0)))
  else if n.op == 5 then kb && (n.right == 0 && (n.name.toList.isEmpty && eqV n.val V.z))
  else if n.op == 6 || n.op == 7 then tb && (n.name.toList.isEmpty && eqV n.val V.z)
  else if n.op == 8 || n.op == 9 then txtB n.name 6 && eqN n ⟨n.op, 0, 0, n.name, V.z⟩
  else false
theorem nodB_k (n : N) (at_ m : Int) (kb tb : Bool) (hk : kb = (inB n.left 0 m && decide (0 < at_))) (ht : tb = (kb && inB n.right 0 m)) : nodB n at_ m = nodK n kb tb := by
  subst ht; subst hk
  unfold nodB nodK
  simp only [Bool.and_assoc]
set_option maxRecDepth 100000 in
set_option maxHeartbeats 4000000 in
theorem specIsValidNode (n : N) (at_ : Int) (w : World) (hs : n.name.size ≤ 4000000) (hv : n.val.str.size ≤ 4000000) :
    Calls Tryz.prog 57 #[n.v, .int .i64 at_] w fun e w' => e = .returned (.bool (nodB n at_ (wrap64 (at_ - 1)))) ∧ Grew w w' := by
  obtain ⟨op, l, r, nm, v⟩ := n
  simp only at hs hv
  have hE := fun o w => runEqN ⟨o, l, r, nm, v⟩ ⟨o, 0, 0, ⟨#[]⟩, V.z⟩ w
  have hF := fun o w => runEqN ⟨o, l, r, nm, v⟩ ⟨o, 0, 0, nm, V.z⟩ w
  have hV := fun w => runEqV v V.z w
  simp only [V.z] at hV hE hF
  have hop : op = 1 ∨ op = 2 ∨ op = 3 ∨ op = 4 ∨ op = 5 ∨ op = 6 ∨ op = 7 ∨ op = 8 ∨ op = 9 ∨ ((op == 1) = false ∧ (op == 2) = false ∧ (op == 3) = false ∧ (op == 4) = false ∧ (op == 5) = false ∧ (op == 6) = false ∧ (op == 7) = false ∧ (op == 8) = false ∧ (op == 9) = false) := by
    simp only [beq_eq_false_iff_ne]; omega
  have HOP := Lib.hid hop
  clear hop
  go_enter Tryz.func57, Tryz.ntmps57
  go_upto_region 1 with fail
  go_cut [5] (fun s5 wc => ∃ kb : Bool, s5 = .bool kb ∧ Hid (kb = (inB l 0 (wrap64 (at_ - 1)) && decide (0 < at_))) ∧ wc = w.alloc (.cells #[.int .i64 op, .int .i64 l, .int .i64 r, .string nm, .int .i64 v.kind, .int .i64 v.int, .string v.str] 38))
  case first =>
    go_wp2_with (go_at_call 38; refine (l01In _ _ _ _).mono ?_; rintro e w' ⟨rfl, rfl⟩)
    all_goals go_meet
    all_goals refine ⟨_, rfl, ?_, rfl⟩
    all_goals go_light
    all_goals simp [Hid, *]
  case rest =>
    obtain ⟨kb, rfl, HK, rfl⟩ := hcut
    go_upto_region 2 with fail
    go_cut [5, 6] (fun s5 s6 wc => ∃ tb : Bool, s5 = .bool kb ∧ s6 = .bool tb ∧ Hid (tb = (kb && inB r 0 (wrap64 (at_ - 1)))) ∧ wc = w.alloc (.cells #[.int .i64 op, .int .i64 l, .int .i64 r, .string nm, .int .i64 v.kind, .int .i64 v.int, .string v.str] 38))
    case first =>
      cases kb
      all_goals go_wp2_with (go_at_call 38; refine (l01In _ _ _ _).mono ?_; rintro e w' ⟨rfl, rfl⟩)
      all_goals go_meet
      all_goals refine ⟨_, rfl, rfl, ?_, rfl⟩
      all_goals simp [Hid]
    case rest =>
      obtain ⟨tb, rfl, rfl, HT, rfl⟩ := hcut
      have HN := Lib.hid (nodB_k ⟨op, l, r, nm, v⟩ at_ _ kb tb HK.out HT.out)
      clear HK HT
      rcases HOP.out with rfl | rfl | rfl | rfl | rfl | rfl | rfl | rfl | rfl | ⟨p1, p2, p3, p4, p5, p6, p7, p8, p9⟩
      all_goals
        clear HOP
        go_wp2_with (first | (go_at_call 83; refine (specIsValidString _ _ hs).mono ?_; rintro e w' ⟨rfl, rfl⟩) | (go_at_call 82; refine (specIsValidAttrName _ _ hs).mono ?_; rintro e w' ⟨rfl, rfl⟩) | (go_at_call 81; refine (specIsValidValue _ _ hv).mono ?_; rintro e w1 ⟨rfl, hb⟩; obtain ⟨hc, hf⟩ := hb.cells))
        all_goals go_ret
        all_goals refine ⟨ret_bool ?_, ?_⟩
        all_goals first
          | (with_reducible exact (Grew.refl _).alloc _)
          | (with_reducible exact ((Grew.refl _).alloc _).trans (by assumption))
          | (rw [HN.out]; go_light; clear HN hE hF hV; (try clear hc hf hb); simp [nodK, V.z, bne, *])
end Go.Proofs.YtodbohmbdgbheaaGreatDoor
