/- Contracts of slices.Insert and slices.Delete of one element, over own rows of directories and of diffs. -/
import Derived.Test.YtgekgokkbakcmaaX2
import Derived.Test.YtgekgokkbakcmaaH5
import Derived.Test.YtgekgokkbakcmaaI0
import Derived.Test.YtgekgokkbakcmaaG
import Derived.Lib.AppendZeros
import Derived.Laws.Externs
namespace Go.Proofs.Ytgekgokkbakcmaa
open Go.RowKit
set_option linter.unusedVariables false
set_option linter.unusedSimpArgs false
theorem one_cell_take {xs : List Value} (h : ∀ u ∈ xs, u.oneCell' = true) (k : Nat) : (∀ u ∈ xs.take k, u.oneCell' = true) ∧ ∀ u ∈ xs.drop k, u.oneCell' = true :=
  ⟨fun u hu => h u (List.mem_of_mem_take hu), fun u hu => h u (List.mem_of_mem_drop hu)⟩
theorem take_drop_len {xs : List Value} {n k i : Nat} (h : xs.length = n * k) (hi : i ≤ n) : (xs.take (i * k)).length = i * k ∧ (xs.drop (i * k)).length = (n - i) * k := by
  have h1 : i * k ≤ n * k := Nat.mul_le_mul_right k hi
  rw [List.length_take, List.length_drop, h, Nat.sub_mul]
  exact ⟨Nat.min_eq_left h1, rfl⟩
theorem drop_src {xs L : List Value} {m a : Nat} (h : L.take m = xs) : ∀ j v, (xs.drop a)[j]? = some v → L[a + j]? = some v := fun j v hj => by
  rw [List.getElem?_drop, ← h, List.getElem?_take] at hj
  split at hj
  · exact hj
  · cases hj
theorem take_head {xs L : List Value} {n k i : Nat} (h : L.take (n * k) = xs) (hi : i ≤ n) : L.take (i * k) = xs.take (i * k) := by
  rw [← h, List.take_take, Nat.min_eq_left (Nat.mul_le_mul_right k hi)]
theorem grown_new {w a b : World} {row : Option Nat} {g : Nat} (h : w.grownBy a row) (k : a.grownBy b (some g)) (hg : w.heap.size ≤ g) : w.grownBy b row :=
  ⟨k.os.trans h.os, k.tape.trans h.tape, k.output.trans h.output, Nat.le_trans h.size k.size, fun j hj hne => (k.block j (Nat.lt_of_lt_of_le hj h.size) (fun e => by cases e; omega)).trans (h.block j hj hne)⟩
theorem grown_any {w a : World} (h : w.grownBy a none) (row : Option Nat) : w.grownBy a row := ⟨h.os, h.tape, h.output, h.size, fun j hj _ => h.block j hj (fun e => by cases e)⟩
theorem vs_cells {vs : List Value} {e : TypeId} {vb : Nat} (w : World) (h : w.heap[vb]? = some (.cells vs.toArray e (0, 0))) : ∀ j u, vs[j]? = some u → w.cell? ((⟨vb, 0, none⟩ : Addr).add j) = some u := fun j u hj => by
  rw [Addr.add_lit, Nat.zero_add]; simp [World.cell?, h, hj]
set_option maxRecDepth 100000 in
set_option maxHeartbeats 4000000 in
theorem slInsDir_room (g n cap i vb : Nat) (xs vs : List Value) (base : Nat) (w : World) (hown : w.ownsRow base 49 2 (.slice (some ⟨g, 0, none⟩) n cap) n xs) (hi : i < n) (hn : n ≤ 4000000) (hv : w.heap[vb]? = some (.cells vs.toArray 49 (0, 0))) (hvl : vs.length = 2) (hne : g ≠ vb) (h1 : ∀ u ∈ xs, u.oneCell' = true) (h1v : ∀ u ∈ vs, u.oneCell' = true) (hbase : base ≤ w.heap.size) (hroom : n + 1 ≤ cap) :
    Calls Try.prog 79 #[.slice (some ⟨g, 0, none⟩) n cap, .int .i64 i, .slice (some ⟨vb, 0, none⟩) 1 1] w fun e w' => ∃ v', e = .returned v' ∧ w'.ownsRow base 49 2 v' (n + 1) (xs.take (i * 2) ++ vs ++ xs.drop (i * 2)) ∧ w.grownBy w' (some g) := by
  obtain ⟨i0, hi0, hz0, hz1, hz2⟩ := info_parts Try.infoDr
  obtain ⟨L, hR, hL, hnc, hbg⟩ := row_of hown
  have hxl := hown.1
  have HL := Lib.hid hL
  have HXL := Lib.hid hxl
  have HBG := Lib.hid hbg
  have hsz : (Try.prog.info? 49).map (·.size) = some 2 := by rw [hi0]; simp [hz1]
  have hcm : cap ≤ 9223372036854775807 := by have := hR.max; unfold maxLen at this; omega
  have hgl := hR.lt
  have hvl2 : vb < w.heap.size := (Array.getElem?_eq_some_iff.1 hv).1
  have HTD := Lib.hid (take_drop_len hxl (Nat.le_of_lt hi))
  have HOT := Lib.hid (one_cell_take h1 (i * 2))
  have H1V := Lib.hid h1v
  have HVL := Lib.hid hvl
  have HV := Lib.hid hv
  have HR := Lib.hid hR
  have HSRC := Lib.hid (drop_src (a := i * 2) hL)
  have HTH := Lib.hid (take_head hL (Nat.le_of_lt hi))
  have HLEN := Lib.hid hR.len
  have hge1 := hn
  clear hL hbg h1 h1v hxl hown
  have hlen : cap * 2 = L.length := hR.len.symm
  have hfz : w.frozen? ⟨vb, 0, none⟩ = false := by simp [World.frozen?, hv]
  have hfe : w.frozen? ⟨vb, 2, none⟩ = false := by simp [World.frozen?, hv]
  have hsv : w.shape? vb = some (49, 2) := by simp [World.shape?, hv, HVL.out]
  have hsg : w.shape? g = some (49, cap * 2) := by simp [World.shape?, hR.heap, hlen]
  have hov : ∀ o lb cb, (callFunc 115 #[.slice (some ⟨vb, 0, none⟩) 1 1, .slice (some ⟨g, o, none⟩) lb cb]).run Try.prog w = .ok (.value (.bool false)) w := fun o lb cb => by
    refine (run_callFunc_extern (f := 115) Try.func115 (by kernel_rfl) (by kernel_rfl) (by kernel_rfl) (e := Extern.SlicesOverlaps.overlaps #[35, 35] #[4]) (by kernel_rfl) _ _).trans ?_
    rw [Lib.run_overlaps_apart w 35 4 49 Try.underlying35 2 (fun w => by simp [sizeOf, typeInfo, hi0, hz1]) ⟨vb, 0, none⟩ ⟨g, o, none⟩ 1 1 lb cb (fun e => hne e.symm) 49 49 2 (cap * 2) hsv hsg (by omega) hfz hfe]
    rfl
  clear hsv hsg hfz hfe hR hv hlen hvl
  have hi1 : ¬ ((i : Int) = (n : Int)) := by omega
  have hb1 : (0 : Int) ≤ (i : Int) + 1 := by omega
  have hb2 : (i : Int) ≤ n := by omega
  have hb3 : (i : Int) + 1 ≤ (n : Int) + 1 := by omega
  have hb4 : ((i : Int) + 1).toNat = i + 1 := by omega
  have hwp : IntKind.i64.wrap ((i : Int) + 1) = (i : Int) + 1 := by rw [IntKind.wrap_i64]; omega
  have hb5 : ((n : Int) + 1).toNat = n + 1 := by omega
  have hb6 : ¬ (cap = i + 1) := by omega
  have hb7 : ¬ (cap = i) := by omega
  have hb8 : (n : Int) + 1 ≤ cap := by omega
  have hb9 : (0 : Int) ≤ (n : Int) + 1 := by omega
  have hb10 : (i : Int) ≤ (n : Int) + 1 := by omega
  have hw0 := HR.out.drew
  go_enter Try.func79, Try.ntmps79
  go_wp2_with (simp only [hov])
  clear hov
  refine wp_region_noPanic ?_
  refine wp_region_held_drew (S := (fun w' => w.grownBy w' (some g))) (by kernel_rfl) ?h1_S ?h1_r
  case h1_S => exact grown_drew w _
  case h1_r =>
    intro HS
    first
      | refine sk 0 rfl (by kernel_rfl) rfl HS ?_
      | (refine tk (v := ?v1_0) 0 rfl (by kernel_rfl) rfl ?y1_0 HS ?_; case y1_0 => (intro w' hSw; (try dsimp only at hSw); go_simp <;> (with_reducible rfl)))
    try simp only [Act.put, List.setIfInBounds_toArray, List.set_cons_zero, List.set_cons_succ]
    first
      | refine sk 1 rfl (by kernel_rfl) rfl HS ?_
      | (refine tk (v := ?v1_1) 1 rfl (by kernel_rfl) rfl ?y1_1 HS ?_; case y1_1 => (intro w' hSw; (try dsimp only at hSw); go_simp <;> (with_reducible rfl)))
    try simp only [Act.put, List.setIfInBounds_toArray, List.set_cons_zero, List.set_cons_succ]
    first
      | refine sk 2 rfl (by kernel_rfl) rfl HS ?_
      | (refine tk (v := ?v1_2) 2 rfl (by kernel_rfl) rfl ?y1_2 HS ?_; case y1_2 => (intro w' hSw; (try dsimp only at hSw); go_simp <;> (with_reducible rfl)))
    try simp only [Act.put, List.setIfInBounds_toArray, List.set_cons_zero, List.set_cons_succ]
    first
      | refine sk 3 rfl (by kernel_rfl) rfl HS ?_
      | (refine tk (v := ?v1_3) 3 rfl (by kernel_rfl) rfl ?y1_3 HS ?_; case y1_3 => (intro w' hSw; (try dsimp only at hSw); go_simp <;> (with_reducible rfl)))
    try simp only [Act.put, List.setIfInBounds_toArray, List.set_cons_zero, List.set_cons_succ]
    first
      | refine sk 4 rfl (by kernel_rfl) rfl HS ?_
      | (refine tk (v := ?v1_4) 4 rfl (by kernel_rfl) rfl ?y1_4 HS ?_; case y1_4 => (intro w' hSw; (try dsimp only at hSw); go_simp <;> (with_reducible rfl)))
    try simp only [Act.put, List.setIfInBounds_toArray, List.set_cons_zero, List.set_cons_succ]
    first
      | refine sk 5 rfl (by kernel_rfl) rfl HS ?_
      | (refine tk (v := ?v1_5) 5 rfl (by kernel_rfl) rfl ?y1_5 HS ?_; case y1_5 => (intro w' hSw; (try dsimp only at hSw); go_simp <;> (with_reducible rfl)))
    try simp only [Act.put, List.setIfInBounds_toArray, List.set_cons_zero, List.set_cons_succ]
    first
      | refine sk 6 rfl (by kernel_rfl) rfl HS ?_
      | (refine tk (v := ?v1_6) 6 rfl (by kernel_rfl) rfl ?y1_6 HS ?_; case y1_6 => (intro w' hSw; (try dsimp only at hSw); go_simp <;> (with_reducible rfl)))
    try simp only [Act.put, List.setIfInBounds_toArray, List.set_cons_zero, List.set_cons_succ]
    first
      | refine sk 7 rfl (by kernel_rfl) rfl HS ?_
      | (refine tk (v := ?v1_7) 7 rfl (by kernel_rfl) rfl ?y1_7 HS ?_; case y1_7 => (intro w' hSw; (try dsimp only at hSw); go_simp <;> (with_reducible rfl)))
    try simp only [Act.put, List.setIfInBounds_toArray, List.set_cons_zero, List.set_cons_succ]
    refine cl 8 rfl (by kernel_rfl) (fun K hK => ?_)
    rw [if_pos (by rfl)]
    refine wp_copyK hw0 _ _ 35 49 rfl Try.underlying35 hsz ((i + 1) * 2) (n - i) (cap - (i + 1)) ⟨g, i * 2, none⟩ (n + 1 - i) (cap - i) (n - i) (by simp [Act.eval]) (by simp [Act.eval]) (xs.drop (i * 2)) (by simp only [Nat.min_def]; split <;> omega) HTD.out.2 (fun j v hj => by rw [Addr.add_lit, hw0.cell]; exact HSRC.out j v hj) (by have := HTD.out.2; have := HLEN.out; omega) HOT.out.2 ?_
    intro w1 hr1 hg1
    have HR1 := Lib.hid hr1
    have HG1 := Lib.hid hg1
    clear hr1 hg1
    refine hK.out _ _ ?s1_8 ?r1_8
    case s1_8 => exact grown_trans (grown_drew w _) HG1.out
    case r1_8 =>
      clear HS
      intro HS
      clear hK K
      try simp only [Act.put, List.setIfInBounds_toArray, List.set_cons_zero, List.set_cons_succ]
      refine wpAnyH_done (by kernel_rfl) ?_ _
      refine NoPanic.normal ?_
      clear HS
      have hv1 : w1.heap[vb]? = some (.cells vs.toArray 49 (0, 0)) := by rw [HG1.out.block vb hvl2 (fun e => hne (by cases e; rfl))]; exact HV.out
      have HV1 := Lib.hid hv1
      clear hv1
      have hcp := run_copyK HR1.out 35 49 3 Try.underlying35 hsz (i * 2) (n + 1 - i) (cap - i) ⟨vb, 0, none⟩ 1 1 1 vs (by simp only [Nat.min_def]; split <;> omega) (by have := HVL.out; omega) (vs_cells _ HV1.out) (by rw [over_len (by have := HTD.out.2; have := HLEN.out; omega)]; have := HVL.out; have := HLEN.out; omega) H1V.out
      have hr2 := HR1.out.set (i * 2) vs (by rw [over_len (by have := HTD.out.2; have := HLEN.out; omega)]; have := HVL.out; have := HLEN.out; omega)
      have hg2 := grown_setRow w1 g (over (over L ((i + 1) * 2) (xs.drop (i * 2))) (i * 2) vs).toArray
      generalize w1.setRow g (over (over L ((i + 1) * 2) (xs.drop (i * 2))) (i * 2) vs).toArray = w2 at hcp hr2 hg2
      have HR2 := Lib.hid hr2
      have HG2 := Lib.hid hg2
      clear hr2 hg2
      go_wp2_with fail
      clear hcp
      have hr2 := HR2.out
      have hg2 := HG2.out
      go_ret
      refine ⟨_, rfl, ?_, grown_trans (grown_trans (grown_drew w _) HG1.out) hg2⟩
      refine hr2.own HBG.out (by omega) ?_
      obtain ⟨e1, e2⟩ := HTD.out
      have e3 := HVL.out
      have h := over_shift (L := L) (X := xs.take (i * 2)) (Y := xs.drop (i * 2)) (vs := vs) (by rw [e1, e2, show i * 2 + (n - i) * 2 = n * 2 by omega, List.take_append_drop]; exact HL.out) (by have := HLEN.out; omega)
      rw [e1, e2, e3, show i * 2 + 2 = (i + 1) * 2 by omega, show (i + 1) * 2 + (n - i) * 2 = (n + 1) * 2 by omega] at h
      exact h
set_option maxRecDepth 100000 in
set_option maxHeartbeats 4000000 in
theorem slInsDir_grow (g n cap i vb : Nat) (xs vs : List Value) (base : Nat) (w : World) (hown : w.ownsRow base 49 2 (.slice (some ⟨g, 0, none⟩) n cap) n xs) (hi : i < n) (hn : n ≤ 4000000) (hv : w.heap[vb]? = some (.cells vs.toArray 49 (0, 0))) (hvl : vs.length = 2) (hne : g ≠ vb) (h1 : ∀ u ∈ xs, u.oneCell' = true) (h1v : ∀ u ∈ vs, u.oneCell' = true) (hbase : base ≤ w.heap.size) (hroom : cap < n + 1) :
    Calls Try.prog 79 #[.slice (some ⟨g, 0, none⟩) n cap, .int .i64 i, .slice (some ⟨vb, 0, none⟩) 1 1] w fun e w' => ∃ v', e = .returned v' ∧ w'.ownsRow base 49 2 v' (n + 1) (xs.take (i * 2) ++ vs ++ xs.drop (i * 2)) ∧ w.grownBy w' (some g) := by
  obtain ⟨i0, hi0, hz0, hz1, hz2⟩ := info_parts Try.infoDr
  obtain ⟨L, hR, hL, hnc, hbg⟩ := row_of hown
  have hxl := hown.1
  have HL := Lib.hid hL
  have HXL := Lib.hid hxl
  have HBG := Lib.hid hbg
  have hsz : (Try.prog.info? 49).map (·.size) = some 2 := by rw [hi0]; simp [hz1]
  have hcm : cap ≤ 9223372036854775807 := by have := hR.max; unfold maxLen at this; omega
  have hgl := hR.lt
  have hvl2 : vb < w.heap.size := (Array.getElem?_eq_some_iff.1 hv).1
  have HTD := Lib.hid (take_drop_len hxl (Nat.le_of_lt hi))
  have HOT := Lib.hid (one_cell_take h1 (i * 2))
  have H1V := Lib.hid h1v
  have HVL := Lib.hid hvl
  have HV := Lib.hid hv
  have HR := Lib.hid hR
  have HSRC := Lib.hid (drop_src (a := i * 2) hL)
  have HTH := Lib.hid (take_head hL (Nat.le_of_lt hi))
  have HLEN := Lib.hid hR.len
  have hge1 := hn
  clear hL hbg h1 h1v hxl hown
  obtain ⟨w1, cap1, L1, hrun, hR1, hc1, hL1, hg1⟩ := run_appendZ (P := Try.prog) hR 35 3 35 49 i0 _ .i64 .i64 Try.underlying35 Try.underlying3 hi0 hz0 hz1 rfl (by decide) 40 hz2 i (n + 1 - i) (by omega) (by omega) (by omega) (by omega) (by unfold maxLen; omega)
  rw [show i + (n + 1 - i) = n + 1 by omega, show ((n + 1 - i : Nat) : Int) = (n : Int) + 1 - (i : Int) by omega] at hrun
  rw [show i + (n + 1 - i) = n + 1 by omega] at hc1
  have HR1 := Lib.hid hR1
  have HG1 := Lib.hid hg1
  have HL1 := Lib.hid (hL1.trans HTH.out)
  have hcm1 : cap1 ≤ 9223372036854775807 := by have := hR1.max; unfold maxLen at this; omega
  have HLEN1 := Lib.hid hR1.len
  have HRg := Lib.hid (hR.grown hg1 (fun e => by cases e))
  have HV1 := Lib.hid (show w1.heap[vb]? = some (.cells vs.toArray 49 (0, 0)) by rw [hg1.block vb hvl2 (fun e => by cases e)]; exact hv)
  have hgn : g ≠ w.heap.size := by omega
  clear hR hR1 hL1 hg1 hv hvl
  have hi1 : ¬ ((i : Int) = (n : Int)) := by omega
  have hb1 : (0 : Int) ≤ (i : Int) + 1 := by omega
  have hb2 : (i : Int) ≤ n := by omega
  have hb3 : (i : Int) + 1 ≤ (n : Int) + 1 := by omega
  have hb4 : ((i : Int) + 1).toNat = i + 1 := by omega
  have hwp : IntKind.i64.wrap ((i : Int) + 1) = (i : Int) + 1 := by rw [IntKind.wrap_i64]; omega
  have hb6 : ¬ (cap1 = i + 1) := by omega
  have hb7 : ¬ (cap1 = i) := by omega
  have hb11 : ¬ (cap = i) := by omega
  have hb8 : (cap : Int) < (n : Int) + 1 := by omega
  have hb10 : (i : Int) ≤ (n : Int) + 1 := by omega
  have hcp := run_copyK HR1.out 35 49 3 Try.underlying35 hsz (i * 2) (n + 1 - i) (cap1 - i) ⟨vb, 0, none⟩ 1 1 1 vs (by simp only [Nat.min_def]; split <;> omega) (by have := HVL.out; omega) (vs_cells _ HV1.out) (by have := HVL.out; have := HLEN1.out; omega) H1V.out
  have hr2 := HR1.out.set (i * 2) vs (by have := HVL.out; have := HLEN1.out; omega)
  have hg2 := grown_setRow w1 w.heap.size (over L1 (i * 2) vs).toArray
  generalize w1.setRow w.heap.size (over L1 (i * 2) vs).toArray = w2 at hcp hr2 hg2
  have HR2 := Lib.hid hr2
  have HG2 := Lib.hid hg2
  clear hr2 hg2
  go_enter Try.func79, Try.ntmps79
  go_wp2_with (at_builtin; refine Lib.wpList_append_run _ rfl _ _ _ _ rfl _ _ rfl rfl _ _ hrun ?_)
  clear hcp hrun
  have hr2 := HR2.out
  have hg2 := HG2.out
  have hrg2 := HRg.out.grown hg2 (fun e => hgn (by cases e; rfl))
  have hw0 := hr2.drew
  have hwg := hrg2.drew
  clear hr2 hg2 hrg2
  refine wp_region_noPanic ?_
  refine wp_region_held_drew (S := (fun w' => w2.grownBy w' (some w.heap.size))) (by kernel_rfl) ?h2_S ?h2_r
  case h2_S => exact grown_drew w2 _
  case h2_r =>
    intro HS
    first
      | refine sk 0 rfl (by kernel_rfl) rfl HS ?_
      | (refine tk (v := ?v2_0) 0 rfl (by kernel_rfl) rfl ?y2_0 HS ?_; case y2_0 => (intro w' hSw; (try dsimp only at hSw); go_simp <;> (with_reducible rfl)))
    try simp only [Act.put, List.setIfInBounds_toArray, List.set_cons_zero, List.set_cons_succ]
    first
      | refine sk 1 rfl (by kernel_rfl) rfl HS ?_
      | (refine tk (v := ?v2_1) 1 rfl (by kernel_rfl) rfl ?y2_1 HS ?_; case y2_1 => (intro w' hSw; (try dsimp only at hSw); go_simp <;> (with_reducible rfl)))
    try simp only [Act.put, List.setIfInBounds_toArray, List.set_cons_zero, List.set_cons_succ]
    first
      | refine sk 2 rfl (by kernel_rfl) rfl HS ?_
      | (refine tk (v := ?v2_2) 2 rfl (by kernel_rfl) rfl ?y2_2 HS ?_; case y2_2 => (intro w' hSw; (try dsimp only at hSw); go_simp <;> (with_reducible rfl)))
    try simp only [Act.put, List.setIfInBounds_toArray, List.set_cons_zero, List.set_cons_succ]
    first
      | refine sk 3 rfl (by kernel_rfl) rfl HS ?_
      | (refine tk (v := ?v2_3) 3 rfl (by kernel_rfl) rfl ?y2_3 HS ?_; case y2_3 => (intro w' hSw; (try dsimp only at hSw); go_simp <;> (with_reducible rfl)))
    try simp only [Act.put, List.setIfInBounds_toArray, List.set_cons_zero, List.set_cons_succ]
    first
      | refine sk 4 rfl (by kernel_rfl) rfl HS ?_
      | (refine tk (v := ?v2_4) 4 rfl (by kernel_rfl) rfl ?y2_4 HS ?_; case y2_4 => (intro w' hSw; (try dsimp only at hSw); go_simp <;> (with_reducible rfl)))
    try simp only [Act.put, List.setIfInBounds_toArray, List.set_cons_zero, List.set_cons_succ]
    first
      | refine sk 5 rfl (by kernel_rfl) rfl HS ?_
      | (refine tk (v := ?v2_5) 5 rfl (by kernel_rfl) rfl ?y2_5 HS ?_; case y2_5 => (intro w' hSw; (try dsimp only at hSw); go_simp <;> (with_reducible rfl)))
    try simp only [Act.put, List.setIfInBounds_toArray, List.set_cons_zero, List.set_cons_succ]
    first
      | refine sk 6 rfl (by kernel_rfl) rfl HS ?_
      | (refine tk (v := ?v2_6) 6 rfl (by kernel_rfl) rfl ?y2_6 HS ?_; case y2_6 => (intro w' hSw; (try dsimp only at hSw); go_simp <;> (with_reducible rfl)))
    try simp only [Act.put, List.setIfInBounds_toArray, List.set_cons_zero, List.set_cons_succ]
    first
      | refine sk 7 rfl (by kernel_rfl) rfl HS ?_
      | (refine tk (v := ?v2_7) 7 rfl (by kernel_rfl) rfl ?y2_7 HS ?_; case y2_7 => (intro w' hSw; (try dsimp only at hSw); go_simp <;> (with_reducible rfl)))
    try simp only [Act.put, List.setIfInBounds_toArray, List.set_cons_zero, List.set_cons_succ]
    refine cl 8 rfl (by kernel_rfl) (fun K hK => ?_)
    rw [if_pos (by rfl)]
    refine wp_copyK hw0 _ _ 35 49 rfl Try.underlying35 hsz ((i + 1) * 2) (n - i) (cap1 - (i + 1)) ⟨g, i * 2, none⟩ (n - i) (cap - i) (n - i) (by simp [Act.eval]) (by simp [Act.eval]) (xs.drop (i * 2)) (by simp only [Nat.min_def]; split <;> omega) HTD.out.2 (fun j v hj => by rw [Addr.add_lit, hwg.cell]; exact HSRC.out j v hj) (by rw [over_len (by have := HVL.out; have := HLEN1.out; omega)]; have := HTD.out.2; have := HLEN1.out; omega) HOT.out.2 ?_
    intro w3 hr3 hg3
    have HR3 := Lib.hid hr3
    have HG3 := Lib.hid hg3
    clear hr3 hg3
    refine hK.out _ _ ?s2_8 ?r2_8
    case s2_8 => exact grown_trans (grown_drew w2 _) HG3.out
    case r2_8 =>
      clear HS
      intro HS
      clear hK K
      try simp only [Act.put, List.setIfInBounds_toArray, List.set_cons_zero, List.set_cons_succ]
      refine wpAnyH_done (by kernel_rfl) ?_ _
      refine NoPanic.normal ?_
      clear HS
      go_wp2_with fail
      go_ret
      refine ⟨_, rfl, ?_, grown_any (grown_new (grown_new HG1.out HG2.out (Nat.le_refl _)) (grown_trans (grown_drew w2 _) HG3.out) (Nat.le_refl _)) _⟩
      refine HR3.out.own hbase hc1 ?_
      obtain ⟨e1, e2⟩ := HTD.out
      have e3 := HVL.out
      have h := over_grow (L := L1) (X := xs.take (i * 2)) (Y := xs.drop (i * 2)) (vs := vs) (by rw [e1]; exact HL1.out) (by have := HLEN1.out; omega)
      rw [e1, e2, e3, show i * 2 + 2 = (i + 1) * 2 by omega, show (i + 1) * 2 + (n - i) * 2 = (n + 1) * 2 by omega] at h
      exact h
set_option maxRecDepth 100000 in
set_option maxHeartbeats 2000000 in
theorem slInsDir (v : Value) (n i vb : Nat) (xs vs : List Value) (base : Nat) (w : World) (hown : w.ownsRow base 49 2 v n xs) (hi : i ≤ n) (hn : n ≤ 4000000) (hv : w.heap[vb]? = some (.cells vs.toArray 49 (0, 0))) (hvl : vs.length = 2) (hne : v.ownBlock ≠ some vb) (h1 : ∀ u ∈ xs, u.oneCell' = true) (h1v : ∀ u ∈ vs, u.oneCell' = true) (hbase : base ≤ w.heap.size) :
    Calls Try.prog 79 #[v, .int .i64 i, .slice (some ⟨vb, 0, none⟩) 1 1] w fun e w' => ∃ v', e = .returned v' ∧ w'.ownsRow base 49 2 v' (n + 1) (xs.take (i * 2) ++ vs ++ xs.drop (i * 2)) ∧ w.grownBy w' v.ownBlock := by
  rcases Nat.lt_or_ge i n with hlt | hge
  · rcases hown.2 with ⟨_, h0⟩ | ⟨g, cap, cur, rfl, _⟩
    · omega
    · rcases Nat.lt_or_ge cap (n + 1) with hc | hc
      · exact slInsDir_grow g n cap i vb xs vs base w hown hlt hn hv hvl (fun e => hne (by rw [e]; rfl)) h1 h1v hbase hc
      · exact slInsDir_room g n cap i vb xs vs base w hown hlt hn hv hvl (fun e => hne (by rw [e]; rfl)) h1 h1v hbase hc
  · obtain rfl : i = n := by omega
    obtain ⟨i0, hi0, hz0, hz1, hz2⟩ := info_parts Try.infoDr
    have HV := Lib.hid hv
    have H1V := Lib.hid h1v
    have HVL := Lib.hid hvl
    have HO := Lib.hid hown
    have HTD := Lib.hid hown.1
    obtain ⟨a, c, rfl⟩ := own_slice hown
    have hcap : i ≤ c ∧ c ≤ 9223372036854775807 := by
      rcases hown.2 with ⟨h, h0⟩ | ⟨_, _, _, h, _, _, h2, h3, _⟩
      · cases h; exact ⟨Nat.le_refl _, by decide⟩
      · cases h; unfold maxLen at h3; omega
    obtain ⟨hc1, hc2⟩ := hcap
    clear hv h1v hvl hown h1
    go_enter Try.func79, Try.ntmps79
    go_wp2_with (at_builtin; refine wpList_append_own _ rfl _ _ 35 rfl base 49 i0 _ 2 40 Try.underlying35 hi0 hz0 hz1 hz2 rfl (by decide) (.slice a i c) _ _ rfl HO.out ⟨vb, 0, none⟩ 1 1 vs rfl (by have := HVL.out; omega) (vs_cells _ HV.out) H1V.out (by unfold maxLen; omega) (by omega) hbase ?_; intro v' w' hown2 hgr _)
    all_goals
      go_ret
      refine ⟨_, rfl, ?_, by cases a <;> exact hgr⟩
      have h : xs.take (i * 2) = xs ∧ xs.drop (i * 2) = [] := ⟨List.take_of_length_le (by rw [HTD.out]; exact Nat.le_refl _), List.drop_eq_nil_of_le (by rw [HTD.out]; exact Nat.le_refl _)⟩
      rw [h.1, h.2, List.append_nil]
      exact hown2
set_option maxRecDepth 100000 in
set_option maxHeartbeats 4000000 in
theorem slDelDir (g m cap i : Nat) (xs : List Value) (base : Nat) (w : World) (hown : w.ownsRow base 49 2 (.slice (some ⟨g, 0, none⟩) (m + 1) cap) (m + 1) xs) (hi : i ≤ m) (hn : m ≤ 4000000) (h1 : ∀ u ∈ xs, u.oneCell' = true) :
    Calls Try.prog 71 #[.slice (some ⟨g, 0, none⟩) (m + 1) cap, .int .i64 i, .int .i64 (i + 1)] w fun e w' => ∃ v', e = .returned v' ∧ w'.ownsRow base 49 2 v' m (xs.take (i * 2) ++ xs.drop ((i + 1) * 2)) ∧ w.grownBy w' (some g) := by
  obtain ⟨i0, hi0, hz0, hz1, hz2⟩ := info_parts Try.infoDr
  have HCUT := Lib.hid (own_cutK (ownsRow_grew hown (Grew.refl w).drew) (i := i) (by omega))
  obtain ⟨L, hR, hL, hnc, hbg⟩ := row_of hown
  have hxl := hown.1
  have hcm : cap ≤ 9223372036854775807 := by have := hR.max; unfold maxLen at this; omega
  have HTD := Lib.hid (take_drop_len (i := i + 1) hxl (by omega))
  have HOT := Lib.hid (one_cell_take h1 ((i + 1) * 2))
  have HSRC := Lib.hid (drop_src (a := (i + 1) * 2) hL)
  have HBG := Lib.hid hbg
  have HR := Lib.hid hR
  have hv : ∀ w, (zeroValue 49).run Try.prog w = .ok P2.z.v w := fun w => by simp [zeroValue, typeInfo, hi0, hz0]
  have HV := Lib.hid hv
  clear hv hL hbg h1 hxl hown hR
  have hb1 : ¬ ((i : Int) = (i : Int) + 1) := by omega
  have hb2 : (i : Int) + 1 ≤ (m : Int) + 1 := by omega
  have hb3 : (i : Int) ≤ (m : Int) + 1 := by omega
  have hb4 : ((i : Int) + 1).toNat = i + 1 := by omega
  have hb5 : (0 : Int) ≤ (i : Int) + 1 := by omega
  have hb6 : (i : Int) ≤ (i : Int) + 1 := by omega
  have hb7 : (m : Int) + 1 ≤ (cap : Int) := by omega
  have hb8 : ((m : Int) + 1).toNat = m + 1 := by omega
  have hb9 : ¬ (cap = m) := by omega
  have hb10 : (m : Int) ≤ (m : Int) + 1 := by omega
  have hb11 : (0 : Int) ≤ (m : Int) + 1 := by omega
  have hb13 : (i : Int) ≤ (cap : Int) := by omega
  have hb14 : (i : Int) + 1 ≤ (cap : Int) := by omega
  have hw0 := HR.out.drew
  rcases Decidable.em (cap = i + 1) with hci | hci
  ·
    obtain rfl : i = m := by omega
    subst hci
    go_enter Try.func71, Try.ntmps71
    go_wp2_with fail
    refine wp_region_noPanic ?_
    refine wp_region_held_drew (S := (fun w' => w.grownBy w' (some g))) (by kernel_rfl) ?h3_S ?h3_r
    case h3_S => exact grown_drew w _
    case h3_r =>
      intro HS
      first
        | refine sk 0 rfl (by kernel_rfl) rfl HS ?_
        | (refine tk (v := ?v3_0) 0 rfl (by kernel_rfl) rfl ?y3_0 HS ?_; case y3_0 => (intro w' hSw; (try dsimp only at hSw); go_simp <;> (with_reducible rfl)))
      try simp only [Act.put, List.setIfInBounds_toArray, List.set_cons_zero, List.set_cons_succ]
      first
        | refine sk 1 rfl (by kernel_rfl) rfl HS ?_
        | (refine tk (v := ?v3_1) 1 rfl (by kernel_rfl) rfl ?y3_1 HS ?_; case y3_1 => (intro w' hSw; (try dsimp only at hSw); go_simp <;> (with_reducible rfl)))
      try simp only [Act.put, List.setIfInBounds_toArray, List.set_cons_zero, List.set_cons_succ]
      first
        | refine sk 2 rfl (by kernel_rfl) rfl HS ?_
        | (refine tk (v := ?v3_2) 2 rfl (by kernel_rfl) rfl ?y3_2 HS ?_; case y3_2 => (intro w' hSw; (try dsimp only at hSw); go_simp <;> (with_reducible rfl)))
      try simp only [Act.put, List.setIfInBounds_toArray, List.set_cons_zero, List.set_cons_succ]
      first
        | refine sk 3 rfl (by kernel_rfl) rfl HS ?_
        | (refine tk (v := ?v3_3) 3 rfl (by kernel_rfl) rfl ?y3_3 HS ?_; case y3_3 => (intro w' hSw; (try dsimp only at hSw); go_simp <;> (with_reducible rfl)))
      try simp only [Act.put, List.setIfInBounds_toArray, List.set_cons_zero, List.set_cons_succ]
      first
        | refine sk 4 rfl (by kernel_rfl) rfl HS ?_
        | (refine tk (v := ?v3_4) 4 rfl (by kernel_rfl) rfl ?y3_4 HS ?_; case y3_4 => (intro w' hSw; (try dsimp only at hSw); go_simp <;> (with_reducible rfl)))
      try simp only [Act.put, List.setIfInBounds_toArray, List.set_cons_zero, List.set_cons_succ]
      first
        | refine sk 5 rfl (by kernel_rfl) rfl HS ?_
        | (refine tk (v := ?v3_5) 5 rfl (by kernel_rfl) rfl ?y3_5 HS ?_; case y3_5 => (intro w' hSw; (try dsimp only at hSw); go_simp <;> (with_reducible rfl)))
      try simp only [Act.put, List.setIfInBounds_toArray, List.set_cons_zero, List.set_cons_succ]
      refine cl 6 rfl (by kernel_rfl) (fun K hK => ?_)
      rw [if_pos (by rfl)]
      refine wp_append_own_spare _ _ _ 35 rfl base 49 i0 2 Try.underlying35 hi0 hz1 g i (i + 1) (xs.take (i * 2)) (by simp [Act.eval]) HCUT.out ⟨g, 0, none⟩ 0 ((i + 1) - (i + 1)) (xs.drop ((i + 1) * 2)) (by simp [Act.eval]) (by rw [HTD.out.2]; omega) (fun j v hj => by have h0 : xs.drop ((i + 1) * 2) = [] := List.length_eq_zero_iff.1 (by rw [HTD.out.2]; omega); rw [h0] at hj; cases hj) HOT.out.2 (by omega) ?_
      intro w1 ho1 hg1
      rw [show i + 0 = i by omega] at ho1 ⊢
      have HO1 := Lib.hid ho1
      have HG1 := Lib.hid hg1
      clear ho1 hg1
      refine hK.out _ _ ?s3_6 ?r3_6
      case s3_6 => exact grown_trans (grown_drew w _) HG1.out
      case r3_6 =>
        clear HS
        intro HS
        clear hK K
        try simp only [Act.put, List.setIfInBounds_toArray, List.set_cons_zero, List.set_cons_succ]
        first
          | refine sk 7 rfl (by kernel_rfl) rfl HS ?_
          | (refine tk (v := ?v3_7) 7 rfl (by kernel_rfl) rfl ?y3_7 HS ?_; case y3_7 => (intro w' hSw; (try dsimp only at hSw); go_simp <;> (with_reducible rfl)))
        try simp only [Act.put, List.setIfInBounds_toArray, List.set_cons_zero, List.set_cons_succ]
        refine wpAnyH_done (by kernel_rfl) ?_ _
        refine NoPanic.normal ?_
        clear HS
        obtain ⟨L1, hR1, hL1, _, _⟩ := row_of HO1.out
        have hlen1 := hR1.len
        obtain ⟨cs, hcs, hcl⟩ := run_clearK (P := Try.prog) hR1 35 49 0 P2.z.v Try.underlying35 HV.out rfl (by decide) (i * 2) 1 1 (by decide) (by omega)
        have hr2 := hR1.set (i * 2) cs (by omega)
        have hg2 := grown_setRow w1 g (over L1 (i * 2) cs).toArray
        generalize w1.setRow g (over L1 (i * 2) cs).toArray = w2 at hcl hr2 hg2
        have HR2 := Lib.hid hr2
        have HG2 := Lib.hid hg2
        have HL1 := Lib.hid hL1
        have HCS := Lib.hid hlen1
        clear hr2 hg2 hcs hlen1 hL1 hR1
        go_wp2_with fail
        go_ret
        refine ⟨_, rfl, HR2.out.own HBG.out (by omega) ?_, grown_trans (grown_trans (grown_drew w _) HG1.out) HG2.out⟩
        rw [← HL1.out]
        unfold over
        rw [List.append_assoc, List.take_append_of_le_length (by rw [List.length_take, HCS.out]; omega), List.take_take, Nat.min_self]
  ·
    go_enter Try.func71, Try.ntmps71
    go_wp2_with fail
    refine wp_region_noPanic ?_
    refine wp_region_held_drew (S := (fun w' => w.grownBy w' (some g))) (by kernel_rfl) ?h4_S ?h4_r
    case h4_S => exact grown_drew w _
    case h4_r =>
      intro HS
      first
        | refine sk 0 rfl (by kernel_rfl) rfl HS ?_
        | (refine tk (v := ?v4_0) 0 rfl (by kernel_rfl) rfl ?y4_0 HS ?_; case y4_0 => (intro w' hSw; (try dsimp only at hSw); go_simp <;> (with_reducible rfl)))
      try simp only [Act.put, List.setIfInBounds_toArray, List.set_cons_zero, List.set_cons_succ]
      first
        | refine sk 1 rfl (by kernel_rfl) rfl HS ?_
        | (refine tk (v := ?v4_1) 1 rfl (by kernel_rfl) rfl ?y4_1 HS ?_; case y4_1 => (intro w' hSw; (try dsimp only at hSw); go_simp <;> (with_reducible rfl)))
      try simp only [Act.put, List.setIfInBounds_toArray, List.set_cons_zero, List.set_cons_succ]
      first
        | refine sk 2 rfl (by kernel_rfl) rfl HS ?_
        | (refine tk (v := ?v4_2) 2 rfl (by kernel_rfl) rfl ?y4_2 HS ?_; case y4_2 => (intro w' hSw; (try dsimp only at hSw); go_simp <;> (with_reducible rfl)))
      try simp only [Act.put, List.setIfInBounds_toArray, List.set_cons_zero, List.set_cons_succ]
      first
        | refine sk 3 rfl (by kernel_rfl) rfl HS ?_
        | (refine tk (v := ?v4_3) 3 rfl (by kernel_rfl) rfl ?y4_3 HS ?_; case y4_3 => (intro w' hSw; (try dsimp only at hSw); go_simp <;> (with_reducible rfl)))
      try simp only [Act.put, List.setIfInBounds_toArray, List.set_cons_zero, List.set_cons_succ]
      first
        | refine sk 4 rfl (by kernel_rfl) rfl HS ?_
        | (refine tk (v := ?v4_4) 4 rfl (by kernel_rfl) rfl ?y4_4 HS ?_; case y4_4 => (intro w' hSw; (try dsimp only at hSw); go_simp <;> (with_reducible rfl)))
      try simp only [Act.put, List.setIfInBounds_toArray, List.set_cons_zero, List.set_cons_succ]
      first
        | refine sk 5 rfl (by kernel_rfl) rfl HS ?_
        | (refine tk (v := ?v4_5) 5 rfl (by kernel_rfl) rfl ?y4_5 HS ?_; case y4_5 => (intro w' hSw; (try dsimp only at hSw); go_simp <;> (with_reducible rfl)))
      try simp only [Act.put, List.setIfInBounds_toArray, List.set_cons_zero, List.set_cons_succ]
      refine cl 6 rfl (by kernel_rfl) (fun K hK => ?_)
      rw [if_pos (by rfl)]
      refine wp_append_own_spare _ _ _ 35 rfl base 49 i0 2 Try.underlying35 hi0 hz1 g i cap (xs.take (i * 2)) (by simp [Act.eval]) HCUT.out ⟨g, (i + 1) * 2, none⟩ (m - i) (cap - (i + 1)) (xs.drop ((i + 1) * 2)) (by simp [Act.eval, hci]) (by rw [HTD.out.2]; omega) (fun j v hj => by rw [Addr.add_lit, hw0.cell]; exact HSRC.out j v hj) HOT.out.2 (by omega) ?_
      intro w1 ho1 hg1
      rw [show i + (m - i) = m by omega] at ho1 ⊢
      have HO1 := Lib.hid ho1
      have HG1 := Lib.hid hg1
      clear ho1 hg1
      refine hK.out _ _ ?s4_6 ?r4_6
      case s4_6 => exact grown_trans (grown_drew w _) HG1.out
      case r4_6 =>
        clear HS
        intro HS
        clear hK K
        try simp only [Act.put, List.setIfInBounds_toArray, List.set_cons_zero, List.set_cons_succ]
        first
          | refine sk 7 rfl (by kernel_rfl) rfl HS ?_
          | (refine tk (v := ?v4_7) 7 rfl (by kernel_rfl) rfl ?y4_7 HS ?_; case y4_7 => (intro w' hSw; (try dsimp only at hSw); go_simp <;> (with_reducible rfl)))
        try simp only [Act.put, List.setIfInBounds_toArray, List.set_cons_zero, List.set_cons_succ]
        refine wpAnyH_done (by kernel_rfl) ?_ _
        refine NoPanic.normal ?_
        clear HS
        obtain ⟨L1, hR1, hL1, _, _⟩ := row_of HO1.out
        have hlen1 := hR1.len
        obtain ⟨cs, hcs, hcl⟩ := run_clearK (P := Try.prog) hR1 35 49 0 P2.z.v Try.underlying35 HV.out rfl (by decide) (m * 2) 1 (cap - m) (by decide) (by omega)
        have hr2 := hR1.set (m * 2) cs (by omega)
        have hg2 := grown_setRow w1 g (over L1 (m * 2) cs).toArray
        generalize w1.setRow g (over L1 (m * 2) cs).toArray = w2 at hcl hr2 hg2
        have HR2 := Lib.hid hr2
        have HG2 := Lib.hid hg2
        have HL1 := Lib.hid hL1
        have HCS := Lib.hid hlen1
        clear hr2 hg2 hcs hlen1 hL1 hR1
        go_wp2_with fail
        go_ret
        refine ⟨_, rfl, HR2.out.own HBG.out (by omega) ?_, grown_trans (grown_trans (grown_drew w _) HG1.out) HG2.out⟩
        rw [← HL1.out]
        unfold over
        rw [List.append_assoc, List.take_append_of_le_length (by rw [List.length_take, HCS.out]; omega), List.take_take, Nat.min_self]
set_option maxRecDepth 100000 in
set_option maxHeartbeats 4000000 in
theorem slInsDiff_room (g n cap i vb : Nat) (xs vs : List Value) (base : Nat) (w : World) (hown : w.ownsRow base 94 3 (.slice (some ⟨g, 0, none⟩) n cap) n xs) (hi : i < n) (hn : n ≤ 4000000) (hv : w.heap[vb]? = some (.cells vs.toArray 94 (0, 0))) (hvl : vs.length = 3) (hne : g ≠ vb) (h1 : ∀ u ∈ xs, u.oneCell' = true) (h1v : ∀ u ∈ vs, u.oneCell' = true) (hbase : base ≤ w.heap.size) (hroom : n + 1 ≤ cap) :
    Calls Try.prog 58 #[.slice (some ⟨g, 0, none⟩) n cap, .int .i64 i, .slice (some ⟨vb, 0, none⟩) 1 1] w fun e w' => ∃ v', e = .returned v' ∧ w'.ownsRow base 94 3 v' (n + 1) (xs.take (i * 3) ++ vs ++ xs.drop (i * 3)) ∧ w.grownBy w' (some g) := by
  obtain ⟨i0, hi0, hz0, hz1, hz2⟩ := info_parts Try.infoDf
  obtain ⟨L, hR, hL, hnc, hbg⟩ := row_of hown
  have hxl := hown.1
  have HL := Lib.hid hL
  have HXL := Lib.hid hxl
  have HBG := Lib.hid hbg
  have hsz : (Try.prog.info? 94).map (·.size) = some 3 := by rw [hi0]; simp [hz1]
  have hcm : cap ≤ 9223372036854775807 := by have := hR.max; unfold maxLen at this; omega
  have hgl := hR.lt
  have hvl2 : vb < w.heap.size := (Array.getElem?_eq_some_iff.1 hv).1
  have HTD := Lib.hid (take_drop_len hxl (Nat.le_of_lt hi))
  have HOT := Lib.hid (one_cell_take h1 (i * 3))
  have H1V := Lib.hid h1v
  have HVL := Lib.hid hvl
  have HV := Lib.hid hv
  have HR := Lib.hid hR
  have HSRC := Lib.hid (drop_src (a := i * 3) hL)
  have HTH := Lib.hid (take_head hL (Nat.le_of_lt hi))
  have HLEN := Lib.hid hR.len
  have hge1 := hn
  clear hL hbg h1 h1v hxl hown
  have hlen : cap * 3 = L.length := hR.len.symm
  have hfz : w.frozen? ⟨vb, 0, none⟩ = false := by simp [World.frozen?, hv]
  have hfe : w.frozen? ⟨vb, 3, none⟩ = false := by simp [World.frozen?, hv]
  have hsv : w.shape? vb = some (94, 3) := by simp [World.shape?, hv, HVL.out]
  have hsg : w.shape? g = some (94, cap * 3) := by simp [World.shape?, hR.heap, hlen]
  have hov : ∀ o lb cb, (callFunc 106 #[.slice (some ⟨vb, 0, none⟩) 1 1, .slice (some ⟨g, o, none⟩) lb cb]).run Try.prog w = .ok (.value (.bool false)) w := fun o lb cb => by
    refine (run_callFunc_extern (f := 106) Try.func106 (by kernel_rfl) (by kernel_rfl) (by kernel_rfl) (e := Extern.SlicesOverlaps.overlaps #[24, 24] #[4]) (by kernel_rfl) _ _).trans ?_
    rw [Lib.run_overlaps_apart w 24 4 94 Try.underlying24 3 (fun w => by simp [sizeOf, typeInfo, hi0, hz1]) ⟨vb, 0, none⟩ ⟨g, o, none⟩ 1 1 lb cb (fun e => hne e.symm) 94 94 3 (cap * 3) hsv hsg (by omega) hfz hfe]
    rfl
  clear hsv hsg hfz hfe hR hv hlen hvl
  have hi1 : ¬ ((i : Int) = (n : Int)) := by omega
  have hb1 : (0 : Int) ≤ (i : Int) + 1 := by omega
  have hb2 : (i : Int) ≤ n := by omega
  have hb3 : (i : Int) + 1 ≤ (n : Int) + 1 := by omega
  have hb4 : ((i : Int) + 1).toNat = i + 1 := by omega
  have hwp : IntKind.i64.wrap ((i : Int) + 1) = (i : Int) + 1 := by rw [IntKind.wrap_i64]; omega
  have hb5 : ((n : Int) + 1).toNat = n + 1 := by omega
  have hb6 : ¬ (cap = i + 1) := by omega
  have hb7 : ¬ (cap = i) := by omega
  have hb8 : (n : Int) + 1 ≤ cap := by omega
  have hb9 : (0 : Int) ≤ (n : Int) + 1 := by omega
  have hb10 : (i : Int) ≤ (n : Int) + 1 := by omega
  have hw0 := HR.out.drew
  go_enter Try.func58, Try.ntmps58
  go_wp2_with (simp only [hov])
  clear hov
  refine wp_region_noPanic ?_
  refine wp_region_held_drew (S := (fun w' => w.grownBy w' (some g))) (by kernel_rfl) ?h5_S ?h5_r
  case h5_S => exact grown_drew w _
  case h5_r =>
    intro HS
    first
      | refine sk 0 rfl (by kernel_rfl) rfl HS ?_
      | (refine tk (v := ?v5_0) 0 rfl (by kernel_rfl) rfl ?y5_0 HS ?_; case y5_0 => (intro w' hSw; (try dsimp only at hSw); go_simp <;> (with_reducible rfl)))
    try simp only [Act.put, List.setIfInBounds_toArray, List.set_cons_zero, List.set_cons_succ]
    first
      | refine sk 1 rfl (by kernel_rfl) rfl HS ?_
      | (refine tk (v := ?v5_1) 1 rfl (by kernel_rfl) rfl ?y5_1 HS ?_; case y5_1 => (intro w' hSw; (try dsimp only at hSw); go_simp <;> (with_reducible rfl)))
    try simp only [Act.put, List.setIfInBounds_toArray, List.set_cons_zero, List.set_cons_succ]
    first
      | refine sk 2 rfl (by kernel_rfl) rfl HS ?_
      | (refine tk (v := ?v5_2) 2 rfl (by kernel_rfl) rfl ?y5_2 HS ?_; case y5_2 => (intro w' hSw; (try dsimp only at hSw); go_simp <;> (with_reducible rfl)))
    try simp only [Act.put, List.setIfInBounds_toArray, List.set_cons_zero, List.set_cons_succ]
    first
      | refine sk 3 rfl (by kernel_rfl) rfl HS ?_
      | (refine tk (v := ?v5_3) 3 rfl (by kernel_rfl) rfl ?y5_3 HS ?_; case y5_3 => (intro w' hSw; (try dsimp only at hSw); go_simp <;> (with_reducible rfl)))
    try simp only [Act.put, List.setIfInBounds_toArray, List.set_cons_zero, List.set_cons_succ]
    first
      | refine sk 4 rfl (by kernel_rfl) rfl HS ?_
      | (refine tk (v := ?v5_4) 4 rfl (by kernel_rfl) rfl ?y5_4 HS ?_; case y5_4 => (intro w' hSw; (try dsimp only at hSw); go_simp <;> (with_reducible rfl)))
    try simp only [Act.put, List.setIfInBounds_toArray, List.set_cons_zero, List.set_cons_succ]
    first
      | refine sk 5 rfl (by kernel_rfl) rfl HS ?_
      | (refine tk (v := ?v5_5) 5 rfl (by kernel_rfl) rfl ?y5_5 HS ?_; case y5_5 => (intro w' hSw; (try dsimp only at hSw); go_simp <;> (with_reducible rfl)))
    try simp only [Act.put, List.setIfInBounds_toArray, List.set_cons_zero, List.set_cons_succ]
    first
      | refine sk 6 rfl (by kernel_rfl) rfl HS ?_
      | (refine tk (v := ?v5_6) 6 rfl (by kernel_rfl) rfl ?y5_6 HS ?_; case y5_6 => (intro w' hSw; (try dsimp only at hSw); go_simp <;> (with_reducible rfl)))
    try simp only [Act.put, List.setIfInBounds_toArray, List.set_cons_zero, List.set_cons_succ]
    first
      | refine sk 7 rfl (by kernel_rfl) rfl HS ?_
      | (refine tk (v := ?v5_7) 7 rfl (by kernel_rfl) rfl ?y5_7 HS ?_; case y5_7 => (intro w' hSw; (try dsimp only at hSw); go_simp <;> (with_reducible rfl)))
    try simp only [Act.put, List.setIfInBounds_toArray, List.set_cons_zero, List.set_cons_succ]
    refine cl 8 rfl (by kernel_rfl) (fun K hK => ?_)
    rw [if_pos (by rfl)]
    refine wp_copyK hw0 _ _ 24 94 rfl Try.underlying24 hsz ((i + 1) * 3) (n - i) (cap - (i + 1)) ⟨g, i * 3, none⟩ (n + 1 - i) (cap - i) (n - i) (by simp [Act.eval]) (by simp [Act.eval]) (xs.drop (i * 3)) (by simp only [Nat.min_def]; split <;> omega) HTD.out.2 (fun j v hj => by rw [Addr.add_lit, hw0.cell]; exact HSRC.out j v hj) (by have := HTD.out.2; have := HLEN.out; omega) HOT.out.2 ?_
    intro w1 hr1 hg1
    have HR1 := Lib.hid hr1
    have HG1 := Lib.hid hg1
    clear hr1 hg1
    refine hK.out _ _ ?s5_8 ?r5_8
    case s5_8 => exact grown_trans (grown_drew w _) HG1.out
    case r5_8 =>
      clear HS
      intro HS
      clear hK K
      try simp only [Act.put, List.setIfInBounds_toArray, List.set_cons_zero, List.set_cons_succ]
      refine wpAnyH_done (by kernel_rfl) ?_ _
      refine NoPanic.normal ?_
      clear HS
      have hv1 : w1.heap[vb]? = some (.cells vs.toArray 94 (0, 0)) := by rw [HG1.out.block vb hvl2 (fun e => hne (by cases e; rfl))]; exact HV.out
      have HV1 := Lib.hid hv1
      clear hv1
      have hcp := run_copyK HR1.out 24 94 3 Try.underlying24 hsz (i * 3) (n + 1 - i) (cap - i) ⟨vb, 0, none⟩ 1 1 1 vs (by simp only [Nat.min_def]; split <;> omega) (by have := HVL.out; omega) (vs_cells _ HV1.out) (by rw [over_len (by have := HTD.out.2; have := HLEN.out; omega)]; have := HVL.out; have := HLEN.out; omega) H1V.out
      have hr2 := HR1.out.set (i * 3) vs (by rw [over_len (by have := HTD.out.2; have := HLEN.out; omega)]; have := HVL.out; have := HLEN.out; omega)
      have hg2 := grown_setRow w1 g (over (over L ((i + 1) * 3) (xs.drop (i * 3))) (i * 3) vs).toArray
      generalize w1.setRow g (over (over L ((i + 1) * 3) (xs.drop (i * 3))) (i * 3) vs).toArray = w2 at hcp hr2 hg2
      have HR2 := Lib.hid hr2
      have HG2 := Lib.hid hg2
      clear hr2 hg2
      go_wp2_with fail
      clear hcp
      have hr2 := HR2.out
      have hg2 := HG2.out
      go_ret
      refine ⟨_, rfl, ?_, grown_trans (grown_trans (grown_drew w _) HG1.out) hg2⟩
      refine hr2.own HBG.out (by omega) ?_
      obtain ⟨e1, e2⟩ := HTD.out
      have e3 := HVL.out
      have h := over_shift (L := L) (X := xs.take (i * 3)) (Y := xs.drop (i * 3)) (vs := vs) (by rw [e1, e2, show i * 3 + (n - i) * 3 = n * 3 by omega, List.take_append_drop]; exact HL.out) (by have := HLEN.out; omega)
      rw [e1, e2, e3, show i * 3 + 3 = (i + 1) * 3 by omega, show (i + 1) * 3 + (n - i) * 3 = (n + 1) * 3 by omega] at h
      exact h
set_option maxRecDepth 100000 in
set_option maxHeartbeats 4000000 in
theorem slInsDiff_grow (g n cap i vb : Nat) (xs vs : List Value) (base : Nat) (w : World) (hown : w.ownsRow base 94 3 (.slice (some ⟨g, 0, none⟩) n cap) n xs) (hi : i < n) (hn : n ≤ 4000000) (hv : w.heap[vb]? = some (.cells vs.toArray 94 (0, 0))) (hvl : vs.length = 3) (hne : g ≠ vb) (h1 : ∀ u ∈ xs, u.oneCell' = true) (h1v : ∀ u ∈ vs, u.oneCell' = true) (hbase : base ≤ w.heap.size) (hroom : cap < n + 1) :
    Calls Try.prog 58 #[.slice (some ⟨g, 0, none⟩) n cap, .int .i64 i, .slice (some ⟨vb, 0, none⟩) 1 1] w fun e w' => ∃ v', e = .returned v' ∧ w'.ownsRow base 94 3 v' (n + 1) (xs.take (i * 3) ++ vs ++ xs.drop (i * 3)) ∧ w.grownBy w' (some g) := by
  obtain ⟨i0, hi0, hz0, hz1, hz2⟩ := info_parts Try.infoDf
  obtain ⟨L, hR, hL, hnc, hbg⟩ := row_of hown
  have hxl := hown.1
  have HL := Lib.hid hL
  have HXL := Lib.hid hxl
  have HBG := Lib.hid hbg
  have hsz : (Try.prog.info? 94).map (·.size) = some 3 := by rw [hi0]; simp [hz1]
  have hcm : cap ≤ 9223372036854775807 := by have := hR.max; unfold maxLen at this; omega
  have hgl := hR.lt
  have hvl2 : vb < w.heap.size := (Array.getElem?_eq_some_iff.1 hv).1
  have HTD := Lib.hid (take_drop_len hxl (Nat.le_of_lt hi))
  have HOT := Lib.hid (one_cell_take h1 (i * 3))
  have H1V := Lib.hid h1v
  have HVL := Lib.hid hvl
  have HV := Lib.hid hv
  have HR := Lib.hid hR
  have HSRC := Lib.hid (drop_src (a := i * 3) hL)
  have HTH := Lib.hid (take_head hL (Nat.le_of_lt hi))
  have HLEN := Lib.hid hR.len
  have hge1 := hn
  clear hL hbg h1 h1v hxl hown
  obtain ⟨w1, cap1, L1, hrun, hR1, hc1, hL1, hg1⟩ := run_appendZ (P := Try.prog) hR 24 3 24 94 i0 _ .i64 .i64 Try.underlying24 Try.underlying3 hi0 hz0 hz1 rfl (by decide) 64 hz2 i (n + 1 - i) (by omega) (by omega) (by omega) (by omega) (by unfold maxLen; omega)
  rw [show i + (n + 1 - i) = n + 1 by omega, show ((n + 1 - i : Nat) : Int) = (n : Int) + 1 - (i : Int) by omega] at hrun
  rw [show i + (n + 1 - i) = n + 1 by omega] at hc1
  have HR1 := Lib.hid hR1
  have HG1 := Lib.hid hg1
  have HL1 := Lib.hid (hL1.trans HTH.out)
  have hcm1 : cap1 ≤ 9223372036854775807 := by have := hR1.max; unfold maxLen at this; omega
  have HLEN1 := Lib.hid hR1.len
  have HRg := Lib.hid (hR.grown hg1 (fun e => by cases e))
  have HV1 := Lib.hid (show w1.heap[vb]? = some (.cells vs.toArray 94 (0, 0)) by rw [hg1.block vb hvl2 (fun e => by cases e)]; exact hv)
  have hgn : g ≠ w.heap.size := by omega
  clear hR hR1 hL1 hg1 hv hvl
  have hi1 : ¬ ((i : Int) = (n : Int)) := by omega
  have hb1 : (0 : Int) ≤ (i : Int) + 1 := by omega
  have hb2 : (i : Int) ≤ n := by omega
  have hb3 : (i : Int) + 1 ≤ (n : Int) + 1 := by omega
  have hb4 : ((i : Int) + 1).toNat = i + 1 := by omega
  have hwp : IntKind.i64.wrap ((i : Int) + 1) = (i : Int) + 1 := by rw [IntKind.wrap_i64]; omega
  have hb6 : ¬ (cap1 = i + 1) := by omega
  have hb7 : ¬ (cap1 = i) := by omega
  have hb11 : ¬ (cap = i) := by omega
  have hb8 : (cap : Int) < (n : Int) + 1 := by omega
  have hb10 : (i : Int) ≤ (n : Int) + 1 := by omega
  have hcp := run_copyK HR1.out 24 94 3 Try.underlying24 hsz (i * 3) (n + 1 - i) (cap1 - i) ⟨vb, 0, none⟩ 1 1 1 vs (by simp only [Nat.min_def]; split <;> omega) (by have := HVL.out; omega) (vs_cells _ HV1.out) (by have := HVL.out; have := HLEN1.out; omega) H1V.out
  have hr2 := HR1.out.set (i * 3) vs (by have := HVL.out; have := HLEN1.out; omega)
  have hg2 := grown_setRow w1 w.heap.size (over L1 (i * 3) vs).toArray
  generalize w1.setRow w.heap.size (over L1 (i * 3) vs).toArray = w2 at hcp hr2 hg2
  have HR2 := Lib.hid hr2
  have HG2 := Lib.hid hg2
  clear hr2 hg2
  go_enter Try.func58, Try.ntmps58
  go_wp2_with (at_builtin; refine Lib.wpList_append_run _ rfl _ _ _ _ rfl _ _ rfl rfl _ _ hrun ?_)
  clear hcp hrun
  have hr2 := HR2.out
  have hg2 := HG2.out
  have hrg2 := HRg.out.grown hg2 (fun e => hgn (by cases e; rfl))
  have hw0 := hr2.drew
  have hwg := hrg2.drew
  clear hr2 hg2 hrg2
  refine wp_region_noPanic ?_
  refine wp_region_held_drew (S := (fun w' => w2.grownBy w' (some w.heap.size))) (by kernel_rfl) ?h6_S ?h6_r
  case h6_S => exact grown_drew w2 _
  case h6_r =>
    intro HS
    first
      | refine sk 0 rfl (by kernel_rfl) rfl HS ?_
      | (refine tk (v := ?v6_0) 0 rfl (by kernel_rfl) rfl ?y6_0 HS ?_; case y6_0 => (intro w' hSw; (try dsimp only at hSw); go_simp <;> (with_reducible rfl)))
    try simp only [Act.put, List.setIfInBounds_toArray, List.set_cons_zero, List.set_cons_succ]
    first
      | refine sk 1 rfl (by kernel_rfl) rfl HS ?_
      | (refine tk (v := ?v6_1) 1 rfl (by kernel_rfl) rfl ?y6_1 HS ?_; case y6_1 => (intro w' hSw; (try dsimp only at hSw); go_simp <;> (with_reducible rfl)))
    try simp only [Act.put, List.setIfInBounds_toArray, List.set_cons_zero, List.set_cons_succ]
    first
      | refine sk 2 rfl (by kernel_rfl) rfl HS ?_
      | (refine tk (v := ?v6_2) 2 rfl (by kernel_rfl) rfl ?y6_2 HS ?_; case y6_2 => (intro w' hSw; (try dsimp only at hSw); go_simp <;> (with_reducible rfl)))
    try simp only [Act.put, List.setIfInBounds_toArray, List.set_cons_zero, List.set_cons_succ]
    first
      | refine sk 3 rfl (by kernel_rfl) rfl HS ?_
      | (refine tk (v := ?v6_3) 3 rfl (by kernel_rfl) rfl ?y6_3 HS ?_; case y6_3 => (intro w' hSw; (try dsimp only at hSw); go_simp <;> (with_reducible rfl)))
    try simp only [Act.put, List.setIfInBounds_toArray, List.set_cons_zero, List.set_cons_succ]
    first
      | refine sk 4 rfl (by kernel_rfl) rfl HS ?_
      | (refine tk (v := ?v6_4) 4 rfl (by kernel_rfl) rfl ?y6_4 HS ?_; case y6_4 => (intro w' hSw; (try dsimp only at hSw); go_simp <;> (with_reducible rfl)))
    try simp only [Act.put, List.setIfInBounds_toArray, List.set_cons_zero, List.set_cons_succ]
    first
      | refine sk 5 rfl (by kernel_rfl) rfl HS ?_
      | (refine tk (v := ?v6_5) 5 rfl (by kernel_rfl) rfl ?y6_5 HS ?_; case y6_5 => (intro w' hSw; (try dsimp only at hSw); go_simp <;> (with_reducible rfl)))
    try simp only [Act.put, List.setIfInBounds_toArray, List.set_cons_zero, List.set_cons_succ]
    first
      | refine sk 6 rfl (by kernel_rfl) rfl HS ?_
      | (refine tk (v := ?v6_6) 6 rfl (by kernel_rfl) rfl ?y6_6 HS ?_; case y6_6 => (intro w' hSw; (try dsimp only at hSw); go_simp <;> (with_reducible rfl)))
    try simp only [Act.put, List.setIfInBounds_toArray, List.set_cons_zero, List.set_cons_succ]
    first
      | refine sk 7 rfl (by kernel_rfl) rfl HS ?_
      | (refine tk (v := ?v6_7) 7 rfl (by kernel_rfl) rfl ?y6_7 HS ?_; case y6_7 => (intro w' hSw; (try dsimp only at hSw); go_simp <;> (with_reducible rfl)))
    try simp only [Act.put, List.setIfInBounds_toArray, List.set_cons_zero, List.set_cons_succ]
    refine cl 8 rfl (by kernel_rfl) (fun K hK => ?_)
    rw [if_pos (by rfl)]
    refine wp_copyK hw0 _ _ 24 94 rfl Try.underlying24 hsz ((i + 1) * 3) (n - i) (cap1 - (i + 1)) ⟨g, i * 3, none⟩ (n - i) (cap - i) (n - i) (by simp [Act.eval]) (by simp [Act.eval]) (xs.drop (i * 3)) (by simp only [Nat.min_def]; split <;> omega) HTD.out.2 (fun j v hj => by rw [Addr.add_lit, hwg.cell]; exact HSRC.out j v hj) (by rw [over_len (by have := HVL.out; have := HLEN1.out; omega)]; have := HTD.out.2; have := HLEN1.out; omega) HOT.out.2 ?_
    intro w3 hr3 hg3
    have HR3 := Lib.hid hr3
    have HG3 := Lib.hid hg3
    clear hr3 hg3
    refine hK.out _ _ ?s6_8 ?r6_8
    case s6_8 => exact grown_trans (grown_drew w2 _) HG3.out
    case r6_8 =>
      clear HS
      intro HS
      clear hK K
      try simp only [Act.put, List.setIfInBounds_toArray, List.set_cons_zero, List.set_cons_succ]
      refine wpAnyH_done (by kernel_rfl) ?_ _
      refine NoPanic.normal ?_
      clear HS
      go_wp2_with fail
      go_ret
      refine ⟨_, rfl, ?_, grown_any (grown_new (grown_new HG1.out HG2.out (Nat.le_refl _)) (grown_trans (grown_drew w2 _) HG3.out) (Nat.le_refl _)) _⟩
      refine HR3.out.own hbase hc1 ?_
      obtain ⟨e1, e2⟩ := HTD.out
      have e3 := HVL.out
      have h := over_grow (L := L1) (X := xs.take (i * 3)) (Y := xs.drop (i * 3)) (vs := vs) (by rw [e1]; exact HL1.out) (by have := HLEN1.out; omega)
      rw [e1, e2, e3, show i * 3 + 3 = (i + 1) * 3 by omega, show (i + 1) * 3 + (n - i) * 3 = (n + 1) * 3 by omega] at h
      exact h
set_option maxRecDepth 100000 in
set_option maxHeartbeats 2000000 in
theorem slInsDiff (v : Value) (n i vb : Nat) (xs vs : List Value) (base : Nat) (w : World) (hown : w.ownsRow base 94 3 v n xs) (hi : i ≤ n) (hn : n ≤ 4000000) (hv : w.heap[vb]? = some (.cells vs.toArray 94 (0, 0))) (hvl : vs.length = 3) (hne : v.ownBlock ≠ some vb) (h1 : ∀ u ∈ xs, u.oneCell' = true) (h1v : ∀ u ∈ vs, u.oneCell' = true) (hbase : base ≤ w.heap.size) :
    Calls Try.prog 58 #[v, .int .i64 i, .slice (some ⟨vb, 0, none⟩) 1 1] w fun e w' => ∃ v', e = .returned v' ∧ w'.ownsRow base 94 3 v' (n + 1) (xs.take (i * 3) ++ vs ++ xs.drop (i * 3)) ∧ w.grownBy w' v.ownBlock := by
  rcases Nat.lt_or_ge i n with hlt | hge
  · rcases hown.2 with ⟨_, h0⟩ | ⟨g, cap, cur, rfl, _⟩
    · omega
    · rcases Nat.lt_or_ge cap (n + 1) with hc | hc
      · exact slInsDiff_grow g n cap i vb xs vs base w hown hlt hn hv hvl (fun e => hne (by rw [e]; rfl)) h1 h1v hbase hc
      · exact slInsDiff_room g n cap i vb xs vs base w hown hlt hn hv hvl (fun e => hne (by rw [e]; rfl)) h1 h1v hbase hc
  · obtain rfl : i = n := by omega
    obtain ⟨i0, hi0, hz0, hz1, hz2⟩ := info_parts Try.infoDf
    have HV := Lib.hid hv
    have H1V := Lib.hid h1v
    have HVL := Lib.hid hvl
    have HO := Lib.hid hown
    have HTD := Lib.hid hown.1
    obtain ⟨a, c, rfl⟩ := own_slice hown
    have hcap : i ≤ c ∧ c ≤ 9223372036854775807 := by
      rcases hown.2 with ⟨h, h0⟩ | ⟨_, _, _, h, _, _, h2, h3, _⟩
      · cases h; exact ⟨Nat.le_refl _, by decide⟩
      · cases h; unfold maxLen at h3; omega
    obtain ⟨hc1, hc2⟩ := hcap
    clear hv h1v hvl hown h1
    go_enter Try.func58, Try.ntmps58
    go_wp2_with (at_builtin; refine wpList_append_own _ rfl _ _ 24 rfl base 94 i0 _ 3 64 Try.underlying24 hi0 hz0 hz1 hz2 rfl (by decide) (.slice a i c) _ _ rfl HO.out ⟨vb, 0, none⟩ 1 1 vs rfl (by have := HVL.out; omega) (vs_cells _ HV.out) H1V.out (by unfold maxLen; omega) (by omega) hbase ?_; intro v' w' hown2 hgr _)
    all_goals
      go_ret
      refine ⟨_, rfl, ?_, by cases a <;> exact hgr⟩
      have h : xs.take (i * 3) = xs ∧ xs.drop (i * 3) = [] := ⟨List.take_of_length_le (by rw [HTD.out]; exact Nat.le_refl _), List.drop_eq_nil_of_le (by rw [HTD.out]; exact Nat.le_refl _)⟩
      rw [h.1, h.2, List.append_nil]
      exact hown2
end Go.Proofs.Ytgekgokkbakcmaa
