/- Contracts of UnstratifiedDirs. -/
import Derived.Test.YtejgpghcahinhaaK4
import Derived.Test.YtejgpghcahinhaaN2
namespace Go.Proofs.Ytejgpghcahinhaa
open Go.RowKit Go.Sort
set_option linter.unusedVariables false
theorem uns_step {xs : List Dr} {s : ByteArray} {k : Nat} {y : Dr} {b v : Bool} (h : (xs.take k).any (unsQ xs s) = b) (hy : xs[k]? = some y) (hv : unsQ xs s y = v) : (xs.take (k + 1)).any (unsQ xs s) = (b || v) := by
  rw [take_snoc hy, List.any_append, h]; simp [hv]
set_option maxRecDepth 100000 in
set_option maxHeartbeats 4000000 in
theorem implUnstratifiedDirs (va : Value) (xs : List Dr) (w : World) (ha : RdDs w va xs) (hx : xs.length ≤ 1900000) (hs : ∀ x, x ∈ xs → x.small) (hz : szAll Dr.sz xs ≤ 4000000) :
    Calls Try.prog 93 #[va] w fun e w' => ∃ v, e = .returned v ∧ w'.ownsRow w.heap.size 9 1 v (namesIf (unsP xs) xs).length (strs (namesIf (unsP xs) xs)) ∧ Grew w w' := by
  have HD := Lib.hid ha
  have HS0 := Lib.hid hs
  have HZ := Lib.hid hz
  obtain ⟨qs, ⟨a, ca, rfl, hca, hra⟩, hall⟩ := ha
  have HA := Lib.hid hall
  clear hall hs
  have HX0 := Lib.hid hx
  generalize hn : xs.length = n at hx hra
  have HX := Lib.hid hn
  have HD2 := Lib.hid (show RdDs w (.slice a n ca) xs by have := HD.out; rw [hn] at this; exact this)
  clear hn HD
  obtain ⟨i0, hi, hz0, hz1, hz2⟩ := info_parts Try.infoString
  go_enter Try.func93, Try.ntmps93
  go_wp2
  go_loopw [3, 11] (fun v i wr => ∃ k : Nat, k ≤ n ∧ i = .int .i64 k ∧ Hid (wr.ownsRow w.heap.size 9 1 v (namesIf (unsP xs) (xs.take k)).length (strs (namesIf (unsP xs) (xs.take k)))) ∧ Grew w wr) (fun _ i _ => n - (intOf i).toNat)
  case atStart => exact ⟨0, Nat.zero_le _, rfl, Lib.hid (lit_own w 9 1), (Grew.refl _).alloc _⟩
  case round =>
    obtain ⟨k, hk, rfl, hown, hbel⟩ := hrel
    have hnl := namesIf_tk (unsP xs) xs k
    by_cases hlt : k < n
    · obtain ⟨b1, o1, p, rfl, hpk, c0, c1⟩ := (hra.grew hbel).getP2 hlt
      obtain ⟨x, hxk, hxr⟩ := HA.out.get hpk.out
      obtain ⟨pn, pq⟩ := p
      obtain ⟨hxn, hxq⟩ := hxr
      simp only at hxn hxq c0 c1
      subst hxn
      obtain ⟨xa, xc, rfl, hxc, hxr⟩ := hxq
      clear hxr hxc
      obtain ⟨W1, rfl⟩ : ∃ y, y = wr := ⟨_, rfl⟩
      have hgx := (Grew.refl W1).alloc (.cells #[.string x.name, .slice xa x.query.length xc] 71)
      have bx0 : (W1.alloc (.cells #[.string x.name, .slice xa x.query.length xc] 71)).cell? ⟨W1.heap.size, 0, none⟩ = some (.string x.name) := by simp
      go_wp2
      go_loopw [3, 17] (fun v i wr => ∃ j : Nat, j ≤ n ∧ i = .int .i64 j ∧ Hid ((xs.take j).any (unsQ xs x.name) = false) ∧ Hid (wr.ownsRow w.heap.size 9 1 v (namesIf (unsP xs) (xs.take k)).length (strs (namesIf (unsP xs) (xs.take k)))) ∧ Grew (W1.alloc (.cells #[.string x.name, .slice xa x.query.length xc] 71)) wr) (fun _ i _ => n - (intOf i).toNat)
      case atStart => exact ⟨0, Nat.zero_le _, rfl, Lib.hid (by simp), Lib.hid (ownsRow_grew hown.out hgx), Grew.refl _⟩
      case round =>
        obtain ⟨j, hj, rfl, hany, hown2, hg2⟩ := hrel
        have hbel2 := hbel.trans (hgx.trans hg2)
        have e0 := grew_cell hg2 bx0
        by_cases hlj : j < n
        · obtain ⟨b2, o2, p, hab, hpj, d0, d1⟩ := (hra.grew hbel2).getP2 hlj
          cases hab
          obtain ⟨y, hyk, hyr⟩ := HA.out.get hpj.out
          have hys := dir_sz HZ.out hyk.out
          obtain ⟨pn, pq⟩ := p
          obtain ⟨hyn, hyq⟩ := hyr
          simp only at hyn hyq d0 d1
          subst hyn
          have HYQ := Lib.hid hyq
          obtain ⟨qa, qc, rfl, hqc, hqr⟩ := hyq
          clear hqr hqc
          obtain ⟨av, hav⟩ : ∃ v, asksB xs x.name y.name = v := ⟨_, rfl⟩
          obtain ⟨dv, hdv⟩ : ∃ v, hasB (depsL y.query true) x.name = v := ⟨_, rfl⟩
          have HAV := Lib.hid hav
          have HDV := Lib.hid hdv
          have hdl := depsL_le y.query true
          have HUQ := Lib.hid (fun (e : Bool) (he : (y.name.toList == x.name.toList) = e) => show unsQ xs x.name y = ((e || av) && dv) by unfold unsQ; rw [he, hav, hdv])
          clear hav hdv
          have hsym : (x.name.toList == y.name.toList) = (y.name.toList == x.name.toList) := by rw [Bool.eq_iff_iff, beq_iff_eq, beq_iff_eq]; exact ⟨Eq.symm, Eq.symm⟩
          have HSY := Lib.hid hsym
          clear hsym
          have hgy := (Grew.refl wr).alloc (.cells #[.string y.name, .slice qa y.query.length qc] 71)
          have f0 := grew_cell hgy e0
          have y0 : (wr.alloc (.cells #[.string y.name, .slice qa y.query.length qc] 71)).cell? ⟨wr.heap.size, 0, none⟩ = some (.string y.name) := by simp
          have y1 : (wr.alloc (.cells #[.string y.name, .slice qa y.query.length qc] 71)).cell? ⟨wr.heap.size, 1, none⟩ = some (.slice qa y.query.length qc) := by simp
          have hcs : (x.name.toList == y.name.toList) = true ∨ (x.name.toList == y.name.toList) = false := by cases x.name.toList == y.name.toList <;> simp
          have hca2 : av = true ∨ av = false := by cases av <;> simp
          have hcd : dv = true ∨ dv = false := by cases dv <;> simp
          rcases hcd with rfl | rfl
          · rcases hcs with hq | hq
            · have hk0 := hlt
              go_wp2_with fail
              refine wp_region_noPanic ?_
              refine wp_region_held_drew (S := (fun w' => (w'.cell? ⟨W1.heap.size, 0, none⟩ = some (.string x.name) ∧ w'.cell? ⟨wr.heap.size, 0, none⟩ = some (.string y.name) ∧ w'.cell? ⟨wr.heap.size, 1, none⟩ = some (.slice qa y.query.length qc) ∧ Grew (wr.alloc (.cells #[.string y.name, .slice qa y.query.length qc] 71)) w'))) (by kernel_rfl) ?h18_S ?h18_r
              case h18_S => exact ⟨grew_cell (Grew.refl _).drew f0, grew_cell (Grew.refl _).drew y0, grew_cell (Grew.refl _).drew y1, (Grew.refl _).drew⟩
              case h18_r =>
                intro HS
                first
                  | refine sk 0 rfl (by kernel_rfl) rfl HS ?_
                  | (refine tk (v := ?v18_0) 0 rfl (by kernel_rfl) rfl ?y18_0 HS ?_; case y18_0 => (intro w' hSw; (try dsimp only at hSw); go_simp <;> (with_reducible rfl)))
                try simp only [Act.put, List.setIfInBounds_toArray, List.set_cons_zero, List.set_cons_succ]
                first
                  | refine sk 1 rfl (by kernel_rfl) rfl HS ?_
                  | (refine tk (v := ?v18_1) 1 rfl (by kernel_rfl) rfl ?y18_1 HS ?_; case y18_1 => (intro w' hSw; (try dsimp only at hSw); go_simp <;> (with_reducible rfl)))
                try simp only [Act.put, List.setIfInBounds_toArray, List.set_cons_zero, List.set_cons_succ]
                first
                  | refine sk 3 rfl (by kernel_rfl) rfl HS ?_
                  | (refine tk (v := ?v18_3) 3 rfl (by kernel_rfl) rfl ?y18_3 HS ?_; case y18_3 => (intro w' hSw; (try dsimp only at hSw); go_simp <;> (with_reducible rfl)))
                try simp only [Act.put, List.setIfInBounds_toArray, List.set_cons_zero, List.set_cons_succ]
                first
                  | refine sk 4 rfl (by kernel_rfl) rfl HS ?_
                  | (refine tk (v := ?v18_4) 4 rfl (by kernel_rfl) rfl ?y18_4 HS ?_; case y18_4 => (intro w' hSw; (try dsimp only at hSw); go_simp <;> (with_reducible rfl)))
                try simp only [Act.put, List.setIfInBounds_toArray, List.set_cons_zero, List.set_cons_succ]
                refine cl 2 rfl (by kernel_rfl) (fun K hK => ?_)
                go_simp
                go_at_call 98
                refine (implNegativeDeps _ y.query.length y.query _ (HYQ.out.grew (hbel2.trans (hgy.trans HS.2.2.2))) hys.2.1 hys.2.2).mono ?_
                rintro e w3 ⟨v3, rfl, hv3, hb⟩
                have HV3 := Lib.hid (rd_of_own hv3)
                obtain ⟨va3, vc3, rfl⟩ := own_slice hv3
                clear hv3
                refine hK.out _ _ ?s18_2 ?r18_2
                case s18_2 => (try dsimp only); exact ⟨grew_cell hb HS.1, grew_cell hb HS.2.1, grew_cell hb HS.2.2.1, HS.2.2.2.trans hb⟩
                case r18_2 =>
                  clear HS
                  intro HS
                  clear hK K
                  try simp only [Act.put, List.setIfInBounds_toArray, List.set_cons_zero, List.set_cons_succ]
                  refine cl 5 rfl (by kernel_rfl) (fun K hK => ?_)
                  go_simp
                  go_at_call 176
                  refine (slContainsStr _ _ (depsL y.query true) x.name _ HV3.out (by omega)).mono ?_
                  rintro e w4 ⟨he, rfl⟩
                  rw [HDV.out] at he
                  subst he
                  have hb := Grew.refl w3
                  refine hK.out _ _ ?s18_5 ?r18_5
                  case s18_5 => (try dsimp only); exact ⟨grew_cell hb HS.1, grew_cell hb HS.2.1, grew_cell hb HS.2.2.1, HS.2.2.2.trans hb⟩
                  case r18_5 =>
                    clear HS
                    intro HS
                    clear hK K
                    try simp only [Act.put, List.setIfInBounds_toArray, List.set_cons_zero, List.set_cons_succ]
                    first
                      | refine sk 6 rfl (by kernel_rfl) rfl HS ?_
                      | (refine tk (v := ?v18_6) 6 rfl (by kernel_rfl) rfl ?y18_6 HS ?_; case y18_6 => (intro w' hSw; (try dsimp only at hSw); go_simp <;> (with_reducible rfl)))
                    try simp only [Act.put, List.setIfInBounds_toArray, List.set_cons_zero, List.set_cons_succ]
                    first
                      | refine sk 7 rfl (by kernel_rfl) rfl HS ?_
                      | (refine tk (v := ?v18_7) 7 rfl (by kernel_rfl) rfl ?y18_7 HS ?_; case y18_7 => (intro w' hSw; (try dsimp only at hSw); go_simp <;> (with_reducible rfl)))
                    try simp only [Act.put, List.setIfInBounds_toArray, List.set_cons_zero, List.set_cons_succ]
                    first
                      | refine sk 8 rfl (by kernel_rfl) rfl HS ?_
                      | (refine tk (v := ?v18_8) 8 rfl (by kernel_rfl) rfl ?y18_8 HS ?_; case y18_8 => (intro w' hSw; (try dsimp only at hSw); go_simp <;> (with_reducible rfl)))
                    try simp only [Act.put, List.setIfInBounds_toArray, List.set_cons_zero, List.set_cons_succ]
                    first
                      | refine sk 9 rfl (by kernel_rfl) rfl HS ?_
                      | (refine tk (v := ?v18_9) 9 rfl (by kernel_rfl) rfl ?y18_9 HS ?_; case y18_9 => (intro w' hSw; (try dsimp only at hSw); go_simp <;> (with_reducible rfl)))
                    try simp only [Act.put, List.setIfInBounds_toArray, List.set_cons_zero, List.set_cons_succ]
                    first
                      | refine sk 10 rfl (by kernel_rfl) rfl HS ?_
                      | (refine tk (v := ?v18_10) 10 rfl (by kernel_rfl) rfl ?y18_10 HS ?_; case y18_10 => (intro w' hSw; (try dsimp only at hSw); go_simp <;> (with_reducible rfl)))
                    try simp only [Act.put, List.setIfInBounds_toArray, List.set_cons_zero, List.set_cons_succ]
                    first
                      | refine sk 11 rfl (by kernel_rfl) rfl HS ?_
                      | (refine tk (v := ?v18_11) 11 rfl (by kernel_rfl) rfl ?y18_11 HS ?_; case y18_11 => (intro w' hSw; (try dsimp only at hSw); go_simp <;> (with_reducible rfl)))
                    try simp only [Act.put, List.setIfInBounds_toArray, List.set_cons_zero, List.set_cons_succ]
                    first
                      | refine sk 12 rfl (by kernel_rfl) rfl HS ?_
                      | (refine tk (v := ?v18_12) 12 rfl (by kernel_rfl) rfl ?y18_12 HS ?_; case y18_12 => (intro w' hSw; (try dsimp only at hSw); go_simp <;> (with_reducible rfl)))
                    try simp only [Act.put, List.setIfInBounds_toArray, List.set_cons_zero, List.set_cons_succ]
                    first
                      | refine sk 13 rfl (by kernel_rfl) rfl HS ?_
                      | (refine tk (v := ?v18_13) 13 rfl (by kernel_rfl) rfl ?y18_13 HS ?_; case y18_13 => (intro w' hSw; (try dsimp only at hSw); go_simp <;> (with_reducible rfl)))
                    try simp only [Act.put, List.setIfInBounds_toArray, List.set_cons_zero, List.set_cons_succ]
                    first
                      | refine sk 14 rfl (by kernel_rfl) rfl HS ?_
                      | (refine tk (v := ?v18_14) 14 rfl (by kernel_rfl) rfl ?y18_14 HS ?_; case y18_14 => (intro w' hSw; (try dsimp only at hSw); go_simp <;> (with_reducible rfl)))
                    try simp only [Act.put, List.setIfInBounds_toArray, List.set_cons_zero, List.set_cons_succ]
                    first
                      | refine sk 15 rfl (by kernel_rfl) rfl HS ?_
                      | (refine tk (v := ?v18_15) 15 rfl (by kernel_rfl) rfl ?y18_15 HS ?_; case y18_15 => (intro w' hSw; (try dsimp only at hSw); go_simp <;> (with_reducible rfl)))
                    try simp only [Act.put, List.setIfInBounds_toArray, List.set_cons_zero, List.set_cons_succ]
                    first
                      | refine sk 16 rfl (by kernel_rfl) rfl HS ?_
                      | (refine tk (v := ?v18_16) 16 rfl (by kernel_rfl) rfl ?y18_16 HS ?_; case y18_16 => (intro w' hSw; (try dsimp only at hSw); go_simp <;> (with_reducible rfl)))
                    try simp only [Act.put, List.setIfInBounds_toArray, List.set_cons_zero, List.set_cons_succ]
                    first
                      | refine sk 17 rfl (by kernel_rfl) rfl HS ?_
                      | (refine tk (v := ?v18_17) 17 rfl (by kernel_rfl) rfl ?y18_17 HS ?_; case y18_17 => (intro w' hSw; (try dsimp only at hSw); go_simp <;> (with_reducible rfl)))
                    try simp only [Act.put, List.setIfInBounds_toArray, List.set_cons_zero, List.set_cons_succ]
                    refine cl 18 rfl (by kernel_rfl) (fun K hK => ?_)
                    go_simp
                    refine hK.out _ _ ?s18_18 ?r18_18
                    case s18_18 => (try dsimp only); exact HS
                    case r18_18 =>
                      clear HS
                      intro HS
                      clear hK K
                      try simp only [Act.put, List.setIfInBounds_toArray, List.set_cons_zero, List.set_cons_succ]
                      first
                        | refine sk 19 rfl (by kernel_rfl) rfl HS ?_
                        | (refine tk (v := ?v18_19) 19 rfl (by kernel_rfl) rfl ?y18_19 HS ?_; case y18_19 => (intro w' hSw; (try dsimp only at hSw); go_simp <;> (with_reducible rfl)))
                      try simp only [Act.put, List.setIfInBounds_toArray, List.set_cons_zero, List.set_cons_succ]
                      first
                        | refine sk 20 rfl (by kernel_rfl) rfl HS ?_
                        | (refine tk (v := ?v18_20) 20 rfl (by kernel_rfl) rfl ?y18_20 HS ?_; case y18_20 => (intro w' hSw; (try dsimp only at hSw); go_simp <;> (with_reducible rfl)))
                      try simp only [Act.put, List.setIfInBounds_toArray, List.set_cons_zero, List.set_cons_succ]
                      refine wpAnyH_done (by kernel_rfl) ?_ _
                      refine NoPanic.normal ?_
                      have hgz := hgx.trans (hg2.trans (hgy.trans HS.2.2.2))
                      have hu := Lib.hid (show unsQ xs x.name y = true by rw [HUQ.out true (by rw [← HSY.out]; exact hq)]; simp)
                      have hP := Lib.hid (show unsP xs x.name = true by unfold unsP; exact any_yes hyk.out hu.out)
                      have c9 := HS.1
                      go_wp2_with (at_builtin; refine wpList_append_own _ rfl _ _ 63 rfl w.heap.size 9 i0 (.string ⟨#[]⟩) 1 16 Try.underlying63 hi hz0 hz1 hz2 rfl (by decide) _ _ _ rfl ((ownsRow_grew hown2.out (hgy.trans HS.2.2.2)).alloc _) ⟨_, 0, none⟩ 1 1 [.string x.name] rfl rfl (cell_one_new _ _ _) (fun x hx => by simp at hx; subst hx; rfl) (by unfold maxLen; omega) (by omega) (by have := (hbel.trans hgz).size; simp; omega) ?_; intro v' w' hown' hgr _)
                      go_roundw
                      case rel =>
                        refine ⟨k + 1, by omega, by go_num, Lib.hid ?_, ((hbel.trans hgz).alloc _).grown hgr (fun g h => (hown2.out.lt g h).1)⟩
                        rw [namesIf_yes hxk.out hP.out]; simpa using hown'
                      case measure => simp [intOf]; omega
            · rcases hca2 with rfl | rfl
              · have hk0 := hlt
                go_wp2_with fail
                refine wp_region_noPanic ?_
                refine wp_region_held_drew (S := (fun w' => (w'.cell? ⟨W1.heap.size, 0, none⟩ = some (.string x.name) ∧ w'.cell? ⟨wr.heap.size, 0, none⟩ = some (.string y.name) ∧ w'.cell? ⟨wr.heap.size, 1, none⟩ = some (.slice qa y.query.length qc) ∧ Grew (wr.alloc (.cells #[.string y.name, .slice qa y.query.length qc] 71)) w'))) (by kernel_rfl) ?h19_S ?h19_r
                case h19_S => exact ⟨grew_cell (Grew.refl _).drew f0, grew_cell (Grew.refl _).drew y0, grew_cell (Grew.refl _).drew y1, (Grew.refl _).drew⟩
                case h19_r =>
                  intro HS
                  first
                    | refine sk 0 rfl (by kernel_rfl) rfl HS ?_
                    | (refine tk (v := ?v19_0) 0 rfl (by kernel_rfl) rfl ?y19_0 HS ?_; case y19_0 => (intro w' hSw; (try dsimp only at hSw); go_simp <;> (with_reducible rfl)))
                  try simp only [Act.put, List.setIfInBounds_toArray, List.set_cons_zero, List.set_cons_succ]
                  first
                    | refine sk 1 rfl (by kernel_rfl) rfl HS ?_
                    | (refine tk (v := ?v19_1) 1 rfl (by kernel_rfl) rfl ?y19_1 HS ?_; case y19_1 => (intro w' hSw; (try dsimp only at hSw); go_simp <;> (with_reducible rfl)))
                  try simp only [Act.put, List.setIfInBounds_toArray, List.set_cons_zero, List.set_cons_succ]
                  first
                    | refine sk 3 rfl (by kernel_rfl) rfl HS ?_
                    | (refine tk (v := ?v19_3) 3 rfl (by kernel_rfl) rfl ?y19_3 HS ?_; case y19_3 => (intro w' hSw; (try dsimp only at hSw); go_simp <;> (with_reducible rfl)))
                  try simp only [Act.put, List.setIfInBounds_toArray, List.set_cons_zero, List.set_cons_succ]
                  first
                    | refine sk 4 rfl (by kernel_rfl) rfl HS ?_
                    | (refine tk (v := ?v19_4) 4 rfl (by kernel_rfl) rfl ?y19_4 HS ?_; case y19_4 => (intro w' hSw; (try dsimp only at hSw); go_simp <;> (with_reducible rfl)))
                  try simp only [Act.put, List.setIfInBounds_toArray, List.set_cons_zero, List.set_cons_succ]
                  refine cl 2 rfl (by kernel_rfl) (fun K hK => ?_)
                  go_simp
                  go_at_call 98
                  refine (implNegativeDeps _ y.query.length y.query _ (HYQ.out.grew (hbel2.trans (hgy.trans HS.2.2.2))) hys.2.1 hys.2.2).mono ?_
                  rintro e w3 ⟨v3, rfl, hv3, hb⟩
                  have HV3 := Lib.hid (rd_of_own hv3)
                  obtain ⟨va3, vc3, rfl⟩ := own_slice hv3
                  clear hv3
                  refine hK.out _ _ ?s19_2 ?r19_2
                  case s19_2 => (try dsimp only); exact ⟨grew_cell hb HS.1, grew_cell hb HS.2.1, grew_cell hb HS.2.2.1, HS.2.2.2.trans hb⟩
                  case r19_2 =>
                    clear HS
                    intro HS
                    clear hK K
                    try simp only [Act.put, List.setIfInBounds_toArray, List.set_cons_zero, List.set_cons_succ]
                    refine cl 5 rfl (by kernel_rfl) (fun K hK => ?_)
                    go_simp
                    go_at_call 176
                    refine (slContainsStr _ _ (depsL y.query true) x.name _ HV3.out (by omega)).mono ?_
                    rintro e w4 ⟨he, rfl⟩
                    rw [HDV.out] at he
                    subst he
                    have hb := Grew.refl w3
                    refine hK.out _ _ ?s19_5 ?r19_5
                    case s19_5 => (try dsimp only); exact ⟨grew_cell hb HS.1, grew_cell hb HS.2.1, grew_cell hb HS.2.2.1, HS.2.2.2.trans hb⟩
                    case r19_5 =>
                      clear HS
                      intro HS
                      clear hK K
                      try simp only [Act.put, List.setIfInBounds_toArray, List.set_cons_zero, List.set_cons_succ]
                      first
                        | refine sk 6 rfl (by kernel_rfl) rfl HS ?_
                        | (refine tk (v := ?v19_6) 6 rfl (by kernel_rfl) rfl ?y19_6 HS ?_; case y19_6 => (intro w' hSw; (try dsimp only at hSw); go_simp <;> (with_reducible rfl)))
                      try simp only [Act.put, List.setIfInBounds_toArray, List.set_cons_zero, List.set_cons_succ]
                      first
                        | refine sk 7 rfl (by kernel_rfl) rfl HS ?_
                        | (refine tk (v := ?v19_7) 7 rfl (by kernel_rfl) rfl ?y19_7 HS ?_; case y19_7 => (intro w' hSw; (try dsimp only at hSw); go_simp <;> (with_reducible rfl)))
                      try simp only [Act.put, List.setIfInBounds_toArray, List.set_cons_zero, List.set_cons_succ]
                      first
                        | refine sk 8 rfl (by kernel_rfl) rfl HS ?_
                        | (refine tk (v := ?v19_8) 8 rfl (by kernel_rfl) rfl ?y19_8 HS ?_; case y19_8 => (intro w' hSw; (try dsimp only at hSw); go_simp <;> (with_reducible rfl)))
                      try simp only [Act.put, List.setIfInBounds_toArray, List.set_cons_zero, List.set_cons_succ]
                      first
                        | refine sk 9 rfl (by kernel_rfl) rfl HS ?_
                        | (refine tk (v := ?v19_9) 9 rfl (by kernel_rfl) rfl ?y19_9 HS ?_; case y19_9 => (intro w' hSw; (try dsimp only at hSw); go_simp <;> (with_reducible rfl)))
                      try simp only [Act.put, List.setIfInBounds_toArray, List.set_cons_zero, List.set_cons_succ]
                      first
                        | refine sk 10 rfl (by kernel_rfl) rfl HS ?_
                        | (refine tk (v := ?v19_10) 10 rfl (by kernel_rfl) rfl ?y19_10 HS ?_; case y19_10 => (intro w' hSw; (try dsimp only at hSw); go_simp <;> (with_reducible rfl)))
                      try simp only [Act.put, List.setIfInBounds_toArray, List.set_cons_zero, List.set_cons_succ]
                      first
                        | refine sk 11 rfl (by kernel_rfl) rfl HS ?_
                        | (refine tk (v := ?v19_11) 11 rfl (by kernel_rfl) rfl ?y19_11 HS ?_; case y19_11 => (intro w' hSw; (try dsimp only at hSw); go_simp <;> (with_reducible rfl)))
                      try simp only [Act.put, List.setIfInBounds_toArray, List.set_cons_zero, List.set_cons_succ]
                      first
                        | refine sk 12 rfl (by kernel_rfl) rfl HS ?_
                        | (refine tk (v := ?v19_12) 12 rfl (by kernel_rfl) rfl ?y19_12 HS ?_; case y19_12 => (intro w' hSw; (try dsimp only at hSw); go_simp <;> (with_reducible rfl)))
                      try simp only [Act.put, List.setIfInBounds_toArray, List.set_cons_zero, List.set_cons_succ]
                      first
                        | refine sk 13 rfl (by kernel_rfl) rfl HS ?_
                        | (refine tk (v := ?v19_13) 13 rfl (by kernel_rfl) rfl ?y19_13 HS ?_; case y19_13 => (intro w' hSw; (try dsimp only at hSw); go_simp <;> (with_reducible rfl)))
                      try simp only [Act.put, List.setIfInBounds_toArray, List.set_cons_zero, List.set_cons_succ]
                      first
                        | refine sk 14 rfl (by kernel_rfl) rfl HS ?_
                        | (refine tk (v := ?v19_14) 14 rfl (by kernel_rfl) rfl ?y19_14 HS ?_; case y19_14 => (intro w' hSw; (try dsimp only at hSw); go_simp <;> (with_reducible rfl)))
                      try simp only [Act.put, List.setIfInBounds_toArray, List.set_cons_zero, List.set_cons_succ]
                      first
                        | refine sk 15 rfl (by kernel_rfl) rfl HS ?_
                        | (refine tk (v := ?v19_15) 15 rfl (by kernel_rfl) rfl ?y19_15 HS ?_; case y19_15 => (intro w' hSw; (try dsimp only at hSw); go_simp <;> (with_reducible rfl)))
                      try simp only [Act.put, List.setIfInBounds_toArray, List.set_cons_zero, List.set_cons_succ]
                      first
                        | refine sk 16 rfl (by kernel_rfl) rfl HS ?_
                        | (refine tk (v := ?v19_16) 16 rfl (by kernel_rfl) rfl ?y19_16 HS ?_; case y19_16 => (intro w' hSw; (try dsimp only at hSw); go_simp <;> (with_reducible rfl)))
                      try simp only [Act.put, List.setIfInBounds_toArray, List.set_cons_zero, List.set_cons_succ]
                      first
                        | refine sk 17 rfl (by kernel_rfl) rfl HS ?_
                        | (refine tk (v := ?v19_17) 17 rfl (by kernel_rfl) rfl ?y19_17 HS ?_; case y19_17 => (intro w' hSw; (try dsimp only at hSw); go_simp <;> (with_reducible rfl)))
                      try simp only [Act.put, List.setIfInBounds_toArray, List.set_cons_zero, List.set_cons_succ]
                      refine cl 18 rfl (by kernel_rfl) (fun K hK => ?_)
                      go_simp
                      go_at_call 181
                      refine (implDependsOn _ xs x.name y.name _ (HD2.out.grew (hbel2.trans (hgy.trans HS.2.2.2))) HX0.out HS0.out).mono ?_
                      rintro e w5 ⟨he, hb⟩
                      rw [HAV.out] at he
                      subst he
                      refine hK.out _ _ ?s19_18 ?r19_18
                      case s19_18 => (try dsimp only); exact ⟨grew_cell hb HS.1, grew_cell hb HS.2.1, grew_cell hb HS.2.2.1, HS.2.2.2.trans hb⟩
                      case r19_18 =>
                        clear HS
                        intro HS
                        clear hK K
                        try simp only [Act.put, List.setIfInBounds_toArray, List.set_cons_zero, List.set_cons_succ]
                        first
                          | refine sk 19 rfl (by kernel_rfl) rfl HS ?_
                          | (refine tk (v := ?v19_19) 19 rfl (by kernel_rfl) rfl ?y19_19 HS ?_; case y19_19 => (intro w' hSw; (try dsimp only at hSw); go_simp <;> (with_reducible rfl)))
                        try simp only [Act.put, List.setIfInBounds_toArray, List.set_cons_zero, List.set_cons_succ]
                        first
                          | refine sk 20 rfl (by kernel_rfl) rfl HS ?_
                          | (refine tk (v := ?v19_20) 20 rfl (by kernel_rfl) rfl ?y19_20 HS ?_; case y19_20 => (intro w' hSw; (try dsimp only at hSw); go_simp <;> (with_reducible rfl)))
                        try simp only [Act.put, List.setIfInBounds_toArray, List.set_cons_zero, List.set_cons_succ]
                        refine wpAnyH_done (by kernel_rfl) ?_ _
                        refine NoPanic.normal ?_
                        have hgz := hgx.trans (hg2.trans (hgy.trans HS.2.2.2))
                        have hu := Lib.hid (show unsQ xs x.name y = true by rw [HUQ.out false (by rw [← HSY.out]; exact hq)]; simp)
                        have hP := Lib.hid (show unsP xs x.name = true by unfold unsP; exact any_yes hyk.out hu.out)
                        have c9 := HS.1
                        go_wp2_with (at_builtin; refine wpList_append_own _ rfl _ _ 63 rfl w.heap.size 9 i0 (.string ⟨#[]⟩) 1 16 Try.underlying63 hi hz0 hz1 hz2 rfl (by decide) _ _ _ rfl ((ownsRow_grew hown2.out (hgy.trans HS.2.2.2)).alloc _) ⟨_, 0, none⟩ 1 1 [.string x.name] rfl rfl (cell_one_new _ _ _) (fun x hx => by simp at hx; subst hx; rfl) (by unfold maxLen; omega) (by omega) (by have := (hbel.trans hgz).size; simp; omega) ?_; intro v' w' hown' hgr _)
                        go_roundw
                        case rel =>
                          refine ⟨k + 1, by omega, by go_num, Lib.hid ?_, ((hbel.trans hgz).alloc _).grown hgr (fun g h => (hown2.out.lt g h).1)⟩
                          rw [namesIf_yes hxk.out hP.out]; simpa using hown'
                        case measure => simp [intOf]; omega
              · have hk0 := hlt
                go_wp2_with fail
                refine wp_region_noPanic ?_
                refine wp_region_held_drew (S := (fun w' => (w'.cell? ⟨W1.heap.size, 0, none⟩ = some (.string x.name) ∧ w'.cell? ⟨wr.heap.size, 0, none⟩ = some (.string y.name) ∧ w'.cell? ⟨wr.heap.size, 1, none⟩ = some (.slice qa y.query.length qc) ∧ Grew (wr.alloc (.cells #[.string y.name, .slice qa y.query.length qc] 71)) w'))) (by kernel_rfl) ?h20_S ?h20_r
                case h20_S => exact ⟨grew_cell (Grew.refl _).drew f0, grew_cell (Grew.refl _).drew y0, grew_cell (Grew.refl _).drew y1, (Grew.refl _).drew⟩
                case h20_r =>
                  intro HS
                  first
                    | refine sk 0 rfl (by kernel_rfl) rfl HS ?_
                    | (refine tk (v := ?v20_0) 0 rfl (by kernel_rfl) rfl ?y20_0 HS ?_; case y20_0 => (intro w' hSw; (try dsimp only at hSw); go_simp <;> (with_reducible rfl)))
                  try simp only [Act.put, List.setIfInBounds_toArray, List.set_cons_zero, List.set_cons_succ]
                  first
                    | refine sk 1 rfl (by kernel_rfl) rfl HS ?_
                    | (refine tk (v := ?v20_1) 1 rfl (by kernel_rfl) rfl ?y20_1 HS ?_; case y20_1 => (intro w' hSw; (try dsimp only at hSw); go_simp <;> (with_reducible rfl)))
                  try simp only [Act.put, List.setIfInBounds_toArray, List.set_cons_zero, List.set_cons_succ]
                  first
                    | refine sk 3 rfl (by kernel_rfl) rfl HS ?_
                    | (refine tk (v := ?v20_3) 3 rfl (by kernel_rfl) rfl ?y20_3 HS ?_; case y20_3 => (intro w' hSw; (try dsimp only at hSw); go_simp <;> (with_reducible rfl)))
                  try simp only [Act.put, List.setIfInBounds_toArray, List.set_cons_zero, List.set_cons_succ]
                  first
                    | refine sk 4 rfl (by kernel_rfl) rfl HS ?_
                    | (refine tk (v := ?v20_4) 4 rfl (by kernel_rfl) rfl ?y20_4 HS ?_; case y20_4 => (intro w' hSw; (try dsimp only at hSw); go_simp <;> (with_reducible rfl)))
                  try simp only [Act.put, List.setIfInBounds_toArray, List.set_cons_zero, List.set_cons_succ]
                  refine cl 2 rfl (by kernel_rfl) (fun K hK => ?_)
                  go_simp
                  go_at_call 98
                  refine (implNegativeDeps _ y.query.length y.query _ (HYQ.out.grew (hbel2.trans (hgy.trans HS.2.2.2))) hys.2.1 hys.2.2).mono ?_
                  rintro e w3 ⟨v3, rfl, hv3, hb⟩
                  have HV3 := Lib.hid (rd_of_own hv3)
                  obtain ⟨va3, vc3, rfl⟩ := own_slice hv3
                  clear hv3
                  refine hK.out _ _ ?s20_2 ?r20_2
                  case s20_2 => (try dsimp only); exact ⟨grew_cell hb HS.1, grew_cell hb HS.2.1, grew_cell hb HS.2.2.1, HS.2.2.2.trans hb⟩
                  case r20_2 =>
                    clear HS
                    intro HS
                    clear hK K
                    try simp only [Act.put, List.setIfInBounds_toArray, List.set_cons_zero, List.set_cons_succ]
                    refine cl 5 rfl (by kernel_rfl) (fun K hK => ?_)
                    go_simp
                    go_at_call 176
                    refine (slContainsStr _ _ (depsL y.query true) x.name _ HV3.out (by omega)).mono ?_
                    rintro e w4 ⟨he, rfl⟩
                    rw [HDV.out] at he
                    subst he
                    have hb := Grew.refl w3
                    refine hK.out _ _ ?s20_5 ?r20_5
                    case s20_5 => (try dsimp only); exact ⟨grew_cell hb HS.1, grew_cell hb HS.2.1, grew_cell hb HS.2.2.1, HS.2.2.2.trans hb⟩
                    case r20_5 =>
                      clear HS
                      intro HS
                      clear hK K
                      try simp only [Act.put, List.setIfInBounds_toArray, List.set_cons_zero, List.set_cons_succ]
                      first
                        | refine sk 6 rfl (by kernel_rfl) rfl HS ?_
                        | (refine tk (v := ?v20_6) 6 rfl (by kernel_rfl) rfl ?y20_6 HS ?_; case y20_6 => (intro w' hSw; (try dsimp only at hSw); go_simp <;> (with_reducible rfl)))
                      try simp only [Act.put, List.setIfInBounds_toArray, List.set_cons_zero, List.set_cons_succ]
                      first
                        | refine sk 7 rfl (by kernel_rfl) rfl HS ?_
                        | (refine tk (v := ?v20_7) 7 rfl (by kernel_rfl) rfl ?y20_7 HS ?_; case y20_7 => (intro w' hSw; (try dsimp only at hSw); go_simp <;> (with_reducible rfl)))
                      try simp only [Act.put, List.setIfInBounds_toArray, List.set_cons_zero, List.set_cons_succ]
                      first
                        | refine sk 8 rfl (by kernel_rfl) rfl HS ?_
                        | (refine tk (v := ?v20_8) 8 rfl (by kernel_rfl) rfl ?y20_8 HS ?_; case y20_8 => (intro w' hSw; (try dsimp only at hSw); go_simp <;> (with_reducible rfl)))
                      try simp only [Act.put, List.setIfInBounds_toArray, List.set_cons_zero, List.set_cons_succ]
                      first
                        | refine sk 9 rfl (by kernel_rfl) rfl HS ?_
                        | (refine tk (v := ?v20_9) 9 rfl (by kernel_rfl) rfl ?y20_9 HS ?_; case y20_9 => (intro w' hSw; (try dsimp only at hSw); go_simp <;> (with_reducible rfl)))
                      try simp only [Act.put, List.setIfInBounds_toArray, List.set_cons_zero, List.set_cons_succ]
                      first
                        | refine sk 10 rfl (by kernel_rfl) rfl HS ?_
                        | (refine tk (v := ?v20_10) 10 rfl (by kernel_rfl) rfl ?y20_10 HS ?_; case y20_10 => (intro w' hSw; (try dsimp only at hSw); go_simp <;> (with_reducible rfl)))
                      try simp only [Act.put, List.setIfInBounds_toArray, List.set_cons_zero, List.set_cons_succ]
                      first
                        | refine sk 11 rfl (by kernel_rfl) rfl HS ?_
                        | (refine tk (v := ?v20_11) 11 rfl (by kernel_rfl) rfl ?y20_11 HS ?_; case y20_11 => (intro w' hSw; (try dsimp only at hSw); go_simp <;> (with_reducible rfl)))
                      try simp only [Act.put, List.setIfInBounds_toArray, List.set_cons_zero, List.set_cons_succ]
                      first
                        | refine sk 12 rfl (by kernel_rfl) rfl HS ?_
                        | (refine tk (v := ?v20_12) 12 rfl (by kernel_rfl) rfl ?y20_12 HS ?_; case y20_12 => (intro w' hSw; (try dsimp only at hSw); go_simp <;> (with_reducible rfl)))
                      try simp only [Act.put, List.setIfInBounds_toArray, List.set_cons_zero, List.set_cons_succ]
                      first
                        | refine sk 13 rfl (by kernel_rfl) rfl HS ?_
                        | (refine tk (v := ?v20_13) 13 rfl (by kernel_rfl) rfl ?y20_13 HS ?_; case y20_13 => (intro w' hSw; (try dsimp only at hSw); go_simp <;> (with_reducible rfl)))
                      try simp only [Act.put, List.setIfInBounds_toArray, List.set_cons_zero, List.set_cons_succ]
                      first
                        | refine sk 14 rfl (by kernel_rfl) rfl HS ?_
                        | (refine tk (v := ?v20_14) 14 rfl (by kernel_rfl) rfl ?y20_14 HS ?_; case y20_14 => (intro w' hSw; (try dsimp only at hSw); go_simp <;> (with_reducible rfl)))
                      try simp only [Act.put, List.setIfInBounds_toArray, List.set_cons_zero, List.set_cons_succ]
                      first
                        | refine sk 15 rfl (by kernel_rfl) rfl HS ?_
                        | (refine tk (v := ?v20_15) 15 rfl (by kernel_rfl) rfl ?y20_15 HS ?_; case y20_15 => (intro w' hSw; (try dsimp only at hSw); go_simp <;> (with_reducible rfl)))
                      try simp only [Act.put, List.setIfInBounds_toArray, List.set_cons_zero, List.set_cons_succ]
                      first
                        | refine sk 16 rfl (by kernel_rfl) rfl HS ?_
                        | (refine tk (v := ?v20_16) 16 rfl (by kernel_rfl) rfl ?y20_16 HS ?_; case y20_16 => (intro w' hSw; (try dsimp only at hSw); go_simp <;> (with_reducible rfl)))
                      try simp only [Act.put, List.setIfInBounds_toArray, List.set_cons_zero, List.set_cons_succ]
                      first
                        | refine sk 17 rfl (by kernel_rfl) rfl HS ?_
                        | (refine tk (v := ?v20_17) 17 rfl (by kernel_rfl) rfl ?y20_17 HS ?_; case y20_17 => (intro w' hSw; (try dsimp only at hSw); go_simp <;> (with_reducible rfl)))
                      try simp only [Act.put, List.setIfInBounds_toArray, List.set_cons_zero, List.set_cons_succ]
                      refine cl 18 rfl (by kernel_rfl) (fun K hK => ?_)
                      go_simp
                      go_at_call 181
                      refine (implDependsOn _ xs x.name y.name _ (HD2.out.grew (hbel2.trans (hgy.trans HS.2.2.2))) HX0.out HS0.out).mono ?_
                      rintro e w5 ⟨he, hb⟩
                      rw [HAV.out] at he
                      subst he
                      refine hK.out _ _ ?s20_18 ?r20_18
                      case s20_18 => (try dsimp only); exact ⟨grew_cell hb HS.1, grew_cell hb HS.2.1, grew_cell hb HS.2.2.1, HS.2.2.2.trans hb⟩
                      case r20_18 =>
                        clear HS
                        intro HS
                        clear hK K
                        try simp only [Act.put, List.setIfInBounds_toArray, List.set_cons_zero, List.set_cons_succ]
                        first
                          | refine sk 19 rfl (by kernel_rfl) rfl HS ?_
                          | (refine tk (v := ?v20_19) 19 rfl (by kernel_rfl) rfl ?y20_19 HS ?_; case y20_19 => (intro w' hSw; (try dsimp only at hSw); go_simp <;> (with_reducible rfl)))
                        try simp only [Act.put, List.setIfInBounds_toArray, List.set_cons_zero, List.set_cons_succ]
                        first
                          | refine sk 20 rfl (by kernel_rfl) rfl HS ?_
                          | (refine tk (v := ?v20_20) 20 rfl (by kernel_rfl) rfl ?y20_20 HS ?_; case y20_20 => (intro w' hSw; (try dsimp only at hSw); go_simp <;> (with_reducible rfl)))
                        try simp only [Act.put, List.setIfInBounds_toArray, List.set_cons_zero, List.set_cons_succ]
                        refine wpAnyH_done (by kernel_rfl) ?_ _
                        refine NoPanic.normal ?_
                        have hgz := hgx.trans (hg2.trans (hgy.trans HS.2.2.2))
                        have hu := Lib.hid (show unsQ xs x.name y = false by rw [HUQ.out false (by rw [← HSY.out]; exact hq)]; simp)
                        go_wp2
                        go_roundw
                        case rel =>
                          refine ⟨j + 1, by omega, by go_num, Lib.hid ?_, Lib.hid (ownsRow_grew hown2.out (hgy.trans HS.2.2.2)), hg2.trans (hgy.trans HS.2.2.2)⟩
                          have h1 := uns_step hany.out hyk.out hu.out
                          simpa using h1
                        case measure => simp [intOf]; omega
          · have hk0 := hlt
            go_wp2_with fail
            refine wp_region_noPanic ?_
            refine wp_region_held_drew (S := (fun w' => (w'.cell? ⟨W1.heap.size, 0, none⟩ = some (.string x.name) ∧ w'.cell? ⟨wr.heap.size, 0, none⟩ = some (.string y.name) ∧ w'.cell? ⟨wr.heap.size, 1, none⟩ = some (.slice qa y.query.length qc) ∧ Grew (wr.alloc (.cells #[.string y.name, .slice qa y.query.length qc] 71)) w'))) (by kernel_rfl) ?h17_S ?h17_r
            case h17_S => exact ⟨grew_cell (Grew.refl _).drew f0, grew_cell (Grew.refl _).drew y0, grew_cell (Grew.refl _).drew y1, (Grew.refl _).drew⟩
            case h17_r =>
              intro HS
              first
                | refine sk 0 rfl (by kernel_rfl) rfl HS ?_
                | (refine tk (v := ?v17_0) 0 rfl (by kernel_rfl) rfl ?y17_0 HS ?_; case y17_0 => (intro w' hSw; (try dsimp only at hSw); go_simp <;> (with_reducible rfl)))
              try simp only [Act.put, List.setIfInBounds_toArray, List.set_cons_zero, List.set_cons_succ]
              first
                | refine sk 1 rfl (by kernel_rfl) rfl HS ?_
                | (refine tk (v := ?v17_1) 1 rfl (by kernel_rfl) rfl ?y17_1 HS ?_; case y17_1 => (intro w' hSw; (try dsimp only at hSw); go_simp <;> (with_reducible rfl)))
              try simp only [Act.put, List.setIfInBounds_toArray, List.set_cons_zero, List.set_cons_succ]
              first
                | refine sk 3 rfl (by kernel_rfl) rfl HS ?_
                | (refine tk (v := ?v17_3) 3 rfl (by kernel_rfl) rfl ?y17_3 HS ?_; case y17_3 => (intro w' hSw; (try dsimp only at hSw); go_simp <;> (with_reducible rfl)))
              try simp only [Act.put, List.setIfInBounds_toArray, List.set_cons_zero, List.set_cons_succ]
              first
                | refine sk 4 rfl (by kernel_rfl) rfl HS ?_
                | (refine tk (v := ?v17_4) 4 rfl (by kernel_rfl) rfl ?y17_4 HS ?_; case y17_4 => (intro w' hSw; (try dsimp only at hSw); go_simp <;> (with_reducible rfl)))
              try simp only [Act.put, List.setIfInBounds_toArray, List.set_cons_zero, List.set_cons_succ]
              refine cl 2 rfl (by kernel_rfl) (fun K hK => ?_)
              go_simp
              go_at_call 98
              refine (implNegativeDeps _ y.query.length y.query _ (HYQ.out.grew (hbel2.trans (hgy.trans HS.2.2.2))) hys.2.1 hys.2.2).mono ?_
              rintro e w3 ⟨v3, rfl, hv3, hb⟩
              have HV3 := Lib.hid (rd_of_own hv3)
              obtain ⟨va3, vc3, rfl⟩ := own_slice hv3
              clear hv3
              refine hK.out _ _ ?s17_2 ?r17_2
              case s17_2 => (try dsimp only); exact ⟨grew_cell hb HS.1, grew_cell hb HS.2.1, grew_cell hb HS.2.2.1, HS.2.2.2.trans hb⟩
              case r17_2 =>
                clear HS
                intro HS
                clear hK K
                try simp only [Act.put, List.setIfInBounds_toArray, List.set_cons_zero, List.set_cons_succ]
                refine cl 5 rfl (by kernel_rfl) (fun K hK => ?_)
                go_simp
                go_at_call 176
                refine (slContainsStr _ _ (depsL y.query true) x.name _ HV3.out (by omega)).mono ?_
                rintro e w4 ⟨he, rfl⟩
                rw [HDV.out] at he
                subst he
                have hb := Grew.refl w3
                refine hK.out _ _ ?s17_5 ?r17_5
                case s17_5 => (try dsimp only); exact ⟨grew_cell hb HS.1, grew_cell hb HS.2.1, grew_cell hb HS.2.2.1, HS.2.2.2.trans hb⟩
                case r17_5 =>
                  clear HS
                  intro HS
                  clear hK K
                  try simp only [Act.put, List.setIfInBounds_toArray, List.set_cons_zero, List.set_cons_succ]
                  first
                    | refine sk 6 rfl (by kernel_rfl) rfl HS ?_
                    | (refine tk (v := ?v17_6) 6 rfl (by kernel_rfl) rfl ?y17_6 HS ?_; case y17_6 => (intro w' hSw; (try dsimp only at hSw); go_simp <;> (with_reducible rfl)))
                  try simp only [Act.put, List.setIfInBounds_toArray, List.set_cons_zero, List.set_cons_succ]
                  first
                    | refine sk 7 rfl (by kernel_rfl) rfl HS ?_
                    | (refine tk (v := ?v17_7) 7 rfl (by kernel_rfl) rfl ?y17_7 HS ?_; case y17_7 => (intro w' hSw; (try dsimp only at hSw); go_simp <;> (with_reducible rfl)))
                  try simp only [Act.put, List.setIfInBounds_toArray, List.set_cons_zero, List.set_cons_succ]
                  first
                    | refine sk 8 rfl (by kernel_rfl) rfl HS ?_
                    | (refine tk (v := ?v17_8) 8 rfl (by kernel_rfl) rfl ?y17_8 HS ?_; case y17_8 => (intro w' hSw; (try dsimp only at hSw); go_simp <;> (with_reducible rfl)))
                  try simp only [Act.put, List.setIfInBounds_toArray, List.set_cons_zero, List.set_cons_succ]
                  first
                    | refine sk 9 rfl (by kernel_rfl) rfl HS ?_
                    | (refine tk (v := ?v17_9) 9 rfl (by kernel_rfl) rfl ?y17_9 HS ?_; case y17_9 => (intro w' hSw; (try dsimp only at hSw); go_simp <;> (with_reducible rfl)))
                  try simp only [Act.put, List.setIfInBounds_toArray, List.set_cons_zero, List.set_cons_succ]
                  first
                    | refine sk 10 rfl (by kernel_rfl) rfl HS ?_
                    | (refine tk (v := ?v17_10) 10 rfl (by kernel_rfl) rfl ?y17_10 HS ?_; case y17_10 => (intro w' hSw; (try dsimp only at hSw); go_simp <;> (with_reducible rfl)))
                  try simp only [Act.put, List.setIfInBounds_toArray, List.set_cons_zero, List.set_cons_succ]
                  first
                    | refine sk 11 rfl (by kernel_rfl) rfl HS ?_
                    | (refine tk (v := ?v17_11) 11 rfl (by kernel_rfl) rfl ?y17_11 HS ?_; case y17_11 => (intro w' hSw; (try dsimp only at hSw); go_simp <;> (with_reducible rfl)))
                  try simp only [Act.put, List.setIfInBounds_toArray, List.set_cons_zero, List.set_cons_succ]
                  first
                    | refine sk 12 rfl (by kernel_rfl) rfl HS ?_
                    | (refine tk (v := ?v17_12) 12 rfl (by kernel_rfl) rfl ?y17_12 HS ?_; case y17_12 => (intro w' hSw; (try dsimp only at hSw); go_simp <;> (with_reducible rfl)))
                  try simp only [Act.put, List.setIfInBounds_toArray, List.set_cons_zero, List.set_cons_succ]
                  first
                    | refine sk 13 rfl (by kernel_rfl) rfl HS ?_
                    | (refine tk (v := ?v17_13) 13 rfl (by kernel_rfl) rfl ?y17_13 HS ?_; case y17_13 => (intro w' hSw; (try dsimp only at hSw); go_simp <;> (with_reducible rfl)))
                  try simp only [Act.put, List.setIfInBounds_toArray, List.set_cons_zero, List.set_cons_succ]
                  first
                    | refine sk 14 rfl (by kernel_rfl) rfl HS ?_
                    | (refine tk (v := ?v17_14) 14 rfl (by kernel_rfl) rfl ?y17_14 HS ?_; case y17_14 => (intro w' hSw; (try dsimp only at hSw); go_simp <;> (with_reducible rfl)))
                  try simp only [Act.put, List.setIfInBounds_toArray, List.set_cons_zero, List.set_cons_succ]
                  first
                    | refine sk 15 rfl (by kernel_rfl) rfl HS ?_
                    | (refine tk (v := ?v17_15) 15 rfl (by kernel_rfl) rfl ?y17_15 HS ?_; case y17_15 => (intro w' hSw; (try dsimp only at hSw); go_simp <;> (with_reducible rfl)))
                  try simp only [Act.put, List.setIfInBounds_toArray, List.set_cons_zero, List.set_cons_succ]
                  first
                    | refine sk 16 rfl (by kernel_rfl) rfl HS ?_
                    | (refine tk (v := ?v17_16) 16 rfl (by kernel_rfl) rfl ?y17_16 HS ?_; case y17_16 => (intro w' hSw; (try dsimp only at hSw); go_simp <;> (with_reducible rfl)))
                  try simp only [Act.put, List.setIfInBounds_toArray, List.set_cons_zero, List.set_cons_succ]
                  first
                    | refine sk 17 rfl (by kernel_rfl) rfl HS ?_
                    | (refine tk (v := ?v17_17) 17 rfl (by kernel_rfl) rfl ?y17_17 HS ?_; case y17_17 => (intro w' hSw; (try dsimp only at hSw); go_simp <;> (with_reducible rfl)))
                  try simp only [Act.put, List.setIfInBounds_toArray, List.set_cons_zero, List.set_cons_succ]
                  refine cl 18 rfl (by kernel_rfl) (fun K hK => ?_)
                  go_simp
                  refine hK.out _ _ ?s17_18 ?r17_18
                  case s17_18 => (try dsimp only); exact HS
                  case r17_18 =>
                    clear HS
                    intro HS
                    clear hK K
                    try simp only [Act.put, List.setIfInBounds_toArray, List.set_cons_zero, List.set_cons_succ]
                    first
                      | refine sk 19 rfl (by kernel_rfl) rfl HS ?_
                      | (refine tk (v := ?v17_19) 19 rfl (by kernel_rfl) rfl ?y17_19 HS ?_; case y17_19 => (intro w' hSw; (try dsimp only at hSw); go_simp <;> (with_reducible rfl)))
                    try simp only [Act.put, List.setIfInBounds_toArray, List.set_cons_zero, List.set_cons_succ]
                    first
                      | refine sk 20 rfl (by kernel_rfl) rfl HS ?_
                      | (refine tk (v := ?v17_20) 20 rfl (by kernel_rfl) rfl ?y17_20 HS ?_; case y17_20 => (intro w' hSw; (try dsimp only at hSw); go_simp <;> (with_reducible rfl)))
                    try simp only [Act.put, List.setIfInBounds_toArray, List.set_cons_zero, List.set_cons_succ]
                    refine wpAnyH_done (by kernel_rfl) ?_ _
                    refine NoPanic.normal ?_
                    have hgz := hgx.trans (hg2.trans (hgy.trans HS.2.2.2))
                    have hu := Lib.hid (show unsQ xs x.name y = false by rw [HUQ.out _ rfl]; simp)
                    go_wp2
                    go_roundw
                    case rel =>
                      refine ⟨j + 1, by omega, by go_num, Lib.hid ?_, Lib.hid (ownsRow_grew hown2.out (hgy.trans HS.2.2.2)), hg2.trans (hgy.trans HS.2.2.2)⟩
                      have h1 := uns_step hany.out hyk.out hu.out
                      simpa using h1
                    case measure => simp [intOf]; omega
        · obtain rfl : j = n := by omega
          have hP := Lib.hid (show unsP xs x.name = false by unfold unsP; rw [← hany.out, take_all HX.out])
          go_wp2
          go_roundw
          case rel =>
            refine ⟨k + 1, by omega, by go_num, Lib.hid ?_, hbel2⟩
            rw [namesIf_no hxk.out hP.out]; exact hown2.out
          case measure => simp [intOf]; omega
    · obtain rfl : k = n := by omega
      go_wp2
      go_ret
      refine ⟨_, rfl, ?_, hbel⟩
      have := hown.out
      rw [take_all HX.out] at this
      exact this
end Go.Proofs.Ytejgpghcahinhaa
