/- Texts K7, as far as they are needed. -/
import Derived.Test.YtgekgokkbakcmaaGreatSt5
import Derived.Test.YtgekgokkbakcmaaGreatSt8
namespace Go.Proofs.YtgekgokkbakcmaaGreat
open Go.RowKit Go.Sort
set_option linter.unusedVariables false
theorem uns_step {xs : List Dr} {s : ByteArray} {k : Nat} {y : Dr} {b v : Bool} (h : (xs.take k).any (unsQ xs s) = b) (hy : xs[k]? = some y) (hv : unsQ xs s y = v) : (xs.take (k + 1)).any (unsQ xs s) = (b || v) := by
  rw [take_snoc hy, List.any_append, h]; simp [hv]
set_option maxRecDepth 100000 in
set_option maxHeartbeats 4000000 in
theorem specUnstratifiedDirs (va : Value) (xs : List Dr) (w : World) (ha : RdDs w va xs) (hx : xs.length ≤ 1900000) (hs : ∀ x, x ∈ xs → x.small) (hz : szAll Dr.sz xs ≤ 4000000) :
    Calls Tryz.prog 23 #[va] w fun e w' => ∃ v, e = .returned v ∧ w'.ownsRow w.heap.size 9 1 v (namesIf (unsP xs) xs).length (strs (namesIf (unsP xs) xs)) ∧ Grew w w' := by
  have HD := Lib.hid ha
  have HS0 := Lib.hid hs
  have HZ := Lib.hid hz
  obtain ⟨qs, ⟨a, ca, rfl, hca, hra⟩, hall⟩ := ha
  have HA := Lib.hid hall
  clear hall hs
  have HX0 := Lib.hid hx
  generalize hn : xs.length = n at hx hra
  have HX := Lib.hid hn
  have HD2 := Lib.hid (show RdDs w (.slice a n ca) xs by have := HD.out; rw [hn] at this; exact this)
  clear hn HD
  obtain ⟨i0, hi, hz0, hz1, hz2⟩ := info_parts Tryz.infoString
  go_enter Tryz.func23, Tryz.ntmps23
  go_wp2
  go_loopw [3, 4] (fun v i wr => ∃ k : Nat, k ≤ n ∧ i = .int .i64 k ∧ Hid (wr.ownsRow w.heap.size 9 1 v (namesIf (unsP xs) (xs.take k)).length (strs (namesIf (unsP xs) (xs.take k)))) ∧ Grew w wr) (fun _ i _ => n - (intOf i).toNat)
  case atStart => exact ⟨0, Nat.zero_le _, rfl, Lib.hid (lit_own w 9 1), (Grew.refl _).alloc _⟩
  case round =>
    obtain ⟨k, hk, rfl, hown, hbel⟩ := hrel
    have hnl := namesIf_tk (unsP xs) xs k
    by_cases hlt : k < n
    · obtain ⟨b1, o1, p, rfl, hpk, c0, c1⟩ := (hra.grew hbel).getP2 hlt
      obtain ⟨x, hxk, hxr⟩ := HA.out.get hpk.out
      obtain ⟨pn, pq⟩ := p
      obtain ⟨hxn, hxq⟩ := hxr
      simp only at hxn hxq c0 c1
      subst hxn
      clear hxq
      obtain ⟨W1, rfl⟩ : ∃ y, y = wr := ⟨_, rfl⟩
      go_wp2
      go_loopw [5, 6] (fun v i wr => ∃ (j : Nat) (b : Bool), j ≤ n ∧ i = .int .i64 j ∧ v = .bool b ∧ Hid ((xs.take j).any (unsQ xs x.name) = b) ∧ Grew W1 wr) (fun _ i _ => n - (intOf i).toNat)
      case atStart => exact ⟨0, false, Nat.zero_le _, rfl, rfl, Lib.hid (by simp), Grew.refl _⟩
      case round =>
        obtain ⟨j, b, hj, rfl, rfl, hany, hg2⟩ := hrel
        have hbel2 := hbel.trans hg2
        by_cases hlj : j < n
        · obtain ⟨b2, o2, p, hab, hpj, d0, d1⟩ := (hra.grew hbel2).getP2 hlj
          cases hab
          obtain ⟨y, hyk, hyr⟩ := HA.out.get hpj.out
          have hys := dir_sz HZ.out hyk.out
          obtain ⟨pn, pq⟩ := p
          obtain ⟨hyn, hyq⟩ := hyr
          simp only at hyn hyq d0 d1
          subst hyn
          have HYQ := Lib.hid hyq
          obtain ⟨qa, qc, rfl, hqc, hqr⟩ := hyq
          clear hqr hqc
          have c0' := grew_cell hg2 c0
          obtain ⟨av, hav⟩ : ∃ v, asksB xs x.name y.name = v := ⟨_, rfl⟩
          obtain ⟨dv, hdv⟩ : ∃ v, hasB (depsL y.query true) x.name = v := ⟨_, rfl⟩
          have HAV := Lib.hid hav
          have HDV := Lib.hid hdv
          have hdl := depsL_le y.query true
          have hjn : (j : Int) < (n : Int) := by omega
          have hkn : (k : Int) < (n : Int) := by omega
          have HUQ := Lib.hid (fun (e : Bool) (he : (y.name.toList == x.name.toList) = e) => show unsQ xs x.name y = ((e || av) && dv) by unfold unsQ; rw [he, hav, hdv])
          clear hav hdv
          have hcs : (y.name.toList == x.name.toList) = true ∨ (y.name.toList == x.name.toList) = false := by cases y.name.toList == x.name.toList <;> simp
          have hcb : b = true ∨ b = false := by cases b <;> simp
          have hca2 : av = true ∨ av = false := by cases av <;> simp
          have hcd : dv = true ∨ dv = false := by cases dv <;> simp
          rcases hcs with hq | hq
          · rcases hcb with rfl | rfl
            · have hk0 := hlt
              go_wp2_with fail
              refine wp_region_noPanic ?_
              refine wp_region_held_drew (S := (fun w' => (w'.cell? ⟨b1, o1 + k * 2, none⟩ = some (.string x.name) ∧ w'.cell? ⟨b1, o1 + j * 2, none⟩ = some (.string y.name) ∧ w'.cell? ⟨b1, o1 + j * 2 + 1, none⟩ = some (.slice qa y.query.length qc) ∧ Grew wr w'))) (by kernel_rfl) ?h1_S ?h1_r
              case h1_S => exact ⟨grew_cell (Grew.refl _).drew c0', grew_cell (Grew.refl _).drew d0, grew_cell (Grew.refl _).drew d1, (Grew.refl _).drew⟩
              case h1_r =>
                intro HS
                first
                  | refine sk 0 rfl (by kernel_rfl) rfl HS ?_
                  | (refine tk (v := ?v1_0) 0 rfl (by kernel_rfl) rfl ?y1_0 HS ?_; case y1_0 => (intro w' hSw; (try dsimp only at hSw); go_simp <;> (with_reducible rfl)))
                try simp only [Act.put, List.setIfInBounds_toArray, List.set_cons_zero, List.set_cons_succ]
                first
                  | refine sk 1 rfl (by kernel_rfl) rfl HS ?_
                  | (refine tk (v := ?v1_1) 1 rfl (by kernel_rfl) rfl ?y1_1 HS ?_; case y1_1 => (intro w' hSw; (try dsimp only at hSw); go_simp <;> (with_reducible rfl)))
                try simp only [Act.put, List.setIfInBounds_toArray, List.set_cons_zero, List.set_cons_succ]
                first
                  | refine sk 2 rfl (by kernel_rfl) rfl HS ?_
                  | (refine tk (v := ?v1_2) 2 rfl (by kernel_rfl) rfl ?y1_2 HS ?_; case y1_2 => (intro w' hSw; (try dsimp only at hSw); go_simp <;> (with_reducible rfl)))
                try simp only [Act.put, List.setIfInBounds_toArray, List.set_cons_zero, List.set_cons_succ]
                first
                  | refine sk 3 rfl (by kernel_rfl) rfl HS ?_
                  | (refine tk (v := ?v1_3) 3 rfl (by kernel_rfl) rfl ?y1_3 HS ?_; case y1_3 => (intro w' hSw; (try dsimp only at hSw); go_simp <;> (with_reducible rfl)))
                try simp only [Act.put, List.setIfInBounds_toArray, List.set_cons_zero, List.set_cons_succ]
                first
                  | refine sk 4 rfl (by kernel_rfl) rfl HS ?_
                  | (refine tk (v := ?v1_4) 4 rfl (by kernel_rfl) rfl ?y1_4 HS ?_; case y1_4 => (intro w' hSw; (try dsimp only at hSw); go_simp <;> (with_reducible rfl)))
                try simp only [Act.put, List.setIfInBounds_toArray, List.set_cons_zero, List.set_cons_succ]
                first
                  | refine sk 5 rfl (by kernel_rfl) rfl HS ?_
                  | (refine tk (v := ?v1_5) 5 rfl (by kernel_rfl) rfl ?y1_5 HS ?_; case y1_5 => (intro w' hSw; (try dsimp only at hSw); go_simp <;> (with_reducible rfl)))
                try simp only [Act.put, List.setIfInBounds_toArray, List.set_cons_zero, List.set_cons_succ]
                first
                  | refine sk 6 rfl (by kernel_rfl) rfl HS ?_
                  | (refine tk (v := ?v1_6) 6 rfl (by kernel_rfl) rfl ?y1_6 HS ?_; case y1_6 => (intro w' hSw; (try dsimp only at hSw); go_simp <;> (with_reducible rfl)))
                try simp only [Act.put, List.setIfInBounds_toArray, List.set_cons_zero, List.set_cons_succ]
                first
                  | refine sk 7 rfl (by kernel_rfl) rfl HS ?_
                  | (refine tk (v := ?v1_7) 7 rfl (by kernel_rfl) rfl ?y1_7 HS ?_; case y1_7 => (intro w' hSw; (try dsimp only at hSw); go_simp <;> (with_reducible rfl)))
                try simp only [Act.put, List.setIfInBounds_toArray, List.set_cons_zero, List.set_cons_succ]
                first
                  | refine sk 8 rfl (by kernel_rfl) rfl HS ?_
                  | (refine tk (v := ?v1_8) 8 rfl (by kernel_rfl) rfl ?y1_8 HS ?_; case y1_8 => (intro w' hSw; (try dsimp only at hSw); go_simp <;> (with_reducible rfl)))
                try simp only [Act.put, List.setIfInBounds_toArray, List.set_cons_zero, List.set_cons_succ]
                first
                  | refine sk 9 rfl (by kernel_rfl) rfl HS ?_
                  | (refine tk (v := ?v1_9) 9 rfl (by kernel_rfl) rfl ?y1_9 HS ?_; case y1_9 => (intro w' hSw; (try dsimp only at hSw); go_simp <;> (with_reducible rfl)))
                try simp only [Act.put, List.setIfInBounds_toArray, List.set_cons_zero, List.set_cons_succ]
                first
                  | refine sk 10 rfl (by kernel_rfl) rfl HS ?_
                  | (refine tk (v := ?v1_10) 10 rfl (by kernel_rfl) rfl ?y1_10 HS ?_; case y1_10 => (intro w' hSw; (try dsimp only at hSw); go_simp <;> (with_reducible rfl)))
                try simp only [Act.put, List.setIfInBounds_toArray, List.set_cons_zero, List.set_cons_succ]
                first
                  | refine sk 11 rfl (by kernel_rfl) rfl HS ?_
                  | (refine tk (v := ?v1_11) 11 rfl (by kernel_rfl) rfl ?y1_11 HS ?_; case y1_11 => (intro w' hSw; (try dsimp only at hSw); go_simp <;> (with_reducible rfl)))
                try simp only [Act.put, List.setIfInBounds_toArray, List.set_cons_zero, List.set_cons_succ]
                first
                  | refine sk 12 rfl (by kernel_rfl) rfl HS ?_
                  | (refine tk (v := ?v1_12) 12 rfl (by kernel_rfl) rfl ?y1_12 HS ?_; case y1_12 => (intro w' hSw; (try dsimp only at hSw); go_simp <;> (with_reducible rfl)))
                try simp only [Act.put, List.setIfInBounds_toArray, List.set_cons_zero, List.set_cons_succ]
                first
                  | refine sk 13 rfl (by kernel_rfl) rfl HS ?_
                  | (refine tk (v := ?v1_13) 13 rfl (by kernel_rfl) rfl ?y1_13 HS ?_; case y1_13 => (intro w' hSw; (try dsimp only at hSw); go_simp <;> (with_reducible rfl)))
                try simp only [Act.put, List.setIfInBounds_toArray, List.set_cons_zero, List.set_cons_succ]
                first
                  | refine sk 14 rfl (by kernel_rfl) rfl HS ?_
                  | (refine tk (v := ?v1_14) 14 rfl (by kernel_rfl) rfl ?y1_14 HS ?_; case y1_14 => (intro w' hSw; (try dsimp only at hSw); go_simp <;> (with_reducible rfl)))
                try simp only [Act.put, List.setIfInBounds_toArray, List.set_cons_zero, List.set_cons_succ]
                first
                  | refine sk 15 rfl (by kernel_rfl) rfl HS ?_
                  | (refine tk (v := ?v1_15) 15 rfl (by kernel_rfl) rfl ?y1_15 HS ?_; case y1_15 => (intro w' hSw; (try dsimp only at hSw); go_simp <;> (with_reducible rfl)))
                try simp only [Act.put, List.setIfInBounds_toArray, List.set_cons_zero, List.set_cons_succ]
                first
                  | refine sk 16 rfl (by kernel_rfl) rfl HS ?_
                  | (refine tk (v := ?v1_16) 16 rfl (by kernel_rfl) rfl ?y1_16 HS ?_; case y1_16 => (intro w' hSw; (try dsimp only at hSw); go_simp <;> (with_reducible rfl)))
                try simp only [Act.put, List.setIfInBounds_toArray, List.set_cons_zero, List.set_cons_succ]
                first
                  | refine sk 17 rfl (by kernel_rfl) rfl HS ?_
                  | (refine tk (v := ?v1_17) 17 rfl (by kernel_rfl) rfl ?y1_17 HS ?_; case y1_17 => (intro w' hSw; (try dsimp only at hSw); go_simp <;> (with_reducible rfl)))
                try simp only [Act.put, List.setIfInBounds_toArray, List.set_cons_zero, List.set_cons_succ]
                first
                  | refine sk 18 rfl (by kernel_rfl) rfl HS ?_
                  | (refine tk (v := ?v1_18) 18 rfl (by kernel_rfl) rfl ?y1_18 HS ?_; case y1_18 => (intro w' hSw; (try dsimp only at hSw); go_simp <;> (with_reducible rfl)))
                try simp only [Act.put, List.setIfInBounds_toArray, List.set_cons_zero, List.set_cons_succ]
                first
                  | refine sk 19 rfl (by kernel_rfl) rfl HS ?_
                  | (refine tk (v := ?v1_19) 19 rfl (by kernel_rfl) rfl ?y1_19 HS ?_; case y1_19 => (intro w' hSw; (try dsimp only at hSw); go_simp <;> (with_reducible rfl)))
                try simp only [Act.put, List.setIfInBounds_toArray, List.set_cons_zero, List.set_cons_succ]
                first
                  | refine sk 20 rfl (by kernel_rfl) rfl HS ?_
                  | (refine tk (v := ?v1_20) 20 rfl (by kernel_rfl) rfl ?y1_20 HS ?_; case y1_20 => (intro w' hSw; (try dsimp only at hSw); go_simp <;> (with_reducible rfl)))
                try simp only [Act.put, List.setIfInBounds_toArray, List.set_cons_zero, List.set_cons_succ]
                first
                  | refine sk 21 rfl (by kernel_rfl) rfl HS ?_
                  | (refine tk (v := ?v1_21) 21 rfl (by kernel_rfl) rfl ?y1_21 HS ?_; case y1_21 => (intro w' hSw; (try dsimp only at hSw); go_simp <;> (with_reducible rfl)))
                try simp only [Act.put, List.setIfInBounds_toArray, List.set_cons_zero, List.set_cons_succ]
                first
                  | refine sk 22 rfl (by kernel_rfl) rfl HS ?_
                  | (refine tk (v := ?v1_22) 22 rfl (by kernel_rfl) rfl ?y1_22 HS ?_; case y1_22 => (intro w' hSw; (try dsimp only at hSw); go_simp <;> (with_reducible rfl)))
                try simp only [Act.put, List.setIfInBounds_toArray, List.set_cons_zero, List.set_cons_succ]
                refine cl 23 rfl (by kernel_rfl) (fun K hK => ?_)
                go_simp
                refine hK.out _ _ ?s1_23 ?r1_23
                case s1_23 => (try dsimp only); exact HS
                case r1_23 =>
                  clear HS
                  intro HS
                  clear hK K
                  try simp only [Act.put, List.setIfInBounds_toArray, List.set_cons_zero, List.set_cons_succ]
                  first
                    | refine sk 24 rfl (by kernel_rfl) rfl HS ?_
                    | (refine tk (v := ?v1_24) 24 rfl (by kernel_rfl) rfl ?y1_24 HS ?_; case y1_24 => (intro w' hSw; (try dsimp only at hSw); go_simp <;> (with_reducible rfl)))
                  try simp only [Act.put, List.setIfInBounds_toArray, List.set_cons_zero, List.set_cons_succ]
                  first
                    | refine sk 25 rfl (by kernel_rfl) rfl HS ?_
                    | (refine tk (v := ?v1_25) 25 rfl (by kernel_rfl) rfl ?y1_25 HS ?_; case y1_25 => (intro w' hSw; (try dsimp only at hSw); go_simp <;> (with_reducible rfl)))
                  try simp only [Act.put, List.setIfInBounds_toArray, List.set_cons_zero, List.set_cons_succ]
                  refine wpAnyH_done (by kernel_rfl) ?_ _
                  refine NoPanic.normal ?_
                  have HA1 := HS.1
                  have HA2 := HS.2.1
                  have HA3 := HS.2.2.1
                  have HA4 := HS.2.2.2
                  clear HS
                  go_wp2_with fail
                  refine wp_region_noPanic ?_
                  refine wp_region_held_drew (S := (fun w' => (w'.cell? ⟨b1, o1 + k * 2, none⟩ = some (.string x.name) ∧ w'.cell? ⟨b1, o1 + j * 2, none⟩ = some (.string y.name) ∧ w'.cell? ⟨b1, o1 + j * 2 + 1, none⟩ = some (.slice qa y.query.length qc) ∧ Grew wr w'))) (by kernel_rfl) ?h2_S ?h2_r
                  case h2_S => exact ⟨grew_cell (Grew.refl _).drew HA1, grew_cell (Grew.refl _).drew HA2, grew_cell (Grew.refl _).drew HA3, HA4.trans (Grew.refl _).drew⟩
                  case h2_r =>
                    intro HS
                    first
                      | refine sk 0 rfl (by kernel_rfl) rfl HS ?_
                      | (refine tk (v := ?v2_0) 0 rfl (by kernel_rfl) rfl ?y2_0 HS ?_; case y2_0 => (intro w' hSw; (try dsimp only at hSw); go_simp <;> (with_reducible rfl)))
                    try simp only [Act.put, List.setIfInBounds_toArray, List.set_cons_zero, List.set_cons_succ]
                    first
                      | refine sk 1 rfl (by kernel_rfl) rfl HS ?_
                      | (refine tk (v := ?v2_1) 1 rfl (by kernel_rfl) rfl ?y2_1 HS ?_; case y2_1 => (intro w' hSw; (try dsimp only at hSw); go_simp <;> (with_reducible rfl)))
                    try simp only [Act.put, List.setIfInBounds_toArray, List.set_cons_zero, List.set_cons_succ]
                    first
                      | refine sk 2 rfl (by kernel_rfl) rfl HS ?_
                      | (refine tk (v := ?v2_2) 2 rfl (by kernel_rfl) rfl ?y2_2 HS ?_; case y2_2 => (intro w' hSw; (try dsimp only at hSw); go_simp <;> (with_reducible rfl)))
                    try simp only [Act.put, List.setIfInBounds_toArray, List.set_cons_zero, List.set_cons_succ]
                    first
                      | refine sk 3 rfl (by kernel_rfl) rfl HS ?_
                      | (refine tk (v := ?v2_3) 3 rfl (by kernel_rfl) rfl ?y2_3 HS ?_; case y2_3 => (intro w' hSw; (try dsimp only at hSw); go_simp <;> (with_reducible rfl)))
                    try simp only [Act.put, List.setIfInBounds_toArray, List.set_cons_zero, List.set_cons_succ]
                    first
                      | refine sk 4 rfl (by kernel_rfl) rfl HS ?_
                      | (refine tk (v := ?v2_4) 4 rfl (by kernel_rfl) rfl ?y2_4 HS ?_; case y2_4 => (intro w' hSw; (try dsimp only at hSw); go_simp <;> (with_reducible rfl)))
                    try simp only [Act.put, List.setIfInBounds_toArray, List.set_cons_zero, List.set_cons_succ]
                    first
                      | refine sk 5 rfl (by kernel_rfl) rfl HS ?_
                      | (refine tk (v := ?v2_5) 5 rfl (by kernel_rfl) rfl ?y2_5 HS ?_; case y2_5 => (intro w' hSw; (try dsimp only at hSw); go_simp <;> (with_reducible rfl)))
                    try simp only [Act.put, List.setIfInBounds_toArray, List.set_cons_zero, List.set_cons_succ]
                    first
                      | refine sk 6 rfl (by kernel_rfl) rfl HS ?_
                      | (refine tk (v := ?v2_6) 6 rfl (by kernel_rfl) rfl ?y2_6 HS ?_; case y2_6 => (intro w' hSw; (try dsimp only at hSw); go_simp <;> (with_reducible rfl)))
                    try simp only [Act.put, List.setIfInBounds_toArray, List.set_cons_zero, List.set_cons_succ]
                    first
                      | refine sk 7 rfl (by kernel_rfl) rfl HS ?_
                      | (refine tk (v := ?v2_7) 7 rfl (by kernel_rfl) rfl ?y2_7 HS ?_; case y2_7 => (intro w' hSw; (try dsimp only at hSw); go_simp <;> (with_reducible rfl)))
                    try simp only [Act.put, List.setIfInBounds_toArray, List.set_cons_zero, List.set_cons_succ]
                    first
                      | refine sk 8 rfl (by kernel_rfl) rfl HS ?_
                      | (refine tk (v := ?v2_8) 8 rfl (by kernel_rfl) rfl ?y2_8 HS ?_; case y2_8 => (intro w' hSw; (try dsimp only at hSw); go_simp <;> (with_reducible rfl)))
                    try simp only [Act.put, List.setIfInBounds_toArray, List.set_cons_zero, List.set_cons_succ]
                    first
                      | refine sk 10 rfl (by kernel_rfl) rfl HS ?_
                      | (refine tk (v := ?v2_10) 10 rfl (by kernel_rfl) rfl ?y2_10 HS ?_; case y2_10 => (intro w' hSw; (try dsimp only at hSw); go_simp <;> (with_reducible rfl)))
                    try simp only [Act.put, List.setIfInBounds_toArray, List.set_cons_zero, List.set_cons_succ]
                    first
                      | refine sk 11 rfl (by kernel_rfl) rfl HS ?_
                      | (refine tk (v := ?v2_11) 11 rfl (by kernel_rfl) rfl ?y2_11 HS ?_; case y2_11 => (intro w' hSw; (try dsimp only at hSw); go_simp <;> (with_reducible rfl)))
                    try simp only [Act.put, List.setIfInBounds_toArray, List.set_cons_zero, List.set_cons_succ]
                    first
                      | refine sk 12 rfl (by kernel_rfl) rfl HS ?_
                      | (refine tk (v := ?v2_12) 12 rfl (by kernel_rfl) rfl ?y2_12 HS ?_; case y2_12 => (intro w' hSw; (try dsimp only at hSw); go_simp <;> (with_reducible rfl)))
                    try simp only [Act.put, List.setIfInBounds_toArray, List.set_cons_zero, List.set_cons_succ]
                    first
                      | refine sk 13 rfl (by kernel_rfl) rfl HS ?_
                      | (refine tk (v := ?v2_13) 13 rfl (by kernel_rfl) rfl ?y2_13 HS ?_; case y2_13 => (intro w' hSw; (try dsimp only at hSw); go_simp <;> (with_reducible rfl)))
                    try simp only [Act.put, List.setIfInBounds_toArray, List.set_cons_zero, List.set_cons_succ]
                    first
                      | refine sk 14 rfl (by kernel_rfl) rfl HS ?_
                      | (refine tk (v := ?v2_14) 14 rfl (by kernel_rfl) rfl ?y2_14 HS ?_; case y2_14 => (intro w' hSw; (try dsimp only at hSw); go_simp <;> (with_reducible rfl)))
                    try simp only [Act.put, List.setIfInBounds_toArray, List.set_cons_zero, List.set_cons_succ]
                    refine cl 9 rfl (by kernel_rfl) (fun K hK => ?_)
                    go_simp
                    refine hK.out _ _ ?s2_9 ?r2_9
                    case s2_9 => (try dsimp only); exact HS
                    case r2_9 =>
                      clear HS
                      intro HS
                      clear hK K
                      try simp only [Act.put, List.setIfInBounds_toArray, List.set_cons_zero, List.set_cons_succ]
                      refine cl 15 rfl (by kernel_rfl) (fun K hK => ?_)
                      go_simp
                      refine hK.out _ _ ?s2_15 ?r2_15
                      case s2_15 => (try dsimp only); exact HS
                      case r2_15 =>
                        clear HS
                        intro HS
                        clear hK K
                        try simp only [Act.put, List.setIfInBounds_toArray, List.set_cons_zero, List.set_cons_succ]
                        first
                          | refine sk 16 rfl (by kernel_rfl) rfl HS ?_
                          | (refine tk (v := ?v2_16) 16 rfl (by kernel_rfl) rfl ?y2_16 HS ?_; case y2_16 => (intro w' hSw; (try dsimp only at hSw); go_simp <;> (with_reducible rfl)))
                        try simp only [Act.put, List.setIfInBounds_toArray, List.set_cons_zero, List.set_cons_succ]
                        first
                          | refine sk 17 rfl (by kernel_rfl) rfl HS ?_
                          | (refine tk (v := ?v2_17) 17 rfl (by kernel_rfl) rfl ?y2_17 HS ?_; case y2_17 => (intro w' hSw; (try dsimp only at hSw); go_simp <;> (with_reducible rfl)))
                        try simp only [Act.put, List.setIfInBounds_toArray, List.set_cons_zero, List.set_cons_succ]
                        first
                          | refine sk 18 rfl (by kernel_rfl) rfl HS ?_
                          | (refine tk (v := ?v2_18) 18 rfl (by kernel_rfl) rfl ?y2_18 HS ?_; case y2_18 => (intro w' hSw; (try dsimp only at hSw); go_simp <;> (with_reducible rfl)))
                        try simp only [Act.put, List.setIfInBounds_toArray, List.set_cons_zero, List.set_cons_succ]
                        refine wpAnyH_done (by kernel_rfl) ?_ _
                        refine NoPanic.normal ?_
                        go_wp2
                        go_roundw
                        case rel =>
                          refine ⟨j + 1, true, by omega, by go_num, rfl, Lib.hid ?_, hg2.trans HS.2.2.2⟩
                          have h1 := uns_step hany.out hyk.out (HUQ.out true hq)
                          simpa using h1
                        case measure => simp [intOf]; omega
            · rcases hcd with rfl | rfl
              · have hk0 := hlt
                go_wp2_with fail
                refine wp_region_noPanic ?_
                refine wp_region_held_drew (S := (fun w' => (w'.cell? ⟨b1, o1 + k * 2, none⟩ = some (.string x.name) ∧ w'.cell? ⟨b1, o1 + j * 2, none⟩ = some (.string y.name) ∧ w'.cell? ⟨b1, o1 + j * 2 + 1, none⟩ = some (.slice qa y.query.length qc) ∧ Grew wr w'))) (by kernel_rfl) ?h3_S ?h3_r
                case h3_S => exact ⟨grew_cell (Grew.refl _).drew c0', grew_cell (Grew.refl _).drew d0, grew_cell (Grew.refl _).drew d1, (Grew.refl _).drew⟩
                case h3_r =>
                  intro HS
                  first
                    | refine sk 0 rfl (by kernel_rfl) rfl HS ?_
                    | (refine tk (v := ?v3_0) 0 rfl (by kernel_rfl) rfl ?y3_0 HS ?_; case y3_0 => (intro w' hSw; (try dsimp only at hSw); go_simp <;> (with_reducible rfl)))
                  try simp only [Act.put, List.setIfInBounds_toArray, List.set_cons_zero, List.set_cons_succ]
                  first
                    | refine sk 1 rfl (by kernel_rfl) rfl HS ?_
                    | (refine tk (v := ?v3_1) 1 rfl (by kernel_rfl) rfl ?y3_1 HS ?_; case y3_1 => (intro w' hSw; (try dsimp only at hSw); go_simp <;> (with_reducible rfl)))
                  try simp only [Act.put, List.setIfInBounds_toArray, List.set_cons_zero, List.set_cons_succ]
                  first
                    | refine sk 2 rfl (by kernel_rfl) rfl HS ?_
                    | (refine tk (v := ?v3_2) 2 rfl (by kernel_rfl) rfl ?y3_2 HS ?_; case y3_2 => (intro w' hSw; (try dsimp only at hSw); go_simp <;> (with_reducible rfl)))
                  try simp only [Act.put, List.setIfInBounds_toArray, List.set_cons_zero, List.set_cons_succ]
                  first
                    | refine sk 3 rfl (by kernel_rfl) rfl HS ?_
                    | (refine tk (v := ?v3_3) 3 rfl (by kernel_rfl) rfl ?y3_3 HS ?_; case y3_3 => (intro w' hSw; (try dsimp only at hSw); go_simp <;> (with_reducible rfl)))
                  try simp only [Act.put, List.setIfInBounds_toArray, List.set_cons_zero, List.set_cons_succ]
                  first
                    | refine sk 4 rfl (by kernel_rfl) rfl HS ?_
                    | (refine tk (v := ?v3_4) 4 rfl (by kernel_rfl) rfl ?y3_4 HS ?_; case y3_4 => (intro w' hSw; (try dsimp only at hSw); go_simp <;> (with_reducible rfl)))
                  try simp only [Act.put, List.setIfInBounds_toArray, List.set_cons_zero, List.set_cons_succ]
                  first
                    | refine sk 5 rfl (by kernel_rfl) rfl HS ?_
                    | (refine tk (v := ?v3_5) 5 rfl (by kernel_rfl) rfl ?y3_5 HS ?_; case y3_5 => (intro w' hSw; (try dsimp only at hSw); go_simp <;> (with_reducible rfl)))
                  try simp only [Act.put, List.setIfInBounds_toArray, List.set_cons_zero, List.set_cons_succ]
                  first
                    | refine sk 6 rfl (by kernel_rfl) rfl HS ?_
                    | (refine tk (v := ?v3_6) 6 rfl (by kernel_rfl) rfl ?y3_6 HS ?_; case y3_6 => (intro w' hSw; (try dsimp only at hSw); go_simp <;> (with_reducible rfl)))
                  try simp only [Act.put, List.setIfInBounds_toArray, List.set_cons_zero, List.set_cons_succ]
                  first
                    | refine sk 7 rfl (by kernel_rfl) rfl HS ?_
                    | (refine tk (v := ?v3_7) 7 rfl (by kernel_rfl) rfl ?y3_7 HS ?_; case y3_7 => (intro w' hSw; (try dsimp only at hSw); go_simp <;> (with_reducible rfl)))
                  try simp only [Act.put, List.setIfInBounds_toArray, List.set_cons_zero, List.set_cons_succ]
                  first
                    | refine sk 8 rfl (by kernel_rfl) rfl HS ?_
                    | (refine tk (v := ?v3_8) 8 rfl (by kernel_rfl) rfl ?y3_8 HS ?_; case y3_8 => (intro w' hSw; (try dsimp only at hSw); go_simp <;> (with_reducible rfl)))
                  try simp only [Act.put, List.setIfInBounds_toArray, List.set_cons_zero, List.set_cons_succ]
                  first
                    | refine sk 9 rfl (by kernel_rfl) rfl HS ?_
                    | (refine tk (v := ?v3_9) 9 rfl (by kernel_rfl) rfl ?y3_9 HS ?_; case y3_9 => (intro w' hSw; (try dsimp only at hSw); go_simp <;> (with_reducible rfl)))
                  try simp only [Act.put, List.setIfInBounds_toArray, List.set_cons_zero, List.set_cons_succ]
                  first
                    | refine sk 10 rfl (by kernel_rfl) rfl HS ?_
                    | (refine tk (v := ?v3_10) 10 rfl (by kernel_rfl) rfl ?y3_10 HS ?_; case y3_10 => (intro w' hSw; (try dsimp only at hSw); go_simp <;> (with_reducible rfl)))
                  try simp only [Act.put, List.setIfInBounds_toArray, List.set_cons_zero, List.set_cons_succ]
                  first
                    | refine sk 11 rfl (by kernel_rfl) rfl HS ?_
                    | (refine tk (v := ?v3_11) 11 rfl (by kernel_rfl) rfl ?y3_11 HS ?_; case y3_11 => (intro w' hSw; (try dsimp only at hSw); go_simp <;> (with_reducible rfl)))
                  try simp only [Act.put, List.setIfInBounds_toArray, List.set_cons_zero, List.set_cons_succ]
                  first
                    | refine sk 12 rfl (by kernel_rfl) rfl HS ?_
                    | (refine tk (v := ?v3_12) 12 rfl (by kernel_rfl) rfl ?y3_12 HS ?_; case y3_12 => (intro w' hSw; (try dsimp only at hSw); go_simp <;> (with_reducible rfl)))
                  try simp only [Act.put, List.setIfInBounds_toArray, List.set_cons_zero, List.set_cons_succ]
                  first
                    | refine sk 13 rfl (by kernel_rfl) rfl HS ?_
                    | (refine tk (v := ?v3_13) 13 rfl (by kernel_rfl) rfl ?y3_13 HS ?_; case y3_13 => (intro w' hSw; (try dsimp only at hSw); go_simp <;> (with_reducible rfl)))
                  try simp only [Act.put, List.setIfInBounds_toArray, List.set_cons_zero, List.set_cons_succ]
                  first
                    | refine sk 14 rfl (by kernel_rfl) rfl HS ?_
                    | (refine tk (v := ?v3_14) 14 rfl (by kernel_rfl) rfl ?y3_14 HS ?_; case y3_14 => (intro w' hSw; (try dsimp only at hSw); go_simp <;> (with_reducible rfl)))
                  try simp only [Act.put, List.setIfInBounds_toArray, List.set_cons_zero, List.set_cons_succ]
                  first
                    | refine sk 15 rfl (by kernel_rfl) rfl HS ?_
                    | (refine tk (v := ?v3_15) 15 rfl (by kernel_rfl) rfl ?y3_15 HS ?_; case y3_15 => (intro w' hSw; (try dsimp only at hSw); go_simp <;> (with_reducible rfl)))
                  try simp only [Act.put, List.setIfInBounds_toArray, List.set_cons_zero, List.set_cons_succ]
                  first
                    | refine sk 16 rfl (by kernel_rfl) rfl HS ?_
                    | (refine tk (v := ?v3_16) 16 rfl (by kernel_rfl) rfl ?y3_16 HS ?_; case y3_16 => (intro w' hSw; (try dsimp only at hSw); go_simp <;> (with_reducible rfl)))
                  try simp only [Act.put, List.setIfInBounds_toArray, List.set_cons_zero, List.set_cons_succ]
                  first
                    | refine sk 17 rfl (by kernel_rfl) rfl HS ?_
                    | (refine tk (v := ?v3_17) 17 rfl (by kernel_rfl) rfl ?y3_17 HS ?_; case y3_17 => (intro w' hSw; (try dsimp only at hSw); go_simp <;> (with_reducible rfl)))
                  try simp only [Act.put, List.setIfInBounds_toArray, List.set_cons_zero, List.set_cons_succ]
                  first
                    | refine sk 18 rfl (by kernel_rfl) rfl HS ?_
                    | (refine tk (v := ?v3_18) 18 rfl (by kernel_rfl) rfl ?y3_18 HS ?_; case y3_18 => (intro w' hSw; (try dsimp only at hSw); go_simp <;> (with_reducible rfl)))
                  try simp only [Act.put, List.setIfInBounds_toArray, List.set_cons_zero, List.set_cons_succ]
                  first
                    | refine sk 19 rfl (by kernel_rfl) rfl HS ?_
                    | (refine tk (v := ?v3_19) 19 rfl (by kernel_rfl) rfl ?y3_19 HS ?_; case y3_19 => (intro w' hSw; (try dsimp only at hSw); go_simp <;> (with_reducible rfl)))
                  try simp only [Act.put, List.setIfInBounds_toArray, List.set_cons_zero, List.set_cons_succ]
                  first
                    | refine sk 20 rfl (by kernel_rfl) rfl HS ?_
                    | (refine tk (v := ?v3_20) 20 rfl (by kernel_rfl) rfl ?y3_20 HS ?_; case y3_20 => (intro w' hSw; (try dsimp only at hSw); go_simp <;> (with_reducible rfl)))
                  try simp only [Act.put, List.setIfInBounds_toArray, List.set_cons_zero, List.set_cons_succ]
                  first
                    | refine sk 21 rfl (by kernel_rfl) rfl HS ?_
                    | (refine tk (v := ?v3_21) 21 rfl (by kernel_rfl) rfl ?y3_21 HS ?_; case y3_21 => (intro w' hSw; (try dsimp only at hSw); go_simp <;> (with_reducible rfl)))
                  try simp only [Act.put, List.setIfInBounds_toArray, List.set_cons_zero, List.set_cons_succ]
                  first
                    | refine sk 22 rfl (by kernel_rfl) rfl HS ?_
                    | (refine tk (v := ?v3_22) 22 rfl (by kernel_rfl) rfl ?y3_22 HS ?_; case y3_22 => (intro w' hSw; (try dsimp only at hSw); go_simp <;> (with_reducible rfl)))
                  try simp only [Act.put, List.setIfInBounds_toArray, List.set_cons_zero, List.set_cons_succ]
                  refine cl 23 rfl (by kernel_rfl) (fun K hK => ?_)
                  go_simp
                  refine hK.out _ _ ?s3_23 ?r3_23
                  case s3_23 => (try dsimp only); exact HS
                  case r3_23 =>
                    clear HS
                    intro HS
                    clear hK K
                    try simp only [Act.put, List.setIfInBounds_toArray, List.set_cons_zero, List.set_cons_succ]
                    first
                      | refine sk 24 rfl (by kernel_rfl) rfl HS ?_
                      | (refine tk (v := ?v3_24) 24 rfl (by kernel_rfl) rfl ?y3_24 HS ?_; case y3_24 => (intro w' hSw; (try dsimp only at hSw); go_simp <;> (with_reducible rfl)))
                    try simp only [Act.put, List.setIfInBounds_toArray, List.set_cons_zero, List.set_cons_succ]
                    first
                      | refine sk 25 rfl (by kernel_rfl) rfl HS ?_
                      | (refine tk (v := ?v3_25) 25 rfl (by kernel_rfl) rfl ?y3_25 HS ?_; case y3_25 => (intro w' hSw; (try dsimp only at hSw); go_simp <;> (with_reducible rfl)))
                    try simp only [Act.put, List.setIfInBounds_toArray, List.set_cons_zero, List.set_cons_succ]
                    refine wpAnyH_done (by kernel_rfl) ?_ _
                    refine NoPanic.normal ?_
                    have HA1 := HS.1
                    have HA2 := HS.2.1
                    have HA3 := HS.2.2.1
                    have HA4 := HS.2.2.2
                    clear HS
                    go_wp2_with fail
                    refine wp_region_noPanic ?_
                    refine wp_region_held_drew (S := (fun w' => (w'.cell? ⟨b1, o1 + k * 2, none⟩ = some (.string x.name) ∧ w'.cell? ⟨b1, o1 + j * 2, none⟩ = some (.string y.name) ∧ w'.cell? ⟨b1, o1 + j * 2 + 1, none⟩ = some (.slice qa y.query.length qc) ∧ Grew wr w'))) (by kernel_rfl) ?h4_S ?h4_r
                    case h4_S => exact ⟨grew_cell (Grew.refl _).drew HA1, grew_cell (Grew.refl _).drew HA2, grew_cell (Grew.refl _).drew HA3, HA4.trans (Grew.refl _).drew⟩
                    case h4_r =>
                      intro HS
                      first
                        | refine sk 0 rfl (by kernel_rfl) rfl HS ?_
                        | (refine tk (v := ?v4_0) 0 rfl (by kernel_rfl) rfl ?y4_0 HS ?_; case y4_0 => (intro w' hSw; (try dsimp only at hSw); go_simp <;> (with_reducible rfl)))
                      try simp only [Act.put, List.setIfInBounds_toArray, List.set_cons_zero, List.set_cons_succ]
                      first
                        | refine sk 1 rfl (by kernel_rfl) rfl HS ?_
                        | (refine tk (v := ?v4_1) 1 rfl (by kernel_rfl) rfl ?y4_1 HS ?_; case y4_1 => (intro w' hSw; (try dsimp only at hSw); go_simp <;> (with_reducible rfl)))
                      try simp only [Act.put, List.setIfInBounds_toArray, List.set_cons_zero, List.set_cons_succ]
                      first
                        | refine sk 2 rfl (by kernel_rfl) rfl HS ?_
                        | (refine tk (v := ?v4_2) 2 rfl (by kernel_rfl) rfl ?y4_2 HS ?_; case y4_2 => (intro w' hSw; (try dsimp only at hSw); go_simp <;> (with_reducible rfl)))
                      try simp only [Act.put, List.setIfInBounds_toArray, List.set_cons_zero, List.set_cons_succ]
                      first
                        | refine sk 3 rfl (by kernel_rfl) rfl HS ?_
                        | (refine tk (v := ?v4_3) 3 rfl (by kernel_rfl) rfl ?y4_3 HS ?_; case y4_3 => (intro w' hSw; (try dsimp only at hSw); go_simp <;> (with_reducible rfl)))
                      try simp only [Act.put, List.setIfInBounds_toArray, List.set_cons_zero, List.set_cons_succ]
                      first
                        | refine sk 4 rfl (by kernel_rfl) rfl HS ?_
                        | (refine tk (v := ?v4_4) 4 rfl (by kernel_rfl) rfl ?y4_4 HS ?_; case y4_4 => (intro w' hSw; (try dsimp only at hSw); go_simp <;> (with_reducible rfl)))
                      try simp only [Act.put, List.setIfInBounds_toArray, List.set_cons_zero, List.set_cons_succ]
                      first
                        | refine sk 5 rfl (by kernel_rfl) rfl HS ?_
                        | (refine tk (v := ?v4_5) 5 rfl (by kernel_rfl) rfl ?y4_5 HS ?_; case y4_5 => (intro w' hSw; (try dsimp only at hSw); go_simp <;> (with_reducible rfl)))
                      try simp only [Act.put, List.setIfInBounds_toArray, List.set_cons_zero, List.set_cons_succ]
                      first
                        | refine sk 6 rfl (by kernel_rfl) rfl HS ?_
                        | (refine tk (v := ?v4_6) 6 rfl (by kernel_rfl) rfl ?y4_6 HS ?_; case y4_6 => (intro w' hSw; (try dsimp only at hSw); go_simp <;> (with_reducible rfl)))
                      try simp only [Act.put, List.setIfInBounds_toArray, List.set_cons_zero, List.set_cons_succ]
                      first
                        | refine sk 7 rfl (by kernel_rfl) rfl HS ?_
                        | (refine tk (v := ?v4_7) 7 rfl (by kernel_rfl) rfl ?y4_7 HS ?_; case y4_7 => (intro w' hSw; (try dsimp only at hSw); go_simp <;> (with_reducible rfl)))
                      try simp only [Act.put, List.setIfInBounds_toArray, List.set_cons_zero, List.set_cons_succ]
                      first
                        | refine sk 8 rfl (by kernel_rfl) rfl HS ?_
                        | (refine tk (v := ?v4_8) 8 rfl (by kernel_rfl) rfl ?y4_8 HS ?_; case y4_8 => (intro w' hSw; (try dsimp only at hSw); go_simp <;> (with_reducible rfl)))
                      try simp only [Act.put, List.setIfInBounds_toArray, List.set_cons_zero, List.set_cons_succ]
                      first
                        | refine sk 10 rfl (by kernel_rfl) rfl HS ?_
                        | (refine tk (v := ?v4_10) 10 rfl (by kernel_rfl) rfl ?y4_10 HS ?_; case y4_10 => (intro w' hSw; (try dsimp only at hSw); go_simp <;> (with_reducible rfl)))
                      try simp only [Act.put, List.setIfInBounds_toArray, List.set_cons_zero, List.set_cons_succ]
                      first
                        | refine sk 11 rfl (by kernel_rfl) rfl HS ?_
                        | (refine tk (v := ?v4_11) 11 rfl (by kernel_rfl) rfl ?y4_11 HS ?_; case y4_11 => (intro w' hSw; (try dsimp only at hSw); go_simp <;> (with_reducible rfl)))
                      try simp only [Act.put, List.setIfInBounds_toArray, List.set_cons_zero, List.set_cons_succ]
                      first
                        | refine sk 12 rfl (by kernel_rfl) rfl HS ?_
                        | (refine tk (v := ?v4_12) 12 rfl (by kernel_rfl) rfl ?y4_12 HS ?_; case y4_12 => (intro w' hSw; (try dsimp only at hSw); go_simp <;> (with_reducible rfl)))
                      try simp only [Act.put, List.setIfInBounds_toArray, List.set_cons_zero, List.set_cons_succ]
                      first
                        | refine sk 13 rfl (by kernel_rfl) rfl HS ?_
                        | (refine tk (v := ?v4_13) 13 rfl (by kernel_rfl) rfl ?y4_13 HS ?_; case y4_13 => (intro w' hSw; (try dsimp only at hSw); go_simp <;> (with_reducible rfl)))
                      try simp only [Act.put, List.setIfInBounds_toArray, List.set_cons_zero, List.set_cons_succ]
                      first
                        | refine sk 14 rfl (by kernel_rfl) rfl HS ?_
                        | (refine tk (v := ?v4_14) 14 rfl (by kernel_rfl) rfl ?y4_14 HS ?_; case y4_14 => (intro w' hSw; (try dsimp only at hSw); go_simp <;> (with_reducible rfl)))
                      try simp only [Act.put, List.setIfInBounds_toArray, List.set_cons_zero, List.set_cons_succ]
                      refine cl 9 rfl (by kernel_rfl) (fun K hK => ?_)
                      go_simp
                      go_at_call 33
                      refine (specNegativeDeps _ y.query.length y.query _ (HYQ.out.grew (hbel2.trans HS.2.2.2)) hys.2.1 hys.2.2).mono ?_
                      rintro e w3 ⟨v3, rfl, hv3, hb⟩
                      have HV3 := Lib.hid (rd_of_own hv3)
                      obtain ⟨va3, vc3, rfl⟩ := own_slice hv3
                      clear hv3
                      refine hK.out _ _ ?s4_9 ?r4_9
                      case s4_9 => (try dsimp only); exact ⟨grew_cell hb HS.1, grew_cell hb HS.2.1, grew_cell hb HS.2.2.1, HS.2.2.2.trans hb⟩
                      case r4_9 =>
                        clear HS
                        intro HS
                        clear hK K
                        try simp only [Act.put, List.setIfInBounds_toArray, List.set_cons_zero, List.set_cons_succ]
                        refine cl 15 rfl (by kernel_rfl) (fun K hK => ?_)
                        go_simp
                        go_at_call 81
                        refine (l12Has _ _ (depsL y.query true) x.name _ HV3.out (by omega)).mono ?_
                        rintro e w4 ⟨he, rfl⟩
                        rw [HDV.out] at he
                        subst he
                        have hb := Grew.refl w3
                        refine hK.out _ _ ?s4_15 ?r4_15
                        case s4_15 => (try dsimp only); exact ⟨grew_cell hb HS.1, grew_cell hb HS.2.1, grew_cell hb HS.2.2.1, HS.2.2.2.trans hb⟩
                        case r4_15 =>
                          clear HS
                          intro HS
                          clear hK K
                          try simp only [Act.put, List.setIfInBounds_toArray, List.set_cons_zero, List.set_cons_succ]
                          first
                            | refine sk 16 rfl (by kernel_rfl) rfl HS ?_
                            | (refine tk (v := ?v4_16) 16 rfl (by kernel_rfl) rfl ?y4_16 HS ?_; case y4_16 => (intro w' hSw; (try dsimp only at hSw); go_simp <;> (with_reducible rfl)))
                          try simp only [Act.put, List.setIfInBounds_toArray, List.set_cons_zero, List.set_cons_succ]
                          first
                            | refine sk 17 rfl (by kernel_rfl) rfl HS ?_
                            | (refine tk (v := ?v4_17) 17 rfl (by kernel_rfl) rfl ?y4_17 HS ?_; case y4_17 => (intro w' hSw; (try dsimp only at hSw); go_simp <;> (with_reducible rfl)))
                          try simp only [Act.put, List.setIfInBounds_toArray, List.set_cons_zero, List.set_cons_succ]
                          first
                            | refine sk 18 rfl (by kernel_rfl) rfl HS ?_
                            | (refine tk (v := ?v4_18) 18 rfl (by kernel_rfl) rfl ?y4_18 HS ?_; case y4_18 => (intro w' hSw; (try dsimp only at hSw); go_simp <;> (with_reducible rfl)))
                          try simp only [Act.put, List.setIfInBounds_toArray, List.set_cons_zero, List.set_cons_succ]
                          refine wpAnyH_done (by kernel_rfl) ?_ _
                          refine NoPanic.normal ?_
                          go_wp2
                          go_roundw
                          case rel =>
                            refine ⟨j + 1, true, by omega, by go_num, rfl, Lib.hid ?_, hg2.trans HS.2.2.2⟩
                            have h1 := uns_step hany.out hyk.out (HUQ.out true hq)
                            simpa using h1
                          case measure => simp [intOf]; omega
              · have hk0 := hlt
                go_wp2_with fail
                refine wp_region_noPanic ?_
                refine wp_region_held_drew (S := (fun w' => (w'.cell? ⟨b1, o1 + k * 2, none⟩ = some (.string x.name) ∧ w'.cell? ⟨b1, o1 + j * 2, none⟩ = some (.string y.name) ∧ w'.cell? ⟨b1, o1 + j * 2 + 1, none⟩ = some (.slice qa y.query.length qc) ∧ Grew wr w'))) (by kernel_rfl) ?h5_S ?h5_r
                case h5_S => exact ⟨grew_cell (Grew.refl _).drew c0', grew_cell (Grew.refl _).drew d0, grew_cell (Grew.refl _).drew d1, (Grew.refl _).drew⟩
                case h5_r =>
                  intro HS
                  first
                    | refine sk 0 rfl (by kernel_rfl) rfl HS ?_
                    | (refine tk (v := ?v5_0) 0 rfl (by kernel_rfl) rfl ?y5_0 HS ?_; case y5_0 => (intro w' hSw; (try dsimp only at hSw); go_simp <;> (with_reducible rfl)))
                  try simp only [Act.put, List.setIfInBounds_toArray, List.set_cons_zero, List.set_cons_succ]
                  first
                    | refine sk 1 rfl (by kernel_rfl) rfl HS ?_
                    | (refine tk (v := ?v5_1) 1 rfl (by kernel_rfl) rfl ?y5_1 HS ?_; case y5_1 => (intro w' hSw; (try dsimp only at hSw); go_simp <;> (with_reducible rfl)))
                  try simp only [Act.put, List.setIfInBounds_toArray, List.set_cons_zero, List.set_cons_succ]
                  first
                    | refine sk 2 rfl (by kernel_rfl) rfl HS ?_
                    | (refine tk (v := ?v5_2) 2 rfl (by kernel_rfl) rfl ?y5_2 HS ?_; case y5_2 => (intro w' hSw; (try dsimp only at hSw); go_simp <;> (with_reducible rfl)))
                  try simp only [Act.put, List.setIfInBounds_toArray, List.set_cons_zero, List.set_cons_succ]
                  first
                    | refine sk 3 rfl (by kernel_rfl) rfl HS ?_
                    | (refine tk (v := ?v5_3) 3 rfl (by kernel_rfl) rfl ?y5_3 HS ?_; case y5_3 => (intro w' hSw; (try dsimp only at hSw); go_simp <;> (with_reducible rfl)))
                  try simp only [Act.put, List.setIfInBounds_toArray, List.set_cons_zero, List.set_cons_succ]
                  first
                    | refine sk 4 rfl (by kernel_rfl) rfl HS ?_
                    | (refine tk (v := ?v5_4) 4 rfl (by kernel_rfl) rfl ?y5_4 HS ?_; case y5_4 => (intro w' hSw; (try dsimp only at hSw); go_simp <;> (with_reducible rfl)))
                  try simp only [Act.put, List.setIfInBounds_toArray, List.set_cons_zero, List.set_cons_succ]
                  first
                    | refine sk 5 rfl (by kernel_rfl) rfl HS ?_
                    | (refine tk (v := ?v5_5) 5 rfl (by kernel_rfl) rfl ?y5_5 HS ?_; case y5_5 => (intro w' hSw; (try dsimp only at hSw); go_simp <;> (with_reducible rfl)))
                  try simp only [Act.put, List.setIfInBounds_toArray, List.set_cons_zero, List.set_cons_succ]
                  first
                    | refine sk 6 rfl (by kernel_rfl) rfl HS ?_
                    | (refine tk (v := ?v5_6) 6 rfl (by kernel_rfl) rfl ?y5_6 HS ?_; case y5_6 => (intro w' hSw; (try dsimp only at hSw); go_simp <;> (with_reducible rfl)))
                  try simp only [Act.put, List.setIfInBounds_toArray, List.set_cons_zero, List.set_cons_succ]
                  first
                    | refine sk 7 rfl (by kernel_rfl) rfl HS ?_
                    | (refine tk (v := ?v5_7) 7 rfl (by kernel_rfl) rfl ?y5_7 HS ?_; case y5_7 => (intro w' hSw; (try dsimp only at hSw); go_simp <;> (with_reducible rfl)))
                  try simp only [Act.put, List.setIfInBounds_toArray, List.set_cons_zero, List.set_cons_succ]
                  first
                    | refine sk 8 rfl (by kernel_rfl) rfl HS ?_
                    | (refine tk (v := ?v5_8) 8 rfl (by kernel_rfl) rfl ?y5_8 HS ?_; case y5_8 => (intro w' hSw; (try dsimp only at hSw); go_simp <;> (with_reducible rfl)))
                  try simp only [Act.put, List.setIfInBounds_toArray, List.set_cons_zero, List.set_cons_succ]
                  first
                    | refine sk 9 rfl (by kernel_rfl) rfl HS ?_
                    | (refine tk (v := ?v5_9) 9 rfl (by kernel_rfl) rfl ?y5_9 HS ?_; case y5_9 => (intro w' hSw; (try dsimp only at hSw); go_simp <;> (with_reducible rfl)))
                  try simp only [Act.put, List.setIfInBounds_toArray, List.set_cons_zero, List.set_cons_succ]
                  first
                    | refine sk 10 rfl (by kernel_rfl) rfl HS ?_
                    | (refine tk (v := ?v5_10) 10 rfl (by kernel_rfl) rfl ?y5_10 HS ?_; case y5_10 => (intro w' hSw; (try dsimp only at hSw); go_simp <;> (with_reducible rfl)))
                  try simp only [Act.put, List.setIfInBounds_toArray, List.set_cons_zero, List.set_cons_succ]
                  first
                    | refine sk 11 rfl (by kernel_rfl) rfl HS ?_
                    | (refine tk (v := ?v5_11) 11 rfl (by kernel_rfl) rfl ?y5_11 HS ?_; case y5_11 => (intro w' hSw; (try dsimp only at hSw); go_simp <;> (with_reducible rfl)))
                  try simp only [Act.put, List.setIfInBounds_toArray, List.set_cons_zero, List.set_cons_succ]
                  first
                    | refine sk 12 rfl (by kernel_rfl) rfl HS ?_
                    | (refine tk (v := ?v5_12) 12 rfl (by kernel_rfl) rfl ?y5_12 HS ?_; case y5_12 => (intro w' hSw; (try dsimp only at hSw); go_simp <;> (with_reducible rfl)))
                  try simp only [Act.put, List.setIfInBounds_toArray, List.set_cons_zero, List.set_cons_succ]
                  first
                    | refine sk 13 rfl (by kernel_rfl) rfl HS ?_
                    | (refine tk (v := ?v5_13) 13 rfl (by kernel_rfl) rfl ?y5_13 HS ?_; case y5_13 => (intro w' hSw; (try dsimp only at hSw); go_simp <;> (with_reducible rfl)))
                  try simp only [Act.put, List.setIfInBounds_toArray, List.set_cons_zero, List.set_cons_succ]
                  first
                    | refine sk 14 rfl (by kernel_rfl) rfl HS ?_
                    | (refine tk (v := ?v5_14) 14 rfl (by kernel_rfl) rfl ?y5_14 HS ?_; case y5_14 => (intro w' hSw; (try dsimp only at hSw); go_simp <;> (with_reducible rfl)))
                  try simp only [Act.put, List.setIfInBounds_toArray, List.set_cons_zero, List.set_cons_succ]
                  first
                    | refine sk 15 rfl (by kernel_rfl) rfl HS ?_
                    | (refine tk (v := ?v5_15) 15 rfl (by kernel_rfl) rfl ?y5_15 HS ?_; case y5_15 => (intro w' hSw; (try dsimp only at hSw); go_simp <;> (with_reducible rfl)))
                  try simp only [Act.put, List.setIfInBounds_toArray, List.set_cons_zero, List.set_cons_succ]
                  first
                    | refine sk 16 rfl (by kernel_rfl) rfl HS ?_
                    | (refine tk (v := ?v5_16) 16 rfl (by kernel_rfl) rfl ?y5_16 HS ?_; case y5_16 => (intro w' hSw; (try dsimp only at hSw); go_simp <;> (with_reducible rfl)))
                  try simp only [Act.put, List.setIfInBounds_toArray, List.set_cons_zero, List.set_cons_succ]
                  first
                    | refine sk 17 rfl (by kernel_rfl) rfl HS ?_
                    | (refine tk (v := ?v5_17) 17 rfl (by kernel_rfl) rfl ?y5_17 HS ?_; case y5_17 => (intro w' hSw; (try dsimp only at hSw); go_simp <;> (with_reducible rfl)))
                  try simp only [Act.put, List.setIfInBounds_toArray, List.set_cons_zero, List.set_cons_succ]
                  first
                    | refine sk 18 rfl (by kernel_rfl) rfl HS ?_
                    | (refine tk (v := ?v5_18) 18 rfl (by kernel_rfl) rfl ?y5_18 HS ?_; case y5_18 => (intro w' hSw; (try dsimp only at hSw); go_simp <;> (with_reducible rfl)))
                  try simp only [Act.put, List.setIfInBounds_toArray, List.set_cons_zero, List.set_cons_succ]
                  first
                    | refine sk 19 rfl (by kernel_rfl) rfl HS ?_
                    | (refine tk (v := ?v5_19) 19 rfl (by kernel_rfl) rfl ?y5_19 HS ?_; case y5_19 => (intro w' hSw; (try dsimp only at hSw); go_simp <;> (with_reducible rfl)))
                  try simp only [Act.put, List.setIfInBounds_toArray, List.set_cons_zero, List.set_cons_succ]
                  first
                    | refine sk 20 rfl (by kernel_rfl) rfl HS ?_
                    | (refine tk (v := ?v5_20) 20 rfl (by kernel_rfl) rfl ?y5_20 HS ?_; case y5_20 => (intro w' hSw; (try dsimp only at hSw); go_simp <;> (with_reducible rfl)))
                  try simp only [Act.put, List.setIfInBounds_toArray, List.set_cons_zero, List.set_cons_succ]
                  first
                    | refine sk 21 rfl (by kernel_rfl) rfl HS ?_
                    | (refine tk (v := ?v5_21) 21 rfl (by kernel_rfl) rfl ?y5_21 HS ?_; case y5_21 => (intro w' hSw; (try dsimp only at hSw); go_simp <;> (with_reducible rfl)))
                  try simp only [Act.put, List.setIfInBounds_toArray, List.set_cons_zero, List.set_cons_succ]
                  first
                    | refine sk 22 rfl (by kernel_rfl) rfl HS ?_
                    | (refine tk (v := ?v5_22) 22 rfl (by kernel_rfl) rfl ?y5_22 HS ?_; case y5_22 => (intro w' hSw; (try dsimp only at hSw); go_simp <;> (with_reducible rfl)))
                  try simp only [Act.put, List.setIfInBounds_toArray, List.set_cons_zero, List.set_cons_succ]
                  refine cl 23 rfl (by kernel_rfl) (fun K hK => ?_)
                  go_simp
                  refine hK.out _ _ ?s5_23 ?r5_23
                  case s5_23 => (try dsimp only); exact HS
                  case r5_23 =>
                    clear HS
                    intro HS
                    clear hK K
                    try simp only [Act.put, List.setIfInBounds_toArray, List.set_cons_zero, List.set_cons_succ]
                    first
                      | refine sk 24 rfl (by kernel_rfl) rfl HS ?_
                      | (refine tk (v := ?v5_24) 24 rfl (by kernel_rfl) rfl ?y5_24 HS ?_; case y5_24 => (intro w' hSw; (try dsimp only at hSw); go_simp <;> (with_reducible rfl)))
                    try simp only [Act.put, List.setIfInBounds_toArray, List.set_cons_zero, List.set_cons_succ]
                    first
                      | refine sk 25 rfl (by kernel_rfl) rfl HS ?_
                      | (refine tk (v := ?v5_25) 25 rfl (by kernel_rfl) rfl ?y5_25 HS ?_; case y5_25 => (intro w' hSw; (try dsimp only at hSw); go_simp <;> (with_reducible rfl)))
                    try simp only [Act.put, List.setIfInBounds_toArray, List.set_cons_zero, List.set_cons_succ]
                    refine wpAnyH_done (by kernel_rfl) ?_ _
                    refine NoPanic.normal ?_
                    have HA1 := HS.1
                    have HA2 := HS.2.1
                    have HA3 := HS.2.2.1
                    have HA4 := HS.2.2.2
                    clear HS
                    go_wp2_with fail
                    refine wp_region_noPanic ?_
                    refine wp_region_held_drew (S := (fun w' => (w'.cell? ⟨b1, o1 + k * 2, none⟩ = some (.string x.name) ∧ w'.cell? ⟨b1, o1 + j * 2, none⟩ = some (.string y.name) ∧ w'.cell? ⟨b1, o1 + j * 2 + 1, none⟩ = some (.slice qa y.query.length qc) ∧ Grew wr w'))) (by kernel_rfl) ?h6_S ?h6_r
                    case h6_S => exact ⟨grew_cell (Grew.refl _).drew HA1, grew_cell (Grew.refl _).drew HA2, grew_cell (Grew.refl _).drew HA3, HA4.trans (Grew.refl _).drew⟩
                    case h6_r =>
                      intro HS
                      first
                        | refine sk 0 rfl (by kernel_rfl) rfl HS ?_
                        | (refine tk (v := ?v6_0) 0 rfl (by kernel_rfl) rfl ?y6_0 HS ?_; case y6_0 => (intro w' hSw; (try dsimp only at hSw); go_simp <;> (with_reducible rfl)))
                      try simp only [Act.put, List.setIfInBounds_toArray, List.set_cons_zero, List.set_cons_succ]
                      first
                        | refine sk 1 rfl (by kernel_rfl) rfl HS ?_
                        | (refine tk (v := ?v6_1) 1 rfl (by kernel_rfl) rfl ?y6_1 HS ?_; case y6_1 => (intro w' hSw; (try dsimp only at hSw); go_simp <;> (with_reducible rfl)))
                      try simp only [Act.put, List.setIfInBounds_toArray, List.set_cons_zero, List.set_cons_succ]
                      first
                        | refine sk 2 rfl (by kernel_rfl) rfl HS ?_
                        | (refine tk (v := ?v6_2) 2 rfl (by kernel_rfl) rfl ?y6_2 HS ?_; case y6_2 => (intro w' hSw; (try dsimp only at hSw); go_simp <;> (with_reducible rfl)))
                      try simp only [Act.put, List.setIfInBounds_toArray, List.set_cons_zero, List.set_cons_succ]
                      first
                        | refine sk 3 rfl (by kernel_rfl) rfl HS ?_
                        | (refine tk (v := ?v6_3) 3 rfl (by kernel_rfl) rfl ?y6_3 HS ?_; case y6_3 => (intro w' hSw; (try dsimp only at hSw); go_simp <;> (with_reducible rfl)))
                      try simp only [Act.put, List.setIfInBounds_toArray, List.set_cons_zero, List.set_cons_succ]
                      first
                        | refine sk 4 rfl (by kernel_rfl) rfl HS ?_
                        | (refine tk (v := ?v6_4) 4 rfl (by kernel_rfl) rfl ?y6_4 HS ?_; case y6_4 => (intro w' hSw; (try dsimp only at hSw); go_simp <;> (with_reducible rfl)))
                      try simp only [Act.put, List.setIfInBounds_toArray, List.set_cons_zero, List.set_cons_succ]
                      first
                        | refine sk 5 rfl (by kernel_rfl) rfl HS ?_
                        | (refine tk (v := ?v6_5) 5 rfl (by kernel_rfl) rfl ?y6_5 HS ?_; case y6_5 => (intro w' hSw; (try dsimp only at hSw); go_simp <;> (with_reducible rfl)))
                      try simp only [Act.put, List.setIfInBounds_toArray, List.set_cons_zero, List.set_cons_succ]
                      first
                        | refine sk 6 rfl (by kernel_rfl) rfl HS ?_
                        | (refine tk (v := ?v6_6) 6 rfl (by kernel_rfl) rfl ?y6_6 HS ?_; case y6_6 => (intro w' hSw; (try dsimp only at hSw); go_simp <;> (with_reducible rfl)))
                      try simp only [Act.put, List.setIfInBounds_toArray, List.set_cons_zero, List.set_cons_succ]
                      first
                        | refine sk 7 rfl (by kernel_rfl) rfl HS ?_
                        | (refine tk (v := ?v6_7) 7 rfl (by kernel_rfl) rfl ?y6_7 HS ?_; case y6_7 => (intro w' hSw; (try dsimp only at hSw); go_simp <;> (with_reducible rfl)))
                      try simp only [Act.put, List.setIfInBounds_toArray, List.set_cons_zero, List.set_cons_succ]
                      first
                        | refine sk 8 rfl (by kernel_rfl) rfl HS ?_
                        | (refine tk (v := ?v6_8) 8 rfl (by kernel_rfl) rfl ?y6_8 HS ?_; case y6_8 => (intro w' hSw; (try dsimp only at hSw); go_simp <;> (with_reducible rfl)))
                      try simp only [Act.put, List.setIfInBounds_toArray, List.set_cons_zero, List.set_cons_succ]
                      first
                        | refine sk 10 rfl (by kernel_rfl) rfl HS ?_
                        | (refine tk (v := ?v6_10) 10 rfl (by kernel_rfl) rfl ?y6_10 HS ?_; case y6_10 => (intro w' hSw; (try dsimp only at hSw); go_simp <;> (with_reducible rfl)))
                      try simp only [Act.put, List.setIfInBounds_toArray, List.set_cons_zero, List.set_cons_succ]
                      first
                        | refine sk 11 rfl (by kernel_rfl) rfl HS ?_
                        | (refine tk (v := ?v6_11) 11 rfl (by kernel_rfl) rfl ?y6_11 HS ?_; case y6_11 => (intro w' hSw; (try dsimp only at hSw); go_simp <;> (with_reducible rfl)))
                      try simp only [Act.put, List.setIfInBounds_toArray, List.set_cons_zero, List.set_cons_succ]
                      first
                        | refine sk 12 rfl (by kernel_rfl) rfl HS ?_
                        | (refine tk (v := ?v6_12) 12 rfl (by kernel_rfl) rfl ?y6_12 HS ?_; case y6_12 => (intro w' hSw; (try dsimp only at hSw); go_simp <;> (with_reducible rfl)))
                      try simp only [Act.put, List.setIfInBounds_toArray, List.set_cons_zero, List.set_cons_succ]
                      first
                        | refine sk 13 rfl (by kernel_rfl) rfl HS ?_
                        | (refine tk (v := ?v6_13) 13 rfl (by kernel_rfl) rfl ?y6_13 HS ?_; case y6_13 => (intro w' hSw; (try dsimp only at hSw); go_simp <;> (with_reducible rfl)))
                      try simp only [Act.put, List.setIfInBounds_toArray, List.set_cons_zero, List.set_cons_succ]
                      first
                        | refine sk 14 rfl (by kernel_rfl) rfl HS ?_
                        | (refine tk (v := ?v6_14) 14 rfl (by kernel_rfl) rfl ?y6_14 HS ?_; case y6_14 => (intro w' hSw; (try dsimp only at hSw); go_simp <;> (with_reducible rfl)))
                      try simp only [Act.put, List.setIfInBounds_toArray, List.set_cons_zero, List.set_cons_succ]
                      refine cl 9 rfl (by kernel_rfl) (fun K hK => ?_)
                      go_simp
                      go_at_call 33
                      refine (specNegativeDeps _ y.query.length y.query _ (HYQ.out.grew (hbel2.trans HS.2.2.2)) hys.2.1 hys.2.2).mono ?_
                      rintro e w3 ⟨v3, rfl, hv3, hb⟩
                      have HV3 := Lib.hid (rd_of_own hv3)
                      obtain ⟨va3, vc3, rfl⟩ := own_slice hv3
                      clear hv3
                      refine hK.out _ _ ?s6_9 ?r6_9
                      case s6_9 => (try dsimp only); exact ⟨grew_cell hb HS.1, grew_cell hb HS.2.1, grew_cell hb HS.2.2.1, HS.2.2.2.trans hb⟩
                      case r6_9 =>
                        clear HS
                        intro HS
                        clear hK K
                        try simp only [Act.put, List.setIfInBounds_toArray, List.set_cons_zero, List.set_cons_succ]
                        refine cl 15 rfl (by kernel_rfl) (fun K hK => ?_)
                        go_simp
                        go_at_call 81
                        refine (l12Has _ _ (depsL y.query true) x.name _ HV3.out (by omega)).mono ?_
                        rintro e w4 ⟨he, rfl⟩
                        rw [HDV.out] at he
                        subst he
                        have hb := Grew.refl w3
                        refine hK.out _ _ ?s6_15 ?r6_15
                        case s6_15 => (try dsimp only); exact ⟨grew_cell hb HS.1, grew_cell hb HS.2.1, grew_cell hb HS.2.2.1, HS.2.2.2.trans hb⟩
                        case r6_15 =>
                          clear HS
                          intro HS
                          clear hK K
                          try simp only [Act.put, List.setIfInBounds_toArray, List.set_cons_zero, List.set_cons_succ]
                          first
                            | refine sk 16 rfl (by kernel_rfl) rfl HS ?_
                            | (refine tk (v := ?v6_16) 16 rfl (by kernel_rfl) rfl ?y6_16 HS ?_; case y6_16 => (intro w' hSw; (try dsimp only at hSw); go_simp <;> (with_reducible rfl)))
                          try simp only [Act.put, List.setIfInBounds_toArray, List.set_cons_zero, List.set_cons_succ]
                          first
                            | refine sk 17 rfl (by kernel_rfl) rfl HS ?_
                            | (refine tk (v := ?v6_17) 17 rfl (by kernel_rfl) rfl ?y6_17 HS ?_; case y6_17 => (intro w' hSw; (try dsimp only at hSw); go_simp <;> (with_reducible rfl)))
                          try simp only [Act.put, List.setIfInBounds_toArray, List.set_cons_zero, List.set_cons_succ]
                          first
                            | refine sk 18 rfl (by kernel_rfl) rfl HS ?_
                            | (refine tk (v := ?v6_18) 18 rfl (by kernel_rfl) rfl ?y6_18 HS ?_; case y6_18 => (intro w' hSw; (try dsimp only at hSw); go_simp <;> (with_reducible rfl)))
                          try simp only [Act.put, List.setIfInBounds_toArray, List.set_cons_zero, List.set_cons_succ]
                          refine wpAnyH_done (by kernel_rfl) ?_ _
                          refine NoPanic.normal ?_
                          go_wp2
                          go_roundw
                          case rel =>
                            refine ⟨j + 1, false, by omega, by go_num, rfl, Lib.hid ?_, hg2.trans HS.2.2.2⟩
                            have h1 := uns_step hany.out hyk.out (HUQ.out true hq)
                            simpa using h1
                          case measure => simp [intOf]; omega
          · rcases hca2 with rfl | rfl
            · rcases hcb with rfl | rfl
              · have hk0 := hlt
                go_wp2_with fail
                refine wp_region_noPanic ?_
                refine wp_region_held_drew (S := (fun w' => (w'.cell? ⟨b1, o1 + k * 2, none⟩ = some (.string x.name) ∧ w'.cell? ⟨b1, o1 + j * 2, none⟩ = some (.string y.name) ∧ w'.cell? ⟨b1, o1 + j * 2 + 1, none⟩ = some (.slice qa y.query.length qc) ∧ Grew wr w'))) (by kernel_rfl) ?h7_S ?h7_r
                case h7_S => exact ⟨grew_cell (Grew.refl _).drew c0', grew_cell (Grew.refl _).drew d0, grew_cell (Grew.refl _).drew d1, (Grew.refl _).drew⟩
                case h7_r =>
                  intro HS
                  first
                    | refine sk 0 rfl (by kernel_rfl) rfl HS ?_
                    | (refine tk (v := ?v7_0) 0 rfl (by kernel_rfl) rfl ?y7_0 HS ?_; case y7_0 => (intro w' hSw; (try dsimp only at hSw); go_simp <;> (with_reducible rfl)))
                  try simp only [Act.put, List.setIfInBounds_toArray, List.set_cons_zero, List.set_cons_succ]
                  first
                    | refine sk 1 rfl (by kernel_rfl) rfl HS ?_
                    | (refine tk (v := ?v7_1) 1 rfl (by kernel_rfl) rfl ?y7_1 HS ?_; case y7_1 => (intro w' hSw; (try dsimp only at hSw); go_simp <;> (with_reducible rfl)))
                  try simp only [Act.put, List.setIfInBounds_toArray, List.set_cons_zero, List.set_cons_succ]
                  first
                    | refine sk 2 rfl (by kernel_rfl) rfl HS ?_
                    | (refine tk (v := ?v7_2) 2 rfl (by kernel_rfl) rfl ?y7_2 HS ?_; case y7_2 => (intro w' hSw; (try dsimp only at hSw); go_simp <;> (with_reducible rfl)))
                  try simp only [Act.put, List.setIfInBounds_toArray, List.set_cons_zero, List.set_cons_succ]
                  first
                    | refine sk 3 rfl (by kernel_rfl) rfl HS ?_
                    | (refine tk (v := ?v7_3) 3 rfl (by kernel_rfl) rfl ?y7_3 HS ?_; case y7_3 => (intro w' hSw; (try dsimp only at hSw); go_simp <;> (with_reducible rfl)))
                  try simp only [Act.put, List.setIfInBounds_toArray, List.set_cons_zero, List.set_cons_succ]
                  first
                    | refine sk 4 rfl (by kernel_rfl) rfl HS ?_
                    | (refine tk (v := ?v7_4) 4 rfl (by kernel_rfl) rfl ?y7_4 HS ?_; case y7_4 => (intro w' hSw; (try dsimp only at hSw); go_simp <;> (with_reducible rfl)))
                  try simp only [Act.put, List.setIfInBounds_toArray, List.set_cons_zero, List.set_cons_succ]
                  first
                    | refine sk 5 rfl (by kernel_rfl) rfl HS ?_
                    | (refine tk (v := ?v7_5) 5 rfl (by kernel_rfl) rfl ?y7_5 HS ?_; case y7_5 => (intro w' hSw; (try dsimp only at hSw); go_simp <;> (with_reducible rfl)))
                  try simp only [Act.put, List.setIfInBounds_toArray, List.set_cons_zero, List.set_cons_succ]
                  first
                    | refine sk 6 rfl (by kernel_rfl) rfl HS ?_
                    | (refine tk (v := ?v7_6) 6 rfl (by kernel_rfl) rfl ?y7_6 HS ?_; case y7_6 => (intro w' hSw; (try dsimp only at hSw); go_simp <;> (with_reducible rfl)))
                  try simp only [Act.put, List.setIfInBounds_toArray, List.set_cons_zero, List.set_cons_succ]
                  first
                    | refine sk 7 rfl (by kernel_rfl) rfl HS ?_
                    | (refine tk (v := ?v7_7) 7 rfl (by kernel_rfl) rfl ?y7_7 HS ?_; case y7_7 => (intro w' hSw; (try dsimp only at hSw); go_simp <;> (with_reducible rfl)))
                  try simp only [Act.put, List.setIfInBounds_toArray, List.set_cons_zero, List.set_cons_succ]
                  first
                    | refine sk 8 rfl (by kernel_rfl) rfl HS ?_
                    | (refine tk (v := ?v7_8) 8 rfl (by kernel_rfl) rfl ?y7_8 HS ?_; case y7_8 => (intro w' hSw; (try dsimp only at hSw); go_simp <;> (with_reducible rfl)))
                  try simp only [Act.put, List.setIfInBounds_toArray, List.set_cons_zero, List.set_cons_succ]
                  first
                    | refine sk 9 rfl (by kernel_rfl) rfl HS ?_
                    | (refine tk (v := ?v7_9) 9 rfl (by kernel_rfl) rfl ?y7_9 HS ?_; case y7_9 => (intro w' hSw; (try dsimp only at hSw); go_simp <;> (with_reducible rfl)))
                  try simp only [Act.put, List.setIfInBounds_toArray, List.set_cons_zero, List.set_cons_succ]
                  first
                    | refine sk 10 rfl (by kernel_rfl) rfl HS ?_
                    | (refine tk (v := ?v7_10) 10 rfl (by kernel_rfl) rfl ?y7_10 HS ?_; case y7_10 => (intro w' hSw; (try dsimp only at hSw); go_simp <;> (with_reducible rfl)))
                  try simp only [Act.put, List.setIfInBounds_toArray, List.set_cons_zero, List.set_cons_succ]
                  first
                    | refine sk 11 rfl (by kernel_rfl) rfl HS ?_
                    | (refine tk (v := ?v7_11) 11 rfl (by kernel_rfl) rfl ?y7_11 HS ?_; case y7_11 => (intro w' hSw; (try dsimp only at hSw); go_simp <;> (with_reducible rfl)))
                  try simp only [Act.put, List.setIfInBounds_toArray, List.set_cons_zero, List.set_cons_succ]
                  first
                    | refine sk 12 rfl (by kernel_rfl) rfl HS ?_
                    | (refine tk (v := ?v7_12) 12 rfl (by kernel_rfl) rfl ?y7_12 HS ?_; case y7_12 => (intro w' hSw; (try dsimp only at hSw); go_simp <;> (with_reducible rfl)))
                  try simp only [Act.put, List.setIfInBounds_toArray, List.set_cons_zero, List.set_cons_succ]
                  first
                    | refine sk 13 rfl (by kernel_rfl) rfl HS ?_
                    | (refine tk (v := ?v7_13) 13 rfl (by kernel_rfl) rfl ?y7_13 HS ?_; case y7_13 => (intro w' hSw; (try dsimp only at hSw); go_simp <;> (with_reducible rfl)))
                  try simp only [Act.put, List.setIfInBounds_toArray, List.set_cons_zero, List.set_cons_succ]
                  first
                    | refine sk 14 rfl (by kernel_rfl) rfl HS ?_
                    | (refine tk (v := ?v7_14) 14 rfl (by kernel_rfl) rfl ?y7_14 HS ?_; case y7_14 => (intro w' hSw; (try dsimp only at hSw); go_simp <;> (with_reducible rfl)))
                  try simp only [Act.put, List.setIfInBounds_toArray, List.set_cons_zero, List.set_cons_succ]
                  first
                    | refine sk 15 rfl (by kernel_rfl) rfl HS ?_
                    | (refine tk (v := ?v7_15) 15 rfl (by kernel_rfl) rfl ?y7_15 HS ?_; case y7_15 => (intro w' hSw; (try dsimp only at hSw); go_simp <;> (with_reducible rfl)))
                  try simp only [Act.put, List.setIfInBounds_toArray, List.set_cons_zero, List.set_cons_succ]
                  first
                    | refine sk 16 rfl (by kernel_rfl) rfl HS ?_
                    | (refine tk (v := ?v7_16) 16 rfl (by kernel_rfl) rfl ?y7_16 HS ?_; case y7_16 => (intro w' hSw; (try dsimp only at hSw); go_simp <;> (with_reducible rfl)))
                  try simp only [Act.put, List.setIfInBounds_toArray, List.set_cons_zero, List.set_cons_succ]
                  first
                    | refine sk 17 rfl (by kernel_rfl) rfl HS ?_
                    | (refine tk (v := ?v7_17) 17 rfl (by kernel_rfl) rfl ?y7_17 HS ?_; case y7_17 => (intro w' hSw; (try dsimp only at hSw); go_simp <;> (with_reducible rfl)))
                  try simp only [Act.put, List.setIfInBounds_toArray, List.set_cons_zero, List.set_cons_succ]
                  first
                    | refine sk 18 rfl (by kernel_rfl) rfl HS ?_
                    | (refine tk (v := ?v7_18) 18 rfl (by kernel_rfl) rfl ?y7_18 HS ?_; case y7_18 => (intro w' hSw; (try dsimp only at hSw); go_simp <;> (with_reducible rfl)))
                  try simp only [Act.put, List.setIfInBounds_toArray, List.set_cons_zero, List.set_cons_succ]
                  first
                    | refine sk 19 rfl (by kernel_rfl) rfl HS ?_
                    | (refine tk (v := ?v7_19) 19 rfl (by kernel_rfl) rfl ?y7_19 HS ?_; case y7_19 => (intro w' hSw; (try dsimp only at hSw); go_simp <;> (with_reducible rfl)))
                  try simp only [Act.put, List.setIfInBounds_toArray, List.set_cons_zero, List.set_cons_succ]
                  first
                    | refine sk 20 rfl (by kernel_rfl) rfl HS ?_
                    | (refine tk (v := ?v7_20) 20 rfl (by kernel_rfl) rfl ?y7_20 HS ?_; case y7_20 => (intro w' hSw; (try dsimp only at hSw); go_simp <;> (with_reducible rfl)))
                  try simp only [Act.put, List.setIfInBounds_toArray, List.set_cons_zero, List.set_cons_succ]
                  first
                    | refine sk 21 rfl (by kernel_rfl) rfl HS ?_
                    | (refine tk (v := ?v7_21) 21 rfl (by kernel_rfl) rfl ?y7_21 HS ?_; case y7_21 => (intro w' hSw; (try dsimp only at hSw); go_simp <;> (with_reducible rfl)))
                  try simp only [Act.put, List.setIfInBounds_toArray, List.set_cons_zero, List.set_cons_succ]
                  first
                    | refine sk 22 rfl (by kernel_rfl) rfl HS ?_
                    | (refine tk (v := ?v7_22) 22 rfl (by kernel_rfl) rfl ?y7_22 HS ?_; case y7_22 => (intro w' hSw; (try dsimp only at hSw); go_simp <;> (with_reducible rfl)))
                  try simp only [Act.put, List.setIfInBounds_toArray, List.set_cons_zero, List.set_cons_succ]
                  refine cl 23 rfl (by kernel_rfl) (fun K hK => ?_)
                  go_simp
                  go_at_call 80
                  refine (specAsks _ xs x.name y.name _ (HD2.out.grew (hbel2.trans HS.2.2.2)) HX0.out HS0.out).mono ?_
                  rintro e w2 ⟨he, hb⟩
                  rw [HAV.out] at he
                  subst he
                  refine hK.out _ _ ?s7_23 ?r7_23
                  case s7_23 => (try dsimp only); exact ⟨grew_cell hb HS.1, grew_cell hb HS.2.1, grew_cell hb HS.2.2.1, HS.2.2.2.trans hb⟩
                  case r7_23 =>
                    clear HS
                    intro HS
                    clear hK K
                    try simp only [Act.put, List.setIfInBounds_toArray, List.set_cons_zero, List.set_cons_succ]
                    first
                      | refine sk 24 rfl (by kernel_rfl) rfl HS ?_
                      | (refine tk (v := ?v7_24) 24 rfl (by kernel_rfl) rfl ?y7_24 HS ?_; case y7_24 => (intro w' hSw; (try dsimp only at hSw); go_simp <;> (with_reducible rfl)))
                    try simp only [Act.put, List.setIfInBounds_toArray, List.set_cons_zero, List.set_cons_succ]
                    first
                      | refine sk 25 rfl (by kernel_rfl) rfl HS ?_
                      | (refine tk (v := ?v7_25) 25 rfl (by kernel_rfl) rfl ?y7_25 HS ?_; case y7_25 => (intro w' hSw; (try dsimp only at hSw); go_simp <;> (with_reducible rfl)))
                    try simp only [Act.put, List.setIfInBounds_toArray, List.set_cons_zero, List.set_cons_succ]
                    refine wpAnyH_done (by kernel_rfl) ?_ _
                    refine NoPanic.normal ?_
                    have HA1 := HS.1
                    have HA2 := HS.2.1
                    have HA3 := HS.2.2.1
                    have HA4 := HS.2.2.2
                    clear HS
                    go_wp2_with fail
                    refine wp_region_noPanic ?_
                    refine wp_region_held_drew (S := (fun w' => (w'.cell? ⟨b1, o1 + k * 2, none⟩ = some (.string x.name) ∧ w'.cell? ⟨b1, o1 + j * 2, none⟩ = some (.string y.name) ∧ w'.cell? ⟨b1, o1 + j * 2 + 1, none⟩ = some (.slice qa y.query.length qc) ∧ Grew wr w'))) (by kernel_rfl) ?h8_S ?h8_r
                    case h8_S => exact ⟨grew_cell (Grew.refl _).drew HA1, grew_cell (Grew.refl _).drew HA2, grew_cell (Grew.refl _).drew HA3, HA4.trans (Grew.refl _).drew⟩
                    case h8_r =>
                      intro HS
                      first
                        | refine sk 0 rfl (by kernel_rfl) rfl HS ?_
                        | (refine tk (v := ?v8_0) 0 rfl (by kernel_rfl) rfl ?y8_0 HS ?_; case y8_0 => (intro w' hSw; (try dsimp only at hSw); go_simp <;> (with_reducible rfl)))
                      try simp only [Act.put, List.setIfInBounds_toArray, List.set_cons_zero, List.set_cons_succ]
                      first
                        | refine sk 1 rfl (by kernel_rfl) rfl HS ?_
                        | (refine tk (v := ?v8_1) 1 rfl (by kernel_rfl) rfl ?y8_1 HS ?_; case y8_1 => (intro w' hSw; (try dsimp only at hSw); go_simp <;> (with_reducible rfl)))
                      try simp only [Act.put, List.setIfInBounds_toArray, List.set_cons_zero, List.set_cons_succ]
                      first
                        | refine sk 2 rfl (by kernel_rfl) rfl HS ?_
                        | (refine tk (v := ?v8_2) 2 rfl (by kernel_rfl) rfl ?y8_2 HS ?_; case y8_2 => (intro w' hSw; (try dsimp only at hSw); go_simp <;> (with_reducible rfl)))
                      try simp only [Act.put, List.setIfInBounds_toArray, List.set_cons_zero, List.set_cons_succ]
                      first
                        | refine sk 3 rfl (by kernel_rfl) rfl HS ?_
                        | (refine tk (v := ?v8_3) 3 rfl (by kernel_rfl) rfl ?y8_3 HS ?_; case y8_3 => (intro w' hSw; (try dsimp only at hSw); go_simp <;> (with_reducible rfl)))
                      try simp only [Act.put, List.setIfInBounds_toArray, List.set_cons_zero, List.set_cons_succ]
                      first
                        | refine sk 4 rfl (by kernel_rfl) rfl HS ?_
                        | (refine tk (v := ?v8_4) 4 rfl (by kernel_rfl) rfl ?y8_4 HS ?_; case y8_4 => (intro w' hSw; (try dsimp only at hSw); go_simp <;> (with_reducible rfl)))
                      try simp only [Act.put, List.setIfInBounds_toArray, List.set_cons_zero, List.set_cons_succ]
                      first
                        | refine sk 5 rfl (by kernel_rfl) rfl HS ?_
                        | (refine tk (v := ?v8_5) 5 rfl (by kernel_rfl) rfl ?y8_5 HS ?_; case y8_5 => (intro w' hSw; (try dsimp only at hSw); go_simp <;> (with_reducible rfl)))
                      try simp only [Act.put, List.setIfInBounds_toArray, List.set_cons_zero, List.set_cons_succ]
                      first
                        | refine sk 6 rfl (by kernel_rfl) rfl HS ?_
                        | (refine tk (v := ?v8_6) 6 rfl (by kernel_rfl) rfl ?y8_6 HS ?_; case y8_6 => (intro w' hSw; (try dsimp only at hSw); go_simp <;> (with_reducible rfl)))
                      try simp only [Act.put, List.setIfInBounds_toArray, List.set_cons_zero, List.set_cons_succ]
                      first
                        | refine sk 7 rfl (by kernel_rfl) rfl HS ?_
                        | (refine tk (v := ?v8_7) 7 rfl (by kernel_rfl) rfl ?y8_7 HS ?_; case y8_7 => (intro w' hSw; (try dsimp only at hSw); go_simp <;> (with_reducible rfl)))
                      try simp only [Act.put, List.setIfInBounds_toArray, List.set_cons_zero, List.set_cons_succ]
                      first
                        | refine sk 8 rfl (by kernel_rfl) rfl HS ?_
                        | (refine tk (v := ?v8_8) 8 rfl (by kernel_rfl) rfl ?y8_8 HS ?_; case y8_8 => (intro w' hSw; (try dsimp only at hSw); go_simp <;> (with_reducible rfl)))
                      try simp only [Act.put, List.setIfInBounds_toArray, List.set_cons_zero, List.set_cons_succ]
                      first
                        | refine sk 10 rfl (by kernel_rfl) rfl HS ?_
                        | (refine tk (v := ?v8_10) 10 rfl (by kernel_rfl) rfl ?y8_10 HS ?_; case y8_10 => (intro w' hSw; (try dsimp only at hSw); go_simp <;> (with_reducible rfl)))
                      try simp only [Act.put, List.setIfInBounds_toArray, List.set_cons_zero, List.set_cons_succ]
                      first
                        | refine sk 11 rfl (by kernel_rfl) rfl HS ?_
                        | (refine tk (v := ?v8_11) 11 rfl (by kernel_rfl) rfl ?y8_11 HS ?_; case y8_11 => (intro w' hSw; (try dsimp only at hSw); go_simp <;> (with_reducible rfl)))
                      try simp only [Act.put, List.setIfInBounds_toArray, List.set_cons_zero, List.set_cons_succ]
                      first
                        | refine sk 12 rfl (by kernel_rfl) rfl HS ?_
                        | (refine tk (v := ?v8_12) 12 rfl (by kernel_rfl) rfl ?y8_12 HS ?_; case y8_12 => (intro w' hSw; (try dsimp only at hSw); go_simp <;> (with_reducible rfl)))
                      try simp only [Act.put, List.setIfInBounds_toArray, List.set_cons_zero, List.set_cons_succ]
                      first
                        | refine sk 13 rfl (by kernel_rfl) rfl HS ?_
                        | (refine tk (v := ?v8_13) 13 rfl (by kernel_rfl) rfl ?y8_13 HS ?_; case y8_13 => (intro w' hSw; (try dsimp only at hSw); go_simp <;> (with_reducible rfl)))
                      try simp only [Act.put, List.setIfInBounds_toArray, List.set_cons_zero, List.set_cons_succ]
                      first
                        | refine sk 14 rfl (by kernel_rfl) rfl HS ?_
                        | (refine tk (v := ?v8_14) 14 rfl (by kernel_rfl) rfl ?y8_14 HS ?_; case y8_14 => (intro w' hSw; (try dsimp only at hSw); go_simp <;> (with_reducible rfl)))
                      try simp only [Act.put, List.setIfInBounds_toArray, List.set_cons_zero, List.set_cons_succ]
                      refine cl 9 rfl (by kernel_rfl) (fun K hK => ?_)
                      go_simp
                      refine hK.out _ _ ?s8_9 ?r8_9
                      case s8_9 => (try dsimp only); exact HS
                      case r8_9 =>
                        clear HS
                        intro HS
                        clear hK K
                        try simp only [Act.put, List.setIfInBounds_toArray, List.set_cons_zero, List.set_cons_succ]
                        refine cl 15 rfl (by kernel_rfl) (fun K hK => ?_)
                        go_simp
                        refine hK.out _ _ ?s8_15 ?r8_15
                        case s8_15 => (try dsimp only); exact HS
                        case r8_15 =>
                          clear HS
                          intro HS
                          clear hK K
                          try simp only [Act.put, List.setIfInBounds_toArray, List.set_cons_zero, List.set_cons_succ]
                          first
                            | refine sk 16 rfl (by kernel_rfl) rfl HS ?_
                            | (refine tk (v := ?v8_16) 16 rfl (by kernel_rfl) rfl ?y8_16 HS ?_; case y8_16 => (intro w' hSw; (try dsimp only at hSw); go_simp <;> (with_reducible rfl)))
                          try simp only [Act.put, List.setIfInBounds_toArray, List.set_cons_zero, List.set_cons_succ]
                          first
                            | refine sk 17 rfl (by kernel_rfl) rfl HS ?_
                            | (refine tk (v := ?v8_17) 17 rfl (by kernel_rfl) rfl ?y8_17 HS ?_; case y8_17 => (intro w' hSw; (try dsimp only at hSw); go_simp <;> (with_reducible rfl)))
                          try simp only [Act.put, List.setIfInBounds_toArray, List.set_cons_zero, List.set_cons_succ]
                          first
                            | refine sk 18 rfl (by kernel_rfl) rfl HS ?_
                            | (refine tk (v := ?v8_18) 18 rfl (by kernel_rfl) rfl ?y8_18 HS ?_; case y8_18 => (intro w' hSw; (try dsimp only at hSw); go_simp <;> (with_reducible rfl)))
                          try simp only [Act.put, List.setIfInBounds_toArray, List.set_cons_zero, List.set_cons_succ]
                          refine wpAnyH_done (by kernel_rfl) ?_ _
                          refine NoPanic.normal ?_
                          go_wp2
                          go_roundw
                          case rel =>
                            refine ⟨j + 1, true, by omega, by go_num, rfl, Lib.hid ?_, hg2.trans HS.2.2.2⟩
                            have h1 := uns_step hany.out hyk.out (HUQ.out false hq)
                            simpa using h1
                          case measure => simp [intOf]; omega
              · rcases hcd with rfl | rfl
                · have hk0 := hlt
                  go_wp2_with fail
                  refine wp_region_noPanic ?_
                  refine wp_region_held_drew (S := (fun w' => (w'.cell? ⟨b1, o1 + k * 2, none⟩ = some (.string x.name) ∧ w'.cell? ⟨b1, o1 + j * 2, none⟩ = some (.string y.name) ∧ w'.cell? ⟨b1, o1 + j * 2 + 1, none⟩ = some (.slice qa y.query.length qc) ∧ Grew wr w'))) (by kernel_rfl) ?h9_S ?h9_r
                  case h9_S => exact ⟨grew_cell (Grew.refl _).drew c0', grew_cell (Grew.refl _).drew d0, grew_cell (Grew.refl _).drew d1, (Grew.refl _).drew⟩
                  case h9_r =>
                    intro HS
                    first
                      | refine sk 0 rfl (by kernel_rfl) rfl HS ?_
                      | (refine tk (v := ?v9_0) 0 rfl (by kernel_rfl) rfl ?y9_0 HS ?_; case y9_0 => (intro w' hSw; (try dsimp only at hSw); go_simp <;> (with_reducible rfl)))
                    try simp only [Act.put, List.setIfInBounds_toArray, List.set_cons_zero, List.set_cons_succ]
                    first
                      | refine sk 1 rfl (by kernel_rfl) rfl HS ?_
                      | (refine tk (v := ?v9_1) 1 rfl (by kernel_rfl) rfl ?y9_1 HS ?_; case y9_1 => (intro w' hSw; (try dsimp only at hSw); go_simp <;> (with_reducible rfl)))
                    try simp only [Act.put, List.setIfInBounds_toArray, List.set_cons_zero, List.set_cons_succ]
                    first
                      | refine sk 2 rfl (by kernel_rfl) rfl HS ?_
                      | (refine tk (v := ?v9_2) 2 rfl (by kernel_rfl) rfl ?y9_2 HS ?_; case y9_2 => (intro w' hSw; (try dsimp only at hSw); go_simp <;> (with_reducible rfl)))
                    try simp only [Act.put, List.setIfInBounds_toArray, List.set_cons_zero, List.set_cons_succ]
                    first
                      | refine sk 3 rfl (by kernel_rfl) rfl HS ?_
                      | (refine tk (v := ?v9_3) 3 rfl (by kernel_rfl) rfl ?y9_3 HS ?_; case y9_3 => (intro w' hSw; (try dsimp only at hSw); go_simp <;> (with_reducible rfl)))
                    try simp only [Act.put, List.setIfInBounds_toArray, List.set_cons_zero, List.set_cons_succ]
                    first
                      | refine sk 4 rfl (by kernel_rfl) rfl HS ?_
                      | (refine tk (v := ?v9_4) 4 rfl (by kernel_rfl) rfl ?y9_4 HS ?_; case y9_4 => (intro w' hSw; (try dsimp only at hSw); go_simp <;> (with_reducible rfl)))
                    try simp only [Act.put, List.setIfInBounds_toArray, List.set_cons_zero, List.set_cons_succ]
                    first
                      | refine sk 5 rfl (by kernel_rfl) rfl HS ?_
                      | (refine tk (v := ?v9_5) 5 rfl (by kernel_rfl) rfl ?y9_5 HS ?_; case y9_5 => (intro w' hSw; (try dsimp only at hSw); go_simp <;> (with_reducible rfl)))
                    try simp only [Act.put, List.setIfInBounds_toArray, List.set_cons_zero, List.set_cons_succ]
                    first
                      | refine sk 6 rfl (by kernel_rfl) rfl HS ?_
                      | (refine tk (v := ?v9_6) 6 rfl (by kernel_rfl) rfl ?y9_6 HS ?_; case y9_6 => (intro w' hSw; (try dsimp only at hSw); go_simp <;> (with_reducible rfl)))
                    try simp only [Act.put, List.setIfInBounds_toArray, List.set_cons_zero, List.set_cons_succ]
                    first
                      | refine sk 7 rfl (by kernel_rfl) rfl HS ?_
                      | (refine tk (v := ?v9_7) 7 rfl (by kernel_rfl) rfl ?y9_7 HS ?_; case y9_7 => (intro w' hSw; (try dsimp only at hSw); go_simp <;> (with_reducible rfl)))
                    try simp only [Act.put, List.setIfInBounds_toArray, List.set_cons_zero, List.set_cons_succ]
                    first
                      | refine sk 8 rfl (by kernel_rfl) rfl HS ?_
                      | (refine tk (v := ?v9_8) 8 rfl (by kernel_rfl) rfl ?y9_8 HS ?_; case y9_8 => (intro w' hSw; (try dsimp only at hSw); go_simp <;> (with_reducible rfl)))
                    try simp only [Act.put, List.setIfInBounds_toArray, List.set_cons_zero, List.set_cons_succ]
                    first
                      | refine sk 9 rfl (by kernel_rfl) rfl HS ?_
                      | (refine tk (v := ?v9_9) 9 rfl (by kernel_rfl) rfl ?y9_9 HS ?_; case y9_9 => (intro w' hSw; (try dsimp only at hSw); go_simp <;> (with_reducible rfl)))
                    try simp only [Act.put, List.setIfInBounds_toArray, List.set_cons_zero, List.set_cons_succ]
                    first
                      | refine sk 10 rfl (by kernel_rfl) rfl HS ?_
                      | (refine tk (v := ?v9_10) 10 rfl (by kernel_rfl) rfl ?y9_10 HS ?_; case y9_10 => (intro w' hSw; (try dsimp only at hSw); go_simp <;> (with_reducible rfl)))
                    try simp only [Act.put, List.setIfInBounds_toArray, List.set_cons_zero, List.set_cons_succ]
                    first
                      | refine sk 11 rfl (by kernel_rfl) rfl HS ?_
                      | (refine tk (v := ?v9_11) 11 rfl (by kernel_rfl) rfl ?y9_11 HS ?_; case y9_11 => (intro w' hSw; (try dsimp only at hSw); go_simp <;> (with_reducible rfl)))
                    try simp only [Act.put, List.setIfInBounds_toArray, List.set_cons_zero, List.set_cons_succ]
                    first
                      | refine sk 12 rfl (by kernel_rfl) rfl HS ?_
                      | (refine tk (v := ?v9_12) 12 rfl (by kernel_rfl) rfl ?y9_12 HS ?_; case y9_12 => (intro w' hSw; (try dsimp only at hSw); go_simp <;> (with_reducible rfl)))
                    try simp only [Act.put, List.setIfInBounds_toArray, List.set_cons_zero, List.set_cons_succ]
                    first
                      | refine sk 13 rfl (by kernel_rfl) rfl HS ?_
                      | (refine tk (v := ?v9_13) 13 rfl (by kernel_rfl) rfl ?y9_13 HS ?_; case y9_13 => (intro w' hSw; (try dsimp only at hSw); go_simp <;> (with_reducible rfl)))
                    try simp only [Act.put, List.setIfInBounds_toArray, List.set_cons_zero, List.set_cons_succ]
                    first
                      | refine sk 14 rfl (by kernel_rfl) rfl HS ?_
                      | (refine tk (v := ?v9_14) 14 rfl (by kernel_rfl) rfl ?y9_14 HS ?_; case y9_14 => (intro w' hSw; (try dsimp only at hSw); go_simp <;> (with_reducible rfl)))
                    try simp only [Act.put, List.setIfInBounds_toArray, List.set_cons_zero, List.set_cons_succ]
                    first
                      | refine sk 15 rfl (by kernel_rfl) rfl HS ?_
                      | (refine tk (v := ?v9_15) 15 rfl (by kernel_rfl) rfl ?y9_15 HS ?_; case y9_15 => (intro w' hSw; (try dsimp only at hSw); go_simp <;> (with_reducible rfl)))
                    try simp only [Act.put, List.setIfInBounds_toArray, List.set_cons_zero, List.set_cons_succ]
                    first
                      | refine sk 16 rfl (by kernel_rfl) rfl HS ?_
                      | (refine tk (v := ?v9_16) 16 rfl (by kernel_rfl) rfl ?y9_16 HS ?_; case y9_16 => (intro w' hSw; (try dsimp only at hSw); go_simp <;> (with_reducible rfl)))
                    try simp only [Act.put, List.setIfInBounds_toArray, List.set_cons_zero, List.set_cons_succ]
                    first
                      | refine sk 17 rfl (by kernel_rfl) rfl HS ?_
                      | (refine tk (v := ?v9_17) 17 rfl (by kernel_rfl) rfl ?y9_17 HS ?_; case y9_17 => (intro w' hSw; (try dsimp only at hSw); go_simp <;> (with_reducible rfl)))
                    try simp only [Act.put, List.setIfInBounds_toArray, List.set_cons_zero, List.set_cons_succ]
                    first
                      | refine sk 18 rfl (by kernel_rfl) rfl HS ?_
                      | (refine tk (v := ?v9_18) 18 rfl (by kernel_rfl) rfl ?y9_18 HS ?_; case y9_18 => (intro w' hSw; (try dsimp only at hSw); go_simp <;> (with_reducible rfl)))
                    try simp only [Act.put, List.setIfInBounds_toArray, List.set_cons_zero, List.set_cons_succ]
                    first
                      | refine sk 19 rfl (by kernel_rfl) rfl HS ?_
                      | (refine tk (v := ?v9_19) 19 rfl (by kernel_rfl) rfl ?y9_19 HS ?_; case y9_19 => (intro w' hSw; (try dsimp only at hSw); go_simp <;> (with_reducible rfl)))
                    try simp only [Act.put, List.setIfInBounds_toArray, List.set_cons_zero, List.set_cons_succ]
                    first
                      | refine sk 20 rfl (by kernel_rfl) rfl HS ?_
                      | (refine tk (v := ?v9_20) 20 rfl (by kernel_rfl) rfl ?y9_20 HS ?_; case y9_20 => (intro w' hSw; (try dsimp only at hSw); go_simp <;> (with_reducible rfl)))
                    try simp only [Act.put, List.setIfInBounds_toArray, List.set_cons_zero, List.set_cons_succ]
                    first
                      | refine sk 21 rfl (by kernel_rfl) rfl HS ?_
                      | (refine tk (v := ?v9_21) 21 rfl (by kernel_rfl) rfl ?y9_21 HS ?_; case y9_21 => (intro w' hSw; (try dsimp only at hSw); go_simp <;> (with_reducible rfl)))
                    try simp only [Act.put, List.setIfInBounds_toArray, List.set_cons_zero, List.set_cons_succ]
                    first
                      | refine sk 22 rfl (by kernel_rfl) rfl HS ?_
                      | (refine tk (v := ?v9_22) 22 rfl (by kernel_rfl) rfl ?y9_22 HS ?_; case y9_22 => (intro w' hSw; (try dsimp only at hSw); go_simp <;> (with_reducible rfl)))
                    try simp only [Act.put, List.setIfInBounds_toArray, List.set_cons_zero, List.set_cons_succ]
                    refine cl 23 rfl (by kernel_rfl) (fun K hK => ?_)
                    go_simp
                    go_at_call 80
                    refine (specAsks _ xs x.name y.name _ (HD2.out.grew (hbel2.trans HS.2.2.2)) HX0.out HS0.out).mono ?_
                    rintro e w2 ⟨he, hb⟩
                    rw [HAV.out] at he
                    subst he
                    refine hK.out _ _ ?s9_23 ?r9_23
                    case s9_23 => (try dsimp only); exact ⟨grew_cell hb HS.1, grew_cell hb HS.2.1, grew_cell hb HS.2.2.1, HS.2.2.2.trans hb⟩
                    case r9_23 =>
                      clear HS
                      intro HS
                      clear hK K
                      try simp only [Act.put, List.setIfInBounds_toArray, List.set_cons_zero, List.set_cons_succ]
                      first
                        | refine sk 24 rfl (by kernel_rfl) rfl HS ?_
                        | (refine tk (v := ?v9_24) 24 rfl (by kernel_rfl) rfl ?y9_24 HS ?_; case y9_24 => (intro w' hSw; (try dsimp only at hSw); go_simp <;> (with_reducible rfl)))
                      try simp only [Act.put, List.setIfInBounds_toArray, List.set_cons_zero, List.set_cons_succ]
                      first
                        | refine sk 25 rfl (by kernel_rfl) rfl HS ?_
                        | (refine tk (v := ?v9_25) 25 rfl (by kernel_rfl) rfl ?y9_25 HS ?_; case y9_25 => (intro w' hSw; (try dsimp only at hSw); go_simp <;> (with_reducible rfl)))
                      try simp only [Act.put, List.setIfInBounds_toArray, List.set_cons_zero, List.set_cons_succ]
                      refine wpAnyH_done (by kernel_rfl) ?_ _
                      refine NoPanic.normal ?_
                      have HA1 := HS.1
                      have HA2 := HS.2.1
                      have HA3 := HS.2.2.1
                      have HA4 := HS.2.2.2
                      clear HS
                      go_wp2_with fail
                      refine wp_region_noPanic ?_
                      refine wp_region_held_drew (S := (fun w' => (w'.cell? ⟨b1, o1 + k * 2, none⟩ = some (.string x.name) ∧ w'.cell? ⟨b1, o1 + j * 2, none⟩ = some (.string y.name) ∧ w'.cell? ⟨b1, o1 + j * 2 + 1, none⟩ = some (.slice qa y.query.length qc) ∧ Grew wr w'))) (by kernel_rfl) ?h10_S ?h10_r
                      case h10_S => exact ⟨grew_cell (Grew.refl _).drew HA1, grew_cell (Grew.refl _).drew HA2, grew_cell (Grew.refl _).drew HA3, HA4.trans (Grew.refl _).drew⟩
                      case h10_r =>
                        intro HS
                        first
                          | refine sk 0 rfl (by kernel_rfl) rfl HS ?_
                          | (refine tk (v := ?v10_0) 0 rfl (by kernel_rfl) rfl ?y10_0 HS ?_; case y10_0 => (intro w' hSw; (try dsimp only at hSw); go_simp <;> (with_reducible rfl)))
                        try simp only [Act.put, List.setIfInBounds_toArray, List.set_cons_zero, List.set_cons_succ]
                        first
                          | refine sk 1 rfl (by kernel_rfl) rfl HS ?_
                          | (refine tk (v := ?v10_1) 1 rfl (by kernel_rfl) rfl ?y10_1 HS ?_; case y10_1 => (intro w' hSw; (try dsimp only at hSw); go_simp <;> (with_reducible rfl)))
                        try simp only [Act.put, List.setIfInBounds_toArray, List.set_cons_zero, List.set_cons_succ]
                        first
                          | refine sk 2 rfl (by kernel_rfl) rfl HS ?_
                          | (refine tk (v := ?v10_2) 2 rfl (by kernel_rfl) rfl ?y10_2 HS ?_; case y10_2 => (intro w' hSw; (try dsimp only at hSw); go_simp <;> (with_reducible rfl)))
                        try simp only [Act.put, List.setIfInBounds_toArray, List.set_cons_zero, List.set_cons_succ]
                        first
                          | refine sk 3 rfl (by kernel_rfl) rfl HS ?_
                          | (refine tk (v := ?v10_3) 3 rfl (by kernel_rfl) rfl ?y10_3 HS ?_; case y10_3 => (intro w' hSw; (try dsimp only at hSw); go_simp <;> (with_reducible rfl)))
                        try simp only [Act.put, List.setIfInBounds_toArray, List.set_cons_zero, List.set_cons_succ]
                        first
                          | refine sk 4 rfl (by kernel_rfl) rfl HS ?_
                          | (refine tk (v := ?v10_4) 4 rfl (by kernel_rfl) rfl ?y10_4 HS ?_; case y10_4 => (intro w' hSw; (try dsimp only at hSw); go_simp <;> (with_reducible rfl)))
                        try simp only [Act.put, List.setIfInBounds_toArray, List.set_cons_zero, List.set_cons_succ]
                        first
                          | refine sk 5 rfl (by kernel_rfl) rfl HS ?_
                          | (refine tk (v := ?v10_5) 5 rfl (by kernel_rfl) rfl ?y10_5 HS ?_; case y10_5 => (intro w' hSw; (try dsimp only at hSw); go_simp <;> (with_reducible rfl)))
                        try simp only [Act.put, List.setIfInBounds_toArray, List.set_cons_zero, List.set_cons_succ]
                        first
                          | refine sk 6 rfl (by kernel_rfl) rfl HS ?_
                          | (refine tk (v := ?v10_6) 6 rfl (by kernel_rfl) rfl ?y10_6 HS ?_; case y10_6 => (intro w' hSw; (try dsimp only at hSw); go_simp <;> (with_reducible rfl)))
                        try simp only [Act.put, List.setIfInBounds_toArray, List.set_cons_zero, List.set_cons_succ]
                        first
                          | refine sk 7 rfl (by kernel_rfl) rfl HS ?_
                          | (refine tk (v := ?v10_7) 7 rfl (by kernel_rfl) rfl ?y10_7 HS ?_; case y10_7 => (intro w' hSw; (try dsimp only at hSw); go_simp <;> (with_reducible rfl)))
                        try simp only [Act.put, List.setIfInBounds_toArray, List.set_cons_zero, List.set_cons_succ]
                        first
                          | refine sk 8 rfl (by kernel_rfl) rfl HS ?_
                          | (refine tk (v := ?v10_8) 8 rfl (by kernel_rfl) rfl ?y10_8 HS ?_; case y10_8 => (intro w' hSw; (try dsimp only at hSw); go_simp <;> (with_reducible rfl)))
                        try simp only [Act.put, List.setIfInBounds_toArray, List.set_cons_zero, List.set_cons_succ]
                        first
                          | refine sk 10 rfl (by kernel_rfl) rfl HS ?_
                          | (refine tk (v := ?v10_10) 10 rfl (by kernel_rfl) rfl ?y10_10 HS ?_; case y10_10 => (intro w' hSw; (try dsimp only at hSw); go_simp <;> (with_reducible rfl)))
                        try simp only [Act.put, List.setIfInBounds_toArray, List.set_cons_zero, List.set_cons_succ]
                        first
                          | refine sk 11 rfl (by kernel_rfl) rfl HS ?_
                          | (refine tk (v := ?v10_11) 11 rfl (by kernel_rfl) rfl ?y10_11 HS ?_; case y10_11 => (intro w' hSw; (try dsimp only at hSw); go_simp <;> (with_reducible rfl)))
                        try simp only [Act.put, List.setIfInBounds_toArray, List.set_cons_zero, List.set_cons_succ]
                        first
                          | refine sk 12 rfl (by kernel_rfl) rfl HS ?_
                          | (refine tk (v := ?v10_12) 12 rfl (by kernel_rfl) rfl ?y10_12 HS ?_; case y10_12 => (intro w' hSw; (try dsimp only at hSw); go_simp <;> (with_reducible rfl)))
                        try simp only [Act.put, List.setIfInBounds_toArray, List.set_cons_zero, List.set_cons_succ]
                        first
                          | refine sk 13 rfl (by kernel_rfl) rfl HS ?_
                          | (refine tk (v := ?v10_13) 13 rfl (by kernel_rfl) rfl ?y10_13 HS ?_; case y10_13 => (intro w' hSw; (try dsimp only at hSw); go_simp <;> (with_reducible rfl)))
                        try simp only [Act.put, List.setIfInBounds_toArray, List.set_cons_zero, List.set_cons_succ]
                        first
                          | refine sk 14 rfl (by kernel_rfl) rfl HS ?_
                          | (refine tk (v := ?v10_14) 14 rfl (by kernel_rfl) rfl ?y10_14 HS ?_; case y10_14 => (intro w' hSw; (try dsimp only at hSw); go_simp <;> (with_reducible rfl)))
                        try simp only [Act.put, List.setIfInBounds_toArray, List.set_cons_zero, List.set_cons_succ]
                        refine cl 9 rfl (by kernel_rfl) (fun K hK => ?_)
                        go_simp
                        go_at_call 33
                        refine (specNegativeDeps _ y.query.length y.query _ (HYQ.out.grew (hbel2.trans HS.2.2.2)) hys.2.1 hys.2.2).mono ?_
                        rintro e w3 ⟨v3, rfl, hv3, hb⟩
                        have HV3 := Lib.hid (rd_of_own hv3)
                        obtain ⟨va3, vc3, rfl⟩ := own_slice hv3
                        clear hv3
                        refine hK.out _ _ ?s10_9 ?r10_9
                        case s10_9 => (try dsimp only); exact ⟨grew_cell hb HS.1, grew_cell hb HS.2.1, grew_cell hb HS.2.2.1, HS.2.2.2.trans hb⟩
                        case r10_9 =>
                          clear HS
                          intro HS
                          clear hK K
                          try simp only [Act.put, List.setIfInBounds_toArray, List.set_cons_zero, List.set_cons_succ]
                          refine cl 15 rfl (by kernel_rfl) (fun K hK => ?_)
                          go_simp
                          go_at_call 81
                          refine (l12Has _ _ (depsL y.query true) x.name _ HV3.out (by omega)).mono ?_
                          rintro e w4 ⟨he, rfl⟩
                          rw [HDV.out] at he
                          subst he
                          have hb := Grew.refl w3
                          refine hK.out _ _ ?s10_15 ?r10_15
                          case s10_15 => (try dsimp only); exact ⟨grew_cell hb HS.1, grew_cell hb HS.2.1, grew_cell hb HS.2.2.1, HS.2.2.2.trans hb⟩
                          case r10_15 =>
                            clear HS
                            intro HS
                            clear hK K
                            try simp only [Act.put, List.setIfInBounds_toArray, List.set_cons_zero, List.set_cons_succ]
                            first
                              | refine sk 16 rfl (by kernel_rfl) rfl HS ?_
                              | (refine tk (v := ?v10_16) 16 rfl (by kernel_rfl) rfl ?y10_16 HS ?_; case y10_16 => (intro w' hSw; (try dsimp only at hSw); go_simp <;> (with_reducible rfl)))
                            try simp only [Act.put, List.setIfInBounds_toArray, List.set_cons_zero, List.set_cons_succ]
                            first
                              | refine sk 17 rfl (by kernel_rfl) rfl HS ?_
                              | (refine tk (v := ?v10_17) 17 rfl (by kernel_rfl) rfl ?y10_17 HS ?_; case y10_17 => (intro w' hSw; (try dsimp only at hSw); go_simp <;> (with_reducible rfl)))
                            try simp only [Act.put, List.setIfInBounds_toArray, List.set_cons_zero, List.set_cons_succ]
                            first
                              | refine sk 18 rfl (by kernel_rfl) rfl HS ?_
                              | (refine tk (v := ?v10_18) 18 rfl (by kernel_rfl) rfl ?y10_18 HS ?_; case y10_18 => (intro w' hSw; (try dsimp only at hSw); go_simp <;> (with_reducible rfl)))
                            try simp only [Act.put, List.setIfInBounds_toArray, List.set_cons_zero, List.set_cons_succ]
                            refine wpAnyH_done (by kernel_rfl) ?_ _
                            refine NoPanic.normal ?_
                            go_wp2
                            go_roundw
                            case rel =>
                              refine ⟨j + 1, true, by omega, by go_num, rfl, Lib.hid ?_, hg2.trans HS.2.2.2⟩
                              have h1 := uns_step hany.out hyk.out (HUQ.out false hq)
                              simpa using h1
                            case measure => simp [intOf]; omega
                · have hk0 := hlt
                  go_wp2_with fail
                  refine wp_region_noPanic ?_
                  refine wp_region_held_drew (S := (fun w' => (w'.cell? ⟨b1, o1 + k * 2, none⟩ = some (.string x.name) ∧ w'.cell? ⟨b1, o1 + j * 2, none⟩ = some (.string y.name) ∧ w'.cell? ⟨b1, o1 + j * 2 + 1, none⟩ = some (.slice qa y.query.length qc) ∧ Grew wr w'))) (by kernel_rfl) ?h11_S ?h11_r
                  case h11_S => exact ⟨grew_cell (Grew.refl _).drew c0', grew_cell (Grew.refl _).drew d0, grew_cell (Grew.refl _).drew d1, (Grew.refl _).drew⟩
                  case h11_r =>
                    intro HS
                    first
                      | refine sk 0 rfl (by kernel_rfl) rfl HS ?_
                      | (refine tk (v := ?v11_0) 0 rfl (by kernel_rfl) rfl ?y11_0 HS ?_; case y11_0 => (intro w' hSw; (try dsimp only at hSw); go_simp <;> (with_reducible rfl)))
                    try simp only [Act.put, List.setIfInBounds_toArray, List.set_cons_zero, List.set_cons_succ]
                    first
                      | refine sk 1 rfl (by kernel_rfl) rfl HS ?_
                      | (refine tk (v := ?v11_1) 1 rfl (by kernel_rfl) rfl ?y11_1 HS ?_; case y11_1 => (intro w' hSw; (try dsimp only at hSw); go_simp <;> (with_reducible rfl)))
                    try simp only [Act.put, List.setIfInBounds_toArray, List.set_cons_zero, List.set_cons_succ]
                    first
                      | refine sk 2 rfl (by kernel_rfl) rfl HS ?_
                      | (refine tk (v := ?v11_2) 2 rfl (by kernel_rfl) rfl ?y11_2 HS ?_; case y11_2 => (intro w' hSw; (try dsimp only at hSw); go_simp <;> (with_reducible rfl)))
                    try simp only [Act.put, List.setIfInBounds_toArray, List.set_cons_zero, List.set_cons_succ]
                    first
                      | refine sk 3 rfl (by kernel_rfl) rfl HS ?_
                      | (refine tk (v := ?v11_3) 3 rfl (by kernel_rfl) rfl ?y11_3 HS ?_; case y11_3 => (intro w' hSw; (try dsimp only at hSw); go_simp <;> (with_reducible rfl)))
                    try simp only [Act.put, List.setIfInBounds_toArray, List.set_cons_zero, List.set_cons_succ]
                    first
                      | refine sk 4 rfl (by kernel_rfl) rfl HS ?_
                      | (refine tk (v := ?v11_4) 4 rfl (by kernel_rfl) rfl ?y11_4 HS ?_; case y11_4 => (intro w' hSw; (try dsimp only at hSw); go_simp <;> (with_reducible rfl)))
                    try simp only [Act.put, List.setIfInBounds_toArray, List.set_cons_zero, List.set_cons_succ]
                    first
                      | refine sk 5 rfl (by kernel_rfl) rfl HS ?_
                      | (refine tk (v := ?v11_5) 5 rfl (by kernel_rfl) rfl ?y11_5 HS ?_; case y11_5 => (intro w' hSw; (try dsimp only at hSw); go_simp <;> (with_reducible rfl)))
                    try simp only [Act.put, List.setIfInBounds_toArray, List.set_cons_zero, List.set_cons_succ]
                    first
                      | refine sk 6 rfl (by kernel_rfl) rfl HS ?_
                      | (refine tk (v := ?v11_6) 6 rfl (by kernel_rfl) rfl ?y11_6 HS ?_; case y11_6 => (intro w' hSw; (try dsimp only at hSw); go_simp <;> (with_reducible rfl)))
                    try simp only [Act.put, List.setIfInBounds_toArray, List.set_cons_zero, List.set_cons_succ]
                    first
                      | refine sk 7 rfl (by kernel_rfl) rfl HS ?_
                      | (refine tk (v := ?v11_7) 7 rfl (by kernel_rfl) rfl ?y11_7 HS ?_; case y11_7 => (intro w' hSw; (try dsimp only at hSw); go_simp <;> (with_reducible rfl)))
                    try simp only [Act.put, List.setIfInBounds_toArray, List.set_cons_zero, List.set_cons_succ]
                    first
                      | refine sk 8 rfl (by kernel_rfl) rfl HS ?_
                      | (refine tk (v := ?v11_8) 8 rfl (by kernel_rfl) rfl ?y11_8 HS ?_; case y11_8 => (intro w' hSw; (try dsimp only at hSw); go_simp <;> (with_reducible rfl)))
                    try simp only [Act.put, List.setIfInBounds_toArray, List.set_cons_zero, List.set_cons_succ]
                    first
                      | refine sk 9 rfl (by kernel_rfl) rfl HS ?_
                      | (refine tk (v := ?v11_9) 9 rfl (by kernel_rfl) rfl ?y11_9 HS ?_; case y11_9 => (intro w' hSw; (try dsimp only at hSw); go_simp <;> (with_reducible rfl)))
                    try simp only [Act.put, List.setIfInBounds_toArray, List.set_cons_zero, List.set_cons_succ]
                    first
                      | refine sk 10 rfl (by kernel_rfl) rfl HS ?_
                      | (refine tk (v := ?v11_10) 10 rfl (by kernel_rfl) rfl ?y11_10 HS ?_; case y11_10 => (intro w' hSw; (try dsimp only at hSw); go_simp <;> (with_reducible rfl)))
                    try simp only [Act.put, List.setIfInBounds_toArray, List.set_cons_zero, List.set_cons_succ]
                    first
                      | refine sk 11 rfl (by kernel_rfl) rfl HS ?_
                      | (refine tk (v := ?v11_11) 11 rfl (by kernel_rfl) rfl ?y11_11 HS ?_; case y11_11 => (intro w' hSw; (try dsimp only at hSw); go_simp <;> (with_reducible rfl)))
                    try simp only [Act.put, List.setIfInBounds_toArray, List.set_cons_zero, List.set_cons_succ]
                    first
                      | refine sk 12 rfl (by kernel_rfl) rfl HS ?_
                      | (refine tk (v := ?v11_12) 12 rfl (by kernel_rfl) rfl ?y11_12 HS ?_; case y11_12 => (intro w' hSw; (try dsimp only at hSw); go_simp <;> (with_reducible rfl)))
                    try simp only [Act.put, List.setIfInBounds_toArray, List.set_cons_zero, List.set_cons_succ]
                    first
                      | refine sk 13 rfl (by kernel_rfl) rfl HS ?_
                      | (refine tk (v := ?v11_13) 13 rfl (by kernel_rfl) rfl ?y11_13 HS ?_; case y11_13 => (intro w' hSw; (try dsimp only at hSw); go_simp <;> (with_reducible rfl)))
                    try simp only [Act.put, List.setIfInBounds_toArray, List.set_cons_zero, List.set_cons_succ]
                    first
                      | refine sk 14 rfl (by kernel_rfl) rfl HS ?_
                      | (refine tk (v := ?v11_14) 14 rfl (by kernel_rfl) rfl ?y11_14 HS ?_; case y11_14 => (intro w' hSw; (try dsimp only at hSw); go_simp <;> (with_reducible rfl)))
                    try simp only [Act.put, List.setIfInBounds_toArray, List.set_cons_zero, List.set_cons_succ]
                    first
                      | refine sk 15 rfl (by kernel_rfl) rfl HS ?_
                      | (refine tk (v := ?v11_15) 15 rfl (by kernel_rfl) rfl ?y11_15 HS ?_; case y11_15 => (intro w' hSw; (try dsimp only at hSw); go_simp <;> (with_reducible rfl)))
                    try simp only [Act.put, List.setIfInBounds_toArray, List.set_cons_zero, List.set_cons_succ]
                    first
                      | refine sk 16 rfl (by kernel_rfl) rfl HS ?_
                      | (refine tk (v := ?v11_16) 16 rfl (by kernel_rfl) rfl ?y11_16 HS ?_; case y11_16 => (intro w' hSw; (try dsimp only at hSw); go_simp <;> (with_reducible rfl)))
                    try simp only [Act.put, List.setIfInBounds_toArray, List.set_cons_zero, List.set_cons_succ]
                    first
                      | refine sk 17 rfl (by kernel_rfl) rfl HS ?_
                      | (refine tk (v := ?v11_17) 17 rfl (by kernel_rfl) rfl ?y11_17 HS ?_; case y11_17 => (intro w' hSw; (try dsimp only at hSw); go_simp <;> (with_reducible rfl)))
                    try simp only [Act.put, List.setIfInBounds_toArray, List.set_cons_zero, List.set_cons_succ]
                    first
                      | refine sk 18 rfl (by kernel_rfl) rfl HS ?_
                      | (refine tk (v := ?v11_18) 18 rfl (by kernel_rfl) rfl ?y11_18 HS ?_; case y11_18 => (intro w' hSw; (try dsimp only at hSw); go_simp <;> (with_reducible rfl)))
                    try simp only [Act.put, List.setIfInBounds_toArray, List.set_cons_zero, List.set_cons_succ]
                    first
                      | refine sk 19 rfl (by kernel_rfl) rfl HS ?_
                      | (refine tk (v := ?v11_19) 19 rfl (by kernel_rfl) rfl ?y11_19 HS ?_; case y11_19 => (intro w' hSw; (try dsimp only at hSw); go_simp <;> (with_reducible rfl)))
                    try simp only [Act.put, List.setIfInBounds_toArray, List.set_cons_zero, List.set_cons_succ]
                    first
                      | refine sk 20 rfl (by kernel_rfl) rfl HS ?_
                      | (refine tk (v := ?v11_20) 20 rfl (by kernel_rfl) rfl ?y11_20 HS ?_; case y11_20 => (intro w' hSw; (try dsimp only at hSw); go_simp <;> (with_reducible rfl)))
                    try simp only [Act.put, List.setIfInBounds_toArray, List.set_cons_zero, List.set_cons_succ]
                    first
                      | refine sk 21 rfl (by kernel_rfl) rfl HS ?_
                      | (refine tk (v := ?v11_21) 21 rfl (by kernel_rfl) rfl ?y11_21 HS ?_; case y11_21 => (intro w' hSw; (try dsimp only at hSw); go_simp <;> (with_reducible rfl)))
                    try simp only [Act.put, List.setIfInBounds_toArray, List.set_cons_zero, List.set_cons_succ]
                    first
                      | refine sk 22 rfl (by kernel_rfl) rfl HS ?_
                      | (refine tk (v := ?v11_22) 22 rfl (by kernel_rfl) rfl ?y11_22 HS ?_; case y11_22 => (intro w' hSw; (try dsimp only at hSw); go_simp <;> (with_reducible rfl)))
                    try simp only [Act.put, List.setIfInBounds_toArray, List.set_cons_zero, List.set_cons_succ]
                    refine cl 23 rfl (by kernel_rfl) (fun K hK => ?_)
                    go_simp
                    go_at_call 80
                    refine (specAsks _ xs x.name y.name _ (HD2.out.grew (hbel2.trans HS.2.2.2)) HX0.out HS0.out).mono ?_
                    rintro e w2 ⟨he, hb⟩
                    rw [HAV.out] at he
                    subst he
                    refine hK.out _ _ ?s11_23 ?r11_23
                    case s11_23 => (try dsimp only); exact ⟨grew_cell hb HS.1, grew_cell hb HS.2.1, grew_cell hb HS.2.2.1, HS.2.2.2.trans hb⟩
                    case r11_23 =>
                      clear HS
                      intro HS
                      clear hK K
                      try simp only [Act.put, List.setIfInBounds_toArray, List.set_cons_zero, List.set_cons_succ]
                      first
                        | refine sk 24 rfl (by kernel_rfl) rfl HS ?_
                        | (refine tk (v := ?v11_24) 24 rfl (by kernel_rfl) rfl ?y11_24 HS ?_; case y11_24 => (intro w' hSw; (try dsimp only at hSw); go_simp <;> (with_reducible rfl)))
                      try simp only [Act.put, List.setIfInBounds_toArray, List.set_cons_zero, List.set_cons_succ]
                      first
                        | refine sk 25 rfl (by kernel_rfl) rfl HS ?_
                        | (refine tk (v := ?v11_25) 25 rfl (by kernel_rfl) rfl ?y11_25 HS ?_; case y11_25 => (intro w' hSw; (try dsimp only at hSw); go_simp <;> (with_reducible rfl)))
                      try simp only [Act.put, List.setIfInBounds_toArray, List.set_cons_zero, List.set_cons_succ]
                      refine wpAnyH_done (by kernel_rfl) ?_ _
                      refine NoPanic.normal ?_
                      have HA1 := HS.1
                      have HA2 := HS.2.1
                      have HA3 := HS.2.2.1
                      have HA4 := HS.2.2.2
                      clear HS
                      go_wp2_with fail
                      refine wp_region_noPanic ?_
                      refine wp_region_held_drew (S := (fun w' => (w'.cell? ⟨b1, o1 + k * 2, none⟩ = some (.string x.name) ∧ w'.cell? ⟨b1, o1 + j * 2, none⟩ = some (.string y.name) ∧ w'.cell? ⟨b1, o1 + j * 2 + 1, none⟩ = some (.slice qa y.query.length qc) ∧ Grew wr w'))) (by kernel_rfl) ?h12_S ?h12_r
                      case h12_S => exact ⟨grew_cell (Grew.refl _).drew HA1, grew_cell (Grew.refl _).drew HA2, grew_cell (Grew.refl _).drew HA3, HA4.trans (Grew.refl _).drew⟩
                      case h12_r =>
                        intro HS
                        first
                          | refine sk 0 rfl (by kernel_rfl) rfl HS ?_
                          | (refine tk (v := ?v12_0) 0 rfl (by kernel_rfl) rfl ?y12_0 HS ?_; case y12_0 => (intro w' hSw; (try dsimp only at hSw); go_simp <;> (with_reducible rfl)))
                        try simp only [Act.put, List.setIfInBounds_toArray, List.set_cons_zero, List.set_cons_succ]
                        first
                          | refine sk 1 rfl (by kernel_rfl) rfl HS ?_
                          | (refine tk (v := ?v12_1) 1 rfl (by kernel_rfl) rfl ?y12_1 HS ?_; case y12_1 => (intro w' hSw; (try dsimp only at hSw); go_simp <;> (with_reducible rfl)))
                        try simp only [Act.put, List.setIfInBounds_toArray, List.set_cons_zero, List.set_cons_succ]
                        first
                          | refine sk 2 rfl (by kernel_rfl) rfl HS ?_
                          | (refine tk (v := ?v12_2) 2 rfl (by kernel_rfl) rfl ?y12_2 HS ?_; case y12_2 => (intro w' hSw; (try dsimp only at hSw); go_simp <;> (with_reducible rfl)))
                        try simp only [Act.put, List.setIfInBounds_toArray, List.set_cons_zero, List.set_cons_succ]
                        first
                          | refine sk 3 rfl (by kernel_rfl) rfl HS ?_
                          | (refine tk (v := ?v12_3) 3 rfl (by kernel_rfl) rfl ?y12_3 HS ?_; case y12_3 => (intro w' hSw; (try dsimp only at hSw); go_simp <;> (with_reducible rfl)))
                        try simp only [Act.put, List.setIfInBounds_toArray, List.set_cons_zero, List.set_cons_succ]
                        first
                          | refine sk 4 rfl (by kernel_rfl) rfl HS ?_
                          | (refine tk (v := ?v12_4) 4 rfl (by kernel_rfl) rfl ?y12_4 HS ?_; case y12_4 => (intro w' hSw; (try dsimp only at hSw); go_simp <;> (with_reducible rfl)))
                        try simp only [Act.put, List.setIfInBounds_toArray, List.set_cons_zero, List.set_cons_succ]
                        first
                          | refine sk 5 rfl (by kernel_rfl) rfl HS ?_
                          | (refine tk (v := ?v12_5) 5 rfl (by kernel_rfl) rfl ?y12_5 HS ?_; case y12_5 => (intro w' hSw; (try dsimp only at hSw); go_simp <;> (with_reducible rfl)))
                        try simp only [Act.put, List.setIfInBounds_toArray, List.set_cons_zero, List.set_cons_succ]
                        first
                          | refine sk 6 rfl (by kernel_rfl) rfl HS ?_
                          | (refine tk (v := ?v12_6) 6 rfl (by kernel_rfl) rfl ?y12_6 HS ?_; case y12_6 => (intro w' hSw; (try dsimp only at hSw); go_simp <;> (with_reducible rfl)))
                        try simp only [Act.put, List.setIfInBounds_toArray, List.set_cons_zero, List.set_cons_succ]
                        first
                          | refine sk 7 rfl (by kernel_rfl) rfl HS ?_
                          | (refine tk (v := ?v12_7) 7 rfl (by kernel_rfl) rfl ?y12_7 HS ?_; case y12_7 => (intro w' hSw; (try dsimp only at hSw); go_simp <;> (with_reducible rfl)))
                        try simp only [Act.put, List.setIfInBounds_toArray, List.set_cons_zero, List.set_cons_succ]
                        first
                          | refine sk 8 rfl (by kernel_rfl) rfl HS ?_
                          | (refine tk (v := ?v12_8) 8 rfl (by kernel_rfl) rfl ?y12_8 HS ?_; case y12_8 => (intro w' hSw; (try dsimp only at hSw); go_simp <;> (with_reducible rfl)))
                        try simp only [Act.put, List.setIfInBounds_toArray, List.set_cons_zero, List.set_cons_succ]
                        first
                          | refine sk 10 rfl (by kernel_rfl) rfl HS ?_
                          | (refine tk (v := ?v12_10) 10 rfl (by kernel_rfl) rfl ?y12_10 HS ?_; case y12_10 => (intro w' hSw; (try dsimp only at hSw); go_simp <;> (with_reducible rfl)))
                        try simp only [Act.put, List.setIfInBounds_toArray, List.set_cons_zero, List.set_cons_succ]
                        first
                          | refine sk 11 rfl (by kernel_rfl) rfl HS ?_
                          | (refine tk (v := ?v12_11) 11 rfl (by kernel_rfl) rfl ?y12_11 HS ?_; case y12_11 => (intro w' hSw; (try dsimp only at hSw); go_simp <;> (with_reducible rfl)))
                        try simp only [Act.put, List.setIfInBounds_toArray, List.set_cons_zero, List.set_cons_succ]
                        first
                          | refine sk 12 rfl (by kernel_rfl) rfl HS ?_
                          | (refine tk (v := ?v12_12) 12 rfl (by kernel_rfl) rfl ?y12_12 HS ?_; case y12_12 => (intro w' hSw; (try dsimp only at hSw); go_simp <;> (with_reducible rfl)))
                        try simp only [Act.put, List.setIfInBounds_toArray, List.set_cons_zero, List.set_cons_succ]
                        first
                          | refine sk 13 rfl (by kernel_rfl) rfl HS ?_
                          | (refine tk (v := ?v12_13) 13 rfl (by kernel_rfl) rfl ?y12_13 HS ?_; case y12_13 => (intro w' hSw; (try dsimp only at hSw); go_simp <;> (with_reducible rfl)))
                        try simp only [Act.put, List.setIfInBounds_toArray, List.set_cons_zero, List.set_cons_succ]
                        first
                          | refine sk 14 rfl (by kernel_rfl) rfl HS ?_
                          | (refine tk (v := ?v12_14) 14 rfl (by kernel_rfl) rfl ?y12_14 HS ?_; case y12_14 => (intro w' hSw; (try dsimp only at hSw); go_simp <;> (with_reducible rfl)))
                        try simp only [Act.put, List.setIfInBounds_toArray, List.set_cons_zero, List.set_cons_succ]
                        refine cl 9 rfl (by kernel_rfl) (fun K hK => ?_)
                        go_simp
                        go_at_call 33
                        refine (specNegativeDeps _ y.query.length y.query _ (HYQ.out.grew (hbel2.trans HS.2.2.2)) hys.2.1 hys.2.2).mono ?_
                        rintro e w3 ⟨v3, rfl, hv3, hb⟩
                        have HV3 := Lib.hid (rd_of_own hv3)
                        obtain ⟨va3, vc3, rfl⟩ := own_slice hv3
                        clear hv3
                        refine hK.out _ _ ?s12_9 ?r12_9
                        case s12_9 => (try dsimp only); exact ⟨grew_cell hb HS.1, grew_cell hb HS.2.1, grew_cell hb HS.2.2.1, HS.2.2.2.trans hb⟩
                        case r12_9 =>
                          clear HS
                          intro HS
                          clear hK K
                          try simp only [Act.put, List.setIfInBounds_toArray, List.set_cons_zero, List.set_cons_succ]
                          refine cl 15 rfl (by kernel_rfl) (fun K hK => ?_)
                          go_simp
                          go_at_call 81
                          refine (l12Has _ _ (depsL y.query true) x.name _ HV3.out (by omega)).mono ?_
                          rintro e w4 ⟨he, rfl⟩
                          rw [HDV.out] at he
                          subst he
                          have hb := Grew.refl w3
                          refine hK.out _ _ ?s12_15 ?r12_15
                          case s12_15 => (try dsimp only); exact ⟨grew_cell hb HS.1, grew_cell hb HS.2.1, grew_cell hb HS.2.2.1, HS.2.2.2.trans hb⟩
                          case r12_15 =>
                            clear HS
                            intro HS
                            clear hK K
                            try simp only [Act.put, List.setIfInBounds_toArray, List.set_cons_zero, List.set_cons_succ]
                            first
                              | refine sk 16 rfl (by kernel_rfl) rfl HS ?_
                              | (refine tk (v := ?v12_16) 16 rfl (by kernel_rfl) rfl ?y12_16 HS ?_; case y12_16 => (intro w' hSw; (try dsimp only at hSw); go_simp <;> (with_reducible rfl)))
                            try simp only [Act.put, List.setIfInBounds_toArray, List.set_cons_zero, List.set_cons_succ]
                            first
                              | refine sk 17 rfl (by kernel_rfl) rfl HS ?_
                              | (refine tk (v := ?v12_17) 17 rfl (by kernel_rfl) rfl ?y12_17 HS ?_; case y12_17 => (intro w' hSw; (try dsimp only at hSw); go_simp <;> (with_reducible rfl)))
                            try simp only [Act.put, List.setIfInBounds_toArray, List.set_cons_zero, List.set_cons_succ]
                            first
                              | refine sk 18 rfl (by kernel_rfl) rfl HS ?_
                              | (refine tk (v := ?v12_18) 18 rfl (by kernel_rfl) rfl ?y12_18 HS ?_; case y12_18 => (intro w' hSw; (try dsimp only at hSw); go_simp <;> (with_reducible rfl)))
                            try simp only [Act.put, List.setIfInBounds_toArray, List.set_cons_zero, List.set_cons_succ]
                            refine wpAnyH_done (by kernel_rfl) ?_ _
                            refine NoPanic.normal ?_
                            go_wp2
                            go_roundw
                            case rel =>
                              refine ⟨j + 1, false, by omega, by go_num, rfl, Lib.hid ?_, hg2.trans HS.2.2.2⟩
                              have h1 := uns_step hany.out hyk.out (HUQ.out false hq)
                              simpa using h1
                            case measure => simp [intOf]; omega
            · rcases hcb with rfl | rfl
              · have hk0 := hlt
                go_wp2_with fail
                refine wp_region_noPanic ?_
                refine wp_region_held_drew (S := (fun w' => (w'.cell? ⟨b1, o1 + k * 2, none⟩ = some (.string x.name) ∧ w'.cell? ⟨b1, o1 + j * 2, none⟩ = some (.string y.name) ∧ w'.cell? ⟨b1, o1 + j * 2 + 1, none⟩ = some (.slice qa y.query.length qc) ∧ Grew wr w'))) (by kernel_rfl) ?h13_S ?h13_r
                case h13_S => exact ⟨grew_cell (Grew.refl _).drew c0', grew_cell (Grew.refl _).drew d0, grew_cell (Grew.refl _).drew d1, (Grew.refl _).drew⟩
                case h13_r =>
                  intro HS
                  first
                    | refine sk 0 rfl (by kernel_rfl) rfl HS ?_
                    | (refine tk (v := ?v13_0) 0 rfl (by kernel_rfl) rfl ?y13_0 HS ?_; case y13_0 => (intro w' hSw; (try dsimp only at hSw); go_simp <;> (with_reducible rfl)))
                  try simp only [Act.put, List.setIfInBounds_toArray, List.set_cons_zero, List.set_cons_succ]
                  first
                    | refine sk 1 rfl (by kernel_rfl) rfl HS ?_
                    | (refine tk (v := ?v13_1) 1 rfl (by kernel_rfl) rfl ?y13_1 HS ?_; case y13_1 => (intro w' hSw; (try dsimp only at hSw); go_simp <;> (with_reducible rfl)))
                  try simp only [Act.put, List.setIfInBounds_toArray, List.set_cons_zero, List.set_cons_succ]
                  first
                    | refine sk 2 rfl (by kernel_rfl) rfl HS ?_
                    | (refine tk (v := ?v13_2) 2 rfl (by kernel_rfl) rfl ?y13_2 HS ?_; case y13_2 => (intro w' hSw; (try dsimp only at hSw); go_simp <;> (with_reducible rfl)))
                  try simp only [Act.put, List.setIfInBounds_toArray, List.set_cons_zero, List.set_cons_succ]
                  first
                    | refine sk 3 rfl (by kernel_rfl) rfl HS ?_
                    | (refine tk (v := ?v13_3) 3 rfl (by kernel_rfl) rfl ?y13_3 HS ?_; case y13_3 => (intro w' hSw; (try dsimp only at hSw); go_simp <;> (with_reducible rfl)))
                  try simp only [Act.put, List.setIfInBounds_toArray, List.set_cons_zero, List.set_cons_succ]
                  first
                    | refine sk 4 rfl (by kernel_rfl) rfl HS ?_
                    | (refine tk (v := ?v13_4) 4 rfl (by kernel_rfl) rfl ?y13_4 HS ?_; case y13_4 => (intro w' hSw; (try dsimp only at hSw); go_simp <;> (with_reducible rfl)))
                  try simp only [Act.put, List.setIfInBounds_toArray, List.set_cons_zero, List.set_cons_succ]
                  first
                    | refine sk 5 rfl (by kernel_rfl) rfl HS ?_
                    | (refine tk (v := ?v13_5) 5 rfl (by kernel_rfl) rfl ?y13_5 HS ?_; case y13_5 => (intro w' hSw; (try dsimp only at hSw); go_simp <;> (with_reducible rfl)))
                  try simp only [Act.put, List.setIfInBounds_toArray, List.set_cons_zero, List.set_cons_succ]
                  first
                    | refine sk 6 rfl (by kernel_rfl) rfl HS ?_
                    | (refine tk (v := ?v13_6) 6 rfl (by kernel_rfl) rfl ?y13_6 HS ?_; case y13_6 => (intro w' hSw; (try dsimp only at hSw); go_simp <;> (with_reducible rfl)))
                  try simp only [Act.put, List.setIfInBounds_toArray, List.set_cons_zero, List.set_cons_succ]
                  first
                    | refine sk 7 rfl (by kernel_rfl) rfl HS ?_
                    | (refine tk (v := ?v13_7) 7 rfl (by kernel_rfl) rfl ?y13_7 HS ?_; case y13_7 => (intro w' hSw; (try dsimp only at hSw); go_simp <;> (with_reducible rfl)))
                  try simp only [Act.put, List.setIfInBounds_toArray, List.set_cons_zero, List.set_cons_succ]
                  first
                    | refine sk 8 rfl (by kernel_rfl) rfl HS ?_
                    | (refine tk (v := ?v13_8) 8 rfl (by kernel_rfl) rfl ?y13_8 HS ?_; case y13_8 => (intro w' hSw; (try dsimp only at hSw); go_simp <;> (with_reducible rfl)))
                  try simp only [Act.put, List.setIfInBounds_toArray, List.set_cons_zero, List.set_cons_succ]
                  first
                    | refine sk 9 rfl (by kernel_rfl) rfl HS ?_
                    | (refine tk (v := ?v13_9) 9 rfl (by kernel_rfl) rfl ?y13_9 HS ?_; case y13_9 => (intro w' hSw; (try dsimp only at hSw); go_simp <;> (with_reducible rfl)))
                  try simp only [Act.put, List.setIfInBounds_toArray, List.set_cons_zero, List.set_cons_succ]
                  first
                    | refine sk 10 rfl (by kernel_rfl) rfl HS ?_
                    | (refine tk (v := ?v13_10) 10 rfl (by kernel_rfl) rfl ?y13_10 HS ?_; case y13_10 => (intro w' hSw; (try dsimp only at hSw); go_simp <;> (with_reducible rfl)))
                  try simp only [Act.put, List.setIfInBounds_toArray, List.set_cons_zero, List.set_cons_succ]
                  first
                    | refine sk 11 rfl (by kernel_rfl) rfl HS ?_
                    | (refine tk (v := ?v13_11) 11 rfl (by kernel_rfl) rfl ?y13_11 HS ?_; case y13_11 => (intro w' hSw; (try dsimp only at hSw); go_simp <;> (with_reducible rfl)))
                  try simp only [Act.put, List.setIfInBounds_toArray, List.set_cons_zero, List.set_cons_succ]
                  first
                    | refine sk 12 rfl (by kernel_rfl) rfl HS ?_
                    | (refine tk (v := ?v13_12) 12 rfl (by kernel_rfl) rfl ?y13_12 HS ?_; case y13_12 => (intro w' hSw; (try dsimp only at hSw); go_simp <;> (with_reducible rfl)))
                  try simp only [Act.put, List.setIfInBounds_toArray, List.set_cons_zero, List.set_cons_succ]
                  first
                    | refine sk 13 rfl (by kernel_rfl) rfl HS ?_
                    | (refine tk (v := ?v13_13) 13 rfl (by kernel_rfl) rfl ?y13_13 HS ?_; case y13_13 => (intro w' hSw; (try dsimp only at hSw); go_simp <;> (with_reducible rfl)))
                  try simp only [Act.put, List.setIfInBounds_toArray, List.set_cons_zero, List.set_cons_succ]
                  first
                    | refine sk 14 rfl (by kernel_rfl) rfl HS ?_
                    | (refine tk (v := ?v13_14) 14 rfl (by kernel_rfl) rfl ?y13_14 HS ?_; case y13_14 => (intro w' hSw; (try dsimp only at hSw); go_simp <;> (with_reducible rfl)))
                  try simp only [Act.put, List.setIfInBounds_toArray, List.set_cons_zero, List.set_cons_succ]
                  first
                    | refine sk 15 rfl (by kernel_rfl) rfl HS ?_
                    | (refine tk (v := ?v13_15) 15 rfl (by kernel_rfl) rfl ?y13_15 HS ?_; case y13_15 => (intro w' hSw; (try dsimp only at hSw); go_simp <;> (with_reducible rfl)))
                  try simp only [Act.put, List.setIfInBounds_toArray, List.set_cons_zero, List.set_cons_succ]
                  first
                    | refine sk 16 rfl (by kernel_rfl) rfl HS ?_
                    | (refine tk (v := ?v13_16) 16 rfl (by kernel_rfl) rfl ?y13_16 HS ?_; case y13_16 => (intro w' hSw; (try dsimp only at hSw); go_simp <;> (with_reducible rfl)))
                  try simp only [Act.put, List.setIfInBounds_toArray, List.set_cons_zero, List.set_cons_succ]
                  first
                    | refine sk 17 rfl (by kernel_rfl) rfl HS ?_
                    | (refine tk (v := ?v13_17) 17 rfl (by kernel_rfl) rfl ?y13_17 HS ?_; case y13_17 => (intro w' hSw; (try dsimp only at hSw); go_simp <;> (with_reducible rfl)))
                  try simp only [Act.put, List.setIfInBounds_toArray, List.set_cons_zero, List.set_cons_succ]
                  first
                    | refine sk 18 rfl (by kernel_rfl) rfl HS ?_
                    | (refine tk (v := ?v13_18) 18 rfl (by kernel_rfl) rfl ?y13_18 HS ?_; case y13_18 => (intro w' hSw; (try dsimp only at hSw); go_simp <;> (with_reducible rfl)))
                  try simp only [Act.put, List.setIfInBounds_toArray, List.set_cons_zero, List.set_cons_succ]
                  first
                    | refine sk 19 rfl (by kernel_rfl) rfl HS ?_
                    | (refine tk (v := ?v13_19) 19 rfl (by kernel_rfl) rfl ?y13_19 HS ?_; case y13_19 => (intro w' hSw; (try dsimp only at hSw); go_simp <;> (with_reducible rfl)))
                  try simp only [Act.put, List.setIfInBounds_toArray, List.set_cons_zero, List.set_cons_succ]
                  first
                    | refine sk 20 rfl (by kernel_rfl) rfl HS ?_
                    | (refine tk (v := ?v13_20) 20 rfl (by kernel_rfl) rfl ?y13_20 HS ?_; case y13_20 => (intro w' hSw; (try dsimp only at hSw); go_simp <;> (with_reducible rfl)))
                  try simp only [Act.put, List.setIfInBounds_toArray, List.set_cons_zero, List.set_cons_succ]
                  first
                    | refine sk 21 rfl (by kernel_rfl) rfl HS ?_
                    | (refine tk (v := ?v13_21) 21 rfl (by kernel_rfl) rfl ?y13_21 HS ?_; case y13_21 => (intro w' hSw; (try dsimp only at hSw); go_simp <;> (with_reducible rfl)))
                  try simp only [Act.put, List.setIfInBounds_toArray, List.set_cons_zero, List.set_cons_succ]
                  first
                    | refine sk 22 rfl (by kernel_rfl) rfl HS ?_
                    | (refine tk (v := ?v13_22) 22 rfl (by kernel_rfl) rfl ?y13_22 HS ?_; case y13_22 => (intro w' hSw; (try dsimp only at hSw); go_simp <;> (with_reducible rfl)))
                  try simp only [Act.put, List.setIfInBounds_toArray, List.set_cons_zero, List.set_cons_succ]
                  refine cl 23 rfl (by kernel_rfl) (fun K hK => ?_)
                  go_simp
                  go_at_call 80
                  refine (specAsks _ xs x.name y.name _ (HD2.out.grew (hbel2.trans HS.2.2.2)) HX0.out HS0.out).mono ?_
                  rintro e w2 ⟨he, hb⟩
                  rw [HAV.out] at he
                  subst he
                  refine hK.out _ _ ?s13_23 ?r13_23
                  case s13_23 => (try dsimp only); exact ⟨grew_cell hb HS.1, grew_cell hb HS.2.1, grew_cell hb HS.2.2.1, HS.2.2.2.trans hb⟩
                  case r13_23 =>
                    clear HS
                    intro HS
                    clear hK K
                    try simp only [Act.put, List.setIfInBounds_toArray, List.set_cons_zero, List.set_cons_succ]
                    first
                      | refine sk 24 rfl (by kernel_rfl) rfl HS ?_
                      | (refine tk (v := ?v13_24) 24 rfl (by kernel_rfl) rfl ?y13_24 HS ?_; case y13_24 => (intro w' hSw; (try dsimp only at hSw); go_simp <;> (with_reducible rfl)))
                    try simp only [Act.put, List.setIfInBounds_toArray, List.set_cons_zero, List.set_cons_succ]
                    first
                      | refine sk 25 rfl (by kernel_rfl) rfl HS ?_
                      | (refine tk (v := ?v13_25) 25 rfl (by kernel_rfl) rfl ?y13_25 HS ?_; case y13_25 => (intro w' hSw; (try dsimp only at hSw); go_simp <;> (with_reducible rfl)))
                    try simp only [Act.put, List.setIfInBounds_toArray, List.set_cons_zero, List.set_cons_succ]
                    refine wpAnyH_done (by kernel_rfl) ?_ _
                    refine NoPanic.normal ?_
                    have HA1 := HS.1
                    have HA2 := HS.2.1
                    have HA3 := HS.2.2.1
                    have HA4 := HS.2.2.2
                    clear HS
                    go_wp2_with fail
                    refine wp_region_noPanic ?_
                    refine wp_region_held_drew (S := (fun w' => (w'.cell? ⟨b1, o1 + k * 2, none⟩ = some (.string x.name) ∧ w'.cell? ⟨b1, o1 + j * 2, none⟩ = some (.string y.name) ∧ w'.cell? ⟨b1, o1 + j * 2 + 1, none⟩ = some (.slice qa y.query.length qc) ∧ Grew wr w'))) (by kernel_rfl) ?h14_S ?h14_r
                    case h14_S => exact ⟨grew_cell (Grew.refl _).drew HA1, grew_cell (Grew.refl _).drew HA2, grew_cell (Grew.refl _).drew HA3, HA4.trans (Grew.refl _).drew⟩
                    case h14_r =>
                      intro HS
                      first
                        | refine sk 0 rfl (by kernel_rfl) rfl HS ?_
                        | (refine tk (v := ?v14_0) 0 rfl (by kernel_rfl) rfl ?y14_0 HS ?_; case y14_0 => (intro w' hSw; (try dsimp only at hSw); go_simp <;> (with_reducible rfl)))
                      try simp only [Act.put, List.setIfInBounds_toArray, List.set_cons_zero, List.set_cons_succ]
                      first
                        | refine sk 1 rfl (by kernel_rfl) rfl HS ?_
                        | (refine tk (v := ?v14_1) 1 rfl (by kernel_rfl) rfl ?y14_1 HS ?_; case y14_1 => (intro w' hSw; (try dsimp only at hSw); go_simp <;> (with_reducible rfl)))
                      try simp only [Act.put, List.setIfInBounds_toArray, List.set_cons_zero, List.set_cons_succ]
                      first
                        | refine sk 2 rfl (by kernel_rfl) rfl HS ?_
                        | (refine tk (v := ?v14_2) 2 rfl (by kernel_rfl) rfl ?y14_2 HS ?_; case y14_2 => (intro w' hSw; (try dsimp only at hSw); go_simp <;> (with_reducible rfl)))
                      try simp only [Act.put, List.setIfInBounds_toArray, List.set_cons_zero, List.set_cons_succ]
                      first
                        | refine sk 3 rfl (by kernel_rfl) rfl HS ?_
                        | (refine tk (v := ?v14_3) 3 rfl (by kernel_rfl) rfl ?y14_3 HS ?_; case y14_3 => (intro w' hSw; (try dsimp only at hSw); go_simp <;> (with_reducible rfl)))
                      try simp only [Act.put, List.setIfInBounds_toArray, List.set_cons_zero, List.set_cons_succ]
                      first
                        | refine sk 4 rfl (by kernel_rfl) rfl HS ?_
                        | (refine tk (v := ?v14_4) 4 rfl (by kernel_rfl) rfl ?y14_4 HS ?_; case y14_4 => (intro w' hSw; (try dsimp only at hSw); go_simp <;> (with_reducible rfl)))
                      try simp only [Act.put, List.setIfInBounds_toArray, List.set_cons_zero, List.set_cons_succ]
                      first
                        | refine sk 5 rfl (by kernel_rfl) rfl HS ?_
                        | (refine tk (v := ?v14_5) 5 rfl (by kernel_rfl) rfl ?y14_5 HS ?_; case y14_5 => (intro w' hSw; (try dsimp only at hSw); go_simp <;> (with_reducible rfl)))
                      try simp only [Act.put, List.setIfInBounds_toArray, List.set_cons_zero, List.set_cons_succ]
                      first
                        | refine sk 6 rfl (by kernel_rfl) rfl HS ?_
                        | (refine tk (v := ?v14_6) 6 rfl (by kernel_rfl) rfl ?y14_6 HS ?_; case y14_6 => (intro w' hSw; (try dsimp only at hSw); go_simp <;> (with_reducible rfl)))
                      try simp only [Act.put, List.setIfInBounds_toArray, List.set_cons_zero, List.set_cons_succ]
                      first
                        | refine sk 7 rfl (by kernel_rfl) rfl HS ?_
                        | (refine tk (v := ?v14_7) 7 rfl (by kernel_rfl) rfl ?y14_7 HS ?_; case y14_7 => (intro w' hSw; (try dsimp only at hSw); go_simp <;> (with_reducible rfl)))
                      try simp only [Act.put, List.setIfInBounds_toArray, List.set_cons_zero, List.set_cons_succ]
                      first
                        | refine sk 8 rfl (by kernel_rfl) rfl HS ?_
                        | (refine tk (v := ?v14_8) 8 rfl (by kernel_rfl) rfl ?y14_8 HS ?_; case y14_8 => (intro w' hSw; (try dsimp only at hSw); go_simp <;> (with_reducible rfl)))
                      try simp only [Act.put, List.setIfInBounds_toArray, List.set_cons_zero, List.set_cons_succ]
                      first
                        | refine sk 10 rfl (by kernel_rfl) rfl HS ?_
                        | (refine tk (v := ?v14_10) 10 rfl (by kernel_rfl) rfl ?y14_10 HS ?_; case y14_10 => (intro w' hSw; (try dsimp only at hSw); go_simp <;> (with_reducible rfl)))
                      try simp only [Act.put, List.setIfInBounds_toArray, List.set_cons_zero, List.set_cons_succ]
                      first
                        | refine sk 11 rfl (by kernel_rfl) rfl HS ?_
                        | (refine tk (v := ?v14_11) 11 rfl (by kernel_rfl) rfl ?y14_11 HS ?_; case y14_11 => (intro w' hSw; (try dsimp only at hSw); go_simp <;> (with_reducible rfl)))
                      try simp only [Act.put, List.setIfInBounds_toArray, List.set_cons_zero, List.set_cons_succ]
                      first
                        | refine sk 12 rfl (by kernel_rfl) rfl HS ?_
                        | (refine tk (v := ?v14_12) 12 rfl (by kernel_rfl) rfl ?y14_12 HS ?_; case y14_12 => (intro w' hSw; (try dsimp only at hSw); go_simp <;> (with_reducible rfl)))
                      try simp only [Act.put, List.setIfInBounds_toArray, List.set_cons_zero, List.set_cons_succ]
                      first
                        | refine sk 13 rfl (by kernel_rfl) rfl HS ?_
                        | (refine tk (v := ?v14_13) 13 rfl (by kernel_rfl) rfl ?y14_13 HS ?_; case y14_13 => (intro w' hSw; (try dsimp only at hSw); go_simp <;> (with_reducible rfl)))
                      try simp only [Act.put, List.setIfInBounds_toArray, List.set_cons_zero, List.set_cons_succ]
                      first
                        | refine sk 14 rfl (by kernel_rfl) rfl HS ?_
                        | (refine tk (v := ?v14_14) 14 rfl (by kernel_rfl) rfl ?y14_14 HS ?_; case y14_14 => (intro w' hSw; (try dsimp only at hSw); go_simp <;> (with_reducible rfl)))
                      try simp only [Act.put, List.setIfInBounds_toArray, List.set_cons_zero, List.set_cons_succ]
                      refine cl 9 rfl (by kernel_rfl) (fun K hK => ?_)
                      go_simp
                      refine hK.out _ _ ?s14_9 ?r14_9
                      case s14_9 => (try dsimp only); exact HS
                      case r14_9 =>
                        clear HS
                        intro HS
                        clear hK K
                        try simp only [Act.put, List.setIfInBounds_toArray, List.set_cons_zero, List.set_cons_succ]
                        refine cl 15 rfl (by kernel_rfl) (fun K hK => ?_)
                        go_simp
                        refine hK.out _ _ ?s14_15 ?r14_15
                        case s14_15 => (try dsimp only); exact HS
                        case r14_15 =>
                          clear HS
                          intro HS
                          clear hK K
                          try simp only [Act.put, List.setIfInBounds_toArray, List.set_cons_zero, List.set_cons_succ]
                          first
                            | refine sk 16 rfl (by kernel_rfl) rfl HS ?_
                            | (refine tk (v := ?v14_16) 16 rfl (by kernel_rfl) rfl ?y14_16 HS ?_; case y14_16 => (intro w' hSw; (try dsimp only at hSw); go_simp <;> (with_reducible rfl)))
                          try simp only [Act.put, List.setIfInBounds_toArray, List.set_cons_zero, List.set_cons_succ]
                          first
                            | refine sk 17 rfl (by kernel_rfl) rfl HS ?_
                            | (refine tk (v := ?v14_17) 17 rfl (by kernel_rfl) rfl ?y14_17 HS ?_; case y14_17 => (intro w' hSw; (try dsimp only at hSw); go_simp <;> (with_reducible rfl)))
                          try simp only [Act.put, List.setIfInBounds_toArray, List.set_cons_zero, List.set_cons_succ]
                          first
                            | refine sk 18 rfl (by kernel_rfl) rfl HS ?_
                            | (refine tk (v := ?v14_18) 18 rfl (by kernel_rfl) rfl ?y14_18 HS ?_; case y14_18 => (intro w' hSw; (try dsimp only at hSw); go_simp <;> (with_reducible rfl)))
                          try simp only [Act.put, List.setIfInBounds_toArray, List.set_cons_zero, List.set_cons_succ]
                          refine wpAnyH_done (by kernel_rfl) ?_ _
                          refine NoPanic.normal ?_
                          go_wp2
                          go_roundw
                          case rel =>
                            refine ⟨j + 1, true, by omega, by go_num, rfl, Lib.hid ?_, hg2.trans HS.2.2.2⟩
                            have h1 := uns_step hany.out hyk.out (HUQ.out false hq)
                            simpa using h1
                          case measure => simp [intOf]; omega
              · have hk0 := hlt
                go_wp2_with fail
                refine wp_region_noPanic ?_
                refine wp_region_held_drew (S := (fun w' => (w'.cell? ⟨b1, o1 + k * 2, none⟩ = some (.string x.name) ∧ w'.cell? ⟨b1, o1 + j * 2, none⟩ = some (.string y.name) ∧ w'.cell? ⟨b1, o1 + j * 2 + 1, none⟩ = some (.slice qa y.query.length qc) ∧ Grew wr w'))) (by kernel_rfl) ?h15_S ?h15_r
                case h15_S => exact ⟨grew_cell (Grew.refl _).drew c0', grew_cell (Grew.refl _).drew d0, grew_cell (Grew.refl _).drew d1, (Grew.refl _).drew⟩
                case h15_r =>
                  intro HS
                  first
                    | refine sk 0 rfl (by kernel_rfl) rfl HS ?_
                    | (refine tk (v := ?v15_0) 0 rfl (by kernel_rfl) rfl ?y15_0 HS ?_; case y15_0 => (intro w' hSw; (try dsimp only at hSw); go_simp <;> (with_reducible rfl)))
                  try simp only [Act.put, List.setIfInBounds_toArray, List.set_cons_zero, List.set_cons_succ]
                  first
                    | refine sk 1 rfl (by kernel_rfl) rfl HS ?_
                    | (refine tk (v := ?v15_1) 1 rfl (by kernel_rfl) rfl ?y15_1 HS ?_; case y15_1 => (intro w' hSw; (try dsimp only at hSw); go_simp <;> (with_reducible rfl)))
                  try simp only [Act.put, List.setIfInBounds_toArray, List.set_cons_zero, List.set_cons_succ]
                  first
                    | refine sk 2 rfl (by kernel_rfl) rfl HS ?_
                    | (refine tk (v := ?v15_2) 2 rfl (by kernel_rfl) rfl ?y15_2 HS ?_; case y15_2 => (intro w' hSw; (try dsimp only at hSw); go_simp <;> (with_reducible rfl)))
                  try simp only [Act.put, List.setIfInBounds_toArray, List.set_cons_zero, List.set_cons_succ]
                  first
                    | refine sk 3 rfl (by kernel_rfl) rfl HS ?_
                    | (refine tk (v := ?v15_3) 3 rfl (by kernel_rfl) rfl ?y15_3 HS ?_; case y15_3 => (intro w' hSw; (try dsimp only at hSw); go_simp <;> (with_reducible rfl)))
                  try simp only [Act.put, List.setIfInBounds_toArray, List.set_cons_zero, List.set_cons_succ]
                  first
                    | refine sk 4 rfl (by kernel_rfl) rfl HS ?_
                    | (refine tk (v := ?v15_4) 4 rfl (by kernel_rfl) rfl ?y15_4 HS ?_; case y15_4 => (intro w' hSw; (try dsimp only at hSw); go_simp <;> (with_reducible rfl)))
                  try simp only [Act.put, List.setIfInBounds_toArray, List.set_cons_zero, List.set_cons_succ]
                  first
                    | refine sk 5 rfl (by kernel_rfl) rfl HS ?_
                    | (refine tk (v := ?v15_5) 5 rfl (by kernel_rfl) rfl ?y15_5 HS ?_; case y15_5 => (intro w' hSw; (try dsimp only at hSw); go_simp <;> (with_reducible rfl)))
                  try simp only [Act.put, List.setIfInBounds_toArray, List.set_cons_zero, List.set_cons_succ]
                  first
                    | refine sk 6 rfl (by kernel_rfl) rfl HS ?_
                    | (refine tk (v := ?v15_6) 6 rfl (by kernel_rfl) rfl ?y15_6 HS ?_; case y15_6 => (intro w' hSw; (try dsimp only at hSw); go_simp <;> (with_reducible rfl)))
                  try simp only [Act.put, List.setIfInBounds_toArray, List.set_cons_zero, List.set_cons_succ]
                  first
                    | refine sk 7 rfl (by kernel_rfl) rfl HS ?_
                    | (refine tk (v := ?v15_7) 7 rfl (by kernel_rfl) rfl ?y15_7 HS ?_; case y15_7 => (intro w' hSw; (try dsimp only at hSw); go_simp <;> (with_reducible rfl)))
                  try simp only [Act.put, List.setIfInBounds_toArray, List.set_cons_zero, List.set_cons_succ]
                  first
                    | refine sk 8 rfl (by kernel_rfl) rfl HS ?_
                    | (refine tk (v := ?v15_8) 8 rfl (by kernel_rfl) rfl ?y15_8 HS ?_; case y15_8 => (intro w' hSw; (try dsimp only at hSw); go_simp <;> (with_reducible rfl)))
                  try simp only [Act.put, List.setIfInBounds_toArray, List.set_cons_zero, List.set_cons_succ]
                  first
                    | refine sk 9 rfl (by kernel_rfl) rfl HS ?_
                    | (refine tk (v := ?v15_9) 9 rfl (by kernel_rfl) rfl ?y15_9 HS ?_; case y15_9 => (intro w' hSw; (try dsimp only at hSw); go_simp <;> (with_reducible rfl)))
                  try simp only [Act.put, List.setIfInBounds_toArray, List.set_cons_zero, List.set_cons_succ]
                  first
                    | refine sk 10 rfl (by kernel_rfl) rfl HS ?_
                    | (refine tk (v := ?v15_10) 10 rfl (by kernel_rfl) rfl ?y15_10 HS ?_; case y15_10 => (intro w' hSw; (try dsimp only at hSw); go_simp <;> (with_reducible rfl)))
                  try simp only [Act.put, List.setIfInBounds_toArray, List.set_cons_zero, List.set_cons_succ]
                  first
                    | refine sk 11 rfl (by kernel_rfl) rfl HS ?_
                    | (refine tk (v := ?v15_11) 11 rfl (by kernel_rfl) rfl ?y15_11 HS ?_; case y15_11 => (intro w' hSw; (try dsimp only at hSw); go_simp <;> (with_reducible rfl)))
                  try simp only [Act.put, List.setIfInBounds_toArray, List.set_cons_zero, List.set_cons_succ]
                  first
                    | refine sk 12 rfl (by kernel_rfl) rfl HS ?_
                    | (refine tk (v := ?v15_12) 12 rfl (by kernel_rfl) rfl ?y15_12 HS ?_; case y15_12 => (intro w' hSw; (try dsimp only at hSw); go_simp <;> (with_reducible rfl)))
                  try simp only [Act.put, List.setIfInBounds_toArray, List.set_cons_zero, List.set_cons_succ]
                  first
                    | refine sk 13 rfl (by kernel_rfl) rfl HS ?_
                    | (refine tk (v := ?v15_13) 13 rfl (by kernel_rfl) rfl ?y15_13 HS ?_; case y15_13 => (intro w' hSw; (try dsimp only at hSw); go_simp <;> (with_reducible rfl)))
                  try simp only [Act.put, List.setIfInBounds_toArray, List.set_cons_zero, List.set_cons_succ]
                  first
                    | refine sk 14 rfl (by kernel_rfl) rfl HS ?_
                    | (refine tk (v := ?v15_14) 14 rfl (by kernel_rfl) rfl ?y15_14 HS ?_; case y15_14 => (intro w' hSw; (try dsimp only at hSw); go_simp <;> (with_reducible rfl)))
                  try simp only [Act.put, List.setIfInBounds_toArray, List.set_cons_zero, List.set_cons_succ]
                  first
                    | refine sk 15 rfl (by kernel_rfl) rfl HS ?_
                    | (refine tk (v := ?v15_15) 15 rfl (by kernel_rfl) rfl ?y15_15 HS ?_; case y15_15 => (intro w' hSw; (try dsimp only at hSw); go_simp <;> (with_reducible rfl)))
                  try simp only [Act.put, List.setIfInBounds_toArray, List.set_cons_zero, List.set_cons_succ]
                  first
                    | refine sk 16 rfl (by kernel_rfl) rfl HS ?_
                    | (refine tk (v := ?v15_16) 16 rfl (by kernel_rfl) rfl ?y15_16 HS ?_; case y15_16 => (intro w' hSw; (try dsimp only at hSw); go_simp <;> (with_reducible rfl)))
                  try simp only [Act.put, List.setIfInBounds_toArray, List.set_cons_zero, List.set_cons_succ]
                  first
                    | refine sk 17 rfl (by kernel_rfl) rfl HS ?_
                    | (refine tk (v := ?v15_17) 17 rfl (by kernel_rfl) rfl ?y15_17 HS ?_; case y15_17 => (intro w' hSw; (try dsimp only at hSw); go_simp <;> (with_reducible rfl)))
                  try simp only [Act.put, List.setIfInBounds_toArray, List.set_cons_zero, List.set_cons_succ]
                  first
                    | refine sk 18 rfl (by kernel_rfl) rfl HS ?_
                    | (refine tk (v := ?v15_18) 18 rfl (by kernel_rfl) rfl ?y15_18 HS ?_; case y15_18 => (intro w' hSw; (try dsimp only at hSw); go_simp <;> (with_reducible rfl)))
                  try simp only [Act.put, List.setIfInBounds_toArray, List.set_cons_zero, List.set_cons_succ]
                  first
                    | refine sk 19 rfl (by kernel_rfl) rfl HS ?_
                    | (refine tk (v := ?v15_19) 19 rfl (by kernel_rfl) rfl ?y15_19 HS ?_; case y15_19 => (intro w' hSw; (try dsimp only at hSw); go_simp <;> (with_reducible rfl)))
                  try simp only [Act.put, List.setIfInBounds_toArray, List.set_cons_zero, List.set_cons_succ]
                  first
                    | refine sk 20 rfl (by kernel_rfl) rfl HS ?_
                    | (refine tk (v := ?v15_20) 20 rfl (by kernel_rfl) rfl ?y15_20 HS ?_; case y15_20 => (intro w' hSw; (try dsimp only at hSw); go_simp <;> (with_reducible rfl)))
                  try simp only [Act.put, List.setIfInBounds_toArray, List.set_cons_zero, List.set_cons_succ]
                  first
                    | refine sk 21 rfl (by kernel_rfl) rfl HS ?_
                    | (refine tk (v := ?v15_21) 21 rfl (by kernel_rfl) rfl ?y15_21 HS ?_; case y15_21 => (intro w' hSw; (try dsimp only at hSw); go_simp <;> (with_reducible rfl)))
                  try simp only [Act.put, List.setIfInBounds_toArray, List.set_cons_zero, List.set_cons_succ]
                  first
                    | refine sk 22 rfl (by kernel_rfl) rfl HS ?_
                    | (refine tk (v := ?v15_22) 22 rfl (by kernel_rfl) rfl ?y15_22 HS ?_; case y15_22 => (intro w' hSw; (try dsimp only at hSw); go_simp <;> (with_reducible rfl)))
                  try simp only [Act.put, List.setIfInBounds_toArray, List.set_cons_zero, List.set_cons_succ]
                  refine cl 23 rfl (by kernel_rfl) (fun K hK => ?_)
                  go_simp
                  go_at_call 80
                  refine (specAsks _ xs x.name y.name _ (HD2.out.grew (hbel2.trans HS.2.2.2)) HX0.out HS0.out).mono ?_
                  rintro e w2 ⟨he, hb⟩
                  rw [HAV.out] at he
                  subst he
                  refine hK.out _ _ ?s15_23 ?r15_23
                  case s15_23 => (try dsimp only); exact ⟨grew_cell hb HS.1, grew_cell hb HS.2.1, grew_cell hb HS.2.2.1, HS.2.2.2.trans hb⟩
                  case r15_23 =>
                    clear HS
                    intro HS
                    clear hK K
                    try simp only [Act.put, List.setIfInBounds_toArray, List.set_cons_zero, List.set_cons_succ]
                    first
                      | refine sk 24 rfl (by kernel_rfl) rfl HS ?_
                      | (refine tk (v := ?v15_24) 24 rfl (by kernel_rfl) rfl ?y15_24 HS ?_; case y15_24 => (intro w' hSw; (try dsimp only at hSw); go_simp <;> (with_reducible rfl)))
                    try simp only [Act.put, List.setIfInBounds_toArray, List.set_cons_zero, List.set_cons_succ]
                    first
                      | refine sk 25 rfl (by kernel_rfl) rfl HS ?_
                      | (refine tk (v := ?v15_25) 25 rfl (by kernel_rfl) rfl ?y15_25 HS ?_; case y15_25 => (intro w' hSw; (try dsimp only at hSw); go_simp <;> (with_reducible rfl)))
                    try simp only [Act.put, List.setIfInBounds_toArray, List.set_cons_zero, List.set_cons_succ]
                    refine wpAnyH_done (by kernel_rfl) ?_ _
                    refine NoPanic.normal ?_
                    have HA1 := HS.1
                    have HA2 := HS.2.1
                    have HA3 := HS.2.2.1
                    have HA4 := HS.2.2.2
                    clear HS
                    go_wp2_with fail
                    refine wp_region_noPanic ?_
                    refine wp_region_held_drew (S := (fun w' => (w'.cell? ⟨b1, o1 + k * 2, none⟩ = some (.string x.name) ∧ w'.cell? ⟨b1, o1 + j * 2, none⟩ = some (.string y.name) ∧ w'.cell? ⟨b1, o1 + j * 2 + 1, none⟩ = some (.slice qa y.query.length qc) ∧ Grew wr w'))) (by kernel_rfl) ?h16_S ?h16_r
                    case h16_S => exact ⟨grew_cell (Grew.refl _).drew HA1, grew_cell (Grew.refl _).drew HA2, grew_cell (Grew.refl _).drew HA3, HA4.trans (Grew.refl _).drew⟩
                    case h16_r =>
                      intro HS
                      first
                        | refine sk 0 rfl (by kernel_rfl) rfl HS ?_
                        | (refine tk (v := ?v16_0) 0 rfl (by kernel_rfl) rfl ?y16_0 HS ?_; case y16_0 => (intro w' hSw; (try dsimp only at hSw); go_simp <;> (with_reducible rfl)))
                      try simp only [Act.put, List.setIfInBounds_toArray, List.set_cons_zero, List.set_cons_succ]
                      first
                        | refine sk 1 rfl (by kernel_rfl) rfl HS ?_
                        | (refine tk (v := ?v16_1) 1 rfl (by kernel_rfl) rfl ?y16_1 HS ?_; case y16_1 => (intro w' hSw; (try dsimp only at hSw); go_simp <;> (with_reducible rfl)))
                      try simp only [Act.put, List.setIfInBounds_toArray, List.set_cons_zero, List.set_cons_succ]
                      first
                        | refine sk 2 rfl (by kernel_rfl) rfl HS ?_
                        | (refine tk (v := ?v16_2) 2 rfl (by kernel_rfl) rfl ?y16_2 HS ?_; case y16_2 => (intro w' hSw; (try dsimp only at hSw); go_simp <;> (with_reducible rfl)))
                      try simp only [Act.put, List.setIfInBounds_toArray, List.set_cons_zero, List.set_cons_succ]
                      first
                        | refine sk 3 rfl (by kernel_rfl) rfl HS ?_
                        | (refine tk (v := ?v16_3) 3 rfl (by kernel_rfl) rfl ?y16_3 HS ?_; case y16_3 => (intro w' hSw; (try dsimp only at hSw); go_simp <;> (with_reducible rfl)))
                      try simp only [Act.put, List.setIfInBounds_toArray, List.set_cons_zero, List.set_cons_succ]
                      first
                        | refine sk 4 rfl (by kernel_rfl) rfl HS ?_
                        | (refine tk (v := ?v16_4) 4 rfl (by kernel_rfl) rfl ?y16_4 HS ?_; case y16_4 => (intro w' hSw; (try dsimp only at hSw); go_simp <;> (with_reducible rfl)))
                      try simp only [Act.put, List.setIfInBounds_toArray, List.set_cons_zero, List.set_cons_succ]
                      first
                        | refine sk 5 rfl (by kernel_rfl) rfl HS ?_
                        | (refine tk (v := ?v16_5) 5 rfl (by kernel_rfl) rfl ?y16_5 HS ?_; case y16_5 => (intro w' hSw; (try dsimp only at hSw); go_simp <;> (with_reducible rfl)))
                      try simp only [Act.put, List.setIfInBounds_toArray, List.set_cons_zero, List.set_cons_succ]
                      first
                        | refine sk 6 rfl (by kernel_rfl) rfl HS ?_
                        | (refine tk (v := ?v16_6) 6 rfl (by kernel_rfl) rfl ?y16_6 HS ?_; case y16_6 => (intro w' hSw; (try dsimp only at hSw); go_simp <;> (with_reducible rfl)))
                      try simp only [Act.put, List.setIfInBounds_toArray, List.set_cons_zero, List.set_cons_succ]
                      first
                        | refine sk 7 rfl (by kernel_rfl) rfl HS ?_
                        | (refine tk (v := ?v16_7) 7 rfl (by kernel_rfl) rfl ?y16_7 HS ?_; case y16_7 => (intro w' hSw; (try dsimp only at hSw); go_simp <;> (with_reducible rfl)))
                      try simp only [Act.put, List.setIfInBounds_toArray, List.set_cons_zero, List.set_cons_succ]
                      first
                        | refine sk 8 rfl (by kernel_rfl) rfl HS ?_
                        | (refine tk (v := ?v16_8) 8 rfl (by kernel_rfl) rfl ?y16_8 HS ?_; case y16_8 => (intro w' hSw; (try dsimp only at hSw); go_simp <;> (with_reducible rfl)))
                      try simp only [Act.put, List.setIfInBounds_toArray, List.set_cons_zero, List.set_cons_succ]
                      first
                        | refine sk 10 rfl (by kernel_rfl) rfl HS ?_
                        | (refine tk (v := ?v16_10) 10 rfl (by kernel_rfl) rfl ?y16_10 HS ?_; case y16_10 => (intro w' hSw; (try dsimp only at hSw); go_simp <;> (with_reducible rfl)))
                      try simp only [Act.put, List.setIfInBounds_toArray, List.set_cons_zero, List.set_cons_succ]
                      first
                        | refine sk 11 rfl (by kernel_rfl) rfl HS ?_
                        | (refine tk (v := ?v16_11) 11 rfl (by kernel_rfl) rfl ?y16_11 HS ?_; case y16_11 => (intro w' hSw; (try dsimp only at hSw); go_simp <;> (with_reducible rfl)))
                      try simp only [Act.put, List.setIfInBounds_toArray, List.set_cons_zero, List.set_cons_succ]
                      first
                        | refine sk 12 rfl (by kernel_rfl) rfl HS ?_
                        | (refine tk (v := ?v16_12) 12 rfl (by kernel_rfl) rfl ?y16_12 HS ?_; case y16_12 => (intro w' hSw; (try dsimp only at hSw); go_simp <;> (with_reducible rfl)))
                      try simp only [Act.put, List.setIfInBounds_toArray, List.set_cons_zero, List.set_cons_succ]
                      first
                        | refine sk 13 rfl (by kernel_rfl) rfl HS ?_
                        | (refine tk (v := ?v16_13) 13 rfl (by kernel_rfl) rfl ?y16_13 HS ?_; case y16_13 => (intro w' hSw; (try dsimp only at hSw); go_simp <;> (with_reducible rfl)))
                      try simp only [Act.put, List.setIfInBounds_toArray, List.set_cons_zero, List.set_cons_succ]
                      first
                        | refine sk 14 rfl (by kernel_rfl) rfl HS ?_
                        | (refine tk (v := ?v16_14) 14 rfl (by kernel_rfl) rfl ?y16_14 HS ?_; case y16_14 => (intro w' hSw; (try dsimp only at hSw); go_simp <;> (with_reducible rfl)))
                      try simp only [Act.put, List.setIfInBounds_toArray, List.set_cons_zero, List.set_cons_succ]
                      refine cl 9 rfl (by kernel_rfl) (fun K hK => ?_)
                      go_simp
                      refine hK.out _ _ ?s16_9 ?r16_9
                      case s16_9 => (try dsimp only); exact HS
                      case r16_9 =>
                        clear HS
                        intro HS
                        clear hK K
                        try simp only [Act.put, List.setIfInBounds_toArray, List.set_cons_zero, List.set_cons_succ]
                        refine cl 15 rfl (by kernel_rfl) (fun K hK => ?_)
                        go_simp
                        refine hK.out _ _ ?s16_15 ?r16_15
                        case s16_15 => (try dsimp only); exact HS
                        case r16_15 =>
                          clear HS
                          intro HS
                          clear hK K
                          try simp only [Act.put, List.setIfInBounds_toArray, List.set_cons_zero, List.set_cons_succ]
                          first
                            | refine sk 16 rfl (by kernel_rfl) rfl HS ?_
                            | (refine tk (v := ?v16_16) 16 rfl (by kernel_rfl) rfl ?y16_16 HS ?_; case y16_16 => (intro w' hSw; (try dsimp only at hSw); go_simp <;> (with_reducible rfl)))
                          try simp only [Act.put, List.setIfInBounds_toArray, List.set_cons_zero, List.set_cons_succ]
                          first
                            | refine sk 17 rfl (by kernel_rfl) rfl HS ?_
                            | (refine tk (v := ?v16_17) 17 rfl (by kernel_rfl) rfl ?y16_17 HS ?_; case y16_17 => (intro w' hSw; (try dsimp only at hSw); go_simp <;> (with_reducible rfl)))
                          try simp only [Act.put, List.setIfInBounds_toArray, List.set_cons_zero, List.set_cons_succ]
                          first
                            | refine sk 18 rfl (by kernel_rfl) rfl HS ?_
                            | (refine tk (v := ?v16_18) 18 rfl (by kernel_rfl) rfl ?y16_18 HS ?_; case y16_18 => (intro w' hSw; (try dsimp only at hSw); go_simp <;> (with_reducible rfl)))
                          try simp only [Act.put, List.setIfInBounds_toArray, List.set_cons_zero, List.set_cons_succ]
                          refine wpAnyH_done (by kernel_rfl) ?_ _
                          refine NoPanic.normal ?_
                          go_wp2
                          go_roundw
                          case rel =>
                            refine ⟨j + 1, false, by omega, by go_num, rfl, Lib.hid ?_, hg2.trans HS.2.2.2⟩
                            have h1 := uns_step hany.out hyk.out (HUQ.out false hq)
                            simpa using h1
                          case measure => simp [intOf]; omega
        · obtain rfl : j = n := by omega
          have hP := Lib.hid (show unsP xs x.name = b by unfold unsP; rw [← hany.out, take_all HX.out])
          have c0' := grew_cell hg2 c0
          have hkn : (k : Int) < (j : Int) := by omega
          have hcb : b = true ∨ b = false := by cases b <;> simp
          rcases hcb with rfl | rfl
          · go_wp2_with (at_builtin; refine wpList_append_own _ rfl _ _ 44 rfl w.heap.size 9 i0 (.string ⟨#[]⟩) 1 16 Tryz.underlying44 hi hz0 hz1 hz2 rfl (by decide) _ _ _ rfl ((ownsRow_grew hown.out hg2).alloc _) ⟨_, 0, none⟩ 1 1 [.string x.name] rfl rfl (cell_one_new _ _ _) (fun x hx => by simp at hx; subst hx; rfl) (by unfold maxLen; omega) (by omega) (by have := (hbel2).size; simp; omega) ?_; intro v' w' hown' hgr _)
            go_roundw
            case rel =>
              refine ⟨k + 1, by omega, by go_num, Lib.hid ?_, (hbel2.alloc _).grown hgr (fun g h => (hown.out.lt g h).1)⟩
              rw [namesIf_yes hxk.out hP.out]; simpa using hown'
            case measure => simp [intOf]; omega
          · go_wp2
            go_roundw
            case rel =>
              refine ⟨k + 1, by omega, by go_num, Lib.hid ?_, hbel2⟩
              rw [namesIf_no hxk.out hP.out]; exact ownsRow_grew hown.out hg2
            case measure => simp [intOf]; omega
    · obtain rfl : k = n := by omega
      go_wp2
      go_ret
      refine ⟨_, rfl, ?_, hbel⟩
      have := hown.out
      rw [take_all HX.out] at this
      exact this
set_option maxRecDepth 100000 in
set_option maxHeartbeats 4000000 in
theorem implUnstratifiedDirs (va : Value) (xs : List Dr) (w : World) (ha : RdDs w va xs) (hx : xs.length ≤ 1900000) (hs : ∀ x, x ∈ xs → x.small) (hz : szAll Dr.sz xs ≤ 4000000) :
    Calls Tryz.prog 20 #[va] w fun e w' => ∃ v, e = .returned v ∧ w'.ownsRow w.heap.size 9 1 v (namesIf (unsP xs) xs).length (strs (namesIf (unsP xs) xs)) ∧ Grew w w' := by
  have HD := Lib.hid ha
  have HS0 := Lib.hid hs
  have HZ := Lib.hid hz
  obtain ⟨qs, ⟨a, ca, rfl, hca, hra⟩, hall⟩ := ha
  have HA := Lib.hid hall
  clear hall hs
  have HX0 := Lib.hid hx
  generalize hn : xs.length = n at hx hra
  have HX := Lib.hid hn
  have HD2 := Lib.hid (show RdDs w (.slice a n ca) xs by have := HD.out; rw [hn] at this; exact this)
  clear hn HD
  obtain ⟨i0, hi, hz0, hz1, hz2⟩ := info_parts Tryz.infoString
  go_enter Tryz.func20, Tryz.ntmps20
  go_wp2
  go_loopw [3, 11] (fun v i wr => ∃ k : Nat, k ≤ n ∧ i = .int .i64 k ∧ Hid (wr.ownsRow w.heap.size 9 1 v (namesIf (unsP xs) (xs.take k)).length (strs (namesIf (unsP xs) (xs.take k)))) ∧ Grew w wr) (fun _ i _ => n - (intOf i).toNat)
  case atStart => exact ⟨0, Nat.zero_le _, rfl, Lib.hid (lit_own w 9 1), (Grew.refl _).alloc _⟩
  case round =>
    obtain ⟨k, hk, rfl, hown, hbel⟩ := hrel
    have hnl := namesIf_tk (unsP xs) xs k
    by_cases hlt : k < n
    · obtain ⟨b1, o1, p, rfl, hpk, c0, c1⟩ := (hra.grew hbel).getP2 hlt
      obtain ⟨x, hxk, hxr⟩ := HA.out.get hpk.out
      obtain ⟨pn, pq⟩ := p
      obtain ⟨hxn, hxq⟩ := hxr
      simp only at hxn hxq c0 c1
      subst hxn
      obtain ⟨xa, xc, rfl, hxc, hxr⟩ := hxq
      clear hxr hxc
      obtain ⟨W1, rfl⟩ : ∃ y, y = wr := ⟨_, rfl⟩
      have hgx := (Grew.refl W1).alloc (.cells #[.string x.name, .slice xa x.query.length xc] 39)
      have bx0 : (W1.alloc (.cells #[.string x.name, .slice xa x.query.length xc] 39)).cell? ⟨W1.heap.size, 0, none⟩ = some (.string x.name) := by simp
      go_wp2
      go_loopw [3, 17] (fun v i wr => ∃ j : Nat, j ≤ n ∧ i = .int .i64 j ∧ Hid ((xs.take j).any (unsQ xs x.name) = false) ∧ Hid (wr.ownsRow w.heap.size 9 1 v (namesIf (unsP xs) (xs.take k)).length (strs (namesIf (unsP xs) (xs.take k)))) ∧ Grew (W1.alloc (.cells #[.string x.name, .slice xa x.query.length xc] 39)) wr) (fun _ i _ => n - (intOf i).toNat)
      case atStart => exact ⟨0, Nat.zero_le _, rfl, Lib.hid (by simp), Lib.hid (ownsRow_grew hown.out hgx), Grew.refl _⟩
      case round =>
        obtain ⟨j, hj, rfl, hany, hown2, hg2⟩ := hrel
        have hbel2 := hbel.trans (hgx.trans hg2)
        have e0 := grew_cell hg2 bx0
        by_cases hlj : j < n
        · obtain ⟨b2, o2, p, hab, hpj, d0, d1⟩ := (hra.grew hbel2).getP2 hlj
          cases hab
          obtain ⟨y, hyk, hyr⟩ := HA.out.get hpj.out
          have hys := dir_sz HZ.out hyk.out
          obtain ⟨pn, pq⟩ := p
          obtain ⟨hyn, hyq⟩ := hyr
          simp only at hyn hyq d0 d1
          subst hyn
          have HYQ := Lib.hid hyq
          obtain ⟨qa, qc, rfl, hqc, hqr⟩ := hyq
          clear hqr hqc
          obtain ⟨av, hav⟩ : ∃ v, asksB xs x.name y.name = v := ⟨_, rfl⟩
          obtain ⟨dv, hdv⟩ : ∃ v, hasB (depsL y.query true) x.name = v := ⟨_, rfl⟩
          have HAV := Lib.hid hav
          have HDV := Lib.hid hdv
          have hdl := depsL_le y.query true
          have HUQ := Lib.hid (fun (e : Bool) (he : (y.name.toList == x.name.toList) = e) => show unsQ xs x.name y = ((e || av) && dv) by unfold unsQ; rw [he, hav, hdv])
          clear hav hdv
          have hsym : (x.name.toList == y.name.toList) = (y.name.toList == x.name.toList) := by rw [Bool.eq_iff_iff, beq_iff_eq, beq_iff_eq]; exact ⟨Eq.symm, Eq.symm⟩
          have HSY := Lib.hid hsym
          clear hsym
          have hgy := (Grew.refl wr).alloc (.cells #[.string y.name, .slice qa y.query.length qc] 39)
          have f0 := grew_cell hgy e0
          have y0 : (wr.alloc (.cells #[.string y.name, .slice qa y.query.length qc] 39)).cell? ⟨wr.heap.size, 0, none⟩ = some (.string y.name) := by simp
          have y1 : (wr.alloc (.cells #[.string y.name, .slice qa y.query.length qc] 39)).cell? ⟨wr.heap.size, 1, none⟩ = some (.slice qa y.query.length qc) := by simp
          have hcs : (x.name.toList == y.name.toList) = true ∨ (x.name.toList == y.name.toList) = false := by cases x.name.toList == y.name.toList <;> simp
          have hca2 : av = true ∨ av = false := by cases av <;> simp
          have hcd : dv = true ∨ dv = false := by cases dv <;> simp
          rcases hcd with rfl | rfl
          · rcases hcs with hq | hq
            · have hk0 := hlt
              go_wp2_with fail
              refine wp_region_noPanic ?_
              refine wp_region_held_drew (S := (fun w' => (w'.cell? ⟨W1.heap.size, 0, none⟩ = some (.string x.name) ∧ w'.cell? ⟨wr.heap.size, 0, none⟩ = some (.string y.name) ∧ w'.cell? ⟨wr.heap.size, 1, none⟩ = some (.slice qa y.query.length qc) ∧ Grew (wr.alloc (.cells #[.string y.name, .slice qa y.query.length qc] 39)) w'))) (by kernel_rfl) ?h18_S ?h18_r
              case h18_S => exact ⟨grew_cell (Grew.refl _).drew f0, grew_cell (Grew.refl _).drew y0, grew_cell (Grew.refl _).drew y1, (Grew.refl _).drew⟩
              case h18_r =>
                intro HS
                first
                  | refine sk 0 rfl (by kernel_rfl) rfl HS ?_
                  | (refine tk (v := ?v18_0) 0 rfl (by kernel_rfl) rfl ?y18_0 HS ?_; case y18_0 => (intro w' hSw; (try dsimp only at hSw); go_simp <;> (with_reducible rfl)))
                try simp only [Act.put, List.setIfInBounds_toArray, List.set_cons_zero, List.set_cons_succ]
                first
                  | refine sk 1 rfl (by kernel_rfl) rfl HS ?_
                  | (refine tk (v := ?v18_1) 1 rfl (by kernel_rfl) rfl ?y18_1 HS ?_; case y18_1 => (intro w' hSw; (try dsimp only at hSw); go_simp <;> (with_reducible rfl)))
                try simp only [Act.put, List.setIfInBounds_toArray, List.set_cons_zero, List.set_cons_succ]
                first
                  | refine sk 3 rfl (by kernel_rfl) rfl HS ?_
                  | (refine tk (v := ?v18_3) 3 rfl (by kernel_rfl) rfl ?y18_3 HS ?_; case y18_3 => (intro w' hSw; (try dsimp only at hSw); go_simp <;> (with_reducible rfl)))
                try simp only [Act.put, List.setIfInBounds_toArray, List.set_cons_zero, List.set_cons_succ]
                first
                  | refine sk 4 rfl (by kernel_rfl) rfl HS ?_
                  | (refine tk (v := ?v18_4) 4 rfl (by kernel_rfl) rfl ?y18_4 HS ?_; case y18_4 => (intro w' hSw; (try dsimp only at hSw); go_simp <;> (with_reducible rfl)))
                try simp only [Act.put, List.setIfInBounds_toArray, List.set_cons_zero, List.set_cons_succ]
                refine cl 2 rfl (by kernel_rfl) (fun K hK => ?_)
                go_simp
                go_at_call 74
                refine (implNegativeDeps _ y.query.length y.query _ (HYQ.out.grew (hbel2.trans (hgy.trans HS.2.2.2))) hys.2.1 hys.2.2).mono ?_
                rintro e w3 ⟨v3, rfl, hv3, hb⟩
                have HV3 := Lib.hid (rd_of_own hv3)
                obtain ⟨va3, vc3, rfl⟩ := own_slice hv3
                clear hv3
                refine hK.out _ _ ?s18_2 ?r18_2
                case s18_2 => (try dsimp only); exact ⟨grew_cell hb HS.1, grew_cell hb HS.2.1, grew_cell hb HS.2.2.1, HS.2.2.2.trans hb⟩
                case r18_2 =>
                  clear HS
                  intro HS
                  clear hK K
                  try simp only [Act.put, List.setIfInBounds_toArray, List.set_cons_zero, List.set_cons_succ]
                  refine cl 5 rfl (by kernel_rfl) (fun K hK => ?_)
                  go_simp
                  go_at_call 77
                  refine (slContainsStr _ _ (depsL y.query true) x.name _ HV3.out (by omega)).mono ?_
                  rintro e w4 ⟨he, rfl⟩
                  rw [HDV.out] at he
                  subst he
                  have hb := Grew.refl w3
                  refine hK.out _ _ ?s18_5 ?r18_5
                  case s18_5 => (try dsimp only); exact ⟨grew_cell hb HS.1, grew_cell hb HS.2.1, grew_cell hb HS.2.2.1, HS.2.2.2.trans hb⟩
                  case r18_5 =>
                    clear HS
                    intro HS
                    clear hK K
                    try simp only [Act.put, List.setIfInBounds_toArray, List.set_cons_zero, List.set_cons_succ]
                    first
                      | refine sk 6 rfl (by kernel_rfl) rfl HS ?_
                      | (refine tk (v := ?v18_6) 6 rfl (by kernel_rfl) rfl ?y18_6 HS ?_; case y18_6 => (intro w' hSw; (try dsimp only at hSw); go_simp <;> (with_reducible rfl)))
                    try simp only [Act.put, List.setIfInBounds_toArray, List.set_cons_zero, List.set_cons_succ]
                    first
                      | refine sk 7 rfl (by kernel_rfl) rfl HS ?_
                      | (refine tk (v := ?v18_7) 7 rfl (by kernel_rfl) rfl ?y18_7 HS ?_; case y18_7 => (intro w' hSw; (try dsimp only at hSw); go_simp <;> (with_reducible rfl)))
                    try simp only [Act.put, List.setIfInBounds_toArray, List.set_cons_zero, List.set_cons_succ]
                    first
                      | refine sk 8 rfl (by kernel_rfl) rfl HS ?_
                      | (refine tk (v := ?v18_8) 8 rfl (by kernel_rfl) rfl ?y18_8 HS ?_; case y18_8 => (intro w' hSw; (try dsimp only at hSw); go_simp <;> (with_reducible rfl)))
                    try simp only [Act.put, List.setIfInBounds_toArray, List.set_cons_zero, List.set_cons_succ]
                    first
                      | refine sk 9 rfl (by kernel_rfl) rfl HS ?_
                      | (refine tk (v := ?v18_9) 9 rfl (by kernel_rfl) rfl ?y18_9 HS ?_; case y18_9 => (intro w' hSw; (try dsimp only at hSw); go_simp <;> (with_reducible rfl)))
                    try simp only [Act.put, List.setIfInBounds_toArray, List.set_cons_zero, List.set_cons_succ]
                    first
                      | refine sk 10 rfl (by kernel_rfl) rfl HS ?_
                      | (refine tk (v := ?v18_10) 10 rfl (by kernel_rfl) rfl ?y18_10 HS ?_; case y18_10 => (intro w' hSw; (try dsimp only at hSw); go_simp <;> (with_reducible rfl)))
                    try simp only [Act.put, List.setIfInBounds_toArray, List.set_cons_zero, List.set_cons_succ]
                    first
                      | refine sk 11 rfl (by kernel_rfl) rfl HS ?_
                      | (refine tk (v := ?v18_11) 11 rfl (by kernel_rfl) rfl ?y18_11 HS ?_; case y18_11 => (intro w' hSw; (try dsimp only at hSw); go_simp <;> (with_reducible rfl)))
                    try simp only [Act.put, List.setIfInBounds_toArray, List.set_cons_zero, List.set_cons_succ]
                    first
                      | refine sk 12 rfl (by kernel_rfl) rfl HS ?_
                      | (refine tk (v := ?v18_12) 12 rfl (by kernel_rfl) rfl ?y18_12 HS ?_; case y18_12 => (intro w' hSw; (try dsimp only at hSw); go_simp <;> (with_reducible rfl)))
                    try simp only [Act.put, List.setIfInBounds_toArray, List.set_cons_zero, List.set_cons_succ]
                    first
                      | refine sk 13 rfl (by kernel_rfl) rfl HS ?_
                      | (refine tk (v := ?v18_13) 13 rfl (by kernel_rfl) rfl ?y18_13 HS ?_; case y18_13 => (intro w' hSw; (try dsimp only at hSw); go_simp <;> (with_reducible rfl)))
                    try simp only [Act.put, List.setIfInBounds_toArray, List.set_cons_zero, List.set_cons_succ]
                    first
                      | refine sk 14 rfl (by kernel_rfl) rfl HS ?_
                      | (refine tk (v := ?v18_14) 14 rfl (by kernel_rfl) rfl ?y18_14 HS ?_; case y18_14 => (intro w' hSw; (try dsimp only at hSw); go_simp <;> (with_reducible rfl)))
                    try simp only [Act.put, List.setIfInBounds_toArray, List.set_cons_zero, List.set_cons_succ]
                    first
                      | refine sk 15 rfl (by kernel_rfl) rfl HS ?_
                      | (refine tk (v := ?v18_15) 15 rfl (by kernel_rfl) rfl ?y18_15 HS ?_; case y18_15 => (intro w' hSw; (try dsimp only at hSw); go_simp <;> (with_reducible rfl)))
                    try simp only [Act.put, List.setIfInBounds_toArray, List.set_cons_zero, List.set_cons_succ]
                    first
                      | refine sk 16 rfl (by kernel_rfl) rfl HS ?_
                      | (refine tk (v := ?v18_16) 16 rfl (by kernel_rfl) rfl ?y18_16 HS ?_; case y18_16 => (intro w' hSw; (try dsimp only at hSw); go_simp <;> (with_reducible rfl)))
                    try simp only [Act.put, List.setIfInBounds_toArray, List.set_cons_zero, List.set_cons_succ]
                    first
                      | refine sk 17 rfl (by kernel_rfl) rfl HS ?_
                      | (refine tk (v := ?v18_17) 17 rfl (by kernel_rfl) rfl ?y18_17 HS ?_; case y18_17 => (intro w' hSw; (try dsimp only at hSw); go_simp <;> (with_reducible rfl)))
                    try simp only [Act.put, List.setIfInBounds_toArray, List.set_cons_zero, List.set_cons_succ]
                    refine cl 18 rfl (by kernel_rfl) (fun K hK => ?_)
                    go_simp
                    refine hK.out _ _ ?s18_18 ?r18_18
                    case s18_18 => (try dsimp only); exact HS
                    case r18_18 =>
                      clear HS
                      intro HS
                      clear hK K
                      try simp only [Act.put, List.setIfInBounds_toArray, List.set_cons_zero, List.set_cons_succ]
                      first
                        | refine sk 19 rfl (by kernel_rfl) rfl HS ?_
                        | (refine tk (v := ?v18_19) 19 rfl (by kernel_rfl) rfl ?y18_19 HS ?_; case y18_19 => (intro w' hSw; (try dsimp only at hSw); go_simp <;> (with_reducible rfl)))
                      try simp only [Act.put, List.setIfInBounds_toArray, List.set_cons_zero, List.set_cons_succ]
                      first
                        | refine sk 20 rfl (by kernel_rfl) rfl HS ?_
                        | (refine tk (v := ?v18_20) 20 rfl (by kernel_rfl) rfl ?y18_20 HS ?_; case y18_20 => (intro w' hSw; (try dsimp only at hSw); go_simp <;> (with_reducible rfl)))
                      try simp only [Act.put, List.setIfInBounds_toArray, List.set_cons_zero, List.set_cons_succ]
                      refine wpAnyH_done (by kernel_rfl) ?_ _
                      refine NoPanic.normal ?_
                      have hgz := hgx.trans (hg2.trans (hgy.trans HS.2.2.2))
                      have hu := Lib.hid (show unsQ xs x.name y = true by rw [HUQ.out true (by rw [← HSY.out]; exact hq)]; simp)
                      have hP := Lib.hid (show unsP xs x.name = true by unfold unsP; exact any_yes hyk.out hu.out)
                      have c9 := HS.1
                      go_wp2_with (at_builtin; refine wpList_append_own _ rfl _ _ 44 rfl w.heap.size 9 i0 (.string ⟨#[]⟩) 1 16 Tryz.underlying44 hi hz0 hz1 hz2 rfl (by decide) _ _ _ rfl ((ownsRow_grew hown2.out (hgy.trans HS.2.2.2)).alloc _) ⟨_, 0, none⟩ 1 1 [.string x.name] rfl rfl (cell_one_new _ _ _) (fun x hx => by simp at hx; subst hx; rfl) (by unfold maxLen; omega) (by omega) (by have := (hbel.trans hgz).size; simp; omega) ?_; intro v' w' hown' hgr _)
                      go_roundw
                      case rel =>
                        refine ⟨k + 1, by omega, by go_num, Lib.hid ?_, ((hbel.trans hgz).alloc _).grown hgr (fun g h => (hown2.out.lt g h).1)⟩
                        rw [namesIf_yes hxk.out hP.out]; simpa using hown'
                      case measure => simp [intOf]; omega
            · rcases hca2 with rfl | rfl
              · have hk0 := hlt
                go_wp2_with fail
                refine wp_region_noPanic ?_
                refine wp_region_held_drew (S := (fun w' => (w'.cell? ⟨W1.heap.size, 0, none⟩ = some (.string x.name) ∧ w'.cell? ⟨wr.heap.size, 0, none⟩ = some (.string y.name) ∧ w'.cell? ⟨wr.heap.size, 1, none⟩ = some (.slice qa y.query.length qc) ∧ Grew (wr.alloc (.cells #[.string y.name, .slice qa y.query.length qc] 39)) w'))) (by kernel_rfl) ?h19_S ?h19_r
                case h19_S => exact ⟨grew_cell (Grew.refl _).drew f0, grew_cell (Grew.refl _).drew y0, grew_cell (Grew.refl _).drew y1, (Grew.refl _).drew⟩
                case h19_r =>
                  intro HS
                  first
                    | refine sk 0 rfl (by kernel_rfl) rfl HS ?_
                    | (refine tk (v := ?v19_0) 0 rfl (by kernel_rfl) rfl ?y19_0 HS ?_; case y19_0 => (intro w' hSw; (try dsimp only at hSw); go_simp <;> (with_reducible rfl)))
                  try simp only [Act.put, List.setIfInBounds_toArray, List.set_cons_zero, List.set_cons_succ]
                  first
                    | refine sk 1 rfl (by kernel_rfl) rfl HS ?_
                    | (refine tk (v := ?v19_1) 1 rfl (by kernel_rfl) rfl ?y19_1 HS ?_; case y19_1 => (intro w' hSw; (try dsimp only at hSw); go_simp <;> (with_reducible rfl)))
                  try simp only [Act.put, List.setIfInBounds_toArray, List.set_cons_zero, List.set_cons_succ]
                  first
                    | refine sk 3 rfl (by kernel_rfl) rfl HS ?_
                    | (refine tk (v := ?v19_3) 3 rfl (by kernel_rfl) rfl ?y19_3 HS ?_; case y19_3 => (intro w' hSw; (try dsimp only at hSw); go_simp <;> (with_reducible rfl)))
                  try simp only [Act.put, List.setIfInBounds_toArray, List.set_cons_zero, List.set_cons_succ]
                  first
                    | refine sk 4 rfl (by kernel_rfl) rfl HS ?_
                    | (refine tk (v := ?v19_4) 4 rfl (by kernel_rfl) rfl ?y19_4 HS ?_; case y19_4 => (intro w' hSw; (try dsimp only at hSw); go_simp <;> (with_reducible rfl)))
                  try simp only [Act.put, List.setIfInBounds_toArray, List.set_cons_zero, List.set_cons_succ]
                  refine cl 2 rfl (by kernel_rfl) (fun K hK => ?_)
                  go_simp
                  go_at_call 74
                  refine (implNegativeDeps _ y.query.length y.query _ (HYQ.out.grew (hbel2.trans (hgy.trans HS.2.2.2))) hys.2.1 hys.2.2).mono ?_
                  rintro e w3 ⟨v3, rfl, hv3, hb⟩
                  have HV3 := Lib.hid (rd_of_own hv3)
                  obtain ⟨va3, vc3, rfl⟩ := own_slice hv3
                  clear hv3
                  refine hK.out _ _ ?s19_2 ?r19_2
                  case s19_2 => (try dsimp only); exact ⟨grew_cell hb HS.1, grew_cell hb HS.2.1, grew_cell hb HS.2.2.1, HS.2.2.2.trans hb⟩
                  case r19_2 =>
                    clear HS
                    intro HS
                    clear hK K
                    try simp only [Act.put, List.setIfInBounds_toArray, List.set_cons_zero, List.set_cons_succ]
                    refine cl 5 rfl (by kernel_rfl) (fun K hK => ?_)
                    go_simp
                    go_at_call 77
                    refine (slContainsStr _ _ (depsL y.query true) x.name _ HV3.out (by omega)).mono ?_
                    rintro e w4 ⟨he, rfl⟩
                    rw [HDV.out] at he
                    subst he
                    have hb := Grew.refl w3
                    refine hK.out _ _ ?s19_5 ?r19_5
                    case s19_5 => (try dsimp only); exact ⟨grew_cell hb HS.1, grew_cell hb HS.2.1, grew_cell hb HS.2.2.1, HS.2.2.2.trans hb⟩
                    case r19_5 =>
                      clear HS
                      intro HS
                      clear hK K
                      try simp only [Act.put, List.setIfInBounds_toArray, List.set_cons_zero, List.set_cons_succ]
                      first
                        | refine sk 6 rfl (by kernel_rfl) rfl HS ?_
                        | (refine tk (v := ?v19_6) 6 rfl (by kernel_rfl) rfl ?y19_6 HS ?_; case y19_6 => (intro w' hSw; (try dsimp only at hSw); go_simp <;> (with_reducible rfl)))
                      try simp only [Act.put, List.setIfInBounds_toArray, List.set_cons_zero, List.set_cons_succ]
                      first
                        | refine sk 7 rfl (by kernel_rfl) rfl HS ?_
                        | (refine tk (v := ?v19_7) 7 rfl (by kernel_rfl) rfl ?y19_7 HS ?_; case y19_7 => (intro w' hSw; (try dsimp only at hSw); go_simp <;> (with_reducible rfl)))
                      try simp only [Act.put, List.setIfInBounds_toArray, List.set_cons_zero, List.set_cons_succ]
                      first
                        | refine sk 8 rfl (by kernel_rfl) rfl HS ?_
                        | (refine tk (v := ?v19_8) 8 rfl (by kernel_rfl) rfl ?y19_8 HS ?_; case y19_8 => (intro w' hSw; (try dsimp only at hSw); go_simp <;> (with_reducible rfl)))
                      try simp only [Act.put, List.setIfInBounds_toArray, List.set_cons_zero, List.set_cons_succ]
                      first
                        | refine sk 9 rfl (by kernel_rfl) rfl HS ?_
                        | (refine tk (v := ?v19_9) 9 rfl (by kernel_rfl) rfl ?y19_9 HS ?_; case y19_9 => (intro w' hSw; (try dsimp only at hSw); go_simp <;> (with_reducible rfl)))
                      try simp only [Act.put, List.setIfInBounds_toArray, List.set_cons_zero, List.set_cons_succ]
                      first
                        | refine sk 10 rfl (by kernel_rfl) rfl HS ?_
                        | (refine tk (v := ?v19_10) 10 rfl (by kernel_rfl) rfl ?y19_10 HS ?_; case y19_10 => (intro w' hSw; (try dsimp only at hSw); go_simp <;> (with_reducible rfl)))
                      try simp only [Act.put, List.setIfInBounds_toArray, List.set_cons_zero, List.set_cons_succ]
                      first
                        | refine sk 11 rfl (by kernel_rfl) rfl HS ?_
                        | (refine tk (v := ?v19_11) 11 rfl (by kernel_rfl) rfl ?y19_11 HS ?_; case y19_11 => (intro w' hSw; (try dsimp only at hSw); go_simp <;> (with_reducible rfl)))
                      try simp only [Act.put, List.setIfInBounds_toArray, List.set_cons_zero, List.set_cons_succ]
                      first
                        | refine sk 12 rfl (by kernel_rfl) rfl HS ?_
                        | (refine tk (v := ?v19_12) 12 rfl (by kernel_rfl) rfl ?y19_12 HS ?_; case y19_12 => (intro w' hSw; (try dsimp only at hSw); go_simp <;> (with_reducible rfl)))
                      try simp only [Act.put, List.setIfInBounds_toArray, List.set_cons_zero, List.set_cons_succ]
                      first
                        | refine sk 13 rfl (by kernel_rfl) rfl HS ?_
                        | (refine tk (v := ?v19_13) 13 rfl (by kernel_rfl) rfl ?y19_13 HS ?_; case y19_13 => (intro w' hSw; (try dsimp only at hSw); go_simp <;> (with_reducible rfl)))
                      try simp only [Act.put, List.setIfInBounds_toArray, List.set_cons_zero, List.set_cons_succ]
                      first
                        | refine sk 14 rfl (by kernel_rfl) rfl HS ?_
                        | (refine tk (v := ?v19_14) 14 rfl (by kernel_rfl) rfl ?y19_14 HS ?_; case y19_14 => (intro w' hSw; (try dsimp only at hSw); go_simp <;> (with_reducible rfl)))
                      try simp only [Act.put, List.setIfInBounds_toArray, List.set_cons_zero, List.set_cons_succ]
                      first
                        | refine sk 15 rfl (by kernel_rfl) rfl HS ?_
                        | (refine tk (v := ?v19_15) 15 rfl (by kernel_rfl) rfl ?y19_15 HS ?_; case y19_15 => (intro w' hSw; (try dsimp only at hSw); go_simp <;> (with_reducible rfl)))
                      try simp only [Act.put, List.setIfInBounds_toArray, List.set_cons_zero, List.set_cons_succ]
                      first
                        | refine sk 16 rfl (by kernel_rfl) rfl HS ?_
                        | (refine tk (v := ?v19_16) 16 rfl (by kernel_rfl) rfl ?y19_16 HS ?_; case y19_16 => (intro w' hSw; (try dsimp only at hSw); go_simp <;> (with_reducible rfl)))
                      try simp only [Act.put, List.setIfInBounds_toArray, List.set_cons_zero, List.set_cons_succ]
                      first
                        | refine sk 17 rfl (by kernel_rfl) rfl HS ?_
                        | (refine tk (v := ?v19_17) 17 rfl (by kernel_rfl) rfl ?y19_17 HS ?_; case y19_17 => (intro w' hSw; (try dsimp only at hSw); go_simp <;> (with_reducible rfl)))
                      try simp only [Act.put, List.setIfInBounds_toArray, List.set_cons_zero, List.set_cons_succ]
                      refine cl 18 rfl (by kernel_rfl) (fun K hK => ?_)
                      go_simp
                      go_at_call 78
                      refine (implDependsOn _ xs x.name y.name _ (HD2.out.grew (hbel2.trans (hgy.trans HS.2.2.2))) HX0.out HS0.out).mono ?_
                      rintro e w5 ⟨he, hb⟩
                      rw [HAV.out] at he
                      subst he
                      refine hK.out _ _ ?s19_18 ?r19_18
                      case s19_18 => (try dsimp only); exact ⟨grew_cell hb HS.1, grew_cell hb HS.2.1, grew_cell hb HS.2.2.1, HS.2.2.2.trans hb⟩
                      case r19_18 =>
                        clear HS
                        intro HS
                        clear hK K
                        try simp only [Act.put, List.setIfInBounds_toArray, List.set_cons_zero, List.set_cons_succ]
                        first
                          | refine sk 19 rfl (by kernel_rfl) rfl HS ?_
                          | (refine tk (v := ?v19_19) 19 rfl (by kernel_rfl) rfl ?y19_19 HS ?_; case y19_19 => (intro w' hSw; (try dsimp only at hSw); go_simp <;> (with_reducible rfl)))
                        try simp only [Act.put, List.setIfInBounds_toArray, List.set_cons_zero, List.set_cons_succ]
                        first
                          | refine sk 20 rfl (by kernel_rfl) rfl HS ?_
                          | (refine tk (v := ?v19_20) 20 rfl (by kernel_rfl) rfl ?y19_20 HS ?_; case y19_20 => (intro w' hSw; (try dsimp only at hSw); go_simp <;> (with_reducible rfl)))
                        try simp only [Act.put, List.setIfInBounds_toArray, List.set_cons_zero, List.set_cons_succ]
                        refine wpAnyH_done (by kernel_rfl) ?_ _
                        refine NoPanic.normal ?_
                        have hgz := hgx.trans (hg2.trans (hgy.trans HS.2.2.2))
                        have hu := Lib.hid (show unsQ xs x.name y = true by rw [HUQ.out false (by rw [← HSY.out]; exact hq)]; simp)
                        have hP := Lib.hid (show unsP xs x.name = true by unfold unsP; exact any_yes hyk.out hu.out)
                        have c9 := HS.1
                        go_wp2_with (at_builtin; refine wpList_append_own _ rfl _ _ 44 rfl w.heap.size 9 i0 (.string ⟨#[]⟩) 1 16 Tryz.underlying44 hi hz0 hz1 hz2 rfl (by decide) _ _ _ rfl ((ownsRow_grew hown2.out (hgy.trans HS.2.2.2)).alloc _) ⟨_, 0, none⟩ 1 1 [.string x.name] rfl rfl (cell_one_new _ _ _) (fun x hx => by simp at hx; subst hx; rfl) (by unfold maxLen; omega) (by omega) (by have := (hbel.trans hgz).size; simp; omega) ?_; intro v' w' hown' hgr _)
                        go_roundw
                        case rel =>
                          refine ⟨k + 1, by omega, by go_num, Lib.hid ?_, ((hbel.trans hgz).alloc _).grown hgr (fun g h => (hown2.out.lt g h).1)⟩
                          rw [namesIf_yes hxk.out hP.out]; simpa using hown'
                        case measure => simp [intOf]; omega
              · have hk0 := hlt
                go_wp2_with fail
                refine wp_region_noPanic ?_
                refine wp_region_held_drew (S := (fun w' => (w'.cell? ⟨W1.heap.size, 0, none⟩ = some (.string x.name) ∧ w'.cell? ⟨wr.heap.size, 0, none⟩ = some (.string y.name) ∧ w'.cell? ⟨wr.heap.size, 1, none⟩ = some (.slice qa y.query.length qc) ∧ Grew (wr.alloc (.cells #[.string y.name, .slice qa y.query.length qc] 39)) w'))) (by kernel_rfl) ?h20_S ?h20_r
                case h20_S => exact ⟨grew_cell (Grew.refl _).drew f0, grew_cell (Grew.refl _).drew y0, grew_cell (Grew.refl _).drew y1, (Grew.refl _).drew⟩
                case h20_r =>
                  intro HS
                  first
                    | refine sk 0 rfl (by kernel_rfl) rfl HS ?_
                    | (refine tk (v := ?v20_0) 0 rfl (by kernel_rfl) rfl ?y20_0 HS ?_; case y20_0 => (intro w' hSw; (try dsimp only at hSw); go_simp <;> (with_reducible rfl)))
                  try simp only [Act.put, List.setIfInBounds_toArray, List.set_cons_zero, List.set_cons_succ]
                  first
                    | refine sk 1 rfl (by kernel_rfl) rfl HS ?_
                    | (refine tk (v := ?v20_1) 1 rfl (by kernel_rfl) rfl ?y20_1 HS ?_; case y20_1 => (intro w' hSw; (try dsimp only at hSw); go_simp <;> (with_reducible rfl)))
                  try simp only [Act.put, List.setIfInBounds_toArray, List.set_cons_zero, List.set_cons_succ]
                  first
                    | refine sk 3 rfl (by kernel_rfl) rfl HS ?_
                    | (refine tk (v := ?v20_3) 3 rfl (by kernel_rfl) rfl ?y20_3 HS ?_; case y20_3 => (intro w' hSw; (try dsimp only at hSw); go_simp <;> (with_reducible rfl)))
                  try simp only [Act.put, List.setIfInBounds_toArray, List.set_cons_zero, List.set_cons_succ]
                  first
                    | refine sk 4 rfl (by kernel_rfl) rfl HS ?_
                    | (refine tk (v := ?v20_4) 4 rfl (by kernel_rfl) rfl ?y20_4 HS ?_; case y20_4 => (intro w' hSw; (try dsimp only at hSw); go_simp <;> (with_reducible rfl)))
                  try simp only [Act.put, List.setIfInBounds_toArray, List.set_cons_zero, List.set_cons_succ]
                  refine cl 2 rfl (by kernel_rfl) (fun K hK => ?_)
                  go_simp
                  go_at_call 74
                  refine (implNegativeDeps _ y.query.length y.query _ (HYQ.out.grew (hbel2.trans (hgy.trans HS.2.2.2))) hys.2.1 hys.2.2).mono ?_
                  rintro e w3 ⟨v3, rfl, hv3, hb⟩
                  have HV3 := Lib.hid (rd_of_own hv3)
                  obtain ⟨va3, vc3, rfl⟩ := own_slice hv3
                  clear hv3
                  refine hK.out _ _ ?s20_2 ?r20_2
                  case s20_2 => (try dsimp only); exact ⟨grew_cell hb HS.1, grew_cell hb HS.2.1, grew_cell hb HS.2.2.1, HS.2.2.2.trans hb⟩
                  case r20_2 =>
                    clear HS
                    intro HS
                    clear hK K
                    try simp only [Act.put, List.setIfInBounds_toArray, List.set_cons_zero, List.set_cons_succ]
                    refine cl 5 rfl (by kernel_rfl) (fun K hK => ?_)
                    go_simp
                    go_at_call 77
                    refine (slContainsStr _ _ (depsL y.query true) x.name _ HV3.out (by omega)).mono ?_
                    rintro e w4 ⟨he, rfl⟩
                    rw [HDV.out] at he
                    subst he
                    have hb := Grew.refl w3
                    refine hK.out _ _ ?s20_5 ?r20_5
                    case s20_5 => (try dsimp only); exact ⟨grew_cell hb HS.1, grew_cell hb HS.2.1, grew_cell hb HS.2.2.1, HS.2.2.2.trans hb⟩
                    case r20_5 =>
                      clear HS
                      intro HS
                      clear hK K
                      try simp only [Act.put, List.setIfInBounds_toArray, List.set_cons_zero, List.set_cons_succ]
                      first
                        | refine sk 6 rfl (by kernel_rfl) rfl HS ?_
                        | (refine tk (v := ?v20_6) 6 rfl (by kernel_rfl) rfl ?y20_6 HS ?_; case y20_6 => (intro w' hSw; (try dsimp only at hSw); go_simp <;> (with_reducible rfl)))
                      try simp only [Act.put, List.setIfInBounds_toArray, List.set_cons_zero, List.set_cons_succ]
                      first
                        | refine sk 7 rfl (by kernel_rfl) rfl HS ?_
                        | (refine tk (v := ?v20_7) 7 rfl (by kernel_rfl) rfl ?y20_7 HS ?_; case y20_7 => (intro w' hSw; (try dsimp only at hSw); go_simp <;> (with_reducible rfl)))
                      try simp only [Act.put, List.setIfInBounds_toArray, List.set_cons_zero, List.set_cons_succ]
                      first
                        | refine sk 8 rfl (by kernel_rfl) rfl HS ?_
                        | (refine tk (v := ?v20_8) 8 rfl (by kernel_rfl) rfl ?y20_8 HS ?_; case y20_8 => (intro w' hSw; (try dsimp only at hSw); go_simp <;> (with_reducible rfl)))
                      try simp only [Act.put, List.setIfInBounds_toArray, List.set_cons_zero, List.set_cons_succ]
                      first
                        | refine sk 9 rfl (by kernel_rfl) rfl HS ?_
                        | (refine tk (v := ?v20_9) 9 rfl (by kernel_rfl) rfl ?y20_9 HS ?_; case y20_9 => (intro w' hSw; (try dsimp only at hSw); go_simp <;> (with_reducible rfl)))
                      try simp only [Act.put, List.setIfInBounds_toArray, List.set_cons_zero, List.set_cons_succ]
                      first
                        | refine sk 10 rfl (by kernel_rfl) rfl HS ?_
                        | (refine tk (v := ?v20_10) 10 rfl (by kernel_rfl) rfl ?y20_10 HS ?_; case y20_10 => (intro w' hSw; (try dsimp only at hSw); go_simp <;> (with_reducible rfl)))
                      try simp only [Act.put, List.setIfInBounds_toArray, List.set_cons_zero, List.set_cons_succ]
                      first
                        | refine sk 11 rfl (by kernel_rfl) rfl HS ?_
                        | (refine tk (v := ?v20_11) 11 rfl (by kernel_rfl) rfl ?y20_11 HS ?_; case y20_11 => (intro w' hSw; (try dsimp only at hSw); go_simp <;> (with_reducible rfl)))
                      try simp only [Act.put, List.setIfInBounds_toArray, List.set_cons_zero, List.set_cons_succ]
                      first
                        | refine sk 12 rfl (by kernel_rfl) rfl HS ?_
                        | (refine tk (v := ?v20_12) 12 rfl (by kernel_rfl) rfl ?y20_12 HS ?_; case y20_12 => (intro w' hSw; (try dsimp only at hSw); go_simp <;> (with_reducible rfl)))
                      try simp only [Act.put, List.setIfInBounds_toArray, List.set_cons_zero, List.set_cons_succ]
                      first
                        | refine sk 13 rfl (by kernel_rfl) rfl HS ?_
                        | (refine tk (v := ?v20_13) 13 rfl (by kernel_rfl) rfl ?y20_13 HS ?_; case y20_13 => (intro w' hSw; (try dsimp only at hSw); go_simp <;> (with_reducible rfl)))
                      try simp only [Act.put, List.setIfInBounds_toArray, List.set_cons_zero, List.set_cons_succ]
                      first
                        | refine sk 14 rfl (by kernel_rfl) rfl HS ?_
                        | (refine tk (v := ?v20_14) 14 rfl (by kernel_rfl) rfl ?y20_14 HS ?_; case y20_14 => (intro w' hSw; (try dsimp only at hSw); go_simp <;> (with_reducible rfl)))
                      try simp only [Act.put, List.setIfInBounds_toArray, List.set_cons_zero, List.set_cons_succ]
                      first
                        | refine sk 15 rfl (by kernel_rfl) rfl HS ?_
                        | (refine tk (v := ?v20_15) 15 rfl (by kernel_rfl) rfl ?y20_15 HS ?_; case y20_15 => (intro w' hSw; (try dsimp only at hSw); go_simp <;> (with_reducible rfl)))
                      try simp only [Act.put, List.setIfInBounds_toArray, List.set_cons_zero, List.set_cons_succ]
                      first
                        | refine sk 16 rfl (by kernel_rfl) rfl HS ?_
                        | (refine tk (v := ?v20_16) 16 rfl (by kernel_rfl) rfl ?y20_16 HS ?_; case y20_16 => (intro w' hSw; (try dsimp only at hSw); go_simp <;> (with_reducible rfl)))
                      try simp only [Act.put, List.setIfInBounds_toArray, List.set_cons_zero, List.set_cons_succ]
                      first
                        | refine sk 17 rfl (by kernel_rfl) rfl HS ?_
                        | (refine tk (v := ?v20_17) 17 rfl (by kernel_rfl) rfl ?y20_17 HS ?_; case y20_17 => (intro w' hSw; (try dsimp only at hSw); go_simp <;> (with_reducible rfl)))
                      try simp only [Act.put, List.setIfInBounds_toArray, List.set_cons_zero, List.set_cons_succ]
                      refine cl 18 rfl (by kernel_rfl) (fun K hK => ?_)
                      go_simp
                      go_at_call 78
                      refine (implDependsOn _ xs x.name y.name _ (HD2.out.grew (hbel2.trans (hgy.trans HS.2.2.2))) HX0.out HS0.out).mono ?_
                      rintro e w5 ⟨he, hb⟩
                      rw [HAV.out] at he
                      subst he
                      refine hK.out _ _ ?s20_18 ?r20_18
                      case s20_18 => (try dsimp only); exact ⟨grew_cell hb HS.1, grew_cell hb HS.2.1, grew_cell hb HS.2.2.1, HS.2.2.2.trans hb⟩
                      case r20_18 =>
                        clear HS
                        intro HS
                        clear hK K
                        try simp only [Act.put, List.setIfInBounds_toArray, List.set_cons_zero, List.set_cons_succ]
                        first
                          | refine sk 19 rfl (by kernel_rfl) rfl HS ?_
                          | (refine tk (v := ?v20_19) 19 rfl (by kernel_rfl) rfl ?y20_19 HS ?_; case y20_19 => (intro w' hSw; (try dsimp only at hSw); go_simp <;> (with_reducible rfl)))
                        try simp only [Act.put, List.setIfInBounds_toArray, List.set_cons_zero, List.set_cons_succ]
                        first
                          | refine sk 20 rfl (by kernel_rfl) rfl HS ?_
                          | (refine tk (v := ?v20_20) 20 rfl (by kernel_rfl) rfl ?y20_20 HS ?_; case y20_20 => (intro w' hSw; (try dsimp only at hSw); go_simp <;> (with_reducible rfl)))
                        try simp only [Act.put, List.setIfInBounds_toArray, List.set_cons_zero, List.set_cons_succ]
                        refine wpAnyH_done (by kernel_rfl) ?_ _
                        refine NoPanic.normal ?_
                        have hgz := hgx.trans (hg2.trans (hgy.trans HS.2.2.2))
                        have hu := Lib.hid (show unsQ xs x.name y = false by rw [HUQ.out false (by rw [← HSY.out]; exact hq)]; simp)
                        go_wp2
                        go_roundw
                        case rel =>
                          refine ⟨j + 1, by omega, by go_num, Lib.hid ?_, Lib.hid (ownsRow_grew hown2.out (hgy.trans HS.2.2.2)), hg2.trans (hgy.trans HS.2.2.2)⟩
                          have h1 := uns_step hany.out hyk.out hu.out
                          simpa using h1
                        case measure => simp [intOf]; omega
          · have hk0 := hlt
            go_wp2_with fail
            refine wp_region_noPanic ?_
            refine wp_region_held_drew (S := (fun w' => (w'.cell? ⟨W1.heap.size, 0, none⟩ = some (.string x.name) ∧ w'.cell? ⟨wr.heap.size, 0, none⟩ = some (.string y.name) ∧ w'.cell? ⟨wr.heap.size, 1, none⟩ = some (.slice qa y.query.length qc) ∧ Grew (wr.alloc (.cells #[.string y.name, .slice qa y.query.length qc] 39)) w'))) (by kernel_rfl) ?h17_S ?h17_r
            case h17_S => exact ⟨grew_cell (Grew.refl _).drew f0, grew_cell (Grew.refl _).drew y0, grew_cell (Grew.refl _).drew y1, (Grew.refl _).drew⟩
            case h17_r =>
              intro HS
              first
                | refine sk 0 rfl (by kernel_rfl) rfl HS ?_
                | (refine tk (v := ?v17_0) 0 rfl (by kernel_rfl) rfl ?y17_0 HS ?_; case y17_0 => (intro w' hSw; (try dsimp only at hSw); go_simp <;> (with_reducible rfl)))
              try simp only [Act.put, List.setIfInBounds_toArray, List.set_cons_zero, List.set_cons_succ]
              first
                | refine sk 1 rfl (by kernel_rfl) rfl HS ?_
                | (refine tk (v := ?v17_1) 1 rfl (by kernel_rfl) rfl ?y17_1 HS ?_; case y17_1 => (intro w' hSw; (try dsimp only at hSw); go_simp <;> (with_reducible rfl)))
              try simp only [Act.put, List.setIfInBounds_toArray, List.set_cons_zero, List.set_cons_succ]
              first
                | refine sk 3 rfl (by kernel_rfl) rfl HS ?_
                | (refine tk (v := ?v17_3) 3 rfl (by kernel_rfl) rfl ?y17_3 HS ?_; case y17_3 => (intro w' hSw; (try dsimp only at hSw); go_simp <;> (with_reducible rfl)))
              try simp only [Act.put, List.setIfInBounds_toArray, List.set_cons_zero, List.set_cons_succ]
              first
                | refine sk 4 rfl (by kernel_rfl) rfl HS ?_
                | (refine tk (v := ?v17_4) 4 rfl (by kernel_rfl) rfl ?y17_4 HS ?_; case y17_4 => (intro w' hSw; (try dsimp only at hSw); go_simp <;> (with_reducible rfl)))
              try simp only [Act.put, List.setIfInBounds_toArray, List.set_cons_zero, List.set_cons_succ]
              refine cl 2 rfl (by kernel_rfl) (fun K hK => ?_)
              go_simp
              go_at_call 74
              refine (implNegativeDeps _ y.query.length y.query _ (HYQ.out.grew (hbel2.trans (hgy.trans HS.2.2.2))) hys.2.1 hys.2.2).mono ?_
              rintro e w3 ⟨v3, rfl, hv3, hb⟩
              have HV3 := Lib.hid (rd_of_own hv3)
              obtain ⟨va3, vc3, rfl⟩ := own_slice hv3
              clear hv3
              refine hK.out _ _ ?s17_2 ?r17_2
              case s17_2 => (try dsimp only); exact ⟨grew_cell hb HS.1, grew_cell hb HS.2.1, grew_cell hb HS.2.2.1, HS.2.2.2.trans hb⟩
              case r17_2 =>
                clear HS
                intro HS
                clear hK K
                try simp only [Act.put, List.setIfInBounds_toArray, List.set_cons_zero, List.set_cons_succ]
                refine cl 5 rfl (by kernel_rfl) (fun K hK => ?_)
                go_simp
                go_at_call 77
                refine (slContainsStr _ _ (depsL y.query true) x.name _ HV3.out (by omega)).mono ?_
                rintro e w4 ⟨he, rfl⟩
                rw [HDV.out] at he
                subst he
                have hb := Grew.refl w3
                refine hK.out _ _ ?s17_5 ?r17_5
                case s17_5 => (try dsimp only); exact ⟨grew_cell hb HS.1, grew_cell hb HS.2.1, grew_cell hb HS.2.2.1, HS.2.2.2.trans hb⟩
                case r17_5 =>
                  clear HS
                  intro HS
                  clear hK K
                  try simp only [Act.put, List.setIfInBounds_toArray, List.set_cons_zero, List.set_cons_succ]
                  first
                    | refine sk 6 rfl (by kernel_rfl) rfl HS ?_
                    | (refine tk (v := ?v17_6) 6 rfl (by kernel_rfl) rfl ?y17_6 HS ?_; case y17_6 => (intro w' hSw; (try dsimp only at hSw); go_simp <;> (with_reducible rfl)))
                  try simp only [Act.put, List.setIfInBounds_toArray, List.set_cons_zero, List.set_cons_succ]
                  first
                    | refine sk 7 rfl (by kernel_rfl) rfl HS ?_
                    | (refine tk (v := ?v17_7) 7 rfl (by kernel_rfl) rfl ?y17_7 HS ?_; case y17_7 => (intro w' hSw; (try dsimp only at hSw); go_simp <;> (with_reducible rfl)))
                  try simp only [Act.put, List.setIfInBounds_toArray, List.set_cons_zero, List.set_cons_succ]
                  first
                    | refine sk 8 rfl (by kernel_rfl) rfl HS ?_
                    | (refine tk (v := ?v17_8) 8 rfl (by kernel_rfl) rfl ?y17_8 HS ?_; case y17_8 => (intro w' hSw; (try dsimp only at hSw); go_simp <;> (with_reducible rfl)))
                  try simp only [Act.put, List.setIfInBounds_toArray, List.set_cons_zero, List.set_cons_succ]
                  first
                    | refine sk 9 rfl (by kernel_rfl) rfl HS ?_
                    | (refine tk (v := ?v17_9) 9 rfl (by kernel_rfl) rfl ?y17_9 HS ?_; case y17_9 => (intro w' hSw; (try dsimp only at hSw); go_simp <;> (with_reducible rfl)))
                  try simp only [Act.put, List.setIfInBounds_toArray, List.set_cons_zero, List.set_cons_succ]
                  first
                    | refine sk 10 rfl (by kernel_rfl) rfl HS ?_
                    | (refine tk (v := ?v17_10) 10 rfl (by kernel_rfl) rfl ?y17_10 HS ?_; case y17_10 => (intro w' hSw; (try dsimp only at hSw); go_simp <;> (with_reducible rfl)))
                  try simp only [Act.put, List.setIfInBounds_toArray, List.set_cons_zero, List.set_cons_succ]
                  first
                    | refine sk 11 rfl (by kernel_rfl) rfl HS ?_
                    | (refine tk (v := ?v17_11) 11 rfl (by kernel_rfl) rfl ?y17_11 HS ?_; case y17_11 => (intro w' hSw; (try dsimp only at hSw); go_simp <;> (with_reducible rfl)))
                  try simp only [Act.put, List.setIfInBounds_toArray, List.set_cons_zero, List.set_cons_succ]
                  first
                    | refine sk 12 rfl (by kernel_rfl) rfl HS ?_
                    | (refine tk (v := ?v17_12) 12 rfl (by kernel_rfl) rfl ?y17_12 HS ?_; case y17_12 => (intro w' hSw; (try dsimp only at hSw); go_simp <;> (with_reducible rfl)))
                  try simp only [Act.put, List.setIfInBounds_toArray, List.set_cons_zero, List.set_cons_succ]
                  first
                    | refine sk 13 rfl (by kernel_rfl) rfl HS ?_
                    | (refine tk (v := ?v17_13) 13 rfl (by kernel_rfl) rfl ?y17_13 HS ?_; case y17_13 => (intro w' hSw; (try dsimp only at hSw); go_simp <;> (with_reducible rfl)))
                  try simp only [Act.put, List.setIfInBounds_toArray, List.set_cons_zero, List.set_cons_succ]
                  first
                    | refine sk 14 rfl (by kernel_rfl) rfl HS ?_
                    | (refine tk (v := ?v17_14) 14 rfl (by kernel_rfl) rfl ?y17_14 HS ?_; case y17_14 => (intro w' hSw; (try dsimp only at hSw); go_simp <;> (with_reducible rfl)))
                  try simp only [Act.put, List.setIfInBounds_toArray, List.set_cons_zero, List.set_cons_succ]
                  first
                    | refine sk 15 rfl (by kernel_rfl) rfl HS ?_
                    | (refine tk (v := ?v17_15) 15 rfl (by kernel_rfl) rfl ?y17_15 HS ?_; case y17_15 => (intro w' hSw; (try dsimp only at hSw); go_simp <;> (with_reducible rfl)))
                  try simp only [Act.put, List.setIfInBounds_toArray, List.set_cons_zero, List.set_cons_succ]
                  first
                    | refine sk 16 rfl (by kernel_rfl) rfl HS ?_
                    | (refine tk (v := ?v17_16) 16 rfl (by kernel_rfl) rfl ?y17_16 HS ?_; case y17_16 => (intro w' hSw; (try dsimp only at hSw); go_simp <;> (with_reducible rfl)))
                  try simp only [Act.put, List.setIfInBounds_toArray, List.set_cons_zero, List.set_cons_succ]
                  first
                    | refine sk 17 rfl (by kernel_rfl) rfl HS ?_
                    | (refine tk (v := ?v17_17) 17 rfl (by kernel_rfl) rfl ?y17_17 HS ?_; case y17_17 => (intro w' hSw; (try dsimp only at hSw); go_simp <;> (with_reducible rfl)))
                  try simp only [Act.put, List.setIfInBounds_toArray, List.set_cons_zero, List.set_cons_succ]
                  refine cl 18 rfl (by kernel_rfl) (fun K hK => ?_)
                  go_simp
                  refine hK.out _ _ ?s17_18 ?r17_18
                  case s17_18 => (try dsimp only); exact HS
                  case r17_18 =>
                    clear HS
                    intro HS
                    clear hK K
                    try simp only [Act.put, List.setIfInBounds_toArray, List.set_cons_zero, List.set_cons_succ]
                    first
                      | refine sk 19 rfl (by kernel_rfl) rfl HS ?_
                      | (refine tk (v := ?v17_19) 19 rfl (by kernel_rfl) rfl ?y17_19 HS ?_; case y17_19 => (intro w' hSw; (try dsimp only at hSw); go_simp <;> (with_reducible rfl)))
                    try simp only [Act.put, List.setIfInBounds_toArray, List.set_cons_zero, List.set_cons_succ]
                    first
                      | refine sk 20 rfl (by kernel_rfl) rfl HS ?_
                      | (refine tk (v := ?v17_20) 20 rfl (by kernel_rfl) rfl ?y17_20 HS ?_; case y17_20 => (intro w' hSw; (try dsimp only at hSw); go_simp <;> (with_reducible rfl)))
                    try simp only [Act.put, List.setIfInBounds_toArray, List.set_cons_zero, List.set_cons_succ]
                    refine wpAnyH_done (by kernel_rfl) ?_ _
                    refine NoPanic.normal ?_
                    have hgz := hgx.trans (hg2.trans (hgy.trans HS.2.2.2))
                    have hu := Lib.hid (show unsQ xs x.name y = false by rw [HUQ.out _ rfl]; simp)
                    go_wp2
                    go_roundw
                    case rel =>
                      refine ⟨j + 1, by omega, by go_num, Lib.hid ?_, Lib.hid (ownsRow_grew hown2.out (hgy.trans HS.2.2.2)), hg2.trans (hgy.trans HS.2.2.2)⟩
                      have h1 := uns_step hany.out hyk.out hu.out
                      simpa using h1
                    case measure => simp [intOf]; omega
        · obtain rfl : j = n := by omega
          have hP := Lib.hid (show unsP xs x.name = false by unfold unsP; rw [← hany.out, take_all HX.out])
          go_wp2
          go_roundw
          case rel =>
            refine ⟨k + 1, by omega, by go_num, Lib.hid ?_, hbel2⟩
            rw [namesIf_no hxk.out hP.out]; exact hown2.out
          case measure => simp [intOf]; omega
    · obtain rfl : k = n := by omega
      go_wp2
      go_ret
      refine ⟨_, rfl, ?_, hbel⟩
      have := hown.out
      rw [take_all HX.out] at this
      exact this
end Go.Proofs.YtgekgokkbakcmaaGreat
