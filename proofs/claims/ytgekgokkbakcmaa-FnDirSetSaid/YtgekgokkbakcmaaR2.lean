/- Contracts of copyDirs and of l11Copy. -/
import Derived.Test.YtgekgokkbakcmaaN5
import Derived.Test.YtgekgokkbakcmaaN3
namespace Go.Proofs.Ytgekgokkbakcmaa
open Go.RowKit
set_option linter.unusedVariables false
/-- The rows of a growing list of directories. -/
def GrowD (w : World) (base : Nat) (v : Value) (ds : List Dr) : Prop :=
  ∃ ps : List P2, w.ownsRow base 49 2 v ds.length (rows P2.c ps) ∧ All2 (Dr.O w base w.heap.size) ds ps ∧ Dis (ps.flatMap Dr.subs)
theorem GrowD.own {w : World} {base : Nat} {v : Value} {ds : List Dr} (h : GrowD w base v ds) : OwnDrs w base w.heap.size v ds := by
  obtain ⟨ps, h1, h2, h3⟩ := h
  refine ⟨ps, own_of h1, h2, h3.cons ?_⟩
  intro u b hu hv
  obtain ⟨p, hp, hup⟩ := List.mem_flatMap.1 hu
  obtain ⟨i, hi', rfl⟩ := List.getElem_of_mem hp
  obtain ⟨x, hx, _, hr1⟩ := h2.get (List.getElem?_eq_getElem hi')
  simp only [Dr.subs, List.mem_cons, List.not_mem_nil, or_false] at hup
  subst hup
  exact own_type h1 hr1.1 (by decide) hv
theorem GrowD.grew {w : World} {base : Nat} {v : Value} {ds : List Dr} (h : GrowD w base v ds) {w' : World} (hg : Grew w w') : GrowD w' base v ds := by
  obtain ⟨ps, h1, h2, h3⟩ := h
  exact ⟨ps, ownsRow_grew h1 hg, h2.mono fun x p h => (h.grew hg).mono (Nat.le_refl _) hg.size, h3⟩
theorem GrowD.lit (w : World) : GrowD (w.alloc (.cells #[] 49)) w.heap.size (.slice (some ⟨w.heap.size, 0, none⟩) 0 0) [] :=
  ⟨[], lit_own w _ 2, All2.nil, Dis.nil⟩
theorem GrowD.snoc {w w' : World} {base lo2 : Nat} {v v' : Value} {ds : List Dr} {d : Dr} {ps : List P2} {p : P2} (h1 : w.ownsRow base 49 2 v ds.length (rows P2.c ps)) (h2 : All2 (Dr.O w base lo2) ds ps) (h3 : Dis (ps.flatMap Dr.subs))
    (hp : Dr.O w lo2 w.heap.size d p) (hb : base ≤ lo2) (hl : lo2 ≤ w.heap.size)
    (hown : w'.ownsRow base 49 2 v' (ds.length + 1) (rows P2.c ps ++ P2.c p)) (hg : w.grownBy w' v.ownBlock) (hs : w.heap.size ≤ w'.heap.size) : GrowD w' base v' (ds ++ [d]) := by
  refine ⟨ps ++ [p], ?_, ?_, ?_⟩
  · rw [List.length_append, rows_append]; simpa [rows] using hown
  · refine All2.snoc (h2.mono fun x q hr => ?_) ?_
    · exact ⟨hr.1, (own_grown hr.2 h1 (by decide) hg).mono (Nat.le_refl _) (Nat.le_trans hl hs)⟩
    · exact ⟨hp.1, (own_grown hp.2 h1 (by decide) hg).mono hb hs⟩
  · rw [List.flatMap_append]
    refine Dis.app h3 (by simpa [Dr.subs] using Dis.one p.q) ?_
    intro u v b hu hv hub hvb
    have h4 := All2.blk (subs := Dr.subs) (fun x p v b h hv hb => Dr.O.blk h hv hb) h2 hu hub
    have h5 := hp.blk (by simpa using hv) hvb
    omega
theorem news2 {w : World} {a b : Value} {e : TypeId} {g : Nat} (hg : g = w.heap.size) : ∀ j u, [a, b][j]? = some u → (w.alloc (.cells #[a, b] e)).cell? ((⟨g, 0, none⟩ : Addr).add j) = some u := by
  subst hg
  intro j u hu
  match j with
  | 0 => simp at hu; subst hu; simp [Addr.add]
  | 1 => simp at hu; subst hu; simp [Addr.add]
  | j + 2 => simp at hu
set_option maxRecDepth 100000 in
set_option maxHeartbeats 1000000 in
theorem implCopyDirs (va : Value) (xs : List Dr) (w : World) (ha : RdDs w va xs) (hx : xs.length ≤ 4000000) (hs : ∀ x, x ∈ xs → x.small) :
    Calls Try.prog 69 #[va] w fun e w' => ∃ v, e = .returned v ∧ GrowD w' w.heap.size v xs ∧ Grew w w' := by
  obtain ⟨qs, ⟨a, ca, rfl, hca, hra⟩, hall⟩ := ha
  have HA := Lib.hid hall
  have HSM := Lib.hid hs
  clear hall hs
  generalize hn : xs.length = n at hx hra
  have HX := Lib.hid hn
  clear hn
  obtain ⟨i0, hi, hz0, hz1, hz2⟩ := info_parts Try.infoDr
  go_enter Try.func69, Try.ntmps69
  go_wp2
  go_loopw [3, 9] (fun v i wr => ∃ k : Nat, k ≤ n ∧ i = .int .i64 k ∧ Hid (GrowD wr w.heap.size v (xs.take k)) ∧ Grew w wr) (fun _ i _ => n - (intOf i).toNat)
  case atStart => exact ⟨0, Nat.zero_le _, rfl, Lib.hid (GrowD.lit w), (Grew.refl _).alloc _⟩
  case round =>
    obtain ⟨k, hk, rfl, hgr, hbel⟩ := hrel
    by_cases hlt : k < n
    · obtain ⟨b1, o1, p, rfl, hpk, c0, c1⟩ := (hra.grew hbel).getP2 hlt
      obtain ⟨x, hxk, hxr⟩ := HA.out.get hpk.out
      have hxs := HSM.out x (List.mem_of_getElem? hxk.out)
      obtain ⟨pn, pq⟩ := p
      have HY := Lib.hid (hxr.grew hbel)
      obtain ⟨hxn, hxq⟩ := hxr
      simp only at hxn hxq c0 c1
      subst hxn
      obtain ⟨pa, pc, rfl, hpc, hpr⟩ := hxq
      clear hpr
      obtain ⟨ps, g1, g2, g3⟩ := hgr.out
      have htl : (xs.take k).length = k := by rw [List.length_take, HX.out]; omega
      rw [htl] at g1
      have G1 := Lib.hid g1
      have G2 := Lib.hid g2
      have G3 := Lib.hid g3
      clear g1 g2 g3
      have hal := (Grew.refl wr).alloc (.cells #[.string x.name, .slice pa x.query.length pc] 49)
      go_wp2_with fail
      refine (implCopyDir x ⟨x.name, .slice pa x.query.length pc⟩ _ (HY.out.grew hal) hxs).mono ?_
      rintro e w2 ⟨⟨un, uq⟩, rfl, ho, hb2⟩
      have HO := Lib.hid ho
      obtain ⟨hun, huq⟩ := ho
      simp only at hun
      subst hun
      obtain ⟨ua, uc, rfl⟩ := own_slice huq.1
      clear huq
      have hgw := hal.trans hb2
      have hs1 := hal.size
      go_wp2_with (at_builtin; refine wpList_append_own _ rfl _ _ 35 rfl w.heap.size 49 i0 _ 2 40 Try.underlying35 hi hz0 hz1 hz2 rfl (by decide) _ _ _ rfl (ownsRow_grew (ownsRow_grew G1.out hgw) ((Grew.refl _).alloc (.cells #[.string x.name, .slice ua x.query.length uc] 49))) ⟨_, 0, none⟩ 1 1 [.string x.name, .slice ua x.query.length uc] rfl rfl (news2 (by simp)) (fun x hx => by simp at hx; rcases hx with rfl | rfl <;> rfl) (by unfold maxLen; omega) (by omega) (by have := (hbel.trans hgw).size; simp; omega) ?_; intro v' w' hown' hgr2 _)
      go_roundw
      case rel =>
        refine ⟨k + 1, by omega, by go_num, Lib.hid ?_, ((hbel.trans hgw).alloc _).grown hgr2 (fun g h => (G1.out.lt g h).1)⟩
        rw [take_snoc hxk.out]
        refine GrowD.snoc (lo2 := wr.heap.size) (p := ⟨x.name, .slice ua x.query.length uc⟩) (by rw [htl]; exact ownsRow_grew (ownsRow_grew G1.out hgw) ((Grew.refl _).alloc _)) (G2.out.mono fun x q h => (h.grew hgw).grew ((Grew.refl _).alloc _)) G3.out ((HO.out.grew ((Grew.refl _).alloc _)).mono hs1 ((Grew.refl _).alloc _).size) hbel.size ?_ ?_ hgr2 hgr2.size
        · exact (hgw.alloc _).size
        · rw [htl]; simpa [P2.c] using hown'
      case measure => simp [intOf]; omega
    · obtain rfl : k = n := by omega
      go_wp2
      go_ret
      have h1 := hgr.out
      rw [take_all HX.out] at h1
      exact ⟨_, rfl, h1, hbel⟩
set_option maxRecDepth 100000 in
set_option maxHeartbeats 2000000 in
theorem specL11Copy (va : Value) (xs : List Dr) (w : World) (ha : RdDs w va xs) (hx : xs.length ≤ 4000000) (hs : ∀ x, x ∈ xs → x.small) :
    Calls Try.prog 68 #[va] w fun e w' => ∃ v, e = .returned v ∧ GrowD w' w.heap.size v xs ∧ Grew w w' := by
  obtain ⟨qs, ⟨a, ca, rfl, hca, hra⟩, hall⟩ := ha
  have HA := Lib.hid hall
  have HSM := Lib.hid hs
  clear hall hs
  generalize hn : xs.length = n at hx hra
  have HX := Lib.hid hn
  clear hn
  obtain ⟨i0, hi, hz0, hz1, hz2⟩ := info_parts Try.infoDr
  obtain ⟨j0, hj, hy0, hy1, hy2⟩ := info_parts Try.infoN
  go_enter Try.func68, Try.ntmps68
  go_wp2
  go_loopw [3, 4] (fun v i wr => ∃ k : Nat, k ≤ n ∧ i = .int .i64 k ∧ Hid (GrowD wr w.heap.size v (xs.take k)) ∧ Grew w wr) (fun _ i _ => n - (intOf i).toNat)
  case atStart => exact ⟨0, Nat.zero_le _, rfl, Lib.hid (GrowD.lit w), (Grew.refl _).alloc _⟩
  case round =>
    obtain ⟨k, hk, rfl, hgr, hbel⟩ := hrel
    by_cases hlt : k < n
    · obtain ⟨b1, o1, p, rfl, hpk, c0, c1⟩ := hra.getP2 hlt
      obtain ⟨x, hxk, hxr⟩ := HA.out.get hpk.out
      have hxs := HSM.out x (List.mem_of_getElem? hxk.out)
      unfold Dr.small at hxs
      obtain ⟨pn, pq⟩ := p
      have HY := Lib.hid (hxr.grew hbel)
      obtain ⟨hxn, hxq⟩ := hxr
      simp only at hxn hxq c0 c1
      subst hxn
      obtain ⟨pa, pc, rfl, hpc, hpr⟩ := hxq
      obtain ⟨ps, g1, g2, g3⟩ := hgr.out
      have htl : (xs.take k).length = k := by rw [List.length_take, HX.out]; omega
      rw [htl] at g1
      have G1 := Lib.hid g1
      have G2 := Lib.hid g2
      have G3 := Lib.hid g3
      clear g1 g2 g3
      have hkn : (k : Int) < (n : Int) := by omega
      have hk0 : (0 : Int) ≤ (k : Int) := by omega
      have c0w := c0
      have c1w := c1
      replace c0 := grew_cell hbel c0
      replace c1 := grew_cell hbel c1
      cases pa with
      | none =>
        have h0 : x.query.length = 0 := by rcases Nat.eq_zero_or_pos x.query.length with h | h; exact h; obtain ⟨b, o, h2, _⟩ := hpr.2 h; cases h2
        have HE := Lib.hid (List.length_eq_zero_iff.1 h0)
        clear hpr
        rw [h0] at c1 c1w hpc
        clear h0 hxs
        go_wp2_with fail
        refine wp_region_noPanic ?_
        refine wp_region_held_drew (S := (fun w' => (w'.cell? ⟨b1, o1 + k * 2, none⟩ = some (.string x.name) ∧ w'.cell? ⟨b1, o1 + k * 2 + 1, none⟩ = some (.slice none 0 pc) ∧ Grew w w'))) (by kernel_rfl) ?h1_S ?h1_r
        case h1_S => exact ⟨grew_cell (Grew.refl _).drew c0, grew_cell (Grew.refl _).drew c1, hbel.drew⟩
        case h1_r =>
          intro HS
          first
            | refine sk 0 rfl (by kernel_rfl) rfl HS ?_
            | (refine tk (v := ?v1_0) 0 rfl (by kernel_rfl) rfl ?y1_0 HS ?_; case y1_0 => (intro w' hSw; (try dsimp only at hSw); go_simp <;> (with_reducible rfl)))
          try simp only [Act.put, List.setIfInBounds_toArray, List.set_cons_zero, List.set_cons_succ]
          first
            | refine sk 1 rfl (by kernel_rfl) rfl HS ?_
            | (refine tk (v := ?v1_1) 1 rfl (by kernel_rfl) rfl ?y1_1 HS ?_; case y1_1 => (intro w' hSw; (try dsimp only at hSw); go_simp <;> (with_reducible rfl)))
          try simp only [Act.put, List.setIfInBounds_toArray, List.set_cons_zero, List.set_cons_succ]
          first
            | refine sk 2 rfl (by kernel_rfl) rfl HS ?_
            | (refine tk (v := ?v1_2) 2 rfl (by kernel_rfl) rfl ?y1_2 HS ?_; case y1_2 => (intro w' hSw; (try dsimp only at hSw); go_simp <;> (with_reducible rfl)))
          try simp only [Act.put, List.setIfInBounds_toArray, List.set_cons_zero, List.set_cons_succ]
          first
            | refine sk 3 rfl (by kernel_rfl) rfl HS ?_
            | (refine tk (v := ?v1_3) 3 rfl (by kernel_rfl) rfl ?y1_3 HS ?_; case y1_3 => (intro w' hSw; (try dsimp only at hSw); go_simp <;> (with_reducible rfl)))
          try simp only [Act.put, List.setIfInBounds_toArray, List.set_cons_zero, List.set_cons_succ]
          first
            | refine sk 4 rfl (by kernel_rfl) rfl HS ?_
            | (refine tk (v := ?v1_4) 4 rfl (by kernel_rfl) rfl ?y1_4 HS ?_; case y1_4 => (intro w' hSw; (try dsimp only at hSw); go_simp <;> (with_reducible rfl)))
          try simp only [Act.put, List.setIfInBounds_toArray, List.set_cons_zero, List.set_cons_succ]
          first
            | refine sk 5 rfl (by kernel_rfl) rfl HS ?_
            | (refine tk (v := ?v1_5) 5 rfl (by kernel_rfl) rfl ?y1_5 HS ?_; case y1_5 => (intro w' hSw; (try dsimp only at hSw); go_simp <;> (with_reducible rfl)))
          try simp only [Act.put, List.setIfInBounds_toArray, List.set_cons_zero, List.set_cons_succ]
          first
            | refine sk 7 rfl (by kernel_rfl) rfl HS ?_
            | (refine tk (v := ?v1_7) 7 rfl (by kernel_rfl) rfl ?y1_7 HS ?_; case y1_7 => (intro w' hSw; (try dsimp only at hSw); go_simp <;> (with_reducible rfl)))
          try simp only [Act.put, List.setIfInBounds_toArray, List.set_cons_zero, List.set_cons_succ]
          first
            | refine sk 8 rfl (by kernel_rfl) rfl HS ?_
            | (refine tk (v := ?v1_8) 8 rfl (by kernel_rfl) rfl ?y1_8 HS ?_; case y1_8 => (intro w' hSw; (try dsimp only at hSw); go_simp <;> (with_reducible rfl)))
          try simp only [Act.put, List.setIfInBounds_toArray, List.set_cons_zero, List.set_cons_succ]
          first
            | refine sk 9 rfl (by kernel_rfl) rfl HS ?_
            | (refine tk (v := ?v1_9) 9 rfl (by kernel_rfl) rfl ?y1_9 HS ?_; case y1_9 => (intro w' hSw; (try dsimp only at hSw); go_simp <;> (with_reducible rfl)))
          try simp only [Act.put, List.setIfInBounds_toArray, List.set_cons_zero, List.set_cons_succ]
          first
            | refine sk 10 rfl (by kernel_rfl) rfl HS ?_
            | (refine tk (v := ?v1_10) 10 rfl (by kernel_rfl) rfl ?y1_10 HS ?_; case y1_10 => (intro w' hSw; (try dsimp only at hSw); go_simp <;> (with_reducible rfl)))
          try simp only [Act.put, List.setIfInBounds_toArray, List.set_cons_zero, List.set_cons_succ]
          first
            | refine sk 11 rfl (by kernel_rfl) rfl HS ?_
            | (refine tk (v := ?v1_11) 11 rfl (by kernel_rfl) rfl ?y1_11 HS ?_; case y1_11 => (intro w' hSw; (try dsimp only at hSw); go_simp <;> (with_reducible rfl)))
          try simp only [Act.put, List.setIfInBounds_toArray, List.set_cons_zero, List.set_cons_succ]
          refine cl 6 rfl (by kernel_rfl) (fun K hK => ?_)
          go_simp
          refine hK.out _ _ ?s1_6 ?r1_6
          case s1_6 => exact ⟨grew_cell (Grew.alloc (Grew.refl _) _) HS.1, grew_cell (Grew.alloc (Grew.refl _) _) HS.2.1, HS.2.2.alloc _⟩
          case r1_6 =>
            clear HS
            intro HS
            clear hK K
            try simp only [Act.put, List.setIfInBounds_toArray, List.set_cons_zero, List.set_cons_succ]
            refine cl 12 rfl (by kernel_rfl) (fun K hK => ?_)
            go_simp
            refine hK.out _ _ ?s1_12 ?r1_12
            case s1_12 => exact HS
            case r1_12 =>
              have HOW : Hid ((wr.alloc (.cells #[] 76)).drew.ownsRow wr.heap.size 76 7 (.slice (some ⟨wr.heap.size, 0, none⟩) 0 0) 0 (rows N.c x.query)) := by rw [HE.out]; exact ownsRow_grew (lit_own wr 76 7) (Grew.refl _).drew
              have hgw : Grew wr (wr.alloc (.cells #[] 76)).drew := ((Grew.refl wr).alloc _).drew
              clear HS
              intro HS
              clear hK K
              try simp only [Act.put, List.setIfInBounds_toArray, List.set_cons_zero, List.set_cons_succ]
              first
                | refine sk 13 rfl (by kernel_rfl) rfl HS ?_
                | (refine tk (v := ?v1_13) 13 rfl (by kernel_rfl) rfl ?y1_13 HS ?_; case y1_13 => (intro w' hSw; (try dsimp only at hSw); go_simp <;> (with_reducible rfl)))
              try simp only [Act.put, List.setIfInBounds_toArray, List.set_cons_zero, List.set_cons_succ]
              refine cl 14 rfl (by kernel_rfl) (fun K hK => ?_)
              go_simp
              refine hK.out _ _ ?s1_14 ?r1_14
              case s1_14 => exact ⟨grew_cell (Grew.alloc (Grew.refl _) _) HS.1, grew_cell (Grew.alloc (Grew.refl _) _) HS.2.1, HS.2.2.alloc _⟩
              case r1_14 =>
                clear HS
                intro HS
                clear hK K
                try simp only [Act.put, List.setIfInBounds_toArray, List.set_cons_zero, List.set_cons_succ]
                refine cl 15 rfl (by kernel_rfl) (fun K hK => ?_)
                rw [if_pos (by rfl)]
                refine wp_append_own _ _ _ 35 rfl w.heap.size 49 i0 _ 2 40 Try.underlying35 hi hz0 hz1 hz2 rfl (by decide) _ _ _ rfl (ownsRow_grew (ownsRow_grew G1.out hgw) ((Grew.refl _).alloc (.cells #[.string x.name, .slice (some ⟨wr.heap.size, 0, none⟩) 0 0] 49))) ⟨_, 0, none⟩ 1 1 [.string x.name, .slice (some ⟨wr.heap.size, 0, none⟩) 0 0] rfl rfl (news2 (by simp)) (fun x hx => by simp at hx; rcases hx with rfl | rfl <;> rfl) (by unfold maxLen; omega) (by omega) (by have := (hbel.trans hgw).size; simp at this ⊢; omega) ?_
                intro v' w' hown' hgr2 _
                have HO2 := Lib.hid hown'
                have HG2 := Lib.hid hgr2
                have gF : Grew w w' := ((hbel.trans hgw).alloc _).grown hgr2 (fun g h => (G1.out.lt g h).1)
                clear hown' hgr2
                refine hK.out _ _ ?s1_15 ?r1_15
                case s1_15 => exact ⟨grew_cell gF c0w, grew_cell gF c1w, gF⟩
                case r1_15 =>
                  clear HS
                  intro HS
                  clear hK K
                  try simp only [Act.put, List.setIfInBounds_toArray, List.set_cons_zero, List.set_cons_succ]
                  first
                    | refine sk 16 rfl (by kernel_rfl) rfl HS ?_
                    | (refine tk (v := ?v1_16) 16 rfl (by kernel_rfl) rfl ?y1_16 HS ?_; case y1_16 => (intro w' hSw; (try dsimp only at hSw); go_simp <;> (with_reducible rfl)))
                  try simp only [Act.put, List.setIfInBounds_toArray, List.set_cons_zero, List.set_cons_succ]
                  refine wpAnyH_done (by kernel_rfl) ?_ _
                  refine NoPanic.normal ?_
                  clear HS
                  go_wp2
                  go_roundw
                  case rel =>
                    refine ⟨k + 1, by omega, by go_num, Lib.hid ?_, gF⟩
                    rw [take_snoc hxk.out]
                    refine GrowD.snoc (w := (wr.alloc (.cells #[] 76)).drew.alloc (.cells #[.string x.name, .slice (some ⟨wr.heap.size, 0, none⟩) 0 0] 49)) (lo2 := wr.heap.size) (p := ⟨x.name, .slice (some ⟨wr.heap.size, 0, none⟩) 0 0⟩) (by rw [htl]; exact ownsRow_grew (ownsRow_grew G1.out hgw) ((Grew.refl _).alloc _)) (G2.out.mono fun x q h => (h.grew hgw).grew ((Grew.refl _).alloc _)) G3.out ⟨rfl, ?_⟩ hbel.size ?_ ?_ HG2.out HG2.out.size
                    · have h := own_of (ownsRow_grew HOW.out ((Grew.refl _).alloc (.cells #[.string x.name, .slice (some ⟨wr.heap.size, 0, none⟩) 0 0] 49))); rw [show x.query.length = 0 by rw [HE.out]; rfl]; exact h
                    · exact (hgw.alloc _).size
                    · rw [htl]; simpa [P2.c] using HO2.out
                  case measure => simp [intOf]; omega
      | some pa =>
        have HP := Lib.hid hpr
        have HL := Lib.hid hpr.1
        clear hpr
        go_wp2_with fail
        refine wp_region_noPanic ?_
        refine wp_region_held_drew (S := (fun w' => (w'.cell? ⟨b1, o1 + k * 2, none⟩ = some (.string x.name) ∧ w'.cell? ⟨b1, o1 + k * 2 + 1, none⟩ = some (.slice (some pa) x.query.length pc) ∧ Grew w w'))) (by kernel_rfl) ?h2_S ?h2_r
        case h2_S => exact ⟨grew_cell (Grew.refl _).drew c0, grew_cell (Grew.refl _).drew c1, hbel.drew⟩
        case h2_r =>
          intro HS
          first
            | refine sk 0 rfl (by kernel_rfl) rfl HS ?_
            | (refine tk (v := ?v2_0) 0 rfl (by kernel_rfl) rfl ?y2_0 HS ?_; case y2_0 => (intro w' hSw; (try dsimp only at hSw); go_simp <;> (with_reducible rfl)))
          try simp only [Act.put, List.setIfInBounds_toArray, List.set_cons_zero, List.set_cons_succ]
          first
            | refine sk 1 rfl (by kernel_rfl) rfl HS ?_
            | (refine tk (v := ?v2_1) 1 rfl (by kernel_rfl) rfl ?y2_1 HS ?_; case y2_1 => (intro w' hSw; (try dsimp only at hSw); go_simp <;> (with_reducible rfl)))
          try simp only [Act.put, List.setIfInBounds_toArray, List.set_cons_zero, List.set_cons_succ]
          first
            | refine sk 2 rfl (by kernel_rfl) rfl HS ?_
            | (refine tk (v := ?v2_2) 2 rfl (by kernel_rfl) rfl ?y2_2 HS ?_; case y2_2 => (intro w' hSw; (try dsimp only at hSw); go_simp <;> (with_reducible rfl)))
          try simp only [Act.put, List.setIfInBounds_toArray, List.set_cons_zero, List.set_cons_succ]
          first
            | refine sk 3 rfl (by kernel_rfl) rfl HS ?_
            | (refine tk (v := ?v2_3) 3 rfl (by kernel_rfl) rfl ?y2_3 HS ?_; case y2_3 => (intro w' hSw; (try dsimp only at hSw); go_simp <;> (with_reducible rfl)))
          try simp only [Act.put, List.setIfInBounds_toArray, List.set_cons_zero, List.set_cons_succ]
          first
            | refine sk 4 rfl (by kernel_rfl) rfl HS ?_
            | (refine tk (v := ?v2_4) 4 rfl (by kernel_rfl) rfl ?y2_4 HS ?_; case y2_4 => (intro w' hSw; (try dsimp only at hSw); go_simp <;> (with_reducible rfl)))
          try simp only [Act.put, List.setIfInBounds_toArray, List.set_cons_zero, List.set_cons_succ]
          first
            | refine sk 5 rfl (by kernel_rfl) rfl HS ?_
            | (refine tk (v := ?v2_5) 5 rfl (by kernel_rfl) rfl ?y2_5 HS ?_; case y2_5 => (intro w' hSw; (try dsimp only at hSw); go_simp <;> (with_reducible rfl)))
          try simp only [Act.put, List.setIfInBounds_toArray, List.set_cons_zero, List.set_cons_succ]
          first
            | refine sk 7 rfl (by kernel_rfl) rfl HS ?_
            | (refine tk (v := ?v2_7) 7 rfl (by kernel_rfl) rfl ?y2_7 HS ?_; case y2_7 => (intro w' hSw; (try dsimp only at hSw); go_simp <;> (with_reducible rfl)))
          try simp only [Act.put, List.setIfInBounds_toArray, List.set_cons_zero, List.set_cons_succ]
          first
            | refine sk 8 rfl (by kernel_rfl) rfl HS ?_
            | (refine tk (v := ?v2_8) 8 rfl (by kernel_rfl) rfl ?y2_8 HS ?_; case y2_8 => (intro w' hSw; (try dsimp only at hSw); go_simp <;> (with_reducible rfl)))
          try simp only [Act.put, List.setIfInBounds_toArray, List.set_cons_zero, List.set_cons_succ]
          first
            | refine sk 9 rfl (by kernel_rfl) rfl HS ?_
            | (refine tk (v := ?v2_9) 9 rfl (by kernel_rfl) rfl ?y2_9 HS ?_; case y2_9 => (intro w' hSw; (try dsimp only at hSw); go_simp <;> (with_reducible rfl)))
          try simp only [Act.put, List.setIfInBounds_toArray, List.set_cons_zero, List.set_cons_succ]
          first
            | refine sk 10 rfl (by kernel_rfl) rfl HS ?_
            | (refine tk (v := ?v2_10) 10 rfl (by kernel_rfl) rfl ?y2_10 HS ?_; case y2_10 => (intro w' hSw; (try dsimp only at hSw); go_simp <;> (with_reducible rfl)))
          try simp only [Act.put, List.setIfInBounds_toArray, List.set_cons_zero, List.set_cons_succ]
          first
            | refine sk 11 rfl (by kernel_rfl) rfl HS ?_
            | (refine tk (v := ?v2_11) 11 rfl (by kernel_rfl) rfl ?y2_11 HS ?_; case y2_11 => (intro w' hSw; (try dsimp only at hSw); go_simp <;> (with_reducible rfl)))
          try simp only [Act.put, List.setIfInBounds_toArray, List.set_cons_zero, List.set_cons_succ]
          refine cl 6 rfl (by kernel_rfl) (fun K hK => ?_)
          go_simp
          refine hK.out _ _ ?s2_6 ?r2_6
          case s2_6 => exact ⟨grew_cell (Grew.alloc (Grew.refl _) _) HS.1, grew_cell (Grew.alloc (Grew.refl _) _) HS.2.1, HS.2.2.alloc _⟩
          case r2_6 =>
            clear HS
            intro HS
            clear hK K
            try simp only [Act.put, List.setIfInBounds_toArray, List.set_cons_zero, List.set_cons_succ]
            refine cl 12 rfl (by kernel_rfl) (fun K hK => ?_)
            rw [if_pos (by rfl)]
            refine wp_append_own _ _ _ 47 rfl wr.heap.size 76 j0 _ 7 72 Try.underlying47 hj hy0 hy1 hy2 rfl (by decide) _ 0 [] rfl (ownsRow_grew (lit_own wr 76 7) (Grew.refl _).drew) pa x.query.length pc (rows N.c x.query) rfl HL.out (rd_news HP.out HS.2.2) (one_rows _) (by unfold maxLen; omega) (by omega) (by simp) ?_
            intro v1 w3 hown1 hgr1 _
            have hgw : Grew wr w3 := ((Grew.refl wr).alloc (.cells #[] 76)).drew.grown hgr1 (fun g h => by cases h; exact Nat.le_refl _)
            have HOW : Hid (w3.ownsRow wr.heap.size 76 7 v1 x.query.length (rows N.c x.query)) := by simpa using Lib.hid hown1
            obtain ⟨ua, uc, rfl⟩ := own_slice HOW.out
            clear hown1 hgr1
            refine hK.out _ _ ?s2_12 ?r2_12
            case s2_12 => exact ⟨grew_cell hgw c0, grew_cell hgw c1, hbel.trans hgw⟩
            case r2_12 =>
              clear HS
              intro HS
              clear hK K
              try simp only [Act.put, List.setIfInBounds_toArray, List.set_cons_zero, List.set_cons_succ]
              first
                | refine sk 13 rfl (by kernel_rfl) rfl HS ?_
                | (refine tk (v := ?v2_13) 13 rfl (by kernel_rfl) rfl ?y2_13 HS ?_; case y2_13 => (intro w' hSw; (try dsimp only at hSw); go_simp <;> (with_reducible rfl)))
              try simp only [Act.put, List.setIfInBounds_toArray, List.set_cons_zero, List.set_cons_succ]
              refine cl 14 rfl (by kernel_rfl) (fun K hK => ?_)
              go_simp
              refine hK.out _ _ ?s2_14 ?r2_14
              case s2_14 => exact ⟨grew_cell (Grew.alloc (Grew.refl _) _) HS.1, grew_cell (Grew.alloc (Grew.refl _) _) HS.2.1, HS.2.2.alloc _⟩
              case r2_14 =>
                clear HS
                intro HS
                clear hK K
                try simp only [Act.put, List.setIfInBounds_toArray, List.set_cons_zero, List.set_cons_succ]
                refine cl 15 rfl (by kernel_rfl) (fun K hK => ?_)
                rw [if_pos (by rfl)]
                refine wp_append_own _ _ _ 35 rfl w.heap.size 49 i0 _ 2 40 Try.underlying35 hi hz0 hz1 hz2 rfl (by decide) _ _ _ rfl (ownsRow_grew (ownsRow_grew G1.out hgw) ((Grew.refl _).alloc (.cells #[.string x.name, .slice ua x.query.length uc] 49))) ⟨_, 0, none⟩ 1 1 [.string x.name, .slice ua x.query.length uc] rfl rfl (news2 (by simp)) (fun x hx => by simp at hx; rcases hx with rfl | rfl <;> rfl) (by unfold maxLen; omega) (by omega) (by have := (hbel.trans hgw).size; simp at this ⊢; omega) ?_
                intro v' w' hown' hgr2 _
                have HO2 := Lib.hid hown'
                have HG2 := Lib.hid hgr2
                have gF : Grew w w' := ((hbel.trans hgw).alloc _).grown hgr2 (fun g h => (G1.out.lt g h).1)
                clear hown' hgr2
                refine hK.out _ _ ?s2_15 ?r2_15
                case s2_15 => exact ⟨grew_cell gF c0w, grew_cell gF c1w, gF⟩
                case r2_15 =>
                  clear HS
                  intro HS
                  clear hK K
                  try simp only [Act.put, List.setIfInBounds_toArray, List.set_cons_zero, List.set_cons_succ]
                  first
                    | refine sk 16 rfl (by kernel_rfl) rfl HS ?_
                    | (refine tk (v := ?v2_16) 16 rfl (by kernel_rfl) rfl ?y2_16 HS ?_; case y2_16 => (intro w' hSw; (try dsimp only at hSw); go_simp <;> (with_reducible rfl)))
                  try simp only [Act.put, List.setIfInBounds_toArray, List.set_cons_zero, List.set_cons_succ]
                  refine wpAnyH_done (by kernel_rfl) ?_ _
                  refine NoPanic.normal ?_
                  clear HS
                  go_wp2
                  go_roundw
                  case rel =>
                    refine ⟨k + 1, by omega, by go_num, Lib.hid ?_, gF⟩
                    rw [take_snoc hxk.out]
                    refine GrowD.snoc (w := w3.alloc (.cells #[.string x.name, .slice ua x.query.length uc] 49)) (lo2 := wr.heap.size) (p := ⟨x.name, .slice ua x.query.length uc⟩) (by rw [htl]; exact ownsRow_grew (ownsRow_grew G1.out hgw) ((Grew.refl _).alloc _)) (G2.out.mono fun x q h => (h.grew hgw).grew ((Grew.refl _).alloc _)) G3.out ⟨rfl, ?_⟩ hbel.size ?_ ?_ HG2.out HG2.out.size
                    · exact own_of (ownsRow_grew HOW.out ((Grew.refl _).alloc (.cells #[.string x.name, .slice ua x.query.length uc] 49)))
                    · exact (hgw.alloc _).size
                    · rw [htl]; simpa [P2.c] using HO2.out
                  case measure => simp [intOf]; omega
    · obtain rfl : k = n := by omega
      go_wp2
      go_ret
      have h1 := hgr.out
      rw [take_all HX.out] at h1
      exact ⟨_, rfl, h1, hbel⟩
end Go.Proofs.Ytgekgokkbakcmaa
