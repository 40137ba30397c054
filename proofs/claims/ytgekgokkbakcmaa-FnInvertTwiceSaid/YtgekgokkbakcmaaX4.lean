/- Contracts of InvertDiffs. -/
import Derived.Test.YtgekgokkbakcmaaX3
import Derived.Test.YtgekgokkbakcmaaN3
import Derived.Test.YtgekgokkbakcmaaY12
import Derived.Test.YtgekgokkbakcmaaZ2
import Derived.OwnWalk
namespace Go.Proofs.Ytgekgokkbakcmaa
open Go.RowKit Go.Sort
set_option linter.unusedVariables false
theorem one_p3s : ∀ (ps : List P3) {w : World} {lo hi : Nat} {ds : List Df}, All2 (Df.O w lo hi) ds ps → ∀ u ∈ rows P3.c ps, u.oneCell' = true
  | [], w, lo, hi, ds, _, u, hu => by simp [rows] at hu
  | p :: ps, w, lo, hi, ds, h, u, hu => by
    rw [rows_cons] at hu
    cases ds with
    | nil => have := h.1; simp at this
    | cons d ds =>
      rcases List.mem_append.1 hu with h1 | h1
      · have h0 := h.2 0 d p rfl rfl
        obtain ⟨a, c, hs⟩ := own_slice h0.2.1.1
        obtain ⟨a2, c2, hs2⟩ := own_slice h0.2.2.1
        unfold P3.c at h1
        simp only [List.mem_cons, List.not_mem_nil, or_false] at h1
        rcases h1 with rfl | rfl | rfl
        · rfl
        · rw [hs]; rfl
        · rw [hs2]; rfl
      · exact one_p3s ps (ds := ds) ⟨by have := h.1; simpa using this, fun i x y hx hy => h.2 (i + 1) x y (by simpa using hx) (by simpa using hy)⟩ u h1
theorem Grows.ins {w w' : World} {base lo2 i : Nat} {v v' : Value} {ds : List Df} {d : Df} {ps : List P3} {p : P3} (h1 : w.ownsRow base 94 3 v ds.length (rows P3.c ps)) (h2 : All2 (Df.O w base lo2) ds ps) (h3 : Dis (ps.flatMap Df.subs))
    (hp : Df.O w lo2 w.heap.size d p) (hd : Dis (Df.subs p)) (hb : base ≤ lo2) (hl : lo2 ≤ w.heap.size) (hi : i ≤ ds.length)
    (hown : w'.ownsRow base 94 3 v' (ds.length + 1) ((rows P3.c ps).take (i * 3) ++ P3.c p ++ (rows P3.c ps).drop (i * 3))) (hg : w.grownBy w' v.ownBlock) : Grows w' base v' (ds.take i ++ d :: ds.drop i) := by
  have hs := hg.size
  have hpl := h2.1
  have e := rows_take P3.len ps i (by omega)
  refine ⟨ps.take i ++ p :: ps.drop i, ?_, ?_, ?_⟩
  · rw [← e.1, ← e.2] at hown
    rw [rows_append, rows_cons, ← List.append_assoc, show (ds.take i ++ d :: ds.drop i).length = ds.length + 1 by simp; omega]
    exact hown
  · refine All2.ins (h2.mono fun x q hr => ?_) ?_ i
    · exact ⟨hr.1, (own_grown hr.2.1 h1 (by decide) hg).mono (Nat.le_refl _) (Nat.le_trans hl hs), (own_grown hr.2.2 h1 (by decide) hg).mono (Nat.le_refl _) (Nat.le_trans hl hs)⟩
    · exact ⟨hp.1, (own_grown hp.2.1 h1 (by decide) hg).mono hb hs, (own_grown hp.2.2 h1 (by decide) hg).mono hb hs⟩
  · have hdd : Dis ((ps ++ [p]).flatMap Df.subs) := by
      rw [List.flatMap_append]
      refine Dis.app h3 (by simpa using hd) ?_
      intro u v b hu hv hub hvb
      have h4 := All2.blk (subs := Df.subs) (fun x p v b h hv hb => Df.O.blk h hv hb) h2 hu hub
      have h5 := hp.blk (by simpa using hv) hvb
      omega
    exact hdd.perm ((perm_ins ps p i).flatMap_right _)
theorem Grows.base {w : World} {a b : Nat} {v : Value} {ds : List Df} (h : Grows w a v ds) (hb : b ≤ a) : Grows w b v ds := by
  obtain ⟨ps, h1, h2, h3⟩ := h
  exact ⟨ps, ownsRow_base h1 hb, h2.mono fun x p h => h.mono hb (Nat.le_refl _), h3⟩
theorem one_ints3 (xs : List Int) : ∀ u ∈ ints xs, u.oneCell' = true := by
  intro u hu
  obtain ⟨x, _, rfl⟩ := List.mem_map.1 hu
  rfl
theorem dis_two {u v : Value} (h : ∀ b, u.ownBlock = some b → v.ownBlock ≠ some b) : Dis [u, v] :=
  Dis.app (us := [u]) (vs := [v]) (Dis.one u) (Dis.one v) (fun a b c ha hb hc => by
    simp only [List.mem_singleton] at ha hb
    subst ha; subst hb; exact h c hc)
def invP (p : P3) : P3 := ⟨p.name, p.r, p.q⟩
theorem subs_inv (ps : List P3) : ((ps.map invP).reverse).flatMap Df.subs = (ps.flatMap Df.subs).reverse := by
  induction ps with
  | nil => rfl
  | cons p ps ih =>
    rw [List.map_cons, List.reverse_cons, List.flatMap_append, ih]
    simp [Df.subs, invP]
theorem all2_inv {R S : Df → P3 → Prop} (h : ∀ x p, R x p → S (invDf x) (invP p)) : ∀ {ds : List Df} {ps : List P3}, All2 R ds ps → All2 S (invL ds) ((ps.map invP).reverse)
  | [], [], _ => All2.nil
  | [], p :: ps, h2 => by have := h2.1; simp at this
  | d :: ds, [], h2 => by have := h2.1; simp at this
  | d :: ds, p :: ps, h2 => by
    have ih := all2_inv h (ds := ds) (ps := ps) ⟨by have := h2.1; simpa using this, fun i x y hx hy => h2.2 (i + 1) x y (by simpa using hx) (by simpa using hy)⟩
    have e1 : invL (d :: ds) = invL ds ++ [invDf d] := by unfold invL; rw [List.map_cons, List.reverse_cons]
    rw [e1, List.map_cons, List.reverse_cons]
    exact ih.snoc (h d p (h2.2 0 d p rfl rfl))
set_option maxRecDepth 100000 in
set_option maxHeartbeats 4000000 in
theorem implInvertDiffs (va : Value) (xs : List Df) (w : World) (ha : RdFs w va xs) (hx : xs.length ≤ 3000000) (hs : ∀ x, x ∈ xs → x.small) :
    Calls Try.prog 12 #[va] w fun e w' => ∃ v, e = .returned v ∧ Grows w' w.heap.size v (invL xs) ∧ Grew w w' := by
  obtain ⟨qs, ⟨a, ca, rfl, hca, hra⟩, hall⟩ := ha
  have HA := Lib.hid hall
  have HS := Lib.hid hs
  clear hall hs
  generalize hn : xs.length = n at *
  have HN := Lib.hid hn
  clear hn
  go_enter Try.func12, Try.ntmps12
  go_wp2
  go_loopw [3, 9] (fun v i wr => ∃ k : Nat, k ≤ n ∧ i = .int .i64 k ∧ Hid (Grows wr w.heap.size v (invL (xs.take k))) ∧ Grew w wr) (fun _ i _ => n - (intOf i).toNat)
  case atStart => exact ⟨0, Nat.zero_le _, rfl, Lib.hid (Grows.lit w), (Grew.refl _).alloc _⟩
  case round =>
    obtain ⟨k, hk, rfl, hgr, hbel⟩ := hrel
    by_cases hlt : k < n
    · obtain ⟨b1, o1, p, rfl, hpk, c0, c1, c2⟩ := (hra.grew hbel).getP3 hlt
      obtain ⟨x, hxk, hxr⟩ := HA.out.get hpk.out
      have hxs := HS.out x (List.mem_of_getElem? hxk.out)
      unfold Df.small at hxs
      obtain ⟨hxs1, hxs2⟩ := hxs
      obtain ⟨pn, pq, pr⟩ := p
      obtain ⟨hxn, hxq, hxr2⟩ := hxr
      simp only at hxn hxq hxr2 c0 c1 c2
      subst hxn
      have HQ := Lib.hid (hxq.grew hbel)
      have HR := Lib.hid (hxr2.grew hbel)
      obtain ⟨qa, qc, rfl, hqc, hqr⟩ := hxq
      obtain ⟨ra, rc, rfl, hrc, hrr⟩ := hxr2
      clear hqr hrr
      obtain ⟨ps, g1, g2, g3⟩ := hgr.out
      have htl : (invL (xs.take k)).length = k := by rw [invL_len, List.length_take, HN.out]; omega
      have G2 := Lib.hid g2
      have G3 := Lib.hid g3
      rw [htl] at g1
      have G1 := Lib.hid g1
      have HTL := Lib.hid htl
      have hvb : ∀ j, u3.ownBlock = some j → w.heap.size ≤ j ∧ j < wr.heap.size := fun j h => g1.lt j h
      have HVB := Lib.hid hvb
      have hne0 : u3.ownBlock ≠ some wr.heap.size := fun e => by have := (hvb _ e).2; omega
      have HNE := Lib.hid hne0
      clear g1 g2 g3 htl hvb hne0
      have hal := (Grew.refl wr).alloc (.cells #[.string x.name, .slice qa x.added.length qc, .slice ra x.removed.length rc] 94)
      have z0 : (wr.alloc (.cells #[.string x.name, .slice qa x.added.length qc, .slice ra x.removed.length rc] 94)).cell? ⟨wr.heap.size, 0, none⟩ = some (.string x.name) := by simp
      have z1 : (wr.alloc (.cells #[.string x.name, .slice qa x.added.length qc, .slice ra x.removed.length rc] 94)).cell? ⟨wr.heap.size, 1, none⟩ = some (.slice qa x.added.length qc) := by simp
      have z2 : (wr.alloc (.cells #[.string x.name, .slice qa x.added.length qc, .slice ra x.removed.length rc] 94)).cell? ⟨wr.heap.size, 2, none⟩ = some (.slice ra x.removed.length rc) := by simp
      have hsz1 : wr.heap.size < (wr.alloc (.cells #[.string x.name, .slice qa x.added.length qc, .slice ra x.removed.length rc] 94)).heap.size := by simp
      go_upto_region 5 with fail
      generalize wr.alloc (.cells #[.string x.name, .slice qa x.added.length qc, .slice ra x.removed.length rc] 94) = W at hal z0 z1 z2 hsz1 ⊢
      have hwW := hbel.trans hal
      refine wp_region_noPanic ?_
      refine wp_region_held_drew (S := (fun w' => (w'.cell? ⟨wr.heap.size, 0, none⟩ = some (.string x.name) ∧ w'.cell? ⟨wr.heap.size, 1, none⟩ = some (.slice qa x.added.length qc) ∧ w'.cell? ⟨wr.heap.size, 2, none⟩ = some (.slice ra x.removed.length rc) ∧ Grew w w'))) (by kernel_rfl) ?h1_S ?h1_r
      case h1_S => exact ⟨z0, z1, z2, hwW.drew⟩
      case h1_r =>
        intro HS
        first
          | refine sk 0 rfl (by kernel_rfl) rfl HS ?_
          | (refine tk (v := ?v1_0) 0 rfl (by kernel_rfl) rfl ?y1_0 HS ?_; case y1_0 => (intro w' hSw; (try dsimp only at hSw); go_simp <;> (with_reducible rfl)))
        try simp only [Act.put, List.setIfInBounds_toArray, List.set_cons_zero, List.set_cons_succ]
        first
          | refine sk 1 rfl (by kernel_rfl) rfl HS ?_
          | (refine tk (v := ?v1_1) 1 rfl (by kernel_rfl) rfl ?y1_1 HS ?_; case y1_1 => (intro w' hSw; (try dsimp only at hSw); go_simp <;> (with_reducible rfl)))
        try simp only [Act.put, List.setIfInBounds_toArray, List.set_cons_zero, List.set_cons_succ]
        first
          | refine sk 2 rfl (by kernel_rfl) rfl HS ?_
          | (refine tk (v := ?v1_2) 2 rfl (by kernel_rfl) rfl ?y1_2 HS ?_; case y1_2 => (intro w' hSw; (try dsimp only at hSw); go_simp <;> (with_reducible rfl)))
        try simp only [Act.put, List.setIfInBounds_toArray, List.set_cons_zero, List.set_cons_succ]
        first
          | refine sk 3 rfl (by kernel_rfl) rfl HS ?_
          | (refine tk (v := ?v1_3) 3 rfl (by kernel_rfl) rfl ?y1_3 HS ?_; case y1_3 => (intro w' hSw; (try dsimp only at hSw); go_simp <;> (with_reducible rfl)))
        try simp only [Act.put, List.setIfInBounds_toArray, List.set_cons_zero, List.set_cons_succ]
        first
          | refine sk 4 rfl (by kernel_rfl) rfl HS ?_
          | (refine tk (v := ?v1_4) 4 rfl (by kernel_rfl) rfl ?y1_4 HS ?_; case y1_4 => (intro w' hSw; (try dsimp only at hSw); go_simp <;> (with_reducible rfl)))
        try simp only [Act.put, List.setIfInBounds_toArray, List.set_cons_zero, List.set_cons_succ]
        first
          | refine sk 6 rfl (by kernel_rfl) rfl HS ?_
          | (refine tk (v := ?v1_6) 6 rfl (by kernel_rfl) rfl ?y1_6 HS ?_; case y1_6 => (intro w' hSw; (try dsimp only at hSw); go_simp <;> (with_reducible rfl)))
        try simp only [Act.put, List.setIfInBounds_toArray, List.set_cons_zero, List.set_cons_succ]
        first
          | refine sk 7 rfl (by kernel_rfl) rfl HS ?_
          | (refine tk (v := ?v1_7) 7 rfl (by kernel_rfl) rfl ?y1_7 HS ?_; case y1_7 => (intro w' hSw; (try dsimp only at hSw); go_simp <;> (with_reducible rfl)))
        try simp only [Act.put, List.setIfInBounds_toArray, List.set_cons_zero, List.set_cons_succ]
        refine cl 5 rfl (by kernel_rfl) (fun K hK => ?_)
        rw [if_pos (by rfl)]
        go_simp
        go_at_call 59
        refine (slCloneInt _ x.removed.length x.removed _ (HR.out.grew (hal.drew)) (by omega)).mono ?_
        rintro e w5 ⟨v5, rfl, o5, hb⟩
        have O5 := Lib.hid o5
        have hg5 : Grew W w5 := ((Grew.refl W).drew).trans hb
        obtain ⟨a5, c5, rfl⟩ := own_slice o5
        clear o5
        refine hK.out _ _ ?s1_5 ?r1_5
        case s1_5 => exact ⟨grew_cell hb HS.1, grew_cell hb HS.2.1, grew_cell hb HS.2.2.1, HS.2.2.2.trans hb⟩
        case r1_5 =>
          clear HS
          intro HS
          clear hK K
          try simp only [Act.put, List.setIfInBounds_toArray, List.set_cons_zero, List.set_cons_succ]
          refine cl 8 rfl (by kernel_rfl) (fun K hK => ?_)
          rw [if_pos (by rfl)]
          go_simp
          go_at_call 59
          refine (slCloneInt _ x.added.length x.added _ (HQ.out.grew (hal.trans hg5)) (by omega)).mono ?_
          rintro e w8 ⟨v8, rfl, o8, hb⟩
          have O8 := Lib.hid o8
          have hg8 : Grew W w8 := hg5.trans hb
          have O58 := Lib.hid (ownsRow_grew O5.out hb)
          have hd58 : ∀ b, (Value.slice a5 x.removed.length c5).ownBlock = some b → v8.ownBlock ≠ some b := fun b h1 h2 => by have q1 := (O5.out.lt b h1).2; have q2 := (o8.lt b h2).1; omega
          have HD58 := Lib.hid hd58
          obtain ⟨a8, c8, rfl⟩ := own_slice o8
          clear o8 hd58
          refine hK.out _ _ ?s1_8 ?r1_8
          case s1_8 => exact ⟨grew_cell hb HS.1, grew_cell hb HS.2.1, grew_cell hb HS.2.2.1, HS.2.2.2.trans hb⟩
          case r1_8 =>
            clear HS
            intro HS
            clear hK K
            try simp only [Act.put, List.setIfInBounds_toArray, List.set_cons_zero, List.set_cons_succ]
            first
              | refine sk 9 rfl (by kernel_rfl) rfl HS ?_
              | (refine tk (v := ?v1_9) 9 rfl (by kernel_rfl) rfl ?y1_9 HS ?_; case y1_9 => (intro w' hSw; (try dsimp only at hSw); go_simp <;> (with_reducible rfl)))
            try simp only [Act.put, List.setIfInBounds_toArray, List.set_cons_zero, List.set_cons_succ]
            refine cl 10 rfl (by kernel_rfl) (fun K hK => ?_)
            go_simp
            refine hK.out _ _ ?s1_10 ?r1_10
            case s1_10 => exact ⟨grew_cell ((Grew.refl _).alloc _) HS.1, grew_cell ((Grew.refl _).alloc _) HS.2.1, grew_cell ((Grew.refl _).alloc _) HS.2.2.1, HS.2.2.2.alloc _⟩
            case r1_10 =>
              have hgA : Grew W (w8.alloc (.cells #[.string x.name, .slice a5 x.removed.length c5, .slice a8 x.added.length c8] 94)) := hg8.alloc _
              clear HS
              intro HS
              clear hK K
              try simp only [Act.put, List.setIfInBounds_toArray, List.set_cons_zero, List.set_cons_succ]
              refine cl 11 rfl (by kernel_rfl) (fun K hK => ?_)
              rw [if_pos (by rfl)]
              go_simp
              go_at_call 58
              refine (slInsDiff u3 k 0 w8.heap.size _ [.string x.name, .slice a5 x.removed.length c5, .slice a8 x.added.length c8] w.heap.size _ (ownsRow_grew (ownsRow_grew G1.out hal) hgA) (Nat.zero_le _) (by omega) (heap_alloc_new w8 _) rfl (fun e => by have h1 := (HVB.out _ e).2; have h2 := hal.size; have h3 := hg8.size; omega) (one_p3s ps G2.out) (fun u hu => by simp at hu; rcases hu with rfl | rfl | rfl <;> rfl) (HS.2.2.2.size)).mono ?_
              rintro e w11 ⟨v11, rfl, o11, hgr11⟩
              have O11 := Lib.hid o11
              have HG11 := Lib.hid hgr11
              have hgF : Grew w w11 := (hwW.trans hgA).grown hgr11 (fun j h => (HVB.out j h).1)
              have hSF := HS
              clear o11
              refine hK.out _ _ ?s1_11 ?r1_11
              case s1_11 => exact ⟨hgr11.cell hSF.1 (fun e => HNE.out e.symm), hgr11.cell hSF.2.1 (fun e => HNE.out e.symm), hgr11.cell hSF.2.2.1 (fun e => HNE.out e.symm), hgF⟩
              case r1_11 =>
                clear hgr11 hSF
                clear HS
                intro HS
                clear hK K
                try simp only [Act.put, List.setIfInBounds_toArray, List.set_cons_zero, List.set_cons_succ]
                first
                  | refine sk 12 rfl (by kernel_rfl) rfl HS ?_
                  | (refine tk (v := ?v1_12) 12 rfl (by kernel_rfl) rfl ?y1_12 HS ?_; case y1_12 => (intro w' hSw; (try dsimp only at hSw); go_simp <;> (with_reducible rfl)))
                try simp only [Act.put, List.setIfInBounds_toArray, List.set_cons_zero, List.set_cons_succ]
                refine wpAnyH_done (by kernel_rfl) ?_ _
                refine NoPanic.normal ?_
                clear HS
                go_wp2
                go_roundw
                case rel =>
                  refine ⟨k + 1, by omega, by go_num, Lib.hid ?_, hgF⟩
                  rw [invL_take hxk.out]
                  have hsA := hgA.size
                  have hz8 := hg8.size
                  have h := Grows.ins (i := 0) (w := w8.alloc (.cells #[.string x.name, .slice a5 x.removed.length c5, .slice a8 x.added.length c8] 94)) (lo2 := W.heap.size) (d := invDf x) (p := ⟨x.name, .slice a5 x.removed.length c5, .slice a8 x.added.length c8⟩) (by rw [HTL.out]; exact ownsRow_grew (ownsRow_grew G1.out hal) hgA) (G2.out.mono fun y q h => ((h.grew (hal.trans hgA)).mono (Nat.le_refl _) (Nat.le_of_lt hsz1))) G3.out ⟨rfl, ?_, ?_⟩ (dis_two HD58.out) hwW.size (Nat.le_trans hz8 (by simp)) (Nat.zero_le _) (by rw [HTL.out]; exact O11.out) HG11.out
                  · simpa using h
                  · exact Own.mono (own_of (ownsRow_grew O58.out ((Grew.refl _).alloc (.cells #[.string x.name, .slice a5 x.removed.length c5, .slice a8 x.added.length c8] 94)))) (by simp) (Nat.le_refl _)
                  · exact Own.mono (own_of (ownsRow_grew O8.out ((Grew.refl _).alloc (.cells #[.string x.name, .slice a5 x.removed.length c5, .slice a8 x.added.length c8] 94)))) hg5.size (Nat.le_refl _)
                case measure => simp [intOf]; omega
    · obtain rfl : k = n := by omega
      go_wp2
      go_ret
      have h1 := hgr.out
      rw [take_all HN.out] at h1
      exact ⟨_, rfl, h1, hbel⟩
    --@end
set_option maxRecDepth 100000 in
set_option maxHeartbeats 8000000 in
theorem specL17Copy (va : Value) (xs : List Df) (w : World) (ha : RdFs w va xs) (hx : xs.length ≤ 3000000) (hs : ∀ x, x ∈ xs → x.small) :
    Calls Try.prog 61 #[va] w fun e w' => ∃ v, e = .returned v ∧ Grows w' w.heap.size v xs ∧ Grew w w' := by
  obtain ⟨qs, ⟨a, ca, rfl, hca, hra⟩, hall⟩ := ha
  have HA := Lib.hid hall
  have HS := Lib.hid hs
  clear hall hs
  generalize hn : xs.length = n at *
  have HN := Lib.hid hn
  clear hn
  obtain ⟨i0, hi, hz0, hz1, hz2⟩ := info_parts Try.infoDf
  obtain ⟨j0, hj, hy0, hy1, hy2⟩ := info_parts Try.infoInt
  go_enter Try.func61, Try.ntmps61
  go_wp2
  go_loopw [3, 4] (fun v i wr => ∃ k : Nat, k ≤ n ∧ i = .int .i64 k ∧ Hid (Grows wr w.heap.size v (xs.take k)) ∧ Grew w wr) (fun _ i _ => n - (intOf i).toNat)
  case atStart => exact ⟨0, Nat.zero_le _, rfl, Lib.hid (Grows.lit w), (Grew.refl _).alloc _⟩
  case round =>
    obtain ⟨k, hk, rfl, hgr, hbel⟩ := hrel
    by_cases hlt : k < n
    · obtain ⟨b1, o1, p, rfl, hpk, c0, c1, c2⟩ := hra.getP3 hlt
      obtain ⟨x, hxk, hxr⟩ := HA.out.get hpk.out
      have hxs := HS.out x (List.mem_of_getElem? hxk.out)
      unfold Df.small at hxs
      obtain ⟨hxs1, hxs2⟩ := hxs
      obtain ⟨pn, pq, pr⟩ := p
      obtain ⟨hxn, hxq, hxr2⟩ := hxr
      simp only at hxn hxq hxr2 c0 c1 c2
      subst hxn
      obtain ⟨qa, qc, rfl, hqc, hqr⟩ := hxq.grew hbel
      obtain ⟨ra, rc, rfl, hrc, hrr⟩ := hxr2.grew hbel
      have HQA := Lib.hid hqr
      have HRA := Lib.hid hrr
      clear hqr hrr hxq hxr2
      obtain ⟨ps, g1, g2, g3⟩ := hgr.out
      have htl : (xs.take k).length = k := by rw [List.length_take, HN.out]; omega
      have G2 := Lib.hid g2
      have G3 := Lib.hid g3
      rw [htl] at g1
      have G1 := Lib.hid g1
      have HTL := Lib.hid htl
      clear g1 g2 g3 htl
      have hkn : (k : Int) < (n : Int) := by omega
      have hk0 : (0 : Int) ≤ (k : Int) := by omega
      have c0w := c0
      have c1w := c1
      have c2w := c2
      replace c0 := grew_cell hbel c0
      replace c1 := grew_cell hbel c1
      replace c2 := grew_cell hbel c2
      go_wp2_with fail
      refine wp_region_noPanic ?_
      refine wp_region_held_drew (S := (fun w' => (w'.cell? ⟨b1, o1 + k * 3, none⟩ = some (.string x.name) ∧ w'.cell? ⟨b1, o1 + k * 3 + 1, none⟩ = some (.slice qa x.added.length qc) ∧ w'.cell? ⟨b1, o1 + k * 3 + 2, none⟩ = some (.slice ra x.removed.length rc) ∧ Grew w w'))) (by kernel_rfl) ?h2_S ?h2_r
      case h2_S => exact ⟨grew_cell (Grew.refl _).drew c0, grew_cell (Grew.refl _).drew c1, grew_cell (Grew.refl _).drew c2, hbel.drew⟩
      case h2_r =>
       intro HS
       first
        | refine sk 0 rfl (by kernel_rfl) rfl HS ?_
        | (refine tk (v := ?v2_1_) 0 rfl (by kernel_rfl) rfl ?y2_1_ HS ?_; case y2_1_ => (intro w' hSw; (try dsimp only at hSw); go_simp <;> (with_reducible rfl)))
       try simp only [Act.put, lpa, lpb, lpc]
       first
        | refine sk 1 rfl (by kernel_rfl) rfl HS ?_
        | (refine tk (v := ?v2_2_) 1 rfl (by kernel_rfl) rfl ?y2_2_ HS ?_; case y2_2_ => (intro w' hSw; (try dsimp only at hSw); go_simp <;> (with_reducible rfl)))
       try simp only [Act.put, lpa, lpb, lpc]
       first
        | refine sk 2 rfl (by kernel_rfl) rfl HS ?_
        | (refine tk (v := ?v2_3_) 2 rfl (by kernel_rfl) rfl ?y2_3_ HS ?_; case y2_3_ => (intro w' hSw; (try dsimp only at hSw); go_simp <;> (with_reducible rfl)))
       try simp only [Act.put, lpa, lpb, lpc]
       first
        | refine sk 3 rfl (by kernel_rfl) rfl HS ?_
        | (refine tk (v := ?v2_4_) 3 rfl (by kernel_rfl) rfl ?y2_4_ HS ?_; case y2_4_ => (intro w' hSw; (try dsimp only at hSw); go_simp <;> (with_reducible rfl)))
       try simp only [Act.put, lpa, lpb, lpc]
       first
        | refine sk 4 rfl (by kernel_rfl) rfl HS ?_
        | (refine tk (v := ?v2_5_) 4 rfl (by kernel_rfl) rfl ?y2_5_ HS ?_; case y2_5_ => (intro w' hSw; (try dsimp only at hSw); go_simp <;> (with_reducible rfl)))
       try simp only [Act.put, lpa, lpb, lpc]
       first
        | refine sk 5 rfl (by kernel_rfl) rfl HS ?_
        | (refine tk (v := ?v2_6_) 5 rfl (by kernel_rfl) rfl ?y2_6_ HS ?_; case y2_6_ => (intro w' hSw; (try dsimp only at hSw); go_simp <;> (with_reducible rfl)))
       try simp only [Act.put, lpa, lpb, lpc]
       first
        | refine sk 7 rfl (by kernel_rfl) rfl HS ?_
        | (refine tk (v := ?v2_7_) 7 rfl (by kernel_rfl) rfl ?y2_7_ HS ?_; case y2_7_ => (intro w' hSw; (try dsimp only at hSw); go_simp <;> (with_reducible rfl)))
       try simp only [Act.put, lpa, lpb, lpc]
       first
        | refine sk 8 rfl (by kernel_rfl) rfl HS ?_
        | (refine tk (v := ?v2_8_) 8 rfl (by kernel_rfl) rfl ?y2_8_ HS ?_; case y2_8_ => (intro w' hSw; (try dsimp only at hSw); go_simp <;> (with_reducible rfl)))
       try simp only [Act.put, lpa, lpb, lpc]
       first
        | refine sk 9 rfl (by kernel_rfl) rfl HS ?_
        | (refine tk (v := ?v2_9_) 9 rfl (by kernel_rfl) rfl ?y2_9_ HS ?_; case y2_9_ => (intro w' hSw; (try dsimp only at hSw); go_simp <;> (with_reducible rfl)))
       try simp only [Act.put, lpa, lpb, lpc]
       first
        | refine sk 10 rfl (by kernel_rfl) rfl HS ?_
        | (refine tk (v := ?v2_10_) 10 rfl (by kernel_rfl) rfl ?y2_10_ HS ?_; case y2_10_ => (intro w' hSw; (try dsimp only at hSw); go_simp <;> (with_reducible rfl)))
       try simp only [Act.put, lpa, lpb, lpc]
       first
        | refine sk 11 rfl (by kernel_rfl) rfl HS ?_
        | (refine tk (v := ?v2_11_) 11 rfl (by kernel_rfl) rfl ?y2_11_ HS ?_; case y2_11_ => (intro w' hSw; (try dsimp only at hSw); go_simp <;> (with_reducible rfl)))
       try simp only [Act.put, lpa, lpb, lpc]
       first
        | refine sk 14 rfl (by kernel_rfl) rfl HS ?_
        | (refine tk (v := ?v2_12_) 14 rfl (by kernel_rfl) rfl ?y2_12_ HS ?_; case y2_12_ => (intro w' hSw; (try dsimp only at hSw); go_simp <;> (with_reducible rfl)))
       try simp only [Act.put, lpa, lpb, lpc]
       first
        | refine sk 15 rfl (by kernel_rfl) rfl HS ?_
        | (refine tk (v := ?v2_13_) 15 rfl (by kernel_rfl) rfl ?y2_13_ HS ?_; case y2_13_ => (intro w' hSw; (try dsimp only at hSw); go_simp <;> (with_reducible rfl)))
       try simp only [Act.put, lpa, lpb, lpc]
       first
        | refine sk 16 rfl (by kernel_rfl) rfl HS ?_
        | (refine tk (v := ?v2_14_) 16 rfl (by kernel_rfl) rfl ?y2_14_ HS ?_; case y2_14_ => (intro w' hSw; (try dsimp only at hSw); go_simp <;> (with_reducible rfl)))
       try simp only [Act.put, lpa, lpb, lpc]
       first
        | refine sk 17 rfl (by kernel_rfl) rfl HS ?_
        | (refine tk (v := ?v2_15_) 17 rfl (by kernel_rfl) rfl ?y2_15_ HS ?_; case y2_15_ => (intro w' hSw; (try dsimp only at hSw); go_simp <;> (with_reducible rfl)))
       try simp only [Act.put, lpa, lpb, lpc]
       first
        | refine sk 18 rfl (by kernel_rfl) rfl HS ?_
        | (refine tk (v := ?v2_16_) 18 rfl (by kernel_rfl) rfl ?y2_16_ HS ?_; case y2_16_ => (intro w' hSw; (try dsimp only at hSw); go_simp <;> (with_reducible rfl)))
       try simp only [Act.put, lpa, lpb, lpc]
       refine cl2 6 13 rfl rfl (by kernel_rfl) (fun K hK => ?a2_17_) (fun K hK => ?b2_17_)
       case a2_17_ =>
        go_simp
        refine hK.out _ _ ?s2_18_ ?r2_18_
        case s2_18_ => exact ⟨grew_cell ((Grew.refl wr).drew.alloc (.cells #[] 3)) c0, grew_cell ((Grew.refl wr).drew.alloc (.cells #[] 3)) c1, grew_cell ((Grew.refl wr).drew.alloc (.cells #[] 3)) c2, hbel.trans ((Grew.refl wr).drew.alloc (.cells #[] 3))⟩
        case r2_18_ =>
         have LA6 : Hid ((wr.drew.alloc (.cells #[] 3)).ownsRow wr.heap.size 3 1 (.slice (some ⟨wr.heap.size, 0, none⟩) 0 0) 0 []) := Lib.hid (by have h := ownsRow_base (lit_own wr.drew 3 1) (base' := wr.heap.size) ((Grew.refl wr).drew.size); simpa using h)
         clear HS
         intro HS
         clear hK K
         try simp only [Act.put, lpa, lpb, lpc]
         refine cl2 12 13 rfl rfl (by kernel_rfl) (fun K hK => ?a2_19_) (fun K hK => ?b2_19_)
         case a2_19_ =>
          rw [if_pos (by rfl)]
          refine wp_append_lit _ _ _ 66 rfl wr.heap.size 3 j0 _ 1 8 Try.underlying66 hj hy0 hy1 hy2 rfl (by decide) wr.heap.size (by first | rfl | (simp [Act.eval])) LA6.out qa x.added.length qc (ints x.added) (by first | rfl | (simp [Act.eval])) (RdA.grew HQA.out ((Grew.refl wr).drew.alloc (.cells #[] 3))) (one_ints3 _) (by unfold maxLen; omega) (by omega) (((Grew.refl wr).drew.alloc (.cells #[] 3)).size) ?_
          intro v12 w12 o12 b12 hg12
          have gg12 := ((Grew.refl wr).drew.alloc (.cells #[] 3)).trans hg12
          have s12 : (wr.heap.size + 1) ≤ w12.heap.size := by have h := hg12.size; simpa using h
          have B12 := Lib.hid (show ∀ b, v12.ownBlock = some b → (b = wr.heap.size ∨ (wr.heap.size + 1) ≤ b) ∧ b < w12.heap.size from fun b hb => ⟨by have h := b12 b hb; simpa using h, (o12.lt b hb).2⟩)
          obtain ⟨a12, e12, rfl⟩ := own_slice o12
          have LA12 := Lib.hid o12
          clear o12 b12
          refine hK.out _ _ ?s2_20_ ?r2_20_
          case s2_20_ => exact ⟨grew_cell gg12 c0, grew_cell gg12 c1, grew_cell gg12 c2, hbel.trans gg12⟩
          case r2_20_ =>
           clear HS
           intro HS
           clear hK K
           try simp only [Act.put, lpa, lpb, lpc]
           refine cl 13 rfl (by kernel_rfl) (fun K hK => ?_)
           go_simp
           refine hK.out _ _ ?s2_21_ ?r2_21_
           case s2_21_ => exact ⟨grew_cell (gg12.alloc (.cells #[] 3)) c0, grew_cell (gg12.alloc (.cells #[] 3)) c1, grew_cell (gg12.alloc (.cells #[] 3)) c2, hbel.trans (gg12.alloc (.cells #[] 3))⟩
           case r2_21_ =>
            have LA13 : Hid ((w12.alloc (.cells #[] 3)).ownsRow wr.heap.size 3 1 (.slice a12 x.added.length e12) x.added.length (ints x.added)) := Lib.hid (ownsRow_grew LA12.out ((Grew.refl _).alloc _))
            have LB13 : Hid ((w12.alloc (.cells #[] 3)).ownsRow wr.heap.size 3 1 (.slice (some ⟨w12.heap.size, 0, none⟩) 0 0) 0 []) := Lib.hid (by have h := ownsRow_base (lit_own w12 3 1) (base' := wr.heap.size) (gg12.size); simpa using h)
            clear HS
            intro HS
            clear hK K
            try simp only [Act.put, lpa, lpb, lpc]
            refine cl 19 rfl (by kernel_rfl) (fun K hK => ?_)
            rw [if_pos (by rfl)]
            refine wp_append_lit _ _ _ 66 rfl wr.heap.size 3 j0 _ 1 8 Try.underlying66 hj hy0 hy1 hy2 rfl (by decide) w12.heap.size (by first | rfl | (simp [Act.eval])) LB13.out ra x.removed.length rc (ints x.removed) (by first | rfl | (simp [Act.eval])) (RdA.grew HRA.out (gg12.alloc (.cells #[] 3))) (one_ints3 _) (by unfold maxLen; omega) (by omega) ((gg12.alloc (.cells #[] 3)).size) ?_
            intro v19 w19 o19 b19 hg19
            have gg19 := (gg12.alloc (.cells #[] 3)).trans hg19
            have s19 : (w12.heap.size + 1) ≤ w19.heap.size := by have h := hg19.size; simpa using h
            have B19 := Lib.hid (show ∀ b, v19.ownBlock = some b → (b = w12.heap.size ∨ (w12.heap.size + 1) ≤ b) ∧ b < w19.heap.size from fun b hb => ⟨by have h := b19 b hb; simpa using h, (o19.lt b hb).2⟩)
            obtain ⟨a19, e19, rfl⟩ := own_slice o19
            have LA19 : Hid (w19.ownsRow wr.heap.size 3 1 (.slice a12 x.added.length e12) x.added.length (ints x.added)) := Lib.hid (ownsRow_grew LA13.out hg19)
            have LB19 := Lib.hid o19
            clear o19 b19
            refine hK.out _ _ ?s2_22_ ?r2_22_
            case s2_22_ => exact ⟨grew_cell gg19 c0, grew_cell gg19 c1, grew_cell gg19 c2, hbel.trans gg19⟩
            case r2_22_ =>
             clear HS
             intro HS
             clear hK K
             try simp only [Act.put, lpa, lpb, lpc]
             first
              | refine sk 20 rfl (by kernel_rfl) rfl HS ?_
              | (refine tk (v := ?v2_23_) 20 rfl (by kernel_rfl) rfl ?y2_23_ HS ?_; case y2_23_ => (intro w' hSw; (try dsimp only at hSw); go_simp <;> (with_reducible rfl)))
             try simp only [Act.put, lpa, lpb, lpc]
             refine cl 21 rfl (by kernel_rfl) (fun K hK => ?_)
             go_simp
             refine hK.out _ _ ?s2_24_ ?r2_24_
             case s2_24_ => exact ⟨grew_cell (gg19.alloc (.cells #[.string x.name, .slice a12 x.added.length e12, .slice a19 x.removed.length e19] 94)) c0, grew_cell (gg19.alloc (.cells #[.string x.name, .slice a12 x.added.length e12, .slice a19 x.removed.length e19] 94)) c1, grew_cell (gg19.alloc (.cells #[.string x.name, .slice a12 x.added.length e12, .slice a19 x.removed.length e19] 94)) c2, hbel.trans (gg19.alloc (.cells #[.string x.name, .slice a12 x.added.length e12, .slice a19 x.removed.length e19] 94))⟩
             case r2_24_ =>
              clear HS
              intro HS
              clear hK K
              try simp only [Act.put, lpa, lpb, lpc]
              refine cl 22 rfl (by kernel_rfl) (fun K hK => ?_)
              rw [if_pos (by rfl)]
              refine wp_append_own _ _ _ 24 rfl w.heap.size 94 i0 _ 3 64 Try.underlying24 hi hz0 hz1 hz2 rfl (by decide) _ _ _ rfl (ownsRow_grew G1.out (gg19.alloc (.cells #[.string x.name, .slice a12 x.added.length e12, .slice a19 x.removed.length e19] 94))) ⟨_, 0, none⟩ 1 1 [.string x.name, .slice a12 x.added.length e12, .slice a19 x.removed.length e19] rfl rfl (news3 (by simp)) (fun x hx => by simp at hx; rcases hx with rfl | rfl | rfl <;> rfl) (by unfold maxLen; omega) (by omega) (by have := (hbel.trans (gg19.alloc (.cells #[.string x.name, .slice a12 x.added.length e12, .slice a19 x.removed.length e19] 94))).size; simpa using this) ?_
              intro v' w' hown' hgr2 _
              have HO2 := Lib.hid hown'
              have HG2 := Lib.hid hgr2
              have gF : Grew w w' := (hbel.trans (gg19.alloc (.cells #[.string x.name, .slice a12 x.added.length e12, .slice a19 x.removed.length e19] 94))).grown hgr2 (fun g h => (G1.out.lt g h).1)
              have HDD := Lib.hid (show ∀ b, (Value.slice a12 x.added.length e12).ownBlock = some b → (Value.slice a19 x.removed.length e19).ownBlock ≠ some b from fun b h1 h2 => by have q1 := B12.out b h1; have q2 := B19.out b h2; omega)
              have HAA := Lib.hid (show Df.O (w19.alloc (.cells #[.string x.name, .slice a12 x.added.length e12, .slice a19 x.removed.length e19] 94)) wr.heap.size (w19.alloc (.cells #[.string x.name, .slice a12 x.added.length e12, .slice a19 x.removed.length e19] 94)).heap.size x ⟨x.name, .slice a12 x.added.length e12, .slice a19 x.removed.length e19⟩ from ⟨rfl, own_of (ownsRow_grew LA19.out ((Grew.refl _).alloc _)), own_of (ownsRow_grew LB19.out ((Grew.refl _).alloc _))⟩)
              have HPS := Lib.hid (show All2 (Df.O (w19.alloc (.cells #[.string x.name, .slice a12 x.added.length e12, .slice a19 x.removed.length e19] 94)) w.heap.size wr.heap.size) (xs.take k) ps from G2.out.mono fun y q h => h.grew (gg19.alloc (.cells #[.string x.name, .slice a12 x.added.length e12, .slice a19 x.removed.length e19] 94)))
              have HOS := Lib.hid (show (w19.alloc (.cells #[.string x.name, .slice a12 x.added.length e12, .slice a19 x.removed.length e19] 94)).ownsRow w.heap.size 94 3 u3 (xs.take k).length (rows P3.c ps) by rw [HTL.out]; exact ownsRow_grew G1.out (gg19.alloc (.cells #[.string x.name, .slice a12 x.added.length e12, .slice a19 x.removed.length e19] 94)))
              have HSZ := Lib.hid ((gg19.alloc (.cells #[.string x.name, .slice a12 x.added.length e12, .slice a19 x.removed.length e19] 94)).size)
              have HNEW := Lib.hid (show Grows w' w.heap.size v' (xs.take k ++ [x]) from Grows.snoc HOS.out HPS.out G3.out HAA.out (dis_two HDD.out) hbel.size HSZ.out (by rw [HTL.out]; simpa [P3.c] using HO2.out) HG2.out HG2.out.size)
              clear hown' hgr2
              refine hK.out _ _ ?s2_25_ ?r2_25_
              case s2_25_ => exact ⟨grew_cell gF c0w, grew_cell gF c1w, grew_cell gF c2w, gF⟩
              case r2_25_ =>
               clear HS
               intro HS
               clear hK K
               try simp only [Act.put, lpa, lpb, lpc]
               first
                | refine sk 23 rfl (by kernel_rfl) rfl HS ?_
                | (refine tk (v := ?v2_26_) 23 rfl (by kernel_rfl) rfl ?y2_26_ HS ?_; case y2_26_ => (intro w' hSw; (try dsimp only at hSw); go_simp <;> (with_reducible rfl)))
               try simp only [Act.put, lpa, lpb, lpc]
               refine wpAnyH_done (by kernel_rfl) ?_ _
               refine NoPanic.normal ?_
               clear HS
               go_wp2
               go_roundw
               case rel => exact ⟨k + 1, by omega, by go_num, Lib.hid (by rw [take_snoc hxk.out]; exact HNEW.out), gF⟩
               case measure => simp [intOf]; omega
         case b2_19_ =>
          go_simp
          refine hK.out _ _ ?s2_27_ ?r2_27_
          case s2_27_ => exact ⟨grew_cell (((Grew.refl wr).drew.alloc (.cells #[] 3)).alloc (.cells #[] 3)) c0, grew_cell (((Grew.refl wr).drew.alloc (.cells #[] 3)).alloc (.cells #[] 3)) c1, grew_cell (((Grew.refl wr).drew.alloc (.cells #[] 3)).alloc (.cells #[] 3)) c2, hbel.trans (((Grew.refl wr).drew.alloc (.cells #[] 3)).alloc (.cells #[] 3))⟩
          case r2_27_ =>
           have LA13 : Hid (((wr.drew.alloc (.cells #[] 3)).alloc (.cells #[] 3)).ownsRow wr.heap.size 3 1 (.slice (some ⟨wr.heap.size, 0, none⟩) 0 0) 0 []) := Lib.hid (ownsRow_grew LA6.out ((Grew.refl _).alloc _))
           have LB13 : Hid (((wr.drew.alloc (.cells #[] 3)).alloc (.cells #[] 3)).ownsRow wr.heap.size 3 1 (.slice (some ⟨(wr.heap.size + 1), 0, none⟩) 0 0) 0 []) := Lib.hid (by have h := ownsRow_base (lit_own (wr.drew.alloc (.cells #[] 3)) 3 1) (base' := wr.heap.size) (((Grew.refl wr).drew.alloc (.cells #[] 3)).size); simpa using h)
           clear HS
           intro HS
           clear hK K
           try simp only [Act.put, lpa, lpb, lpc]
           refine cl 12 rfl (by kernel_rfl) (fun K hK => ?_)
           rw [if_pos (by rfl)]
           refine wp_append_lit _ _ _ 66 rfl wr.heap.size 3 j0 _ 1 8 Try.underlying66 hj hy0 hy1 hy2 rfl (by decide) wr.heap.size (by first | rfl | (simp [Act.eval])) LA13.out qa x.added.length qc (ints x.added) (by first | rfl | (simp [Act.eval])) (RdA.grew HQA.out (((Grew.refl wr).drew.alloc (.cells #[] 3)).alloc (.cells #[] 3))) (one_ints3 _) (by unfold maxLen; omega) (by omega) ((((Grew.refl wr).drew.alloc (.cells #[] 3)).alloc (.cells #[] 3)).size) ?_
           intro v12 w12 o12 b12 hg12
           have gg12 := (((Grew.refl wr).drew.alloc (.cells #[] 3)).alloc (.cells #[] 3)).trans hg12
           have s12 : ((wr.heap.size + 1) + 1) ≤ w12.heap.size := by have h := hg12.size; simpa using h
           have B12 := Lib.hid (show ∀ b, v12.ownBlock = some b → (b = wr.heap.size ∨ ((wr.heap.size + 1) + 1) ≤ b) ∧ b < w12.heap.size from fun b hb => ⟨by have h := b12 b hb; simpa using h, (o12.lt b hb).2⟩)
           obtain ⟨a12, e12, rfl⟩ := own_slice o12
           have LB12 : Hid (w12.ownsRow wr.heap.size 3 1 (.slice (some ⟨(wr.heap.size + 1), 0, none⟩) 0 0) 0 []) := Lib.hid (ownsRow_grew LB13.out hg12)
           have LA12 := Lib.hid o12
           clear o12 b12
           refine hK.out _ _ ?s2_28_ ?r2_28_
           case s2_28_ => exact ⟨grew_cell gg12 c0, grew_cell gg12 c1, grew_cell gg12 c2, hbel.trans gg12⟩
           case r2_28_ =>
            clear HS
            intro HS
            clear hK K
            try simp only [Act.put, lpa, lpb, lpc]
            refine cl 19 rfl (by kernel_rfl) (fun K hK => ?_)
            rw [if_pos (by rfl)]
            refine wp_append_lit _ _ _ 66 rfl wr.heap.size 3 j0 _ 1 8 Try.underlying66 hj hy0 hy1 hy2 rfl (by decide) (wr.heap.size + 1) (by first | rfl | (simp [Act.eval])) LB12.out ra x.removed.length rc (ints x.removed) (by first | rfl | (simp [Act.eval])) (RdA.grew HRA.out gg12) (one_ints3 _) (by unfold maxLen; omega) (by omega) (gg12.size) ?_
            intro v19 w19 o19 b19 hg19
            have gg19 := gg12.trans hg19
            have s19 : w12.heap.size ≤ w19.heap.size := by have h := hg19.size; simpa using h
            have B19 := Lib.hid (show ∀ b, v19.ownBlock = some b → (b = (wr.heap.size + 1) ∨ w12.heap.size ≤ b) ∧ b < w19.heap.size from fun b hb => ⟨by have h := b19 b hb; simpa using h, (o19.lt b hb).2⟩)
            obtain ⟨a19, e19, rfl⟩ := own_slice o19
            have LA19 : Hid (w19.ownsRow wr.heap.size 3 1 (.slice a12 x.added.length e12) x.added.length (ints x.added)) := Lib.hid (ownsRow_grew LA12.out hg19)
            have LB19 := Lib.hid o19
            clear o19 b19
            refine hK.out _ _ ?s2_29_ ?r2_29_
            case s2_29_ => exact ⟨grew_cell gg19 c0, grew_cell gg19 c1, grew_cell gg19 c2, hbel.trans gg19⟩
            case r2_29_ =>
             clear HS
             intro HS
             clear hK K
             try simp only [Act.put, lpa, lpb, lpc]
             first
              | refine sk 20 rfl (by kernel_rfl) rfl HS ?_
              | (refine tk (v := ?v2_30_) 20 rfl (by kernel_rfl) rfl ?y2_30_ HS ?_; case y2_30_ => (intro w' hSw; (try dsimp only at hSw); go_simp <;> (with_reducible rfl)))
             try simp only [Act.put, lpa, lpb, lpc]
             refine cl 21 rfl (by kernel_rfl) (fun K hK => ?_)
             go_simp
             refine hK.out _ _ ?s2_31_ ?r2_31_
             case s2_31_ => exact ⟨grew_cell (gg19.alloc (.cells #[.string x.name, .slice a12 x.added.length e12, .slice a19 x.removed.length e19] 94)) c0, grew_cell (gg19.alloc (.cells #[.string x.name, .slice a12 x.added.length e12, .slice a19 x.removed.length e19] 94)) c1, grew_cell (gg19.alloc (.cells #[.string x.name, .slice a12 x.added.length e12, .slice a19 x.removed.length e19] 94)) c2, hbel.trans (gg19.alloc (.cells #[.string x.name, .slice a12 x.added.length e12, .slice a19 x.removed.length e19] 94))⟩
             case r2_31_ =>
              clear HS
              intro HS
              clear hK K
              try simp only [Act.put, lpa, lpb, lpc]
              refine cl 22 rfl (by kernel_rfl) (fun K hK => ?_)
              rw [if_pos (by rfl)]
              refine wp_append_own _ _ _ 24 rfl w.heap.size 94 i0 _ 3 64 Try.underlying24 hi hz0 hz1 hz2 rfl (by decide) _ _ _ rfl (ownsRow_grew G1.out (gg19.alloc (.cells #[.string x.name, .slice a12 x.added.length e12, .slice a19 x.removed.length e19] 94))) ⟨_, 0, none⟩ 1 1 [.string x.name, .slice a12 x.added.length e12, .slice a19 x.removed.length e19] rfl rfl (news3 (by simp)) (fun x hx => by simp at hx; rcases hx with rfl | rfl | rfl <;> rfl) (by unfold maxLen; omega) (by omega) (by have := (hbel.trans (gg19.alloc (.cells #[.string x.name, .slice a12 x.added.length e12, .slice a19 x.removed.length e19] 94))).size; simpa using this) ?_
              intro v' w' hown' hgr2 _
              have HO2 := Lib.hid hown'
              have HG2 := Lib.hid hgr2
              have gF : Grew w w' := (hbel.trans (gg19.alloc (.cells #[.string x.name, .slice a12 x.added.length e12, .slice a19 x.removed.length e19] 94))).grown hgr2 (fun g h => (G1.out.lt g h).1)
              have HDD := Lib.hid (show ∀ b, (Value.slice a12 x.added.length e12).ownBlock = some b → (Value.slice a19 x.removed.length e19).ownBlock ≠ some b from fun b h1 h2 => by have q1 := B12.out b h1; have q2 := B19.out b h2; omega)
              have HAA := Lib.hid (show Df.O (w19.alloc (.cells #[.string x.name, .slice a12 x.added.length e12, .slice a19 x.removed.length e19] 94)) wr.heap.size (w19.alloc (.cells #[.string x.name, .slice a12 x.added.length e12, .slice a19 x.removed.length e19] 94)).heap.size x ⟨x.name, .slice a12 x.added.length e12, .slice a19 x.removed.length e19⟩ from ⟨rfl, own_of (ownsRow_grew LA19.out ((Grew.refl _).alloc _)), own_of (ownsRow_grew LB19.out ((Grew.refl _).alloc _))⟩)
              have HPS := Lib.hid (show All2 (Df.O (w19.alloc (.cells #[.string x.name, .slice a12 x.added.length e12, .slice a19 x.removed.length e19] 94)) w.heap.size wr.heap.size) (xs.take k) ps from G2.out.mono fun y q h => h.grew (gg19.alloc (.cells #[.string x.name, .slice a12 x.added.length e12, .slice a19 x.removed.length e19] 94)))
              have HOS := Lib.hid (show (w19.alloc (.cells #[.string x.name, .slice a12 x.added.length e12, .slice a19 x.removed.length e19] 94)).ownsRow w.heap.size 94 3 u3 (xs.take k).length (rows P3.c ps) by rw [HTL.out]; exact ownsRow_grew G1.out (gg19.alloc (.cells #[.string x.name, .slice a12 x.added.length e12, .slice a19 x.removed.length e19] 94)))
              have HSZ := Lib.hid ((gg19.alloc (.cells #[.string x.name, .slice a12 x.added.length e12, .slice a19 x.removed.length e19] 94)).size)
              have HNEW := Lib.hid (show Grows w' w.heap.size v' (xs.take k ++ [x]) from Grows.snoc HOS.out HPS.out G3.out HAA.out (dis_two HDD.out) hbel.size HSZ.out (by rw [HTL.out]; simpa [P3.c] using HO2.out) HG2.out HG2.out.size)
              clear hown' hgr2
              refine hK.out _ _ ?s2_32_ ?r2_32_
              case s2_32_ => exact ⟨grew_cell gF c0w, grew_cell gF c1w, grew_cell gF c2w, gF⟩
              case r2_32_ =>
               clear HS
               intro HS
               clear hK K
               try simp only [Act.put, lpa, lpb, lpc]
               first
                | refine sk 23 rfl (by kernel_rfl) rfl HS ?_
                | (refine tk (v := ?v2_33_) 23 rfl (by kernel_rfl) rfl ?y2_33_ HS ?_; case y2_33_ => (intro w' hSw; (try dsimp only at hSw); go_simp <;> (with_reducible rfl)))
               try simp only [Act.put, lpa, lpb, lpc]
               refine wpAnyH_done (by kernel_rfl) ?_ _
               refine NoPanic.normal ?_
               clear HS
               go_wp2
               go_roundw
               case rel => exact ⟨k + 1, by omega, by go_num, Lib.hid (by rw [take_snoc hxk.out]; exact HNEW.out), gF⟩
               case measure => simp [intOf]; omega
       case b2_17_ =>
        go_simp
        refine hK.out _ _ ?s2_34_ ?r2_34_
        case s2_34_ => exact ⟨grew_cell ((Grew.refl wr).drew.alloc (.cells #[] 3)) c0, grew_cell ((Grew.refl wr).drew.alloc (.cells #[] 3)) c1, grew_cell ((Grew.refl wr).drew.alloc (.cells #[] 3)) c2, hbel.trans ((Grew.refl wr).drew.alloc (.cells #[] 3))⟩
        case r2_34_ =>
         have LB13 : Hid ((wr.drew.alloc (.cells #[] 3)).ownsRow wr.heap.size 3 1 (.slice (some ⟨wr.heap.size, 0, none⟩) 0 0) 0 []) := Lib.hid (by have h := ownsRow_base (lit_own wr.drew 3 1) (base' := wr.heap.size) ((Grew.refl wr).drew.size); simpa using h)
         clear HS
         intro HS
         clear hK K
         try simp only [Act.put, lpa, lpb, lpc]
         refine cl 6 rfl (by kernel_rfl) (fun K hK => ?_)
         go_simp
         refine hK.out _ _ ?s2_35_ ?r2_35_
         case s2_35_ => exact ⟨grew_cell (((Grew.refl wr).drew.alloc (.cells #[] 3)).alloc (.cells #[] 3)) c0, grew_cell (((Grew.refl wr).drew.alloc (.cells #[] 3)).alloc (.cells #[] 3)) c1, grew_cell (((Grew.refl wr).drew.alloc (.cells #[] 3)).alloc (.cells #[] 3)) c2, hbel.trans (((Grew.refl wr).drew.alloc (.cells #[] 3)).alloc (.cells #[] 3))⟩
         case r2_35_ =>
          have LB6 : Hid (((wr.drew.alloc (.cells #[] 3)).alloc (.cells #[] 3)).ownsRow wr.heap.size 3 1 (.slice (some ⟨wr.heap.size, 0, none⟩) 0 0) 0 []) := Lib.hid (ownsRow_grew LB13.out ((Grew.refl _).alloc _))
          have LA6 : Hid (((wr.drew.alloc (.cells #[] 3)).alloc (.cells #[] 3)).ownsRow wr.heap.size 3 1 (.slice (some ⟨(wr.heap.size + 1), 0, none⟩) 0 0) 0 []) := Lib.hid (by have h := ownsRow_base (lit_own (wr.drew.alloc (.cells #[] 3)) 3 1) (base' := wr.heap.size) (((Grew.refl wr).drew.alloc (.cells #[] 3)).size); simpa using h)
          clear HS
          intro HS
          clear hK K
          try simp only [Act.put, lpa, lpb, lpc]
          refine cl 12 rfl (by kernel_rfl) (fun K hK => ?_)
          rw [if_pos (by rfl)]
          refine wp_append_lit _ _ _ 66 rfl wr.heap.size 3 j0 _ 1 8 Try.underlying66 hj hy0 hy1 hy2 rfl (by decide) (wr.heap.size + 1) (by first | rfl | (simp [Act.eval])) LA6.out qa x.added.length qc (ints x.added) (by first | rfl | (simp [Act.eval])) (RdA.grew HQA.out (((Grew.refl wr).drew.alloc (.cells #[] 3)).alloc (.cells #[] 3))) (one_ints3 _) (by unfold maxLen; omega) (by omega) ((((Grew.refl wr).drew.alloc (.cells #[] 3)).alloc (.cells #[] 3)).size) ?_
          intro v12 w12 o12 b12 hg12
          have gg12 := (((Grew.refl wr).drew.alloc (.cells #[] 3)).alloc (.cells #[] 3)).trans hg12
          have s12 : ((wr.heap.size + 1) + 1) ≤ w12.heap.size := by have h := hg12.size; simpa using h
          have B12 := Lib.hid (show ∀ b, v12.ownBlock = some b → (b = (wr.heap.size + 1) ∨ ((wr.heap.size + 1) + 1) ≤ b) ∧ b < w12.heap.size from fun b hb => ⟨by have h := b12 b hb; simpa using h, (o12.lt b hb).2⟩)
          obtain ⟨a12, e12, rfl⟩ := own_slice o12
          have LB12 : Hid (w12.ownsRow wr.heap.size 3 1 (.slice (some ⟨wr.heap.size, 0, none⟩) 0 0) 0 []) := Lib.hid (ownsRow_grew LB6.out hg12)
          have LA12 := Lib.hid o12
          clear o12 b12
          refine hK.out _ _ ?s2_36_ ?r2_36_
          case s2_36_ => exact ⟨grew_cell gg12 c0, grew_cell gg12 c1, grew_cell gg12 c2, hbel.trans gg12⟩
          case r2_36_ =>
           clear HS
           intro HS
           clear hK K
           try simp only [Act.put, lpa, lpb, lpc]
           refine cl 19 rfl (by kernel_rfl) (fun K hK => ?_)
           rw [if_pos (by rfl)]
           refine wp_append_lit _ _ _ 66 rfl wr.heap.size 3 j0 _ 1 8 Try.underlying66 hj hy0 hy1 hy2 rfl (by decide) wr.heap.size (by first | rfl | (simp [Act.eval])) LB12.out ra x.removed.length rc (ints x.removed) (by first | rfl | (simp [Act.eval])) (RdA.grew HRA.out gg12) (one_ints3 _) (by unfold maxLen; omega) (by omega) (gg12.size) ?_
           intro v19 w19 o19 b19 hg19
           have gg19 := gg12.trans hg19
           have s19 : w12.heap.size ≤ w19.heap.size := by have h := hg19.size; simpa using h
           have B19 := Lib.hid (show ∀ b, v19.ownBlock = some b → (b = wr.heap.size ∨ w12.heap.size ≤ b) ∧ b < w19.heap.size from fun b hb => ⟨by have h := b19 b hb; simpa using h, (o19.lt b hb).2⟩)
           obtain ⟨a19, e19, rfl⟩ := own_slice o19
           have LA19 : Hid (w19.ownsRow wr.heap.size 3 1 (.slice a12 x.added.length e12) x.added.length (ints x.added)) := Lib.hid (ownsRow_grew LA12.out hg19)
           have LB19 := Lib.hid o19
           clear o19 b19
           refine hK.out _ _ ?s2_37_ ?r2_37_
           case s2_37_ => exact ⟨grew_cell gg19 c0, grew_cell gg19 c1, grew_cell gg19 c2, hbel.trans gg19⟩
           case r2_37_ =>
            clear HS
            intro HS
            clear hK K
            try simp only [Act.put, lpa, lpb, lpc]
            first
             | refine sk 20 rfl (by kernel_rfl) rfl HS ?_
             | (refine tk (v := ?v2_38_) 20 rfl (by kernel_rfl) rfl ?y2_38_ HS ?_; case y2_38_ => (intro w' hSw; (try dsimp only at hSw); go_simp <;> (with_reducible rfl)))
            try simp only [Act.put, lpa, lpb, lpc]
            refine cl 21 rfl (by kernel_rfl) (fun K hK => ?_)
            go_simp
            refine hK.out _ _ ?s2_39_ ?r2_39_
            case s2_39_ => exact ⟨grew_cell (gg19.alloc (.cells #[.string x.name, .slice a12 x.added.length e12, .slice a19 x.removed.length e19] 94)) c0, grew_cell (gg19.alloc (.cells #[.string x.name, .slice a12 x.added.length e12, .slice a19 x.removed.length e19] 94)) c1, grew_cell (gg19.alloc (.cells #[.string x.name, .slice a12 x.added.length e12, .slice a19 x.removed.length e19] 94)) c2, hbel.trans (gg19.alloc (.cells #[.string x.name, .slice a12 x.added.length e12, .slice a19 x.removed.length e19] 94))⟩
            case r2_39_ =>
             clear HS
             intro HS
             clear hK K
             try simp only [Act.put, lpa, lpb, lpc]
             refine cl 22 rfl (by kernel_rfl) (fun K hK => ?_)
             rw [if_pos (by rfl)]
             refine wp_append_own _ _ _ 24 rfl w.heap.size 94 i0 _ 3 64 Try.underlying24 hi hz0 hz1 hz2 rfl (by decide) _ _ _ rfl (ownsRow_grew G1.out (gg19.alloc (.cells #[.string x.name, .slice a12 x.added.length e12, .slice a19 x.removed.length e19] 94))) ⟨_, 0, none⟩ 1 1 [.string x.name, .slice a12 x.added.length e12, .slice a19 x.removed.length e19] rfl rfl (news3 (by simp)) (fun x hx => by simp at hx; rcases hx with rfl | rfl | rfl <;> rfl) (by unfold maxLen; omega) (by omega) (by have := (hbel.trans (gg19.alloc (.cells #[.string x.name, .slice a12 x.added.length e12, .slice a19 x.removed.length e19] 94))).size; simpa using this) ?_
             intro v' w' hown' hgr2 _
             have HO2 := Lib.hid hown'
             have HG2 := Lib.hid hgr2
             have gF : Grew w w' := (hbel.trans (gg19.alloc (.cells #[.string x.name, .slice a12 x.added.length e12, .slice a19 x.removed.length e19] 94))).grown hgr2 (fun g h => (G1.out.lt g h).1)
             have HDD := Lib.hid (show ∀ b, (Value.slice a12 x.added.length e12).ownBlock = some b → (Value.slice a19 x.removed.length e19).ownBlock ≠ some b from fun b h1 h2 => by have q1 := B12.out b h1; have q2 := B19.out b h2; omega)
             have HAA := Lib.hid (show Df.O (w19.alloc (.cells #[.string x.name, .slice a12 x.added.length e12, .slice a19 x.removed.length e19] 94)) wr.heap.size (w19.alloc (.cells #[.string x.name, .slice a12 x.added.length e12, .slice a19 x.removed.length e19] 94)).heap.size x ⟨x.name, .slice a12 x.added.length e12, .slice a19 x.removed.length e19⟩ from ⟨rfl, own_of (ownsRow_grew LA19.out ((Grew.refl _).alloc _)), own_of (ownsRow_grew LB19.out ((Grew.refl _).alloc _))⟩)
             have HPS := Lib.hid (show All2 (Df.O (w19.alloc (.cells #[.string x.name, .slice a12 x.added.length e12, .slice a19 x.removed.length e19] 94)) w.heap.size wr.heap.size) (xs.take k) ps from G2.out.mono fun y q h => h.grew (gg19.alloc (.cells #[.string x.name, .slice a12 x.added.length e12, .slice a19 x.removed.length e19] 94)))
             have HOS := Lib.hid (show (w19.alloc (.cells #[.string x.name, .slice a12 x.added.length e12, .slice a19 x.removed.length e19] 94)).ownsRow w.heap.size 94 3 u3 (xs.take k).length (rows P3.c ps) by rw [HTL.out]; exact ownsRow_grew G1.out (gg19.alloc (.cells #[.string x.name, .slice a12 x.added.length e12, .slice a19 x.removed.length e19] 94)))
             have HSZ := Lib.hid ((gg19.alloc (.cells #[.string x.name, .slice a12 x.added.length e12, .slice a19 x.removed.length e19] 94)).size)
             have HNEW := Lib.hid (show Grows w' w.heap.size v' (xs.take k ++ [x]) from Grows.snoc HOS.out HPS.out G3.out HAA.out (dis_two HDD.out) hbel.size HSZ.out (by rw [HTL.out]; simpa [P3.c] using HO2.out) HG2.out HG2.out.size)
             clear hown' hgr2
             refine hK.out _ _ ?s2_40_ ?r2_40_
             case s2_40_ => exact ⟨grew_cell gF c0w, grew_cell gF c1w, grew_cell gF c2w, gF⟩
             case r2_40_ =>
              clear HS
              intro HS
              clear hK K
              try simp only [Act.put, lpa, lpb, lpc]
              first
               | refine sk 23 rfl (by kernel_rfl) rfl HS ?_
               | (refine tk (v := ?v2_41_) 23 rfl (by kernel_rfl) rfl ?y2_41_ HS ?_; case y2_41_ => (intro w' hSw; (try dsimp only at hSw); go_simp <;> (with_reducible rfl)))
              try simp only [Act.put, lpa, lpb, lpc]
              refine wpAnyH_done (by kernel_rfl) ?_ _
              refine NoPanic.normal ?_
              clear HS
              go_wp2
              go_roundw
              case rel => exact ⟨k + 1, by omega, by go_num, Lib.hid (by rw [take_snoc hxk.out]; exact HNEW.out), gF⟩
              case measure => simp [intOf]; omega
    · obtain rfl : k = n := by omega
      go_wp2
      go_ret
      have h1 := hgr.out
      rw [take_all HN.out] at h1
      exact ⟨_, rfl, h1, hbel⟩
    --@end
theorem wp_append_sep {P : Program} (w : World) {o : Oper} {a : Act} {K : Act → World → Prop} {Q : Exit → Act → World → Prop} (s x : Operand) (t : TypeId)
    (ho : o.op = .call { callee := .builtin .append, args := #[s, x], argTypes := #[t, t] })
    (base : Nat) (e : TypeId) (i : TypeInfo) (z : Value) (size bytes : Nat) (ht : P.underlying t = some (.slice e)) (hi : P.info? e = some i) (hz : i.zero = some z)
    (hsize : i.size = size) (hby : i.bytes = bytes) (hzs : z.cells.size = size) (hsz : 0 < size) (lit : Nat)
    (v : Value) (n : Nat) (xs : List Value) (hs : a.eval s = v) (hsep : Sep w base e size lit v n xs)
    (ad : Addr) (m c : Nat) (news : List Value) (hx : a.eval x = .slice (some ad) m c) (hm : 0 < m) (hl : news.length = m * size) (hnews : ∀ j u, news[j]? = some u → w.cell? (ad.add j) = some u) (h1 : ∀ u ∈ news, u.oneCell' = true)
    (h63 : n + m ≤ maxLen) (hbytes : (n + m) * bytes ≤ 140737488355328) (hbase : base ≤ w.heap.size)
    (h : ∀ v' w', w'.ownsRow base e size v' (n + m) (xs ++ news) → (∃ row, w.grownBy w' row ∧ ∀ k, row = some k → base ≤ k) → K (a.put o.dst v') w') : o.wp P a w K Q := by
  rcases hsep with ⟨rfl, rfl, rfl⟩ | hown
  · have hr2 := run_append_grow (P := P) w t o.type e i z ht hi hz ⟨lit, 0, none⟩ 0 0 [] (by simp) (by simp) ad m c news (by rw [hl, hsize]) hnews (by omega) (by unfold maxLen at h63; omega) (growslice_fits (by omega) (by rw [hby]; exact hbytes))
    have hge := grownCap_ge w (0 + m) 0 e
    have hcm := grownCap_le_maxLen w (0 + m) 0 e h63
    unfold Oper.wp execOp
    simp only [ho, resolve, invoke, builtin, Sem.run_bind, Sem.run_pure, Result.andThen_ok, List.map_toArray, List.map_cons, List.map_nil, hs, hx, hr2]
    refine h _ _ ?_ ⟨none, ⟨rfl, rfl, rfl, by simp, fun k hk _ => heap_alloc_old w.drew _ hk⟩, fun k hk => by cases hk⟩
    refine ⟨by simp [hl], .inr ⟨w.heap.size, _, _, rfl, hbase, heap_alloc_new w.drew _, hge, hcm, ?_, ?_⟩⟩
    · simp only [Array.size_append, List.size_toArray, size_zeroCells, hzs, List.length_nil, hl, Nat.zero_add, ← Nat.add_mul]
      congr 1
      simp only [Nat.zero_add] at hge
      omega
    · have hl2 : news.length = (0 + m) * size := by rw [hl, Nat.zero_add]
      simp only [Array.toList_append, List.nil_append]
      rw [← hl2]
      exact List.take_left
  · exact wp_append_own w s x t ho base e i z size bytes ht hi hz hsize hby hzs hsz v n xs hs hown ad m c news hx hl hnews h1 h63 hbytes hbase (fun v' w' r1 r2 _ => h v' w' r1 ⟨_, r2, fun k hk => (hown.lt k hk).1⟩)
theorem invs_at {ps : List P3} {j : Nat} {p : P3} (h : ps[j]? = some p) : ((ps.drop j).map invP).reverse = ((ps.drop (j + 1)).map invP).reverse ++ [invP p] := by
  obtain ⟨h1, h2⟩ := List.getElem?_eq_some_iff.1 h
  rw [List.drop_eq_getElem_cons h1, h2, List.map_cons, List.reverse_cons]
theorem invs_len (ps : List P3) (j : Nat) : ((ps.drop j).map invP).reverse.length = ps.length - j := by simp
set_option maxRecDepth 100000 in
set_option maxHeartbeats 4000000 in
theorem specInvertDiffs (va : Value) (xs : List Df) (w : World) (ha : RdFs w va xs) (hx : xs.length ≤ 3000000) (hs : ∀ x, x ∈ xs → x.small) :
    Calls Try.prog 14 #[va] w fun e w' => ∃ v, e = .returned v ∧ Grows w' w.heap.size v (invL xs) ∧ Grew w w' := by
  have HA := Lib.hid ha
  have HS := Lib.hid hs
  obtain ⟨qs, ⟨a, ca, rfl, hca, hra⟩, hall⟩ := ha
  clear hall hra hs
  generalize hn : xs.length = n at *
  have HN := Lib.hid hn
  clear hn
  obtain ⟨i0, hi, hz0, hz1, hz2⟩ := info_parts Try.infoDf
  have g0 := (Grew.refl w).alloc (.cells #[] 94)
  have HLIT := Lib.hid (lit_own w 94 3)
  have hs0 : (w.alloc (.cells #[] 94)).heap.size = w.heap.size + 1 := by simp
  go_enter Try.func14, Try.ntmps14
  go_wp2_with fail
  generalize w.alloc (.cells #[] 94) = w0 at g0 hs0 HLIT ⊢
  refine (specL17Copy _ xs _ (HA.out.grew g0) (by rw [HN.out]; exact hx) HS.out).mono ?_
  rintro e w1 ⟨v, rfl, hG, g1⟩
  obtain ⟨ps, p1, p2, p3⟩ := hG
  have hpl : ps.length = n := by rw [← p2.1]; exact HN.out
  rw [HN.out] at p1
  have P1 := Lib.hid p1
  have PA := Lib.hid p2
  have PD := Lib.hid p3
  have hlb : ∀ b, v.ownBlock = some b → w0.heap.size ≤ b ∧ b < w1.heap.size := fun b h => p1.lt b h
  have HLB := Lib.hid hlb
  have HPL := Lib.hid hpl
  obtain ⟨la, lc, rfl⟩ := own_slice p1
  clear p1 p2 p3 hlb hpl
  have g01 := g0.trans g1
  have hs1 := g1.size
  have HL1 := Lib.hid (ownsRow_grew HLIT.out g1)
  have hra := rd_of_own P1.out
  obtain ⟨_, _, h1, _, hra⟩ := hra
  cases h1
  go_wp2
  go_loopw [3, 5] (fun v i wr => ∃ m : Nat, m ≤ n ∧ i = .int .i64 ((m : Int) - 1) ∧ Hid (Sep wr w1.heap.size 94 3 w.heap.size v (n - m) (rows P3.c ((ps.drop m).map invP).reverse)) ∧ Grew w1 wr) (fun _ i _ => (intOf i + 1).toNat)
  case atStart => exact ⟨n, Nat.le_refl _, rfl, Lib.hid (by rw [List.drop_eq_nil_of_le (by rw [HPL.out]; exact Nat.le_refl _), Nat.sub_self]; exact Sep.lit), Grew.refl _⟩
  case round =>
    obtain ⟨m, hm, rfl, hsep, hbel⟩ := hrel
    cases m with
    | zero =>
      go_wp2
      go_ret
      have hs2 := hsep.out
      have hown := hs2.base (b0 := w.heap.size) (by omega) (ownsRow_grew HL1.out hbel)
      rw [List.drop_zero, Nat.sub_zero] at hown
      have hw := hbel.size
      refine ⟨_, rfl, ⟨(ps.map invP).reverse, ?_, ?_, ?_⟩, g01.trans hbel⟩
      · rw [invL_len, HN.out]; exact hown
      · exact all2_inv (fun x p h => ⟨h.1, h.2.2, h.2.1⟩) (PA.out.mono fun x p h => (h.grew hbel).mono (by omega) hw)
      · rw [subs_inv]; exact PD.out.perm (List.reverse_perm _).symm
    | succ t =>
      have htn : t < n := by omega
      obtain ⟨b1, o1, p, hb, hpk, e0, e1, e2⟩ := hra.getP3 htn
      cases hb
      have hI := invs_at hpk.out
      have HI := Lib.hid hI
      clear hI
      obtain ⟨x, hxk, hxO⟩ := PA.out.get hpk.out
      obtain ⟨pn, pq, pr⟩ := p
      obtain ⟨hxn, hxq, hxr⟩ := hxO
      simp only at hxn hxq hxr e0 e1 e2
      subst hxn
      obtain ⟨qa, qc, rfl⟩ := own_slice hxq.1
      obtain ⟨ra, rc, rfl⟩ := own_slice hxr.1
      clear hxq hxr
      have hpp : ((t + 1 : Nat) : Int) - 1 = t := by omega
      have ht0 : (0 : Int) ≤ t := by omega
      have htm : (t : Int) < n := by omega
      have f0 := grew_cell hbel e0
      have f1 := grew_cell hbel e1
      have f2 := grew_cell hbel e2
      have hwrap : IntKind.i64.wrap ((t : Int) - 1) = (t : Int) - 1 := by rw [IntKind.wrap_i64]; omega
      have hsz := hbel.size
      rw [hpp]
      go_wp2_with fail
      refine wp_region_noPanic ?_
      refine wp_region_held_drew (S := (fun w' => (w'.cell? ⟨b1, o1 + t * 3, none⟩ = some (.string x.name) ∧ w'.cell? ⟨b1, o1 + t * 3 + 1, none⟩ = some (.slice qa x.added.length qc) ∧ w'.cell? ⟨b1, o1 + t * 3 + 2, none⟩ = some (.slice ra x.removed.length rc) ∧ Grew w1 w'))) (by kernel_rfl) ?h3_S ?h3_r
      case h3_S => exact ⟨grew_cell (Grew.refl _).drew f0, grew_cell (Grew.refl _).drew f1, grew_cell (Grew.refl _).drew f2, hbel.drew⟩
      case h3_r =>
        intro HS
        first
          | refine sk 0 rfl (by kernel_rfl) rfl HS ?_
          | (refine tk (v := ?v3_0) 0 rfl (by kernel_rfl) rfl ?y3_0 HS ?_; case y3_0 => (intro w' hSw; (try dsimp only at hSw); go_simp <;> (with_reducible rfl)))
        try simp only [Act.put, List.setIfInBounds_toArray, List.set_cons_zero, List.set_cons_succ]
        first
          | refine sk 1 rfl (by kernel_rfl) rfl HS ?_
          | (refine tk (v := ?v3_1) 1 rfl (by kernel_rfl) rfl ?y3_1 HS ?_; case y3_1 => (intro w' hSw; (try dsimp only at hSw); go_simp <;> (with_reducible rfl)))
        try simp only [Act.put, List.setIfInBounds_toArray, List.set_cons_zero, List.set_cons_succ]
        first
          | refine sk 2 rfl (by kernel_rfl) rfl HS ?_
          | (refine tk (v := ?v3_2) 2 rfl (by kernel_rfl) rfl ?y3_2 HS ?_; case y3_2 => (intro w' hSw; (try dsimp only at hSw); go_simp <;> (with_reducible rfl)))
        try simp only [Act.put, List.setIfInBounds_toArray, List.set_cons_zero, List.set_cons_succ]
        first
          | refine sk 3 rfl (by kernel_rfl) rfl HS ?_
          | (refine tk (v := ?v3_3) 3 rfl (by kernel_rfl) rfl ?y3_3 HS ?_; case y3_3 => (intro w' hSw; (try dsimp only at hSw); go_simp <;> (with_reducible rfl)))
        try simp only [Act.put, List.setIfInBounds_toArray, List.set_cons_zero, List.set_cons_succ]
        first
          | refine sk 4 rfl (by kernel_rfl) rfl HS ?_
          | (refine tk (v := ?v3_4) 4 rfl (by kernel_rfl) rfl ?y3_4 HS ?_; case y3_4 => (intro w' hSw; (try dsimp only at hSw); go_simp <;> (with_reducible rfl)))
        try simp only [Act.put, List.setIfInBounds_toArray, List.set_cons_zero, List.set_cons_succ]
        first
          | refine sk 5 rfl (by kernel_rfl) rfl HS ?_
          | (refine tk (v := ?v3_5) 5 rfl (by kernel_rfl) rfl ?y3_5 HS ?_; case y3_5 => (intro w' hSw; (try dsimp only at hSw); go_simp <;> (with_reducible rfl)))
        try simp only [Act.put, List.setIfInBounds_toArray, List.set_cons_zero, List.set_cons_succ]
        first
          | refine sk 6 rfl (by kernel_rfl) rfl HS ?_
          | (refine tk (v := ?v3_6) 6 rfl (by kernel_rfl) rfl ?y3_6 HS ?_; case y3_6 => (intro w' hSw; (try dsimp only at hSw); go_simp <;> (with_reducible rfl)))
        try simp only [Act.put, List.setIfInBounds_toArray, List.set_cons_zero, List.set_cons_succ]
        first
          | refine sk 7 rfl (by kernel_rfl) rfl HS ?_
          | (refine tk (v := ?v3_7) 7 rfl (by kernel_rfl) rfl ?y3_7 HS ?_; case y3_7 => (intro w' hSw; (try dsimp only at hSw); go_simp <;> (with_reducible rfl)))
        try simp only [Act.put, List.setIfInBounds_toArray, List.set_cons_zero, List.set_cons_succ]
        first
          | refine sk 8 rfl (by kernel_rfl) rfl HS ?_
          | (refine tk (v := ?v3_8) 8 rfl (by kernel_rfl) rfl ?y3_8 HS ?_; case y3_8 => (intro w' hSw; (try dsimp only at hSw); go_simp <;> (with_reducible rfl)))
        try simp only [Act.put, List.setIfInBounds_toArray, List.set_cons_zero, List.set_cons_succ]
        first
          | refine sk 9 rfl (by kernel_rfl) rfl HS ?_
          | (refine tk (v := ?v3_9) 9 rfl (by kernel_rfl) rfl ?y3_9 HS ?_; case y3_9 => (intro w' hSw; (try dsimp only at hSw); go_simp <;> (with_reducible rfl)))
        try simp only [Act.put, List.setIfInBounds_toArray, List.set_cons_zero, List.set_cons_succ]
        first
          | refine sk 10 rfl (by kernel_rfl) rfl HS ?_
          | (refine tk (v := ?v3_10) 10 rfl (by kernel_rfl) rfl ?y3_10 HS ?_; case y3_10 => (intro w' hSw; (try dsimp only at hSw); go_simp <;> (with_reducible rfl)))
        try simp only [Act.put, List.setIfInBounds_toArray, List.set_cons_zero, List.set_cons_succ]
        first
          | refine sk 11 rfl (by kernel_rfl) rfl HS ?_
          | (refine tk (v := ?v3_11) 11 rfl (by kernel_rfl) rfl ?y3_11 HS ?_; case y3_11 => (intro w' hSw; (try dsimp only at hSw); go_simp <;> (with_reducible rfl)))
        try simp only [Act.put, List.setIfInBounds_toArray, List.set_cons_zero, List.set_cons_succ]
        first
          | refine sk 12 rfl (by kernel_rfl) rfl HS ?_
          | (refine tk (v := ?v3_12) 12 rfl (by kernel_rfl) rfl ?y3_12 HS ?_; case y3_12 => (intro w' hSw; (try dsimp only at hSw); go_simp <;> (with_reducible rfl)))
        try simp only [Act.put, List.setIfInBounds_toArray, List.set_cons_zero, List.set_cons_succ]
        first
          | refine sk 13 rfl (by kernel_rfl) rfl HS ?_
          | (refine tk (v := ?v3_13) 13 rfl (by kernel_rfl) rfl ?y3_13 HS ?_; case y3_13 => (intro w' hSw; (try dsimp only at hSw); go_simp <;> (with_reducible rfl)))
        try simp only [Act.put, List.setIfInBounds_toArray, List.set_cons_zero, List.set_cons_succ]
        first
          | refine sk 14 rfl (by kernel_rfl) rfl HS ?_
          | (refine tk (v := ?v3_14) 14 rfl (by kernel_rfl) rfl ?y3_14 HS ?_; case y3_14 => (intro w' hSw; (try dsimp only at hSw); go_simp <;> (with_reducible rfl)))
        try simp only [Act.put, List.setIfInBounds_toArray, List.set_cons_zero, List.set_cons_succ]
        first
          | refine sk 15 rfl (by kernel_rfl) rfl HS ?_
          | (refine tk (v := ?v3_15) 15 rfl (by kernel_rfl) rfl ?y3_15 HS ?_; case y3_15 => (intro w' hSw; (try dsimp only at hSw); go_simp <;> (with_reducible rfl)))
        try simp only [Act.put, List.setIfInBounds_toArray, List.set_cons_zero, List.set_cons_succ]
        first
          | refine sk 16 rfl (by kernel_rfl) rfl HS ?_
          | (refine tk (v := ?v3_16) 16 rfl (by kernel_rfl) rfl ?y3_16 HS ?_; case y3_16 => (intro w' hSw; (try dsimp only at hSw); go_simp <;> (with_reducible rfl)))
        try simp only [Act.put, List.setIfInBounds_toArray, List.set_cons_zero, List.set_cons_succ]
        refine cl 17 rfl (by kernel_rfl) (fun K hK => ?_)
        go_simp
        refine hK.out _ _ ?s3_17 ?r3_17
        case s3_17 => exact ⟨grew_cell ((Grew.refl wr).drew.alloc (.cells #[.string x.name, .slice ra x.removed.length rc, .slice qa x.added.length qc] 94)) f0, grew_cell ((Grew.refl wr).drew.alloc (.cells #[.string x.name, .slice ra x.removed.length rc, .slice qa x.added.length qc] 94)) f1, grew_cell ((Grew.refl wr).drew.alloc (.cells #[.string x.name, .slice ra x.removed.length rc, .slice qa x.added.length qc] 94)) f2, hbel.trans ((Grew.refl wr).drew.alloc (.cells #[.string x.name, .slice ra x.removed.length rc, .slice qa x.added.length qc] 94))⟩
        case r3_17 =>
          clear HS
          intro HS
          clear hK K
          try simp only [Act.put, List.setIfInBounds_toArray, List.set_cons_zero, List.set_cons_succ]
          refine cl 18 rfl (by kernel_rfl) (fun K hK => ?_)
          rw [if_pos (by rfl)]
          refine wp_append_sep _ _ _ 24 rfl w1.heap.size 94 i0 _ 3 64 Try.underlying24 hi hz0 hz1 hz2 rfl (by decide) w.heap.size _ _ _ rfl (hsep.out.grew ((Grew.refl wr).drew.alloc (.cells #[.string x.name, .slice ra x.removed.length rc, .slice qa x.added.length qc] 94))) ⟨_, 0, none⟩ 1 1 [.string x.name, .slice ra x.removed.length rc, .slice qa x.added.length qc] rfl (by decide) rfl (news3 (by simp)) (fun x hx => by simp at hx; rcases hx with rfl | rfl | rfl <;> rfl) (by unfold maxLen; omega) (by omega) (by have := (hbel.trans ((Grew.refl wr).drew.alloc (.cells #[.string x.name, .slice ra x.removed.length rc, .slice qa x.added.length qc] 94))).size; exact this) ?_
          intro v' w' hown' hgr2
          have HO2 := Lib.hid hown'
          have gF : Grew w1 w' := (hbel.trans ((Grew.refl wr).drew.alloc (.cells #[.string x.name, .slice ra x.removed.length rc, .slice qa x.added.length qc] 94))).sep hgr2 (Nat.le_refl _)
          clear hown' hgr2
          refine hK.out _ _ ?s3_18 ?r3_18
          case s3_18 => exact ⟨grew_cell gF e0, grew_cell gF e1, grew_cell gF e2, gF⟩
          case r3_18 =>
            clear HS
            intro HS
            clear hK K
            try simp only [Act.put, List.setIfInBounds_toArray, List.set_cons_zero, List.set_cons_succ]
            first
              | refine sk 19 rfl (by kernel_rfl) rfl HS ?_
              | (refine tk (v := ?v3_19) 19 rfl (by kernel_rfl) rfl ?y3_19 HS ?_; case y3_19 => (intro w' hSw; (try dsimp only at hSw); go_simp <;> (with_reducible rfl)))
            try simp only [Act.put, List.setIfInBounds_toArray, List.set_cons_zero, List.set_cons_succ]
            refine wpAnyH_done (by kernel_rfl) ?_ _
            refine NoPanic.normal ?_
            clear HS
            go_wp2
            go_roundw
            case rel =>
              refine ⟨t, by omega, rfl, Lib.hid (.inr ?_), gF⟩
              rw [HI.out, rows_append, show n - t = n - (t + 1) + 1 by omega]
              simpa [rows, P3.c, invP] using HO2.out
            case measure => simp [intOf] <;> omega
end Go.Proofs.Ytgekgokkbakcmaa
