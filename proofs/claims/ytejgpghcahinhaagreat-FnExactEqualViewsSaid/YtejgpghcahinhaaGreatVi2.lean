/- Texts H4, E2, C6, R1, D1, D2, as far as they are needed. -/
import Derived.Test.YtejgpghcahinhaaGreatVi1
import Derived.Test.YtejgpghcahinhaaGreatVi0
import Derived.Lib.SliceRun
import Derived.ArgAppend
namespace Go.Proofs.YtejgpghcahinhaaGreat
open Go.RowKit
set_option linter.unusedVariables false
theorem own_slice {w : World} {base : Nat} {e : TypeId} {k n : Nat} {v : Value} {cs : List Value} (h : w.ownsRow base e k v n cs) : ∃ a cap, v = .slice a n cap := by
  obtain ⟨_, ⟨rfl, rfl⟩ | ⟨g, cap, cur, rfl, _⟩⟩ := h
  · exact ⟨_, _, rfl⟩
  · exact ⟨_, _, rfl⟩
theorem own_of {w : World} {lo : Nat} {e : TypeId} {k n : Nat} {v : Value} {cs : List Value} (h : w.ownsRow lo e k v n cs) : Own w lo w.heap.size e k v n cs := ⟨h, fun b hb => (h.lt b hb).2⟩
theorem Own.blk {w : World} {lo hi : Nat} {e : TypeId} {k n : Nat} {v : Value} {cs : List Value} (h : Own w lo hi e k v n cs) {b : Nat} (hb : v.ownBlock = some b) : lo ≤ b ∧ b < hi := ⟨(h.1.lt b hb).1, h.2 b hb⟩
theorem All2.blk {α β : Type} {O : α → β → Prop} {subs : β → List Value} {lo hi : Nat} (hO : ∀ x p v b, O x p → v ∈ subs p → v.ownBlock = some b → lo ≤ b ∧ b < hi) {xs : List α} {ps : List β} (h : All2 O xs ps) {v : Value} {b : Nat} (hv : v ∈ ps.flatMap subs) (hb : v.ownBlock = some b) : lo ≤ b ∧ b < hi := by
  obtain ⟨p, hp, hvp⟩ := List.mem_flatMap.1 hv
  obtain ⟨i, hi', rfl⟩ := List.getElem_of_mem hp
  obtain ⟨x, hx, hr⟩ := h.get (List.getElem?_eq_getElem hi')
  exact hO _ _ _ _ hr hvp hb
theorem Dis.cons {v : Value} {vs : List Value} (h : Dis vs) (hn : ∀ u b, u ∈ vs → v.ownBlock = some b → u.ownBlock ≠ some b) : Dis (v :: vs) :=
  Dis.app (us := [v]) (Dis.one v) h (fun u w b hu hw hb => by simp at hu; subst hu; exact hn w b hw hb)
theorem Dis.tail {v : Value} {vs : List Value} (h : Dis (v :: vs)) : Dis vs := by
  unfold Dis at *
  rw [List.filterMap_cons] at h
  cases hv : v.ownBlock <;> simp [hv] at h
  · exact h
  · exact h.2
theorem Dis.head {v : Value} {vs : List Value} (h : Dis (v :: vs)) {u : Value} {b : Nat} (hu : u ∈ vs) (hv : v.ownBlock = some b) : u.ownBlock ≠ some b := by
  unfold Dis at h
  rw [List.filterMap_cons, hv] at h
  simp at h
  exact fun hb => h.1 u hu hb
theorem Dis.two {us vs : List Value} (h : Dis (us ++ vs)) {u v : Value} {b : Nat} (hu : u ∈ us) (hv : v ∈ vs) (hb : u.ownBlock = some b) : v.ownBlock ≠ some b := by
  unfold Dis at h
  rw [List.filterMap_append, List.nodup_append] at h
  intro hvb
  exact h.2.2 b (List.mem_filterMap.2 ⟨u, hu, hb⟩) b (List.mem_filterMap.2 ⟨v, hv, hvb⟩) rfl
theorem Dis.left {us vs : List Value} (h : Dis (us ++ vs)) : Dis us := by
  unfold Dis at *
  rw [List.filterMap_append, List.nodup_append] at h
  exact h.1
theorem Dis.right {us vs : List Value} (h : Dis (us ++ vs)) : Dis vs := by
  unfold Dis at *
  rw [List.filterMap_append, List.nodup_append] at h
  exact h.2.1
def Dr.subs (p : P2) : List Value := [p.q]
def Dr.O (w : World) (lo hi : Nat) (x : Dr) (p : P2) : Prop := p.name = x.name ∧ Own w lo hi 159 7 p.q x.query.length (rows N.c x.query)
theorem Dr.O.grew {w w' : World} {lo hi : Nat} {x : Dr} {p : P2} (h : Dr.O w lo hi x p) (hg : Grew w w') : Dr.O w' lo hi x p := ⟨h.1, (h.2).grew hg⟩
theorem Dr.O.touch {w w' : World} {lo hi a b : Nat} {x : Dr} {p : P2} (h : Dr.O w lo hi x p) (ht : Touch a b w w') (hd : hi ≤ a ∨ b ≤ lo) : Dr.O w' lo hi x p := ⟨h.1, (h.2).touch ht hd⟩
theorem Dr.O.mono {w : World} {lo hi lo' hi' : Nat} {x : Dr} {p : P2} (h : Dr.O w lo hi x p) (h1 : lo' ≤ lo) (h2 : hi ≤ hi') : Dr.O w lo' hi' x p := ⟨h.1, (h.2).mono h1 h2⟩
theorem Dr.O.rd {w : World} {lo hi : Nat} {x : Dr} {p : P2} (h : Dr.O w lo hi x p) : Dr.R w x p := ⟨h.1, (h.2).rd⟩
theorem Dr.O.blk {w : World} {lo hi : Nat} {x : Dr} {p : P2} {v : Value} {b : Nat} (h : Dr.O w lo hi x p) (hv : v ∈ Dr.subs p) (hb : v.ownBlock = some b) : lo ≤ b ∧ b < hi := by
  simp only [Dr.subs, List.mem_cons, List.not_mem_nil, or_false] at hv
  subst hv; exact (h.2).blk hb
abbrev OwnDrs (w : World) (lo hi : Nat) (v : Value) (xs : List Dr) : Prop := OwnL P2.c 2 39 Dr.subs Dr.O w lo hi v xs
theorem OwnDrs.rd {w : World} {lo hi : Nat} {v : Value} {xs : List Dr} (h : OwnDrs w lo hi v xs) : RdDs w v xs := OwnL.rd (fun _ _ _ _ _ h => h.rd) h
theorem OwnDrs.grew {w w' : World} {lo hi : Nat} {v : Value} {xs : List Dr} (h : OwnDrs w lo hi v xs) (hg : Grew w w') : OwnDrs w' lo hi v xs := OwnL.grew (fun _ _ _ _ _ _ h k => h.grew k) h hg
theorem OwnDrs.touch {w w' : World} {lo hi a b : Nat} {v : Value} {xs : List Dr} (h : OwnDrs w lo hi v xs) (ht : Touch a b w w') (hd : hi ≤ a ∨ b ≤ lo) : OwnDrs w' lo hi v xs := OwnL.touch (fun _ _ _ _ _ _ _ _ h k d => h.touch k d) h ht hd
theorem RdDs.grew {w w' : World} {v : Value} {xs : List Dr} (h : RdDs w v xs) (hg : Grew w w') : RdDs w' v xs := RdL.grew (fun _ _ _ _ h k => h.grew k) h hg
def Dr.small (x : Dr) : Prop := x.query.length ≤ 4000000
set_option maxHeartbeats 1000000 in
theorem toDir (x : Dr) (p : P2) (w : World) (h : Dr.R w x p) (hx : x.small) :
    Calls Tryz.prog 134 #[p.v] w fun e w' => ∃ p' : P2, e = .returned p'.v ∧ Dr.O w' w.heap.size w'.heap.size x p' ∧ Dis (Dr.subs p') ∧ Grew w w' := by
  obtain ⟨p_name, p_q⟩ := p
  obtain ⟨h_name, ⟨a_q, ca_q, hq_q, hca_q, hra_q⟩⟩ := h
  simp only at h_name hq_q
  subst hq_q
  have H_name := Lib.hid h_name
  clear h_name
  go_enter Tryz.func134, Tryz.ntmps134
  go_wp2_with fail
  refine (toNodeS _ _ x.query _ ⟨a_q, ca_q, rfl, hca_q, hra_q.grew ((((Grew.refl w).alloc _).alloc _).alloc _)⟩ hx).mono ?_
  rintro e w1 ⟨v, rfl, ho1, hb1⟩
  obtain ⟨a1, c1, rfl⟩ := own_slice ho1
  have g1 : Grew w w1 := ((((Grew.refl w).alloc _).alloc _).alloc _).trans hb1
  have f1_1_0 := grew_cell (a := ⟨w.heap.size + 1, 0, none⟩) hb1 (by simp [go_sem]; rfl)
  have f1_1_1 := grew_cell (a := ⟨w.heap.size + 1, 1, none⟩) hb1 (by simp [go_sem]; rfl)
  have z1_1 := fun j => grew_frozen (a := ⟨w.heap.size + 1, j, none⟩) hb1 (by simp) (by simp [go_sem])
  have f1_2_0 := grew_cell (a := ⟨w.heap.size + 1 + 1, 0, none⟩) hb1 (by simp [go_sem]; rfl)
  have f1_2_1 := grew_cell (a := ⟨w.heap.size + 1 + 1, 1, none⟩) hb1 (by simp [go_sem]; rfl)
  have z1_2 := fun j => grew_frozen (a := ⟨w.heap.size + 1 + 1, j, none⟩) hb1 (by simp) (by simp [go_sem])
  go_wp2
  have ow1 := (ownsRow_setCell_below (ownsRow_setCell_below (ownsRow_setCell_below (ownsRow_base ho1 (base' := w.heap.size + 3) (by simp)) (a := ⟨w.heap.size + 1 + 1, 1, none⟩) (by simp) (Value.slice a1 x.query.length c1)) (a := ⟨w.heap.size + 1, 0, none⟩) (by simp) (Value.string p_name)) (a := ⟨w.heap.size + 1, 1, none⟩) (by simp) (Value.slice a1 x.query.length c1))
  refine bodyPost_ret (v := P2.v ⟨p_name, .slice a1 x.query.length c1⟩) (by simp [results, Tryz.results134, go_sem, f1_1_0, f1_1_1]) rfl ⟨⟨p_name, .slice a1 x.query.length c1⟩, rfl, ⟨H_name.out, (own_of ow1).mono (by omega) (Nat.le_refl _)⟩, ?_, ?_⟩
  · exact Dis.one _
  · repeat' (first | with_reducible exact g1 | with_reducible refine Grew.setCell ?_ ?_ _ | (dsimp only; omega))
theorem Tryz.infoDr : (Tryz.prog.info? 39).map (fun i => (i.zero, i.size, i.bytes)) = some (some (P2.z.v), 2, 40) := by kernel_rfl
set_option maxHeartbeats 1000000 in
theorem toDirS (va : Value) (xs : List Dr) (w : World) (ha : RdDs w va xs) (hx : xs.length ≤ 4000000) (hs : ∀ x, x ∈ xs → x.small) :
    Calls Tryz.prog 69 #[va] w fun e w' => ∃ v, e = .returned v ∧ OwnDrs w' w.heap.size w'.heap.size v xs ∧ Grew w w' := by
  obtain ⟨qs, ⟨a, ca, rfl, hca, hra⟩, hall⟩ := ha
  have HS := Lib.hid hs
  clear hs
  have HA := Lib.hid hall
  clear hall
  generalize hn : xs.length = n at *
  have HN := Lib.hid hn
  clear hn
  obtain ⟨i0, hi, hz0, hz1, hz2⟩ := info_parts Tryz.infoDr
  go_enter Tryz.func69, Tryz.ntmps69
  go_wp2_with (at_make; refine wpList_make_full _ rfl _ _ 28 rfl w.heap.size 39 i0 _ 2 Tryz.underlying28 hi hz0 hz1 _ _ _ _ n rfl rfl rfl rfl ?b2 ?b3 (Nat.le_refl _) ?_)
  case b2 => (try rw [hz2]); omega
  case b3 => unfold maxLen; omega
  intro w0 hown0 hgrow0
  clear hi hz0 hz1 hz2
  go_wp2
  have hb0 : Grew w w0 := (Grew.refl _).grown hgrow0 (fun k h => by cases h)
  go_loopw [4] (fun i wr => ∃ (k : Nat) (ps : List P2), k ≤ n ∧ i = .int .i64 k ∧ Grew w wr ∧ w.heap.size + 1 ≤ wr.heap.size ∧ wr.ownsRow w.heap.size 39 2 (.slice (some ⟨w.heap.size, 0, none⟩) n n) n (rows P2.c (ps ++ List.replicate (n - k) P2.z)) ∧ Hid (ps.length = k) ∧ All2 (Dr.O wr (w.heap.size + 1) wr.heap.size) (xs.take k) ps ∧ Dis (ps.flatMap Dr.subs)) (fun i _ => n - (intOf i).toNat)
  case atStart =>
    refine ⟨0, [], Nat.zero_le _, rfl, hb0, ?_, ?_, rfl, All2.nil, Dis.nil⟩
    · have := hown0.lt w.heap.size rfl; omega
    · have hz := rows_made (enc := P2.c) (k := 2) P2.z (Value.cells P2.z.v) rfl rfl n
      rw [List.nil_append, Nat.sub_zero, ← hz]
      exact hown0
  case round =>
    obtain ⟨k, ps, hk, rfl, hbel, hsz, hown, hpl, hO, hD⟩ := hrel
    by_cases hlt : k < n
    · obtain ⟨b1, o1, p, rfl, hpk, c0, c1⟩ := (hra.grew hbel).getP2 hlt
      obtain ⟨x, hxk, hxr⟩ := HA.out.get hpk.out
      have hxs := HS.out x (List.mem_of_getElem? hxk.out)
      go_wp2_with fail
      refine (toDir x p _ (hxr.grew hbel) hxs).mono ?_
      rintro e w1 ⟨⟨r_name, r_q⟩, rfl, ho, hd, hb⟩
      obtain ⟨t_q, u_q, e_q⟩ := own_slice (ho.2).1
      simp only at e_q
      subst e_q
      have ho1 := ownsRow_grew hown hb
      have hf := fun j => ho1.frozenAt j
      obtain ⟨y, hy, d0, d1⟩ := ownP2 ho1 hlt
      go_wp2
      go_roundw
      case rel =>
        refine ⟨k + 1, ps ++ [(⟨r_name, .slice t_q x.query.length u_q⟩ : P2)], by omega, by go_num, ?_, ?_, ?_, Lib.hid (by have := hpl.out; simp [this]), ?_, ?_⟩
        · repeat' (first | with_reducible exact hbel | with_reducible refine Grew.setCell ?_ (Nat.le_refl _) _ | with_reducible refine Grew.trans ?_ hb)
        · have := hb.size; simp; omega
        · have hst := storeP2 ho1 hlt (⟨r_name, .slice t_q x.query.length u_q⟩ : P2)
          rw [set_append_left ps (List.replicate (n - k) P2.z) k (⟨r_name, .slice t_q x.query.length u_q⟩ : P2) P2.z (List.replicate (n - (k + 1)) P2.z) hpl.out (by rw [show n - k = (n - (k + 1)) + 1 by omega]; rfl)] at hst
          exact hst
        · have ht : Touch w.heap.size (w.heap.size + 1) w1 ((w1.setCell ⟨w.heap.size, k * 2, none⟩ (.string r_name)).setCell ⟨w.heap.size, k * 2 + 1, none⟩ (.slice t_q x.query.length u_q)) := by
            repeat' (first | with_reducible exact Touch.refl _ _ _ | with_reducible refine Touch.setCell ?_ ?_ ?_ _ | (dsimp only; omega))
          rw [take_snoc hxk.out]
          refine All2.snoc (hO.mono fun x p h => ?_) ?_
          · exact ((h.grew hb).touch ht (.inr (Nat.le_refl _))).mono (Nat.le_refl _) (by have := hb.size; simp; omega)
          · exact (ho.touch ht (.inr (by omega))).mono hsz (by simp)
        · rw [List.flatMap_append]
          refine Dis.app hD (by simpa using hd) (fun u v b hu hv h1 h2 => ?_)
          have k1 := (hO.blk (fun _ _ _ _ h => h.blk) hu h1).2
          have k2 := (ho.blk (by simpa using hv) h2).1
          omega
      case measure => simp [intOf]; omega
    · obtain rfl : k = n := by omega
      go_wp2
      go_ret
      refine ⟨_, rfl, ⟨ps, ?_, ?_, ?_⟩, hbel⟩
      · rw [HN.out]
        exact own_of (by simpa using hown)
      · rw [take_all HN.out] at hO
        exact hO.mono fun x p h => h.mono (by omega) (Nat.le_refl _)
      · refine Dis.cons hD (fun u b hu h1 h2 => ?_)
        have k2 := (hO.blk (fun _ _ _ _ h => h.blk) hu h2).1
        simp [Value.ownBlock] at h1
        omega
set_option maxHeartbeats 1000000 in
theorem eqDir (x : Dr) (p p' : P2) (w : World) (h : Dr.R w x p) (h' : Dr.R w x p') (hx : x.small) :
    Calls Tryz.prog 137 #[p.v, p'.v] w fun e w' => e = .returned (.bool true) ∧ Grew w w' := by
  obtain ⟨p_name, p_q⟩ := p
  obtain ⟨h_name, hr_q⟩ := h
  simp only at h_name hr_q
  obtain ⟨p_name', p_q'⟩ := p'
  obtain ⟨h_name', hr_q'⟩ := h'
  simp only at h_name' hr_q'
  subst h_name
  obtain rfl := h_name'
  go_enter Tryz.func137, Tryz.ntmps137
  go_wp2_with fail
  refine (eqNodeS _ _ _ x.query _ (hr_q.grew (((Grew.refl w).alloc _).alloc _)) (hr_q'.grew (((Grew.refl w).alloc _).alloc _)) hx).mono ?_
  rintro e w1 ⟨rfl, hb1⟩
  have g1 : Grew w w1 := (((Grew.refl w).alloc _).alloc _).trans hb1
  go_wp2
  go_ret
  exact ⟨rfl, g1⟩
set_option maxRecDepth 100000 in
set_option maxHeartbeats 1000000 in
theorem eqDirS (va vb : Value) (xs : List Dr) (w : World) (ha : RdDs w va xs) (hb : RdDs w vb xs) (hx : xs.length ≤ 4000000) (hs : ∀ x, x ∈ xs → x.small) :
    Calls Tryz.prog 71 #[va, vb] w fun e w' => e = .returned (.bool true) ∧ Grew w w' := by
  obtain ⟨qs, ⟨a, ca, rfl, hca, hra⟩, hall⟩ := ha
  obtain ⟨rs, ⟨b, cb, rfl, hcb, hrb⟩, hbll⟩ := hb
  have HS := Lib.hid hs
  have HA := Lib.hid hall
  have HB := Lib.hid hbll
  clear hall hbll hs
  generalize hn : xs.length = n at *
  clear hn
  go_enter Tryz.func71, Tryz.ntmps71
  go_wp2
  go_loopw [5] (fun i wr => ∃ k : Nat, k ≤ n ∧ i = .int .i64 k ∧ Grew w wr) (fun i _ => n - (intOf i).toNat)
  case atStart => exact ⟨0, Nat.zero_le _, rfl, Grew.refl _⟩
  case round =>
    obtain ⟨k, hk, rfl, hbel⟩ := hrel
    by_cases hlt : k < n
    · obtain ⟨b1, o1, p, rfl, hpk, c0, c1⟩ := (hra.grew hbel).getP2 hlt
      obtain ⟨b2, o2, q, rfl, hqk, d0, d1⟩ := (hrb.grew hbel).getP2 hlt
      obtain ⟨x, hxk, hxr⟩ := HA.out.get hpk.out
      obtain ⟨y, hyk, hyr⟩ := HB.out.get hqk.out
      obtain rfl : x = y := by have := hxk.out.symm.trans hyk.out; simpa using this
      have hxs := HS.out x (List.mem_of_getElem? hxk.out)
      go_wp2
      go_still_tail 8, (by kernel_rfl)
      change wpList _ _ _ _ _ wr.drew
      have g2 : Grew wr wr.drew := (Grew.refl _).drew
      generalize wr.drew = w2 at g2
      go_wp2_with fail
      refine (eqDir x p q _ (hxr.grew (hbel.trans g2)) (hyr.grew (hbel.trans g2)) hxs).mono ?_
      rintro e w1 ⟨rfl, hb⟩
      go_wp2
      go_roundw
      case rel => exact ⟨k + 1, by omega, by go_num, (hbel.trans g2).trans hb⟩
      case measure => simp [intOf]; omega
    · go_wp2
      go_ret
      exact ⟨rfl, hbel⟩
def Rs.subs (p : P2) : List Value := [p.q]
def Rs.O (w : World) (lo hi : Nat) (x : Rs) (p : P2) : Prop := p.name = x.name ∧ Own w lo hi 3 1 p.q x.ids.length (ints x.ids)
theorem Rs.O.grew {w w' : World} {lo hi : Nat} {x : Rs} {p : P2} (h : Rs.O w lo hi x p) (hg : Grew w w') : Rs.O w' lo hi x p := ⟨h.1, (h.2).grew hg⟩
theorem Rs.O.touch {w w' : World} {lo hi a b : Nat} {x : Rs} {p : P2} (h : Rs.O w lo hi x p) (ht : Touch a b w w') (hd : hi ≤ a ∨ b ≤ lo) : Rs.O w' lo hi x p := ⟨h.1, (h.2).touch ht hd⟩
theorem Rs.O.mono {w : World} {lo hi lo' hi' : Nat} {x : Rs} {p : P2} (h : Rs.O w lo hi x p) (h1 : lo' ≤ lo) (h2 : hi ≤ hi') : Rs.O w lo' hi' x p := ⟨h.1, (h.2).mono h1 h2⟩
theorem Rs.O.rd {w : World} {lo hi : Nat} {x : Rs} {p : P2} (h : Rs.O w lo hi x p) : Rs.R w x p := ⟨h.1, (h.2).rd⟩
theorem Rs.O.blk {w : World} {lo hi : Nat} {x : Rs} {p : P2} {v : Value} {b : Nat} (h : Rs.O w lo hi x p) (hv : v ∈ Rs.subs p) (hb : v.ownBlock = some b) : lo ≤ b ∧ b < hi := by
  simp only [Rs.subs, List.mem_cons, List.not_mem_nil, or_false] at hv
  subst hv; exact (h.2).blk hb
abbrev OwnRss (w : World) (lo hi : Nat) (v : Value) (xs : List Rs) : Prop := OwnL P2.c 2 122 Rs.subs Rs.O w lo hi v xs
theorem OwnRss.rd {w : World} {lo hi : Nat} {v : Value} {xs : List Rs} (h : OwnRss w lo hi v xs) : RdRs w v xs := OwnL.rd (fun _ _ _ _ _ h => h.rd) h
theorem OwnRss.grew {w w' : World} {lo hi : Nat} {v : Value} {xs : List Rs} (h : OwnRss w lo hi v xs) (hg : Grew w w') : OwnRss w' lo hi v xs := OwnL.grew (fun _ _ _ _ _ _ h k => h.grew k) h hg
theorem OwnRss.touch {w w' : World} {lo hi a b : Nat} {v : Value} {xs : List Rs} (h : OwnRss w lo hi v xs) (ht : Touch a b w w') (hd : hi ≤ a ∨ b ≤ lo) : OwnRss w' lo hi v xs := OwnL.touch (fun _ _ _ _ _ _ _ _ h k d => h.touch k d) h ht hd
theorem RdRs.grew {w w' : World} {v : Value} {xs : List Rs} (h : RdRs w v xs) (hg : Grew w w') : RdRs w' v xs := RdL.grew (fun _ _ _ _ h k => h.grew k) h hg
def Rs.small (x : Rs) : Prop := x.ids.length ≤ 4000000
set_option maxHeartbeats 1000000 in
theorem eqResult (x : Rs) (p p' : P2) (w : World) (h : Rs.R w x p) (h' : Rs.R w x p') (hx : x.small) :
    Calls Tryz.prog 142 #[p.v, p'.v] w fun e w' => e = .returned (.bool true) ∧ Grew w w' := by
  obtain ⟨p_name, p_q⟩ := p
  obtain ⟨h_name, hr_q⟩ := h
  simp only at h_name hr_q
  obtain ⟨p_name', p_q'⟩ := p'
  obtain ⟨h_name', hr_q'⟩ := h'
  simp only at h_name' hr_q'
  subst h_name
  obtain rfl := h_name'
  go_enter Tryz.func142, Tryz.ntmps142
  go_wp2_with fail
  refine (eqIntS _ _ _ x.ids _ (hr_q.grew (((Grew.refl w).alloc _).alloc _)) (hr_q'.grew (((Grew.refl w).alloc _).alloc _)) hx).mono ?_
  rintro e w1 ⟨rfl, hb1⟩
  have g1 : Grew w w1 := (((Grew.refl w).alloc _).alloc _).trans hb1
  go_wp2
  go_ret
  exact ⟨rfl, g1⟩
set_option maxRecDepth 100000 in
set_option maxHeartbeats 1000000 in
theorem eqResultS (va vb : Value) (xs : List Rs) (w : World) (ha : RdRs w va xs) (hb : RdRs w vb xs) (hx : xs.length ≤ 4000000) (hs : ∀ x, x ∈ xs → x.small) :
    Calls Tryz.prog 77 #[va, vb] w fun e w' => e = .returned (.bool true) ∧ Grew w w' := by
  obtain ⟨qs, ⟨a, ca, rfl, hca, hra⟩, hall⟩ := ha
  obtain ⟨rs, ⟨b, cb, rfl, hcb, hrb⟩, hbll⟩ := hb
  have HS := Lib.hid hs
  have HA := Lib.hid hall
  have HB := Lib.hid hbll
  clear hall hbll hs
  generalize hn : xs.length = n at *
  clear hn
  go_enter Tryz.func77, Tryz.ntmps77
  go_wp2
  go_loopw [5] (fun i wr => ∃ k : Nat, k ≤ n ∧ i = .int .i64 k ∧ Grew w wr) (fun i _ => n - (intOf i).toNat)
  case atStart => exact ⟨0, Nat.zero_le _, rfl, Grew.refl _⟩
  case round =>
    obtain ⟨k, hk, rfl, hbel⟩ := hrel
    by_cases hlt : k < n
    · obtain ⟨b1, o1, p, rfl, hpk, c0, c1⟩ := (hra.grew hbel).getP2 hlt
      obtain ⟨b2, o2, q, rfl, hqk, d0, d1⟩ := (hrb.grew hbel).getP2 hlt
      obtain ⟨x, hxk, hxr⟩ := HA.out.get hpk.out
      obtain ⟨y, hyk, hyr⟩ := HB.out.get hqk.out
      obtain rfl : x = y := by have := hxk.out.symm.trans hyk.out; simpa using this
      have hxs := HS.out x (List.mem_of_getElem? hxk.out)
      go_wp2
      go_still_tail 8, (by kernel_rfl)
      change wpList _ _ _ _ _ wr.drew
      have g2 : Grew wr wr.drew := (Grew.refl _).drew
      generalize wr.drew = w2 at g2
      go_wp2_with fail
      refine (eqResult x p q _ (hxr.grew (hbel.trans g2)) (hyr.grew (hbel.trans g2)) hxs).mono ?_
      rintro e w1 ⟨rfl, hb⟩
      go_wp2
      go_roundw
      case rel => exact ⟨k + 1, by omega, by go_num, (hbel.trans g2).trans hb⟩
      case measure => simp [intOf]; omega
    · go_wp2
      go_ret
      exact ⟨rfl, hbel⟩
def Fl.subs (p : P5) : List Value := [p.attrs]
def Fl.O (w : World) (lo hi : Nat) (x : Fl) (p : P5) : Prop := p.id = x.id ∧ p.owner = x.owner ∧ p.shared = x.shared ∧ p.link = x.link ∧ Own w lo hi 165 4 p.attrs x.attrs.length (rows At.c x.attrs)
theorem Fl.O.grew {w w' : World} {lo hi : Nat} {x : Fl} {p : P5} (h : Fl.O w lo hi x p) (hg : Grew w w') : Fl.O w' lo hi x p := ⟨h.1, h.2.1, h.2.2.1, h.2.2.2.1, (h.2.2.2.2).grew hg⟩
theorem Fl.O.touch {w w' : World} {lo hi a b : Nat} {x : Fl} {p : P5} (h : Fl.O w lo hi x p) (ht : Touch a b w w') (hd : hi ≤ a ∨ b ≤ lo) : Fl.O w' lo hi x p := ⟨h.1, h.2.1, h.2.2.1, h.2.2.2.1, (h.2.2.2.2).touch ht hd⟩
theorem Fl.O.mono {w : World} {lo hi lo' hi' : Nat} {x : Fl} {p : P5} (h : Fl.O w lo hi x p) (h1 : lo' ≤ lo) (h2 : hi ≤ hi') : Fl.O w lo' hi' x p := ⟨h.1, h.2.1, h.2.2.1, h.2.2.2.1, (h.2.2.2.2).mono h1 h2⟩
theorem Fl.O.rd {w : World} {lo hi : Nat} {x : Fl} {p : P5} (h : Fl.O w lo hi x p) : Fl.R w x p := ⟨h.1, h.2.1, h.2.2.1, h.2.2.2.1, (h.2.2.2.2).rd⟩
theorem Fl.O.blk {w : World} {lo hi : Nat} {x : Fl} {p : P5} {v : Value} {b : Nat} (h : Fl.O w lo hi x p) (hv : v ∈ Fl.subs p) (hb : v.ownBlock = some b) : lo ≤ b ∧ b < hi := by
  simp only [Fl.subs, List.mem_cons, List.not_mem_nil, or_false] at hv
  subst hv; exact (h.2.2.2.2).blk hb
abbrev OwnFls (w : World) (lo hi : Nat) (v : Value) (xs : List Fl) : Prop := OwnL P5.c 5 79 Fl.subs Fl.O w lo hi v xs
theorem OwnFls.rd {w : World} {lo hi : Nat} {v : Value} {xs : List Fl} (h : OwnFls w lo hi v xs) : RdLs w v xs := OwnL.rd (fun _ _ _ _ _ h => h.rd) h
theorem OwnFls.grew {w w' : World} {lo hi : Nat} {v : Value} {xs : List Fl} (h : OwnFls w lo hi v xs) (hg : Grew w w') : OwnFls w' lo hi v xs := OwnL.grew (fun _ _ _ _ _ _ h k => h.grew k) h hg
theorem OwnFls.touch {w w' : World} {lo hi a b : Nat} {v : Value} {xs : List Fl} (h : OwnFls w lo hi v xs) (ht : Touch a b w w') (hd : hi ≤ a ∨ b ≤ lo) : OwnFls w' lo hi v xs := OwnL.touch (fun _ _ _ _ _ _ _ _ h k d => h.touch k d) h ht hd
theorem RdLs.grew {w w' : World} {v : Value} {xs : List Fl} (h : RdLs w v xs) (hg : Grew w w') : RdLs w' v xs := RdL.grew (fun _ _ _ _ h k => h.grew k) h hg
def Fl.small (x : Fl) : Prop := x.attrs.length ≤ 4000000
set_option maxHeartbeats 1000000 in
theorem toFile (x : Fl) (p : P5) (w : World) (h : Fl.R w x p) (hx : x.small) :
    Calls Tryz.prog 192 #[p.v] w fun e w' => ∃ p' : P5, e = .returned p'.v ∧ Fl.O w' w.heap.size w'.heap.size x p' ∧ Dis (Fl.subs p') ∧ Grew w w' := by
  obtain ⟨p_id, p_owner, p_shared, p_link, p_attrs⟩ := p
  obtain ⟨h_id, h_owner, h_shared, h_link, ⟨a_attrs, ca_attrs, hq_attrs, hca_attrs, hra_attrs⟩⟩ := h
  simp only at h_id h_owner h_shared h_link hq_attrs
  subst hq_attrs
  have H_id := Lib.hid h_id
  clear h_id
  have H_owner := Lib.hid h_owner
  clear h_owner
  have H_shared := Lib.hid h_shared
  clear h_shared
  have H_link := Lib.hid h_link
  clear h_link
  go_enter Tryz.func192, Tryz.ntmps192
  go_wp2_with fail
  refine (toAttrS _ _ x.attrs _ ⟨a_attrs, ca_attrs, rfl, hca_attrs, hra_attrs.grew ((((Grew.refl w).alloc _).alloc _).alloc _)⟩ hx).mono ?_
  rintro e w1 ⟨v, rfl, ho1, hb1⟩
  obtain ⟨a1, c1, rfl⟩ := own_slice ho1
  have g1 : Grew w w1 := ((((Grew.refl w).alloc _).alloc _).alloc _).trans hb1
  have f1_1_0 := grew_cell (a := ⟨w.heap.size + 1, 0, none⟩) hb1 (by simp [go_sem]; rfl)
  have f1_1_1 := grew_cell (a := ⟨w.heap.size + 1, 1, none⟩) hb1 (by simp [go_sem]; rfl)
  have f1_1_2 := grew_cell (a := ⟨w.heap.size + 1, 2, none⟩) hb1 (by simp [go_sem]; rfl)
  have f1_1_3 := grew_cell (a := ⟨w.heap.size + 1, 3, none⟩) hb1 (by simp [go_sem]; rfl)
  have f1_1_4 := grew_cell (a := ⟨w.heap.size + 1, 4, none⟩) hb1 (by simp [go_sem]; rfl)
  have z1_1 := fun j => grew_frozen (a := ⟨w.heap.size + 1, j, none⟩) hb1 (by simp) (by simp [go_sem])
  have f1_2_0 := grew_cell (a := ⟨w.heap.size + 1 + 1, 0, none⟩) hb1 (by simp [go_sem]; rfl)
  have f1_2_1 := grew_cell (a := ⟨w.heap.size + 1 + 1, 1, none⟩) hb1 (by simp [go_sem]; rfl)
  have f1_2_2 := grew_cell (a := ⟨w.heap.size + 1 + 1, 2, none⟩) hb1 (by simp [go_sem]; rfl)
  have f1_2_3 := grew_cell (a := ⟨w.heap.size + 1 + 1, 3, none⟩) hb1 (by simp [go_sem]; rfl)
  have f1_2_4 := grew_cell (a := ⟨w.heap.size + 1 + 1, 4, none⟩) hb1 (by simp [go_sem]; rfl)
  have z1_2 := fun j => grew_frozen (a := ⟨w.heap.size + 1 + 1, j, none⟩) hb1 (by simp) (by simp [go_sem])
  go_wp2
  have ow1 := (ownsRow_setCell_below (ownsRow_setCell_below (ownsRow_setCell_below (ownsRow_setCell_below (ownsRow_setCell_below (ownsRow_setCell_below (ownsRow_base ho1 (base' := w.heap.size + 3) (by simp)) (a := ⟨w.heap.size + 1 + 1, 4, none⟩) (by simp) (Value.slice a1 x.attrs.length c1)) (a := ⟨w.heap.size + 1, 0, none⟩) (by simp) (Value.int .i64 p_id)) (a := ⟨w.heap.size + 1, 1, none⟩) (by simp) (Value.int .i64 p_owner)) (a := ⟨w.heap.size + 1, 2, none⟩) (by simp) (Value.bool p_shared)) (a := ⟨w.heap.size + 1, 3, none⟩) (by simp) (Value.int .i64 p_link)) (a := ⟨w.heap.size + 1, 4, none⟩) (by simp) (Value.slice a1 x.attrs.length c1))
  refine bodyPost_ret (v := P5.v ⟨p_id, p_owner, p_shared, p_link, .slice a1 x.attrs.length c1⟩) (by simp [results, Tryz.results192, go_sem, f1_1_0, f1_1_1, f1_1_2, f1_1_3, f1_1_4]) rfl ⟨⟨p_id, p_owner, p_shared, p_link, .slice a1 x.attrs.length c1⟩, rfl, ⟨H_id.out, H_owner.out, H_shared.out, H_link.out, (own_of ow1).mono (by omega) (Nat.le_refl _)⟩, ?_, ?_⟩
  · exact Dis.one _
  · repeat' (first | with_reducible exact g1 | with_reducible refine Grew.setCell ?_ ?_ _ | (dsimp only; omega))
theorem Tryz.infoFl : (Tryz.prog.info? 79).map (fun i => (i.zero, i.size, i.bytes)) = some (some (P5.z.v), 5, 56) := by kernel_rfl
set_option maxHeartbeats 1000000 in
theorem toFileS (va : Value) (xs : List Fl) (w : World) (ha : RdLs w va xs) (hx : xs.length ≤ 4000000) (hs : ∀ x, x ∈ xs → x.small) :
    Calls Tryz.prog 133 #[va] w fun e w' => ∃ v, e = .returned v ∧ OwnFls w' w.heap.size w'.heap.size v xs ∧ Grew w w' := by
  obtain ⟨qs, ⟨a, ca, rfl, hca, hra⟩, hall⟩ := ha
  have HS := Lib.hid hs
  clear hs
  have HA := Lib.hid hall
  clear hall
  generalize hn : xs.length = n at *
  have HN := Lib.hid hn
  clear hn
  obtain ⟨i0, hi, hz0, hz1, hz2⟩ := info_parts Tryz.infoFl
  go_enter Tryz.func133, Tryz.ntmps133
  go_wp2_with (at_make; refine wpList_make_full _ rfl _ _ 25 rfl w.heap.size 79 i0 _ 5 Tryz.underlying25 hi hz0 hz1 _ _ _ _ n rfl rfl rfl rfl ?b2 ?b3 (Nat.le_refl _) ?_)
  case b2 => (try rw [hz2]); omega
  case b3 => unfold maxLen; omega
  intro w0 hown0 hgrow0
  clear hi hz0 hz1 hz2
  go_wp2
  have hb0 : Grew w w0 := (Grew.refl _).grown hgrow0 (fun k h => by cases h)
  go_loopw [4] (fun i wr => ∃ (k : Nat) (ps : List P5), k ≤ n ∧ i = .int .i64 k ∧ Grew w wr ∧ w.heap.size + 1 ≤ wr.heap.size ∧ wr.ownsRow w.heap.size 79 5 (.slice (some ⟨w.heap.size, 0, none⟩) n n) n (rows P5.c (ps ++ List.replicate (n - k) P5.z)) ∧ Hid (ps.length = k) ∧ All2 (Fl.O wr (w.heap.size + 1) wr.heap.size) (xs.take k) ps ∧ Dis (ps.flatMap Fl.subs)) (fun i _ => n - (intOf i).toNat)
  case atStart =>
    refine ⟨0, [], Nat.zero_le _, rfl, hb0, ?_, ?_, rfl, All2.nil, Dis.nil⟩
    · have := hown0.lt w.heap.size rfl; omega
    · have hz := rows_made (enc := P5.c) (k := 5) P5.z (Value.cells P5.z.v) rfl rfl n
      rw [List.nil_append, Nat.sub_zero, ← hz]
      exact hown0
  case round =>
    obtain ⟨k, ps, hk, rfl, hbel, hsz, hown, hpl, hO, hD⟩ := hrel
    by_cases hlt : k < n
    · obtain ⟨b1, o1, p, rfl, hpk, c0, c1, c2, c3, c4⟩ := (hra.grew hbel).getP5 hlt
      obtain ⟨x, hxk, hxr⟩ := HA.out.get hpk.out
      have hxs := HS.out x (List.mem_of_getElem? hxk.out)
      go_wp2_with fail
      refine (toFile x p _ (hxr.grew hbel) hxs).mono ?_
      rintro e w1 ⟨⟨r_id, r_owner, r_shared, r_link, r_attrs⟩, rfl, ho, hd, hb⟩
      obtain ⟨t_attrs, u_attrs, e_attrs⟩ := own_slice (ho.2.2.2.2).1
      simp only at e_attrs
      subst e_attrs
      have ho1 := ownsRow_grew hown hb
      have hf := fun j => ho1.frozenAt j
      obtain ⟨y, hy, d0, d1, d2, d3, d4⟩ := ownP5 ho1 hlt
      go_wp2
      go_roundw
      case rel =>
        refine ⟨k + 1, ps ++ [(⟨r_id, r_owner, r_shared, r_link, .slice t_attrs x.attrs.length u_attrs⟩ : P5)], by omega, by go_num, ?_, ?_, ?_, Lib.hid (by have := hpl.out; simp [this]), ?_, ?_⟩
        · repeat' (first | with_reducible exact hbel | with_reducible refine Grew.setCell ?_ (Nat.le_refl _) _ | with_reducible refine Grew.trans ?_ hb)
        · have := hb.size; simp; omega
        · have hst := storeP5 ho1 hlt (⟨r_id, r_owner, r_shared, r_link, .slice t_attrs x.attrs.length u_attrs⟩ : P5)
          rw [set_append_left ps (List.replicate (n - k) P5.z) k (⟨r_id, r_owner, r_shared, r_link, .slice t_attrs x.attrs.length u_attrs⟩ : P5) P5.z (List.replicate (n - (k + 1)) P5.z) hpl.out (by rw [show n - k = (n - (k + 1)) + 1 by omega]; rfl)] at hst
          exact hst
        · have ht : Touch w.heap.size (w.heap.size + 1) w1 (((((w1.setCell ⟨w.heap.size, k * 5, none⟩ (.int .i64 r_id)).setCell ⟨w.heap.size, k * 5 + 1, none⟩ (.int .i64 r_owner)).setCell ⟨w.heap.size, k * 5 + 2, none⟩ (.bool r_shared)).setCell ⟨w.heap.size, k * 5 + 3, none⟩ (.int .i64 r_link)).setCell ⟨w.heap.size, k * 5 + 4, none⟩ (.slice t_attrs x.attrs.length u_attrs)) := by
            repeat' (first | with_reducible exact Touch.refl _ _ _ | with_reducible refine Touch.setCell ?_ ?_ ?_ _ | (dsimp only; omega))
          rw [take_snoc hxk.out]
          refine All2.snoc (hO.mono fun x p h => ?_) ?_
          · exact ((h.grew hb).touch ht (.inr (Nat.le_refl _))).mono (Nat.le_refl _) (by have := hb.size; simp; omega)
          · exact (ho.touch ht (.inr (by omega))).mono hsz (by simp)
        · rw [List.flatMap_append]
          refine Dis.app hD (by simpa using hd) (fun u v b hu hv h1 h2 => ?_)
          have k1 := (hO.blk (fun _ _ _ _ h => h.blk) hu h1).2
          have k2 := (ho.blk (by simpa using hv) h2).1
          omega
      case measure => simp [intOf]; omega
    · obtain rfl : k = n := by omega
      go_wp2
      go_ret
      refine ⟨_, rfl, ⟨ps, ?_, ?_, ?_⟩, hbel⟩
      · rw [HN.out]
        exact own_of (by simpa using hown)
      · rw [take_all HN.out] at hO
        exact hO.mono fun x p h => h.mono (by omega) (Nat.le_refl _)
      · refine Dis.cons hD (fun u b hu h1 h2 => ?_)
        have k2 := (hO.blk (fun _ _ _ _ h => h.blk) hu h2).1
        simp [Value.ownBlock] at h1
        omega
set_option maxHeartbeats 1000000 in
theorem eqFile (x : Fl) (p p' : P5) (w : World) (h : Fl.R w x p) (h' : Fl.R w x p') (hx : x.small) :
    Calls Tryz.prog 195 #[p.v, p'.v] w fun e w' => e = .returned (.bool true) ∧ Grew w w' := by
  obtain ⟨p_id, p_owner, p_shared, p_link, p_attrs⟩ := p
  obtain ⟨h_id, h_owner, h_shared, h_link, hr_attrs⟩ := h
  simp only at h_id h_owner h_shared h_link hr_attrs
  obtain ⟨p_id', p_owner', p_shared', p_link', p_attrs'⟩ := p'
  obtain ⟨h_id', h_owner', h_shared', h_link', hr_attrs'⟩ := h'
  simp only at h_id' h_owner' h_shared' h_link' hr_attrs'
  subst h_id
  obtain rfl := h_id'
  subst h_owner
  obtain rfl := h_owner'
  subst h_shared
  obtain rfl := h_shared'
  subst h_link
  obtain rfl := h_link'
  go_enter Tryz.func195, Tryz.ntmps195
  go_wp2_with fail
  refine (eqAttrS _ _ _ x.attrs _ (hr_attrs.grew (((Grew.refl w).alloc _).alloc _)) (hr_attrs'.grew (((Grew.refl w).alloc _).alloc _)) hx).mono ?_
  rintro e w1 ⟨rfl, hb1⟩
  have g1 : Grew w w1 := (((Grew.refl w).alloc _).alloc _).trans hb1
  go_wp2
  go_ret
  exact ⟨rfl, g1⟩
set_option maxRecDepth 100000 in
set_option maxHeartbeats 1000000 in
theorem eqFileS (va vb : Value) (xs : List Fl) (w : World) (ha : RdLs w va xs) (hb : RdLs w vb xs) (hx : xs.length ≤ 4000000) (hs : ∀ x, x ∈ xs → x.small) :
    Calls Tryz.prog 136 #[va, vb] w fun e w' => e = .returned (.bool true) ∧ Grew w w' := by
  obtain ⟨qs, ⟨a, ca, rfl, hca, hra⟩, hall⟩ := ha
  obtain ⟨rs, ⟨b, cb, rfl, hcb, hrb⟩, hbll⟩ := hb
  have HS := Lib.hid hs
  have HA := Lib.hid hall
  have HB := Lib.hid hbll
  clear hall hbll hs
  generalize hn : xs.length = n at *
  clear hn
  go_enter Tryz.func136, Tryz.ntmps136
  go_wp2
  go_loopw [5] (fun i wr => ∃ k : Nat, k ≤ n ∧ i = .int .i64 k ∧ Grew w wr) (fun i _ => n - (intOf i).toNat)
  case atStart => exact ⟨0, Nat.zero_le _, rfl, Grew.refl _⟩
  case round =>
    obtain ⟨k, hk, rfl, hbel⟩ := hrel
    by_cases hlt : k < n
    · obtain ⟨b1, o1, p, rfl, hpk, c0, c1, c2, c3, c4⟩ := (hra.grew hbel).getP5 hlt
      obtain ⟨b2, o2, q, rfl, hqk, d0, d1, d2, d3, d4⟩ := (hrb.grew hbel).getP5 hlt
      obtain ⟨x, hxk, hxr⟩ := HA.out.get hpk.out
      obtain ⟨y, hyk, hyr⟩ := HB.out.get hqk.out
      obtain rfl : x = y := by have := hxk.out.symm.trans hyk.out; simpa using this
      have hxs := HS.out x (List.mem_of_getElem? hxk.out)
      go_wp2
      go_still_tail 8, (by kernel_rfl)
      change wpList _ _ _ _ _ wr.drew
      have g2 : Grew wr wr.drew := (Grew.refl _).drew
      generalize wr.drew = w2 at g2
      go_wp2_with fail
      refine (eqFile x p q _ (hxr.grew (hbel.trans g2)) (hyr.grew (hbel.trans g2)) hxs).mono ?_
      rintro e w1 ⟨rfl, hb⟩
      go_wp2
      go_roundw
      case rel => exact ⟨k + 1, by omega, by go_num, (hbel.trans g2).trans hb⟩
      case measure => simp [intOf]; omega
    · go_wp2
      go_ret
      exact ⟨rfl, hbel⟩
end Go.Proofs.YtejgpghcahinhaaGreat
namespace Go.Proofs.YtejgpghcahinhaaGreat
open Go.RowKit
set_option linter.unusedVariables false
theorem held4 {wr w' w1 : World} {a b c d : Addr} {u v x y : Value} (h : w'.cell? a = some u ∧ w'.cell? b = some v ∧ w'.cell? c = some x ∧ w'.cell? d = some y ∧ Grew wr w') (hb : Grew w' w1) : w1.cell? a = some u ∧ w1.cell? b = some v ∧ w1.cell? c = some x ∧ w1.cell? d = some y ∧ Grew wr w1 :=
  ⟨grew_cell hb h.1, grew_cell hb h.2.1, grew_cell hb h.2.2.1, grew_cell hb h.2.2.2.1, h.2.2.2.2.trans hb⟩
theorem last4 {p q r s t : Prop} (h : p ∧ q ∧ r ∧ s ∧ t) : t := h.2.2.2.2
theorem All2.len {α β : Type} {O : α → β → Prop} {xs : List α} {ps : List β} (h : All2 O xs ps) : xs.length = ps.length := h.1
noncomputable def sameRs (x y : Rs) : Bool := x.name.toList == y.name.toList && sameB x.ids y.ids
set_option maxRecDepth 100000 in
set_option maxHeartbeats 1000000 in
theorem specEqualResults (va vb : Value) (xs ys : List Rs) (w : World) (ha : RdRs w va xs) (hb : RdRs w vb ys) (hx : xs.length ≤ 4000000) (hy : ys.length ≤ 4000000) (hs : ∀ x, x ∈ xs → x.small) (ht : ∀ x, x ∈ ys → x.small) :
    Calls Tryz.prog 84 #[va, vb] w fun e w' => e = .returned (.bool (eqL sameRs xs ys)) ∧ Grew w w' := by
  obtain ⟨qs, ⟨a, ca, rfl, hca, hra⟩, hall⟩ := ha
  obtain ⟨rs, ⟨b, cb, rfl, hcb, hrb⟩, hbll⟩ := hb
  have HS := Lib.hid hs
  have HT := Lib.hid ht
  have HA := Lib.hid hall
  have HB := Lib.hid hbll
  clear hall hbll hs ht
  generalize hn : xs.length = n at hx hra
  generalize hm : ys.length = m at hy hrb
  have HX := Lib.hid hn
  have HY := Lib.hid hm
  clear hn hm
  by_cases hnm : n = m
  · subst hnm
    go_enter Tryz.func84, Tryz.ntmps84
    go_wp2
    go_loopw [5] (fun i wr => ∃ k : Nat, k ≤ n ∧ i = .int .i64 k ∧ Hid (∀ (j : Nat) x y, j < k → xs[j]? = some x → ys[j]? = some y → sameRs x y = true) ∧ Grew w wr) (fun i _ => n - (intOf i).toNat)
    case atStart => exact ⟨0, Nat.zero_le _, rfl, Lib.hid (fun j x y h => absurd h (Nat.not_lt_zero j)), Grew.refl _⟩
    case round =>
      obtain ⟨k, hk, rfl, hsame, hbel⟩ := hrel
      by_cases hlt : k < n
      · obtain ⟨b1, o1, p, rfl, hpk, c0, c1⟩ := (hra.grew hbel).getP2 hlt
        obtain ⟨b2, o2, q, rfl, hqk, d0, d1⟩ := (hrb.grew hbel).getP2 hlt
        obtain ⟨x, hxk, hxr⟩ := HA.out.get hpk.out
        obtain ⟨y, hyk, hyr⟩ := HB.out.get hqk.out
        have hxs := HS.out x (List.mem_of_getElem? hxk.out)
        have hys := HT.out y (List.mem_of_getElem? hyk.out)
        obtain ⟨pn, pq⟩ := p
        obtain ⟨qn, qq⟩ := q
        obtain ⟨hxn, hxq⟩ := hxr
        obtain ⟨hyn, hyq⟩ := hyr
        simp only at hxn hyn hxq hyq c0 c1 d0 d1
        have HXQ := Lib.hid hxq
        have HYQ := Lib.hid hyq
        obtain ⟨pa, pc, rfl, hpc, hpr⟩ := hxq
        obtain ⟨qa, qc, rfl, hqc, hqr⟩ := hyq
        clear hpr hqr
        unfold Rs.small at hxs hys
        obtain ⟨v, hv⟩ : ∃ v, v = sameB x.ids y.ids := ⟨_, rfl⟩
        have hw : sameRs x y = (pn.toList == qn.toList && v) := by rw [hv, hxn, hyn]; rfl
        have HW := Lib.hid hw
        have HV := Lib.hid hv
        clear hw hv hxn hyn
        have hnn : (pn.toList == qn.toList) = false ∨ (pn.toList == qn.toList) = true := by cases pn.toList == qn.toList <;> simp
        rcases hnn with hnn | hnn
        · go_wp2_with fail
          go_quiet (fail)
          go_wp2
          go_ret
          exact ⟨ret_bool (eqL_at hxk.out hyk.out (by rw [HW.out, hnn]; rfl)).symm, hbel.drewN _⟩
        · cases v
          all_goals
            go_wp2_with fail
            go_region_held3 (fun w' => w'.cell? ⟨b1, o1 + k * 2, none⟩ = some (.string pn) ∧ w'.cell? ⟨b2, o2 + k * 2, none⟩ = some (.string qn) ∧ w'.cell? ⟨b1, o1 + k * 2 + 1, none⟩ = some (.slice pa x.ids.length pc) ∧ w'.cell? ⟨b2, o2 + k * 2 + 1, none⟩ = some (.slice qa y.ids.length qc) ∧ Grew wr w') (first | exact ⟨c0, d0, c1, d1, (Grew.refl _).drew⟩ | exact held4 (by assumption) (by assumption)) (first | (go_at_call 96; refine (l07Ints _ _ _ _ x.ids y.ids _ (HXQ.out.grew (hbel.trans (last4 (by assumption)))) (HYQ.out.grew (hbel.trans (last4 (by assumption)))) hxs hys).mono ?_; rintro e w1 ⟨he, hb⟩; rw [← HV.out] at he; subst he))
          · go_wp2
            go_ret
            exact ⟨ret_bool (eqL_at hxk.out hyk.out (by rw [HW.out]; simp)).symm, hbel.trans (last4 (by assumption))⟩
          · go_wp2
            go_roundw
            case rel => exact ⟨k + 1, by omega, by go_num, Lib.hid (eqL_snoc hsame.out hxk.out hyk.out (by rw [HW.out, hnn]; rfl)), hbel.trans (last4 (by assumption))⟩
            case measure => simp [intOf]; omega
      · go_wp2
        go_ret
        obtain rfl : k = n := by omega
        exact ⟨ret_bool (eqL_all HX.out HY.out hsame.out).symm, hbel⟩
  · go_enter Tryz.func84, Tryz.ntmps84
    go_wp2
    go_ret
    exact ⟨ret_bool (eqL_len (by rw [HX.out, HY.out]; exact hnm)).symm, Grew.refl _⟩
set_option maxHeartbeats 1000000 in
theorem cloRs (x y : Rs) (p p' : P2) (w : World) (h : Rs.R w x p) (h' : Rs.R w y p') (hx : x.small) (hy : y.small) :
    Calls Tryz.prog 149 #[p.v, p'.v] w fun e w' => e = .returned (.bool (sameRs x y)) ∧ Grew w w' := by
  obtain ⟨pn, pq⟩ := p
  obtain ⟨qn, qq⟩ := p'
  obtain ⟨hxn, hxq⟩ := h
  obtain ⟨hyn, hyq⟩ := h'
  simp only at hxn hyn hxq hyq
  have hw : sameRs x y = (pn.toList == qn.toList && sameB x.ids y.ids) := by rw [hxn, hyn]; rfl
  have HW := Lib.hid hw
  clear hw hxn hyn
  unfold Rs.small at hx hy
  have hnn : (pn.toList == qn.toList) = false ∨ (pn.toList == qn.toList) = true := by cases pn.toList == qn.toList <;> simp
  rcases hnn with hnn | hnn
  all_goals
    go_enter Tryz.func149, Tryz.ntmps149
    go_wp2_with (go_at_call 114; refine (slEqualInt _ _ _ _ x.ids y.ids _ (hxq.grew (((Grew.refl w).alloc _).alloc _)) (hyq.grew (((Grew.refl w).alloc _).alloc _)) hx hy).mono ?_; rintro e w1 ⟨rfl, hb⟩)
    go_ret
  · exact ⟨ret_bool (by rw [HW.out, hnn]; rfl), ((Grew.refl w).alloc _).alloc _⟩
  · exact ⟨ret_bool (by rw [HW.out, hnn]; rfl), (((Grew.refl w).alloc _).alloc _).trans hb⟩
set_option maxRecDepth 100000 in
set_option maxHeartbeats 1000000 in
theorem slEqualFuncRs (va vb : Value) (xs ys : List Rs) (w : World) (ha : RdRs w va xs) (hb : RdRs w vb ys) (hx : xs.length ≤ 4000000) (hy : ys.length ≤ 4000000) (hs : ∀ x, x ∈ xs → x.small) (ht : ∀ x, x ∈ ys → x.small) :
    Calls Tryz.prog 148 #[va, vb, .func (.func 149) #[] #[]] w fun e w' => e = .returned (.bool (eqL sameRs xs ys)) ∧ Grew w w' := by
  obtain ⟨qs, ⟨a, ca, rfl, hca, hra⟩, hall⟩ := ha
  obtain ⟨rs, ⟨b, cb, rfl, hcb, hrb⟩, hbll⟩ := hb
  have HS := Lib.hid hs
  have HT := Lib.hid ht
  have HA := Lib.hid hall
  have HB := Lib.hid hbll
  clear hall hbll hs ht
  generalize hn : xs.length = n at hx hra
  generalize hm : ys.length = m at hy hrb
  have HX := Lib.hid hn
  have HY := Lib.hid hm
  clear hn hm
  by_cases hnm : n = m
  · subst hnm
    go_enter Tryz.func148, Tryz.ntmps148
    go_wp2
    go_loopw [7, 17] (fun _ i wr => ∃ k : Nat, k ≤ n ∧ i = .int .i64 k ∧ Hid (∀ (j : Nat) x y, j < k → xs[j]? = some x → ys[j]? = some y → sameRs x y = true) ∧ Grew w wr) (fun _ i _ => n - (intOf i).toNat)
    case atStart => exact ⟨0, Nat.zero_le _, rfl, Lib.hid (fun j x y h => absurd h (Nat.not_lt_zero j)), Grew.refl _⟩
    case round =>
      obtain ⟨k, hk, rfl, hsame, hbel⟩ := hrel
      by_cases hlt : k < n
      · obtain ⟨b1, o1, p, rfl, hpk, c0, c1⟩ := (hra.grew hbel).getP2 hlt
        obtain ⟨b2, o2, q, rfl, hqk, d0, d1⟩ := (hrb.grew hbel).getP2 hlt
        obtain ⟨x, hxk, hxr⟩ := HA.out.get hpk.out
        obtain ⟨y, hyk, hyr⟩ := HB.out.get hqk.out
        have hxs := HS.out x (List.mem_of_getElem? hxk.out)
        have hys := HT.out y (List.mem_of_getElem? hyk.out)
        obtain ⟨pn, pq⟩ := p
        obtain ⟨qn, qq⟩ := q
        have HXR := Lib.hid hxr
        have HYR := Lib.hid hyr
        obtain ⟨hxn, hxq⟩ := hxr
        obtain ⟨hyn, hyq⟩ := hyr
        simp only at hxn hyn hxq hyq c0 c1 d0 d1
        clear hxn hyn
        obtain ⟨pa, pc, rfl, hpc, hpr⟩ := hxq
        obtain ⟨qa, qc, rfl, hqc, hqr⟩ := hyq
        clear hpr hqr
        obtain ⟨v, hv⟩ : ∃ v, v = sameRs x y := ⟨_, rfl⟩
        have HV := Lib.hid hv
        clear hv
        have hv : v = false ∨ v = true := by cases v <;> simp
        have e0 := grew_cell ((Grew.refl wr).alloc (.cells #[.string pn, .slice pa x.ids.length pc] 122)) d0
        have e1 := grew_cell ((Grew.refl wr).alloc (.cells #[.string pn, .slice pa x.ids.length pc] 122)) d1
        rcases hv with rfl | rfl
        all_goals
          go_wp2_with (go_at_call 149; refine (cloRs x y ⟨pn, _⟩ ⟨qn, _⟩ _ (HXR.out.grew ((hbel.alloc _).alloc _)) (HYR.out.grew ((hbel.alloc _).alloc _)) hxs hys).mono ?_; rintro e w1 ⟨he, hb⟩; rw [← HV.out] at he; subst he)
        · go_ret
          exact ⟨ret_bool (eqL_at hxk.out hyk.out HV.out.symm).symm, ((hbel.alloc _).alloc _).trans hb⟩
        · refine ⟨⟨k + 1, by omega, by go_num, Lib.hid (eqL_snoc hsame.out hxk.out hyk.out HV.out.symm), ((hbel.alloc _).alloc _).trans hb⟩, ?_⟩
          simp [intOf]; omega
      · go_wp2
        go_ret
        obtain rfl : k = n := by omega
        exact ⟨ret_bool (eqL_all HX.out HY.out hsame.out).symm, hbel⟩
  · go_enter Tryz.func148, Tryz.ntmps148
    go_wp2
    go_ret
    exact ⟨ret_bool (eqL_len (by rw [HX.out, HY.out]; exact hnm)).symm, Grew.refl _⟩
set_option maxRecDepth 100000 in
set_option maxHeartbeats 1000000 in
theorem implEqualResults (va vb : Value) (xs ys : List Rs) (w : World) (ha : RdRs w va xs) (hb : RdRs w vb ys) (hx : xs.length ≤ 4000000) (hy : ys.length ≤ 4000000) (hs : ∀ x, x ∈ xs → x.small) (ht : ∀ x, x ∈ ys → x.small) :
    Calls Tryz.prog 83 #[va, vb] w fun e w' => e = .returned (.bool (eqL sameRs xs ys)) ∧ Grew w w' := by
  go_enter Tryz.func83, Tryz.ntmps83
  go_wp2_with (go_at_call 148; refine (slEqualFuncRs va vb xs ys _ ha hb hx hy hs ht).mono ?_; rintro e w1 ⟨rfl, hb⟩)
  go_ret
  exact ⟨rfl, hb⟩
end Go.Proofs.YtejgpghcahinhaaGreat
namespace Go.Proofs.YtejgpghcahinhaaGreat
open Go.RowKit
set_option linter.unusedVariables false
theorem alloc_heap (w : World) (o : Obj) : (w.alloc o).heap = w.heap.push o := rfl
theorem lit_own (w : World) (e : TypeId) (k : Nat) : (w.alloc (.cells #[] e)).ownsRow w.heap.size e k (.slice (some ⟨w.heap.size, 0, none⟩) 0 0) 0 [] :=
  ⟨by simp, .inr ⟨w.heap.size, 0, #[], rfl, Nat.le_refl _, by rw [alloc_heap]; simp, Nat.le_refl _, by simp [maxLen], by simp, by simp⟩⟩
theorem rd_news {w w' : World} {a : Addr} {k n : Nat} {cs : List Value} (h : RdA w (some a) k n cs) (hg : Grew w w') : ∀ j u, cs[j]? = some u → w'.cell? (a.add j) = some u := fun j u hu => by
  have hj := (List.getElem?_eq_some_iff.1 hu).1
  rw [h.1] at hj
  have hn : 0 < n := by
    rcases Nat.eq_zero_or_pos n with h0 | h0
    · subst h0; omega
    · exact h0
  obtain ⟨b, o, h1, h2⟩ := h.2 hn
  obtain rfl := Option.some.inj h1
  have h3 := grew_cell hg ((h2 j hj).trans hu)
  cases j with
  | zero => simpa [Addr.add] using h3
  | succ j => simpa [Addr.add] using h3
theorem Tryz.infoBool : (Tryz.prog.info? 4).map (fun i => (i.zero, i.size, i.bytes)) = some (some (.bool false), 1, 1) := by kernel_rfl
theorem Tryz.infoString : (Tryz.prog.info? 9).map (fun i => (i.zero, i.size, i.bytes)) = some (some (.string ⟨#[]⟩), 1, 16) := by kernel_rfl
set_option maxRecDepth 100000 in
set_option maxHeartbeats 1000000 in
theorem slCloneInt (va : Value) (n : Nat) (xs : List Int) (w : World) (ha : Rd w va 1 n (ints xs)) (hx : n ≤ 4000000) :
    Calls Tryz.prog 119 #[va] w fun e w' => ∃ v, e = .returned v ∧ w'.ownsRow w.heap.size 3 1 v n (ints xs) ∧ Grew w w' := by
  obtain ⟨a, ca, rfl, hca, hra⟩ := ha
  have HX := Lib.hid hra.len_map
  have hen : ∀ a w, (binOp .eql 35 (.slice a n ca) (.slice none 0 0)).run Tryz.prog w = .ok (.bool a.isNone) w := fun a w => Lib.run_eql_slice_nil w 35 3 a n ca 0 0 Tryz.underlying35
  cases a with
  | none =>
    have hn : n = 0 := by rcases Nat.eq_zero_or_pos n with h | h; exact h; obtain ⟨b, o, h2, _⟩ := hra.2 h; cases h2
    subst hn
    have e1 := hen none
    go_enter Tryz.func119, Tryz.ntmps119
    go_wp2
    go_ret
    obtain rfl : xs = [] := List.length_eq_zero_iff.1 HX.out
    exact ⟨_, rfl, World.ownsRow_nil _ _ _ _, Grew.refl _⟩
  | some a =>
    have e1 := hen (some a)
    obtain ⟨i0, hi, hz0, hz1, hz2⟩ := info_parts Tryz.infoInt
    have HN := Lib.hid (rd_news hra ((Grew.refl w).alloc (.cells #[] 3)))
    have HL := Lib.hid (lit_own w 3 1)
    have HC := Lib.hid hra.1
    clear hra hen
    go_enter Tryz.func119, Tryz.ntmps119
    go_wp2_with (at_builtin; refine wpList_append_own _ rfl _ _ 35 rfl w.heap.size 3 i0 (.int .i64 0) 1 8 Tryz.underlying35 hi hz0 hz1 hz2 rfl (by decide) _ 0 [] rfl HL.out a n ca (ints xs) rfl ?c1 ?c2 ?c3 ?c4 ?c5 ?c6 ?_)
    case c1 => exact HC.out
    case c2 => exact HN.out
    case c3 => intro u hu; simp at hu; obtain ⟨x, _, rfl⟩ := hu; rfl
    case c4 => unfold maxLen; omega
    case c5 => omega
    case c6 => simp
    intro v' w' hown' hgrow _
    go_wp2
    go_ret
    refine ⟨_, rfl, by simpa using hown', ((Grew.refl w).alloc _).grown hgrow (fun k h => ?_)⟩
    cases h; exact Nat.le_refl _
end Go.Proofs.YtejgpghcahinhaaGreat
namespace Go.Proofs.YtejgpghcahinhaaGreat
open Go.RowKit
set_option linter.unusedVariables false
def resIds : List Rs → ByteArray → List Int
  | [], _ => []
  | x :: xs, s => if x.name.toList == s.toList then x.ids else resIds xs s
theorem resIds_yes : ∀ {xs : List Rs} {s : ByteArray} {k : Nat} {x : Rs}, (∀ (j : Nat) y, j < k → xs[j]? = some y → (y.name.toList == s.toList) = false) → xs[k]? = some x → (x.name.toList == s.toList) = true → resIds xs s = x.ids
  | [], s, k, x, _, h, _ => by simp at h
  | y :: ys, s, 0, x, _, h, h2 => by
    simp at h; subst h; unfold resIds; rw [h2]; rfl
  | y :: ys, s, k + 1, x, h1, h, h2 => by
    have h3 := h1 0 y (Nat.succ_pos k) rfl
    unfold resIds; rw [h3]
    exact resIds_yes (k := k) (fun j z hj hz => h1 (j + 1) z (Nat.succ_lt_succ hj) (by simpa using hz)) (by simpa using h) h2
theorem resIds_no : ∀ {xs : List Rs} {s : ByteArray}, (∀ (j : Nat) y, j < xs.length → xs[j]? = some y → (y.name.toList == s.toList) = false) → resIds xs s = []
  | [], s, _ => rfl
  | y :: ys, s, h1 => by
    have h3 := h1 0 y (by simp) rfl
    unfold resIds; rw [h3]
    exact resIds_no (fun j z hj hz => h1 (j + 1) z (by simpa using hj) (by simpa using hz))
theorem resIds_small : ∀ {xs : List Rs} {s : ByteArray}, (∀ x, x ∈ xs → x.small) → (resIds xs s).length ≤ 4000000
  | [], s, _ => by simp [resIds]
  | y :: ys, s, h => by
    unfold resIds
    cases hn : y.name.toList == s.toList
    · exact resIds_small (fun x hx => h x (List.mem_cons_of_mem _ hx))
    · have := h y (List.mem_cons_self ..); unfold Rs.small at this; exact this
theorem no_snoc {xs : List Rs} {s : ByteArray} {k : Nat} {x : Rs} (h : ∀ (j : Nat) y, j < k → xs[j]? = some y → (y.name.toList == s.toList) = false) (hx : xs[k]? = some x) (hn : (x.name.toList == s.toList) = false) : ∀ (j : Nat) y, j < k + 1 → xs[j]? = some y → (y.name.toList == s.toList) = false := fun j y hj hy => by
  rcases Nat.lt_succ_iff_lt_or_eq.1 hj with h1 | rfl
  · exact h j y h1 hy
  · obtain rfl := Option.some.inj (hx.symm.trans hy); exact hn
set_option maxRecDepth 100000 in
set_option maxHeartbeats 1000000 in
theorem specResultIDs (va : Value) (xs : List Rs) (s : ByteArray) (w : World) (ha : RdRs w va xs) (hx : xs.length ≤ 4000000) (hs : ∀ x, x ∈ xs → x.small) :
    Calls Tryz.prog 45 #[va, .string s] w fun e w' => ∃ v, e = .returned v ∧ w'.ownsRow w.heap.size 3 1 v (resIds xs s).length (ints (resIds xs s)) ∧ Grew w w' := by
  obtain ⟨qs, ⟨a, ca, rfl, hca, hra⟩, hall⟩ := ha
  have HS := Lib.hid hs
  have HA := Lib.hid hall
  clear hall hs
  generalize hn : xs.length = n at hx hra
  have HX := Lib.hid hn
  clear hn
  go_enter Tryz.func45, Tryz.ntmps45
  go_wp2
  go_loopw [5] (fun i wr => ∃ k : Nat, k ≤ n ∧ i = .int .i64 k ∧ Hid (∀ (j : Nat) y, j < k → xs[j]? = some y → (y.name.toList == s.toList) = false) ∧ Grew w wr) (fun i _ => n - (intOf i).toNat)
  case atStart => exact ⟨0, Nat.zero_le _, rfl, Lib.hid (fun j y h => absurd h (Nat.not_lt_zero j)), Grew.refl _⟩
  case round =>
    obtain ⟨k, hk, rfl, hall, hbel⟩ := hrel
    by_cases hlt : k < n
    · obtain ⟨b1, o1, p, rfl, hpk, c0, c1⟩ := (hra.grew hbel).getP2 hlt
      obtain ⟨x, hxk, hxr⟩ := HA.out.get hpk.out
      have hxs := HS.out x (List.mem_of_getElem? hxk.out)
      unfold Rs.small at hxs
      obtain ⟨pn, pq⟩ := p
      obtain ⟨hxn, hxq⟩ := hxr
      simp only at hxn hxq c0 c1
      have HXQ := Lib.hid hxq
      obtain ⟨pa, pc, rfl, hpc, hpr⟩ := hxq
      have hcs : (pn.toList == s.toList) = true ∨ (pn.toList == s.toList) = false := by cases pn.toList == s.toList <;> simp
      have HXN := Lib.hid hxn
      clear hxn
      rcases hcs with hn | hn
      · have e1 := grew_cell ((Grew.refl wr).alloc (.cells #[] 3)) c1
        have HY := Lib.hid (resIds_yes hall.out hxk.out (by rw [← HXN.out]; exact hn))
        have HL := Lib.hid (lit_own wr 3 1)
        have HC := Lib.hid hpr.1
        cases pa with
        | none =>
          have h0 : x.ids.length = 0 := by rcases Nat.eq_zero_or_pos x.ids.length with h | h; exact h; obtain ⟨b, o, h2, _⟩ := hpr.2 h; cases h2
          clear hpr
          rw [h0] at c1 e1
          have H0 := Lib.hid h0
          clear h0
          go_wp2
          go_ret
          refine ⟨_, rfl, ?_, hbel.alloc _⟩
          rw [HY.out, List.length_eq_zero_iff.1 H0.out]
          exact ownsRow_base (lit_own wr 3 1) hbel.size
        | some pa =>
          have HN := Lib.hid (rd_news (hpr.grew hbel) ((Grew.refl wr).alloc (.cells #[] 3)))
          clear hpr
          obtain ⟨i0, hi, hz0, hz1, hz2⟩ := info_parts Tryz.infoInt
          go_wp2_with (at_builtin; refine wpList_append_own _ rfl _ _ 35 rfl wr.heap.size 3 i0 (.int .i64 0) 1 8 Tryz.underlying35 hi hz0 hz1 hz2 rfl (by decide) _ 0 [] rfl HL.out pa x.ids.length pc (ints x.ids) rfl ?c1 ?c2 ?c3 ?c4 ?c5 ?c6 ?_)
          case c1 => exact HC.out
          case c2 => exact HN.out
          case c3 => intro u hu; simp at hu; obtain ⟨x, _, rfl⟩ := hu; rfl
          case c4 => unfold maxLen; omega
          case c5 => omega
          case c6 => simp
          intro v' w' hown' hgrow _
          go_wp2
          go_ret
          refine ⟨_, rfl, ?_, (hbel.alloc _).grown hgrow (fun k h => ?_)⟩
          · rw [HY.out]; exact ownsRow_base (by simpa using hown') hbel.size
          · cases h; exact hbel.size
      · go_wp2
        go_roundw
        case rel => exact ⟨k + 1, by omega, by go_num, Lib.hid (no_snoc hall.out hxk.out (by rw [← HXN.out]; exact hn)), hbel⟩
        case measure => simp [intOf]; omega
    · go_wp2
      go_ret
      have hk2 : k = n := by omega
      refine ⟨_, rfl, ?_, hbel.alloc _⟩
      rw [resIds_no (fun j y h h2 => hall.out j y (by rw [hk2, ← HX.out]; exact h) h2)]
      exact ownsRow_base (lit_own wr 3 1) hbel.size
set_option maxRecDepth 100000 in
set_option maxHeartbeats 1000000 in
theorem implResultIDs (va : Value) (xs : List Rs) (s : ByteArray) (w : World) (ha : RdRs w va xs) (hx : xs.length ≤ 4000000) (hs : ∀ x, x ∈ xs → x.small) :
    Calls Tryz.prog 43 #[va, .string s] w fun e w' => ∃ v, e = .returned v ∧ w'.ownsRow w.heap.size 3 1 v (resIds xs s).length (ints (resIds xs s)) ∧ Grew w w' := by
  obtain ⟨qs, ⟨a, ca, rfl, hca, hra⟩, hall⟩ := ha
  have HS := Lib.hid hs
  have HA := Lib.hid hall
  clear hall hs
  generalize hn : xs.length = n at hx hra
  have HX := Lib.hid hn
  clear hn
  go_enter Tryz.func43, Tryz.ntmps43
  go_wp2
  go_loopw [9] (fun i wr => ∃ k : Nat, k ≤ n ∧ i = .int .i64 k ∧ Hid (∀ (j : Nat) y, j < k → xs[j]? = some y → (y.name.toList == s.toList) = false) ∧ Grew w wr) (fun i _ => n - (intOf i).toNat)
  case atStart => exact ⟨0, Nat.zero_le _, rfl, Lib.hid (fun j y h => absurd h (Nat.not_lt_zero j)), Grew.refl _⟩
  case round =>
    obtain ⟨k, hk, rfl, hall, hbel⟩ := hrel
    by_cases hlt : k < n
    · obtain ⟨b1, o1, p, rfl, hpk, c0, c1⟩ := (hra.grew hbel).getP2 hlt
      obtain ⟨x, hxk, hxr⟩ := HA.out.get hpk.out
      have hxs := HS.out x (List.mem_of_getElem? hxk.out)
      unfold Rs.small at hxs
      obtain ⟨pn, pq⟩ := p
      obtain ⟨hxn, hxq⟩ := hxr
      simp only at hxn hxq c0 c1
      have HXQ := Lib.hid hxq
      obtain ⟨pa, pc, rfl, hpc, hpr⟩ := hxq
      have hcs : (pn.toList == s.toList) = true ∨ (pn.toList == s.toList) = false := by cases pn.toList == s.toList <;> simp
      have HXN := Lib.hid hxn
      clear hxn
      rcases hcs with hn | hn
      · have HY := Lib.hid (resIds_yes hall.out hxk.out (by rw [← HXN.out]; exact hn))
        clear hpr
        go_wp2_with (go_at_call 119; refine (slCloneInt _ _ x.ids _ (HXQ.out.grew (hbel.alloc _)) hxs).mono ?_; rintro e w1 ⟨v, rfl, hown, hb⟩)
        go_ret
        refine ⟨_, rfl, ?_, (hbel.alloc _).trans hb⟩
        rw [HY.out]; exact ownsRow_base hown (hbel.alloc _).size
      · go_wp2
        go_roundw
        case rel => exact ⟨k + 1, by omega, by go_num, Lib.hid (no_snoc hall.out hxk.out (by rw [← HXN.out]; exact hn)), hbel.alloc _⟩
        case measure => simp [intOf]; omega
    · go_wp2
      go_ret
      have hk2 : k = n := by omega
      refine ⟨_, rfl, ?_, hbel⟩
      rw [resIds_no (fun j y h h2 => hall.out j y (by rw [hk2, ← HX.out]; exact h) h2)]
      exact World.ownsRow_nil _ _ _ _
end Go.Proofs.YtejgpghcahinhaaGreat
namespace Go.Proofs.YtejgpghcahinhaaGreat
open Go.RowKit
set_option linter.unusedVariables false
theorem own_cut' {w : World} {base g n cap k : Nat} {e : TypeId} {cs ps : List Value} (h : w.ownsRow base e 1 (.slice (some ⟨g, 0, none⟩) n cap) n cs) (hk : k ≤ n) (hp : cs.take k = ps) : w.ownsRow base e 1 (.slice (some ⟨g, 0, none⟩) k cap) k ps := by
  obtain ⟨hl, ⟨h1, _⟩ | ⟨g', cap', cur, h1, h2, h3, h4, h5, h6, h7⟩⟩ := h
  · cases h1
  · cases h1
    subst hp
    refine ⟨by rw [List.length_take]; omega, .inr ⟨_, _, cur, rfl, h2, h3, by omega, h5, h6, ?_⟩⟩
    rw [← h7, List.take_take, Nat.mul_one, Nat.mul_one, Nat.min_eq_left hk]
end Go.Proofs.YtejgpghcahinhaaGreat
namespace Go.Proofs.YtejgpghcahinhaaGreat
open Go.RowKit
set_option linter.unusedVariables false
theorem Rd.len1 {α : Type} {f : α → Value} {w : World} {v : Value} {n : Nat} {xs : List α} (h : Rd w v 1 n (xs.map f)) : xs.length = n := by
  obtain ⟨a, c, _, _, h⟩ := h; exact h.len_map
end Go.Proofs.YtejgpghcahinhaaGreat
