/- The laws' helpers over directories, results, diffs and files: copies, comparisons, counts, marks. -/
import Derived.Test.YtgekgokkbakcmaaH3
namespace Go.Proofs.Ytgekgokkbakcmaa
open Go.RowKit
set_option linter.unusedVariables false
theorem own_slice {w : World} {base : Nat} {e : TypeId} {k n : Nat} {v : Value} {cs : List Value} (h : w.ownsRow base e k v n cs) : ∃ a cap, v = .slice a n cap := by
  obtain ⟨_, ⟨rfl, rfl⟩ | ⟨g, cap, cur, rfl, _⟩⟩ := h
  · exact ⟨_, _, rfl⟩
  · exact ⟨_, _, rfl⟩
theorem own_of {w : World} {lo : Nat} {e : TypeId} {k n : Nat} {v : Value} {cs : List Value} (h : w.ownsRow lo e k v n cs) : Own w lo w.heap.size e k v n cs := ⟨h, fun b hb => (h.lt b hb).2⟩
theorem Own.blk {w : World} {lo hi : Nat} {e : TypeId} {k n : Nat} {v : Value} {cs : List Value} (h : Own w lo hi e k v n cs) {b : Nat} (hb : v.ownBlock = some b) : lo ≤ b ∧ b < hi := ⟨(h.1.lt b hb).1, h.2 b hb⟩
theorem All2.blk {α β : Type} {O : α → β → Prop} {subs : β → List Value} {lo hi : Nat} (hO : ∀ x p v b, O x p → v ∈ subs p → v.ownBlock = some b → lo ≤ b ∧ b < hi) {xs : List α} {ps : List β} (h : All2 O xs ps) {v : Value} {b : Nat} (hv : v ∈ ps.flatMap subs) (hb : v.ownBlock = some b) : lo ≤ b ∧ b < hi := by
  obtain ⟨p, hp, hvp⟩ := List.mem_flatMap.1 hv
  obtain ⟨i, hi', rfl⟩ := List.getElem_of_mem hp
  obtain ⟨x, hx, hr⟩ := h.get (List.getElem?_eq_getElem hi')
  exact hO _ _ _ _ hr hvp hb
theorem Dis.cons {v : Value} {vs : List Value} (h : Dis vs) (hn : ∀ u b, u ∈ vs → v.ownBlock = some b → u.ownBlock ≠ some b) : Dis (v :: vs) :=
  Dis.app (us := [v]) (Dis.one v) h (fun u w b hu hw hb => by simp at hu; subst hu; exact hn w b hw hb)
theorem Dis.tail {v : Value} {vs : List Value} (h : Dis (v :: vs)) : Dis vs := by
  unfold Dis at *
  rw [List.filterMap_cons] at h
  cases hv : v.ownBlock <;> simp [hv] at h
  · exact h
  · exact h.2
theorem Dis.head {v : Value} {vs : List Value} (h : Dis (v :: vs)) {u : Value} {b : Nat} (hu : u ∈ vs) (hv : v.ownBlock = some b) : u.ownBlock ≠ some b := by
  unfold Dis at h
  rw [List.filterMap_cons, hv] at h
  simp at h
  exact fun hb => h.1 u hu hb
theorem Dis.two {us vs : List Value} (h : Dis (us ++ vs)) {u v : Value} {b : Nat} (hu : u ∈ us) (hv : v ∈ vs) (hb : u.ownBlock = some b) : v.ownBlock ≠ some b := by
  unfold Dis at h
  rw [List.filterMap_append, List.nodup_append] at h
  intro hvb
  exact h.2.2 b (List.mem_filterMap.2 ⟨u, hu, hb⟩) b (List.mem_filterMap.2 ⟨v, hv, hvb⟩) rfl
theorem Dis.left {us vs : List Value} (h : Dis (us ++ vs)) : Dis us := by
  unfold Dis at *
  rw [List.filterMap_append, List.nodup_append] at h
  exact h.1
theorem Dis.right {us vs : List Value} (h : Dis (us ++ vs)) : Dis vs := by
  unfold Dis at *
  rw [List.filterMap_append, List.nodup_append] at h
  exact h.2.1

def Dr.subs (p : P2) : List Value := [p.q]
def Dr.O (w : World) (lo hi : Nat) (x : Dr) (p : P2) : Prop := p.name = x.name ∧ Own w lo hi 76 7 p.q x.query.length (rows N.c x.query)
theorem Dr.O.grew {w w' : World} {lo hi : Nat} {x : Dr} {p : P2} (h : Dr.O w lo hi x p) (hg : Grew w w') : Dr.O w' lo hi x p := ⟨h.1, (h.2).grew hg⟩
theorem Dr.O.touch {w w' : World} {lo hi a b : Nat} {x : Dr} {p : P2} (h : Dr.O w lo hi x p) (ht : Touch a b w w') (hd : hi ≤ a ∨ b ≤ lo) : Dr.O w' lo hi x p := ⟨h.1, (h.2).touch ht hd⟩
theorem Dr.O.mono {w : World} {lo hi lo' hi' : Nat} {x : Dr} {p : P2} (h : Dr.O w lo hi x p) (h1 : lo' ≤ lo) (h2 : hi ≤ hi') : Dr.O w lo' hi' x p := ⟨h.1, (h.2).mono h1 h2⟩
theorem Dr.O.rd {w : World} {lo hi : Nat} {x : Dr} {p : P2} (h : Dr.O w lo hi x p) : Dr.R w x p := ⟨h.1, (h.2).rd⟩
theorem Dr.O.blk {w : World} {lo hi : Nat} {x : Dr} {p : P2} {v : Value} {b : Nat} (h : Dr.O w lo hi x p) (hv : v ∈ Dr.subs p) (hb : v.ownBlock = some b) : lo ≤ b ∧ b < hi := by
  simp only [Dr.subs, List.mem_cons, List.not_mem_nil, or_false] at hv
  subst hv; exact (h.2).blk hb
abbrev OwnDrs (w : World) (lo hi : Nat) (v : Value) (xs : List Dr) : Prop := OwnL P2.c 2 49 Dr.subs Dr.O w lo hi v xs
theorem OwnDrs.rd {w : World} {lo hi : Nat} {v : Value} {xs : List Dr} (h : OwnDrs w lo hi v xs) : RdDs w v xs := OwnL.rd (fun _ _ _ _ _ h => h.rd) h
theorem OwnDrs.grew {w w' : World} {lo hi : Nat} {v : Value} {xs : List Dr} (h : OwnDrs w lo hi v xs) (hg : Grew w w') : OwnDrs w' lo hi v xs := OwnL.grew (fun _ _ _ _ _ _ h k => h.grew k) h hg
theorem OwnDrs.touch {w w' : World} {lo hi a b : Nat} {v : Value} {xs : List Dr} (h : OwnDrs w lo hi v xs) (ht : Touch a b w w') (hd : hi ≤ a ∨ b ≤ lo) : OwnDrs w' lo hi v xs := OwnL.touch (fun _ _ _ _ _ _ _ _ h k d => h.touch k d) h ht hd
theorem RdDs.grew {w w' : World} {v : Value} {xs : List Dr} (h : RdDs w v xs) (hg : Grew w w') : RdDs w' v xs := RdL.grew (fun _ _ _ _ h k => h.grew k) h hg
def Dr.small (x : Dr) : Prop := x.query.length ≤ 4000000
set_option maxHeartbeats 1000000 in
theorem toDir (x : Dr) (p : P2) (w : World) (h : Dr.R w x p) (hx : x.small) :
    Calls Try.prog 28 #[p.v] w fun e w' => ∃ p' : P2, e = .returned p'.v ∧ Dr.O w' w.heap.size w'.heap.size x p' ∧ Dis (Dr.subs p') ∧ Grew w w' := by
  obtain ⟨p_name, p_q⟩ := p
  obtain ⟨h_name, ⟨a_q, ca_q, hq_q, hca_q, hra_q⟩⟩ := h
  simp only at h_name hq_q
  subst hq_q
  have H_name := Lib.hid h_name
  clear h_name
  go_enter Try.func28, Try.ntmps28
  go_wp2_with fail
  refine (toNodeS _ _ x.query _ ⟨a_q, ca_q, rfl, hca_q, hra_q.grew ((((Grew.refl w).alloc _).alloc _).alloc _)⟩ hx).mono ?_
  rintro e w1 ⟨v, rfl, ho1, hb1⟩
  obtain ⟨a1, c1, rfl⟩ := own_slice ho1
  have g1 : Grew w w1 := ((((Grew.refl w).alloc _).alloc _).alloc _).trans hb1
  have f1_1_0 := grew_cell (a := ⟨w.heap.size + 1, 0, none⟩) hb1 (by simp [go_sem]; rfl)
  have f1_1_1 := grew_cell (a := ⟨w.heap.size + 1, 1, none⟩) hb1 (by simp [go_sem]; rfl)
  have z1_1 := fun j => grew_frozen (a := ⟨w.heap.size + 1, j, none⟩) hb1 (by simp) (by simp [go_sem])
  have f1_2_0 := grew_cell (a := ⟨w.heap.size + 1 + 1, 0, none⟩) hb1 (by simp [go_sem]; rfl)
  have f1_2_1 := grew_cell (a := ⟨w.heap.size + 1 + 1, 1, none⟩) hb1 (by simp [go_sem]; rfl)
  have z1_2 := fun j => grew_frozen (a := ⟨w.heap.size + 1 + 1, j, none⟩) hb1 (by simp) (by simp [go_sem])
  go_wp2
  have ow1 := (ownsRow_setCell_below (ownsRow_setCell_below (ownsRow_setCell_below (ownsRow_base ho1 (base' := w.heap.size + 3) (by simp)) (a := ⟨w.heap.size + 1 + 1, 1, none⟩) (by simp) (Value.slice a1 x.query.length c1)) (a := ⟨w.heap.size + 1, 0, none⟩) (by simp) (Value.string p_name)) (a := ⟨w.heap.size + 1, 1, none⟩) (by simp) (Value.slice a1 x.query.length c1))
  refine bodyPost_ret (v := P2.v ⟨p_name, .slice a1 x.query.length c1⟩) (by simp [results, Try.results28, go_sem, f1_1_0, f1_1_1]) rfl ⟨⟨p_name, .slice a1 x.query.length c1⟩, rfl, ⟨H_name.out, (own_of ow1).mono (by omega) (Nat.le_refl _)⟩, ?_, ?_⟩
  · exact Dis.one _
  · repeat' (first | with_reducible exact g1 | with_reducible refine Grew.setCell ?_ ?_ _ | (dsimp only; omega))
theorem Try.infoDr : (Try.prog.info? 49).map (fun i => (i.zero, i.size, i.bytes)) = some (some (P2.z.v), 2, 40) := by kernel_rfl
set_option maxHeartbeats 1000000 in
theorem toDirS (va : Value) (xs : List Dr) (w : World) (ha : RdDs w va xs) (hx : xs.length ≤ 4000000) (hs : ∀ x, x ∈ xs → x.small) :
    Calls Try.prog 21 #[va] w fun e w' => ∃ v, e = .returned v ∧ OwnDrs w' w.heap.size w'.heap.size v xs ∧ Grew w w' := by
  obtain ⟨qs, ⟨a, ca, rfl, hca, hra⟩, hall⟩ := ha
  have HS := Lib.hid hs
  clear hs
  have HA := Lib.hid hall
  clear hall
  generalize hn : xs.length = n at *
  have HN := Lib.hid hn
  clear hn
  obtain ⟨i0, hi, hz0, hz1, hz2⟩ := info_parts Try.infoDr
  go_enter Try.func21, Try.ntmps21
  go_wp2_with (at_make; refine wpList_make_full _ rfl _ _ 35 rfl w.heap.size 49 i0 _ 2 Try.underlying35 hi hz0 hz1 _ _ _ _ n rfl rfl rfl rfl ?b2 ?b3 (Nat.le_refl _) ?_)
  case b2 => (try rw [hz2]); omega
  case b3 => unfold maxLen; omega
  intro w0 hown0 hgrow0
  clear hi hz0 hz1 hz2
  go_wp2
  have hb0 : Grew w w0 := (Grew.refl _).grown hgrow0 (fun k h => by cases h)
  go_loopw [4] (fun i wr => ∃ (k : Nat) (ps : List P2), k ≤ n ∧ i = .int .i64 k ∧ Grew w wr ∧ w.heap.size + 1 ≤ wr.heap.size ∧ wr.ownsRow w.heap.size 49 2 (.slice (some ⟨w.heap.size, 0, none⟩) n n) n (rows P2.c (ps ++ List.replicate (n - k) P2.z)) ∧ Hid (ps.length = k) ∧ All2 (Dr.O wr (w.heap.size + 1) wr.heap.size) (xs.take k) ps ∧ Dis (ps.flatMap Dr.subs)) (fun i _ => n - (intOf i).toNat)
  case atStart =>
    refine ⟨0, [], Nat.zero_le _, rfl, hb0, ?_, ?_, rfl, All2.nil, Dis.nil⟩
    · have := hown0.lt w.heap.size rfl; omega
    · have hz := rows_made (enc := P2.c) (k := 2) P2.z (Value.cells P2.z.v) rfl rfl n
      rw [List.nil_append, Nat.sub_zero, ← hz]
      exact hown0
  case round =>
    obtain ⟨k, ps, hk, rfl, hbel, hsz, hown, hpl, hO, hD⟩ := hrel
    by_cases hlt : k < n
    · obtain ⟨b1, o1, p, rfl, hpk, c0, c1⟩ := (hra.grew hbel).getP2 hlt
      obtain ⟨x, hxk, hxr⟩ := HA.out.get hpk.out
      have hxs := HS.out x (List.mem_of_getElem? hxk.out)
      go_wp2_with fail
      refine (toDir x p _ (hxr.grew hbel) hxs).mono ?_
      rintro e w1 ⟨⟨r_name, r_q⟩, rfl, ho, hd, hb⟩
      obtain ⟨t_q, u_q, e_q⟩ := own_slice (ho.2).1
      simp only at e_q
      subst e_q
      have ho1 := ownsRow_grew hown hb
      have hf := fun j => ho1.frozenAt j
      obtain ⟨y, hy, d0, d1⟩ := ownP2 ho1 hlt
      go_wp2
      go_roundw
      case rel =>
        refine ⟨k + 1, ps ++ [(⟨r_name, .slice t_q x.query.length u_q⟩ : P2)], by omega, by go_num, ?_, ?_, ?_, Lib.hid (by have := hpl.out; simp [this]), ?_, ?_⟩
        · repeat' (first | with_reducible exact hbel | with_reducible refine Grew.setCell ?_ (Nat.le_refl _) _ | with_reducible refine Grew.trans ?_ hb)
        · have := hb.size; simp; omega
        · have hst := storeP2 ho1 hlt (⟨r_name, .slice t_q x.query.length u_q⟩ : P2)
          rw [set_append_left ps (List.replicate (n - k) P2.z) k (⟨r_name, .slice t_q x.query.length u_q⟩ : P2) P2.z (List.replicate (n - (k + 1)) P2.z) hpl.out (by rw [show n - k = (n - (k + 1)) + 1 by omega]; rfl)] at hst
          exact hst
        · have ht : Touch w.heap.size (w.heap.size + 1) w1 ((w1.setCell ⟨w.heap.size, k * 2, none⟩ (.string r_name)).setCell ⟨w.heap.size, k * 2 + 1, none⟩ (.slice t_q x.query.length u_q)) := by
            repeat' (first | with_reducible exact Touch.refl _ _ _ | with_reducible refine Touch.setCell ?_ ?_ ?_ _ | (dsimp only; omega))
          rw [take_snoc hxk.out]
          refine All2.snoc (hO.mono fun x p h => ?_) ?_
          · exact ((h.grew hb).touch ht (.inr (Nat.le_refl _))).mono (Nat.le_refl _) (by have := hb.size; simp; omega)
          · exact (ho.touch ht (.inr (by omega))).mono hsz (by simp)
        · rw [List.flatMap_append]
          refine Dis.app hD (by simpa using hd) (fun u v b hu hv h1 h2 => ?_)
          have k1 := (hO.blk (fun _ _ _ _ h => h.blk) hu h1).2
          have k2 := (ho.blk (by simpa using hv) h2).1
          omega
      case measure => simp [intOf]; omega
    · obtain rfl : k = n := by omega
      go_wp2
      go_ret
      refine ⟨_, rfl, ⟨ps, ?_, ?_, ?_⟩, hbel⟩
      · rw [HN.out]
        exact own_of (by simpa using hown)
      · rw [take_all HN.out] at hO
        exact hO.mono fun x p h => h.mono (by omega) (Nat.le_refl _)
      · refine Dis.cons hD (fun u b hu h1 h2 => ?_)
        have k2 := (hO.blk (fun _ _ _ _ h => h.blk) hu h2).1
        simp [Value.ownBlock] at h1
        omega
set_option maxHeartbeats 1000000 in
theorem eqDir (x : Dr) (p p' : P2) (w : World) (h : Dr.R w x p) (h' : Dr.R w x p') (hx : x.small) :
    Calls Try.prog 30 #[p.v, p'.v] w fun e w' => e = .returned (.bool true) ∧ Grew w w' := by
  obtain ⟨p_name, p_q⟩ := p
  obtain ⟨h_name, hr_q⟩ := h
  simp only at h_name hr_q
  obtain ⟨p_name', p_q'⟩ := p'
  obtain ⟨h_name', hr_q'⟩ := h'
  simp only at h_name' hr_q'
  subst h_name
  obtain rfl := h_name'
  go_enter Try.func30, Try.ntmps30
  go_wp2_with fail
  refine (eqNodeS _ _ _ x.query _ (hr_q.grew (((Grew.refl w).alloc _).alloc _)) (hr_q'.grew (((Grew.refl w).alloc _).alloc _)) hx).mono ?_
  rintro e w1 ⟨rfl, hb1⟩
  have g1 : Grew w w1 := (((Grew.refl w).alloc _).alloc _).trans hb1
  go_wp2
  go_ret
  exact ⟨rfl, g1⟩
set_option maxRecDepth 100000 in
set_option maxHeartbeats 1000000 in
theorem eqDirS (va vb : Value) (xs : List Dr) (w : World) (ha : RdDs w va xs) (hb : RdDs w vb xs) (hx : xs.length ≤ 4000000) (hs : ∀ x, x ∈ xs → x.small) :
    Calls Try.prog 23 #[va, vb] w fun e w' => e = .returned (.bool true) ∧ Grew w w' := by
  obtain ⟨qs, ⟨a, ca, rfl, hca, hra⟩, hall⟩ := ha
  obtain ⟨rs, ⟨b, cb, rfl, hcb, hrb⟩, hbll⟩ := hb
  have HS := Lib.hid hs
  have HA := Lib.hid hall
  have HB := Lib.hid hbll
  clear hall hbll hs
  generalize hn : xs.length = n at *
  clear hn
  go_enter Try.func23, Try.ntmps23
  go_wp2
  go_loopw [5] (fun i wr => ∃ k : Nat, k ≤ n ∧ i = .int .i64 k ∧ Grew w wr) (fun i _ => n - (intOf i).toNat)
  case atStart => exact ⟨0, Nat.zero_le _, rfl, Grew.refl _⟩
  case round =>
    obtain ⟨k, hk, rfl, hbel⟩ := hrel
    by_cases hlt : k < n
    · obtain ⟨b1, o1, p, rfl, hpk, c0, c1⟩ := (hra.grew hbel).getP2 hlt
      obtain ⟨b2, o2, q, rfl, hqk, d0, d1⟩ := (hrb.grew hbel).getP2 hlt
      obtain ⟨x, hxk, hxr⟩ := HA.out.get hpk.out
      obtain ⟨y, hyk, hyr⟩ := HB.out.get hqk.out
      obtain rfl : x = y := by have := hxk.out.symm.trans hyk.out; simpa using this
      have hxs := HS.out x (List.mem_of_getElem? hxk.out)
      go_wp2
      go_still_tail 8, (by kernel_rfl)
      change wpList _ _ _ _ _ wr.drew
      have g2 : Grew wr wr.drew := (Grew.refl _).drew
      generalize wr.drew = w2 at g2
      go_wp2_with fail
      refine (eqDir x p q _ (hxr.grew (hbel.trans g2)) (hyr.grew (hbel.trans g2)) hxs).mono ?_
      rintro e w1 ⟨rfl, hb⟩
      go_wp2
      go_roundw
      case rel => exact ⟨k + 1, by omega, by go_num, (hbel.trans g2).trans hb⟩
      case measure => simp [intOf]; omega
    · go_wp2
      go_ret
      exact ⟨rfl, hbel⟩
def Rs.subs (p : P2) : List Value := [p.q]
def Rs.O (w : World) (lo hi : Nat) (x : Rs) (p : P2) : Prop := p.name = x.name ∧ Own w lo hi 3 1 p.q x.ids.length (ints x.ids)
theorem Rs.O.grew {w w' : World} {lo hi : Nat} {x : Rs} {p : P2} (h : Rs.O w lo hi x p) (hg : Grew w w') : Rs.O w' lo hi x p := ⟨h.1, (h.2).grew hg⟩
theorem Rs.O.touch {w w' : World} {lo hi a b : Nat} {x : Rs} {p : P2} (h : Rs.O w lo hi x p) (ht : Touch a b w w') (hd : hi ≤ a ∨ b ≤ lo) : Rs.O w' lo hi x p := ⟨h.1, (h.2).touch ht hd⟩
theorem Rs.O.mono {w : World} {lo hi lo' hi' : Nat} {x : Rs} {p : P2} (h : Rs.O w lo hi x p) (h1 : lo' ≤ lo) (h2 : hi ≤ hi') : Rs.O w lo' hi' x p := ⟨h.1, (h.2).mono h1 h2⟩
theorem Rs.O.rd {w : World} {lo hi : Nat} {x : Rs} {p : P2} (h : Rs.O w lo hi x p) : Rs.R w x p := ⟨h.1, (h.2).rd⟩
theorem Rs.O.blk {w : World} {lo hi : Nat} {x : Rs} {p : P2} {v : Value} {b : Nat} (h : Rs.O w lo hi x p) (hv : v ∈ Rs.subs p) (hb : v.ownBlock = some b) : lo ≤ b ∧ b < hi := by
  simp only [Rs.subs, List.mem_cons, List.not_mem_nil, or_false] at hv
  subst hv; exact (h.2).blk hb
abbrev OwnRss (w : World) (lo hi : Nat) (v : Value) (xs : List Rs) : Prop := OwnL P2.c 2 151 Rs.subs Rs.O w lo hi v xs
theorem OwnRss.rd {w : World} {lo hi : Nat} {v : Value} {xs : List Rs} (h : OwnRss w lo hi v xs) : RdRs w v xs := OwnL.rd (fun _ _ _ _ _ h => h.rd) h
theorem OwnRss.grew {w w' : World} {lo hi : Nat} {v : Value} {xs : List Rs} (h : OwnRss w lo hi v xs) (hg : Grew w w') : OwnRss w' lo hi v xs := OwnL.grew (fun _ _ _ _ _ _ h k => h.grew k) h hg
theorem OwnRss.touch {w w' : World} {lo hi a b : Nat} {v : Value} {xs : List Rs} (h : OwnRss w lo hi v xs) (ht : Touch a b w w') (hd : hi ≤ a ∨ b ≤ lo) : OwnRss w' lo hi v xs := OwnL.touch (fun _ _ _ _ _ _ _ _ h k d => h.touch k d) h ht hd
theorem RdRs.grew {w w' : World} {v : Value} {xs : List Rs} (h : RdRs w v xs) (hg : Grew w w') : RdRs w' v xs := RdL.grew (fun _ _ _ _ h k => h.grew k) h hg
def Rs.small (x : Rs) : Prop := x.ids.length ≤ 4000000
def Df.subs (p : P3) : List Value := [p.q, p.r]
def Df.O (w : World) (lo hi : Nat) (x : Df) (p : P3) : Prop := p.name = x.name ∧ Own w lo hi 3 1 p.q x.added.length (ints x.added) ∧ Own w lo hi 3 1 p.r x.removed.length (ints x.removed)
theorem Df.O.grew {w w' : World} {lo hi : Nat} {x : Df} {p : P3} (h : Df.O w lo hi x p) (hg : Grew w w') : Df.O w' lo hi x p := ⟨h.1, (h.2.1).grew hg, (h.2.2).grew hg⟩
theorem Df.O.touch {w w' : World} {lo hi a b : Nat} {x : Df} {p : P3} (h : Df.O w lo hi x p) (ht : Touch a b w w') (hd : hi ≤ a ∨ b ≤ lo) : Df.O w' lo hi x p := ⟨h.1, (h.2.1).touch ht hd, (h.2.2).touch ht hd⟩
theorem Df.O.mono {w : World} {lo hi lo' hi' : Nat} {x : Df} {p : P3} (h : Df.O w lo hi x p) (h1 : lo' ≤ lo) (h2 : hi ≤ hi') : Df.O w lo' hi' x p := ⟨h.1, (h.2.1).mono h1 h2, (h.2.2).mono h1 h2⟩
theorem Df.O.rd {w : World} {lo hi : Nat} {x : Df} {p : P3} (h : Df.O w lo hi x p) : Df.R w x p := ⟨h.1, (h.2.1).rd, (h.2.2).rd⟩
theorem Df.O.blk {w : World} {lo hi : Nat} {x : Df} {p : P3} {v : Value} {b : Nat} (h : Df.O w lo hi x p) (hv : v ∈ Df.subs p) (hb : v.ownBlock = some b) : lo ≤ b ∧ b < hi := by
  simp only [Df.subs, List.mem_cons, List.not_mem_nil, or_false] at hv
  rcases hv with rfl | rfl
  · exact (h.2.1).blk hb
  · exact (h.2.2).blk hb
abbrev OwnDfs (w : World) (lo hi : Nat) (v : Value) (xs : List Df) : Prop := OwnL P3.c 3 94 Df.subs Df.O w lo hi v xs
theorem OwnDfs.rd {w : World} {lo hi : Nat} {v : Value} {xs : List Df} (h : OwnDfs w lo hi v xs) : RdFs w v xs := OwnL.rd (fun _ _ _ _ _ h => h.rd) h
theorem OwnDfs.grew {w w' : World} {lo hi : Nat} {v : Value} {xs : List Df} (h : OwnDfs w lo hi v xs) (hg : Grew w w') : OwnDfs w' lo hi v xs := OwnL.grew (fun _ _ _ _ _ _ h k => h.grew k) h hg
theorem OwnDfs.touch {w w' : World} {lo hi a b : Nat} {v : Value} {xs : List Df} (h : OwnDfs w lo hi v xs) (ht : Touch a b w w') (hd : hi ≤ a ∨ b ≤ lo) : OwnDfs w' lo hi v xs := OwnL.touch (fun _ _ _ _ _ _ _ _ h k d => h.touch k d) h ht hd
theorem RdFs.grew {w w' : World} {v : Value} {xs : List Df} (h : RdFs w v xs) (hg : Grew w w') : RdFs w' v xs := RdL.grew (fun _ _ _ _ h k => h.grew k) h hg
def Df.small (x : Df) : Prop := x.added.length ≤ 4000000 ∧ x.removed.length ≤ 4000000
set_option maxHeartbeats 1000000 in
theorem toDiff (x : Df) (p : P3) (w : World) (h : Df.R w x p) (hx : x.small) :
    Calls Try.prog 62 #[p.v] w fun e w' => ∃ p' : P3, e = .returned p'.v ∧ Df.O w' w.heap.size w'.heap.size x p' ∧ Dis (Df.subs p') ∧ Grew w w' := by
  obtain ⟨p_name, p_q, p_r⟩ := p
  obtain ⟨h_name, ⟨a_q, ca_q, hq_q, hca_q, hra_q⟩, ⟨a_r, ca_r, hq_r, hca_r, hra_r⟩⟩ := h
  simp only at h_name hq_q hq_r
  subst hq_q
  subst hq_r
  have H_name := Lib.hid h_name
  clear h_name
  go_enter Try.func62, Try.ntmps62
  go_wp2_with fail
  refine (toIntS _ _ x.added _ ⟨a_q, ca_q, rfl, hca_q, hra_q.grew ((((Grew.refl w).alloc _).alloc _).alloc _)⟩ hx.1).mono ?_
  rintro e w1 ⟨v, rfl, ho1, hb1⟩
  obtain ⟨a1, c1, rfl⟩ := own_slice ho1
  have g1 : Grew w w1 := ((((Grew.refl w).alloc _).alloc _).alloc _).trans hb1
  have f1_0_0 := grew_cell (a := ⟨w.heap.size, 0, none⟩) hb1 (by simp [go_sem]; rfl)
  have f1_0_1 := grew_cell (a := ⟨w.heap.size, 1, none⟩) hb1 (by simp [go_sem]; rfl)
  have f1_0_2 := grew_cell (a := ⟨w.heap.size, 2, none⟩) hb1 (by simp [go_sem]; rfl)
  have f1_1_0 := grew_cell (a := ⟨w.heap.size + 1, 0, none⟩) hb1 (by simp [go_sem]; rfl)
  have f1_1_1 := grew_cell (a := ⟨w.heap.size + 1, 1, none⟩) hb1 (by simp [go_sem]; rfl)
  have f1_1_2 := grew_cell (a := ⟨w.heap.size + 1, 2, none⟩) hb1 (by simp [go_sem]; rfl)
  have z1_1 := fun j => grew_frozen (a := ⟨w.heap.size + 1, j, none⟩) hb1 (by simp) (by simp [go_sem])
  have f1_2_0 := grew_cell (a := ⟨w.heap.size + 1 + 1, 0, none⟩) hb1 (by simp [go_sem]; rfl)
  have f1_2_1 := grew_cell (a := ⟨w.heap.size + 1 + 1, 1, none⟩) hb1 (by simp [go_sem]; rfl)
  have f1_2_2 := grew_cell (a := ⟨w.heap.size + 1 + 1, 2, none⟩) hb1 (by simp [go_sem]; rfl)
  have z1_2 := fun j => grew_frozen (a := ⟨w.heap.size + 1 + 1, j, none⟩) hb1 (by simp) (by simp [go_sem])
  go_wp2_with fail
  refine (toIntS _ _ x.removed _ ⟨a_r, ca_r, rfl, hca_r, hra_r.grew (g1.setCell (p := ⟨w.heap.size + 1 + 1, 1, none⟩) (by dsimp only; omega) _)⟩ hx.2).mono ?_
  rintro e w2 ⟨v, rfl, ho2, hb2⟩
  obtain ⟨a2, c2, rfl⟩ := own_slice ho2
  have g2 : Grew w w2 := (g1.setCell (p := ⟨w.heap.size + 1 + 1, 1, none⟩) (by dsimp only; omega) _).trans hb2
  have f2_1_0 := grew_cell (a := ⟨w.heap.size + 1, 0, none⟩) hb2 (by simp [go_sem, f1_1_0]; try rfl)
  have f2_1_1 := grew_cell (a := ⟨w.heap.size + 1, 1, none⟩) hb2 (by simp [go_sem, f1_1_1]; try rfl)
  have f2_1_2 := grew_cell (a := ⟨w.heap.size + 1, 2, none⟩) hb2 (by simp [go_sem, f1_1_2]; try rfl)
  have z2_1 := fun j => grew_frozen (a := ⟨w.heap.size + 1, j, none⟩) hb2 (by have := hb1.size; simp at this ⊢; omega) (by simp [go_sem, z1_1])
  have f2_2_0 := grew_cell (a := ⟨w.heap.size + 1 + 1, 0, none⟩) hb2 (by simp [go_sem, f1_2_0]; try rfl)
  have f2_2_1 := grew_cell (a := ⟨w.heap.size + 1 + 1, 1, none⟩) hb2 (by simp [go_sem, f1_2_1]; try rfl)
  have f2_2_2 := grew_cell (a := ⟨w.heap.size + 1 + 1, 2, none⟩) hb2 (by simp [go_sem, f1_2_2]; try rfl)
  have z2_2 := fun j => grew_frozen (a := ⟨w.heap.size + 1 + 1, j, none⟩) hb2 (by have := hb1.size; simp at this ⊢; omega) (by simp [go_sem, z1_2])
  clear f1_0_0 f1_0_1 f1_0_2 f1_1_0 f1_1_1 f1_1_2 f1_2_0 f1_2_1 f1_2_2 z1_1 z1_2
  go_wp2
  have ow1 := (ownsRow_setCell_below (ownsRow_setCell_below (ownsRow_setCell_below (ownsRow_setCell_below (ownsRow_grew (ownsRow_setCell_below (ownsRow_base ho1 (base' := w.heap.size + 3) (by simp)) (a := ⟨w.heap.size + 1 + 1, 1, none⟩) (by simp) (Value.slice a1 x.added.length c1)) hb2) (a := ⟨w.heap.size + 1 + 1, 2, none⟩) (by simp) (Value.slice a2 x.removed.length c2)) (a := ⟨w.heap.size + 1, 0, none⟩) (by simp) (Value.string p_name)) (a := ⟨w.heap.size + 1, 1, none⟩) (by simp) (Value.slice a1 x.added.length c1)) (a := ⟨w.heap.size + 1, 2, none⟩) (by simp) (Value.slice a2 x.removed.length c2))
  have ow2 := (ownsRow_setCell_below (ownsRow_setCell_below (ownsRow_setCell_below (ownsRow_setCell_below (ownsRow_base ho2 (base' := w.heap.size + 3) (by have := hb1.size; simp at this ⊢; omega)) (a := ⟨w.heap.size + 1 + 1, 2, none⟩) (by simp) (Value.slice a2 x.removed.length c2)) (a := ⟨w.heap.size + 1, 0, none⟩) (by simp) (Value.string p_name)) (a := ⟨w.heap.size + 1, 1, none⟩) (by simp) (Value.slice a1 x.added.length c1)) (a := ⟨w.heap.size + 1, 2, none⟩) (by simp) (Value.slice a2 x.removed.length c2))
  refine bodyPost_ret (v := P3.v ⟨p_name, .slice a1 x.added.length c1, .slice a2 x.removed.length c2⟩) (by simp [results, Try.results62, go_sem, f2_1_0, f2_1_1, f2_1_2]) rfl ⟨⟨p_name, .slice a1 x.added.length c1, .slice a2 x.removed.length c2⟩, rfl, ⟨H_name.out, (own_of ow1).mono (by omega) (Nat.le_refl _), (own_of ow2).mono (by omega) (Nat.le_refl _)⟩, ?_, ?_⟩
  · refine Dis.cons (Dis.one _) (fun u b hu h1 h2 => ?_)
    simp only [List.mem_singleton] at hu
    subst hu
    have k1 := (ho1.lt b h1).2
    have k2 := (ho2.lt b h2).1
    simp at k2; omega
  · repeat' (first | with_reducible exact g2 | with_reducible refine Grew.setCell ?_ ?_ _ | (dsimp only; omega))
theorem Try.infoDf : (Try.prog.info? 94).map (fun i => (i.zero, i.size, i.bytes)) = some (some (P3.z.v), 3, 64) := by kernel_rfl
set_option maxHeartbeats 1000000 in
theorem toDiffS (va : Value) (xs : List Df) (w : World) (ha : RdFs w va xs) (hx : xs.length ≤ 4000000) (hs : ∀ x, x ∈ xs → x.small) :
    Calls Try.prog 15 #[va] w fun e w' => ∃ v, e = .returned v ∧ OwnDfs w' w.heap.size w'.heap.size v xs ∧ Grew w w' := by
  obtain ⟨qs, ⟨a, ca, rfl, hca, hra⟩, hall⟩ := ha
  have HS := Lib.hid hs
  clear hs
  have HA := Lib.hid hall
  clear hall
  generalize hn : xs.length = n at *
  have HN := Lib.hid hn
  clear hn
  obtain ⟨i0, hi, hz0, hz1, hz2⟩ := info_parts Try.infoDf
  go_enter Try.func15, Try.ntmps15
  go_wp2_with (at_make; refine wpList_make_full _ rfl _ _ 24 rfl w.heap.size 94 i0 _ 3 Try.underlying24 hi hz0 hz1 _ _ _ _ n rfl rfl rfl rfl ?b2 ?b3 (Nat.le_refl _) ?_)
  case b2 => (try rw [hz2]); omega
  case b3 => unfold maxLen; omega
  intro w0 hown0 hgrow0
  clear hi hz0 hz1 hz2
  go_wp2
  have hb0 : Grew w w0 := (Grew.refl _).grown hgrow0 (fun k h => by cases h)
  go_loopw [4] (fun i wr => ∃ (k : Nat) (ps : List P3), k ≤ n ∧ i = .int .i64 k ∧ Grew w wr ∧ w.heap.size + 1 ≤ wr.heap.size ∧ wr.ownsRow w.heap.size 94 3 (.slice (some ⟨w.heap.size, 0, none⟩) n n) n (rows P3.c (ps ++ List.replicate (n - k) P3.z)) ∧ Hid (ps.length = k) ∧ All2 (Df.O wr (w.heap.size + 1) wr.heap.size) (xs.take k) ps ∧ Dis (ps.flatMap Df.subs)) (fun i _ => n - (intOf i).toNat)
  case atStart =>
    refine ⟨0, [], Nat.zero_le _, rfl, hb0, ?_, ?_, rfl, All2.nil, Dis.nil⟩
    · have := hown0.lt w.heap.size rfl; omega
    · have hz := rows_made (enc := P3.c) (k := 3) P3.z (Value.cells P3.z.v) rfl rfl n
      rw [List.nil_append, Nat.sub_zero, ← hz]
      exact hown0
  case round =>
    obtain ⟨k, ps, hk, rfl, hbel, hsz, hown, hpl, hO, hD⟩ := hrel
    by_cases hlt : k < n
    · obtain ⟨b1, o1, p, rfl, hpk, c0, c1, c2⟩ := (hra.grew hbel).getP3 hlt
      obtain ⟨x, hxk, hxr⟩ := HA.out.get hpk.out
      have hxs := HS.out x (List.mem_of_getElem? hxk.out)
      go_wp2_with fail
      refine (toDiff x p _ (hxr.grew hbel) hxs).mono ?_
      rintro e w1 ⟨⟨r_name, r_q, r_r⟩, rfl, ho, hd, hb⟩
      obtain ⟨t_q, u_q, e_q⟩ := own_slice (ho.2.1).1
      simp only at e_q
      subst e_q
      obtain ⟨t_r, u_r, e_r⟩ := own_slice (ho.2.2).1
      simp only at e_r
      subst e_r
      have ho1 := ownsRow_grew hown hb
      have hf := fun j => ho1.frozenAt j
      obtain ⟨y, hy, d0, d1, d2⟩ := ownP3 ho1 hlt
      go_wp2
      go_roundw
      case rel =>
        refine ⟨k + 1, ps ++ [(⟨r_name, .slice t_q x.added.length u_q, .slice t_r x.removed.length u_r⟩ : P3)], by omega, by go_num, ?_, ?_, ?_, Lib.hid (by have := hpl.out; simp [this]), ?_, ?_⟩
        · repeat' (first | with_reducible exact hbel | with_reducible refine Grew.setCell ?_ (Nat.le_refl _) _ | with_reducible refine Grew.trans ?_ hb)
        · have := hb.size; simp; omega
        · have hst := storeP3 ho1 hlt (⟨r_name, .slice t_q x.added.length u_q, .slice t_r x.removed.length u_r⟩ : P3)
          rw [set_append_left ps (List.replicate (n - k) P3.z) k (⟨r_name, .slice t_q x.added.length u_q, .slice t_r x.removed.length u_r⟩ : P3) P3.z (List.replicate (n - (k + 1)) P3.z) hpl.out (by rw [show n - k = (n - (k + 1)) + 1 by omega]; rfl)] at hst
          exact hst
        · have ht : Touch w.heap.size (w.heap.size + 1) w1 (((w1.setCell ⟨w.heap.size, k * 3, none⟩ (.string r_name)).setCell ⟨w.heap.size, k * 3 + 1, none⟩ (.slice t_q x.added.length u_q)).setCell ⟨w.heap.size, k * 3 + 2, none⟩ (.slice t_r x.removed.length u_r)) := by
            repeat' (first | with_reducible exact Touch.refl _ _ _ | with_reducible refine Touch.setCell ?_ ?_ ?_ _ | (dsimp only; omega))
          rw [take_snoc hxk.out]
          refine All2.snoc (hO.mono fun x p h => ?_) ?_
          · exact ((h.grew hb).touch ht (.inr (Nat.le_refl _))).mono (Nat.le_refl _) (by have := hb.size; simp; omega)
          · exact (ho.touch ht (.inr (by omega))).mono hsz (by simp)
        · rw [List.flatMap_append]
          refine Dis.app hD (by simpa using hd) (fun u v b hu hv h1 h2 => ?_)
          have k1 := (hO.blk (fun _ _ _ _ h => h.blk) hu h1).2
          have k2 := (ho.blk (by simpa using hv) h2).1
          omega
      case measure => simp [intOf]; omega
    · obtain rfl : k = n := by omega
      go_wp2
      go_ret
      refine ⟨_, rfl, ⟨ps, ?_, ?_, ?_⟩, hbel⟩
      · rw [HN.out]
        exact own_of (by simpa using hown)
      · rw [take_all HN.out] at hO
        exact hO.mono fun x p h => h.mono (by omega) (Nat.le_refl _)
      · refine Dis.cons hD (fun u b hu h1 h2 => ?_)
        have k2 := (hO.blk (fun _ _ _ _ h => h.blk) hu h2).1
        simp [Value.ownBlock] at h1
        omega
set_option maxHeartbeats 1000000 in
theorem eqDiff (x : Df) (p p' : P3) (w : World) (h : Df.R w x p) (h' : Df.R w x p') (hx : x.small) :
    Calls Try.prog 63 #[p.v, p'.v] w fun e w' => e = .returned (.bool true) ∧ Grew w w' := by
  obtain ⟨p_name, p_q, p_r⟩ := p
  obtain ⟨h_name, hr_q, hr_r⟩ := h
  simp only at h_name hr_q hr_r
  obtain ⟨p_name', p_q', p_r'⟩ := p'
  obtain ⟨h_name', hr_q', hr_r'⟩ := h'
  simp only at h_name' hr_q' hr_r'
  subst h_name
  obtain rfl := h_name'
  go_enter Try.func63, Try.ntmps63
  go_wp2_with fail
  refine (eqIntS _ _ _ x.added _ (hr_q.grew (((Grew.refl w).alloc _).alloc _)) (hr_q'.grew (((Grew.refl w).alloc _).alloc _)) hx.1).mono ?_
  rintro e w1 ⟨rfl, hb1⟩
  have g1 : Grew w w1 := (((Grew.refl w).alloc _).alloc _).trans hb1
  have f1_0_0 := grew_cell (a := ⟨w.heap.size, 0, none⟩) hb1 (by simp [go_sem]; rfl)
  have f1_0_1 := grew_cell (a := ⟨w.heap.size, 1, none⟩) hb1 (by simp [go_sem]; rfl)
  have f1_0_2 := grew_cell (a := ⟨w.heap.size, 2, none⟩) hb1 (by simp [go_sem]; rfl)
  have f1_1_0 := grew_cell (a := ⟨w.heap.size + 1, 0, none⟩) hb1 (by simp [go_sem]; rfl)
  have f1_1_1 := grew_cell (a := ⟨w.heap.size + 1, 1, none⟩) hb1 (by simp [go_sem]; rfl)
  have f1_1_2 := grew_cell (a := ⟨w.heap.size + 1, 2, none⟩) hb1 (by simp [go_sem]; rfl)
  go_wp2_with fail
  refine (eqIntS _ _ _ x.removed _ (hr_r.grew g1) (hr_r'.grew g1) hx.2).mono ?_
  rintro e w2 ⟨rfl, hb2⟩
  have g2 : Grew w w2 := g1.trans hb2
  go_wp2
  go_ret
  exact ⟨rfl, g2⟩
set_option maxRecDepth 100000 in
set_option maxHeartbeats 1000000 in
theorem eqDiffS (va vb : Value) (xs : List Df) (w : World) (ha : RdFs w va xs) (hb : RdFs w vb xs) (hx : xs.length ≤ 4000000) (hs : ∀ x, x ∈ xs → x.small) :
    Calls Try.prog 16 #[va, vb] w fun e w' => e = .returned (.bool true) ∧ Grew w w' := by
  obtain ⟨qs, ⟨a, ca, rfl, hca, hra⟩, hall⟩ := ha
  obtain ⟨rs, ⟨b, cb, rfl, hcb, hrb⟩, hbll⟩ := hb
  have HS := Lib.hid hs
  have HA := Lib.hid hall
  have HB := Lib.hid hbll
  clear hall hbll hs
  generalize hn : xs.length = n at *
  clear hn
  go_enter Try.func16, Try.ntmps16
  go_wp2
  go_loopw [5] (fun i wr => ∃ k : Nat, k ≤ n ∧ i = .int .i64 k ∧ Grew w wr) (fun i _ => n - (intOf i).toNat)
  case atStart => exact ⟨0, Nat.zero_le _, rfl, Grew.refl _⟩
  case round =>
    obtain ⟨k, hk, rfl, hbel⟩ := hrel
    by_cases hlt : k < n
    · obtain ⟨b1, o1, p, rfl, hpk, c0, c1, c2⟩ := (hra.grew hbel).getP3 hlt
      obtain ⟨b2, o2, q, rfl, hqk, d0, d1, d2⟩ := (hrb.grew hbel).getP3 hlt
      obtain ⟨x, hxk, hxr⟩ := HA.out.get hpk.out
      obtain ⟨y, hyk, hyr⟩ := HB.out.get hqk.out
      obtain rfl : x = y := by have := hxk.out.symm.trans hyk.out; simpa using this
      have hxs := HS.out x (List.mem_of_getElem? hxk.out)
      go_wp2
      go_still_tail 8, (by kernel_rfl)
      change wpList _ _ _ _ _ wr.drew
      have g2 : Grew wr wr.drew := (Grew.refl _).drew
      generalize wr.drew = w2 at g2
      go_wp2_with fail
      refine (eqDiff x p q _ (hxr.grew (hbel.trans g2)) (hyr.grew (hbel.trans g2)) hxs).mono ?_
      rintro e w1 ⟨rfl, hb⟩
      go_wp2
      go_roundw
      case rel => exact ⟨k + 1, by omega, by go_num, (hbel.trans g2).trans hb⟩
      case measure => simp [intOf]; omega
    · go_wp2
      go_ret
      exact ⟨rfl, hbel⟩
def Fl.subs (p : P5) : List Value := [p.attrs]
def Fl.O (w : World) (lo hi : Nat) (x : Fl) (p : P5) : Prop := p.id = x.id ∧ p.owner = x.owner ∧ p.shared = x.shared ∧ p.link = x.link ∧ Own w lo hi 146 4 p.attrs x.attrs.length (rows At.c x.attrs)
theorem Fl.O.grew {w w' : World} {lo hi : Nat} {x : Fl} {p : P5} (h : Fl.O w lo hi x p) (hg : Grew w w') : Fl.O w' lo hi x p := ⟨h.1, h.2.1, h.2.2.1, h.2.2.2.1, (h.2.2.2.2).grew hg⟩
theorem Fl.O.touch {w w' : World} {lo hi a b : Nat} {x : Fl} {p : P5} (h : Fl.O w lo hi x p) (ht : Touch a b w w') (hd : hi ≤ a ∨ b ≤ lo) : Fl.O w' lo hi x p := ⟨h.1, h.2.1, h.2.2.1, h.2.2.2.1, (h.2.2.2.2).touch ht hd⟩
theorem Fl.O.mono {w : World} {lo hi lo' hi' : Nat} {x : Fl} {p : P5} (h : Fl.O w lo hi x p) (h1 : lo' ≤ lo) (h2 : hi ≤ hi') : Fl.O w lo' hi' x p := ⟨h.1, h.2.1, h.2.2.1, h.2.2.2.1, (h.2.2.2.2).mono h1 h2⟩
theorem Fl.O.rd {w : World} {lo hi : Nat} {x : Fl} {p : P5} (h : Fl.O w lo hi x p) : Fl.R w x p := ⟨h.1, h.2.1, h.2.2.1, h.2.2.2.1, (h.2.2.2.2).rd⟩
theorem Fl.O.blk {w : World} {lo hi : Nat} {x : Fl} {p : P5} {v : Value} {b : Nat} (h : Fl.O w lo hi x p) (hv : v ∈ Fl.subs p) (hb : v.ownBlock = some b) : lo ≤ b ∧ b < hi := by
  simp only [Fl.subs, List.mem_cons, List.not_mem_nil, or_false] at hv
  subst hv; exact (h.2.2.2.2).blk hb
abbrev OwnFls (w : World) (lo hi : Nat) (v : Value) (xs : List Fl) : Prop := OwnL P5.c 5 56 Fl.subs Fl.O w lo hi v xs
theorem OwnFls.rd {w : World} {lo hi : Nat} {v : Value} {xs : List Fl} (h : OwnFls w lo hi v xs) : RdLs w v xs := OwnL.rd (fun _ _ _ _ _ h => h.rd) h
theorem OwnFls.grew {w w' : World} {lo hi : Nat} {v : Value} {xs : List Fl} (h : OwnFls w lo hi v xs) (hg : Grew w w') : OwnFls w' lo hi v xs := OwnL.grew (fun _ _ _ _ _ _ h k => h.grew k) h hg
theorem OwnFls.touch {w w' : World} {lo hi a b : Nat} {v : Value} {xs : List Fl} (h : OwnFls w lo hi v xs) (ht : Touch a b w w') (hd : hi ≤ a ∨ b ≤ lo) : OwnFls w' lo hi v xs := OwnL.touch (fun _ _ _ _ _ _ _ _ h k d => h.touch k d) h ht hd
theorem RdLs.grew {w w' : World} {v : Value} {xs : List Fl} (h : RdLs w v xs) (hg : Grew w w') : RdLs w' v xs := RdL.grew (fun _ _ _ _ h k => h.grew k) h hg
def Fl.small (x : Fl) : Prop := x.attrs.length ≤ 4000000
end Go.Proofs.Ytgekgokkbakcmaa
