/- Contracts: the reference's reader. -/
import Derived.Test.YtodbohmbdgbheaaGreatDoorTx16
namespace Go.Proofs.YtodbohmbdgbheaaGreatDoor
open Go.RowKit
set_option linter.unusedVariables false
theorem newsL {w : World} {l : List Value} {e : TypeId} {g : Nat} (hg : g = w.heap.size) : ∀ (j : Nat) u, l[j]? = some u → (w.alloc (.cells l.toArray e)).cell? ((⟨g, 0, none⟩ : Addr).add j) = some u := by
  subst hg
  intro j u h
  have h1 : (w.alloc (.cells l.toArray e)).cell? ⟨w.heap.size, j, none⟩ = some u := by
    rw [World.cell?_alloc_at _ _ _ _ rfl]; simpa using h
  cases j with
  | zero => simpa [Addr.add] using h1
  | succ j => simpa [Addr.add] using h1
theorem rdS_fail (d : Nat) {ws : List By} {ns : List N} {deep : Nat} (h : opOf (hdB ws) = 0 ∨ 9 < deep ∨ 9 < ns.length) : rdS d ws ns deep = (ns, 0) := by
  cases d with
  | zero => rfl
  | succ d => unfold rdS; dsimp only; rw [if_pos h]
theorem rdS_1 {d : Nat} {ws : List By} {ns : List N} {deep : Nat} (h1 : deep ≤ 9) (h2 : ns.length ≤ 9) (ho : opOf (hdB ws) = 1) : rdS (d + 1) ws ns deep = (ns ++ [nd 1 0 0 ⟨#[]⟩ V.z], 1) := by
  unfold rdS; dsimp only; rw [ho, if_neg (by omega), if_neg (by omega), if_neg (by omega), if_neg (by omega), if_neg (by omega)]
theorem rdS_2 {d : Nat} {ws : List By} {ns : List N} {deep op : Nat} (h1 : deep ≤ 9) (h2 : ns.length ≤ 9) (ho : opOf (hdB ws) = op) (h : op = 2 ∨ op = 8 ∨ op = 9) : rdS (d + 1) ws ns deep = (ns ++ [nd op 0 0 (hdB ws.tail) V.z], 2) := by
  unfold rdS; dsimp only; rw [ho, if_neg (by omega), if_pos h]
theorem rdS_3 {d : Nat} {ws : List By} {ns : List N} {deep op : Nat} (h1 : deep ≤ 9) (h2 : ns.length ≤ 9) (ho : opOf (hdB ws) = op) (h : op = 3 ∨ op = 4) : rdS (d + 1) ws ns deep = (ns ++ [nd op 0 0 (hdB ws.tail) (pvR (hdB ws.tail.tail))], 3) := by
  unfold rdS; dsimp only; rw [ho, if_neg (by omega), if_neg (by omega), if_pos h]
theorem rdS_5 {d : Nat} {ws : List By} {ns : List N} {deep : Nat} (h1 : deep ≤ 9) (h2 : ns.length ≤ 9) (ho : opOf (hdB ws) = 5) {A : List N × Nat} (hA : rdS d ws.tail ns (deep + 1) = A) :
    rdS (d + 1) ws ns deep = if A.2 = 0 then (A.1, 0) else (A.1 ++ [nd 5 ((A.1.length : Int) - 1) 0 ⟨#[]⟩ V.z], 1 + A.2) := by
  subst hA
  conv => lhs; unfold rdS
  dsimp only; rw [ho, if_neg (by omega), if_neg (by omega), if_neg (by omega), if_pos rfl]
theorem rdS_67 {d : Nat} {ws : List By} {ns : List N} {deep op : Nat} (h1 : deep ≤ 9) (h2 : ns.length ≤ 9) (ho : opOf (hdB ws) = op) (h : op = 6 ∨ op = 7) {A B : List N × Nat} (hA : rdS d ws.tail ns (deep + 1) = A) (hB : rdS d (ws.drop (1 + A.2)) A.1 (deep + 1) = B) :
    rdS (d + 1) ws ns deep = if A.2 = 0 then (A.1, 0) else if B.2 = 0 then (B.1, 0) else (B.1 ++ [nd op ((A.1.length : Int) - 1) ((B.1.length : Int) - 1) ⟨#[]⟩ V.z], 1 + A.2 + B.2) := by
  subst hA; subst hB
  conv => lhs; unfold rdS
  dsimp only; rw [ho, if_neg (by omega), if_neg (by omega), if_neg (by omega), if_neg (by omega), if_pos h]
theorem l10PartI (p : List By) (vp : Value) (F : Nat) (x : Int) (w : World) (h : RdF w F vp p) (hp : p.length ≤ 4000000) (h0 : 0 ≤ x) (h1 : x ≤ 4000000) :
    Calls Tryz.prog 55 #[vp, .int .i64 x] w fun e w' => e = .returned (.string (hdB (p.drop x.toNat))) ∧ w' = w := by
  obtain ⟨k, rfl⟩ : ∃ k : Nat, x = k := ⟨x.toNat, by omega⟩
  exact l10Part p vp F k w h hp (by omega)
theorem opTo_yes {w : By} {j : Nat} (h : kw ((j + 1 : Nat) : Int) = w) : opTo w (j + 1) = j + 1 := by unfold opTo; rw [if_pos h]
theorem opTo_no {w : By} {j : Nat} (h : kw ((j + 1 : Nat) : Int) ≠ w) : opTo w (j + 1) = opTo w j := by
  conv => lhs; unfold opTo
  rw [if_neg h]
theorem hd_size {p : List By} (h : ∀ x, x ∈ p → x.size ≤ 4000000) (k : Nat) : (hdB (p.drop k)).size ≤ 4000000 := by
  cases hw : p.drop k with
  | nil => decide
  | cons x r => exact h x (List.mem_of_mem_drop (by rw [hw]; exact List.mem_cons_self ..))
/-- A node in a box of its own. -/
def NBox (w : World) (g : Nat) (x : N) : Prop := (∀ (j : Nat) u, x.c[j]? = some u → w.cell? ⟨g, j, none⟩ = some u) ∧ ∀ j, j < 7 → w.frozen? ⟨g, j, none⟩ = false
theorem NBox.new (w : World) (x : N) (T : TypeId) : NBox (w.alloc (.cells #[.int .i64 x.op, .int .i64 x.left, .int .i64 x.right, .string x.name, .int .i64 x.val.kind, .int .i64 x.val.int, .string x.val.str] T)) w.heap.size x := by
  refine ⟨fun j u h => ?_, fun j _ => by simp [go_sem]⟩
  rw [World.cell?_alloc_at _ _ _ _ rfl]
  simpa [N.c] using h
theorem NBox.cells {w : World} {g : Nat} {x : N} (h : NBox w g x) : w.cell? ⟨g, 0, none⟩ = some (.int .i64 x.op) ∧ w.cell? ⟨g, 1, none⟩ = some (.int .i64 x.left) ∧ w.cell? ⟨g, 2, none⟩ = some (.int .i64 x.right) ∧ w.cell? ⟨g, 3, none⟩ = some (.string x.name) ∧ w.cell? ⟨g, 4, none⟩ = some (.int .i64 x.val.kind) ∧ w.cell? ⟨g, 5, none⟩ = some (.int .i64 x.val.int) ∧ w.cell? ⟨g, 6, none⟩ = some (.string x.val.str) ∧
    w.frozen? ⟨g, 0, none⟩ = false ∧ w.frozen? ⟨g, 1, none⟩ = false ∧ w.frozen? ⟨g, 2, none⟩ = false ∧ w.frozen? ⟨g, 3, none⟩ = false ∧ w.frozen? ⟨g, 4, none⟩ = false ∧ w.frozen? ⟨g, 5, none⟩ = false ∧ w.frozen? ⟨g, 6, none⟩ = false :=
  ⟨h.1 0 _ rfl, h.1 1 _ rfl, h.1 2 _ rfl, h.1 3 _ rfl, h.1 4 _ rfl, h.1 5 _ rfl, h.1 6 _ rfl, h.2 0 (by decide), h.2 1 (by decide), h.2 2 (by decide), h.2 3 (by decide), h.2 4 (by decide), h.2 5 (by decide), h.2 6 (by decide)⟩
theorem NBox.lt {w : World} {g : Nat} {x : N} (h : NBox w g x) : g < w.heap.size := lt_of_cell (h.1 0 _ rfl)
theorem NBox.grew {w w' : World} {g : Nat} {x : N} (h : NBox w g x) (hg : Grew w w') : NBox w' g x :=
  ⟨fun j u hu => grew_cell hg (h.1 j u hu), fun j hj => grew_frozen hg (show (⟨g, j, none⟩ : Addr).block < _ from h.lt) (h.2 j hj)⟩
theorem NBox.ext {x : Option Nat} {w w' : World} {u v : Value} {g : Nat} {y : N} (h : NBox w g y) (he : Ext x w w' u v) (hx : some g ≠ x) (hu : some g ≠ u.ownBlock) : NBox w' g y :=
  ⟨fun j z hz => he.cell (h.1 j z hz) hx hu, fun j hj => he.frozen (a := ⟨g, j, none⟩) (y := y.c[j]'(by rw [N.len]; exact hj)) (h.1 j _ (List.getElem?_eq_getElem _)) hx hu (h.2 j hj)⟩
theorem NBox.set {w : World} {g : Nat} {x y : N} (h : NBox w g x) (j : Nat) (u : Value) (hj : j < 7) (hy : y.c = x.c.set j u) : NBox (w.setCell ⟨g, j, none⟩ u) g y := by
  refine ⟨fun i z hz => ?_, fun i hi => ?_⟩
  · rw [hy] at hz
    by_cases e : i = j
    · subst e
      rw [List.getElem?_set_self (by rw [N.len]; exact hj)] at hz
      injection hz with hz; subst hz
      have h1 := h.1 i (x.c[i]'(by rw [N.len]; exact hj)) (List.getElem?_eq_getElem _)
      simp [go_sem, h1]
    · rw [List.getElem?_set_ne (fun e' => e e'.symm)] at hz
      have h1 := h.1 i z hz
      simp [go_sem, h1]
  · have h1 := h.2 i hi
    simp [go_sem, h1]
set_option maxRecDepth 100000 in
set_option maxHeartbeats 8000000 in
theorem specL10Read (p : List By) (vp : Value) (F base : Nat) (hp : p.length ≤ 1000) (hps : ∀ x, x ∈ p → x.size ≤ 4000000) (hF : F < base) :
    ∀ (d k : Nat) (ns : List N) (deep : Nat) (v : Value) (w : World), 10 ≤ d + deep → deep ≤ 10 → k ≤ p.length + 2 → d ≤ 1000 → ns.length ≤ 3000 → RdF w F vp p → w.ownsRow base 38 7 v ns.length (rows N.c ns) → base ≤ w.heap.size →
      Calls Tryz.prog 33 #[vp, .int .i64 k, v, .int .i64 deep] w fun e w' => ∃ v', e = .returned (.tuple #[v', .int .i64 ((rdS d (p.drop k) ns deep).2 : Nat)]) ∧ w'.ownsRow base 38 7 v' (rdS d (p.drop k) ns deep).1.length (rows N.c (rdS d (p.drop k) ns deep).1) ∧ Ext none w w' v v' := by
  have HPS := Lib.hid hps
  clear hps
  obtain ⟨i0, hi, hz0, hz1, hz2⟩ := info_parts Tryz.infoN
  intro d
  induction d using Nat.strongRecOn with
  | _ d ih =>
  intro k ns deep v w hdd hde hk hd1 hnl hw hown hbw
  have IH := Lib.hid ih
  clear ih
  have HW := Lib.hid hw
  have HO := Lib.hid hown
  have hvb : ∀ j, v.ownBlock = some j → base ≤ j ∧ j < w.heap.size := fun j h => hown.lt j h
  have HVB := Lib.hid hvb
  obtain ⟨o_, c_, rfl, hc_, hf_, hx_⟩ := hw
  obtain ⟨va, vc, rfl⟩ := own_slice hown
  clear hx_ hown hvb
  obtain ⟨wd, hwd_⟩ : ∃ y, hdB (p.drop k) = y := ⟨_, rfl⟩
  have HWD := Lib.hid hwd_
  clear hwd_
  go_enter Tryz.func33, Tryz.ntmps33
  go_wp2
  go_loopw [10, 11] (fun t i wr => ∃ j : Nat, j ≤ 9 ∧ i = .int .i64 ((j + 1 : Nat) : Int) ∧ t = .int .i64 (opTo wd j : Nat) ∧ Grew w wr) (fun _ i _ => 10 - (intOf i).toNat)
  case atStart => exact ⟨0, by decide, rfl, rfl, Grew.refl _⟩
  case round =>
    obtain ⟨j, hj, rfl, rfl, hg⟩ := hrel
    by_cases hlt : j < 9
    · obtain ⟨K, hK_⟩ : ∃ y, kw ((j + 1 : Nat) : Int) = y := ⟨_, rfl⟩
      have HK := Lib.hid hK_
      have hji : ((j : Int) + 1) ≤ 9 := by omega
      by_cases he : K = wd
      · subst he
        have HT := Lib.hid (opTo_yes hK_)
        clear hK_
        go_wp2_with (first | (go_at_call 55; refine (l10Part p _ F k _ (HW.out.grew hg) (by omega) (by omega)).mono ?_; rintro e w1 ⟨he, rfl⟩; rw [HWD.out] at he; subst he) | (go_at_call 16; refine (specOpKeyword _ _).mono ?_; rintro e w2 ⟨he, g2⟩; rw [show kw ((j : Int) + 1) = K from HK.out] at he; subst he))
        go_roundw
        case rel => exact ⟨j + 1, by omega, by go_num, congrArg (Value.int .i64) (by rw [HT.out]; omega), hg.trans g2⟩
        case measure => simp [intOf]; omega
      · have hne := str_ne he
        have hne2 : (wd.toList == K.toList) = false := by rw [beq_eq_false_iff_ne] at hne ⊢; exact fun h => hne h.symm
        have HT := Lib.hid (opTo_no (j := j) (w := wd) (by rw [hK_]; exact he))
        clear hK_
        go_wp2_with (first | (go_at_call 55; refine (l10Part p _ F k _ (HW.out.grew hg) (by omega) (by omega)).mono ?_; rintro e w1 ⟨he, rfl⟩; rw [HWD.out] at he; subst he) | (go_at_call 16; refine (specOpKeyword _ _).mono ?_; rintro e w2 ⟨he, g2⟩; rw [show kw ((j : Int) + 1) = K from HK.out] at he; subst he))
        go_roundw
        case rel => exact ⟨j + 1, by omega, by go_num, congrArg (Value.int .i64) (by rw [HT.out]), hg.trans g2⟩
        case measure => simp [intOf]; omega
    · obtain rfl : j = 9 := by omega
      have hol := opOf_le wd
      obtain ⟨q, hq_⟩ : ∃ q, opTo wd 9 = q := ⟨_, rfl⟩
      have HOP := Lib.hid (show opOf (hdB (p.drop k)) = q by rw [HWD.out]; exact hq_)
      rw [hq_]
      have hq9 : q ≤ 9 := by rw [← hq_]; exact hol
      clear hol hq_
      have OR := Lib.hid (ownsRow_grew HO.out hg)
      have WR := Lib.hid (HW.out.grew hg)
      have hbr : base ≤ wr.heap.size := Nat.le_trans hbw hg.size
      have BX := Lib.hid (NBox.new wr (nd q 0 0 ⟨#[]⟩ V.z) 38)
      by_cases hq0 : q = 0
      · subst hq0
        have HR := Lib.hid (rdS_fail d (ws := p.drop k) (ns := ns) (deep := deep) (.inl HOP.out))
        go_wp2
        go_ret2
        rw [HR.out]
        exact ⟨_, rfl, ownsRow_grew OR.out ((Grew.refl _).alloc _), (Ext.refl none w _).grew (hg.alloc _)⟩
      by_cases hde9 : 9 < deep
      · have hqi : ¬ ((q : Int) = 0) := by omega
        have hdi : (9 : Int) < deep := by omega
        have HR := Lib.hid (rdS_fail d (ws := p.drop k) (ns := ns) (deep := deep) (.inr (.inl hde9)))
        go_wp2
        go_ret2
        rw [HR.out]
        exact ⟨_, rfl, ownsRow_grew OR.out ((Grew.refl _).alloc _), (Ext.refl none w _).grew (hg.alloc _)⟩
      by_cases hn9 : 9 < ns.length
      · have hqi : ¬ ((q : Int) = 0) := by omega
        have hdi : ¬ ((9 : Int) < deep) := by omega
        have hni : (9 : Int) < ns.length := by omega
        have HR := Lib.hid (rdS_fail d (ws := p.drop k) (ns := ns) (deep := deep) (.inr (.inr hn9)))
        go_wp2
        go_ret2
        rw [HR.out]
        exact ⟨_, rfl, ownsRow_grew OR.out ((Grew.refl _).alloc _), (Ext.refl none w _).grew (hg.alloc _)⟩
      have hdi : ¬ ((9 : Int) < deep) := by omega
      have hni : ¬ ((9 : Int) < ns.length) := by omega
      obtain ⟨d, rfl⟩ : ∃ x, d = x + 1 := ⟨d - 1, by omega⟩
      have hkl : k < p.length := by
        apply Nat.lt_of_not_le; intro hc
        have h1 := HOP.out
        rw [List.drop_eq_nil_of_le hc] at h1
        exact hq0 (by rw [← h1]; exact opOf_nil)
      have HT1 := Lib.hid (show (p.drop k).tail = p.drop (k + 1) by rw [List.tail_drop])
      have HT2 := Lib.hid (show (p.drop k).tail.tail = p.drop (k + 2) by rw [List.tail_drop, List.tail_drop])
      have hqc : q = 1 ∨ q = 2 ∨ q = 3 ∨ q = 4 ∨ q = 5 ∨ q = 6 ∨ q = 7 ∨ q = 8 ∨ q = 9 := by omega
      clear hq9 hq0
      rcases hqc with rfl | rfl | rfl | rfl | rfl | rfl | rfl | rfl | rfl
      · have HR := Lib.hid (rdS_1 (d := d) (ns := ns) (deep := deep) (by omega) (by omega) HOP.out)
        go_wp2_with (first | (go_at_call 38; refine (l01In _ _ _ _).mono ?_; rintro e w8 ⟨he, rfl⟩; rw [show inB 1 5 7 = false from rfl] at he; subst he) | (at_builtin; refine wpList_append_own_at _ rfl _ _ 24 rfl base 38 i0 _ 7 72 Tryz.underlying24 hi hz0 hz1 hz2 rfl (by decide) _ _ _ rfl (ownsRow_grew OR.out (by repeat' (first | with_reducible exact Grew.refl _ | assumption | with_reducible refine Grew.alloc ?_ _ | with_reducible refine Grew.setCell ?_ ?_ _ | (dsimp only; omega)))) ⟨_, 0, none⟩ 1 1 [.int .i64 1, .int .i64 0, .int .i64 0, .string ⟨#[]⟩, .int .i64 0, .int .i64 0, .string ⟨#[]⟩] rfl rfl (newsL (by simp)) (fun x hx => List.all_eq_true.1 (show ([.int .i64 1, .int .i64 0, .int .i64 0, .string ⟨#[]⟩, .int .i64 0, .int .i64 0, .string ⟨#[]⟩] : List Value).all (fun u => u.oneCell') = true from rfl) x hx) (by unfold maxLen; omega) (by omega) (by have := hbr; simp; omega) ?_; intro v9 w9 o9 hgr _ hat; have X9 := Lib.hid (((Ext.refl none w _).grew (hg.trans (by repeat' (first | with_reducible exact Grew.refl _ | assumption | with_reducible refine Grew.alloc ?_ _ | with_reducible refine Grew.setCell ?_ ?_ _ | (dsimp only; omega))))).app hgr hat); have O9 := Lib.hid o9))
        go_ret2
        rw [HR.out]
        exact ⟨_, rfl, (by rw [List.length_append, rows_append]; exact O9.out), X9.out⟩
      · obtain ⟨nm, hnm_⟩ : ∃ y, hdB (p.drop (k + 1)) = y := ⟨_, rfl⟩
        have HNMi := Lib.hid (show hdB (p.drop ((k : Int) + 1).toNat) = nm by rw [show ((k : Int) + 1).toNat = k + 1 by omega]; exact hnm_)
        have HR := Lib.hid (show rdS (d + 1) (p.drop k) ns deep = (ns ++ [nd 2 0 0 nm V.z], 2) by rw [rdS_2 (op := 2) (by omega) (by omega) HOP.out (by decide), HT1.out, hnm_])
        clear hnm_
        go_wp2_with (first | (go_at_call 55; refine (l10PartI p _ F _ _ (RdF.grew WR.out (by repeat' (first | with_reducible exact Grew.refl _ | assumption | with_reducible refine Grew.alloc ?_ _ | with_reducible refine Grew.setCell ?_ ?_ _ | (dsimp only; omega)))) (by omega) (by omega) (by omega)).mono ?_; rintro e w1 ⟨he, rfl⟩; first | rw [HNMi.out] at he | rw [HSVi.out] at he; subst he) | (at_builtin; refine wpList_append_own_at _ rfl _ _ 24 rfl base 38 i0 _ 7 72 Tryz.underlying24 hi hz0 hz1 hz2 rfl (by decide) _ _ _ rfl (ownsRow_grew OR.out (by repeat' (first | with_reducible exact Grew.refl _ | assumption | with_reducible refine Grew.alloc ?_ _ | with_reducible refine Grew.setCell ?_ ?_ _ | (dsimp only; omega)))) ⟨_, 0, none⟩ 1 1 [.int .i64 2, .int .i64 0, .int .i64 0, .string nm, .int .i64 0, .int .i64 0, .string ⟨#[]⟩] rfl rfl (newsL (by simp)) (fun x hx => List.all_eq_true.1 (show ([.int .i64 2, .int .i64 0, .int .i64 0, .string nm, .int .i64 0, .int .i64 0, .string ⟨#[]⟩] : List Value).all (fun u => u.oneCell') = true from rfl) x hx) (by unfold maxLen; omega) (by omega) (by have := hbr; simp; omega) ?_; intro v9 w9 o9 hgr _ hat; have X9 := Lib.hid (((Ext.refl none w _).grew (hg.trans (by repeat' (first | with_reducible exact Grew.refl _ | assumption | with_reducible refine Grew.alloc ?_ _ | with_reducible refine Grew.setCell ?_ ?_ _ | (dsimp only; omega))))).app hgr hat); have O9 := Lib.hid o9))
        go_ret2
        rw [HR.out]
        exact ⟨_, rfl, (by rw [List.length_append, rows_append]; exact O9.out), X9.out⟩
      · obtain ⟨nm, hnm_⟩ : ∃ y, hdB (p.drop (k + 1)) = y := ⟨_, rfl⟩
        have HNMi := Lib.hid (show hdB (p.drop ((k : Int) + 1).toNat) = nm by rw [show ((k : Int) + 1).toNat = k + 1 by omega]; exact hnm_)
        have hsv := hd_size HPS.out (k + 2)
        obtain ⟨sv, hsv_⟩ : ∃ y, hdB (p.drop (k + 2)) = y := ⟨_, rfl⟩
        have HSVi := Lib.hid (show hdB (p.drop ((k : Int) + 2).toNat) = sv by rw [show ((k : Int) + 2).toNat = k + 2 by omega]; exact hsv_)
        rw [hsv_] at hsv
        obtain ⟨pr, hpr_⟩ : ∃ y, pvR sv = y := ⟨_, rfl⟩
        have HPR := Lib.hid hpr_
        have HR := Lib.hid (show rdS (d + 1) (p.drop k) ns deep = (ns ++ [nd 3 0 0 nm pr], 3) by rw [rdS_3 (op := 3) (by omega) (by omega) HOP.out (by decide), HT2.out, HT1.out, hnm_, hsv_, hpr_])
        clear hnm_ hsv_ hpr_
        go_wp2_with (first | (go_at_call 55; refine (l10PartI p _ F _ _ (RdF.grew WR.out (by repeat' (first | with_reducible exact Grew.refl _ | assumption | with_reducible refine Grew.alloc ?_ _ | with_reducible refine Grew.setCell ?_ ?_ _ | (dsimp only; omega)))) (by omega) (by omega) (by omega)).mono ?_; rintro e w1 ⟨he, rfl⟩; first | rw [HNMi.out] at he | rw [HSVi.out] at he; subst he) | (go_at_call 56; refine (specParseValue sv hsv _).mono ?_; rintro e w5 ⟨he, g5⟩; rw [HPR.out] at he; subst he; have G5 : Grew wr w5 := Grew.trans (by repeat' (first | with_reducible exact Grew.refl _ | assumption | with_reducible refine Grew.alloc ?_ _ | with_reducible refine Grew.setCell ?_ ?_ _ | (dsimp only; omega))) g5; obtain ⟨e0, e1, e2, e3, e4, e5, e6, f0, f1, f2, f3, f4, f5, f6⟩ := ((NBox.new wr (nd 3 0 0 nm V.z) 38).grew g5).cells; dsimp only [nd, V.z] at e0 e1 e2 e3 e4 e5 e6) | (at_builtin; refine wpList_append_own_at _ rfl _ _ 24 rfl base 38 i0 _ 7 72 Tryz.underlying24 hi hz0 hz1 hz2 rfl (by decide) _ _ _ rfl (ownsRow_grew OR.out (by repeat' (first | with_reducible exact Grew.refl _ | assumption | with_reducible refine Grew.alloc ?_ _ | with_reducible refine Grew.setCell ?_ ?_ _ | (dsimp only; omega)))) ⟨_, 0, none⟩ 1 1 [.int .i64 3, .int .i64 0, .int .i64 0, .string nm, .int .i64 pr.kind, .int .i64 pr.int, .string pr.str] rfl rfl (newsL (by simp)) (fun x hx => List.all_eq_true.1 (show ([.int .i64 3, .int .i64 0, .int .i64 0, .string nm, .int .i64 pr.kind, .int .i64 pr.int, .string pr.str] : List Value).all (fun u => u.oneCell') = true from rfl) x hx) (by unfold maxLen; omega) (by omega) (by have := G5.size; simp; omega) ?_; intro v9 w9 o9 hgr _ hat; have X9 := Lib.hid (((Ext.refl none w _).grew (hg.trans (by repeat' (first | with_reducible exact Grew.refl _ | assumption | with_reducible refine Grew.alloc ?_ _ | with_reducible refine Grew.setCell ?_ ?_ _ | (dsimp only; omega))))).app hgr hat); have O9 := Lib.hid o9))
        go_ret2
        rw [HR.out]
        exact ⟨_, rfl, (by rw [List.length_append, rows_append]; exact O9.out), X9.out⟩
      · obtain ⟨nm, hnm_⟩ : ∃ y, hdB (p.drop (k + 1)) = y := ⟨_, rfl⟩
        have HNMi := Lib.hid (show hdB (p.drop ((k : Int) + 1).toNat) = nm by rw [show ((k : Int) + 1).toNat = k + 1 by omega]; exact hnm_)
        have hsv := hd_size HPS.out (k + 2)
        obtain ⟨sv, hsv_⟩ : ∃ y, hdB (p.drop (k + 2)) = y := ⟨_, rfl⟩
        have HSVi := Lib.hid (show hdB (p.drop ((k : Int) + 2).toNat) = sv by rw [show ((k : Int) + 2).toNat = k + 2 by omega]; exact hsv_)
        rw [hsv_] at hsv
        obtain ⟨pr, hpr_⟩ : ∃ y, pvR sv = y := ⟨_, rfl⟩
        have HPR := Lib.hid hpr_
        have HR := Lib.hid (show rdS (d + 1) (p.drop k) ns deep = (ns ++ [nd 4 0 0 nm pr], 3) by rw [rdS_3 (op := 4) (by omega) (by omega) HOP.out (by decide), HT2.out, HT1.out, hnm_, hsv_, hpr_])
        clear hnm_ hsv_ hpr_
        go_wp2_with (first | (go_at_call 55; refine (l10PartI p _ F _ _ (RdF.grew WR.out (by repeat' (first | with_reducible exact Grew.refl _ | assumption | with_reducible refine Grew.alloc ?_ _ | with_reducible refine Grew.setCell ?_ ?_ _ | (dsimp only; omega)))) (by omega) (by omega) (by omega)).mono ?_; rintro e w1 ⟨he, rfl⟩; first | rw [HNMi.out] at he | rw [HSVi.out] at he; subst he) | (go_at_call 56; refine (specParseValue sv hsv _).mono ?_; rintro e w5 ⟨he, g5⟩; rw [HPR.out] at he; subst he; have G5 : Grew wr w5 := Grew.trans (by repeat' (first | with_reducible exact Grew.refl _ | assumption | with_reducible refine Grew.alloc ?_ _ | with_reducible refine Grew.setCell ?_ ?_ _ | (dsimp only; omega))) g5; obtain ⟨e0, e1, e2, e3, e4, e5, e6, f0, f1, f2, f3, f4, f5, f6⟩ := ((NBox.new wr (nd 4 0 0 nm V.z) 38).grew g5).cells; dsimp only [nd, V.z] at e0 e1 e2 e3 e4 e5 e6) | (at_builtin; refine wpList_append_own_at _ rfl _ _ 24 rfl base 38 i0 _ 7 72 Tryz.underlying24 hi hz0 hz1 hz2 rfl (by decide) _ _ _ rfl (ownsRow_grew OR.out (by repeat' (first | with_reducible exact Grew.refl _ | assumption | with_reducible refine Grew.alloc ?_ _ | with_reducible refine Grew.setCell ?_ ?_ _ | (dsimp only; omega)))) ⟨_, 0, none⟩ 1 1 [.int .i64 4, .int .i64 0, .int .i64 0, .string nm, .int .i64 pr.kind, .int .i64 pr.int, .string pr.str] rfl rfl (newsL (by simp)) (fun x hx => List.all_eq_true.1 (show ([.int .i64 4, .int .i64 0, .int .i64 0, .string nm, .int .i64 pr.kind, .int .i64 pr.int, .string pr.str] : List Value).all (fun u => u.oneCell') = true from rfl) x hx) (by unfold maxLen; omega) (by omega) (by have := G5.size; simp; omega) ?_; intro v9 w9 o9 hgr _ hat; have X9 := Lib.hid (((Ext.refl none w _).grew (hg.trans (by repeat' (first | with_reducible exact Grew.refl _ | assumption | with_reducible refine Grew.alloc ?_ _ | with_reducible refine Grew.setCell ?_ ?_ _ | (dsimp only; omega))))).app hgr hat); have O9 := Lib.hid o9))
        go_ret2
        rw [HR.out]
        exact ⟨_, rfl, (by rw [List.length_append, rows_append]; exact O9.out), X9.out⟩
      · obtain ⟨A, hA_⟩ : ∃ y, rdS d (p.drop (k + 1)) ns (deep + 1) = y := ⟨_, rfl⟩
        have HA := Lib.hid hA_
        have hal := rdS_len d (p.drop (k + 1)) ns (deep + 1)
        have hau := (rdS_used d (p.drop (k + 1)) ns (deep + 1)).1
        rw [hA_] at hal hau
        rw [List.length_drop] at hau
        obtain ⟨A1, a2⟩ := A
        dsimp only at hal hau
        have HR0 := Lib.hid (rdS_5 (d := d) (ns := ns) (deep := deep) (by omega) (by omega) HOP.out (show rdS d (p.drop k).tail ns (deep + 1) = (A1, a2) by rw [HT1.out]; exact hA_))
        dsimp only at HR0
        clear hA_
        by_cases ha : a2 = 0
        · subst ha
          have HR := Lib.hid (HR0.out.trans (if_pos rfl))
          go_wp2_with (first | (go_at_call 38; refine (l01In _ _ _ _).mono ?_; rintro e w8 ⟨he, rfl⟩; rw [show inB 5 5 7 = true from rfl] at he; subst he) | (go_at_call 33; refine (IH.out d (Nat.lt_succ_self d) (k + 1) ns (deep + 1) _ _ (by omega) (by omega) (by omega) (by omega) hnl (RdF.grew WR.out (by repeat' (first | with_reducible exact Grew.refl _ | assumption | with_reducible refine Grew.alloc ?_ _ | with_reducible refine Grew.setCell ?_ ?_ _ | (dsimp only; omega)))) (ownsRow_grew OR.out (by repeat' (first | with_reducible exact Grew.refl _ | assumption | with_reducible refine Grew.alloc ?_ _ | with_reducible refine Grew.setCell ?_ ?_ _ | (dsimp only; omega)))) (by have := hbr; simp; omega)).mono ?_; rintro e w5 ⟨v5, he, o5, x5⟩; rw [HA.out] at he o5; dsimp only at he o5; subst he; have X5 : Ext none wr w5 _ v5 := Ext.pre (by repeat' (first | with_reducible exact Grew.refl _ | assumption | with_reducible refine Grew.alloc ?_ _ | with_reducible refine Grew.setCell ?_ ?_ _ | (dsimp only; omega))) x5; have BV5 : v5.ownBlock ≠ some wr.heap.size := fun e => x5.blk.elim (fun hb => by rw [hb] at e; have := (HVB.out _ e).2; have := hg.size; omega) (fun hb => by have := hb _ e; simp at this; omega); have O5 := Lib.hid o5; have B5 := Lib.hid ((NBox.new wr (nd 5 0 0 ⟨#[]⟩ V.z) 38).ext x5 (by simp) (fun e => by have := (HVB.out _ e.symm).2; have := hg.size; omega)); obtain ⟨e0, e1, e2, e3, e4, e5, e6, f0, f1, f2, f3, f4, f5, f6⟩ := B5.out.cells; dsimp only [nd, V.z] at e0 e1 e2 e3 e4 e5 e6; obtain ⟨va5, vc5, rfl⟩ := own_slice o5; clear o5 x5))
          go_ret2
          rw [HR.out]
          exact ⟨_, rfl, own_other O5.out BV5, ((Ext.pre hg X5).set hg.size)⟩
        · have hai : ¬ ((a2 : Int) = 0) := by omega
          have HR := Lib.hid (HR0.out.trans (if_neg ha))
          go_wp2_with (first | (go_at_call 38; refine (l01In _ _ _ _).mono ?_; rintro e w8 ⟨he, rfl⟩; rw [show inB 5 5 7 = true from rfl] at he; subst he) | (go_at_call 33; refine (IH.out d (Nat.lt_succ_self d) (k + 1) ns (deep + 1) _ _ (by omega) (by omega) (by omega) (by omega) hnl (RdF.grew WR.out (by repeat' (first | with_reducible exact Grew.refl _ | assumption | with_reducible refine Grew.alloc ?_ _ | with_reducible refine Grew.setCell ?_ ?_ _ | (dsimp only; omega)))) (ownsRow_grew OR.out (by repeat' (first | with_reducible exact Grew.refl _ | assumption | with_reducible refine Grew.alloc ?_ _ | with_reducible refine Grew.setCell ?_ ?_ _ | (dsimp only; omega)))) (by have := hbr; simp; omega)).mono ?_; rintro e w5 ⟨v5, he, o5, x5⟩; rw [HA.out] at he o5; dsimp only at he o5; subst he; have X5 : Ext none wr w5 _ v5 := Ext.pre (by repeat' (first | with_reducible exact Grew.refl _ | assumption | with_reducible refine Grew.alloc ?_ _ | with_reducible refine Grew.setCell ?_ ?_ _ | (dsimp only; omega))) x5; have BV5 : v5.ownBlock ≠ some wr.heap.size := fun e => x5.blk.elim (fun hb => by rw [hb] at e; have := (HVB.out _ e).2; have := hg.size; omega) (fun hb => by have := hb _ e; simp at this; omega); have O5 := Lib.hid o5; have B5 := Lib.hid ((NBox.new wr (nd 5 0 0 ⟨#[]⟩ V.z) 38).ext x5 (by simp) (fun e => by have := (HVB.out _ e.symm).2; have := hg.size; omega)); obtain ⟨e0, e1, e2, e3, e4, e5, e6, f0, f1, f2, f3, f4, f5, f6⟩ := B5.out.cells; dsimp only [nd, V.z] at e0 e1 e2 e3 e4 e5 e6; obtain ⟨va5, vc5, rfl⟩ := own_slice o5; clear o5 x5) | (at_builtin; refine wpList_append_own_at _ rfl _ _ 24 rfl base 38 i0 _ 7 72 Tryz.underlying24 hi hz0 hz1 hz2 rfl (by decide) _ _ _ rfl (ownsRow_grew (own_other O5.out BV5) (by repeat' (first | with_reducible exact Grew.refl _ | assumption | with_reducible refine Grew.alloc ?_ _ | with_reducible refine Grew.setCell ?_ ?_ _ | (dsimp only; omega)))) ⟨_, 0, none⟩ 1 1 [.int .i64 5, .int .i64 ((A1.length : Int) - 1), .int .i64 0, .string ⟨#[]⟩, .int .i64 0, .int .i64 0, .string ⟨#[]⟩] rfl rfl (newsL (by simp)) (fun x hx => List.all_eq_true.1 (show ([.int .i64 5, .int .i64 ((A1.length : Int) - 1), .int .i64 0, .string ⟨#[]⟩, .int .i64 0, .int .i64 0, .string ⟨#[]⟩] : List Value).all (fun u => u.oneCell') = true from rfl) x hx) (by unfold maxLen; omega) (by omega) (by have := X5.size; simp; omega) ?_; intro v9 w9 o9 hgr _ hat; have X9 := Lib.hid ((((Ext.pre hg X5).set hg.size).grew (by repeat' (first | with_reducible exact Grew.refl _ | assumption | with_reducible refine Grew.alloc ?_ _ | with_reducible refine Grew.setCell ?_ ?_ _ | (dsimp only; omega)))).app hgr hat); have O9 := Lib.hid o9))
          go_ret2
          rw [HR.out]
          exact ⟨_, congrArg Ending.returned (by simp), (by rw [List.length_append, rows_append]; exact O9.out), X9.out⟩
      · have FV : some F ≠ (Value.slice va ns.length vc).ownBlock := fun e => by have := (HVB.out _ e.symm).1; omega
        obtain ⟨A, hA_⟩ : ∃ y, rdS d (p.drop (k + 1)) ns (deep + 1) = y := ⟨_, rfl⟩
        have HA := Lib.hid hA_
        have hal := rdS_len d (p.drop (k + 1)) ns (deep + 1)
        have hau := (rdS_used d (p.drop (k + 1)) ns (deep + 1)).1
        rw [hA_] at hal hau
        rw [List.length_drop] at hau
        obtain ⟨A1, a2⟩ := A
        dsimp only at hal hau
        obtain ⟨B, hB_⟩ : ∃ y, rdS d (p.drop (k + (1 + a2))) A1 (deep + 1) = y := ⟨_, rfl⟩
        have HB := Lib.hid hB_
        have hbl := rdS_len d (p.drop (k + (1 + a2))) A1 (deep + 1)
        have hbu := (rdS_used d (p.drop (k + (1 + a2))) A1 (deep + 1)).1
        rw [hB_] at hbl hbu
        rw [List.length_drop] at hbu
        obtain ⟨B1, b2⟩ := B
        dsimp only at hbl hbu
        have HR0 := Lib.hid (rdS_67 (d := d) (ns := ns) (deep := deep) (op := 6) (by omega) (by omega) HOP.out (by decide) (show rdS d (p.drop k).tail ns (deep + 1) = (A1, a2) by rw [HT1.out]; exact hA_) (show rdS d ((p.drop k).drop (1 + a2)) A1 (deep + 1) = (B1, b2) by rw [List.drop_drop]; exact hB_))
        dsimp only at HR0
        clear hA_ hB_
        have IH1 := Lib.hid (show ∀ w : World, RdF w F (.slice (some ⟨F, o_, none⟩) p.length c_) p → w.ownsRow base 38 7 (.slice va ns.length vc) ns.length (rows N.c ns) → base ≤ w.heap.size → Calls Tryz.prog 33 #[.slice (some ⟨F, o_, none⟩) p.length c_, .int .i64 ((k : Int) + 1), .slice va ns.length vc, .int .i64 ((deep : Int) + 1)] w (fun e w2 => ∃ v2, e = .returned (.tuple #[v2, .int .i64 (a2 : Nat)]) ∧ w2.ownsRow base 38 7 v2 A1.length (rows N.c A1) ∧ Ext none w w2 (.slice va ns.length vc) v2) from fun w h1 h2 h3 => by have h := IH.out d (Nat.lt_succ_self d) (k + 1) ns (deep + 1) _ w (by omega) (by omega) (by omega) (by omega) hnl h1 h2 h3; rw [HA.out] at h; exact h)
        have IH2 := Lib.hid (show ∀ (v5 : Value) (w : World), RdF w F (.slice (some ⟨F, o_, none⟩) p.length c_) p → w.ownsRow base 38 7 v5 A1.length (rows N.c A1) → base ≤ w.heap.size → Calls Tryz.prog 33 #[.slice (some ⟨F, o_, none⟩) p.length c_, .int .i64 ((k : Int) + (1 + (a2 : Int))), v5, .int .i64 ((deep : Int) + 1)] w (fun e w2 => ∃ v2, e = .returned (.tuple #[v2, .int .i64 (b2 : Nat)]) ∧ w2.ownsRow base 38 7 v2 B1.length (rows N.c B1) ∧ Ext none w w2 v5 v2) from fun v5 w h1 h2 h3 => by have h := IH.out d (Nat.lt_succ_self d) (k + (1 + a2)) A1 (deep + 1) v5 w (by omega) (by omega) (by omega) (by omega) (by omega) h1 h2 h3; rw [HB.out] at h; exact h)
        by_cases ha : a2 = 0
        · subst ha
          have HR := Lib.hid (HR0.out.trans (if_pos rfl))
          go_wp2_with (first | (go_at_call 38; refine (l01In _ _ _ _).mono ?_; rintro e w8 ⟨he, rfl⟩; rw [show inB 6 5 7 = true from rfl] at he; subst he) | (go_at_call 33; (with_reducible refine (IH1.out _ (RdF.grew WR.out (by repeat' (first | with_reducible exact Grew.refl _ | assumption | with_reducible refine Grew.alloc ?_ _ | with_reducible refine Grew.setCell ?_ ?_ _ | (dsimp only; omega)))) (ownsRow_grew OR.out (by repeat' (first | with_reducible exact Grew.refl _ | assumption | with_reducible refine Grew.alloc ?_ _ | with_reducible refine Grew.setCell ?_ ?_ _ | (dsimp only; omega)))) (by have := hbr; simp; omega)).mono ?_); rintro e w5 ⟨v5, he, o5, x5⟩; subst he; have X5 : Ext none wr w5 _ v5 := Ext.pre (by repeat' (first | with_reducible exact Grew.refl _ | assumption | with_reducible refine Grew.alloc ?_ _ | with_reducible refine Grew.setCell ?_ ?_ _ | (dsimp only; omega))) x5; have BV5 : v5.ownBlock ≠ some wr.heap.size := fun e => x5.blk.elim (fun hb => by rw [hb] at e; have := (HVB.out _ e).2; have := hg.size; omega) (fun hb => by have := hb _ e; simp at this; omega); have O5 := Lib.hid o5; have B5 := Lib.hid ((NBox.new wr (nd 6 0 0 ⟨#[]⟩ V.z) 38).ext x5 (by simp) (fun e => by have := (HVB.out _ e.symm).2; have := hg.size; omega)); obtain ⟨e0, e1, e2, e3, e4, e5, e6, f0, f1, f2, f3, f4, f5, f6⟩ := B5.out.cells; dsimp only [nd, V.z] at e0 e1 e2 e3 e4 e5 e6; obtain ⟨va5, vc5, rfl⟩ := own_slice o5; clear o5 x5))
          go_ret2
          rw [HR.out]
          exact ⟨_, rfl, own_other O5.out BV5, ((Ext.pre hg X5).set hg.size)⟩
        have hai : ¬ ((a2 : Int) = 0) := by omega
        have HR1 := Lib.hid (HR0.out.trans (if_neg ha))
        by_cases hb : b2 = 0
        · subst hb
          have HR := Lib.hid (HR1.out.trans (if_pos rfl))
          go_wp2_with (first | (go_at_call 38; refine (l01In _ _ _ _).mono ?_; rintro e w8 ⟨he, rfl⟩; rw [show inB 6 5 7 = true from rfl] at he; subst he) | (go_at_call 33; (with_reducible refine (IH1.out _ (RdF.grew WR.out (by repeat' (first | with_reducible exact Grew.refl _ | assumption | with_reducible refine Grew.alloc ?_ _ | with_reducible refine Grew.setCell ?_ ?_ _ | (dsimp only; omega)))) (ownsRow_grew OR.out (by repeat' (first | with_reducible exact Grew.refl _ | assumption | with_reducible refine Grew.alloc ?_ _ | with_reducible refine Grew.setCell ?_ ?_ _ | (dsimp only; omega)))) (by have := hbr; simp; omega)).mono ?_); rintro e w5 ⟨v5, he, o5, x5⟩; subst he; have X5 : Ext none wr w5 _ v5 := Ext.pre (by repeat' (first | with_reducible exact Grew.refl _ | assumption | with_reducible refine Grew.alloc ?_ _ | with_reducible refine Grew.setCell ?_ ?_ _ | (dsimp only; omega))) x5; have BV5 : v5.ownBlock ≠ some wr.heap.size := fun e => x5.blk.elim (fun hb => by rw [hb] at e; have := (HVB.out _ e).2; have := hg.size; omega) (fun hb => by have := hb _ e; simp at this; omega); have O5 := Lib.hid o5; have B5 := Lib.hid ((NBox.new wr (nd 6 0 0 ⟨#[]⟩ V.z) 38).ext x5 (by simp) (fun e => by have := (HVB.out _ e.symm).2; have := hg.size; omega)); obtain ⟨e0, e1, e2, e3, e4, e5, e6, f0, f1, f2, f3, f4, f5, f6⟩ := B5.out.cells; dsimp only [nd, V.z] at e0 e1 e2 e3 e4 e5 e6; obtain ⟨va5, vc5, rfl⟩ := own_slice o5; clear o5 x5) | (go_at_call 33; (with_reducible refine (IH2.out _ _ (RdF.ext WR.out (Ext.set X5 (Nat.le_refl _)) (by simp) FV) (own_other O5.out BV5) (by have := X5.size; simp; omega)).mono ?_); rintro e w7 ⟨v7, he, o7, x7⟩; subst he; have E7 : Ext none wr w7 _ v7 := Ext.trans (Ext.set X5 (Nat.le_refl _)) x7; have BV7 : v7.ownBlock ≠ some wr.heap.size := fun e => x7.blk.elim (fun hb => BV5 (by rw [hb] at e; exact e)) (fun hb => by have := hb _ e; have := X5.size; have := B5.out.lt; simp at *; omega); have O7 := Lib.hid o7; have B7 := Lib.hid ((NBox.set B5.out 1 (.int .i64 ((A1.length : Int) - 1)) (y := nd 6 ((A1.length : Int) - 1) 0 ⟨#[]⟩ V.z) (by decide) rfl).ext x7 (by simp) (fun e => BV5 e.symm)); obtain ⟨m0, m1, m2, m3, m4, m5, m6, k0, k1, k2, k3, k4, k5, k6⟩ := B7.out.cells; dsimp only [nd, V.z] at m0 m1 m2 m3 m4 m5 m6; obtain ⟨va7, vc7, rfl⟩ := own_slice o7; clear o7 x7))
          go_ret2
          rw [HR.out]
          exact ⟨_, rfl, own_other O7.out BV7, ((Ext.pre hg E7).set hg.size)⟩
        · have hbi : ¬ ((b2 : Int) = 0) := by omega
          have HR := Lib.hid (HR1.out.trans (if_neg hb))
          go_wp2_with (first | (go_at_call 38; refine (l01In _ _ _ _).mono ?_; rintro e w8 ⟨he, rfl⟩; rw [show inB 6 5 7 = true from rfl] at he; subst he) | (go_at_call 33; (with_reducible refine (IH1.out _ (RdF.grew WR.out (by repeat' (first | with_reducible exact Grew.refl _ | assumption | with_reducible refine Grew.alloc ?_ _ | with_reducible refine Grew.setCell ?_ ?_ _ | (dsimp only; omega)))) (ownsRow_grew OR.out (by repeat' (first | with_reducible exact Grew.refl _ | assumption | with_reducible refine Grew.alloc ?_ _ | with_reducible refine Grew.setCell ?_ ?_ _ | (dsimp only; omega)))) (by have := hbr; simp; omega)).mono ?_); rintro e w5 ⟨v5, he, o5, x5⟩; subst he; have X5 : Ext none wr w5 _ v5 := Ext.pre (by repeat' (first | with_reducible exact Grew.refl _ | assumption | with_reducible refine Grew.alloc ?_ _ | with_reducible refine Grew.setCell ?_ ?_ _ | (dsimp only; omega))) x5; have BV5 : v5.ownBlock ≠ some wr.heap.size := fun e => x5.blk.elim (fun hb => by rw [hb] at e; have := (HVB.out _ e).2; have := hg.size; omega) (fun hb => by have := hb _ e; simp at this; omega); have O5 := Lib.hid o5; have B5 := Lib.hid ((NBox.new wr (nd 6 0 0 ⟨#[]⟩ V.z) 38).ext x5 (by simp) (fun e => by have := (HVB.out _ e.symm).2; have := hg.size; omega)); obtain ⟨e0, e1, e2, e3, e4, e5, e6, f0, f1, f2, f3, f4, f5, f6⟩ := B5.out.cells; dsimp only [nd, V.z] at e0 e1 e2 e3 e4 e5 e6; obtain ⟨va5, vc5, rfl⟩ := own_slice o5; clear o5 x5) | (go_at_call 33; (with_reducible refine (IH2.out _ _ (RdF.ext WR.out (Ext.set X5 (Nat.le_refl _)) (by simp) FV) (own_other O5.out BV5) (by have := X5.size; simp; omega)).mono ?_); rintro e w7 ⟨v7, he, o7, x7⟩; subst he; have E7 : Ext none wr w7 _ v7 := Ext.trans (Ext.set X5 (Nat.le_refl _)) x7; have BV7 : v7.ownBlock ≠ some wr.heap.size := fun e => x7.blk.elim (fun hb => BV5 (by rw [hb] at e; exact e)) (fun hb => by have := hb _ e; have := X5.size; have := B5.out.lt; simp at *; omega); have O7 := Lib.hid o7; have B7 := Lib.hid ((NBox.set B5.out 1 (.int .i64 ((A1.length : Int) - 1)) (y := nd 6 ((A1.length : Int) - 1) 0 ⟨#[]⟩ V.z) (by decide) rfl).ext x7 (by simp) (fun e => BV5 e.symm)); obtain ⟨m0, m1, m2, m3, m4, m5, m6, k0, k1, k2, k3, k4, k5, k6⟩ := B7.out.cells; dsimp only [nd, V.z] at m0 m1 m2 m3 m4 m5 m6; obtain ⟨va7, vc7, rfl⟩ := own_slice o7; clear o7 x7) | (at_builtin; refine wpList_append_own_at _ rfl _ _ 24 rfl base 38 i0 _ 7 72 Tryz.underlying24 hi hz0 hz1 hz2 rfl (by decide) _ _ _ rfl (ownsRow_grew (own_other O7.out BV7) (by repeat' (first | with_reducible exact Grew.refl _ | assumption | with_reducible refine Grew.alloc ?_ _ | with_reducible refine Grew.setCell ?_ ?_ _ | (dsimp only; omega)))) ⟨_, 0, none⟩ 1 1 [.int .i64 6, .int .i64 ((A1.length : Int) - 1), .int .i64 ((B1.length : Int) - 1), .string ⟨#[]⟩, .int .i64 0, .int .i64 0, .string ⟨#[]⟩] rfl rfl (newsL (by simp)) (fun x hx => List.all_eq_true.1 (show ([.int .i64 6, .int .i64 ((A1.length : Int) - 1), .int .i64 ((B1.length : Int) - 1), .string ⟨#[]⟩, .int .i64 0, .int .i64 0, .string ⟨#[]⟩] : List Value).all (fun u => u.oneCell') = true from rfl) x hx) (by unfold maxLen; omega) (by omega) (by have := E7.size; simp; omega) ?_; intro v9 w9 o9 hgr _ hat; have X9 := Lib.hid ((((Ext.pre hg E7).set hg.size).grew (by repeat' (first | with_reducible exact Grew.refl _ | assumption | with_reducible refine Grew.alloc ?_ _ | with_reducible refine Grew.setCell ?_ ?_ _ | (dsimp only; omega)))).app hgr hat); have O9 := Lib.hid o9))
          go_ret2
          rw [HR.out]
          exact ⟨_, congrArg Ending.returned (by simp; try omega), (by rw [List.length_append, rows_append]; exact O9.out), X9.out⟩
      · have FV : some F ≠ (Value.slice va ns.length vc).ownBlock := fun e => by have := (HVB.out _ e.symm).1; omega
        obtain ⟨A, hA_⟩ : ∃ y, rdS d (p.drop (k + 1)) ns (deep + 1) = y := ⟨_, rfl⟩
        have HA := Lib.hid hA_
        have hal := rdS_len d (p.drop (k + 1)) ns (deep + 1)
        have hau := (rdS_used d (p.drop (k + 1)) ns (deep + 1)).1
        rw [hA_] at hal hau
        rw [List.length_drop] at hau
        obtain ⟨A1, a2⟩ := A
        dsimp only at hal hau
        obtain ⟨B, hB_⟩ : ∃ y, rdS d (p.drop (k + (1 + a2))) A1 (deep + 1) = y := ⟨_, rfl⟩
        have HB := Lib.hid hB_
        have hbl := rdS_len d (p.drop (k + (1 + a2))) A1 (deep + 1)
        have hbu := (rdS_used d (p.drop (k + (1 + a2))) A1 (deep + 1)).1
        rw [hB_] at hbl hbu
        rw [List.length_drop] at hbu
        obtain ⟨B1, b2⟩ := B
        dsimp only at hbl hbu
        have HR0 := Lib.hid (rdS_67 (d := d) (ns := ns) (deep := deep) (op := 7) (by omega) (by omega) HOP.out (by decide) (show rdS d (p.drop k).tail ns (deep + 1) = (A1, a2) by rw [HT1.out]; exact hA_) (show rdS d ((p.drop k).drop (1 + a2)) A1 (deep + 1) = (B1, b2) by rw [List.drop_drop]; exact hB_))
        dsimp only at HR0
        clear hA_ hB_
        have IH1 := Lib.hid (show ∀ w : World, RdF w F (.slice (some ⟨F, o_, none⟩) p.length c_) p → w.ownsRow base 38 7 (.slice va ns.length vc) ns.length (rows N.c ns) → base ≤ w.heap.size → Calls Tryz.prog 33 #[.slice (some ⟨F, o_, none⟩) p.length c_, .int .i64 ((k : Int) + 1), .slice va ns.length vc, .int .i64 ((deep : Int) + 1)] w (fun e w2 => ∃ v2, e = .returned (.tuple #[v2, .int .i64 (a2 : Nat)]) ∧ w2.ownsRow base 38 7 v2 A1.length (rows N.c A1) ∧ Ext none w w2 (.slice va ns.length vc) v2) from fun w h1 h2 h3 => by have h := IH.out d (Nat.lt_succ_self d) (k + 1) ns (deep + 1) _ w (by omega) (by omega) (by omega) (by omega) hnl h1 h2 h3; rw [HA.out] at h; exact h)
        have IH2 := Lib.hid (show ∀ (v5 : Value) (w : World), RdF w F (.slice (some ⟨F, o_, none⟩) p.length c_) p → w.ownsRow base 38 7 v5 A1.length (rows N.c A1) → base ≤ w.heap.size → Calls Tryz.prog 33 #[.slice (some ⟨F, o_, none⟩) p.length c_, .int .i64 ((k : Int) + (1 + (a2 : Int))), v5, .int .i64 ((deep : Int) + 1)] w (fun e w2 => ∃ v2, e = .returned (.tuple #[v2, .int .i64 (b2 : Nat)]) ∧ w2.ownsRow base 38 7 v2 B1.length (rows N.c B1) ∧ Ext none w w2 v5 v2) from fun v5 w h1 h2 h3 => by have h := IH.out d (Nat.lt_succ_self d) (k + (1 + a2)) A1 (deep + 1) v5 w (by omega) (by omega) (by omega) (by omega) (by omega) h1 h2 h3; rw [HB.out] at h; exact h)
        by_cases ha : a2 = 0
        · subst ha
          have HR := Lib.hid (HR0.out.trans (if_pos rfl))
          go_wp2_with (first | (go_at_call 38; refine (l01In _ _ _ _).mono ?_; rintro e w8 ⟨he, rfl⟩; rw [show inB 7 5 7 = true from rfl] at he; subst he) | (go_at_call 33; (with_reducible refine (IH1.out _ (RdF.grew WR.out (by repeat' (first | with_reducible exact Grew.refl _ | assumption | with_reducible refine Grew.alloc ?_ _ | with_reducible refine Grew.setCell ?_ ?_ _ | (dsimp only; omega)))) (ownsRow_grew OR.out (by repeat' (first | with_reducible exact Grew.refl _ | assumption | with_reducible refine Grew.alloc ?_ _ | with_reducible refine Grew.setCell ?_ ?_ _ | (dsimp only; omega)))) (by have := hbr; simp; omega)).mono ?_); rintro e w5 ⟨v5, he, o5, x5⟩; subst he; have X5 : Ext none wr w5 _ v5 := Ext.pre (by repeat' (first | with_reducible exact Grew.refl _ | assumption | with_reducible refine Grew.alloc ?_ _ | with_reducible refine Grew.setCell ?_ ?_ _ | (dsimp only; omega))) x5; have BV5 : v5.ownBlock ≠ some wr.heap.size := fun e => x5.blk.elim (fun hb => by rw [hb] at e; have := (HVB.out _ e).2; have := hg.size; omega) (fun hb => by have := hb _ e; simp at this; omega); have O5 := Lib.hid o5; have B5 := Lib.hid ((NBox.new wr (nd 7 0 0 ⟨#[]⟩ V.z) 38).ext x5 (by simp) (fun e => by have := (HVB.out _ e.symm).2; have := hg.size; omega)); obtain ⟨e0, e1, e2, e3, e4, e5, e6, f0, f1, f2, f3, f4, f5, f6⟩ := B5.out.cells; dsimp only [nd, V.z] at e0 e1 e2 e3 e4 e5 e6; obtain ⟨va5, vc5, rfl⟩ := own_slice o5; clear o5 x5))
          go_ret2
          rw [HR.out]
          exact ⟨_, rfl, own_other O5.out BV5, ((Ext.pre hg X5).set hg.size)⟩
        have hai : ¬ ((a2 : Int) = 0) := by omega
        have HR1 := Lib.hid (HR0.out.trans (if_neg ha))
        by_cases hb : b2 = 0
        · subst hb
          have HR := Lib.hid (HR1.out.trans (if_pos rfl))
          go_wp2_with (first | (go_at_call 38; refine (l01In _ _ _ _).mono ?_; rintro e w8 ⟨he, rfl⟩; rw [show inB 7 5 7 = true from rfl] at he; subst he) | (go_at_call 33; (with_reducible refine (IH1.out _ (RdF.grew WR.out (by repeat' (first | with_reducible exact Grew.refl _ | assumption | with_reducible refine Grew.alloc ?_ _ | with_reducible refine Grew.setCell ?_ ?_ _ | (dsimp only; omega)))) (ownsRow_grew OR.out (by repeat' (first | with_reducible exact Grew.refl _ | assumption | with_reducible refine Grew.alloc ?_ _ | with_reducible refine Grew.setCell ?_ ?_ _ | (dsimp only; omega)))) (by have := hbr; simp; omega)).mono ?_); rintro e w5 ⟨v5, he, o5, x5⟩; subst he; have X5 : Ext none wr w5 _ v5 := Ext.pre (by repeat' (first | with_reducible exact Grew.refl _ | assumption | with_reducible refine Grew.alloc ?_ _ | with_reducible refine Grew.setCell ?_ ?_ _ | (dsimp only; omega))) x5; have BV5 : v5.ownBlock ≠ some wr.heap.size := fun e => x5.blk.elim (fun hb => by rw [hb] at e; have := (HVB.out _ e).2; have := hg.size; omega) (fun hb => by have := hb _ e; simp at this; omega); have O5 := Lib.hid o5; have B5 := Lib.hid ((NBox.new wr (nd 7 0 0 ⟨#[]⟩ V.z) 38).ext x5 (by simp) (fun e => by have := (HVB.out _ e.symm).2; have := hg.size; omega)); obtain ⟨e0, e1, e2, e3, e4, e5, e6, f0, f1, f2, f3, f4, f5, f6⟩ := B5.out.cells; dsimp only [nd, V.z] at e0 e1 e2 e3 e4 e5 e6; obtain ⟨va5, vc5, rfl⟩ := own_slice o5; clear o5 x5) | (go_at_call 33; (with_reducible refine (IH2.out _ _ (RdF.ext WR.out (Ext.set X5 (Nat.le_refl _)) (by simp) FV) (own_other O5.out BV5) (by have := X5.size; simp; omega)).mono ?_); rintro e w7 ⟨v7, he, o7, x7⟩; subst he; have E7 : Ext none wr w7 _ v7 := Ext.trans (Ext.set X5 (Nat.le_refl _)) x7; have BV7 : v7.ownBlock ≠ some wr.heap.size := fun e => x7.blk.elim (fun hb => BV5 (by rw [hb] at e; exact e)) (fun hb => by have := hb _ e; have := X5.size; have := B5.out.lt; simp at *; omega); have O7 := Lib.hid o7; have B7 := Lib.hid ((NBox.set B5.out 1 (.int .i64 ((A1.length : Int) - 1)) (y := nd 7 ((A1.length : Int) - 1) 0 ⟨#[]⟩ V.z) (by decide) rfl).ext x7 (by simp) (fun e => BV5 e.symm)); obtain ⟨m0, m1, m2, m3, m4, m5, m6, k0, k1, k2, k3, k4, k5, k6⟩ := B7.out.cells; dsimp only [nd, V.z] at m0 m1 m2 m3 m4 m5 m6; obtain ⟨va7, vc7, rfl⟩ := own_slice o7; clear o7 x7))
          go_ret2
          rw [HR.out]
          exact ⟨_, rfl, own_other O7.out BV7, ((Ext.pre hg E7).set hg.size)⟩
        · have hbi : ¬ ((b2 : Int) = 0) := by omega
          have HR := Lib.hid (HR1.out.trans (if_neg hb))
          go_wp2_with (first | (go_at_call 38; refine (l01In _ _ _ _).mono ?_; rintro e w8 ⟨he, rfl⟩; rw [show inB 7 5 7 = true from rfl] at he; subst he) | (go_at_call 33; (with_reducible refine (IH1.out _ (RdF.grew WR.out (by repeat' (first | with_reducible exact Grew.refl _ | assumption | with_reducible refine Grew.alloc ?_ _ | with_reducible refine Grew.setCell ?_ ?_ _ | (dsimp only; omega)))) (ownsRow_grew OR.out (by repeat' (first | with_reducible exact Grew.refl _ | assumption | with_reducible refine Grew.alloc ?_ _ | with_reducible refine Grew.setCell ?_ ?_ _ | (dsimp only; omega)))) (by have := hbr; simp; omega)).mono ?_); rintro e w5 ⟨v5, he, o5, x5⟩; subst he; have X5 : Ext none wr w5 _ v5 := Ext.pre (by repeat' (first | with_reducible exact Grew.refl _ | assumption | with_reducible refine Grew.alloc ?_ _ | with_reducible refine Grew.setCell ?_ ?_ _ | (dsimp only; omega))) x5; have BV5 : v5.ownBlock ≠ some wr.heap.size := fun e => x5.blk.elim (fun hb => by rw [hb] at e; have := (HVB.out _ e).2; have := hg.size; omega) (fun hb => by have := hb _ e; simp at this; omega); have O5 := Lib.hid o5; have B5 := Lib.hid ((NBox.new wr (nd 7 0 0 ⟨#[]⟩ V.z) 38).ext x5 (by simp) (fun e => by have := (HVB.out _ e.symm).2; have := hg.size; omega)); obtain ⟨e0, e1, e2, e3, e4, e5, e6, f0, f1, f2, f3, f4, f5, f6⟩ := B5.out.cells; dsimp only [nd, V.z] at e0 e1 e2 e3 e4 e5 e6; obtain ⟨va5, vc5, rfl⟩ := own_slice o5; clear o5 x5) | (go_at_call 33; (with_reducible refine (IH2.out _ _ (RdF.ext WR.out (Ext.set X5 (Nat.le_refl _)) (by simp) FV) (own_other O5.out BV5) (by have := X5.size; simp; omega)).mono ?_); rintro e w7 ⟨v7, he, o7, x7⟩; subst he; have E7 : Ext none wr w7 _ v7 := Ext.trans (Ext.set X5 (Nat.le_refl _)) x7; have BV7 : v7.ownBlock ≠ some wr.heap.size := fun e => x7.blk.elim (fun hb => BV5 (by rw [hb] at e; exact e)) (fun hb => by have := hb _ e; have := X5.size; have := B5.out.lt; simp at *; omega); have O7 := Lib.hid o7; have B7 := Lib.hid ((NBox.set B5.out 1 (.int .i64 ((A1.length : Int) - 1)) (y := nd 7 ((A1.length : Int) - 1) 0 ⟨#[]⟩ V.z) (by decide) rfl).ext x7 (by simp) (fun e => BV5 e.symm)); obtain ⟨m0, m1, m2, m3, m4, m5, m6, k0, k1, k2, k3, k4, k5, k6⟩ := B7.out.cells; dsimp only [nd, V.z] at m0 m1 m2 m3 m4 m5 m6; obtain ⟨va7, vc7, rfl⟩ := own_slice o7; clear o7 x7) | (at_builtin; refine wpList_append_own_at _ rfl _ _ 24 rfl base 38 i0 _ 7 72 Tryz.underlying24 hi hz0 hz1 hz2 rfl (by decide) _ _ _ rfl (ownsRow_grew (own_other O7.out BV7) (by repeat' (first | with_reducible exact Grew.refl _ | assumption | with_reducible refine Grew.alloc ?_ _ | with_reducible refine Grew.setCell ?_ ?_ _ | (dsimp only; omega)))) ⟨_, 0, none⟩ 1 1 [.int .i64 7, .int .i64 ((A1.length : Int) - 1), .int .i64 ((B1.length : Int) - 1), .string ⟨#[]⟩, .int .i64 0, .int .i64 0, .string ⟨#[]⟩] rfl rfl (newsL (by simp)) (fun x hx => List.all_eq_true.1 (show ([.int .i64 7, .int .i64 ((A1.length : Int) - 1), .int .i64 ((B1.length : Int) - 1), .string ⟨#[]⟩, .int .i64 0, .int .i64 0, .string ⟨#[]⟩] : List Value).all (fun u => u.oneCell') = true from rfl) x hx) (by unfold maxLen; omega) (by omega) (by have := E7.size; simp; omega) ?_; intro v9 w9 o9 hgr _ hat; have X9 := Lib.hid ((((Ext.pre hg E7).set hg.size).grew (by repeat' (first | with_reducible exact Grew.refl _ | assumption | with_reducible refine Grew.alloc ?_ _ | with_reducible refine Grew.setCell ?_ ?_ _ | (dsimp only; omega)))).app hgr hat); have O9 := Lib.hid o9))
          go_ret2
          rw [HR.out]
          exact ⟨_, congrArg Ending.returned (by simp; try omega), (by rw [List.length_append, rows_append]; exact O9.out), X9.out⟩
      · obtain ⟨nm, hnm_⟩ : ∃ y, hdB (p.drop (k + 1)) = y := ⟨_, rfl⟩
        have HNMi := Lib.hid (show hdB (p.drop ((k : Int) + 1).toNat) = nm by rw [show ((k : Int) + 1).toNat = k + 1 by omega]; exact hnm_)
        have HR := Lib.hid (show rdS (d + 1) (p.drop k) ns deep = (ns ++ [nd 8 0 0 nm V.z], 2) by rw [rdS_2 (op := 8) (by omega) (by omega) HOP.out (by decide), HT1.out, hnm_])
        clear hnm_
        go_wp2_with (first | (go_at_call 55; refine (l10PartI p _ F _ _ (RdF.grew WR.out (by repeat' (first | with_reducible exact Grew.refl _ | assumption | with_reducible refine Grew.alloc ?_ _ | with_reducible refine Grew.setCell ?_ ?_ _ | (dsimp only; omega)))) (by omega) (by omega) (by omega)).mono ?_; rintro e w1 ⟨he, rfl⟩; first | rw [HNMi.out] at he | rw [HSVi.out] at he; subst he) | (at_builtin; refine wpList_append_own_at _ rfl _ _ 24 rfl base 38 i0 _ 7 72 Tryz.underlying24 hi hz0 hz1 hz2 rfl (by decide) _ _ _ rfl (ownsRow_grew OR.out (by repeat' (first | with_reducible exact Grew.refl _ | assumption | with_reducible refine Grew.alloc ?_ _ | with_reducible refine Grew.setCell ?_ ?_ _ | (dsimp only; omega)))) ⟨_, 0, none⟩ 1 1 [.int .i64 8, .int .i64 0, .int .i64 0, .string nm, .int .i64 0, .int .i64 0, .string ⟨#[]⟩] rfl rfl (newsL (by simp)) (fun x hx => List.all_eq_true.1 (show ([.int .i64 8, .int .i64 0, .int .i64 0, .string nm, .int .i64 0, .int .i64 0, .string ⟨#[]⟩] : List Value).all (fun u => u.oneCell') = true from rfl) x hx) (by unfold maxLen; omega) (by omega) (by have := hbr; simp; omega) ?_; intro v9 w9 o9 hgr _ hat; have X9 := Lib.hid (((Ext.refl none w _).grew (hg.trans (by repeat' (first | with_reducible exact Grew.refl _ | assumption | with_reducible refine Grew.alloc ?_ _ | with_reducible refine Grew.setCell ?_ ?_ _ | (dsimp only; omega))))).app hgr hat); have O9 := Lib.hid o9))
        go_ret2
        rw [HR.out]
        exact ⟨_, rfl, (by rw [List.length_append, rows_append]; exact O9.out), X9.out⟩
      · obtain ⟨nm, hnm_⟩ : ∃ y, hdB (p.drop (k + 1)) = y := ⟨_, rfl⟩
        have HNMi := Lib.hid (show hdB (p.drop ((k : Int) + 1).toNat) = nm by rw [show ((k : Int) + 1).toNat = k + 1 by omega]; exact hnm_)
        have HR := Lib.hid (show rdS (d + 1) (p.drop k) ns deep = (ns ++ [nd 9 0 0 nm V.z], 2) by rw [rdS_2 (op := 9) (by omega) (by omega) HOP.out (by decide), HT1.out, hnm_])
        clear hnm_
        go_wp2_with (first | (go_at_call 55; refine (l10PartI p _ F _ _ (RdF.grew WR.out (by repeat' (first | with_reducible exact Grew.refl _ | assumption | with_reducible refine Grew.alloc ?_ _ | with_reducible refine Grew.setCell ?_ ?_ _ | (dsimp only; omega)))) (by omega) (by omega) (by omega)).mono ?_; rintro e w1 ⟨he, rfl⟩; first | rw [HNMi.out] at he | rw [HSVi.out] at he; subst he) | (at_builtin; refine wpList_append_own_at _ rfl _ _ 24 rfl base 38 i0 _ 7 72 Tryz.underlying24 hi hz0 hz1 hz2 rfl (by decide) _ _ _ rfl (ownsRow_grew OR.out (by repeat' (first | with_reducible exact Grew.refl _ | assumption | with_reducible refine Grew.alloc ?_ _ | with_reducible refine Grew.setCell ?_ ?_ _ | (dsimp only; omega)))) ⟨_, 0, none⟩ 1 1 [.int .i64 9, .int .i64 0, .int .i64 0, .string nm, .int .i64 0, .int .i64 0, .string ⟨#[]⟩] rfl rfl (newsL (by simp)) (fun x hx => List.all_eq_true.1 (show ([.int .i64 9, .int .i64 0, .int .i64 0, .string nm, .int .i64 0, .int .i64 0, .string ⟨#[]⟩] : List Value).all (fun u => u.oneCell') = true from rfl) x hx) (by unfold maxLen; omega) (by omega) (by have := hbr; simp; omega) ?_; intro v9 w9 o9 hgr _ hat; have X9 := Lib.hid (((Ext.refl none w _).grew (hg.trans (by repeat' (first | with_reducible exact Grew.refl _ | assumption | with_reducible refine Grew.alloc ?_ _ | with_reducible refine Grew.setCell ?_ ?_ _ | (dsimp only; omega))))).app hgr hat); have O9 := Lib.hid o9))
        go_ret2
        rw [HR.out]
        exact ⟨_, rfl, (by rw [List.length_append, rows_append]; exact O9.out), X9.out⟩
end Go.Proofs.YtodbohmbdgbheaaGreatDoor
