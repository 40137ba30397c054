/- FNegationStratum, with Z9, Y6, WNegationStratum. -/
import Derived.Test.YtejgpghcahinhaaZ4
import Derived.Test.YtejgpghcahinhaaY2
import Derived.Test.YtejgpghcahinhaaK4
import Derived.Test.YtejgpghcahinhaaY5
import Derived.Test.YtejgpghcahinhaaW0
import Derived.Test.YtejgpghcahinhaaZ5
import Derived.Test.YtejgpghcahinhaaK7
import Derived.Test.YtejgpghcahinhaaK6
import Derived.Test.YtejgpghcahinhaaJ
import Derived.Test.YtejgpghcahinhaaO2
namespace Go.Proofs.Ytejgpghcahinhaa
open Go.RowKit
set_option linter.unusedVariables false
set_option maxRecDepth 100000 in
set_option maxHeartbeats 1000000 in
theorem drawPlaces (v : Value) (w : World) (hc : Cd w v) :
    Calls Try.prog 43 #[v] w fun e w' => ∃ u, e = .returned u ∧ ∃ xs, xs.length = 12 ∧ (∀ x, x ∈ xs → 0 ≤ x ∧ x < 10000) ∧ w'.ownsRow w.heap.size 3 1 u 12 (ints xs) ∧ Grew w w' := by
  obtain ⟨i0, hi, hz0, hz1, hz2⟩ := info_parts Try.infoInt
  obtain ⟨n, bs, hr, hn⟩ := hc
  go_enter Try.func43, Try.ntmps43
  go_wp2_with fail
  refine (l01New v n bs _ hr hn).mono ?_
  rintro e w1 ⟨rfl, hc1, hg1, hs1⟩
  go_wp2
  go_loopw [4, 5] (fun t i wr => ∃ (k : Nat) (xs : List Int), k ≤ 12 ∧ i = .int .i64 k ∧ Hid (xs.length = k ∧ ∀ x, x ∈ xs → 0 ≤ x ∧ x < 10000) ∧ Hid (wr.ownsRow w1.heap.size 3 1 t k (ints xs)) ∧ D w.heap.size w1 wr) (fun _ i _ => 12 - (intOf i).toNat)
  case atStart => exact ⟨0, [], by omega, rfl, Lib.hid ⟨rfl, by simp⟩, Lib.hid (lit_own w1 _ 1), (D.refl hc1).alloc _⟩
  case round =>
    obtain ⟨k, xs, hk, rfl, hxs, hown, hd⟩ := hrel
    by_cases hlt : k < 12
    · go_wp2_with fail
      refine (l01Below _ _ hd.cur 10000 (by decide) (by decide)).mono ?_
      rintro e w2 ⟨b, rfl, hb, hd2⟩
      have d2 := hd.trans hd2
      have H2 := Lib.hid (hd2.own hown.out hd.lt)
      go_wp2_with (at_builtin; refine wpList_append_own _ rfl _ _ 27 rfl w1.heap.size 3 i0 _ 1 8 Try.underlying27 hi hz0 hz1 hz2 rfl (by decide) _ _ _ rfl (H2.out.alloc (.cells #[.int .i64 b] 3)) ⟨_, 0, none⟩ 1 1 [.int .i64 b] rfl rfl (lit_news rfl) (fun x hx => by simp at hx; subst hx; rfl) (by unfold maxLen; omega) (by omega) (by have := d2.size; simp; omega) ?_; intro v' w' hown' hgr2 _)
      go_roundw
      case rel =>
        refine ⟨k + 1, xs ++ [b], by omega, by go_num, Lib.hid ⟨by simp [hxs.out.1], fun x hx => ?_⟩, Lib.hid (by simpa using hown'), (d2.alloc _).grown hgr2 (fun j h => (H2.out.lt j h).1)⟩
        rw [List.mem_append] at hx
        rcases hx with hx | hx
        · exact hxs.out.2 x hx
        · simp at hx; subst hx; exact hb
      case measure => simp [intOf]; omega
    · obtain rfl : k = 12 := by omega
      go_wp2
      go_ret
      exact ⟨_, rfl, xs, hxs.out.1, hxs.out.2, ownsRow_base hown.out hg1.size, D.out hg1 hd (Nat.le_refl _)⟩
end Go.Proofs.Ytejgpghcahinhaa

namespace Go.Proofs.Ytejgpghcahinhaa
open Go.RowKit Go.Sort
set_option linter.unusedVariables false
set_option linter.unusedSimpArgs false
def tA : ByteArray := ⟨#[97]⟩
def tDa : ByteArray := ⟨#[100, 97]⟩
def tDb : ByteArray := ⟨#[100, 98]⟩
theorem da_ne : tDa ≠ tDb := by decide
theorem beq_ne {a b : ByteArray} (h : a ≠ b) : (a.toList == b.toList) = false := by
  rw [Bool.eq_false_iff]; exact fun e => h (beqB.1 e)
theorem beq_self {a : ByteArray} : (a.toList == a.toList) = true := beqB.2 rfl
theorem by_a : (97 : Int) ≤ ((97 : UInt8).toNat : Int) ∧ ((97 : UInt8).toNat : Int) ≤ 122 := by decide
theorem by_b : (97 : Int) ≤ ((98 : UInt8).toNat : Int) ∧ ((98 : UInt8).toNat : Int) ≤ 122 := by decide
theorem by_d : (97 : Int) ≤ ((100 : UInt8).toNat : Int) ∧ ((100 : UInt8).toNat : Int) ≤ 122 := by decide
theorem txt_a : txtB tA 1 = true := by
  unfold txtB
  rw [lowB_true (by intro i h; have h2 : i < 1 := h; obtain rfl : i = 0 := by omega
                    exact by_a)]
  decide
theorem txt_da : txtB tDa 6 = true := by
  unfold txtB
  rw [lowB_true (by intro i h; have h2 : i < 2 := h
                    rcases (show i = 0 ∨ i = 1 by omega) with rfl | rfl <;> first | exact by_d | exact by_a)]
  decide
theorem txt_db : txtB tDb 6 = true := by
  unfold txtB
  rw [lowB_true (by intro i h; have h2 : i < 2 := h
                    rcases (show i = 0 ∨ i = 1 by omega) with rfl | rfl <;> first | exact by_d | exact by_b)]
  decide
def leafQ (k : Int) : List N := [⟨3, 0, 0, tA, ⟨1, k, ⟨#[]⟩⟩⟩]
def notQ (s : ByteArray) : List N := [⟨8, 0, 0, s, ⟨0, 0, ⟨#[]⟩⟩⟩, ⟨5, 0, 0, ⟨#[]⟩, ⟨0, 0, ⟨#[]⟩⟩⟩]
theorem qry_leaf {k : Int} (h0 : 0 ≤ k) (h1 : k ≤ 999) : qryB (leafQ k) = true := by
  rw [qryB_yes]
  · rfl
  · intro i x hi hx
    have h2 : i = 0 := by simpa [leafQ] using hi
    subst h2
    simp [leafQ] at hx
    subst hx
    simp [qryAt, nodB, txt_a, valB, inB, h0, h1, leafQ]
theorem qry_not {s : ByteArray} (hs : txtB s 6 = true) : qryB (notQ s) = true := by
  rw [qryB_yes]
  · rfl
  · intro i x hi hx
    have h2 : i < 2 := by simpa [notQ] using hi
    rcases (show i = 0 ∨ i = 1 by omega) with rfl | rfl
    · simp [notQ] at hx
      subst hx
      simp [qryAt, nodB, hs, eqN, eqV, V.z, notQ, refs, ref1]
    · simp [notQ] at hx
      subst hx
      simp [qryAt, nodB, eqN, eqV, V.z, notQ, inB, wrap64]
theorem neg_leaf {k : Int} (h : qryB (leafQ k) = true) : negL (leafQ k) = [false] := by
  unfold negL; rw [if_pos h]; rfl
theorem neg_not {s : ByteArray} (h : qryB (notQ s) = true) : negL (notQ s) = [true, false] := by
  unfold negL; rw [if_pos h]; rfl
theorem so_nil : so [] = [] := rfl
theorem so_one (s : ByteArray) : so [s] = [s] := rfl
theorem deps_leaf {k : Int} (h : qryB (leafQ k) = true) (u : Bool) : depsL (leafQ k) u = [] := by
  unfold depsL zipN; rw [neg_leaf h]; cases u <;> rfl
theorem deps_not1 {s : ByteArray} (h : qryB (notQ s) = true) : depsL (notQ s) true = [s] := by
  unfold depsL zipN; rw [neg_not h]; exact so_one s
theorem deps_not0 {s : ByteArray} (h : qryB (notQ s) = true) : depsL (notQ s) false = [] := by
  unfold depsL zipN; rw [neg_not h]; rfl
theorem qd_leaf (k : Int) : qDirs (leafQ k) = [] := rfl
theorem qd_not (s : ByteArray) : qDirs (notQ s) = [s] := so_one s
def dsD (k : Int) : List Dr := [⟨tDa, leafQ k⟩, ⟨tDb, notQ tDa⟩]
def dsE : List Dr := [⟨tDa, notQ tDb⟩, ⟨tDb, notQ tDa⟩]
theorem dirs_two {p q : List N} (hp : qryB p = true) (hq : qryB q = true) : dirsB [⟨tDa, p⟩, ⟨tDb, q⟩] = true := by
  rw [dirsB_yes]
  · rfl
  · intro i x hi hx
    have h2 : i < 2 := by simpa using hi
    rcases (show i = 0 ∨ i = 1 by omega) with rfl | rfl
    · simp at hx
      subst hx
      simp [dirAt, txt_da, hp, ascB]
    · simp at hx
      subst hx
      have h3 : Op.bytesLess tDa.toList tDb.toList = true := by decide +kernel
      simp [dirAt, txt_db, hq, ascB, h3]
theorem plc_a (p q : List N) : plcF [⟨tDa, p⟩, ⟨tDb, q⟩] tDa = some 0 := by
  unfold plcF; rw [beq_self]; rfl
theorem plc_b (p q : List N) : plcF [⟨tDa, p⟩, ⟨tDb, q⟩] tDb = some 1 := by
  unfold plcF; rw [beq_ne da_ne]; unfold plcF; rw [beq_self]; rfl
def esD : Edges := fun i => if i = 1 then [(0, 1)] else []
def esE : Edges := fun i => if i = 0 then [(1, 1)] else if i = 1 then [(0, 1)] else []
theorem dirE_D {k : Int} (h : qryB (leafQ k) = true) : dirE (dsD k) = esD := by
  funext i
  match i with
  | 0 => rw [dirE_at (x := ⟨tDa, leafQ k⟩) rfl, deps_leaf h, deps_leaf h]; rfl
  | 1 =>
    rw [dirE_at (x := ⟨tDb, notQ tDa⟩) rfl, deps_not0 (qry_not txt_da), deps_not1 (qry_not txt_da)]
    unfold edg dsD
    simp [plc_a, esD]
  | n + 2 => rfl
theorem dirE_E : dirE dsE = esE := by
  funext i
  match i with
  | 0 =>
    rw [dirE_at (x := ⟨tDa, notQ tDb⟩) rfl, deps_not0 (qry_not txt_db), deps_not1 (qry_not txt_db)]
    unfold edg dsE
    simp [plc_b, esE]
  | 1 =>
    rw [dirE_at (x := ⟨tDb, notQ tDa⟩) rfl, deps_not0 (qry_not txt_da), deps_not1 (qry_not txt_da)]
    unfold edg dsE
    simp [plc_a, esE]
  | n + 2 => rfl
theorem stB_E : stB dsE = false := by
  unfold stB
  rw [dirE_E, show dirsB dsE = true from dirs_two (qry_not txt_db) (qry_not txt_da)]
  show (true && strB 2 esE) = false
  decide +kernel
theorem stB_D {k : Int} (h : qryB (leafQ k) = true) : stB (dsD k) = true := by
  unfold stB
  rw [dirE_D h, show dirsB (dsD k) = true from dirs_two h (qry_not txt_da)]
  show (true && strB 2 esD) = true
  decide +kernel
theorem stL_D {k : Int} (h : qryB (leafQ k) = true) : stL (dsD k) = [0, 1] := by
  unfold stL
  rw [if_pos (stB_D h), dirE_D h]
  show strL 2 esD = [0, 1]
  decide +kernel
theorem str_a {k : Int} (h : qryB (leafQ k) = true) : strOf (dsD k) tDa = 0 := by
  unfold strOf
  rw [if_pos (stB_D h), stL_D h, show plcF (dsD k) tDa = some 0 from plc_a _ _]
  rfl
theorem str_b {k : Int} (h : qryB (leafQ k) = true) : strOf (dsD k) tDb = 1 := by
  unfold strOf
  rw [if_pos (stB_D h), stL_D h, show plcF (dsD k) tDb = some 1 from plc_b _ _]
  rfl
theorem mx_D {k : Int} (h : qryB (leafQ k) = true) : mxS (dsD k) = 1 := by
  unfold mxS; rw [stL_D h]; rfl
theorem mem_two {p q : List N} {x : Dr} (h : x ∈ ([⟨tDa, p⟩, ⟨tDb, q⟩] : List Dr)) : x = ⟨tDa, p⟩ ∨ x = ⟨tDb, q⟩ := by simpa using h
theorem dep_D {k : Int} {s y : ByteArray} : y ∈ dep (dsD k) s ↔ s = tDa ∧ y = tDb := by
  rw [mem_dep]
  constructor
  · rintro ⟨x, hx, hs, rfl⟩
    rcases mem_two hx with rfl | rfl
    · rw [show qDirs (⟨tDa, leafQ k⟩ : Dr).query = [] from qd_leaf k] at hs; cases hs
    · rw [show qDirs (⟨tDb, notQ tDa⟩ : Dr).query = [tDa] from qd_not _] at hs
      exact ⟨by simpa using hs, rfl⟩
  · rintro ⟨rfl, rfl⟩
    exact ⟨⟨tDb, notQ tDa⟩, by simp [dsD], by rw [qd_not]; simp, rfl⟩
theorem reach_D {k : Int} {s y : ByteArray} (h : Reach (dsD k) (dep (dsD k) s) y) : s = tDa ∧ y = tDb := by
  induction h with
  | base h => exact dep_D.1 h
  | step _ hx hq ih =>
    obtain ⟨h1, h2⟩ := ih
    have h3 := (dep_D (k := k)).1 (mem_dep.2 ⟨_, hx, hq, rfl⟩)
    exact ⟨h1, h3.2⟩
theorem rec_D (k : Int) : namesIf (recP (dsD k)) (dsD k) = [] := by
  have h : ∀ s, recP (dsD k) s = false := fun s => by
    unfold recP asksB
    rw [hasB_not, mem_clo]
    intro hr
    obtain ⟨h1, h2⟩ := reach_D hr
    exact da_ne (h1.symm.trans h2)
  unfold namesIf
  simp [h]
theorem uns_E : (namesIf (unsP dsE) dsE).length = 2 := by
  have h1 : unsP dsE tDa = true := by
    unfold unsP
    rw [List.any_eq_true]
    refine ⟨⟨tDb, notQ tDa⟩, by simp [dsE], ?_⟩
    unfold unsQ
    have h2 : asksB dsE tDa tDb = true := by
      unfold asksB
      rw [hasB_iff, mem_clo]
      exact .base (mem_dep.2 ⟨⟨tDa, notQ tDb⟩, by simp [dsE], by rw [qd_not]; simp, rfl⟩)
    rw [h2, Bool.or_true, Bool.true_and, hasB_iff, deps_not1 (qry_not txt_da)]; simp
  have h3 : unsP dsE tDb = true := by
    unfold unsP
    rw [List.any_eq_true]
    refine ⟨⟨tDa, notQ tDb⟩, by simp [dsE], ?_⟩
    unfold unsQ
    have h2 : asksB dsE tDb tDa = true := by
      unfold asksB
      rw [hasB_iff, mem_clo]
      exact .base (mem_dep.2 ⟨⟨tDb, notQ tDa⟩, by simp [dsE], by rw [qd_not]; simp, rfl⟩)
    rw [h2, Bool.or_true, Bool.true_and, hasB_iff, deps_not1 (qry_not txt_db)]; simp
  unfold namesIf
  simp [dsE] at h1 h3 ⊢
  simp [h1, h3]
end Go.Proofs.Ytejgpghcahinhaa

namespace Go.Proofs.Ytejgpghcahinhaa.fnNegationStratum
open Go.RowKit
set_option linter.unusedVariables false
theorem all2_two {α β : Type} {R : α → β → Prop} {x y : α} {p q : β} (h1 : R x p) (h2 : R y q) : All2 R [x, y] [p, q] := (All2.nil.snoc h1).snoc h2
theorem asz (w : World) (o : Obj) : (w.alloc o).heap.size = w.heap.size + 1 := by simp
theorem lits (w : World) (k : Int) : RdDs (((((w.alloc (.cells #[.int .i64 3, .int .i64 0, .int .i64 0, .string ⟨#[97]⟩, .int .i64 1, .int .i64 k, .string ⟨#[]⟩] 60)).alloc (.cells #[.int .i64 8, .int .i64 0, .int .i64 0, .string ⟨#[100, 97]⟩, .int .i64 0, .int .i64 0, .string ⟨#[]⟩, .int .i64 5, .int .i64 0, .int .i64 0, .string ⟨#[]⟩, .int .i64 0, .int .i64 0, .string ⟨#[]⟩] 60)).alloc (.cells #[.int .i64 8, .int .i64 0, .int .i64 0, .string ⟨#[100, 98]⟩, .int .i64 0, .int .i64 0, .string ⟨#[]⟩, .int .i64 5, .int .i64 0, .int .i64 0, .string ⟨#[]⟩, .int .i64 0, .int .i64 0, .string ⟨#[]⟩] 60)).alloc (.cells #[.string ⟨#[100, 97]⟩, .slice (some ⟨w.heap.size, 0, none⟩) 1 1, .string ⟨#[100, 98]⟩, .slice (some ⟨w.heap.size + 1, 0, none⟩) 2 2] 71)).alloc (.cells #[.string ⟨#[100, 97]⟩, .slice (some ⟨w.heap.size + 1 + 1, 0, none⟩) 2 2, .string ⟨#[100, 98]⟩, .slice (some ⟨w.heap.size + 1, 0, none⟩) 2 2] 71)) (.slice (some ⟨w.heap.size + 1 + 1 + 1, 0, none⟩) 2 2) (dsD k) ∧ RdDs (((((w.alloc (.cells #[.int .i64 3, .int .i64 0, .int .i64 0, .string ⟨#[97]⟩, .int .i64 1, .int .i64 k, .string ⟨#[]⟩] 60)).alloc (.cells #[.int .i64 8, .int .i64 0, .int .i64 0, .string ⟨#[100, 97]⟩, .int .i64 0, .int .i64 0, .string ⟨#[]⟩, .int .i64 5, .int .i64 0, .int .i64 0, .string ⟨#[]⟩, .int .i64 0, .int .i64 0, .string ⟨#[]⟩] 60)).alloc (.cells #[.int .i64 8, .int .i64 0, .int .i64 0, .string ⟨#[100, 98]⟩, .int .i64 0, .int .i64 0, .string ⟨#[]⟩, .int .i64 5, .int .i64 0, .int .i64 0, .string ⟨#[]⟩, .int .i64 0, .int .i64 0, .string ⟨#[]⟩] 60)).alloc (.cells #[.string ⟨#[100, 97]⟩, .slice (some ⟨w.heap.size, 0, none⟩) 1 1, .string ⟨#[100, 98]⟩, .slice (some ⟨w.heap.size + 1, 0, none⟩) 2 2] 71)).alloc (.cells #[.string ⟨#[100, 97]⟩, .slice (some ⟨w.heap.size + 1 + 1, 0, none⟩) 2 2, .string ⟨#[100, 98]⟩, .slice (some ⟨w.heap.size + 1, 0, none⟩) 2 2] 71)) (.slice (some ⟨w.heap.size + 1 + 1 + 1 + 1, 0, none⟩) 2 2) dsE ∧ Grew w (((((w.alloc (.cells #[.int .i64 3, .int .i64 0, .int .i64 0, .string ⟨#[97]⟩, .int .i64 1, .int .i64 k, .string ⟨#[]⟩] 60)).alloc (.cells #[.int .i64 8, .int .i64 0, .int .i64 0, .string ⟨#[100, 97]⟩, .int .i64 0, .int .i64 0, .string ⟨#[]⟩, .int .i64 5, .int .i64 0, .int .i64 0, .string ⟨#[]⟩, .int .i64 0, .int .i64 0, .string ⟨#[]⟩] 60)).alloc (.cells #[.int .i64 8, .int .i64 0, .int .i64 0, .string ⟨#[100, 98]⟩, .int .i64 0, .int .i64 0, .string ⟨#[]⟩, .int .i64 5, .int .i64 0, .int .i64 0, .string ⟨#[]⟩, .int .i64 0, .int .i64 0, .string ⟨#[]⟩] 60)).alloc (.cells #[.string ⟨#[100, 97]⟩, .slice (some ⟨w.heap.size, 0, none⟩) 1 1, .string ⟨#[100, 98]⟩, .slice (some ⟨w.heap.size + 1, 0, none⟩) 2 2] 71)).alloc (.cells #[.string ⟨#[100, 97]⟩, .slice (some ⟨w.heap.size + 1 + 1, 0, none⟩) 2 2, .string ⟨#[100, 98]⟩, .slice (some ⟨w.heap.size + 1, 0, none⟩) 2 2] 71)) := by
  have r1 : Rd (w.alloc (.cells #[.int .i64 3, .int .i64 0, .int .i64 0, .string ⟨#[97]⟩, .int .i64 1, .int .i64 k, .string ⟨#[]⟩] 60)) (.slice (some ⟨w.heap.size, 0, none⟩) 1 1) 7 1 (rows N.c (leafQ k)) := by
    have h := lit_rd w #[.int .i64 3, .int .i64 0, .int .i64 0, .string ⟨#[97]⟩, .int .i64 1, .int .i64 k, .string ⟨#[]⟩] 60 7 1 1 rfl (Nat.le_refl _)
    exact h
  have r2 : Rd ((w.alloc (.cells #[.int .i64 3, .int .i64 0, .int .i64 0, .string ⟨#[97]⟩, .int .i64 1, .int .i64 k, .string ⟨#[]⟩] 60)).alloc (.cells #[.int .i64 8, .int .i64 0, .int .i64 0, .string ⟨#[100, 97]⟩, .int .i64 0, .int .i64 0, .string ⟨#[]⟩, .int .i64 5, .int .i64 0, .int .i64 0, .string ⟨#[]⟩, .int .i64 0, .int .i64 0, .string ⟨#[]⟩] 60)) (.slice (some ⟨w.heap.size + 1, 0, none⟩) 2 2) 7 2 (rows N.c (notQ tDa)) := by
    have h := lit_rd (w.alloc (.cells #[.int .i64 3, .int .i64 0, .int .i64 0, .string ⟨#[97]⟩, .int .i64 1, .int .i64 k, .string ⟨#[]⟩] 60)) #[.int .i64 8, .int .i64 0, .int .i64 0, .string ⟨#[100, 97]⟩, .int .i64 0, .int .i64 0, .string ⟨#[]⟩, .int .i64 5, .int .i64 0, .int .i64 0, .string ⟨#[]⟩, .int .i64 0, .int .i64 0, .string ⟨#[]⟩] 60 7 2 2 rfl (Nat.le_refl _)
    simp only [asz] at h; exact h
  have r3 : Rd (((w.alloc (.cells #[.int .i64 3, .int .i64 0, .int .i64 0, .string ⟨#[97]⟩, .int .i64 1, .int .i64 k, .string ⟨#[]⟩] 60)).alloc (.cells #[.int .i64 8, .int .i64 0, .int .i64 0, .string ⟨#[100, 97]⟩, .int .i64 0, .int .i64 0, .string ⟨#[]⟩, .int .i64 5, .int .i64 0, .int .i64 0, .string ⟨#[]⟩, .int .i64 0, .int .i64 0, .string ⟨#[]⟩] 60)).alloc (.cells #[.int .i64 8, .int .i64 0, .int .i64 0, .string ⟨#[100, 98]⟩, .int .i64 0, .int .i64 0, .string ⟨#[]⟩, .int .i64 5, .int .i64 0, .int .i64 0, .string ⟨#[]⟩, .int .i64 0, .int .i64 0, .string ⟨#[]⟩] 60)) (.slice (some ⟨w.heap.size + 1 + 1, 0, none⟩) 2 2) 7 2 (rows N.c (notQ tDb)) := by
    have h := lit_rd ((w.alloc (.cells #[.int .i64 3, .int .i64 0, .int .i64 0, .string ⟨#[97]⟩, .int .i64 1, .int .i64 k, .string ⟨#[]⟩] 60)).alloc (.cells #[.int .i64 8, .int .i64 0, .int .i64 0, .string ⟨#[100, 97]⟩, .int .i64 0, .int .i64 0, .string ⟨#[]⟩, .int .i64 5, .int .i64 0, .int .i64 0, .string ⟨#[]⟩, .int .i64 0, .int .i64 0, .string ⟨#[]⟩] 60)) #[.int .i64 8, .int .i64 0, .int .i64 0, .string ⟨#[100, 98]⟩, .int .i64 0, .int .i64 0, .string ⟨#[]⟩, .int .i64 5, .int .i64 0, .int .i64 0, .string ⟨#[]⟩, .int .i64 0, .int .i64 0, .string ⟨#[]⟩] 60 7 2 2 rfl (Nat.le_refl _)
    simp only [asz] at h; exact h
  have d1 : Rd ((((w.alloc (.cells #[.int .i64 3, .int .i64 0, .int .i64 0, .string ⟨#[97]⟩, .int .i64 1, .int .i64 k, .string ⟨#[]⟩] 60)).alloc (.cells #[.int .i64 8, .int .i64 0, .int .i64 0, .string ⟨#[100, 97]⟩, .int .i64 0, .int .i64 0, .string ⟨#[]⟩, .int .i64 5, .int .i64 0, .int .i64 0, .string ⟨#[]⟩, .int .i64 0, .int .i64 0, .string ⟨#[]⟩] 60)).alloc (.cells #[.int .i64 8, .int .i64 0, .int .i64 0, .string ⟨#[100, 98]⟩, .int .i64 0, .int .i64 0, .string ⟨#[]⟩, .int .i64 5, .int .i64 0, .int .i64 0, .string ⟨#[]⟩, .int .i64 0, .int .i64 0, .string ⟨#[]⟩] 60)).alloc (.cells #[.string ⟨#[100, 97]⟩, .slice (some ⟨w.heap.size, 0, none⟩) 1 1, .string ⟨#[100, 98]⟩, .slice (some ⟨w.heap.size + 1, 0, none⟩) 2 2] 71)) (.slice (some ⟨w.heap.size + 1 + 1 + 1, 0, none⟩) 2 2) 2 2 (rows P2.c [⟨tDa, .slice (some ⟨w.heap.size, 0, none⟩) 1 1⟩, ⟨tDb, .slice (some ⟨w.heap.size + 1, 0, none⟩) 2 2⟩]) := by
    have h := lit_rd (((w.alloc (.cells #[.int .i64 3, .int .i64 0, .int .i64 0, .string ⟨#[97]⟩, .int .i64 1, .int .i64 k, .string ⟨#[]⟩] 60)).alloc (.cells #[.int .i64 8, .int .i64 0, .int .i64 0, .string ⟨#[100, 97]⟩, .int .i64 0, .int .i64 0, .string ⟨#[]⟩, .int .i64 5, .int .i64 0, .int .i64 0, .string ⟨#[]⟩, .int .i64 0, .int .i64 0, .string ⟨#[]⟩] 60)).alloc (.cells #[.int .i64 8, .int .i64 0, .int .i64 0, .string ⟨#[100, 98]⟩, .int .i64 0, .int .i64 0, .string ⟨#[]⟩, .int .i64 5, .int .i64 0, .int .i64 0, .string ⟨#[]⟩, .int .i64 0, .int .i64 0, .string ⟨#[]⟩] 60)) #[.string ⟨#[100, 97]⟩, .slice (some ⟨w.heap.size, 0, none⟩) 1 1, .string ⟨#[100, 98]⟩, .slice (some ⟨w.heap.size + 1, 0, none⟩) 2 2] 71 2 2 2 rfl (Nat.le_refl _)
    simp only [asz] at h; exact h
  have d2 : Rd (((((w.alloc (.cells #[.int .i64 3, .int .i64 0, .int .i64 0, .string ⟨#[97]⟩, .int .i64 1, .int .i64 k, .string ⟨#[]⟩] 60)).alloc (.cells #[.int .i64 8, .int .i64 0, .int .i64 0, .string ⟨#[100, 97]⟩, .int .i64 0, .int .i64 0, .string ⟨#[]⟩, .int .i64 5, .int .i64 0, .int .i64 0, .string ⟨#[]⟩, .int .i64 0, .int .i64 0, .string ⟨#[]⟩] 60)).alloc (.cells #[.int .i64 8, .int .i64 0, .int .i64 0, .string ⟨#[100, 98]⟩, .int .i64 0, .int .i64 0, .string ⟨#[]⟩, .int .i64 5, .int .i64 0, .int .i64 0, .string ⟨#[]⟩, .int .i64 0, .int .i64 0, .string ⟨#[]⟩] 60)).alloc (.cells #[.string ⟨#[100, 97]⟩, .slice (some ⟨w.heap.size, 0, none⟩) 1 1, .string ⟨#[100, 98]⟩, .slice (some ⟨w.heap.size + 1, 0, none⟩) 2 2] 71)).alloc (.cells #[.string ⟨#[100, 97]⟩, .slice (some ⟨w.heap.size + 1 + 1, 0, none⟩) 2 2, .string ⟨#[100, 98]⟩, .slice (some ⟨w.heap.size + 1, 0, none⟩) 2 2] 71)) (.slice (some ⟨w.heap.size + 1 + 1 + 1 + 1, 0, none⟩) 2 2) 2 2 (rows P2.c [⟨tDa, .slice (some ⟨w.heap.size + 1 + 1, 0, none⟩) 2 2⟩, ⟨tDb, .slice (some ⟨w.heap.size + 1, 0, none⟩) 2 2⟩]) := by
    have h := lit_rd ((((w.alloc (.cells #[.int .i64 3, .int .i64 0, .int .i64 0, .string ⟨#[97]⟩, .int .i64 1, .int .i64 k, .string ⟨#[]⟩] 60)).alloc (.cells #[.int .i64 8, .int .i64 0, .int .i64 0, .string ⟨#[100, 97]⟩, .int .i64 0, .int .i64 0, .string ⟨#[]⟩, .int .i64 5, .int .i64 0, .int .i64 0, .string ⟨#[]⟩, .int .i64 0, .int .i64 0, .string ⟨#[]⟩] 60)).alloc (.cells #[.int .i64 8, .int .i64 0, .int .i64 0, .string ⟨#[100, 98]⟩, .int .i64 0, .int .i64 0, .string ⟨#[]⟩, .int .i64 5, .int .i64 0, .int .i64 0, .string ⟨#[]⟩, .int .i64 0, .int .i64 0, .string ⟨#[]⟩] 60)).alloc (.cells #[.string ⟨#[100, 97]⟩, .slice (some ⟨w.heap.size, 0, none⟩) 1 1, .string ⟨#[100, 98]⟩, .slice (some ⟨w.heap.size + 1, 0, none⟩) 2 2] 71)) #[.string ⟨#[100, 97]⟩, .slice (some ⟨w.heap.size + 1 + 1, 0, none⟩) 2 2, .string ⟨#[100, 98]⟩, .slice (some ⟨w.heap.size + 1, 0, none⟩) 2 2] 71 2 2 2 rfl (Nat.le_refl _)
    simp only [asz] at h; exact h
  refine ⟨⟨[⟨tDa, .slice (some ⟨w.heap.size, 0, none⟩) 1 1⟩, ⟨tDb, .slice (some ⟨w.heap.size + 1, 0, none⟩) 2 2⟩], d1.grew ((Grew.refl _).alloc (.cells #[.string ⟨#[100, 97]⟩, .slice (some ⟨w.heap.size + 1 + 1, 0, none⟩) 2 2, .string ⟨#[100, 98]⟩, .slice (some ⟨w.heap.size + 1, 0, none⟩) 2 2] 71)), all2_two (R := Dr.R _) (x := ⟨tDa, leafQ k⟩) (y := ⟨tDb, notQ tDa⟩) ⟨rfl, r1.grew (((((Grew.refl _).alloc (.cells #[.int .i64 8, .int .i64 0, .int .i64 0, .string ⟨#[100, 97]⟩, .int .i64 0, .int .i64 0, .string ⟨#[]⟩, .int .i64 5, .int .i64 0, .int .i64 0, .string ⟨#[]⟩, .int .i64 0, .int .i64 0, .string ⟨#[]⟩] 60)).alloc (.cells #[.int .i64 8, .int .i64 0, .int .i64 0, .string ⟨#[100, 98]⟩, .int .i64 0, .int .i64 0, .string ⟨#[]⟩, .int .i64 5, .int .i64 0, .int .i64 0, .string ⟨#[]⟩, .int .i64 0, .int .i64 0, .string ⟨#[]⟩] 60)).alloc (.cells #[.string ⟨#[100, 97]⟩, .slice (some ⟨w.heap.size, 0, none⟩) 1 1, .string ⟨#[100, 98]⟩, .slice (some ⟨w.heap.size + 1, 0, none⟩) 2 2] 71)).alloc (.cells #[.string ⟨#[100, 97]⟩, .slice (some ⟨w.heap.size + 1 + 1, 0, none⟩) 2 2, .string ⟨#[100, 98]⟩, .slice (some ⟨w.heap.size + 1, 0, none⟩) 2 2] 71))⟩ ⟨rfl, r2.grew ((((Grew.refl _).alloc (.cells #[.int .i64 8, .int .i64 0, .int .i64 0, .string ⟨#[100, 98]⟩, .int .i64 0, .int .i64 0, .string ⟨#[]⟩, .int .i64 5, .int .i64 0, .int .i64 0, .string ⟨#[]⟩, .int .i64 0, .int .i64 0, .string ⟨#[]⟩] 60)).alloc (.cells #[.string ⟨#[100, 97]⟩, .slice (some ⟨w.heap.size, 0, none⟩) 1 1, .string ⟨#[100, 98]⟩, .slice (some ⟨w.heap.size + 1, 0, none⟩) 2 2] 71)).alloc (.cells #[.string ⟨#[100, 97]⟩, .slice (some ⟨w.heap.size + 1 + 1, 0, none⟩) 2 2, .string ⟨#[100, 98]⟩, .slice (some ⟨w.heap.size + 1, 0, none⟩) 2 2] 71))⟩⟩, ⟨[⟨tDa, .slice (some ⟨w.heap.size + 1 + 1, 0, none⟩) 2 2⟩, ⟨tDb, .slice (some ⟨w.heap.size + 1, 0, none⟩) 2 2⟩], d2, all2_two (R := Dr.R _) (x := ⟨tDa, notQ tDb⟩) (y := ⟨tDb, notQ tDa⟩) ⟨rfl, r3.grew (((Grew.refl _).alloc (.cells #[.string ⟨#[100, 97]⟩, .slice (some ⟨w.heap.size, 0, none⟩) 1 1, .string ⟨#[100, 98]⟩, .slice (some ⟨w.heap.size + 1, 0, none⟩) 2 2] 71)).alloc (.cells #[.string ⟨#[100, 97]⟩, .slice (some ⟨w.heap.size + 1 + 1, 0, none⟩) 2 2, .string ⟨#[100, 98]⟩, .slice (some ⟨w.heap.size + 1, 0, none⟩) 2 2] 71))⟩ ⟨rfl, r2.grew ((((Grew.refl _).alloc (.cells #[.int .i64 8, .int .i64 0, .int .i64 0, .string ⟨#[100, 98]⟩, .int .i64 0, .int .i64 0, .string ⟨#[]⟩, .int .i64 5, .int .i64 0, .int .i64 0, .string ⟨#[]⟩, .int .i64 0, .int .i64 0, .string ⟨#[]⟩] 60)).alloc (.cells #[.string ⟨#[100, 97]⟩, .slice (some ⟨w.heap.size, 0, none⟩) 1 1, .string ⟨#[100, 98]⟩, .slice (some ⟨w.heap.size + 1, 0, none⟩) 2 2] 71)).alloc (.cells #[.string ⟨#[100, 97]⟩, .slice (some ⟨w.heap.size + 1 + 1, 0, none⟩) 2 2, .string ⟨#[100, 98]⟩, .slice (some ⟨w.heap.size + 1, 0, none⟩) 2 2] 71))⟩⟩, ((((((Grew.refl _).alloc (.cells #[.int .i64 3, .int .i64 0, .int .i64 0, .string ⟨#[97]⟩, .int .i64 1, .int .i64 k, .string ⟨#[]⟩] 60)).alloc (.cells #[.int .i64 8, .int .i64 0, .int .i64 0, .string ⟨#[100, 97]⟩, .int .i64 0, .int .i64 0, .string ⟨#[]⟩, .int .i64 5, .int .i64 0, .int .i64 0, .string ⟨#[]⟩, .int .i64 0, .int .i64 0, .string ⟨#[]⟩] 60)).alloc (.cells #[.int .i64 8, .int .i64 0, .int .i64 0, .string ⟨#[100, 98]⟩, .int .i64 0, .int .i64 0, .string ⟨#[]⟩, .int .i64 5, .int .i64 0, .int .i64 0, .string ⟨#[]⟩, .int .i64 0, .int .i64 0, .string ⟨#[]⟩] 60)).alloc (.cells #[.string ⟨#[100, 97]⟩, .slice (some ⟨w.heap.size, 0, none⟩) 1 1, .string ⟨#[100, 98]⟩, .slice (some ⟨w.heap.size + 1, 0, none⟩) 2 2] 71)).alloc (.cells #[.string ⟨#[100, 97]⟩, .slice (some ⟨w.heap.size + 1 + 1, 0, none⟩) 2 2, .string ⟨#[100, 98]⟩, .slice (some ⟨w.heap.size + 1, 0, none⟩) 2 2] 71))⟩
theorem dz_D (k : Int) : szAll Dr.sz (dsD k) ≤ 4000000 := by simp [szAll, dsD, Dr.sz, leafQ, notQ, N.sz, V.sz, tA, tDa, tDb, ByteArray.size]
theorem dz_E : szAll Dr.sz dsE ≤ 4000000 := by simp [szAll, dsE, Dr.sz, notQ, N.sz, V.sz, tDa, tDb, ByteArray.size]
theorem sm_D (k : Int) : ∀ x, x ∈ dsD k → x.small := fun x hx => by rcases mem_two hx with rfl | rfl <;> (unfold Dr.small; simp [leafQ, notQ])
theorem sm_E : ∀ x, x ∈ dsE → x.small := fun x hx => by rcases mem_two hx with rfl | rfl <;> (unfold Dr.small; simp [notQ])
set_option maxRecDepth 100000 in
set_option maxHeartbeats 4000000 in
theorem walkLaw (w : World) (v : Value) (n : Nat) (xs : List Int) (hr : Rd w v 1 n (xs.map (Value.int .u8))) (hn : n ≤ maxLen) (ho : ∀ a : Int, a ∈ xs → 0 ≤ a ∧ a ≤ 255) :
    Calls Try.prog 13 #[v] w fun e w' => e = .returned (.bool true) ∧ Grew w w' := by
  clear ho
  by_cases hbig : (1048576 : Int) < (n : Int)
  · have hd : decide ((1048576 : Int) < (n : Int)) = true := by simp [hbig]
    go_enter Try.func13, Try.ntmps13
    go_wp2_with fail
    refine (big v n _ _ hr hn).mono ?_
    rintro e w1 ⟨rfl, rfl⟩
    go_wp2
    go_ret
    exact ⟨rfl, Grew.refl _⟩
  have hd : decide ((1048576 : Int) < (n : Int)) = false := by simp [hbig]
  have hcd : Cd w v := ⟨n, xs, hr, by omega⟩
  have G0 := Grew.refl w
  go_enter Try.func13, Try.ntmps13
  go_wp2_with fail
  refine (big v n _ _ hr hn).mono ?_
  rintro e w1 ⟨rfl, rfl⟩
  go_wp2_with fail
  refine (drawPlaces v _ hcd).mono ?_
  rintro e w1 ⟨u, rfl, xs, hl, hb, o_p, g1⟩
  have G1 := G0.trans g1
  have R_p := Lib.hid (rd_of_own o_p)
  obtain ⟨a_p, c_p, rfl⟩ := own_slice o_p
  clear o_p
  obtain ⟨_, _, h1, _, hra⟩ := R_p.out
  cases h1
  obtain ⟨b0, o0, x, rfl, hxk, e0⟩ := hra.one (i := 0) (by omega)
  have hx := hb x (List.mem_of_getElem? hxk.out)
  have hx0 := hx.1
  have hx1 := hx.2
  clear hx hb hra
  simp only [Nat.add_zero] at e0
  go_wp2_with fail
  refine (intValue _ _).mono ?_
  rintro e w2 ⟨rfl, g2⟩
  have G2 := G1.trans g2
  obtain ⟨HD, HE, g3⟩ := lits w2 (x % 9)
  have HQ := Lib.hid (qry_leaf (k := x % 9) (by omega) (by omega))
  have HD := Lib.hid HD
  have HE := Lib.hid HE
  clear e0
  go_wp2_with fail
  refine (implStratumOf _ (dsD (x % 9)) tDa _ HD.out (by simp [dsD]) (dz_D _)).mono ?_
  rintro e w3 ⟨he, hb3⟩
  rw [str_a HQ.out] at he
  subst he
  go_wp2_with fail
  refine (implStratumOf _ (dsD (x % 9)) tDb _ (HD.out.grew hb3) (by simp [dsD]) (dz_D _)).mono ?_
  rintro e w4 ⟨he, hb4⟩
  rw [str_b HQ.out] at he
  subst he
  have g34 := hb3.trans hb4
  go_wp2_with fail
  refine (implMaxStratum _ (dsD (x % 9)) _ (HD.out.grew g34) (by simp [dsD]) (dz_D _)).mono ?_
  rintro e w5 ⟨he, hb5⟩
  rw [mx_D HQ.out] at he
  subst he
  have g35 := g34.trans hb5
  go_wp2_with fail
  refine (implIsStratified _ dsE _ (HE.out.grew g35) (by simp [dsE]) dz_E).mono ?_
  rintro e w6 ⟨he, hb6⟩
  rw [stB_E] at he
  subst he
  have g36 := g35.trans hb6
  go_wp2_with fail
  refine (implUnstratifiedDirs _ dsE _ (HE.out.grew g36) (by simp [dsE]) sm_E dz_E).mono ?_
  rintro e w7 ⟨v7, rfl, ho7, hb7⟩
  obtain ⟨a7, c7, hv7⟩ := own_slice ho7
  rw [uns_E] at hv7
  subst hv7
  clear ho7
  have g37 := g36.trans hb7
  go_wp2_with fail
  refine (implRecursiveDirs _ (dsD (x % 9)) _ (HD.out.grew g37) (by simp [dsD]) (sm_D _)).mono ?_
  rintro e w8 ⟨v8, rfl, ho8, hb8⟩
  obtain ⟨a8, c8, hv8⟩ := own_slice ho8
  rw [rec_D] at hv8
  simp only [List.length_nil] at hv8
  subst hv8
  clear ho8
  go_wp2
  go_ret
  exact ⟨rfl, (G2.trans g3).trans (g37.trans hb8)⟩
end Go.Proofs.Ytejgpghcahinhaa.fnNegationStratum

namespace Go.Proofs.Ytejgpghcahinhaa.fnNegationStratum
open Go.ChangeShapes Go.WideShapes Go.ChangeAt Go.RowKit
open Go.ChangeMaps (open_string shut_string)
set_option linter.unusedVariables false
set_option maxRecDepth 100000 in
theorem lifted (os : Os) (started : os.Started) (H : Type) (enc : TypeId × Value → H) :
    ReturnsInHanded {} Try.checked os 13 .any (Rows.fnNegationStratumSpec.pre6 enc Try.prog Try.f13 Rows.fnNegationStratumRow.domain false) (Rows.fnNegationStratumSpec.post enc Try.prog Try.f13 false true false false) := by
  refine returnsInHanded_of_change (C := Try.checked) own started (by kernel_rfl) Try.func13
    (ChangeSpec.witness6 (enc := enc) (C := Try.checked) false ⟨#[], #[.slice none 0 0], []⟩ 8 (by kernel_rfl) (by kernel_rfl) (by kernel_rfl) (by kernel_rfl)) ?_
  intro W base args ds gs before hval0 hW hcnd _
  have hval : ∀ (j : Nat) t v, Try.f13.params[j]? = some t → args[j]? = some v → Value.okWide Try.prog W .any base t v := hval0
  have hW' := hW
  obtain ⟨p, q, hA0, hV, rfl, hfz, hnd⟩ := hW
  have hA : DataW.TrodAll enc Try.prog W 0 (fun _ => true) true Try.f13.params.toList args.toList ds p := hA0
  rw [Try.params13] at hA hval
  obtain ⟨v0, vs0, d0, ds0, p0, q0, hargs, rfl, rfl, h0, r0⟩ := trodAll_cons hA
  obtain ⟨rfl, rfl, rfl⟩ := trodAll_nil r0
  obtain rfl : args = #[v0] := by cases args; simp_all
  obtain ⟨rfl, rfl⟩ := trodVars_none hV
  have k0 := h0
  have lt0 : ∀ x ∈ p0, x.block < W.heap.size := by obtain ⟨m, hm⟩ := k0; exact DataW.trod_lt m _ _ _ hm
  obtain ⟨s0, l0, c0, rfl⟩ := okWide_slice Try.underlying22 (hval 0 22 v0 rfl rfl)
  obtain ⟨fu0, hf0⟩ := h0
  obtain ⟨n0, x0, hr0, hn0, ho0⟩ := open_bytes hf0
  clear hA0 hval0
  refine (walkLaw W _ n0 x0 hr0 hn0 ho0).mono fun e W' ⟨he, bel⟩ => ?_
  subst he
  exact ⟨_, rfl, _, _, _, [], _, [], hW', trodAll_mk1 (shut_bool Try.underlying4 _), (trodAll_cons_mk (Below.trod laidOut (by kernel_rfl) (of_decide_eq_true (by kernel_rfl)) k0 bel lt0) trodAll_mk0), rfl, bel.below.frame _, fun h => by cases h⟩
theorem joined : joinedFacts Try.pinned.checked.prog 13 Try.f13 Rows.fnNegationStratumSpec Rows.fnNegationStratumRow = true := by
  unfold joinedFacts
  rw [j_may, j_lift, j_make]
  kernel_rfl
theorem over : Rows.fnNegationStratumRow.holds Try.pinned (OpenSpec.ofChange Rows.fnNegationStratumSpec) :=
  OpenClaim.holds_of_wide 13 Try.f13 rfl rfl rfl rfl rfl rfl rfl ⟨rfl, rfl, rfl, rfl, rfl⟩ rfl rfl rfl rfl rfl (by kernel_rfl) Try.func13 joined
    (of_decide_eq_true (by kernel_rfl)) (by unfold Func.isWrapper; first | (rw [if_pos (by decide +kernel)]; kernel_rfl) | (rw [if_neg (by decide +kernel)]; exact ⟨rfl, rfl⟩))
    (fun os started H enc _ => lifted os started H enc)
theorem proved : Rows.FnNegationStratumSaid := over
end Go.Proofs.Ytejgpghcahinhaa.fnNegationStratum
