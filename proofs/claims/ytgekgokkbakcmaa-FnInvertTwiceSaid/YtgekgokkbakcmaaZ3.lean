/- Contracts of the draws of results. -/
import Derived.Test.YtgekgokkbakcmaaZ2
import Derived.Test.YtgekgokkbakcmaaN3
namespace Go.Proofs.Ytgekgokkbakcmaa
open Go.RowKit
set_option linter.unusedVariables false
theorem names_at (k : Nat) (h : k < 4) : ∃ x : ByteArray, (#[Value.string ⟨#[100, 97]⟩, .string ⟨#[100, 98]⟩, .string ⟨#[100, 99]⟩, .string ⟨#[100, 100]⟩] : Array Value)[k]? = some (.string x) ∧ x.size = 2 := by
  have : k = 0 ∨ k = 1 ∨ k = 2 ∨ k = 3 := by omega
  rcases this with rfl | rfl | rfl | rfl <;> exact ⟨_, rfl, rfl⟩
def ansOk (xs : List Rs) : Prop := xs.length ≤ 4 ∧ ∀ x, x ∈ xs → x.name.size ≤ 8 ∧ idsOk 8 x.ids
theorem Rs.O.tch (w w' : World) (lo hi a b : Nat) (x : Rs) (p : P2) (h : Rs.O w lo hi x p) (ht : Touch a b w w') (hd : hi ≤ a ∨ b ≤ lo) : Rs.O w' lo hi x p := h.touch ht hd
abbrev GLr (w : World) (base : Nat) (v : Value) (xs : List Rs) : Prop := GL P2.c 2 151 Rs.O w base v xs
theorem GLr.tch {w w' : World} {base a b : Nat} {v : Value} {xs : List Rs} (h : GLr w base v xs) (ht : Touch a b w w') (hd : b ≤ base) : GLr w' base v xs :=
  GL.touch Rs.O.tch (fun w lo hi hi' x p h k => h.mono (Nat.le_refl _) k) h ht hd
theorem GLr.d {g : Nat} {w w' : World} {base : Nat} {v : Value} {xs : List Rs} (h : GLr w base v xs) (hd : D g w w') (hg : g < base) : GLr w' base v xs := h.tch hd.2.1 hg
theorem GLr.rd {w : World} {base : Nat} {v : Value} {xs : List Rs} (h : GLr w base v xs) : RdRs w v xs := GL.rd (fun w lo hi x p h => h.rd) h
theorem GLr.base {w : World} {base base' : Nat} {v : Value} {xs : List Rs} (h : GLr w base v xs) (hb : base' ≤ base) : GLr w base' v xs := GL.base (fun w lo lo' hi x p h k => h.mono k (Nat.le_refl _)) h hb
theorem GLr.grew {w w' : World} {base : Nat} {v : Value} {xs : List Rs} (h : GLr w base v xs) (hg : Grew w w') : GLr w' base v xs := h.tch (hg.touch 0 0) (Nat.zero_le _)
theorem GLr.snoc {w w' : World} {base lo2 : Nat} {v v' : Value} {ds : List Rs} {d : Rs} {ps : List P2} {p : P2} (h1 : w.ownsRow base 151 2 v ds.length (rows P2.c ps)) (h2 : All2 (Rs.O w base w.heap.size) ds ps)
    (hp : Rs.O w lo2 w.heap.size d p) (hb : base ≤ lo2)
    (hown : w'.ownsRow base 151 2 v' (ds.length + 1) (rows P2.c ps ++ P2.c p)) (hg : w.grownBy w' v.ownBlock) (hs : w.heap.size ≤ w'.heap.size) : GLr w' base v' (ds ++ [d]) := by
  refine ⟨ps ++ [p], ?_, ?_⟩
  · rw [List.length_append, rows_append]; simpa [rows] using hown
  · refine All2.snoc (h2.mono fun x q hr => ?_) ?_
    · exact ⟨hr.1, (own_grown hr.2 h1 (by decide) hg).mono (Nat.le_refl _) hs⟩
    · exact ⟨hp.1, (own_grown hp.2 h1 (by decide) hg).mono hb hs⟩
set_option maxRecDepth 100000 in
set_option maxHeartbeats 2000000 in
theorem l14Answers (g : Nat) (w : World) (hc : Cur w g) :
    Calls Try.prog 83 #[.pointer (some ⟨g, 0, none⟩)] w fun e w' => ∃ v xs, e = .returned v ∧ ansOk xs ∧ GLr w' w.heap.size v xs ∧ D g w w' := by
  obtain ⟨i0, hi, hz0, hz1, hz2⟩ := info_parts Try.infoRs
  have hl := hc.lt
  go_enter Try.func83, Try.ntmps83
  go_wp2
  go_loopw [3, 4] (fun v i wr => ∃ (k : Nat) (xs : List Rs), k ≤ 4 ∧ i = .int .i64 k ∧ Hid (xs.length = k ∧ ∀ x, x ∈ xs → x.name.size ≤ 8 ∧ idsOk 8 x.ids) ∧ Hid (GLr wr w.heap.size v xs) ∧ D g w wr) (fun _ i _ => 8 - (intOf i).toNat)
  case atStart => exact ⟨0, [], by omega, rfl, Lib.hid ⟨rfl, by simp⟩, Lib.hid ⟨[], lit_own w _ 2, All2.nil⟩, (D.refl hc).alloc _⟩
  case round =>
    obtain ⟨k, xs, hk, rfl, hok, hown, hd⟩ := hrel
    have HXL := Lib.hid hok.out.1
    obtain ⟨va, vc, rfl⟩ : ∃ a c, u3 = .slice a k c := by have h := hown.out.slice; rw [HXL.out] at h; exact h
    go_wp2_with fail
    refine (l01Below g _ hd.cur 5 (by decide) (by decide)).mono ?_
    rintro e w1 ⟨b, rfl, hb, hd1⟩
    by_cases hlt : (k : Int) < b
    · obtain ⟨nm, hnm, hns⟩ := names_at k (by omega)
      have HNS := Lib.hid hns
      have hk4 : (k : Int) < 4 := by omega
      have hk0 : (0 : Int) ≤ k := by omega
      have hdd := hd.trans hd1
      have hG1 := Lib.hid (hown.out.d hd1 hl)
      have hcell : ∀ W : World, (W.alloc (.cells #[.string ⟨#[100, 97]⟩, .string ⟨#[100, 98]⟩, .string ⟨#[100, 99]⟩, .string ⟨#[100, 100]⟩] 9)).cell? ⟨W.heap.size, k, none⟩ = some (.string nm) := fun W => by rw [World.cell?_alloc_at (w := W) _ _ W.heap.size k rfl]; exact hnm
      clear hown hnm hns
      go_wp2_with fail
      refine wp_region_noPanic ?_
      refine wp_region_held_drew (S := (fun w' => D g w w')) (by kernel_rfl) ?h1_S ?h1_r
      case h1_S => exact hdd.drew
      case h1_r =>
       intro HS
       first
        | refine sk 0 rfl (by kernel_rfl) rfl HS ?_
        | (refine tk (v := ?v1_1_) 0 rfl (by kernel_rfl) rfl ?y1_1_ HS ?_; case y1_1_ => (intro w' hSw; (try dsimp only at hSw); go_simp <;> (with_reducible rfl)))
       try simp only [Act.put, lpa, lpb, lpc]
       first
        | refine sk 2 rfl (by kernel_rfl) rfl HS ?_
        | (refine tk (v := ?v1_2_) 2 rfl (by kernel_rfl) rfl ?y1_2_ HS ?_; case y1_2_ => (intro w' hSw; (try dsimp only at hSw); go_simp <;> (with_reducible rfl)))
       try simp only [Act.put, lpa, lpb, lpc]
       first
        | refine sk 5 rfl (by kernel_rfl) rfl HS ?_
        | (refine tk (v := ?v1_3_) 5 rfl (by kernel_rfl) rfl ?y1_3_ HS ?_; case y1_3_ => (intro w' hSw; (try dsimp only at hSw); go_simp <;> (with_reducible rfl)))
       try simp only [Act.put, lpa, lpb, lpc]
       refine cl2 1 6 rfl rfl (by kernel_rfl) (fun K hK => ?a1_4_) (fun K hK => ?b1_4_)
       case a1_4_ =>
        rw [if_pos (by rfl)]
        go_simp
        refine hK.out _ _ ?s1_5_ ?r1_5_
        case s1_5_ => exact HS.alloc _
        case r1_5_ =>
         clear HS
         intro HS
         clear hK K
         try simp only [Act.put, lpa, lpb, lpc]
         first
          | refine sk 3 rfl (by kernel_rfl) rfl HS ?_
          | (refine tk (v := ?v1_6_) 3 rfl (by kernel_rfl) rfl ?y1_6_ HS ?_; case y1_6_ => (intro w' hSw; (try dsimp only at hSw); go_simp <;> (with_reducible rfl)))
         try simp only [Act.put, lpa, lpb, lpc]
         refine cl2 4 6 rfl rfl (by kernel_rfl) (fun K hK => ?a1_7_) (fun K hK => ?b1_7_)
         case a1_7_ =>
          rw [if_pos (by rfl)]
          go_simp
          refine hK.out _ _ ?s1_8_ ?r1_8_
          case s1_8_ => exact HS
          case r1_8_ =>
           clear HS
           intro HS
           clear hK K
           try simp only [Act.put, lpa, lpb, lpc]
           refine cl 6 rfl (by kernel_rfl) (fun K hK => ?_)
           rw [if_pos (by rfl)]
           go_simp
           go_at_call 127
           refine (l14Ids g _ HS.cur).mono ?_
           rintro e w2 ⟨v2, ys, rfl, hys, hv2, hd2⟩
           obtain ⟨ya, yc, rfl⟩ := own_slice hv2
           have HV2 := Lib.hid hv2
           have HYS := Lib.hid hys
           clear hv2 hys
           refine hK.out _ _ ?s1_9_ ?r1_9_
           case s1_9_ => exact HS.trans hd2
           case r1_9_ =>
            have hGL := Lib.hid ((hG1.out.grew ((Grew.refl w1).alloc (.cells #[.string ⟨#[100, 97]⟩, .string ⟨#[100, 98]⟩, .string ⟨#[100, 99]⟩, .string ⟨#[100, 100]⟩] 9)).drew).d hd2 hl)
            have HVL := Lib.hid HV2.out
            clear HS
            intro HS
            clear hK K
            try simp only [Act.put, lpa, lpb, lpc]
            first
             | refine sk 7 rfl (by kernel_rfl) rfl HS ?_
             | (refine tk (v := ?v1_10_) 7 rfl (by kernel_rfl) rfl ?y1_10_ HS ?_; case y1_10_ => (intro w' hSw; (try dsimp only at hSw); go_simp <;> (with_reducible rfl)))
            try simp only [Act.put, lpa, lpb, lpc]
            refine cl 8 rfl (by kernel_rfl) (fun K hK => ?_)
            rw [if_pos (by rfl)]
            go_simp
            refine hK.out _ _ ?s1_11_ ?r1_11_
            case s1_11_ => exact HS.alloc _
            case r1_11_ =>
             clear HS
             intro HS
             clear hK K
             try simp only [Act.put, lpa, lpb, lpc]
             refine cl 9 rfl (by kernel_rfl) (fun K hK => ?_)
             rw [if_pos (by rfl)]
             obtain ⟨ps, ho, hall⟩ := hGL.out
             rw [HXL.out] at ho
             have HPS := Lib.hid (ownsRow_grew ho ((Grew.refl _).alloc (.cells #[.string nm, .slice ya ys.length yc] 151)))
             have HALL := Lib.hid (hall.mono fun x q h => (h.grew ((Grew.refl _).alloc (.cells #[.string nm, .slice ya ys.length yc] 151))).mono (Nat.le_refl _) ((Grew.refl _).alloc (.cells #[.string nm, .slice ya ys.length yc] 151)).size)
             have HY4 := Lib.hid (ownsRow_base (base' := w.heap.size) (ownsRow_grew HVL.out ((Grew.refl _).alloc (.cells #[.string nm, .slice ya ys.length yc] 151))) (by have := hdd.size; simp at this ⊢; omega))
             clear ho hall
             refine wp_append_own _ _ _ 57 rfl w.heap.size 151 i0 _ 2 40 Try.underlying57 hi hz0 hz1 hz2 rfl (by decide) _ _ _ rfl HPS.out ⟨_, 0, none⟩ 1 1 [.string nm, .slice ya ys.length yc] rfl rfl (lit_news (by simp)) (fun x hx => by simp at hx; rcases hx with rfl | rfl <;> rfl) (by unfold maxLen; omega) (by omega) (by have := HS.size; simp at this ⊢; omega) ?_
             intro v' w' hown' hgr2 _
             have HD4 := Lib.hid (HS.grown hgr2 (fun j h => (HPS.out.lt j h).1))
             have HGR := Lib.hid hgr2
             have HO4 := Lib.hid hown'
             clear hown' hgr2
             refine hK.out _ _ ?s1_12_ ?r1_12_
             case s1_12_ => exact HD4.out
             case r1_12_ =>
              clear HS
              intro HS
              clear hK K
              try simp only [Act.put, lpa, lpb, lpc]
              first
               | refine sk 10 rfl (by kernel_rfl) rfl HS ?_
               | (refine tk (v := ?v1_13_) 10 rfl (by kernel_rfl) rfl ?y1_13_ HS ?_; case y1_13_ => (intro w' hSw; (try dsimp only at hSw); go_simp <;> (with_reducible rfl)))
              try simp only [Act.put, lpa, lpb, lpc]
              refine wpAnyH_done (by kernel_rfl) ?_ _
              refine NoPanic.normal ?_
              clear HS
              go_wp2
              go_roundw
              case rel =>
                refine ⟨k + 1, xs ++ [⟨nm, ys⟩], by omega, by go_num, Lib.hid ⟨by simp [HXL.out], fun x hx => ?_⟩, Lib.hid ?_, HD4.out⟩
                · rw [List.mem_append] at hx; rcases hx with hx | hx
                  · exact hok.out.2 x hx
                  · simp at hx; subst hx; exact ⟨by have := HNS.out; simp only; omega, HYS.out⟩
                · refine GLr.snoc (lo2 := w.heap.size) (p := ⟨nm, .slice ya ys.length yc⟩) (by rw [HXL.out]; exact HPS.out) HALL.out ⟨rfl, ?_⟩ (Nat.le_refl _) ?_ HGR.out HGR.out.size
                  · exact own_of HY4.out
                  · rw [HXL.out]; simpa [P2.c] using HO4.out
              case measure => simp [intOf]; omega
         case b1_7_ =>
          rw [if_pos (by rfl)]
          go_simp
          go_at_call 127
          refine (l14Ids g _ HS.cur).mono ?_
          rintro e w2 ⟨v2, ys, rfl, hys, hv2, hd2⟩
          obtain ⟨ya, yc, rfl⟩ := own_slice hv2
          have HV2 := Lib.hid hv2
          have HYS := Lib.hid hys
          clear hv2 hys
          have c2 := hd2.cell (p := ⟨w1.heap.size, k, none⟩) (u := .string nm) (hcell w1) (by have := hdd.size; simp; omega)
          refine hK.out _ _ ?s1_14_ ?r1_14_
          case s1_14_ => exact HS.trans hd2
          case r1_14_ =>
           have hGL := Lib.hid ((hG1.out.grew ((Grew.refl w1).alloc (.cells #[.string ⟨#[100, 97]⟩, .string ⟨#[100, 98]⟩, .string ⟨#[100, 99]⟩, .string ⟨#[100, 100]⟩] 9)).drew).d hd2 hl)
           have HVL := Lib.hid HV2.out
           clear HS
           intro HS
           clear hK K
           try simp only [Act.put, lpa, lpb, lpc]
           refine cl 4 rfl (by kernel_rfl) (fun K hK => ?_)
           rw [if_pos (by rfl)]
           go_simp
           refine hK.out _ _ ?s1_15_ ?r1_15_
           case s1_15_ => exact HS
           case r1_15_ =>
            clear HS
            intro HS
            clear hK K
            try simp only [Act.put, lpa, lpb, lpc]
            first
             | refine sk 7 rfl (by kernel_rfl) rfl HS ?_
             | (refine tk (v := ?v1_16_) 7 rfl (by kernel_rfl) rfl ?y1_16_ HS ?_; case y1_16_ => (intro w' hSw; (try dsimp only at hSw); go_simp <;> (with_reducible rfl)))
            try simp only [Act.put, lpa, lpb, lpc]
            refine cl 8 rfl (by kernel_rfl) (fun K hK => ?_)
            rw [if_pos (by rfl)]
            go_simp
            refine hK.out _ _ ?s1_17_ ?r1_17_
            case s1_17_ => exact HS.alloc _
            case r1_17_ =>
             clear HS
             intro HS
             clear hK K
             try simp only [Act.put, lpa, lpb, lpc]
             refine cl 9 rfl (by kernel_rfl) (fun K hK => ?_)
             rw [if_pos (by rfl)]
             obtain ⟨ps, ho, hall⟩ := hGL.out
             rw [HXL.out] at ho
             have HPS := Lib.hid (ownsRow_grew ho ((Grew.refl _).alloc (.cells #[.string nm, .slice ya ys.length yc] 151)))
             have HALL := Lib.hid (hall.mono fun x q h => (h.grew ((Grew.refl _).alloc (.cells #[.string nm, .slice ya ys.length yc] 151))).mono (Nat.le_refl _) ((Grew.refl _).alloc (.cells #[.string nm, .slice ya ys.length yc] 151)).size)
             have HY4 := Lib.hid (ownsRow_base (base' := w.heap.size) (ownsRow_grew HVL.out ((Grew.refl _).alloc (.cells #[.string nm, .slice ya ys.length yc] 151))) (by have := hdd.size; simp at this ⊢; omega))
             clear ho hall
             refine wp_append_own _ _ _ 57 rfl w.heap.size 151 i0 _ 2 40 Try.underlying57 hi hz0 hz1 hz2 rfl (by decide) _ _ _ rfl HPS.out ⟨_, 0, none⟩ 1 1 [.string nm, .slice ya ys.length yc] rfl rfl (lit_news (by simp)) (fun x hx => by simp at hx; rcases hx with rfl | rfl <;> rfl) (by unfold maxLen; omega) (by omega) (by have := HS.size; simp at this ⊢; omega) ?_
             intro v' w' hown' hgr2 _
             have HD4 := Lib.hid (HS.grown hgr2 (fun j h => (HPS.out.lt j h).1))
             have HGR := Lib.hid hgr2
             have HO4 := Lib.hid hown'
             clear hown' hgr2
             refine hK.out _ _ ?s1_18_ ?r1_18_
             case s1_18_ => exact HD4.out
             case r1_18_ =>
              clear HS
              intro HS
              clear hK K
              try simp only [Act.put, lpa, lpb, lpc]
              first
               | refine sk 10 rfl (by kernel_rfl) rfl HS ?_
               | (refine tk (v := ?v1_19_) 10 rfl (by kernel_rfl) rfl ?y1_19_ HS ?_; case y1_19_ => (intro w' hSw; (try dsimp only at hSw); go_simp <;> (with_reducible rfl)))
              try simp only [Act.put, lpa, lpb, lpc]
              refine wpAnyH_done (by kernel_rfl) ?_ _
              refine NoPanic.normal ?_
              clear HS
              go_wp2
              go_roundw
              case rel =>
                refine ⟨k + 1, xs ++ [⟨nm, ys⟩], by omega, by go_num, Lib.hid ⟨by simp [HXL.out], fun x hx => ?_⟩, Lib.hid ?_, HD4.out⟩
                · rw [List.mem_append] at hx; rcases hx with hx | hx
                  · exact hok.out.2 x hx
                  · simp at hx; subst hx; exact ⟨by have := HNS.out; simp only; omega, HYS.out⟩
                · refine GLr.snoc (lo2 := w.heap.size) (p := ⟨nm, .slice ya ys.length yc⟩) (by rw [HXL.out]; exact HPS.out) HALL.out ⟨rfl, ?_⟩ (Nat.le_refl _) ?_ HGR.out HGR.out.size
                  · exact own_of HY4.out
                  · rw [HXL.out]; simpa [P2.c] using HO4.out
              case measure => simp [intOf]; omega
       case b1_4_ =>
        rw [if_pos (by rfl)]
        go_simp
        go_at_call 127
        refine (l14Ids g _ HS.cur).mono ?_
        rintro e w2 ⟨v2, ys, rfl, hys, hv2, hd2⟩
        obtain ⟨ya, yc, rfl⟩ := own_slice hv2
        have HV2 := Lib.hid hv2
        have HYS := Lib.hid hys
        clear hv2 hys
        refine hK.out _ _ ?s1_20_ ?r1_20_
        case s1_20_ => exact HS.trans hd2
        case r1_20_ =>
         clear HS
         intro HS
         clear hK K
         try simp only [Act.put, lpa, lpb, lpc]
         refine cl 1 rfl (by kernel_rfl) (fun K hK => ?_)
         rw [if_pos (by rfl)]
         go_simp
         refine hK.out _ _ ?s1_21_ ?r1_21_
         case s1_21_ => exact HS.alloc _
         case r1_21_ =>
          have hGL := Lib.hid (((hG1.out.grew (Grew.refl w1).drew).d hd2 hl).grew ((Grew.refl _).alloc (.cells #[.string ⟨#[100, 97]⟩, .string ⟨#[100, 98]⟩, .string ⟨#[100, 99]⟩, .string ⟨#[100, 100]⟩] 9)))
          have HVL := Lib.hid (ownsRow_grew HV2.out ((Grew.refl _).alloc (.cells #[.string ⟨#[100, 97]⟩, .string ⟨#[100, 98]⟩, .string ⟨#[100, 99]⟩, .string ⟨#[100, 100]⟩] 9)))
          clear HS
          intro HS
          clear hK K
          try simp only [Act.put, lpa, lpb, lpc]
          first
           | refine sk 3 rfl (by kernel_rfl) rfl HS ?_
           | (refine tk (v := ?v1_22_) 3 rfl (by kernel_rfl) rfl ?y1_22_ HS ?_; case y1_22_ => (intro w' hSw; (try dsimp only at hSw); go_simp <;> (with_reducible rfl)))
          try simp only [Act.put, lpa, lpb, lpc]
          refine cl 4 rfl (by kernel_rfl) (fun K hK => ?_)
          rw [if_pos (by rfl)]
          go_simp
          refine hK.out _ _ ?s1_23_ ?r1_23_
          case s1_23_ => exact HS
          case r1_23_ =>
           clear HS
           intro HS
           clear hK K
           try simp only [Act.put, lpa, lpb, lpc]
           first
            | refine sk 7 rfl (by kernel_rfl) rfl HS ?_
            | (refine tk (v := ?v1_24_) 7 rfl (by kernel_rfl) rfl ?y1_24_ HS ?_; case y1_24_ => (intro w' hSw; (try dsimp only at hSw); go_simp <;> (with_reducible rfl)))
           try simp only [Act.put, lpa, lpb, lpc]
           refine cl 8 rfl (by kernel_rfl) (fun K hK => ?_)
           rw [if_pos (by rfl)]
           go_simp
           refine hK.out _ _ ?s1_25_ ?r1_25_
           case s1_25_ => exact HS.alloc _
           case r1_25_ =>
            clear HS
            intro HS
            clear hK K
            try simp only [Act.put, lpa, lpb, lpc]
            refine cl 9 rfl (by kernel_rfl) (fun K hK => ?_)
            rw [if_pos (by rfl)]
            obtain ⟨ps, ho, hall⟩ := hGL.out
            rw [HXL.out] at ho
            have HPS := Lib.hid (ownsRow_grew ho ((Grew.refl _).alloc (.cells #[.string nm, .slice ya ys.length yc] 151)))
            have HALL := Lib.hid (hall.mono fun x q h => (h.grew ((Grew.refl _).alloc (.cells #[.string nm, .slice ya ys.length yc] 151))).mono (Nat.le_refl _) ((Grew.refl _).alloc (.cells #[.string nm, .slice ya ys.length yc] 151)).size)
            have HY4 := Lib.hid (ownsRow_base (base' := w.heap.size) (ownsRow_grew HVL.out ((Grew.refl _).alloc (.cells #[.string nm, .slice ya ys.length yc] 151))) (by have := hdd.size; simp at this ⊢; omega))
            clear ho hall
            refine wp_append_own _ _ _ 57 rfl w.heap.size 151 i0 _ 2 40 Try.underlying57 hi hz0 hz1 hz2 rfl (by decide) _ _ _ rfl HPS.out ⟨_, 0, none⟩ 1 1 [.string nm, .slice ya ys.length yc] rfl rfl (lit_news (by simp)) (fun x hx => by simp at hx; rcases hx with rfl | rfl <;> rfl) (by unfold maxLen; omega) (by omega) (by have := HS.size; simp at this ⊢; omega) ?_
            intro v' w' hown' hgr2 _
            have HD4 := Lib.hid (HS.grown hgr2 (fun j h => (HPS.out.lt j h).1))
            have HGR := Lib.hid hgr2
            have HO4 := Lib.hid hown'
            clear hown' hgr2
            refine hK.out _ _ ?s1_26_ ?r1_26_
            case s1_26_ => exact HD4.out
            case r1_26_ =>
             clear HS
             intro HS
             clear hK K
             try simp only [Act.put, lpa, lpb, lpc]
             first
              | refine sk 10 rfl (by kernel_rfl) rfl HS ?_
              | (refine tk (v := ?v1_27_) 10 rfl (by kernel_rfl) rfl ?y1_27_ HS ?_; case y1_27_ => (intro w' hSw; (try dsimp only at hSw); go_simp <;> (with_reducible rfl)))
             try simp only [Act.put, lpa, lpb, lpc]
             refine wpAnyH_done (by kernel_rfl) ?_ _
             refine NoPanic.normal ?_
             clear HS
             go_wp2
             go_roundw
             case rel =>
               refine ⟨k + 1, xs ++ [⟨nm, ys⟩], by omega, by go_num, Lib.hid ⟨by simp [HXL.out], fun x hx => ?_⟩, Lib.hid ?_, HD4.out⟩
               · rw [List.mem_append] at hx; rcases hx with hx | hx
                 · exact hok.out.2 x hx
                 · simp at hx; subst hx; exact ⟨by have := HNS.out; simp only; omega, HYS.out⟩
               · refine GLr.snoc (lo2 := w.heap.size) (p := ⟨nm, .slice ya ys.length yc⟩) (by rw [HXL.out]; exact HPS.out) HALL.out ⟨rfl, ?_⟩ (Nat.le_refl _) ?_ HGR.out HGR.out.size
                 · exact own_of HY4.out
                 · rw [HXL.out]; simpa [P2.c] using HO4.out
             case measure => simp [intOf]; omega
    · go_wp2
      go_ret
      exact ⟨_, xs, rfl, ⟨by have := HXL.out; omega, hok.out.2⟩, hown.out.d hd1 hl, hd.trans hd1⟩
end Go.Proofs.Ytgekgokkbakcmaa
