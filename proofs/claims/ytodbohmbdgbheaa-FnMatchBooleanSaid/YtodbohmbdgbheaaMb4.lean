/- Texts Z3, Z4, Z6, M1, as far as they are needed. -/
import Derived.Test.YtodbohmbdgbheaaMb1
import Derived.Test.YtodbohmbdgbheaaMb2
import Derived.Test.YtodbohmbdgbheaaMb0
namespace Go.Proofs.Ytodbohmbdgbheaa
open Go.RowKit
set_option linter.unusedVariables false
theorem names_at (k : Nat) (h : k < 4) : ∃ x : ByteArray, (#[Value.string ⟨#[100, 97]⟩, .string ⟨#[100, 98]⟩, .string ⟨#[100, 99]⟩, .string ⟨#[100, 100]⟩] : Array Value)[k]? = some (.string x) ∧ x.size = 2 := by
  have : k = 0 ∨ k = 1 ∨ k = 2 ∨ k = 3 := by omega
  rcases this with rfl | rfl | rfl | rfl <;> exact ⟨_, rfl, rfl⟩
def ansOk (xs : List Rs) : Prop := xs.length ≤ 4 ∧ ∀ x, x ∈ xs → x.name.size ≤ 8 ∧ idsOk 8 x.ids
theorem Rs.O.tch (w w' : World) (lo hi a b : Nat) (x : Rs) (p : P2) (h : Rs.O w lo hi x p) (ht : Touch a b w w') (hd : hi ≤ a ∨ b ≤ lo) : Rs.O w' lo hi x p := h.touch ht hd
abbrev GLr (w : World) (base : Nat) (v : Value) (xs : List Rs) : Prop := GL P2.c 2 76 Rs.O w base v xs
theorem GLr.tch {w w' : World} {base a b : Nat} {v : Value} {xs : List Rs} (h : GLr w base v xs) (ht : Touch a b w w') (hd : b ≤ base) : GLr w' base v xs :=
  GL.touch Rs.O.tch (fun w lo hi hi' x p h k => h.mono (Nat.le_refl _) k) h ht hd
theorem GLr.d {g : Nat} {w w' : World} {base : Nat} {v : Value} {xs : List Rs} (h : GLr w base v xs) (hd : D g w w') (hg : g < base) : GLr w' base v xs := h.tch hd.2.1 hg
theorem GLr.rd {w : World} {base : Nat} {v : Value} {xs : List Rs} (h : GLr w base v xs) : RdRs w v xs := GL.rd (fun w lo hi x p h => h.rd) h
theorem GLr.base {w : World} {base base' : Nat} {v : Value} {xs : List Rs} (h : GLr w base v xs) (hb : base' ≤ base) : GLr w base' v xs := GL.base (fun w lo lo' hi x p h k => h.mono k (Nat.le_refl _)) h hb
theorem GLr.grew {w w' : World} {base : Nat} {v : Value} {xs : List Rs} (h : GLr w base v xs) (hg : Grew w w') : GLr w' base v xs := h.tch (hg.touch 0 0) (Nat.zero_le _)
theorem GLr.snoc {w w' : World} {base lo2 : Nat} {v v' : Value} {ds : List Rs} {d : Rs} {ps : List P2} {p : P2} (h1 : w.ownsRow base 76 2 v ds.length (rows P2.c ps)) (h2 : All2 (Rs.O w base w.heap.size) ds ps)
    (hp : Rs.O w lo2 w.heap.size d p) (hb : base ≤ lo2)
    (hown : w'.ownsRow base 76 2 v' (ds.length + 1) (rows P2.c ps ++ P2.c p)) (hg : w.grownBy w' v.ownBlock) (hs : w.heap.size ≤ w'.heap.size) : GLr w' base v' (ds ++ [d]) := by
  refine ⟨ps ++ [p], ?_, ?_⟩
  · rw [List.length_append, rows_append]; simpa [rows] using hown
  · refine All2.snoc (h2.mono fun x q hr => ?_) ?_
    · exact ⟨hr.1, (own_grown hr.2 h1 (by decide) hg).mono (Nat.le_refl _) hs⟩
    · exact ⟨hp.1, (own_grown hp.2 h1 (by decide) hg).mono hb hs⟩
set_option maxRecDepth 100000 in
set_option maxHeartbeats 2000000 in
theorem l14Answers (g : Nat) (w : World) (hc : Cur w g) :
    Calls Try.prog 18 #[.pointer (some ⟨g, 0, none⟩)] w fun e w' => ∃ v xs, e = .returned v ∧ ansOk xs ∧ GLr w' w.heap.size v xs ∧ D g w w' := by
  obtain ⟨i0, hi, hz0, hz1, hz2⟩ := info_parts Try.infoRs
  have hl := hc.lt
  go_enter Try.func18, Try.ntmps18
  go_wp2
  go_loopw [3, 4] (fun v i wr => ∃ (k : Nat) (xs : List Rs), k ≤ 4 ∧ i = .int .i64 k ∧ Hid (xs.length = k ∧ ∀ x, x ∈ xs → x.name.size ≤ 8 ∧ idsOk 8 x.ids) ∧ Hid (GLr wr w.heap.size v xs) ∧ D g w wr) (fun _ i _ => 8 - (intOf i).toNat)
  case atStart => exact ⟨0, [], by omega, rfl, Lib.hid ⟨rfl, by simp⟩, Lib.hid ⟨[], lit_own w _ 2, All2.nil⟩, (D.refl hc).alloc _⟩
  case round =>
    obtain ⟨k, xs, hk, rfl, hok, hown, hd⟩ := hrel
    have HXL := Lib.hid hok.out.1
    obtain ⟨va, vc, rfl⟩ : ∃ a c, u3 = .slice a k c := by have h := hown.out.slice; rw [HXL.out] at h; exact h
    go_wp2_with fail
    refine (l01Below g _ hd.cur 5 (by decide) (by decide)).mono ?_
    rintro e w1 ⟨b, rfl, hb, hd1⟩
    by_cases hlt : (k : Int) < b
    · obtain ⟨nm, hnm, hns⟩ := names_at k (by omega)
      have HNS := Lib.hid hns
      have hk4 : (k : Int) < 4 := by omega
      have hk0 : (0 : Int) ≤ k := by omega
      have hdd := hd.trans hd1
      have hG1 := Lib.hid (hown.out.d hd1 hl)
      have hcell : ∀ W : World, (W.alloc (.cells #[.string ⟨#[100, 97]⟩, .string ⟨#[100, 98]⟩, .string ⟨#[100, 99]⟩, .string ⟨#[100, 100]⟩] 9)).cell? ⟨W.heap.size, k, none⟩ = some (.string nm) := fun W => by rw [World.cell?_alloc_at (w := W) _ _ W.heap.size k rfl]; exact hnm
      clear hown hnm hns
      go_wp2_with fail
      refine wp_region_noPanic ?_
      refine wp_region_held_drew (S := (fun w' => D g w w')) (by kernel_rfl) ?h1_S ?h1_r
      case h1_S => exact hdd.drew
      case h1_r =>
       intro HS
       first | refine sk' 0 HS ?_ | refine tk' 0 HS ?_
       first | refine sk' 2 HS ?_ | refine tk' 2 HS ?_
       first | refine sk' 5 HS ?_ | refine tk' 5 HS ?_
       refine cl2 1 6 rfl rfl (by kernel_rfl) (fun K hK => ?a1_4_) (fun K hK => ?b1_4_)
       case a1_4_ =>
        rw [if_pos (by rfl)]
        go_simp
        refine hK.out _ _ ?s1_5_ ?r1_5_
        case s1_5_ => exact HS.alloc _
        case r1_5_ =>
         clear HS hK K; intro HS
         try simp only [Act.put, lpa, lpb, lpc]
         first | refine sk' 3 HS ?_ | refine tk' 3 HS ?_
         refine cl2 4 6 rfl rfl (by kernel_rfl) (fun K hK => ?a1_7_) (fun K hK => ?b1_7_)
         case a1_7_ =>
          rw [if_pos (by rfl)]
          go_simp
          refine hK.out _ _ ?s1_8_ ?r1_8_
          case s1_8_ => exact HS
          case r1_8_ =>
           clear HS hK K; intro HS
           try simp only [Act.put, lpa, lpb, lpc]
           refine cl' 6 fun K hK => ?_
           rw [if_pos (by rfl)]
           go_simp
           go_at_call 39
           refine (l14Ids g _ HS.cur).mono ?_
           rintro e w2 ⟨v2, ys, rfl, hys, hv2, hd2⟩
           obtain ⟨ya, yc, rfl⟩ := own_slice hv2
           have HV2 := Lib.hid hv2
           have HYS := Lib.hid hys
           clear hv2 hys
           refine hK.out _ _ ?s1_9_ ?r1_9_
           case s1_9_ => exact HS.trans hd2
           case r1_9_ =>
            have hGL := Lib.hid ((hG1.out.grew ((Grew.refl w1).alloc (.cells #[.string ⟨#[100, 97]⟩, .string ⟨#[100, 98]⟩, .string ⟨#[100, 99]⟩, .string ⟨#[100, 100]⟩] 9)).drew).d hd2 hl)
            have HVL := Lib.hid HV2.out
            clear HS hK K; intro HS
            try simp only [Act.put, lpa, lpb, lpc]
            first | refine sk' 7 HS ?_ | refine tk' 7 HS ?_
            refine cl' 8 fun K hK => ?_
            rw [if_pos (by rfl)]
            go_simp
            refine hK.out _ _ ?s1_11_ ?r1_11_
            case s1_11_ => exact HS.alloc _
            case r1_11_ =>
             clear HS hK K; intro HS
             try simp only [Act.put, lpa, lpb, lpc]
             refine cl' 9 fun K hK => ?_
             rw [if_pos (by rfl)]
             obtain ⟨ps, ho, hall⟩ := hGL.out
             rw [HXL.out] at ho
             have HPS := Lib.hid (ownsRow_grew ho ((Grew.refl _).alloc (.cells #[.string nm, .slice ya ys.length yc] 76)))
             have HALL := Lib.hid (hall.mono fun x q h => (h.grew ((Grew.refl _).alloc (.cells #[.string nm, .slice ya ys.length yc] 76))).mono (Nat.le_refl _) ((Grew.refl _).alloc (.cells #[.string nm, .slice ya ys.length yc] 76)).size)
             have HY4 := Lib.hid (ownsRow_base (base' := w.heap.size) (ownsRow_grew HVL.out ((Grew.refl _).alloc (.cells #[.string nm, .slice ya ys.length yc] 76))) (by have := hdd.size; simp at this ⊢; omega))
             clear ho hall
             refine wp_append_own _ _ _ 28 rfl w.heap.size 76 i0 _ 2 40 Try.underlying28 hi hz0 hz1 hz2 rfl (by decide) _ _ _ rfl HPS.out ⟨_, 0, none⟩ 1 1 [.string nm, .slice ya ys.length yc] rfl rfl (lit_news (by simp)) (fun x hx => by simp at hx; rcases hx with rfl | rfl <;> rfl) (by unfold maxLen; omega) (by omega) (by have := HS.size; simp at this ⊢; omega) ?_
             intro v' w' hown' hgr2 _
             have HD4 := Lib.hid (HS.grown hgr2 (fun j h => (HPS.out.lt j h).1))
             have HGR := Lib.hid hgr2
             have HO4 := Lib.hid hown'
             clear hown' hgr2
             refine hK.out _ _ ?s1_12_ ?r1_12_
             case s1_12_ => exact HD4.out
             case r1_12_ =>
              clear HS hK K; intro HS
              try simp only [Act.put, lpa, lpb, lpc]
              first | refine sk' 10 HS ?_ | refine tk' 10 HS ?_
              refine wpAnyH_done (by kernel_rfl) ?_ _
              refine NoPanic.normal ?_
              clear HS
              go_wp2
              go_roundw
              case rel =>
                refine ⟨k + 1, xs ++ [⟨nm, ys⟩], by omega, by go_num, Lib.hid ⟨by simp [HXL.out], fun x hx => ?_⟩, Lib.hid ?_, HD4.out⟩
                · rw [List.mem_append] at hx; rcases hx with hx | hx
                  · exact hok.out.2 x hx
                  · simp at hx; subst hx; exact ⟨by have := HNS.out; simp only; omega, HYS.out⟩
                · refine GLr.snoc (lo2 := w.heap.size) (p := ⟨nm, .slice ya ys.length yc⟩) (by rw [HXL.out]; exact HPS.out) HALL.out ⟨rfl, ?_⟩ (Nat.le_refl _) ?_ HGR.out HGR.out.size
                  · exact own_of HY4.out
                  · rw [HXL.out]; simpa [P2.c] using HO4.out
              case measure => simp [intOf]; omega
         case b1_7_ =>
          rw [if_pos (by rfl)]
          go_simp
          go_at_call 39
          refine (l14Ids g _ HS.cur).mono ?_
          rintro e w2 ⟨v2, ys, rfl, hys, hv2, hd2⟩
          obtain ⟨ya, yc, rfl⟩ := own_slice hv2
          have HV2 := Lib.hid hv2
          have HYS := Lib.hid hys
          clear hv2 hys
          have c2 := hd2.cell (p := ⟨w1.heap.size, k, none⟩) (u := .string nm) (hcell w1) (by have := hdd.size; simp; omega)
          refine hK.out _ _ ?s1_14_ ?r1_14_
          case s1_14_ => exact HS.trans hd2
          case r1_14_ =>
           have hGL := Lib.hid ((hG1.out.grew ((Grew.refl w1).alloc (.cells #[.string ⟨#[100, 97]⟩, .string ⟨#[100, 98]⟩, .string ⟨#[100, 99]⟩, .string ⟨#[100, 100]⟩] 9)).drew).d hd2 hl)
           have HVL := Lib.hid HV2.out
           clear HS hK K; intro HS
           try simp only [Act.put, lpa, lpb, lpc]
           refine cl' 4 fun K hK => ?_
           rw [if_pos (by rfl)]
           go_simp
           refine hK.out _ _ ?s1_15_ ?r1_15_
           case s1_15_ => exact HS
           case r1_15_ =>
            clear HS hK K; intro HS
            try simp only [Act.put, lpa, lpb, lpc]
            first | refine sk' 7 HS ?_ | refine tk' 7 HS ?_
            refine cl' 8 fun K hK => ?_
            rw [if_pos (by rfl)]
            go_simp
            refine hK.out _ _ ?s1_17_ ?r1_17_
            case s1_17_ => exact HS.alloc _
            case r1_17_ =>
             clear HS hK K; intro HS
             try simp only [Act.put, lpa, lpb, lpc]
             refine cl' 9 fun K hK => ?_
             rw [if_pos (by rfl)]
             obtain ⟨ps, ho, hall⟩ := hGL.out
             rw [HXL.out] at ho
             have HPS := Lib.hid (ownsRow_grew ho ((Grew.refl _).alloc (.cells #[.string nm, .slice ya ys.length yc] 76)))
             have HALL := Lib.hid (hall.mono fun x q h => (h.grew ((Grew.refl _).alloc (.cells #[.string nm, .slice ya ys.length yc] 76))).mono (Nat.le_refl _) ((Grew.refl _).alloc (.cells #[.string nm, .slice ya ys.length yc] 76)).size)
             have HY4 := Lib.hid (ownsRow_base (base' := w.heap.size) (ownsRow_grew HVL.out ((Grew.refl _).alloc (.cells #[.string nm, .slice ya ys.length yc] 76))) (by have := hdd.size; simp at this ⊢; omega))
             clear ho hall
             refine wp_append_own _ _ _ 28 rfl w.heap.size 76 i0 _ 2 40 Try.underlying28 hi hz0 hz1 hz2 rfl (by decide) _ _ _ rfl HPS.out ⟨_, 0, none⟩ 1 1 [.string nm, .slice ya ys.length yc] rfl rfl (lit_news (by simp)) (fun x hx => by simp at hx; rcases hx with rfl | rfl <;> rfl) (by unfold maxLen; omega) (by omega) (by have := HS.size; simp at this ⊢; omega) ?_
             intro v' w' hown' hgr2 _
             have HD4 := Lib.hid (HS.grown hgr2 (fun j h => (HPS.out.lt j h).1))
             have HGR := Lib.hid hgr2
             have HO4 := Lib.hid hown'
             clear hown' hgr2
             refine hK.out _ _ ?s1_18_ ?r1_18_
             case s1_18_ => exact HD4.out
             case r1_18_ =>
              clear HS hK K; intro HS
              try simp only [Act.put, lpa, lpb, lpc]
              first | refine sk' 10 HS ?_ | refine tk' 10 HS ?_
              refine wpAnyH_done (by kernel_rfl) ?_ _
              refine NoPanic.normal ?_
              clear HS
              go_wp2
              go_roundw
              case rel =>
                refine ⟨k + 1, xs ++ [⟨nm, ys⟩], by omega, by go_num, Lib.hid ⟨by simp [HXL.out], fun x hx => ?_⟩, Lib.hid ?_, HD4.out⟩
                · rw [List.mem_append] at hx; rcases hx with hx | hx
                  · exact hok.out.2 x hx
                  · simp at hx; subst hx; exact ⟨by have := HNS.out; simp only; omega, HYS.out⟩
                · refine GLr.snoc (lo2 := w.heap.size) (p := ⟨nm, .slice ya ys.length yc⟩) (by rw [HXL.out]; exact HPS.out) HALL.out ⟨rfl, ?_⟩ (Nat.le_refl _) ?_ HGR.out HGR.out.size
                  · exact own_of HY4.out
                  · rw [HXL.out]; simpa [P2.c] using HO4.out
              case measure => simp [intOf]; omega
       case b1_4_ =>
        rw [if_pos (by rfl)]
        go_simp
        go_at_call 39
        refine (l14Ids g _ HS.cur).mono ?_
        rintro e w2 ⟨v2, ys, rfl, hys, hv2, hd2⟩
        obtain ⟨ya, yc, rfl⟩ := own_slice hv2
        have HV2 := Lib.hid hv2
        have HYS := Lib.hid hys
        clear hv2 hys
        refine hK.out _ _ ?s1_20_ ?r1_20_
        case s1_20_ => exact HS.trans hd2
        case r1_20_ =>
         clear HS hK K; intro HS
         try simp only [Act.put, lpa, lpb, lpc]
         refine cl' 1 fun K hK => ?_
         rw [if_pos (by rfl)]
         go_simp
         refine hK.out _ _ ?s1_21_ ?r1_21_
         case s1_21_ => exact HS.alloc _
         case r1_21_ =>
          have hGL := Lib.hid (((hG1.out.grew (Grew.refl w1).drew).d hd2 hl).grew ((Grew.refl _).alloc (.cells #[.string ⟨#[100, 97]⟩, .string ⟨#[100, 98]⟩, .string ⟨#[100, 99]⟩, .string ⟨#[100, 100]⟩] 9)))
          have HVL := Lib.hid (ownsRow_grew HV2.out ((Grew.refl _).alloc (.cells #[.string ⟨#[100, 97]⟩, .string ⟨#[100, 98]⟩, .string ⟨#[100, 99]⟩, .string ⟨#[100, 100]⟩] 9)))
          clear HS hK K; intro HS
          try simp only [Act.put, lpa, lpb, lpc]
          first | refine sk' 3 HS ?_ | refine tk' 3 HS ?_
          refine cl' 4 fun K hK => ?_
          rw [if_pos (by rfl)]
          go_simp
          refine hK.out _ _ ?s1_23_ ?r1_23_
          case s1_23_ => exact HS
          case r1_23_ =>
           clear HS hK K; intro HS
           try simp only [Act.put, lpa, lpb, lpc]
           first | refine sk' 7 HS ?_ | refine tk' 7 HS ?_
           refine cl' 8 fun K hK => ?_
           rw [if_pos (by rfl)]
           go_simp
           refine hK.out _ _ ?s1_25_ ?r1_25_
           case s1_25_ => exact HS.alloc _
           case r1_25_ =>
            clear HS hK K; intro HS
            try simp only [Act.put, lpa, lpb, lpc]
            refine cl' 9 fun K hK => ?_
            rw [if_pos (by rfl)]
            obtain ⟨ps, ho, hall⟩ := hGL.out
            rw [HXL.out] at ho
            have HPS := Lib.hid (ownsRow_grew ho ((Grew.refl _).alloc (.cells #[.string nm, .slice ya ys.length yc] 76)))
            have HALL := Lib.hid (hall.mono fun x q h => (h.grew ((Grew.refl _).alloc (.cells #[.string nm, .slice ya ys.length yc] 76))).mono (Nat.le_refl _) ((Grew.refl _).alloc (.cells #[.string nm, .slice ya ys.length yc] 76)).size)
            have HY4 := Lib.hid (ownsRow_base (base' := w.heap.size) (ownsRow_grew HVL.out ((Grew.refl _).alloc (.cells #[.string nm, .slice ya ys.length yc] 76))) (by have := hdd.size; simp at this ⊢; omega))
            clear ho hall
            refine wp_append_own _ _ _ 28 rfl w.heap.size 76 i0 _ 2 40 Try.underlying28 hi hz0 hz1 hz2 rfl (by decide) _ _ _ rfl HPS.out ⟨_, 0, none⟩ 1 1 [.string nm, .slice ya ys.length yc] rfl rfl (lit_news (by simp)) (fun x hx => by simp at hx; rcases hx with rfl | rfl <;> rfl) (by unfold maxLen; omega) (by omega) (by have := HS.size; simp at this ⊢; omega) ?_
            intro v' w' hown' hgr2 _
            have HD4 := Lib.hid (HS.grown hgr2 (fun j h => (HPS.out.lt j h).1))
            have HGR := Lib.hid hgr2
            have HO4 := Lib.hid hown'
            clear hown' hgr2
            refine hK.out _ _ ?s1_26_ ?r1_26_
            case s1_26_ => exact HD4.out
            case r1_26_ =>
             clear HS hK K; intro HS
             try simp only [Act.put, lpa, lpb, lpc]
             first | refine sk' 10 HS ?_ | refine tk' 10 HS ?_
             refine wpAnyH_done (by kernel_rfl) ?_ _
             refine NoPanic.normal ?_
             clear HS
             go_wp2
             go_roundw
             case rel =>
               refine ⟨k + 1, xs ++ [⟨nm, ys⟩], by omega, by go_num, Lib.hid ⟨by simp [HXL.out], fun x hx => ?_⟩, Lib.hid ?_, HD4.out⟩
               · rw [List.mem_append] at hx; rcases hx with hx | hx
                 · exact hok.out.2 x hx
                 · simp at hx; subst hx; exact ⟨by have := HNS.out; simp only; omega, HYS.out⟩
               · refine GLr.snoc (lo2 := w.heap.size) (p := ⟨nm, .slice ya ys.length yc⟩) (by rw [HXL.out]; exact HPS.out) HALL.out ⟨rfl, ?_⟩ (Nat.le_refl _) ?_ HGR.out HGR.out.size
                 · exact own_of HY4.out
                 · rw [HXL.out]; simpa [P2.c] using HO4.out
             case measure => simp [intOf]; omega
    · go_wp2
      go_ret
      exact ⟨_, xs, rfl, ⟨by have := HXL.out; omega, hok.out.2⟩, hown.out.d hd1 hl, hd.trans hd1⟩
end Go.Proofs.Ytodbohmbdgbheaa
namespace Go.Proofs.Ytodbohmbdgbheaa
open Go.RowKit
set_option linter.unusedVariables false
def Cd (w : World) (v : Value) : Prop := ∃ (n : Nat) (bs : List Int), Rd w v 1 n (bs.map (Value.int .u8)) ∧ n ≤ 1048576
theorem Cd.grew {w w' : World} {v : Value} (h : Cd w v) (hg : Grew w w') : Cd w' v := by
  obtain ⟨n, bs, h1, h2⟩ := h
  exact ⟨n, bs, h1.grew hg, h2⟩
theorem D.out {g : Nat} {a b c : World} (h : Grew a b) (k : D g b c) (hl : a.heap.size ≤ g) : Grew a c := k.2.1.new h hl
theorem GLr.get {w : World} {base : Nat} {v : Value} {xs : List Rs} (h : GLr w base v xs) : ∃ a c ps, v = .slice a xs.length c ∧ w.ownsRow base 76 2 v xs.length (rows P2.c ps) ∧ All2 (Rs.O w base w.heap.size) xs ps := by
  obtain ⟨a, c, rfl⟩ := h.slice
  obtain ⟨ps, h1, h2⟩ := h
  exact ⟨a, c, ps, rfl, h1, h2⟩
end Go.Proofs.Ytodbohmbdgbheaa
namespace Go.Proofs.Ytodbohmbdgbheaa
open Go.RowKit
set_option linter.unusedVariables false
end Go.Proofs.Ytodbohmbdgbheaa
namespace Go.Proofs.Ytodbohmbdgbheaa
open Go.RowKit
set_option linter.unusedVariables false
def getA : List At → ByteArray → V
  | [], _ => V.z
  | x :: xs, s => if x.name.toList == s.toList then x.val else getA xs s
theorem getA_yes : ∀ {xs : List At} {s : ByteArray} {k : Nat} {x : At}, (∀ (j : Nat) y, j < k → xs[j]? = some y → (y.name.toList == s.toList) = false) → xs[k]? = some x → (x.name.toList == s.toList) = true → getA xs s = x.val
  | [], s, k, x, _, h, _ => by simp at h
  | y :: ys, s, 0, x, _, h, h2 => by
    simp at h; subst h; unfold getA; rw [h2]; rfl
  | y :: ys, s, k + 1, x, h1, h, h2 => by
    have h3 := h1 0 y (Nat.succ_pos k) rfl
    unfold getA; rw [h3]
    exact getA_yes (k := k) (fun j z hj hz => h1 (j + 1) z (Nat.succ_lt_succ hj) (by simpa using hz)) (by simpa using h) h2
theorem getA_no : ∀ {xs : List At} {s : ByteArray}, (∀ (j : Nat) y, j < xs.length → xs[j]? = some y → (y.name.toList == s.toList) = false) → getA xs s = V.z
  | [], s, _ => rfl
  | y :: ys, s, h1 => by
    have h3 := h1 0 y (by simp) rfl
    unfold getA; rw [h3]
    exact getA_no (fun j z hj hz => h1 (j + 1) z (by simpa using hj) (by simpa using hz))
theorem noa_snoc {xs : List At} {s : ByteArray} {k : Nat} {x : At} (h : ∀ (j : Nat) y, j < k → xs[j]? = some y → (y.name.toList == s.toList) = false) (hx : xs[k]? = some x) (hn : (x.name.toList == s.toList) = false) : ∀ (j : Nat) y, j < k + 1 → xs[j]? = some y → (y.name.toList == s.toList) = false := fun j y hj hy => by
  rcases Nat.lt_succ_iff_lt_or_eq.1 hj with h1 | rfl
  · exact h j y h1 hy
  · obtain rfl := Option.some.inj (hx.symm.trans hy); exact hn
set_option maxRecDepth 100000 in
set_option maxHeartbeats 1000000 in
theorem specGetAttr (f : Fl) (p : P5) (s : ByteArray) (w : World) (h : Fl.R w f p) (hx : f.small) :
    Calls Try.prog 49 #[p.v, .string s] w fun e w' => e = .returned (getA f.attrs s).v ∧ Grew w w' := by
  obtain ⟨p1, p2, p3, p4, p5⟩ := p
  obtain ⟨h1, h2, h3, h4, h5⟩ := h
  simp only at h5
  clear h1 h2 h3 h4
  obtain ⟨a, ca, rfl, hca, hra⟩ := h5
  unfold Fl.small at hx
  generalize hn : f.attrs.length = n at hx hca hra
  have HN := Lib.hid hn
  clear hn
  go_enter Try.func49, Try.ntmps49
  go_wp2
  have hg := ((Grew.refl w).alloc (.cells #[.int .i64 p1, .int .i64 p2, .bool p3, .int .i64 p4, .slice a n ca] 27)).alloc (.cells #[.int .i64 0, .int .i64 0, .string ⟨#[]⟩] 45)
  have d4 : ((w.alloc (.cells #[.int .i64 p1, .int .i64 p2, .bool p3, .int .i64 p4, .slice a n ca] 27)).alloc (.cells #[.int .i64 0, .int .i64 0, .string ⟨#[]⟩] 45)).cell? ⟨w.heap.size, 4, none⟩ = some (.slice a n ca) := grew_cell ((Grew.refl _).alloc _) (by simp)
  have r0 : ((w.alloc (.cells #[.int .i64 p1, .int .i64 p2, .bool p3, .int .i64 p4, .slice a n ca] 27)).alloc (.cells #[.int .i64 0, .int .i64 0, .string ⟨#[]⟩] 45)).cell? ⟨w.heap.size + 1, 0, none⟩ = some (.int .i64 0) := by simp [go_sem]
  have r1 : ((w.alloc (.cells #[.int .i64 p1, .int .i64 p2, .bool p3, .int .i64 p4, .slice a n ca] 27)).alloc (.cells #[.int .i64 0, .int .i64 0, .string ⟨#[]⟩] 45)).cell? ⟨w.heap.size + 1, 1, none⟩ = some (.int .i64 0) := by simp [go_sem]
  have r2 : ((w.alloc (.cells #[.int .i64 p1, .int .i64 p2, .bool p3, .int .i64 p4, .slice a n ca] 27)).alloc (.cells #[.int .i64 0, .int .i64 0, .string ⟨#[]⟩] 45)).cell? ⟨w.heap.size + 1, 2, none⟩ = some (.string ⟨#[]⟩) := by simp [go_sem]
  have z1 : ∀ j, ((w.alloc (.cells #[.int .i64 p1, .int .i64 p2, .bool p3, .int .i64 p4, .slice a n ca] 27)).alloc (.cells #[.int .i64 0, .int .i64 0, .string ⟨#[]⟩] 45)).frozen? ⟨w.heap.size + 1, j, none⟩ = false := fun j => by simp [go_sem]
  generalize (w.alloc (.cells #[.int .i64 p1, .int .i64 p2, .bool p3, .int .i64 p4, .slice a n ca] 27)).alloc (.cells #[.int .i64 0, .int .i64 0, .string ⟨#[]⟩] 45) = W at hg d4 r0 r1 r2 z1 ⊢
  go_loopw [5] (fun i wr => ∃ k : Nat, k ≤ n ∧ i = .int .i64 k ∧ Hid (∀ (j : Nat) y, j < k → f.attrs[j]? = some y → (y.name.toList == s.toList) = false) ∧ wr = W) (fun i _ => n - (intOf i).toNat)
  case atStart => exact ⟨0, Nat.zero_le _, rfl, Lib.hid (fun j y h => absurd h (Nat.not_lt_zero j)), rfl⟩
  case round =>
    obtain ⟨k, hk, rfl, hall, rfl⟩ := hrel
    by_cases hlt : k < n
    · obtain ⟨b1, o1, x, rfl, hxk, c0, c1, c2, c3⟩ := (hra.grew hg).getAt hlt
      have hcs : (x.name.toList == s.toList) = true ∨ (x.name.toList == s.toList) = false := by cases x.name.toList == s.toList <;> simp
      rcases hcs with hn | hn
      · have HY := Lib.hid (getA_yes hall.out hxk.out hn)
        go_wp2
        refine bodyPost_ret (v := x.val.v) (by simp [results, Try.results49, go_sem, r0, r1, r2]) rfl ⟨by rw [HY.out], ?_⟩
        repeat' (first | with_reducible exact hg | with_reducible refine Grew.setCell ?_ ?_ _ | (dsimp only; omega))
      · go_wp2
        go_roundw
        case rel => exact ⟨k + 1, by omega, by go_num, Lib.hid (noa_snoc hall.out hxk.out hn), by trivial⟩
        case measure => simp [intOf]; omega
    · obtain rfl : k = n := by omega
      have HY := Lib.hid (getA_no (fun j y h h2 => hall.out j y (by rw [← HN.out]; exact h) h2))
      go_wp2
      refine bodyPost_ret (v := V.z.v) (by simp [results, Try.results49, go_sem, r0, r1, r2, V.z]) rfl ⟨by rw [HY.out], ?_⟩
      repeat' (first | with_reducible exact hg | with_reducible refine Grew.setCell ?_ ?_ _ | (dsimp only; omega))
set_option maxRecDepth 100000 in
set_option maxHeartbeats 1000000 in
theorem implGetAttr (f : Fl) (p : P5) (s : ByteArray) (w : World) (h : Fl.R w f p) (hx : f.small) :
    Calls Try.prog 46 #[p.v, .string s] w fun e w' => e = .returned (getA f.attrs s).v ∧ Grew w w' := by
  obtain ⟨p1, p2, p3, p4, p5⟩ := p
  obtain ⟨h1, h2, h3, h4, h5⟩ := h
  simp only at h5
  clear h1 h2 h3 h4
  obtain ⟨a, ca, rfl, hca, hra⟩ := h5
  unfold Fl.small at hx
  generalize hn : f.attrs.length = n at hx hca hra
  have HN := Lib.hid hn
  clear hn
  go_enter Try.func46, Try.ntmps46
  go_wp2
  have hg := ((Grew.refl w).alloc (.cells #[.int .i64 p1, .int .i64 p2, .bool p3, .int .i64 p4, .slice a n ca] 27)).alloc (.cells #[.int .i64 0, .int .i64 0, .string ⟨#[]⟩] 45)
  have d4 : ((w.alloc (.cells #[.int .i64 p1, .int .i64 p2, .bool p3, .int .i64 p4, .slice a n ca] 27)).alloc (.cells #[.int .i64 0, .int .i64 0, .string ⟨#[]⟩] 45)).cell? ⟨w.heap.size, 4, none⟩ = some (.slice a n ca) := grew_cell ((Grew.refl _).alloc _) (by simp)
  have r0 : ((w.alloc (.cells #[.int .i64 p1, .int .i64 p2, .bool p3, .int .i64 p4, .slice a n ca] 27)).alloc (.cells #[.int .i64 0, .int .i64 0, .string ⟨#[]⟩] 45)).cell? ⟨w.heap.size + 1, 0, none⟩ = some (.int .i64 0) := by simp [go_sem]
  have r1 : ((w.alloc (.cells #[.int .i64 p1, .int .i64 p2, .bool p3, .int .i64 p4, .slice a n ca] 27)).alloc (.cells #[.int .i64 0, .int .i64 0, .string ⟨#[]⟩] 45)).cell? ⟨w.heap.size + 1, 1, none⟩ = some (.int .i64 0) := by simp [go_sem]
  have r2 : ((w.alloc (.cells #[.int .i64 p1, .int .i64 p2, .bool p3, .int .i64 p4, .slice a n ca] 27)).alloc (.cells #[.int .i64 0, .int .i64 0, .string ⟨#[]⟩] 45)).cell? ⟨w.heap.size + 1, 2, none⟩ = some (.string ⟨#[]⟩) := by simp [go_sem]
  have z1 : ∀ j, ((w.alloc (.cells #[.int .i64 p1, .int .i64 p2, .bool p3, .int .i64 p4, .slice a n ca] 27)).alloc (.cells #[.int .i64 0, .int .i64 0, .string ⟨#[]⟩] 45)).frozen? ⟨w.heap.size + 1, j, none⟩ = false := fun j => by simp [go_sem]
  generalize (w.alloc (.cells #[.int .i64 p1, .int .i64 p2, .bool p3, .int .i64 p4, .slice a n ca] 27)).alloc (.cells #[.int .i64 0, .int .i64 0, .string ⟨#[]⟩] 45) = W at hg d4 r0 r1 r2 z1 ⊢
  go_loopw [10] (fun i wr => ∃ k : Nat, k ≤ n ∧ i = .int .i64 k ∧ Hid (∀ (j : Nat) y, j < k → f.attrs[j]? = some y → (y.name.toList == s.toList) = false) ∧ Grew W wr) (fun i _ => n - (intOf i).toNat)
  case atStart => exact ⟨0, Nat.zero_le _, rfl, Lib.hid (fun j y h => absurd h (Nat.not_lt_zero j)), Grew.refl _⟩
  case round =>
    obtain ⟨k, hk, rfl, hall, hbel⟩ := hrel
    have hgw := hg.trans hbel
    replace z1 : ∀ j, wr.frozen? ⟨w.heap.size + 1, j, none⟩ = false := fun j => grew_frozen (a := ⟨w.heap.size + 1, j, none⟩) hbel (show w.heap.size + 1 < W.heap.size from lt_of_cell r0) (z1 j)
    replace r0 := grew_cell hbel r0
    replace r1 := grew_cell hbel r1
    replace r2 := grew_cell hbel r2
    by_cases hlt : k < n
    · obtain ⟨b1, o1, x, rfl, hxk, c0, c1, c2, c3⟩ := (hra.grew hgw).getAt hlt
      have hcs : (x.name.toList == s.toList) = true ∨ (x.name.toList == s.toList) = false := by cases x.name.toList == s.toList <;> simp
      have hal := (Grew.refl wr).alloc (.cells #[.string x.name, .int .i64 x.val.kind, .int .i64 x.val.int, .string x.val.str] 71)
      have q0 := grew_cell hal r0
      have q1 := grew_cell hal r1
      have q2 := grew_cell hal r2
      have zq := fun j => grew_frozen (a := ⟨w.heap.size + 1, j, none⟩) hal (show w.heap.size + 1 < wr.heap.size from lt_of_cell r0) (z1 j)
      have hgal := hgw.alloc (.cells #[.string x.name, .int .i64 x.val.kind, .int .i64 x.val.int, .string x.val.str] 71)
      rcases hcs with hn | hn
      · have HY := Lib.hid (getA_yes hall.out hxk.out hn)
        go_wp2
        refine bodyPost_ret (v := x.val.v) (by simp [results, Try.results46, go_sem, q0, q1, q2]) rfl ⟨by rw [HY.out], ?_⟩
        repeat' (first | with_reducible exact hgw | with_reducible exact hgal | with_reducible refine Grew.alloc ?_ _ | with_reducible refine Grew.setCell ?_ ?_ _ | (dsimp only; omega))
      · go_wp2
        go_roundw
        case rel => exact ⟨k + 1, by omega, by go_num, Lib.hid (noa_snoc hall.out hxk.out hn), hbel.alloc _⟩
        case measure => simp [intOf]; omega
    · obtain rfl : k = n := by omega
      have HY := Lib.hid (getA_no (fun j y h h2 => hall.out j y (by rw [← HN.out]; exact h) h2))
      go_wp2
      refine bodyPost_ret (v := V.z.v) (by simp [results, Try.results46, go_sem, r0, r1, r2, V.z]) rfl ⟨by rw [HY.out], ?_⟩
      repeat' (first | with_reducible exact hgw | with_reducible refine Grew.setCell ?_ ?_ _ | (dsimp only; omega))
set_option maxRecDepth 100000 in
set_option maxHeartbeats 1000000 in
theorem implIntAttr (f : Fl) (p : P5) (s : ByteArray) (w : World) (h : Fl.R w f p) (hx : f.small) :
    Calls Try.prog 47 #[p.v, .string s] w fun e w' => e = .returned (.tuple #[.int .i64 (if (getA f.attrs s).kind = 1 then (getA f.attrs s).int else 0), .bool ((getA f.attrs s).kind == 1)]) ∧ Grew w w' := by
  obtain ⟨p1, p2, p3, p4, p5⟩ := p
  obtain ⟨v, hv⟩ : ∃ v, getA f.attrs s = v := ⟨_, rfl⟩
  have HV := Lib.hid hv
  rw [hv]
  obtain ⟨ti, hti⟩ : ∃ t, (if v.kind = 1 then v.int else 0) = t := ⟨_, rfl⟩
  obtain ⟨tb, htb⟩ : ∃ t, (v.kind == 1) = t := ⟨_, rfl⟩
  rw [hti, htb]
  have hg := (Grew.refl w).alloc (.cells #[.int .i64 p1, .int .i64 p2, .bool p3, .int .i64 p4, p5] 27)
  have HF := Lib.hid (h.grew hg)
  clear hv h
  obtain ⟨vk, vi, vs⟩ := v
  simp only at hti htb
  by_cases hk : vk = 1
  · subst hk
    have e1 : ti = vi := by rw [← hti]; rfl
    have e2 : tb = true := by rw [← htb]; rfl
    subst e1; subst e2
    clear hti htb
    go_enter Try.func47, Try.ntmps47
    go_wp2_with fail
    refine (implGetAttr f ⟨p1, p2, p3, p4, p5⟩ s _ HF.out hx).mono ?_
    rintro e w1 ⟨he, hb⟩
    rw [HV.out] at he
    subst he
    go_wp2
    go_ret2
    exact ⟨rfl, (hg.trans hb).alloc _⟩
  · have hq : (vk == 1) = false := by simp [hk]
    have e1 : ti = 0 := by rw [← hti, if_neg hk]
    have e2 : tb = false := by rw [← htb]; exact hq
    subst e1; subst e2
    clear hti htb hk
    go_enter Try.func47, Try.ntmps47
    go_wp2_with fail
    refine (implGetAttr f ⟨p1, p2, p3, p4, p5⟩ s _ HF.out hx).mono ?_
    rintro e w1 ⟨he, hb⟩
    rw [HV.out] at he
    subst he
    go_wp2
    go_ret2
    exact ⟨rfl, (hg.trans hb).alloc _⟩
end Go.Proofs.Ytodbohmbdgbheaa
