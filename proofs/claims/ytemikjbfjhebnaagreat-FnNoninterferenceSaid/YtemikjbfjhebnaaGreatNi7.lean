/- Texts Z7, Z8, K5, as far as they are needed. -/
import Derived.Test.YtemikjbfjhebnaaGreatNi6
import Derived.Test.YtemikjbfjhebnaaGreatNi1
namespace Go.Proofs.YtemikjbfjhebnaaGreat
open Go.RowKit
set_option linter.unusedVariables false
def dirsOk (n : Nat) (xs : List Dr) : Prop := xs.length ≤ n ∧ ∀ x, x ∈ xs → x.name.size ≤ 8 ∧ qOk 8 x.query
theorem Dr.O.tch (w w' : World) (lo hi a b : Nat) (x : Dr) (p : P2) (h : Dr.O w lo hi x p) (ht : Touch a b w w') (hd : hi ≤ a ∨ b ≤ lo) : Dr.O w' lo hi x p := h.touch ht hd
abbrev GLd (w : World) (base : Nat) (v : Value) (xs : List Dr) : Prop := GL P2.c 2 39 Dr.O w base v xs
theorem GLd.tch {w w' : World} {base a b : Nat} {v : Value} {xs : List Dr} (h : GLd w base v xs) (ht : Touch a b w w') (hd : b ≤ base) : GLd w' base v xs :=
  GL.touch Dr.O.tch (fun w lo hi hi' x p h k => h.mono (Nat.le_refl _) k) h ht hd
theorem GLd.d {g : Nat} {w w' : World} {base : Nat} {v : Value} {xs : List Dr} (h : GLd w base v xs) (hd : D g w w') (hg : g < base) : GLd w' base v xs := h.tch hd.2.1 hg
theorem GLd.rd {w : World} {base : Nat} {v : Value} {xs : List Dr} (h : GLd w base v xs) : RdDs w v xs := GL.rd (fun w lo hi x p h => h.rd) h
theorem GLd.base {w : World} {base base' : Nat} {v : Value} {xs : List Dr} (h : GLd w base v xs) (hb : base' ≤ base) : GLd w base' v xs := GL.base (fun w lo lo' hi x p h k => h.mono k (Nat.le_refl _)) h hb
theorem GLd.grew {w w' : World} {base : Nat} {v : Value} {xs : List Dr} (h : GLd w base v xs) (hg : Grew w w') : GLd w' base v xs := h.tch (hg.touch 0 0) (Nat.zero_le _)
theorem GLd.snoc {w w' : World} {base lo2 : Nat} {v v' : Value} {ds : List Dr} {d : Dr} {ps : List P2} {p : P2} (h1 : w.ownsRow base 39 2 v ds.length (rows P2.c ps)) (h2 : All2 (Dr.O w base w.heap.size) ds ps)
    (hp : Dr.O w lo2 w.heap.size d p) (hb : base ≤ lo2)
    (hown : w'.ownsRow base 39 2 v' (ds.length + 1) (rows P2.c ps ++ P2.c p)) (hg : w.grownBy w' v.ownBlock) (hs : w.heap.size ≤ w'.heap.size) : GLd w' base v' (ds ++ [d]) := by
  refine ⟨ps ++ [p], ?_, ?_⟩
  · rw [List.length_append, rows_append]; simpa [rows] using hown
  · refine All2.snoc (h2.mono fun x q hr => ?_) ?_
    · exact ⟨hr.1, (own_grown hr.2 h1 (by decide) hg).mono (Nat.le_refl _) hs⟩
    · exact ⟨hp.1, (own_grown hp.2 h1 (by decide) hg).mono hb hs⟩
set_option maxRecDepth 100000 in
set_option maxHeartbeats 2000000 in
theorem l11Dirs (g : Nat) (w : World) (hc : Cur w g) :
    Calls Tryz.prog 32 #[.pointer (some ⟨g, 0, none⟩)] w fun e w' => ∃ v, e = .returned v ∧ ∃ xs, 0 < xs.length ∧ dirsOk 4 xs ∧ GLd w' w.heap.size v xs ∧ D g w w' := by
  obtain ⟨i0, hi, hz0, hz1, hz2⟩ := info_parts Tryz.infoDr
  have hl := hc.lt
  go_enter Tryz.func32, Tryz.ntmps32
  go_wp2
  go_loopw [3, 4] (fun v i wr => ∃ (k : Nat) (xs : List Dr), k ≤ 4 ∧ i = .int .i64 k ∧ Hid (xs.length = k ∧ ∀ x, x ∈ xs → x.name.size ≤ 8 ∧ qOk 8 x.query) ∧ Hid (GLd wr w.heap.size v xs) ∧ D g w wr) (fun _ i _ => 8 - (intOf i).toNat)
  case atStart => exact ⟨0, [], by omega, rfl, Lib.hid ⟨rfl, by simp⟩, Lib.hid ⟨[], lit_own w _ 2, All2.nil⟩, (D.refl hc).alloc _⟩
  case round =>
    obtain ⟨k, xs, hk, rfl, hok, hown, hd⟩ := hrel
    have HXL := Lib.hid hok.out.1
    obtain ⟨va, vc, rfl⟩ : ∃ a c, u3 = .slice a k c := by have h := hown.out.slice; rw [HXL.out] at h; exact h
    go_wp2_with fail
    refine (l01Below g _ hd.cur 4 (by decide) (by decide)).mono ?_
    rintro e w1 ⟨b, rfl, hb, hd1⟩
    by_cases hlt : (k : Int) < 1 + b
    · obtain ⟨nm, hnm, hns⟩ := names_at k (by omega)
      have HNS := Lib.hid hns
      have hk4 : (k : Int) < 4 := by omega
      have hk0 : (0 : Int) ≤ k := by omega
      have hdd := hd.trans hd1
      have hG1 := Lib.hid (hown.out.d hd1 hl)
      have hcell : ∀ W : World, (W.alloc (.cells #[.string ⟨#[100, 97]⟩, .string ⟨#[100, 98]⟩, .string ⟨#[100, 99]⟩, .string ⟨#[100, 100]⟩] 9)).cell? ⟨W.heap.size, k, none⟩ = some (.string nm) := fun W => by rw [World.cell?_alloc_at (w := W) _ _ W.heap.size k rfl]; exact hnm
      clear hown hnm hns
      go_wp2_with fail
      refine wp_region_noPanic ?_
      refine wp_region_held_drew (S := (fun w' => D g w w')) (by kernel_rfl) ?h1_S ?h1_r
      case h1_S => exact hdd.drew
      case h1_r =>
       intro HS
       first | refine sk' 0 HS ?_ | refine tk' 0 HS ?_
       first | refine sk' 2 HS ?_ | refine tk' 2 HS ?_
       first | refine sk' 5 HS ?_ | refine tk' 5 HS ?_
       refine cl2 1 6 rfl rfl (by kernel_rfl) (fun K hK => ?a1_4_) (fun K hK => ?b1_4_)
       case a1_4_ =>
        rw [if_pos (by rfl)]
        go_simp
        refine hK.out _ _ ?s1_5_ ?r1_5_
        case s1_5_ => exact HS.alloc _
        case r1_5_ =>
         clear HS hK K; intro HS
         try simp only [Act.put, lpa, lpb, lpc]
         first | refine sk' 3 HS ?_ | refine tk' 3 HS ?_
         refine cl2 4 6 rfl rfl (by kernel_rfl) (fun K hK => ?a1_7_) (fun K hK => ?b1_7_)
         case a1_7_ =>
          rw [if_pos (by rfl)]
          go_simp
          refine hK.out _ _ ?s1_8_ ?r1_8_
          case s1_8_ => exact HS
          case r1_8_ =>
           clear HS hK K; intro HS
           try simp only [Act.put, lpa, lpb, lpc]
           refine cl' 6 fun K hK => ?_
           rw [if_pos (by rfl)]
           go_simp
           go_at_call 61
           refine (l09Question g _ HS.cur).mono ?_
           rintro e w2 ⟨v2, rfl, ys, hv2, _, hys7, hd2⟩
           have hys := hys7.mono (show 7 ≤ 8 by decide)
           obtain ⟨ya, yc, rfl⟩ := own_slice hv2
           have HV2 := Lib.hid hv2
           have HYS := Lib.hid hys
           clear hv2 hys hys7
           refine hK.out _ _ ?s1_9_ ?r1_9_
           case s1_9_ => exact HS.trans hd2
           case r1_9_ =>
            have hGL := Lib.hid ((hG1.out.grew ((Grew.refl w1).alloc (.cells #[.string ⟨#[100, 97]⟩, .string ⟨#[100, 98]⟩, .string ⟨#[100, 99]⟩, .string ⟨#[100, 100]⟩] 9)).drew).d hd2 hl)
            have HVL := Lib.hid HV2.out
            clear HS hK K; intro HS
            try simp only [Act.put, lpa, lpb, lpc]
            first | refine sk' 7 HS ?_ | refine tk' 7 HS ?_
            refine cl' 8 fun K hK => ?_
            rw [if_pos (by rfl)]
            go_simp
            refine hK.out _ _ ?s1_11_ ?r1_11_
            case s1_11_ => exact HS.alloc _
            case r1_11_ =>
             clear HS hK K; intro HS
             try simp only [Act.put, lpa, lpb, lpc]
             refine cl' 9 fun K hK => ?_
             rw [if_pos (by rfl)]
             obtain ⟨ps, ho, hall⟩ := hGL.out
             rw [HXL.out] at ho
             have HPS := Lib.hid (ownsRow_grew ho ((Grew.refl _).alloc (.cells #[.string nm, .slice ya ys.length yc] 39)))
             have HALL := Lib.hid (hall.mono fun x q h => (h.grew ((Grew.refl _).alloc (.cells #[.string nm, .slice ya ys.length yc] 39))).mono (Nat.le_refl _) ((Grew.refl _).alloc (.cells #[.string nm, .slice ya ys.length yc] 39)).size)
             have HY4 := Lib.hid (ownsRow_base (base' := w.heap.size) (ownsRow_grew HVL.out ((Grew.refl _).alloc (.cells #[.string nm, .slice ya ys.length yc] 39))) (by have := hdd.size; simp at this ⊢; omega))
             clear ho hall
             refine wp_append_own _ _ _ 28 rfl w.heap.size 39 i0 _ 2 40 Tryz.underlying28 hi hz0 hz1 hz2 rfl (by decide) _ _ _ rfl HPS.out ⟨_, 0, none⟩ 1 1 [.string nm, .slice ya ys.length yc] rfl rfl (lit_news (by simp)) (fun x hx => by simp at hx; rcases hx with rfl | rfl <;> rfl) (by unfold maxLen; omega) (by omega) (by have := HS.size; simp at this ⊢; omega) ?_
             intro v' w' hown' hgr2 _
             have HD4 := Lib.hid (HS.grown hgr2 (fun j h => (HPS.out.lt j h).1))
             have HGR := Lib.hid hgr2
             have HO4 := Lib.hid hown'
             clear hown' hgr2
             refine hK.out _ _ ?s1_12_ ?r1_12_
             case s1_12_ => exact HD4.out
             case r1_12_ =>
              clear HS hK K; intro HS
              try simp only [Act.put, lpa, lpb, lpc]
              first | refine sk' 10 HS ?_ | refine tk' 10 HS ?_
              refine wpAnyH_done (by kernel_rfl) ?_ _
              refine NoPanic.normal ?_
              clear HS
              go_wp2
              go_roundw
              case rel =>
                refine ⟨k + 1, xs ++ [⟨nm, ys⟩], by omega, by go_num, Lib.hid ⟨by simp [HXL.out], fun x hx => ?_⟩, Lib.hid ?_, HD4.out⟩
                · rw [List.mem_append] at hx; rcases hx with hx | hx
                  · exact hok.out.2 x hx
                  · simp at hx; subst hx; exact ⟨by have := HNS.out; simp only; omega, HYS.out⟩
                · refine GLd.snoc (lo2 := w.heap.size) (p := ⟨nm, .slice ya ys.length yc⟩) (by rw [HXL.out]; exact HPS.out) HALL.out ⟨rfl, ?_⟩ (Nat.le_refl _) ?_ HGR.out HGR.out.size
                  · exact own_of HY4.out
                  · rw [HXL.out]; simpa [P2.c] using HO4.out
              case measure => simp [intOf]; omega
         case b1_7_ =>
          rw [if_pos (by rfl)]
          go_simp
          go_at_call 61
          refine (l09Question g _ HS.cur).mono ?_
          rintro e w2 ⟨v2, rfl, ys, hv2, _, hys7, hd2⟩
          have hys := hys7.mono (show 7 ≤ 8 by decide)
          obtain ⟨ya, yc, rfl⟩ := own_slice hv2
          have HV2 := Lib.hid hv2
          have HYS := Lib.hid hys
          clear hv2 hys hys7
          have c2 := hd2.cell (p := ⟨w1.heap.size, k, none⟩) (u := .string nm) (hcell w1) (by have := hdd.size; simp; omega)
          refine hK.out _ _ ?s1_14_ ?r1_14_
          case s1_14_ => exact HS.trans hd2
          case r1_14_ =>
           have hGL := Lib.hid ((hG1.out.grew ((Grew.refl w1).alloc (.cells #[.string ⟨#[100, 97]⟩, .string ⟨#[100, 98]⟩, .string ⟨#[100, 99]⟩, .string ⟨#[100, 100]⟩] 9)).drew).d hd2 hl)
           have HVL := Lib.hid HV2.out
           clear HS hK K; intro HS
           try simp only [Act.put, lpa, lpb, lpc]
           refine cl' 4 fun K hK => ?_
           rw [if_pos (by rfl)]
           go_simp
           refine hK.out _ _ ?s1_15_ ?r1_15_
           case s1_15_ => exact HS
           case r1_15_ =>
            clear HS hK K; intro HS
            try simp only [Act.put, lpa, lpb, lpc]
            first | refine sk' 7 HS ?_ | refine tk' 7 HS ?_
            refine cl' 8 fun K hK => ?_
            rw [if_pos (by rfl)]
            go_simp
            refine hK.out _ _ ?s1_17_ ?r1_17_
            case s1_17_ => exact HS.alloc _
            case r1_17_ =>
             clear HS hK K; intro HS
             try simp only [Act.put, lpa, lpb, lpc]
             refine cl' 9 fun K hK => ?_
             rw [if_pos (by rfl)]
             obtain ⟨ps, ho, hall⟩ := hGL.out
             rw [HXL.out] at ho
             have HPS := Lib.hid (ownsRow_grew ho ((Grew.refl _).alloc (.cells #[.string nm, .slice ya ys.length yc] 39)))
             have HALL := Lib.hid (hall.mono fun x q h => (h.grew ((Grew.refl _).alloc (.cells #[.string nm, .slice ya ys.length yc] 39))).mono (Nat.le_refl _) ((Grew.refl _).alloc (.cells #[.string nm, .slice ya ys.length yc] 39)).size)
             have HY4 := Lib.hid (ownsRow_base (base' := w.heap.size) (ownsRow_grew HVL.out ((Grew.refl _).alloc (.cells #[.string nm, .slice ya ys.length yc] 39))) (by have := hdd.size; simp at this ⊢; omega))
             clear ho hall
             refine wp_append_own _ _ _ 28 rfl w.heap.size 39 i0 _ 2 40 Tryz.underlying28 hi hz0 hz1 hz2 rfl (by decide) _ _ _ rfl HPS.out ⟨_, 0, none⟩ 1 1 [.string nm, .slice ya ys.length yc] rfl rfl (lit_news (by simp)) (fun x hx => by simp at hx; rcases hx with rfl | rfl <;> rfl) (by unfold maxLen; omega) (by omega) (by have := HS.size; simp at this ⊢; omega) ?_
             intro v' w' hown' hgr2 _
             have HD4 := Lib.hid (HS.grown hgr2 (fun j h => (HPS.out.lt j h).1))
             have HGR := Lib.hid hgr2
             have HO4 := Lib.hid hown'
             clear hown' hgr2
             refine hK.out _ _ ?s1_18_ ?r1_18_
             case s1_18_ => exact HD4.out
             case r1_18_ =>
              clear HS hK K; intro HS
              try simp only [Act.put, lpa, lpb, lpc]
              first | refine sk' 10 HS ?_ | refine tk' 10 HS ?_
              refine wpAnyH_done (by kernel_rfl) ?_ _
              refine NoPanic.normal ?_
              clear HS
              go_wp2
              go_roundw
              case rel =>
                refine ⟨k + 1, xs ++ [⟨nm, ys⟩], by omega, by go_num, Lib.hid ⟨by simp [HXL.out], fun x hx => ?_⟩, Lib.hid ?_, HD4.out⟩
                · rw [List.mem_append] at hx; rcases hx with hx | hx
                  · exact hok.out.2 x hx
                  · simp at hx; subst hx; exact ⟨by have := HNS.out; simp only; omega, HYS.out⟩
                · refine GLd.snoc (lo2 := w.heap.size) (p := ⟨nm, .slice ya ys.length yc⟩) (by rw [HXL.out]; exact HPS.out) HALL.out ⟨rfl, ?_⟩ (Nat.le_refl _) ?_ HGR.out HGR.out.size
                  · exact own_of HY4.out
                  · rw [HXL.out]; simpa [P2.c] using HO4.out
              case measure => simp [intOf]; omega
       case b1_4_ =>
        rw [if_pos (by rfl)]
        go_simp
        go_at_call 61
        refine (l09Question g _ HS.cur).mono ?_
        rintro e w2 ⟨v2, rfl, ys, hv2, _, hys7, hd2⟩
        have hys := hys7.mono (show 7 ≤ 8 by decide)
        obtain ⟨ya, yc, rfl⟩ := own_slice hv2
        have HV2 := Lib.hid hv2
        have HYS := Lib.hid hys
        clear hv2 hys hys7
        refine hK.out _ _ ?s1_20_ ?r1_20_
        case s1_20_ => exact HS.trans hd2
        case r1_20_ =>
         clear HS hK K; intro HS
         try simp only [Act.put, lpa, lpb, lpc]
         refine cl' 1 fun K hK => ?_
         rw [if_pos (by rfl)]
         go_simp
         refine hK.out _ _ ?s1_21_ ?r1_21_
         case s1_21_ => exact HS.alloc _
         case r1_21_ =>
          have hGL := Lib.hid (((hG1.out.grew (Grew.refl w1).drew).d hd2 hl).grew ((Grew.refl _).alloc (.cells #[.string ⟨#[100, 97]⟩, .string ⟨#[100, 98]⟩, .string ⟨#[100, 99]⟩, .string ⟨#[100, 100]⟩] 9)))
          have HVL := Lib.hid (ownsRow_grew HV2.out ((Grew.refl _).alloc (.cells #[.string ⟨#[100, 97]⟩, .string ⟨#[100, 98]⟩, .string ⟨#[100, 99]⟩, .string ⟨#[100, 100]⟩] 9)))
          clear HS hK K; intro HS
          try simp only [Act.put, lpa, lpb, lpc]
          first | refine sk' 3 HS ?_ | refine tk' 3 HS ?_
          refine cl' 4 fun K hK => ?_
          rw [if_pos (by rfl)]
          go_simp
          refine hK.out _ _ ?s1_23_ ?r1_23_
          case s1_23_ => exact HS
          case r1_23_ =>
           clear HS hK K; intro HS
           try simp only [Act.put, lpa, lpb, lpc]
           first | refine sk' 7 HS ?_ | refine tk' 7 HS ?_
           refine cl' 8 fun K hK => ?_
           rw [if_pos (by rfl)]
           go_simp
           refine hK.out _ _ ?s1_25_ ?r1_25_
           case s1_25_ => exact HS.alloc _
           case r1_25_ =>
            clear HS hK K; intro HS
            try simp only [Act.put, lpa, lpb, lpc]
            refine cl' 9 fun K hK => ?_
            rw [if_pos (by rfl)]
            obtain ⟨ps, ho, hall⟩ := hGL.out
            rw [HXL.out] at ho
            have HPS := Lib.hid (ownsRow_grew ho ((Grew.refl _).alloc (.cells #[.string nm, .slice ya ys.length yc] 39)))
            have HALL := Lib.hid (hall.mono fun x q h => (h.grew ((Grew.refl _).alloc (.cells #[.string nm, .slice ya ys.length yc] 39))).mono (Nat.le_refl _) ((Grew.refl _).alloc (.cells #[.string nm, .slice ya ys.length yc] 39)).size)
            have HY4 := Lib.hid (ownsRow_base (base' := w.heap.size) (ownsRow_grew HVL.out ((Grew.refl _).alloc (.cells #[.string nm, .slice ya ys.length yc] 39))) (by have := hdd.size; simp at this ⊢; omega))
            clear ho hall
            refine wp_append_own _ _ _ 28 rfl w.heap.size 39 i0 _ 2 40 Tryz.underlying28 hi hz0 hz1 hz2 rfl (by decide) _ _ _ rfl HPS.out ⟨_, 0, none⟩ 1 1 [.string nm, .slice ya ys.length yc] rfl rfl (lit_news (by simp)) (fun x hx => by simp at hx; rcases hx with rfl | rfl <;> rfl) (by unfold maxLen; omega) (by omega) (by have := HS.size; simp at this ⊢; omega) ?_
            intro v' w' hown' hgr2 _
            have HD4 := Lib.hid (HS.grown hgr2 (fun j h => (HPS.out.lt j h).1))
            have HGR := Lib.hid hgr2
            have HO4 := Lib.hid hown'
            clear hown' hgr2
            refine hK.out _ _ ?s1_26_ ?r1_26_
            case s1_26_ => exact HD4.out
            case r1_26_ =>
             clear HS hK K; intro HS
             try simp only [Act.put, lpa, lpb, lpc]
             first | refine sk' 10 HS ?_ | refine tk' 10 HS ?_
             refine wpAnyH_done (by kernel_rfl) ?_ _
             refine NoPanic.normal ?_
             clear HS
             go_wp2
             go_roundw
             case rel =>
               refine ⟨k + 1, xs ++ [⟨nm, ys⟩], by omega, by go_num, Lib.hid ⟨by simp [HXL.out], fun x hx => ?_⟩, Lib.hid ?_, HD4.out⟩
               · rw [List.mem_append] at hx; rcases hx with hx | hx
                 · exact hok.out.2 x hx
                 · simp at hx; subst hx; exact ⟨by have := HNS.out; simp only; omega, HYS.out⟩
               · refine GLd.snoc (lo2 := w.heap.size) (p := ⟨nm, .slice ya ys.length yc⟩) (by rw [HXL.out]; exact HPS.out) HALL.out ⟨rfl, ?_⟩ (Nat.le_refl _) ?_ HGR.out HGR.out.size
                 · exact own_of HY4.out
                 · rw [HXL.out]; simpa [P2.c] using HO4.out
             case measure => simp [intOf]; omega
    · go_wp2
      go_ret
      exact ⟨_, rfl, xs, by have := HXL.out; omega, ⟨by have := HXL.out; omega, hok.out.2⟩, hown.out.d hd1 hl, hd.trans hd1⟩
theorem GLd.put {w : World} {base g n cap i j : Nat} {xs : List Dr} {ps : List P2} {p p' : P2} {y : Dr} {u : Value} (h1 : w.ownsRow base 39 2 (.slice (some ⟨g, 0, none⟩) n cap) n (rows P2.c ps)) (h2 : All2 (Dr.O w base w.heap.size) xs ps) (hn : xs.length = n)
    (hp : ps[i]? = some p) (hj : j < 2) (hc : P2.c p' = (P2.c p).set j u) (hy : Dr.O w base w.heap.size y p') : GLd (w.setCell ⟨g, i * 2 + j, none⟩ u) base (.slice (some ⟨g, 0, none⟩) n cap) (xs.set i y) := by
  have ht : Touch g (g + 1) w (w.setCell ⟨g, i * 2 + j, none⟩ u) := Touch.setCell (p := ⟨g, i * 2 + j, none⟩) (Touch.refl g (g + 1) w) (Nat.le_refl g) (Nat.lt_succ_self g) _
  have T : ∀ x q, Dr.O w base w.heap.size x q → Dr.O (w.setCell ⟨g, i * 2 + j, none⟩ u) base (w.setCell ⟨g, i * 2 + j, none⟩ u).heap.size x q := fun x q hq => by
    have h6 := hq.touch' ht (fun v c hv hc => by
      simp only [Dr.subs, List.mem_cons, List.not_mem_nil, or_false] at hv
      subst hv
      have h7 := own_type hq.2.1 h1 (by decide) hc
      have h8 : c ≠ g := fun e => h7 (by rw [e]; rfl)
      omega)
    exact h6.mono (Nat.le_refl _) (by simp)
  refine ⟨ps.set i p', ?_, (h2.mono T).set i y p' (T _ _ hy)⟩
  have e := ownsRow_stores h1 (i * 2 + j) u
  rw [rows_set1 P2.len ps i j p p' u hp hj hc] at e
  rw [List.length_set, hn]; exact e
theorem dirsOk.set {n : Nat} {xs : List Dr} (h : dirsOk n xs) {i : Nat} {y : Dr} (hy : y.name.size ≤ 8 ∧ qOk 8 y.query) : dirsOk n (xs.set i y) :=
  ⟨by rw [List.length_set]; exact h.1, fun z hz => by
    rcases List.mem_or_eq_of_mem_set hz with hz | rfl
    · exact h.2 z hz
    · exact hy⟩
theorem dirsOk.mono {n m : Nat} {xs : List Dr} (h : dirsOk n xs) (hm : n ≤ m) : dirsOk m xs := ⟨Nat.le_trans h.1 hm, h.2⟩
def lenV : Value → Nat
  | .slice _ n _ => n
  | _ => 0
end Go.Proofs.YtemikjbfjhebnaaGreat
namespace Go.Proofs.YtemikjbfjhebnaaGreat
open Go.RowKit
set_option linter.unusedVariables false
end Go.Proofs.YtemikjbfjhebnaaGreat
namespace Go.Proofs.YtemikjbfjhebnaaGreat
open Go.RowKit Go.Sort
set_option linter.unusedVariables false
theorem plc_none {xs : List Dr} {s : ByteArray} {i : Int} (h : plcF xs s = none) (hp : plc xs s xs.length i) : i = -1 := by
  rcases plc_cases rfl hp with ⟨h1, _⟩ | ⟨k, h1, h2, h3⟩
  · exact h1
  · rw [h3.out] at h; cases h
theorem plc_some {xs : List Dr} {s : ByteArray} {i : Int} {j : Nat} (h : plcF xs s = some j) (hp : plc xs s xs.length i) : i = j := by
  rcases plc_cases rfl hp with ⟨_, h1⟩ | ⟨k, h1, h2, h3⟩
  · rw [h1.out] at h; cases h
  · rw [h3.out] at h; cases h; exact h1
theorem abv_bd {L : List Nat} {b : Nat} (h : Bd b L) {xs : List Dr} {l : List ByteArray} {m : Nat} (hm : m ≤ 1) : abv L (edg xs l m) ≤ b + 1 :=
  abv_le fun e he => by have h1 := mem_edg he; have h2 := h e.1; omega
theorem one_nats (xs : List Nat) : ∀ u ∈ natsV xs, u.oneCell' = true := by
  intro u hu; unfold natsV at hu; simp at hu; obtain ⟨x, _, rfl⟩ := hu; rfl
theorem natsV_len (L : List Nat) : (natsV L).length = L.length := by unfold natsV; simp
set_option maxRecDepth 100000 in
set_option maxHeartbeats 1000000 in
theorem implStrataAbove (va vb vc : Value) (xs : List Dr) (L : List Nat) (ns : List ByteArray) (m : Nat) (w : World) (ha : RdDs w va xs) (hb : Rd w vb 1 L.length (natsV L)) (hc : Rd w vc 1 ns.length (strs ns)) (hx : xs.length ≤ 1900000) (hl : L.length = xs.length) (hns : ns.length ≤ 4000000) (hbd : Bd 1000000 L) (hm : m ≤ 1) :
    Calls Tryz.prog 107 #[va, vb, vc, .int .i64 (m : Int)] w fun e w' => e = .returned (.int .i64 (abv L (edg xs ns m) : Int)) ∧ Grew w w' := by
  have HD := Lib.hid ha
  have HBD := Lib.hid hbd
  obtain ⟨qs, ⟨a, ca, rfl, hca, hra⟩, hall⟩ := ha
  clear hall hra hbd
  obtain ⟨b, cb, rfl, hcb, hrb⟩ := hb
  obtain ⟨c, cc, rfl, hcc, hrc⟩ := hc
  have HXL := Lib.hid hl
  generalize hn : ns.length = n at hns hrc hcc
  have HN := Lib.hid hn
  clear hn
  generalize hq : L.length = q at hl hrb hcb
  have HQ := Lib.hid hq
  have HLQ := Lib.hid hl
  clear hq hl
  go_enter Tryz.func107, Tryz.ntmps107
  go_wp2
  go_loopw [9, 15] (fun v i wr => ∃ k r : Nat, k ≤ n ∧ i = .int .i64 k ∧ v = .int .i64 r ∧ r ≤ 1000001 ∧ Hid (r = abv L (edg xs (ns.take k) m)) ∧ Grew w wr) (fun _ i _ => n - (intOf i).toNat)
  case atStart => exact ⟨0, 0, Nat.zero_le _, rfl, rfl, Nat.zero_le _, Lib.hid (by rw [edg_zero]; rfl), Grew.refl _⟩
  case round =>
    obtain ⟨k, r, hk, rfl, rfl, hr2, hr, hbel⟩ := hrel
    by_cases hlt : k < n
    · obtain ⟨b1, o1, s, rfl, hsk, c0⟩ := (hrc.grew hbel).one hlt
      cases hp : plcF xs s with
      | none =>
        have HP := Lib.hid hp
        clear hp
        go_wp2_with (go_at_call 120; refine (implDirAt _ xs s _ (HD.out.grew hbel) (by omega)).mono ?_; rintro e w2 ⟨i2, rfl, hp2, hb2⟩; obtain rfl := plc_none HP.out hp2; clear hp2)
        go_roundw
        case rel => exact ⟨k + 1, r, by omega, by go_num, rfl, hr2, Lib.hid (by rw [edg_no hsk.out HP.out]; exact hr.out), hbel.trans hb2⟩
        case measure => simp [intOf]; omega
      | some j =>
        have hj := plcF_lt hp
        have HP := Lib.hid hp
        clear hp
        have hjq : j < q := by have := HLQ.out; omega
        obtain ⟨b2, o2, y, rfl, hyk, d0⟩ := (hrb.grew hbel).one hjq
        have hy := Lib.hid (gt_at hyk.out)
        have hy2 : y ≤ 1000000 := by have h1 := HBD.out j; rw [hy.out] at h1; exact h1
        have HE : abv L (edg xs (ns.take (k + 1)) m) = max r (y + m) := by
          rw [edg_yes hsk.out HP.out, abv_snoc, ← hr.out, hy.out]
        have HE := Lib.hid HE
        have hw : IntKind.i64.wrap ((y : Int) + (m : Int)) = ((y + m : Nat) : Int) := by simp [IntKind.wrap, IntKind.bits, IntKind.signed]; omega
        have hjq2 : (j : Int) < (q : Int) := by omega
        go_wp2_with (go_at_call 120; refine (implDirAt _ xs s _ (HD.out.grew hbel) (by omega)).mono ?_; rintro e w2 ⟨i2, rfl, hp2, hb2⟩; obtain rfl := plc_some HP.out hp2; clear hp2; have d1 := grew_cell hb2 d0)
        go_roundw
        case rel => exact ⟨k + 1, max r (y + m), by omega, by go_num, by first | rfl | (congr 1; omega) | (simp; omega), by omega, Lib.hid HE.out.symm, hbel.trans hb2⟩
        case measure => simp [intOf]; omega
    · obtain rfl : k = n := by omega
      go_wp2
      go_ret
      exact ⟨ret_int (by rw [hr.out, take_all HN.out]), hbel⟩
set_option maxRecDepth 100000 in
set_option maxHeartbeats 4000000 in
theorem l13Raise (va : Value) (a0 : Option Addr) (cb : Nat) (xs : List Dr) (L : List Nat) (n : Nat) (w : World) (ha : RdDs w va xs) (hb : RdA w a0 1 n (natsV L)) (hl : L.length = xs.length) (hxn : xs.length = n) (h5 : n ≤ 5) (h9 : ∀ x, x ∈ xs → x.query.length ≤ 9) (hz : szAll Dr.sz xs ≤ 4000000) (hbd : Bd 900000 L) :
    Calls Tryz.prog 85 #[va, .slice a0 n cb] w fun e w' => ∃ v, e = .returned v ∧ w'.ownsRow w.heap.size 3 1 v n (natsV (raise n (dirE xs) L)) ∧ Grew w w' := by
  have HD := Lib.hid ha
  have HBD := Lib.hid hbd
  have H9 := Lib.hid h9
  have HZ := Lib.hid hz
  obtain ⟨qs, ⟨a, ca, rfl, hca, hra⟩, hall⟩ := ha
  have HA := Lib.hid hall
  have HX := Lib.hid hxn
  have HL := Lib.hid (hl.trans hxn)
  rw [hxn] at hra hca
  have HD2 := Lib.hid (show RdDs w (.slice a n ca) xs by have := HD.out; rw [hxn] at this; exact this)
  rw [hxn]
  have hxs5 : xs.length ≤ 5 := by omega
  clear hall hbd h9 HD hl hxn
  obtain ⟨i0, hi, hz0, hz1, hz2⟩ := info_parts Tryz.infoInt
  cases a0 with
  | none =>
    obtain rfl : n = 0 := by
      rcases Nat.eq_zero_or_pos n with h | h
      · exact h
      · obtain ⟨b, oo, h2, _⟩ := hb.2 h; cases h2
    clear hb
    go_enter Tryz.func85, Tryz.ntmps85
    go_wp2
    go_loopw [6] (fun i wr => i = .int .i64 0 ∧ Grew (w.alloc (.cells #[] 3)) wr) (fun _ _ => 0)
    case atStart => exact ⟨rfl, Grew.refl _⟩
    case round =>
      obtain ⟨rfl, hg⟩ := hrel
      go_wp2
      go_ret
      refine ⟨_, rfl, ?_, ((Grew.refl _).alloc _).trans hg⟩
      have e0 : L = [] := List.length_eq_zero_iff.1 HL.out
      rw [e0]
      exact ownsRow_grew (lit_own w 3 1) hg
  | some ad =>
    have HB := Lib.hid hb
    clear hb
    go_enter Tryz.func85, Tryz.ntmps85
    go_wp2_with (at_builtin; refine wpList_append_own _ rfl _ _ 35 rfl w.heap.size 3 i0 (.int .i64 0) 1 8 Tryz.underlying35 hi hz0 hz1 hz2 rfl (by decide) _ 0 [] rfl (lit_own w 3 1) ad n cb (natsV L) rfl (by rw [natsV_len, HL.out, Nat.mul_one]) (rd_news HB.out ((Grew.refl _).alloc _)) (one_nats _) (by unfold maxLen; omega) (by omega) (by simp) ?_)
    intro v0 w1 hown0 hgr0 _
    have hg1 : Grew w w1 := ((Grew.refl w).alloc _).grown hgr0 (fun k h => by cases h; exact Nat.le_refl _)
    have HO := Lib.hid (show w1.ownsRow w.heap.size 3 1 v0 n (natsV L) by simpa using hown0)
    clear hown0 hgr0 HB hi hz0 hz1 hz2
    obtain ⟨oa, oc, rfl⟩ := own_slice HO.out
    go_wp2
    go_loopw [6] (fun i wr => ∃ k : Nat, k ≤ n ∧ i = .int .i64 k ∧ Hid (wr.ownsRow w.heap.size 3 1 (.slice oa n oc) n (natsV (rsT xs L k))) ∧ Grew w wr) (fun i _ => n - (intOf i).toNat)
    case atStart => exact ⟨0, Nat.zero_le _, rfl, HO, hg1⟩
    case round =>
      obtain ⟨k, hk, rfl, hown, hbel⟩ := hrel
      by_cases hlt : k < n
      · obtain ⟨b1, o1, p, rfl, hpk, c0, c1⟩ := hra.getP2 hlt
        obtain ⟨x, hxk, hxr⟩ := HA.out.get hpk.out
        have hmem := Lib.hid (List.mem_of_getElem? hxk.out)
        have hxs := dir_sz HZ.out hxk.out
        have hq9 := H9.out x hmem.out
        obtain ⟨pn, pq⟩ := p
        obtain ⟨hxn, hxq⟩ := hxr
        simp only at hxn hxq c0 c1
        subst hxn
        have HQ := Lib.hid hxq
        obtain ⟨pa, pc, rfl, hpc, hpr⟩ := hxq
        clear hpr hpc c0
        have hpl : (depsL x.query false).length ≤ 9 := Nat.le_trans (depsL_le _ _) hq9
        have hnl : (depsL x.query true).length ≤ 9 := Nat.le_trans (depsL_le _ _) hq9
        have HB0 := Lib.hid (bd_rsT (xs := xs) HBD.out H9.out k)
        obtain ⟨ga, rfl⟩ : ∃ g, oa = some ⟨g, 0, none⟩ := by
          obtain ⟨_, ⟨h1, h2⟩ | ⟨g, cap, cur, h1, _⟩⟩ := hown.out
          · omega
          · cases h1; exact ⟨g, rfl⟩
        have hga := (hown.out.lt ga rfl).1
        have hga2 := (hown.out.lt ga rfl).2
        have HLT := Lib.hid (show (rsT xs L k).length = n by rw [rsT_len]; exact HL.out)
        obtain ⟨W1, rfl⟩ : ∃ y, y = wr := ⟨_, rfl⟩
        have c1P := grew_cell hbel c1
        have HBLP := Lib.hid (fun t => bd_rsP (xs := xs) HB0.out k (depsL x.query false) 0 (by omega) t)
        go_wp2_with (go_at_call 101; refine (specPositiveDeps _ x.query.length x.query _ (HQ.out.grew hbel) hxs.2.1 hxs.2.2).mono ?_; rintro e w4P ⟨v4, rfl, hq4, hb4P⟩; obtain ⟨qaP, qcP, rfl⟩ := own_slice hq4; have HQ4P := Lib.hid (show Own w4P W1.heap.size w4P.heap.size 9 1 _ _ _ from ⟨hq4, fun b hb => (hq4.lt b hb).2⟩); clear hq4)
        have HO4P := Lib.hid (ownsRow_grew hown.out hb4P)
        have hg4P := hbel.trans hb4P
        clear c1P
        generalize hqP : (depsL x.query false).length = q at HQ4P
        have HQLP := Lib.hid hqP
        rw [hqP] at hpl
        clear hqP
        go_loopw [8] (fun i wr => ∃ t : Nat, t ≤ q ∧ i = .int .i64 t ∧ Hid (wr.ownsRow w.heap.size 3 1 (.slice (some ⟨ga, 0, none⟩) n oc) n (natsV (rsP xs (rsT xs L k) k (depsL x.query false) 0 t))) ∧ Touch w.heap.size W1.heap.size w4P wr) (fun i _ => q - (intOf i).toNat)
        case atStart => exact ⟨0, Nat.zero_le _, rfl, Lib.hid (by rw [rsP_zero]; exact HO4P.out), Touch.refl _ _ _⟩
        case round =>
          obtain ⟨t, ht, rfl, hownP, htch⟩ := hrel
          have hbel2 : Grew w wr := Touch.new hg4P htch (Nat.le_refl _)
          have hdepP := Own.touch HQ4P.out htch (.inr (Nat.le_refl _))
          have hwl : w.heap.size ≤ W1.heap.size := hbel.size
          by_cases hlt2 : t < q
          · obtain ⟨b2, o2, s, hda, hsk, d0⟩ := (Rd.rda (rd_of_own hdepP.1)).one hlt2
            subst hda
            clear hdepP
            cases hp : plcF xs s with
            | none =>
              have HP := Lib.hid hp
              clear hp
              go_wp2_with (go_at_call 102; refine (l11Place _ xs s _ (HD2.out.grew hbel2) (by omega)).mono ?_; rintro e w2 ⟨i2, rfl, hp2, rfl⟩; obtain rfl := plc_none HP.out hp2; clear hp2)
              go_quiet (fail)
              go_wp2
              go_roundw
              case rel => exact ⟨t + 1, by omega, by go_num, Lib.hid (by rw [rsP_no hsk.out HP.out]; exact ownsRow_grew hownP.out ((Grew.refl _).drewN _)), htch.drewN _⟩
              case measure => simp [intOf]; omega
            | some j =>
              have hj0 := plcF_lt hp
              have HP := Lib.hid hp
              clear hp
              have hjn : j < n := by have := HX.out; omega
              obtain ⟨y, hyk, e1⟩ := own_one hownP.out hjn
              obtain ⟨z, hzk, e2⟩ := own_one hownP.out hlt
              have hy := Lib.hid (gt_at hyk.out)
              have hzg := Lib.hid (gt_at hzk.out)
              have hyb : y ≤ 900200 := by
                have h1 := HBLP.out t j
                rw [hy.out] at h1
                have h2 := depsL_le x.query false
                have h3 := depsL_le x.query true
                omega
              have hfz := hownP.out.frozenAt k
              have hjq2 : (j : Int) < (n : Int) := by omega
              have hkq2 : (k : Int) < (n : Int) := by omega
              have hw : IntKind.i64.wrap ((y : Int) + 1) = ((y + 1 : Nat) : Int) := by simp [IntKind.wrap, IntKind.bits, IntKind.signed]; omega
              by_cases hc : z < y + 0
              · have hc2 : (z : Int) < (y : Int) := by omega
                have HST := Lib.hid (fun K => store_one (ownsRow_grew hownP.out ((Grew.refl wr).drewN K)) k (y + 0))
                have HU := Lib.hid (show (rsP xs (rsT xs L k) k (depsL x.query false) 0 t).set k (y + 0) = rsP xs (rsT xs L k) k (depsL x.query false) 0 (t + 1) by rw [rsP_yes hsk.out HP.out, upd_yes (by rw [hy.out, hzg.out]; exact hc), hy.out])
                clear hc
                go_wp2_with (go_at_call 102; refine (l11Place _ xs s _ (HD2.out.grew hbel2) (by omega)).mono ?_; rintro e w2 ⟨i2, rfl, hp2, rfl⟩; obtain rfl := plc_some HP.out hp2; clear hp2)
                go_quiet (fail)
                go_wp2
                go_roundw
                case rel => exact ⟨t + 1, by omega, by go_num, Lib.hid (by rw [← HU.out]; exact HST.out _), (htch.drewN _).setCell (p := ⟨ga, k, none⟩) hga hga2 _⟩
                case measure => simp [intOf]; omega
              · have hc2 : ¬ ((z : Int) < (y : Int)) := by omega
                have HU := Lib.hid (show rsP xs (rsT xs L k) k (depsL x.query false) 0 t = rsP xs (rsT xs L k) k (depsL x.query false) 0 (t + 1) by rw [rsP_yes hsk.out HP.out, upd_no (by rw [hy.out, hzg.out]; exact hc)])
                clear hc
                go_wp2_with (go_at_call 102; refine (l11Place _ xs s _ (HD2.out.grew hbel2) (by omega)).mono ?_; rintro e w2 ⟨i2, rfl, hp2, rfl⟩; obtain rfl := plc_some HP.out hp2; clear hp2)
                go_quiet (fail)
                go_wp2
                go_roundw
                case rel => exact ⟨t + 1, by omega, by go_num, Lib.hid (by rw [← HU.out]; exact ownsRow_grew hownP.out ((Grew.refl _).drewN _)), htch.drewN _⟩
                case measure => simp [intOf]; omega
          · obtain rfl : q = t := by omega
            have hga3N : ga < wr.heap.size := (hownP.out.lt ga rfl).2
            clear hdepP
            obtain ⟨W2, rfl⟩ : ∃ y, y = wr := ⟨_, rfl⟩
            have c1N := grew_cell hbel2 c1
            have HBLN := Lib.hid (fun t => bd_rsP (xs := xs) (bd_rsP (xs := xs) HB0.out k (depsL x.query false) 0 (by omega) q) k (depsL x.query true) 1 (by omega) t)
            go_wp2_with (go_at_call 103; refine (specNegativeDeps _ x.query.length x.query _ (HQ.out.grew hbel2) hxs.2.1 hxs.2.2).mono ?_; rintro e w4N ⟨v4, rfl, hq4, hb4N⟩; obtain ⟨qaN, qcN, rfl⟩ := own_slice hq4; have HQ4N := Lib.hid (show Own w4N W2.heap.size w4N.heap.size 9 1 _ _ _ from ⟨hq4, fun b hb => (hq4.lt b hb).2⟩); clear hq4)
            have HO4N := Lib.hid (ownsRow_grew hownP.out hb4N)
            have hg4N := hbel2.trans hb4N
            clear c1N
            generalize hqN : (depsL x.query true).length = r at HQ4N
            have HQLN := Lib.hid hqN
            rw [hqN] at hnl
            clear hqN
            go_loopw [11] (fun i wr => ∃ t : Nat, t ≤ r ∧ i = .int .i64 t ∧ Hid (wr.ownsRow w.heap.size 3 1 (.slice (some ⟨ga, 0, none⟩) n oc) n (natsV (rsP xs (rsP xs (rsT xs L k) k (depsL x.query false) 0 q) k (depsL x.query true) 1 t))) ∧ Touch w.heap.size W2.heap.size w4N wr) (fun i _ => r - (intOf i).toNat)
            case atStart => exact ⟨0, Nat.zero_le _, rfl, Lib.hid (by rw [rsP_zero]; exact HO4N.out), Touch.refl _ _ _⟩
            case round =>
              obtain ⟨t, ht, rfl, hownN, htch⟩ := hrel
              have hbel3 : Grew w wr := Touch.new hg4N htch (Nat.le_refl _)
              have hdepN := Own.touch HQ4N.out htch (.inr (Nat.le_refl _))
              have hwl : w.heap.size ≤ W2.heap.size := hbel2.size
              by_cases hlt2 : t < r
              · obtain ⟨b2, o2, s, hda, hsk, d0⟩ := (Rd.rda (rd_of_own hdepN.1)).one hlt2
                subst hda
                clear hdepN
                cases hp : plcF xs s with
                | none =>
                  have HP := Lib.hid hp
                  clear hp
                  go_wp2_with (go_at_call 102; refine (l11Place _ xs s _ (HD2.out.grew hbel3) (by omega)).mono ?_; rintro e w2 ⟨i2, rfl, hp2, rfl⟩; obtain rfl := plc_none HP.out hp2; clear hp2)
                  go_quiet (fail)
                  go_wp2
                  go_roundw
                  case rel => exact ⟨t + 1, by omega, by go_num, Lib.hid (by rw [rsP_no hsk.out HP.out]; exact ownsRow_grew hownN.out ((Grew.refl _).drewN _)), htch.drewN _⟩
                  case measure => simp [intOf]; omega
                | some j =>
                  have hj0 := plcF_lt hp
                  have HP := Lib.hid hp
                  clear hp
                  have hjn : j < n := by have := HX.out; omega
                  obtain ⟨y, hyk, e1⟩ := own_one hownN.out hjn
                  obtain ⟨z, hzk, e2⟩ := own_one hownN.out hlt
                  have hy := Lib.hid (gt_at hyk.out)
                  have hzg := Lib.hid (gt_at hzk.out)
                  have hyb : y ≤ 900200 := by
                    have h1 := HBLN.out t j
                    rw [hy.out] at h1
                    have h2 := depsL_le x.query false
                    have h3 := depsL_le x.query true
                    omega
                  have hfz := hownN.out.frozenAt k
                  have hjq2 : (j : Int) < (n : Int) := by omega
                  have hkq2 : (k : Int) < (n : Int) := by omega
                  have hw : IntKind.i64.wrap ((y : Int) + 1) = ((y + 1 : Nat) : Int) := by simp [IntKind.wrap, IntKind.bits, IntKind.signed]; omega
                  by_cases hc : z < y + 1
                  · have hc2 : (z : Int) < (y : Int) + 1 := by omega
                    have HST := Lib.hid (fun K => store_one (ownsRow_grew hownN.out ((Grew.refl wr).drewN K)) k (y + 1))
                    have HU := Lib.hid (show (rsP xs (rsP xs (rsT xs L k) k (depsL x.query false) 0 q) k (depsL x.query true) 1 t).set k (y + 1) = rsP xs (rsP xs (rsT xs L k) k (depsL x.query false) 0 q) k (depsL x.query true) 1 (t + 1) by rw [rsP_yes hsk.out HP.out, upd_yes (by rw [hy.out, hzg.out]; exact hc), hy.out])
                    clear hc
                    go_wp2_with (go_at_call 102; refine (l11Place _ xs s _ (HD2.out.grew hbel3) (by omega)).mono ?_; rintro e w2 ⟨i2, rfl, hp2, rfl⟩; obtain rfl := plc_some HP.out hp2; clear hp2)
                    go_quiet (fail)
                    go_wp2
                    go_roundw
                    case rel => exact ⟨t + 1, by omega, by go_num, Lib.hid (by rw [← HU.out]; exact HST.out _), (htch.drewN _).setCell (p := ⟨ga, k, none⟩) hga hga3N _⟩
                    case measure => simp [intOf]; omega
                  · have hc2 : ¬ ((z : Int) < (y : Int) + 1) := by omega
                    have HU := Lib.hid (show rsP xs (rsP xs (rsT xs L k) k (depsL x.query false) 0 q) k (depsL x.query true) 1 t = rsP xs (rsP xs (rsT xs L k) k (depsL x.query false) 0 q) k (depsL x.query true) 1 (t + 1) by rw [rsP_yes hsk.out HP.out, upd_no (by rw [hy.out, hzg.out]; exact hc)])
                    clear hc
                    go_wp2_with (go_at_call 102; refine (l11Place _ xs s _ (HD2.out.grew hbel3) (by omega)).mono ?_; rintro e w2 ⟨i2, rfl, hp2, rfl⟩; obtain rfl := plc_some HP.out hp2; clear hp2)
                    go_quiet (fail)
                    go_wp2
                    go_roundw
                    case rel => exact ⟨t + 1, by omega, by go_num, Lib.hid (by rw [← HU.out]; exact ownsRow_grew hownN.out ((Grew.refl _).drewN _)), htch.drewN _⟩
                    case measure => simp [intOf]; omega
              · obtain rfl : r = t := by omega
                go_wp2
                go_roundw
                case rel => exact ⟨k + 1, by omega, by go_num, Lib.hid (by rw [rsT_succ hxk.out HQLP.out HQLN.out]; exact hownN.out), hbel3⟩
                case measure => simp [intOf]; omega
      · obtain rfl : k = n := by omega
        go_wp2
        go_ret
        exact ⟨_, rfl, by have h1 := hown.out; rw [rsT_all] at h1; exact h1, hbel⟩
end Go.Proofs.YtemikjbfjhebnaaGreat
