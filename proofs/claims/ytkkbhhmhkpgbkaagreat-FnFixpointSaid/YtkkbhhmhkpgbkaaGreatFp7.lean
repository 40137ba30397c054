/- Texts V5, Z16, Z3, Z4, Z6, Z7, Z8, as far as they are needed. -/
import Derived.Test.YtkkbhhmhkpgbkaaGreatFp1
import Derived.Test.YtkkbhhmhkpgbkaaGreatFp2
import Derived.Test.YtkkbhhmhkpgbkaaGreatFp6
import Derived.Test.YtkkbhhmhkpgbkaaGreatFp3
namespace Go.Proofs.YtkkbhhmhkpgbkaaGreat
open Go.RowKit
set_option linter.unusedVariables false
set_option linter.unusedSimpArgs false
theorem GrowF.tch {w w' : World} {base a b : Nat} {v : Value} {fs : List Fl} (h : GrowF w base v fs) (ht : Touch a b w w') (hd : b ≤ base) : GrowF w' base v fs := by
  obtain ⟨ps, h1, h2⟩ := h
  exact ⟨ps, ownsRow_tch h1 ht hd, h2.mono fun x p h => (h.touch ht (.inr hd)).mono (Nat.le_refl _) ht.size⟩
theorem GrowF.slice {w : World} {base : Nat} {v : Value} {fs : List Fl} (h : GrowF w base v fs) : ∃ a c, v = .slice a fs.length c := by
  obtain ⟨ps, h1, _⟩ := h
  exact own_slice h1
theorem Rd.tch {w w' : World} {lo hi k n : Nat} {v : Value} {cs : List Value} (h : Rd w v k n cs) (ht : Touch lo hi w w') (hb : ∀ b, v.ownBlock = some b → b < lo ∨ hi ≤ b) : Rd w' v k n cs := by
  obtain ⟨a, c, rfl, hc, ha⟩ := h
  exact ⟨a, c, rfl, hc, ha.tch ht fun _ b hb' => hb b.block (by rw [hb']; rfl)⟩
theorem Touch.grown {lo hi : Nat} {a b c : World} {row : Option Nat} (h : Touch lo hi a b) (hg : b.grownBy c row) (hr : ∀ k, row = some k → a.heap.size ≤ k) : Touch lo hi a c :=
  ⟨hg.os.trans h.os, hg.tape.trans h.tape, hg.output.trans h.output, Nat.le_trans h.size hg.size, fun b' hb ho => (hg.block b' (Nat.lt_of_lt_of_le hb h.size) (fun e => by have := hr b' e.symm; omega)).trans (h.block b' hb ho)⟩
structure Out (w : World) (ob base : Nat) (vs v : Value) (nx : Int) (fs : List Fl) : Prop where
  c0 : w.cell? ⟨ob, 0, none⟩ = some vs
  c1 : w.cell? ⟨ob, 1, none⟩ = some v
  c2 : w.cell? ⟨ob, 2, none⟩ = some (.int .i64 nx)
  fz : ∀ j, w.frozen? ⟨ob, j, none⟩ = false
  row : GrowF w base v fs
  lt : ob < base
  le : base ≤ w.heap.size
theorem Out.grew {w w' : World} {ob base : Nat} {vs v : Value} {nx : Int} {fs : List Fl} (h : Out w ob base vs v nx fs) (hg : Grew w w') : Out w' ob base vs v nx fs :=
  ⟨grew_cell hg h.c0, grew_cell hg h.c1, grew_cell hg h.c2, fun j => grew_frozen (a := ⟨ob, j, none⟩) hg (lt_of_cell h.c0 : (⟨ob, 0, none⟩ : Addr).block < _) (h.fz j), h.row.grew hg, h.lt, Nat.le_trans h.le hg.size⟩
theorem Out.put {w w' : World} {ob base : Nat} {vs v v' : Value} {nx : Int} {fs fs' : List Fl} (h : Out w ob base vs v nx fs) (hg : w.grownBy w' v.ownBlock) (hr : GrowF w' base v' fs') : Out (w'.setCell ⟨ob, 1, none⟩ v') ob base vs v' nx fs' := by
  have hlt : ∀ k, v.ownBlock = some k → base ≤ k := fun k hk => by obtain ⟨ps, h1, _⟩ := h.row; exact (h1.lt k hk).1
  have hl := h.lt
  have hb := h.le
  have hob : some ob ≠ v.ownBlock := fun e => by have := hlt ob e.symm; omega
  have hfz : ∀ j, w'.frozen? ⟨ob, j, none⟩ = false := fun j => by
    rw [World.frozen?_of_block (w := w) (hg.block ob (by omega) hob)]; exact h.fz j
  have d0 := hg.cell h.c0 hob
  have d1 := hg.cell h.c1 hob
  have d2 := hg.cell h.c2 hob
  refine ⟨?_, ?_, ?_, fun j => ?_, ?_, hl, ?_⟩
  · simp [go_sem, d0]
  · simp [go_sem, d1]
  · simp [go_sem, d2]
  · rw [World.frozen?_setCell]; exact hfz j
  · exact hr.tch (a := ob) (b := ob + 1) (Touch.setCell (p := ⟨ob, 1, none⟩) (Touch.refl _ _ _) (Nat.le_refl _) (Nat.lt_succ_self _) _) hl
  · have := hg.size; simp; omega
theorem cell_set_ne {w : World} {p a : Addr} {u v : Value} (h : w.cell? p = some u) (hne : p.block ≠ a.block) : (w.setCell a v).cell? p = some u :=
  tch_cell (Touch.setCell (Touch.refl a.block (a.block + 1) w) (Nat.le_refl _) (Nat.lt_succ_self _) v) (by omega) h
theorem Out.fresh (w : World) (vs : Value) (nx : Int) : Out (w.alloc (.cells #[vs, .slice none 0 0, .int .i64 nx] 27)) w.heap.size (w.alloc (.cells #[vs, .slice none 0 0, .int .i64 nx] 27)).heap.size vs (.slice none 0 0) nx [] :=
  ⟨by simp, by simp, by simp, fun j => by simp [go_sem], GrowF.nil _ _, by simp, Nat.le_refl _⟩
theorem Out.stored {w : World} {ob : Nat} {vs q0 q1 q2 : Value} {nx : Int} (hl : ob < w.heap.size) (h0 : w.cell? ⟨ob, 0, none⟩ = some q0) (h1 : w.cell? ⟨ob, 1, none⟩ = some q1) (h2 : w.cell? ⟨ob, 2, none⟩ = some q2) (hz : ∀ j, w.frozen? ⟨ob, j, none⟩ = false) :
    Out (((w.setCell ⟨ob, 0, none⟩ vs).setCell ⟨ob, 1, none⟩ (.slice none 0 0)).setCell ⟨ob, 2, none⟩ (.int .i64 nx)) ob (((w.setCell ⟨ob, 0, none⟩ vs).setCell ⟨ob, 1, none⟩ (.slice none 0 0)).setCell ⟨ob, 2, none⟩ (.int .i64 nx)).heap.size vs (.slice none 0 0) nx [] :=
  ⟨by simp [go_sem, h0, h1, h2], by simp [go_sem, h0, h1, h2], by simp [go_sem, h0, h1, h2], fun j => by rw [World.frozen?_setCell, World.frozen?_setCell, World.frozen?_setCell]; exact hz j, GrowF.nil _ _, by simpa using hl, Nat.le_refl _⟩
theorem Out.rd {w : World} {ob base : Nat} {vs v : Value} {nx : Int} {fs : List Fl} (h : Out w ob base vs v nx fs) : RdLs w v fs := h.row.rd
theorem Out.link {w : World} {ob base g n cap i : Nat} {vs : Value} {nx l : Int} {fs : List Fl} {f : Fl} (h : Out w ob base vs (.slice (some ⟨g, 0, none⟩) n cap) nx fs) (hn : fs.length = n) (hf : fs[i]? = some f) :
    Out (w.setCell ⟨g, i * 5 + 3, none⟩ (.int .i64 l)) ob base vs (.slice (some ⟨g, 0, none⟩) n cap) nx (fs.set i ⟨f.id, f.owner, f.shared, l, f.attrs⟩) := by
  have hlt : base ≤ g := by obtain ⟨ps, h1, _⟩ := h.row; exact (h1.lt g rfl).1
  have hl := h.lt
  have hne : ¬ (g = ob) := by omega
  have hne2 : ¬ (ob = g) := by omega
  have d0 := h.c0
  have d1 := h.c1
  have d2 := h.c2
  refine ⟨?_, ?_, ?_, fun j => ?_, h.row.put hn hf, hl, ?_⟩
  · simp [go_sem, d0, hne, hne2]
  · simp [go_sem, d1, hne, hne2]
  · simp [go_sem, d2, hne, hne2]
  · rw [World.frozen?_setCell]; exact h.fz j
  · have := h.le; simpa using this
end Go.Proofs.YtkkbhhmhkpgbkaaGreat
namespace Go.Proofs.YtkkbhhmhkpgbkaaGreat
open Go.RowKit
set_option linter.unusedVariables false
def atF (fs : List Fl) (id i : Int) : Prop := (∃ (k : Nat) (f : Fl), i = k ∧ fs[k]? = some f ∧ f.id = id ∧ hasF (fs.take k) id = false) ∨ (hasF fs id = false ∧ i = -1)
set_option maxRecDepth 100000 in
set_option maxHeartbeats 1000000 in
theorem l05PlaceAt (p_q p_r : Value) (nx : Int) (fs : List Fl) (id : Int) (w : World) (hr : RdLs w p_r fs) (hx : fs.length ≤ 4000000) :
    Calls Tryz.prog 85 #[.agg #[p_q, p_r, .int .i64 nx], .int .i64 id] w fun e w' => ∃ i : Int, e = .returned (.int .i64 i) ∧ atF fs id i ∧ Grew w w' := by
  have hg0 := (Grew.refl w).alloc (.cells #[p_q, p_r, .int .i64 nx] 27)
  have HR := Lib.hid (RdLs.grew hr hg0)
  obtain ⟨qs, ⟨a, ca, rfl, hca, hra⟩, hall⟩ := hr
  clear hra hall
  obtain ⟨qs, ⟨_, _, h1, _, hra⟩, hall⟩ := HR.out
  cases h1
  have HA := Lib.hid hall
  clear hall
  generalize hn : fs.length = n at hx hra
  have HX := Lib.hid hn
  clear hn
  go_enter Tryz.func85, Tryz.ntmps85
  go_wp2
  go_loop [5] (fun i => ∃ k : Nat, k ≤ n ∧ i = .int .i64 k ∧ Hid (hasF (fs.take k) id = false)) (fun i => n - (intOf i).toNat)
  case atStart => exact ⟨0, Nat.zero_le _, rfl, Lib.hid rfl⟩
  case round =>
    obtain ⟨k, hk, rfl, hno⟩ := hrel
    by_cases hlt : k < n
    · obtain ⟨b1, o1, p, rfl, hpk, c0, c1, c2, c3, c4⟩ := hra.getP5 hlt
      obtain ⟨x, hxk, hxr⟩ := HA.out.get hpk.out
      have hid := hxr.1
      rw [hid] at c0
      have hcs : (x.id == id) = true ∨ (x.id == id) = false := by cases x.id == id <;> simp
      rcases hcs with hn | hn
      · have HE := Lib.hid (show x.id = id by simpa using hn)
        go_wp2
        go_ret
        exact ⟨_, rfl, .inl ⟨k, x, rfl, hxk.out, HE.out, hno.out⟩, (Grew.refl w).alloc _⟩
      · have HF := Lib.hid (hasF_no hno.out hxk.out hn)
        go_wp2
        exact ⟨⟨k + 1, by omega, by go_num, HF⟩, by simp [intOf]; omega⟩
    · obtain rfl : k = n := by omega
      have h1 := hno.out
      rw [take_all HX.out] at h1
      have H1 := Lib.hid h1
      clear h1 hno
      go_wp2
      go_ret
      exact ⟨_, rfl, .inr ⟨H1.out, rfl⟩, (Grew.refl w).alloc _⟩
end Go.Proofs.YtkkbhhmhkpgbkaaGreat
namespace Go.Proofs.YtkkbhhmhkpgbkaaGreat
open Go.RowKit
set_option linter.unusedVariables false
theorem names_at (k : Nat) (h : k < 4) : ∃ x : ByteArray, (#[Value.string ⟨#[100, 97]⟩, .string ⟨#[100, 98]⟩, .string ⟨#[100, 99]⟩, .string ⟨#[100, 100]⟩] : Array Value)[k]? = some (.string x) ∧ x.size = 2 := by
  have : k = 0 ∨ k = 1 ∨ k = 2 ∨ k = 3 := by omega
  rcases this with rfl | rfl | rfl | rfl <;> exact ⟨_, rfl, rfl⟩
def ansOk (xs : List Rs) : Prop := xs.length ≤ 4 ∧ ∀ x, x ∈ xs → x.name.size ≤ 8 ∧ idsOk 8 x.ids
theorem Rs.O.tch (w w' : World) (lo hi a b : Nat) (x : Rs) (p : P2) (h : Rs.O w lo hi x p) (ht : Touch a b w w') (hd : hi ≤ a ∨ b ≤ lo) : Rs.O w' lo hi x p := h.touch ht hd
abbrev GLr (w : World) (base : Nat) (v : Value) (xs : List Rs) : Prop := GL P2.c 2 86 Rs.O w base v xs
theorem GLr.tch {w w' : World} {base a b : Nat} {v : Value} {xs : List Rs} (h : GLr w base v xs) (ht : Touch a b w w') (hd : b ≤ base) : GLr w' base v xs :=
  GL.touch Rs.O.tch (fun w lo hi hi' x p h k => h.mono (Nat.le_refl _) k) h ht hd
theorem GLr.d {g : Nat} {w w' : World} {base : Nat} {v : Value} {xs : List Rs} (h : GLr w base v xs) (hd : D g w w') (hg : g < base) : GLr w' base v xs := h.tch hd.2.1 hg
theorem GLr.rd {w : World} {base : Nat} {v : Value} {xs : List Rs} (h : GLr w base v xs) : RdRs w v xs := GL.rd (fun w lo hi x p h => h.rd) h
theorem GLr.base {w : World} {base base' : Nat} {v : Value} {xs : List Rs} (h : GLr w base v xs) (hb : base' ≤ base) : GLr w base' v xs := GL.base (fun w lo lo' hi x p h k => h.mono k (Nat.le_refl _)) h hb
theorem GLr.grew {w w' : World} {base : Nat} {v : Value} {xs : List Rs} (h : GLr w base v xs) (hg : Grew w w') : GLr w' base v xs := h.tch (hg.touch 0 0) (Nat.zero_le _)
theorem GLr.snoc {w w' : World} {base lo2 : Nat} {v v' : Value} {ds : List Rs} {d : Rs} {ps : List P2} {p : P2} (h1 : w.ownsRow base 86 2 v ds.length (rows P2.c ps)) (h2 : All2 (Rs.O w base w.heap.size) ds ps)
    (hp : Rs.O w lo2 w.heap.size d p) (hb : base ≤ lo2)
    (hown : w'.ownsRow base 86 2 v' (ds.length + 1) (rows P2.c ps ++ P2.c p)) (hg : w.grownBy w' v.ownBlock) (hs : w.heap.size ≤ w'.heap.size) : GLr w' base v' (ds ++ [d]) := by
  refine ⟨ps ++ [p], ?_, ?_⟩
  · rw [List.length_append, rows_append]; simpa [rows] using hown
  · refine All2.snoc (h2.mono fun x q hr => ?_) ?_
    · exact ⟨hr.1, (own_grown hr.2 h1 (by decide) hg).mono (Nat.le_refl _) hs⟩
    · exact ⟨hp.1, (own_grown hp.2 h1 (by decide) hg).mono hb hs⟩
set_option maxRecDepth 100000 in
set_option maxHeartbeats 2000000 in
theorem l14Answers (g : Nat) (w : World) (hc : Cur w g) :
    Calls Tryz.prog 55 #[.pointer (some ⟨g, 0, none⟩)] w fun e w' => ∃ v xs, e = .returned v ∧ ansOk xs ∧ GLr w' w.heap.size v xs ∧ D g w w' := by
  obtain ⟨i0, hi, hz0, hz1, hz2⟩ := info_parts Tryz.infoRs
  have hl := hc.lt
  go_enter Tryz.func55, Tryz.ntmps55
  go_wp2
  go_loopw [3, 4] (fun v i wr => ∃ (k : Nat) (xs : List Rs), k ≤ 4 ∧ i = .int .i64 k ∧ Hid (xs.length = k ∧ ∀ x, x ∈ xs → x.name.size ≤ 8 ∧ idsOk 8 x.ids) ∧ Hid (GLr wr w.heap.size v xs) ∧ D g w wr) (fun _ i _ => 8 - (intOf i).toNat)
  case atStart => exact ⟨0, [], by omega, rfl, Lib.hid ⟨rfl, by simp⟩, Lib.hid ⟨[], lit_own w _ 2, All2.nil⟩, (D.refl hc).alloc _⟩
  case round =>
    obtain ⟨k, xs, hk, rfl, hok, hown, hd⟩ := hrel
    have HXL := Lib.hid hok.out.1
    obtain ⟨va, vc, rfl⟩ : ∃ a c, u3 = .slice a k c := by have h := hown.out.slice; rw [HXL.out] at h; exact h
    go_wp2_with fail
    refine (l01Below g _ hd.cur 5 (by decide) (by decide)).mono ?_
    rintro e w1 ⟨b, rfl, hb, hd1⟩
    by_cases hlt : (k : Int) < b
    · obtain ⟨nm, hnm, hns⟩ := names_at k (by omega)
      have HNS := Lib.hid hns
      have hk4 : (k : Int) < 4 := by omega
      have hk0 : (0 : Int) ≤ k := by omega
      have hdd := hd.trans hd1
      have hG1 := Lib.hid (hown.out.d hd1 hl)
      have hcell : ∀ W : World, (W.alloc (.cells #[.string ⟨#[100, 97]⟩, .string ⟨#[100, 98]⟩, .string ⟨#[100, 99]⟩, .string ⟨#[100, 100]⟩] 9)).cell? ⟨W.heap.size, k, none⟩ = some (.string nm) := fun W => by rw [World.cell?_alloc_at (w := W) _ _ W.heap.size k rfl]; exact hnm
      clear hown hnm hns
      go_wp2_with fail
      refine wp_region_noPanic ?_
      refine wp_region_held_drew (S := (fun w' => D g w w')) (by kernel_rfl) ?h1_S ?h1_r
      case h1_S => exact hdd.drew
      case h1_r =>
       intro HS
       first | refine sk' 0 HS ?_ | refine tk' 0 HS ?_
       first | refine sk' 2 HS ?_ | refine tk' 2 HS ?_
       first | refine sk' 5 HS ?_ | refine tk' 5 HS ?_
       refine cl2 1 6 rfl rfl (by kernel_rfl) (fun K hK => ?a1_4_) (fun K hK => ?b1_4_)
       case a1_4_ =>
        rw [if_pos (by rfl)]
        go_simp
        refine hK.out _ _ ?s1_5_ ?r1_5_
        case s1_5_ => exact HS.alloc _
        case r1_5_ =>
         clear HS hK K; intro HS
         try simp only [Act.put, lpa, lpb, lpc]
         first | refine sk' 3 HS ?_ | refine tk' 3 HS ?_
         refine cl2 4 6 rfl rfl (by kernel_rfl) (fun K hK => ?a1_7_) (fun K hK => ?b1_7_)
         case a1_7_ =>
          rw [if_pos (by rfl)]
          go_simp
          refine hK.out _ _ ?s1_8_ ?r1_8_
          case s1_8_ => exact HS
          case r1_8_ =>
           clear HS hK K; intro HS
           try simp only [Act.put, lpa, lpb, lpc]
           refine cl' 6 fun K hK => ?_
           rw [if_pos (by rfl)]
           go_simp
           go_at_call 56
           refine (l14Ids g _ HS.cur).mono ?_
           rintro e w2 ⟨v2, ys, rfl, hys, hv2, hd2⟩
           obtain ⟨ya, yc, rfl⟩ := own_slice hv2
           have HV2 := Lib.hid hv2
           have HYS := Lib.hid hys
           clear hv2 hys
           refine hK.out _ _ ?s1_9_ ?r1_9_
           case s1_9_ => exact HS.trans hd2
           case r1_9_ =>
            have hGL := Lib.hid ((hG1.out.grew ((Grew.refl w1).alloc (.cells #[.string ⟨#[100, 97]⟩, .string ⟨#[100, 98]⟩, .string ⟨#[100, 99]⟩, .string ⟨#[100, 100]⟩] 9)).drew).d hd2 hl)
            have HVL := Lib.hid HV2.out
            clear HS hK K; intro HS
            try simp only [Act.put, lpa, lpb, lpc]
            first | refine sk' 7 HS ?_ | refine tk' 7 HS ?_
            refine cl' 8 fun K hK => ?_
            rw [if_pos (by rfl)]
            go_simp
            refine hK.out _ _ ?s1_11_ ?r1_11_
            case s1_11_ => exact HS.alloc _
            case r1_11_ =>
             clear HS hK K; intro HS
             try simp only [Act.put, lpa, lpb, lpc]
             refine cl' 9 fun K hK => ?_
             rw [if_pos (by rfl)]
             obtain ⟨ps, ho, hall⟩ := hGL.out
             rw [HXL.out] at ho
             have HPS := Lib.hid (ownsRow_grew ho ((Grew.refl _).alloc (.cells #[.string nm, .slice ya ys.length yc] 86)))
             have HALL := Lib.hid (hall.mono fun x q h => (h.grew ((Grew.refl _).alloc (.cells #[.string nm, .slice ya ys.length yc] 86))).mono (Nat.le_refl _) ((Grew.refl _).alloc (.cells #[.string nm, .slice ya ys.length yc] 86)).size)
             have HY4 := Lib.hid (ownsRow_base (base' := w.heap.size) (ownsRow_grew HVL.out ((Grew.refl _).alloc (.cells #[.string nm, .slice ya ys.length yc] 86))) (by have := hdd.size; simp at this ⊢; omega))
             clear ho hall
             refine wp_append_own _ _ _ 41 rfl w.heap.size 86 i0 _ 2 40 Tryz.underlying41 hi hz0 hz1 hz2 rfl (by decide) _ _ _ rfl HPS.out ⟨_, 0, none⟩ 1 1 [.string nm, .slice ya ys.length yc] rfl rfl (lit_news (by simp)) (fun x hx => by simp at hx; rcases hx with rfl | rfl <;> rfl) (by unfold maxLen; omega) (by omega) (by have := HS.size; simp at this ⊢; omega) ?_
             intro v' w' hown' hgr2 _
             have HD4 := Lib.hid (HS.grown hgr2 (fun j h => (HPS.out.lt j h).1))
             have HGR := Lib.hid hgr2
             have HO4 := Lib.hid hown'
             clear hown' hgr2
             refine hK.out _ _ ?s1_12_ ?r1_12_
             case s1_12_ => exact HD4.out
             case r1_12_ =>
              clear HS hK K; intro HS
              try simp only [Act.put, lpa, lpb, lpc]
              first | refine sk' 10 HS ?_ | refine tk' 10 HS ?_
              refine wpAnyH_done (by kernel_rfl) ?_ _
              refine NoPanic.normal ?_
              clear HS
              go_wp2
              go_roundw
              case rel =>
                refine ⟨k + 1, xs ++ [⟨nm, ys⟩], by omega, by go_num, Lib.hid ⟨by simp [HXL.out], fun x hx => ?_⟩, Lib.hid ?_, HD4.out⟩
                · rw [List.mem_append] at hx; rcases hx with hx | hx
                  · exact hok.out.2 x hx
                  · simp at hx; subst hx; exact ⟨by have := HNS.out; simp only; omega, HYS.out⟩
                · refine GLr.snoc (lo2 := w.heap.size) (p := ⟨nm, .slice ya ys.length yc⟩) (by rw [HXL.out]; exact HPS.out) HALL.out ⟨rfl, ?_⟩ (Nat.le_refl _) ?_ HGR.out HGR.out.size
                  · exact own_of HY4.out
                  · rw [HXL.out]; simpa [P2.c] using HO4.out
              case measure => simp [intOf]; omega
         case b1_7_ =>
          rw [if_pos (by rfl)]
          go_simp
          go_at_call 56
          refine (l14Ids g _ HS.cur).mono ?_
          rintro e w2 ⟨v2, ys, rfl, hys, hv2, hd2⟩
          obtain ⟨ya, yc, rfl⟩ := own_slice hv2
          have HV2 := Lib.hid hv2
          have HYS := Lib.hid hys
          clear hv2 hys
          have c2 := hd2.cell (p := ⟨w1.heap.size, k, none⟩) (u := .string nm) (hcell w1) (by have := hdd.size; simp; omega)
          refine hK.out _ _ ?s1_14_ ?r1_14_
          case s1_14_ => exact HS.trans hd2
          case r1_14_ =>
           have hGL := Lib.hid ((hG1.out.grew ((Grew.refl w1).alloc (.cells #[.string ⟨#[100, 97]⟩, .string ⟨#[100, 98]⟩, .string ⟨#[100, 99]⟩, .string ⟨#[100, 100]⟩] 9)).drew).d hd2 hl)
           have HVL := Lib.hid HV2.out
           clear HS hK K; intro HS
           try simp only [Act.put, lpa, lpb, lpc]
           refine cl' 4 fun K hK => ?_
           rw [if_pos (by rfl)]
           go_simp
           refine hK.out _ _ ?s1_15_ ?r1_15_
           case s1_15_ => exact HS
           case r1_15_ =>
            clear HS hK K; intro HS
            try simp only [Act.put, lpa, lpb, lpc]
            first | refine sk' 7 HS ?_ | refine tk' 7 HS ?_
            refine cl' 8 fun K hK => ?_
            rw [if_pos (by rfl)]
            go_simp
            refine hK.out _ _ ?s1_17_ ?r1_17_
            case s1_17_ => exact HS.alloc _
            case r1_17_ =>
             clear HS hK K; intro HS
             try simp only [Act.put, lpa, lpb, lpc]
             refine cl' 9 fun K hK => ?_
             rw [if_pos (by rfl)]
             obtain ⟨ps, ho, hall⟩ := hGL.out
             rw [HXL.out] at ho
             have HPS := Lib.hid (ownsRow_grew ho ((Grew.refl _).alloc (.cells #[.string nm, .slice ya ys.length yc] 86)))
             have HALL := Lib.hid (hall.mono fun x q h => (h.grew ((Grew.refl _).alloc (.cells #[.string nm, .slice ya ys.length yc] 86))).mono (Nat.le_refl _) ((Grew.refl _).alloc (.cells #[.string nm, .slice ya ys.length yc] 86)).size)
             have HY4 := Lib.hid (ownsRow_base (base' := w.heap.size) (ownsRow_grew HVL.out ((Grew.refl _).alloc (.cells #[.string nm, .slice ya ys.length yc] 86))) (by have := hdd.size; simp at this ⊢; omega))
             clear ho hall
             refine wp_append_own _ _ _ 41 rfl w.heap.size 86 i0 _ 2 40 Tryz.underlying41 hi hz0 hz1 hz2 rfl (by decide) _ _ _ rfl HPS.out ⟨_, 0, none⟩ 1 1 [.string nm, .slice ya ys.length yc] rfl rfl (lit_news (by simp)) (fun x hx => by simp at hx; rcases hx with rfl | rfl <;> rfl) (by unfold maxLen; omega) (by omega) (by have := HS.size; simp at this ⊢; omega) ?_
             intro v' w' hown' hgr2 _
             have HD4 := Lib.hid (HS.grown hgr2 (fun j h => (HPS.out.lt j h).1))
             have HGR := Lib.hid hgr2
             have HO4 := Lib.hid hown'
             clear hown' hgr2
             refine hK.out _ _ ?s1_18_ ?r1_18_
             case s1_18_ => exact HD4.out
             case r1_18_ =>
              clear HS hK K; intro HS
              try simp only [Act.put, lpa, lpb, lpc]
              first | refine sk' 10 HS ?_ | refine tk' 10 HS ?_
              refine wpAnyH_done (by kernel_rfl) ?_ _
              refine NoPanic.normal ?_
              clear HS
              go_wp2
              go_roundw
              case rel =>
                refine ⟨k + 1, xs ++ [⟨nm, ys⟩], by omega, by go_num, Lib.hid ⟨by simp [HXL.out], fun x hx => ?_⟩, Lib.hid ?_, HD4.out⟩
                · rw [List.mem_append] at hx; rcases hx with hx | hx
                  · exact hok.out.2 x hx
                  · simp at hx; subst hx; exact ⟨by have := HNS.out; simp only; omega, HYS.out⟩
                · refine GLr.snoc (lo2 := w.heap.size) (p := ⟨nm, .slice ya ys.length yc⟩) (by rw [HXL.out]; exact HPS.out) HALL.out ⟨rfl, ?_⟩ (Nat.le_refl _) ?_ HGR.out HGR.out.size
                  · exact own_of HY4.out
                  · rw [HXL.out]; simpa [P2.c] using HO4.out
              case measure => simp [intOf]; omega
       case b1_4_ =>
        rw [if_pos (by rfl)]
        go_simp
        go_at_call 56
        refine (l14Ids g _ HS.cur).mono ?_
        rintro e w2 ⟨v2, ys, rfl, hys, hv2, hd2⟩
        obtain ⟨ya, yc, rfl⟩ := own_slice hv2
        have HV2 := Lib.hid hv2
        have HYS := Lib.hid hys
        clear hv2 hys
        refine hK.out _ _ ?s1_20_ ?r1_20_
        case s1_20_ => exact HS.trans hd2
        case r1_20_ =>
         clear HS hK K; intro HS
         try simp only [Act.put, lpa, lpb, lpc]
         refine cl' 1 fun K hK => ?_
         rw [if_pos (by rfl)]
         go_simp
         refine hK.out _ _ ?s1_21_ ?r1_21_
         case s1_21_ => exact HS.alloc _
         case r1_21_ =>
          have hGL := Lib.hid (((hG1.out.grew (Grew.refl w1).drew).d hd2 hl).grew ((Grew.refl _).alloc (.cells #[.string ⟨#[100, 97]⟩, .string ⟨#[100, 98]⟩, .string ⟨#[100, 99]⟩, .string ⟨#[100, 100]⟩] 9)))
          have HVL := Lib.hid (ownsRow_grew HV2.out ((Grew.refl _).alloc (.cells #[.string ⟨#[100, 97]⟩, .string ⟨#[100, 98]⟩, .string ⟨#[100, 99]⟩, .string ⟨#[100, 100]⟩] 9)))
          clear HS hK K; intro HS
          try simp only [Act.put, lpa, lpb, lpc]
          first | refine sk' 3 HS ?_ | refine tk' 3 HS ?_
          refine cl' 4 fun K hK => ?_
          rw [if_pos (by rfl)]
          go_simp
          refine hK.out _ _ ?s1_23_ ?r1_23_
          case s1_23_ => exact HS
          case r1_23_ =>
           clear HS hK K; intro HS
           try simp only [Act.put, lpa, lpb, lpc]
           first | refine sk' 7 HS ?_ | refine tk' 7 HS ?_
           refine cl' 8 fun K hK => ?_
           rw [if_pos (by rfl)]
           go_simp
           refine hK.out _ _ ?s1_25_ ?r1_25_
           case s1_25_ => exact HS.alloc _
           case r1_25_ =>
            clear HS hK K; intro HS
            try simp only [Act.put, lpa, lpb, lpc]
            refine cl' 9 fun K hK => ?_
            rw [if_pos (by rfl)]
            obtain ⟨ps, ho, hall⟩ := hGL.out
            rw [HXL.out] at ho
            have HPS := Lib.hid (ownsRow_grew ho ((Grew.refl _).alloc (.cells #[.string nm, .slice ya ys.length yc] 86)))
            have HALL := Lib.hid (hall.mono fun x q h => (h.grew ((Grew.refl _).alloc (.cells #[.string nm, .slice ya ys.length yc] 86))).mono (Nat.le_refl _) ((Grew.refl _).alloc (.cells #[.string nm, .slice ya ys.length yc] 86)).size)
            have HY4 := Lib.hid (ownsRow_base (base' := w.heap.size) (ownsRow_grew HVL.out ((Grew.refl _).alloc (.cells #[.string nm, .slice ya ys.length yc] 86))) (by have := hdd.size; simp at this ⊢; omega))
            clear ho hall
            refine wp_append_own _ _ _ 41 rfl w.heap.size 86 i0 _ 2 40 Tryz.underlying41 hi hz0 hz1 hz2 rfl (by decide) _ _ _ rfl HPS.out ⟨_, 0, none⟩ 1 1 [.string nm, .slice ya ys.length yc] rfl rfl (lit_news (by simp)) (fun x hx => by simp at hx; rcases hx with rfl | rfl <;> rfl) (by unfold maxLen; omega) (by omega) (by have := HS.size; simp at this ⊢; omega) ?_
            intro v' w' hown' hgr2 _
            have HD4 := Lib.hid (HS.grown hgr2 (fun j h => (HPS.out.lt j h).1))
            have HGR := Lib.hid hgr2
            have HO4 := Lib.hid hown'
            clear hown' hgr2
            refine hK.out _ _ ?s1_26_ ?r1_26_
            case s1_26_ => exact HD4.out
            case r1_26_ =>
             clear HS hK K; intro HS
             try simp only [Act.put, lpa, lpb, lpc]
             first | refine sk' 10 HS ?_ | refine tk' 10 HS ?_
             refine wpAnyH_done (by kernel_rfl) ?_ _
             refine NoPanic.normal ?_
             clear HS
             go_wp2
             go_roundw
             case rel =>
               refine ⟨k + 1, xs ++ [⟨nm, ys⟩], by omega, by go_num, Lib.hid ⟨by simp [HXL.out], fun x hx => ?_⟩, Lib.hid ?_, HD4.out⟩
               · rw [List.mem_append] at hx; rcases hx with hx | hx
                 · exact hok.out.2 x hx
                 · simp at hx; subst hx; exact ⟨by have := HNS.out; simp only; omega, HYS.out⟩
               · refine GLr.snoc (lo2 := w.heap.size) (p := ⟨nm, .slice ya ys.length yc⟩) (by rw [HXL.out]; exact HPS.out) HALL.out ⟨rfl, ?_⟩ (Nat.le_refl _) ?_ HGR.out HGR.out.size
                 · exact own_of HY4.out
                 · rw [HXL.out]; simpa [P2.c] using HO4.out
             case measure => simp [intOf]; omega
    · go_wp2
      go_ret
      exact ⟨_, xs, rfl, ⟨by have := HXL.out; omega, hok.out.2⟩, hown.out.d hd1 hl, hd.trans hd1⟩
end Go.Proofs.YtkkbhhmhkpgbkaaGreat
namespace Go.Proofs.YtkkbhhmhkpgbkaaGreat
open Go.RowKit
set_option linter.unusedVariables false
def Cd (w : World) (v : Value) : Prop := ∃ (n : Nat) (bs : List Int), Rd w v 1 n (bs.map (Value.int .u8)) ∧ n ≤ 1048576
theorem Cd.grew {w w' : World} {v : Value} (h : Cd w v) (hg : Grew w w') : Cd w' v := by
  obtain ⟨n, bs, h1, h2⟩ := h
  exact ⟨n, bs, h1.grew hg, h2⟩
theorem D.out {g : Nat} {a b c : World} (h : Grew a b) (k : D g b c) (hl : a.heap.size ≤ g) : Grew a c := k.2.1.new h hl
theorem GLr.get {w : World} {base : Nat} {v : Value} {xs : List Rs} (h : GLr w base v xs) : ∃ a c ps, v = .slice a xs.length c ∧ w.ownsRow base 86 2 v xs.length (rows P2.c ps) ∧ All2 (Rs.O w base w.heap.size) xs ps := by
  obtain ⟨a, c, rfl⟩ := h.slice
  obtain ⟨ps, h1, h2⟩ := h
  exact ⟨a, c, ps, rfl, h1, h2⟩
end Go.Proofs.YtkkbhhmhkpgbkaaGreat
namespace Go.Proofs.YtkkbhhmhkpgbkaaGreat
open Go.RowKit
set_option linter.unusedVariables false
end Go.Proofs.YtkkbhhmhkpgbkaaGreat
namespace Go.Proofs.YtkkbhhmhkpgbkaaGreat
open Go.RowKit
set_option linter.unusedVariables false
def dirsOk (n : Nat) (xs : List Dr) : Prop := xs.length ≤ n ∧ ∀ x, x ∈ xs → x.name.size ≤ 8 ∧ qOk 8 x.query
theorem Dr.O.tch (w w' : World) (lo hi a b : Nat) (x : Dr) (p : P2) (h : Dr.O w lo hi x p) (ht : Touch a b w w') (hd : hi ≤ a ∨ b ≤ lo) : Dr.O w' lo hi x p := h.touch ht hd
abbrev GLd (w : World) (base : Nat) (v : Value) (xs : List Dr) : Prop := GL P2.c 2 39 Dr.O w base v xs
theorem GLd.tch {w w' : World} {base a b : Nat} {v : Value} {xs : List Dr} (h : GLd w base v xs) (ht : Touch a b w w') (hd : b ≤ base) : GLd w' base v xs :=
  GL.touch Dr.O.tch (fun w lo hi hi' x p h k => h.mono (Nat.le_refl _) k) h ht hd
theorem GLd.d {g : Nat} {w w' : World} {base : Nat} {v : Value} {xs : List Dr} (h : GLd w base v xs) (hd : D g w w') (hg : g < base) : GLd w' base v xs := h.tch hd.2.1 hg
theorem GLd.rd {w : World} {base : Nat} {v : Value} {xs : List Dr} (h : GLd w base v xs) : RdDs w v xs := GL.rd (fun w lo hi x p h => h.rd) h
theorem GLd.base {w : World} {base base' : Nat} {v : Value} {xs : List Dr} (h : GLd w base v xs) (hb : base' ≤ base) : GLd w base' v xs := GL.base (fun w lo lo' hi x p h k => h.mono k (Nat.le_refl _)) h hb
theorem GLd.grew {w w' : World} {base : Nat} {v : Value} {xs : List Dr} (h : GLd w base v xs) (hg : Grew w w') : GLd w' base v xs := h.tch (hg.touch 0 0) (Nat.zero_le _)
theorem GLd.snoc {w w' : World} {base lo2 : Nat} {v v' : Value} {ds : List Dr} {d : Dr} {ps : List P2} {p : P2} (h1 : w.ownsRow base 39 2 v ds.length (rows P2.c ps)) (h2 : All2 (Dr.O w base w.heap.size) ds ps)
    (hp : Dr.O w lo2 w.heap.size d p) (hb : base ≤ lo2)
    (hown : w'.ownsRow base 39 2 v' (ds.length + 1) (rows P2.c ps ++ P2.c p)) (hg : w.grownBy w' v.ownBlock) (hs : w.heap.size ≤ w'.heap.size) : GLd w' base v' (ds ++ [d]) := by
  refine ⟨ps ++ [p], ?_, ?_⟩
  · rw [List.length_append, rows_append]; simpa [rows] using hown
  · refine All2.snoc (h2.mono fun x q hr => ?_) ?_
    · exact ⟨hr.1, (own_grown hr.2 h1 (by decide) hg).mono (Nat.le_refl _) hs⟩
    · exact ⟨hp.1, (own_grown hp.2 h1 (by decide) hg).mono hb hs⟩
set_option maxRecDepth 100000 in
set_option maxHeartbeats 2000000 in
theorem l11Dirs (g : Nat) (w : World) (hc : Cur w g) :
    Calls Tryz.prog 81 #[.pointer (some ⟨g, 0, none⟩)] w fun e w' => ∃ v, e = .returned v ∧ ∃ xs, 0 < xs.length ∧ dirsOk 4 xs ∧ GLd w' w.heap.size v xs ∧ D g w w' := by
  obtain ⟨i0, hi, hz0, hz1, hz2⟩ := info_parts Tryz.infoDr
  have hl := hc.lt
  go_enter Tryz.func81, Tryz.ntmps81
  go_wp2
  go_loopw [3, 4] (fun v i wr => ∃ (k : Nat) (xs : List Dr), k ≤ 4 ∧ i = .int .i64 k ∧ Hid (xs.length = k ∧ ∀ x, x ∈ xs → x.name.size ≤ 8 ∧ qOk 8 x.query) ∧ Hid (GLd wr w.heap.size v xs) ∧ D g w wr) (fun _ i _ => 8 - (intOf i).toNat)
  case atStart => exact ⟨0, [], by omega, rfl, Lib.hid ⟨rfl, by simp⟩, Lib.hid ⟨[], lit_own w _ 2, All2.nil⟩, (D.refl hc).alloc _⟩
  case round =>
    obtain ⟨k, xs, hk, rfl, hok, hown, hd⟩ := hrel
    have HXL := Lib.hid hok.out.1
    obtain ⟨va, vc, rfl⟩ : ∃ a c, u3 = .slice a k c := by have h := hown.out.slice; rw [HXL.out] at h; exact h
    go_wp2_with fail
    refine (l01Below g _ hd.cur 4 (by decide) (by decide)).mono ?_
    rintro e w1 ⟨b, rfl, hb, hd1⟩
    by_cases hlt : (k : Int) < 1 + b
    · obtain ⟨nm, hnm, hns⟩ := names_at k (by omega)
      have HNS := Lib.hid hns
      have hk4 : (k : Int) < 4 := by omega
      have hk0 : (0 : Int) ≤ k := by omega
      have hdd := hd.trans hd1
      have hG1 := Lib.hid (hown.out.d hd1 hl)
      have hcell : ∀ W : World, (W.alloc (.cells #[.string ⟨#[100, 97]⟩, .string ⟨#[100, 98]⟩, .string ⟨#[100, 99]⟩, .string ⟨#[100, 100]⟩] 9)).cell? ⟨W.heap.size, k, none⟩ = some (.string nm) := fun W => by rw [World.cell?_alloc_at (w := W) _ _ W.heap.size k rfl]; exact hnm
      clear hown hnm hns
      go_wp2_with fail
      refine wp_region_noPanic ?_
      refine wp_region_held_drew (S := (fun w' => D g w w')) (by kernel_rfl) ?h1_S ?h1_r
      case h1_S => exact hdd.drew
      case h1_r =>
       intro HS
       first | refine sk' 0 HS ?_ | refine tk' 0 HS ?_
       first | refine sk' 2 HS ?_ | refine tk' 2 HS ?_
       first | refine sk' 5 HS ?_ | refine tk' 5 HS ?_
       refine cl2 1 6 rfl rfl (by kernel_rfl) (fun K hK => ?a1_4_) (fun K hK => ?b1_4_)
       case a1_4_ =>
        rw [if_pos (by rfl)]
        go_simp
        refine hK.out _ _ ?s1_5_ ?r1_5_
        case s1_5_ => exact HS.alloc _
        case r1_5_ =>
         clear HS hK K; intro HS
         try simp only [Act.put, lpa, lpb, lpc]
         first | refine sk' 3 HS ?_ | refine tk' 3 HS ?_
         refine cl2 4 6 rfl rfl (by kernel_rfl) (fun K hK => ?a1_7_) (fun K hK => ?b1_7_)
         case a1_7_ =>
          rw [if_pos (by rfl)]
          go_simp
          refine hK.out _ _ ?s1_8_ ?r1_8_
          case s1_8_ => exact HS
          case r1_8_ =>
           clear HS hK K; intro HS
           try simp only [Act.put, lpa, lpb, lpc]
           refine cl' 6 fun K hK => ?_
           rw [if_pos (by rfl)]
           go_simp
           go_at_call 119
           refine (l09Question g _ HS.cur).mono ?_
           rintro e w2 ⟨v2, rfl, ys, hv2, _, hys7, hd2⟩
           have hys := hys7.mono (show 7 ≤ 8 by decide)
           obtain ⟨ya, yc, rfl⟩ := own_slice hv2
           have HV2 := Lib.hid hv2
           have HYS := Lib.hid hys
           clear hv2 hys hys7
           refine hK.out _ _ ?s1_9_ ?r1_9_
           case s1_9_ => exact HS.trans hd2
           case r1_9_ =>
            have hGL := Lib.hid ((hG1.out.grew ((Grew.refl w1).alloc (.cells #[.string ⟨#[100, 97]⟩, .string ⟨#[100, 98]⟩, .string ⟨#[100, 99]⟩, .string ⟨#[100, 100]⟩] 9)).drew).d hd2 hl)
            have HVL := Lib.hid HV2.out
            clear HS hK K; intro HS
            try simp only [Act.put, lpa, lpb, lpc]
            first | refine sk' 7 HS ?_ | refine tk' 7 HS ?_
            refine cl' 8 fun K hK => ?_
            rw [if_pos (by rfl)]
            go_simp
            refine hK.out _ _ ?s1_11_ ?r1_11_
            case s1_11_ => exact HS.alloc _
            case r1_11_ =>
             clear HS hK K; intro HS
             try simp only [Act.put, lpa, lpb, lpc]
             refine cl' 9 fun K hK => ?_
             rw [if_pos (by rfl)]
             obtain ⟨ps, ho, hall⟩ := hGL.out
             rw [HXL.out] at ho
             have HPS := Lib.hid (ownsRow_grew ho ((Grew.refl _).alloc (.cells #[.string nm, .slice ya ys.length yc] 39)))
             have HALL := Lib.hid (hall.mono fun x q h => (h.grew ((Grew.refl _).alloc (.cells #[.string nm, .slice ya ys.length yc] 39))).mono (Nat.le_refl _) ((Grew.refl _).alloc (.cells #[.string nm, .slice ya ys.length yc] 39)).size)
             have HY4 := Lib.hid (ownsRow_base (base' := w.heap.size) (ownsRow_grew HVL.out ((Grew.refl _).alloc (.cells #[.string nm, .slice ya ys.length yc] 39))) (by have := hdd.size; simp at this ⊢; omega))
             clear ho hall
             refine wp_append_own _ _ _ 28 rfl w.heap.size 39 i0 _ 2 40 Tryz.underlying28 hi hz0 hz1 hz2 rfl (by decide) _ _ _ rfl HPS.out ⟨_, 0, none⟩ 1 1 [.string nm, .slice ya ys.length yc] rfl rfl (lit_news (by simp)) (fun x hx => by simp at hx; rcases hx with rfl | rfl <;> rfl) (by unfold maxLen; omega) (by omega) (by have := HS.size; simp at this ⊢; omega) ?_
             intro v' w' hown' hgr2 _
             have HD4 := Lib.hid (HS.grown hgr2 (fun j h => (HPS.out.lt j h).1))
             have HGR := Lib.hid hgr2
             have HO4 := Lib.hid hown'
             clear hown' hgr2
             refine hK.out _ _ ?s1_12_ ?r1_12_
             case s1_12_ => exact HD4.out
             case r1_12_ =>
              clear HS hK K; intro HS
              try simp only [Act.put, lpa, lpb, lpc]
              first | refine sk' 10 HS ?_ | refine tk' 10 HS ?_
              refine wpAnyH_done (by kernel_rfl) ?_ _
              refine NoPanic.normal ?_
              clear HS
              go_wp2
              go_roundw
              case rel =>
                refine ⟨k + 1, xs ++ [⟨nm, ys⟩], by omega, by go_num, Lib.hid ⟨by simp [HXL.out], fun x hx => ?_⟩, Lib.hid ?_, HD4.out⟩
                · rw [List.mem_append] at hx; rcases hx with hx | hx
                  · exact hok.out.2 x hx
                  · simp at hx; subst hx; exact ⟨by have := HNS.out; simp only; omega, HYS.out⟩
                · refine GLd.snoc (lo2 := w.heap.size) (p := ⟨nm, .slice ya ys.length yc⟩) (by rw [HXL.out]; exact HPS.out) HALL.out ⟨rfl, ?_⟩ (Nat.le_refl _) ?_ HGR.out HGR.out.size
                  · exact own_of HY4.out
                  · rw [HXL.out]; simpa [P2.c] using HO4.out
              case measure => simp [intOf]; omega
         case b1_7_ =>
          rw [if_pos (by rfl)]
          go_simp
          go_at_call 119
          refine (l09Question g _ HS.cur).mono ?_
          rintro e w2 ⟨v2, rfl, ys, hv2, _, hys7, hd2⟩
          have hys := hys7.mono (show 7 ≤ 8 by decide)
          obtain ⟨ya, yc, rfl⟩ := own_slice hv2
          have HV2 := Lib.hid hv2
          have HYS := Lib.hid hys
          clear hv2 hys hys7
          have c2 := hd2.cell (p := ⟨w1.heap.size, k, none⟩) (u := .string nm) (hcell w1) (by have := hdd.size; simp; omega)
          refine hK.out _ _ ?s1_14_ ?r1_14_
          case s1_14_ => exact HS.trans hd2
          case r1_14_ =>
           have hGL := Lib.hid ((hG1.out.grew ((Grew.refl w1).alloc (.cells #[.string ⟨#[100, 97]⟩, .string ⟨#[100, 98]⟩, .string ⟨#[100, 99]⟩, .string ⟨#[100, 100]⟩] 9)).drew).d hd2 hl)
           have HVL := Lib.hid HV2.out
           clear HS hK K; intro HS
           try simp only [Act.put, lpa, lpb, lpc]
           refine cl' 4 fun K hK => ?_
           rw [if_pos (by rfl)]
           go_simp
           refine hK.out _ _ ?s1_15_ ?r1_15_
           case s1_15_ => exact HS
           case r1_15_ =>
            clear HS hK K; intro HS
            try simp only [Act.put, lpa, lpb, lpc]
            first | refine sk' 7 HS ?_ | refine tk' 7 HS ?_
            refine cl' 8 fun K hK => ?_
            rw [if_pos (by rfl)]
            go_simp
            refine hK.out _ _ ?s1_17_ ?r1_17_
            case s1_17_ => exact HS.alloc _
            case r1_17_ =>
             clear HS hK K; intro HS
             try simp only [Act.put, lpa, lpb, lpc]
             refine cl' 9 fun K hK => ?_
             rw [if_pos (by rfl)]
             obtain ⟨ps, ho, hall⟩ := hGL.out
             rw [HXL.out] at ho
             have HPS := Lib.hid (ownsRow_grew ho ((Grew.refl _).alloc (.cells #[.string nm, .slice ya ys.length yc] 39)))
             have HALL := Lib.hid (hall.mono fun x q h => (h.grew ((Grew.refl _).alloc (.cells #[.string nm, .slice ya ys.length yc] 39))).mono (Nat.le_refl _) ((Grew.refl _).alloc (.cells #[.string nm, .slice ya ys.length yc] 39)).size)
             have HY4 := Lib.hid (ownsRow_base (base' := w.heap.size) (ownsRow_grew HVL.out ((Grew.refl _).alloc (.cells #[.string nm, .slice ya ys.length yc] 39))) (by have := hdd.size; simp at this ⊢; omega))
             clear ho hall
             refine wp_append_own _ _ _ 28 rfl w.heap.size 39 i0 _ 2 40 Tryz.underlying28 hi hz0 hz1 hz2 rfl (by decide) _ _ _ rfl HPS.out ⟨_, 0, none⟩ 1 1 [.string nm, .slice ya ys.length yc] rfl rfl (lit_news (by simp)) (fun x hx => by simp at hx; rcases hx with rfl | rfl <;> rfl) (by unfold maxLen; omega) (by omega) (by have := HS.size; simp at this ⊢; omega) ?_
             intro v' w' hown' hgr2 _
             have HD4 := Lib.hid (HS.grown hgr2 (fun j h => (HPS.out.lt j h).1))
             have HGR := Lib.hid hgr2
             have HO4 := Lib.hid hown'
             clear hown' hgr2
             refine hK.out _ _ ?s1_18_ ?r1_18_
             case s1_18_ => exact HD4.out
             case r1_18_ =>
              clear HS hK K; intro HS
              try simp only [Act.put, lpa, lpb, lpc]
              first | refine sk' 10 HS ?_ | refine tk' 10 HS ?_
              refine wpAnyH_done (by kernel_rfl) ?_ _
              refine NoPanic.normal ?_
              clear HS
              go_wp2
              go_roundw
              case rel =>
                refine ⟨k + 1, xs ++ [⟨nm, ys⟩], by omega, by go_num, Lib.hid ⟨by simp [HXL.out], fun x hx => ?_⟩, Lib.hid ?_, HD4.out⟩
                · rw [List.mem_append] at hx; rcases hx with hx | hx
                  · exact hok.out.2 x hx
                  · simp at hx; subst hx; exact ⟨by have := HNS.out; simp only; omega, HYS.out⟩
                · refine GLd.snoc (lo2 := w.heap.size) (p := ⟨nm, .slice ya ys.length yc⟩) (by rw [HXL.out]; exact HPS.out) HALL.out ⟨rfl, ?_⟩ (Nat.le_refl _) ?_ HGR.out HGR.out.size
                  · exact own_of HY4.out
                  · rw [HXL.out]; simpa [P2.c] using HO4.out
              case measure => simp [intOf]; omega
       case b1_4_ =>
        rw [if_pos (by rfl)]
        go_simp
        go_at_call 119
        refine (l09Question g _ HS.cur).mono ?_
        rintro e w2 ⟨v2, rfl, ys, hv2, _, hys7, hd2⟩
        have hys := hys7.mono (show 7 ≤ 8 by decide)
        obtain ⟨ya, yc, rfl⟩ := own_slice hv2
        have HV2 := Lib.hid hv2
        have HYS := Lib.hid hys
        clear hv2 hys hys7
        refine hK.out _ _ ?s1_20_ ?r1_20_
        case s1_20_ => exact HS.trans hd2
        case r1_20_ =>
         clear HS hK K; intro HS
         try simp only [Act.put, lpa, lpb, lpc]
         refine cl' 1 fun K hK => ?_
         rw [if_pos (by rfl)]
         go_simp
         refine hK.out _ _ ?s1_21_ ?r1_21_
         case s1_21_ => exact HS.alloc _
         case r1_21_ =>
          have hGL := Lib.hid (((hG1.out.grew (Grew.refl w1).drew).d hd2 hl).grew ((Grew.refl _).alloc (.cells #[.string ⟨#[100, 97]⟩, .string ⟨#[100, 98]⟩, .string ⟨#[100, 99]⟩, .string ⟨#[100, 100]⟩] 9)))
          have HVL := Lib.hid (ownsRow_grew HV2.out ((Grew.refl _).alloc (.cells #[.string ⟨#[100, 97]⟩, .string ⟨#[100, 98]⟩, .string ⟨#[100, 99]⟩, .string ⟨#[100, 100]⟩] 9)))
          clear HS hK K; intro HS
          try simp only [Act.put, lpa, lpb, lpc]
          first | refine sk' 3 HS ?_ | refine tk' 3 HS ?_
          refine cl' 4 fun K hK => ?_
          rw [if_pos (by rfl)]
          go_simp
          refine hK.out _ _ ?s1_23_ ?r1_23_
          case s1_23_ => exact HS
          case r1_23_ =>
           clear HS hK K; intro HS
           try simp only [Act.put, lpa, lpb, lpc]
           first | refine sk' 7 HS ?_ | refine tk' 7 HS ?_
           refine cl' 8 fun K hK => ?_
           rw [if_pos (by rfl)]
           go_simp
           refine hK.out _ _ ?s1_25_ ?r1_25_
           case s1_25_ => exact HS.alloc _
           case r1_25_ =>
            clear HS hK K; intro HS
            try simp only [Act.put, lpa, lpb, lpc]
            refine cl' 9 fun K hK => ?_
            rw [if_pos (by rfl)]
            obtain ⟨ps, ho, hall⟩ := hGL.out
            rw [HXL.out] at ho
            have HPS := Lib.hid (ownsRow_grew ho ((Grew.refl _).alloc (.cells #[.string nm, .slice ya ys.length yc] 39)))
            have HALL := Lib.hid (hall.mono fun x q h => (h.grew ((Grew.refl _).alloc (.cells #[.string nm, .slice ya ys.length yc] 39))).mono (Nat.le_refl _) ((Grew.refl _).alloc (.cells #[.string nm, .slice ya ys.length yc] 39)).size)
            have HY4 := Lib.hid (ownsRow_base (base' := w.heap.size) (ownsRow_grew HVL.out ((Grew.refl _).alloc (.cells #[.string nm, .slice ya ys.length yc] 39))) (by have := hdd.size; simp at this ⊢; omega))
            clear ho hall
            refine wp_append_own _ _ _ 28 rfl w.heap.size 39 i0 _ 2 40 Tryz.underlying28 hi hz0 hz1 hz2 rfl (by decide) _ _ _ rfl HPS.out ⟨_, 0, none⟩ 1 1 [.string nm, .slice ya ys.length yc] rfl rfl (lit_news (by simp)) (fun x hx => by simp at hx; rcases hx with rfl | rfl <;> rfl) (by unfold maxLen; omega) (by omega) (by have := HS.size; simp at this ⊢; omega) ?_
            intro v' w' hown' hgr2 _
            have HD4 := Lib.hid (HS.grown hgr2 (fun j h => (HPS.out.lt j h).1))
            have HGR := Lib.hid hgr2
            have HO4 := Lib.hid hown'
            clear hown' hgr2
            refine hK.out _ _ ?s1_26_ ?r1_26_
            case s1_26_ => exact HD4.out
            case r1_26_ =>
             clear HS hK K; intro HS
             try simp only [Act.put, lpa, lpb, lpc]
             first | refine sk' 10 HS ?_ | refine tk' 10 HS ?_
             refine wpAnyH_done (by kernel_rfl) ?_ _
             refine NoPanic.normal ?_
             clear HS
             go_wp2
             go_roundw
             case rel =>
               refine ⟨k + 1, xs ++ [⟨nm, ys⟩], by omega, by go_num, Lib.hid ⟨by simp [HXL.out], fun x hx => ?_⟩, Lib.hid ?_, HD4.out⟩
               · rw [List.mem_append] at hx; rcases hx with hx | hx
                 · exact hok.out.2 x hx
                 · simp at hx; subst hx; exact ⟨by have := HNS.out; simp only; omega, HYS.out⟩
               · refine GLd.snoc (lo2 := w.heap.size) (p := ⟨nm, .slice ya ys.length yc⟩) (by rw [HXL.out]; exact HPS.out) HALL.out ⟨rfl, ?_⟩ (Nat.le_refl _) ?_ HGR.out HGR.out.size
                 · exact own_of HY4.out
                 · rw [HXL.out]; simpa [P2.c] using HO4.out
             case measure => simp [intOf]; omega
    · go_wp2
      go_ret
      exact ⟨_, rfl, xs, by have := HXL.out; omega, ⟨by have := HXL.out; omega, hok.out.2⟩, hown.out.d hd1 hl, hd.trans hd1⟩
theorem GLd.put {w : World} {base g n cap i j : Nat} {xs : List Dr} {ps : List P2} {p p' : P2} {y : Dr} {u : Value} (h1 : w.ownsRow base 39 2 (.slice (some ⟨g, 0, none⟩) n cap) n (rows P2.c ps)) (h2 : All2 (Dr.O w base w.heap.size) xs ps) (hn : xs.length = n)
    (hp : ps[i]? = some p) (hj : j < 2) (hc : P2.c p' = (P2.c p).set j u) (hy : Dr.O w base w.heap.size y p') : GLd (w.setCell ⟨g, i * 2 + j, none⟩ u) base (.slice (some ⟨g, 0, none⟩) n cap) (xs.set i y) := by
  have ht : Touch g (g + 1) w (w.setCell ⟨g, i * 2 + j, none⟩ u) := Touch.setCell (p := ⟨g, i * 2 + j, none⟩) (Touch.refl g (g + 1) w) (Nat.le_refl g) (Nat.lt_succ_self g) _
  have T : ∀ x q, Dr.O w base w.heap.size x q → Dr.O (w.setCell ⟨g, i * 2 + j, none⟩ u) base (w.setCell ⟨g, i * 2 + j, none⟩ u).heap.size x q := fun x q hq => by
    have h6 := hq.touch' ht (fun v c hv hc => by
      simp only [Dr.subs, List.mem_cons, List.not_mem_nil, or_false] at hv
      subst hv
      have h7 := own_type hq.2.1 h1 (by decide) hc
      have h8 : c ≠ g := fun e => h7 (by rw [e]; rfl)
      omega)
    exact h6.mono (Nat.le_refl _) (by simp)
  refine ⟨ps.set i p', ?_, (h2.mono T).set i y p' (T _ _ hy)⟩
  have e := ownsRow_stores h1 (i * 2 + j) u
  rw [rows_set1 P2.len ps i j p p' u hp hj hc] at e
  rw [List.length_set, hn]; exact e
theorem dirsOk.set {n : Nat} {xs : List Dr} (h : dirsOk n xs) {i : Nat} {y : Dr} (hy : y.name.size ≤ 8 ∧ qOk 8 y.query) : dirsOk n (xs.set i y) :=
  ⟨by rw [List.length_set]; exact h.1, fun z hz => by
    rcases List.mem_or_eq_of_mem_set hz with hz | rfl
    · exact h.2 z hz
    · exact hy⟩
theorem dirsOk.mono {n m : Nat} {xs : List Dr} (h : dirsOk n xs) (hm : n ≤ m) : dirsOk m xs := ⟨Nat.le_trans h.1 hm, h.2⟩
theorem names6_at (k : Nat) (h : k < 6) : ∃ x : ByteArray, (#[Value.string ⟨#[100, 97]⟩, .string ⟨#[100, 98]⟩, .string ⟨#[100, 99]⟩, .string ⟨#[100, 100]⟩, .string ⟨#[100, 101]⟩, .string ⟨#[100, 102]⟩] : Array Value)[k]? = some (.string x) ∧ x.size = 2 := by
  have : k = 0 ∨ k = 1 ∨ k = 2 ∨ k = 3 ∨ k = 4 ∨ k = 5 := by omega
  rcases this with rfl | rfl | rfl | rfl | rfl | rfl <;> exact ⟨_, rfl, rfl⟩
def lenV : Value → Nat
  | .slice _ n _ => n
  | _ => 0
set_option maxRecDepth 100000 in
set_option maxHeartbeats 4000000 in
theorem l11Any (g : Nat) (w : World) (hc : Cur w g) :
    Calls Tryz.prog 90 #[.pointer (some ⟨g, 0, none⟩)] w fun e w' => ∃ v, e = .returned v ∧ ∃ xs, dirsOk 6 xs ∧ GLd w' w.heap.size v xs ∧ D g w w' := by
  obtain ⟨i0, hi, hz0, hz1, hz2⟩ := info_parts Tryz.infoDr
  have hl := hc.lt
  go_enter Tryz.func90, Tryz.ntmps90
  go_wp2_with fail
  refine (l11Dirs g _ hc).mono ?_
  rintro e w1 ⟨v, rfl, xs, hpos, hok, hgl, d1⟩
  have hxl := hok.1
  have HOK := Lib.hid (hok.mono (show 4 ≤ 6 by decide))
  obtain ⟨gb, qc, rfl⟩ : ∃ gb qc, v = .slice (some ⟨gb, 0, none⟩) xs.length qc := by
    obtain ⟨ps, ho, _⟩ := hgl
    rcases ho.2 with ⟨_, h0⟩ | ⟨b, cap, cur, h, _⟩
    · omega
    · exact ⟨b, cap, h⟩
  have hgb : w.heap.size ≤ gb := by obtain ⟨ps, ho, _⟩ := hgl; exact (ho.lt gb rfl).1
  have hne : gb ≠ g := by omega
  have H1 := Lib.hid hgl
  clear hgl hok
  go_wp2_with fail
  refine (l01Below g _ d1.cur xs.length (by omega) (by omega)).mono ?_
  rintro e w2 ⟨k0, rfl, hk, e2⟩
  obtain ⟨k, rfl⟩ : ∃ k : Nat, k0 = k := ⟨k0.toNat, by omega⟩
  have hkx : k < xs.length := by omega
  have d2 := d1.trans e2
  have H2 := Lib.hid (H1.out.d e2 hl)
  go_wp2_with fail
  refine (l01Below g _ d2.cur 10 (by omega) (by omega)).mono ?_
  rintro e w3 ⟨x, rfl, hx, e3⟩
  have d3 := d2.trans e3
  have H3 := Lib.hid (H2.out.d e3 hl)
  have hki : (k : Int) < (xs.length : Int) := by omega
  have hki0 : (0 : Int) ≤ (k : Int) := by omega
  have hxs : x = 0 ∨ x = 1 ∨ x = 2 ∨ x = 3 ∨ 4 ≤ x := by omega
  rcases hxs with rfl | rfl | rfl | rfl | hx4
  · go_wp2_with fail
    refine (l01Pick g _ (d3.alloc _).cur _ 4 [⟨#[]⟩, ⟨#[65]⟩, ⟨#[122, 122]⟩, ⟨#[97, 98, 99, 100, 101, 102, 103]⟩] (lit_rd _ #[.string ⟨#[]⟩, .string ⟨#[65]⟩, .string ⟨#[122, 122]⟩, .string ⟨#[97, 98, 99, 100, 101, 102, 103]⟩] 9 1 4 4 rfl (Nat.le_refl _)) (cur_ne d3.cur) (by decide) (by decide)).mono ?_
    rintro e w4 ⟨nm, rfl, hm, e4⟩
    have hnm : nm.size ≤ 8 := by simp at hm; rcases hm with rfl | rfl | rfl | rfl <;> decide
    have d4 := (d3.alloc _).trans e4
    have H4 := Lib.hid ((H3.out.grew ((Grew.refl _).alloc _)).d e4 hl)
    obtain ⟨ps, ho, hall⟩ := H4.out
    obtain ⟨p, hpk, c0, c1⟩ := ownP2 ho hkx
    obtain ⟨y, hyk, hyr⟩ := hall.get hpk.out
    have hfz := ho.frozenAt
    have HP := Lib.hid ho
    have HA := Lib.hid hall
    have HY := Lib.hid hyr
    clear ho hall hyr hm
    go_wp2
    go_ret
    have h1 := GLd.put (j := 0) (u := .string nm) (p' := ⟨nm, p.q⟩) (y := ⟨nm, y.query⟩) HP.out HA.out rfl hpk.out (by decide) rfl ⟨rfl, HY.out.2⟩
    exact ⟨_, rfl, xs.set k ⟨nm, y.query⟩, HOK.out.set ⟨hnm, (HOK.out.2 y (List.mem_of_getElem? hyk.out)).2⟩, by simpa using h1, d4.setCell (by dsimp only; omega) _⟩
  · go_wp2_with fail
    refine (l09Any g _ d3.cur).mono ?_
    rintro e w4 ⟨q, rfl, ys, hq, hqo, e4⟩
    have d4 := d3.trans e4
    have H4 := Lib.hid (H3.out.d e4 hl)
    have HQ := Lib.hid hq
    obtain ⟨qa, qc2, rfl⟩ := own_slice hq
    obtain ⟨ps, ho, hall⟩ := H4.out
    obtain ⟨p, hpk, c0, c1⟩ := ownP2 ho hkx
    obtain ⟨y, hyk, hyr⟩ := hall.get hpk.out
    have hfz := ho.frozenAt
    have HP := Lib.hid ho
    have HA := Lib.hid hall
    have HY := Lib.hid hyr
    have hs3 := d3.size
    clear ho hall hyr hq
    go_wp2
    go_ret
    have h1 := GLd.put (j := 1) (u := .slice qa ys.length qc2) (p' := ⟨p.name, .slice qa ys.length qc2⟩) (y := ⟨y.name, ys⟩) HP.out HA.out rfl hpk.out (by decide) rfl ⟨HY.out.1, (own_of HQ.out).mono hs3 (Nat.le_refl _)⟩
    exact ⟨_, rfl, xs.set k ⟨y.name, ys⟩, HOK.out.set ⟨(HOK.out.2 y (List.mem_of_getElem? hyk.out)).1, hqo⟩, h1, d4.setCell (by dsimp only; omega) _⟩
  · have hl0 := hxl
    clear hki hki0 hkx hk
    go_wp2
    go_loopw [3] (fun v wr => ∃ (m : Nat) (ys : List Dr) (a : Option Addr) (c : Nat), m ≤ 6 ∧ v = .slice a m c ∧ Hid (ys.length = m ∧ ∀ x, x ∈ ys → x.name.size ≤ 8 ∧ qOk 8 x.query) ∧ Hid (GLd wr w.heap.size (.slice a m c) ys) ∧ D g w wr) (fun v _ => 8 - lenV v)
    case atStart => exact ⟨xs.length, xs, _, qc, by omega, rfl, Lib.hid ⟨rfl, HOK.out.2⟩, H3.out, d3⟩
    case round =>
      obtain ⟨k, xs, va, vc, hk, rfl, hok, hown, hd⟩ := hrel
      have HXL := Lib.hid hok.out.1
      go_wp2_with fail
      refine (l01Below g _ hd.cur 2 (by decide) (by decide)).mono ?_
      rintro e w1 ⟨b, rfl, hb, hd1⟩
      by_cases hlt : (k : Int) < 5 + b
      · obtain ⟨nm, hnm, hns⟩ := names6_at k (by omega)
        have HNS := Lib.hid hns
        have hk4 : (k : Int) < 6 := by omega
        have hk0 : (0 : Int) ≤ k := by omega
        have hdd := hd.trans hd1
        have hG1 := Lib.hid (hown.out.d hd1 hl)
        have hcell : ∀ W : World, (W.alloc (.cells #[.string ⟨#[100, 97]⟩, .string ⟨#[100, 98]⟩, .string ⟨#[100, 99]⟩, .string ⟨#[100, 100]⟩, .string ⟨#[100, 101]⟩, .string ⟨#[100, 102]⟩] 9)).cell? ⟨W.heap.size, k, none⟩ = some (.string nm) := fun W => by rw [World.cell?_alloc_at (w := W) _ _ W.heap.size k rfl]; exact hnm
        clear hown hnm hns
        go_wp2_with fail
        refine wp_region_noPanic ?_
        refine wp_region_held_drew (S := (fun w' => D g w w')) (by kernel_rfl) ?h2_S ?h2_r
        case h2_S => exact hdd.drew
        case h2_r =>
         intro HS
         first | refine sk' 0 HS ?_ | refine tk' 0 HS ?_
         first | refine sk' 2 HS ?_ | refine tk' 2 HS ?_
         first | refine sk' 3 HS ?_ | refine tk' 3 HS ?_
         first | refine sk' 6 HS ?_ | refine tk' 6 HS ?_
         refine cl2 1 7 rfl rfl (by kernel_rfl) (fun K hK => ?a2_5_) (fun K hK => ?b2_5_)
         case a2_5_ =>
          rw [if_pos (by rfl)]
          go_simp
          refine hK.out _ _ ?s2_6_ ?r2_6_
          case s2_6_ => exact HS.alloc _
          case r2_6_ =>
           clear HS hK K; intro HS
           try simp only [Act.put, lpa, lpb, lpc]
           first | refine sk' 4 HS ?_ | refine tk' 4 HS ?_
           refine cl2 5 7 rfl rfl (by kernel_rfl) (fun K hK => ?a2_8_) (fun K hK => ?b2_8_)
           case a2_8_ =>
            rw [if_pos (by rfl)]
            go_simp
            refine hK.out _ _ ?s2_9_ ?r2_9_
            case s2_9_ => exact HS
            case r2_9_ =>
             clear HS hK K; intro HS
             try simp only [Act.put, lpa, lpb, lpc]
             refine cl' 7 fun K hK => ?_
             rw [if_pos (by rfl)]
             go_simp
             go_at_call 119
             refine (l09Question g _ HS.cur).mono ?_
             rintro e w2 ⟨v2, rfl, ys, hv2, _, hys7, hd2⟩
             have hys := hys7.mono (show 7 ≤ 8 by decide)
             obtain ⟨ya, yc, rfl⟩ := own_slice hv2
             have HV2 := Lib.hid hv2
             have HYS := Lib.hid hys
             clear hv2 hys hys7
             refine hK.out _ _ ?s2_10_ ?r2_10_
             case s2_10_ => exact HS.trans hd2
             case r2_10_ =>
              have hGL := Lib.hid ((hG1.out.grew ((Grew.refl w1).alloc (.cells #[.string ⟨#[100, 97]⟩, .string ⟨#[100, 98]⟩, .string ⟨#[100, 99]⟩, .string ⟨#[100, 100]⟩, .string ⟨#[100, 101]⟩, .string ⟨#[100, 102]⟩] 9)).drew).d hd2 hl)
              have HVL := Lib.hid HV2.out
              clear HS hK K; intro HS
              try simp only [Act.put, lpa, lpb, lpc]
              first | refine sk' 8 HS ?_ | refine tk' 8 HS ?_
              refine cl' 9 fun K hK => ?_
              rw [if_pos (by rfl)]
              go_simp
              refine hK.out _ _ ?s2_12_ ?r2_12_
              case s2_12_ => exact HS.alloc _
              case r2_12_ =>
               clear HS hK K; intro HS
               try simp only [Act.put, lpa, lpb, lpc]
               refine cl' 10 fun K hK => ?_
               rw [if_pos (by rfl)]
               obtain ⟨ps, ho, hall⟩ := hGL.out
               rw [HXL.out] at ho
               have HPS := Lib.hid (ownsRow_grew ho ((Grew.refl _).alloc (.cells #[.string nm, .slice ya ys.length yc] 39)))
               have HALL := Lib.hid (hall.mono fun x q h => (h.grew ((Grew.refl _).alloc (.cells #[.string nm, .slice ya ys.length yc] 39))).mono (Nat.le_refl _) ((Grew.refl _).alloc (.cells #[.string nm, .slice ya ys.length yc] 39)).size)
               have HY4 := Lib.hid (ownsRow_base (base' := w.heap.size) (ownsRow_grew HVL.out ((Grew.refl _).alloc (.cells #[.string nm, .slice ya ys.length yc] 39))) (by have := hdd.size; simp at this ⊢; omega))
               clear ho hall
               refine wp_append_own _ _ _ 28 rfl w.heap.size 39 i0 _ 2 40 Tryz.underlying28 hi hz0 hz1 hz2 rfl (by decide) _ _ _ rfl HPS.out ⟨_, 0, none⟩ 1 1 [.string nm, .slice ya ys.length yc] rfl rfl (lit_news (by simp)) (fun x hx => by simp at hx; rcases hx with rfl | rfl <;> rfl) (by unfold maxLen; omega) (by omega) (by have := HS.size; simp at this ⊢; omega) ?_
               intro v' w' hown' hgr2 _
               have HD4 := Lib.hid (HS.grown hgr2 (fun j h => (HPS.out.lt j h).1))
               have HGR := Lib.hid hgr2
               have HO4 := Lib.hid hown'
               clear hown' hgr2
               refine hK.out _ _ ?s2_13_ ?r2_13_
               case s2_13_ => exact HD4.out
               case r2_13_ =>
                clear HS hK K; intro HS
                try simp only [Act.put, lpa, lpb, lpc]
                first | refine sk' 11 HS ?_ | refine tk' 11 HS ?_
                refine wpAnyH_done (by kernel_rfl) ?_ _
                refine NoPanic.normal ?_
                clear HS
                obtain ⟨va2, vc2, rfl⟩ := own_slice HO4.out
                go_wp2
                go_roundw
                case rel =>
                  refine ⟨k + 1, xs ++ [⟨nm, ys⟩], _, _, by omega, rfl, Lib.hid ⟨by simp [HXL.out], fun x hx => ?_⟩, Lib.hid ?_, HD4.out⟩
                  · rw [List.mem_append] at hx; rcases hx with hx | hx
                    · exact hok.out.2 x hx
                    · simp at hx; subst hx; exact ⟨by have := HNS.out; simp only; omega, HYS.out⟩
                  · refine GLd.snoc (lo2 := w.heap.size) (p := ⟨nm, .slice ya ys.length yc⟩) (by rw [HXL.out]; exact HPS.out) HALL.out ⟨rfl, ?_⟩ (Nat.le_refl _) ?_ HGR.out HGR.out.size
                    · exact own_of HY4.out
                    · rw [HXL.out]; simpa [P2.c] using HO4.out
                case measure => simp [lenV]; omega
           case b2_8_ =>
            rw [if_pos (by rfl)]
            go_simp
            go_at_call 119
            refine (l09Question g _ HS.cur).mono ?_
            rintro e w2 ⟨v2, rfl, ys, hv2, _, hys7, hd2⟩
            have hys := hys7.mono (show 7 ≤ 8 by decide)
            obtain ⟨ya, yc, rfl⟩ := own_slice hv2
            have HV2 := Lib.hid hv2
            have HYS := Lib.hid hys
            clear hv2 hys hys7
            have c2 := hd2.cell (p := ⟨w1.heap.size, k, none⟩) (u := .string nm) (hcell w1) (by have := hdd.size; simp; omega)
            refine hK.out _ _ ?s2_15_ ?r2_15_
            case s2_15_ => exact HS.trans hd2
            case r2_15_ =>
             have hGL := Lib.hid ((hG1.out.grew ((Grew.refl w1).alloc (.cells #[.string ⟨#[100, 97]⟩, .string ⟨#[100, 98]⟩, .string ⟨#[100, 99]⟩, .string ⟨#[100, 100]⟩, .string ⟨#[100, 101]⟩, .string ⟨#[100, 102]⟩] 9)).drew).d hd2 hl)
             have HVL := Lib.hid HV2.out
             clear HS hK K; intro HS
             try simp only [Act.put, lpa, lpb, lpc]
             refine cl' 5 fun K hK => ?_
             rw [if_pos (by rfl)]
             go_simp
             refine hK.out _ _ ?s2_16_ ?r2_16_
             case s2_16_ => exact HS
             case r2_16_ =>
              clear HS hK K; intro HS
              try simp only [Act.put, lpa, lpb, lpc]
              first | refine sk' 8 HS ?_ | refine tk' 8 HS ?_
              refine cl' 9 fun K hK => ?_
              rw [if_pos (by rfl)]
              go_simp
              refine hK.out _ _ ?s2_18_ ?r2_18_
              case s2_18_ => exact HS.alloc _
              case r2_18_ =>
               clear HS hK K; intro HS
               try simp only [Act.put, lpa, lpb, lpc]
               refine cl' 10 fun K hK => ?_
               rw [if_pos (by rfl)]
               obtain ⟨ps, ho, hall⟩ := hGL.out
               rw [HXL.out] at ho
               have HPS := Lib.hid (ownsRow_grew ho ((Grew.refl _).alloc (.cells #[.string nm, .slice ya ys.length yc] 39)))
               have HALL := Lib.hid (hall.mono fun x q h => (h.grew ((Grew.refl _).alloc (.cells #[.string nm, .slice ya ys.length yc] 39))).mono (Nat.le_refl _) ((Grew.refl _).alloc (.cells #[.string nm, .slice ya ys.length yc] 39)).size)
               have HY4 := Lib.hid (ownsRow_base (base' := w.heap.size) (ownsRow_grew HVL.out ((Grew.refl _).alloc (.cells #[.string nm, .slice ya ys.length yc] 39))) (by have := hdd.size; simp at this ⊢; omega))
               clear ho hall
               refine wp_append_own _ _ _ 28 rfl w.heap.size 39 i0 _ 2 40 Tryz.underlying28 hi hz0 hz1 hz2 rfl (by decide) _ _ _ rfl HPS.out ⟨_, 0, none⟩ 1 1 [.string nm, .slice ya ys.length yc] rfl rfl (lit_news (by simp)) (fun x hx => by simp at hx; rcases hx with rfl | rfl <;> rfl) (by unfold maxLen; omega) (by omega) (by have := HS.size; simp at this ⊢; omega) ?_
               intro v' w' hown' hgr2 _
               have HD4 := Lib.hid (HS.grown hgr2 (fun j h => (HPS.out.lt j h).1))
               have HGR := Lib.hid hgr2
               have HO4 := Lib.hid hown'
               clear hown' hgr2
               refine hK.out _ _ ?s2_19_ ?r2_19_
               case s2_19_ => exact HD4.out
               case r2_19_ =>
                clear HS hK K; intro HS
                try simp only [Act.put, lpa, lpb, lpc]
                first | refine sk' 11 HS ?_ | refine tk' 11 HS ?_
                refine wpAnyH_done (by kernel_rfl) ?_ _
                refine NoPanic.normal ?_
                clear HS
                obtain ⟨va2, vc2, rfl⟩ := own_slice HO4.out
                go_wp2
                go_roundw
                case rel =>
                  refine ⟨k + 1, xs ++ [⟨nm, ys⟩], _, _, by omega, rfl, Lib.hid ⟨by simp [HXL.out], fun x hx => ?_⟩, Lib.hid ?_, HD4.out⟩
                  · rw [List.mem_append] at hx; rcases hx with hx | hx
                    · exact hok.out.2 x hx
                    · simp at hx; subst hx; exact ⟨by have := HNS.out; simp only; omega, HYS.out⟩
                  · refine GLd.snoc (lo2 := w.heap.size) (p := ⟨nm, .slice ya ys.length yc⟩) (by rw [HXL.out]; exact HPS.out) HALL.out ⟨rfl, ?_⟩ (Nat.le_refl _) ?_ HGR.out HGR.out.size
                    · exact own_of HY4.out
                    · rw [HXL.out]; simpa [P2.c] using HO4.out
                case measure => simp [lenV]; omega
         case b2_5_ =>
          rw [if_pos (by rfl)]
          go_simp
          go_at_call 119
          refine (l09Question g _ HS.cur).mono ?_
          rintro e w2 ⟨v2, rfl, ys, hv2, _, hys7, hd2⟩
          have hys := hys7.mono (show 7 ≤ 8 by decide)
          obtain ⟨ya, yc, rfl⟩ := own_slice hv2
          have HV2 := Lib.hid hv2
          have HYS := Lib.hid hys
          clear hv2 hys hys7
          refine hK.out _ _ ?s2_21_ ?r2_21_
          case s2_21_ => exact HS.trans hd2
          case r2_21_ =>
           clear HS hK K; intro HS
           try simp only [Act.put, lpa, lpb, lpc]
           refine cl' 1 fun K hK => ?_
           rw [if_pos (by rfl)]
           go_simp
           refine hK.out _ _ ?s2_22_ ?r2_22_
           case s2_22_ => exact HS.alloc _
           case r2_22_ =>
            have hGL := Lib.hid (((hG1.out.grew (Grew.refl w1).drew).d hd2 hl).grew ((Grew.refl _).alloc (.cells #[.string ⟨#[100, 97]⟩, .string ⟨#[100, 98]⟩, .string ⟨#[100, 99]⟩, .string ⟨#[100, 100]⟩, .string ⟨#[100, 101]⟩, .string ⟨#[100, 102]⟩] 9)))
            have HVL := Lib.hid (ownsRow_grew HV2.out ((Grew.refl _).alloc (.cells #[.string ⟨#[100, 97]⟩, .string ⟨#[100, 98]⟩, .string ⟨#[100, 99]⟩, .string ⟨#[100, 100]⟩, .string ⟨#[100, 101]⟩, .string ⟨#[100, 102]⟩] 9)))
            clear HS hK K; intro HS
            try simp only [Act.put, lpa, lpb, lpc]
            first | refine sk' 4 HS ?_ | refine tk' 4 HS ?_
            refine cl' 5 fun K hK => ?_
            rw [if_pos (by rfl)]
            go_simp
            refine hK.out _ _ ?s2_24_ ?r2_24_
            case s2_24_ => exact HS
            case r2_24_ =>
             clear HS hK K; intro HS
             try simp only [Act.put, lpa, lpb, lpc]
             first | refine sk' 8 HS ?_ | refine tk' 8 HS ?_
             refine cl' 9 fun K hK => ?_
             rw [if_pos (by rfl)]
             go_simp
             refine hK.out _ _ ?s2_26_ ?r2_26_
             case s2_26_ => exact HS.alloc _
             case r2_26_ =>
              clear HS hK K; intro HS
              try simp only [Act.put, lpa, lpb, lpc]
              refine cl' 10 fun K hK => ?_
              rw [if_pos (by rfl)]
              obtain ⟨ps, ho, hall⟩ := hGL.out
              rw [HXL.out] at ho
              have HPS := Lib.hid (ownsRow_grew ho ((Grew.refl _).alloc (.cells #[.string nm, .slice ya ys.length yc] 39)))
              have HALL := Lib.hid (hall.mono fun x q h => (h.grew ((Grew.refl _).alloc (.cells #[.string nm, .slice ya ys.length yc] 39))).mono (Nat.le_refl _) ((Grew.refl _).alloc (.cells #[.string nm, .slice ya ys.length yc] 39)).size)
              have HY4 := Lib.hid (ownsRow_base (base' := w.heap.size) (ownsRow_grew HVL.out ((Grew.refl _).alloc (.cells #[.string nm, .slice ya ys.length yc] 39))) (by have := hdd.size; simp at this ⊢; omega))
              clear ho hall
              refine wp_append_own _ _ _ 28 rfl w.heap.size 39 i0 _ 2 40 Tryz.underlying28 hi hz0 hz1 hz2 rfl (by decide) _ _ _ rfl HPS.out ⟨_, 0, none⟩ 1 1 [.string nm, .slice ya ys.length yc] rfl rfl (lit_news (by simp)) (fun x hx => by simp at hx; rcases hx with rfl | rfl <;> rfl) (by unfold maxLen; omega) (by omega) (by have := HS.size; simp at this ⊢; omega) ?_
              intro v' w' hown' hgr2 _
              have HD4 := Lib.hid (HS.grown hgr2 (fun j h => (HPS.out.lt j h).1))
              have HGR := Lib.hid hgr2
              have HO4 := Lib.hid hown'
              clear hown' hgr2
              refine hK.out _ _ ?s2_27_ ?r2_27_
              case s2_27_ => exact HD4.out
              case r2_27_ =>
               clear HS hK K; intro HS
               try simp only [Act.put, lpa, lpb, lpc]
               first | refine sk' 11 HS ?_ | refine tk' 11 HS ?_
               refine wpAnyH_done (by kernel_rfl) ?_ _
               refine NoPanic.normal ?_
               clear HS
               obtain ⟨va2, vc2, rfl⟩ := own_slice HO4.out
               go_wp2
               go_roundw
               case rel =>
                 refine ⟨k + 1, xs ++ [⟨nm, ys⟩], _, _, by omega, rfl, Lib.hid ⟨by simp [HXL.out], fun x hx => ?_⟩, Lib.hid ?_, HD4.out⟩
                 · rw [List.mem_append] at hx; rcases hx with hx | hx
                   · exact hok.out.2 x hx
                   · simp at hx; subst hx; exact ⟨by have := HNS.out; simp only; omega, HYS.out⟩
                 · refine GLd.snoc (lo2 := w.heap.size) (p := ⟨nm, .slice ya ys.length yc⟩) (by rw [HXL.out]; exact HPS.out) HALL.out ⟨rfl, ?_⟩ (Nat.le_refl _) ?_ HGR.out HGR.out.size
                   · exact own_of HY4.out
                   · rw [HXL.out]; simpa [P2.c] using HO4.out
               case measure => simp [lenV]; omega
      · go_wp2
        go_ret
        exact ⟨_, rfl, xs, ⟨by have := HXL.out; omega, hok.out.2⟩, hown.out.d hd1 hl, hd.trans hd1⟩
  · go_wp2
    go_ret
    exact ⟨_, rfl, [], ⟨Nat.zero_le _, by simp⟩, ⟨[], World.ownsRow_nil _ _ _ _, All2.nil⟩, d3⟩
  · have hn0_ : ¬ (x = 0) := by omega
    have hn1_ : ¬ (x = 1) := by omega
    have hn2_ : ¬ (x = 2) := by omega
    have hn3_ : ¬ (x = 3) := by omega
    go_wp2
    go_ret
    exact ⟨_, rfl, xs, HOK.out, H3.out, d3⟩
end Go.Proofs.YtkkbhhmhkpgbkaaGreat
namespace Go.Proofs.YtkkbhhmhkpgbkaaGreat
open Go.RowKit
set_option linter.unusedVariables false
end Go.Proofs.YtkkbhhmhkpgbkaaGreat
