/- Contracts: SplitFields. -/
import Derived.Test.YtodbohmbdgbheaaGreatDoorTx6
import Derived.Test.YtodbohmbdgbheaaGreatDoorC6
import Derived.Test.YtodbohmbdgbheaaGreatDoorH4
import Derived.Lib.FieldsLaws
import Derived.Shelf.Strings.PiecesUse
import Derived.Maps.AppendAt
namespace Go.Proofs.YtodbohmbdgbheaaGreatDoor
open Go.RowKit
set_option linter.unusedVariables false
theorem ba_ext' {a b : By} (h : a.data.toList = b.data.toList) : a = b := by
  cases a; cases b; simp only [ByteArray.mk.injEq]; exact Array.toList_inj.1 h
theorem size_list' (s : By) : s.size = s.data.toList.length := by rw [Array.length_toList]; rfl
theorem byte_at' (s : By) {k : Nat} (h : k < s.size) : s.data.toList[k]? = some (s[k]'h) := by
  rw [Array.getElem?_toList]
  exact Array.getElem?_eq_getElem h
/-- Every byte is a printing one of the first hundred and twenty-eight. -/
def ascB (l : List UInt8) : Bool := l.all fun b => decide (32 ≤ b.toNat ∧ b.toNat ≤ 126)
def sfB (s : By) : Bool := decide (s.size ≤ 600) && (ascB s.data.toList && decide ((Lib.fields s.data.toList).length ≤ 24))
def sfL (s : By) : List By := if sfB s then Lib.fieldsB s else []
theorem sf_no {s : By} (h : sfB s = false) : sfL s = [] := by unfold sfL; rw [h]; rfl
theorem sf_yes {s : By} (h : sfB s = true) : sfL s = Lib.fieldsB s := by unfold sfL; rw [h]; rfl
theorem asc_no {l : List UInt8} {k : Nat} {b : UInt8} (h : l[k]? = some b) (hb : b.toNat < 32 ∨ 126 < b.toNat) : ascB l = false := by
  cases ha : ascB l with
  | false => rfl
  | true =>
    have := List.all_eq_true.1 ha b (List.mem_of_getElem? h)
    simp only [decide_eq_true_eq] at this
    omega
theorem isSp_is (b : UInt8) (h : 32 ≤ b.toNat ∧ b.toNat ≤ 126) : Lib.isSp b = decide (b.toNat = 32) := by
  have key : ∀ i : Fin 256, (32 ≤ i.val ∧ i.val ≤ 126) → Lib.isSp (UInt8.ofNat i.val) = decide (i.val = 32) := by decide +kernel
  have := key ⟨b.toNat, b.toNat_lt⟩ h
  simp only [UInt8.ofNat_toNat] at this
  exact this
def piece (l : List UInt8) (b k : Nat) : List UInt8 := (l.drop b).take (k - b)
theorem ext_piece (s : By) (b k : Nat) : s.extract b k = ⟨(piece s.data.toList b k).toArray⟩ := by
  apply ba_ext'
  simp [piece, ByteArray.data_extract, Array.toList_extract, List.extract]
theorem row_piece {w : World} {base : Nat} {e : TypeId} {v : Value} {out : List (List UInt8)} {s : By} {b k : Nat} (h : w.ownsRow base e 1 v (out.length + 1) (strs (out.map fun l => ⟨l.toArray⟩) ++ [.string (s.extract b k)])) :
    Hid (w.ownsRow base e 1 v (out ++ [piece s.data.toList b k]).length (strs ((out ++ [piece s.data.toList b k]).map fun l => ⟨l.toArray⟩))) := by
  rw [ext_piece] at h
  rw [List.length_append, List.map_append, strs, List.map_append]
  exact h
/-- What the pass has found before place k, the present piece beginning at b. -/
def SfR (l : List UInt8) (b k : Nat) (out : List (List UInt8)) : Prop :=
  b ≤ k ∧ (∀ j x, j < k → l[j]? = some x → 32 ≤ x.toNat ∧ x.toNat ≤ 126) ∧ (k ≤ l.length → Lib.fields l = out ++ Lib.fieldsGo (piece l b k) (l.drop k)) ∧ (l.length < k → Lib.fields l = out)
theorem SfR.start (l : List UInt8) : SfR l 0 0 [] := ⟨Nat.le_refl _, fun _ _ h => absurd h (Nat.not_lt_zero _), fun _ => by simp [piece, Lib.fields], fun h => absurd h (Nat.not_lt_zero _)⟩
theorem SfR.asc {l : List UInt8} {b k : Nat} {out : List (List UInt8)} (h : SfR l b k out) {c : UInt8} (hc : l[k]? = some c) (h1 : 32 ≤ c.toNat ∧ c.toNat ≤ 126) : ∀ j x, j < k + 1 → l[j]? = some x → 32 ≤ x.toNat ∧ x.toNat ≤ 126 := fun j x hj hx => by
  by_cases e : j = k
  · subst e; rw [hc] at hx; injection hx with hx; subst hx; exact h1
  · exact h.2.1 j x (by omega) hx
theorem SfR.more {l : List UInt8} {b k : Nat} {out : List (List UInt8)} (h : SfR l b k out) {c : UInt8} (hc : l[k]? = some c) (h1 : 33 ≤ c.toNat ∧ c.toNat ≤ 126) : SfR l b (k + 1) out := by
  have hk := (List.getElem?_eq_some_iff.1 hc).1
  refine ⟨by have := h.1; omega, h.asc hc (by omega), fun _ => ?_, fun hl => by omega⟩
  rw [h.2.2.1 (by omega), Lib.drop_at hc, Lib.fieldsGo_more _ _ _ (by rw [isSp_is c (by omega)]; simp; omega)]
  unfold piece
  rw [Lib.piece_more h.1 hc]
theorem SfR.blank {l : List UInt8} {k : Nat} {out : List (List UInt8)} (h : SfR l k k out) {c : UInt8} (hc : l[k]? = some c) (h1 : c.toNat = 32) : SfR l (k + 1) (k + 1) out := by
  have hk := (List.getElem?_eq_some_iff.1 hc).1
  refine ⟨Nat.le_refl _, h.asc hc (by omega), fun _ => ?_, fun hl => by omega⟩
  have hp : piece l k k = [] := by simp [piece]
  rw [h.2.2.1 (by omega), Lib.drop_at hc, hp, Lib.fieldsGo_sp _ _ (by rw [isSp_is c (by omega)]; simp [h1])]
  simp [piece]
theorem SfR.cut {l : List UInt8} {b k : Nat} {out : List (List UInt8)} (h : SfR l b k out) (hb : b < k) {c : UInt8} (hc : l[k]? = some c) (h1 : c.toNat = 32) : SfR l (k + 1) (k + 1) (out ++ [piece l b k]) := by
  have hk := (List.getElem?_eq_some_iff.1 hc).1
  refine ⟨Nat.le_refl _, h.asc hc (by omega), fun _ => ?_, fun hl => by omega⟩
  rw [h.2.2.1 (by omega), Lib.drop_at hc, Lib.fieldsGo_end (piece l b k) c _ (by rw [isSp_is c (by omega)]; simp [h1]) (Lib.piece_ne hb (by omega))]
  simp [piece]
theorem SfR.last {l : List UInt8} {b : Nat} {out : List (List UInt8)} (h : SfR l b l.length out) (hb : b < l.length) : SfR l (l.length + 1) (l.length + 1) (out ++ [piece l b l.length]) := by
  refine ⟨Nat.le_refl _, fun j x hj hx => h.2.1 j x (List.getElem?_eq_some_iff.1 hx).1 hx, fun hl => by omega, fun _ => ?_⟩
  rw [h.2.2.1 (Nat.le_refl _), List.drop_length]
  have := Lib.piece_ne (l := l) hb (Nat.le_refl _)
  unfold Lib.fieldsGo
  unfold piece
  cases hp : (l.drop b).take (l.length - b) with
  | nil => exact absurd hp this
  | cons _ _ => simp
theorem SfR.none {l : List UInt8} {out : List (List UInt8)} (h : SfR l l.length l.length out) : SfR l (l.length + 1) (l.length + 1) out := by
  refine ⟨Nat.le_refl _, fun j x hj hx => h.2.1 j x (List.getElem?_eq_some_iff.1 hx).1 hx, fun hl => by omega, fun _ => ?_⟩
  rw [h.2.2.1 (Nat.le_refl _), List.drop_length]
  simp [piece, Lib.fieldsGo]
theorem SfR.len {l : List UInt8} {b k : Nat} {out : List (List UInt8)} (h : SfR l b k out) (hk : k ≤ l.length + 1) : out.length ≤ l.length + 1 := by
  have hc : ∀ (l : List UInt8) (b : Bool), Lib.cntF b l ≤ l.length := fun l => by
    induction l with
    | nil => intro b; simp [Lib.cntF]
    | cons x t ih => intro b; have := ih (Lib.isSp x); simp only [Lib.cntF, List.length_cons]; split <;> omega
  have h1 : (Lib.fields l).length ≤ l.length := by rw [Lib.fields_length]; exact hc l true
  by_cases hl : k ≤ l.length
  · have := congrArg List.length (h.2.2.1 hl)
    rw [List.length_append] at this
    omega
  · have := congrArg List.length (h.2.2.2 (by omega))
    omega
set_option maxRecDepth 100000 in
set_option maxHeartbeats 4000000 in
theorem specSplitFields (s : By) (hs : s.size ≤ 4000000) (w : World) :
    Calls Tryz.prog 32 #[.string s] w fun e w' => ∃ v, e = .returned (.tuple #[v, .bool (sfB s)]) ∧ w'.ownsRow w.heap.size 9 1 v (sfL s).length (strs (sfL s)) ∧ v ≠ .slice none 0 0 ∧ Grew w w' := by
  by_cases h600 : (600 : Int) < (s.size : Int)
  · have HP := Lib.hid (show sfB s = false by unfold sfB; rw [decide_eq_false (by omega)]; rfl)
    go_enter Tryz.func32, Tryz.ntmps32
    go_wp2
    go_ret2
    refine ⟨_, (by rw [HP.out] <;> rfl), ?_, (fun h => by cases h), (Grew.refl _).alloc _⟩
    rw [sf_no HP.out]
    exact lit_own w 9 1
  · obtain ⟨i0, hi, hz0, hz1, hz2⟩ := info_parts Tryz.infoString
    have HL := Lib.hid (lit_own w 9 1)
    have g0 := (Grew.refl w).alloc (.cells #[] 9)
    have HS := Lib.hid (size_list' s)
    have HAS := Lib.hid (fun (k : Nat) (h : k < s.size) => byte_at' s h)
    have hsz : (s.size : Int) ≤ 600 := by omega
    go_enter Tryz.func32, Tryz.ntmps32
    go_wp2
    go_loopw [4, 5, 6] (fun v b i wr => ∃ (k c : Nat) (out : List (List UInt8)), k ≤ s.size + 1 ∧ c ≤ k ∧ i = .int .i64 k ∧ b = .int .i64 c ∧ Hid (SfR s.data.toList c k out) ∧ Hid (wr.ownsRow w.heap.size 9 1 v out.length (strs (out.map fun l => ⟨l.toArray⟩))) ∧ Hid (v ≠ .slice none 0 0) ∧ Grew w wr) (fun _ _ i _ => s.size + 1 - (intOf i).toNat)
    case atStart => exact ⟨0, 0, [], Nat.zero_le _, Nat.le_refl _, rfl, rfl, SfR.start _, HL.out, (fun h => by cases h), g0⟩
    case round =>
      obtain ⟨k, c, out, hk, hck, rfl, rfl, hR, hown, NVV, hg⟩ := hrel
      have hol := hR.out.len (by rw [← HS.out]; exact hk)
      rw [← HS.out] at hol
      by_cases hlt : k < s.size
      · have HB := Lib.hid (HAS.out k hlt)
        by_cases h1 : (s[k].toNat : Int) < 32
        · have HP := Lib.hid (show sfB s = false by unfold sfB; rw [asc_no HB.out (.inl (by omega))]; simp)
          go_wp2
          go_ret2
          refine ⟨_, (by rw [HP.out] <;> rfl), ?_, (fun h => by cases h), hg.alloc _⟩
          rw [sf_no HP.out]
          exact ownsRow_base (lit_own wr 9 1) hg.size
        · by_cases h2 : (126 : Int) < (s[k].toNat : Int)
          · have HP := Lib.hid (show sfB s = false by unfold sfB; rw [asc_no HB.out (.inr (by omega))]; simp)
            go_wp2
            go_ret2
            refine ⟨_, (by rw [HP.out] <;> rfl), ?_, (fun h => by cases h), hg.alloc _⟩
            rw [sf_no HP.out]
            exact ownsRow_base (lit_own wr 9 1) hg.size
          · by_cases h3 : (s[k].toNat : Int) = 32
            · by_cases hb : c < k
              · have hci : (c : Int) < k := by omega
                have HC := Lib.hid (hR.out.cut hb HB.out (by omega))
                go_wp2_with (first | (at_builtin; refine wpList_append_own _ rfl _ _ 48 rfl w.heap.size 9 i0 (.string ⟨#[]⟩) 1 16 Tryz.underlying48 hi hz0 hz1 hz2 rfl (by decide) _ _ _ rfl (hown.out.alloc _) ⟨_, 0, none⟩ 1 1 [.string (s.extract c k)] rfl rfl (cell_one_new _ _ _) (fun x hx => by simp at hx; subst hx; rfl) (by unfold maxLen; omega) (by omega) (by have := hg.size; simp; omega) ?_; intro v3 w3 o3 hgr hnil; have NV3 : Hid (v3 ≠ .slice none 0 0) := Lib.hid (fun h => by have := (hnil.1 h).2; omega); clear hnil; have G3 : Grew w w3 := (hg.alloc _).grown hgr (fun j h => (hown.out.lt j h).1); have O3 := Lib.hid o3; clear o3))
                go_roundw
                case rel => exact ⟨k + 1, k + 1, _, by omega, Nat.le_refl _, by go_num, by go_num, HC.out, row_piece O3.out, NV3, G3⟩
                case measure => simp [intOf]; omega
              · have hci : ¬ ((c : Int) < k) := by omega
                have HC := Lib.hid (show SfR s.data.toList (k + 1) (k + 1) out from by
                  have h := hR.out
                  rw [show c = k by omega] at h
                  exact h.blank HB.out (by omega))
                go_wp2
                go_roundw
                case rel => exact ⟨k + 1, k + 1, out, by omega, Nat.le_refl _, by go_num, by go_num, HC.out, hown, NVV, hg⟩
                case measure => simp [intOf]; omega
            · have HC := Lib.hid (hR.out.more HB.out (by omega))
              go_wp2
              go_roundw
              case rel => exact ⟨k + 1, c, out, by omega, by omega, by go_num, rfl, HC.out, hown, NVV, hg⟩
              case measure => simp [intOf]; omega
      · by_cases he : k = s.size
        · subst he
          by_cases hb : c < s.size
          · have hci : (c : Int) < s.size := by omega
            have HC := Lib.hid (show SfR s.data.toList (s.size + 1) (s.size + 1) (out ++ [piece s.data.toList c s.size]) from by
              have h := hR.out
              rw [HS.out] at h hb ⊢
              exact h.last hb)
            go_wp2_with (first | (at_builtin; refine wpList_append_own _ rfl _ _ 48 rfl w.heap.size 9 i0 (.string ⟨#[]⟩) 1 16 Tryz.underlying48 hi hz0 hz1 hz2 rfl (by decide) _ _ _ rfl (hown.out.alloc _) ⟨_, 0, none⟩ 1 1 [.string (s.extract c s.size)] rfl rfl (cell_one_new _ _ _) (fun x hx => by simp at hx; subst hx; rfl) (by unfold maxLen; omega) (by omega) (by have := hg.size; simp; omega) ?_; intro v3 w3 o3 hgr hnil; have NV3 : Hid (v3 ≠ .slice none 0 0) := Lib.hid (fun h => by have := (hnil.1 h).2; omega); clear hnil; have G3 : Grew w w3 := (hg.alloc _).grown hgr (fun j h => (hown.out.lt j h).1); have O3 := Lib.hid o3; clear o3))
            go_roundw
            case rel => exact ⟨s.size + 1, s.size + 1, _, by omega, Nat.le_refl _, by go_num, by go_num, HC.out, row_piece O3.out, NV3, G3⟩
            case measure => simp [intOf]
          · have hci : ¬ ((c : Int) < s.size) := by omega
            have HC := Lib.hid (show SfR s.data.toList (s.size + 1) (s.size + 1) out from by
              have h := hR.out
              rw [show c = s.size by omega, HS.out] at h
              rw [HS.out]
              exact h.none)
            go_wp2
            go_roundw
            case rel => exact ⟨s.size + 1, s.size + 1, out, by omega, Nat.le_refl _, by go_num, by go_num, HC.out, hown, NVV, hg⟩
            case measure => simp [intOf]
        · obtain rfl : k = s.size + 1 := by omega
          have HF := Lib.hid (hR.out.2.2.2 (by rw [← HS.out]; omega))
          have HA := Lib.hid (show ascB s.data.toList = true from List.all_eq_true.2 fun x hx => by
            obtain ⟨j, hj⟩ := List.getElem?_of_mem hx
            have := hR.out.2.1 j x (by have := (List.getElem?_eq_some_iff.1 hj).1; rw [HS.out]; omega) hj
            simp only [decide_eq_true_eq]; exact this)
          obtain ⟨va, vc, rfl⟩ := own_slice hown.out
          by_cases h24 : (24 : Int) < out.length
          · have HP := Lib.hid (show sfB s = false by unfold sfB; rw [HF.out, decide_eq_false (by omega : ¬ out.length ≤ 24)]; simp)
            go_wp2
            go_ret2
            refine ⟨_, (by rw [HP.out] <;> rfl), ?_, (fun h => by cases h), hg.alloc _⟩
            rw [sf_no HP.out]
            exact ownsRow_base (lit_own wr 9 1) hg.size
          · have HP := Lib.hid (show sfB s = true by unfold sfB; rw [HF.out, HA.out, decide_eq_true (by omega : out.length ≤ 24), decide_eq_true (by omega : s.size ≤ 600)]; rfl)
            go_wp2
            go_ret2
            refine ⟨_, (by rw [HP.out] <;> rfl), ?_, NVV.out, hg⟩
            rw [sf_yes HP.out]
            unfold Lib.fieldsB
            rw [HF.out, List.length_map]
            exact hown.out
end Go.Proofs.YtodbohmbdgbheaaGreatDoor
