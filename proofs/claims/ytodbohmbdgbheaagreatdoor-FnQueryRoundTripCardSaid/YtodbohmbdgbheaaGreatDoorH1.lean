/- markText returns a text that depends on its number alone; conversions of one byte. -/
import Derived.Test.YtodbohmbdgbheaaGreatDoorRows
import Derived.Test.YtodbohmbdgbheaaGreatDoorT
namespace Go.Proofs.YtodbohmbdgbheaaGreatDoor
open Go.RowKit
theorem conv1 (w : World) (n : Int) : (convert 22 9 (.slice (some ⟨w.heap.size, 0, none⟩) 1 1)).run Tryz.prog (w.alloc (.cells #[.int .u8 n] 5)) = .ok (.string ⟨[UInt8.ofNat n.toNat].toArray⟩) (w.alloc (.cells #[.int .u8 n] 5)) := by
  rw [run_convert_bytes_string _ _ _ 5 _ _ _ Tryz.underlying22 Tryz.underlying5 Tryz.underlying9]
  rw [run_bytesToString _ _ _ _ [n] (by simp [loadCells, loadCellsFrom, go_sem])]
  rfl
/-- The digits of a number, ahead of a text. -/
def digs : Nat → Nat → List UInt8 → List UInt8
  | 0, _, s => s
  | f + 1, k, s => if k = 0 then s else digs f (k / 10) ((48 + UInt8.ofNat (k % 10)) :: s)
theorem digs_more : ∀ (f g k : Nat) (s : List UInt8), k < f → f ≤ g → digs g k s = digs f k s := by
  intro f
  induction f with
  | zero => intro g k s h; omega
  | succ f ih =>
    intro g k s h hg
    cases g with
    | zero => omega
    | succ g =>
      simp only [digs]
      by_cases hk : k = 0
      · simp [hk]
      · rw [if_neg hk, if_neg hk]
        exact ih g (k / 10) _ (by omega) (by omega)
theorem digs_step (k : Nat) (s : List UInt8) (hk : 0 < k) : digs (k + 1) k s = digs (k / 10 + 1) (k / 10) ((48 + UInt8.ofNat (k % 10)) :: s) := by
  conv => lhs; unfold digs
  rw [if_neg (by omega)]
  exact digs_more (k / 10 + 1) k _ _ (by omega) (by omega)
theorem digs_zero (f : Nat) (s : List UInt8) : digs f 0 s = s := by cases f <;> simp [digs]
def mtext (k : Int) : ByteArray := if k ≤ 0 then ⟨[109, 48].toArray⟩ else ⟨(109 :: digs (k.toNat + 1) k.toNat []).toArray⟩
set_option maxRecDepth 100000 in
set_option maxHeartbeats 400000 in
theorem markText (k : Int) (w : World) (hk : 0 ≤ k) (hk2 : k ≤ 4000000000000000) :
    Calls Tryz.prog 44 #[.int .i64 k] w fun e w' => e = .returned (.string (mtext k)) ∧ Grew w w' := by
  by_cases h0 : k ≤ 0
  · have HM := Lib.hid (show mtext k = ⟨[109, 48].toArray⟩ by simp [mtext, h0])
    go_enter Tryz.func44, Tryz.ntmps44
    go_wp2
    go_ret
    exact ⟨ret_str HM.out.symm, Grew.refl _⟩
  · obtain ⟨m, rfl⟩ := Int.eq_ofNat_of_zero_le hk
    have HM := Lib.hid (show mtext m = ⟨(109 :: digs (m + 1) m []).toArray⟩ by unfold mtext; rw [if_neg h0]; rfl)
    go_enter Tryz.func44, Tryz.ntmps44
    go_wp2
    go_loopw [0, 3] (fun x o wr => ∃ (k : Nat) (s : List UInt8), k ≤ 4000000000000000 ∧ x = .int .i64 k ∧ o = .string ⟨s.toArray⟩ ∧ Grew w wr ∧ s.length + k ≤ 4000000000000000 ∧ Hid (digs (k + 1) k s = digs (m + 1) m [])) (fun x _ _ => (intOf x).toNat)
    case atStart => exact ⟨m, [], by omega, rfl, rfl, Grew.refl _, by simp; omega, rfl⟩
    case round =>
      obtain ⟨k, s, hk, rfl, rfl, hb, hs, hd⟩ := hrel
      by_cases h1 : 0 < k
      · have hcv := fun n => conv1 wr n
        go_wp2
        go_roundw
        case rel =>
          refine ⟨k / 10, (48 + UInt8.ofNat (k % 10)) :: s, by omega, by go_num, ?_, hb.alloc _, by simp; omega, Lib.hid (by rw [← digs_step k s h1]; exact hd.out)⟩
          exact congrArg Value.string (ByteArray.mk_append_mk [48 + UInt8.ofNat (k % 10)] s)
        case measure => simp [intOf]; omega
      · obtain rfl : k = 0 := by omega
        have hd0 := hd.out
        rw [digs_zero] at hd0
        have HD := Lib.hid hd0
        clear hd hd0
        go_wp2
        go_ret
        refine ⟨ret_str ?_, hb⟩
        rw [HM.out, ← HD.out]
        exact ByteArray.mk_append_mk [109] s
end Go.Proofs.YtodbohmbdgbheaaGreatDoor
