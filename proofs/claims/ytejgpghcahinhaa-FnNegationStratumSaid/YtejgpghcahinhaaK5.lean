/- Contracts of strataAbove and l13Raise. -/
import Derived.Test.YtejgpghcahinhaaY2
import Derived.Test.YtejgpghcahinhaaS
import Derived.Test.YtejgpghcahinhaaG
namespace Go.Proofs.Ytejgpghcahinhaa
open Go.RowKit Go.Sort
set_option linter.unusedVariables false
theorem plc_none {xs : List Dr} {s : ByteArray} {i : Int} (h : plcF xs s = none) (hp : plc xs s xs.length i) : i = -1 := by
  rcases plc_cases rfl hp with ⟨h1, _⟩ | ⟨k, h1, h2, h3⟩
  · exact h1
  · rw [h3.out] at h; cases h
theorem plc_some {xs : List Dr} {s : ByteArray} {i : Int} {j : Nat} (h : plcF xs s = some j) (hp : plc xs s xs.length i) : i = j := by
  rcases plc_cases rfl hp with ⟨_, h1⟩ | ⟨k, h1, h2, h3⟩
  · rw [h1.out] at h; cases h
  · rw [h3.out] at h; cases h; exact h1
theorem abv_bd {L : List Nat} {b : Nat} (h : Bd b L) {xs : List Dr} {l : List ByteArray} {m : Nat} (hm : m ≤ 1) : abv L (edg xs l m) ≤ b + 1 :=
  abv_le fun e he => by have h1 := mem_edg he; have h2 := h e.1; omega
theorem one_nats (xs : List Nat) : ∀ u ∈ natsV xs, u.oneCell' = true := by
  intro u hu; unfold natsV at hu; simp at hu; obtain ⟨x, _, rfl⟩ := hu; rfl
theorem natsV_len (L : List Nat) : (natsV L).length = L.length := by unfold natsV; simp
set_option maxRecDepth 100000 in
set_option maxHeartbeats 1000000 in
theorem implStrataAbove (va vb vc : Value) (xs : List Dr) (L : List Nat) (ns : List ByteArray) (m : Nat) (w : World) (ha : RdDs w va xs) (hb : Rd w vb 1 L.length (natsV L)) (hc : Rd w vc 1 ns.length (strs ns)) (hx : xs.length ≤ 1900000) (hl : L.length = xs.length) (hns : ns.length ≤ 4000000) (hbd : Bd 1000000 L) (hm : m ≤ 1) :
    Calls Try.prog 229 #[va, vb, vc, .int .i64 (m : Int)] w fun e w' => e = .returned (.int .i64 (abv L (edg xs ns m) : Int)) ∧ Grew w w' := by
  have HD := Lib.hid ha
  have HBD := Lib.hid hbd
  obtain ⟨qs, ⟨a, ca, rfl, hca, hra⟩, hall⟩ := ha
  clear hall hra hbd
  obtain ⟨b, cb, rfl, hcb, hrb⟩ := hb
  obtain ⟨c, cc, rfl, hcc, hrc⟩ := hc
  have HXL := Lib.hid hl
  generalize hn : ns.length = n at hns hrc hcc
  have HN := Lib.hid hn
  clear hn
  generalize hq : L.length = q at hl hrb hcb
  have HQ := Lib.hid hq
  have HLQ := Lib.hid hl
  clear hq hl
  go_enter Try.func229, Try.ntmps229
  go_wp2
  go_loopw [9, 15] (fun v i wr => ∃ k r : Nat, k ≤ n ∧ i = .int .i64 k ∧ v = .int .i64 r ∧ r ≤ 1000001 ∧ Hid (r = abv L (edg xs (ns.take k) m)) ∧ Grew w wr) (fun _ i _ => n - (intOf i).toNat)
  case atStart => exact ⟨0, 0, Nat.zero_le _, rfl, rfl, Nat.zero_le _, Lib.hid (by rw [edg_zero]; rfl), Grew.refl _⟩
  case round =>
    obtain ⟨k, r, hk, rfl, rfl, hr2, hr, hbel⟩ := hrel
    by_cases hlt : k < n
    · obtain ⟨b1, o1, s, rfl, hsk, c0⟩ := (hrc.grew hbel).one hlt
      cases hp : plcF xs s with
      | none =>
        have HP := Lib.hid hp
        clear hp
        go_wp2_with (go_at_call 140; refine (implDirAt _ xs s _ (HD.out.grew hbel) (by omega)).mono ?_; rintro e w2 ⟨i2, rfl, hp2, hb2⟩; obtain rfl := plc_none HP.out hp2; clear hp2)
        go_roundw
        case rel => exact ⟨k + 1, r, by omega, by go_num, rfl, hr2, Lib.hid (by rw [edg_no hsk.out HP.out]; exact hr.out), hbel.trans hb2⟩
        case measure => simp [intOf]; omega
      | some j =>
        have hj := plcF_lt hp
        have HP := Lib.hid hp
        clear hp
        have hjq : j < q := by have := HLQ.out; omega
        obtain ⟨b2, o2, y, rfl, hyk, d0⟩ := (hrb.grew hbel).one hjq
        have hy := Lib.hid (gt_at hyk.out)
        have hy2 : y ≤ 1000000 := by have h1 := HBD.out j; rw [hy.out] at h1; exact h1
        have HE : abv L (edg xs (ns.take (k + 1)) m) = max r (y + m) := by
          rw [edg_yes hsk.out HP.out, abv_snoc, ← hr.out, hy.out]
        have HE := Lib.hid HE
        have hw : IntKind.i64.wrap ((y : Int) + (m : Int)) = ((y + m : Nat) : Int) := by simp [IntKind.wrap, IntKind.bits, IntKind.signed]; omega
        have hjq2 : (j : Int) < (q : Int) := by omega
        go_wp2_with (go_at_call 140; refine (implDirAt _ xs s _ (HD.out.grew hbel) (by omega)).mono ?_; rintro e w2 ⟨i2, rfl, hp2, hb2⟩; obtain rfl := plc_some HP.out hp2; clear hp2; have d1 := grew_cell hb2 d0)
        go_roundw
        case rel => exact ⟨k + 1, max r (y + m), by omega, by go_num, by first | rfl | (congr 1; omega) | (simp; omega), by omega, Lib.hid HE.out.symm, hbel.trans hb2⟩
        case measure => simp [intOf]; omega
    · obtain rfl : k = n := by omega
      go_wp2
      go_ret
      exact ⟨ret_int (by rw [hr.out, take_all HN.out]), hbel⟩
end Go.Proofs.Ytejgpghcahinhaa
