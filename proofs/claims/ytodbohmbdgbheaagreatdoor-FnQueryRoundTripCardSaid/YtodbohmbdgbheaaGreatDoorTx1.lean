/- Texts of queries: what is written, what is read; both readers agree. No program in sight. -/
import Derived.Test.YtodbohmbdgbheaaGreatDoorTx0
import Derived.Test.YtodbohmbdgbheaaGreatDoorC5
import Derived.Lib.Join
namespace Go.Proofs.YtodbohmbdgbheaaGreatDoor
open Go.RowKit
set_option linter.unusedVariables false
abbrev By := ByteArray
def sE : By := ⟨#[]⟩
def hdB : List By → By
  | [] => ⟨#[]⟩
  | w :: _ => w
theorem ba_ext {a b : By} (h : a.data.toList = b.data.toList) : a = b := by
  cases a; cases b; simp only [ByteArray.mk.injEq]; exact Array.toList_inj.1 h
/-- The operator whose keyword a word is; 0: none. -/
def opTo (w : By) : Nat → Nat
  | 0 => 0
  | k + 1 => if kw ((k + 1 : Nat) : Int) = w then k + 1 else opTo w k
def opOf (w : By) : Nat := opTo w 9
theorem opTo_le (w : By) : ∀ k, opTo w k ≤ k
  | 0 => Nat.le_refl _
  | k + 1 => by unfold opTo; split; exact Nat.le_refl _; exact Nat.le_succ_of_le (opTo_le w k)
theorem opTo_kw (w : By) : ∀ k, opTo w k ≠ 0 → kw (opTo w k : Nat) = w
  | 0, h => absurd rfl h
  | k + 1, h => by
    unfold opTo at h ⊢
    split
    · rename_i e; exact e
    · rename_i e; rw [if_neg e] at h; exact opTo_kw w k h
theorem opOf_le (w : By) : opOf w ≤ 9 := opTo_le w 9
theorem opOf_kw {w : By} (h : opOf w ≠ 0) : kw (opOf w : Nat) = w := opTo_kw w 9 h
theorem opOf_of {i : Nat} (h1 : 1 ≤ i) (h9 : i ≤ 9) : opOf (kw (i : Nat)) = i := by
  have : i = 1 ∨ i = 2 ∨ i = 3 ∨ i = 4 ∨ i = 5 ∨ i = 6 ∨ i = 7 ∨ i = 8 ∨ i = 9 := by omega
  rcases this with rfl | rfl | rfl | rfl | rfl | rfl | rfl | rfl | rfl <;> decide
theorem opOf_nil : opOf ⟨#[]⟩ = 0 := by decide
theorem kw_ne {i : Nat} : kw (i : Nat) ≠ ⟨#[]⟩ := by
  unfold kw
  repeat' split
  all_goals simp
/-- A value's text. -/
noncomputable def fvB (v : V) : By := if !valB v then ⟨#[63]⟩ else if v.kind == 1 then ⟨(Lib.itoa v.int).toArray⟩ else if v.kind == 2 then v.str else ⟨#[45]⟩
/-- What ParseValue reads. -/
noncomputable def pvV (s : By) : V := match puN s.data.toList with
  | some n => ⟨1, n, ⟨#[]⟩⟩
  | none => if s = ⟨#[45]⟩ then V.z else ⟨2, 0, s⟩
noncomputable def pvB (s : By) : Bool := valB (pvV s)
noncomputable def pvR (s : By) : V := if pvB s then pvV s else V.z
theorem valB_z : valB V.z = true := by simp [valB, V.z, eqV]
theorem txtB_ne {s : By} {m : Int} (h : txtB s m = true) : s ≠ ⟨#[]⟩ := by
  rintro rfl
  unfold txtB inB at h
  have hz : ((⟨#[]⟩ : By).size : Int) = 0 := rfl
  simp only [hz, Bool.and_eq_true, decide_eq_true_eq] at h
  omega
theorem dash_low : lowB ⟨#[45]⟩ = false := lowB_false fun h => by
  have h1 := (h 0 (by decide)).1
  have h2 : (((⟨#[45]⟩ : By)[0]'(by decide)).toNat : Int) = 45 := by decide
  omega
/-- ParseValue's value is written as it was read. -/
theorem fv_pv {s : By} (h : pvB s = true) : fvB (pvV s) = s := by
  unfold pvB at h
  unfold fvB
  rw [h]
  simp only [Bool.not_true, Bool.false_eq_true, if_false]
  unfold pvV
  cases hp : puN s.data.toList with
  | some n =>
    simp only [beq_self_eq_true, if_true]
    apply ba_ext
    rw [itoa_nat]
    exact (puN_some hp).2.symm
  | none =>
    simp only
    split
    · rename_i e; subst e; rfl
    · rfl
theorem pv_nil : pvB ⟨#[]⟩ = false := by
  have hp : puN (⟨#[]⟩ : By).data.toList = none := puN_none fun n _ e => dec_ne n e.symm
  unfold pvB pvV
  rw [hp]
  simp [valB, txtB, inB]
  intro _ h
  exact absurd h (by decide)
theorem pvR_val (s : By) : valB (pvR s) = true := by
  unfold pvR
  split
  · assumption
  · exact valB_z
theorem pvR_kind {s : By} (h : pvR s ≠ V.z) : pvB s = true ∧ pvR s = pvV s := by
  unfold pvR at h ⊢
  cases hb : pvB s
  · rw [hb] at h; exact absurd rfl h
  · simp
abbrev nd (op : Nat) (l r : Int) (nm : By) (v : V) : N := ⟨op, l, r, nm, v⟩
/-- The program's reader: the words behind, the nodes read. d: more than there are words. -/
noncomputable def rdI : Nat → List By → List N → Bool × List By × List N
  | 0, ws, ns => (false, ws, ns)
  | d + 1, ws, ns =>
    let op := opOf (hdB ws)
    let r := ws.tail
    if op = 2 ∨ op = 8 ∨ op = 9 then (true, r.tail, ns ++ [nd op 0 0 (hdB r) V.z])
    else if op = 3 ∨ op = 4 then (pvB (hdB r.tail), r.tail.tail, ns ++ [nd op 0 0 (hdB r) (pvR (hdB r.tail))])
    else if op = 5 then
      let a := rdI d r ns
      (a.1, a.2.1, a.2.2 ++ [nd op ((a.2.2.length : Int) - 1) 0 ⟨#[]⟩ V.z])
    else if op = 6 ∨ op = 7 then
      let a := rdI d r ns
      if a.1 = true then
        let b := rdI d a.2.1 a.2.2
        (b.1, b.2.1, b.2.2 ++ [nd op ((a.2.2.length : Int) - 1) ((b.2.2.length : Int) - 1) ⟨#[]⟩ V.z])
      else (false, a.2.1, a.2.2 ++ [nd op ((a.2.2.length : Int) - 1) ((a.2.2.length : Int) - 1) ⟨#[]⟩ V.z])
    else (decide (op ≠ 0), r, ns ++ [nd op 0 0 ⟨#[]⟩ V.z])
/-- The reference's reader: the nodes, and how many words were used (0: none). d + deep: 10 at least. -/
noncomputable def rdS : Nat → List By → List N → Nat → List N × Nat
  | 0, ws, ns, deep => (ns, 0)
  | d + 1, ws, ns, deep =>
    let op := opOf (hdB ws)
    let r := ws.tail
    if op = 0 ∨ 9 < deep ∨ 9 < ns.length then (ns, 0)
    else if op = 2 ∨ op = 8 ∨ op = 9 then (ns ++ [nd op 0 0 (hdB r) V.z], 2)
    else if op = 3 ∨ op = 4 then (ns ++ [nd op 0 0 (hdB r) (pvR (hdB r.tail))], 3)
    else if op = 5 then
      let a := rdS d r ns (deep + 1)
      if a.2 = 0 then (a.1, 0) else (a.1 ++ [nd op ((a.1.length : Int) - 1) 0 ⟨#[]⟩ V.z], 1 + a.2)
    else if op = 6 ∨ op = 7 then
      let a := rdS d r ns (deep + 1)
      if a.2 = 0 then (a.1, 0)
      else
        let b := rdS d (ws.drop (1 + a.2)) a.1 (deep + 1)
        if b.2 = 0 then (b.1, 0) else (b.1 ++ [nd op ((a.1.length : Int) - 1) ((b.1.length : Int) - 1) ⟨#[]⟩ V.z], 1 + a.2 + b.2)
    else (ns ++ [nd op 0 0 ⟨#[]⟩ V.z], 1)
/-- Every node from k on is valid at its place. -/
def VF (k : Nat) (q : List N) : Prop := ∀ j x, k ≤ j → q[j]? = some x → nodB x j (wrap64 ((j : Int) - 1)) = true
theorem VF.pre {k : Nat} {q e : List N} (h : VF k (q ++ e)) : VF k q := fun j x hk hx => h j x hk (by
  rw [List.getElem?_append_left (List.getElem?_eq_some_iff.1 hx).1]; exact hx)
theorem VF.last {k : Nat} {q : List N} {n : N} (h : VF k (q ++ [n])) (hk : k ≤ q.length) : nodB n q.length (wrap64 ((q.length : Int) - 1)) = true :=
  h q.length n hk (by simp)
theorem VF.of {k m : Nat} {q : List N} (h : VF k q) (hm : k ≤ m) : VF m q := fun j x hj hx => h j x (Nat.le_trans hm hj) hx
theorem app3 {a b ns e e2 : List N} (h1 : a = ns ++ e) (h2 : b = a ++ e2) (x : N) : b ++ [x] = ns ++ (e ++ (e2 ++ [x])) := by
  subst h1; subst h2; simp only [List.append_assoc]
/-- The program's reader only appends. -/
theorem rdI_pre : ∀ (d : Nat) (ws : List By) (ns : List N), ∃ e, (rdI d ws ns).2.2 = ns ++ e ∧ ((rdI d ws ns).1 = true → e ≠ [])
  | 0, ws, ns => ⟨[], by simp [rdI], fun h => by simp [rdI] at h⟩
  | d + 1, ws, ns => by
    unfold rdI
    obtain ⟨e, he, _⟩ := rdI_pre d ws.tail ns
    obtain ⟨e2, he2, _⟩ := rdI_pre d (rdI d ws.tail ns).2.1 (rdI d ws.tail ns).2.2
    dsimp only
    split
    · exact ⟨_, rfl, fun _ => by simp⟩
    · split
      · exact ⟨_, rfl, fun _ => by simp⟩
      · split
        · exact ⟨e ++ [_], by rw [he, List.append_assoc], fun _ => by simp⟩
        · split
          · split
            · exact ⟨_, app3 he he2 _, fun _ => by simp⟩
            · exact ⟨e ++ [_], by rw [he, List.append_assoc], fun _ => by simp⟩
          · exact ⟨_, rfl, fun _ => by simp⟩
end Go.Proofs.YtodbohmbdgbheaaGreatDoor
