/- Texts Z14, as far as they are needed. -/
import Derived.Test.YtemikjbfjhebnaaGreatNi2
import Derived.Test.YtemikjbfjhebnaaGreatNi3
import Derived.Test.YtemikjbfjhebnaaGreatNi6
namespace Go.Proofs.YtemikjbfjhebnaaGreat
open Go.RowKit Go.Sort
set_option linter.unusedVariables false
def wAt (xs : List At) (s : ByteArray) : List At := xs.filter fun a => !(a.name.toList == s.toList)
def leA (s : ByteArray) : List At → Nat
  | [] => 0
  | a :: t => if Op.bytesLess s.toList a.name.toList then 0 else leA s t + 1
def setA (xs : List At) (s : ByteArray) (v : V) : List At :=
  if v.kind == 0 then wAt xs s else (wAt xs s).take (leA s (wAt xs s)) ++ [⟨s, v⟩] ++ (wAt xs s).drop (leA s (wAt xs s))
theorem wAt_yes {xs : List At} {s : ByteArray} {k : Nat} {x : At} (h : xs[k]? = some x) (hc : (x.name.toList == s.toList) = false) : wAt (xs.take (k + 1)) s = wAt (xs.take k) s ++ [x] := by
  unfold wAt; rw [take_snoc h, List.filter_append]; simp [hc]
theorem wAt_no {xs : List At} {s : ByteArray} {k : Nat} {x : At} (h : xs[k]? = some x) (hc : (x.name.toList == s.toList) = true) : wAt (xs.take (k + 1)) s = wAt (xs.take k) s := by
  unfold wAt; rw [take_snoc h, List.filter_append]; simp [hc]
theorem wAt_le (xs : List At) (s : ByteArray) : (wAt xs s).length ≤ xs.length := List.length_filter_le _ _
theorem leA_le (s : ByteArray) : ∀ (xs : List At), leA s xs ≤ xs.length
  | [] => Nat.le_refl _
  | d :: ds => by
    have := leA_le s ds
    unfold leA; split <;> simp <;> omega
theorem leA_yes {s : ByteArray} : ∀ {xs : List At} {k : Nat} {x : At}, (∀ (j : Nat) y, j < k → xs[j]? = some y → Op.bytesLess s.toList y.name.toList = false) → xs[k]? = some x → Op.bytesLess s.toList x.name.toList = true → leA s xs = k
  | [], k, x, _, h, _ => by simp at h
  | y :: ys, 0, x, _, h, hn => by
    simp at h; subst h; unfold leA; rw [hn]; rfl
  | y :: ys, k + 1, x, h1, h, hn => by
    have h0 := h1 0 y (Nat.succ_pos k) rfl
    have ih := leA_yes (xs := ys) (k := k) (x := x) (fun j z hj hz => h1 (j + 1) z (Nat.succ_lt_succ hj) (by simpa using hz)) (by simpa using h) hn
    unfold leA; rw [h0, ih]; rfl
theorem leA_no {s : ByteArray} : ∀ {xs : List At}, (∀ (j : Nat) y, j < xs.length → xs[j]? = some y → Op.bytesLess s.toList y.name.toList = false) → leA s xs = xs.length
  | [], _ => rfl
  | y :: ys, h1 => by
    have h0 := h1 0 y (Nat.succ_pos _) rfl
    have ih := leA_no (xs := ys) (fun j z hj hz => h1 (j + 1) z (by simp only [List.length_cons]; omega) (by simpa using hz))
    unfold leA; rw [h0, ih]; rfl
theorem setA_len (xs : List At) (s : ByteArray) (v : V) : (setA xs s v).length ≤ xs.length + 1 := by
  have h := wAt_le xs s
  unfold setA
  split
  · omega
  · have h2 := leA_le s (wAt xs s)
    simp only [List.length_append, List.length_take, List.length_drop, List.length_cons, List.length_nil]
    omega
theorem setA_mem {xs : List At} {s : ByteArray} {v : V} {x : At} (h : x ∈ setA xs s v) : x ∈ xs ∨ x = ⟨s, v⟩ := by
  unfold setA at h
  split at h
  · exact .inl (List.mem_filter.1 h).1
  · simp only [List.mem_append, List.mem_cons, List.not_mem_nil, or_false] at h
    rcases h with (h | h) | h
    · exact .inl (List.mem_filter.1 (List.mem_of_mem_take h)).1
    · exact .inr h
    · exact .inl (List.mem_filter.1 (List.mem_of_mem_drop h)).1
theorem le_eq (a s : ByteArray) : (Op.bytesLess a.toList s.toList || a.toList == s.toList) = !Op.bytesLess s.toList a.toList := by
  rcases Ordered.tri (dl a) (dl s) with h | h | h
  · rw [(less_iff a s true).2 (decide_eq_true h), (less_iff s a false).2 (decide_eq_false (fun k => Ordered.irrefl _ (Ordered.trans _ _ _ h k)))]; rfl
  · rw [eq_dl.2 h, (less_iff s a false).2 (decide_eq_false (fun k => by rw [h] at k; exact Ordered.irrefl _ k))]; simp
  · rw [(less_iff a s false).2 (decide_eq_false (fun k => Ordered.irrefl _ (Ordered.trans _ _ _ h k))), (less_iff s a true).2 (decide_eq_true h), ne_dl.2 (fun e : dl a = dl s => by rw [e] at h; exact Ordered.irrefl _ h)]; rfl
theorem setA_rows {xs L : List At} {s : ByteArray} {v : V} {j m : Nat} (h1 : wAt xs s = L) (h2 : leA s L = j) (h3 : ¬ v.kind = 0) (h4 : m = L.length) (h5 : j ≤ m) : rows At.c (L.take j) ++ [.string s, .int .i64 v.kind, .int .i64 v.int, .string v.str] ++ rows At.c (L.drop j) = rows At.c (setA xs s v) ∧ j + 1 + (m - j) = (setA xs s v).length := by
  have h6 : (v.kind == 0) = false := by simpa using h3
  unfold setA
  rw [h1, h2, h6]
  constructor
  · simp [rows, At.c]
  · simp; omega
theorem own_at0 {w : World} {base n size : Nat} {e : TypeId} {v : Value} {xs : List Value} (h : w.ownsRow base e size v n xs) (hn : 0 < n) : ∃ g c, v = .slice (some ⟨g, 0, none⟩) n c := by
  obtain ⟨_, ⟨_, h0⟩ | ⟨g, cap, cur, h1, _⟩⟩ := h
  · omega
  · exact ⟨g, cap, h1⟩
theorem RdA.takeK {α : Type} {enc : α → List Value} {k : Nat} (hk : ∀ x, (enc x).length = k) {w : World} {a : Option Addr} {n : Nat} {xs : List α} (h : RdA w a k n (rows enc xs)) (hk0 : 0 < k) {j : Nat} (hj : j ≤ n) : RdA w a k j (rows enc (xs.take j)) := by
  obtain ⟨h1, h2⟩ := h
  have hm : j * k ≤ n * k := Nat.mul_le_mul_right _ hj
  rw [← rows_takeK hk]
  refine ⟨by rw [List.length_take, h1]; omega, fun h0 => ?_⟩
  obtain ⟨b, o, rfl, h3⟩ := h2 (by omega)
  exact ⟨b, o, rfl, fun i hi => by rw [h3 i (by omega), List.getElem?_take_of_lt hi]⟩
theorem rows_dropK {α : Type} {enc : α → List Value} {k : Nat} (hk : ∀ x, (enc x).length = k) : ∀ (xs : List α) (i : Nat), (rows enc xs).drop (i * k) = rows enc (xs.drop i)
  | [], i => by simp [rows]
  | x :: xs, 0 => by simp [rows]
  | x :: xs, i + 1 => by
    rw [rows_cons, List.drop_succ_cons, Nat.succ_mul, ← rows_dropK hk xs i, Nat.add_comm, ← List.drop_drop]
    congr 1
    rw [List.drop_append, hk, Nat.sub_self, List.drop_of_length_le (by rw [hk]; omega)]; rfl
theorem own_news {w : World} {base g n cap size : Nat} {e : TypeId} {xs : List Value} (h : w.ownsRow base e size (.slice (some ⟨g, 0, none⟩) n cap) n xs) (d : Nat) : ∀ j u, (xs.drop d)[j]? = some u → w.cell? ((⟨g, d, none⟩ : Addr).add j) = some u := by
  intro j u hu
  rw [List.getElem?_drop] at hu
  obtain ⟨a, c, h1, _, hl, h2⟩ := rd_of_own h
  cases h1
  have hlt := (List.getElem?_eq_some_iff.1 hu).1
  have hn : 0 < n := by rcases Nat.eq_zero_or_pos n with h0 | h0; subst h0; omega; exact h0
  obtain ⟨b, o, h3, h4⟩ := h2 hn
  cases h3
  have h5 := h4 (d + j) (by omega)
  rw [hu, Nat.zero_add] at h5
  cases j with
  | zero => simpa [Addr.add] using h5
  | succ j => simpa [Addr.add] using h5
set_option maxRecDepth 100000 in
set_option maxHeartbeats 40000000 in
theorem specSetAttr (f : Fl) (p : P5) (s : ByteArray) (v : V) (w : World) (h : Fl.R w f p) (hx : f.attrs.length ≤ 1000000) :
    Calls Tryz.prog 77 #[p.v, .string s, V.v v] w fun e w' => ∃ q : P5, e = .returned q.v ∧ Fl.O w' w.heap.size w'.heap.size ⟨f.id, f.owner, f.shared, f.link, setA f.attrs s v⟩ q ∧ Grew w w' := by
  obtain ⟨pi, po, ps, pl, pa⟩ := p
  obtain ⟨h1, h2, h3, h4, ⟨aq, ac, hq, hac, hra⟩⟩ := h
  simp only at h1 h2 h3 h4 hq
  subst hq
  have H1 := Lib.hid h1
  have H2 := Lib.hid h2
  have H3 := Lib.hid h3
  have H4 := Lib.hid h4
  clear h1 h2 h3 h4
  obtain ⟨xs, hxs⟩ : ∃ xs, f.attrs = xs := ⟨_, rfl⟩
  have HX := Lib.hid hxs
  rw [hxs] at hra hx hac
  rw [hxs]
  clear hxs
  generalize hn : xs.length = n at hra hx hac
  have HN := Lib.hid hn
  clear hn
  obtain ⟨i0, hi, hz0, hz1, hz2⟩ := info_parts Tryz.infoAt
  have gW := (((Grew.refl w).alloc (.cells #[.int .i64 pi, .int .i64 po, .bool ps, .int .i64 pl, .slice aq n ac] 55)).alloc (.cells #[.int .i64 v.kind, .int .i64 v.int, .string v.str] 68)).alloc (.cells #[.int .i64 0, .int .i64 0, .bool false, .int .i64 0, .slice none 0 0] 55)
  have hsW : ((((w.alloc (.cells #[.int .i64 pi, .int .i64 po, .bool ps, .int .i64 pl, .slice aq n ac] 55)).alloc (.cells #[.int .i64 v.kind, .int .i64 v.int, .string v.str] 68)).alloc (.cells #[.int .i64 0, .int .i64 0, .bool false, .int .i64 0, .slice none 0 0] 55))).heap.size = w.heap.size + 3 := by simp
  have e0 : ((((w.alloc (.cells #[.int .i64 pi, .int .i64 po, .bool ps, .int .i64 pl, .slice aq n ac] 55)).alloc (.cells #[.int .i64 v.kind, .int .i64 v.int, .string v.str] 68)).alloc (.cells #[.int .i64 0, .int .i64 0, .bool false, .int .i64 0, .slice none 0 0] 55))).cell? ⟨w.heap.size, 0, none⟩ = some (.int .i64 pi) := by simp [go_sem]
  have e1 : ((((w.alloc (.cells #[.int .i64 pi, .int .i64 po, .bool ps, .int .i64 pl, .slice aq n ac] 55)).alloc (.cells #[.int .i64 v.kind, .int .i64 v.int, .string v.str] 68)).alloc (.cells #[.int .i64 0, .int .i64 0, .bool false, .int .i64 0, .slice none 0 0] 55))).cell? ⟨w.heap.size, 1, none⟩ = some (.int .i64 po) := by simp [go_sem]
  have e2 : ((((w.alloc (.cells #[.int .i64 pi, .int .i64 po, .bool ps, .int .i64 pl, .slice aq n ac] 55)).alloc (.cells #[.int .i64 v.kind, .int .i64 v.int, .string v.str] 68)).alloc (.cells #[.int .i64 0, .int .i64 0, .bool false, .int .i64 0, .slice none 0 0] 55))).cell? ⟨w.heap.size, 2, none⟩ = some (.bool ps) := by simp [go_sem]
  have e3 : ((((w.alloc (.cells #[.int .i64 pi, .int .i64 po, .bool ps, .int .i64 pl, .slice aq n ac] 55)).alloc (.cells #[.int .i64 v.kind, .int .i64 v.int, .string v.str] 68)).alloc (.cells #[.int .i64 0, .int .i64 0, .bool false, .int .i64 0, .slice none 0 0] 55))).cell? ⟨w.heap.size, 3, none⟩ = some (.int .i64 pl) := by simp [go_sem]
  have e4 : ((((w.alloc (.cells #[.int .i64 pi, .int .i64 po, .bool ps, .int .i64 pl, .slice aq n ac] 55)).alloc (.cells #[.int .i64 v.kind, .int .i64 v.int, .string v.str] 68)).alloc (.cells #[.int .i64 0, .int .i64 0, .bool false, .int .i64 0, .slice none 0 0] 55))).cell? ⟨w.heap.size, 4, none⟩ = some (.slice aq n ac) := by simp [go_sem]
  have v0 : ((((w.alloc (.cells #[.int .i64 pi, .int .i64 po, .bool ps, .int .i64 pl, .slice aq n ac] 55)).alloc (.cells #[.int .i64 v.kind, .int .i64 v.int, .string v.str] 68)).alloc (.cells #[.int .i64 0, .int .i64 0, .bool false, .int .i64 0, .slice none 0 0] 55))).cell? ⟨w.heap.size + 1, 0, none⟩ = some (.int .i64 v.kind) := by simp [go_sem]
  have v1 : ((((w.alloc (.cells #[.int .i64 pi, .int .i64 po, .bool ps, .int .i64 pl, .slice aq n ac] 55)).alloc (.cells #[.int .i64 v.kind, .int .i64 v.int, .string v.str] 68)).alloc (.cells #[.int .i64 0, .int .i64 0, .bool false, .int .i64 0, .slice none 0 0] 55))).cell? ⟨w.heap.size + 1, 1, none⟩ = some (.int .i64 v.int) := by simp [go_sem]
  have v2 : ((((w.alloc (.cells #[.int .i64 pi, .int .i64 po, .bool ps, .int .i64 pl, .slice aq n ac] 55)).alloc (.cells #[.int .i64 v.kind, .int .i64 v.int, .string v.str] 68)).alloc (.cells #[.int .i64 0, .int .i64 0, .bool false, .int .i64 0, .slice none 0 0] 55))).cell? ⟨w.heap.size + 1, 2, none⟩ = some (.string v.str) := by simp [go_sem]
  have r0 : ((((w.alloc (.cells #[.int .i64 pi, .int .i64 po, .bool ps, .int .i64 pl, .slice aq n ac] 55)).alloc (.cells #[.int .i64 v.kind, .int .i64 v.int, .string v.str] 68)).alloc (.cells #[.int .i64 0, .int .i64 0, .bool false, .int .i64 0, .slice none 0 0] 55))).cell? ⟨w.heap.size + 2, 0, none⟩ = some (.int .i64 0) := by simp [go_sem]
  have r1 : ((((w.alloc (.cells #[.int .i64 pi, .int .i64 po, .bool ps, .int .i64 pl, .slice aq n ac] 55)).alloc (.cells #[.int .i64 v.kind, .int .i64 v.int, .string v.str] 68)).alloc (.cells #[.int .i64 0, .int .i64 0, .bool false, .int .i64 0, .slice none 0 0] 55))).cell? ⟨w.heap.size + 2, 1, none⟩ = some (.int .i64 0) := by simp [go_sem]
  have r2 : ((((w.alloc (.cells #[.int .i64 pi, .int .i64 po, .bool ps, .int .i64 pl, .slice aq n ac] 55)).alloc (.cells #[.int .i64 v.kind, .int .i64 v.int, .string v.str] 68)).alloc (.cells #[.int .i64 0, .int .i64 0, .bool false, .int .i64 0, .slice none 0 0] 55))).cell? ⟨w.heap.size + 2, 2, none⟩ = some (.bool false) := by simp [go_sem]
  have r3 : ((((w.alloc (.cells #[.int .i64 pi, .int .i64 po, .bool ps, .int .i64 pl, .slice aq n ac] 55)).alloc (.cells #[.int .i64 v.kind, .int .i64 v.int, .string v.str] 68)).alloc (.cells #[.int .i64 0, .int .i64 0, .bool false, .int .i64 0, .slice none 0 0] 55))).cell? ⟨w.heap.size + 2, 3, none⟩ = some (.int .i64 0) := by simp [go_sem]
  have r4 : ((((w.alloc (.cells #[.int .i64 pi, .int .i64 po, .bool ps, .int .i64 pl, .slice aq n ac] 55)).alloc (.cells #[.int .i64 v.kind, .int .i64 v.int, .string v.str] 68)).alloc (.cells #[.int .i64 0, .int .i64 0, .bool false, .int .i64 0, .slice none 0 0] 55))).cell? ⟨w.heap.size + 2, 4, none⟩ = some (.slice none 0 0) := by simp [go_sem]
  have rz : ∀ j, ((((w.alloc (.cells #[.int .i64 pi, .int .i64 po, .bool ps, .int .i64 pl, .slice aq n ac] 55)).alloc (.cells #[.int .i64 v.kind, .int .i64 v.int, .string v.str] 68)).alloc (.cells #[.int .i64 0, .int .i64 0, .bool false, .int .i64 0, .slice none 0 0] 55))).frozen? ⟨w.heap.size + 2, j, none⟩ = false := fun j => by simp [go_sem]
  have ez : ∀ j, ((((w.alloc (.cells #[.int .i64 pi, .int .i64 po, .bool ps, .int .i64 pl, .slice aq n ac] 55)).alloc (.cells #[.int .i64 v.kind, .int .i64 v.int, .string v.str] 68)).alloc (.cells #[.int .i64 0, .int .i64 0, .bool false, .int .i64 0, .slice none 0 0] 55))).frozen? ⟨w.heap.size, j, none⟩ = false := fun j => by simp [go_sem]
  go_enter Tryz.func77, Tryz.ntmps77
  go_upto_region 1 with fail
  generalize (((w.alloc (.cells #[.int .i64 pi, .int .i64 po, .bool ps, .int .i64 pl, .slice aq n ac] 55)).alloc (.cells #[.int .i64 v.kind, .int .i64 v.int, .string v.str] 68)).alloc (.cells #[.int .i64 0, .int .i64 0, .bool false, .int .i64 0, .slice none 0 0] 55)) = W at gW hsW e0 e1 e2 e3 e4 v0 v1 v2 r0 r1 r2 r3 r4 rz ez ⊢
  have HLIT : Hid ((W.alloc (.cells #[] 84)).ownsRow (w.heap.size + 3) 84 4 (.slice (some ⟨w.heap.size + 3, 0, none⟩) 0 0) 0 []) := by
    have h := lit_own W 84 4
    rw [hsW] at h
    exact Lib.hid h
  go_wp2
  go_loopw [7, 8] (fun l i wr => ∃ (k g m vc : Nat), k ≤ n ∧ i = .int .i64 k ∧ l = .slice (some ⟨g, 0, none⟩) m vc ∧ m ≤ k ∧ Hid (m = (wAt (xs.take k) s).length) ∧ Hid (wr.ownsRow (w.heap.size + 3) 84 4 (.slice (some ⟨g, 0, none⟩) m vc) m (rows At.c (wAt (xs.take k) s))) ∧ Grew W wr) (fun _ i _ => n - (intOf i).toNat)
  case atStart => exact ⟨0, _, _, _, Nat.zero_le _, rfl, rfl, Nat.le_refl _, Lib.hid rfl, HLIT, (Grew.refl W).alloc _⟩
  case round =>
    obtain ⟨k, g, m, vc, hk, rfl, rfl, hmk, hml, hown, hbel⟩ := hrel
    have HML := Lib.hid hml.out
    clear hml
    have f4 := grew_cell hbel e4
    by_cases hlt : k < n
    · obtain ⟨b1, o1, x, rfl, hxk, c0, c1, c2, c3⟩ := (hra.grew (gW.trans hbel)).getAt hlt
      have hk0 : (0 : Int) ≤ k := by omega
      have hkn : (k : Int) < n := by omega
      obtain ⟨q, hq⟩ : ∃ q, (x.name.toList == s.toList) = q := ⟨_, rfl⟩
      have HQ := Lib.hid hq
      cases q
      · have HP := Lib.hid (hown.out.alloc (.cells #[.string x.name, .int .i64 x.val.kind, .int .i64 x.val.int, .string x.val.str] 84))
        have hsz := hbel.size
        go_wp2_with (at_builtin; refine wpList_append_own _ rfl _ _ 53 rfl (w.heap.size + 3) 84 i0 _ 4 48 Tryz.underlying53 hi hz0 hz1 hz2 rfl (by decide) _ _ _ rfl HP.out ⟨_, 0, none⟩ 1 1 [.string x.name, .int .i64 x.val.kind, .int .i64 x.val.int, .string x.val.str] rfl rfl (lit_news (by simp)) (fun x hx => by simp at hx; rcases hx with rfl | rfl | rfl | rfl <;> rfl) (by unfold maxLen; omega) (by omega) (by simp; omega) ?_; intro v' w' hown' hgr2 _; have HD4 := Lib.hid ((hbel.alloc _).grown hgr2 (fun j h => by have := (HP.out.lt j h).1; omega)); have HO4 := Lib.hid hown'; obtain ⟨g', vc', rfl⟩ := own_at0 hown' (Nat.succ_pos m); clear hown' hgr2)
        go_roundw
        case rel =>
          refine ⟨k + 1, g', m + 1, vc', by omega, by go_num, rfl, by omega, Lib.hid ?_, Lib.hid ?_, HD4.out⟩
          · rw [wAt_yes hxk.out HQ.out, List.length_append, ← HML.out]; rfl
          · rw [wAt_yes hxk.out HQ.out, rows_append]; simpa [rows, At.c] using HO4.out
        case measure => simp [intOf]; omega
      · go_wp2
        go_roundw
        case rel =>
          rw [← wAt_no hxk.out HQ.out] at HML hown
          exact ⟨k + 1, g, m, vc, by omega, by go_num, rfl, by omega, HML, hown, hbel⟩
        case measure => simp [intOf]; omega
    · obtain rfl : k = n := by omega
      rw [take_all HN.out] at HML hown
      have HL := Lib.hid (rd_of_own hown.out)
      obtain ⟨L, hL⟩ : ∃ L, wAt xs s = L := ⟨_, rfl⟩
      rw [hL] at HML hown HL
      have HLL := Lib.hid hL
      clear hL
      have hm6 : m ≤ 1000000 := by omega
      clear hra HN hac
      obtain ⟨_, _, h1, hmvc, hrl⟩ := HL.out
      cases h1
      have u0 := grew_cell hbel v0
      have u1 := grew_cell hbel v1
      have u2 := grew_cell hbel v2
      by_cases hk0 : v.kind = 0
      · skip
        have x0 := grew_cell hbel e0
        have y0 := grew_cell hbel r0
        have x1 := grew_cell hbel e1
        have y1 := grew_cell hbel r1
        have x2 := grew_cell hbel e2
        have y2 := grew_cell hbel r2
        have x3 := grew_cell hbel e3
        have y3 := grew_cell hbel r3
        have x4 := grew_cell hbel e4
        have y4 := grew_cell hbel r4
        have xz := fun j => grew_frozen (a := ⟨w.heap.size, j, none⟩) hbel (by dsimp only; omega) (ez j)
        have yz := fun j => grew_frozen (a := ⟨w.heap.size + 2, j, none⟩) hbel (by dsimp only; omega) (rz j)
        have hgF := gW.trans hbel
        have hsF := hbel.size
        go_wp2
        have ow1 := (ownsRow_setCell_below (ownsRow_setCell_below (ownsRow_setCell_below (ownsRow_setCell_below (ownsRow_setCell_below (ownsRow_setCell_below hown.out (a := ⟨w.heap.size, 4, none⟩) (by dsimp only; omega) (Value.slice (some ⟨g, 0, none⟩) m vc)) (a := ⟨w.heap.size + 2, 0, none⟩) (by dsimp only; omega) (Value.int .i64 pi)) (a := ⟨w.heap.size + 2, 1, none⟩) (by dsimp only; omega) (Value.int .i64 po)) (a := ⟨w.heap.size + 2, 2, none⟩) (by dsimp only; omega) (Value.bool ps)) (a := ⟨w.heap.size + 2, 3, none⟩) (by dsimp only; omega) (Value.int .i64 pl)) (a := ⟨w.heap.size + 2, 4, none⟩) (by dsimp only; omega) (Value.slice (some ⟨g, 0, none⟩) m vc))
        change bodyPost _ _ _ _ _ _
        refine bodyPost_ret (v := P5.v ⟨pi, po, ps, pl, .slice (some ⟨g, 0, none⟩) m vc⟩) (by simp [results, Tryz.results77, go_sem, y0, y1, y2, y3, y4]) rfl ⟨⟨pi, po, ps, pl, .slice (some ⟨g, 0, none⟩) m vc⟩, rfl, ⟨H1.out, H2.out, H3.out, H4.out, ?_⟩, ?_⟩
        · have ow2 := (own_of ow1).mono (lo' := w.heap.size) (by omega) (Nat.le_refl _)
          have hll := show rows At.c L = rows At.c (setA xs s v) ∧ m = (setA xs s v).length by unfold setA; rw [HLL.out]; simp [hk0, HML.out]
          rw [← hll.1, ← hll.2]; exact ow2
        · repeat' (first | with_reducible exact hgF | with_reducible refine Grew.setCell ?_ ?_ _ | (dsimp only; omega))
      · have HK := Lib.hid hk0
        go_wp2
        go_loopw [9] (fun i wr' => ∃ j : Nat, j ≤ m ∧ i = .int .i64 j ∧ Hid (∀ (t : Nat) y, t < j → L[t]? = some y → Op.bytesLess s.toList y.name.toList = false) ∧ wr' = wr) (fun i _ => m - (intOf i).toNat)
        case atStart => exact ⟨0, Nat.zero_le _, rfl, Lib.hid (fun t y h => absurd h (Nat.not_lt_zero t)), rfl⟩
        case round =>
          obtain ⟨j, hj, rfl, hbef, rfl⟩ := hrel
          by_cases hjt : j < m
          · obtain ⟨y, hyk, c0, c1, c2, c3⟩ := ownAt hown.out hjt
            have hj0 : (0 : Int) ≤ j := by omega
            have hjm : (j : Int) < m := by omega
            have hjm2 : (j : Int) ≤ m := by omega
            have LE := le_eq y.name s
            obtain ⟨q, hq⟩ : ∃ q, Op.bytesLess s.toList y.name.toList = q := ⟨_, rfl⟩
            rw [hq] at LE
            have HQ := Lib.hid hq
            clear hq
            cases q
            · have LE1 : (Op.bytesLess y.name.toList s.toList || y.name.toList == s.toList) = true := LE
              clear LE
              go_wp2
              go_roundw
              case rel =>
                refine ⟨j + 1, by omega, by go_num, Lib.hid fun t z ht hz => ?_, by first | trivial | rfl⟩
                rcases Nat.lt_succ_iff_lt_or_eq.1 ht with ht | rfl
                · exact hbef.out t z ht hz
                · rw [hyk.out] at hz; cases hz; exact HQ.out
              case measure => simp [intOf]; omega
            · have LE1 : (Op.bytesLess y.name.toList s.toList || y.name.toList == s.toList) = false := LE
              have HJ := Lib.hid (leA_yes hbef.out hyk.out HQ.out)
              clear LE
              have hjvc : j ≤ vc := by omega
              go_wp2_with fail
              refine wp_region_noPanic ?_
              refine wp_region_held_drew (S := (fun w' => (w'.cell? ⟨w.heap.size + 1, 0, none⟩ = some (.int .i64 v.kind) ∧ w'.cell? ⟨w.heap.size + 1, 1, none⟩ = some (.int .i64 v.int) ∧ w'.cell? ⟨w.heap.size + 1, 2, none⟩ = some (.string v.str) ∧ Grew wr w'))) (by kernel_rfl) ?h1_S ?h1_r
              case h1_S => exact ⟨grew_cell (Grew.refl _).drew u0, grew_cell (Grew.refl _).drew u1, grew_cell (Grew.refl _).drew u2, (Grew.refl _).drew⟩
              case h1_r =>
               intro HS
               first | refine sk' 1 HS ?_ | refine tk' 1 HS ?_
               first | refine sk' 2 HS ?_ | refine tk' 2 HS ?_
               first | refine sk' 3 HS ?_ | refine tk' 3 HS ?_
               first | refine sk' 5 HS ?_ | refine tk' 5 HS ?_
               first | refine sk' 6 HS ?_ | refine tk' 6 HS ?_
               first | refine sk' 7 HS ?_ | refine tk' 7 HS ?_
               refine cl2 0 8 rfl rfl (by kernel_rfl) (fun K hK => ?a1_7_) (fun K hK => ?b1_7_)
               case a1_7_ =>
                rw [if_pos (by rfl)]
                go_simp
                refine hK.out _ _ ?s1_8_ ?r1_8_
                case s1_8_ => exact ⟨grew_cell ((Grew.refl _).alloc _) HS.1, grew_cell ((Grew.refl _).alloc _) HS.2.1, grew_cell ((Grew.refl _).alloc _) HS.2.2.1, HS.2.2.2.trans ((Grew.refl _).alloc _)⟩
                case r1_8_ =>
                 clear HS hK K; intro HS
                 try simp only [Act.put, lpa, lpb, lpc]
                 refine cl2 4 8 rfl rfl (by kernel_rfl) (fun K hK => ?a1_9_) (fun K hK => ?b1_9_)
                 case a1_9_ =>
                  rw [if_pos (by rfl)]
                  refine wp_append_lit _ _ _ 53 rfl (w.heap.size + 3) 84 i0 _ 4 48 Tryz.underlying53 hi hz0 hz1 hz2 rfl (by decide) _ rfl (ownsRow_base (lit_own _ 84 4) (by have := hbel.size; simp; omega)) _ j _ (rows At.c (L.take j)) rfl ((RdA.takeK At.len hrl (by decide) (by omega)).grew HS.2.2.2) (one_at _) (by unfold maxLen; omega) (by omega) (by have := hbel.size; have := HS.2.2.2.size; omega) ?_
                  intro v4 w4 ho4 hb4 hg4
                  have O4 := Lib.hid ho4
                  obtain ⟨a4, c4, rfl⟩ := own_slice ho4
                  have hbb4 : ∀ b, (Value.slice a4 j c4).ownBlock = some b → wr.heap.size ≤ b := fun b hb => by rcases hb4 b hb with h | h <;> (try simp at h) <;> (try subst h) <;> (try simp) <;> omega
                  clear ho4 hb4
                  refine hK.out _ _ ?s1_10_ ?r1_10_
                  case s1_10_ => exact ⟨grew_cell hg4 HS.1, grew_cell hg4 HS.2.1, grew_cell hg4 HS.2.2.1, HS.2.2.2.trans hg4⟩
                  case r1_10_ =>
                   clear HS hK K; intro HS
                   try simp only [Act.put, lpa, lpb, lpc]
                   refine cl' 8 fun K hK => ?_
                   rw [if_pos (by rfl)]
                   go_simp
                   refine hK.out _ _ ?s1_11_ ?r1_11_
                   case s1_11_ => exact ⟨grew_cell ((Grew.refl _).alloc _) HS.1, grew_cell ((Grew.refl _).alloc _) HS.2.1, grew_cell ((Grew.refl _).alloc _) HS.2.2.1, HS.2.2.2.trans ((Grew.refl _).alloc _)⟩
                   case r1_11_ =>
                    clear HS hK K; intro HS
                    try simp only [Act.put, lpa, lpb, lpc]
                    refine cl' 9 fun K hK => ?_
                    rw [if_pos (by rfl)]
                    have hs9 := HS.2.2.2.size
                    refine wp_append_own _ _ _ 53 rfl (w.heap.size + 3) 84 i0 _ 4 48 Tryz.underlying53 hi hz0 hz1 hz2 rfl (by decide) _ _ _ rfl (O4.out.alloc _) ⟨_, 0, none⟩ 1 1 [.string s, .int .i64 v.kind, .int .i64 v.int, .string v.str] rfl rfl (lit_news (by simp)) (fun x hx => by simp at hx; rcases hx with rfl | rfl | rfl | rfl <;> rfl) (by unfold maxLen; omega) (by omega) (by have := hbel.size; simp at hs9 ⊢; omega) ?_
                    intro v9 w9 ho9 hgr9 _
                    have hG9 := HS.2.2.2.grown hgr9 (fun j h => hbb4 j h)
                    have O9 := Lib.hid ho9
                    obtain ⟨a9, c9, rfl⟩ := own_slice ho9
                    clear ho9 hgr9
                    refine hK.out _ _ ?s1_12_ ?r1_12_
                    case s1_12_ => exact ⟨grew_cell hG9 u0, grew_cell hG9 u1, grew_cell hG9 u2, hG9⟩
                    case r1_12_ =>
                     clear HS hK K; intro HS
                     try simp only [Act.put, lpa, lpb, lpc]
                     first | refine sk' 10 HS ?_ | refine tk' 10 HS ?_
                     refine wpAnyH_done (by kernel_rfl) ?_ _
                     refine NoPanic.normal ?_
                     clear HS
                     have HLR := ownsRow_grew hown.out hG9
                     have HNW := own_news HLR (j * 4)
                     rw [rows_dropK At.len] at HNW
                     have hld : (rows At.c (L.drop j)).length = (m - j) * 4 := by rw [rows_length At.len, List.length_drop, ← HML.out]
                     have HLD := Lib.hid hld
                     have HNW2 := Lib.hid HNW
                     clear HLR HNW hld
                     have hgW9 := hbel.trans hG9
                     have hsz9 := hgW9.size
                     go_wp2_with (at_builtin; refine wpList_append_own _ rfl _ _ 53 rfl (w.heap.size + 3) 84 i0 _ 4 48 Tryz.underlying53 hi hz0 hz1 hz2 rfl (by decide) _ _ _ rfl O9.out ⟨g, j * 4, none⟩ (m - j) (vc - j) (rows At.c (L.drop j)) (by first | rfl | simp [Act.eval]) HLD.out HNW2.out (one_at _) (by unfold maxLen; omega) (by omega) (by omega) ?_; intro vF wF hoF hgrF _; have hGF := Lib.hid (hgW9.grown hgrF (fun j h => by have := (O9.out.lt j h).1; omega)); have OF := Lib.hid hoF; obtain ⟨aF, cF, rfl⟩ := own_slice hoF; clear hoF hgrF; have x0 := grew_cell hGF.out e0; have y0 := grew_cell hGF.out r0; have x1 := grew_cell hGF.out e1; have y1 := grew_cell hGF.out r1; have x2 := grew_cell hGF.out e2; have y2 := grew_cell hGF.out r2; have x3 := grew_cell hGF.out e3; have y3 := grew_cell hGF.out r3; have x4 := grew_cell hGF.out e4; have y4 := grew_cell hGF.out r4; have xz := fun j => grew_frozen (a := ⟨w.heap.size, j, none⟩) hGF.out (by dsimp only; omega) (ez j); have yz := fun j => grew_frozen (a := ⟨w.heap.size + 2, j, none⟩) hGF.out (by dsimp only; omega) (rz j); have hgF := gW.trans hGF.out; have hsF := hGF.out.size)
                     have ow1 := (ownsRow_setCell_below (ownsRow_setCell_below (ownsRow_setCell_below (ownsRow_setCell_below (ownsRow_setCell_below (ownsRow_setCell_below OF.out (a := ⟨w.heap.size, 4, none⟩) (by dsimp only; omega) (Value.slice aF (j + 1 + (m - j)) cF)) (a := ⟨w.heap.size + 2, 0, none⟩) (by dsimp only; omega) (Value.int .i64 pi)) (a := ⟨w.heap.size + 2, 1, none⟩) (by dsimp only; omega) (Value.int .i64 po)) (a := ⟨w.heap.size + 2, 2, none⟩) (by dsimp only; omega) (Value.bool ps)) (a := ⟨w.heap.size + 2, 3, none⟩) (by dsimp only; omega) (Value.int .i64 pl)) (a := ⟨w.heap.size + 2, 4, none⟩) (by dsimp only; omega) (Value.slice aF (j + 1 + (m - j)) cF))
                     change bodyPost _ _ _ _ _ _
                     refine bodyPost_ret (v := P5.v ⟨pi, po, ps, pl, .slice aF (j + 1 + (m - j)) cF⟩) (by simp [results, Tryz.results77, go_sem, y0, y1, y2, y3, y4]) rfl ⟨⟨pi, po, ps, pl, .slice aF (j + 1 + (m - j)) cF⟩, rfl, ⟨H1.out, H2.out, H3.out, H4.out, ?_⟩, ?_⟩
                     · have ow2 := (own_of ow1).mono (lo' := w.heap.size) (by omega) (Nat.le_refl _)
                       have hll := show _ = rows At.c (setA xs s v) ∧ (j + 1 + (m - j)) = (setA xs s v).length from setA_rows HLL.out HJ.out hk0 HML.out hj
                       rw [← hll.1, ← hll.2]; exact ow2
                     · repeat' (first | with_reducible exact hgF | with_reducible refine Grew.setCell ?_ ?_ _ | (dsimp only; omega))
                 case b1_9_ =>
                  rw [if_pos (by rfl)]
                  go_simp
                  refine hK.out _ _ ?s1_14_ ?r1_14_
                  case s1_14_ => exact ⟨grew_cell ((Grew.refl _).alloc _) HS.1, grew_cell ((Grew.refl _).alloc _) HS.2.1, grew_cell ((Grew.refl _).alloc _) HS.2.2.1, HS.2.2.2.trans ((Grew.refl _).alloc _)⟩
                  case r1_14_ =>
                   have N8 : ∀ j u, [Value.string s, .int .i64 v.kind, .int .i64 v.int, .string v.str][j]? = some u → ((wr.drew.alloc (.cells #[] 84)).alloc (.cells #[.string s, .int .i64 v.kind, .int .i64 v.int, .string v.str] 84)).cell? ((⟨wr.heap.size + 1, 0, none⟩ : Addr).add j) = some u := lit_news (cs := #[.string s, .int .i64 v.kind, .int .i64 v.int, .string v.str]) (by simp)
                   clear HS hK K; intro HS
                   try simp only [Act.put, lpa, lpb, lpc]
                   refine cl' 4 fun K hK => ?_
                   rw [if_pos (by rfl)]
                   refine wp_append_lit _ _ _ 53 rfl (w.heap.size + 3) 84 i0 _ 4 48 Tryz.underlying53 hi hz0 hz1 hz2 rfl (by decide) _ rfl ((ownsRow_base (lit_own _ 84 4) (by have := hbel.size; simp; omega)).alloc _) _ j _ (rows At.c (L.take j)) rfl ((RdA.takeK At.len hrl (by decide) (by omega)).grew HS.2.2.2) (one_at _) (by unfold maxLen; omega) (by omega) (by have := hbel.size; have := HS.2.2.2.size; omega) ?_
                   intro v4 w4 ho4 hb4 hg4
                   have O4 := Lib.hid ho4
                   obtain ⟨a4, c4, rfl⟩ := own_slice ho4
                   have hbb4 : ∀ b, (Value.slice a4 j c4).ownBlock = some b → wr.heap.size ≤ b := fun b hb => by rcases hb4 b hb with h | h <;> (try simp at h) <;> (try subst h) <;> (try simp) <;> omega
                   clear ho4 hb4
                   refine hK.out _ _ ?s1_15_ ?r1_15_
                   case s1_15_ => exact ⟨grew_cell hg4 HS.1, grew_cell hg4 HS.2.1, grew_cell hg4 HS.2.2.1, HS.2.2.2.trans hg4⟩
                   case r1_15_ =>
                    clear HS hK K; intro HS
                    try simp only [Act.put, lpa, lpb, lpc]
                    refine cl' 9 fun K hK => ?_
                    rw [if_pos (by rfl)]
                    have hs9 := HS.2.2.2.size
                    refine wp_append_own _ _ _ 53 rfl (w.heap.size + 3) 84 i0 _ 4 48 Tryz.underlying53 hi hz0 hz1 hz2 rfl (by decide) _ _ _ rfl O4.out ⟨_, 0, none⟩ 1 1 [.string s, .int .i64 v.kind, .int .i64 v.int, .string v.str] rfl rfl (fun j u hu => grew_cell hg4 (N8 j u hu)) (fun x hx => by simp at hx; rcases hx with rfl | rfl | rfl | rfl <;> rfl) (by unfold maxLen; omega) (by omega) (by have := hbel.size; simp at hs9 ⊢; omega) ?_
                    intro v9 w9 ho9 hgr9 _
                    have hG9 := HS.2.2.2.grown hgr9 (fun j h => hbb4 j h)
                    have O9 := Lib.hid ho9
                    obtain ⟨a9, c9, rfl⟩ := own_slice ho9
                    clear ho9 hgr9
                    refine hK.out _ _ ?s1_16_ ?r1_16_
                    case s1_16_ => exact ⟨grew_cell hG9 u0, grew_cell hG9 u1, grew_cell hG9 u2, hG9⟩
                    case r1_16_ =>
                     clear HS hK K; intro HS
                     try simp only [Act.put, lpa, lpb, lpc]
                     first | refine sk' 10 HS ?_ | refine tk' 10 HS ?_
                     refine wpAnyH_done (by kernel_rfl) ?_ _
                     refine NoPanic.normal ?_
                     clear HS
                     have HLR := ownsRow_grew hown.out hG9
                     have HNW := own_news HLR (j * 4)
                     rw [rows_dropK At.len] at HNW
                     have hld : (rows At.c (L.drop j)).length = (m - j) * 4 := by rw [rows_length At.len, List.length_drop, ← HML.out]
                     have HLD := Lib.hid hld
                     have HNW2 := Lib.hid HNW
                     clear HLR HNW hld
                     have hgW9 := hbel.trans hG9
                     have hsz9 := hgW9.size
                     go_wp2_with (at_builtin; refine wpList_append_own _ rfl _ _ 53 rfl (w.heap.size + 3) 84 i0 _ 4 48 Tryz.underlying53 hi hz0 hz1 hz2 rfl (by decide) _ _ _ rfl O9.out ⟨g, j * 4, none⟩ (m - j) (vc - j) (rows At.c (L.drop j)) (by first | rfl | simp [Act.eval]) HLD.out HNW2.out (one_at _) (by unfold maxLen; omega) (by omega) (by omega) ?_; intro vF wF hoF hgrF _; have hGF := Lib.hid (hgW9.grown hgrF (fun j h => by have := (O9.out.lt j h).1; omega)); have OF := Lib.hid hoF; obtain ⟨aF, cF, rfl⟩ := own_slice hoF; clear hoF hgrF; have x0 := grew_cell hGF.out e0; have y0 := grew_cell hGF.out r0; have x1 := grew_cell hGF.out e1; have y1 := grew_cell hGF.out r1; have x2 := grew_cell hGF.out e2; have y2 := grew_cell hGF.out r2; have x3 := grew_cell hGF.out e3; have y3 := grew_cell hGF.out r3; have x4 := grew_cell hGF.out e4; have y4 := grew_cell hGF.out r4; have xz := fun j => grew_frozen (a := ⟨w.heap.size, j, none⟩) hGF.out (by dsimp only; omega) (ez j); have yz := fun j => grew_frozen (a := ⟨w.heap.size + 2, j, none⟩) hGF.out (by dsimp only; omega) (rz j); have hgF := gW.trans hGF.out; have hsF := hGF.out.size)
                     have ow1 := (ownsRow_setCell_below (ownsRow_setCell_below (ownsRow_setCell_below (ownsRow_setCell_below (ownsRow_setCell_below (ownsRow_setCell_below OF.out (a := ⟨w.heap.size, 4, none⟩) (by dsimp only; omega) (Value.slice aF (j + 1 + (m - j)) cF)) (a := ⟨w.heap.size + 2, 0, none⟩) (by dsimp only; omega) (Value.int .i64 pi)) (a := ⟨w.heap.size + 2, 1, none⟩) (by dsimp only; omega) (Value.int .i64 po)) (a := ⟨w.heap.size + 2, 2, none⟩) (by dsimp only; omega) (Value.bool ps)) (a := ⟨w.heap.size + 2, 3, none⟩) (by dsimp only; omega) (Value.int .i64 pl)) (a := ⟨w.heap.size + 2, 4, none⟩) (by dsimp only; omega) (Value.slice aF (j + 1 + (m - j)) cF))
                     change bodyPost _ _ _ _ _ _
                     refine bodyPost_ret (v := P5.v ⟨pi, po, ps, pl, .slice aF (j + 1 + (m - j)) cF⟩) (by simp [results, Tryz.results77, go_sem, y0, y1, y2, y3, y4]) rfl ⟨⟨pi, po, ps, pl, .slice aF (j + 1 + (m - j)) cF⟩, rfl, ⟨H1.out, H2.out, H3.out, H4.out, ?_⟩, ?_⟩
                     · have ow2 := (own_of ow1).mono (lo' := w.heap.size) (by omega) (Nat.le_refl _)
                       have hll := show _ = rows At.c (setA xs s v) ∧ (j + 1 + (m - j)) = (setA xs s v).length from setA_rows HLL.out HJ.out hk0 HML.out hj
                       rw [← hll.1, ← hll.2]; exact ow2
                     · repeat' (first | with_reducible exact hgF | with_reducible refine Grew.setCell ?_ ?_ _ | (dsimp only; omega))
               case b1_7_ =>
                rw [if_pos (by rfl)]
                go_simp
                refine hK.out _ _ ?s1_18_ ?r1_18_
                case s1_18_ => exact ⟨grew_cell ((Grew.refl _).alloc _) HS.1, grew_cell ((Grew.refl _).alloc _) HS.2.1, grew_cell ((Grew.refl _).alloc _) HS.2.2.1, HS.2.2.2.trans ((Grew.refl _).alloc _)⟩
                case r1_18_ =>
                 have N8 : ∀ j u, [Value.string s, .int .i64 v.kind, .int .i64 v.int, .string v.str][j]? = some u → (wr.drew.alloc (.cells #[.string s, .int .i64 v.kind, .int .i64 v.int, .string v.str] 84)).cell? ((⟨wr.heap.size, 0, none⟩ : Addr).add j) = some u := lit_news (cs := #[.string s, .int .i64 v.kind, .int .i64 v.int, .string v.str]) (by simp)
                 have HL8 : Hid (((wr.drew.alloc (.cells #[.string s, .int .i64 v.kind, .int .i64 v.int, .string v.str] 84)).alloc (.cells #[] 84)).ownsRow (w.heap.size + 3) 84 4 (.slice (some ⟨wr.heap.size + 1, 0, none⟩) 0 0) 0 []) := by
                   have h := lit_own (wr.drew.alloc (.cells #[.string s, .int .i64 v.kind, .int .i64 v.int, .string v.str] 84)) 84 4
                   have e : (wr.drew.alloc (.cells #[.string s, .int .i64 v.kind, .int .i64 v.int, .string v.str] 84)).heap.size = wr.heap.size + 1 := by simp
                   rw [e] at h
                   exact Lib.hid (ownsRow_base h (by have := hbel.size; omega))
                 clear HS hK K; intro HS
                 try simp only [Act.put, lpa, lpb, lpc]
                 refine cl' 0 fun K hK => ?_
                 rw [if_pos (by rfl)]
                 go_simp
                 refine hK.out _ _ ?s1_19_ ?r1_19_
                 case s1_19_ => exact ⟨grew_cell ((Grew.refl _).alloc _) HS.1, grew_cell ((Grew.refl _).alloc _) HS.2.1, grew_cell ((Grew.refl _).alloc _) HS.2.2.1, HS.2.2.2.trans ((Grew.refl _).alloc _)⟩
                 case r1_19_ =>
                  clear HS hK K; intro HS
                  try simp only [Act.put, lpa, lpb, lpc]
                  refine cl' 4 fun K hK => ?_
                  rw [if_pos (by rfl)]
                  refine wp_append_lit _ _ _ 53 rfl (w.heap.size + 3) 84 i0 _ 4 48 Tryz.underlying53 hi hz0 hz1 hz2 rfl (by decide) _ rfl HL8.out _ j _ (rows At.c (L.take j)) rfl ((RdA.takeK At.len hrl (by decide) (by omega)).grew HS.2.2.2) (one_at _) (by unfold maxLen; omega) (by omega) (by have := hbel.size; have := HS.2.2.2.size; omega) ?_
                  intro v4 w4 ho4 hb4 hg4
                  have O4 := Lib.hid ho4
                  obtain ⟨a4, c4, rfl⟩ := own_slice ho4
                  have hbb4 : ∀ b, (Value.slice a4 j c4).ownBlock = some b → wr.heap.size ≤ b := fun b hb => by rcases hb4 b hb with h | h <;> (try simp at h) <;> (try subst h) <;> (try simp) <;> omega
                  clear ho4 hb4
                  refine hK.out _ _ ?s1_20_ ?r1_20_
                  case s1_20_ => exact ⟨grew_cell hg4 HS.1, grew_cell hg4 HS.2.1, grew_cell hg4 HS.2.2.1, HS.2.2.2.trans hg4⟩
                  case r1_20_ =>
                   clear HS hK K; intro HS
                   try simp only [Act.put, lpa, lpb, lpc]
                   refine cl' 9 fun K hK => ?_
                   rw [if_pos (by rfl)]
                   have hs9 := HS.2.2.2.size
                   refine wp_append_own _ _ _ 53 rfl (w.heap.size + 3) 84 i0 _ 4 48 Tryz.underlying53 hi hz0 hz1 hz2 rfl (by decide) _ _ _ rfl O4.out ⟨_, 0, none⟩ 1 1 [.string s, .int .i64 v.kind, .int .i64 v.int, .string v.str] rfl rfl (fun j u hu => grew_cell (((Grew.refl (wr.drew.alloc (.cells #[.string s, .int .i64 v.kind, .int .i64 v.int, .string v.str] 84))).alloc (.cells #[] 84)).trans (show Grew ((wr.drew.alloc (.cells #[.string s, .int .i64 v.kind, .int .i64 v.int, .string v.str] 84)).alloc (.cells #[] 84)) w4 from hg4)) (N8 j u hu)) (fun x hx => by simp at hx; rcases hx with rfl | rfl | rfl | rfl <;> rfl) (by unfold maxLen; omega) (by omega) (by have := hbel.size; simp at hs9 ⊢; omega) ?_
                   intro v9 w9 ho9 hgr9 _
                   have hG9 := HS.2.2.2.grown hgr9 (fun j h => hbb4 j h)
                   have O9 := Lib.hid ho9
                   obtain ⟨a9, c9, rfl⟩ := own_slice ho9
                   clear ho9 hgr9
                   refine hK.out _ _ ?s1_21_ ?r1_21_
                   case s1_21_ => exact ⟨grew_cell hG9 u0, grew_cell hG9 u1, grew_cell hG9 u2, hG9⟩
                   case r1_21_ =>
                    clear HS hK K; intro HS
                    try simp only [Act.put, lpa, lpb, lpc]
                    first | refine sk' 10 HS ?_ | refine tk' 10 HS ?_
                    refine wpAnyH_done (by kernel_rfl) ?_ _
                    refine NoPanic.normal ?_
                    clear HS
                    have HLR := ownsRow_grew hown.out hG9
                    have HNW := own_news HLR (j * 4)
                    rw [rows_dropK At.len] at HNW
                    have hld : (rows At.c (L.drop j)).length = (m - j) * 4 := by rw [rows_length At.len, List.length_drop, ← HML.out]
                    have HLD := Lib.hid hld
                    have HNW2 := Lib.hid HNW
                    clear HLR HNW hld
                    have hgW9 := hbel.trans hG9
                    have hsz9 := hgW9.size
                    go_wp2_with (at_builtin; refine wpList_append_own _ rfl _ _ 53 rfl (w.heap.size + 3) 84 i0 _ 4 48 Tryz.underlying53 hi hz0 hz1 hz2 rfl (by decide) _ _ _ rfl O9.out ⟨g, j * 4, none⟩ (m - j) (vc - j) (rows At.c (L.drop j)) (by first | rfl | simp [Act.eval]) HLD.out HNW2.out (one_at _) (by unfold maxLen; omega) (by omega) (by omega) ?_; intro vF wF hoF hgrF _; have hGF := Lib.hid (hgW9.grown hgrF (fun j h => by have := (O9.out.lt j h).1; omega)); have OF := Lib.hid hoF; obtain ⟨aF, cF, rfl⟩ := own_slice hoF; clear hoF hgrF; have x0 := grew_cell hGF.out e0; have y0 := grew_cell hGF.out r0; have x1 := grew_cell hGF.out e1; have y1 := grew_cell hGF.out r1; have x2 := grew_cell hGF.out e2; have y2 := grew_cell hGF.out r2; have x3 := grew_cell hGF.out e3; have y3 := grew_cell hGF.out r3; have x4 := grew_cell hGF.out e4; have y4 := grew_cell hGF.out r4; have xz := fun j => grew_frozen (a := ⟨w.heap.size, j, none⟩) hGF.out (by dsimp only; omega) (ez j); have yz := fun j => grew_frozen (a := ⟨w.heap.size + 2, j, none⟩) hGF.out (by dsimp only; omega) (rz j); have hgF := gW.trans hGF.out; have hsF := hGF.out.size)
                    have ow1 := (ownsRow_setCell_below (ownsRow_setCell_below (ownsRow_setCell_below (ownsRow_setCell_below (ownsRow_setCell_below (ownsRow_setCell_below OF.out (a := ⟨w.heap.size, 4, none⟩) (by dsimp only; omega) (Value.slice aF (j + 1 + (m - j)) cF)) (a := ⟨w.heap.size + 2, 0, none⟩) (by dsimp only; omega) (Value.int .i64 pi)) (a := ⟨w.heap.size + 2, 1, none⟩) (by dsimp only; omega) (Value.int .i64 po)) (a := ⟨w.heap.size + 2, 2, none⟩) (by dsimp only; omega) (Value.bool ps)) (a := ⟨w.heap.size + 2, 3, none⟩) (by dsimp only; omega) (Value.int .i64 pl)) (a := ⟨w.heap.size + 2, 4, none⟩) (by dsimp only; omega) (Value.slice aF (j + 1 + (m - j)) cF))
                    change bodyPost _ _ _ _ _ _
                    refine bodyPost_ret (v := P5.v ⟨pi, po, ps, pl, .slice aF (j + 1 + (m - j)) cF⟩) (by simp [results, Tryz.results77, go_sem, y0, y1, y2, y3, y4]) rfl ⟨⟨pi, po, ps, pl, .slice aF (j + 1 + (m - j)) cF⟩, rfl, ⟨H1.out, H2.out, H3.out, H4.out, ?_⟩, ?_⟩
                    · have ow2 := (own_of ow1).mono (lo' := w.heap.size) (by omega) (Nat.le_refl _)
                      have hll := show _ = rows At.c (setA xs s v) ∧ (j + 1 + (m - j)) = (setA xs s v).length from setA_rows HLL.out HJ.out hk0 HML.out hj
                      rw [← hll.1, ← hll.2]; exact ow2
                    · repeat' (first | with_reducible exact hgF | with_reducible refine Grew.setCell ?_ ?_ _ | (dsimp only; omega))
          · have HJM := Lib.hid (show j = m by omega)
            have HJ := Lib.hid (leA_no (xs := L) (s := s) (fun t z ht hz => hbef.out t z (by rw [HJM.out, HML.out]; exact ht) hz))
            rw [← HML.out, ← HJM.out] at HJ
            have hge : ¬ ((j : Int) < (m : Int)) := by omega
            have hjm2 : (j : Int) ≤ m := by omega
            have hj0 : (0 : Int) ≤ j := by omega
            have hjvc : j ≤ vc := by omega
            clear hjt
            go_wp2_with fail
            refine wp_region_noPanic ?_
            refine wp_region_held_drew (S := (fun w' => (w'.cell? ⟨w.heap.size + 1, 0, none⟩ = some (.int .i64 v.kind) ∧ w'.cell? ⟨w.heap.size + 1, 1, none⟩ = some (.int .i64 v.int) ∧ w'.cell? ⟨w.heap.size + 1, 2, none⟩ = some (.string v.str) ∧ Grew wr w'))) (by kernel_rfl) ?h2_S ?h2_r
            case h2_S => exact ⟨grew_cell (Grew.refl _).drew u0, grew_cell (Grew.refl _).drew u1, grew_cell (Grew.refl _).drew u2, (Grew.refl _).drew⟩
            case h2_r =>
             intro HS
             first | refine sk' 1 HS ?_ | refine tk' 1 HS ?_
             first | refine sk' 2 HS ?_ | refine tk' 2 HS ?_
             first | refine sk' 3 HS ?_ | refine tk' 3 HS ?_
             first | refine sk' 5 HS ?_ | refine tk' 5 HS ?_
             first | refine sk' 6 HS ?_ | refine tk' 6 HS ?_
             first | refine sk' 7 HS ?_ | refine tk' 7 HS ?_
             refine cl2 0 8 rfl rfl (by kernel_rfl) (fun K hK => ?a2_7_) (fun K hK => ?b2_7_)
             case a2_7_ =>
              rw [if_pos (by rfl)]
              go_simp
              refine hK.out _ _ ?s2_8_ ?r2_8_
              case s2_8_ => exact ⟨grew_cell ((Grew.refl _).alloc _) HS.1, grew_cell ((Grew.refl _).alloc _) HS.2.1, grew_cell ((Grew.refl _).alloc _) HS.2.2.1, HS.2.2.2.trans ((Grew.refl _).alloc _)⟩
              case r2_8_ =>
               clear HS hK K; intro HS
               try simp only [Act.put, lpa, lpb, lpc]
               refine cl2 4 8 rfl rfl (by kernel_rfl) (fun K hK => ?a2_9_) (fun K hK => ?b2_9_)
               case a2_9_ =>
                rw [if_pos (by rfl)]
                refine wp_append_lit _ _ _ 53 rfl (w.heap.size + 3) 84 i0 _ 4 48 Tryz.underlying53 hi hz0 hz1 hz2 rfl (by decide) _ rfl (ownsRow_base (lit_own _ 84 4) (by have := hbel.size; simp; omega)) _ j _ (rows At.c (L.take j)) rfl ((RdA.takeK At.len hrl (by decide) (by omega)).grew HS.2.2.2) (one_at _) (by unfold maxLen; omega) (by omega) (by have := hbel.size; have := HS.2.2.2.size; omega) ?_
                intro v4 w4 ho4 hb4 hg4
                have O4 := Lib.hid ho4
                obtain ⟨a4, c4, rfl⟩ := own_slice ho4
                have hbb4 : ∀ b, (Value.slice a4 j c4).ownBlock = some b → wr.heap.size ≤ b := fun b hb => by rcases hb4 b hb with h | h <;> (try simp at h) <;> (try subst h) <;> (try simp) <;> omega
                clear ho4 hb4
                refine hK.out _ _ ?s2_10_ ?r2_10_
                case s2_10_ => exact ⟨grew_cell hg4 HS.1, grew_cell hg4 HS.2.1, grew_cell hg4 HS.2.2.1, HS.2.2.2.trans hg4⟩
                case r2_10_ =>
                 clear HS hK K; intro HS
                 try simp only [Act.put, lpa, lpb, lpc]
                 refine cl' 8 fun K hK => ?_
                 rw [if_pos (by rfl)]
                 go_simp
                 refine hK.out _ _ ?s2_11_ ?r2_11_
                 case s2_11_ => exact ⟨grew_cell ((Grew.refl _).alloc _) HS.1, grew_cell ((Grew.refl _).alloc _) HS.2.1, grew_cell ((Grew.refl _).alloc _) HS.2.2.1, HS.2.2.2.trans ((Grew.refl _).alloc _)⟩
                 case r2_11_ =>
                  clear HS hK K; intro HS
                  try simp only [Act.put, lpa, lpb, lpc]
                  refine cl' 9 fun K hK => ?_
                  rw [if_pos (by rfl)]
                  have hs9 := HS.2.2.2.size
                  refine wp_append_own _ _ _ 53 rfl (w.heap.size + 3) 84 i0 _ 4 48 Tryz.underlying53 hi hz0 hz1 hz2 rfl (by decide) _ _ _ rfl (O4.out.alloc _) ⟨_, 0, none⟩ 1 1 [.string s, .int .i64 v.kind, .int .i64 v.int, .string v.str] rfl rfl (lit_news (by simp)) (fun x hx => by simp at hx; rcases hx with rfl | rfl | rfl | rfl <;> rfl) (by unfold maxLen; omega) (by omega) (by have := hbel.size; simp at hs9 ⊢; omega) ?_
                  intro v9 w9 ho9 hgr9 _
                  have hG9 := HS.2.2.2.grown hgr9 (fun j h => hbb4 j h)
                  have O9 := Lib.hid ho9
                  obtain ⟨a9, c9, rfl⟩ := own_slice ho9
                  clear ho9 hgr9
                  refine hK.out _ _ ?s2_12_ ?r2_12_
                  case s2_12_ => exact ⟨grew_cell hG9 u0, grew_cell hG9 u1, grew_cell hG9 u2, hG9⟩
                  case r2_12_ =>
                   clear HS hK K; intro HS
                   try simp only [Act.put, lpa, lpb, lpc]
                   first | refine sk' 10 HS ?_ | refine tk' 10 HS ?_
                   refine wpAnyH_done (by kernel_rfl) ?_ _
                   refine NoPanic.normal ?_
                   clear HS
                   have HLR := ownsRow_grew hown.out hG9
                   have HNW : ∀ t u, (rows At.c (L.drop j))[t]? = some u → w9.cell? ((⟨g, if vc = j then 0 else j * 4, none⟩ : Addr).add t) = some u := fun t u hu => by rw [List.drop_of_length_le (by rw [← HML.out, HJM.out]; exact Nat.le_refl _)] at hu; cases hu
                   have hld : (rows At.c (L.drop j)).length = (m - j) * 4 := by rw [rows_length At.len, List.length_drop, ← HML.out]
                   have HLD := Lib.hid hld
                   have HNW2 := Lib.hid HNW
                   clear HLR HNW hld
                   have hgW9 := hbel.trans hG9
                   have hsz9 := hgW9.size
                   go_wp2_with (at_builtin; refine wpList_append_own _ rfl _ _ 53 rfl (w.heap.size + 3) 84 i0 _ 4 48 Tryz.underlying53 hi hz0 hz1 hz2 rfl (by decide) _ _ _ rfl O9.out ⟨g, if vc = j then 0 else j * 4, none⟩ (m - j) (vc - j) (rows At.c (L.drop j)) (by by_cases h : vc = j <;> simp [Act.eval, h]) HLD.out HNW2.out (one_at _) (by unfold maxLen; omega) (by omega) (by omega) ?_; intro vF wF hoF hgrF _; have hGF := Lib.hid (hgW9.grown hgrF (fun j h => by have := (O9.out.lt j h).1; omega)); have OF := Lib.hid hoF; obtain ⟨aF, cF, rfl⟩ := own_slice hoF; clear hoF hgrF; have x0 := grew_cell hGF.out e0; have y0 := grew_cell hGF.out r0; have x1 := grew_cell hGF.out e1; have y1 := grew_cell hGF.out r1; have x2 := grew_cell hGF.out e2; have y2 := grew_cell hGF.out r2; have x3 := grew_cell hGF.out e3; have y3 := grew_cell hGF.out r3; have x4 := grew_cell hGF.out e4; have y4 := grew_cell hGF.out r4; have xz := fun j => grew_frozen (a := ⟨w.heap.size, j, none⟩) hGF.out (by dsimp only; omega) (ez j); have yz := fun j => grew_frozen (a := ⟨w.heap.size + 2, j, none⟩) hGF.out (by dsimp only; omega) (rz j); have hgF := gW.trans hGF.out; have hsF := hGF.out.size)
                   all_goals
                     have ow1 := (ownsRow_setCell_below (ownsRow_setCell_below (ownsRow_setCell_below (ownsRow_setCell_below (ownsRow_setCell_below (ownsRow_setCell_below OF.out (a := ⟨w.heap.size, 4, none⟩) (by dsimp only; omega) (Value.slice aF (j + 1 + (m - j)) cF)) (a := ⟨w.heap.size + 2, 0, none⟩) (by dsimp only; omega) (Value.int .i64 pi)) (a := ⟨w.heap.size + 2, 1, none⟩) (by dsimp only; omega) (Value.int .i64 po)) (a := ⟨w.heap.size + 2, 2, none⟩) (by dsimp only; omega) (Value.bool ps)) (a := ⟨w.heap.size + 2, 3, none⟩) (by dsimp only; omega) (Value.int .i64 pl)) (a := ⟨w.heap.size + 2, 4, none⟩) (by dsimp only; omega) (Value.slice aF (j + 1 + (m - j)) cF))
                     change bodyPost _ _ _ _ _ _
                     refine bodyPost_ret (v := P5.v ⟨pi, po, ps, pl, .slice aF (j + 1 + (m - j)) cF⟩) (by simp [results, Tryz.results77, go_sem, y0, y1, y2, y3, y4]) rfl ⟨⟨pi, po, ps, pl, .slice aF (j + 1 + (m - j)) cF⟩, rfl, ⟨H1.out, H2.out, H3.out, H4.out, ?_⟩, ?_⟩
                     · have ow2 := (own_of ow1).mono (lo' := w.heap.size) (by omega) (Nat.le_refl _)
                       have hll := show _ = rows At.c (setA xs s v) ∧ (j + 1 + (m - j)) = (setA xs s v).length from setA_rows HLL.out HJ.out hk0 HML.out hj
                       rw [← hll.1, ← hll.2]; exact ow2
                     · repeat' (first | with_reducible exact hgF | with_reducible refine Grew.setCell ?_ ?_ _ | (dsimp only; omega))
               case b2_9_ =>
                rw [if_pos (by rfl)]
                go_simp
                refine hK.out _ _ ?s2_14_ ?r2_14_
                case s2_14_ => exact ⟨grew_cell ((Grew.refl _).alloc _) HS.1, grew_cell ((Grew.refl _).alloc _) HS.2.1, grew_cell ((Grew.refl _).alloc _) HS.2.2.1, HS.2.2.2.trans ((Grew.refl _).alloc _)⟩
                case r2_14_ =>
                 have N8 : ∀ j u, [Value.string s, .int .i64 v.kind, .int .i64 v.int, .string v.str][j]? = some u → ((wr.drew.alloc (.cells #[] 84)).alloc (.cells #[.string s, .int .i64 v.kind, .int .i64 v.int, .string v.str] 84)).cell? ((⟨wr.heap.size + 1, 0, none⟩ : Addr).add j) = some u := lit_news (cs := #[.string s, .int .i64 v.kind, .int .i64 v.int, .string v.str]) (by simp)
                 clear HS hK K; intro HS
                 try simp only [Act.put, lpa, lpb, lpc]
                 refine cl' 4 fun K hK => ?_
                 rw [if_pos (by rfl)]
                 refine wp_append_lit _ _ _ 53 rfl (w.heap.size + 3) 84 i0 _ 4 48 Tryz.underlying53 hi hz0 hz1 hz2 rfl (by decide) _ rfl ((ownsRow_base (lit_own _ 84 4) (by have := hbel.size; simp; omega)).alloc _) _ j _ (rows At.c (L.take j)) rfl ((RdA.takeK At.len hrl (by decide) (by omega)).grew HS.2.2.2) (one_at _) (by unfold maxLen; omega) (by omega) (by have := hbel.size; have := HS.2.2.2.size; omega) ?_
                 intro v4 w4 ho4 hb4 hg4
                 have O4 := Lib.hid ho4
                 obtain ⟨a4, c4, rfl⟩ := own_slice ho4
                 have hbb4 : ∀ b, (Value.slice a4 j c4).ownBlock = some b → wr.heap.size ≤ b := fun b hb => by rcases hb4 b hb with h | h <;> (try simp at h) <;> (try subst h) <;> (try simp) <;> omega
                 clear ho4 hb4
                 refine hK.out _ _ ?s2_15_ ?r2_15_
                 case s2_15_ => exact ⟨grew_cell hg4 HS.1, grew_cell hg4 HS.2.1, grew_cell hg4 HS.2.2.1, HS.2.2.2.trans hg4⟩
                 case r2_15_ =>
                  clear HS hK K; intro HS
                  try simp only [Act.put, lpa, lpb, lpc]
                  refine cl' 9 fun K hK => ?_
                  rw [if_pos (by rfl)]
                  have hs9 := HS.2.2.2.size
                  refine wp_append_own _ _ _ 53 rfl (w.heap.size + 3) 84 i0 _ 4 48 Tryz.underlying53 hi hz0 hz1 hz2 rfl (by decide) _ _ _ rfl O4.out ⟨_, 0, none⟩ 1 1 [.string s, .int .i64 v.kind, .int .i64 v.int, .string v.str] rfl rfl (fun j u hu => grew_cell hg4 (N8 j u hu)) (fun x hx => by simp at hx; rcases hx with rfl | rfl | rfl | rfl <;> rfl) (by unfold maxLen; omega) (by omega) (by have := hbel.size; simp at hs9 ⊢; omega) ?_
                  intro v9 w9 ho9 hgr9 _
                  have hG9 := HS.2.2.2.grown hgr9 (fun j h => hbb4 j h)
                  have O9 := Lib.hid ho9
                  obtain ⟨a9, c9, rfl⟩ := own_slice ho9
                  clear ho9 hgr9
                  refine hK.out _ _ ?s2_16_ ?r2_16_
                  case s2_16_ => exact ⟨grew_cell hG9 u0, grew_cell hG9 u1, grew_cell hG9 u2, hG9⟩
                  case r2_16_ =>
                   clear HS hK K; intro HS
                   try simp only [Act.put, lpa, lpb, lpc]
                   first | refine sk' 10 HS ?_ | refine tk' 10 HS ?_
                   refine wpAnyH_done (by kernel_rfl) ?_ _
                   refine NoPanic.normal ?_
                   clear HS
                   have HLR := ownsRow_grew hown.out hG9
                   have HNW : ∀ t u, (rows At.c (L.drop j))[t]? = some u → w9.cell? ((⟨g, if vc = j then 0 else j * 4, none⟩ : Addr).add t) = some u := fun t u hu => by rw [List.drop_of_length_le (by rw [← HML.out, HJM.out]; exact Nat.le_refl _)] at hu; cases hu
                   have hld : (rows At.c (L.drop j)).length = (m - j) * 4 := by rw [rows_length At.len, List.length_drop, ← HML.out]
                   have HLD := Lib.hid hld
                   have HNW2 := Lib.hid HNW
                   clear HLR HNW hld
                   have hgW9 := hbel.trans hG9
                   have hsz9 := hgW9.size
                   go_wp2_with (at_builtin; refine wpList_append_own _ rfl _ _ 53 rfl (w.heap.size + 3) 84 i0 _ 4 48 Tryz.underlying53 hi hz0 hz1 hz2 rfl (by decide) _ _ _ rfl O9.out ⟨g, if vc = j then 0 else j * 4, none⟩ (m - j) (vc - j) (rows At.c (L.drop j)) (by by_cases h : vc = j <;> simp [Act.eval, h]) HLD.out HNW2.out (one_at _) (by unfold maxLen; omega) (by omega) (by omega) ?_; intro vF wF hoF hgrF _; have hGF := Lib.hid (hgW9.grown hgrF (fun j h => by have := (O9.out.lt j h).1; omega)); have OF := Lib.hid hoF; obtain ⟨aF, cF, rfl⟩ := own_slice hoF; clear hoF hgrF; have x0 := grew_cell hGF.out e0; have y0 := grew_cell hGF.out r0; have x1 := grew_cell hGF.out e1; have y1 := grew_cell hGF.out r1; have x2 := grew_cell hGF.out e2; have y2 := grew_cell hGF.out r2; have x3 := grew_cell hGF.out e3; have y3 := grew_cell hGF.out r3; have x4 := grew_cell hGF.out e4; have y4 := grew_cell hGF.out r4; have xz := fun j => grew_frozen (a := ⟨w.heap.size, j, none⟩) hGF.out (by dsimp only; omega) (ez j); have yz := fun j => grew_frozen (a := ⟨w.heap.size + 2, j, none⟩) hGF.out (by dsimp only; omega) (rz j); have hgF := gW.trans hGF.out; have hsF := hGF.out.size)
                   all_goals
                     have ow1 := (ownsRow_setCell_below (ownsRow_setCell_below (ownsRow_setCell_below (ownsRow_setCell_below (ownsRow_setCell_below (ownsRow_setCell_below OF.out (a := ⟨w.heap.size, 4, none⟩) (by dsimp only; omega) (Value.slice aF (j + 1 + (m - j)) cF)) (a := ⟨w.heap.size + 2, 0, none⟩) (by dsimp only; omega) (Value.int .i64 pi)) (a := ⟨w.heap.size + 2, 1, none⟩) (by dsimp only; omega) (Value.int .i64 po)) (a := ⟨w.heap.size + 2, 2, none⟩) (by dsimp only; omega) (Value.bool ps)) (a := ⟨w.heap.size + 2, 3, none⟩) (by dsimp only; omega) (Value.int .i64 pl)) (a := ⟨w.heap.size + 2, 4, none⟩) (by dsimp only; omega) (Value.slice aF (j + 1 + (m - j)) cF))
                     change bodyPost _ _ _ _ _ _
                     refine bodyPost_ret (v := P5.v ⟨pi, po, ps, pl, .slice aF (j + 1 + (m - j)) cF⟩) (by simp [results, Tryz.results77, go_sem, y0, y1, y2, y3, y4]) rfl ⟨⟨pi, po, ps, pl, .slice aF (j + 1 + (m - j)) cF⟩, rfl, ⟨H1.out, H2.out, H3.out, H4.out, ?_⟩, ?_⟩
                     · have ow2 := (own_of ow1).mono (lo' := w.heap.size) (by omega) (Nat.le_refl _)
                       have hll := show _ = rows At.c (setA xs s v) ∧ (j + 1 + (m - j)) = (setA xs s v).length from setA_rows HLL.out HJ.out hk0 HML.out hj
                       rw [← hll.1, ← hll.2]; exact ow2
                     · repeat' (first | with_reducible exact hgF | with_reducible refine Grew.setCell ?_ ?_ _ | (dsimp only; omega))
             case b2_7_ =>
              rw [if_pos (by rfl)]
              go_simp
              refine hK.out _ _ ?s2_18_ ?r2_18_
              case s2_18_ => exact ⟨grew_cell ((Grew.refl _).alloc _) HS.1, grew_cell ((Grew.refl _).alloc _) HS.2.1, grew_cell ((Grew.refl _).alloc _) HS.2.2.1, HS.2.2.2.trans ((Grew.refl _).alloc _)⟩
              case r2_18_ =>
               have N8 : ∀ j u, [Value.string s, .int .i64 v.kind, .int .i64 v.int, .string v.str][j]? = some u → (wr.drew.alloc (.cells #[.string s, .int .i64 v.kind, .int .i64 v.int, .string v.str] 84)).cell? ((⟨wr.heap.size, 0, none⟩ : Addr).add j) = some u := lit_news (cs := #[.string s, .int .i64 v.kind, .int .i64 v.int, .string v.str]) (by simp)
               have HL8 : Hid (((wr.drew.alloc (.cells #[.string s, .int .i64 v.kind, .int .i64 v.int, .string v.str] 84)).alloc (.cells #[] 84)).ownsRow (w.heap.size + 3) 84 4 (.slice (some ⟨wr.heap.size + 1, 0, none⟩) 0 0) 0 []) := by
                 have h := lit_own (wr.drew.alloc (.cells #[.string s, .int .i64 v.kind, .int .i64 v.int, .string v.str] 84)) 84 4
                 have e : (wr.drew.alloc (.cells #[.string s, .int .i64 v.kind, .int .i64 v.int, .string v.str] 84)).heap.size = wr.heap.size + 1 := by simp
                 rw [e] at h
                 exact Lib.hid (ownsRow_base h (by have := hbel.size; omega))
               clear HS hK K; intro HS
               try simp only [Act.put, lpa, lpb, lpc]
               refine cl' 0 fun K hK => ?_
               rw [if_pos (by rfl)]
               go_simp
               refine hK.out _ _ ?s2_19_ ?r2_19_
               case s2_19_ => exact ⟨grew_cell ((Grew.refl _).alloc _) HS.1, grew_cell ((Grew.refl _).alloc _) HS.2.1, grew_cell ((Grew.refl _).alloc _) HS.2.2.1, HS.2.2.2.trans ((Grew.refl _).alloc _)⟩
               case r2_19_ =>
                clear HS hK K; intro HS
                try simp only [Act.put, lpa, lpb, lpc]
                refine cl' 4 fun K hK => ?_
                rw [if_pos (by rfl)]
                refine wp_append_lit _ _ _ 53 rfl (w.heap.size + 3) 84 i0 _ 4 48 Tryz.underlying53 hi hz0 hz1 hz2 rfl (by decide) _ rfl HL8.out _ j _ (rows At.c (L.take j)) rfl ((RdA.takeK At.len hrl (by decide) (by omega)).grew HS.2.2.2) (one_at _) (by unfold maxLen; omega) (by omega) (by have := hbel.size; have := HS.2.2.2.size; omega) ?_
                intro v4 w4 ho4 hb4 hg4
                have O4 := Lib.hid ho4
                obtain ⟨a4, c4, rfl⟩ := own_slice ho4
                have hbb4 : ∀ b, (Value.slice a4 j c4).ownBlock = some b → wr.heap.size ≤ b := fun b hb => by rcases hb4 b hb with h | h <;> (try simp at h) <;> (try subst h) <;> (try simp) <;> omega
                clear ho4 hb4
                refine hK.out _ _ ?s2_20_ ?r2_20_
                case s2_20_ => exact ⟨grew_cell hg4 HS.1, grew_cell hg4 HS.2.1, grew_cell hg4 HS.2.2.1, HS.2.2.2.trans hg4⟩
                case r2_20_ =>
                 clear HS hK K; intro HS
                 try simp only [Act.put, lpa, lpb, lpc]
                 refine cl' 9 fun K hK => ?_
                 rw [if_pos (by rfl)]
                 have hs9 := HS.2.2.2.size
                 refine wp_append_own _ _ _ 53 rfl (w.heap.size + 3) 84 i0 _ 4 48 Tryz.underlying53 hi hz0 hz1 hz2 rfl (by decide) _ _ _ rfl O4.out ⟨_, 0, none⟩ 1 1 [.string s, .int .i64 v.kind, .int .i64 v.int, .string v.str] rfl rfl (fun j u hu => grew_cell (((Grew.refl (wr.drew.alloc (.cells #[.string s, .int .i64 v.kind, .int .i64 v.int, .string v.str] 84))).alloc (.cells #[] 84)).trans (show Grew ((wr.drew.alloc (.cells #[.string s, .int .i64 v.kind, .int .i64 v.int, .string v.str] 84)).alloc (.cells #[] 84)) w4 from hg4)) (N8 j u hu)) (fun x hx => by simp at hx; rcases hx with rfl | rfl | rfl | rfl <;> rfl) (by unfold maxLen; omega) (by omega) (by have := hbel.size; simp at hs9 ⊢; omega) ?_
                 intro v9 w9 ho9 hgr9 _
                 have hG9 := HS.2.2.2.grown hgr9 (fun j h => hbb4 j h)
                 have O9 := Lib.hid ho9
                 obtain ⟨a9, c9, rfl⟩ := own_slice ho9
                 clear ho9 hgr9
                 refine hK.out _ _ ?s2_21_ ?r2_21_
                 case s2_21_ => exact ⟨grew_cell hG9 u0, grew_cell hG9 u1, grew_cell hG9 u2, hG9⟩
                 case r2_21_ =>
                  clear HS hK K; intro HS
                  try simp only [Act.put, lpa, lpb, lpc]
                  first | refine sk' 10 HS ?_ | refine tk' 10 HS ?_
                  refine wpAnyH_done (by kernel_rfl) ?_ _
                  refine NoPanic.normal ?_
                  clear HS
                  have HLR := ownsRow_grew hown.out hG9
                  have HNW : ∀ t u, (rows At.c (L.drop j))[t]? = some u → w9.cell? ((⟨g, if vc = j then 0 else j * 4, none⟩ : Addr).add t) = some u := fun t u hu => by rw [List.drop_of_length_le (by rw [← HML.out, HJM.out]; exact Nat.le_refl _)] at hu; cases hu
                  have hld : (rows At.c (L.drop j)).length = (m - j) * 4 := by rw [rows_length At.len, List.length_drop, ← HML.out]
                  have HLD := Lib.hid hld
                  have HNW2 := Lib.hid HNW
                  clear HLR HNW hld
                  have hgW9 := hbel.trans hG9
                  have hsz9 := hgW9.size
                  go_wp2_with (at_builtin; refine wpList_append_own _ rfl _ _ 53 rfl (w.heap.size + 3) 84 i0 _ 4 48 Tryz.underlying53 hi hz0 hz1 hz2 rfl (by decide) _ _ _ rfl O9.out ⟨g, if vc = j then 0 else j * 4, none⟩ (m - j) (vc - j) (rows At.c (L.drop j)) (by by_cases h : vc = j <;> simp [Act.eval, h]) HLD.out HNW2.out (one_at _) (by unfold maxLen; omega) (by omega) (by omega) ?_; intro vF wF hoF hgrF _; have hGF := Lib.hid (hgW9.grown hgrF (fun j h => by have := (O9.out.lt j h).1; omega)); have OF := Lib.hid hoF; obtain ⟨aF, cF, rfl⟩ := own_slice hoF; clear hoF hgrF; have x0 := grew_cell hGF.out e0; have y0 := grew_cell hGF.out r0; have x1 := grew_cell hGF.out e1; have y1 := grew_cell hGF.out r1; have x2 := grew_cell hGF.out e2; have y2 := grew_cell hGF.out r2; have x3 := grew_cell hGF.out e3; have y3 := grew_cell hGF.out r3; have x4 := grew_cell hGF.out e4; have y4 := grew_cell hGF.out r4; have xz := fun j => grew_frozen (a := ⟨w.heap.size, j, none⟩) hGF.out (by dsimp only; omega) (ez j); have yz := fun j => grew_frozen (a := ⟨w.heap.size + 2, j, none⟩) hGF.out (by dsimp only; omega) (rz j); have hgF := gW.trans hGF.out; have hsF := hGF.out.size)
                  all_goals
                    have ow1 := (ownsRow_setCell_below (ownsRow_setCell_below (ownsRow_setCell_below (ownsRow_setCell_below (ownsRow_setCell_below (ownsRow_setCell_below OF.out (a := ⟨w.heap.size, 4, none⟩) (by dsimp only; omega) (Value.slice aF (j + 1 + (m - j)) cF)) (a := ⟨w.heap.size + 2, 0, none⟩) (by dsimp only; omega) (Value.int .i64 pi)) (a := ⟨w.heap.size + 2, 1, none⟩) (by dsimp only; omega) (Value.int .i64 po)) (a := ⟨w.heap.size + 2, 2, none⟩) (by dsimp only; omega) (Value.bool ps)) (a := ⟨w.heap.size + 2, 3, none⟩) (by dsimp only; omega) (Value.int .i64 pl)) (a := ⟨w.heap.size + 2, 4, none⟩) (by dsimp only; omega) (Value.slice aF (j + 1 + (m - j)) cF))
                    change bodyPost _ _ _ _ _ _
                    refine bodyPost_ret (v := P5.v ⟨pi, po, ps, pl, .slice aF (j + 1 + (m - j)) cF⟩) (by simp [results, Tryz.results77, go_sem, y0, y1, y2, y3, y4]) rfl ⟨⟨pi, po, ps, pl, .slice aF (j + 1 + (m - j)) cF⟩, rfl, ⟨H1.out, H2.out, H3.out, H4.out, ?_⟩, ?_⟩
                    · have ow2 := (own_of ow1).mono (lo' := w.heap.size) (by omega) (Nat.le_refl _)
                      have hll := show _ = rows At.c (setA xs s v) ∧ (j + 1 + (m - j)) = (setA xs s v).length from setA_rows HLL.out HJ.out hk0 HML.out hj
                      rw [← hll.1, ← hll.2]; exact ow2
                    · repeat' (first | with_reducible exact hgF | with_reducible refine Grew.setCell ?_ ?_ _ | (dsimp only; omega))
end Go.Proofs.YtemikjbfjhebnaaGreat
