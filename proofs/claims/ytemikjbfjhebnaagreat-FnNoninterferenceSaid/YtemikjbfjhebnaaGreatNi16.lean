/- Texts Y10, Y15, Y16, Y17, Z17, as far as they are needed. -/
import Derived.Test.YtemikjbfjhebnaaGreatNi15
import Derived.Test.YtemikjbfjhebnaaGreatNi1
import Derived.Test.YtemikjbfjhebnaaGreatNi3
import Derived.Test.YtemikjbfjhebnaaGreatNi14
import Derived.Test.YtemikjbfjhebnaaGreatNi6
import Derived.Test.YtemikjbfjhebnaaGreatNi2
namespace Go.Proofs.YtemikjbfjhebnaaGreat
open Go.RowKit
set_option linter.unusedVariables false
theorem allFrom_at {α : Type} {f : Nat → α → Bool} {xs : List α} (h : allFrom f 0 xs = true) {i : Nat} {x : α} (hx : xs[i]? = some x) : f i x = true := by
  cases hc : f i x with
  | true => rfl
  | false => rw [all_not hx hc] at h; cases h
def AscF (fs : List Fl) : Prop := fs.Pairwise fun f g => f.id < g.id
theorem asc_of : ∀ {fs : List Fl}, (∀ (i : Nat) f g, fs[i]? = some f → fs[i + 1]? = some g → f.id < g.id) → AscF fs
  | [], _ => List.Pairwise.nil
  | [f], _ => List.pairwise_singleton _ _
  | f :: g :: l, h => by
    have ih := asc_of (fs := g :: l) (fun i a b ha hb => h (i + 1) a b (by simpa using ha) (by simpa using hb))
    have h1 := h 0 f g rfl rfl
    refine List.Pairwise.cons (fun x hx => ?_) ih
    rcases List.mem_cons.1 hx with rfl | hx
    · exact h1
    · exact Int.lt_trans h1 ((List.pairwise_cons.1 ih).1 x hx)
theorem AscF.lt {fs : List Fl} (h : AscF fs) {i j : Nat} {f g : Fl} (hi : fs[i]? = some f) (hj : fs[j]? = some g) (hij : i < j) : f.id < g.id := by
  obtain ⟨h1, rfl⟩ := List.getElem?_eq_some_iff.1 hi
  obtain ⟨h2, rfl⟩ := List.getElem?_eq_some_iff.1 hj
  exact List.pairwise_iff_getElem.1 h i j h1 h2 hij
theorem AscF.inj {fs : List Fl} (h : AscF fs) {f g : Fl} (hf : f ∈ fs) (hg : g ∈ fs) (he : f.id = g.id) : f = g := by
  obtain ⟨i, hi⟩ := List.getElem?_of_mem hf
  obtain ⟨j, hj⟩ := List.getElem?_of_mem hg
  rcases Nat.lt_trichotomy i j with hl | hl | hl
  · have := h.lt hi hj hl; omega
  · subst hl; exact Option.some.inj (hi.symm.trans hj)
  · have := h.lt hj hi hl; omega
theorem sto_parts {s : St} (h : stoB s = true) : (∀ f, f ∈ s.files → filB s.schema f = true ∧ f.id < s.next) ∧ AscF s.files ∧ schB s.schema = true ∧ s.files.length ≤ 12 ∧ inB s.next 1 61 = true := by
  unfold stoB at h
  simp only [Bool.and_eq_true, decide_eq_true_eq] at h
  obtain ⟨h1, h2, h3, h4⟩ := h
  have hat : ∀ (i : Nat) f, s.files[i]? = some f → stoAt s i f = true := fun i f hf => allFrom_at h1 hf
  refine ⟨fun f hf => ?_, asc_of fun i f g hf hg => ?_, h2, h3, h4⟩
  · obtain ⟨i, hi⟩ := List.getElem?_of_mem hf
    have h5 := hat i f hi
    unfold stoAt at h5
    simp only [Bool.and_eq_true, decide_eq_true_eq] at h5
    exact ⟨h5.1, h5.2.1⟩
  · have h5 := hat (i + 1) g hg
    unfold stoAt at h5
    simp only [Bool.and_eq_true, decide_eq_true_eq] at h5
    have h6 := h5.2.2
    rw [prevOk_succ hf] at h6
    simpa using h6
theorem sto_of {s : St} (h1 : ∀ f, f ∈ s.files → filB s.schema f = true ∧ f.id < s.next) (h2 : AscF s.files) (h3 : schB s.schema = true) (h4 : s.files.length ≤ 12) (h5 : inB s.next 1 61 = true) : stoB s = true := by
  unfold stoB
  simp only [Bool.and_eq_true, decide_eq_true_eq]
  refine ⟨allFrom_yes fun k f hf => ?_, h3, h4, h5⟩
  rw [Nat.zero_add]
  have h6 := h1 f (List.mem_of_getElem? hf)
  unfold stoAt
  simp only [Bool.and_eq_true, decide_eq_true_eq]
  refine ⟨h6.1, h6.2, ?_⟩
  cases k with
  | zero => rfl
  | succ j =>
    obtain ⟨g, hg⟩ : ∃ g, s.files[j]? = some g := ⟨_, List.getElem?_eq_getElem (by have := (List.getElem?_eq_some_iff.1 hf).1; omega)⟩
    rw [prevOk_succ hg]
    have := h2.lt hg hf (by omega)
    simpa using this
theorem fil_vis {sc : List Fd} {f : Fl} (h : filB sc f = true) (fs : List Fl) : filB sc (visL fs f) = true := by
  unfold visL
  split
  · exact h
  · unfold filB at h ⊢
    simp only [Bool.and_eq_true] at h ⊢
    exact ⟨h.1, h.2.1, h.2.2.1, h.2.2.2.1, rfl⟩
theorem sto_vis {s : St} (h : stoB s = true) (u : Int) : stoB (visS s u) = true := by
  obtain ⟨h1, h2, h3, h4, h5⟩ := sto_parts h
  refine sto_of (fun f hf => ?_) ?_ h3 ?_ h5
  · unfold visS at hf
    obtain ⟨g, hg, rfl⟩ := List.mem_map.1 hf
    have hm : g ∈ s.files := (List.mem_filter.1 hg).1
    rw [visL_id]
    exact ⟨fil_vis (h1 g hm).1 _, (h1 g hm).2⟩
  · unfold visS AscF
    rw [List.pairwise_map]
    have : AscF (visF s.files u) := List.Pairwise.filter _ h2
    exact this.imp (fun {a b} hab => by rw [visL_id, visL_id]; exact hab)
  · unfold visS
    rw [List.length_map]
    exact Nat.le_trans (visF_le _ _) h4
end Go.Proofs.YtemikjbfjhebnaaGreat
namespace Go.Proofs.YtemikjbfjhebnaaGreat
open Go.RowKit
set_option linter.unusedVariables false
def addF (s : St) (f : Fl) : St := ⟨s.schema, s.files ++ [⟨s.next, f.owner, f.shared, f.link, f.attrs⟩], s.next + 1⟩
def cutF (s : St) (k : Nat) : St := ⟨s.schema, s.files.take k ++ s.files.drop (k + 1), s.next⟩
theorem asc_app {fs : List Fl} {f : Fl} (h : AscF fs) (hf : ∀ x, x ∈ fs → x.id < f.id) : AscF (fs ++ [f]) := by
  unfold AscF at *
  rw [List.pairwise_append]
  exact ⟨h, by simp, fun a ha b hb => by simp at hb; subst hb; exact hf a ha⟩
theorem asc_cut {fs : List Fl} (k : Nat) (h : AscF fs) : AscF (fs.take k ++ fs.drop (k + 1)) := by
  unfold AscF at *
  have hs : (fs.take k ++ fs.drop (k + 1)).Sublist fs := by
    have h1 : (fs.take k ++ fs.drop (k + 1)).Sublist (fs.take k ++ fs.drop k) := by
      refine List.Sublist.append (List.Sublist.refl _) ?_
      rw [← List.drop_drop]
      exact List.drop_sublist _ _
    rwa [List.take_append_drop] at h1
  exact List.Pairwise.sublist hs h
theorem add_ok {s : St} {f : Fl} (h : stoB s = true) (hf : filB s.schema ⟨s.next, f.owner, f.shared, f.link, f.attrs⟩ = true) (hl : s.files.length < 12) (hn : s.next ≤ 60) : stoB (addF s f) = true := by
  obtain ⟨h1, h2, h3, h4, h5⟩ := sto_parts h
  have h6 : 1 ≤ s.next := by unfold inB at h5; simp at h5; exact h5.1
  refine sto_of ?_ ?_ h3 ?_ ?_
  · intro g hg
    unfold addF at hg
    rcases List.mem_append.1 hg with hg | hg
    · have := h1 g hg
      exact ⟨this.1, by unfold addF; have := this.2; dsimp only; omega⟩
    · simp at hg
      subst hg
      exact ⟨hf, by unfold addF; dsimp only; omega⟩
  · exact asc_app h2 fun x hx => (h1 x hx).2
  · unfold addF; simp; omega
  · unfold addF inB; simp; omega
theorem cut_ok {s : St} {k : Nat} (h : stoB s = true) : stoB (cutF s k) = true := by
  obtain ⟨h1, h2, h3, h4, h5⟩ := sto_parts h
  refine sto_of ?_ (asc_cut k h2) h3 ?_ h5
  · intro g hg
    unfold cutF at hg
    rcases List.mem_append.1 hg with hg | hg
    · exact h1 g (List.mem_of_mem_take hg)
    · exact h1 g (List.mem_of_mem_drop hg)
  · unfold cutF
    simp only [List.length_append, List.length_take, List.length_drop]
    omega
end Go.Proofs.YtemikjbfjhebnaaGreat
namespace Go.Proofs.YtemikjbfjhebnaaGreat
open Go.RowKit
set_option linter.unusedVariables false
theorem setA_end {xs : List At} {s : ByteArray} {v : V} (h : ∀ x, x ∈ xs → (x.name.toList == s.toList) = false ∧ Op.bytesLess s.toList x.name.toList = false) (hk : v.kind ≠ 0) : setA xs s v = xs ++ [⟨s, v⟩] := by
  have h1 : wAt xs s = xs := by
    unfold wAt
    rw [List.filter_eq_self]
    intro a ha
    rw [(h a ha).1]; rfl
  have h2 : leA s xs = xs.length := leA_no fun j y hj hy => (h y (List.mem_of_getElem? hy)).2
  have h3 : (v.kind == 0) = false := by simpa using hk
  unfold setA
  rw [h1, h2, h3]
  simp
def atI (c : UInt8) (x : Int) : At := ⟨⟨#[c]⟩, ⟨1, x, ⟨#[]⟩⟩⟩
def atS (c : UInt8) (s : ByteArray) : At := ⟨⟨#[c]⟩, ⟨2, 0, s⟩⟩
def optI (c : UInt8) (A : List At) : Prop := A = [] ∨ ∃ x : Int, 0 ≤ x ∧ x ≤ 3 ∧ A = [atI c x]
def optS (c : UInt8) (S : List ByteArray) (A : List At) : Prop := A = [] ∨ ∃ s, s ∈ S ∧ A = [atS c s]
def wordsN : List ByteArray := [⟨#[105, 110, 107]⟩, ⟨#[115, 101, 97]⟩]
def wordsT : List ByteArray := [⟨#[114, 101, 100]⟩, ⟨#[98, 108, 117, 101]⟩]
def drawnAt (xs : List At) : Prop := ∃ A B N T, optI 97 A ∧ optI 98 B ∧ optS 110 wordsN N ∧ optS 116 wordsT T ∧ xs = A ++ B ++ N ++ T
theorem low_lit {s : ByteArray} (h : ∀ b, b ∈ s.data.toList → 97 ≤ b.toNat ∧ b.toNat ≤ 122) : low s := by
  intro i hi
  have h1 := h (s.data[i]'hi) (Array.getElem_mem_toList _)
  have h2 : s[i] = s.data[i]'hi := rfl
  rw [h2]; omega
theorem txt_lit {s : ByteArray} {m : Int} (h : ∀ b, b ∈ s.data.toList → 97 ≤ b.toNat ∧ b.toNat ≤ 122) (h2 : inB s.size 1 m = true) : txtB s m = true := by
  unfold txtB; rw [lowB_true (low_lit h), h2]; rfl
theorem less_lit {a b : UInt8} (h : a < b) : Op.bytesLess (⟨#[a]⟩ : ByteArray).toList (⟨#[b]⟩ : ByteArray).toList = true := by
  rw [ByteArray.toList_eq, ByteArray.toList_eq]
  unfold Op.bytesLess
  simp [h]
theorem sch4_valid : schB sch4 = true := by
  unfold schB
  rw [Bool.and_eq_true]
  refine ⟨?_, by decide⟩
  simp only [sch4, allFrom, schAt, Bool.and_eq_true]
  refine ⟨⟨txt_lit (by simp) (by decide), by decide, rfl⟩, ⟨txt_lit (by simp) (by decide), by decide, less_lit (by decide)⟩, ⟨txt_lit (by simp) (by decide), by decide, less_lit (by decide)⟩, ⟨txt_lit (by simp) (by decide), by decide, less_lit (by decide)⟩, trivial⟩
theorem beq_lit (a b : UInt8) : ((⟨#[a]⟩ : ByteArray).toList == (⟨#[b]⟩ : ByteArray).toList) = (a == b) := by
  rw [ByteArray.toList_eq, ByteArray.toList_eq]
  simp
theorem fk_lit (c : UInt8) : fkK sch4 ⟨#[c]⟩ = if c = 97 then 1 else if c = 98 then 1 else if c = 110 then 2 else if c = 116 then 2 else 0 := by
  simp only [sch4, fkK, beq_lit, beq_iff_eq, eq_comm (b := c)]
theorem mscI {c : UInt8} {x : Int} (hc : c = 97 ∨ c = 98) (h0 : 0 ≤ x) (h3 : x ≤ 3) : mscB sch4 ⟨#[c]⟩ ⟨1, x, ⟨#[]⟩⟩ = true := by
  unfold mscB valB
  rw [fk_lit]
  have h1 : inB x 0 999 = true := by unfold inB; simp; omega
  rcases hc with rfl | rfl <;> simp [h1]
theorem mscS {c : UInt8} {s : ByteArray} (hc : c = 110 ∨ c = 116) (h : txtB s 6 = true) : mscB sch4 ⟨#[c]⟩ ⟨2, 0, s⟩ = true := by
  unfold mscB valB
  rw [fk_lit]
  rcases hc with rfl | rfl <;> simp [h]
theorem words_ok {s : ByteArray} (h : s ∈ wordsN ∨ s ∈ wordsT) : txtB s 6 = true := by
  simp only [wordsN, wordsT, List.mem_cons, List.not_mem_nil, or_false] at h
  rcases h with (rfl | rfl) | (rfl | rfl) <;> exact txt_lit (by simp) (by decide)
theorem file_ok {xs : List At} {id owner link : Int} {shared : Bool} (h : drawnAt xs) (hi : 1 ≤ id ∧ id ≤ 60) (ho : 0 ≤ owner ∧ owner ≤ 2) (hl : 0 ≤ link ∧ link ≤ 60) : filB sch4 ⟨id, owner, shared, link, xs⟩ = true := by
  unfold filB
  have h1 : inB id 1 60 = true := by unfold inB; simp; omega
  have h2 : inB owner 0 2 = true := by unfold inB; simp; omega
  have h3 : inB link 0 60 = true := by unfold inB; simp; omega
  rw [sch4_valid]
  simp only [h1, h2, h3, Bool.and_true]
  obtain ⟨A, B, N, T, hA, hB, hN, hT, rfl⟩ := h
  have l1 : Op.bytesLess [97] [98] = true := by decide
  have l2 : Op.bytesLess [97] [110] = true := by decide
  have l3 : Op.bytesLess [97] [116] = true := by decide
  have l4 : Op.bytesLess [98] [110] = true := by decide
  have l5 : Op.bytesLess [98] [116] = true := by decide
  have l6 : Op.bytesLess [110] [116] = true := by decide
  rcases hA with rfl | ⟨x, hx0, hx3, rfl⟩ <;> rcases hB with rfl | ⟨y, hy0, hy3, rfl⟩ <;> rcases hN with rfl | ⟨s, hs, rfl⟩ <;> rcases hT with rfl | ⟨t, ht, rfl⟩ <;>
    simp [allFrom, filAt, prevOk, atI, atS, mscI, mscS, words_ok, *]
end Go.Proofs.YtemikjbfjhebnaaGreat
namespace Go.Proofs.YtemikjbfjhebnaaGreat
open Go.RowKit
set_option linter.unusedVariables false
theorem optI.name {c : UInt8} {A : List At} (h : optI c A) : ∀ x, x ∈ A → x.name = ⟨#[c]⟩ := by
  rcases h with rfl | ⟨y, _, _, rfl⟩ <;> intro x hx <;> simp [atI] at hx
  rw [hx]
theorem optS.name {c : UInt8} {S A} (h : optS c S A) : ∀ x, x ∈ A → x.name = ⟨#[c]⟩ := by
  rcases h with rfl | ⟨y, _, rfl⟩ <;> intro x hx <;> simp [atS] at hx
  rw [hx]
theorem optI.len {c : UInt8} {A : List At} (h : optI c A) : A.length ≤ 1 := by
  rcases h with rfl | ⟨y, _, _, rfl⟩ <;> simp
theorem optS.len {c : UInt8} {S A} (h : optS c S A) : A.length ≤ 1 := by
  rcases h with rfl | ⟨y, _, rfl⟩ <;> simp
theorem setA_lit {xs : List At} {c : UInt8} {v : V} (h : ∀ x, x ∈ xs → ∃ d : UInt8, x.name = ⟨#[d]⟩ ∧ d < c) (hk : v.kind ≠ 0) : setA xs ⟨#[c]⟩ v = xs ++ [⟨⟨#[c]⟩, v⟩] := by
  refine setA_end (fun x hx => ?_) hk
  obtain ⟨d, hd, hlt⟩ := h x hx
  rw [hd]
  refine ⟨?_, ?_⟩
  · rw [beq_lit]; simp; exact fun e => by subst e; exact absurd hlt (by simp)
  · rw [ByteArray.toList_eq, ByteArray.toList_eq]
    unfold Op.bytesLess
    have h1 : ¬ c < d := by have := hlt; simp only [UInt8.lt_iff_toNat_lt] at *; omega
    have h2 : ¬ c = d := fun e => by subst e; exact absurd hlt (by simp)
    simp [h1, Op.bytesLess]
def drawnF (id : Int) (f : Fl) : Prop := f.id = id ∧ (0 ≤ f.owner ∧ f.owner ≤ 2) ∧ (0 ≤ f.link ∧ f.link ≤ 6) ∧ drawnAt f.attrs
def flOk (n : Nat) (f : Fl) : Prop := f.attrs.length ≤ n ∧ ∀ x, x ∈ f.attrs → x.name.size ≤ 8 ∧ x.val.str.size ≤ 8
theorem drawnF.valid {id i : Int} {f : Fl} (h : drawnF id f) (hi : 1 ≤ i ∧ i ≤ 60) : filB sch4 ⟨i, f.owner, f.shared, f.link, f.attrs⟩ = true :=
  file_ok h.2.2.2 hi h.2.1 ⟨h.2.2.1.1, by have := h.2.2.1.2; omega⟩
theorem drawnAt.sizes {xs : List At} (h : drawnAt xs) : xs.length ≤ 4 ∧ ∀ x, x ∈ xs → x.name.size ≤ 8 ∧ x.val.str.size ≤ 8 := by
  obtain ⟨A, B, N, T, hA, hB, hN, hT, rfl⟩ := h
  refine ⟨?_, fun x hx => ?_⟩
  · have := hA.len; have := hB.len; have := hN.len; have := hT.len
    simp only [List.length_append]; omega
  · simp only [List.mem_append] at hx
    have hI : ∀ {c : UInt8} {A : List At}, optI c A → x ∈ A → x.name.size ≤ 8 ∧ x.val.str.size ≤ 8 := by
      intro c A h hx
      rcases h with rfl | ⟨y, _, _, rfl⟩
      · cases hx
      · simp [atI] at hx; rw [hx]; simp [ByteArray.size]
    have hS : ∀ {c : UInt8} {S A}, (∀ s : ByteArray, s ∈ S → s.size ≤ 8) → optS c S A → x ∈ A → x.name.size ≤ 8 ∧ x.val.str.size ≤ 8 := by
      intro c S A hs h hx
      rcases h with rfl | ⟨y, hy, rfl⟩
      · cases hx
      · simp [atS] at hx; rw [hx]; exact ⟨by simp [ByteArray.size], hs y hy⟩
    rcases hx with ((hx | hx) | hx) | hx
    · exact hI hA hx
    · exact hI hB hx
    · exact hS (by intro s hs; simp [wordsN] at hs; rcases hs with rfl | rfl <;> decide) hN hx
    · exact hS (by intro s hs; simp [wordsT] at hs; rcases hs with rfl | rfl <;> decide) hT hx
theorem drawnF.ok {id : Int} {f : Fl} (h : drawnF id f) : flOk 4 f := h.2.2.2.sizes
theorem flOk.mono {n m : Nat} {f : Fl} (h : flOk n f) (hn : n ≤ m) : flOk m f := ⟨Nat.le_trans h.1 hn, h.2⟩
theorem flOk.sz {n : Nat} {f : Fl} (h : flOk n f) : f.sz ≤ n * 17 := by
  obtain ⟨h1, h2⟩ := h
  have h3 : ∀ xs : List At, (∀ x, x ∈ xs → x.name.size ≤ 8 ∧ x.val.str.size ≤ 8) → szAll At.sz xs ≤ xs.length * 16 := by
    intro xs
    induction xs with
    | nil => intro _; simp [szAll]
    | cons x xs ih =>
      intro h
      have h4 := ih fun y hy => h y (List.mem_cons_of_mem _ hy)
      have h5 := h x (List.mem_cons_self ..)
      have h6 : At.sz x ≤ 16 := by unfold At.sz V.sz; omega
      simp only [szAll, List.map_cons, List.sum_cons, List.length_cons] at h4 ⊢
      omega
  have h4 := h3 f.attrs h2
  unfold Fl.sz; omega
def stOk (n : Nat) (s : St) : Prop := schOk 6 s.schema ∧ s.files.length ≤ n ∧ ∀ f, f ∈ s.files → flOk 6 f
theorem stOk.mono {n m : Nat} {s : St} (h : stOk n s) (hn : n ≤ m) : stOk m s := ⟨h.1, Nat.le_trans h.2.1 hn, h.2.2⟩
theorem szAll_le {α : Type} {sz : α → Nat} {k : Nat} : ∀ {xs : List α}, (∀ x, x ∈ xs → sz x ≤ k) → szAll sz xs ≤ xs.length * k
  | [], _ => by simp [szAll]
  | x :: xs, h => by
    have h1 := szAll_le (sz := sz) (k := k) (xs := xs) fun y hy => h y (List.mem_cons_of_mem _ hy)
    have h2 := h x (List.mem_cons_self ..)
    simp only [szAll, List.map_cons, List.sum_cons, List.length_cons] at h1 ⊢
    rw [Nat.succ_mul]; omega
theorem stOk.sz {n : Nat} {s : St} (h : stOk n s) (hn : n ≤ 100) : s.sz ≤ 20000 := by
  obtain ⟨h1, h2, h3⟩ := h
  have h4 : szAll Fd.sz s.schema ≤ s.schema.length * 8 := szAll_le fun x hx => h1.2 x hx
  have h5 : szAll Fl.sz s.files ≤ s.files.length * 102 := szAll_le fun x hx => (h3 x hx).sz
  have h6 := h1.1
  unfold St.sz
  omega
theorem stOk.add {n : Nat} {s : St} {f : Fl} (h : stOk n s) (hf : flOk 6 f) : stOk (n + 1) (addF s f) :=
  ⟨h.1, by unfold addF; simp; exact h.2.1, fun g hg => by
    unfold addF at hg
    rcases List.mem_append.1 hg with hg | hg
    · exact h.2.2 g hg
    · simp at hg; subst hg; exact hf⟩
theorem stOk.cut {n : Nat} {s : St} {k : Nat} (h : stOk n s) : stOk n (cutF s k) :=
  ⟨h.1, by have := h.2.1; unfold cutF; simp only [List.length_append, List.length_take, List.length_drop]; omega, fun g hg => by
    unfold cutF at hg
    rcases List.mem_append.1 hg with hg | hg
    · exact h.2.2 g (List.mem_of_mem_take hg)
    · exact h.2.2 g (List.mem_of_mem_drop hg)⟩
end Go.Proofs.YtemikjbfjhebnaaGreat
namespace Go.Proofs.YtemikjbfjhebnaaGreat
open Go.RowKit
set_option linter.unusedVariables false
set_option linter.unusedSimpArgs false
def World.put5 (w : World) (ob : Nat) (p : P5) : World := ((((w.setCell ⟨ob, 0, none⟩ (.int .i64 p.id)).setCell ⟨ob, 1, none⟩ (.int .i64 p.owner)).setCell ⟨ob, 2, none⟩ (.bool p.shared)).setCell ⟨ob, 3, none⟩ (.int .i64 p.link)).setCell ⟨ob, 4, none⟩ p.attrs
structure FBox (w0 wc : World) (g ob : Nat) (f : Fl) (p : P5) : Prop where
  d : D g w0 wc
  lo : w0.heap.size < ob
  lt : ob < wc.heap.size
  bx : Box wc w0.heap.size 5
  c0 : wc.cell? ⟨ob, 0, none⟩ = some (.int .i64 p.id)
  c1 : wc.cell? ⟨ob, 1, none⟩ = some (.int .i64 p.owner)
  c2 : wc.cell? ⟨ob, 2, none⟩ = some (.bool p.shared)
  c3 : wc.cell? ⟨ob, 3, none⟩ = some (.int .i64 p.link)
  c4 : wc.cell? ⟨ob, 4, none⟩ = some p.attrs
  fz : ∀ j, wc.frozen? ⟨ob, j, none⟩ = false
  ty : TyAt wc ob 55
  row : Fl.O wc (w0.heap.size + 1) wc.heap.size f p
theorem FBox.step {w0 wc w2 : World} {g ob : Nat} {f : Fl} {p : P5} (h : FBox w0 wc g ob f p) (e : D g wc w2) : FBox w0 w2 g ob f p := by
  have hg := h.d.lt
  have hl := h.lo
  have hne : ob ≠ g := by omega
  refine ⟨h.d.trans e, hl, Nat.lt_of_lt_of_le h.lt e.size, h.bx.d e (by omega), e.cell h.c0 hne, e.cell h.c1 hne, e.cell h.c2 hne, e.cell h.c3 hne, e.cell h.c4 hne, fun j => e.frozen h.lt (h.fz j) hne, h.ty.d e hne, ?_⟩
  obtain ⟨r1, r2, r3, r4, r5, r6⟩ := h.row
  exact ⟨r1, r2, r3, r4, e.own r5 (by omega), fun b hb => Nat.lt_of_lt_of_le (r6 b hb) e.size⟩
theorem FBox.grew {w0 wc w2 : World} {g ob : Nat} {f : Fl} {p : P5} (h : FBox w0 wc g ob f p) (e : Grew wc w2) : FBox w0 w2 g ob f p :=
  h.step ((D.refl h.d.cur).grew e)
theorem FBox.cur {w0 wc : World} {g ob : Nat} {f : Fl} {p : P5} (h : FBox w0 wc g ob f p) : Cur wc g := h.d.cur
theorem FBox.slice {w0 wc : World} {g ob : Nat} {f : Fl} {p : P5} (h : FBox w0 wc g ob f p) : ∃ a c, p = ⟨f.id, f.owner, f.shared, f.link, .slice a f.attrs.length c⟩ := by
  obtain ⟨r1, r2, r3, r4, r5, _⟩ := h.row
  obtain ⟨a, c, r⟩ := own_slice r5
  obtain ⟨p1, p2, p3, p4, p5⟩ := p
  simp only at r1 r2 r3 r4 r
  subst r1; subst r2; subst r3; subst r4; subst r
  exact ⟨a, c, rfl⟩
theorem FBox.put {w0 wc : World} {g ob : Nat} {f f' : Fl} {p p' : P5} (h : FBox w0 wc g ob f p) (ho : Fl.O wc (w0.heap.size + 1) wc.heap.size f' p') : FBox w0 (World.put5 wc ob p') g ob f' p' := by
  have hl := h.lo
  have hlt := h.lt
  have d0 := h.c0
  have d1 := h.c1
  have d2 := h.c2
  have d3 := h.c3
  have d4 := h.c4
  have t0 := h.ty
  unfold World.put5
  refine ⟨?_, hl, by simpa using hlt, ((((h.bx.set _ _).set _ _).set _ _).set _ _).set _ _, ?_, ?_, ?_, ?_, ?_, fun j => ?_, ((((t0.set _ _).set _ _).set _ _).set _ _).set _ _, ?_⟩
  · exact ((((h.d.setCell (by dsimp only; omega) _).setCell (by dsimp only; omega) _).setCell (by dsimp only; omega) _).setCell (by dsimp only; omega) _).setCell (by dsimp only; omega) _
  · simp [go_sem, d0, d1, d2, d3, d4]
  · simp [go_sem, d0, d1, d2, d3, d4]
  · simp [go_sem, d0, d1, d2, d3, d4]
  · simp [go_sem, d0, d1, d2, d3, d4]
  · simp [go_sem, d0, d1, d2, d3, d4]
  · rw [World.frozen?_setCell, World.frozen?_setCell, World.frozen?_setCell, World.frozen?_setCell, World.frozen?_setCell]; exact h.fz j
  · obtain ⟨r1, r2, r3, r4, r5, r6⟩ := ho
    refine ⟨r1, r2, r3, r4, ?_, fun b hb => by have := r6 b hb; simpa using this⟩
    exact own_set (own_set (own_set (own_set (own_set r5 t0 (by decide) _ (p := ⟨ob, 0, none⟩)) (t0.set _ _) (by decide) _ (p := ⟨ob, 1, none⟩)) ((t0.set _ _).set _ _) (by decide) _ (p := ⟨ob, 2, none⟩)) (((t0.set _ _).set _ _).set _ _) (by decide) _ (p := ⟨ob, 3, none⟩)) ((((t0.set _ _).set _ _).set _ _).set _ _) (by decide) _ (p := ⟨ob, 4, none⟩)
theorem FBox.set0 {w0 wc : World} {g ob : Nat} {f : Fl} {p : P5} (h : FBox w0 wc g ob f p) (x : Int) : FBox w0 (wc.setCell ⟨ob, 0, none⟩ (.int .i64 x)) g ob ⟨x, f.owner, f.shared, f.link, f.attrs⟩ ⟨x, p.owner, p.shared, p.link, p.attrs⟩ := by
  have hl := h.lo
  have d0 := h.c0
  have d1 := h.c1
  have d2 := h.c2
  have d3 := h.c3
  have d4 := h.c4
  refine ⟨h.d.setCell (by dsimp only; omega) _, hl, by simpa using h.lt, h.bx.set _ _, by simp [go_sem, d0], by simp [go_sem, d1], by simp [go_sem, d2], by simp [go_sem, d3], by simp [go_sem, d4], fun j => by rw [World.frozen?_setCell]; exact h.fz j, h.ty.set _ _, ?_⟩
  obtain ⟨r1, r2, r3, r4, r5, r6⟩ := h.row
  exact ⟨rfl, r2, r3, r4, own_set r5 h.ty (by decide) _, fun b hb => by have := r6 b hb; simpa using this⟩
theorem FBox.set1 {w0 wc : World} {g ob : Nat} {f : Fl} {p : P5} (h : FBox w0 wc g ob f p) (x : Int) : FBox w0 (wc.setCell ⟨ob, 1, none⟩ (.int .i64 x)) g ob ⟨f.id, x, f.shared, f.link, f.attrs⟩ ⟨p.id, x, p.shared, p.link, p.attrs⟩ := by
  have hl := h.lo
  have d0 := h.c0
  have d1 := h.c1
  have d2 := h.c2
  have d3 := h.c3
  have d4 := h.c4
  refine ⟨h.d.setCell (by dsimp only; omega) _, hl, by simpa using h.lt, h.bx.set _ _, by simp [go_sem, d0], by simp [go_sem, d1], by simp [go_sem, d2], by simp [go_sem, d3], by simp [go_sem, d4], fun j => by rw [World.frozen?_setCell]; exact h.fz j, h.ty.set _ _, ?_⟩
  obtain ⟨r1, r2, r3, r4, r5, r6⟩ := h.row
  exact ⟨r1, rfl, r3, r4, own_set r5 h.ty (by decide) _, fun b hb => by have := r6 b hb; simpa using this⟩
theorem FBox.set3 {w0 wc : World} {g ob : Nat} {f : Fl} {p : P5} (h : FBox w0 wc g ob f p) (x : Int) : FBox w0 (wc.setCell ⟨ob, 3, none⟩ (.int .i64 x)) g ob ⟨f.id, f.owner, f.shared, x, f.attrs⟩ ⟨p.id, p.owner, p.shared, x, p.attrs⟩ := by
  have hl := h.lo
  have d0 := h.c0
  have d1 := h.c1
  have d2 := h.c2
  have d3 := h.c3
  have d4 := h.c4
  refine ⟨h.d.setCell (by dsimp only; omega) _, hl, by simpa using h.lt, h.bx.set _ _, by simp [go_sem, d0], by simp [go_sem, d1], by simp [go_sem, d2], by simp [go_sem, d3], by simp [go_sem, d4], fun j => by rw [World.frozen?_setCell]; exact h.fz j, h.ty.set _ _, ?_⟩
  obtain ⟨r1, r2, r3, r4, r5, r6⟩ := h.row
  exact ⟨r1, r2, r3, rfl, own_set r5 h.ty (by decide) _, fun b hb => by have := r6 b hb; simpa using this⟩
theorem opts_lt {c : UInt8} {xs : List At} (h : ∀ x, x ∈ xs → ∃ d : UInt8, x.name = ⟨#[d]⟩ ∧ d < c) {A : List At} {b : UInt8} (hA : ∀ x, x ∈ A → x.name = ⟨#[b]⟩) (hb : b < c) : ∀ x, x ∈ xs ++ A → ∃ d : UInt8, x.name = ⟨#[d]⟩ ∧ d < c := fun x hx => by
  rcases List.mem_append.1 hx with hx | hx
  · exact h x hx
  · exact ⟨b, hA x hx, hb⟩
set_option maxRecDepth 100000 in
set_option maxHeartbeats 8000000 in
theorem l04File (g : Nat) (w : World) (hc : Cur w g) (id : Int) :
    Calls Tryz.prog 54 #[.pointer (some ⟨g, 0, none⟩), .int .i64 id] w fun e w' => ∃ p : P5, e = .returned p.v ∧ ∃ f, drawnF id f ∧ Fl.O w' w.heap.size w'.heap.size f p ∧ D g w w' := by
  have hl := hc.lt
  have hne : w.heap.size ≠ g := by omega
  have B0 := Box.new w #[.int .i64 0, .int .i64 0, .bool false, .int .i64 0, .slice none 0 0] 55 5 rfl
  have d0 := (D.refl hc).alloc (.cells #[.int .i64 0, .int .i64 0, .bool false, .int .i64 0, .slice none 0 0] 55)
  go_enter Tryz.func54, Tryz.ntmps54
  go_wp2_with fail
  refine (l01Below g _ d0.cur 3 (by omega) (by omega)).mono ?_
  rintro e w1 ⟨ow, rfl, how, e1⟩
  have d1 := d0.trans e1
  go_wp2_with fail
  refine (l01Once g _ d1.cur 2 (by decide) (by decide)).mono ?_
  rintro e w2 ⟨sh, rfl, e2⟩
  have d2 := d1.trans e2
  have B2 := (B0.d e1 hne).d e2 hne
  have hs2 : w.heap.size < w2.heap.size := B2.1
  have F2 : FBox w (w2.alloc (.cells #[.int .i64 id, .int .i64 ow, .bool sh, .int .i64 0, .slice none 0 0] 55)) g w2.heap.size ⟨id, ow, sh, 0, []⟩ ⟨id, ow, sh, 0, .slice none 0 0⟩ := by
    refine ⟨d2.alloc _, hs2, by simp, B2.grew ((Grew.refl _).alloc _), by simp, by simp, by simp, by simp, by simp, fun j => by simp [go_sem], TyAt.new _ _ _, rfl, rfl, rfl, rfl, World.ownsRow_nil _ _ _ _, fun b hb => by cases hb⟩
  clear B0 B2 d0 d1 d2 e1 e2
  go_wp2_with fail
  generalize w2.alloc (.cells #[.int .i64 id, .int .i64 ow, .bool sh, .int .i64 0, .slice none 0 0] 55) = W at F2 ⊢
  obtain ⟨ob, hob⟩ : ∃ x, w2.heap.size = x := ⟨_, rfl⟩
  rw [hob] at F2 ⊢
  clear hob hs2
  have F3 := Lib.hid F2
  clear F2
  refine (l01Once g _ F3.out.cur 2 (by decide) (by decide)).mono ?_
  rintro e w3 ⟨b, rfl, e3⟩
  have F4 := Lib.hid (F3.out.step e3)
  clear F3 e3
  go_upto_if 13 with fail
  go_cut [] (fun wc => ∃ (l : Int) (p : P5), (0 ≤ l ∧ l ≤ 6) ∧ Hid (FBox w wc g ob ⟨id, ow, sh, l, []⟩ p))
  case first =>
    cases b
    · go_wp2
      go_meet
      exact ⟨0, _, by omega, F4⟩
    · go_wp2_with fail
      refine (l01Below g _ F4.out.cur 7 (by omega) (by omega)).mono ?_
      rintro e w4 ⟨l, rfl, hl7, e4⟩
      have F5 := F4.out.step e4
      have F6 := Lib.hid (F5.set3 l)
      have c3 := F5.c3
      have z := F5.fz
      clear F4 F5 e4
      go_wp2
      go_meet
      exact ⟨l, _, by omega, F6⟩
  case rest =>
    obtain ⟨l, p0, hl6, F4⟩ := hcut
    go_wp2_with fail
    refine (l01Once g _ F4.out.cur 4 (by decide) (by decide)).mono ?_
    rintro e w4 ⟨b, rfl, e4⟩
    have F5 := Lib.hid (F4.out.step e4)
    clear F4 e4
    go_upto_if 19 with fail
    go_cut [] (fun wc => ∃ (o1 : List At) (p : P5), Hid (optI 97 o1) ∧ Hid (FBox w wc g ob ⟨id, ow, sh, l, o1⟩ p))
    case first =>
      cases b
      · obtain ⟨pa, pc, hp⟩ := F5.out.slice
        have hp2 : p0 = ⟨id, ow, sh, l, .slice pa ([] : List At).length pc⟩ := hp
        clear hp
        subst hp2
        have HB := Lib.hid (show ∀ x, x ∈ ([] : List At) → ∃ d : UInt8, x.name = ⟨#[d]⟩ ∧ d < 97 from fun x hx => by cases hx)
        have HL : ([] : List At).length ≤ 4 := by simp
        obtain ⟨xs, hxs⟩ : ∃ xs : List At, [] = xs := ⟨_, rfl⟩
        rw [hxs] at F5 HB HL
        obtain ⟨nl, hnl⟩ : ∃ n, n = xs.length := ⟨_, rfl⟩
        have HXS := Lib.hid hxs
        clear hxs
        clear hnl nl
        generalize hml : xs.length = ml at *
        have HML := Lib.hid hml
        clear hml
        go_wp2_with fail
        have FD := Lib.hid (F5.out.grew (Grew.refl _).drew)
        refine wp_region_noPanic ?_
        refine wp_region_T 5 (fun w' => (w'.cell? ⟨ob, 0, none⟩ = some (.int .i64 id) ∧ w'.cell? ⟨ob, 1, none⟩ = some (.int .i64 ow) ∧ w'.cell? ⟨ob, 2, none⟩ = some (.bool sh) ∧ w'.cell? ⟨ob, 3, none⟩ = some (.int .i64 l) ∧ w'.cell? ⟨ob, 4, none⟩ = some (.slice pa ml pc) ∧ Hid (FBox w w' g ob ⟨id, ow, sh, l, xs⟩ ⟨id, ow, sh, l, .slice pa ml pc⟩))) (by kernel_rfl) (⟨FD.out.c0, FD.out.c1, FD.out.c2, FD.out.c3, FD.out.c4, FD⟩) ?_
        intro HS
        replace HS := HS.resolve_left (by decide)
        refine tkT 0 [4, 5] HS ?_
        refine tkP 1 (.inr HS) ?_
        refine clT 2 (fun K hK => ?_)
        rw [if_pos (by rfl)]
        go_simp
        go_at_call 27
        refine (l01Below g _ HS.2.2.2.2.2.out.cur 4 (by omega) (by omega)).mono ?_
        rintro e wb ⟨x, rfl, hx, eb⟩
        have FN := Lib.hid (HS.2.2.2.2.2.out.step eb)
        refine hK.out _ _ (⟨FN.out.c0, FN.out.c1, FN.out.c2, FN.out.c3, FN.out.c4, FN⟩) ?_
        clear HS hK K
        intro HS
        clear FN
        try simp only [Act.put, lpa, lpb, lpc]
        refine clT 3 (fun K hK => ?_)
        rw [if_pos (by rfl)]
        go_simp
        go_at_call 78
        refine (intValue x _).mono ?_
        rintro e wb ⟨rfl, gv⟩
        have FN := Lib.hid (HS.2.2.2.2.2.out.grew gv)
        refine hK.out _ _ (⟨FN.out.c0, FN.out.c1, FN.out.c2, FN.out.c3, FN.out.c4, FN⟩) ?_
        clear HS hK K
        intro HS
        clear FN
        try simp only [Act.put, lpa, lpb, lpc]
        refine clT 4 (fun K hK => ?_)
        rw [if_pos (by rfl)]
        go_simp
        go_at_call 77
        refine (specSetAttr ⟨id, ow, sh, l, xs⟩ ⟨id, ow, sh, l, .slice pa ml pc⟩ ⟨#[97]⟩ ⟨1, x, ⟨#[]⟩⟩ _ (by have h := HS.2.2.2.2.2.out.row.rd; exact h) (by dsimp only; have := HML.out; omega)).mono ?_
        rintro e ws ⟨⟨q1, q2, q3, q4, q5⟩, rfl, hq, gs⟩
        have FN := Lib.hid (HS.2.2.2.2.2.out.grew gs)
        have HQ := Lib.hid (hq.mono (lo' := w.heap.size + 1) (by have := HS.2.2.2.2.2.out.lt; have := HS.2.2.2.2.2.out.lo; omega) (Nat.le_refl _))
        have HP := Lib.hid (FN.out.put HQ.out)
        unfold World.put5 at HP
        obtain ⟨qa, qc, rfl⟩ := own_slice hq.2.2.2.2.1
        clear hq
        refine hK.out _ _ (⟨FN.out.c0, FN.out.c1, FN.out.c2, FN.out.c3, FN.out.c4, FN⟩) ?_
        clear HS hK K
        intro HS
        clear FN
        try simp only [Act.put, lpa, lpb, lpc]
        refine clE (fun K hK => ?_)
        have c0 := HS.1
        have c1 := HS.2.1
        have c2 := HS.2.2.1
        have c3 := HS.2.2.2.1
        have c4 := HS.2.2.2.2.1
        have z := HS.2.2.2.2.2.out.fz
        rw [if_pos (by rfl)]
        go_simp
        refine hK.out _ _ fun _ => ?_
        clear HS hK K
        try simp only [Act.put, lpa, lpb, lpc]
        refine doneT ?_
        refine NoPanic.normal ?_
        go_wp2_with fail
        go_meet
        refine ⟨[atI 97 x], ⟨q1, q2, q3, q4, .slice qa (setA xs ⟨#[97]⟩ ⟨1, x, ⟨#[]⟩⟩).length qc⟩, Lib.hid (.inr ⟨_, by omega, by omega, rfl⟩), Lib.hid ?_⟩
        rw [show [atI 97 x] = setA xs ⟨#[97]⟩ ⟨1, x, ⟨#[]⟩⟩ from by rw [setA_lit HB.out (by simp), ← HXS.out]; rfl]
        exact HP.out
      · go_wp2
        go_meet
        exact ⟨[], _, Lib.hid (.inl rfl), by exact F5⟩
    case rest =>
      obtain ⟨o1, p1, h1, F5⟩ := hcut
      go_wp2_with fail
      refine (l01Once g _ F5.out.cur 2 (by decide) (by decide)).mono ?_
      rintro e w5 ⟨b, rfl, e5⟩
      have F6 := Lib.hid (F5.out.step e5)
      clear F5 e5
      go_upto_if 26 with fail
      go_cut [] (fun wc => ∃ (o2 : List At) (p : P5), Hid (optI 98 o2) ∧ Hid (FBox w wc g ob ⟨id, ow, sh, l, o1 ++ o2⟩ p))
      case first =>
        cases b
        · go_wp2
          go_meet
          exact ⟨[], _, Lib.hid (.inl rfl), by rw [List.append_nil]; exact F6⟩
        · obtain ⟨pa, pc, hp⟩ := F6.out.slice
          have hp2 : p1 = ⟨id, ow, sh, l, .slice pa (o1 : List At).length pc⟩ := hp
          clear hp
          subst hp2
          have HB := Lib.hid (show ∀ x, x ∈ (o1 : List At) → ∃ d : UInt8, x.name = ⟨#[d]⟩ ∧ d < 98 from fun x hx => ⟨97, h1.out.name x hx, by decide⟩)
          have HL : (o1 : List At).length ≤ 4 := by have := h1.out.len; omega
          generalize hxs : (o1 : List At) = xs at F6 HB HL ⊢
          have HXS := Lib.hid hxs
          clear hxs
          generalize hml : xs.length = ml at *
          have HML := Lib.hid hml
          clear hml
          go_wp2_with fail
          have FD := Lib.hid (F6.out.grew (Grew.refl _).drew)
          refine wp_region_noPanic ?_
          refine wp_region_T 5 (fun w' => (w'.cell? ⟨ob, 0, none⟩ = some (.int .i64 id) ∧ w'.cell? ⟨ob, 1, none⟩ = some (.int .i64 ow) ∧ w'.cell? ⟨ob, 2, none⟩ = some (.bool sh) ∧ w'.cell? ⟨ob, 3, none⟩ = some (.int .i64 l) ∧ w'.cell? ⟨ob, 4, none⟩ = some (.slice pa ml pc) ∧ Hid (FBox w w' g ob ⟨id, ow, sh, l, xs⟩ ⟨id, ow, sh, l, .slice pa ml pc⟩))) (by kernel_rfl) (⟨FD.out.c0, FD.out.c1, FD.out.c2, FD.out.c3, FD.out.c4, FD⟩) ?_
          intro HS
          replace HS := HS.resolve_left (by decide)
          refine tkT 0 [4, 5] HS ?_
          refine tkP 1 (.inr HS) ?_
          refine clT 2 (fun K hK => ?_)
          rw [if_pos (by rfl)]
          go_simp
          go_at_call 27
          refine (l01Below g _ HS.2.2.2.2.2.out.cur 4 (by omega) (by omega)).mono ?_
          rintro e wb ⟨x, rfl, hx, eb⟩
          have FN := Lib.hid (HS.2.2.2.2.2.out.step eb)
          refine hK.out _ _ (⟨FN.out.c0, FN.out.c1, FN.out.c2, FN.out.c3, FN.out.c4, FN⟩) ?_
          clear HS hK K
          intro HS
          clear FN
          try simp only [Act.put, lpa, lpb, lpc]
          refine clT 3 (fun K hK => ?_)
          rw [if_pos (by rfl)]
          go_simp
          go_at_call 78
          refine (intValue x _).mono ?_
          rintro e wb ⟨rfl, gv⟩
          have FN := Lib.hid (HS.2.2.2.2.2.out.grew gv)
          refine hK.out _ _ (⟨FN.out.c0, FN.out.c1, FN.out.c2, FN.out.c3, FN.out.c4, FN⟩) ?_
          clear HS hK K
          intro HS
          clear FN
          try simp only [Act.put, lpa, lpb, lpc]
          refine clT 4 (fun K hK => ?_)
          rw [if_pos (by rfl)]
          go_simp
          go_at_call 77
          refine (specSetAttr ⟨id, ow, sh, l, xs⟩ ⟨id, ow, sh, l, .slice pa ml pc⟩ ⟨#[98]⟩ ⟨1, x, ⟨#[]⟩⟩ _ (by have h := HS.2.2.2.2.2.out.row.rd; exact h) (by dsimp only; have := HML.out; omega)).mono ?_
          rintro e ws ⟨⟨q1, q2, q3, q4, q5⟩, rfl, hq, gs⟩
          have FN := Lib.hid (HS.2.2.2.2.2.out.grew gs)
          have HQ := Lib.hid (hq.mono (lo' := w.heap.size + 1) (by have := HS.2.2.2.2.2.out.lt; have := HS.2.2.2.2.2.out.lo; omega) (Nat.le_refl _))
          have HP := Lib.hid (FN.out.put HQ.out)
          unfold World.put5 at HP
          obtain ⟨qa, qc, rfl⟩ := own_slice hq.2.2.2.2.1
          clear hq
          refine hK.out _ _ (⟨FN.out.c0, FN.out.c1, FN.out.c2, FN.out.c3, FN.out.c4, FN⟩) ?_
          clear HS hK K
          intro HS
          clear FN
          try simp only [Act.put, lpa, lpb, lpc]
          refine clE (fun K hK => ?_)
          have c0 := HS.1
          have c1 := HS.2.1
          have c2 := HS.2.2.1
          have c3 := HS.2.2.2.1
          have c4 := HS.2.2.2.2.1
          have z := HS.2.2.2.2.2.out.fz
          rw [if_pos (by rfl)]
          go_simp
          refine hK.out _ _ fun _ => ?_
          clear HS hK K
          try simp only [Act.put, lpa, lpb, lpc]
          refine doneT ?_
          refine NoPanic.normal ?_
          go_wp2_with fail
          go_meet
          refine ⟨[atI 98 x], ⟨q1, q2, q3, q4, .slice qa (setA xs ⟨#[98]⟩ ⟨1, x, ⟨#[]⟩⟩).length qc⟩, Lib.hid (.inr ⟨_, by omega, by omega, rfl⟩), Lib.hid ?_⟩
          rw [show o1 ++ [atI 98 x] = setA xs ⟨#[98]⟩ ⟨1, x, ⟨#[]⟩⟩ from by rw [setA_lit HB.out (by simp), ← HXS.out]; rfl]
          exact HP.out
      case rest =>
        obtain ⟨o2, p2, h2, F6⟩ := hcut
        go_wp2_with fail
        refine (l01Once g _ F6.out.cur 3 (by decide) (by decide)).mono ?_
        rintro e w6 ⟨b, rfl, e6⟩
        have F7 := Lib.hid (F6.out.step e6)
        clear F6 e6
        go_upto_if 34 with fail
        go_cut [] (fun wc => ∃ (o3 : List At) (p : P5), Hid (optS 110 wordsN o3) ∧ Hid (FBox w wc g ob ⟨id, ow, sh, l, o1 ++ o2 ++ o3⟩ p))
        case first =>
          cases b
          · obtain ⟨pa, pc, hp⟩ := F7.out.slice
            have hp2 : p2 = ⟨id, ow, sh, l, .slice pa (o1 ++ o2 : List At).length pc⟩ := hp
            clear hp
            subst hp2
            have HB := Lib.hid (show ∀ x, x ∈ (o1 ++ o2 : List At) → ∃ d : UInt8, x.name = ⟨#[d]⟩ ∧ d < 110 from opts_lt (fun x hx => ⟨97, h1.out.name x hx, by decide⟩) h2.out.name (by decide))
            have HL : (o1 ++ o2 : List At).length ≤ 4 := by have := h1.out.len; have := h2.out.len; simp only [List.length_append]; omega
            generalize hxs : (o1 ++ o2 : List At) = xs at F7 HB HL ⊢
            have HXS := Lib.hid hxs
            clear hxs
            generalize hml : xs.length = ml at *
            have HML := Lib.hid hml
            clear hml
            go_wp2_with fail
            have FD := Lib.hid (F7.out.grew (Grew.refl _).drew)
            refine wp_region_noPanic ?_
            refine wp_region_T 6 (fun w' => (w'.cell? ⟨ob, 0, none⟩ = some (.int .i64 id) ∧ w'.cell? ⟨ob, 1, none⟩ = some (.int .i64 ow) ∧ w'.cell? ⟨ob, 2, none⟩ = some (.bool sh) ∧ w'.cell? ⟨ob, 3, none⟩ = some (.int .i64 l) ∧ w'.cell? ⟨ob, 4, none⟩ = some (.slice pa ml pc) ∧ Hid (FBox w w' g ob ⟨id, ow, sh, l, xs⟩ ⟨id, ow, sh, l, .slice pa ml pc⟩))) (by kernel_rfl) (⟨FD.out.c0, FD.out.c1, FD.out.c2, FD.out.c3, FD.out.c4, FD⟩) ?_
            intro HS
            replace HS := HS.resolve_left (by decide)
            refine tkT 0 [5, 6] HS ?_
            refine tkP 1 (.inr HS) ?_
            refine clT 2 (fun K hK => ?_)
            have FN := Lib.hid (HS.2.2.2.2.2.out.grew ((Grew.refl _).alloc (.cells #[.string ⟨#[105, 110, 107]⟩, .string ⟨#[115, 101, 97]⟩] 9)))
            have WB := HS.2.2.2.2.2
            have LR := Lib.hid (fun W : World => lit_rd W #[.string ⟨#[105, 110, 107]⟩, .string ⟨#[115, 101, 97]⟩] 9 1 2 2 rfl (Nat.le_refl _))
            rw [if_pos (by rfl)]
            go_simp
            refine hK.out _ _ (⟨FN.out.c0, FN.out.c1, FN.out.c2, FN.out.c3, FN.out.c4, FN⟩) ?_
            clear HS hK K
            intro HS
            clear FN
            try simp only [Act.put, lpa, lpb, lpc]
            refine clT 3 (fun K hK => ?_)
            rw [if_pos (by rfl)]
            go_simp
            go_at_call 80
            refine (l01Pick g _ HS.2.2.2.2.2.out.cur _ 2 [⟨#[105, 110, 107]⟩, ⟨#[115, 101, 97]⟩] (LR.out _) (cur_ne WB.out.cur) (by decide) (by decide)).mono ?_
            rintro e wb ⟨s, rfl, hs, eb⟩
            have FN := Lib.hid (HS.2.2.2.2.2.out.step eb)
            refine hK.out _ _ (⟨FN.out.c0, FN.out.c1, FN.out.c2, FN.out.c3, FN.out.c4, FN⟩) ?_
            clear HS hK K
            intro HS
            clear FN
            try simp only [Act.put, lpa, lpb, lpc]
            refine clT 4 (fun K hK => ?_)
            rw [if_pos (by rfl)]
            go_simp
            go_at_call 79
            refine (stringValue s _).mono ?_
            rintro e wb ⟨rfl, gv⟩
            have FN := Lib.hid (HS.2.2.2.2.2.out.grew gv)
            refine hK.out _ _ (⟨FN.out.c0, FN.out.c1, FN.out.c2, FN.out.c3, FN.out.c4, FN⟩) ?_
            clear HS hK K
            intro HS
            clear FN
            try simp only [Act.put, lpa, lpb, lpc]
            refine clT 5 (fun K hK => ?_)
            rw [if_pos (by rfl)]
            go_simp
            go_at_call 77
            refine (specSetAttr ⟨id, ow, sh, l, xs⟩ ⟨id, ow, sh, l, .slice pa ml pc⟩ ⟨#[110]⟩ ⟨2, 0, s⟩ _ (by have h := HS.2.2.2.2.2.out.row.rd; exact h) (by dsimp only; have := HML.out; omega)).mono ?_
            rintro e ws ⟨⟨q1, q2, q3, q4, q5⟩, rfl, hq, gs⟩
            have FN := Lib.hid (HS.2.2.2.2.2.out.grew gs)
            have HQ := Lib.hid (hq.mono (lo' := w.heap.size + 1) (by have := HS.2.2.2.2.2.out.lt; have := HS.2.2.2.2.2.out.lo; omega) (Nat.le_refl _))
            have HP := Lib.hid (FN.out.put HQ.out)
            unfold World.put5 at HP
            obtain ⟨qa, qc, rfl⟩ := own_slice hq.2.2.2.2.1
            clear hq
            refine hK.out _ _ (⟨FN.out.c0, FN.out.c1, FN.out.c2, FN.out.c3, FN.out.c4, FN⟩) ?_
            clear HS hK K
            intro HS
            clear FN
            try simp only [Act.put, lpa, lpb, lpc]
            refine clE (fun K hK => ?_)
            have c0 := HS.1
            have c1 := HS.2.1
            have c2 := HS.2.2.1
            have c3 := HS.2.2.2.1
            have c4 := HS.2.2.2.2.1
            have z := HS.2.2.2.2.2.out.fz
            rw [if_pos (by rfl)]
            go_simp
            refine hK.out _ _ fun _ => ?_
            clear HS hK K
            try simp only [Act.put, lpa, lpb, lpc]
            refine doneT ?_
            refine NoPanic.normal ?_
            go_wp2_with fail
            go_meet
            refine ⟨[atS 110 s], ⟨q1, q2, q3, q4, .slice qa (setA xs ⟨#[110]⟩ ⟨2, 0, s⟩).length qc⟩, Lib.hid (.inr ⟨_, by simpa [wordsN] using hs, rfl⟩), Lib.hid ?_⟩
            rw [show o1 ++ o2 ++ [atS 110 s] = setA xs ⟨#[110]⟩ ⟨2, 0, s⟩ from by rw [setA_lit HB.out (by simp), ← HXS.out]; rfl]
            exact HP.out
          · go_wp2
            go_meet
            exact ⟨[], _, Lib.hid (.inl rfl), by rw [List.append_nil]; exact F7⟩
        case rest =>
          obtain ⟨o3, p3, h3, F7⟩ := hcut
          go_wp2_with fail
          refine (l01Once g _ F7.out.cur 2 (by decide) (by decide)).mono ?_
          rintro e w7 ⟨b, rfl, e7⟩
          have F8 := Lib.hid (F7.out.step e7)
          clear F7 e7
          go_upto_if 42 with fail
          go_cut [] (fun wc => ∃ (o4 : List At) (p : P5), Hid (optS 116 wordsT o4) ∧ Hid (FBox w wc g ob ⟨id, ow, sh, l, o1 ++ o2 ++ o3 ++ o4⟩ p))
          case first =>
            cases b
            · go_wp2
              go_meet
              exact ⟨[], _, Lib.hid (.inl rfl), by rw [List.append_nil]; exact F8⟩
            · obtain ⟨pa, pc, hp⟩ := F8.out.slice
              have hp2 : p3 = ⟨id, ow, sh, l, .slice pa (o1 ++ o2 ++ o3 : List At).length pc⟩ := hp
              clear hp
              subst hp2
              have HB := Lib.hid (show ∀ x, x ∈ (o1 ++ o2 ++ o3 : List At) → ∃ d : UInt8, x.name = ⟨#[d]⟩ ∧ d < 116 from opts_lt (opts_lt (fun x hx => ⟨97, h1.out.name x hx, by decide⟩) h2.out.name (by decide)) h3.out.name (by decide))
              have HL : (o1 ++ o2 ++ o3 : List At).length ≤ 4 := by have := h1.out.len; have := h2.out.len; have := h3.out.len; simp only [List.length_append]; omega
              generalize hxs : (o1 ++ o2 ++ o3 : List At) = xs at F8 HB HL ⊢
              have HXS := Lib.hid hxs
              clear hxs
              generalize hml : xs.length = ml at *
              have HML := Lib.hid hml
              clear hml
              go_wp2_with fail
              have FD := Lib.hid (F8.out.grew (Grew.refl _).drew)
              refine wp_region_noPanic ?_
              refine wp_region_T 6 (fun w' => (w'.cell? ⟨ob, 0, none⟩ = some (.int .i64 id) ∧ w'.cell? ⟨ob, 1, none⟩ = some (.int .i64 ow) ∧ w'.cell? ⟨ob, 2, none⟩ = some (.bool sh) ∧ w'.cell? ⟨ob, 3, none⟩ = some (.int .i64 l) ∧ w'.cell? ⟨ob, 4, none⟩ = some (.slice pa ml pc) ∧ Hid (FBox w w' g ob ⟨id, ow, sh, l, xs⟩ ⟨id, ow, sh, l, .slice pa ml pc⟩))) (by kernel_rfl) (⟨FD.out.c0, FD.out.c1, FD.out.c2, FD.out.c3, FD.out.c4, FD⟩) ?_
              intro HS
              replace HS := HS.resolve_left (by decide)
              refine tkT 0 [5, 6] HS ?_
              refine tkP 1 (.inr HS) ?_
              refine clT 2 (fun K hK => ?_)
              have FN := Lib.hid (HS.2.2.2.2.2.out.grew ((Grew.refl _).alloc (.cells #[.string ⟨#[114, 101, 100]⟩, .string ⟨#[98, 108, 117, 101]⟩] 9)))
              have WB := HS.2.2.2.2.2
              have LR := Lib.hid (fun W : World => lit_rd W #[.string ⟨#[114, 101, 100]⟩, .string ⟨#[98, 108, 117, 101]⟩] 9 1 2 2 rfl (Nat.le_refl _))
              rw [if_pos (by rfl)]
              go_simp
              refine hK.out _ _ (⟨FN.out.c0, FN.out.c1, FN.out.c2, FN.out.c3, FN.out.c4, FN⟩) ?_
              clear HS hK K
              intro HS
              clear FN
              try simp only [Act.put, lpa, lpb, lpc]
              refine clT 3 (fun K hK => ?_)
              rw [if_pos (by rfl)]
              go_simp
              go_at_call 80
              refine (l01Pick g _ HS.2.2.2.2.2.out.cur _ 2 [⟨#[114, 101, 100]⟩, ⟨#[98, 108, 117, 101]⟩] (LR.out _) (cur_ne WB.out.cur) (by decide) (by decide)).mono ?_
              rintro e wb ⟨s, rfl, hs, eb⟩
              have FN := Lib.hid (HS.2.2.2.2.2.out.step eb)
              refine hK.out _ _ (⟨FN.out.c0, FN.out.c1, FN.out.c2, FN.out.c3, FN.out.c4, FN⟩) ?_
              clear HS hK K
              intro HS
              clear FN
              try simp only [Act.put, lpa, lpb, lpc]
              refine clT 4 (fun K hK => ?_)
              rw [if_pos (by rfl)]
              go_simp
              go_at_call 79
              refine (stringValue s _).mono ?_
              rintro e wb ⟨rfl, gv⟩
              have FN := Lib.hid (HS.2.2.2.2.2.out.grew gv)
              refine hK.out _ _ (⟨FN.out.c0, FN.out.c1, FN.out.c2, FN.out.c3, FN.out.c4, FN⟩) ?_
              clear HS hK K
              intro HS
              clear FN
              try simp only [Act.put, lpa, lpb, lpc]
              refine clT 5 (fun K hK => ?_)
              rw [if_pos (by rfl)]
              go_simp
              go_at_call 77
              refine (specSetAttr ⟨id, ow, sh, l, xs⟩ ⟨id, ow, sh, l, .slice pa ml pc⟩ ⟨#[116]⟩ ⟨2, 0, s⟩ _ (by have h := HS.2.2.2.2.2.out.row.rd; exact h) (by dsimp only; have := HML.out; omega)).mono ?_
              rintro e ws ⟨⟨q1, q2, q3, q4, q5⟩, rfl, hq, gs⟩
              have FN := Lib.hid (HS.2.2.2.2.2.out.grew gs)
              have HQ := Lib.hid (hq.mono (lo' := w.heap.size + 1) (by have := HS.2.2.2.2.2.out.lt; have := HS.2.2.2.2.2.out.lo; omega) (Nat.le_refl _))
              have HP := Lib.hid (FN.out.put HQ.out)
              unfold World.put5 at HP
              obtain ⟨qa, qc, rfl⟩ := own_slice hq.2.2.2.2.1
              clear hq
              refine hK.out _ _ (⟨FN.out.c0, FN.out.c1, FN.out.c2, FN.out.c3, FN.out.c4, FN⟩) ?_
              clear HS hK K
              intro HS
              clear FN
              try simp only [Act.put, lpa, lpb, lpc]
              refine clE (fun K hK => ?_)
              have c0 := HS.1
              have c1 := HS.2.1
              have c2 := HS.2.2.1
              have c3 := HS.2.2.2.1
              have c4 := HS.2.2.2.2.1
              have z := HS.2.2.2.2.2.out.fz
              rw [if_pos (by rfl)]
              go_simp
              refine hK.out _ _ fun _ => ?_
              clear HS hK K
              try simp only [Act.put, lpa, lpb, lpc]
              refine doneT ?_
              refine NoPanic.normal ?_
              go_wp2_with fail
              go_meet
              refine ⟨[atS 116 s], ⟨q1, q2, q3, q4, .slice qa (setA xs ⟨#[116]⟩ ⟨2, 0, s⟩).length qc⟩, Lib.hid (.inr ⟨_, by simpa [wordsT] using hs, rfl⟩), Lib.hid ?_⟩
              rw [show o1 ++ o2 ++ o3 ++ [atS 116 s] = setA xs ⟨#[116]⟩ ⟨2, 0, s⟩ from by rw [setA_lit HB.out (by simp), ← HXS.out]; rfl]
              exact HP.out
          case rest =>
            obtain ⟨o4, p4, h4, F8⟩ := hcut
            obtain ⟨pa, pc, hp⟩ := F8.out.slice
            subst hp
            have c0 := F8.out.c0
            have c1 := F8.out.c1
            have c2 := F8.out.c2
            have c3 := F8.out.c3
            have c4 := F8.out.c4
            have bx := F8.out.bx
            obtain ⟨b0, f0⟩ := bx.2.1 0 (by decide)
            obtain ⟨b1, f1⟩ := bx.2.1 1 (by decide)
            obtain ⟨b2, f2⟩ := bx.2.1 2 (by decide)
            obtain ⟨b3, f3⟩ := bx.2.1 3 (by decide)
            obtain ⟨b4, f4⟩ := bx.2.1 4 (by decide)
            have z0 := bx.2.2
            have hlo := F8.out.lo
            have dd := F8.out.d
            have HR := Lib.hid F8.out.row
            obtain ⟨ats, hats⟩ : ∃ x, o1 ++ o2 ++ o3 ++ o4 = x := ⟨_, rfl⟩
            have HAS := Lib.hid hats
            have HDR := Lib.hid (show drawnAt ats from ⟨o1, o2, o3, o4, h1.out, h2.out, h3.out, h4.out, hats.symm⟩)
            rw [hats] at HR c4
            clear hats bx
            dsimp only at c0 c1 c2 c3 c4
            go_wp2
            refine bodyPost_ret (v := P5.v ⟨id, ow, sh, l, .slice pa ats.length pc⟩) (by simp [results, Tryz.results54, go_sem, f0, f1, f2, f3, f4]) rfl ⟨_, rfl, ⟨id, ow, sh, l, ats⟩, ⟨rfl, ⟨how.1, by have := how.2; dsimp only; omega⟩, hl6, HDR.out⟩, ?_, ?_⟩
            · obtain ⟨r1, r2, r3, r4, r5, r6⟩ := HR.out
              refine ⟨rfl, rfl, rfl, rfl, ?_, fun b hb => by have := r6 b hb; simpa using this⟩
              refine ownsRow_base (base := w.heap.size + 1) ?_ (by omega)
              repeat' (first | with_reducible exact r5 | with_reducible refine ownsRow_setCell_below ?_ ?_ _ | (dsimp only; omega))
            · repeat' (first | with_reducible exact dd | with_reducible refine D.setCell ?_ ?_ _ | (dsimp only; omega))
end Go.Proofs.YtemikjbfjhebnaaGreat
