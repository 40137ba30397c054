/- The data of this program: structures, their cells, and what a row of them reads as. Written by gen_t.py. No program in sight. -/
import Derived.Test.YtodbohmbdgbheaaGreatDoorP
namespace Go.Proofs.YtodbohmbdgbheaaGreatDoor
open Go.RowKit

abbrev I.v (n : Int) : Value := .int .i64 n
abbrev B.v (s : ByteArray) : Value := .string s
abbrev L.v (b : Bool) : Value := .bool b
abbrev ints (xs : List Int) : List Value := xs.map (Value.int .i64)
abbrev strs (xs : List ByteArray) : List Value := xs.map Value.string
abbrev bools (xs : List Bool) : List Value := xs.map Value.bool
structure V where
  kind : Int
  int : Int
  str : ByteArray
def V.c (x : V) : List Value := [.int .i64 x.kind, .int .i64 x.int, .string x.str]
abbrev V.v (x : V) : Value := .agg #[.int .i64 x.kind, .int .i64 x.int, .string x.str]
def V.z : V := ⟨0, 0, ⟨#[]⟩⟩
theorem V.len (x : V) : x.c.length = 3 := rfl
theorem RdA.getV {w : World} {a : Option Addr} {n : Nat} {xs : List V} (h : RdA w a 3 n (rows V.c xs)) {i : Nat} (hi : i < n) :
    ∃ b o x, a = some ⟨b, o, none⟩ ∧ Hid (xs[i]? = some x) ∧ w.cell? ⟨b, o + i * 3, none⟩ = some (.int .i64 x.kind) ∧ w.cell? ⟨b, o + i * 3 + 1, none⟩ = some (.int .i64 x.int) ∧ w.cell? ⟨b, o + i * 3 + 2, none⟩ = some (.string x.str) := by
  obtain ⟨b, o, x, rfl, hx, hc⟩ := h.row V.len (by decide) hi
  exact ⟨b, o, x, rfl, hx, hc 0 _ rfl, hc 1 _ rfl, hc 2 _ rfl⟩
theorem ownV {w : World} {base : Nat} {e : TypeId} {g n cap : Nat} {xs : List V} (h : w.ownsRow base e 3 (.slice (some ⟨g, 0, none⟩) n cap) n (rows V.c xs)) {i : Nat} (hi : i < n) :
    ∃ x, Hid (xs[i]? = some x) ∧ w.cell? ⟨g, i * 3, none⟩ = some (.int .i64 x.kind) ∧ w.cell? ⟨g, i * 3 + 1, none⟩ = some (.int .i64 x.int) ∧ w.cell? ⟨g, i * 3 + 2, none⟩ = some (.string x.str) := by
  obtain ⟨x, hx, hc⟩ := own_row V.len (by decide) h hi
  exact ⟨x, hx, hc 0 _ rfl, hc 1 _ rfl, hc 2 _ rfl⟩
theorem storeV {w : World} {base : Nat} {e : TypeId} {g n cap : Nat} {xs : List V} (h : w.ownsRow base e 3 (.slice (some ⟨g, 0, none⟩) n cap) n (rows V.c xs)) {i : Nat} (hi : i < n) (x : V) :
    (((w.setCell ⟨g, i * 3, none⟩ (.int .i64 x.kind)).setCell ⟨g, i * 3 + 1, none⟩ (.int .i64 x.int)).setCell ⟨g, i * 3 + 2, none⟩ (.string x.str)).ownsRow base e 3 (.slice (some ⟨g, 0, none⟩) n cap) n (rows V.c (xs.set i x)) := by
  have := store_row V.len (by decide) h hi x
  simpa only [stores, V.c, Nat.add_assoc, Nat.reduceAdd] using this
structure N where
  op : Int
  left : Int
  right : Int
  name : ByteArray
  val : V
def N.c (x : N) : List Value := [.int .i64 x.op, .int .i64 x.left, .int .i64 x.right, .string x.name, .int .i64 x.val.kind, .int .i64 x.val.int, .string x.val.str]
abbrev N.v (x : N) : Value := .agg #[.int .i64 x.op, .int .i64 x.left, .int .i64 x.right, .string x.name, .int .i64 x.val.kind, .int .i64 x.val.int, .string x.val.str]
def N.z : N := ⟨0, 0, 0, ⟨#[]⟩, V.z⟩
theorem N.len (x : N) : x.c.length = 7 := rfl
theorem RdA.getN {w : World} {a : Option Addr} {n : Nat} {xs : List N} (h : RdA w a 7 n (rows N.c xs)) {i : Nat} (hi : i < n) :
    ∃ b o x, a = some ⟨b, o, none⟩ ∧ Hid (xs[i]? = some x) ∧ w.cell? ⟨b, o + i * 7, none⟩ = some (.int .i64 x.op) ∧ w.cell? ⟨b, o + i * 7 + 1, none⟩ = some (.int .i64 x.left) ∧ w.cell? ⟨b, o + i * 7 + 2, none⟩ = some (.int .i64 x.right) ∧ w.cell? ⟨b, o + i * 7 + 3, none⟩ = some (.string x.name) ∧ w.cell? ⟨b, o + i * 7 + 4, none⟩ = some (.int .i64 x.val.kind) ∧ w.cell? ⟨b, o + i * 7 + 5, none⟩ = some (.int .i64 x.val.int) ∧ w.cell? ⟨b, o + i * 7 + 6, none⟩ = some (.string x.val.str) := by
  obtain ⟨b, o, x, rfl, hx, hc⟩ := h.row N.len (by decide) hi
  exact ⟨b, o, x, rfl, hx, hc 0 _ rfl, hc 1 _ rfl, hc 2 _ rfl, hc 3 _ rfl, hc 4 _ rfl, hc 5 _ rfl, hc 6 _ rfl⟩
theorem ownN {w : World} {base : Nat} {e : TypeId} {g n cap : Nat} {xs : List N} (h : w.ownsRow base e 7 (.slice (some ⟨g, 0, none⟩) n cap) n (rows N.c xs)) {i : Nat} (hi : i < n) :
    ∃ x, Hid (xs[i]? = some x) ∧ w.cell? ⟨g, i * 7, none⟩ = some (.int .i64 x.op) ∧ w.cell? ⟨g, i * 7 + 1, none⟩ = some (.int .i64 x.left) ∧ w.cell? ⟨g, i * 7 + 2, none⟩ = some (.int .i64 x.right) ∧ w.cell? ⟨g, i * 7 + 3, none⟩ = some (.string x.name) ∧ w.cell? ⟨g, i * 7 + 4, none⟩ = some (.int .i64 x.val.kind) ∧ w.cell? ⟨g, i * 7 + 5, none⟩ = some (.int .i64 x.val.int) ∧ w.cell? ⟨g, i * 7 + 6, none⟩ = some (.string x.val.str) := by
  obtain ⟨x, hx, hc⟩ := own_row N.len (by decide) h hi
  exact ⟨x, hx, hc 0 _ rfl, hc 1 _ rfl, hc 2 _ rfl, hc 3 _ rfl, hc 4 _ rfl, hc 5 _ rfl, hc 6 _ rfl⟩
theorem storeN {w : World} {base : Nat} {e : TypeId} {g n cap : Nat} {xs : List N} (h : w.ownsRow base e 7 (.slice (some ⟨g, 0, none⟩) n cap) n (rows N.c xs)) {i : Nat} (hi : i < n) (x : N) :
    (((((((w.setCell ⟨g, i * 7, none⟩ (.int .i64 x.op)).setCell ⟨g, i * 7 + 1, none⟩ (.int .i64 x.left)).setCell ⟨g, i * 7 + 2, none⟩ (.int .i64 x.right)).setCell ⟨g, i * 7 + 3, none⟩ (.string x.name)).setCell ⟨g, i * 7 + 4, none⟩ (.int .i64 x.val.kind)).setCell ⟨g, i * 7 + 5, none⟩ (.int .i64 x.val.int)).setCell ⟨g, i * 7 + 6, none⟩ (.string x.val.str)).ownsRow base e 7 (.slice (some ⟨g, 0, none⟩) n cap) n (rows N.c (xs.set i x)) := by
  have := store_row N.len (by decide) h hi x
  simpa only [stores, N.c, Nat.add_assoc, Nat.reduceAdd] using this
structure Fd where
  name : ByteArray
  kind : Int
def Fd.c (x : Fd) : List Value := [.string x.name, .int .i64 x.kind]
abbrev Fd.v (x : Fd) : Value := .agg #[.string x.name, .int .i64 x.kind]
def Fd.z : Fd := ⟨⟨#[]⟩, 0⟩
theorem Fd.len (x : Fd) : x.c.length = 2 := rfl
theorem RdA.getFd {w : World} {a : Option Addr} {n : Nat} {xs : List Fd} (h : RdA w a 2 n (rows Fd.c xs)) {i : Nat} (hi : i < n) :
    ∃ b o x, a = some ⟨b, o, none⟩ ∧ Hid (xs[i]? = some x) ∧ w.cell? ⟨b, o + i * 2, none⟩ = some (.string x.name) ∧ w.cell? ⟨b, o + i * 2 + 1, none⟩ = some (.int .i64 x.kind) := by
  obtain ⟨b, o, x, rfl, hx, hc⟩ := h.row Fd.len (by decide) hi
  exact ⟨b, o, x, rfl, hx, hc 0 _ rfl, hc 1 _ rfl⟩
theorem ownFd {w : World} {base : Nat} {e : TypeId} {g n cap : Nat} {xs : List Fd} (h : w.ownsRow base e 2 (.slice (some ⟨g, 0, none⟩) n cap) n (rows Fd.c xs)) {i : Nat} (hi : i < n) :
    ∃ x, Hid (xs[i]? = some x) ∧ w.cell? ⟨g, i * 2, none⟩ = some (.string x.name) ∧ w.cell? ⟨g, i * 2 + 1, none⟩ = some (.int .i64 x.kind) := by
  obtain ⟨x, hx, hc⟩ := own_row Fd.len (by decide) h hi
  exact ⟨x, hx, hc 0 _ rfl, hc 1 _ rfl⟩
theorem storeFd {w : World} {base : Nat} {e : TypeId} {g n cap : Nat} {xs : List Fd} (h : w.ownsRow base e 2 (.slice (some ⟨g, 0, none⟩) n cap) n (rows Fd.c xs)) {i : Nat} (hi : i < n) (x : Fd) :
    ((w.setCell ⟨g, i * 2, none⟩ (.string x.name)).setCell ⟨g, i * 2 + 1, none⟩ (.int .i64 x.kind)).ownsRow base e 2 (.slice (some ⟨g, 0, none⟩) n cap) n (rows Fd.c (xs.set i x)) := by
  have := store_row Fd.len (by decide) h hi x
  simpa only [stores, Fd.c, Nat.add_assoc, Nat.reduceAdd] using this
structure At where
  name : ByteArray
  val : V
def At.c (x : At) : List Value := [.string x.name, .int .i64 x.val.kind, .int .i64 x.val.int, .string x.val.str]
abbrev At.v (x : At) : Value := .agg #[.string x.name, .int .i64 x.val.kind, .int .i64 x.val.int, .string x.val.str]
def At.z : At := ⟨⟨#[]⟩, V.z⟩
theorem At.len (x : At) : x.c.length = 4 := rfl
theorem RdA.getAt {w : World} {a : Option Addr} {n : Nat} {xs : List At} (h : RdA w a 4 n (rows At.c xs)) {i : Nat} (hi : i < n) :
    ∃ b o x, a = some ⟨b, o, none⟩ ∧ Hid (xs[i]? = some x) ∧ w.cell? ⟨b, o + i * 4, none⟩ = some (.string x.name) ∧ w.cell? ⟨b, o + i * 4 + 1, none⟩ = some (.int .i64 x.val.kind) ∧ w.cell? ⟨b, o + i * 4 + 2, none⟩ = some (.int .i64 x.val.int) ∧ w.cell? ⟨b, o + i * 4 + 3, none⟩ = some (.string x.val.str) := by
  obtain ⟨b, o, x, rfl, hx, hc⟩ := h.row At.len (by decide) hi
  exact ⟨b, o, x, rfl, hx, hc 0 _ rfl, hc 1 _ rfl, hc 2 _ rfl, hc 3 _ rfl⟩
theorem ownAt {w : World} {base : Nat} {e : TypeId} {g n cap : Nat} {xs : List At} (h : w.ownsRow base e 4 (.slice (some ⟨g, 0, none⟩) n cap) n (rows At.c xs)) {i : Nat} (hi : i < n) :
    ∃ x, Hid (xs[i]? = some x) ∧ w.cell? ⟨g, i * 4, none⟩ = some (.string x.name) ∧ w.cell? ⟨g, i * 4 + 1, none⟩ = some (.int .i64 x.val.kind) ∧ w.cell? ⟨g, i * 4 + 2, none⟩ = some (.int .i64 x.val.int) ∧ w.cell? ⟨g, i * 4 + 3, none⟩ = some (.string x.val.str) := by
  obtain ⟨x, hx, hc⟩ := own_row At.len (by decide) h hi
  exact ⟨x, hx, hc 0 _ rfl, hc 1 _ rfl, hc 2 _ rfl, hc 3 _ rfl⟩
theorem storeAt {w : World} {base : Nat} {e : TypeId} {g n cap : Nat} {xs : List At} (h : w.ownsRow base e 4 (.slice (some ⟨g, 0, none⟩) n cap) n (rows At.c xs)) {i : Nat} (hi : i < n) (x : At) :
    ((((w.setCell ⟨g, i * 4, none⟩ (.string x.name)).setCell ⟨g, i * 4 + 1, none⟩ (.int .i64 x.val.kind)).setCell ⟨g, i * 4 + 2, none⟩ (.int .i64 x.val.int)).setCell ⟨g, i * 4 + 3, none⟩ (.string x.val.str)).ownsRow base e 4 (.slice (some ⟨g, 0, none⟩) n cap) n (rows At.c (xs.set i x)) := by
  have := store_row At.len (by decide) h hi x
  simpa only [stores, At.c, Nat.add_assoc, Nat.reduceAdd] using this
structure P2 where
  name : ByteArray
  q : Value
def P2.c (x : P2) : List Value := [.string x.name, x.q]
abbrev P2.v (x : P2) : Value := .agg #[.string x.name, x.q]
def P2.z : P2 := ⟨⟨#[]⟩, .slice none 0 0⟩
theorem P2.len (x : P2) : x.c.length = 2 := rfl
theorem RdA.getP2 {w : World} {a : Option Addr} {n : Nat} {xs : List P2} (h : RdA w a 2 n (rows P2.c xs)) {i : Nat} (hi : i < n) :
    ∃ b o x, a = some ⟨b, o, none⟩ ∧ Hid (xs[i]? = some x) ∧ w.cell? ⟨b, o + i * 2, none⟩ = some (.string x.name) ∧ w.cell? ⟨b, o + i * 2 + 1, none⟩ = some (x.q) := by
  obtain ⟨b, o, x, rfl, hx, hc⟩ := h.row P2.len (by decide) hi
  exact ⟨b, o, x, rfl, hx, hc 0 _ rfl, hc 1 _ rfl⟩
theorem ownP2 {w : World} {base : Nat} {e : TypeId} {g n cap : Nat} {xs : List P2} (h : w.ownsRow base e 2 (.slice (some ⟨g, 0, none⟩) n cap) n (rows P2.c xs)) {i : Nat} (hi : i < n) :
    ∃ x, Hid (xs[i]? = some x) ∧ w.cell? ⟨g, i * 2, none⟩ = some (.string x.name) ∧ w.cell? ⟨g, i * 2 + 1, none⟩ = some (x.q) := by
  obtain ⟨x, hx, hc⟩ := own_row P2.len (by decide) h hi
  exact ⟨x, hx, hc 0 _ rfl, hc 1 _ rfl⟩
theorem storeP2 {w : World} {base : Nat} {e : TypeId} {g n cap : Nat} {xs : List P2} (h : w.ownsRow base e 2 (.slice (some ⟨g, 0, none⟩) n cap) n (rows P2.c xs)) {i : Nat} (hi : i < n) (x : P2) :
    ((w.setCell ⟨g, i * 2, none⟩ (.string x.name)).setCell ⟨g, i * 2 + 1, none⟩ (x.q)).ownsRow base e 2 (.slice (some ⟨g, 0, none⟩) n cap) n (rows P2.c (xs.set i x)) := by
  have := store_row P2.len (by decide) h hi x
  simpa only [stores, P2.c, Nat.add_assoc, Nat.reduceAdd] using this
structure P3 where
  name : ByteArray
  q : Value
  r : Value
def P3.c (x : P3) : List Value := [.string x.name, x.q, x.r]
abbrev P3.v (x : P3) : Value := .agg #[.string x.name, x.q, x.r]
def P3.z : P3 := ⟨⟨#[]⟩, .slice none 0 0, .slice none 0 0⟩
theorem P3.len (x : P3) : x.c.length = 3 := rfl
theorem RdA.getP3 {w : World} {a : Option Addr} {n : Nat} {xs : List P3} (h : RdA w a 3 n (rows P3.c xs)) {i : Nat} (hi : i < n) :
    ∃ b o x, a = some ⟨b, o, none⟩ ∧ Hid (xs[i]? = some x) ∧ w.cell? ⟨b, o + i * 3, none⟩ = some (.string x.name) ∧ w.cell? ⟨b, o + i * 3 + 1, none⟩ = some (x.q) ∧ w.cell? ⟨b, o + i * 3 + 2, none⟩ = some (x.r) := by
  obtain ⟨b, o, x, rfl, hx, hc⟩ := h.row P3.len (by decide) hi
  exact ⟨b, o, x, rfl, hx, hc 0 _ rfl, hc 1 _ rfl, hc 2 _ rfl⟩
theorem ownP3 {w : World} {base : Nat} {e : TypeId} {g n cap : Nat} {xs : List P3} (h : w.ownsRow base e 3 (.slice (some ⟨g, 0, none⟩) n cap) n (rows P3.c xs)) {i : Nat} (hi : i < n) :
    ∃ x, Hid (xs[i]? = some x) ∧ w.cell? ⟨g, i * 3, none⟩ = some (.string x.name) ∧ w.cell? ⟨g, i * 3 + 1, none⟩ = some (x.q) ∧ w.cell? ⟨g, i * 3 + 2, none⟩ = some (x.r) := by
  obtain ⟨x, hx, hc⟩ := own_row P3.len (by decide) h hi
  exact ⟨x, hx, hc 0 _ rfl, hc 1 _ rfl, hc 2 _ rfl⟩
theorem storeP3 {w : World} {base : Nat} {e : TypeId} {g n cap : Nat} {xs : List P3} (h : w.ownsRow base e 3 (.slice (some ⟨g, 0, none⟩) n cap) n (rows P3.c xs)) {i : Nat} (hi : i < n) (x : P3) :
    (((w.setCell ⟨g, i * 3, none⟩ (.string x.name)).setCell ⟨g, i * 3 + 1, none⟩ (x.q)).setCell ⟨g, i * 3 + 2, none⟩ (x.r)).ownsRow base e 3 (.slice (some ⟨g, 0, none⟩) n cap) n (rows P3.c (xs.set i x)) := by
  have := store_row P3.len (by decide) h hi x
  simpa only [stores, P3.c, Nat.add_assoc, Nat.reduceAdd] using this
structure P5 where
  id : Int
  owner : Int
  shared : Bool
  link : Int
  attrs : Value
def P5.c (x : P5) : List Value := [.int .i64 x.id, .int .i64 x.owner, .bool x.shared, .int .i64 x.link, x.attrs]
abbrev P5.v (x : P5) : Value := .agg #[.int .i64 x.id, .int .i64 x.owner, .bool x.shared, .int .i64 x.link, x.attrs]
def P5.z : P5 := ⟨0, 0, false, 0, .slice none 0 0⟩
theorem P5.len (x : P5) : x.c.length = 5 := rfl
theorem RdA.getP5 {w : World} {a : Option Addr} {n : Nat} {xs : List P5} (h : RdA w a 5 n (rows P5.c xs)) {i : Nat} (hi : i < n) :
    ∃ b o x, a = some ⟨b, o, none⟩ ∧ Hid (xs[i]? = some x) ∧ w.cell? ⟨b, o + i * 5, none⟩ = some (.int .i64 x.id) ∧ w.cell? ⟨b, o + i * 5 + 1, none⟩ = some (.int .i64 x.owner) ∧ w.cell? ⟨b, o + i * 5 + 2, none⟩ = some (.bool x.shared) ∧ w.cell? ⟨b, o + i * 5 + 3, none⟩ = some (.int .i64 x.link) ∧ w.cell? ⟨b, o + i * 5 + 4, none⟩ = some (x.attrs) := by
  obtain ⟨b, o, x, rfl, hx, hc⟩ := h.row P5.len (by decide) hi
  exact ⟨b, o, x, rfl, hx, hc 0 _ rfl, hc 1 _ rfl, hc 2 _ rfl, hc 3 _ rfl, hc 4 _ rfl⟩
theorem ownP5 {w : World} {base : Nat} {e : TypeId} {g n cap : Nat} {xs : List P5} (h : w.ownsRow base e 5 (.slice (some ⟨g, 0, none⟩) n cap) n (rows P5.c xs)) {i : Nat} (hi : i < n) :
    ∃ x, Hid (xs[i]? = some x) ∧ w.cell? ⟨g, i * 5, none⟩ = some (.int .i64 x.id) ∧ w.cell? ⟨g, i * 5 + 1, none⟩ = some (.int .i64 x.owner) ∧ w.cell? ⟨g, i * 5 + 2, none⟩ = some (.bool x.shared) ∧ w.cell? ⟨g, i * 5 + 3, none⟩ = some (.int .i64 x.link) ∧ w.cell? ⟨g, i * 5 + 4, none⟩ = some (x.attrs) := by
  obtain ⟨x, hx, hc⟩ := own_row P5.len (by decide) h hi
  exact ⟨x, hx, hc 0 _ rfl, hc 1 _ rfl, hc 2 _ rfl, hc 3 _ rfl, hc 4 _ rfl⟩
theorem storeP5 {w : World} {base : Nat} {e : TypeId} {g n cap : Nat} {xs : List P5} (h : w.ownsRow base e 5 (.slice (some ⟨g, 0, none⟩) n cap) n (rows P5.c xs)) {i : Nat} (hi : i < n) (x : P5) :
    (((((w.setCell ⟨g, i * 5, none⟩ (.int .i64 x.id)).setCell ⟨g, i * 5 + 1, none⟩ (.int .i64 x.owner)).setCell ⟨g, i * 5 + 2, none⟩ (.bool x.shared)).setCell ⟨g, i * 5 + 3, none⟩ (.int .i64 x.link)).setCell ⟨g, i * 5 + 4, none⟩ (x.attrs)).ownsRow base e 5 (.slice (some ⟨g, 0, none⟩) n cap) n (rows P5.c (xs.set i x)) := by
  have := store_row P5.len (by decide) h hi x
  simpa only [stores, P5.c, Nat.add_assoc, Nat.reduceAdd] using this
theorem set_noop {l : List Value} {j : Nat} {u : Value} (h : l[j]? = some u) : l.set j u = l := by
  obtain ⟨hj, rfl⟩ := List.getElem?_eq_some_iff.1 h
  exact List.set_getElem_self hj
theorem setsV (xs : List V) (i : Nat) (hi : i < xs.length) (x : V) : (((rows V.c xs).set (i * 3) (.int .i64 x.kind)).set (i * 3 + 1) (.int .i64 x.int)).set (i * 3 + 2) (.string x.str) = rows V.c (xs.set i x) := by
  have := rows_sets V.len xs i hi x
  simpa only [sets, V.c, Nat.add_assoc, Nat.reduceAdd] using this
theorem setsN (xs : List N) (i : Nat) (hi : i < xs.length) (x : N) : (((((((rows N.c xs).set (i * 7) (.int .i64 x.op)).set (i * 7 + 1) (.int .i64 x.left)).set (i * 7 + 2) (.int .i64 x.right)).set (i * 7 + 3) (.string x.name)).set (i * 7 + 4) (.int .i64 x.val.kind)).set (i * 7 + 5) (.int .i64 x.val.int)).set (i * 7 + 6) (.string x.val.str) = rows N.c (xs.set i x) := by
  have := rows_sets N.len xs i hi x
  simpa only [sets, N.c, Nat.add_assoc, Nat.reduceAdd] using this
theorem setsFd (xs : List Fd) (i : Nat) (hi : i < xs.length) (x : Fd) : ((rows Fd.c xs).set (i * 2) (.string x.name)).set (i * 2 + 1) (.int .i64 x.kind) = rows Fd.c (xs.set i x) := by
  have := rows_sets Fd.len xs i hi x
  simpa only [sets, Fd.c, Nat.add_assoc, Nat.reduceAdd] using this
theorem setsAt (xs : List At) (i : Nat) (hi : i < xs.length) (x : At) : ((((rows At.c xs).set (i * 4) (.string x.name)).set (i * 4 + 1) (.int .i64 x.val.kind)).set (i * 4 + 2) (.int .i64 x.val.int)).set (i * 4 + 3) (.string x.val.str) = rows At.c (xs.set i x) := by
  have := rows_sets At.len xs i hi x
  simpa only [sets, At.c, Nat.add_assoc, Nat.reduceAdd] using this
theorem setsP2 (xs : List P2) (i : Nat) (hi : i < xs.length) (x : P2) : ((rows P2.c xs).set (i * 2) (.string x.name)).set (i * 2 + 1) (x.q) = rows P2.c (xs.set i x) := by
  have := rows_sets P2.len xs i hi x
  simpa only [sets, P2.c, Nat.add_assoc, Nat.reduceAdd] using this
theorem setsP3 (xs : List P3) (i : Nat) (hi : i < xs.length) (x : P3) : (((rows P3.c xs).set (i * 3) (.string x.name)).set (i * 3 + 1) (x.q)).set (i * 3 + 2) (x.r) = rows P3.c (xs.set i x) := by
  have := rows_sets P3.len xs i hi x
  simpa only [sets, P3.c, Nat.add_assoc, Nat.reduceAdd] using this
theorem setsP5 (xs : List P5) (i : Nat) (hi : i < xs.length) (x : P5) : (((((rows P5.c xs).set (i * 5) (.int .i64 x.id)).set (i * 5 + 1) (.int .i64 x.owner)).set (i * 5 + 2) (.bool x.shared)).set (i * 5 + 3) (.int .i64 x.link)).set (i * 5 + 4) (x.attrs) = rows P5.c (xs.set i x) := by
  have := rows_sets P5.len xs i hi x
  simpa only [sets, P5.c, Nat.add_assoc, Nat.reduceAdd] using this
theorem setnP2 (xs : List P2) (i : Nat) (x : P2) (h : xs[i]? = some x) (y0 : ByteArray) : (rows P2.c xs).set (i * 2) (.string y0) = rows P2.c (xs.set i ⟨y0, x.q⟩) := by
  have hs := setsP2 xs i (List.getElem?_eq_some_iff.1 h).1 ⟨y0, x.q⟩
  have n0 : ((rows P2.c xs).set (i * 2) (.string y0))[i * 2 + 1]? = some x.q := by
    repeat rw [List.getElem?_set_ne (by omega)]
    exact rows_at P2.len xs i 1 x h (by decide)
  rw [set_noop n0] at hs
  exact hs
theorem setnP3 (xs : List P3) (i : Nat) (x : P3) (h : xs[i]? = some x) (y0 : ByteArray) : (rows P3.c xs).set (i * 3) (.string y0) = rows P3.c (xs.set i ⟨y0, x.q, x.r⟩) := by
  have hs := setsP3 xs i (List.getElem?_eq_some_iff.1 h).1 ⟨y0, x.q, x.r⟩
  have n0 : ((rows P3.c xs).set (i * 3) (.string y0))[i * 3 + 1]? = some x.q := by
    repeat rw [List.getElem?_set_ne (by omega)]
    exact rows_at P3.len xs i 1 x h (by decide)
  rw [set_noop n0] at hs
  have n1 : ((rows P3.c xs).set (i * 3) (.string y0))[i * 3 + 2]? = some x.r := by
    repeat rw [List.getElem?_set_ne (by omega)]
    exact rows_at P3.len xs i 2 x h (by decide)
  rw [set_noop n1] at hs
  exact hs
theorem setnP5 (xs : List P5) (i : Nat) (x : P5) (h : xs[i]? = some x) (y0 : Int) (y1 : Int) (y2 : Bool) (y3 : Int) : ((((rows P5.c xs).set (i * 5) (.int .i64 y0)).set (i * 5 + 1) (.int .i64 y1)).set (i * 5 + 2) (.bool y2)).set (i * 5 + 3) (.int .i64 y3) = rows P5.c (xs.set i ⟨y0, y1, y2, y3, x.attrs⟩) := by
  have hs := setsP5 xs i (List.getElem?_eq_some_iff.1 h).1 ⟨y0, y1, y2, y3, x.attrs⟩
  have n0 : (((((rows P5.c xs).set (i * 5) (.int .i64 y0)).set (i * 5 + 1) (.int .i64 y1)).set (i * 5 + 2) (.bool y2)).set (i * 5 + 3) (.int .i64 y3))[i * 5 + 4]? = some x.attrs := by
    repeat rw [List.getElem?_set_ne (by omega)]
    exact rows_at P5.len xs i 4 x h (by decide)
  rw [set_noop n0] at hs
  exact hs
/-- The bytes that a value, a node .. holds. -/
def V.sz (x : V) : Nat := x.str.size
def N.sz (x : N) : Nat := x.name.size + x.val.sz
def Fd.sz (x : Fd) : Nat := x.name.size
def At.sz (x : At) : Nat := x.name.size + x.val.sz
/-- What the cells of the structures that hold slices stand for. -/
structure Dr where
  name : ByteArray
  query : List N
structure Rs where
  name : ByteArray
  ids : List Int
structure Df where
  name : ByteArray
  added : List Int
  removed : List Int
structure Fl where
  id : Int
  owner : Int
  shared : Bool
  link : Int
  attrs : List At
structure St where
  schema : List Fd
  files : List Fl
  next : Int
def Dr.R (w : World) (x : Dr) (p : P2) : Prop := p.name = x.name ∧ Rd w p.q 7 x.query.length (rows N.c x.query)
def Rs.R (w : World) (x : Rs) (p : P2) : Prop := p.name = x.name ∧ Rd w p.q 1 x.ids.length (ints x.ids)
def Df.R (w : World) (x : Df) (p : P3) : Prop := p.name = x.name ∧ Rd w p.q 1 x.added.length (ints x.added) ∧ Rd w p.r 1 x.removed.length (ints x.removed)
def Fl.R (w : World) (x : Fl) (p : P5) : Prop := p.id = x.id ∧ p.owner = x.owner ∧ p.shared = x.shared ∧ p.link = x.link ∧ Rd w p.attrs 4 x.attrs.length (rows At.c x.attrs)
theorem Dr.R.grew {w w' : World} {x : Dr} {p : P2} (h : Dr.R w x p) (hg : Grew w w') : Dr.R w' x p := ⟨h.1, h.2.grew hg⟩
theorem Rs.R.grew {w w' : World} {x : Rs} {p : P2} (h : Rs.R w x p) (hg : Grew w w') : Rs.R w' x p := ⟨h.1, h.2.grew hg⟩
theorem Df.R.grew {w w' : World} {x : Df} {p : P3} (h : Df.R w x p) (hg : Grew w w') : Df.R w' x p := ⟨h.1, h.2.1.grew hg, h.2.2.grew hg⟩
theorem Fl.R.grew {w w' : World} {x : Fl} {p : P5} (h : Fl.R w x p) (hg : Grew w w') : Fl.R w' x p := ⟨h.1, h.2.1, h.2.2.1, h.2.2.2.1, h.2.2.2.2.grew hg⟩
abbrev RdDs (w : World) (v : Value) (xs : List Dr) : Prop := RdL P2.c 2 Dr.R w v xs
abbrev RdRs (w : World) (v : Value) (xs : List Rs) : Prop := RdL P2.c 2 Rs.R w v xs
abbrev RdFs (w : World) (v : Value) (xs : List Df) : Prop := RdL P3.c 3 Df.R w v xs
abbrev RdLs (w : World) (v : Value) (xs : List Fl) : Prop := RdL P5.c 5 Fl.R w v xs
/-- A store by value. -/
def RdSt (w : World) (v : Value) (s : St) : Prop := ∃ a b, v = .agg #[a, b, .int .i64 s.next] ∧ Rd w a 2 s.schema.length (rows Fd.c s.schema) ∧ RdLs w b s.files
theorem RdSt.grew {w w' : World} {v : Value} {s : St} (h : RdSt w v s) (hg : Grew w w') : RdSt w' v s := by
  obtain ⟨a, b, rfl, h1, h2⟩ := h
  exact ⟨a, b, rfl, h1.grew hg, RdL.grew (fun _ _ _ _ h k => h.grew k) h2 hg⟩
end Go.Proofs.YtodbohmbdgbheaaGreatDoor
