/- manifest: plain data, what Check says of it, and how it lies in memory. -/
import Derived.Test.YtnijmegalgoipaaGreatDoorByt
namespace Go.Proofs.YtnijmegalgoipaaGreatDoor
open Go.RowKit
structure Col where
  name : List UInt8
  kind : Int
  null : Bool
deriving DecidableEq
structure Chk where
  sum : List UInt8
  len : Int
deriving DecidableEq
structure Man where
  id : Int
  rows : Int
  cols : List Col
  strs : List (List Chk)
deriving DecidableEq
def Col.cells (c : Col) : List Value := [str c.name, .int .i64 c.kind, .bool c.null]
def Chk.cells (c : Chk) : List Value := c.sum.map bv ++ [.int .i64 c.len]
theorem Col.cells_length (c : Col) : c.cells.length = 3 := rfl
theorem Chk.cells_length {c : Chk} (h : c.sum.length = 32) : c.cells.length = 33 := by simp [Chk.cells, h]
theorem Chk.cells_len {c : Chk} (h : c.sum.length = 32) : c.cells.toArray[0 + 32]? = some (.int .i64 c.len) := by
  simp [Chk.cells, h]
theorem Chk.cells_one (c : Chk) : c.cells.toArray.toList.all (·.oneCell') = true := by
  simp [Chk.cells, bv, Value.oneCell']
theorem Chk.size {c : Chk} (h : c.sum.length = 32) : c.cells.toArray.size = 33 := by simpa using Chk.cells_length h
/- ---------- lists of records as cells ---------- -/
theorem flat_at {α β : Type} (f : α → List β) (k : Nat) : ∀ (l : List α) (j : Nat) (a : α), (∀ a ∈ l, (f a).length = k) → l[j]? = some a → ((l.flatMap f).drop (j * k)).take k = f a
  | [], j, a, _, h => by simp at h
  | x :: l, 0, a, hk, h => by
    simp at h
    subst h
    have := hk x (by simp)
    simp [List.flatMap_cons, this]
  | x :: l, j + 1, a, hk, h => by
    have hx := hk x (by simp)
    rw [List.flatMap_cons, Nat.succ_mul, Nat.add_comm, ← List.drop_drop]
    rw [List.drop_append_of_le_length (by omega), List.drop_of_length_le (l := f x) (by omega), List.nil_append]
    exact flat_at f k l j a (fun a ha => hk a (by simp [ha])) (by simpa using h)
theorem flat_length {α β : Type} (f : α → List β) (k : Nat) : ∀ (l : List α), (∀ a ∈ l, (f a).length = k) → (l.flatMap f).length = l.length * k
  | [], _ => by simp
  | x :: l, h => by
    rw [List.flatMap_cons, List.length_append, h x (by simp), flat_length f k l (fun a ha => h a (by simp [ha])), List.length_cons, Nat.succ_mul]
    omega
/- ---------- in memory ---------- -/
def ColsAt (w : World) (v : Value) (l : List Col) : Prop := Reads w 3 v l.length (l.flatMap Col.cells) ∧ ∀ c ∈ l, c.name.length ≤ 9223372036854775807
def ChksAt (w : World) (v : Value) (l : List Chk) : Prop := Reads w 33 v l.length (l.flatMap Chk.cells) ∧ ∀ c ∈ l, c.sum.length = 32
def StrsAt (w : World) (v : Value) (ls : List (List Chk)) : Prop := ∃ vs : List Value, Reads w 1 v ls.length vs ∧ ∀ (i : Nat) l, ls[i]? = some l → ∃ u, vs[i]? = some u ∧ ChksAt w u l
theorem ColsAt.bel {w w' : World} {v : Value} {l : List Col} (h : ColsAt w v l) (hb : Below w.heap.size w w') : ColsAt w' v l := ⟨h.1.bel hb, h.2⟩
theorem ChksAt.bel {w w' : World} {v : Value} {l : List Chk} (h : ChksAt w v l) (hb : Below w.heap.size w w') : ChksAt w' v l := ⟨h.1.bel hb, h.2⟩
theorem StrsAt.bel {w w' : World} {v : Value} {ls : List (List Chk)} (h : StrsAt w v ls) (hb : Below w.heap.size w w') : StrsAt w' v ls := by
  obtain ⟨vs, h1, h2⟩ := h
  exact ⟨vs, h1.bel hb, fun i l hl => by obtain ⟨u, hu, hc⟩ := h2 i l hl; exact ⟨u, hu, hc.bel hb⟩⟩
theorem ChksAt.range {w : World} {g o c : Nat} {l : List Chk} (h : ChksAt w (.slice (some ⟨g, o, none⟩) l.length c) l) {j : Nat} {x : Chk} (hx : l[j]? = some x) : w.rangeAt g (o + j * 33) x.cells := by
  have hj := (List.getElem?_eq_some_iff.1 hx).1
  have := h.1.range j hj
  rwa [flat_at Chk.cells 33 l j x (fun a ha => Chk.cells_length (h.2 a ha)) hx] at this
theorem ColsAt.range {w : World} {g o c : Nat} {l : List Col} (h : ColsAt w (.slice (some ⟨g, o, none⟩) l.length c) l) {j : Nat} {x : Col} (hx : l[j]? = some x) : w.rangeAt g (o + j * 3) x.cells := by
  have hj := (List.getElem?_eq_some_iff.1 hx).1
  have := h.1.range j hj
  rwa [flat_at Col.cells 3 l j x (fun a _ => a.cells_length) hx] at this
/- ---------- Check ---------- -/
def chkBad (c : Chk) (more : Bool) : Bool := decide (c.len < 1) || decide (1024 < c.len) || (decide (c.len < 64) && more)
def strBad : List Chk → Bool
  | [] => false
  | c :: r => chkBad c (!r.isEmpty) || strBad r
def strErr (l : List Chk) : Int := if 20000 < l.length then 31 else if strBad l then 1 else 0
def strsErr : List (List Chk) → Int
  | [] => 0
  | l :: r => if strErr l = 0 then strsErr r else strErr l
theorem strBad_at (l : List Chk) (j : Nat) (c : Chk) (h : l[j]? = some c) : strBad (l.drop j) = (chkBad c (decide (j + 1 < l.length)) || strBad (l.drop (j + 1))) := by
  obtain ⟨hj, rfl⟩ := List.getElem?_eq_some_iff.1 h
  rw [List.drop_eq_getElem_cons hj]
  show (chkBad l[j] (!(l.drop (j + 1)).isEmpty) || strBad (l.drop (j + 1))) = _
  congr 2
  rw [Bool.eq_iff_iff]
  simp [List.drop_eq_nil_iff]
theorem strsErr_at (l : List (List Chk)) (j : Nat) (c : List Chk) (h : l[j]? = some c) : strsErr (l.drop j) = if strErr c = 0 then strsErr (l.drop (j + 1)) else strErr c := by
  obtain ⟨hj, rfl⟩ := List.getElem?_eq_some_iff.1 h
  rw [List.drop_eq_getElem_cons hj]
  rfl
def manErr (colsOk : List Col → Bool) (m : Man) : Int :=
  if m.id < 1 ∨ 2147483647 < m.id ∨ m.rows < 0 then 1 else if 10000 < m.rows then 31 else if !colsOk m.cols then 30 else if m.strs.length ≠ m.cols.length then 1 else strsErr m.strs
end Go.Proofs.YtnijmegalgoipaaGreatDoor
