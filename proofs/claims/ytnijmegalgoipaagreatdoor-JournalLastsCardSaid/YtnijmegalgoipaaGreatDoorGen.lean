/- Laws on lists of bytes and chunks that name no type of the program. -/
import Derived.Test.YtnijmegalgoipaaGreatDoorManPlain
import Derived.Test.YtnijmegalgoipaaGreatDoorOps3
import Derived.Test.YtnijmegalgoipaaGreatDoorWords
namespace Go.Proofs.YtnijmegalgoipaaGreatDoor
open Go.RowKit
theorem take_next' {α : Type} {l : List α} {j : Nat} {x : α} (h : l[j]? = some x) : l.take (j + 1) = l.take j ++ [x] := by
  obtain ⟨hj, rfl⟩ := List.getElem?_eq_some_iff.1 h
  exact List.take_succ_eq_append_getElem hj
theorem take_all {α : Type} {a b : List α} (h : a.length = b.length) (ht : a.take a.length = b.take a.length) : a = b := by
  rw [List.take_length, h, List.take_length] at ht
  exact ht
theorem at_ne {α : Type} {a b : List α} {j : Nat} {x y : α} (hx : a[j]? = some x) (hy : b[j]? = some y) (h : x ≠ y) : a ≠ b := by
  rintro rfl
  rw [hx] at hy
  exact h (Option.some.inj hy)
/-- the number at the head of bytes -/
def num (s : List UInt8) : Nat := num4 (s.getD 0 0) (s.getD 1 0) (s.getD 2 0) (s.getD 3 0)
theorem num_lt (s : List UInt8) : num s < 4294967296 := num4_lt _ _ _ _
theorem numAt (s : List UInt8) (i : Nat) : num (s.drop i) = num4 (s.getD i 0) (s.getD (i + 1) 0) (s.getD (i + 2) 0) (s.getD (i + 3) 0) := by
  unfold num
  simp [List.getD, List.getElem?_drop]
def chksOf : Nat → List UInt8 → List Chk
  | 0, _ => []
  | n + 1, s => ⟨s.take 32, num (s.drop 32)⟩ :: chksOf n (s.drop 36)
theorem chksOf_length : ∀ n s, (chksOf n s).length = n
  | 0, _ => rfl
  | n + 1, s => by simp [chksOf, chksOf_length n]
theorem chksOf_at : ∀ (n : Nat) (s : List UInt8) (j : Nat), j < n → (chksOf n s)[j]? = some ⟨(s.drop (36 * j)).take 32, num (s.drop (36 * j + 32))⟩
  | 0, _, _, h => by omega
  | n + 1, s, 0, _ => by simp [chksOf]
  | n + 1, s, j + 1, h => by
    simp only [chksOf, List.getElem?_cons_succ]
    rw [chksOf_at n (s.drop 36) j (by omega), List.drop_drop, List.drop_drop, show 36 + 36 * j = 36 * (j + 1) by omega, show 36 + (36 * j + 32) = 36 * (j + 1) + 32 by omega]
theorem chksOf_sum (n : Nat) (s : List UInt8) (h : 36 * n ≤ s.length) : ∀ c ∈ chksOf n s, c.sum.length = 32 := by
  intro c hc
  obtain ⟨j, hj, rfl⟩ := List.mem_iff_getElem.1 hc
  rw [chksOf_length] at hj
  have := chksOf_at n s j hj
  rw [List.getElem?_eq_getElem (by rw [chksOf_length]; exact hj)] at this
  injection this with this
  rw [this]
  simp
  omega
theorem num_four (n : Int) (r : List UInt8) (h0 : 0 ≤ n) (h : n < 4294967296) : (num (four n ++ r) : Int) = n := by
  obtain ⟨k, rfl⟩ : ∃ k : Nat, n = k := ⟨n.toNat, by omega⟩
  show ((num4 (byteI k) (byteI ((k : Int) / 256)) (byteI ((k : Int) / 65536)) (byteI ((k : Int) / 16777216)) : Nat) : Int) = k
  rw [num4_four k (by omega)]
theorem four_num (s : List UInt8) (h : 4 ≤ s.length) : four (num s : Nat) ++ s.drop 4 = s := by
  match s, h with
  | a :: b :: c :: d :: r, _ =>
    show four (num4 a b c d : Nat) ++ r = _
    rw [four_num4]
    rfl
theorem drop_four (n : Int) (r : List UInt8) : (four n ++ r).drop 4 = r := rfl
theorem byteI_len (n : Nat) (h : n < 256) : (byteI (n : Int)).toNat = n := by rw [byteI_nat]; omega
def chkBytes (x : Chk) : List UInt8 := x.sum ++ four x.len
theorem chks_back : ∀ (l : List Chk) (r : List UInt8), (∀ c ∈ l, c.sum.length = 32 ∧ 0 ≤ c.len ∧ c.len < 4294967296) → chksOf l.length (l.flatMap chkBytes ++ r) = l
  | [], _, _ => rfl
  | c :: l, r, h => by
    obtain ⟨h1, h2, h3⟩ := h c (by simp)
    have e : ((c :: l).flatMap chkBytes ++ r) = c.sum ++ (four c.len ++ (l.flatMap chkBytes ++ r)) := by
      simp [List.flatMap_cons, chkBytes]
    show Chk.mk _ _ :: chksOf l.length _ = _
    rw [e]
    have d1 : (c.sum ++ (four c.len ++ (l.flatMap chkBytes ++ r))).take 32 = c.sum := List.take_left' h1
    have d2 : (c.sum ++ (four c.len ++ (l.flatMap chkBytes ++ r))).drop 32 = four c.len ++ (l.flatMap chkBytes ++ r) := List.drop_left' h1
    have d3 : (c.sum ++ (four c.len ++ (l.flatMap chkBytes ++ r))).drop 36 = l.flatMap chkBytes ++ r := by
      rw [show (36 : Nat) = 32 + 4 from rfl, ← List.drop_drop, d2, drop_four]
    rw [d1, d2, d3, num_four _ _ h2 h3, chks_back l r (fun c hc => h c (by simp [hc]))]
theorem chks_forth : ∀ (n : Nat) (s : List UInt8), 36 * n ≤ s.length → (chksOf n s).flatMap chkBytes ++ s.drop (36 * n) = s
  | 0, s, _ => by simp [chksOf]
  | n + 1, s, h => by
    have ih := chks_forth n (s.drop 36) (by rw [List.length_drop]; omega)
    simp only [chksOf, List.flatMap_cons]
    have e2 : s.drop (36 * (n + 1)) = (s.drop 36).drop (36 * n) := by rw [List.drop_drop]; congr 1; omega
    rw [e2, List.append_assoc, ih]
    unfold chkBytes
    have e3 : (s.drop 32).drop 4 = s.drop 36 := by rw [List.drop_drop]
    show (s.take 32 ++ four (num (s.drop 32) : Nat)) ++ s.drop 36 = s
    rw [List.append_assoc, ← e3, four_num _ (by rw [List.length_drop]; omega), List.take_append_drop]
/-- what may have changed since a world -/
structure Since (W0 w : World) : Prop where
  b : Below W0.heap.size W0 w
theorem Since.bel {W0 w w' : World} (h : Since W0 w) (hb : Below w.heap.size w w') : Since W0 w' := ⟨bthen h.b hb⟩
/-- a chunk of the document's answer -/
def rcells (c : Chk) : List Value := [str c.sum, .int .i64 c.len]
theorem rcells_length (c : Chk) : (rcells c).length = 2 := rfl
theorem rcells_one (c : Chk) : ∀ u ∈ rcells c, u.oneCell' = true := by
  intro u hu
  simp only [rcells, List.mem_cons, List.not_mem_nil, or_false] at hu
  rcases hu with rfl | rfl <;> rfl
theorem sumRange {w : World} {g o : Nat} {x : Chk} (h : w.rangeAt g o x.cells) : w.rangeAt g o (x.sum.map bv) := fun j v hv => h j v (by
  have hj := (List.getElem?_eq_some_iff.1 hv).1
  unfold Chk.cells
  rw [List.getElem?_append_left hj]
  exact hv)
/-- alike: the same but for the number -/
def alike (a b : Man) : Bool := decide (a.rows = b.rows ∧ a.cols = b.cols ∧ a.strs = b.strs)
theorem Row.one {w : World} {e : TypeId} {size n : Nat} {v : Value} {xs : List Value} (h : Row w e size v n xs) : v.oneCell' = true := by
  obtain ⟨a, c, rfl, _, _⟩ := h.shape
  rfl
theorem Row.blt {w : World} {e : TypeId} {size n g o c k : Nat} {xs : List Value} (h : Row w e size (.slice (some ⟨g, o, none⟩) k c) n xs) (hn : 0 < n) : g < w.heap.size := by
  obtain ⟨g', o', c', he, hl⟩ := h.reads.some_ hn
  injection he with e1 _ _
  injection e1 with e1
  injection e1 with e1 _ _
  rwa [e1]
/-- bits that do not meet are added -/
theorem or_add (a b k : Nat) (ha : a < 2 ^ k) (hb : a + b * 2 ^ k < 9223372036854775808) : bits .or .i64 (a : Int) ((b : Int) * ((2 ^ k : Nat) : Int)) = ((a + b * 2 ^ k : Nat) : Int) := by
  have e : (b : Int) * ((2 ^ k : Nat) : Int) = ((b * 2 ^ k : Nat) : Int) := by rw [Int.natCast_mul]
  have h1 : b * 2 ^ k + a = b * 2 ^ k ||| a := by
    have := Nat.shiftLeft_add_eq_or_of_lt (i := k) ha b
    rwa [Nat.shiftLeft_eq] at this
  rw [e]
  show IntKind.i64.wrap ((BitVec.ofInt 64 (a : Int) ||| BitVec.ofInt 64 ((b * 2 ^ k : Nat) : Int)).toNat : Int) = _
  rw [BitVec.ofInt_natCast, BitVec.ofInt_natCast, BitVec.toNat_or, BitVec.toNat_ofNat, BitVec.toNat_ofNat, Nat.mod_eq_of_lt (by omega), Nat.mod_eq_of_lt (by omega), Nat.or_comm, ← h1, Nat.add_comm]
  exact IntWalk.i64_in _ (by omega)
theorem or_add32 (a b k : Nat) (ha : a < 2 ^ k) (hb : a + b * 2 ^ k < 4294967296) : bits .or .u32 (a : Int) ((b : Int) * ((2 ^ k : Nat) : Int)) = ((a + b * 2 ^ k : Nat) : Int) := by
  have e : (b : Int) * ((2 ^ k : Nat) : Int) = ((b * 2 ^ k : Nat) : Int) := by rw [Int.natCast_mul]
  have h1 : b * 2 ^ k + a = b * 2 ^ k ||| a := by
    have := Nat.shiftLeft_add_eq_or_of_lt (i := k) ha b
    rwa [Nat.shiftLeft_eq] at this
  rw [e]
  show IntKind.u32.wrap ((BitVec.ofInt 32 (a : Int) ||| BitVec.ofInt 32 ((b * 2 ^ k : Nat) : Int)).toNat : Int) = _
  rw [BitVec.ofInt_natCast, BitVec.ofInt_natCast, BitVec.toNat_or, BitVec.toNat_ofNat, BitVec.toNat_ofNat, Nat.mod_eq_of_lt (by omega), Nat.mod_eq_of_lt (by omega), Nat.or_comm, ← h1, Nat.add_comm]
  exact IntWalk.u32_in _ (by omega)
/-- the cells of chunks that have been read -/
def Filled (cs : Array Value) (n j : Nat) (l : List Chk) : Prop := cs.size = n * 33 ∧ cs.toList.take (j * 33) = (l.take j).flatMap Chk.cells
theorem Filled.next {cs : Array Value} {n j : Nat} {l : List Chk} {x : Chk} (h : Filled cs n j l) (hj : j < n) (hx : l[j]? = some x) (hs : x.sum.length = 32) :
    Filled ((cs.toList.take (j * 33) ++ x.sum.map bv ++ cs.toList.drop (j * 33 + 32)).toArray.setIfInBounds (j * 33 + 32) (.int .i64 x.len)) n (j + 1) l := by
  obtain ⟨h1, h2⟩ := h
  have hlen : cs.toList.length = n * 33 := by simpa using h1
  have hb : (j + 1) * 33 ≤ n * 33 := Nat.mul_le_mul_right 33 hj
  have e1 : (cs.toList.take (j * 33)).length = j * 33 := by rw [List.length_take]; omega
  refine ⟨by simp [hs]; omega, ?_⟩
  rw [take_next' hx, List.flatMap_append, ← h2]
  apply List.ext_getElem?
  intro i
  rw [List.getElem?_take]
  simp only [List.setIfInBounds_toArray]
  rw [List.getElem?_set]
  by_cases hi : i < (j + 1) * 33
  · rw [if_pos hi]
    by_cases h3 : j * 33 + 32 = i
    · subst h3
      rw [if_pos rfl, if_pos (by simp [hs]; omega), List.getElem?_append_right (by omega), e1, show j * 33 + 32 - j * 33 = 32 by omega]
      simp [Chk.cells, hs]
    · rw [if_neg h3, List.append_assoc]
      by_cases h4 : i < j * 33
      · rw [List.getElem?_append_left (by omega), List.getElem?_append_left (by omega)]
      · have hm : (x.sum.map bv).length = 32 := by simpa using hs
        rw [List.getElem?_append_right (l₁ := cs.toList.take (j * 33)) (by omega), List.getElem?_append_right (l₁ := cs.toList.take (j * 33)) (by omega), e1, List.getElem?_append_left (l₁ := x.sum.map bv) (by omega)]
        simp only [List.flatMap_cons, List.flatMap_nil, List.append_nil, Chk.cells]
        rw [List.getElem?_append_left (by omega)]
  · rw [if_neg hi]
    symm
    rw [List.getElem?_eq_none]
    simp [Chk.cells, hs]
    omega
theorem splice_size (cs : Array Value) (s : List UInt8) (o n : Nat) (h : s.length = n) (ho : o + n ≤ cs.size) : (cs.toList.take o ++ s.map bv ++ cs.toList.drop (o + n)).toArray.size = cs.size := by
  simp [h]; omega
end Go.Proofs.YtnijmegalgoipaaGreatDoor
