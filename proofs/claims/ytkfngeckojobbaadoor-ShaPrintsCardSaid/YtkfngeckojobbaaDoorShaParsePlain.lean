/- Plain: hexadecimal digits read back. -/
import Derived.Test.YtkfngeckojobbaaDoorShaPlain
namespace Go.Proofs.YtkfngeckojobbaaDoor.Sha
def nibB (b : UInt8) : Bool := (48 ≤ b && b ≤ 57) || (97 ≤ b && b ≤ 102)
def nibV (b : UInt8) : UInt8 := if 48 ≤ b && b ≤ 57 then b - 48 else if 97 ≤ b && b ≤ 102 then b - 97 + 10 else 0
/-- the first j pairs of digits; none: one is no digit -/
def parseTo (s : List UInt8) : Nat → Option (List UInt8)
  | 0 => some []
  | j + 1 => match parseTo s j with
    | none => none
    | some l => if nibB (s.getD (2 * j) 0) && nibB (s.getD (2 * j + 1) 0) then some (l ++ [nibV (s.getD (2 * j) 0) <<< 4 ||| nibV (s.getD (2 * j + 1) 0)]) else none
def parse (s : List UInt8) : Option (List UInt8) := if s.length = 64 then parseTo s 32 else none
theorem parseTo_length (s : List UInt8) (j : Nat) (l : List UInt8) (h : parseTo s j = some l) : l.length = j := by
  induction j generalizing l with
  | zero => simp [parseTo] at h; subst h; rfl
  | succ j ih =>
    simp only [parseTo] at h
    split at h
    · cases h
    · rename_i l' hl'
      split at h
      · injection h with h
        subst h
        simp [ih l' hl']
      · cases h
theorem parseTo_none (s : List UInt8) (j : Nat) (h : parseTo s j = none) : ∀ k, j ≤ k → parseTo s k = none := by
  intro k hk
  induction k with
  | zero => obtain rfl : j = 0 := by omega
            exact h
  | succ k ih =>
    by_cases e : j = k + 1
    · rw [← e]; exact h
    · simp only [parseTo, ih (by omega)]
theorem nib_hexD : ∀ n : Fin 16, nibB (hexD (UInt8.ofNat n.val)) = true ∧ nibV (hexD (UInt8.ofNat n.val)) = UInt8.ofNat n.val := by decide +kernel
theorem byte_nibs : ∀ n : Fin 256, (nibB (hexD (UInt8.ofNat n.val >>> 4)) = true ∧ nibB (hexD (UInt8.ofNat n.val &&& 15)) = true) ∧ nibV (hexD (UInt8.ofNat n.val >>> 4)) <<< 4 ||| nibV (hexD (UInt8.ofNat n.val &&& 15)) = UInt8.ofNat n.val := by decide +kernel
theorem byte_back (b : UInt8) : (nibB (hexD (b >>> 4)) = true ∧ nibB (hexD (b &&& 15)) = true) ∧ nibV (hexD (b >>> 4)) <<< 4 ||| nibV (hexD (b &&& 15)) = b := by
  have := byte_nibs ⟨b.toNat, b.toNat_lt⟩
  simpa using this
theorem hex_length (l : List UInt8) : (hex l).length = 2 * l.length := by
  induction l with
  | nil => rfl
  | cons b l ih => simp only [hex, List.flatMap_cons, List.length_append, List.length_cons, List.length_nil] at *; omega
theorem hex_getD (l : List UInt8) : ∀ j, j < l.length → (hex l).getD (2 * j) 0 = hexD (l.getD j 0 >>> 4) ∧ (hex l).getD (2 * j + 1) 0 = hexD (l.getD j 0 &&& 15) := by
  induction l with
  | nil => intro j h; simp at h
  | cons b l ih =>
    intro j h
    cases j with
    | zero => exact ⟨rfl, rfl⟩
    | succ j =>
      have := ih j (by simpa using h)
      have e : hex (b :: l) = hexD (b >>> 4) :: hexD (b &&& 15) :: hex l := rfl
      rw [e, show 2 * (j + 1) = 2 * j + 1 + 1 from by omega]
      simpa using this
theorem parseTo_hex (l : List UInt8) : ∀ j, j ≤ l.length → parseTo (hex l) j = some (l.take j) := by
  intro j
  induction j with
  | zero => intro _; rfl
  | succ j ih =>
    intro h
    have hg := hex_getD l j (by omega)
    simp only [parseTo, ih (by omega), hg.1, hg.2]
    have hb := byte_back (l.getD j 0)
    rw [hb.1.1, hb.1.2, hb.2]
    simp only [Bool.and_self, if_true]
    rw [List.take_succ_eq_append_getElem (by omega)]
    simp [List.getD, List.getElem?_eq_getElem (show j < l.length by omega)]
/-- what is printed is parsed -/
theorem parse_hex (l : List UInt8) (h : l.length = 32) : parse (hex l) = some l := by
  unfold parse
  rw [if_pos (by rw [hex_length, h]), parseTo_hex l 32 (by omega), List.take_of_length_le (by omega)]
theorem parseTo_some (s : List UInt8) (j : Nat) (h : ∀ i, i < 2 * j → nibB (s.getD i 0) = true) :
    parseTo s j = some ((List.range j).map fun k => nibV (s.getD (2 * k) 0) <<< 4 ||| nibV (s.getD (2 * k + 1) 0)) := by
  induction j with
  | zero => rfl
  | succ j ih =>
    simp only [parseTo, ih (fun i hi => h i (by omega)), h (2 * j) (by omega), h (2 * j + 1) (by omega), Bool.and_self, if_true]
    rw [List.range_succ, List.map_append]
    rfl
theorem parseTo_bad (s : List UInt8) (j i : Nat) (hi : i < 2 * j) (h : nibB (s.getD i 0) = false) : parseTo s j = none := by
  induction j with
  | zero => omega
  | succ j ih =>
    by_cases h2 : i < 2 * j
    · simp only [parseTo, ih h2]
    · simp only [parseTo]
      cases parseTo s j with
      | none => rfl
      | some l =>
        have : (nibB (s.getD (2 * j) 0) && nibB (s.getD (2 * j + 1) 0)) = false := by
          rcases (show i = 2 * j ∨ i = 2 * j + 1 by omega) with e | e
          · rw [← e, h, Bool.false_and]
          · rw [← e, h, Bool.and_false]
        simp only [this, Bool.false_eq_true, if_false]
theorem digit_iff_dec : ∀ c : Fin 256, ∀ n : Fin 16, (hexD (UInt8.ofNat n.val) == UInt8.ofNat c.val) = (nibB (UInt8.ofNat c.val) && (nibV (UInt8.ofNat c.val)).toNat == n.val) := by decide +kernel
theorem digit_iff (c : UInt8) (n : Nat) (hn : n < 16) : (hexD (UInt8.ofNat n) == c) = (nibB c && (nibV c).toNat == n) := by
  have := digit_iff_dec ⟨c.toNat, c.toNat_lt⟩ ⟨n, hn⟩
  simpa using this
theorem nibV_lt_dec : ∀ c : Fin 256, (nibV (UInt8.ofNat c.val)).toNat < 16 := by decide +kernel
theorem nibV_lt (c : UInt8) : (nibV c).toNat < 16 := by
  have := nibV_lt_dec ⟨c.toNat, c.toNat_lt⟩
  simpa using this
theorem pair_dec : ∀ x y : Fin 16, ((UInt8.ofNat x.val <<< 4 ||| UInt8.ofNat y.val).toNat) = x.val * 16 + y.val := by decide +kernel
theorem pair_eq (x y : UInt8) (hx : x.toNat < 16) (hy : y.toNat < 16) : (x <<< 4 ||| y).toNat = x.toNat * 16 + y.toNat := by
  have := pair_dec ⟨x.toNat, hx⟩ ⟨y.toNat, hy⟩
  simpa using this
/-- the bytes behind i digits -/
def outAt (s : List UInt8) (i k : Nat) : UInt8 :=
  if 2 * k + 1 < i then nibV (s.getD (2 * k) 0) <<< 4 ||| nibV (s.getD (2 * k + 1) 0) else if 2 * k < i then nibV (s.getD (2 * k) 0) else 0
theorem outAt_step (s : List UInt8) (i : Nat) : (outAt s (i + 1) (i / 2)).toNat = (outAt s i (i / 2)).toNat * 16 + (nibV (s.getD i 0)).toNat := by
  rcases Nat.mod_two_eq_zero_or_one i with h | h
  · have e : i = 2 * (i / 2) := by omega
    unfold outAt
    rw [if_neg (by omega), if_pos (by omega), if_neg (by omega), if_neg (by omega), ← e]
    simp
  · have e : i = 2 * (i / 2) + 1 := by omega
    unfold outAt
    rw [if_pos (by omega), if_neg (by omega), if_pos (by omega), ← e]
    exact pair_eq _ _ (nibV_lt _) (nibV_lt _)
theorem outAt_other (s : List UInt8) (i k : Nat) (h : k ≠ i / 2) : outAt s (i + 1) k = outAt s i k := by
  unfold outAt
  by_cases h1 : 2 * k + 1 < i
  · rw [if_pos h1, if_pos (by omega)]
  · rw [if_neg h1, if_neg (by omega)]
    by_cases h2 : 2 * k < i
    · omega
    · rw [if_neg h2, if_neg (by omega)]
theorem outAt_lt (s : List UInt8) (i : Nat) : (outAt s i (i / 2)).toNat < 16 := by
  unfold outAt
  rw [if_neg (by omega)]
  split
  · exact nibV_lt _
  · simp
end Go.Proofs.YtkfngeckojobbaaDoor.Sha
