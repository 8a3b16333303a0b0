/- Plain: hexadecimal digits read back. -/
import Derived.Test.YtkfngeckojobbaaDoorShaPlain
namespace Go.Proofs.YtkfngeckojobbaaDoor.Sha
def nibB (b : UInt8) : Bool := (48 ≤ b && b ≤ 57) || (97 ≤ b && b ≤ 102)
def nibV (b : UInt8) : UInt8 := if 48 ≤ b && b ≤ 57 then b - 48 else if 97 ≤ b && b ≤ 102 then b - 97 + 10 else 0
/-- the first j pairs of digits; none: one is no digit -/
def parseTo (s : List UInt8) : Nat → Option (List UInt8)
  | 0 => some []
  | j + 1 => match parseTo s j with
    | none => none
    | some l => if nibB (s.getD (2 * j) 0) && nibB (s.getD (2 * j + 1) 0) then some (l ++ [nibV (s.getD (2 * j) 0) <<< 4 ||| nibV (s.getD (2 * j + 1) 0)]) else none
def parse (s : List UInt8) : Option (List UInt8) := if s.length = 64 then parseTo s 32 else none
theorem parseTo_length (s : List UInt8) (j : Nat) (l : List UInt8) (h : parseTo s j = some l) : l.length = j := by
  induction j generalizing l with
  | zero => simp [parseTo] at h; subst h; rfl
  | succ j ih =>
    simp only [parseTo] at h
    split at h
    · cases h
    · rename_i l' hl'
      split at h
      · injection h with h
        subst h
        simp [ih l' hl']
      · cases h
theorem parseTo_none (s : List UInt8) (j : Nat) (h : parseTo s j = none) : ∀ k, j ≤ k → parseTo s k = none := by
  intro k hk
  induction k with
  | zero => obtain rfl : j = 0 := by omega
            exact h
  | succ k ih =>
    by_cases e : j = k + 1
    · rw [← e]; exact h
    · simp only [parseTo, ih (by omega)]
theorem nib_hexD : ∀ n : Fin 16, nibB (hexD (UInt8.ofNat n.val)) = true ∧ nibV (hexD (UInt8.ofNat n.val)) = UInt8.ofNat n.val := by decide +kernel
theorem byte_nibs : ∀ n : Fin 256, (nibB (hexD (UInt8.ofNat n.val >>> 4)) = true ∧ nibB (hexD (UInt8.ofNat n.val &&& 15)) = true) ∧ nibV (hexD (UInt8.ofNat n.val >>> 4)) <<< 4 ||| nibV (hexD (UInt8.ofNat n.val &&& 15)) = UInt8.ofNat n.val := by decide +kernel
theorem byte_back (b : UInt8) : (nibB (hexD (b >>> 4)) = true ∧ nibB (hexD (b &&& 15)) = true) ∧ nibV (hexD (b >>> 4)) <<< 4 ||| nibV (hexD (b &&& 15)) = b := by
  have := byte_nibs ⟨b.toNat, b.toNat_lt⟩
  simpa using this
theorem hex_length (l : List UInt8) : (hex l).length = 2 * l.length := by
  induction l with
  | nil => rfl
  | cons b l ih => simp only [hex, List.flatMap_cons, List.length_append, List.length_cons, List.length_nil] at *; omega
theorem hex_getD (l : List UInt8) : ∀ j, j < l.length → (hex l).getD (2 * j) 0 = hexD (l.getD j 0 >>> 4) ∧ (hex l).getD (2 * j + 1) 0 = hexD (l.getD j 0 &&& 15) := by
  induction l with
  | nil => intro j h; simp at h
  | cons b l ih =>
    intro j h
    cases j with
    | zero => exact ⟨rfl, rfl⟩
    | succ j =>
      have := ih j (by simpa using h)
      have e : hex (b :: l) = hexD (b >>> 4) :: hexD (b &&& 15) :: hex l := rfl
      rw [e, show 2 * (j + 1) = 2 * j + 1 + 1 from by omega]
      simpa using this
theorem parseTo_hex (l : List UInt8) : ∀ j, j ≤ l.length → parseTo (hex l) j = some (l.take j) := by
  intro j
  induction j with
  | zero => intro _; rfl
  | succ j ih =>
    intro h
    have hg := hex_getD l j (by omega)
    simp only [parseTo, ih (by omega), hg.1, hg.2]
    have hb := byte_back (l.getD j 0)
    rw [hb.1.1, hb.1.2, hb.2]
    simp only [Bool.and_self, if_true]
    rw [List.take_succ_eq_append_getElem (by omega)]
    simp [List.getD, List.getElem?_eq_getElem (show j < l.length by omega)]
/-- what is printed is parsed -/
theorem parse_hex (l : List UInt8) (h : l.length = 32) : parse (hex l) = some l := by
  unfold parse
  rw [if_pos (by rw [hex_length, h]), parseTo_hex l 32 (by omega), List.take_of_length_le (by omega)]
end Go.Proofs.YtkfngeckojobbaaDoor.Sha
