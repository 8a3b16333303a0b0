/- The document's sha, plain: the padded text, its blocks, and the bytes of the words. -/
import Derived.Test.YtkfngeckojobbaaDoorRef02Plain
namespace Go.Proofs.YtkfngeckojobbaaDoor.Sha
/-- the bytes of the length, from the low one on -/
def lenBk (n : Nat) : Nat → List UInt8
  | 0 => []
  | i + 1 => lenByte n i :: lenBk n i
theorem lenBk_eq (n : Nat) : lenBk n 8 = lenTo n 8 := rfl
theorem zeros_ok (n j : Nat) (h : j ≤ zeros n) : ((n + 1 + j) % 64 = 56) = (j = zeros n) := by
  unfold zeros at *
  apply propext
  constructor <;> intro h2 <;> omega
def whole (m : List UInt8) : List UInt8 := m ++ pad m.length m.length
theorem pad_mod (n k : Nat) : pad (n % 64) k = pad n k := by
  unfold pad zeros
  rw [Nat.mod_mod]
theorem pad_length (n k : Nat) : (pad n k).length = 9 + zeros n := by
  have : (lenTo k 8).length = 8 := rfl
  simp only [pad, List.length_cons, List.length_append, List.length_replicate, this]
  omega
theorem whole_length (m : List UInt8) : (whole m).length % 64 = 0 := by
  unfold whole
  rw [List.length_append, pad_length]
  unfold zeros
  omega
theorem sha_whole (m : List UInt8) : sha m = (absorb begin_ (whole m)).1.bytes := by
  unfold sha sumOf
  rw [absorb_length, pad_mod, absorb_parts]
  rfl
theorem absorbN_snoc (n : Nat) : ∀ (v : St) (l : List UInt8), absorbN (n + 1) v l = (block (absorbN n v l).1 ((absorbN n v l).2.take 64), (absorbN n v l).2.drop 64) := by
  induction n with
  | zero => intro v l; rfl
  | succ n ih =>
    intro v l
    rw [absorbN, ih]
    rfl
theorem absorbN_rest (n : Nat) : ∀ (v : St) (l : List UInt8), (absorbN n v l).2 = l.drop (64 * n) := by
  induction n with
  | zero => intro v l; simp [absorbN]
  | succ n ih =>
    intro v l
    rw [absorbN, ih, List.drop_drop]
    congr 1
    omega
def after (l : List UInt8) (j : Nat) : St := (absorbN j begin_ l).1
theorem after_next (l : List UInt8) (j : Nat) : after l (j + 1) = block (after l j) ((l.drop (64 * j)).take 64) := by
  unfold after
  rw [absorbN_snoc, absorbN_rest]
theorem after_all (m : List UInt8) : (after (whole m) ((whole m).length / 64)).bytes = sha m := by rw [sha_whole]; rfl
/-- a byte of a word, from the high one on -/
def byteOf (x : UInt32) (i : Nat) : UInt8 := (x >>> (UInt32.ofNat (8 * (3 - i)))).toUInt8
theorem bytes_at (v : St) (i : Nat) (h : i < 32) : v.bytes.getD i 0 = byteOf (v.words.getD (i / 4) 0) (i % 4) := by
  have : i = 0 ∨ i = 1 ∨ i = 2 ∨ i = 3 ∨ i = 4 ∨ i = 5 ∨ i = 6 ∨ i = 7 ∨ i = 8 ∨ i = 9 ∨ i = 10 ∨ i = 11 ∨ i = 12 ∨ i = 13 ∨ i = 14 ∨ i = 15 ∨ i = 16 ∨ i = 17 ∨ i = 18 ∨ i = 19 ∨ i = 20 ∨ i = 21 ∨ i = 22 ∨ i = 23 ∨ i = 24 ∨ i = 25 ∨ i = 26 ∨ i = 27 ∨ i = 28 ∨ i = 29 ∨ i = 30 ∨ i = 31 := by omega
  rcases this with h | h | h | h | h | h | h | h | h | h | h | h | h | h | h | h | h | h | h | h | h | h | h | h | h | h | h | h | h | h | h | h <;> subst h <;> first | rfl | (show UInt32.toUInt8 _ = UInt32.toUInt8 (_ >>> 0); simp)
theorem byteOf_int (x : UInt32) (r : Nat) (h : r ≤ 3) : ((byteOf x (3 - r)).toNat : Int) = (x.toNat : Int) / 256 ^ r % 256 := by
  unfold byteOf
  rw [show 3 - (3 - r) = r by omega, UInt32.toNat_toUInt8, UInt32.toNat_shiftRight, UInt32.toNat_ofNat_of_lt' (by simp [UInt32.size]; omega), Nat.mod_eq_of_lt (show 8 * r < 32 by omega), Nat.shiftRight_eq_div_pow]
  rw [show (2 : Nat) ^ (8 * r) = 256 ^ r by rw [Nat.pow_mul]]
  rw [Int.natCast_emod, Int.natCast_ediv, Int.natCast_pow]
  rfl
end Go.Proofs.YtkfngeckojobbaaDoor.Sha
