/- The check sum, in plain words: by the table and bit by bit. -/
import Derived.Test.YtnijmegalgoipaaGreatDoorWords2
namespace Go.Proofs.YtnijmegalgoipaaGreatDoor
namespace Crc
def poly : UInt32 := 2197175160
/-- a register, moved by one bit -/
def half (x : UInt32) : UInt32 := if x &&& 1 = 1 then (x >>> 1) ^^^ poly else x >>> 1
def half8 (x : UInt32) : UInt32 := half (half (half (half (half (half (half (half x)))))))
def row (b : UInt8) : UInt32 := half8 b.toUInt32
/-- a byte more, by the table -/
def step (x : UInt32) (b : UInt8) : UInt32 := (x >>> 8) ^^^ row (x.toUInt8 ^^^ b)
/-- a byte more, bit by bit -/
def stepB (x : UInt32) (b : UInt8) : UInt32 := half8 (x ^^^ b.toUInt32)
def ones : UInt32 := 4294967295
def crc (l : List UInt8) : UInt32 := (l.foldl step ones) ^^^ ones

theorem and1 (x : UInt32) : x &&& 1 = 0 ∨ x &&& 1 = 1 := by
  have h : (x &&& 1).toNat = x.toNat % 2 := by
    rw [UInt32.toNat_and]
    exact Nat.and_one_is_mod _
  rcases Nat.mod_two_eq_zero_or_one x.toNat with h0 | h0
  · left; apply UInt32.toNat.inj; rw [h, h0]; rfl
  · right; apply UInt32.toNat.inj; rw [h, h0]; rfl
theorem and1_nat (x : UInt32) : (x &&& 1 = 1) ↔ x.toNat % 2 = 1 := by
  have h : (x &&& 1).toNat = x.toNat % 2 := by
    rw [UInt32.toNat_and]
    exact Nat.and_one_is_mod _
  constructor
  · intro e; rw [e] at h; simpa using h.symm
  · intro e; apply UInt32.toNat.inj; rw [h, e]; rfl
theorem shr_xor (a b : UInt32) (n : UInt32) : (a ^^^ b) >>> n = (a >>> n) ^^^ (b >>> n) := by
  apply UInt32.toBitVec_inj.1
  simp only [UInt32.toBitVec_shiftRight, UInt32.toBitVec_xor]
  exact BitVec.ushiftRight_xor_distrib _ _ _
theorem half_xor (a b : UInt32) : half (a ^^^ b) = half a ^^^ half b := by
  have e : (a ^^^ b) &&& 1 = (a &&& 1) ^^^ (b &&& 1) := by
    apply UInt32.toBitVec_inj.1
    simp only [UInt32.toBitVec_and, UInt32.toBitVec_xor]
    apply BitVec.eq_of_getLsbD_eq
    intro i hi
    simp only [BitVec.getLsbD_xor, BitVec.getLsbD_and, Bool.and_xor_distrib_right]
  have h0 : ∀ y : UInt32, y &&& 1 = 0 → half y = y >>> 1 := fun y hy => by unfold half; rw [if_neg (by rw [hy]; decide)]
  have h1 : ∀ y : UInt32, y &&& 1 = 1 → half y = (y >>> 1) ^^^ poly := fun y hy => by unfold half; rw [if_pos hy]
  rcases and1 a with ha | ha <;> rcases and1 b with hb | hb
  · rw [h0 a ha, h0 b hb, h0 _ (by rw [e, ha, hb]; decide), shr_xor]
  · rw [h0 a ha, h1 b hb, h1 _ (by rw [e, ha, hb]; decide), shr_xor, UInt32.xor_assoc]
  · rw [h1 a ha, h0 b hb, h1 _ (by rw [e, ha, hb]; decide), shr_xor, UInt32.xor_assoc, UInt32.xor_comm (b >>> 1), ← UInt32.xor_assoc]
  · rw [h1 a ha, h1 b hb, h0 _ (by rw [e, ha, hb]; decide), shr_xor, UInt32.xor_assoc (a >>> 1), ← UInt32.xor_assoc poly, UInt32.xor_comm poly, UInt32.xor_assoc (b >>> 1), UInt32.xor_self, UInt32.xor_zero]
theorem half8_xor (a b : UInt32) : half8 (a ^^^ b) = half8 a ^^^ half8 b := by
  unfold half8
  simp only [half_xor]
theorem shr1_nat (x : UInt32) : (x >>> 1).toNat = x.toNat / 2 := by
  rw [UInt32.toNat_shiftRight]
  simp [Nat.shiftRight_eq_div_pow]
theorem half_even (x : UInt32) (h : x.toNat % 2 = 0) : (half x).toNat = x.toNat / 2 := by
  unfold half
  rw [if_neg (by rw [and1_nat]; omega), shr1_nat]
theorem half8_high (x : UInt32) (h : x.toNat % 256 = 0) : (half8 x).toNat = x.toNat / 256 := by
  have h1 := half_even x (by omega)
  have h2 := half_even (half x) (by omega)
  have h3 := half_even (half (half x)) (by omega)
  have h4 := half_even (half (half (half x))) (by omega)
  have h5 := half_even (half (half (half (half x)))) (by omega)
  have h6 := half_even (half (half (half (half (half x))))) (by omega)
  have h7 := half_even (half (half (half (half (half (half x)))))) (by omega)
  have h8 := half_even (half (half (half (half (half (half (half x))))))) (by omega)
  show (half (half (half (half (half (half (half (half x)))))))).toNat = _
  omega
theorem step_eq (x : UInt32) (b : UInt8) : step x b = stepB x b := by
  have e : x ^^^ b.toUInt32 = (x &&& 4294967040) ^^^ (x.toUInt8 ^^^ b).toUInt32 := by
    apply UInt32.toBitVec_inj.1
    simp only [UInt32.toBitVec_xor, UInt32.toBitVec_and, UInt8.toBitVec_toUInt32, UInt8.toBitVec_xor, UInt32.toBitVec_toUInt8]
    apply BitVec.eq_of_getLsbD_eq
    intro i hi
    simp only [BitVec.getLsbD_xor, BitVec.getLsbD_and, BitVec.getLsbD_setWidth]
    by_cases h8 : i < 8
    · have : (UInt32.toBitVec 4294967040).getLsbD i = false := by
        have : ∀ j : Fin 8, (UInt32.toBitVec 4294967040).getLsbD j.val = false := by decide
        exact this ⟨i, h8⟩
      rw [this, Bool.and_false, Bool.false_xor]
      simp [h8, hi]
    · have : (UInt32.toBitVec 4294967040).getLsbD i = true := by
        have : ∀ j : Fin 32, ¬ j.val < 8 → (UInt32.toBitVec 4294967040).getLsbD j.val = true := by decide
        exact this ⟨i, hi⟩ h8
      have hb : b.toBitVec.getLsbD i = false := BitVec.getLsbD_of_ge _ _ (by omega)
      rw [this, Bool.and_true, hb]
      simp [h8, hi]
  unfold step stepB row
  rw [e, half8_xor]
  congr 1
  have hn : (x &&& 4294967040).toNat = x.toNat / 256 * 256 := by
    rw [UInt32.toNat_and]
    show x.toNat &&& 4294967040 = _
    have hx := x.toNat_lt
    apply Nat.eq_of_testBit_eq
    intro i
    rw [Nat.testBit_and, show x.toNat / 256 * 256 = (x.toNat >>> 8) <<< 8 from by rw [Nat.shiftRight_eq_div_pow, Nat.shiftLeft_eq], Nat.testBit_shiftLeft, Nat.testBit_shiftRight]
    by_cases h8 : i < 8
    · have : ∀ j : Fin 8, Nat.testBit 4294967040 j.val = false := by decide
      rw [this ⟨i, h8⟩]; simp; omega
    · by_cases h32 : i < 32
      · have : ∀ j : Fin 32, ¬ j.val < 8 → Nat.testBit 4294967040 j.val = true := by decide
        rw [this ⟨i, h32⟩ h8]; simp; rw [show 8 + (i - 8) = i from by omega]; simp; omega
      · have h1 : Nat.testBit x.toNat i = false := Nat.testBit_lt_two_pow (Nat.lt_of_lt_of_le hx (Nat.pow_le_pow_right (by omega) (show 32 ≤ i by omega)))
        simp [h1, show 8 + (i - 8) = i from by omega]
  apply UInt32.toNat.inj
  rw [half8_high _ (by omega), hn, UInt32.toNat_shiftRight]
  simp [Nat.shiftRight_eq_div_pow]
/- ---------- a register tells the one ahead of it ---------- -/
theorem half_inj {a b : UInt32} (h : half a = half b) : a = b := by
  have hd : half (a ^^^ b) = 0 := by rw [half_xor, h, UInt32.xor_self]
  have hz : a ^^^ b = 0 := by
    generalize a ^^^ b = x at hd
    unfold half at hd
    rcases and1 x with h0 | h1
    · rw [if_neg (by rw [h0]; decide)] at hd
      have hn := shr1_nat x
      rw [hd] at hn
      have h2 : ¬ x.toNat % 2 = 1 := fun e => by have := (and1_nat x).2 e; rw [h0] at this; exact absurd this (by decide)
      apply UInt32.toNat.inj
      simp at hn ⊢
      omega
    · rw [if_pos h1] at hd
      have hx : x >>> 1 = poly := by
        have : (x >>> 1 ^^^ poly) ^^^ poly = 0 ^^^ poly := by rw [hd]
        rwa [UInt32.xor_assoc, UInt32.xor_self, UInt32.xor_zero, UInt32.zero_xor] at this
      have hn := shr1_nat x
      rw [hx] at hn
      have hl := x.toNat_lt
      have : poly.toNat = 2197175160 := rfl
      omega
  have : (a ^^^ b) ^^^ b = 0 ^^^ b := by rw [hz]
  rwa [UInt32.xor_assoc, UInt32.xor_self, UInt32.xor_zero, UInt32.zero_xor] at this
theorem half8_inj {a b : UInt32} (h : half8 a = half8 b) : a = b := half_inj (half_inj (half_inj (half_inj (half_inj (half_inj (half_inj (half_inj h)))))))
theorem xor_left_inj {a b c : UInt32} (h : a ^^^ c = b ^^^ c) : a = b := by
  have : (a ^^^ c) ^^^ c = (b ^^^ c) ^^^ c := by rw [h]
  rwa [UInt32.xor_assoc, UInt32.xor_assoc, UInt32.xor_self, UInt32.xor_zero, UInt32.xor_zero] at this
theorem step_inj {x y : UInt32} {b : UInt8} (h : step x b = step y b) : x = y := by
  rw [step_eq, step_eq] at h
  exact xor_left_inj (half8_inj h)
theorem step_byte {x : UInt32} {b c : UInt8} (h : step x b = step x c) : b = c := by
  rw [step_eq, step_eq] at h
  have := half8_inj h
  rw [UInt32.xor_comm x, UInt32.xor_comm x] at this
  have h2 := xor_left_inj this
  apply UInt8.toNat.inj
  have h3 := congrArg UInt32.toNat h2
  simpa using h3
theorem fold_inj : ∀ (l : List UInt8) {x y : UInt32}, l.foldl step x = l.foldl step y → x = y
  | [], _, _, h => h
  | _ :: l, _, _, h => step_inj (fold_inj l h)
/-- one byte is another one: so is the check sum -/
theorem crc_turned (p q : List UInt8) {b c : UInt8} (h : crc (p ++ b :: q) = crc (p ++ c :: q)) : b = c := by
  unfold crc at h
  have h1 := xor_left_inj h
  rw [List.foldl_append, List.foldl_append, List.foldl_cons, List.foldl_cons] at h1
  exact step_byte (fold_inj q h1)
theorem crcB (l : List UInt8) (x : UInt32) : l.foldl stepB x = l.foldl step x := by
  induction l generalizing x with
  | nil => rfl
  | cons b l ih => rw [List.foldl_cons, List.foldl_cons, step_eq, ih]
theorem ones_sub (x : UInt32) : 4294967295 - (x.toNat : Int) = ((x ^^^ ones).toNat : Int) := by
  have h : x.toNat + (x ^^^ ones).toNat = 4294967295 := by
    have hx : x ^^^ ones = ~~~ x := by
      apply UInt32.toBitVec_inj.1
      simp only [UInt32.toBitVec_xor, UInt32.toBitVec_not]
      show x.toBitVec ^^^ BitVec.allOnes 32 = _
      exact BitVec.xor_allOnes
    rw [hx, UInt32.toNat_not]
    have hl := x.toNat_lt
    have : UInt32.size = 4294967296 := rfl
    omega
  omega
end Crc
end Go.Proofs.YtnijmegalgoipaaGreatDoor
