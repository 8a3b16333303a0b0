/- More on machine words: bytes and words of 64 bits. -/
import Derived.Test.YtnijmegalgoipaaGreatDoorWords
namespace Go.Proofs.YtnijmegalgoipaaGreatDoor
theorem ofInt8 (x : UInt8) : BitVec.ofInt 8 (x.toNat : Int) = x.toBitVec := by
  rw [BitVec.ofInt_natCast]; apply BitVec.eq_of_toNat_eq; simp
theorem wrap8_nat (n : Nat) (h : n < 256) : IntKind.u8.wrap (n : Int) = n := by
  simp [IntKind.wrap, IntKind.bits, IntKind.signed]; omega
theorem or_u8 (x y : UInt8) : bits .or .u8 (x.toNat : Int) (y.toNat : Int) = ((x ||| y).toNat : Int) := by
  show IntKind.u8.wrap ((BitVec.ofInt 8 (x.toNat : Int) ||| BitVec.ofInt 8 (y.toNat : Int)).toNat : Int) = _
  rw [ofInt8, ofInt8, ← UInt8.toBitVec_or]; exact wrap8_nat _ (x ||| y).toNat_lt
theorem and_u8 (x y : UInt8) : bits .and .u8 (x.toNat : Int) (y.toNat : Int) = ((x &&& y).toNat : Int) := by
  show IntKind.u8.wrap ((BitVec.ofInt 8 (x.toNat : Int) &&& BitVec.ofInt 8 (y.toNat : Int)).toNat : Int) = _
  rw [ofInt8, ofInt8, ← UInt8.toBitVec_and]; exact wrap8_nat _ (x &&& y).toNat_lt
theorem xor_u8 (x y : UInt8) : bits .xor .u8 (x.toNat : Int) (y.toNat : Int) = ((x ^^^ y).toNat : Int) := by
  show IntKind.u8.wrap ((BitVec.ofInt 8 (x.toNat : Int) ^^^ BitVec.ofInt 8 (y.toNat : Int)).toNat : Int) = _
  rw [ofInt8, ofInt8, ← UInt8.toBitVec_xor]; exact wrap8_nat _ (x ^^^ y).toNat_lt
theorem shl_u8 (x : UInt8) (n : Nat) (h : n < 8) : (x.toNat : Int) * ((2 : Int) ^ n) % 256 = ((x <<< (UInt8.ofNat n)).toNat : Int) := by
  rw [UInt8.toNat_shiftLeft, UInt8.toNat_ofNat_of_lt' (by simp [UInt8.size]; omega), Nat.mod_eq_of_lt h, Nat.shiftLeft_eq]
  rw [Int.natCast_emod, Int.natCast_mul, Int.natCast_pow]; rfl
theorem ofInt64 (x : UInt64) : BitVec.ofInt 64 (x.toNat : Int) = x.toBitVec := by
  rw [BitVec.ofInt_natCast]; apply BitVec.eq_of_toNat_eq; simp
theorem wrap64_nat (n : Nat) (h : n < 18446744073709551616) : IntKind.u64.wrap (n : Int) = n := by
  rw [IntKind.wrap_u64]; omega
theorem or_u64 (x y : UInt64) : bits .or .u64 (x.toNat : Int) (y.toNat : Int) = ((x ||| y).toNat : Int) := by
  show IntKind.u64.wrap ((BitVec.ofInt 64 (x.toNat : Int) ||| BitVec.ofInt 64 (y.toNat : Int)).toNat : Int) = _
  rw [ofInt64, ofInt64, ← UInt64.toBitVec_or]; exact wrap64_nat _ (x ||| y).toNat_lt
theorem and_u64 (x y : UInt64) : bits .and .u64 (x.toNat : Int) (y.toNat : Int) = ((x &&& y).toNat : Int) := by
  show IntKind.u64.wrap ((BitVec.ofInt 64 (x.toNat : Int) &&& BitVec.ofInt 64 (y.toNat : Int)).toNat : Int) = _
  rw [ofInt64, ofInt64, ← UInt64.toBitVec_and]; exact wrap64_nat _ (x &&& y).toNat_lt
theorem xor_u64 (x y : UInt64) : bits .xor .u64 (x.toNat : Int) (y.toNat : Int) = ((x ^^^ y).toNat : Int) := by
  show IntKind.u64.wrap ((BitVec.ofInt 64 (x.toNat : Int) ^^^ BitVec.ofInt 64 (y.toNat : Int)).toNat : Int) = _
  rw [ofInt64, ofInt64, ← UInt64.toBitVec_xor]; exact wrap64_nat _ (x ^^^ y).toNat_lt
theorem add_u64 (x y : UInt64) : ((x.toNat : Int) + (y.toNat : Int)) % 18446744073709551616 = ((x + y).toNat : Int) := by
  rw [UInt64.toNat_add]; omega
theorem mul_u64 (x y : UInt64) : ((x.toNat : Int) * (y.toNat : Int)) % 18446744073709551616 = ((x * y).toNat : Int) := by
  rw [UInt64.toNat_mul, Int.natCast_emod, Int.natCast_mul]; rfl
theorem shr_u64 (x : UInt64) (n : Nat) (h : n < 64) : (x.toNat : Int) / ((2 : Int) ^ n) = ((x >>> (UInt64.ofNat n)).toNat : Int) := by
  rw [UInt64.toNat_shiftRight, UInt64.toNat_ofNat_of_lt' (by simp [UInt64.size]; omega), Nat.mod_eq_of_lt h, Nat.shiftRight_eq_div_pow]
  norm_cast
theorem shl_u64 (x : UInt64) (n : Nat) (h : n < 64) : (x.toNat : Int) * ((2 : Int) ^ n) % 18446744073709551616 = ((x <<< (UInt64.ofNat n)).toNat : Int) := by
  rw [UInt64.toNat_shiftLeft, UInt64.toNat_ofNat_of_lt' (by simp [UInt64.size]; omega), Nat.mod_eq_of_lt h, Nat.shiftLeft_eq]
  rw [Int.natCast_emod, Int.natCast_mul, Int.natCast_pow]; rfl
theorem lt_u64 (x : UInt64) : (x.toNat : Int) < 18446744073709551616 := by have := x.toNat_lt; omega
/-- one more at a list's end -/
theorem getD_end {α : Type} (d : α) (l : List α) (x : α) (j t : Nat) (h : l.length = t) : (if j = t then x else l.getD j d) = (l ++ [x]).getD j d := by
  subst h
  by_cases hj : j = l.length
  · subst hj; simp
  · rw [if_neg hj]
    rcases Nat.lt_or_ge j l.length with h1 | h1
    · simp [List.getD, List.getElem?_append_left h1]
    · simp [List.getD, List.getElem?_eq_none h1, List.getElem?_eq_none (l := l ++ [x]) (i := j) (by simp; omega)]
theorem size_bytes (l : List UInt8) : (ByteArray.mk l.toArray).size = l.length := rfl
theorem app_toList (x y : ByteArray) : (x ++ y).data.toList = x.data.toList ++ y.data.toList := by
  rw [ByteArray.data_append, Array.toList_append]
theorem app_size (x y : ByteArray) : (x ++ y).size = x.size + y.size := ByteArray.size_append
theorem getD_str (s : ByteArray) (i : Nat) (h : i < s.size) : s.data.toList.getD i 0 = s[i] := by
  have hl : i < s.data.toList.length := h
  simp [List.getD, List.getElem?_eq_getElem hl]; rfl
end Go.Proofs.YtnijmegalgoipaaGreatDoor
