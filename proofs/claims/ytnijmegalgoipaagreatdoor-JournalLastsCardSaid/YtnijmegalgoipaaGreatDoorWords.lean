/- Machine words: how the walk's integers are words of 8, 32 and 64 bits. -/
import Derived.Below
import Derived.Laws.BitsAllLaws
import Derived.Laws.Bits64
namespace Go.Proofs.YtnijmegalgoipaaGreatDoor

theorem ofInt32 (x : UInt32) : BitVec.ofInt 32 (x.toNat : Int) = x.toBitVec := by
  rw [BitVec.ofInt_natCast]; apply BitVec.eq_of_toNat_eq; simp
theorem wrap32_nat (n : Nat) (h : n < 4294967296) : IntKind.u32.wrap (n : Int) = n := by
  simp [IntKind.wrap, IntKind.bits, IntKind.signed]; omega
theorem or_u32 (x y : UInt32) : bits .or .u32 (x.toNat : Int) (y.toNat : Int) = ((x ||| y).toNat : Int) := by
  show IntKind.u32.wrap ((BitVec.ofInt 32 (x.toNat : Int) ||| BitVec.ofInt 32 (y.toNat : Int)).toNat : Int) = _
  rw [ofInt32, ofInt32, ← UInt32.toBitVec_or]; exact wrap32_nat _ (x ||| y).toNat_lt
theorem and_u32 (x y : UInt32) : bits .and .u32 (x.toNat : Int) (y.toNat : Int) = ((x &&& y).toNat : Int) := by
  show IntKind.u32.wrap ((BitVec.ofInt 32 (x.toNat : Int) &&& BitVec.ofInt 32 (y.toNat : Int)).toNat : Int) = _
  rw [ofInt32, ofInt32, ← UInt32.toBitVec_and]; exact wrap32_nat _ (x &&& y).toNat_lt
theorem xor_u32 (x y : UInt32) : bits .xor .u32 (x.toNat : Int) (y.toNat : Int) = ((x ^^^ y).toNat : Int) := by
  show IntKind.u32.wrap ((BitVec.ofInt 32 (x.toNat : Int) ^^^ BitVec.ofInt 32 (y.toNat : Int)).toNat : Int) = _
  rw [ofInt32, ofInt32, ← UInt32.toBitVec_xor]; exact wrap32_nat _ (x ^^^ y).toNat_lt
theorem add_u32 (x y : UInt32) : ((x.toNat : Int) + (y.toNat : Int)) % 4294967296 = ((x + y).toNat : Int) := by
  rw [UInt32.toNat_add]; omega
theorem mod_u32 (x : UInt32) : (x.toNat : Int) % 4294967296 = (x.toNat : Int) := by have := x.toNat_lt; omega
theorem wrap_u32 (x : UInt32) : IntKind.u32.wrap (x.toNat : Int) = (x.toNat : Int) := wrap32_nat _ x.toNat_lt
theorem wrapadd_u32 (x y : UInt32) : IntKind.u32.wrap ((x.toNat : Int) + (y.toNat : Int)) = ((x + y).toNat : Int) := by
  rw [IntKind.wrap_u32]; exact add_u32 x y
theorem shr_u32 (x : UInt32) (n : Nat) (h : n < 32) : (x.toNat : Int) / ((2 : Int) ^ n) = ((x >>> (UInt32.ofNat n)).toNat : Int) := by
  rw [UInt32.toNat_shiftRight, UInt32.toNat_ofNat_of_lt' (by simp [UInt32.size]; omega), Nat.mod_eq_of_lt h, Nat.shiftRight_eq_div_pow]
  norm_cast
theorem shl_u32 (x : UInt32) (n : Nat) (h : n < 32) : (x.toNat : Int) * ((2 : Int) ^ n) % 4294967296 = ((x <<< (UInt32.ofNat n)).toNat : Int) := by
  rw [UInt32.toNat_shiftLeft, UInt32.toNat_ofNat_of_lt' (by simp [UInt32.size]; omega), Nat.mod_eq_of_lt h, Nat.shiftLeft_eq]
  rw [Int.natCast_emod, Int.natCast_mul, Int.natCast_pow]; rfl
theorem u8_to_u32 (b : UInt8) : (b.toNat : Int) % 4294967296 = (b.toUInt32.toNat : Int) := by
  have := b.toNat_lt; rw [UInt8.toNat_toUInt32]; omega
theorem u32_to_u8 (x : UInt32) : (x.toNat : Int) % 256 = (x.toUInt8.toNat : Int) := by
  rw [UInt32.toNat_toUInt8]; omega
theorem lt_u32 (x : UInt32) : (x.toNat : Int) < 4294967296 := by have := x.toNat_lt; omega
theorem lt_u8 (x : UInt8) : (x.toNat : Int) < 256 := by have := x.toNat_lt; omega
theorem inj_u8 {x y : UInt8} (h : (x.toNat : Int) = (y.toNat : Int)) : x = y := UInt8.toNat.inj (by omega)
end Go.Proofs.YtnijmegalgoipaaGreatDoor
