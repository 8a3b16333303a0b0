/- Bytes of numbers. -/
import Derived.Test.YtnijmegalgoipaaGreatDoorTypes
import Derived.Test.YtnijmegalgoipaaGreatDoorEnvD
namespace Go.Proofs.YtnijmegalgoipaaGreatDoor
/-- byte(n) -/
def byteI (n : Int) : UInt8 := UInt8.ofNat (n % 256).toNat
theorem byteI_toNat (n : Int) : ((byteI n).toNat : Int) = n % 256 := by
  unfold byteI
  rw [UInt8.toNat_ofNat_of_lt' (by have := Int.emod_lt_of_pos n (show (0 : Int) < 256 by decide); have := Int.emod_nonneg n (show (256 : Int) ≠ 0 by decide); simp [UInt8.size]; omega)]
  have := Int.emod_nonneg n (show (256 : Int) ≠ 0 by decide)
  omega
theorem wb (n : Int) : IntKind.u8.wrap n = ((byteI n).toNat : Int) := by rw [w8, byteI_toNat]
/-- a number's four bytes, the low ones first -/
def four (n : Int) : List UInt8 := [byteI n, byteI (n / 256), byteI (n / 65536), byteI (n / 16777216)]
theorem four_length (n : Int) : (four n).length = 4 := rfl
/-- the number of four bytes -/
def num4 (a b c d : UInt8) : Nat := a.toNat + 256 * b.toNat + 65536 * c.toNat + 16777216 * d.toNat
theorem num4_lt (a b c d : UInt8) : num4 a b c d < 4294967296 := by
  have := a.toNat_lt; have := b.toNat_lt; have := c.toNat_lt; have := d.toNat_lt
  unfold num4; omega
theorem byteI_nat (n : Nat) : (byteI (n : Int)).toNat = n % 256 := by have := byteI_toNat n; omega
theorem byteI_of (b : UInt8) : byteI (b.toNat : Int) = b := by
  apply UInt8.toNat.inj
  have := byteI_nat b.toNat
  have := b.toNat_lt
  omega
theorem four_num4 (a b c d : UInt8) : four (num4 a b c d : Int) = [a, b, c, d] := by
  have ha := a.toNat_lt; have hb := b.toNat_lt; have hc := c.toNat_lt; have hd := d.toNat_lt
  have e : ∀ (x : UInt8) (m : Int), m % 256 = x.toNat → byteI m = x := fun x m h => by
    apply UInt8.toNat.inj
    have := byteI_toNat m
    omega
  unfold four num4
  rw [e a _ (by omega), e b _ (by omega), e c _ (by omega), e d _ (by omega)]
theorem num4_four (n : Nat) (h : n < 4294967296) : num4 (byteI n) (byteI ((n : Int) / 256)) (byteI ((n : Int) / 65536)) (byteI ((n : Int) / 16777216)) = n := by
  have h0 := byteI_toNat n
  have h1 := byteI_toNat ((n : Int) / 256)
  have h2 := byteI_toNat ((n : Int) / 65536)
  have h3 := byteI_toNat ((n : Int) / 16777216)
  unfold num4
  omega
theorem four_inj {m n : Nat} (hm : m < 4294967296) (hn : n < 4294967296) (h : four m = four n) : m = n := by
  have h1 := num4_four m hm
  have h2 := num4_four n hn
  unfold four at h
  injection h with a h
  injection h with b h
  injection h with c h
  injection h with d _
  rw [a, b, c, d] at h1
  omega
end Go.Proofs.YtnijmegalgoipaaGreatDoor
