/- Words of 32 bits as ints: what the document's sha reckons, plain. -/
import Derived.Test.YtkfngeckojobbaaDoorWords2
import Derived.Test.YtkfngeckojobbaaDoorShaPlain
namespace Go.Proofs.YtkfngeckojobbaaDoor.Sha
/-- a word turned right by bits, one by one -/
def rr (x : UInt32) : Nat → UInt32
  | 0 => x
  | n + 1 => rotr (rr x n) 1
def rotN (x n : Nat) : Nat := x / 2 ^ n + x % 2 ^ n * 2 ^ (32 - n)
theorem rotr_toNat (x : UInt32) (n : Nat) (h1 : 1 ≤ n) (h2 : n ≤ 31) : (rotr x (UInt32.ofNat n)).toNat = rotN x.toNat n := by
  have hx := x.toNat_lt
  have e1 : (32 - UInt32.ofNat n).toNat = 32 - n := by
    rw [UInt32.toNat_sub_of_le _ _ (by rw [UInt32.le_iff_toNat_le, UInt32.toNat_ofNat_of_lt' (by simp [UInt32.size]; omega)]; show n ≤ 32; omega), UInt32.toNat_ofNat_of_lt' (by simp [UInt32.size]; omega)]
    rfl
  unfold rotr rotN
  rw [UInt32.toNat_or, UInt32.toNat_shiftRight, UInt32.toNat_shiftLeft, e1, UInt32.toNat_ofNat_of_lt' (by simp [UInt32.size]; omega), Nat.mod_eq_of_lt (by omega : n < 32), Nat.mod_eq_of_lt (by omega : 32 - n < 32)]
  have hp : 2 ^ 32 = 2 ^ n * 2 ^ (32 - n) := by rw [← Nat.pow_add]; congr 1; omega
  rw [Nat.shiftRight_eq_div_pow, Nat.shiftLeft_eq, hp, Nat.mul_mod_mul_right, Nat.or_comm, ← Nat.shiftLeft_eq, ← Nat.shiftLeft_add_eq_or_of_lt]
  · rw [Nat.shiftLeft_eq, Nat.add_comm]
  · rw [Nat.div_lt_iff_lt_mul (Nat.two_pow_pos n), Nat.mul_comm, ← hp]
    exact hx
theorem rotN_step (x n : Nat) (h : n ≤ 30) : rotN (rotN x n) 1 = rotN x (n + 1) := by
  unfold rotN
  have e1 : 2 ^ (32 - n) = 2 * 2 ^ (31 - n) := by rw [← Nat.pow_succ']; congr 1; omega
  have e2 : x / 2 ^ (n + 1) = x / 2 ^ n / 2 := by rw [Nat.pow_succ, ← Nat.div_div_eq_div_mul]
  have e3 : x % 2 ^ (n + 1) = x % 2 ^ n + 2 ^ n * (x / 2 ^ n % 2) := by rw [Nat.pow_succ, Nat.mod_mul]
  have e4 : 2 ^ n * 2 ^ (31 - n) = 2147483648 := by rw [← Nat.pow_add, show n + (31 - n) = 31 by omega]
  have e5 : 32 - (n + 1) = 31 - n := by omega
  rw [e1, e2, e3, e5]
  generalize x / 2 ^ n = q
  generalize x % 2 ^ n = r
  have e6 : r * (2 * 2 ^ (31 - n)) = 2 * (r * 2 ^ (31 - n)) := by rw [Nat.mul_left_comm]
  have e7 : (r + 2 ^ n * (q % 2)) * 2 ^ (31 - n) = r * 2 ^ (31 - n) + q % 2 * 2147483648 := by
    rw [Nat.add_mul, Nat.mul_right_comm, e4, Nat.mul_comm 2147483648]
  rw [e6, e7]
  generalize r * 2 ^ (31 - n) = z
  simp only [Nat.pow_one]
  show _ + _ * 2147483648 = _
  omega
theorem rr_toNat (x : UInt32) (n : Nat) (h : n ≤ 31) : (rr x n).toNat = rotN x.toNat n := by
  induction n with
  | zero =>
    have hx := x.toNat_lt
    simp [rr, rotN, Nat.mod_one]
  | succ n ih =>
    rw [rr, show (1 : UInt32) = UInt32.ofNat 1 from rfl, rotr_toNat _ 1 (by omega) (by omega), ih (by omega), rotN_step _ _ (by omega)]
theorem rr_eq (x : UInt32) (n : Nat) (h1 : 1 ≤ n) (h : n ≤ 31) : rr x n = rotr x (UInt32.ofNat n) := UInt32.toNat_inj.1 (by rw [rr_toNat x n h, rotr_toNat x n h1 h])
theorem rot1_int (x : UInt32) : (x.toNat : Int) / 2 + (x.toNat : Int) % 2 * 2147483648 = ((rotr x 1).toNat : Int) := by
  rw [show (1 : UInt32) = UInt32.ofNat 1 from rfl, rotr_toNat x 1 (by omega) (by omega)]
  unfold rotN
  simp only [Nat.pow_one]
  have : (2 : Nat) ^ (32 - 1) = 2147483648 := rfl
  rw [this]
  omega
def mv (x : UInt32) : Nat → UInt32
  | 0 => x
  | n + 1 => mv x n >>> 1
theorem mv_toNat (x : UInt32) (n : Nat) : (mv x n).toNat = x.toNat / 2 ^ n := by
  induction n with
  | zero => simp [mv]
  | succ n ih =>
    rw [mv, UInt32.toNat_shiftRight, ih, Nat.shiftRight_eq_div_pow]
    show x.toNat / 2 ^ n / 2 ^ 1 = _
    rw [Nat.div_div_eq_div_mul, ← Nat.pow_add]
theorem mv1_int (x : UInt32) : (x.toNat : Int) / 2 = ((x >>> 1).toNat : Int) := by
  have := shr_u32 x 1 (by omega)
  simpa using this
theorem mv_eq (x : UInt32) (n : Nat) (h : n ≤ 31) : mv x n = x >>> (UInt32.ofNat n) := UInt32.toNat_inj.1 (by
  rw [mv_toNat, UInt32.toNat_shiftRight, UInt32.toNat_ofNat_of_lt' (by simp [UInt32.size]; omega), Nat.mod_eq_of_lt (by omega), Nat.shiftRight_eq_div_pow])
theorem wrapi (n : Nat) (h : n < 4294967296) : IntKind.i64.wrap (n : Int) = n := by rw [IntKind.wrap_i64]; omega
theorem bits64 (x : UInt32) : BitVec.ofInt 64 (x.toNat : Int) = x.toBitVec.setWidth 64 := by
  have := x.toNat_lt
  rw [BitVec.ofInt_natCast]; apply BitVec.eq_of_toNat_eq; simp
theorem xor_i64 (x y : UInt32) : bits .xor .i64 (x.toNat : Int) (y.toNat : Int) = ((x ^^^ y).toNat : Int) := by
  show IntKind.i64.wrap ((BitVec.ofInt 64 (x.toNat : Int) ^^^ BitVec.ofInt 64 (y.toNat : Int)).toNat : Int) = _
  rw [bits64, bits64, ← BitVec.setWidth_xor, ← UInt32.toBitVec_xor, BitVec.toNat_setWidth_of_le (by omega)]
  exact wrapi _ (x ^^^ y).toNat_lt
theorem and_i64 (x y : UInt32) : bits .and .i64 (x.toNat : Int) (y.toNat : Int) = ((x &&& y).toNat : Int) := by
  show IntKind.i64.wrap ((BitVec.ofInt 64 (x.toNat : Int) &&& BitVec.ofInt 64 (y.toNat : Int)).toNat : Int) = _
  rw [bits64, bits64, ← BitVec.setWidth_and, ← UInt32.toBitVec_and, BitVec.toNat_setWidth_of_le (by omega)]
  exact wrapi _ (x &&& y).toNat_lt
theorem not_i64 (x : UInt32) : (4294967295 : Int) - (x.toNat : Int) = ((~~~x).toNat : Int) := by
  have h := x.toNat_lt
  rw [UInt32.toNat_not]
  show (4294967295 : Int) - _ = ((2 ^ 32 - 1 - x.toNat : Nat) : Int)
  omega
theorem be_toNat (a b c d : UInt8) : (be a b c d).toNat = ((a.toNat * 256 + b.toNat) * 256 + c.toNat) * 256 + d.toNat := by
  have ha := a.toNat_lt
  have hb := b.toNat_lt
  have hc := c.toNat_lt
  have hd := d.toNat_lt
  unfold be
  simp only [UInt32.toNat_or, UInt32.toNat_shiftLeft, UInt8.toNat_toUInt32]
  have e24 : (24 : UInt32).toNat % 32 = 24 := rfl
  have e16 : (16 : UInt32).toNat % 32 = 16 := rfl
  have e8 : (8 : UInt32).toNat % 32 = 8 := rfl
  rw [e24, e16, e8]
  have f1 : a.toNat <<< 24 % 2 ^ 32 = a.toNat <<< 24 := Nat.mod_eq_of_lt (by rw [Nat.shiftLeft_eq]; omega)
  have f2 : b.toNat <<< 16 % 2 ^ 32 = b.toNat <<< 16 := Nat.mod_eq_of_lt (by rw [Nat.shiftLeft_eq]; omega)
  have f3 : c.toNat <<< 8 % 2 ^ 32 = c.toNat <<< 8 := Nat.mod_eq_of_lt (by rw [Nat.shiftLeft_eq]; omega)
  rw [f1, f2, f3]
  rw [← Nat.shiftLeft_add_eq_or_of_lt (show b.toNat <<< 16 < 2 ^ 24 by rw [Nat.shiftLeft_eq]; omega)]
  rw [show a.toNat <<< 24 + b.toNat <<< 16 = (a.toNat * 256 + b.toNat) <<< 16 by simp only [Nat.shiftLeft_eq]; omega]
  rw [← Nat.shiftLeft_add_eq_or_of_lt (show c.toNat <<< 8 < 2 ^ 16 by rw [Nat.shiftLeft_eq]; omega)]
  rw [show (a.toNat * 256 + b.toNat) <<< 16 + c.toNat <<< 8 = ((a.toNat * 256 + b.toNat) * 256 + c.toNat) <<< 8 by simp only [Nat.shiftLeft_eq]; omega]
  rw [← Nat.shiftLeft_add_eq_or_of_lt (show d.toNat < 2 ^ 8 by omega)]
  simp only [Nat.shiftLeft_eq]
theorem be_ints (a b c d : UInt8) : ∃ A1 A2 A3 A4 A5 : Int, IntKind.i64.wrap (a.toNat : Int) = a.toNat ∧ IntKind.i64.wrap (b.toNat : Int) = b.toNat ∧ IntKind.i64.wrap (c.toNat : Int) = c.toNat ∧ IntKind.i64.wrap (d.toNat : Int) = d.toNat ∧
    IntKind.i64.wrap ((a.toNat : Int) * 256) = A1 ∧ IntKind.i64.wrap (A1 + b.toNat) = A2 ∧ IntKind.i64.wrap (A2 * 256) = A3 ∧ IntKind.i64.wrap (A3 + c.toNat) = A4 ∧ IntKind.i64.wrap (A4 * 256) = A5 ∧ IntKind.i64.wrap (A5 + d.toNat) = (be a b c d).toNat := by
  have ha := a.toNat_lt
  have hb := b.toNat_lt
  have hc := c.toNat_lt
  have hd := d.toNat_lt
  have e := be_toNat a b c d
  have wi : ∀ n : Int, 0 ≤ n → n < 4294967296 → IntKind.i64.wrap n = n := fun n h0 h1 => by rw [IntKind.wrap_i64]; omega
  refine ⟨(a.toNat : Int) * 256, (a.toNat : Int) * 256 + b.toNat, ((a.toNat : Int) * 256 + b.toNat) * 256, ((a.toNat : Int) * 256 + b.toNat) * 256 + c.toNat, (((a.toNat : Int) * 256 + b.toNat) * 256 + c.toNat) * 256,
    wi _ (by omega) (by omega), wi _ (by omega) (by omega), wi _ (by omega) (by omega), wi _ (by omega) (by omega), wi _ (by omega) (by omega), wi _ (by omega) (by omega), wi _ (by omega) (by omega), wi _ (by omega) (by omega), wi _ (by omega) (by omega), ?_⟩
  rw [wi _ (by omega) (by omega), e]
  omega
theorem sum4 (a b c d : UInt32) : ∃ D1 D2 D3 : Int, IntKind.i64.wrap ((a.toNat : Int) + b.toNat) = D1 ∧ IntKind.i64.wrap (D1 + c.toNat) = D2 ∧ IntKind.i64.wrap (D2 + d.toNat) = D3 ∧ Int.tmod D3 4294967296 = ((a + b + c + d).toNat : Int) := by
  have ha := a.toNat_lt
  have hb := b.toNat_lt
  have hc := c.toNat_lt
  have hd := d.toNat_lt
  have wi : ∀ n : Int, 0 ≤ n → n < 42949672960 → IntKind.i64.wrap n = n := fun n h0 h1 => by rw [IntKind.wrap_i64]; omega
  refine ⟨(a.toNat : Int) + b.toNat, (a.toNat : Int) + b.toNat + c.toNat, (a.toNat : Int) + b.toNat + c.toNat + d.toNat, wi _ (by omega) (by omega), wi _ (by omega) (by omega), wi _ (by omega) (by omega), ?_⟩
  rw [Int.tmod_eq_emod_of_nonneg (by omega)]
  simp only [UInt32.toNat_add]
  omega
theorem sum2 (a b : UInt32) : ∃ D1 : Int, IntKind.i64.wrap ((a.toNat : Int) + b.toNat) = D1 ∧ Int.tmod D1 4294967296 = ((a + b).toNat : Int) := by
  have ha := a.toNat_lt
  have hb := b.toNat_lt
  have wi : ∀ n : Int, 0 ≤ n → n < 42949672960 → IntKind.i64.wrap n = n := fun n h0 h1 => by rw [IntKind.wrap_i64]; omega
  refine ⟨(a.toNat : Int) + b.toNat, wi _ (by omega) (by omega), ?_⟩
  rw [Int.tmod_eq_emod_of_nonneg (by omega)]
  simp only [UInt32.toNat_add]
  omega
theorem sum5 (a b c d e : UInt32) : ∃ D1 D2 D3 D4 : Int, IntKind.i64.wrap ((a.toNat : Int) + b.toNat) = D1 ∧ IntKind.i64.wrap (D1 + c.toNat) = D2 ∧ IntKind.i64.wrap (D2 + d.toNat) = D3 ∧ IntKind.i64.wrap (D3 + e.toNat) = D4 ∧ Int.tmod D4 4294967296 = ((a + b + c + d + e).toNat : Int) := by
  have ha := a.toNat_lt
  have hb := b.toNat_lt
  have hc := c.toNat_lt
  have hd := d.toNat_lt
  have he := e.toNat_lt
  have wi : ∀ n : Int, 0 ≤ n → n < 42949672960 → IntKind.i64.wrap n = n := fun n h0 h1 => by rw [IntKind.wrap_i64]; omega
  refine ⟨(a.toNat : Int) + b.toNat, (a.toNat : Int) + b.toNat + c.toNat, (a.toNat : Int) + b.toNat + c.toNat + d.toNat, (a.toNat : Int) + b.toNat + c.toNat + d.toNat + e.toNat, wi _ (by omega) (by omega), wi _ (by omega) (by omega), wi _ (by omega) (by omega), wi _ (by omega) (by omega), ?_⟩
  rw [Int.tmod_eq_emod_of_nonneg (by omega)]
  simp only [UInt32.toNat_add]
  omega
end Go.Proofs.YtkfngeckojobbaaDoor.Sha
