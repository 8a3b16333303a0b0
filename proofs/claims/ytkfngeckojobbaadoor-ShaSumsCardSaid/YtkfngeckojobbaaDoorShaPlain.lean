/- Plain SHA-256 over machine words: what the program's functions compute, with no program in sight. -/
import Derived.Below
namespace Go.Proofs.YtkfngeckojobbaaDoor.Sha

def rotr (x n : UInt32) : UInt32 := (x >>> n) ||| (x <<< (32 - n))
def s0 (x : UInt32) : UInt32 := rotr x 7 ^^^ rotr x 18 ^^^ (x >>> 3)
def s1 (x : UInt32) : UInt32 := rotr x 17 ^^^ rotr x 19 ^^^ (x >>> 10)
/-- four bytes as a word -/
def be (a b c d : UInt8) : UInt32 := ((a.toUInt32 <<< 24 ||| b.toUInt32 <<< 16) ||| c.toUInt32 <<< 8) ||| d.toUInt32
def wordAt (s : List UInt8) (t : Nat) : UInt32 := be (s.getD (4 * t) 0) (s.getD (4 * t + 1) 0) (s.getD (4 * t + 2) 0) (s.getD (4 * t + 3) 0)
def wordsTo (s : List UInt8) : Nat → List UInt32
  | 0 => []
  | t + 1 => wordsTo s t ++ [wordAt s t]
def ext (l : List UInt32) (t : Nat) : UInt32 := s1 (l.getD (t - 2) 0) + l.getD (t - 7) 0 + s0 (l.getD (t - 15) 0) + l.getD (t - 16) 0
def extTo (l : List UInt32) : Nat → List UInt32
  | 0 => l
  | j + 1 => extTo l j ++ [ext (extTo l j) (16 + j)]

structure St where
  a : UInt32
  b : UInt32
  c : UInt32
  d : UInt32
  e : UInt32
  f : UInt32
  g : UInt32
  h : UInt32

def kTab : List UInt32 := [
  0x428a2f98, 0x71374491, 0xb5c0fbcf, 0xe9b5dba5, 0x3956c25b, 0x59f111f1, 0x923f82a4, 0xab1c5ed5,
  0xd807aa98, 0x12835b01, 0x243185be, 0x550c7dc3, 0x72be5d74, 0x80deb1fe, 0x9bdc06a7, 0xc19bf174,
  0xe49b69c1, 0xefbe4786, 0x0fc19dc6, 0x240ca1cc, 0x2de92c6f, 0x4a7484aa, 0x5cb0a9dc, 0x76f988da,
  0x983e5152, 0xa831c66d, 0xb00327c8, 0xbf597fc7, 0xc6e00bf3, 0xd5a79147, 0x06ca6351, 0x14292967,
  0x27b70a85, 0x2e1b2138, 0x4d2c6dfc, 0x53380d13, 0x650a7354, 0x766a0abb, 0x81c2c92e, 0x92722c85,
  0xa2bfe8a1, 0xa81a664b, 0xc24b8b70, 0xc76c51a3, 0xd192e819, 0xd6990624, 0xf40e3585, 0x106aa070,
  0x19a4c116, 0x1e376c08, 0x2748774c, 0x34b0bcb5, 0x391c0cb3, 0x4ed8aa4a, 0x5b9cca4f, 0x682e6ff3,
  0x748f82ee, 0x78a5636f, 0x84c87814, 0x8cc70208, 0x90befffa, 0xa4506ceb, 0xbef9a3f7, 0xc67178f2]
def begin_ : St := ⟨0x6a09e667, 0xbb67ae85, 0x3c6ef372, 0xa54ff53a, 0x510e527f, 0x9b05688c, 0x1f83d9ab, 0x5be0cd19⟩

def t1 (v : St) (k w : UInt32) : UInt32 := v.h + (rotr v.e 6 ^^^ rotr v.e 11 ^^^ rotr v.e 25) + ((v.e &&& v.f) ^^^ (~~~v.e &&& v.g)) + k + w
def t2 (v : St) : UInt32 := (rotr v.a 2 ^^^ rotr v.a 13 ^^^ rotr v.a 22) + ((v.a &&& v.b) ^^^ (v.a &&& v.c) ^^^ (v.b &&& v.c))
def round (v : St) (k w : UInt32) : St := ⟨t1 v k w + t2 v, v.a, v.b, v.c, v.d + t1 v k w, v.e, v.f, v.g⟩
def roundsTo (ws : List UInt32) (v : St) : Nat → St
  | 0 => v
  | t + 1 => round (roundsTo ws v t) (kTab.getD t 0) (ws.getD t 0)
def addSt (x y : St) : St := ⟨x.a + y.a, x.b + y.b, x.c + y.c, x.d + y.d, x.e + y.e, x.f + y.f, x.g + y.g, x.h + y.h⟩
def sched (s : List UInt8) : List UInt32 := extTo (wordsTo s 16) 48
def block (v : St) (s : List UInt8) : St := addSt v (roundsTo (sched s) v 64)

def absorbN : Nat → St → List UInt8 → St × List UInt8
  | 0, v, l => (v, l)
  | n + 1, v, l => absorbN n (block v (l.take 64)) (l.drop 64)
/-- whole blocks are taken; what is left stays -/
def absorb (v : St) (l : List UInt8) : St × List UInt8 := absorbN (l.length / 64) v l

def zeros (len : Nat) : Nat := (119 - len % 64) % 64
def lenByte (n i : Nat) : UInt8 := UInt8.ofNat (n * 8 / 2 ^ (8 * i))
/-- the bytes of the length: the first j of the eight -/
def lenTo (n : Nat) : Nat → List UInt8
  | 0 => []
  | j + 1 => lenTo n j ++ [lenByte n (7 - j)]
def pad (len n : Nat) : List UInt8 := 128 :: (List.replicate (zeros len) 0 ++ lenTo n 8)
def wordBytes (x : UInt32) : List UInt8 := [(x >>> 24).toUInt8, (x >>> 16).toUInt8, (x >>> 8).toUInt8, x.toUInt8]
def St.words (v : St) : List UInt32 := [v.a, v.b, v.c, v.d, v.e, v.f, v.g, v.h]
def St.bytes (v : St) : List UInt8 := v.words.flatMap wordBytes
def sumOf (v : St) (rest : List UInt8) (n : Nat) : List UInt8 := (absorb v (rest ++ pad rest.length n)).1.bytes
/-- the address of bytes -/
def sha (m : List UInt8) : List UInt8 := sumOf (absorb begin_ m).1 (absorb begin_ m).2 m.length

def hexD (n : UInt8) : UInt8 := if n < 10 then 48 + n else 87 + n
def hex (l : List UInt8) : List UInt8 := l.flatMap fun (b : UInt8) => [hexD (b >>> 4), hexD (b &&& 15)]

theorem absorb_end (v : St) (l : List UInt8) (h : l.length < 64) : absorb v l = (v, l) := by
  unfold absorb
  rw [show l.length / 64 = 0 from by omega]
  rfl
theorem absorb_step (v : St) (l : List UInt8) (h : 64 ≤ l.length) : absorb v l = absorb (block v (l.take 64)) (l.drop 64) := by
  unfold absorb
  rw [show l.length / 64 = (l.drop 64).length / 64 + 1 from by rw [List.length_drop]; omega]
  rfl
theorem absorbN_length (n : Nat) : ∀ (v : St) (l : List UInt8), (absorbN n v l).2.length = l.length - 64 * n := by
  induction n with
  | zero => intro v l; rfl
  | succ n ih => intro v l; simp only [absorbN]; rw [ih, List.length_drop]; omega
theorem absorb_length (v : St) (l : List UInt8) : (absorb v l).2.length = l.length % 64 := by
  unfold absorb
  rw [absorbN_length]
  omega
/-- bytes may be taken in parts -/
theorem absorb_append (n : Nat) : ∀ (v : St) (l s : List UInt8), l.length / 64 = n → absorb (absorb v l).1 ((absorb v l).2 ++ s) = absorb v (l ++ s) := by
  induction n with
  | zero =>
    intro v l s h
    rw [absorb_end v l (by omega)]
  | succ n ih =>
    intro v l s h
    have hl : 64 ≤ l.length := by omega
    rw [absorb_step v l hl, ih _ _ _ (by rw [List.length_drop]; omega), absorb_step v (l ++ s) (by rw [List.length_append]; omega)]
    rw [List.take_append_of_le_length hl, List.drop_append_of_le_length hl]
theorem absorb_parts (v : St) (l s : List UInt8) : absorb (absorb v l).1 ((absorb v l).2 ++ s) = absorb v (l ++ s) := absorb_append _ v l s rfl

theorem awake_abc : hex (sha [97, 98, 99]) = [98,97,55,56,49,54,98,102,56,102,48,49,99,102,101,97,52,49,52,49,52,48,100,101,53,100,97,101,50,50,50,51,98,48,48,51,54,49,97,51,57,54,49,55,55,97,57,99,98,52,49,48,102,102,54,49,102,50,48,48,49,53,97,100] := by decide +kernel
theorem awake_none : hex (sha []) = [101,51,98,48,99,52,52,50,57,56,102,99,49,99,49,52,57,97,102,98,102,52,99,56,57,57,54,102,98,57,50,52,50,55,97,101,52,49,101,52,54,52,57,98,57,51,52,99,97,52,57,53,57,57,49,98,55,56,53,50,98,56,53,53] := by decide +kernel
end Go.Proofs.YtkfngeckojobbaaDoor.Sha
