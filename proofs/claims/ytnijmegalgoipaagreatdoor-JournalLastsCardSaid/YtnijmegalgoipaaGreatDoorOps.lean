/- One law for each kind of operation, over what is known of the frame. -/
import Derived.Test.YtnijmegalgoipaaGreatDoorEnv
import Derived.Deep.MidRow
import Derived.IntWalk
namespace Go.Proofs.YtnijmegalgoipaaGreatDoor
open Go.RowKit

/- ---------- integers ---------- -/
section
variable {P : Program} {l : Env} {ty t t' : TypeId} {w : World} {x y : Operand} {k k' : IntKind} {m n z : Int}
theorem X.move {v : Value} (hx : ev l x = some v) : X P l (.move x) ty w v w := fun ρ hρ => by rw [← hρ _ _ hx]; rfl
theorem X.assign {v : Value} (hx : ev l x = some v) : X P l (.assign x) ty w v w := fun ρ hρ => by rw [← hρ _ _ hx]; rfl
/-- a law told by the operands' values -/
theorem X.bin {o : BinOp} {a b v : Value} (hx : ev l x = some a) (hy : ev l y = some b) (h : ∀ c d, (eqGuard o t c d a b).run P w = .ok () w) (hr : (binOp o t a b).run P w = .ok v w) : X P l (.binOp o t x y t') ty w v w := fun ρ hρ => by
  unfold execOp
  simp only [hρ _ _ hx, hρ _ _ hy, Sem.run_bind, h, Result.andThen_ok, hr, Sem.run_pure]
theorem guard_int {o : BinOp} (c d : Operand) : (eqGuard o t c d (.int k m) (.int k' n)).run P w = .ok () w := by
  unfold eqGuard
  cases o <;> simp
theorem X.add (hx : ev l x = some (.int k m)) (hy : ev l y = some (.int k n)) (hz : k.wrap (m + n) = z) : X P l (.binOp .add t x y t') ty w (.int k z) w :=
  X.bin hx hy guard_int (by simp [binOp, Op.intArith, hz])
theorem X.sub (hx : ev l x = some (.int k m)) (hy : ev l y = some (.int k n)) (hz : k.wrap (m - n) = z) : X P l (.binOp .sub t x y t') ty w (.int k z) w :=
  X.bin hx hy guard_int (by simp [binOp, Op.intArith, hz])
theorem X.mul (hx : ev l x = some (.int k m)) (hy : ev l y = some (.int k n)) (hz : k.wrap (m * n) = z) : X P l (.binOp .mul t x y t') ty w (.int k z) w :=
  X.bin hx hy guard_int (by simp [binOp, Op.intArith, hz])
theorem X.add64 (hx : ev l x = some (.int .i64 m)) (hy : ev l y = some (.int .i64 n)) (hz : -9223372036854775808 ≤ m + n ∧ m + n ≤ 9223372036854775807) : X P l (.binOp .add t x y t') ty w (.int .i64 (m + n)) w :=
  X.add hx hy (IntWalk.i64_in _ hz)
theorem X.sub64 (hx : ev l x = some (.int .i64 m)) (hy : ev l y = some (.int .i64 n)) (hz : -9223372036854775808 ≤ m - n ∧ m - n ≤ 9223372036854775807) : X P l (.binOp .sub t x y t') ty w (.int .i64 (m - n)) w :=
  X.sub hx hy (IntWalk.i64_in _ hz)
theorem X.mul64 (hx : ev l x = some (.int .i64 m)) (hy : ev l y = some (.int .i64 n)) (hz : -9223372036854775808 ≤ m * n ∧ m * n ≤ 9223372036854775807) : X P l (.binOp .mul t x y t') ty w (.int .i64 (m * n)) w :=
  X.mul hx hy (IntWalk.i64_in _ hz)
theorem X.quo (hx : ev l x = some (.int k m)) (hy : ev l y = some (.int k n)) (h0 : n ≠ 0) (hz : k.wrap (m.tdiv n) = z) : X P l (.binOp .quo t x y t') ty w (.int k z) w :=
  X.bin hx hy guard_int (by simp [binOp, Op.intDiv, h0, hz])
theorem X.rem (hx : ev l x = some (.int k m)) (hy : ev l y = some (.int k n)) (h0 : n ≠ 0) (hz : m.tmod n = z) : X P l (.binOp .rem t x y t') ty w (.int k z) w :=
  X.bin hx hy guard_int (by simp [binOp, Op.intDiv, h0, hz])
theorem X.quo64 (hx : ev l x = some (.int .i64 m)) (hy : ev l y = some (.int .i64 n)) (h0 : 0 ≤ m) (h1 : m ≤ 9223372036854775807) (hn : 0 < n) : X P l (.binOp .quo t x y t') ty w (.int .i64 (m / n)) w :=
  X.quo hx hy (by omega) (by
    rw [Int.tdiv_eq_ediv_of_nonneg h0]
    have a1 : 0 ≤ m / n := Int.ediv_nonneg h0 (by omega)
    have a2 : m / n ≤ m := Int.ediv_le_self n h0
    exact IntWalk.i64_in _ (by omega))
theorem X.rem64 (hx : ev l x = some (.int k m)) (hy : ev l y = some (.int k n)) (h0 : 0 ≤ m) (hn : 0 < n) : X P l (.binOp .rem t x y t') ty w (.int k (m % n)) w :=
  X.rem hx hy (by omega) (Int.tmod_eq_emod_of_nonneg h0)
theorem X.bits {o : BinOp} (ho : o = .and ∨ o = .or ∨ o = .xor ∨ o = .andNot) (hx : ev l x = some (.int k m)) (hy : ev l y = some (.int k n)) (hz : bits o k m n = z) : X P l (.binOp o t x y t') ty w (.int k z) w :=
  X.bin hx hy guard_int (by rcases ho with rfl | rfl | rfl | rfl <;> simp [binOp, intBits_and, intBits_or, intBits_xor, intBits_andNot, hz])
theorem X.shr {s : Nat} {q : Int} (hx : ev l x = some (.int k m)) (hy : ev l y = some (.int k' n)) (h0 : 0 ≤ n) (h1 : n ≤ k.bits) (hs : n.toNat = s) (hq : (2 : Int) ^ s = q) : X P l (.binOp .shr t x y t') ty w (.int k (m / q)) w :=
  X.bin hx hy guard_int (by simp only [binOp, shift_shr k k' m n h0 h1, hs, hq, Sem.run_pure])
theorem X.shrz {s : Nat} {q : Int} (hx : ev l x = some (.int k m)) (hy : ev l y = some (.int k' n)) (h0 : 0 ≤ n) (h1 : n ≤ k.bits) (hs : n.toNat = s) (hq : (2 : Int) ^ s = q) (hz : m / q = z) : X P l (.binOp .shr t x y t') ty w (.int k z) w := by
  subst hz
  exact X.shr hx hy h0 h1 hs hq
theorem X.shl {s : Nat} {q : Int} (hx : ev l x = some (.int k m)) (hy : ev l y = some (.int k' n)) (h0 : 0 ≤ n) (h1 : n ≤ k.bits) (hs : n.toNat = s) (hq : (2 : Int) ^ s = q) (hz : k.wrap (m * q) = z) : X P l (.binOp .shl t x y t') ty w (.int k z) w :=
  X.bin hx hy guard_int (by simp only [binOp, shift_shl k k' m n h0 h1, hs, hq, hz, Sem.run_pure])
theorem X.lss (hx : ev l x = some (.int k m)) (hy : ev l y = some (.int k n)) : X P l (.binOp .lss t x y t') ty w (.bool (decide (m < n))) w :=
  X.bin hx hy guard_int (by simp [binOp, Op.intCmp])
theorem X.leq (hx : ev l x = some (.int k m)) (hy : ev l y = some (.int k n)) : X P l (.binOp .leq t x y t') ty w (.bool (decide (m ≤ n))) w :=
  X.bin hx hy guard_int (by simp [binOp, Op.intCmp])
theorem X.gtr (hx : ev l x = some (.int k m)) (hy : ev l y = some (.int k n)) : X P l (.binOp .gtr t x y t') ty w (.bool (decide (n < m))) w :=
  X.bin hx hy guard_int (by simp [binOp, Op.intCmp])
theorem X.geq (hx : ev l x = some (.int k m)) (hy : ev l y = some (.int k n)) : X P l (.binOp .geq t x y t') ty w (.bool (decide (n ≤ m))) w :=
  X.bin hx hy guard_int (by simp [binOp, Op.intCmp])
theorem X.eql (hx : ev l x = some (.int k m)) (hy : ev l y = some (.int k n)) : X P l (.binOp .eql t x y t') ty w (.bool (decide (m = n))) w :=
  X.bin hx hy guard_int (by
    have : (m == n) = decide (m = n) := by rw [Bool.eq_iff_iff]; simp
    simp [binOp, Op.intCmp, this])
theorem X.neq (hx : ev l x = some (.int k m)) (hy : ev l y = some (.int k n)) : X P l (.binOp .neq t x y t') ty w (.bool (decide (m ≠ n))) w :=
  X.bin hx hy guard_int (by
    have : (m != n) = decide (m ≠ n) := by rw [Bool.eq_iff_iff]; simp
    simp only [binOp, Op.intCmp, this]
    simp)
theorem X.not {b : Bool} (hx : ev l x = some (.bool b)) : X P l (.unOp .not t x) ty w (.bool (!b)) w := fun ρ hρ => by
  unfold execOp
  simp only [hρ _ _ hx, Op.unary, Sem.run_bind, Sem.run_pure, Result.andThen_ok]
theorem X.neg (hx : ev l x = some (.int k m)) (hz : k.wrap (0 - m) = z) : X P l (.unOp .neg t x) ty w (.int k z) w := fun ρ hρ => by
  unfold execOp
  simp only [hρ _ _ hx, Op.unary, Op.intArith, hz, Sem.run_bind, Sem.run_pure, Result.andThen_ok]
theorem X.convI {src dst : TypeId} {s : TypeDesc} (hx : ev l x = some (.int k m)) (hs : P.underlying src = some s) (hd : P.underlying dst = some (.int k')) (hz : k'.wrap m = z) : X P l (.convert src dst x) ty w (.int k' z) w := fun ρ hρ => by
  unfold execOp
  simp [hρ _ _ hx, convert, run_underlying hs, run_underlying hd, Conv.intToInt, hz]
theorem X.pickT {b c : Operand} {v : Value} (hx : ev l x = some (.bool true)) (hb : ev l b = some v) : X P l (.pick x b c) ty w v w := fun ρ hρ => by
  unfold execOp
  simp [hρ _ _ hx, hρ _ _ hb, asBool]
theorem X.pickF {b c : Operand} {v : Value} (hx : ev l x = some (.bool false)) (hc : ev l c = some v) : X P l (.pick x b c) ty w v w := fun ρ hρ => by
  unfold execOp
  simp [hρ _ _ hx, hρ _ _ hc, asBool]
/-- 'a || b' of two known bools, 'a && b' -/
theorem X.pickOr {c : Operand} {a b : Bool} (hx : ev l x = some (.bool a)) (hc : ev l c = some (.bool b)) : X P l (.pick x (.const (.bool true)) c) ty w (.bool (a || b)) w := fun ρ hρ => by
  have h1 := hρ (.const (.bool true)) _ rfl
  unfold execOp
  cases a <;> simp [hρ _ _ hx, hρ _ _ hc, asBool, h1]
theorem X.ext {vs : Array Value} {i : Nat} {v : Value} (hx : ev l x = some (.tuple vs)) (hi : vs.toList[i]? = some v) : X P l (.extract x i) ty w v w := fun ρ hρ => by
  rw [Array.getElem?_toList] at hi
  unfold execOp
  simp [hρ _ _ hx, Instr.extract, hi]
theorem X.nilChk {a : Addr} (hx : ev l x = some (.pointer (some a))) : X P l (.nilCheck x) ty w (.pointer (some a)) w := fun ρ hρ => by
  unfold execOp
  simp [hρ _ _ hx]
theorem X.mkI {v : Value} {r : Value} (hx : ev l x = some v) (hr : (Instr.makeInterface t v).run P w = .ok r w) : X P l (.makeInterface t x) ty w r w := fun ρ hρ => by
  unfold execOp
  simp [hρ _ _ hx, hr]
theorem X.beq {o : BinOp} {a b c : Bool} (ho : o = .eql ∧ c = (a == b) ∨ o = .neq ∧ c = (a != b)) (hu : P.underlying t = some .bool) (hx : ev l x = some (.bool a)) (hy : ev l y = some (.bool b)) : X P l (.binOp o t x y t') ty w (.bool c) w :=
  X.bin hx hy (fun c d => by unfold eqGuard; rcases ho with ⟨rfl, _⟩ | ⟨rfl, _⟩ <;> simp) (by
    rcases ho with ⟨rfl, rfl⟩ | ⟨rfl, rfl⟩
    · simp [binOp, Op.equal, Op.maxDepth, run_equalIn_bool' w 9999 t a b hu]
    · simp [binOp, Op.equal, Op.maxDepth, run_equalIn_bool' w 9999 t a b hu, bne])
end
theorem w64 {m : Int} (h : -9223372036854775808 ≤ m ∧ m ≤ 9223372036854775807) : IntKind.i64.wrap m = m := IntWalk.i64_in _ h
theorem w8 (m : Int) : IntKind.u8.wrap m = m % 256 := by rw [IntKind.wrap_u8]
theorem w32 (m : Int) : IntKind.u32.wrap m = m % 4294967296 := by rw [IntKind.wrap_u32]
theorem wu64 (m : Int) : IntKind.u64.wrap m = m % 18446744073709551616 := by rw [IntKind.wrap_u64]

/- ---------- strings, as lists of bytes ---------- -/
def str (s : List UInt8) : Value := .string ⟨s.toArray⟩
theorem str_eq (s : ByteArray) : Value.string s = str s.data.toList := rfl
theorem str_inj {a b : List UInt8} (h : str a = str b) : a = b := by
  unfold str at h
  injection h with h
  injection h with h
  have := congrArg Array.toList h
  simpa using this
section
variable {P : Program} {l : Env} {ty t t' : TypeId} {w : World} {x y : Operand} {k k' : IntKind} {m n z : Int} {s a b : List UInt8}
theorem X.lenS {ats : Array TypeId} (hx : ev l x = some (str s)) (ht : ats = #[t]) (hu : P.underlying t = some .string) : X P l (.call { callee := .builtin .len, args := #[x], argTypes := ats }) ty w (.int .i64 s.length) w := fun ρ hρ => by
  subst ht
  unfold execOp
  simp [resolve, invoke, builtin, Builtin.len_, hρ _ _ hx, run_underlying hu, str]
  rfl
theorem X.lenL {ats : Array TypeId} {ad : Option Addr} {q c : Nat} {e : TypeId} (hx : ev l x = some (.slice ad q c)) (ht : ats = #[t]) (hu : P.underlying t = some (.slice e)) : X P l (.call { callee := .builtin .len, args := #[x], argTypes := ats }) ty w (.int .i64 q) w := fun ρ hρ => by
  subst ht
  unfold execOp
  simp [resolve, invoke, builtin, Builtin.len_, hρ _ _ hx, run_underlying hu, goInt]
theorem X.idxS {q : Nat} (hx : ev l x = some (str s)) (hy : ev l y = some (.int k m)) (hu : P.underlying t = some .string) (hm : m = (q : Int)) (hq : q < s.length) : X P l (.index t x y) ty w (bv (s.getD q 0)) w := fun ρ hρ => by
  subst hm
  unfold execOp
  simp only [hρ _ _ hx, hρ _ _ hy, str, run_index_string (P := P) w t ⟨s.toArray⟩ k q hu, Sem.run_bind]
  have h1 : (0 : Int) ≤ (q : Int) ∧ (q : Int) < ((⟨s.toArray⟩ : ByteArray).size : Int) := ⟨by omega, by show (q : Int) < (s.length : Int); omega⟩
  rw [dif_pos h1]
  simp only [Result.andThen_ok, Sem.run_pure, Int.toNat_natCast]
  have e : (⟨s.toArray⟩ : ByteArray)[q]'(by show q < s.length; exact hq) = s.getD q 0 := by
    rw [List.getD_eq_getElem?_getD, List.getElem?_eq_getElem hq]; rfl
  rw [e]; rfl
theorem extract_list (s : List UInt8) (i j : Nat) : Value.string ((⟨s.toArray⟩ : ByteArray).extract i j) = str ((s.take j).drop i) := by
  unfold str
  congr 1
  apply ByteArray.ext
  rw [ByteArray.data_extract]
  apply Array.ext'
  rw [Array.toList_extract]
  simp [List.extract, List.drop_take]
/-- s[:j] -/
theorem X.toS {j : Nat} (hx : ev l x = some (str s)) (hy : ev l y = some (.int k m)) (hu : P.underlying t = some .string) (hm : m = (j : Int)) (hj : j ≤ s.length) : X P l (.slice t x none (some y) none) ty w (str (s.take j)) w := fun ρ hρ => by
  subst hm
  unfold execOp
  have := run_slice_string_h (P := P) w t ⟨s.toArray⟩ hu k j (by omega) (by show (j : Int) ≤ (s.length : Int); omega)
  simp [hρ _ _ hx, hρ _ _ hy, Instr.sliceAt, run_underlying hu]
  simp only [str] at *
  simp [this, extract_list, str]
/-- s[i:] -/
theorem X.fromS {i : Nat} (hx : ev l x = some (str s)) (hy : ev l y = some (.int k m)) (hu : P.underlying t = some .string) (hm : m = (i : Int)) (hi : i ≤ s.length) : X P l (.slice t x (some y) none none) ty w (str (s.drop i)) w := fun ρ hρ => by
  subst hm
  unfold execOp
  have := run_slice_string_l (P := P) w t ⟨s.toArray⟩ hu k i (by omega) (by show (i : Int) ≤ (s.length : Int); omega)
  simp [hρ _ _ hx, hρ _ _ hy, Instr.sliceAt, run_underlying hu]
  simp only [str] at *
  have e : (⟨s.toArray⟩ : ByteArray).size = s.length := rfl
  simp [this, extract_list, str, e]
/-- s[i:j] -/
theorem X.cutS {x1 x2 : Operand} {i j : Nat} (hx : ev l x = some (str s)) (h1 : ev l x1 = some (.int k m)) (h2 : ev l x2 = some (.int k' n)) (hu : P.underlying t = some .string) (hm : m = (i : Int)) (hn : n = (j : Int)) (hi : i ≤ j) (hj : j ≤ s.length) : X P l (.slice t x (some x1) (some x2) none) ty w (str ((s.take j).drop i)) w := fun ρ hρ => by
  subst hm hn
  unfold execOp
  have := run_slice_string (P := P) w t ⟨s.toArray⟩ k k' i j hu (by omega) (by omega) (by show (j : Int) ≤ (s.length : Int); omega)
  simp [hρ _ _ hx, hρ _ _ h1, hρ _ _ h2, Instr.sliceAt, run_underlying hu]
  simp only [str] at *
  simp [this, extract_list, str]
theorem guard_str {o : BinOp} {a b : ByteArray} (c d : Operand) : (eqGuard o t c d (.string a) (.string b)).run P w = .ok () w := by
  unfold eqGuard
  cases o <;> simp
theorem X.cat (hx : ev l x = some (str a)) (hy : ev l y = some (str b)) (h : a.length + b.length ≤ 9223372036854775807) : X P l (.binOp .add t x y t') ty w (str (a ++ b)) w :=
  X.bin hx hy guard_str (by
    have e : ¬ (((⟨a.toArray⟩ : ByteArray).size + (⟨b.toArray⟩ : ByteArray).size : Nat) : Int) > IntKind.i64.max := by
      show ¬ ((a.length + b.length : Nat) : Int) > IntKind.i64.max
      simp [IntKind.max, IntKind.bits, IntKind.signed]
      omega
    have e2 : (⟨a.toArray⟩ : ByteArray) ++ ⟨b.toArray⟩ = ⟨(a ++ b).toArray⟩ := by apply ByteArray.ext; simp
    simp only [binOp, str, Op.stringOp]
    rw [if_neg e, e2]
    rfl)
theorem bytes_toList (a : List UInt8) : (⟨a.toArray⟩ : ByteArray).toList = a := by
  rw [ByteArray.toList_eq]
theorem X.eqS (hx : ev l x = some (str a)) (hy : ev l y = some (str b)) : X P l (.binOp .eql t x y t') ty w (.bool (decide (a = b))) w :=
  X.bin hx hy guard_str (by
    have : (a == b) = decide (a = b) := by rw [Bool.eq_iff_iff]; simp
    simp only [binOp, str, Op.stringOp, bytes_toList, this, Sem.run_pure])
theorem X.neS (hx : ev l x = some (str a)) (hy : ev l y = some (str b)) : X P l (.binOp .neq t x y t') ty w (.bool (decide (a ≠ b))) w :=
  X.bin hx hy guard_str (by
    have : (!(a == b)) = decide (a ≠ b) := by rw [Bool.eq_iff_iff]; simp
    simp only [binOp, str, Op.stringOp, bytes_toList, this, Sem.run_pure])
theorem X.ltS (hx : ev l x = some (str a)) (hy : ev l y = some (str b)) : X P l (.binOp .lss t x y t') ty w (.bool (Op.bytesLess a b)) w :=
  X.bin hx hy guard_str (by simp only [binOp, str, Op.stringOp, bytes_toList, Sem.run_pure])
theorem X.gtS (hx : ev l x = some (str a)) (hy : ev l y = some (str b)) : X P l (.binOp .gtr t x y t') ty w (.bool !(Op.bytesLess a b || a == b)) w :=
  X.bin hx hy guard_str (by simp only [binOp, str, Op.stringOp, bytes_toList, Sem.run_pure])
theorem X.geS (hx : ev l x = some (str a)) (hy : ev l y = some (str b)) : X P l (.binOp .geq t x y t') ty w (.bool !(Op.bytesLess a b)) w :=
  X.bin hx hy guard_str (by simp only [binOp, str, Op.stringOp, bytes_toList, Sem.run_pure])
end
end Go.Proofs.YtnijmegalgoipaaGreatDoor
