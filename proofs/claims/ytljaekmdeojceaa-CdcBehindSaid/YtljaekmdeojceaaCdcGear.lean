/- What sums.Gear computes: walks. -/
import Derived.Test.YtljaekmdeojceaaChecked
import Derived.Test.YtljaekmdeojceaaMem2
import Derived.Test.YtljaekmdeojceaaWords2
import Derived.Test.YtljaekmdeojceaaCdcPlain
import Derived.WalkKit
import Derived.Lib.Hide
import Derived.WalkLawsBesides
import Derived.WalkSpells
import Derived.BigQuiet
import Derived.Deep.QuietTactic
import Derived.Deep.LoopGhost
import Derived.Deep.DeepMust
namespace Go.Proofs.Ytljaekmdeojceaa
open Go.RowKit Cdc
theorem wadd_u64 (s : UInt64) : IntKind.u64.wrap ((s.toNat : Int) + 11400714819323198485) = ((s + stepC).toNat : Int) := by
  rw [IntKind.wrap_u64]; exact add_u64 s stepC
theorem wmul1_u64 (s : UInt64) : IntKind.u64.wrap ((s.toNat : Int) * 13787848793156543929) = ((s * 0xbf58476d1ce4e5b9).toNat : Int) := by
  rw [IntKind.wrap_u64]; exact mul_u64 s 0xbf58476d1ce4e5b9
theorem wmul2_u64 (s : UInt64) : IntKind.u64.wrap ((s.toNat : Int) * 10723151780598845931) = ((s * 0x94d049bb133111eb).toNat : Int) := by
  rw [IntKind.wrap_u64]; exact mul_u64 s 0x94d049bb133111eb
theorem s30_u64 (s : UInt64) : (s.toNat : Int) / (1073741824 : Int) = ((s >>> 30).toNat : Int) := shr_u64 s 30 (by omega)
theorem s27_u64 (s : UInt64) : (s.toNat : Int) / (134217728 : Int) = ((s >>> 27).toNat : Int) := shr_u64 s 27 (by omega)
theorem s31_u64 (s : UInt64) : (s.toNat : Int) / (2147483648 : Int) = ((s >>> 31).toNat : Int) := shr_u64 s 31 (by omega)
theorem mix_eq (y : UInt64) : bits BinOp.xor IntKind.u64
    (IntKind.u64.wrap (bits BinOp.xor IntKind.u64 (IntKind.u64.wrap (bits BinOp.xor IntKind.u64 (y.toNat : Int) ((y.toNat : Int) / 1073741824) * 13787848793156543929)) (IntKind.u64.wrap (bits BinOp.xor IntKind.u64 (y.toNat : Int) ((y.toNat : Int) / 1073741824) * 13787848793156543929) / 134217728) * 10723151780598845931))
    (IntKind.u64.wrap (bits BinOp.xor IntKind.u64 (IntKind.u64.wrap (bits BinOp.xor IntKind.u64 (y.toNat : Int) ((y.toNat : Int) / 1073741824) * 13787848793156543929)) (IntKind.u64.wrap (bits BinOp.xor IntKind.u64 (y.toNat : Int) ((y.toNat : Int) / 1073741824) * 13787848793156543929) / 134217728) * 10723151780598845931) / 2147483648)
    = ((mix y).toNat : Int) := by
  rw [s30_u64, xor_u64, wmul1_u64, s27_u64, xor_u64, wmul2_u64, s31_u64, xor_u64]
  rfl
set_option maxRecDepth 100000 in
theorem Gear1_any (g : Nat) (s : UInt64) (w : World) (hc : w.cell? ⟨g, 0, none⟩ = some (.int .u64 s.toNat)) (hf : w.frozen? ⟨g, 0, none⟩ = false) :
    Calls Try.prog 25 #[.pointer (some ⟨g, 0, none⟩)] w fun e w' => e = .returned (.int .u64 (mix (s + stepC)).toNat) ∧ w.setCell ⟨g, 0, none⟩ (.int .u64 (s + stepC).toNat) = w' := by
  have hs := lt_u64 s
  go_enter Try.func25, Try.ntmps25
  go_wp2
  go_ret
  refine ⟨?_, by rw [wadd_u64]⟩
  rw [← mix_eq, ← wadd_u64]
  rfl
end Go.Proofs.Ytljaekmdeojceaa
