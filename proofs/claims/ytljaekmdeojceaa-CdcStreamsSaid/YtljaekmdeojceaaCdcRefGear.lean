/- The document's gear numbers: the walk of armariumref03.Gear. -/
import Derived.Test.YtljaekmdeojceaaCdcGear2
import Derived.Outline
namespace Go.Proofs.Ytljaekmdeojceaa
open Go.RowKit Cdc
set_option maxRecDepth 100000 in
theorem RefGear_any (x : UInt8) (w : World) :
    Calls Try.prog 23 #[.int .u64 7021795034322793837, .int .u8 x.toNat] w fun e w' => e = .returned (.int .u64 (gear x.toNat).toNat) ∧ w = w' := by
  have hx : x.toNat < 256 := x.toNat_lt
  go_enter Try.func23, Try.ntmps23
  go_wp2
  go_loop [5, 6] (fun t i => ∃ k : Nat, k ≤ x.toNat + 1 ∧ i = .int .i64 k ∧ t = .int .u64 (seedAt seed k).toNat) (fun _ i => x.toNat + 1 - (intOf i).toNat)
  case atStart => exact ⟨0, by omega, rfl, rfl⟩
  case round =>
    obtain ⟨k, hk, rfl, rfl⟩ := hrel
    by_cases hlt : k ≤ x.toNat
    · have Hs : Hid (seedAt seed (k + 1) = seedAt seed k + stepC) := rfl
      generalize seedAt seed k = sd at *
      have hs := lt_u64 sd
      go_wp2
      go_round
      case rel => exact ⟨k + 1, by omega, by go_num, by rw [Hs.out, ← wadd_u64]⟩
      case measure => simp [intOf]; omega
    · have hkx : k = x.toNat + 1 := by omega
      have hdec : decide (k ≤ x.toNat) = false := by simp; omega
      have Hg : Hid (gear x.toNat = mix (seedAt seed k)) := by rw [hkx]; rfl
      clear hkx
      generalize seedAt seed k = sd at *
      clear hk hlt
      go_wp2
      go_ret
      refine ⟨?_, rfl⟩
      rw [Hg.out, ← mix_eq]
      rfl
end Go.Proofs.Ytljaekmdeojceaa
