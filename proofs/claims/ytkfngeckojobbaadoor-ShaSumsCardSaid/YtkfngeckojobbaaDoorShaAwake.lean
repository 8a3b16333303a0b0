/- The chapter's examples: awake of the law package answers true. -/
import Derived.Test.YtkfngeckojobbaaDoorShaHex
namespace Go.Proofs.YtkfngeckojobbaaDoor
open Go.RowKit Sha

theorem noTab_none : NoTab (fun _ => False) := ⟨fun f => f, fun f => f⟩
theorem awake_x : ∃ X : ByteArray, ByteArray.mk (hex (sha (ByteArray.mk #[97, 98, 99]).data.toList)).toArray = X ∧ X.size = 64 ∧ ((X.extract 0 16).toList == [98, 97, 55, 56, 49, 54, 98, 102, 56, 102, 48, 49, 99, 102, 101, 97]) = true ∧ ((X.extract 56 64).toList == [102, 50, 48, 48, 49, 53, 97, 100]) = true := by
  refine ⟨_, rfl, ?_, ?_, ?_⟩
  all_goals
    show _ = _
    have e1 : hex (sha (ByteArray.mk #[97, 98, 99]).data.toList) = _ := awake_abc
    rw [e1]
    decide +kernel
set_option maxHeartbeats 1000000 in
theorem awake_any (w : World) (hT : ShaTabs w) :
    Calls Tryd.prog 9 #[] w fun e w' => e = .returned (.bool true) ∧ Below w.heap.size w w' := by
  have HT := Lib.hid hT; clear hT
  go_enter Tryd.func9, Tryd.ntmps9
  go_wp2_with fail
  ((with_reducible refine (Of_any _ _ HT.out (by decide)).mono ?_); rintro e w1 ⟨rfl, hb1⟩)
  go_wp2_with fail
  ((with_reducible refine (Print_any _ (sha_length _) _).mono ?_); rintro e w2 ⟨rfl, hb2⟩)
  obtain ⟨X, hX, hX1, hX2, hX3⟩ := awake_x
  rw [hX]
  clear hX
  have hT2 : ShaTabs w2 := (HT.out.belowAll hb1).belowAll hb2
  go_wp2_with fail
  ((with_reducible refine (Of_any _ _ hT2 (by decide)).mono ?_); rintro e w3 ⟨rfl, hb3⟩)
  go_wp2_with fail
  ((with_reducible refine (Print_any _ (sha_length _) _).mono ?_); rintro e w4 ⟨rfl, hb4⟩)
  have e1 : hex (sha (ByteArray.mk #[]).data.toList) = _ := awake_none
  rw [e1]
  clear e1
  go_wp2_with fail
  go_ret
  exact ⟨rfl, below_then (below_then (below_then hb1 hb2 (Nat.le_refl _)) hb3 (Nat.le_refl _)) hb4 (Nat.le_refl _)⟩
end Go.Proofs.YtkfngeckojobbaaDoor
