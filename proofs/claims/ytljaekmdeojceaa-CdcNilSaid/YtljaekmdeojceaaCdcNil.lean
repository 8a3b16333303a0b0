/- CdcNil: a nil cutter. -/
import Derived.Test.YtljaekmdeojceaaCdcAwake
namespace Go.Proofs.Ytljaekmdeojceaa
open Go.RowKit Cdc
set_option maxRecDepth 100000 in
theorem CdcNil_walk (w : World) (s : ByteArray) (hs : s.size ≤ maxLen) :
    Calls Try.prog 8 #[.string s] w fun e w' => e = .returned (.bool true) ∧ Below w.heap.size w w' := by
  unfold maxLen at hs
  by_cases h : s.size ≤ 2000
  · have hd : decide ((2000 : Int) < (s.size : Int)) = false := by simp; omega
    go_enter Try.func8, Try.ntmps8
    go_wp2_with (first
      | (go_at_call 16; (with_reducible refine (Write_nil s _).mono ?_); rintro e w1 ⟨rfl, rfl⟩)
      | (go_at_call 17; (with_reducible refine (Close_nil _).mono ?_); rintro e w1 ⟨rfl, rfl⟩)
      | (go_at_call 19; (with_reducible refine (Waits_nil _).mono ?_); rintro e w1 ⟨rfl, rfl⟩)
      | (go_at_call 9; (with_reducible refine (awake_any _).mono ?_); rintro e w1 ⟨rfl, hb⟩))
    go_ret
    exact ⟨rfl, hb⟩
  · have hd : decide ((2000 : Int) < (s.size : Int)) = true := by simp; omega
    go_enter Try.func8, Try.ntmps8
    go_wp2_with (go_at_call 9; (with_reducible refine (awake_any _).mono ?_); rintro e w1 ⟨rfl, hb⟩)
    go_ret
    exact ⟨rfl, hb⟩
end Go.Proofs.Ytljaekmdeojceaa
