/- ShaSums: the law's walk: the address of bytes is the document's. -/
import Derived.Test.YtkfngeckojobbaaDoorShaAwake
import Derived.Test.YtkfngeckojobbaaDoorSumVal
import Derived.Test.YtkfngeckojobbaaDoorRef02Of
namespace Go.Proofs.YtkfngeckojobbaaDoor
open Go.RowKit Sha
set_option maxHeartbeats 1000000 in
theorem ShaSums_walk (w : World) (s : ByteArray) (hs : s.size ≤ maxLen) (hT : ShaTabs w) :
    Calls Tryd.prog 3 #[.string s] w fun e w' => e = .returned (.bool true) ∧ Below w.heap.size w w' := by
  unfold maxLen at hs
  have HT := Lib.hid hT; clear hT
  by_cases h1 : s.size ≤ 2000
  · have d1 : decide ((2000 : Int) < (s.size : Int)) = false := by simp; omega
    have heq := fun W => run_eql_sum (sha s.data.toList) (sha s.data.toList) (sha_length _) (sha_length _) W
    rw [show (sha s.data.toList == sha s.data.toList) = true from by simp] at heq
    have Ha := Lib.hid (Of_any s w HT.out (by omega))
    have Hb := Lib.hid (fun w => ref_Of s w (by omega))
    generalize sha s.data.toList = l at *
    go_enter Tryd.func3, Tryd.ntmps3
    go_wp2_with fail
    ((with_reducible refine Ha.out.mono ?_); rintro e w1 ⟨rfl, hb1⟩)
    go_wp2_with fail
    ((with_reducible refine (Hb.out _).mono ?_); rintro e w2 ⟨rfl, hb2⟩)
    go_wp2_with fail
    ((with_reducible refine (awake_any _ ((HT.out.belowAll hb1).belowAll hb2)).mono ?_); rintro e w3 ⟨rfl, hb3⟩)
    go_wp2_with fail
    go_ret
    exact ⟨rfl, below_then (below_then hb1 hb2 (Nat.le_refl _)) hb3 (Nat.le_refl _)⟩
  · have d1 : decide ((2000 : Int) < (s.size : Int)) = true := by simp; omega
    go_enter Tryd.func3, Tryd.ntmps3
    go_wp2_with fail
    ((with_reducible refine (awake_any _ HT.out).mono ?_); rintro e w3 ⟨rfl, hb3⟩)
    go_wp2_with fail
    go_ret
    exact ⟨rfl, hb3⟩
end Go.Proofs.YtkfngeckojobbaaDoor
