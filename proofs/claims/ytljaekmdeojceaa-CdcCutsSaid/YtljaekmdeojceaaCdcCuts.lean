/- CdcCuts: the chunks of a stream are the document's. -/
import Derived.Test.YtljaekmdeojceaaCdcRefCut
namespace Go.Proofs.Ytljaekmdeojceaa
open Go.RowKit Cdc
set_option maxHeartbeats 1000000 in
set_option maxRecDepth 100000 in
theorem CdcCuts_walk (w : World) (s : ByteArray) (hs : s.size ≤ maxLen) :
    Calls Try.prog 3 #[.string s] w fun e w' => e = .returned (.bool true) ∧ Below w.heap.size w w' := by
  unfold maxLen at hs
  by_cases h1 : s.size ≤ 20000
  · have d1 : decide ((20000 : Int) < (s.size : Int)) = false := by simp; omega
    have C1 := Lib.hid (fun w => Cut_any s w (by omega))
    have C2 := Lib.hid (fun w => RefCut_any s w (by omega))
    have F1 := Lib.hid (fun w => First_any s w (by omega))
    have F2 := Lib.hid (fun w => RefFirst_any s w (by omega))
    generalize first s.data.toList = n at *
    go_enter Try.func3, Try.ntmps3
    go_wp2_with (first
      | (go_at_call 11; (with_reducible refine (C1.out _).mono ?_); rintro e w1 ⟨v1, rfl, hR1, hn1, hb1⟩; have HR1 := Lib.hid hR1; clear hR1)
      | (go_at_call 12; (with_reducible refine (C2.out _).mono ?_); rintro e w2 ⟨v2, rfl, hR2, hn2, hb2⟩; have HR2 := Lib.hid hR2; clear hR2)
      | (go_at_call 10; (with_reducible refine (Same_eq v1 v2 _ _ (HR1.out.belowAll hb2).reads HR2.out.reads).mono ?_); rintro e w3 ⟨rfl, hb3⟩)
      | (go_at_call 13; (with_reducible refine (F1.out _).mono ?_); rintro e w4 ⟨rfl, hb4⟩)
      | (go_at_call 14; (with_reducible refine (F2.out _).mono ?_); rintro e w5 ⟨rfl, rfl⟩)
      | (go_at_call 9; (with_reducible refine (awake_any _).mono ?_); rintro e w6 ⟨rfl, hb6⟩))
    go_ret
    exact ⟨rfl, below_then (below_then (below_then (below_then hb1 hb2 (Nat.le_refl _)) hb3 (Nat.le_refl _)) hb4 (Nat.le_refl _)) hb6 (Nat.le_refl _)⟩
  · have d1 : decide ((20000 : Int) < (s.size : Int)) = true := by simp; omega
    go_enter Try.func3, Try.ntmps3
    go_wp2_with (go_at_call 9; (with_reducible refine (awake_any _).mono ?_); rintro e w1 ⟨rfl, hb⟩)
    go_ret
    exact ⟨rfl, hb⟩
end Go.Proofs.Ytljaekmdeojceaa
