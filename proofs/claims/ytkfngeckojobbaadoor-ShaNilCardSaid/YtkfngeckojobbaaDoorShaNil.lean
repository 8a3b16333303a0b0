/- ShaNil: the law's walk. -/
import Derived.Test.YtkfngeckojobbaaDoorShaAwake
import Derived.Test.YtkfngeckojobbaaDoorSumVal
namespace Go.Proofs.YtkfngeckojobbaaDoor
open Go.RowKit Sha
theorem nil_Write (s : ByteArray) (w : World) : Calls Tryd.prog 14 #[.pointer none, .string s] w fun e w' => e = .returned (.tuple #[]) ∧ w = w' := by
  go_enter Tryd.func14, Tryd.ntmps14
  go_wp2
  refine bodyPost_ret (results_none rfl _ _ _) rfl ?_
  exact ⟨rfl, rfl⟩
theorem nil_Len (w : World) : Calls Tryd.prog 16 #[.pointer none] w fun e w' => e = .returned (.int .i64 0) ∧ w = w' := by
  go_enter Tryd.func16, Tryd.ntmps16
  go_wp2
  go_ret
  exact ⟨rfl, rfl⟩
def nilSum : List UInt8 := List.replicate 32 0
theorem z32_nil : z32 = (nilSum.map bv).toArray := rfl
set_option maxHeartbeats 1000000 in
theorem nil_Sum (w : World) : Calls Tryd.prog 15 #[.pointer none] w (SumIs w nilSum) := by
  have k0 : Blk ((w.alloc (.cells z32 24)).alloc (.cells z32 24)) w.heap.size 24 z32 := (Blk.new w 24 z32).alloc _
  have k1 : Blk ((w.alloc (.cells z32 24)).alloc (.cells z32 24)) (w.heap.size + 1) 24 z32 := by
    have := Blk.new (w.alloc (.cells z32 24)) 24 z32
    simpa using this
  have Hk0 := Lib.hid k0; clear k0
  have Hk1 := Lib.hid k1; clear k1
  go_enter Tryd.func15, Tryd.ntmps15
  go_wp2_with (first
    | (refine wpList_load_blk rfl 24 (.tmp 3) rfl (w.heap.size + 1) rfl Hk1.out Tryd.underlying24 rfl info_sum ?_)
    | (refine wpList_store_blk rfl 24 (.tmp 2) (.tmp 11) rfl w.heap.size z32 rfl rfl Hk0.out info_sum rfl (bv_one nilSum) ?_; intro w10 hB10 hC10))
  refine bodyPost_ret (results_blk rfl _ _ w.heap.size rfl hB10 Tryd.underlying24 rfl info_sum) rfl ?_
  exact ⟨rfl, ((((Chg.refl _ w).alloc _).alloc _).next hC10 (fun i h => .inr (by omega))).belowAll⟩

set_option maxHeartbeats 1000000 in
theorem ShaNil_walk (w : World) (s : ByteArray) (hs : s.size ≤ maxLen) (hT : ShaTabs w) :
    Calls Tryd.prog 6 #[.string s] w fun e w' => e = .returned (.bool true) ∧ Below w.heap.size w w' := by
  unfold maxLen at hs
  have HT := Lib.hid hT; clear hT
  by_cases hlen : s.size ≤ 100
  · go_enter Tryd.func6, Tryd.ntmps6
    go_wp2_with fail
    ((with_reducible refine (nil_Write s _).mono ?_); rintro e w1 ⟨rfl, rfl⟩)
    have heq := fun W => run_eql_sum nilSum nilSum rfl rfl W
    rw [← z32_nil] at heq
    have hb : (nilSum == nilSum) = true := by decide
    rw [hb] at heq
    unfold z32 at heq
    go_wp2_with fail
    ((with_reducible refine (nil_Sum _).mono ?_); rintro e w2 ⟨rfl, hb2⟩)
    rw [← z32_nil]
    unfold z32
    go_wp2_with fail
    ((with_reducible refine (nil_Len _).mono ?_); rintro e w3 ⟨rfl, rfl⟩)
    have hT2 := HT.out.belowAll hb2
    go_wp2_with fail
    ((with_reducible refine (awake_any _ hT2).mono ?_); rintro e w3 ⟨rfl, hb3⟩)
    go_wp2_with fail
    go_ret
    exact ⟨rfl, below_then hb2 hb3 (Nat.le_refl _)⟩
  · have hlt : (100 : Int) < s.size := by omega
    go_enter Tryd.func6, Tryd.ntmps6
    go_wp2_with fail
    ((with_reducible refine (awake_any _ HT.out).mono ?_); rintro e w3 ⟨rfl, hb3⟩)
    go_wp2_with fail
    go_ret
    exact ⟨rfl, hb3⟩
end Go.Proofs.YtkfngeckojobbaaDoor
