/- What sha.Of computes: the walk. -/
import Derived.Test.YtkfngeckojobbaaDoorShaSum
namespace Go.Proofs.YtkfngeckojobbaaDoor
open Go.RowKit Sha

theorem sha_length (m : List UInt8) : (sha m).length = 32 := rfl
theorem sumOf_length (v : St) (r : List UInt8) (n : Nat) : (sumOf v r n).length = 32 := rfl
theorem sum_size {l : List UInt8} (h : l.length = 32) : (l.map bv).toArray.size = 32 := by rw [List.size_toArray, List.length_map, h]

set_option maxHeartbeats 1000000 in
theorem Of_any (s : ByteArray) (w : World) (hT : ShaTabs w) (hs : s.size ≤ 4294960000) :
    Calls Tryd.prog 10 #[.string s] w (SumIs w (sha s.data.toList)) := by
  have HT := Lib.hid hT; clear hT
  have k0 := Blk.new w 24 z32
  have Hk := Lib.hid k0; clear k0
  go_enter Tryd.func10, Tryd.ntmps10
  go_wp2_with fail
  ((with_reducible refine (New_any _ (HT.out.alloc _)).mono ?_); rintro e w1 ⟨b, rfl, hX1, hb1⟩)
  have hT1 : ShaTabs w1 := (HT.out.alloc _).belowAll hb1
  have hX1' := hX1.mono (T := fun k => w.heap.size + 1 ≤ k) (fun k hk => by simp at hk; omega)
  go_wp2_with fail
  ((with_reducible refine (Write_any (fun k => w.heap.size + 1 ≤ k) b begin_ [] 0 s w1 hX1' hT1 (noTab_from HT.out (by omega)) (by omega) (by simp; omega)).mono ?_); rintro e w2 ⟨rfl, hX2, hC2⟩)
  simp only [List.nil_append, Nat.zero_add] at hX2
  have hT2 : ShaTabs w2 := hT1.chg hC2 (noTab_from HT.out (by omega))
  go_wp2_with fail
  ((with_reducible refine (Sum_any _ _ _ _ _ w2 hX2 hT2 (by omega) (by rw [absorb_length]; omega)).mono ?_); rintro e w3 ⟨rfl, hb3⟩)
  have hc2 : Chg (fun _ => False) w w2 := (((Chg.refl _ w).alloc _).then_below hb1).next hC2 (fun i h => .inr (by omega))
  have hB3 : Blk w3 w.heap.size 24 z32 := ((Hk.out.belowAll hb1).chg hC2 (by omega)).belowAll hb3
  have HF : Hid (sumOf (absorb begin_ s.data.toList).1 (absorb begin_ s.data.toList).2 s.size = sha s.data.toList) := rfl
  have HB3 := Lib.hid hB3; clear hB3
  rw [HF.out]
  go_wp2_with (refine wpList_store_blk rfl 24 (.tmp 2) (.tmp 9) rfl w.heap.size ((sha s.data.toList).map bv).toArray rfl rfl HB3.out (by rw [sum_size (sha_length _)]; exact info_sum) (by rw [sum_size (sha_length _)]; rfl) (bv_one (sha s.data.toList)) ?_; intro w10 hB10 hC10)
  refine bodyPost_end (results_blk rfl _ _ w.heap.size rfl hB10 Tryd.underlying24 rfl (by rw [sum_size (sha_length _)]; exact info_sum)) rfl ?_
  exact ⟨rfl, ((hc2.then_below hb3).next hC10 (fun i h => .inr (by omega))).belowAll⟩
end Go.Proofs.YtkfngeckojobbaaDoor
