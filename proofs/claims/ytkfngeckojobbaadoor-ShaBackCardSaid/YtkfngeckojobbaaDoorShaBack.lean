/- ShaBack: the law's walk. -/
import Derived.Test.YtkfngeckojobbaaDoorShaAwake
import Derived.Test.YtkfngeckojobbaaDoorSumVal
import Derived.Test.YtkfngeckojobbaaDoorShaParse
import Derived.Test.YtkfngeckojobbaaDoorMem2
namespace Go.Proofs.YtkfngeckojobbaaDoor
open Go.RowKit Sha
set_option maxHeartbeats 1000000 in
theorem ShaBack_walk (w : World) (l : List UInt8) (hl : l.length = 32) (hT : ShaTabs w) :
    Calls Tryd.prog 8 #[.agg (l.map bv).toArray] w fun e w' => e = .returned (.bool true) ∧ Below w.heap.size w w' := by
  have HT := Lib.hid hT; clear hT
  have Hl := Lib.hid hl; clear hl
  have k0 := Blk.new w 24 (l.map bv).toArray
  have Hk := Lib.hid k0; clear k0
  have hinfo : (Tryd.prog.info? 24).map (·.size) = some (l.map bv).toArray.size := by rw [sum_size Hl.out]; exact info_sum
  have Hinfo := Lib.hid hinfo; clear hinfo
  go_enter Tryd.func8, Tryd.ntmps8
  go_wp2_with (refine wpList_load_blk rfl 24 (.tmp 1) rfl w.heap.size rfl Hk.out Tryd.underlying24 rfl Hinfo.out ?_)
  ((with_reducible refine (Print_any l Hl.out _).mono ?_); rintro e w1 ⟨rfl, hb1⟩)
  go_wp2_with fail
  ((with_reducible refine (Parse_any _ _ (by rw [size_bytes, hex_length, Hl.out]; omega)).mono ?_); rintro e w2 ⟨rfl, hb2⟩)
  rw [show (ByteArray.mk (hex l).toArray).data.toList = hex l from rfl, parse_hex l Hl.out]
  simp only [Option.getD_some, Option.isSome_some, if_true]
  have hB2 : Blk w2 w.heap.size 24 (l.map bv).toArray := (Hk.out.belowAll hb1).belowAll hb2
  have HB2 := Lib.hid hB2; clear hB2
  have hN := Blk.new w2 24 z32
  have HN := Lib.hid hN; clear hN
  have heq := fun W => run_eql_sum l l Hl.out Hl.out W
  rw [show (l == l) = true from by simp] at heq
  go_wp2_with (first
    | (refine wpList_store_blk rfl 24 (.tmp 3) (.tmp 9) rfl w2.heap.size (l.map bv).toArray rfl rfl HN.out Hinfo.out (by rw [sum_size Hl.out]; rfl) (bv_one l) ?_; intro w3 hB3 hC3; have HB3 := Lib.hid hB3; clear hB3; have hB0 : Blk w3 w.heap.size 24 (l.map bv).toArray := (HB2.out.alloc _).chg hC3 (by have := HB2.out.lt; omega); have HB0 := Lib.hid hB0; clear hB0)
    | (refine wpList_load_blkG rfl 24 (.tmp 3) rfl w2.heap.size rfl HB3.out Tryd.underlying24 rfl Hinfo.out ?_)
    | (refine wpList_load_blkG rfl 24 (.tmp 1) rfl w.heap.size rfl HB0.out Tryd.underlying24 rfl Hinfo.out ?_))
  have hc3 : Chg (fun _ => False) w w3 := (((((Chg.refl (fun _ => False) w).alloc _).then_below hb1).then_below hb2).alloc _).next hC3 (fun i h => .inr (by have := hb1.size; have := hb2.size; simp at *; omega))
  ((with_reducible refine (Print_any l Hl.out _).mono ?_); rintro e w4 ⟨rfl, hb4⟩)
  have hsz : (ByteArray.mk (hex l).toArray).size = 64 := by rw [size_bytes, hex_length, Hl.out]
  go_wp2_with fail
  ((with_reducible refine (awake_any _ ((HT.out.chg hc3 noTab_none).belowAll hb4)).mono ?_); rintro e w5 ⟨rfl, hb5⟩)
  go_wp2_with fail
  go_ret
  exact ⟨rfl, ((hc3.then_below hb4).then_below hb5).belowAll⟩
end Go.Proofs.YtkfngeckojobbaaDoor
