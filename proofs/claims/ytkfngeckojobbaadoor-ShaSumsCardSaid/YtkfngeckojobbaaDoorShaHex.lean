/- What sha.Print, sha.Parse and sha.Cmp compute: walks. -/
import Derived.Test.YtkfngeckojobbaaDoorShaOf
import Derived.Deep.RegionLaw
namespace Go.Proofs.YtkfngeckojobbaaDoor
open Go.RowKit Sha

theorem run_index_sum (l : List UInt8) (hl : l.length = 32) (j : Nat) (hj : j < 32) (W : World) :
    (Instr.index 24 (.agg (l.map bv).toArray) (.int .i64 (j : Int))).run Tryd.prog W = .ok (.int .u8 (l.getD j 0).toNat) W := by
  obtain ⟨i0, hi, hz0, hz1, hz2⟩ := info_parts info_u8
  have h0 : (0 : Int) ≤ (j : Int) := by omega
  have h1 : (j : Int) < 32 := by omega
  have hc : Option.map bv l[j]? = some (.int .u8 (l.getD j 0).toNat) := by
    rw [List.getElem?_eq_getElem (by omega)]
    simp [bv, List.getD, List.getElem?_eq_getElem (show j < l.length by omega)]
  simp only [Instr.index, asIntOf, Sem.run_bind, Sem.run_pure, Result.andThen_ok, run_underlying Tryd.underlying24]
  simp [h1, part, isAgg, run_underlying Tryd.underlying5, sizeOf, typeInfo, hi, hz1]
  rw [hc]
  simp [List.getD]

def digs : ByteArray := ⟨#[48, 49, 50, 51, 52, 53, 54, 55, 56, 57, 97, 98, 99, 100, 101, 102]⟩
theorem digit_at (n : Nat) (hn : n < 16) (W : World) : (Instr.index 9 (.string ⟨#[48, 49, 50, 51, 52, 53, 54, 55, 56, 57, 97, 98, 99, 100, 101, 102]⟩) (.int .u8 (n : Int))).run Tryd.prog W = .ok (.int .u8 (hexD (UInt8.ofNat n)).toNat) W := by
  have h : n = 0 ∨ n = 1 ∨ n = 2 ∨ n = 3 ∨ n = 4 ∨ n = 5 ∨ n = 6 ∨ n = 7 ∨ n = 8 ∨ n = 9 ∨ n = 10 ∨ n = 11 ∨ n = 12 ∨ n = 13 ∨ n = 14 ∨ n = 15 := by omega
  clear hn
  rcases h with rfl | rfl | rfl | rfl | rfl | rfl | rfl | rfl | rfl | rfl | rfl | rfl | rfl | rfl | rfl | rfl <;> (show _ = _; kernel_rfl)
theorem hi_nibble (y : UInt8) : UInt8.ofNat (y.toNat / 16) = y >>> 4 := by
  apply UInt8.toNat.inj
  rw [UInt8.toNat_ofNat', UInt8.toNat_shiftRight]
  have := y.toNat_lt
  show y.toNat / 16 % 256 = y.toNat >>> 4
  rw [Nat.shiftRight_eq_div_pow]
  omega
theorem lo_nibble (y : UInt8) : UInt8.ofNat (y.toNat % 16) = y &&& 15 := by
  apply UInt8.toNat.inj
  rw [UInt8.toNat_ofNat', UInt8.toNat_and]
  have h : y.toNat &&& 15 = y.toNat % 16 := Nat.and_two_pow_sub_one_eq_mod y.toNat 4
  show y.toNat % 16 % 256 = y.toNat &&& 15
  rw [h]
  omega
theorem digit_hi (y : UInt8) (W : World) : (Instr.index 9 (.string ⟨#[48, 49, 50, 51, 52, 53, 54, 55, 56, 57, 97, 98, 99, 100, 101, 102]⟩) (.int .u8 ((y.toNat : Int) / 16))).run Tryd.prog W = .ok (.int .u8 (hexD (y >>> 4)).toNat) W := by
  have := digit_at (y.toNat / 16) (by have := y.toNat_lt; omega) W
  rw [hi_nibble] at this
  exact this
theorem digit_lo (y : UInt8) (W : World) : (Instr.index 9 (.string ⟨#[48, 49, 50, 51, 52, 53, 54, 55, 56, 57, 97, 98, 99, 100, 101, 102]⟩) (.int .u8 ((y.toNat : Int) % 16))).run Tryd.prog W = .ok (.int .u8 (hexD (y &&& 15)).toNat) W := by
  have := digit_at (y.toNat % 16) (by omega) W
  rw [lo_nibble] at this
  exact this

set_option maxHeartbeats 1000000 in
set_option maxRecDepth 100000 in
theorem Print_any (l : List UInt8) (hl : l.length = 32) (w : World) :
    Calls Tryd.prog 19 #[.agg (l.map bv).toArray] w fun e w' => e = .returned (.string ⟨(hex l).toArray⟩) ∧ Below w.heap.size w w' := by
  obtain ⟨i0, hi, hz0, hz1, hz2⟩ := info_parts info_u8
  have Hl := Lib.hid hl; clear hl
  have k0 := Blk.new w 24 (l.map bv).toArray
  have Hk := Lib.hid k0; clear k0
  go_enter Tryd.func19, Tryd.ntmps19
  go_wp2_with (refine wpList_load_blk rfl 24 (.tmp 1) rfl w.heap.size rfl Hk.out Tryd.underlying24 rfl (by rw [sum_size Hl.out]; exact info_sum) ?_)
  go_loopg [3, 7] 32 (fun k sl i wr => ∃ j : Nat, j ≤ 32 ∧ k = 32 - j ∧ i = .int .i64 j ∧ Row wr 5 1 sl (2 * j) ((hex (l.take j)).map bv) ∧ Chg (fun _ => False) w wr ∧ ∀ k, sl.ownBlock = some k → w.heap.size ≤ k)
  case atStart => exact ⟨0, by omega, rfl, rfl, Row.nil _ _ _, (Chg.refl _ _).alloc _, fun k hk => by simp [Value.ownBlock] at hk⟩
  case round =>
    obtain ⟨j, hj, rfl, rfl, hR, hC, hf⟩ := hrel
    obtain ⟨a1, c1, rfl, hc1, hc2⟩ := hR.shape
    have HR := Lib.hid hR; clear hR
    by_cases hlt : j < 32
    · have hix := fun W => run_index_sum l Hl.out j hlt W
      have Hx : Hid (hex (l.take (j + 1)) = hex (l.take j) ++ [hexD (l.getD j 0 >>> 4), hexD (l.getD j 0 &&& 15)]) := by
        show _ = _
        rw [List.take_succ_eq_append_getElem (by rw [Hl.out]; exact hlt), hex, List.flatMap_append]
        simp [hex, List.getD, List.getElem?_eq_getElem (show j < l.length by rw [Hl.out]; exact hlt)]
      generalize l.getD j 0 = y at *
      have hy := lt_u8 y
      go_wp2_with fail
      clear hix
      have hd1 := digit_hi y
      have hd2 := digit_lo y
      have hd3 := digit_lo y
      rw [← u8_and15 (y.toNat : Int) (by omega) (by omega)] at hd3
      generalize hexD (y >>> 4) = x1 at *
      generalize hexD (y &&& 15) = x2 at *
      go_region_law ((refine step_append_row _ rfl (.tmp 10) (.tmp 17) 44 44 rfl 5 i0 _ 1 1 Tryd.underlying44 hi hz0 hz1 hz2 rfl (by omega) (.slice a1 (2 * j) c1) (2 * j) ((hex (l.take j)).map bv) (by simp [Act.eval]) (HR.out.alloc _).drew (.slice (some ⟨wr.heap.size, 0, none⟩) 2 2) 2 [bv x1, bv x2] (by simp [Act.eval]) (Row.src (Row.new wr 5 1 2 #[bv x1, bv x2] (by simp [maxLen]) rfl).drew Tryd.underlying44 (bv_one [x1, x2])) (by simp only [maxLen]; omega) (by omega) ?_; intro v2 w2 hR2 hC2 hv2))
      all_goals
        go_wp2_with fail
        go_roundg (32 - (j + 1))
        case measure => omega
        case rel =>
          refine ⟨j + 1, by omega, rfl, by go_num, ?_, ((hC.alloc _).drew).next hC2 (fun k hk => .inr (hf k hk)), fun k hk => ?_⟩
          · rw [Hx.out, List.map_append]
            exact hR2
          · rcases hv2 with h | h
            · exact hf k (h.symm.trans hk)
            · rw [h] at hk; have := hC.size; simp at hk; omega
    · obtain rfl : j = 32 := by omega
      have hcv := run_str_of_row wr 44 9 5 _ _ _ Tryd.underlying44 Tryd.underlying5 Tryd.underlying9 HR.out
      have HF : Hid (hex (l.take 32) = hex l) := by show _ = _; rw [List.take_of_length_le (by rw [Hl.out]; omega)]
      rw [HF.out] at hcv
      go_wp2_with fail
      go_ret
      exact ⟨rfl, hC.belowAll⟩
end Go.Proofs.YtkfngeckojobbaaDoor
