/- What the reference's digit, Print and Parse compute: walks. -/
import Derived.Test.YtkfngeckojobbaaDoorShaParse
namespace Go.Proofs.YtkfngeckojobbaaDoor
open Go.RowKit Sha
theorem hexD_lt : ∀ n : Fin 16, n.val < 10 → (hexD (UInt8.ofNat n.val)).toNat = 48 + n.val := by decide +kernel
theorem hexD_ge : ∀ n : Fin 16, 10 ≤ n.val → (hexD (UInt8.ofNat n.val)).toNat = 87 + n.val := by decide +kernel
theorem ref_digit (n : Int) (h0 : 0 ≤ n) (h1 : n < 16) (w : World) :
    Calls Tryd.prog 27 #[.int .i64 n] w fun e w' => e = .returned (.int .u8 (hexD (UInt8.ofNat n.toNat)).toNat) ∧ w = w' := by
  obtain ⟨k, rfl⟩ := Int.eq_ofNat_of_zero_le h0
  rw [Int.toNat_natCast]
  have hk : k < 16 := by omega
  by_cases h : k < 10
  · have e := hexD_lt ⟨k, hk⟩ h
    simp only at e
    rw [e]
    clear e
    go_enter Tryd.func27, Tryd.ntmps27
    go_wp2
    go_ret
    exact ⟨rfl, rfl⟩
  · have e := hexD_ge ⟨k, hk⟩ (by simp; omega)
    simp only at e
    rw [e]
    clear e
    go_enter Tryd.func27, Tryd.ntmps27
    go_wp2
    go_ret
    refine ⟨?_, rfl⟩
    show Ending.returned (.int .u8 _) = _
    congr 2
    omega

set_option maxHeartbeats 1000000 in
set_option maxRecDepth 100000 in
theorem ref_Print (l : List UInt8) (hl : l.length = 32) (w : World) :
    Calls Tryd.prog 20 #[.agg (l.map bv).toArray] w fun e w' => e = .returned (.string ⟨(hex l).toArray⟩) ∧ Below w.heap.size w w' := by
  obtain ⟨i0, hi, hz0, hz1, hz2⟩ := info_parts info_u8
  have Hl := Lib.hid hl; clear hl
  have k0 := Blk.new w 24 (l.map bv).toArray
  have Hk := Lib.hid k0; clear k0
  go_enter Tryd.func20, Tryd.ntmps20
  go_wp2_with fail
  go_loopg [3, 4] 32 (fun k sl i wr => ∃ j : Nat, j ≤ 32 ∧ k = 32 - j ∧ i = .int .i64 j ∧ Row wr 5 1 sl (2 * j) ((hex (l.take j)).map bv) ∧ Blk wr w.heap.size 24 (l.map bv).toArray ∧ Chg (fun _ => False) w wr ∧ ∀ k, sl.ownBlock = some k → w.heap.size < k)
  case atStart => exact ⟨0, by omega, rfl, rfl, Row.nil _ _ _, Hk.out, (Chg.refl _ _).alloc _, fun k hk => by simp [Value.ownBlock] at hk⟩
  case round =>
    obtain ⟨j, hj, rfl, rfl, hR, hB, hC, hf⟩ := hrel
    obtain ⟨a1, c1, rfl, hc1, hc2⟩ := hR.shape
    have HR := Lib.hid hR; clear hR
    have HB := Lib.hid hB; clear hB
    by_cases hlt : j < 32
    · have hcl : wr.cell? ⟨w.heap.size, j, none⟩ = some (.int .u8 (l.getD j 0).toNat) := by
        rw [HB.out.cell, List.getElem?_toArray, List.getElem?_map, List.getElem?_eq_getElem (by rw [Hl.out]; exact hlt)]
        simp [bv, List.getD, List.getElem?_eq_getElem (show j < l.length by rw [Hl.out]; exact hlt)]
      have Hx : Hid (hex (l.take (j + 1)) = hex (l.take j) ++ [hexD (l.getD j 0 >>> 4), hexD (l.getD j 0 &&& 15)]) := by
        show _ = _
        rw [List.take_succ_eq_append_getElem (by rw [Hl.out]; exact hlt), hex, List.flatMap_append]
        simp [hex, List.getD, List.getElem?_eq_getElem (show j < l.length by rw [Hl.out]; exact hlt)]
      rw [← hi_nibble, ← lo_nibble] at Hx
      generalize l.getD j 0 = y at *
      have hy := lt_u8 y
      have hlt' : wr.heap.size > w.heap.size := HB.out.lt
      have D1 : Hid (∀ W : World, Calls Tryd.prog 27 #[.int .i64 ((y.toNat : Int) / 16)] W fun e w' => e = .returned (.int .u8 (hexD (UInt8.ofNat (y.toNat / 16))).toNat) ∧ W = w') := fun W => by
        have := ref_digit ((y.toNat : Int) / 16) (by omega) (by omega) W
        rwa [show ((y.toNat : Int) / 16).toNat = y.toNat / 16 from by omega] at this
      have D2 : Hid (∀ W : World, Calls Tryd.prog 27 #[.int .i64 ((y.toNat : Int) % 16)] W fun e w' => e = .returned (.int .u8 (hexD (UInt8.ofNat (y.toNat % 16))).toNat) ∧ W = w') := fun W => by
        have := ref_digit ((y.toNat : Int) % 16) (by omega) (by omega) W
        rwa [show ((y.toNat : Int) % 16).toNat = y.toNat % 16 from by omega] at this
      generalize hexD (UInt8.ofNat (y.toNat / 16)) = x1 at *
      generalize hexD (UInt8.ofNat (y.toNat % 16)) = x2 at *
      go_wp2_with fail
      have q1 : IntKind.i64.wrap (y.toNat : Int) = (y.toNat : Int) := IntWalk.i64_in _ (by omega)
      have q2 : (y.toNat : Int).tdiv 16 = (y.toNat : Int) / 16 := Int.tdiv_eq_ediv_of_nonneg (by omega)
      have q3 : IntKind.i64.wrap ((y.toNat : Int) / 16) = (y.toNat : Int) / 16 := IntWalk.i64_in _ (by omega)
      have q4 : (y.toNat : Int).tmod 16 = (y.toNat : Int) % 16 := Int.tmod_eq_emod_of_nonneg (by omega)
      have b1 : 2 * j + 2 ≤ maxLen := by simp only [maxLen]; omega
      have b2 : (2 * j + 2) * 1 ≤ 140737488355328 := by omega
      go_region_law (first
        | (refine step_append_row _ rfl (.tmp 9) (.tmp 22) 44 44 rfl 5 i0 _ 1 1 Tryd.underlying44 hi hz0 hz1 hz2 rfl Nat.one_pos (.slice a1 (2 * j) c1) (2 * j) ((hex (l.take j)).map bv) (by simp [Act.eval]) (HR.out.alloc _).drew (.slice (some ⟨wr.heap.size, 0, none⟩) 2 2) 2 [bv x1, bv x2] (by simp [Act.eval]) (Row.src (Row.new wr 5 1 2 #[bv x1, bv x2] (by simp [maxLen]) rfl).drew Tryd.underlying44 (bv_one [x1, x2])) b1 b2 ?_; intro v2 w2 hR2 hC2 hv2)
        | (go_simp; go_at_call 27; (with_reducible refine (D1.out _).mono ?_); rintro e w' ⟨rfl, rfl⟩)
        | (go_simp; go_at_call 27; (with_reducible refine (D2.out _).mono ?_); rintro e w' ⟨rfl, rfl⟩))
      all_goals clear q1 q2 q3 q4
      all_goals
        go_wp2_with fail
        go_roundg (32 - (j + 1))
        case measure => omega
        case rel =>
          refine ⟨j + 1, by omega, rfl, by go_num, ?_, ?_, ((hC.alloc _).drew).next hC2 (fun k hk => .inr (by have := hf k hk; omega)), fun k hk => ?_⟩
          · rw [Hx.out, List.map_append]
            exact hR2
          · exact ((HB.out.alloc _).drew).chg hC2 (fun hk => by have := hf _ hk; omega)
          · rcases hv2 with h | h
            · exact hf k (h.symm.trans hk)
            · rw [h] at hk; have := hC.size; simp at hk; omega
    · obtain rfl : j = 32 := by omega
      have hcv := run_str_of_row wr 44 9 5 _ _ _ Tryd.underlying44 Tryd.underlying5 Tryd.underlying9 HR.out
      have HF : Hid (hex (l.take 32) = hex l) := by show _ = _; rw [List.take_of_length_le (by rw [Hl.out]; omega)]
      rw [HF.out] at hcv
      go_wp2_with fail
      go_ret
      exact ⟨rfl, hC.belowAll⟩
end Go.Proofs.YtkfngeckojobbaaDoor
