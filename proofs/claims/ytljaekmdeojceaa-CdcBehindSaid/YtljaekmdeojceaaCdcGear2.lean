/- What sums.Gear computes: the walk of the loop. -/
import Derived.Test.YtljaekmdeojceaaCdcGear
namespace Go.Proofs.Ytljaekmdeojceaa
open Go.RowKit Cdc
def u64v (x : UInt64) : Value := .int .u64 x.toNat
/-- the table as cells -/
def gearList : List Value := (List.range 256).map fun i => u64v (gear i)
theorem gearList_length : gearList.length = 256 := by unfold gearList; rw [List.length_map, List.length_range]
theorem gearList_at (i : Nat) (h : i < 256) : gearList.toArray[i]? = some (u64v (gear i)) := by
  unfold gearList
  rw [List.getElem?_toArray, List.getElem?_map, List.getElem?_range h]
  rfl
theorem gearList_one : ∀ u ∈ gearList.toArray.toList, u.oneCell' = true := by
  intro u hu
  have : u ∈ gearList := hu
  unfold gearList at this
  obtain ⟨i, _, rfl⟩ := List.mem_map.1 this
  rfl
theorem info_tab : (Try.prog.info? 37).map (·.size) = some 256 := by kernel_rfl
theorem gear_size : gearList.toArray.size = 256 := gearList_length
def z256 : List Value := List.replicate 256 (.int .u64 0)
theorem z256_length : z256.length = 256 := by unfold z256; rw [List.length_replicate]
theorem z256_at (i : Nat) (h : i < 256) : z256.toArray[i]? = some (u64v 0) := by
  unfold z256
  rw [List.getElem?_toArray, List.getElem?_replicate, if_pos h]
  rfl
def GearIs (w : World) (e : Ending) (w' : World) : Prop := e = .returned (.agg gearList.toArray) ∧ Below w.heap.size w w'

theorem alloc_tab (w : World) : (Instr.alloc 37 true (.tuple #[])).run Try.prog w = .ok (.pointer (some ⟨w.heap.size, 0, none⟩)) (w.alloc (.cells z256.toArray 37)) := by kernel_rfl

theorem Gear1_to (g : Nat) (s s' m : UInt64) (hs : s + stepC = s') (hm : mix s' = m) (w : World) (hc : w.cell? ⟨g, 0, none⟩ = some (.int .u64 s.toNat)) (hf : w.frozen? ⟨g, 0, none⟩ = false) :
    Calls Try.prog 25 #[.pointer (some ⟨g, 0, none⟩)] w fun e w' => e = .returned (.int .u64 m.toNat) ∧ w.setCell ⟨g, 0, none⟩ (.int .u64 s'.toNat) = w' := by
  subst hs
  subst hm
  exact Gear1_any g s w hc hf
set_option maxHeartbeats 1000000 in
set_option maxRecDepth 100000 in
theorem Gear_any (w : World) : Calls Try.prog 21 #[.int .u64 7021795034322793837] w (GearIs w) := by
  go_enter Try.func21, Try.ntmps21
  go_wp2_with (refine wpList_alloc_of rfl 37 rfl z256.toArray alloc_tab ?_)
  have hw0 : Chg (fun _ => False) w (((w.alloc (.cells #[.int .u64 7021795034322793837] 36)).alloc (.cells z256.toArray 37)).alloc (.cells z256.toArray 37)) := (((Chg.refl _ w).alloc _).alloc _).alloc _
  have k0 : Blk (((w.alloc (.cells #[.int .u64 7021795034322793837] 36)).alloc (.cells z256.toArray 37)).alloc (.cells z256.toArray 37)) w.heap.size 36 #[u64v (seedAt seed 0)] := ((Blk.new w _ _).alloc _).alloc _
  have k1 : Blk (((w.alloc (.cells #[.int .u64 7021795034322793837] 36)).alloc (.cells z256.toArray 37)).alloc (.cells z256.toArray 37)) (w.heap.size + 1) 37 z256.toArray := by
    have := (Blk.new (w.alloc (.cells #[.int .u64 7021795034322793837] 36)) 37 z256.toArray).alloc (.cells z256.toArray 37)
    simpa using this
  have k2 : Blk (((w.alloc (.cells #[.int .u64 7021795034322793837] 36)).alloc (.cells z256.toArray 37)).alloc (.cells z256.toArray 37)) (w.heap.size + 1 + 1) 37 z256.toArray := by
    have := Blk.new ((w.alloc (.cells #[.int .u64 7021795034322793837] 36)).alloc (.cells z256.toArray 37)) 37 z256.toArray
    simpa using this
  generalize (((w.alloc (.cells #[.int .u64 7021795034322793837] 36)).alloc (.cells z256.toArray 37)).alloc (.cells z256.toArray 37)) = w0 at *
  have Hk : Hid (Blk w0 w.heap.size 36 #[u64v (seedAt seed 0)] ∧ Blk w0 (w.heap.size + 1) 37 z256.toArray ∧ Blk w0 (w.heap.size + 1 + 1) 37 z256.toArray) := ⟨k0, k1, k2⟩
  clear k0 k1 k2
  go_loopg [7] 256 (fun k i wr => ∃ j : Nat, j ≤ 256 ∧ k = 256 - j ∧ i = .int .i64 j ∧ Blk wr w.heap.size 36 #[u64v (seedAt seed j)] ∧ Blk wr (w.heap.size + 1) 37 z256.toArray ∧ wr.rowIs (w.heap.size + 1 + 1) 37 256 (fun k => u64v (if k < j then gear k else 0)) ∧ Chg (fun _ => False) w wr)
  case atStart => exact ⟨0, by omega, rfl, rfl, Hk.out.1, Hk.out.2.1, Hk.out.2.2.row z256_length (fun i hi => by rw [z256_at i hi, if_neg (by omega)]), hw0⟩
  case round =>
    obtain ⟨j, hj, rfl, rfl, hS, hB1, hR, hC⟩ := hrel
    by_cases hlt : j < 256
    · have hc0 : wr.cell? ⟨w.heap.size, 0, none⟩ = some (.int .u64 (seedAt seed j).toNat) := by rw [hS.cell]; rfl
      have hf0 := hS.frozen 0
      have c0 := hR.cell (i := j) hlt
      have f0 := hR.frozen (i := j)
      have Hc0 := Lib.hid hc0; clear hc0
      have Hf0 := Lib.hid hf0; clear hf0
      have HS := Lib.hid hS; clear hS
      have HB1 := Lib.hid hB1; clear hB1
      have HR := Lib.hid hR; clear hR
      have Hg : Hid (seedAt seed (j + 1) = seedAt seed j + stepC ∧ gear j = mix (seedAt seed j + stepC)) := ⟨rfl, rfl⟩
      generalize seedAt seed j = sd at *
      generalize hs1 : sd + stepC = sd1 at *
      generalize hmx : mix sd1 = mx at *
      have Hmx := Lib.hid hmx; clear hmx
      have Hs1 := Lib.hid hs1; clear hs1
      go_wp2_with (go_at_call 25; (with_reducible refine (Gear1_to _ sd sd1 mx Hs1.out Hmx.out _ Hc0.out Hf0.out).mono ?_); rintro e w' ⟨rfl, rfl⟩)
      go_roundg (256 - (j + 1))
      case measure => omega
      case rel =>
        refine ⟨j + 1, by omega, rfl, by go_num, ?_, ?_, ?_, (hC.setCell (.inr (Nat.le_refl _)) _).setCell (.inr (by show _ ≤ _ + 1 + 1; omega)) _⟩
        · rw [Hg.out.1]
          exact (HS.out.set_ 0 _).far (by show w.heap.size ≠ w.heap.size + 1 + 1; omega) _
        · exact (HB1.out.far (by show w.heap.size + 1 ≠ w.heap.size; omega) _).far (by show w.heap.size + 1 ≠ w.heap.size + 1 + 1; omega) _
        · refine ((HR.out.setOther (by show w.heap.size + 1 + 1 ≠ w.heap.size; omega) _).set j _).congr (fun k hk => ?_)
          by_cases e : k = j
          · rw [if_pos e, if_pos (by omega), e, Hg.out.2]; rfl
          · rw [if_neg e]
            by_cases h2 : k < j
            · rw [if_pos h2, if_pos (by omega)]
            · rw [if_neg h2, if_neg (by omega)]
    · obtain rfl : j = 256 := by omega
      have hB2 : Blk wr (w.heap.size + 1 + 1) 37 gearList.toArray := Blk.of_row hR gear_size (fun i hi => by rw [gearList_at i hi, if_pos hi])
      have HB2 := Lib.hid hB2; clear hB2
      have HB1 := Lib.hid hB1; clear hB1
      clear hS hR
      go_wp2_with (first
        | (refine wpList_load_blk rfl 37 (.tmp 4) rfl (w.heap.size + 1 + 1) rfl HB2.out Try.underlying37 rfl (by rw [gear_size]; exact info_tab) ?_)
        | (refine wpList_store_blk rfl 37 (.tmp 2) (.tmp 15) rfl (w.heap.size + 1) gearList.toArray rfl rfl HB1.out (by rw [gear_size]; exact info_tab) (by rw [gear_size]; exact z256_length) gearList_one ?_; intro w10 hB10 hC10))
      refine bodyPost_ret (results_blk rfl _ _ (w.heap.size + 1) rfl hB10 Try.underlying37 rfl (by rw [gear_size]; exact info_tab)) rfl ?_
      exact ⟨rfl, (hC.next hC10 (fun i h => .inr (by omega))).belowAll⟩
end Go.Proofs.Ytljaekmdeojceaa
