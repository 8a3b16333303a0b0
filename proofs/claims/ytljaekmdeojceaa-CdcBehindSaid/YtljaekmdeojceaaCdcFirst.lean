/- The chunk cutter: the walk of First. -/
import Derived.Test.YtljaekmdeojceaaCdcCut
namespace Go.Proofs.Ytljaekmdeojceaa
open Go.RowKit Cdc
def zeroGear : List Value := z256 ++ [.int .u64 0, .int .i64 0]
theorem alloc_gear (w : World) : (Instr.alloc 40 true (.tuple #[])).run Try.prog w = .ok (.pointer (some ⟨w.heap.size, 0, none⟩)) (w.alloc (.cells zeroGear.toArray 40)) := by kernel_rfl
theorem info_gear : (Try.prog.info? 40).map (·.size) = some 258 := by kernel_rfl
theorem gearCells_size : gearCells.toArray.size = 258 := gearCells_length
theorem zeroGear_size : zeroGear.toArray.size = 258 := by
  show zeroGear.length = 258
  unfold zeroGear
  rw [List.length_append, z256_length]
  rfl
theorem gearCells_one : ∀ u ∈ gearCells.toArray.toList, u.oneCell' = true := by
  intro u hu
  have : u ∈ gearCells := hu
  unfold gearCells at this
  rcases List.mem_append.1 this with h | h
  · exact gearList_one u h
  · simp at h
    rcases h with rfl | rfl <;> rfl
/-- how long the first chunk is: so many bytes have been taken and it has not ended -/
def FInv (w : World) (b : Nat) (s : ByteArray) (j : Nat) (w' : World) : Prop :=
  ∃ cs, Blk w' b 40 cs ∧ Geared cs (roll (s.data.toList.take j)) j ∧ firstGo (s.data.toList.take j) (s.data.toList.drop j) = first s.data.toList ∧ Below w.heap.size w w'
def IntIs (w : World) (n : Nat) (e : Ending) (w' : World) : Prop := e = .returned (.int .i64 n) ∧ Below w.heap.size w w'
def FirstJ (w : World) (s : ByteArray) (a' : Act) (w' : World) : Prop :=
  ∃ (b j : Nat), w.heap.size ≤ b ∧ j ≤ s.size ∧ FInv w b s j w' ∧ ∃ u5 u6 u7 u8 u9 u10 u11 u12 u13 u14 u15 u16 u17 u18 u19 : Value, a' = { tmps := #[.string s, undef, .int .i64 0, .pointer (some ⟨b, 0, none⟩), .int .i64 j, u5, u6, u7, u8, u9, u10, u11, u12, u13, u14, u15, u16, u17, u18, u19], defers := [] }

set_option maxHeartbeats 1000000 in
set_option maxRecDepth 100000 in
theorem First_any (s : ByteArray) (w : World) (hs : s.size ≤ 1000000) : Calls Try.prog 13 #[.string s] w (IntIs w (first s.data.toList)) := by
  go_enter Try.func13, Try.ntmps13
  go_wp2
  refine wp_scope_jumps_once 0 (FirstJ w s) (fun a _ => s.size - (intOf (a.tmps.getD 4 undef)).toNat) rfl ?pass ?first
  case first =>
    intro hbody
    have Hb := Lib.hid hbody; clear hbody
    go_wp2_with (first
      | (go_at_call 21; (with_reducible refine (Gear_any _).mono ?_); rintro e w1 ⟨rfl, hb1⟩)
      | (refine wpList_build_of rfl 40 (.tmp 5) rfl (.agg gearList.toArray) (.agg gearCells.toArray) rfl build_gear ?_)
      | (refine wpList_alloc_of rfl 40 rfl zeroGear.toArray alloc_gear ?_)
      | (refine wpList_store_blk rfl 40 (.tmp 3) (.tmp 6) rfl w1.heap.size gearCells.toArray rfl rfl (Blk.new w1 _ _) (by rw [gearCells_size]; exact info_gear) (by rw [gearCells_size]; exact zeroGear_size) gearCells_one ?_; intro w10 hB10 hC10))
    go_step3
    rename_i hK
    refine hK _ _ (Hb.out _ _ ?_)
    refine ⟨w1.heap.size, 0, hb1.size, by omega, ⟨gearCells.toArray, hB10, ?_, ?_, ?_⟩, ⟨_, _, _, _, _, _, _, _, _, _, _, _, _, _, _, rfl⟩⟩
    · have := geared_list []
      rw [List.append_nil] at this
      exact this
    · simp [first]
    · exact (((Chg.of_below hb1 (fun _ => False)).alloc _).next hC10 (fun i h => .inr (by have := hb1.size; omega))).belowAll
  case pass =>
    rintro a wr ⟨b, j, hbw, hj, ⟨cs, hB, hG, hfi, hbe⟩, u5, u6, u7, u8, u9, u10, u11, u12, u13, u14, u15, u16, u17, u18, u19, rfl⟩
    by_cases hlt : j < s.size
    · obtain ⟨x, hx⟩ : ∃ x, s.data.toList.getD j 0 = x := ⟨_, rfl⟩
      have hxs : s[j] = x := by rw [← hx, getD_str s j hlt]
      have hl' : j < s.data.toList.length := hlt
      have hx' : s.data.toList[j] = x := by rw [← hx]; simp [List.getD, List.getElem?_eq_getElem hl']
      have htk : s.data.toList.take (j + 1) = s.data.toList.take j ++ [x] := by rw [List.take_succ_eq_append_getElem hl', hx']
      have hdr : s.data.toList.drop j = x :: s.data.toList.drop (j + 1) := by rw [List.drop_eq_getElem_cons hl', hx']
      have hlen : (s.data.toList.take j).length = j := by rw [List.length_take]; omega
      have hfi2 : (if ends (s.data.toList.take j ++ [x]) then (s.data.toList.take j).length + 1 else firstGo (s.data.toList.take j ++ [x]) (s.data.toList.drop (j + 1))) = first s.data.toList := by
        rw [← hfi, hdr, firstGo]
      rw [hlen, ← htk] at hfi2
      have hend : ends (s.data.toList.take (j + 1)) = endsAt (j + 1) (roll (s.data.toList.take (j + 1))) := by
        unfold ends
        rw [htk, List.length_append, hlen]
        rfl
      have Hrl : Hid (roll1 (roll (s.data.toList.take j)) x = roll (s.data.toList.take (j + 1))) := by rw [htk]; exact (roll_snoc _ x).symm
      have hdec : ((j : Int) == (s.size : Int)) = false := by simp; omega
      have hjl : j < 4611686018427387904 := by omega
      have HB := Lib.hid hB; clear hB
      have HG := Lib.hid hG; clear hG
      have Hbe := Lib.hid hbe; clear hbe
      clear hx hl' hx' htk hdr hlen hfi
      rw [hend] at hfi2
      clear hend
      have hjj : (j : Int) + 1 - 1 = (j : Int) := by omega
      generalize hbe : endsAt (j + 1) (roll (s.data.toList.take (j + 1))) = be at *
      have Hend := Lib.hid hbe; clear hbe
      have Hfi := Lib.hid hfi2; clear hfi2
      cases be
      · go_wp2_with (go_at_call 22; (with_reducible refine (take_to b 40 cs _ (roll (s.data.toList.take (j + 1))) j (j + 1) x false _ HB.out HG.out hjl rfl Hrl.out Hend.out).mono ?_); rintro e w2 ⟨rfl, hB3, hC3⟩)
        go_step3
        refine And.intro rfl (And.intro ?_ ?_)
        · exact ⟨b, j + 1, hbw, by omega, ⟨_, hB3, HG.out.taken _ _, by simpa using Hfi.out, ((Chg.of_below Hbe.out (fun k => w.heap.size ≤ k)).next hC3 (fun i h => .inr (by omega))).below (Nat.le_refl _) (fun k h => h)⟩, _, _, _, _, _, _, _, _, _, _, _, _, _, _, _, rfl⟩
        · show s.size - (intOf (.int .i64 ((j : Int) + 1))).toNat < s.size - (intOf (.int .i64 (j : Int))).toNat
          simp only [intOf]
          omega
      · go_wp2_with (go_at_call 22; (with_reducible refine (take_to b 40 cs _ (roll (s.data.toList.take (j + 1))) j (j + 1) x true _ HB.out HG.out hjl rfl Hrl.out Hend.out).mono ?_); rintro e w2 ⟨rfl, hB3, hC3⟩)
        simp only [Exit.jump]
        go_ret
        refine ⟨?_, ((Chg.of_below Hbe.out (fun k => w.heap.size ≤ k)).next hC3 (fun i h => .inr (by omega))).below (Nat.le_refl _) (fun k h => h)⟩
        have := Hfi.out
        rw [if_pos trivial] at this
        rw [← this]
        rfl
    · obtain rfl : j = s.size := by omega
      have e0 : s.data.toList.take s.size = s.data.toList := List.take_of_length_le (Nat.le_refl s.size)
      have e1 : s.data.toList.drop s.size = [] := List.drop_of_length_le (Nat.le_refl s.size)
      rw [e0, e1, firstGo] at hfi
      have Hf : Hid (IntIs w (first s.data.toList) (.returned (.int .i64 s.size)) wr) := ⟨by rw [← hfi]; rfl, hbe⟩
      clear hB hG hfi hbe e0 e1 hlt hj hbw
      go_wp2
      simp only [Exit.jump]
      go_ret
      exact Hf.out
end Go.Proofs.Ytljaekmdeojceaa
