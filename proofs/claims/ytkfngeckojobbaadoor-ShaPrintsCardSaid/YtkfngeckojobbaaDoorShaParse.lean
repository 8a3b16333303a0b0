/- What sha.Parse computes: walks. -/
import Derived.Test.YtkfngeckojobbaaDoorShaHex
import Derived.Test.YtkfngeckojobbaaDoorShaParsePlain
import Derived.Test.YtkfngeckojobbaaDoorWords2
namespace Go.Proofs.YtkfngeckojobbaaDoor
open Go.RowKit Sha

theorem nibble_any (b : UInt8) (w : World) :
    Calls Tryd.prog 26 #[.int .u8 b.toNat] w fun e w' => e = .returned (.tuple #[.int .u8 (nibV b).toNat, .bool (nibB b)]) ∧ w = w' := by
  have hb := lt_u8 b
  by_cases h1 : 48 ≤ b.toNat ∧ b.toNat ≤ 57
  · have e1 : nibV b = b - 48 := by simp [nibV, UInt8.le_iff_toNat_le, h1]
    have e2 : nibB b = true := by simp [nibB, UInt8.le_iff_toNat_le, h1]
    have e3 : ((b - 48).toNat : Int) = (b.toNat : Int) - 48 := by rw [UInt8.toNat_sub_of_le _ _ (by rw [UInt8.le_iff_toNat_le]; exact h1.1)]; simp; omega
    rw [e1, e2, e3]
    clear e1 e2 e3
    obtain ⟨ha, hc⟩ := h1
    have t1 : decide ((48 : Int) ≤ b.toNat) = true := by simp; omega
    have t2 : decide ((b.toNat : Int) ≤ 57) = true := by simp; omega
    go_enter Tryd.func26, Tryd.ntmps26
    go_wp2
    go_ret2
    exact ⟨rfl, rfl⟩
  · by_cases h2 : 97 ≤ b.toNat ∧ b.toNat ≤ 102
    · have e1 : nibV b = b - 97 + 10 := by simp [nibV, UInt8.le_iff_toNat_le, h1, h2]
      have e2 : nibB b = true := by simp [nibB, UInt8.le_iff_toNat_le, h2]
      have e3 : ((b - 97 + 10).toNat : Int) = (b.toNat : Int) - 97 + 10 := by
        rw [UInt8.toNat_add, UInt8.toNat_sub_of_le _ _ (by rw [UInt8.le_iff_toNat_le]; exact h2.1)]; simp; omega
      rw [e1, e2, e3]
      clear e1 e2 e3
      obtain ⟨ha, hc⟩ := h2
      have t1 : decide ((48 : Int) ≤ b.toNat) = true := by simp; omega
      have t2 : decide ((b.toNat : Int) ≤ 57) = false := by simp; omega
      have t3 : decide ((97 : Int) ≤ b.toNat) = true := by simp; omega
      have t4 : decide ((b.toNat : Int) ≤ 102) = true := by simp; omega
      go_enter Tryd.func26, Tryd.ntmps26
      go_wp2
      go_ret2
      exact ⟨rfl, rfl⟩
    · have e1 : nibV b = 0 := by
        unfold nibV
        rw [if_neg (by simp [UInt8.le_iff_toNat_le]; intro h; omega), if_neg (by simp [UInt8.le_iff_toNat_le]; intro h; omega)]
      have e2 : nibB b = false := by
        simp only [nibB, UInt8.le_iff_toNat_le, Bool.or_eq_false_iff, Bool.and_eq_false_iff, decide_eq_false_iff_not]
        simp
        omega
      rw [e1, e2]
      clear e1 e2
      by_cases c1 : 48 ≤ b.toNat
      · have t1 : decide ((48 : Int) ≤ b.toNat) = true := by simp; omega
        have t2 : decide ((b.toNat : Int) ≤ 57) = false := by simp; omega
        by_cases c2 : 97 ≤ b.toNat
        · have t3 : decide ((97 : Int) ≤ b.toNat) = true := by simp; omega
          have t4 : decide ((b.toNat : Int) ≤ 102) = false := by simp; omega
          go_enter Tryd.func26, Tryd.ntmps26
          go_wp2
          go_ret2
          exact ⟨rfl, rfl⟩
        · have t3 : decide ((97 : Int) ≤ b.toNat) = false := by simp; omega
          go_enter Tryd.func26, Tryd.ntmps26
          go_wp2
          go_ret2
          exact ⟨rfl, rfl⟩
      · have t1 : decide ((48 : Int) ≤ b.toNat) = false := by simp; omega
        have t3 : decide ((97 : Int) ≤ b.toNat) = false := by simp; omega
        go_enter Tryd.func26, Tryd.ntmps26
        go_wp2
        go_ret2
        exact ⟨rfl, rfl⟩

/-- a result whose first part lies in a block known whole -/
theorem results_blk_tmp {P : Program} {fn : Func} {p u : Tmp} {ty : TypeId} (h : fn.results = #[.cell p ty, .tmp u]) (tmps : Array Value) (w : World) (g : Nat) {t : TypeId} {cs : Array Value} {d : TypeDesc}
    (hp : tmps.getD p undef = .pointer (some ⟨g, 0, none⟩)) (hB : Blk w g t cs)
    (hu : P.underlying ty = some d) (hd : (match d with | .struct _ | .array _ _ => true | _ => false) = true) (hi : (P.info? ty).map (·.size) = some cs.size) :
    (results fn tmps).run P w = .ok (.tuple #[.agg cs, tmps.getD u undef]) w := by
  have hp' : tmps[p]?.getD undef = .pointer (some ⟨g, 0, none⟩) := by simpa using hp
  simp [results, h, hp', asAddr, run_loadVar_row w g t ty cs (0, 0) d hB hu hd hi]

/-- an address and a number: what Parse answers -/
def ParseIs (w : World) (r : Option (List UInt8)) (e : Ending) (w' : World) : Prop :=
  e = .returned (.tuple #[.agg ((r.getD (List.replicate 32 0)).map bv).toArray, .int .i64 (if r.isSome then 0 else 12)]) ∧ Below w.heap.size w w'

set_option maxHeartbeats 1000000 in
theorem Parse_any (s : ByteArray) (w : World) (hs : s.size ≤ 9223372036854775807) :
    Calls Tryd.prog 17 #[.string s] w (ParseIs w (parse s.data.toList)) := by
  have k0 : Blk ((w.alloc (.cells z32 24)).alloc (.cells z32 24)) w.heap.size 24 z32 := (Blk.new w 24 z32).alloc _
  have k1 : Blk ((w.alloc (.cells z32 24)).alloc (.cells z32 24)) (w.heap.size + 1) 24 z32 := by
    have := Blk.new (w.alloc (.cells z32 24)) 24 z32
    simpa using this
  have Hk0 := Lib.hid k0; clear k0
  have Hk1 := Lib.hid k1; clear k1
  by_cases h64 : s.size = 64
  · have ht : ((s.size : Int) != 64) = false := by rw [bne_eq_false_iff_eq]; omega
    have HP : Hid (parse s.data.toList = parseTo s.data.toList 32) := by
      show _ = _
      unfold parse
      rw [if_pos (show s.data.toList.length = 64 from h64)]
    have h64' : 64 ≤ s.size := by omega
    have H64 := Lib.hid h64; clear h64
    go_enter Tryd.func17, Tryd.ntmps17
    go_wp2_with fail
    go_loopg [14] 32 (fun k i wr => ∃ (j : Nat) (l : List UInt8), j ≤ 32 ∧ k = 32 - j ∧ i = .int .i64 j ∧ parseTo s.data.toList j = some l ∧ wr.rowIs (w.heap.size + 1) 24 32 (fun k => bv (l.getD k 0)) ∧ Blk wr w.heap.size 24 z32 ∧ Chg (fun _ => False) w wr)
    case atStart => exact ⟨0, [], by omega, rfl, rfl, rfl, Hk1.out.row rfl (fun i hi => z32_at i hi), Hk0.out, (((Chg.refl _ w).alloc _).alloc _)⟩
    case round =>
      obtain ⟨j, l, hj, rfl, rfl, hp, hr, hB0, hC⟩ := hrel
      have Hp := Lib.hid hp; clear hp
      have HB0 := Lib.hid hB0; clear hB0
      by_cases hlt : j < 32
      · have c0 := hr.cell (i := j) (by omega)
        have f0 := hr.frozen (i := j)
        have HR := Lib.hid hr; clear hr
        have i1 : 2 * j < s.size := by omega
        have i2 : 2 * j + 1 < s.size := by omega
        have g1 := getD_str s (2 * j) i1
        have g2 := getD_str s (2 * j + 1) i2
        have HN : Hid (parseTo s.data.toList (j + 1) = if nibB s[2 * j] && nibB s[2 * j + 1] then some (l ++ [nibV s[2 * j] <<< 4 ||| nibV s[2 * j + 1]]) else none) := by
          show _ = _
          simp only [parseTo, Hp.out, g1, g2]
        clear g1 g2
        by_cases hb1 : nibB s[2 * j] = true
        · by_cases hb2 : nibB s[2 * j + 1] = true
          · rw [hb1, hb2] at HN
            go_wp2_with (go_at_call 26; refine (nibble_any _ _).mono ?_; rintro e w' ⟨rfl, rfl⟩)
            go_roundg (32 - (j + 1))
            case measure => omega
            case rel =>
              refine ⟨j + 1, l ++ [nibV s[2 * j] <<< 4 ||| nibV s[2 * j + 1]], by omega, rfl, by go_num, HN.out, ?_, HB0.out.far (by simp) _, hC.setCell (.inr (by simp)) _⟩
              have hl := parseTo_length _ _ _ Hp.out
              have e1 : bits BinOp.or IntKind.u8 (((nibV s[2 * j]).toNat : Int) * 16 % 256) ((nibV s[2 * j + 1]).toNat : Int) = ((nibV s[2 * j] <<< 4 ||| nibV s[2 * j + 1]).toNat : Int) := by
                have := shl_u8 (nibV s[2 * j]) 4 (by omega)
                rw [show ((16 : Int)) = 2 ^ 4 from rfl, this, or_u8]; rfl
              rw [e1]
              refine (HR.out.set j _).congr (fun k hk => ?_)
              rw [← getD_end 0 l _ k j hl]
              split <;> rfl
          · rw [hb1, show nibB s[2 * j + 1] = false by simpa using hb2] at HN
            have hb2' : nibB s[2 * j + 1] = false := by simpa using hb2
            clear hb2
            go_wp2_with (first
              | (go_at_call 26; refine (nibble_any _ _).mono ?_; rintro e w' ⟨rfl, rfl⟩)
              | (refine wpList_store_blk rfl 24 (.tmp 2) (.tmp 40) rfl w.heap.size z32 rfl rfl HB0.out info_sum rfl (bv_one (List.replicate 32 0)) ?_; intro w10 hB10 hC10))
            refine bodyPost_ret (results_blk_tmp rfl _ _ w.heap.size rfl hB10 Tryd.underlying24 rfl info_sum) rfl ?_
            have HE : parse s.data.toList = none := HP.out.trans (parseTo_none _ (j + 1) HN.out 32 (by omega))
            rw [HE]
            exact ⟨rfl, (hC.next hC10 (fun i h => .inr (by omega))).belowAll⟩
        · rw [show nibB s[2 * j] = false by simpa using hb1] at HN
          have hb1' : nibB s[2 * j] = false := by simpa using hb1
          clear hb1
          by_cases hb2 : nibB s[2 * j + 1] = true
          all_goals
            go_wp2_with (first
              | (go_at_call 26; refine (nibble_any _ _).mono ?_; rintro e w' ⟨rfl, rfl⟩)
              | (refine wpList_store_blk rfl 24 (.tmp 2) (.tmp 40) rfl w.heap.size z32 rfl rfl HB0.out info_sum rfl (bv_one (List.replicate 32 0)) ?_; intro w10 hB10 hC10))
            refine bodyPost_ret (results_blk_tmp rfl _ _ w.heap.size rfl hB10 Tryd.underlying24 rfl info_sum) rfl ?_
            have HE : parse s.data.toList = none := HP.out.trans (parseTo_none _ (j + 1) HN.out 32 (by omega))
            rw [HE]
            exact ⟨rfl, (hC.next hC10 (fun i h => .inr (by omega))).belowAll⟩
      · obtain rfl : j = 32 := by omega
        have hl := parseTo_length _ _ _ Hp.out
        have hB1 : Blk wr (w.heap.size + 1) 24 (l.map bv).toArray := Blk.of_row hr (by simp [hl]) (fun i hi => by
          rw [List.getElem?_toArray, List.getElem?_map, List.getElem?_eq_getElem (by omega)]
          simp [List.getD, List.getElem?_eq_getElem (show i < l.length by omega)])
        have HB1 := Lib.hid hB1; clear hB1
        have Hl := Lib.hid hl; clear hl
        clear hr
        go_wp2_with (first
          | (refine wpList_load_blk rfl 24 (.tmp 4) rfl (w.heap.size + 1) rfl HB1.out Tryd.underlying24 rfl (by rw [sum_size Hl.out]; exact info_sum) ?_)
          | (refine wpList_store_blk rfl 24 (.tmp 2) (.tmp 48) rfl w.heap.size (l.map bv).toArray rfl rfl HB0.out (by rw [sum_size Hl.out]; exact info_sum) (by rw [sum_size Hl.out]; rfl) (bv_one l) ?_; intro w10 hB10 hC10))
        refine bodyPost_ret (results_blk_tmp rfl _ _ w.heap.size rfl hB10 Tryd.underlying24 rfl (by rw [sum_size Hl.out]; exact info_sum)) rfl ?_
        have HE : parse s.data.toList = some l := HP.out.trans Hp.out
        rw [HE]
        exact ⟨rfl, (hC.next hC10 (fun i h => .inr (by omega))).belowAll⟩
  · have ht : ((s.size : Int) != 64) = true := by rw [bne_iff_ne]; omega
    have HP : Hid (parse s.data.toList = none) := by
      show _ = _
      unfold parse
      rw [if_neg (show ¬ s.data.toList.length = 64 from h64)]
    go_enter Tryd.func17, Tryd.ntmps17
    go_wp2_with (refine wpList_store_blk rfl 24 (.tmp 2) (.tmp 13) rfl w.heap.size z32 rfl rfl Hk0.out info_sum rfl (bv_one (List.replicate 32 0)) ?_; intro w10 hB10 hC10)
    refine bodyPost_ret (results_blk_tmp rfl _ _ w.heap.size rfl hB10 Tryd.underlying24 rfl info_sum) rfl ?_
    rw [HP.out]
    exact ⟨rfl, ((((Chg.refl _ w).alloc _).alloc _).next hC10 (fun i h => .inr (by omega))).belowAll⟩
end Go.Proofs.YtkfngeckojobbaaDoor
