/- What the reference's Parse computes: the walk. -/
import Derived.Test.YtkfngeckojobbaaDoorRef02Hex
namespace Go.Proofs.YtkfngeckojobbaaDoor
open Go.RowKit Sha
/-- an address and a bool: what the reference's Parse answers -/
def RefParseIs (w : World) (r : Option (List UInt8)) (e : Ending) (w' : World) : Prop :=
  e = .returned (.tuple #[.agg ((r.getD (List.replicate 32 0)).map bv).toArray, .bool r.isSome]) ∧ Below w.heap.size w w'
/-- the number of a digit among the first n; -1: it is none of them -/
def atTo (c : UInt8) (n : Nat) : Int := if nibB c && (nibV c).toNat < n then (nibV c).toNat else -1
theorem atTo_succ (c : UInt8) (n : Nat) (hn : n < 16) : atTo c (n + 1) = if hexD (UInt8.ofNat n) == c then (n : Int) else atTo c n := by
  rw [digit_iff c n hn]
  unfold atTo
  cases nibB c
  · simp
  · simp only [Bool.true_and, decide_eq_true_eq, beq_iff_eq]
    by_cases h : (nibV c).toNat = n
    · rw [if_pos (by omega), if_pos h, h]
    · rw [if_neg h]
      by_cases h2 : (nibV c).toNat < n
      · rw [if_pos (by omega), if_pos h2]
      · rw [if_neg (by omega), if_neg h2]
theorem atTo_16 (c : UInt8) : atTo c 16 = if nibB c then ((nibV c).toNat : Int) else -1 := by
  unfold atTo
  have := nibV_lt c
  cases nibB c <;> simp [this]

set_option maxHeartbeats 2000000 in
theorem ref_Parse (s : ByteArray) (w : World) (hs : s.size ≤ 9223372036854775807) :
    Calls Tryd.prog 18 #[.string s] w (RefParseIs w (parse s.data.toList)) := by
  have k0 : Blk ((w.alloc (.cells z32 24)).alloc (.cells z32 24)) w.heap.size 24 z32 := (Blk.new w 24 z32).alloc _
  have k1 : Blk ((w.alloc (.cells z32 24)).alloc (.cells z32 24)) (w.heap.size + 1) 24 z32 := by
    have := Blk.new (w.alloc (.cells z32 24)) 24 z32
    simpa using this
  have Hk0 := Lib.hid k0; clear k0
  have Hk1 := Lib.hid k1; clear k1
  by_cases h64 : s.size = 64
  · have ht : ((s.size : Int) != 64) = false := by rw [bne_eq_false_iff_eq]; omega
    have HP : Hid (parse s.data.toList = parseTo s.data.toList 32) := by
      show _ = _
      unfold parse
      rw [if_pos (show s.data.toList.length = 64 from h64)]
    have h64' : 64 ≤ s.size := by omega
    have H64 := Lib.hid h64; clear h64
    go_enter Tryd.func18, Tryd.ntmps18
    go_wp2_with fail
    go_loopg [5] 64 (fun g i wr => ∃ (j : Nat), j ≤ 64 ∧ g = 64 - j ∧ i = .int .i64 j ∧ (∀ k, k < j → nibB (s.data.toList.getD k 0) = true) ∧ wr.rowIs (w.heap.size + 1) 24 32 (fun k => bv (outAt s.data.toList j k)) ∧ Blk wr w.heap.size 24 z32 ∧ Chg (fun _ => False) w wr)
    case atStart => exact ⟨0, by omega, rfl, rfl, fun k hk => by omega, Hk1.out.row rfl (fun i hi => by rw [z32_at i hi]; rfl), Hk0.out, (((Chg.refl _ w).alloc _).alloc _)⟩
    case round =>
      obtain ⟨j, hj, rfl, rfl, hp, hr, hB0, hC⟩ := hrel
      have Hp := Lib.hid hp; clear hp
      have HB0 := Lib.hid hB0; clear hB0
      have HR := Lib.hid hr; clear hr
      obtain ⟨w1, rfl⟩ : ∃ w1 : World, w1 = wr := ⟨_, rfl⟩
      by_cases hlt : j < 64
      · have i1 : j < s.size := by omega
        have t1 : decide ((j : Int) < 64) = true := by simp; omega
        have Hg : Hid (s.data.toList.getD j 0 = s[j]) := getD_str s j i1
        go_wp2_with fail
        go_loopg [6, 7] 16 (fun g a i wr => ∃ (n : Nat), n ≤ 16 ∧ g = 16 - n ∧ i = .int .i64 n ∧ a = .int .i64 (atTo s[j] n) ∧ ∃ q, wr = w1.drewN q)
        case atStart => exact ⟨0, by omega, rfl, rfl, by simp [atTo], 0, rfl⟩
        case round =>
          obtain ⟨n, hn, rfl, rfl, rfl, q, rfl⟩ := hrel
          by_cases hn16 : n < 16
          · have D1 : Hid (∀ W : World, Calls Tryd.prog 27 #[.int .i64 (n : Int)] W fun e w' => e = .returned (.int .u8 (hexD (UInt8.ofNat n)).toNat) ∧ W = w') := fun W => by
              have := ref_digit (n : Int) (by omega) (by omega) W
              rwa [Int.toNat_natCast] at this
            have Ha : Hid (atTo s[j] (n + 1) = if hexD (UInt8.ofNat n) == s[j] then (n : Int) else atTo s[j] n) := atTo_succ _ n hn16
            by_cases he : hexD (UInt8.ofNat n) = s[j]
            · have te : ((((hexD (UInt8.ofNat n)).toNat : Int)) == ((s[j].toNat : Int))) = true := by rw [he]; simp
              rw [he, show (s[j] == s[j]) = true from by simp, if_pos rfl] at Ha
              generalize hexD (UInt8.ofNat n) = x at *
              clear he
              go_wp2_with fail
              go_quiet ((go_at_call 27; exact quiet_add_left (D1.out _)))
              go_wp2_with fail
              go_roundg (16 - (n + 1))
              case measure => omega
              case rel => exact ⟨n + 1, by omega, rfl, by go_num, by rw [Ha.out], _, rfl⟩
            · have te : ((((hexD (UInt8.ofNat n)).toNat : Int)) == ((s[j].toNat : Int))) = false := by
                rw [beq_eq_false_iff_ne]; intro h; exact he (UInt8.toNat.inj (by omega))
              rw [show (hexD (UInt8.ofNat n) == s[j]) = false from by simpa using he, if_neg (by simp)] at Ha
              generalize hexD (UInt8.ofNat n) = x at *
              clear he
              go_wp2_with fail
              go_quiet ((go_at_call 27; exact quiet_add_left (D1.out _)))
              go_wp2_with fail
              go_roundg (16 - (n + 1))
              case measure => omega
              case rel => exact ⟨n + 1, by omega, rfl, by go_num, by rw [Ha.out], _, rfl⟩
          · obtain rfl : n = 16 := by omega
            have H16 := Lib.hid (atTo_16 s[j])
            have c0 := HR.out.cell (i := j / 2) (by omega)
            have f0 := HR.out.frozen (i := j / 2)
            have Hs1 : Hid ((outAt s.data.toList (j + 1) (j / 2)).toNat = (outAt s.data.toList j (j / 2)).toNat * 16 + (nibV s[j]).toNat) := by
              have := outAt_step s.data.toList j
              rwa [Hg.out] at this
            have hx := outAt_lt s.data.toList j
            generalize hox : outAt s.data.toList j (j / 2) = x at *
            have Hox := Lib.hid hox; clear hox
            have hv := nibV_lt s[j]
            unfold bv at c0
            have z1 : ((j : Int) / 2).toNat = j / 2 := by omega
            by_cases hb : nibB s[j] = true
            · rw [hb, if_pos rfl] at H16
              rw [H16.out]
              have t2 : decide (((nibV s[j]).toNat : Int) < 0) = false := by simp
              go_wp2_with fail
              go_roundg (64 - (j + 1))
              case measure => omega
              case rel =>
                refine ⟨j + 1, by omega, rfl, by go_num, fun k hk => ?_, ?_, (HB0.out.drewN q).far (by simp) _, (hC.drewN q).setCell (.inr (by simp)) _⟩
                · by_cases e : k = j
                  · rw [e, Hg.out]; exact hb
                  · exact Hp.out k (by omega)
                · refine ((HR.out.set (j / 2) _)).congr (fun k hk => ?_)
                  by_cases e : k = j / 2
                  · rw [if_pos e, e]
                    unfold bv
                    rw [Hs1.out]
                    rfl
                  · rw [if_neg e, outAt_other _ _ _ e]
            · have hb' : nibB s[j] = false := by simpa using hb
              rw [hb', if_neg (by simp)] at H16
              rw [H16.out]
              have HE : Hid (parse s.data.toList = none) := HP.out.trans (parseTo_bad _ 32 j (by omega) (by rw [Hg.out]; exact hb'))
              have hBq : Blk (w1.drewN q) w.heap.size 24 z32 := HB0.out.drewN q
              have HBq := Lib.hid hBq; clear hBq
              go_wp2_with (refine wpList_store_blk rfl 24 (.tmp 2) (.tmp 29) rfl w.heap.size z32 rfl rfl HBq.out info_sum rfl (bv_one (List.replicate 32 0)) ?_; intro w10 hB10 hC10)
              refine bodyPost_ret (results_blk_tmp rfl _ _ w.heap.size rfl hB10 Tryd.underlying24 rfl info_sum) rfl ?_
              rw [HE.out]
              exact ⟨rfl, ((hC.drewN q).next hC10 (fun i h => .inr (by omega))).belowAll⟩
      · obtain rfl : j = 64 := by omega
        have HE : Hid (parse s.data.toList = some ((List.range 32).map fun k => outAt s.data.toList 64 k)) := by
          show _ = _
          rw [HP.out, parseTo_some _ 32 (fun i hi => Hp.out i (by omega))]
          congr 1
        have hB1 : Blk w1 (w.heap.size + 1) 24 (((List.range 32).map fun k => outAt s.data.toList 64 k).map bv).toArray := Blk.of_row HR.out (by simp) (fun i hi => by
          simp [hi])
        generalize hll : ((List.range 32).map fun k => outAt s.data.toList 64 k) = l at *
        have Hl : Hid (l.length = 32) := by show _ = _; rw [← hll]; simp
        clear hll
        have HB1 := Lib.hid hB1; clear hB1
        go_wp2_with (first
          | (refine wpList_load_blk rfl 24 (.tmp 4) rfl (w.heap.size + 1) rfl HB1.out Tryd.underlying24 rfl (by rw [sum_size Hl.out]; exact info_sum) ?_)
          | (refine wpList_store_blk rfl 24 (.tmp 2) (.tmp 42) rfl w.heap.size (l.map bv).toArray rfl rfl HB0.out (by rw [sum_size Hl.out]; exact info_sum) (by rw [sum_size Hl.out]; rfl) (bv_one l) ?_; intro w10 hB10 hC10))
        refine bodyPost_ret (results_blk_tmp rfl _ _ w.heap.size rfl hB10 Tryd.underlying24 rfl (by rw [sum_size Hl.out]; exact info_sum)) rfl ?_
        rw [HE.out]
        exact ⟨rfl, (hC.next hC10 (fun i h => .inr (by omega))).belowAll⟩
  · have ht : ((s.size : Int) != 64) = true := by rw [bne_iff_ne]; omega
    have HP : Hid (parse s.data.toList = none) := by
      show _ = _
      unfold parse
      rw [if_neg (show ¬ s.data.toList.length = 64 from h64)]
    go_enter Tryd.func18, Tryd.ntmps18
    go_wp2_with (first
      | (refine wpList_load_blk rfl 24 (.tmp 4) rfl (w.heap.size + 1) rfl Hk1.out Tryd.underlying24 rfl info_sum ?_)
      | (refine wpList_store_blk rfl 24 (.tmp 2) (.tmp 11) rfl w.heap.size z32 rfl rfl Hk0.out info_sum rfl (bv_one (List.replicate 32 0)) ?_; intro w10 hB10 hC10))
    refine bodyPost_ret (results_blk_tmp rfl _ _ w.heap.size rfl hB10 Tryd.underlying24 rfl info_sum) rfl ?_
    rw [HP.out]
    exact ⟨rfl, ((((Chg.refl _ w).alloc _).alloc _).next hC10 (fun i h => .inr (by omega))).belowAll⟩
end Go.Proofs.YtkfngeckojobbaaDoor
