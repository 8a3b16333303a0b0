/- The document's cutting: the walk of armariumref13.First. -/
import Derived.Test.YtljaekmdeojceaaCdcSame
import Derived.Test.YtljaekmdeojceaaCdcRefPlain
import Derived.Test.YtljaekmdeojceaaCdcRefGear
namespace Go.Proofs.Ytljaekmdeojceaa
open Go.RowKit Cdc
theorem shr54 (h : UInt64) : (h >>> 54 == 0) = decide ((h.toNat : Int) < 18014398509481984) := by
  rw [← beq0_u64, ← s54_u64, Bool.eq_iff_iff, beq_iff_eq, decide_eq_true_iff]
  have := lt_u64 h
  omega
theorem shr58 (h : UInt64) : (h >>> 58 == 0) = decide ((h.toNat : Int) < 288230376151711744) := by
  rw [← beq0_u64, ← s58_u64, Bool.eq_iff_iff, beq_iff_eq, decide_eq_true_iff]
  have := lt_u64 h
  omega
theorem wshl2_u64 (s : UInt64) : IntKind.u64.wrap (2 * (s.toNat : Int)) = ((s <<< 1).toNat : Int) := by
  rw [Int.mul_comm]; exact wshl_u64 s
theorem first_step (L : List UInt8) (k : Nat) (x : UInt8) (hx : L[k]? = some x) :
    firstGo (L.take k) (L.drop k) = if endsAt (k + 1) (roll1 (roll (L.take k)) x) then k + 1 else firstGo (L.take (k + 1)) (L.drop (k + 1)) := by
  obtain ⟨hl, hx'⟩ := List.getElem?_eq_some_iff.1 hx
  have h1 : L.drop k = x :: L.drop (k + 1) := by rw [← hx']; exact List.drop_eq_getElem_cons hl
  have h2 : L.take (k + 1) = L.take k ++ [x] := by rw [List.take_succ_eq_append_getElem hl, hx']
  have h3 : (L.take k).length = k := by simp; omega
  rw [h1, h2]
  simp only [firstGo]
  rw [h3]
  congr 1
  unfold ends
  rw [roll_snoc]
  simp [h3]
theorem roll_step (L : List UInt8) (k : Nat) (x : UInt8) (hx : L[k]? = some x) : roll (L.take (k + 1)) = roll1 (roll (L.take k)) x := by
  obtain ⟨hl, hx'⟩ := List.getElem?_eq_some_iff.1 hx
  rw [List.take_succ_eq_append_getElem hl, hx', roll_snoc]
set_option maxHeartbeats 1000000 in
set_option maxRecDepth 100000 in
theorem RefFirst_any (s : ByteArray) (w : World) (hs : s.size ≤ 1000000) :
    Calls Try.prog 14 #[.string s] w fun e w' => e = .returned (.int .i64 (first s.data.toList)) ∧ w = w' := by
  go_enter Try.func14, Try.ntmps14
  go_wp2
  go_loop [3, 4] (fun t i => ∃ k : Nat, k ≤ s.size ∧ k < 1024 ∧ i = .int .i64 (k + 1) ∧ t = .int .u64 (roll (s.data.toList.take k)).toNat ∧ firstGo (s.data.toList.take k) (s.data.toList.drop k) = first s.data.toList) (fun _ i => s.size + 1 - (intOf i).toNat)
  case atStart => exact ⟨0, by omega, by omega, rfl, rfl, rfl⟩
  case round =>
    obtain ⟨k, hk, hk2, rfl, rfl, hfst⟩ := hrel
    by_cases hlt : k < s.size
    · have hxl : s.data.toList[k]? = some s[k] := List.getElem?_eq_getElem (l := s.data.toList) hlt
      have hst := first_step _ _ _ hxl
      rw [hfst] at hst
      have hro := roll_step _ _ _ hxl
      clear hxl hfst
      obtain ⟨x, hx⟩ : ∃ x, s[k] = x := ⟨_, rfl⟩
      rw [hx] at hst hro
      unfold roll1 at hst hro
      have hc := RefGear_any x
      have HC := Lib.hid hc; clear hc
      generalize gear x.toNat = gx at *
      generalize roll (s.data.toList.take k) = num at *
      have e1 := wshl2_u64 num
      generalize num <<< 1 = nm at *
      have e2 := waddG_u64 nm gx
      generalize nm + gx = num' at *
      obtain ⟨nv, hnv⟩ : ∃ nv : Int, (num'.toNat : Int) = nv := ⟨_, rfl⟩
      rw [hnv] at e2
      have Hnv := Lib.hid hnv; clear hnv
      have Hst := Lib.hid hst; clear hst
      have Hro := Lib.hid hro; clear hro
      have hxb := lt_u8 x
      have i1 : (k : Int) < (s.size : Int) := by omega
      by_cases h1 : k + 1 < 64
      · have q1 : (((k : Int) + 1) == 1024) = false := by simp; omega
        have q2 : decide ((64 : Int) ≤ (k : Int) + 1) = false := by simp; omega
        have q3 : decide ((256 : Int) ≤ (k : Int) + 1) = false := by simp; omega
        go_wp2_with (go_at_call 23; (with_reducible refine (HC.out _).mono ?_); rintro e w1 ⟨rfl, rfl⟩)
        clear q1 q2 q3
        go_round
        case rel => exact ⟨k + 1, by omega, by omega, by go_num, by rw [Hro.out, Hnv.out], by rw [Hst.out]; simp [endsAt, h1]⟩
        case measure => simp [intOf]; omega
      · by_cases h2 : k + 1 < 256
        · have q1 : (((k : Int) + 1) == 1024) = false := by simp; omega
          have q2 : decide ((64 : Int) ≤ (k : Int) + 1) = true := by simp; omega
          have q3 : decide ((k : Int) + 1 < 256) = true := by simp; omega
          have q4 : decide ((256 : Int) ≤ (k : Int) + 1) = false := by simp; omega
          have Hen : Hid (endsAt (k + 1) num' = decide (nv < 18014398509481984)) := by
            show _ = _
            rw [← Hnv.out, endsAt, if_neg h1, if_pos h2, shr54]
          by_cases h3 : nv < 18014398509481984
          · have q5 : decide (nv < 18014398509481984) = true := by simpa using h3
            clear h3
            go_wp2_with (go_at_call 23; (with_reducible refine (HC.out _).mono ?_); rintro e w1 ⟨rfl, rfl⟩)
            go_ret
            exact ⟨by rw [Hst.out, Hen.out, q5]; rfl, rfl⟩
          · have q5 : decide (nv < 18014398509481984) = false := by simpa using h3
            clear h3
            go_wp2_with (go_at_call 23; (with_reducible refine (HC.out _).mono ?_); rintro e w1 ⟨rfl, rfl⟩)
            have q6 := Lib.hid q5
            clear q1 q2 q3 q4 q5
            go_round
            case rel => exact ⟨k + 1, by omega, by omega, by go_num, by rw [Hro.out, Hnv.out], by rw [Hst.out, Hen.out, q6.out]; rfl⟩
            case measure => simp [intOf]; omega
        · by_cases h4 : k + 1 < 1024
          · have q1 : (((k : Int) + 1) == 1024) = false := by simp; omega
            have q2 : decide ((64 : Int) ≤ (k : Int) + 1) = true := by simp; omega
            have q3 : decide ((k : Int) + 1 < 256) = false := by simp; omega
            have q4 : decide ((256 : Int) ≤ (k : Int) + 1) = true := by simp; omega
            have Hen : Hid (endsAt (k + 1) num' = decide (nv < 288230376151711744)) := by
              show _ = _
              rw [← Hnv.out, endsAt, if_neg h1, if_neg h2, if_pos h4, shr58]
            by_cases h3 : nv < 288230376151711744
            · have q5 : decide (nv < 288230376151711744) = true := by simpa using h3
              clear h3
              go_wp2_with (go_at_call 23; (with_reducible refine (HC.out _).mono ?_); rintro e w1 ⟨rfl, rfl⟩)
              go_ret
              exact ⟨by rw [Hst.out, Hen.out, q5]; rfl, rfl⟩
            · have q5 : decide (nv < 288230376151711744) = false := by simpa using h3
              clear h3
              go_wp2_with (go_at_call 23; (with_reducible refine (HC.out _).mono ?_); rintro e w1 ⟨rfl, rfl⟩)
              have q6 := Lib.hid q5
              clear q1 q2 q3 q4 q5
              go_round
              case rel => exact ⟨k + 1, by omega, by omega, by go_num, by rw [Hro.out, Hnv.out], by rw [Hst.out, Hen.out, q6.out]; rfl⟩
              case measure => simp [intOf]; omega
          · have q1 : (((k : Int) + 1) == 1024) = true := by simp; omega
            have Hen : Hid (endsAt (k + 1) num' = true) := by
              show _ = _
              rw [endsAt, if_neg h1, if_neg h2, if_neg h4]
            clear h2 h4
            go_wp2_with (go_at_call 23; (with_reducible refine (HC.out _).mono ?_); rintro e w1 ⟨rfl, rfl⟩)
            go_ret
            exact ⟨by rw [Hst.out, Hen.out]; rfl, rfl⟩
    · have hdec : decide ((k : Int) + 1 ≤ (s.size : Int)) = false := by simp; omega
      have Hf : Hid (first s.data.toList = s.size) := by
        show _ = _
        rw [← hfst]
        obtain rfl : k = s.size := by omega
        have hl : s.data.toList.length = s.size := rfl
        rw [List.drop_eq_nil_of_le (by omega)]
        simp [firstGo, hl]
      clear hfst
      go_wp2
      go_ret
      exact ⟨by rw [Hf.out]; rfl, rfl⟩
end Go.Proofs.Ytljaekmdeojceaa
