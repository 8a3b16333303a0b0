/- ShaOrders: the law's walk. -/
import Derived.Test.YtkfngeckojobbaaDoorShaAwake
import Derived.Test.YtkfngeckojobbaaDoorSumVal
import Derived.Test.YtkfngeckojobbaaDoorShaCmp
namespace Go.Proofs.YtkfngeckojobbaaDoor
open Go.RowKit Sha
section
open Lib
theorem cmp_self (a : List UInt8) : compareBytes a a = 0 := by
  induction a with
  | nil => rfl
  | cons x a ih => simp [compareBytes, ih]
theorem cmp_swap : ∀ a b : List UInt8, compareBytes b a = - compareBytes a b
  | [], [] => by simp [compareBytes]
  | [], _ :: _ => by simp [compareBytes]
  | _ :: _, [] => by simp [compareBytes]
  | x :: a, y :: b => by
    have ih := cmp_swap a b
    simp only [compareBytes]
    by_cases h1 : x < y
    · have h2 : ¬ y < x := by rw [UInt8.lt_iff_toNat_lt] at *; omega
      simp [h1, h2]
    · by_cases h2 : y < x
      · simp [h1, h2]
      · simp [h1, h2, ih]
theorem cmp_take_ne : ∀ (i : Nat) (a b : List UInt8), compareBytes (a.take i) (b.take i) ≠ 0 → a.length = b.length → compareBytes a b = compareBytes (a.take i) (b.take i)
  | 0, a, b, h, _ => by simp [compareBytes] at h
  | i + 1, [], [], h, _ => by simp [compareBytes] at h
  | i + 1, [], _ :: _, h, hl => by simp at hl
  | i + 1, _ :: _, [], h, hl => by simp at hl
  | i + 1, x :: a, y :: b, h, hl => by
    simp only [List.take_succ_cons, compareBytes] at h ⊢
    by_cases h1 : x < y
    · simp [h1]
    · by_cases h2 : y < x
      · simp [h1, h2]
      · simp only [h1, h2, if_false] at h ⊢
        exact cmp_take_ne i a b h (by simpa using hl)
theorem cmp_take_succ : ∀ (i : Nat) (a b : List UInt8), compareBytes (a.take i) (b.take i) = 0 → i < a.length → i < b.length →
    compareBytes (a.take (i + 1)) (b.take (i + 1)) = if a.getD i 0 < b.getD i 0 then -1 else if b.getD i 0 < a.getD i 0 then 1 else 0
  | 0, x :: a, y :: b, _, _, _ => by simp [compareBytes]
  | i + 1, x :: a, y :: b, h, h1, h2 => by
    simp only [List.take_succ_cons, compareBytes] at h
    by_cases c1 : x < y
    · simp [c1] at h
    · by_cases c2 : y < x
      · simp [c1, c2] at h
      · simp only [c1, c2, if_false] at h
        have := cmp_take_succ i a b h (by simpa using h1) (by simpa using h2)
        rw [List.take_succ_cons, List.take_succ_cons, compareBytes, if_neg c1, if_neg c2, this]
        simp
  | 0, [], _, _, h, _ => by simp at h
  | 0, _ :: _, [], _, _, h => by simp at h
  | i + 1, [], _, _, h, _ => by simp at h
  | i + 1, _ :: _, [], _, _, h => by simp at h
theorem cmp_bound (a b : List UInt8) : -1 ≤ compareBytes a b ∧ compareBytes a b ≤ 1 := by
  induction a generalizing b with
  | nil => cases b <;> simp [compareBytes]
  | cons x a ih =>
    cases b with
    | nil => simp [compareBytes]
    | cons y b =>
      simp only [compareBytes]
      split
      · omega
      · split
        · omega
        · exact ih b
end

set_option maxHeartbeats 1000000 in
theorem ShaOrders_walk (w : World) (a : List UInt8) (ha : a.length = 32) (b : List UInt8) (hb : b.length = 32) (hT : ShaTabs w) :
    Calls Tryd.prog 4 #[.agg (a.map bv).toArray, .agg (b.map bv).toArray] w fun e w' => e = .returned (.bool true) ∧ Below w.heap.size w w' := by
  have HT := Lib.hid hT; clear hT
  have k0 : Blk ((w.alloc (.cells (a.map bv).toArray 24)).alloc (.cells (b.map bv).toArray 24)) w.heap.size 24 (a.map bv).toArray := (Blk.new w _ _).alloc _
  have k1 : Blk ((w.alloc (.cells (a.map bv).toArray 24)).alloc (.cells (b.map bv).toArray 24)) (w.heap.size + 1) 24 (b.map bv).toArray := by
    have := Blk.new (w.alloc (.cells (a.map bv).toArray 24)) 24 (b.map bv).toArray
    simpa using this
  have Hk0 := Lib.hid k0; clear k0
  have Hk1 := Lib.hid k1; clear k1
  have Ha := Lib.hid ha; clear ha
  have Hb := Lib.hid hb; clear hb
  have Hia : Hid ((Tryd.prog.info? 24).map (·.size) = some (a.map bv).toArray.size) := by show _ = _; rw [sum_size Ha.out]; exact info_sum
  have Hib : Hid ((Tryd.prog.info? 24).map (·.size) = some (b.map bv).toArray.size) := by show _ = _; rw [sum_size Hb.out]; exact info_sum
  go_enter Tryd.func4, Tryd.ntmps4
  go_wp2_with fail
  go_loopg [5, 6] 32 (fun g r i wr => ∃ (k : Nat) (c : Int), g = 32 - k ∧ k ≤ 32 ∧ i = .int .i64 k ∧ r = .int .i64 c ∧ c = Lib.compareBytes (a.take k) (b.take k) ∧ Blk wr w.heap.size 24 (a.map bv).toArray ∧ Blk wr (w.heap.size + 1) 24 (b.map bv).toArray ∧ Chg (fun _ => False) w wr)
  case atStart => exact ⟨0, 0, rfl, by omega, rfl, rfl, rfl, Hk0.out, Hk1.out, ((Chg.refl _ w).alloc _).alloc _⟩
  case round =>
    obtain ⟨k, c, rfl, hk, rfl, rfl, hc, hA, hB, hC⟩ := hrel
    have Hc := Lib.hid hc; clear hc
    have HA := Lib.hid hA; clear hA
    have HB := Lib.hid hB; clear hB
    have hcb : -1 ≤ c ∧ c ≤ 1 := by rw [Hc.out]; exact cmp_bound _ _
    obtain ⟨hc1, hc2⟩ := hcb
    by_cases hlt : k < 32 ∧ c = 0
    · obtain ⟨hlt, rfl⟩ := hlt
      have t1 : decide ((k : Int) < 32) = true := by simp; omega
      have ca : wr.cell? ⟨w.heap.size, k, none⟩ = some (.int .u8 (a.getD k 0).toNat) := by
        have := blk_bytes HA.out k (by rw [Ha.out]; exact hlt)
        rw [Nat.zero_add] at this
        rw [this]; simp [List.getD, List.getElem?_eq_getElem (show k < a.length by rw [Ha.out]; exact hlt)]
      have cb : wr.cell? ⟨w.heap.size + 1, k, none⟩ = some (.int .u8 (b.getD k 0).toNat) := by
        have := blk_bytes HB.out k (by rw [Hb.out]; exact hlt)
        rw [Nat.zero_add] at this
        rw [this]; simp [List.getD, List.getElem?_eq_getElem (show k < b.length by rw [Hb.out]; exact hlt)]
      have Hn : Hid (Lib.compareBytes (a.take (k + 1)) (b.take (k + 1)) = if a.getD k 0 < b.getD k 0 then -1 else if b.getD k 0 < a.getD k 0 then 1 else 0) := cmp_take_succ k a b Hc.out.symm (by rw [Ha.out]; exact hlt) (by rw [Hb.out]; exact hlt)
      generalize a.getD k 0 = x at *
      generalize b.getD k 0 = y at *
      by_cases h1 : x < y
      · have hn : x.toNat < y.toNat := UInt8.lt_iff_toNat_lt.1 h1
        have d1 : decide ((x.toNat : Int) < y.toNat) = true := by simp; omega
        have d2 : decide ((y.toNat : Int) < x.toNat) = false := by simp; omega
        rw [if_pos h1] at Hn
        clear h1
        go_wp2_with fail
        go_quiet (fail)
        go_wp2_with fail
        go_quiet (fail)
        go_wp2_with fail
        go_roundg (32 - (k + 1))
        case measure => omega
        case rel => exact ⟨k + 1, -1, rfl, by omega, by go_num, rfl, Hn.out.symm, HA.out.drewN _, HB.out.drewN _, hC.drewN _⟩
      · rw [if_neg h1] at Hn
        by_cases h2 : y < x
        · have hn : y.toNat < x.toNat := UInt8.lt_iff_toNat_lt.1 h2
          have d1 : decide ((x.toNat : Int) < y.toNat) = false := by simp; omega
          have d2 : decide ((y.toNat : Int) < x.toNat) = true := by simp; omega
          rw [if_pos h2] at Hn
          clear h1 h2
          go_wp2_with fail
          go_quiet (fail)
          go_wp2_with fail
          go_quiet (fail)
          go_wp2_with fail
          go_roundg (32 - (k + 1))
          case measure => omega
          case rel => exact ⟨k + 1, 1, rfl, by omega, by go_num, rfl, Hn.out.symm, HA.out.drewN _, HB.out.drewN _, hC.drewN _⟩
        · have hn1 : ¬ x.toNat < y.toNat := fun h => h1 (UInt8.lt_iff_toNat_lt.2 h)
          have hn2 : ¬ y.toNat < x.toNat := fun h => h2 (UInt8.lt_iff_toNat_lt.2 h)
          have d1 : decide ((x.toNat : Int) < y.toNat) = false := by simp; omega
          have d2 : decide ((y.toNat : Int) < x.toNat) = false := by simp; omega
          rw [if_neg h2] at Hn
          clear h1 h2
          go_wp2_with fail
          go_quiet (fail)
          go_wp2_with fail
          go_quiet (fail)
          go_wp2_with fail
          go_roundg (32 - (k + 1))
          case measure => omega
          case rel => exact ⟨k + 1, 0, rfl, by omega, by go_num, rfl, Hn.out.symm, HA.out.drewN _, HB.out.drewN _, hC.drewN _⟩
    · have Hx : Hid (cmpSum a b = c) := by
        show cmpSum a b = c
        unfold cmpSum
        by_cases h32 : k = 32
        · rw [Hc.out, h32, List.take_of_length_le (by rw [Ha.out]; omega), List.take_of_length_le (by rw [Hb.out]; omega)]
        · rw [Hc.out]
          exact cmp_take_ne k a b (by rw [← Hc.out]; omega) (by rw [Ha.out, Hb.out])
      have Hy : Hid (cmpSum b a = -c) := by
        show cmpSum b a = -c
        rw [← Hx.out]; exact cmp_swap a b
      have Hz : Hid (cmpSum a a = 0) := cmp_self a
      have HCa := Cmp_any a b Ha.out Hb.out
      have HCb := Cmp_any b a Hb.out Ha.out
      have HCc := Cmp_any a a Ha.out Ha.out
      rw [Hx.out] at HCa
      rw [Hy.out] at HCb
      rw [Hz.out] at HCc
      have Ca := Lib.hid HCa; clear HCa
      have Cb := Lib.hid HCb; clear HCb
      have Cc := Lib.hid HCc; clear HCc
      have e1 : ((c : Int) == c) = true := by simp
      have e2 : ((-c : Int) == -c) = true := by simp
      have HT1 : Hid (ShaTabs wr) := HT.out.chg hC noTab_none
      rcases (show (k = 32) ∨ (k < 32 ∧ ¬ c = 0) by omega) with h32 | ⟨h32, hc0⟩
      · have t1 : decide ((k : Int) < 32) = false := by simp; omega
        clear h32 hlt
        go_wp2_with (first
      | (refine wpList_load_blk rfl 24 (.tmp 2) rfl w.heap.size rfl HA.out Tryd.underlying24 rfl Hia.out ?_)
      | (refine wpList_load_blk rfl 24 (.tmp 3) rfl (w.heap.size + 1) rfl HB.out Tryd.underlying24 rfl Hib.out ?_)
      | (refine wpList_load_blkG rfl 24 (.tmp 2) rfl w.heap.size rfl HA.out Tryd.underlying24 rfl Hia.out ?_)
      | (refine wpList_load_blkG rfl 24 (.tmp 3) rfl (w.heap.size + 1) rfl HB.out Tryd.underlying24 rfl Hib.out ?_))
        ((with_reducible refine (Ca.out _).mono ?_); rintro e w2 ⟨rfl, hb2⟩)
        have HA2 : Hid (Blk w2 w.heap.size 24 (a.map bv).toArray) := HA.out.belowAll hb2
        have HB2 : Hid (Blk w2 (w.heap.size + 1) 24 (b.map bv).toArray) := HB.out.belowAll hb2
        go_wp2_with (first
      | (refine wpList_load_blk rfl 24 (.tmp 2) rfl w.heap.size rfl HA2.out Tryd.underlying24 rfl Hia.out ?_)
      | (refine wpList_load_blk rfl 24 (.tmp 3) rfl (w.heap.size + 1) rfl HB2.out Tryd.underlying24 rfl Hib.out ?_)
      | (refine wpList_load_blkG rfl 24 (.tmp 2) rfl w.heap.size rfl HA2.out Tryd.underlying24 rfl Hia.out ?_)
      | (refine wpList_load_blkG rfl 24 (.tmp 3) rfl (w.heap.size + 1) rfl HB2.out Tryd.underlying24 rfl Hib.out ?_))
        ((with_reducible refine (Cb.out _).mono ?_); rintro e w3 ⟨rfl, hb3⟩)
        have HA3 : Hid (Blk w3 w.heap.size 24 (a.map bv).toArray) := HA2.out.belowAll hb3
        have HB3 : Hid (Blk w3 (w.heap.size + 1) 24 (b.map bv).toArray) := HB2.out.belowAll hb3
        go_wp2_with (first
      | (refine wpList_load_blk rfl 24 (.tmp 2) rfl w.heap.size rfl HA3.out Tryd.underlying24 rfl Hia.out ?_)
      | (refine wpList_load_blk rfl 24 (.tmp 3) rfl (w.heap.size + 1) rfl HB3.out Tryd.underlying24 rfl Hib.out ?_)
      | (refine wpList_load_blkG rfl 24 (.tmp 2) rfl w.heap.size rfl HA3.out Tryd.underlying24 rfl Hia.out ?_)
      | (refine wpList_load_blkG rfl 24 (.tmp 3) rfl (w.heap.size + 1) rfl HB3.out Tryd.underlying24 rfl Hib.out ?_))
        ((with_reducible refine (Cc.out _).mono ?_); rintro e w4 ⟨rfl, hb4⟩)
        have HT4 : Hid (ShaTabs w4) := ((HT1.out.belowAll hb2).belowAll hb3).belowAll hb4
        go_wp2_with fail
        ((with_reducible refine (awake_any _ HT4.out).mono ?_); rintro e w5 ⟨rfl, hb5⟩)
        go_wp2_with fail
        go_ret
        exact ⟨rfl, ((((hC.then_below hb2).then_below hb3).then_below hb4).then_below hb5).belowAll⟩
      · have t1 : decide ((k : Int) < 32) = true := by simp; omega
        have t2 : ((c : Int) == 0) = false := by simp; omega
        clear h32 hlt hc0
        go_wp2_with (first
      | (refine wpList_load_blk rfl 24 (.tmp 2) rfl w.heap.size rfl HA.out Tryd.underlying24 rfl Hia.out ?_)
      | (refine wpList_load_blk rfl 24 (.tmp 3) rfl (w.heap.size + 1) rfl HB.out Tryd.underlying24 rfl Hib.out ?_)
      | (refine wpList_load_blkG rfl 24 (.tmp 2) rfl w.heap.size rfl HA.out Tryd.underlying24 rfl Hia.out ?_)
      | (refine wpList_load_blkG rfl 24 (.tmp 3) rfl (w.heap.size + 1) rfl HB.out Tryd.underlying24 rfl Hib.out ?_))
        ((with_reducible refine (Ca.out _).mono ?_); rintro e w2 ⟨rfl, hb2⟩)
        have HA2 : Hid (Blk w2 w.heap.size 24 (a.map bv).toArray) := HA.out.belowAll hb2
        have HB2 : Hid (Blk w2 (w.heap.size + 1) 24 (b.map bv).toArray) := HB.out.belowAll hb2
        go_wp2_with (first
      | (refine wpList_load_blk rfl 24 (.tmp 2) rfl w.heap.size rfl HA2.out Tryd.underlying24 rfl Hia.out ?_)
      | (refine wpList_load_blk rfl 24 (.tmp 3) rfl (w.heap.size + 1) rfl HB2.out Tryd.underlying24 rfl Hib.out ?_)
      | (refine wpList_load_blkG rfl 24 (.tmp 2) rfl w.heap.size rfl HA2.out Tryd.underlying24 rfl Hia.out ?_)
      | (refine wpList_load_blkG rfl 24 (.tmp 3) rfl (w.heap.size + 1) rfl HB2.out Tryd.underlying24 rfl Hib.out ?_))
        ((with_reducible refine (Cb.out _).mono ?_); rintro e w3 ⟨rfl, hb3⟩)
        have HA3 : Hid (Blk w3 w.heap.size 24 (a.map bv).toArray) := HA2.out.belowAll hb3
        have HB3 : Hid (Blk w3 (w.heap.size + 1) 24 (b.map bv).toArray) := HB2.out.belowAll hb3
        go_wp2_with (first
      | (refine wpList_load_blk rfl 24 (.tmp 2) rfl w.heap.size rfl HA3.out Tryd.underlying24 rfl Hia.out ?_)
      | (refine wpList_load_blk rfl 24 (.tmp 3) rfl (w.heap.size + 1) rfl HB3.out Tryd.underlying24 rfl Hib.out ?_)
      | (refine wpList_load_blkG rfl 24 (.tmp 2) rfl w.heap.size rfl HA3.out Tryd.underlying24 rfl Hia.out ?_)
      | (refine wpList_load_blkG rfl 24 (.tmp 3) rfl (w.heap.size + 1) rfl HB3.out Tryd.underlying24 rfl Hib.out ?_))
        ((with_reducible refine (Cc.out _).mono ?_); rintro e w4 ⟨rfl, hb4⟩)
        have HT4 : Hid (ShaTabs w4) := ((HT1.out.belowAll hb2).belowAll hb3).belowAll hb4
        go_wp2_with fail
        ((with_reducible refine (awake_any _ HT4.out).mono ?_); rintro e w5 ⟨rfl, hb5⟩)
        go_wp2_with fail
        go_ret
        exact ⟨rfl, ((((hC.then_below hb2).then_below hb3).then_below hb4).then_below hb5).belowAll⟩
end Go.Proofs.YtkfngeckojobbaaDoor
