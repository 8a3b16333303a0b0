/- The document's sha: the walk of Of. -/
import Derived.Test.YtkfngeckojobbaaDoorRef02Block
import Derived.Test.YtkfngeckojobbaaDoorRef02OfPlain
import Derived.Test.YtkfngeckojobbaaDoorShaOf
namespace Go.Proofs.YtkfngeckojobbaaDoor
open Go.RowKit Sha
/-- what is left of the length's bits -/
def bitsAt (n i : Nat) : Nat := 8 * n / 256 ^ i
theorem bitsAt_next (n i : Nat) : (bitsAt n i : Int) / 256 = (bitsAt n (i + 1) : Int) := by
  unfold bitsAt
  rw [Nat.pow_succ, ← Nat.div_div_eq_div_mul]
  omega
theorem lenByte_nat (n i : Nat) : (lenByte n i).toNat = bitsAt n i % 256 := by
  unfold lenByte bitsAt
  rw [UInt8.toNat_ofNat', Nat.mul_comm n 8, Nat.pow_mul]
theorem lenByte_int (n i : Nat) : (bitsAt n i : Int) % 256 = ((lenByte n i).toNat : Int) := by rw [lenByte_nat]; omega
theorem lenBk_length (n : Nat) : ∀ i, (lenBk n i).length = i
  | 0 => rfl
  | i + 1 => by simp [lenBk, lenBk_length n i]
theorem bitsAt_le (n i : Nat) : bitsAt n i ≤ 8 * n := Nat.div_le_self _ _
set_option maxHeartbeats 4000000 in
set_option maxRecDepth 100000 in
theorem ref_Of (s : ByteArray) (w : World) (hs : s.size ≤ 1000000) : Calls Tryd.prog 11 #[.string s] w (SumIs w (sha s.data.toList)) := by
  have k0 := Blk.new w 24 z32
  have Hk0 := Lib.hid k0; clear k0
  go_enter Tryd.func11, Tryd.ntmps11
  go_wp2_with fail
  obtain ⟨w1, hw1⟩ : ∃ w1 : World, w1 = w.alloc (.cells z32 24) := ⟨_, rfl⟩
  have hb1 : Below w.heap.size w w1 := by rw [hw1]; exact (Below.refl _ _).alloc (Nat.le_refl _) _
  have hz1 : w1.heap.size = w.heap.size + 1 := by rw [hw1]; simp
  rw [← hw1] at Hk0
  change Code.wp _ _ _ _ (w.alloc (.cells z32 24))
  rw [← hw1]
  clear hw1
  have hz1' := Lib.hid hz1; clear hz1
  go_loopg [3] 64 (fun m t wr => ∃ (j : Nat) (z : ByteArray), j ≤ zeros s.size ∧ m = 64 - j ∧ t = .string z ∧ z.data.toList = s.data.toList ++ (128 :: List.replicate j 0) ∧ w1 = wr)
  case atStart => exact ⟨0, s ++ ⟨#[128]⟩, by omega, rfl, rfl, by rw [app_toList]; rfl, rfl⟩
  case round =>
    obtain ⟨j, z, hj, rfl, rfl, hz, rfl⟩ := hrel
    have hzs : z.size = s.size + 1 + j := by
      have h1 : z.data.toList.length = z.size := rfl
      have h2 : s.data.toList.length = s.size := rfl
      rw [hz] at h1
      simp at h1
      omega
    have hzr : zeros s.size < 64 := Nat.mod_lt _ (by omega)
    have Hz := Lib.hid hz; clear hz
    have hok := zeros_ok s.size j hj
    by_cases hlt : j < zeros s.size
    · have d1 : ((z.size : Int) % 64 != 56) = true := by
        rw [bne_iff_ne]
        intro h
        have : (s.size + 1 + j) % 64 = 56 := by omega
        rw [hok] at this
        omega
      have Hzs := Lib.hid hzs; clear hzs hok
      have hzb : z.size ≤ 1000100 := by rw [Hzs.out]; omega
      go_wp2_with fail
      go_roundg (64 - (j + 1))
      case measure => omega
      case rel => exact ⟨j + 1, z ++ ⟨#[0]⟩, by omega, rfl, rfl, by rw [app_toList, Hz.out]; simp [List.replicate_succ'], rfl⟩
    · have d1 : ((z.size : Int) % 64 != 56) = false := by
        rw [bne_eq_false_iff_eq]
        have : (s.size + 1 + j) % 64 = 56 := by rw [hok]; omega
        omega
      obtain rfl : j = zeros s.size := by omega
      have Hzs := Lib.hid hzs; clear hzs hok
      have hzb : z.size ≤ 1000100 := by rw [Hzs.out]; omega
      go_wp2_with fail
      clear d1
      go_loopg [4, 5, 6] 8 (fun m b t i wr => ∃ (j : Nat) (y : ByteArray), j ≤ 8 ∧ m = 8 - j ∧ i = .int .i64 j ∧ b = .int .i64 (bitsAt s.size j) ∧ t = .string y ∧ y.data.toList = lenBk s.size j ∧ Below w1.heap.size w1 wr)
      case atStart => exact ⟨0, ⟨#[]⟩, by omega, rfl, rfl, by simp [bitsAt], rfl, rfl, by exact Below.refl _ _⟩
      case round =>
        obtain ⟨j, y, hj8, rfl, rfl, rfl, rfl, hy, hbr⟩ := hrel
        have hys : y.size ≤ 8 := by
          have h1 : y.data.toList.length = y.size := rfl
          rw [hy, lenBk_length] at h1
          omega
        have Hy := Lib.hid hy; clear hy
        by_cases hlt : j < 8
        · have hbn := Lib.hid (bitsAt_next s.size j)
          have hli := lenByte_int s.size j
          have hble := bitsAt_le s.size j
          have Hlb : Hid (lenBk s.size (j + 1) = lenByte s.size j :: lenBk s.size j) := rfl
          generalize lenByte s.size j = lb at *
          generalize bitsAt s.size j = bb at *
          have hlb := lt_u8 lb
          have t1 : decide ((j : Int) < 8) = true := by simp; omega
          have hcv := run_str_of_row (P := Tryd.prog) (wr.alloc (.cells #[.int .u8 lb.toNat] 5)) 44 9 5 (.slice (some ⟨wr.heap.size, 0, none⟩) 1 1) 1 [lb] Tryd.underlying44 Tryd.underlying5 Tryd.underlying9 (Row.new wr 5 1 1 #[bv lb] (by simp [maxLen]) rfl)
          go_wp2_with fail
          go_roundg (8 - (j + 1))
          case measure => omega
          case rel => exact ⟨j + 1, ⟨#[lb]⟩ ++ y, by omega, rfl, by go_num, by rw [hbn.out], rfl, by rw [app_toList, Hy.out, Hlb.out]; rfl, hbr.alloc hbr.size _⟩
        · obtain rfl : j = 8 := by omega
          have hTl : (z ++ y).data.toList = whole s.data.toList := by
            rw [app_toList, Hz.out, Hy.out, lenBk_eq]
            simp [whole, pad]
          have hTs : (z ++ y).size ≤ 1000200 := by rw [app_size]; omega
          have t1 : decide ((8 : Int) < 8) = false := by simp
          clear Hy Hz Hzs
          have hzy : z.size + y.size ≤ 1000200 := by rw [← app_size]; exact hTs
          go_wp2_with (go_at_call 21; (with_reducible refine (ref_constants _).mono ?_); rintro e w5 ⟨vk, rfl, hRk, hnk, hb5⟩)
          clear t1
          have hb2 : Below w1.heap.size w1 w5 := below_then (hbr.alloc hbr.size _) hb5 (Nat.le_refl _)
          have hRh : Row w5 3 1 (.slice (some ⟨wr.heap.size, 0, none⟩) 8 8) 8 (begin_.words.map iw) := (Row.new wr 3 1 8 (begin_.words.map iw).toArray (by simp [maxLen]) rfl).belowAll hb5
          have Hsh := Lib.hid (after_all s.data.toList)
          have hm64 := whole_length s.data.toList
          have hTz : (z ++ y).size = (whole s.data.toList).length := by rw [← hTl]; rfl
          generalize whole s.data.toList = WL at *
          generalize z ++ y = T at *
          obtain ⟨NB, hNB⟩ : ∃ NB, NB = WL.length / 64 := ⟨_, rfl⟩
          rw [← hNB] at Hsh
          have hT64 : T.size = 64 * NB := by omega
          have HTl := Lib.hid hTl
          have HT64 := Lib.hid hT64
          have Hkk : Hid (Reads w5 1 vk 64 (kTab.map iw)) := hRk.reads
          have hNB2 : NB ≤ 20000 := by omega
          clear hTl hT64 hm64 hTz hNB hRk hnk hzy
          go_loopg [7, 9] NB (fun m vh i wr => ∃ (j : Nat), j ≤ NB ∧ m = NB - j ∧ i = .int .i64 (64 * j : Nat) ∧ Row wr 3 1 vh 8 ((after WL j).words.map iw) ∧ Below w5.heap.size w5 wr)
          case atStart => exact ⟨0, by omega, rfl, rfl, hRh, Below.refl _ _⟩
          case round =>
            clear hRh
            obtain ⟨j, hj, rfl, rfl, hR, hb6⟩ := hrel
            have HR := Lib.hid hR; clear hR
            by_cases hlt : j < NB
            · have hex : (T.extract (64 * j) (64 * j + 64)).data.toList = (WL.drop (64 * j)).take 64 := by
                rw [ByteArray.data_extract, Array.toList_extract, HTl.out]
                simp [List.extract]
              have hes : (T.extract (64 * j) (64 * j + 64)).size = 64 := by rw [ByteArray.size_extract, HT64.out]; omega
              have hbk := fun w h1 h2 => ref_block u7 vk (after WL j) (T.extract (64 * j) (64 * j + 64)) w hes h1 h2
              rw [hex, ← after_next] at hbk
              have Hbk := Lib.hid hbk; clear hbk hex hes
              have b1 : ((64 * j : Nat) : Int) < (T.size : Int) := by rw [HT64.out]; omega
              have b2 : ((64 * j : Nat) : Int) + 64 ≤ (T.size : Int) := by rw [HT64.out]; omega
              obtain ⟨J, hJ⟩ : ∃ J, 64 * j = J := ⟨_, rfl⟩
              rw [hJ] at b1 b2 Hbk
              have HJ := Lib.hid hJ
              rw [hJ]
              clear hJ
              have n1 : ((J : Int) + 64).toNat = J + 64 := by omega
              go_wp2_with (go_at_call 22; (with_reducible refine (Hbk.out _ HR.out.reads (Hkk.out.belowAll hb6)).mono ?_); rintro e w7 ⟨v7, rfl, hR7, hn7, hb7⟩)
              go_roundg (NB - (j + 1))
              case measure => omega
              case rel => exact ⟨j + 1, by omega, rfl, by rw [← HJ.out]; go_num, hR7, below_then hb6 hb7 (Nat.le_refl _)⟩
            · obtain rfl : j = NB := by omega
              have d1 : decide (64 * j < T.size) = false := by rw [HT64.out]; simp
              obtain ⟨gh, oh, caph, rfl, hob, hc1, hc2, hcl, hfr⟩ := HR.out.form (by omega)
              unfold maxLen at hc2
              clear hob hcl hfr
              generalize after WL j = st at *
              have hbS := below_then hb2 hb6 (by have := hb2.size; omega)
              have kS := Blk.new wr 24 z32
              have HkS := Lib.hid kS; clear kS
              obtain ⟨wS, rfl⟩ : ∃ wS : World, wS = wr := ⟨_, rfl⟩
              obtain ⟨J, hJ⟩ : ∃ J, 64 * j = J := ⟨_, rfl⟩
              rw [hJ] at d1 ⊢
              go_wp2_with fail
              go_loopg [11] 32 (fun m i wr => ∃ (q : Nat), q ≤ 32 ∧ m = 32 - q ∧ i = .int .i64 q ∧ wr.rowIs wS.heap.size 24 32 (fun k => bv (if k < q then st.bytes.getD k 0 else 0)) ∧ Below wS.heap.size wS wr)
              case atStart => exact ⟨0, by omega, rfl, rfl, HkS.out.row rfl (fun i hi => z32_at i hi), (Below.refl _ _).alloc (Nat.le_refl _) _⟩
              case round =>
                obtain ⟨q, hq, rfl, rfl, hrow, hbq⟩ := hrel
                have Hrow := Lib.hid hrow; clear hrow
                by_cases hlq : q < 32
                · have Kq := Lib.hid (iw_at st.words (q / 4) (by show q / 4 < 8; omega))
                  have cq := (HR.out.belowAll hbq).at_ Kq.out
                  have Hby := Lib.hid (Sha.bytes_at st q hlq)
                  generalize st.words.getD (q / 4) 0 = y at *
                  have q1 : (q : Int) / 4 < 8 := by omega
                  have q2 : ((q : Int) / 4).toNat = q / 4 := by omega
                  have q3 : (0 : Int) ≤ (q : Int) / 4 := by omega
                  go_wp2_with fail
                  obtain ⟨R, hR, hR3⟩ : ∃ R : Nat, (3 : Int) - (q : Int) % 4 = (R : Int) ∧ R ≤ 3 := ⟨3 - q % 4, by omega, by omega⟩
                  have HR4 : Hid (q % 4 = 3 - R) := by show _ = _; omega
                  have HyI := Lib.hid (byteOf_int y R hR3)
                  obtain ⟨wq, rfl⟩ : ∃ wq : World, wq = wr := ⟨_, rfl⟩
                  have hyb : y.toNat < 4294967296 := y.toNat_lt
                  clear q1 q2 q3 cq
                  go_loopg [12, 13] 3 (fun m x i wr => ∃ (n d : Nat), n ≤ R ∧ m = 3 - n ∧ i = .int .i64 n ∧ x = .int .i64 d ∧ d = y.toNat / 256 ^ n ∧ d ≤ 4294967295 ∧ wq = wr)
                  case atStart => exact ⟨0, y.toNat, by omega, rfl, rfl, rfl, by simp, by omega, rfl⟩
                  case round =>
                    obtain ⟨n, d, hn, rfl, rfl, rfl, hd, hd2, rfl⟩ := hrel
                    have Hd := Lib.hid hd; clear hd
                    by_cases hln : n < R
                    · go_wp2_with fail
                      go_roundg (3 - (n + 1))
                      case measure => omega
                      case rel => exact ⟨n + 1, d / 256, by omega, rfl, by go_num, by go_num, by rw [Hd.out, Nat.pow_succ, Nat.div_div_eq_div_mul], by omega, rfl⟩
                    · obtain rfl : n = R := by omega
                      have t1 : decide (n < n) = false := by simp
                      have Hb : Hid ((d : Int) % 256 = ((st.bytes.getD q 0).toNat : Int)) := by
                        show _ = _
                        rw [Hby.out, HR4.out, HyI.out, Hd.out, Int.natCast_ediv, Int.natCast_pow]
                        rfl
                      obtain ⟨bb, hbq0⟩ : ∃ bb, st.bytes.getD q 0 = bb := ⟨_, rfl⟩
                      rw [hbq0] at Hb
                      have Hbq := Lib.hid hbq0; clear hbq0
                      have hbb := lt_u8 bb
                      have hb' := Hb.out
                      have cO := Hrow.out.cell (i := q) hlq
                      have fO := Hrow.out.frozen (i := q)
                      have jq : (q : Int) < 32 := by omega
                      go_wp2_with fail
                      go_roundg (32 - (q + 1))
                      case measure => omega
                      case rel =>
                        refine ⟨q + 1, by omega, rfl, by go_num, ?_, hbq.setCell (Nat.le_refl _) _⟩
                        refine (Hrow.out.set q _).congr (fun k hk => ?_)
                        by_cases e : k = q
                        · rw [if_pos e, if_pos (by omega), e, Hbq.out]; rfl
                        · rw [if_neg e]
                          by_cases h2 : k < q
                          · rw [if_pos h2, if_pos (by omega)]
                          · rw [if_neg h2, if_neg (by omega)]
                · obtain rfl : q = 32 := by omega
                  have t1 : decide ((32 : Int) < 32) = false := by simp
                  have hl32 : st.bytes.length = 32 := rfl
                  have hBS : Blk wr wS.heap.size 24 (st.bytes.map bv).toArray := Blk.of_row Hrow.out (by rw [sum_size hl32]) (fun i hi => by
                    rw [if_pos hi, List.getElem?_toArray, List.getElem?_map, List.getElem?_eq_getElem (by omega)]
                    simp [List.getD, List.getElem?_eq_getElem (show i < st.bytes.length by omega)])
                  have HBS := Lib.hid hBS; clear hBS
                  have hB0 : Blk wr w.heap.size 24 z32 := ((Hk0.out.belowAll hbS).belowAll hbq)
                  have HB0 := Lib.hid hB0; clear hB0
                  have Hl32 := Lib.hid hl32; clear hl32
                  go_wp2_with (first
                    | (refine wpList_load_blk rfl 24 (.tmp 10) rfl wS.heap.size rfl HBS.out Tryd.underlying24 rfl (by rw [sum_size Hl32.out]; exact info_sum) ?_)
                    | (refine wpList_store_blk rfl 24 (.tmp 2) (.tmp 80) rfl w.heap.size (st.bytes.map bv).toArray rfl rfl HB0.out (by rw [sum_size Hl32.out]; exact info_sum) (by rw [sum_size Hl32.out]; rfl) (bv_one st.bytes) ?_; intro w10 hB10 hC10))
                  refine bodyPost_ret (results_blk rfl _ _ w.heap.size rfl hB10 Tryd.underlying24 rfl (by rw [sum_size Hl32.out]; exact info_sum)) rfl ?_
                  rw [← Hsh.out]
                  have hz := hb1.size
                  have b1 := below_then (below_then hb1 hbS (by omega)) hbq (Nat.le_refl _)
                  exact ⟨rfl, ((Chg.of_below b1 (fun _ => False)).next hC10 (fun i h => .inr (by omega))).belowAll⟩
end Go.Proofs.YtkfngeckojobbaaDoor
