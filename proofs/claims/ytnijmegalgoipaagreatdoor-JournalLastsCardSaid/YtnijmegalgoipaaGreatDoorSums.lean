/- sums.Crc, and the document's check sum. -/
import Derived.Test.YtnijmegalgoipaaGreatDoorCrcPlain
import Derived.Test.YtnijmegalgoipaaGreatDoorTypes
import Derived.Test.YtnijmegalgoipaaGreatDoorEnvD
namespace Go.Proofs.YtnijmegalgoipaaGreatDoor
open Go.RowKit
theorem shr1i (y : UInt32) : (y.toNat : Int) / (2 : Int) = ((y >>> 1).toNat : Int) := shr_u32 y 1 (by omega)
theorem halved_any (x : UInt32) (w : World) : Calls Tryz.prog 163 #[.int .u32 x.toNat] w fun e w' => e = .returned (.int .u32 (Crc.half x).toNat) ∧ w = w' := by
  have h1 : ((x.toNat : Int) / 2) = ((x >>> 1).toNat : Int) := shr_u32 x 1 (by omega)
  refine W_enter (args := [.int .u32 x.toNat]) 11 Tryz.func163 rfl rfl rfl ?_
  refine W_sub [(0, .int .u32 x.toNat)] ?_ ⟨rfl, trivial⟩
  refine W_rs ?_
  refine sa rfl rfl ?_
  refine Wn ?_
  refine tN ?_
  refine W_seq ?_
  refine W_rs ?_
  refine sm rfl rfl ?_
  refine st (X.bits (by simp) rfl rfl (and_u32 x 1)) rfl ?_
  refine st (X.eql rfl rfl) rfl ?_
  refine Wn ?_
  refine tN ?_
  refine W_if rfl (fun h5 => ?_) (fun h5 => ?_)
  · first | replace h5 := of_decide_eq_true h5 | replace h5 := of_decide_eq_false (notT h5) | replace h5 := notT h5 | skip
    refine W_rs ?_
    refine sm rfl rfl ?_
    refine st (X.shrz (q := 2) rfl rfl (by decide) (by decide) rfl rfl h1) rfl ?_
    refine st (X.bits (by simp) rfl rfl (xor_u32 _ Crc.poly)) rfl ?_
    refine sa rfl rfl ?_
    refine Wn ?_
    refine tN ?_
    refine W_ret (tR ?_)
    refine (rT rfl rfl ⟨?_, rfl⟩).1
    unfold Crc.half; rw [if_pos (UInt32.toNat.inj (by show _ = 1; omega))]
  · first | replace h5 := of_decide_eq_false h5 | replace h5 := of_decide_eq_true (notF h5) | replace h5 := notF h5 | skip
    refine W_skip ?_
    refine tN ?_
    refine W_rs ?_
    refine sm rfl rfl ?_
    refine st (X.shrz (q := 2) rfl rfl (by decide) (by decide) rfl rfl h1) rfl ?_
    refine sa rfl rfl ?_
    refine Wn ?_
    refine tN ?_
    refine W_ret ?_
    refine (rT rfl rfl ⟨?_, rfl⟩).1
    unfold Crc.half; rw [if_neg (fun e => h5 (by rw [e]; rfl))]
def halfN : Nat → UInt32 → UInt32
  | 0, x => x
  | n + 1, x => Crc.half (halfN n x)
theorem row_any (b : UInt8) (w : World) : Calls Tryz.prog 146 #[.int .u8 b.toNat] w fun e w' => e = .returned (.int .u32 (Crc.row b).toNat) ∧ w = w' := by
  refine W_enter (args := [.int .u8 b.toNat]) 12 Tryz.func146 rfl rfl rfl ?_
  refine W_sub [(0, .int .u8 b.toNat)] ?_ ⟨rfl, trivial⟩
  refine W_rs ?_
  refine sa rfl rfl ?_
  refine Wn ?_
  refine tN ?_
  refine W_rs ?_
  refine sm rfl rfl ?_
  refine st (X.convI rfl Tryz.underlying5 Tryz.underlying118 ((w32 _).trans (u8_to_u32 b))) rfl ?_
  refine sa rfl rfl ?_
  refine Wn ?_
  refine tN ?_
  refine W_seq ?_
  refine W_rs ?_
  refine sm rfl rfl ?_
  refine Wn ?_
  refine tN ?_
  refine W_block ?_
  refine W_lp (fun nw1_ lw1_ w1 => ∃ j : Nat, nw1_ = 8 - j ∧ lw1_ = ([(3, .int .u32 (halfN j b.toUInt32).toNat), (6, .int .i64 j)] : Env) ∧ (j ≤ 8) ∧ (w = w1)) _ ⟨_, ⟨0, rfl, rfl, by omega, rfl⟩, ⟨rfl, rfl, trivial⟩⟩ ?_
  rintro nw1_ lw1_ w1 ⟨j, rfl, rfl, hj, hw⟩
  refine W_rs ?_
  refine st (X.lss rfl rfl) rfl ?_
  refine Wn ?_
  refine tN ?_
  refine W_seq ?_
  refine W_if rfl (fun h7 => ?_) (fun h7 => ?_)
  · first | replace h7 := of_decide_eq_true h7 | replace h7 := of_decide_eq_false (notT h7) | replace h7 := notT h7 | skip
    refine W_skip ?_
    refine tN ?_
    refine W_seq ?_
    refine W_block ?_
    refine W_reg ?_
    refine sm rfl rfl ?_
    refine sc _ Tryz.func163 rfl (by kernel_rfl) rfl rfl ((halved_any (halfN j b.toUInt32) _).mono ?_)
    rintro e_ w_ ⟨rfl, rfl⟩
    refine cR ?_
    refine sa rfl rfl ?_
    refine Wn ?_
    refine bN ?_
    refine tN ?_
    refine W_reg ?_
    refine st (X.add64 rfl rfl (by omega)) rfl ?_
    refine sm rfl rfl ?_
    refine Wn ?_
    refine tN ⟨_, _, ?_, ⟨j + 1, rfl, rfl, by omega, hw⟩, ⟨rfl, rfl, trivial⟩⟩
    omega
  · first | replace h7 := of_decide_eq_false h7 | replace h7 := of_decide_eq_true (notF h7) | replace h7 := notF h7 | skip
    refine W_exit (tE (tE (bH ?_)))
    refine tN ?_
    refine W_rs ?_
    refine sm rfl rfl ?_
    refine sa rfl rfl ?_
    refine Wn ?_
    refine tN ?_
    refine W_ret ?_
    refine (rT rfl rfl ⟨?_, hw⟩).1
    obtain rfl : j = 8 := by omega
    rfl
theorem rep_size (n : Nat) (v : Value) : (List.replicate n v).toArray.size = n := by simp
/-- the table's cells -/
def tabV : Array Value := ((List.range 256).map fun k => Value.int .u32 (Crc.row (UInt8.ofNat k)).toNat).toArray
theorem tabV_size : tabV.size = 256 := by simp [tabV]
theorem tabV_at (k : Nat) (h : k < 256) : tabV[k]? = some (.int .u32 (Crc.row (UInt8.ofNat k)).toNat) := by
  simp [tabV, h]
theorem tabV_one : tabV.toList.all (·.oneCell') = true := by
  simp [tabV, Value.oneCell']
def TabTo (cs : Array Value) (j : Nat) : Prop := cs.size = 256 ∧ ∀ k, k < j → cs[k]? = some (.int .u32 (Crc.row (UInt8.ofNat k)).toNat)
theorem TabTo.all {cs : Array Value} (h : TabTo cs 256) : cs = tabV := by
  apply Array.ext_getElem?
  intro k
  by_cases hk : k < 256
  · rw [h.2 k hk, tabV_at k hk]
  · rw [Array.getElem?_eq_none (by rw [h.1]; omega), Array.getElem?_eq_none (by rw [tabV_size]; omega)]
theorem TabTo.next {cs : Array Value} {j : Nat} (h : TabTo cs j) (hj : j < 256) : TabTo (cs.setIfInBounds j (.int .u32 (Crc.row (UInt8.ofNat j)).toNat)) (j + 1) := by
  refine ⟨by simpa using h.1, fun k hk => ?_⟩
  rw [Array.getElem?_setIfInBounds]
  by_cases e : j = k
  · subst e; rw [if_pos rfl, if_pos (by rw [h.1]; exact hj)]
  · rw [if_neg e]; exact h.2 k (by omega)
theorem table_any (w : World) : Calls Tryz.prog 126 #[] w fun e w' => e = .returned (.agg tabV) ∧ Below w.heap.size w w' := by
  refine W_enter (args := []) 13 Tryz.func126 rfl rfl rfl ?_
  have hbw := Below.refl w.heap.size w
  refine W_rs ?_
  refine salA inf169 rfl (fun g0 w1 hB0 hg0 hb hl0 => ?_)
  replace hbw := bthen hbw hb
  have hz_w1 := hb.size
  clear hb
  refine Wn ?_
  refine tN ?_
  refine W_rs ?_
  refine salA inf169 rfl (fun g1 w2 hB1 hg1 hb hl1 => ?_)
  replace hbw := bthen hbw hb
  replace hB0 := hB0.bel hb
  have hz_w2 := hb.size
  clear hb
  refine Wn ?_
  refine tN ?_
  refine W_seq ?_
  refine W_rs ?_
  refine sm rfl rfl ?_
  refine Wn ?_
  refine tN ?_
  refine W_block ?_
  refine W_lp (fun nw3_ lw3_ w3 => ∃ j : Nat, ∃ cs : Array Value, nw3_ = 256 - j ∧ lw3_ = ([(0, .pointer (some ⟨g0, 0, none⟩)), (1, .pointer (some ⟨g1, 0, none⟩)), (3, .int .i64 j)] : Env) ∧ (j ≤ 256) ∧ (TabTo cs j) ∧ (Blk w3 g0 169 (List.replicate 256 (.int .u32 0)).toArray) ∧ (Blk w3 g1 169 cs) ∧ (Below w.heap.size w w3)) _ ⟨_, ⟨0, _, rfl, rfl, by omega, ⟨rep_size 256 _, fun k hk => by omega⟩, hB0, hB1, hbw⟩, ⟨rfl, rfl, rfl, trivial⟩⟩ ?_
  clear hB0 hB1 hbw
  rintro nw3_ lw3_ w3 ⟨j, cs, rfl, rfl, hj, hcs, hB0, hB1, hbw⟩
  have hz_w3 := hbw.size
  have hlt_hB0_w3 := hB0.lt
  have hlt_hB1_w3 := hB1.lt
  refine W_rs ?_
  refine st (X.lss rfl rfl) rfl ?_
  refine Wn ?_
  refine tN ?_
  refine W_seq ?_
  refine W_if rfl (fun h4 => ?_) (fun h4 => ?_)
  · first | replace h4 := of_decide_eq_true h4 | replace h4 := of_decide_eq_false (notT h4) | replace h4 := notT h4 | skip
    skip
    refine W_skip ?_
    refine tN ?_
    refine W_seq ?_
    refine W_block ?_
    refine W_rs ?_
    refine sm rfl rfl ?_
    refine sa rfl rfl ?_
    refine Wn ?_
    refine tN ?_
    refine W_reg ?_
    refine sm rfl rfl ?_
    refine sm rfl rfl ?_
    refine st (X.convI rfl Tryz.underlying3 Tryz.underlying5 ((w8 _).trans (show ((j : Int) % 256) = ((UInt8.ofNat j).toNat : Int) by rw [UInt8.toNat_ofNat']; omega))) rfl ?_
    refine sc _ Tryz.func146 rfl (by kernel_rfl) rfl rfl ((row_any (UInt8.ofNat j) _).mono ?_)
    rintro e_ w_ ⟨rfl, rfl⟩
    refine cR ?_
    refine st (X.idxArr rfl rfl Tryz.underlying169 siz118 rfl (by omega)) rfl ?_
    refine ssB rfl rfl hB1 siz118 rfl (by rw [hcs.1]; omega) (fun w4 hB_ hc_ => ?_)
    rw [Nat.zero_add, Nat.mul_one] at hB_
    replace hB0 := hB0.chg hc_ (by show ¬ _ = _; omega)
    replace hB1 := hB_
    replace hbw := bset hbw hc_ (by omega)
    clear hB_ hc_
    refine Wn ?_
    refine bN ?_
    refine tN ?_
    refine W_reg ?_
    refine st (X.add64 rfl rfl (by omega)) rfl ?_
    refine sm rfl rfl ?_
    refine Wn ?_
    refine tN ⟨_, _, ?_, ⟨j + 1, _, rfl, rfl, by omega, hcs.next (by omega), hB0, hB1, hbw⟩, ⟨rfl, rfl, rfl, trivial⟩⟩
    omega
  · first | replace h4 := of_decide_eq_false h4 | replace h4 := of_decide_eq_true (notF h4) | replace h4 := notF h4 | skip
    obtain rfl : j = 256 := by omega
    obtain rfl := hcs.all
    refine W_exit (tE (tE (bH ?_)))
    refine tN ?_
    refine W_rs ?_
    refine st (X.ldBN rfl hB1 Tryz.underlying169 rfl (by rw [tabV_size]; exact siz169)) rfl ?_
    refine ssBN rfl rfl hB0 (by rw [tabV_size]; exact siz169) (by rw [tabV_size]; exact rep_size 256 _) tabV_one (fun w5 hB_ hc_ => ?_)
    replace hB0 := hB_
    clear hB_
    replace hB1 := hB1.chg hc_ (by first | (show ¬ _ = _; omega) | (intro k_ hk_; simp [Value.ownBlock] at hk_; subst hk_; show ¬ _ = _; omega) | assumption | trivial)
    replace hbw := bset hbw hc_ (by omega)
    have hz_w5 := hc_.size
    clear hc_
    refine Wn ?_
    refine tN ?_
    refine W_ret ?_
    exact (rC rfl rfl hB0 Tryz.underlying169 rfl (by rw [tabV_size]; exact siz169) ⟨rfl, hbw⟩).1
theorem xor_ones (x : UInt32) : bits .xor .u32 (x.toNat : Int) 4294967295 = ((x ^^^ Crc.ones).toNat : Int) := xor_u32 x Crc.ones
theorem toU8_xor (x : UInt32) (b : UInt8) : bits .xor .u8 ((x.toUInt8).toNat : Int) (b.toNat : Int) = ((x.toUInt8 ^^^ b).toNat : Int) := xor_u8 _ b
theorem More_any (c : UInt32) (s : List UInt8) (w : World) (hs : s.length ≤ 9223372036854775807) : Calls Tryz.prog 107 #[.int .u32 c.toNat, str s] w fun e w' => e = .returned (.int .u32 ((s.foldl Crc.step (c ^^^ Crc.ones)) ^^^ Crc.ones).toNat) ∧ Below w.heap.size w w' := by
  refine W_enter (args := [.int .u32 c.toNat, str s]) 30 Tryz.func107 rfl rfl rfl ?_
  refine W_sub [(0, .int .u32 c.toNat), (1, str s)] ?_ ⟨rfl, rfl, trivial⟩
  have hbw := Below.refl w.heap.size w
  refine W_rs ?_
  refine sa rfl rfl ?_
  refine Wn ?_
  refine tN ?_
  refine W_rs ?_
  refine sc _ Tryz.func126 rfl (by kernel_rfl) rfl rfl ((table_any _).mono ?_)
  rintro e_ w1 ⟨rfl, hb⟩
  refine cR ?_
  replace hbw := bthen hbw hb
  have hz_w1 := hb.size
  clear hb
  refine sm rfl rfl ?_
  refine st (X.bits (by simp) rfl rfl (xor_ones c)) rfl ?_
  refine salA inf169 rfl (fun g5 w2 hB5 hg5 hb hl5 => ?_)
  replace hbw := bthen hbw hb
  have hz_w2 := hb.size
  clear hb
  refine ssBN rfl rfl hB5 (by rw [tabV_size]; exact siz169) (by rw [tabV_size]; exact rep_size 256 _) tabV_one (fun w3 hB_ hc_ => ?_)
  replace hB5 := hB_
  clear hB_
  replace hbw := bset hbw hc_ (by omega)
  have hz_w3 := hc_.size
  clear hc_
  refine sa rfl rfl ?_
  refine Wn ?_
  refine tN ?_
  refine W_seq ?_
  refine W_rs ?_
  refine sm rfl rfl ?_
  refine st (X.lenS rfl rfl Tryz.underlying9) rfl ?_
  refine sm rfl rfl ?_
  refine Wn ?_
  refine tN ?_
  refine W_block ?_
  refine W_lp (fun nw4_ lw4_ w4 => ∃ j : Nat, nw4_ = s.length - j ∧ lw4_ = ([(1, str s), (5, .pointer (some ⟨g5, 0, none⟩)), (6, .int .u32 ((s.take j).foldl Crc.step (c ^^^ Crc.ones)).toNat), (12, .int .i64 s.length), (13, .int .i64 j)] : Env) ∧ (j ≤ s.length) ∧ (Blk w4 g5 169 tabV) ∧ (Below w.heap.size w w4)) _ ⟨_, ⟨0, rfl, rfl, by omega, hB5, hbw⟩, ⟨rfl, rfl, rfl, rfl, rfl, trivial⟩⟩ ?_
  clear hB5 hbw
  rintro nw4_ lw4_ w4 ⟨j, rfl, rfl, hj, hB5, hbw⟩
  have hz_w4 := hbw.size
  have hlt_hB5_w4 := hB5.lt
  refine W_rs ?_
  refine st (X.lss rfl rfl) rfl ?_
  refine Wn ?_
  refine tN ?_
  refine W_seq ?_
  refine W_if rfl (fun h14 => ?_) (fun h14 => ?_)
  · first | replace h14 := of_decide_eq_true h14 | replace h14 := of_decide_eq_false (notT h14) | replace h14 := notT h14 | skip
    obtain ⟨x, hx⟩ : ∃ x, (s.take j).foldl Crc.step (c ^^^ Crc.ones) = x := ⟨_, rfl⟩
    have htk : (s.take (j + 1)).foldl Crc.step (c ^^^ Crc.ones) = Crc.step x (s.getD j 0) := by
      rw [List.take_succ_eq_append_getElem (by omega), List.foldl_append, hx]; simp [List.getD, List.getElem?_eq_getElem (show j < s.length by omega)]
    rw [hx]
    refine W_skip ?_
    refine tN ?_
    refine W_seq ?_
    refine W_block ?_
    refine W_rs ?_
    refine sm rfl rfl ?_
    refine sa rfl rfl ?_
    refine Wn ?_
    refine tN ?_
    refine W_reg ?_
    refine sm rfl rfl ?_
    refine st (X.shrz (q := 256) rfl rfl (by decide) (by decide) rfl rfl (shr_u32 x 8 (by omega))) rfl ?_
    refine sm rfl rfl ?_
    refine st (X.convI rfl Tryz.underlying118 Tryz.underlying5 ((w8 _).trans (u32_to_u8 x))) rfl ?_
    refine sm rfl rfl ?_
    refine sm rfl rfl ?_
    refine st (X.idxS rfl rfl Tryz.underlying9 rfl (by omega)) rfl ?_
    refine st (X.bits (by simp) rfl rfl (toU8_xor x _)) rfl ?_
    refine st (X.idxArr (j := (x.toUInt8 ^^^ s.getD j 0).toNat) rfl rfl Tryz.underlying169 siz118 rfl (UInt8.toNat_lt _)) rfl ?_
    refine st (X.ldB rfl hB5 Tryz.underlying118 rfl (by rw [Nat.zero_add, Nat.mul_one, tabV_at _ (UInt8.toNat_lt _), UInt8.ofNat_toNat])) rfl ?_
    refine st (X.bits (by simp) rfl rfl (xor_u32 _ _)) rfl ?_
    refine sa rfl rfl ?_
    refine Wn ?_
    refine bN ?_
    refine tN ?_
    refine W_reg ?_
    refine st (X.add64 rfl rfl (by omega)) rfl ?_
    refine sm rfl rfl ?_
    refine Wn ?_
    refine tN ⟨_, _, ?_, ⟨j + 1, rfl, rfl, by omega, hB5, hbw⟩, ⟨rfl, rfl, by rw [htk]; rfl, rfl, rfl, trivial⟩⟩
    omega
  · first | replace h14 := of_decide_eq_false h14 | replace h14 := of_decide_eq_true (notF h14) | replace h14 := notF h14 | skip
    refine W_exit (tE (tE (bH ?_)))
    refine tN ?_
    refine W_rs ?_
    refine sm rfl rfl ?_
    refine st (X.bits (by simp) rfl rfl (xor_ones _)) rfl ?_
    refine sa rfl rfl ?_
    refine Wn ?_
    refine tN ?_
    refine W_ret ?_
    refine (rT rfl rfl ⟨?_, hbw⟩).1
    rw [List.take_of_length_le (by omega)]
theorem Crc_any (s : List UInt8) (w : World) (hs : s.length ≤ 9223372036854775807) : Calls Tryz.prog 76 #[str s] w fun e w' => e = .returned (.int .u32 (Crc.crc s).toNat) ∧ Below w.heap.size w w' := by
  refine W_enter (args := [str s]) 5 Tryz.func76 rfl rfl rfl ?_
  refine W_sub [(0, str s)] ?_ ⟨rfl, trivial⟩
  have hbw := Below.refl w.heap.size w
  refine W_rs ?_
  refine sa rfl rfl ?_
  refine Wn ?_
  refine tN ?_
  refine W_rs ?_
  refine sm rfl rfl ?_
  refine sc _ Tryz.func107 rfl (by kernel_rfl) rfl rfl ((More_any 0 s _ hs).mono ?_)
  rintro e_ w1 ⟨rfl, hb⟩
  refine cR ?_
  replace hbw := bthen hbw hb
  have hz_w1 := hb.size
  clear hb
  refine sa rfl rfl ?_
  refine Wn ?_
  refine tN ?_
  refine W_ret ?_
  exact (rT rfl rfl ⟨rfl, hbw⟩).1
theorem refCrc_any (s : List UInt8) (w : World) (hs : s.length ≤ 9223372036854775807) : Calls Tryz.prog 132 #[str s] w fun e w' => e = .returned (.int .u32 (Crc.crc s).toNat) ∧ w = w' := by
  refine W_enter (args := [str s]) 33 Tryz.func132 rfl rfl rfl ?_
  refine W_sub [(0, str s)] ?_ ⟨rfl, trivial⟩
  refine W_rs ?_
  refine sa rfl rfl ?_
  refine Wn ?_
  refine tN ?_
  refine W_rs ?_
  refine sa rfl rfl ?_
  refine Wn ?_
  refine tN ?_
  refine W_seq ?_
  refine W_rs ?_
  refine sa rfl rfl ?_
  refine Wn ?_
  refine tN ?_
  refine W_block ?_
  refine W_lp (fun nw1_ lw1_ w1 => ∃ j : Nat, nw1_ = s.length - j ∧ lw1_ = ([(0, str s), (3, .int .u32 ((s.take j).foldl Crc.stepB Crc.ones).toNat), (4, .int .i64 j)] : Env) ∧ (j ≤ s.length) ∧ (w = w1)) _ ⟨_, ⟨0, rfl, rfl, by omega, rfl⟩, ⟨rfl, rfl, rfl, trivial⟩⟩ ?_
  rintro nw1_ lw1_ w1 ⟨j, rfl, rfl, hj, hw⟩
  refine W_seq ?_
  refine W_rs ?_
  refine sm rfl rfl ?_
  refine sm rfl rfl ?_
  refine st (X.lenS rfl rfl Tryz.underlying9) rfl ?_
  refine st (X.lss rfl rfl) rfl ?_
  refine Wn ?_
  refine tN ?_
  refine W_if rfl (fun h10 => ?_) (fun h10 => ?_)
  · first | replace h10 := of_decide_eq_true h10 | replace h10 := of_decide_eq_false (notT h10) | replace h10 := notT h10 | skip
    obtain ⟨x, hx⟩ : ∃ x, (s.take j).foldl Crc.stepB Crc.ones = x := ⟨_, rfl⟩
    have htk : (s.take (j + 1)).foldl Crc.stepB Crc.ones = Crc.stepB x (s.getD j 0) := by
      rw [List.take_succ_eq_append_getElem (by omega), List.foldl_append, hx]; simp [List.getD, List.getElem?_eq_getElem (show j < s.length by omega)]
    rw [hx]
    refine W_skip ?_
    refine tN ?_
    refine W_seq ?_
    refine W_block ?_
    refine W_rs ?_
    refine sm rfl rfl ?_
    refine sm rfl rfl ?_
    refine sm rfl rfl ?_
    refine st (X.idxS rfl rfl Tryz.underlying9 rfl (by omega)) rfl ?_
    refine st (X.convI rfl Tryz.underlying5 Tryz.underlying118 ((w32 _).trans (u8_to_u32 _))) rfl ?_
    refine st (X.bits (by simp) rfl rfl (xor_u32 _ _)) rfl ?_
    refine sa rfl rfl ?_
    refine Wn ?_
    refine tN ?_
    refine W_rs ?_
    refine sa rfl rfl ?_
    refine Wn ?_
    refine tN ?_
    refine W_block ?_
    refine W_lp (fun nw2_ lw2_ w2 => ∃ i : Nat, nw2_ = 8 - i ∧ lw2_ = ([(0, str s), (3, .int .u32 (halfN i (x ^^^ (s.getD j 0).toUInt32)).toNat), (4, .int .i64 j), (5, .int .i64 i)] : Env) ∧ (i ≤ 8) ∧ (w = w2)) _ ⟨_, ⟨0, rfl, rfl, by omega, hw⟩, ⟨rfl, rfl, rfl, rfl, trivial⟩⟩ ?_
    clear hw
    rintro nw2_ lw2_ w2 ⟨i, rfl, rfl, hi, hw⟩
    refine W_seq ?_
    refine W_rs ?_
    refine sm rfl rfl ?_
    refine st (X.lss rfl rfl) rfl ?_
    refine Wn ?_
    refine tN ?_
    refine W_if rfl (fun h20 => ?_) (fun h20 => ?_)
    · first | replace h20 := of_decide_eq_true h20 | replace h20 := of_decide_eq_false (notT h20) | replace h20 := notT h20 | skip
      obtain ⟨y, hyy⟩ : ∃ y, halfN i (x ^^^ (s.getD j 0).toUInt32) = y := ⟨_, rfl⟩
      have hy0 : halfN (i + 1) (x ^^^ (s.getD j 0).toUInt32) = Crc.half y := by rw [← hyy]; rfl
      rw [hyy]
      refine W_skip ?_
      refine tN ?_
      refine W_seq ?_
      refine W_block ?_
      refine W_rs ?_
      refine sm rfl rfl ?_
      refine st (X.rem64 rfl rfl (by omega) (by omega)) rfl ?_
      refine sa rfl rfl ?_
      refine Wn ?_
      refine tN ?_
      refine W_rs ?_
      refine sm rfl rfl ?_
      refine st (X.quo rfl rfl (by decide) (show IntKind.u32.wrap (Int.tdiv (y.toNat : Int) 2) = ((y >>> 1).toNat : Int) by rw [Int.tdiv_eq_ediv_of_nonneg (by omega), shr1i y]; exact wrap_u32 _)) rfl ?_
      refine sa rfl rfl ?_
      refine Wn ?_
      refine tN ?_
      refine W_rs ?_
      refine sm rfl rfl ?_
      refine st (X.eql rfl rfl) rfl ?_
      refine Wn ?_
      refine tN ?_
      refine W_if rfl (fun h28 => ?_) (fun h28 => ?_)
      · first | replace h28 := of_decide_eq_true h28 | replace h28 := of_decide_eq_false (notT h28) | replace h28 := notT h28 | skip
        have hy : halfN (i + 1) (x ^^^ (s.getD j 0).toUInt32) = (y >>> 1) ^^^ Crc.poly := by rw [hy0]; unfold Crc.half; rw [if_pos ((Crc.and1_nat y).2 (by omega))]
        refine W_reg ?_
        refine sm rfl rfl ?_
        refine st (X.bits (by simp) rfl rfl (xor_u32 _ Crc.poly)) rfl ?_
        refine sa rfl rfl ?_
        refine Wn ?_
        refine bN ?_
        refine tN ?_
        refine W_reg ?_
        refine sm rfl rfl ?_
        refine st (X.add64 rfl rfl (by omega)) rfl ?_
        refine sa rfl rfl ?_
        refine Wn ?_
        refine tN ⟨_, _, ?_, ⟨i + 1, rfl, rfl, by omega, hw⟩, ⟨rfl, by rw [hy]; rfl, rfl, rfl, trivial⟩⟩
        omega
      · first | replace h28 := of_decide_eq_false h28 | replace h28 := of_decide_eq_true (notF h28) | replace h28 := notF h28 | skip
        have hy : halfN (i + 1) (x ^^^ (s.getD j 0).toUInt32) = y >>> 1 := by rw [hy0]; unfold Crc.half; rw [if_neg (fun e => by have := (Crc.and1_nat y).1 e; omega)]
        refine W_skip ?_
        refine bN ?_
        refine tN ?_
        refine W_reg ?_
        refine sm rfl rfl ?_
        refine st (X.add64 rfl rfl (by omega)) rfl ?_
        refine sa rfl rfl ?_
        refine Wn ?_
        refine tN ⟨_, _, ?_, ⟨i + 1, rfl, rfl, by omega, hw⟩, ⟨rfl, by rw [hy]; rfl, rfl, rfl, trivial⟩⟩
        omega
    · first | replace h20 := of_decide_eq_false h20 | replace h20 := of_decide_eq_true (notF h20) | replace h20 := notF h20 | skip
      obtain rfl : i = 8 := by omega
      refine W_exit (tE (tE (bH ?_)))
      refine bN ?_
      refine tN ?_
      refine W_reg ?_
      refine sm rfl rfl ?_
      refine st (X.add64 rfl rfl (by omega)) rfl ?_
      refine sa rfl rfl ?_
      refine Wn ?_
      refine tN ⟨_, _, ?_, ⟨j + 1, rfl, rfl, by omega, hw⟩, ⟨rfl, by rw [htk]; rfl, rfl, trivial⟩⟩
      omega
  · first | replace h10 := of_decide_eq_false h10 | replace h10 := of_decide_eq_true (notF h10) | replace h10 := notF h10 | skip
    refine W_exit (tE (tE (bH ?_)))
    refine tN ?_
    refine W_rs ?_
    refine sm rfl rfl ?_
    refine st (X.sub rfl rfl (show IntKind.u32.wrap (4294967295 - (((s.take j).foldl Crc.stepB Crc.ones).toNat : Int)) = ((((s.take j).foldl Crc.stepB Crc.ones) ^^^ Crc.ones).toNat : Int) by rw [Crc.ones_sub]; exact wrap_u32 _)) rfl ?_
    refine sa rfl rfl ?_
    refine Wn ?_
    refine tN ?_
    refine W_ret ?_
    refine (rT rfl rfl ⟨?_, hw⟩).1
    rw [List.take_of_length_le (by omega), Crc.crcB]; rfl
end Go.Proofs.YtnijmegalgoipaaGreatDoor
