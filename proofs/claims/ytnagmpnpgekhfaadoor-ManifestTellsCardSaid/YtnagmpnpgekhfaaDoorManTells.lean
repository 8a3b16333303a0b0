/- armariumref14.Num. armariumref19: Bytes, Encode, Lens, Wants. armariumref19: Lens, Wants; the law ManifestTells. -/
import Derived.Test.YtnagmpnpgekhfaaDoorGen
import Derived.Test.YtnagmpnpgekhfaaDoorOps4
import Derived.Test.YtnagmpnpgekhfaaDoorRefNet
import Derived.Test.YtnagmpnpgekhfaaDoorRefCheck
import Derived.Test.YtnagmpnpgekhfaaDoorEncode
import Derived.Test.YtnagmpnpgekhfaaDoorManWants
import Derived.Test.YtnagmpnpgekhfaaDoorManPlainOf
namespace Go.Proofs.YtnagmpnpgekhfaaDoor
open Go.RowKit
def fourD (n : Int) : Nat → List UInt8
  | 0 => []
  | k + 1 => fourD n k ++ [byteI (n / 256 ^ k)]
theorem wbm (m : Int) : IntKind.u8.wrap (m % 256) = ((byteI m).toNat : Int) := by rw [w8, byteI_toNat]; omega
theorem Num_any (n : Int) (w : World) (h0 : 0 ≤ n) (h1 : n ≤ 9223372036854775807) : Calls Tryd.prog 46 #[.int .i64 n] w fun e w' => e = .returned (str (four n)) ∧ Below w.heap.size w w' := by
  refine W_enter (args := [.int .i64 n]) 19 Tryd.func46 rfl rfl rfl ?_
  refine W_sub [(0, .int .i64 n)] ?_ ⟨rfl, trivial⟩
  have hbw := Below.refl w.heap.size w
  refine W_rs ?_
  refine sa rfl rfl ?_
  refine Wn ?_
  refine tN ?_
  refine W_rs ?_
  refine sa rfl rfl ?_
  refine Wn ?_
  refine tN ?_
  refine W_seq ?_
  refine W_rs ?_
  refine sa rfl rfl ?_
  refine Wn ?_
  refine tN ?_
  refine W_block ?_
  refine W_lp (fun nw1_ lw1_ w1 => ∃ k : Nat, ∃ m : Int, nw1_ = 4 - k ∧ lw1_ = ([(0, .int .i64 m), (3, str (fourD n k)), (4, .int .i64 k)] : Env) ∧ (k ≤ 4) ∧ (m = n / 256 ^ k) ∧ (0 ≤ m ∧ m ≤ 9223372036854775807) ∧ (Below w.heap.size w w1)) _ ⟨_, ⟨0, n, rfl, rfl, by omega, by simp, ⟨h0, h1⟩, hbw⟩, ⟨rfl, rfl, rfl, trivial⟩⟩ ?_
  clear hbw
  rintro nw1_ lw1_ w1 ⟨k, m, rfl, rfl, hk, hm, hm0, hbw⟩
  have hz_w1 := hbw.size
  refine W_seq ?_
  refine W_rs ?_
  refine sm rfl rfl ?_
  refine st (X.lss rfl rfl) rfl ?_
  refine Wn ?_
  refine tN ?_
  refine W_if rfl (fun h6 => ?_) (fun h6 => ?_)
  · first | replace h6 := of_decide_eq_true h6 | replace h6 := of_decide_eq_false (notT h6) | replace h6 := notT h6 | skip
    have hfl : (fourD n k).length = k := by clear hm hm0; induction k with | zero => rfl | succ q ih => (rw [fourD, List.length_append, ih (by omega) (by omega)]; rfl)
    refine W_skip ?_
    refine tN ?_
    refine W_seq ?_
    refine W_block ?_
    refine W_rs ?_
    refine sm rfl rfl ?_
    refine sm rfl rfl ?_
    refine st (X.rem64 rfl rfl (by omega) (by omega)) rfl ?_
    refine st (X.convI rfl Tryd.underlying3 Tryd.underlying5 (wbm m)) rfl ?_
    refine sbs1 rfl Tryd.underlying58 inf5 rfl rfl (by decide) (by decide) rfl (fun g13 w2 hR13 hg13 hb => ?_)
    replace hbw := bthen hbw hb
    have hz_w2 := hb.size
    clear hb
    have hl13 := hR13.blt (by decide)
    refine st (X.strOf (s := [byteI m]) rfl Tryd.underlying58 Tryd.underlying5 Tryd.underlying9 hR13.reads) rfl ?_
    refine st (X.cat rfl rfl (by rw [hfl]; simp; omega)) rfl ?_
    refine sa rfl rfl ?_
    refine Wn ?_
    refine tN ?_
    refine W_reg ?_
    rw [show fourD n k ++ [byteI m] = fourD n (k + 1) by rw [hm]; rfl]
    refine sm rfl rfl ?_
    refine st (X.quo64 rfl rfl (by omega) (by omega) (by omega)) rfl ?_
    refine sa rfl rfl ?_
    refine Wn ?_
    refine bN ?_
    refine tN ?_
    refine W_reg ?_
    refine sm rfl rfl ?_
    refine st (X.add64 rfl rfl (by omega)) rfl ?_
    refine sa rfl rfl ?_
    refine Wn ?_
    refine tN ⟨_, _, ?_, ⟨k + 1, m / 256, rfl, rfl, by omega, by rw [hm, Int.pow_succ, Int.ediv_ediv_of_nonneg (Int.pow_nonneg (by decide))], by omega, hbw⟩, ⟨rfl, rfl, rfl, trivial⟩⟩
    omega
  · first | replace h6 := of_decide_eq_false h6 | replace h6 := of_decide_eq_true (notF h6) | replace h6 := notF h6 | skip
    refine W_exit (tE (tE (bH ?_)))
    refine tN ?_
    refine W_rs ?_
    refine sm rfl rfl ?_
    refine sa rfl rfl ?_
    refine Wn ?_
    refine tN ?_
    refine W_ret ?_
    obtain rfl : k = 4 := by omega
    refine (rT rfl rfl ⟨?_, hbw⟩).1
    rw [show fourD n 4 = four n by simp [fourD, four]]
end Go.Proofs.YtnagmpnpgekhfaaDoor
namespace Go.Proofs.YtnagmpnpgekhfaaDoor
open Go.RowKit
theorem chkBytes_length {c : Chk} (h : c.sum.length = 32) : (chkBytes c).length = 36 := by simp [chkBytes, h, four_length]
theorem bs2b (a b : UInt8) (w : World) : (Instr.buildSlice 58 2 #[(0, bv a), (1, bv b)]).run Tryd.prog w = .ok (.slice (some ⟨w.heap.size, 0, none⟩) 2 2) (w.alloc (.cells #[bv a, bv b] 5)) := by kernel_rfl
theorem kind_more {c : Col} : byteI (if c.null then c.kind + 128 else c.kind) = kindByte c := by
  unfold kindByte
  cases c.null with
  | false => rfl
  | true =>
    simp only [if_true]
    apply UInt8.toNat_inj.1
    rw [UInt8.toNat_add]
    have e1 := byteI_toNat (c.kind + 128)
    have e2 := byteI_toNat c.kind
    have e3 : (128 : UInt8).toNat = 128 := rfl
    rw [e3]
    omega
theorem strBad_lens : ∀ {l : List Chk}, strBad l = false → ∀ c ∈ l, 1 ≤ c.len ∧ c.len ≤ 1024
  | [], _, _, h => by cases h
  | d :: r, h, c, hc => by
    unfold strBad chkBad at h
    simp only [Bool.or_eq_false_iff, decide_eq_false_iff_not] at h
    rcases List.mem_cons.1 hc with rfl | hc
    · omega
    · exact strBad_lens h.2 c hc
theorem strErr_lens {l : List Chk} (h : strErr l = 0) : ∀ c ∈ l, 1 ≤ c.len ∧ c.len ≤ 1024 := by
  refine strBad_lens ?_
  unfold strErr at h
  split at h
  · omega
  · split at h
    · omega
    · rename_i h2
      simpa using h2
theorem encCols_length {m : Man} (ok : ManOk m) (h32 : ∀ l ∈ m.strs, ∀ c ∈ l, c.sum.length = 32) (j : Nat) : (((m.cols.zip m.strs).take j).flatMap colBytes).length ≤ j * 800000 := by
  refine Nat.le_trans (flat_le colBytes 800000 _ (fun p hp => ?_)) (Nat.mul_le_mul_right _ (List.length_take_le j _))
  have hp2 := List.mem_of_mem_take hp
  have h1 := colOk_name (ok.names p.1 (List.of_mem_zip hp2).1)
  have h2 := strErr_len (ok.strs p.2 (List.of_mem_zip hp2).2)
  have h3 : (p.2.flatMap chkBytes).length = p.2.length * 36 := flat_length chkBytes 36 _ (fun c hc => chkBytes_length (h32 p.2 (List.of_mem_zip hp2).2 c hc))
  unfold colBytes
  simp only [List.length_append, h3, four_length, List.length_cons, List.length_nil]
  omega
set_option maxRecDepth 20000 in
set_option maxHeartbeats 4000000 in
theorem RBytes_any (m : Man) (vc vr : Value) (w : World) (hc : ColsAt w vc m.cols) (hr : RStrsAt w vr m.strs) (h32 : ∀ l ∈ m.strs, ∀ c ∈ l, c.sum.length = 32) (he : manErr colsOk m = 0) :
    Calls Tryd.prog 31 #[.agg #[.int .i64 m.id, .int .i64 m.rows, vc, vr]] w fun e w' => e = .returned (str (encode m)) ∧ Below w.heap.size w w' := by
  have ok := manOk he
  obtain ⟨ac, cc, rfl, hcn, hcc⟩ := hc.1.shape
  obtain ⟨us, hR, hu⟩ := hr
  obtain ⟨sa_, cs, rfl, hsn, hsc⟩ := hR.shape
  have ok1 := ok.id1
  have ok2 := ok.id2
  have ok3 := ok.rows1
  have ok4 := ok.rows2
  have ok6 := ok.n2
  have ok7 := ok.len
  have hhd : (encHead m).length = 13 := by simp [encHead, man1, four]
  refine W_enter (args := [.agg #[.int .i64 m.id, .int .i64 m.rows, .slice ac m.cols.length cc, .slice sa_ m.strs.length cs]]) 100 Tryd.func31 rfl rfl rfl ?_
  refine W_sub [(0, .agg #[.int .i64 m.id, .int .i64 m.rows, .slice ac m.cols.length cc, .slice sa_ m.strs.length cs])] ?_ ⟨rfl, trivial⟩
  have hbw := Below.refl w.heap.size w
  refine W_rs ?_
  refine sboxA rfl rfl (fun g1 w1 hB1 hg1 hb hl1 => ?_)
  replace hbw := bthen hbw hb
  have hz_w1 := hb.size
  clear hb
  refine sa rfl rfl ?_
  refine Wn ?_
  refine tN ?_
  refine W_cut (fun l_ w2 => sub ([(1, .pointer (some ⟨g1, 0, none⟩)), (3, str (encHead m))] : Env) l_ ∧ (Blk w2 g1 32 #[.int .i64 m.id, .int .i64 m.rows, .slice ac m.cols.length cc, .slice sa_ m.strs.length cs]) ∧ (Below w.heap.size w w2)) ?_ ?_
  · refine W_trN (fun W_ => ∃ gz, gz = g1 ∧ Blk W_ gz 32 #[.int .i64 m.id, .int .i64 m.rows, .slice ac m.cols.length cc, .slice sa_ m.strs.length cs]) (.yes 0 (.yes 1 (.yes 4 (.yes 5 (.yes 8 (.yes 9 (.yes 10 (.yes 11 (.pick (.alt 2 (.yes 3 (.pick (.alt 6 (.yes 7 (.pick (.alt 12 (.pick (.alt 13 (.yes 14 (.yes 15 (.nil))) (.no))) (.no)))) (.alt 12 (.pick (.alt 6 (.yes 7 (.pick (.alt 13 (.yes 14 (.yes 15 (.nil))) (.no)))) (.alt 13 (.pick (.alt 6 (.yes 7 (.yes 14 (.yes 15 (.nil)))) (.no))) (.no)))) (.no))))) (.alt 12 (.pick (.alt 2 (.yes 3 (.pick (.alt 6 (.yes 7 (.pick (.alt 13 (.yes 14 (.yes 15 (.nil))) (.no)))) (.alt 13 (.pick (.alt 6 (.yes 7 (.yes 14 (.yes 15 (.nil)))) (.no))) (.no))))) (.alt 13 (.pick (.alt 2 (.yes 3 (.pick (.alt 6 (.yes 7 (.yes 14 (.yes 15 (.nil)))) (.no)))) (.no))) (.no)))) (.no)))))))))))) (by kernel_rfl) (by kernel_rfl) (⟨_, rfl, hB1.drew⟩) ?_
    obtain ⟨w3, hw_⟩ : ∃ w3 : World, w3 = World.drew w1 := ⟨_, rfl⟩
    rw [← hw_]
    have hb : Below w1.heap.size w1 w3 := by rw [hw_]; exact bdrew (Below.refl _ _)
    clear hw_
    have hS := hb
    replace hbw := bthen hbw hb
    replace hB1 := hB1.bel hb
    have hz_w3 := hb.size
    clear hb
    refine uY rfl (fun W_ hW_ => (X.fa fa32_0 rfl)) rfl ?_
    refine uY rfl (fun W_ hW_ => (X.ldL rfl (by obtain ⟨gz, rfl, k⟩ := hW_; exact k) Tryd.underlying3 rfl rfl)) rfl ?_
    refine uY rfl (fun W_ hW_ => (X.fa fa32_1 rfl)) rfl ?_
    refine uY rfl (fun W_ hW_ => (X.ldL rfl (by obtain ⟨gz, rfl, k⟩ := hW_; exact k) Tryd.underlying3 rfl rfl)) rfl ?_
    refine uY rfl (fun W_ hW_ => (X.fa fa32_2 rfl)) rfl ?_
    refine uY rfl (fun W_ hW_ => (X.ldL rfl (by obtain ⟨gz, rfl, k⟩ := hW_; exact k) Tryd.underlying23 rfl rfl)) rfl ?_
    refine uY rfl (fun W_ hW_ => (X.lenL rfl rfl Tryd.underlying23)) rfl ?_
    refine uY rfl (fun W_ hW_ => (X.convI rfl Tryd.underlying3 Tryd.underlying5 (wb _))) rfl ?_
    refine uP (uA rfl (fun Q_ hQ_ hP_ => ?_) (uA rfl (fun Q_ hQ_ hP_ => ?_) u0))
    · refine sc _ Tryd.func46 rfl (by kernel_rfl) rfl rfl ((Num_any _ _ (by omega) (by omega)).mono ?_)
      rintro e_ w4 ⟨rfl, hb⟩
      refine cR ?_
      replace hbw := bthen hbw hb
      replace hB1 := hB1.bel hb
      have hz_w4 := hb.size
      clear hb
      refine Wn (hQ_ _ _ (⟨_, rfl, hB1⟩) ?_)
      clear hQ_ hP_ Q_
      refine uY rfl (fun W_ hW_ => (X.cat (a := man1) rfl rfl (by rw [four_length]; decide))) rfl ?_
      refine uP (uA rfl (fun Q_ hQ_ hP_ => ?_) (uA rfl (fun Q_ hQ_ hP_ => ?_) u0))
      · refine sc _ Tryd.func46 rfl (by kernel_rfl) rfl rfl ((Num_any _ _ (by omega) (by omega)).mono ?_)
        rintro e_ w5 ⟨rfl, hb⟩
        refine cR ?_
        replace hbw := bthen hbw hb
        replace hB1 := hB1.bel hb
        have hz_w5 := hb.size
        clear hb
        refine Wn (hQ_ _ _ (⟨_, rfl, hB1⟩) ?_)
        clear hQ_ hP_ Q_
        refine uY rfl (fun W_ hW_ => (X.cat rfl rfl (by rw [List.length_append, four_length, four_length]; decide))) rfl ?_
        refine uP (uA rfl (fun Q_ hQ_ hP_ => ?_) u0)
        refine sbs1 rfl Tryd.underlying58 inf5 rfl rfl (by decide) (by decide) rfl (fun g20 w6 hR20 hg20 hb => ?_)
        replace hbw := bthen hbw hb
        replace hB1 := hB1.bel hb
        have hz_w6 := hb.size
        clear hb
        have hl20 := hR20.blt (by decide)
        refine Wn (hQ_ _ _ (⟨_, rfl, hB1⟩) ?_)
        clear hQ_ hP_ Q_
        refine uP (uA rfl (fun Q_ hQ_ hP_ => ?_) u0)
        refine st (X.strOf (s := [byteI m.cols.length]) rfl Tryd.underlying58 Tryd.underlying5 Tryd.underlying9 hR20.reads) rfl ?_
        refine Wn (hQ_ _ _ (⟨_, rfl, hB1⟩) ?_)
        clear hQ_ hP_ Q_
        refine uY rfl (fun W_ hW_ => (X.cat rfl rfl (by simp [man1, four]))) rfl ?_
        refine uY rfl (fun W_ hW_ => (X.assign rfl)) rfl ?_
        refine uN ?_
        refine nN ?_
        refine tN ⟨⟨rfl, rfl, trivial⟩, hB1, hbw⟩
      · refine sbs1 rfl Tryd.underlying58 inf5 rfl rfl (by decide) (by decide) rfl (fun g20 w7 hR20 hg20 hb => ?_)
        replace hbw := bthen hbw hb
        replace hB1 := hB1.bel hb
        have hz_w7 := hb.size
        clear hb
        have hl20 := hR20.blt (by decide)
        refine Wn (hQ_ _ _ (⟨_, rfl, hB1⟩) ?_)
        clear hQ_ hP_ Q_
        refine uP (uA rfl (fun Q_ hQ_ hP_ => ?_) (uA rfl (fun Q_ hQ_ hP_ => ?_) u0))
        · refine sc _ Tryd.func46 rfl (by kernel_rfl) rfl rfl ((Num_any _ _ (by omega) (by omega)).mono ?_)
          rintro e_ w8 ⟨rfl, hb⟩
          refine cR ?_
          replace hbw := bthen hbw hb
          replace hB1 := hB1.bel hb
          replace hR20 := hR20.bel hb
          have hz_w8 := hb.size
          clear hb
          refine Wn (hQ_ _ _ (⟨_, rfl, hB1⟩) ?_)
          clear hQ_ hP_ Q_
          refine uY rfl (fun W_ hW_ => (X.cat rfl rfl (by rw [List.length_append, four_length, four_length]; decide))) rfl ?_
          refine uP (uA rfl (fun Q_ hQ_ hP_ => ?_) u0)
          refine st (X.strOf (s := [byteI m.cols.length]) rfl Tryd.underlying58 Tryd.underlying5 Tryd.underlying9 hR20.reads) rfl ?_
          refine Wn (hQ_ _ _ (⟨_, rfl, hB1⟩) ?_)
          clear hQ_ hP_ Q_
          refine uY rfl (fun W_ hW_ => (X.cat rfl rfl (by simp [man1, four]))) rfl ?_
          refine uY rfl (fun W_ hW_ => (X.assign rfl)) rfl ?_
          refine uN ?_
          refine nN ?_
          refine tN ⟨⟨rfl, rfl, trivial⟩, hB1, hbw⟩
        · refine st (X.strOf (s := [byteI m.cols.length]) rfl Tryd.underlying58 Tryd.underlying5 Tryd.underlying9 hR20.reads) rfl ?_
          refine Wn (hQ_ _ _ (⟨_, rfl, hB1⟩) ?_)
          clear hQ_ hP_ Q_
          refine uP (uA rfl (fun Q_ hQ_ hP_ => ?_) u0)
          refine sc _ Tryd.func46 rfl (by kernel_rfl) rfl rfl ((Num_any _ _ (by omega) (by omega)).mono ?_)
          rintro e_ w9 ⟨rfl, hb⟩
          refine cR ?_
          replace hbw := bthen hbw hb
          replace hB1 := hB1.bel hb
          replace hR20 := hR20.bel hb
          have hz_w9 := hb.size
          clear hb
          refine Wn (hQ_ _ _ (⟨_, rfl, hB1⟩) ?_)
          clear hQ_ hP_ Q_
          refine uY rfl (fun W_ hW_ => (X.cat rfl rfl (by rw [List.length_append, four_length, four_length]; decide))) rfl ?_
          refine uY rfl (fun W_ hW_ => (X.cat rfl rfl (by simp [man1, four]))) rfl ?_
          refine uY rfl (fun W_ hW_ => (X.assign rfl)) rfl ?_
          refine uN ?_
          refine nN ?_
          refine tN ⟨⟨rfl, rfl, trivial⟩, hB1, hbw⟩
    · refine sbs1 rfl Tryd.underlying58 inf5 rfl rfl (by decide) (by decide) rfl (fun g20 w10 hR20 hg20 hb => ?_)
      replace hbw := bthen hbw hb
      replace hB1 := hB1.bel hb
      have hz_w10 := hb.size
      clear hb
      have hl20 := hR20.blt (by decide)
      refine Wn (hQ_ _ _ (⟨_, rfl, hB1⟩) ?_)
      clear hQ_ hP_ Q_
      refine uP (uA rfl (fun Q_ hQ_ hP_ => ?_) (uA rfl (fun Q_ hQ_ hP_ => ?_) u0))
      · refine sc _ Tryd.func46 rfl (by kernel_rfl) rfl rfl ((Num_any _ _ (by omega) (by omega)).mono ?_)
        rintro e_ w11 ⟨rfl, hb⟩
        refine cR ?_
        replace hbw := bthen hbw hb
        replace hB1 := hB1.bel hb
        replace hR20 := hR20.bel hb
        have hz_w11 := hb.size
        clear hb
        refine Wn (hQ_ _ _ (⟨_, rfl, hB1⟩) ?_)
        clear hQ_ hP_ Q_
        refine uY rfl (fun W_ hW_ => (X.cat (a := man1) rfl rfl (by rw [four_length]; decide))) rfl ?_
        refine uP (uA rfl (fun Q_ hQ_ hP_ => ?_) (uA rfl (fun Q_ hQ_ hP_ => ?_) u0))
        · refine sc _ Tryd.func46 rfl (by kernel_rfl) rfl rfl ((Num_any _ _ (by omega) (by omega)).mono ?_)
          rintro e_ w12 ⟨rfl, hb⟩
          refine cR ?_
          replace hbw := bthen hbw hb
          replace hB1 := hB1.bel hb
          replace hR20 := hR20.bel hb
          have hz_w12 := hb.size
          clear hb
          refine Wn (hQ_ _ _ (⟨_, rfl, hB1⟩) ?_)
          clear hQ_ hP_ Q_
          refine uY rfl (fun W_ hW_ => (X.cat rfl rfl (by rw [List.length_append, four_length, four_length]; decide))) rfl ?_
          refine uP (uA rfl (fun Q_ hQ_ hP_ => ?_) u0)
          refine st (X.strOf (s := [byteI m.cols.length]) rfl Tryd.underlying58 Tryd.underlying5 Tryd.underlying9 hR20.reads) rfl ?_
          refine Wn (hQ_ _ _ (⟨_, rfl, hB1⟩) ?_)
          clear hQ_ hP_ Q_
          refine uY rfl (fun W_ hW_ => (X.cat rfl rfl (by simp [man1, four]))) rfl ?_
          refine uY rfl (fun W_ hW_ => (X.assign rfl)) rfl ?_
          refine uN ?_
          refine nN ?_
          refine tN ⟨⟨rfl, rfl, trivial⟩, hB1, hbw⟩
        · refine st (X.strOf (s := [byteI m.cols.length]) rfl Tryd.underlying58 Tryd.underlying5 Tryd.underlying9 hR20.reads) rfl ?_
          refine Wn (hQ_ _ _ (⟨_, rfl, hB1⟩) ?_)
          clear hQ_ hP_ Q_
          refine uP (uA rfl (fun Q_ hQ_ hP_ => ?_) u0)
          refine sc _ Tryd.func46 rfl (by kernel_rfl) rfl rfl ((Num_any _ _ (by omega) (by omega)).mono ?_)
          rintro e_ w13 ⟨rfl, hb⟩
          refine cR ?_
          replace hbw := bthen hbw hb
          replace hB1 := hB1.bel hb
          replace hR20 := hR20.bel hb
          have hz_w13 := hb.size
          clear hb
          refine Wn (hQ_ _ _ (⟨_, rfl, hB1⟩) ?_)
          clear hQ_ hP_ Q_
          refine uY rfl (fun W_ hW_ => (X.cat rfl rfl (by rw [List.length_append, four_length, four_length]; decide))) rfl ?_
          refine uY rfl (fun W_ hW_ => (X.cat rfl rfl (by simp [man1, four]))) rfl ?_
          refine uY rfl (fun W_ hW_ => (X.assign rfl)) rfl ?_
          refine uN ?_
          refine nN ?_
          refine tN ⟨⟨rfl, rfl, trivial⟩, hB1, hbw⟩
      · refine st (X.strOf (s := [byteI m.cols.length]) rfl Tryd.underlying58 Tryd.underlying5 Tryd.underlying9 hR20.reads) rfl ?_
        refine Wn (hQ_ _ _ (⟨_, rfl, hB1⟩) ?_)
        clear hQ_ hP_ Q_
        refine uP (uA rfl (fun Q_ hQ_ hP_ => ?_) u0)
        refine sc _ Tryd.func46 rfl (by kernel_rfl) rfl rfl ((Num_any _ _ (by omega) (by omega)).mono ?_)
        rintro e_ w14 ⟨rfl, hb⟩
        refine cR ?_
        replace hbw := bthen hbw hb
        replace hB1 := hB1.bel hb
        replace hR20 := hR20.bel hb
        have hz_w14 := hb.size
        clear hb
        refine Wn (hQ_ _ _ (⟨_, rfl, hB1⟩) ?_)
        clear hQ_ hP_ Q_
        refine uY rfl (fun W_ hW_ => (X.cat (a := man1) rfl rfl (by rw [four_length]; decide))) rfl ?_
        refine uP (uA rfl (fun Q_ hQ_ hP_ => ?_) u0)
        refine sc _ Tryd.func46 rfl (by kernel_rfl) rfl rfl ((Num_any _ _ (by omega) (by omega)).mono ?_)
        rintro e_ w15 ⟨rfl, hb⟩
        refine cR ?_
        replace hbw := bthen hbw hb
        replace hB1 := hB1.bel hb
        replace hR20 := hR20.bel hb
        have hz_w15 := hb.size
        clear hb
        refine Wn (hQ_ _ _ (⟨_, rfl, hB1⟩) ?_)
        clear hQ_ hP_ Q_
        refine uY rfl (fun W_ hW_ => (X.cat rfl rfl (by rw [List.length_append, four_length, four_length]; decide))) rfl ?_
        refine uY rfl (fun W_ hW_ => (X.cat rfl rfl (by simp [man1, four]))) rfl ?_
        refine uY rfl (fun W_ hW_ => (X.assign rfl)) rfl ?_
        refine uN ?_
        refine nN ?_
        refine tN ⟨⟨rfl, rfl, trivial⟩, hB1, hbw⟩
  · clear hB1 hbw
    rintro l_ w2 ⟨hs_, hB1, hbw⟩
    refine W_sub [(1, .pointer (some ⟨g1, 0, none⟩)), (3, str (encHead m))] ?_ hs_
    clear hs_
    have hz_w2 := hbw.size
    have hlt_hB1_w2 := hB1.lt
    refine W_seq ?_
    refine W_rs ?_
    refine sa rfl rfl ?_
    refine Wn ?_
    refine tN ?_
    refine W_block ?_
    refine W_lp (fun nw16_ lw16_ w16 => ∃ j : Nat, nw16_ = m.cols.length - j ∧ lw16_ = ([(1, .pointer (some ⟨g1, 0, none⟩)), (3, str (encHead m ++ ((m.cols.zip m.strs).take j).flatMap colBytes)), (4, .int .i64 j)] : Env) ∧ (j ≤ m.cols.length) ∧ (Blk w16 g1 32 #[.int .i64 m.id, .int .i64 m.rows, .slice ac m.cols.length cc, .slice sa_ m.strs.length cs]) ∧ (Below w.heap.size w w16)) _ ⟨_, ⟨0, rfl, rfl, by omega, hB1, hbw⟩, ⟨rfl, by rw [List.take_zero, List.flatMap_nil, List.append_nil]; rfl, rfl, trivial⟩⟩ ?_
    clear hB1 hbw
    rintro nw16_ lw16_ w16 ⟨j, rfl, rfl, hj, hB1, hbw⟩
    have hz_w16 := hbw.size
    have hlt_hB1_w16 := hB1.lt
    refine W_seq ?_
    refine W_rs ?_
    refine sm rfl rfl ?_
    refine st (X.fa fa32_2 rfl) rfl ?_
    refine st (X.ldL rfl hB1 Tryd.underlying23 rfl rfl) rfl ?_
    refine st (X.lenL rfl rfl Tryd.underlying23) rfl ?_
    refine st (X.lss rfl rfl) rfl ?_
    refine Wn ?_
    refine tN ?_
    refine W_if rfl (fun h27 => ?_) (fun h27 => ?_)
    · first | replace h27 := of_decide_eq_true h27 | replace h27 := of_decide_eq_false (notT h27) | replace h27 := notT h27 | skip
      obtain ⟨x, hx⟩ : ∃ x, m.cols[j]? = some x := ⟨_, List.getElem?_eq_getElem (by omega)⟩
      obtain ⟨l, hl⟩ : ∃ l, m.strs[j]? = some l := ⟨_, List.getElem?_eq_getElem (by omega)⟩
      obtain ⟨u, hux, hcu⟩ := hu j l hl
      obtain ⟨gs, os_, c', hv, hgs⟩ := (hR.bel hbw).some_ (by omega)
      injection hv with e1 _ e3
      subst e1 e3
      obtain ⟨gcol, ocol, c'', hv, hgc⟩ := (hc.1.bel hbw).some_ (by omega)
      injection hv with e1 _ e3
      subst e1 e3
      obtain ⟨au, cu, rfl, hun, huc⟩ := hcu.shape
      obtain ⟨hnm, hk1, hk2⟩ := colOk_name (ok.names x (List.mem_of_getElem? hx))
      have hll := strErr_len (ok.strs l (List.mem_of_getElem? hl))
      have hl32 := h32 l (List.mem_of_getElem? hl)
      have hzip := zip_at hx hl
      have hpl := encCols_length ok h32 j
      obtain ⟨PRE, hPRE⟩ : ∃ q, encHead m ++ ((m.cols.zip m.strs).take j).flatMap colBytes = q := ⟨_, rfl⟩
      have hPl : PRE.length ≤ 40000000 := by rw [← hPRE, List.length_append, hhd]; omega
      have hxr := (hc.bel hbw).range hx
      rw [hPRE]
      refine W_skip ?_
      refine tN ?_
      refine W_seq ?_
      refine W_block ?_
      refine W_rs ?_
      refine st (X.fa fa32_2 rfl) rfl ?_
      refine st (X.ldL rfl hB1 Tryd.underlying23 rfl rfl) rfl ?_
      refine sm rfl rfl ?_
      refine st (X.idxA rfl rfl Tryd.underlying23 siz60 rfl (by omega)) rfl ?_
      refine st (X.ldN (cs := x.cells) rfl Tryd.underlying60 rfl siz60 ((hc.bel hbw).range hx)) rfl ?_
      refine salA inf60 rfl (fun g5 w17 hB5 hg5 hb hl5 => ?_)
      replace hbw := bthen hbw hb
      replace hB1 := hB1.bel hb
      have hz_w17 := hb.size
      clear hb
      refine ssBN rfl rfl hB5 siz60 rfl (by simp [Col.cells, Value.oneCell', str]) (fun w18 hB_ hc_ => ?_)
      replace hB5 := hB_
      clear hB_
      replace hB1 := hB1.chg hc_ (by first | (show ¬ _ = _; omega) | (intro k_ hk_; simp [Value.ownBlock] at hk_; subst hk_; show ¬ _ = _; omega))
      replace hbw := bset hbw hc_ (by omega)
      have hz_w18 := hc_.size
      clear hc_
      refine Wn ?_
      refine tN ?_
      refine W_rs ?_
      refine st (X.fa fa60_1 rfl) rfl ?_
      refine st (X.ldL rfl hB5 Tryd.underlying3 rfl rfl) rfl ?_
      refine sa rfl rfl ?_
      refine Wn ?_
      refine tN ?_
      refine W_seq ?_
      refine W_rs ?_
      refine st (X.fa fa60_2 rfl) rfl ?_
      refine st (X.ldL rfl hB5 Tryd.underlying4 rfl rfl) rfl ?_
      refine Wn ?_
      refine tN ?_
      refine W_if rfl (fun h38 => ?_) (fun h38 => ?_)
      · first | replace h38 := of_decide_eq_true h38 | replace h38 := of_decide_eq_false (notT h38) | replace h38 := notT h38 | skip
        obtain ⟨kb, hkb2⟩ : ∃ kb : Int, x.kind + 128 = kb := ⟨_, rfl⟩
        have hkb : kb = if x.null then x.kind + 128 else x.kind := by rw [h38, ← hkb2]; rfl
        refine W_reg ?_
        refine sm rfl rfl ?_
        refine st (X.add (z := kb) rfl rfl (by rw [w64 (by omega)]; exact hkb2)) rfl ?_
        refine sa rfl rfl ?_
        refine Wn ?_
        refine tN ?_
        refine W_cut (fun l_ w19 => sub ([(1, .pointer (some ⟨g1, 0, none⟩)), (3, str (PRE ++ [byteI kb, byteI x.name.length] ++ x.name ++ four (l.length : Nat))), (4, .int .i64 j)] : Env) l_ ∧ (Blk w19 g1 32 #[.int .i64 m.id, .int .i64 m.rows, .slice (some ⟨gcol, ocol, none⟩) m.cols.length cc, .slice (some ⟨gs, os_, none⟩) m.strs.length cs]) ∧ (Below w.heap.size w w19)) ?_ ?_
        · have hcell := (hR.bel hbw).cellAt (by omega) hux
          refine W_trN (fun W_ => ∃ gz gy, gz = g1 ∧ gy = g5 ∧ Blk W_ gz 32 #[.int .i64 m.id, .int .i64 m.rows, .slice (some ⟨gcol, ocol, none⟩) m.cols.length cc, .slice (some ⟨gs, os_, none⟩) m.strs.length cs] ∧ Blk W_ gy 60 x.cells.toArray ∧ W_.cell? ⟨gs, os_ + j, none⟩ = some (.slice au l.length cu)) (.yes 0 (.yes 1 (.yes 2 (.yes 3 (.yes 4 (.yes 5 (.yes 6 (.yes 10 (.yes 11 (.yes 13 (.yes 14 (.yes 15 (.yes 16 (.yes 17 (.yes 18 (.pick (.alt 7 (.pick (.alt 8 (.yes 9 (.yes 12 (.pick (.alt 19 (.yes 20 (.yes 21 (.nil))) (.no))))) (.alt 19 (.pick (.alt 8 (.yes 9 (.yes 12 (.yes 20 (.yes 21 (.nil))))) (.no))) (.no)))) (.alt 19 (.pick (.alt 7 (.pick (.alt 8 (.yes 9 (.yes 12 (.yes 20 (.yes 21 (.nil))))) (.no))) (.no))) (.no))))))))))))))))))) (by kernel_rfl) (by kernel_rfl) (⟨_, _, rfl, rfl, hB1.drew, hB5.drew, (hR.bel (bdrew hbw)).cellAt (by omega) hux⟩) ?_
          obtain ⟨w20, hw_⟩ : ∃ w20 : World, w20 = World.drew w18 := ⟨_, rfl⟩
          rw [← hw_]
          have hb : Below w18.heap.size w18 w20 := by rw [hw_]; exact bdrew (Below.refl _ _)
          clear hw_
          have hS := hb
          replace hbw := bthen hbw hb
          replace hB1 := hB1.bel hb
          replace hB5 := hB5.bel hb
          have hz_w20 := hb.size
          clear hb
          refine uY rfl (fun W_ hW_ => (X.move rfl)) rfl ?_
          refine uY rfl (fun W_ hW_ => (X.move rfl)) rfl ?_
          refine uY rfl (fun W_ hW_ => (X.convI rfl Tryd.underlying3 Tryd.underlying5 (wb _))) rfl ?_
          refine uY rfl (fun W_ hW_ => (X.fa fa60_0 rfl)) rfl ?_
          refine uY rfl (fun W_ hW_ => (X.ldL rfl (by obtain ⟨gz, gy, rfl, rfl, k1, k2, k3⟩ := hW_; exact k2) Tryd.underlying9 rfl rfl)) rfl ?_
          refine uY rfl (fun W_ hW_ => (X.lenS rfl rfl Tryd.underlying9)) rfl ?_
          refine uY rfl (fun W_ hW_ => (X.convI rfl Tryd.underlying3 Tryd.underlying5 (wb _))) rfl ?_
          refine uY rfl (fun W_ hW_ => (X.fa fa60_0 rfl)) rfl ?_
          refine uY rfl (fun W_ hW_ => (X.ldL rfl (by obtain ⟨gz, gy, rfl, rfl, k1, k2, k3⟩ := hW_; exact k2) Tryd.underlying9 rfl rfl)) rfl ?_
          refine uY rfl (fun W_ hW_ => (X.fa fa32_3 rfl)) rfl ?_
          refine uY rfl (fun W_ hW_ => (X.ldL rfl (by obtain ⟨gz, gy, rfl, rfl, k1, k2, k3⟩ := hW_; exact k1) Tryd.underlying30 rfl rfl)) rfl ?_
          refine uY rfl (fun W_ hW_ => (X.move rfl)) rfl ?_
          refine uY rfl (fun W_ hW_ => (X.idxA rfl rfl Tryd.underlying30 siz67 rfl (by omega))) rfl ?_
          refine uY rfl (fun W_ hW_ => (X.ld rfl Tryd.underlying67 rfl (by rw [Nat.mul_one]; obtain ⟨gz, gy, rfl, rfl, k1, k2, k3⟩ := hW_; exact k3))) rfl ?_
          refine uY rfl (fun W_ hW_ => (X.lenL rfl rfl Tryd.underlying67)) rfl ?_
          refine uP (uA rfl (fun Q_ hQ_ hP_ => ?_) (uA rfl (fun Q_ hQ_ hP_ => ?_) u0))
          · refine sbs (ps := [(0, .tmp 43), (1, .tmp 47)]) 1 rfl (bs2b _ _ _) (by simp [maxLen]) rfl rfl (fun g48 w21 hR48 hg48 hb => ?_)
            replace hB1 := hB1.belowAll hb
            replace hB5 := hB5.belowAll hb
            replace hbw := bthen hbw hb
            have hz97 := hb.size
            clear hb
            refine Wn (hQ_ _ _ (⟨_, _, rfl, rfl, hB1, hB5, (hR.bel hbw).cellAt (by omega) hux⟩) ?_)
            clear hQ_ hP_ Q_
            refine uP (uA rfl (fun Q_ hQ_ hP_ => ?_) (uA rfl (fun Q_ hQ_ hP_ => ?_) u0))
            · refine st (X.strOf (s := [byteI kb, byteI x.name.length]) rfl Tryd.underlying58 Tryd.underlying5 Tryd.underlying9 hR48.reads) rfl ?_
              refine Wn (hQ_ _ _ (⟨_, _, rfl, rfl, hB1, hB5, (hR.bel hbw).cellAt (by omega) hux⟩) ?_)
              clear hQ_ hP_ Q_
              refine uY rfl (fun W_ hW_ => (X.cat rfl rfl (by simp; omega))) rfl ?_
              refine uY rfl (fun W_ hW_ => (X.cat rfl rfl (by simp; omega))) rfl ?_
              refine uP (uA rfl (fun Q_ hQ_ hP_ => ?_) u0)
              refine sc _ Tryd.func46 rfl (by kernel_rfl) rfl rfl ((Num_any _ _ (by omega) (by omega)).mono ?_)
              rintro e_ w22 ⟨rfl, hb⟩
              refine cR ?_
              replace hbw := bthen hbw hb
              replace hB1 := hB1.bel hb
              replace hB5 := hB5.bel hb
              have hz_w22 := hb.size
              clear hb
              refine Wn (hQ_ _ _ (⟨_, _, rfl, rfl, hB1, hB5, (hR.bel hbw).cellAt (by omega) hux⟩) ?_)
              clear hQ_ hP_ Q_
              refine uY rfl (fun W_ hW_ => (X.cat rfl rfl (by simp [four_length]; omega))) rfl ?_
              refine uY rfl (fun W_ hW_ => (X.assign rfl)) rfl ?_
              refine uN ?_
              refine nN ?_
              refine tN ⟨⟨rfl, rfl, rfl, trivial⟩, hB1, hbw⟩
            · refine sc _ Tryd.func46 rfl (by kernel_rfl) rfl rfl ((Num_any _ _ (by omega) (by omega)).mono ?_)
              rintro e_ w23 ⟨rfl, hb⟩
              refine cR ?_
              have hpend := hb
              replace hbw := bthen hbw hb
              replace hB1 := hB1.bel hb
              replace hB5 := hB5.bel hb
              have hz_w23 := hb.size
              clear hb
              refine Wn (hQ_ _ _ (⟨_, _, rfl, rfl, hB1, hB5, (hR.bel hbw).cellAt (by omega) hux⟩) ?_)
              clear hQ_ hP_ Q_
              refine uP (uA rfl (fun Q_ hQ_ hP_ => ?_) u0)
              replace hR48 := hR48.bel hpend
              clear hpend
              refine st (X.strOf (s := [byteI kb, byteI x.name.length]) rfl Tryd.underlying58 Tryd.underlying5 Tryd.underlying9 hR48.reads) rfl ?_
              refine Wn (hQ_ _ _ (⟨_, _, rfl, rfl, hB1, hB5, (hR.bel hbw).cellAt (by omega) hux⟩) ?_)
              clear hQ_ hP_ Q_
              refine uY rfl (fun W_ hW_ => (X.cat rfl rfl (by simp; omega))) rfl ?_
              refine uY rfl (fun W_ hW_ => (X.cat rfl rfl (by simp; omega))) rfl ?_
              refine uY rfl (fun W_ hW_ => (X.cat rfl rfl (by simp [four_length]; omega))) rfl ?_
              refine uY rfl (fun W_ hW_ => (X.assign rfl)) rfl ?_
              refine uN ?_
              refine nN ?_
              refine tN ⟨⟨rfl, rfl, rfl, trivial⟩, hB1, hbw⟩
          · refine sc _ Tryd.func46 rfl (by kernel_rfl) rfl rfl ((Num_any _ _ (by omega) (by omega)).mono ?_)
            rintro e_ w24 ⟨rfl, hb⟩
            refine cR ?_
            replace hbw := bthen hbw hb
            replace hB1 := hB1.bel hb
            replace hB5 := hB5.bel hb
            have hz_w24 := hb.size
            clear hb
            refine Wn (hQ_ _ _ (⟨_, _, rfl, rfl, hB1, hB5, (hR.bel hbw).cellAt (by omega) hux⟩) ?_)
            clear hQ_ hP_ Q_
            refine uP (uA rfl (fun Q_ hQ_ hP_ => ?_) u0)
            refine sbs (ps := [(0, .tmp 43), (1, .tmp 47)]) 1 rfl (bs2b _ _ _) (by simp [maxLen]) rfl rfl (fun g48 w25 hR48 hg48 hb => ?_)
            replace hB1 := hB1.belowAll hb
            replace hB5 := hB5.belowAll hb
            replace hbw := bthen hbw hb
            have hz97 := hb.size
            clear hb
            refine Wn (hQ_ _ _ (⟨_, _, rfl, rfl, hB1, hB5, (hR.bel hbw).cellAt (by omega) hux⟩) ?_)
            clear hQ_ hP_ Q_
            refine uP (uA rfl (fun Q_ hQ_ hP_ => ?_) u0)
            refine st (X.strOf (s := [byteI kb, byteI x.name.length]) rfl Tryd.underlying58 Tryd.underlying5 Tryd.underlying9 hR48.reads) rfl ?_
            refine Wn (hQ_ _ _ (⟨_, _, rfl, rfl, hB1, hB5, (hR.bel hbw).cellAt (by omega) hux⟩) ?_)
            clear hQ_ hP_ Q_
            refine uY rfl (fun W_ hW_ => (X.cat rfl rfl (by simp; omega))) rfl ?_
            refine uY rfl (fun W_ hW_ => (X.cat rfl rfl (by simp; omega))) rfl ?_
            refine uY rfl (fun W_ hW_ => (X.cat rfl rfl (by simp [four_length]; omega))) rfl ?_
            refine uY rfl (fun W_ hW_ => (X.assign rfl)) rfl ?_
            refine uN ?_
            refine nN ?_
            refine tN ⟨⟨rfl, rfl, rfl, trivial⟩, hB1, hbw⟩
        · clear hB1 hbw
          rintro l_ w19 ⟨hs_, hB1, hbw⟩
          refine W_sub [(1, .pointer (some ⟨g1, 0, none⟩)), (3, str (PRE ++ [byteI kb, byteI x.name.length] ++ x.name ++ four (l.length : Nat))), (4, .int .i64 j)] ?_ hs_
          clear hs_
          have hz_w19 := hbw.size
          have hlt_hB1_w19 := hB1.lt
          refine W_rs ?_
          obtain ⟨P2, hP2⟩ : ∃ q, PRE ++ [byteI kb, byteI x.name.length] ++ x.name ++ four (l.length : Nat) = q := ⟨_, rfl⟩
          have hP2l : P2.length ≤ 40000100 := by rw [← hP2]; simp [four_length]; omega
          rw [hP2]
          refine sa rfl rfl ?_
          refine Wn ?_
          refine tN ?_
          refine W_block ?_
          refine W_lp (fun nw26_ lw26_ w26 => ∃ k : Nat, nw26_ = l.length - k ∧ lw26_ = ([(1, .pointer (some ⟨g1, 0, none⟩)), (3, str (P2 ++ (l.take k).flatMap chkBytes)), (4, .int .i64 j), (7, .int .i64 k)] : Env) ∧ (k ≤ l.length) ∧ (Blk w26 g1 32 #[.int .i64 m.id, .int .i64 m.rows, .slice (some ⟨gcol, ocol, none⟩) m.cols.length cc, .slice (some ⟨gs, os_, none⟩) m.strs.length cs]) ∧ (Below w.heap.size w w26)) _ ⟨_, ⟨0, rfl, rfl, by omega, hB1, hbw⟩, ⟨rfl, by rw [List.take_zero, List.flatMap_nil, List.append_nil]; rfl, rfl, rfl, trivial⟩⟩ ?_
          clear hB1 hbw
          rintro nw26_ lw26_ w26 ⟨k, rfl, rfl, hk', hB1, hbw⟩
          have hz_w26 := hbw.size
          have hlt_hB1_w26 := hB1.lt
          refine W_seq ?_
          refine W_rs ?_
          refine sm rfl rfl ?_
          refine st (X.fa fa32_3 rfl) rfl ?_
          refine st (X.ldL rfl hB1 Tryd.underlying30 rfl rfl) rfl ?_
          refine sm rfl rfl ?_
          refine st (X.idxA rfl rfl Tryd.underlying30 siz67 rfl (by omega)) rfl ?_
          refine st (X.ld rfl Tryd.underlying67 rfl (by rw [Nat.mul_one]; exact (hR.bel hbw).cellAt (by omega) hux)) rfl ?_
          refine st (X.lenL rfl rfl Tryd.underlying67) rfl ?_
          refine st (X.lss rfl rfl) rfl ?_
          refine Wn ?_
          refine tN ?_
          refine W_if rfl (fun h69 => ?_) (fun h69 => ?_)
          · first | replace h69 := of_decide_eq_true h69 | replace h69 := of_decide_eq_false (notT h69) | replace h69 := notT h69 | skip
            obtain ⟨c, hcx⟩ : ∃ c, l[k]? = some c := ⟨_, List.getElem?_eq_getElem (by omega)⟩
            obtain ⟨g2, o2, c'', hv, hg2⟩ := (hcu.bel hbw).some_ (by omega)
            injection hv with e1 _ e3
            subst e1 e3
            have hcl := hl32 c (List.mem_of_getElem? hcx)
            have hclen := strErr_lens (ok.strs l (List.mem_of_getElem? hl)) c (List.mem_of_getElem? hcx)
            have hfl : ((l.take k).flatMap chkBytes).length ≤ 720000 := by rw [flat_length chkBytes 36 _ (fun c hc => chkBytes_length (hl32 c (List.mem_of_mem_take hc))), List.length_take]; omega
            refine W_skip ?_
            refine tN ?_
            refine W_seq ?_
            refine W_block ?_
            refine W_drN (fun W_ => ∃ gz, gz = g1 ∧ Blk W_ gz 32 #[.int .i64 m.id, .int .i64 m.rows, .slice (some ⟨gcol, ocol, none⟩) m.cols.length cc, .slice (some ⟨gs, os_, none⟩) m.strs.length cs] ∧ W_.cell? ⟨gs, os_ + j, none⟩ = some (.slice (some ⟨g2, o2, none⟩) l.length cu) ∧ W_.rangeAt g2 (o2 + k * 2) (rcells c)) [0, 1, 2, 3, 4, 5, 6, 7, 8, 9, 10, 11, 12, 13, 14, 15, 16, 17, 18, 19, 20, 21, 22] [true, true, true, true, true, true, true, true, true, true, true, true, true, true, true, true, true, true, true, true, false, true, true] (by kernel_rfl) (by kernel_rfl) (⟨_, rfl, hB1.drew, (hR.bel (bdrew hbw)).cellAt (by omega) hux, (hcu.bel (bdrew hbw)).rec_ (fun a _ => rcells_length a) hcx⟩) ?_
            obtain ⟨w27, hw_⟩ : ∃ w27 : World, w27 = World.drew w26 := ⟨_, rfl⟩
            rw [← hw_]
            have hb : Below w26.heap.size w26 w27 := by rw [hw_]; exact bdrew (Below.refl _ _)
            clear hw_
            have hS := hb
            replace hbw := bthen hbw hb
            replace hB1 := hB1.bel hb
            have hz_w27 := hb.size
            clear hb
            refine oY rfl (fun W_ hW_ => (X.move rfl)) rfl ?_
            refine oY rfl (fun W_ hW_ => (X.fa fa32_3 rfl)) rfl ?_
            refine oY rfl (fun W_ hW_ => (X.ldL rfl (by obtain ⟨gz, rfl, k1, k2, k3⟩ := hW_; exact k1) Tryd.underlying30 rfl rfl)) rfl ?_
            refine oY rfl (fun W_ hW_ => (X.move rfl)) rfl ?_
            refine oY rfl (fun W_ hW_ => (X.idxA rfl rfl Tryd.underlying30 siz67 rfl (by omega))) rfl ?_
            refine oY rfl (fun W_ hW_ => (X.ld rfl Tryd.underlying67 rfl (by rw [Nat.mul_one]; obtain ⟨gz, rfl, k1, k2, k3⟩ := hW_; exact k2))) rfl ?_
            refine oY rfl (fun W_ hW_ => (X.move rfl)) rfl ?_
            refine oY rfl (fun W_ hW_ => (X.idxA rfl rfl Tryd.underlying67 siz69 rfl (by omega))) rfl ?_
            refine oY rfl (fun W_ hW_ => (X.fa fa69_0 rfl)) rfl ?_
            refine oY rfl (fun W_ hW_ => (X.ld rfl Tryd.underlying9 rfl (by obtain ⟨gz, rfl, k1, k2, k3⟩ := hW_; exact k3 0 _ rfl))) rfl ?_
            refine oY rfl (fun W_ hW_ => (X.cat rfl rfl (by rw [List.length_append, hcl]; omega))) rfl ?_
            refine oY rfl (fun W_ hW_ => (X.fa fa32_3 rfl)) rfl ?_
            refine oY rfl (fun W_ hW_ => (X.ldL rfl (by obtain ⟨gz, rfl, k1, k2, k3⟩ := hW_; exact k1) Tryd.underlying30 rfl rfl)) rfl ?_
            refine oY rfl (fun W_ hW_ => (X.move rfl)) rfl ?_
            refine oY rfl (fun W_ hW_ => (X.idxA rfl rfl Tryd.underlying30 siz67 rfl (by omega))) rfl ?_
            refine oY rfl (fun W_ hW_ => (X.ld rfl Tryd.underlying67 rfl (by rw [Nat.mul_one]; obtain ⟨gz, rfl, k1, k2, k3⟩ := hW_; exact k2))) rfl ?_
            refine oY rfl (fun W_ hW_ => (X.move rfl)) rfl ?_
            refine oY rfl (fun W_ hW_ => (X.idxA rfl rfl Tryd.underlying67 siz69 rfl (by omega))) rfl ?_
            refine oY rfl (fun W_ hW_ => (X.fa fa69_1 rfl)) rfl ?_
            refine oY rfl (fun W_ hW_ => (X.ld rfl Tryd.underlying3 rfl (by obtain ⟨gz, rfl, k1, k2, k3⟩ := hW_; exact k3 1 _ rfl))) rfl ?_
            refine oL rfl (fun Q_ hQ_ hP_ => ?_)
            refine sc _ Tryd.func46 rfl (by kernel_rfl) rfl rfl ((Num_any _ _ (by omega) (by omega)).mono ?_)
            rintro e_ w28 ⟨rfl, hb⟩
            refine cR ?_
            replace hbw := bthen hbw hb
            replace hB1 := hB1.bel hb
            have hz_w28 := hb.size
            clear hb
            refine Wn (hQ_ _ _ (⟨_, rfl, hB1, (hR.bel hbw).cellAt (by omega) hux, (hcu.bel hbw).rec_ (fun a _ => rcells_length a) hcx⟩) ?_)
            clear hQ_ hP_ Q_
            refine oY rfl (fun W_ hW_ => (X.cat rfl rfl (by rw [List.length_append, List.length_append, hcl, four_length]; omega))) rfl ?_
            refine oY rfl (fun W_ hW_ => (X.assign rfl)) rfl ?_
            refine oN ?_
            refine nN ?_
            refine bN ?_
            refine tN ?_
            refine W_reg ?_
            rw [show P2 ++ (l.take k).flatMap chkBytes ++ c.sum ++ four c.len = P2 ++ (l.take (k + 1)).flatMap chkBytes by rw [take_next' hcx, List.flatMap_append]; simp [chkBytes]]
            refine sm rfl rfl ?_
            refine st (X.add64 rfl rfl (by omega)) rfl ?_
            refine sa rfl rfl ?_
            refine Wn ?_
            refine tN ⟨_, _, ?_, ⟨k + 1, rfl, rfl, by omega, hB1, hbw⟩, ⟨rfl, rfl, rfl, rfl, trivial⟩⟩
            omega
          · first | replace h69 := of_decide_eq_false h69 | replace h69 := of_decide_eq_true (notF h69) | replace h69 := notF h69 | skip
            obtain rfl : k = l.length := by omega
            have htk : encHead m ++ ((m.cols.zip m.strs).take (j + 1)).flatMap colBytes = P2 ++ l.flatMap chkBytes := by
              rw [take_next' hzip, List.flatMap_append, List.flatMap_singleton, ← List.append_assoc, hPRE, ← hP2, hkb, kind_more]
              simp [colBytes]
            rw [List.take_length, ← htk]
            refine W_exit (tE (tE (bH ?_)))
            refine bN ?_
            refine tN ?_
            refine W_reg ?_
            refine sm rfl rfl ?_
            refine st (X.add64 rfl rfl (by omega)) rfl ?_
            refine sa rfl rfl ?_
            refine Wn ?_
            refine tN ⟨_, _, ?_, ⟨j + 1, rfl, rfl, by omega, hB1, hbw⟩, ⟨rfl, rfl, rfl, trivial⟩⟩
            omega
      · first | replace h38 := of_decide_eq_false h38 | replace h38 := of_decide_eq_true (notF h38) | replace h38 := notF h38 | skip
        obtain ⟨kb, hkb2⟩ : ∃ kb : Int, kb = x.kind := ⟨_, rfl⟩
        have hkb : kb = if x.null then x.kind + 128 else x.kind := by rw [h38, hkb2]; rfl
        rw [← hkb2]
        refine W_skip ?_
        refine tN ?_
        refine W_cut (fun l_ w29 => sub ([(1, .pointer (some ⟨g1, 0, none⟩)), (3, str (PRE ++ [byteI kb, byteI x.name.length] ++ x.name ++ four (l.length : Nat))), (4, .int .i64 j)] : Env) l_ ∧ (Blk w29 g1 32 #[.int .i64 m.id, .int .i64 m.rows, .slice (some ⟨gcol, ocol, none⟩) m.cols.length cc, .slice (some ⟨gs, os_, none⟩) m.strs.length cs]) ∧ (Below w.heap.size w w29)) ?_ ?_
        · have hcell := (hR.bel hbw).cellAt (by omega) hux
          refine W_trN (fun W_ => ∃ gz gy, gz = g1 ∧ gy = g5 ∧ Blk W_ gz 32 #[.int .i64 m.id, .int .i64 m.rows, .slice (some ⟨gcol, ocol, none⟩) m.cols.length cc, .slice (some ⟨gs, os_, none⟩) m.strs.length cs] ∧ Blk W_ gy 60 x.cells.toArray ∧ W_.cell? ⟨gs, os_ + j, none⟩ = some (.slice au l.length cu)) (.yes 0 (.yes 1 (.yes 2 (.yes 3 (.yes 4 (.yes 5 (.yes 6 (.yes 10 (.yes 11 (.yes 13 (.yes 14 (.yes 15 (.yes 16 (.yes 17 (.yes 18 (.pick (.alt 7 (.pick (.alt 8 (.yes 9 (.yes 12 (.pick (.alt 19 (.yes 20 (.yes 21 (.nil))) (.no))))) (.alt 19 (.pick (.alt 8 (.yes 9 (.yes 12 (.yes 20 (.yes 21 (.nil))))) (.no))) (.no)))) (.alt 19 (.pick (.alt 7 (.pick (.alt 8 (.yes 9 (.yes 12 (.yes 20 (.yes 21 (.nil))))) (.no))) (.no))) (.no))))))))))))))))))) (by kernel_rfl) (by kernel_rfl) (⟨_, _, rfl, rfl, hB1.drew, hB5.drew, (hR.bel (bdrew hbw)).cellAt (by omega) hux⟩) ?_
          obtain ⟨w30, hw_⟩ : ∃ w30 : World, w30 = World.drew w18 := ⟨_, rfl⟩
          rw [← hw_]
          have hb : Below w18.heap.size w18 w30 := by rw [hw_]; exact bdrew (Below.refl _ _)
          clear hw_
          have hS := hb
          replace hbw := bthen hbw hb
          replace hB1 := hB1.bel hb
          replace hB5 := hB5.bel hb
          have hz_w30 := hb.size
          clear hb
          refine uY rfl (fun W_ hW_ => (X.move rfl)) rfl ?_
          refine uY rfl (fun W_ hW_ => (X.move rfl)) rfl ?_
          refine uY rfl (fun W_ hW_ => (X.convI rfl Tryd.underlying3 Tryd.underlying5 (wb _))) rfl ?_
          refine uY rfl (fun W_ hW_ => (X.fa fa60_0 rfl)) rfl ?_
          refine uY rfl (fun W_ hW_ => (X.ldL rfl (by obtain ⟨gz, gy, rfl, rfl, k1, k2, k3⟩ := hW_; exact k2) Tryd.underlying9 rfl rfl)) rfl ?_
          refine uY rfl (fun W_ hW_ => (X.lenS rfl rfl Tryd.underlying9)) rfl ?_
          refine uY rfl (fun W_ hW_ => (X.convI rfl Tryd.underlying3 Tryd.underlying5 (wb _))) rfl ?_
          refine uY rfl (fun W_ hW_ => (X.fa fa60_0 rfl)) rfl ?_
          refine uY rfl (fun W_ hW_ => (X.ldL rfl (by obtain ⟨gz, gy, rfl, rfl, k1, k2, k3⟩ := hW_; exact k2) Tryd.underlying9 rfl rfl)) rfl ?_
          refine uY rfl (fun W_ hW_ => (X.fa fa32_3 rfl)) rfl ?_
          refine uY rfl (fun W_ hW_ => (X.ldL rfl (by obtain ⟨gz, gy, rfl, rfl, k1, k2, k3⟩ := hW_; exact k1) Tryd.underlying30 rfl rfl)) rfl ?_
          refine uY rfl (fun W_ hW_ => (X.move rfl)) rfl ?_
          refine uY rfl (fun W_ hW_ => (X.idxA rfl rfl Tryd.underlying30 siz67 rfl (by omega))) rfl ?_
          refine uY rfl (fun W_ hW_ => (X.ld rfl Tryd.underlying67 rfl (by rw [Nat.mul_one]; obtain ⟨gz, gy, rfl, rfl, k1, k2, k3⟩ := hW_; exact k3))) rfl ?_
          refine uY rfl (fun W_ hW_ => (X.lenL rfl rfl Tryd.underlying67)) rfl ?_
          refine uP (uA rfl (fun Q_ hQ_ hP_ => ?_) (uA rfl (fun Q_ hQ_ hP_ => ?_) u0))
          · refine sbs (ps := [(0, .tmp 43), (1, .tmp 47)]) 1 rfl (bs2b _ _ _) (by simp [maxLen]) rfl rfl (fun g48 w31 hR48 hg48 hb => ?_)
            replace hB1 := hB1.belowAll hb
            replace hB5 := hB5.belowAll hb
            replace hbw := bthen hbw hb
            have hz97 := hb.size
            clear hb
            refine Wn (hQ_ _ _ (⟨_, _, rfl, rfl, hB1, hB5, (hR.bel hbw).cellAt (by omega) hux⟩) ?_)
            clear hQ_ hP_ Q_
            refine uP (uA rfl (fun Q_ hQ_ hP_ => ?_) (uA rfl (fun Q_ hQ_ hP_ => ?_) u0))
            · refine st (X.strOf (s := [byteI kb, byteI x.name.length]) rfl Tryd.underlying58 Tryd.underlying5 Tryd.underlying9 hR48.reads) rfl ?_
              refine Wn (hQ_ _ _ (⟨_, _, rfl, rfl, hB1, hB5, (hR.bel hbw).cellAt (by omega) hux⟩) ?_)
              clear hQ_ hP_ Q_
              refine uY rfl (fun W_ hW_ => (X.cat rfl rfl (by simp; omega))) rfl ?_
              refine uY rfl (fun W_ hW_ => (X.cat rfl rfl (by simp; omega))) rfl ?_
              refine uP (uA rfl (fun Q_ hQ_ hP_ => ?_) u0)
              refine sc _ Tryd.func46 rfl (by kernel_rfl) rfl rfl ((Num_any _ _ (by omega) (by omega)).mono ?_)
              rintro e_ w32 ⟨rfl, hb⟩
              refine cR ?_
              replace hbw := bthen hbw hb
              replace hB1 := hB1.bel hb
              replace hB5 := hB5.bel hb
              have hz_w32 := hb.size
              clear hb
              refine Wn (hQ_ _ _ (⟨_, _, rfl, rfl, hB1, hB5, (hR.bel hbw).cellAt (by omega) hux⟩) ?_)
              clear hQ_ hP_ Q_
              refine uY rfl (fun W_ hW_ => (X.cat rfl rfl (by simp [four_length]; omega))) rfl ?_
              refine uY rfl (fun W_ hW_ => (X.assign rfl)) rfl ?_
              refine uN ?_
              refine nN ?_
              refine tN ⟨⟨rfl, rfl, rfl, trivial⟩, hB1, hbw⟩
            · refine sc _ Tryd.func46 rfl (by kernel_rfl) rfl rfl ((Num_any _ _ (by omega) (by omega)).mono ?_)
              rintro e_ w33 ⟨rfl, hb⟩
              refine cR ?_
              have hpend := hb
              replace hbw := bthen hbw hb
              replace hB1 := hB1.bel hb
              replace hB5 := hB5.bel hb
              have hz_w33 := hb.size
              clear hb
              refine Wn (hQ_ _ _ (⟨_, _, rfl, rfl, hB1, hB5, (hR.bel hbw).cellAt (by omega) hux⟩) ?_)
              clear hQ_ hP_ Q_
              refine uP (uA rfl (fun Q_ hQ_ hP_ => ?_) u0)
              replace hR48 := hR48.bel hpend
              clear hpend
              refine st (X.strOf (s := [byteI kb, byteI x.name.length]) rfl Tryd.underlying58 Tryd.underlying5 Tryd.underlying9 hR48.reads) rfl ?_
              refine Wn (hQ_ _ _ (⟨_, _, rfl, rfl, hB1, hB5, (hR.bel hbw).cellAt (by omega) hux⟩) ?_)
              clear hQ_ hP_ Q_
              refine uY rfl (fun W_ hW_ => (X.cat rfl rfl (by simp; omega))) rfl ?_
              refine uY rfl (fun W_ hW_ => (X.cat rfl rfl (by simp; omega))) rfl ?_
              refine uY rfl (fun W_ hW_ => (X.cat rfl rfl (by simp [four_length]; omega))) rfl ?_
              refine uY rfl (fun W_ hW_ => (X.assign rfl)) rfl ?_
              refine uN ?_
              refine nN ?_
              refine tN ⟨⟨rfl, rfl, rfl, trivial⟩, hB1, hbw⟩
          · refine sc _ Tryd.func46 rfl (by kernel_rfl) rfl rfl ((Num_any _ _ (by omega) (by omega)).mono ?_)
            rintro e_ w34 ⟨rfl, hb⟩
            refine cR ?_
            replace hbw := bthen hbw hb
            replace hB1 := hB1.bel hb
            replace hB5 := hB5.bel hb
            have hz_w34 := hb.size
            clear hb
            refine Wn (hQ_ _ _ (⟨_, _, rfl, rfl, hB1, hB5, (hR.bel hbw).cellAt (by omega) hux⟩) ?_)
            clear hQ_ hP_ Q_
            refine uP (uA rfl (fun Q_ hQ_ hP_ => ?_) u0)
            refine sbs (ps := [(0, .tmp 43), (1, .tmp 47)]) 1 rfl (bs2b _ _ _) (by simp [maxLen]) rfl rfl (fun g48 w35 hR48 hg48 hb => ?_)
            replace hB1 := hB1.belowAll hb
            replace hB5 := hB5.belowAll hb
            replace hbw := bthen hbw hb
            have hz97 := hb.size
            clear hb
            refine Wn (hQ_ _ _ (⟨_, _, rfl, rfl, hB1, hB5, (hR.bel hbw).cellAt (by omega) hux⟩) ?_)
            clear hQ_ hP_ Q_
            refine uP (uA rfl (fun Q_ hQ_ hP_ => ?_) u0)
            refine st (X.strOf (s := [byteI kb, byteI x.name.length]) rfl Tryd.underlying58 Tryd.underlying5 Tryd.underlying9 hR48.reads) rfl ?_
            refine Wn (hQ_ _ _ (⟨_, _, rfl, rfl, hB1, hB5, (hR.bel hbw).cellAt (by omega) hux⟩) ?_)
            clear hQ_ hP_ Q_
            refine uY rfl (fun W_ hW_ => (X.cat rfl rfl (by simp; omega))) rfl ?_
            refine uY rfl (fun W_ hW_ => (X.cat rfl rfl (by simp; omega))) rfl ?_
            refine uY rfl (fun W_ hW_ => (X.cat rfl rfl (by simp [four_length]; omega))) rfl ?_
            refine uY rfl (fun W_ hW_ => (X.assign rfl)) rfl ?_
            refine uN ?_
            refine nN ?_
            refine tN ⟨⟨rfl, rfl, rfl, trivial⟩, hB1, hbw⟩
        · clear hB1 hbw
          rintro l_ w29 ⟨hs_, hB1, hbw⟩
          refine W_sub [(1, .pointer (some ⟨g1, 0, none⟩)), (3, str (PRE ++ [byteI kb, byteI x.name.length] ++ x.name ++ four (l.length : Nat))), (4, .int .i64 j)] ?_ hs_
          clear hs_
          have hz_w29 := hbw.size
          have hlt_hB1_w29 := hB1.lt
          refine W_rs ?_
          obtain ⟨P2, hP2⟩ : ∃ q, PRE ++ [byteI kb, byteI x.name.length] ++ x.name ++ four (l.length : Nat) = q := ⟨_, rfl⟩
          have hP2l : P2.length ≤ 40000100 := by rw [← hP2]; simp [four_length]; omega
          rw [hP2]
          refine sa rfl rfl ?_
          refine Wn ?_
          refine tN ?_
          refine W_block ?_
          refine W_lp (fun nw36_ lw36_ w36 => ∃ k : Nat, nw36_ = l.length - k ∧ lw36_ = ([(1, .pointer (some ⟨g1, 0, none⟩)), (3, str (P2 ++ (l.take k).flatMap chkBytes)), (4, .int .i64 j), (7, .int .i64 k)] : Env) ∧ (k ≤ l.length) ∧ (Blk w36 g1 32 #[.int .i64 m.id, .int .i64 m.rows, .slice (some ⟨gcol, ocol, none⟩) m.cols.length cc, .slice (some ⟨gs, os_, none⟩) m.strs.length cs]) ∧ (Below w.heap.size w w36)) _ ⟨_, ⟨0, rfl, rfl, by omega, hB1, hbw⟩, ⟨rfl, by rw [List.take_zero, List.flatMap_nil, List.append_nil]; rfl, rfl, rfl, trivial⟩⟩ ?_
          clear hB1 hbw
          rintro nw36_ lw36_ w36 ⟨k, rfl, rfl, hk', hB1, hbw⟩
          have hz_w36 := hbw.size
          have hlt_hB1_w36 := hB1.lt
          refine W_seq ?_
          refine W_rs ?_
          refine sm rfl rfl ?_
          refine st (X.fa fa32_3 rfl) rfl ?_
          refine st (X.ldL rfl hB1 Tryd.underlying30 rfl rfl) rfl ?_
          refine sm rfl rfl ?_
          refine st (X.idxA rfl rfl Tryd.underlying30 siz67 rfl (by omega)) rfl ?_
          refine st (X.ld rfl Tryd.underlying67 rfl (by rw [Nat.mul_one]; exact (hR.bel hbw).cellAt (by omega) hux)) rfl ?_
          refine st (X.lenL rfl rfl Tryd.underlying67) rfl ?_
          refine st (X.lss rfl rfl) rfl ?_
          refine Wn ?_
          refine tN ?_
          refine W_if rfl (fun h69 => ?_) (fun h69 => ?_)
          · first | replace h69 := of_decide_eq_true h69 | replace h69 := of_decide_eq_false (notT h69) | replace h69 := notT h69 | skip
            obtain ⟨c, hcx⟩ : ∃ c, l[k]? = some c := ⟨_, List.getElem?_eq_getElem (by omega)⟩
            obtain ⟨g2, o2, c'', hv, hg2⟩ := (hcu.bel hbw).some_ (by omega)
            injection hv with e1 _ e3
            subst e1 e3
            have hcl := hl32 c (List.mem_of_getElem? hcx)
            have hclen := strErr_lens (ok.strs l (List.mem_of_getElem? hl)) c (List.mem_of_getElem? hcx)
            have hfl : ((l.take k).flatMap chkBytes).length ≤ 720000 := by rw [flat_length chkBytes 36 _ (fun c hc => chkBytes_length (hl32 c (List.mem_of_mem_take hc))), List.length_take]; omega
            refine W_skip ?_
            refine tN ?_
            refine W_seq ?_
            refine W_block ?_
            refine W_drN (fun W_ => ∃ gz, gz = g1 ∧ Blk W_ gz 32 #[.int .i64 m.id, .int .i64 m.rows, .slice (some ⟨gcol, ocol, none⟩) m.cols.length cc, .slice (some ⟨gs, os_, none⟩) m.strs.length cs] ∧ W_.cell? ⟨gs, os_ + j, none⟩ = some (.slice (some ⟨g2, o2, none⟩) l.length cu) ∧ W_.rangeAt g2 (o2 + k * 2) (rcells c)) [0, 1, 2, 3, 4, 5, 6, 7, 8, 9, 10, 11, 12, 13, 14, 15, 16, 17, 18, 19, 20, 21, 22] [true, true, true, true, true, true, true, true, true, true, true, true, true, true, true, true, true, true, true, true, false, true, true] (by kernel_rfl) (by kernel_rfl) (⟨_, rfl, hB1.drew, (hR.bel (bdrew hbw)).cellAt (by omega) hux, (hcu.bel (bdrew hbw)).rec_ (fun a _ => rcells_length a) hcx⟩) ?_
            obtain ⟨w37, hw_⟩ : ∃ w37 : World, w37 = World.drew w36 := ⟨_, rfl⟩
            rw [← hw_]
            have hb : Below w36.heap.size w36 w37 := by rw [hw_]; exact bdrew (Below.refl _ _)
            clear hw_
            have hS := hb
            replace hbw := bthen hbw hb
            replace hB1 := hB1.bel hb
            have hz_w37 := hb.size
            clear hb
            refine oY rfl (fun W_ hW_ => (X.move rfl)) rfl ?_
            refine oY rfl (fun W_ hW_ => (X.fa fa32_3 rfl)) rfl ?_
            refine oY rfl (fun W_ hW_ => (X.ldL rfl (by obtain ⟨gz, rfl, k1, k2, k3⟩ := hW_; exact k1) Tryd.underlying30 rfl rfl)) rfl ?_
            refine oY rfl (fun W_ hW_ => (X.move rfl)) rfl ?_
            refine oY rfl (fun W_ hW_ => (X.idxA rfl rfl Tryd.underlying30 siz67 rfl (by omega))) rfl ?_
            refine oY rfl (fun W_ hW_ => (X.ld rfl Tryd.underlying67 rfl (by rw [Nat.mul_one]; obtain ⟨gz, rfl, k1, k2, k3⟩ := hW_; exact k2))) rfl ?_
            refine oY rfl (fun W_ hW_ => (X.move rfl)) rfl ?_
            refine oY rfl (fun W_ hW_ => (X.idxA rfl rfl Tryd.underlying67 siz69 rfl (by omega))) rfl ?_
            refine oY rfl (fun W_ hW_ => (X.fa fa69_0 rfl)) rfl ?_
            refine oY rfl (fun W_ hW_ => (X.ld rfl Tryd.underlying9 rfl (by obtain ⟨gz, rfl, k1, k2, k3⟩ := hW_; exact k3 0 _ rfl))) rfl ?_
            refine oY rfl (fun W_ hW_ => (X.cat rfl rfl (by rw [List.length_append, hcl]; omega))) rfl ?_
            refine oY rfl (fun W_ hW_ => (X.fa fa32_3 rfl)) rfl ?_
            refine oY rfl (fun W_ hW_ => (X.ldL rfl (by obtain ⟨gz, rfl, k1, k2, k3⟩ := hW_; exact k1) Tryd.underlying30 rfl rfl)) rfl ?_
            refine oY rfl (fun W_ hW_ => (X.move rfl)) rfl ?_
            refine oY rfl (fun W_ hW_ => (X.idxA rfl rfl Tryd.underlying30 siz67 rfl (by omega))) rfl ?_
            refine oY rfl (fun W_ hW_ => (X.ld rfl Tryd.underlying67 rfl (by rw [Nat.mul_one]; obtain ⟨gz, rfl, k1, k2, k3⟩ := hW_; exact k2))) rfl ?_
            refine oY rfl (fun W_ hW_ => (X.move rfl)) rfl ?_
            refine oY rfl (fun W_ hW_ => (X.idxA rfl rfl Tryd.underlying67 siz69 rfl (by omega))) rfl ?_
            refine oY rfl (fun W_ hW_ => (X.fa fa69_1 rfl)) rfl ?_
            refine oY rfl (fun W_ hW_ => (X.ld rfl Tryd.underlying3 rfl (by obtain ⟨gz, rfl, k1, k2, k3⟩ := hW_; exact k3 1 _ rfl))) rfl ?_
            refine oL rfl (fun Q_ hQ_ hP_ => ?_)
            refine sc _ Tryd.func46 rfl (by kernel_rfl) rfl rfl ((Num_any _ _ (by omega) (by omega)).mono ?_)
            rintro e_ w38 ⟨rfl, hb⟩
            refine cR ?_
            replace hbw := bthen hbw hb
            replace hB1 := hB1.bel hb
            have hz_w38 := hb.size
            clear hb
            refine Wn (hQ_ _ _ (⟨_, rfl, hB1, (hR.bel hbw).cellAt (by omega) hux, (hcu.bel hbw).rec_ (fun a _ => rcells_length a) hcx⟩) ?_)
            clear hQ_ hP_ Q_
            refine oY rfl (fun W_ hW_ => (X.cat rfl rfl (by rw [List.length_append, List.length_append, hcl, four_length]; omega))) rfl ?_
            refine oY rfl (fun W_ hW_ => (X.assign rfl)) rfl ?_
            refine oN ?_
            refine nN ?_
            refine bN ?_
            refine tN ?_
            refine W_reg ?_
            rw [show P2 ++ (l.take k).flatMap chkBytes ++ c.sum ++ four c.len = P2 ++ (l.take (k + 1)).flatMap chkBytes by rw [take_next' hcx, List.flatMap_append]; simp [chkBytes]]
            refine sm rfl rfl ?_
            refine st (X.add64 rfl rfl (by omega)) rfl ?_
            refine sa rfl rfl ?_
            refine Wn ?_
            refine tN ⟨_, _, ?_, ⟨k + 1, rfl, rfl, by omega, hB1, hbw⟩, ⟨rfl, rfl, rfl, rfl, trivial⟩⟩
            omega
          · first | replace h69 := of_decide_eq_false h69 | replace h69 := of_decide_eq_true (notF h69) | replace h69 := notF h69 | skip
            obtain rfl : k = l.length := by omega
            have htk : encHead m ++ ((m.cols.zip m.strs).take (j + 1)).flatMap colBytes = P2 ++ l.flatMap chkBytes := by
              rw [take_next' hzip, List.flatMap_append, List.flatMap_singleton, ← List.append_assoc, hPRE, ← hP2, hkb, kind_more]
              simp [colBytes]
            rw [List.take_length, ← htk]
            refine W_exit (tE (tE (bH ?_)))
            refine bN ?_
            refine tN ?_
            refine W_reg ?_
            refine sm rfl rfl ?_
            refine st (X.add64 rfl rfl (by omega)) rfl ?_
            refine sa rfl rfl ?_
            refine Wn ?_
            refine tN ⟨_, _, ?_, ⟨j + 1, rfl, rfl, by omega, hB1, hbw⟩, ⟨rfl, rfl, rfl, trivial⟩⟩
            omega
    · first | replace h27 := of_decide_eq_false h27 | replace h27 := of_decide_eq_true (notF h27) | replace h27 := notF h27 | skip
      obtain rfl : j = m.cols.length := by omega
      have hfull : encHead m ++ ((m.cols.zip m.strs).take m.cols.length).flatMap colBytes = encBody m := by rw [List.take_of_length_le (by rw [List.length_zip]; omega)]; rfl
      have hpl := encCols_length ok h32 m.cols.length
      have hEl : (encBody m).length ≤ 40000000 := by rw [← hfull, List.length_append, hhd]; omega
      have hcc' := (Crc.crc (encBody m)).toNat_lt
      rw [hfull]
      refine W_exit (tE (tE (bH ?_)))
      refine tN ?_
      refine W_rs ?_
      refine sm rfl rfl ?_
      refine sm rfl rfl ?_
      refine sc _ Tryd.func24 rfl (by kernel_rfl) rfl rfl ((refCrc_any (encBody m) _ (by omega)).mono ?_)
      rintro e_ w_ ⟨rfl, rfl⟩
      refine cR ?_
      refine st (X.convI (z := ((Crc.crc (encBody m)).toNat : Int)) rfl Tryd.underlying62 Tryd.underlying3 (w64 (by omega))) rfl ?_
      refine sc _ Tryd.func46 rfl (by kernel_rfl) rfl rfl ((Num_any _ _ (by omega) (by omega)).mono ?_)
      rintro e_ w39 ⟨rfl, hb⟩
      refine cR ?_
      replace hbw := bthen hbw hb
      replace hB1 := hB1.bel hb
      have hz_w39 := hb.size
      clear hb
      refine st (X.cat rfl rfl (by rw [four_length]; omega)) rfl ?_
      refine sa rfl rfl ?_
      refine Wn ?_
      refine tN ?_
      refine W_ret ?_
      exact (rT rfl rfl ⟨rfl, hbw⟩).1
theorem REncode19_any (m : Man) (vc vr : Value) (w : World) (hc : ColsAt w vc m.cols) (hr : RStrsAt w vr m.strs) (h32 : ∀ l ∈ m.strs, ∀ c ∈ l, c.sum.length = 32) (hT : UT w) :
    Calls Tryd.prog 13 #[.agg #[.int .i64 m.id, .int .i64 m.rows, vc, vr]] w fun e w' => e = .returned (.tuple #[str (if manErr colsOk m = 0 then encode m else []), .int .i64 (manErr colsOk m)]) ∧ Below w.heap.size w w' := by
  refine W_enter (args := [.agg #[.int .i64 m.id, .int .i64 m.rows, vc, vr]]) 12 Tryd.func13 rfl rfl rfl ?_
  refine W_sub [(0, .agg #[.int .i64 m.id, .int .i64 m.rows, vc, vr])] ?_ ⟨rfl, trivial⟩
  have hbw := Below.refl w.heap.size w
  refine W_rs ?_
  refine sboxA rfl rfl (fun g1 w1 hB1 hg1 hb hl1 => ?_)
  replace hbw := bthen hbw hb
  have hz_w1 := hb.size
  clear hb
  refine sa rfl rfl ?_
  refine sa rfl rfl ?_
  refine Wn ?_
  refine tN ?_
  refine W_rs ?_
  refine st (X.ldBN rfl hB1 Tryd.underlying32 rfl siz32) rfl ?_
  refine sc _ Tryd.func25 rfl (by kernel_rfl) rfl rfl ((RefCheck_any m vc vr _ (hc.bel hbw) (hr.bel hbw) (hT.bel hbw)).mono ?_)
  rintro e_ w2 ⟨rfl, hb⟩
  refine cR ?_
  replace hbw := bthen hbw hb
  replace hB1 := hB1.bel hb
  have hz_w2 := hb.size
  clear hb
  refine sa rfl rfl ?_
  refine Wn ?_
  refine tN ?_
  refine W_seq ?_
  refine W_rs ?_
  refine sm rfl rfl ?_
  refine st (X.neq rfl rfl) rfl ?_
  refine Wn ?_
  refine tN ?_
  refine W_if rfl (fun h8 => ?_) (fun h8 => ?_)
  · first | replace h8 := of_decide_eq_true h8 | replace h8 := of_decide_eq_false (notT h8) | replace h8 := notT h8 | skip
    refine W_rs ?_
    refine sm rfl rfl ?_
    refine sa rfl rfl ?_
    refine sa rfl rfl ?_
    refine Wn ?_
    refine tN ?_
    refine W_ret (tR ?_)
    refine (rTT rfl rfl rfl ⟨?_, hbw⟩).1
    rw [if_neg h8]
    rfl
  · first | replace h8 := of_decide_eq_false h8 | replace h8 := of_decide_eq_true (notF h8) | replace h8 := notF h8 | skip
    have he : manErr colsOk m = 0 := Classical.not_not.1 h8
    refine W_skip ?_
    refine tN ?_
    refine W_rs ?_
    refine st (X.ldBN rfl hB1 Tryd.underlying32 rfl siz32) rfl ?_
    refine sc _ Tryd.func31 rfl (by kernel_rfl) rfl rfl ((RBytes_any m vc vr _ (hc.bel hbw) (hr.bel hbw) h32 he).mono ?_)
    rintro e_ w3 ⟨rfl, hb⟩
    refine cR ?_
    replace hbw := bthen hbw hb
    replace hB1 := hB1.bel hb
    have hz_w3 := hb.size
    clear hb
    refine sa rfl rfl ?_
    refine sa rfl rfl ?_
    refine Wn ?_
    refine tN ?_
    refine W_ret ?_
    refine (rTT rfl rfl rfl ⟨?_, hbw⟩).1
    rw [if_pos he, he]
end Go.Proofs.YtnagmpnpgekhfaaDoor
namespace Go.Proofs.YtnagmpnpgekhfaaDoor
open Go.RowKit
theorem lensV_snoc {ls : List (List Chk)} {i : Nat} {x : List Chk} (hx : ls[i]? = some x) : lensV (ls.take (i + 1)) = lensV (ls.take i) ++ [.int .i64 (wsum x)] := by
  rw [take_next' hx]
  simp [lensV]
theorem lensV_length (ls : List (List Chk)) : (lensV ls).length = ls.length := List.length_map _
set_option maxRecDepth 10000 in
set_option maxHeartbeats 1000000 in
theorem RLens_any (m : Man) (vc vr : Value) (w : World) (hr : RStrsAt w vr m.strs) (hll : m.strs.length ≤ 1000000) :
    Calls Tryd.prog 15 #[.agg #[.int .i64 m.id, .int .i64 m.rows, vc, vr]] w fun e w' => ∃ v', e = .returned v' ∧ Row w' 3 1 v' m.strs.length (lensV m.strs) ∧ (∀ k, v'.ownBlock = some k → w.heap.size ≤ k) ∧ Below w.heap.size w w' := by
  obtain ⟨us, hR, hu⟩ := hr
  obtain ⟨sa_, cs, rfl, hsn, hsc⟩ := hR.shape
  refine W_enter (args := [.agg #[.int .i64 m.id, .int .i64 m.rows, vc, .slice sa_ m.strs.length cs]]) 40 Tryd.func15 rfl rfl rfl ?_
  refine W_sub [(0, .agg #[.int .i64 m.id, .int .i64 m.rows, vc, .slice sa_ m.strs.length cs])] ?_ ⟨rfl, trivial⟩
  have hbw := Below.refl w.heap.size w
  refine W_rs ?_
  refine sboxA rfl rfl (fun g1 w1 hB1 hg1 hb hl1 => ?_)
  replace hbw := bthen hbw hb
  have hz_w1 := hb.size
  clear hb
  refine sa rfl rfl ?_
  refine Wn ?_
  refine tN ?_
  refine W_rs ?_
  refine sa rfl rfl ?_
  refine Wn ?_
  refine tN ?_
  refine W_seq ?_
  refine W_rs ?_
  refine sa rfl rfl ?_
  refine Wn ?_
  refine tN ?_
  refine W_block ?_
  refine W_lp (fun nw2_ lw2_ w2 => ∃ i : Nat, ∃ v3 : Value, nw2_ = m.strs.length - i ∧ lw2_ = ([(1, .pointer (some ⟨g1, 0, none⟩)), (3, v3), (4, .int .i64 i)] : Env) ∧ (i ≤ m.strs.length) ∧ (Row w2 3 1 v3 (m.strs.take i).length (lensV (m.strs.take i))) ∧ (∀ k, v3.ownBlock = some k → w.heap.size ≤ k) ∧ (Blk w2 g1 32 #[.int .i64 m.id, .int .i64 m.rows, vc, .slice sa_ m.strs.length cs]) ∧ (w.heap.size ≤ g1) ∧ (Below w.heap.size w w2)) _ ⟨_, ⟨0, .slice none 0 0, rfl, rfl, by omega, Row.nil _ _ _, (fun k hk => by simp [Value.ownBlock] at hk), hB1, hg1, hbw⟩, ⟨rfl, rfl, rfl, trivial⟩⟩ ?_
  clear hB1 hg1 hbw
  rintro nw2_ lw2_ w2 ⟨i, v3, rfl, rfl, hi, hR3, hO, hB1, hg1, hbw⟩
  have hz_w2 := hbw.size
  have hlt_hB1_w2 := hB1.lt
  refine W_seq ?_
  refine W_rs ?_
  refine sm rfl rfl ?_
  refine st (X.fa fa32_3 rfl) rfl ?_
  refine st (X.ldL rfl hB1 Tryd.underlying30 rfl rfl) rfl ?_
  refine st (X.lenL rfl rfl Tryd.underlying30) rfl ?_
  refine st (X.lss rfl rfl) rfl ?_
  refine Wn ?_
  refine tN ?_
  refine W_if rfl (fun h11 => ?_) (fun h11 => ?_)
  · first | replace h11 := of_decide_eq_true h11 | replace h11 := of_decide_eq_false (notT h11) | replace h11 := notT h11 | skip
    obtain ⟨x, hx⟩ : ∃ x, m.strs[i]? = some x := ⟨_, List.getElem?_eq_getElem (by omega)⟩
    obtain ⟨u, hux, hk⟩ := hu i x hx
    obtain ⟨ax, cx, rfl, hxn, hxc⟩ := hk.shape
    obtain ⟨gs, os_, c', hv, hgs⟩ := (hR.bel hbw).some_ (by omega)
    injection hv with e1 _ e3
    subst e1 e3
    refine W_skip ?_
    refine tN ?_
    refine W_seq ?_
    refine W_block ?_
    refine W_rs ?_
    refine sa rfl rfl ?_
    refine Wn ?_
    refine tN ?_
    refine W_seq ?_
    refine W_rs ?_
    refine sa rfl rfl ?_
    refine Wn ?_
    refine tN ?_
    refine W_block ?_
    refine W_lp (fun nw3_ lw3_ w3 => ∃ k : Nat, nw3_ = x.length - k ∧ lw3_ = ([(1, .pointer (some ⟨g1, 0, none⟩)), (3, v3), (4, .int .i64 i), (5, .int .i64 (wsum (x.take k))), (6, .int .i64 k)] : Env) ∧ (k ≤ x.length) ∧ (Row w3 3 1 v3 (m.strs.take i).length (lensV (m.strs.take i))) ∧ (Blk w3 g1 32 #[.int .i64 m.id, .int .i64 m.rows, vc, .slice (some ⟨gs, os_, none⟩) m.strs.length cs]) ∧ (Below w.heap.size w w3)) _ ⟨_, ⟨0, rfl, rfl, by omega, hR3, hB1, hbw⟩, ⟨rfl, rfl, rfl, rfl, rfl, trivial⟩⟩ ?_
    clear hR3 hB1 hbw
    rintro nw3_ lw3_ w3 ⟨k, rfl, rfl, hk', hR3, hB1, hbw⟩
    have hz_w3 := hbw.size
    have hlt_hB1_w3 := hB1.lt
    refine W_seq ?_
    refine W_rs ?_
    refine sm rfl rfl ?_
    refine st (X.fa fa32_3 rfl) rfl ?_
    refine st (X.ldL rfl hB1 Tryd.underlying30 rfl rfl) rfl ?_
    refine sm rfl rfl ?_
    refine st (X.idxA rfl rfl Tryd.underlying30 siz67 rfl (by omega)) rfl ?_
    refine st (X.ld rfl Tryd.underlying67 rfl (by rw [Nat.mul_one]; exact (hR.bel hbw).cellAt (by omega) hux)) rfl ?_
    refine st (X.lenL rfl rfl Tryd.underlying67) rfl ?_
    refine st (X.lss rfl rfl) rfl ?_
    refine Wn ?_
    refine tN ?_
    refine W_if rfl (fun h21 => ?_) (fun h21 => ?_)
    · first | replace h21 := of_decide_eq_true h21 | replace h21 := of_decide_eq_false (notT h21) | replace h21 := notT h21 | skip
      obtain ⟨c, hcx⟩ : ∃ c, x[k]? = some c := ⟨_, List.getElem?_eq_getElem (by omega)⟩
      obtain ⟨g2, o2, c'', hv, hg2⟩ := (hk.bel hbw).some_ (by omega)
      injection hv with e1 _ e3
      subst e1 e3
      have hws : wsum (x.take (k + 1)) = IntKind.i64.wrap (wsum (x.take k) + c.len) := by rw [take_next' hcx, wsum_snoc]
      refine W_skip ?_
      refine tN ?_
      refine W_seq ?_
      refine W_block ?_
      refine W_reg ?_
      refine sm rfl rfl ?_
      refine st (X.fa fa32_3 rfl) rfl ?_
      refine st (X.ldL rfl hB1 Tryd.underlying30 rfl rfl) rfl ?_
      refine sm rfl rfl ?_
      refine st (X.idxA rfl rfl Tryd.underlying30 siz67 rfl (by omega)) rfl ?_
      refine st (X.ld rfl Tryd.underlying67 rfl (by rw [Nat.mul_one]; exact (hR.bel hbw).cellAt (by omega) hux)) rfl ?_
      refine sm rfl rfl ?_
      refine st (X.idxA rfl rfl Tryd.underlying67 siz69 rfl (by omega)) rfl ?_
      refine st (X.fa fa69_1 rfl) rfl ?_
      refine st (X.ld rfl Tryd.underlying3 rfl ((hk.bel hbw).rec_ (fun a _ => rcells_length a) hcx 1 _ rfl)) rfl ?_
      refine st (X.add rfl rfl rfl) rfl ?_
      refine sa rfl rfl ?_
      refine Wn ?_
      refine bN ?_
      refine tN ?_
      refine W_reg ?_
      refine sm rfl rfl ?_
      refine st (X.add64 rfl rfl (by omega)) rfl ?_
      refine sa rfl rfl ?_
      refine Wn ?_
      refine tN ⟨_, _, ?_, ⟨k + 1, rfl, rfl, by omega, hR3, hB1, hbw⟩, ⟨rfl, rfl, rfl, by rw [hws]; rfl, rfl, trivial⟩⟩
      omega
    · first | replace h21 := of_decide_eq_false h21 | replace h21 := of_decide_eq_true (notF h21) | replace h21 := notF h21 | skip
      obtain rfl : k = x.length := by omega
      rw [List.take_length]
      have hl3 : (m.strs.take i).length ≤ 1000000 := by rw [List.length_take]; omega
      refine W_exit (tE (tE (bH ?_)))
      refine tN ?_
      refine W_reg ?_
      refine sm rfl rfl ?_
      refine sm rfl rfl ?_
      refine sbs1 rfl Tryd.underlying42 inf3 rfl rfl (by decide) (by decide) rfl (fun g37 w4 hR37 hg37 hb => ?_)
      replace hbw := bthen hbw hb
      replace hB1 := hB1.belowAll hb
      replace hR3 := hR3.bel hb
      have hz102 := hb.size
      clear hb
      refine sapp rfl rfl Tryd.underlying42 inf3 rfl (by decide) hR3 (hR37.reads.src Tryd.underlying42 (by intro z hz; have hz2 : z ∈ ([Value.int .i64 (wsum x)] : List Value) := hz; simp at hz2; subst hz2; rfl)) (by simp only [maxLen]; omega) (by omega) rfl (fun v3' w5 hR3' hC hv' => ?_)
      replace hbw := bapp hbw hC hO
      have hO' := own_next hv' hO (by omega)
      replace hB1 := hB1.chg hC (hR3.ne_ hB1 (by decide))
      replace hR3' : Row w5 3 1 v3' (m.strs.take (i + 1)).length (lensV (m.strs.take (i + 1))) := by rw [lensV_snoc hx, take_next' hx, List.length_append]; exact hR3'
      clear hC hv'
      refine sa rfl rfl ?_
      refine Wn ?_
      refine bN ?_
      refine tN ?_
      refine W_reg ?_
      refine sm rfl rfl ?_
      refine st (X.add64 rfl rfl (by omega)) rfl ?_
      refine sa rfl rfl ?_
      refine Wn ?_
      refine tN ⟨_, _, ?_, ⟨i + 1, v3', rfl, rfl, by omega, hR3', hO', hB1, hg1, hbw⟩, ⟨rfl, rfl, rfl, trivial⟩⟩
      omega
  · first | replace h11 := of_decide_eq_false h11 | replace h11 := of_decide_eq_true (notF h11) | replace h11 := notF h11 | skip
    obtain rfl : i = m.strs.length := by omega
    rw [List.take_length] at hR3
    refine W_exit (tE (tE (bH ?_)))
    refine tN ?_
    refine W_rs ?_
    refine sm rfl rfl ?_
    refine sa rfl rfl ?_
    refine Wn ?_
    refine tN ?_
    refine W_ret ?_
    exact (rT rfl rfl ⟨v3, rfl, hR3, hO, hbw⟩).1
theorem seenO_next {ls : List (List Chk)} {i k : Nat} {x : List Chk} {c : Chk} (hc : x[k]? = some c) : onesOf (seen ls i x (k + 1)) = onesOf (seen ls i x k) ++ [⟨c.sum, 1⟩] := by
  rw [seen_next hc]
  simp [onesOf]
set_option maxRecDepth 10000 in
set_option maxHeartbeats 1000000 in
theorem RWants_any (m : Man) (vc vr : Value) (w : World) (hr : RStrsAt w vr m.strs) (hll : m.strs.length ≤ 1000000) (hl : m.strs.flatten.length ≤ 1000000) :
    Calls Tryd.prog 19 #[.agg #[.int .i64 m.id, .int .i64 m.rows, vc, vr]] w fun e w' => ∃ v', e = .returned v' ∧ Row w' 90 2 v' (netM (onesOf m.strs.flatten)).length ((netM (onesOf m.strs.flatten)).flatMap rcells) ∧ (∀ k, v'.ownBlock = some k → w.heap.size ≤ k) ∧ Below w.heap.size w w' := by
  obtain ⟨us, hR, hu⟩ := hr
  obtain ⟨sa_, cs, rfl, hsn, hsc⟩ := hR.shape
  refine W_enter (args := [.agg #[.int .i64 m.id, .int .i64 m.rows, vc, .slice sa_ m.strs.length cs]]) 38 Tryd.func19 rfl rfl rfl ?_
  refine W_sub [(0, .agg #[.int .i64 m.id, .int .i64 m.rows, vc, .slice sa_ m.strs.length cs])] ?_ ⟨rfl, trivial⟩
  have hbw := Below.refl w.heap.size w
  refine W_rs ?_
  refine sboxA rfl rfl (fun g1 w1 hB1 hg1 hb hl1 => ?_)
  replace hbw := bthen hbw hb
  have hz_w1 := hb.size
  clear hb
  refine sa rfl rfl ?_
  refine Wn ?_
  refine tN ?_
  refine W_rs ?_
  refine sa rfl rfl ?_
  refine Wn ?_
  refine tN ?_
  refine W_seq ?_
  refine W_rs ?_
  refine sa rfl rfl ?_
  refine Wn ?_
  refine tN ?_
  refine W_block ?_
  refine W_lp (fun nw2_ lw2_ w2 => ∃ i : Nat, ∃ v3 : Value, nw2_ = m.strs.length - i ∧ lw2_ = ([(1, .pointer (some ⟨g1, 0, none⟩)), (3, v3), (4, .int .i64 i)] : Env) ∧ (i ≤ m.strs.length) ∧ (Row w2 90 2 v3 (onesOf (m.strs.take i).flatten).length ((onesOf (m.strs.take i).flatten).flatMap rcells)) ∧ (∀ k, v3.ownBlock = some k → w.heap.size ≤ k) ∧ (Blk w2 g1 32 #[.int .i64 m.id, .int .i64 m.rows, vc, .slice sa_ m.strs.length cs]) ∧ (Below w.heap.size w w2)) _ ⟨_, ⟨0, .slice none 0 0, rfl, rfl, by omega, Row.nil _ _ _, (fun k hk => by simp [Value.ownBlock] at hk), hB1, hbw⟩, ⟨rfl, rfl, rfl, trivial⟩⟩ ?_
  clear hB1 hbw
  rintro nw2_ lw2_ w2 ⟨i, v3, rfl, rfl, hi, hR3, hO, hB1, hbw⟩
  have hz_w2 := hbw.size
  have hlt_hB1_w2 := hB1.lt
  refine W_seq ?_
  refine W_rs ?_
  refine sm rfl rfl ?_
  refine st (X.fa fa32_3 rfl) rfl ?_
  refine st (X.ldL rfl hB1 Tryd.underlying30 rfl rfl) rfl ?_
  refine st (X.lenL rfl rfl Tryd.underlying30) rfl ?_
  refine st (X.lss rfl rfl) rfl ?_
  refine Wn ?_
  refine tN ?_
  refine W_if rfl (fun h10 => ?_) (fun h10 => ?_)
  · first | replace h10 := of_decide_eq_true h10 | replace h10 := of_decide_eq_false (notT h10) | replace h10 := notT h10 | skip
    obtain ⟨x, hx⟩ : ∃ x, m.strs[i]? = some x := ⟨_, List.getElem?_eq_getElem (by omega)⟩
    obtain ⟨u, hux, hk⟩ := hu i x hx
    obtain ⟨ax, cx, rfl, hxn, hxc⟩ := hk.shape
    obtain ⟨gs, os_, c', hv, hgs⟩ := (hR.bel hbw).some_ (by omega)
    injection hv with e1 _ e3
    subst e1 e3
    refine W_skip ?_
    refine tN ?_
    refine W_seq ?_
    refine W_block ?_
    refine W_rs ?_
    refine sa rfl rfl ?_
    refine Wn ?_
    refine tN ?_
    refine W_block ?_
    refine W_lp (fun nw3_ lw3_ w3 => ∃ k : Nat, ∃ v3 : Value, nw3_ = x.length - k ∧ lw3_ = ([(1, .pointer (some ⟨g1, 0, none⟩)), (3, v3), (4, .int .i64 i), (5, .int .i64 k)] : Env) ∧ (k ≤ x.length) ∧ (Row w3 90 2 v3 (onesOf (seen m.strs i x k)).length ((onesOf (seen m.strs i x k)).flatMap rcells)) ∧ (∀ k, v3.ownBlock = some k → w.heap.size ≤ k) ∧ (Blk w3 g1 32 #[.int .i64 m.id, .int .i64 m.rows, vc, .slice (some ⟨gs, os_, none⟩) m.strs.length cs]) ∧ (Below w.heap.size w w3)) _ ⟨_, ⟨0, v3, rfl, rfl, by omega, (by rw [seen_0]; exact hR3), hO, hB1, hbw⟩, ⟨rfl, rfl, rfl, rfl, trivial⟩⟩ ?_
    clear hO hB1 hbw
    rintro nw3_ lw3_ w3 ⟨k, v3, rfl, rfl, hk', hR3, hO, hB1, hbw⟩
    have hz_w3 := hbw.size
    have hlt_hB1_w3 := hB1.lt
    refine W_seq ?_
    refine W_rs ?_
    refine sm rfl rfl ?_
    refine st (X.fa fa32_3 rfl) rfl ?_
    refine st (X.ldL rfl hB1 Tryd.underlying30 rfl rfl) rfl ?_
    refine sm rfl rfl ?_
    refine st (X.idxA rfl rfl Tryd.underlying30 siz67 rfl (by omega)) rfl ?_
    refine st (X.ld rfl Tryd.underlying67 rfl (by rw [Nat.mul_one]; exact (hR.bel hbw).cellAt (by omega) hux)) rfl ?_
    refine st (X.lenL rfl rfl Tryd.underlying67) rfl ?_
    refine st (X.lss rfl rfl) rfl ?_
    refine Wn ?_
    refine tN ?_
    refine W_if rfl (fun h20 => ?_) (fun h20 => ?_)
    · first | replace h20 := of_decide_eq_true h20 | replace h20 := of_decide_eq_false (notT h20) | replace h20 := notT h20 | skip
      obtain ⟨c, hcx⟩ : ∃ c, x[k]? = some c := ⟨_, List.getElem?_eq_getElem (by omega)⟩
      obtain ⟨g2, o2, c'', hv, hg2⟩ := (hk.bel hbw).some_ (by omega)
      injection hv with e1 _ e3
      subst e1 e3
      have hol : (onesOf (seen m.strs i x k)).length ≤ 1000000 := by rw [onesOf_length]; have := seen_le (k := k) hx; omega
      refine W_skip ?_
      refine tN ?_
      refine W_seq ?_
      refine W_block ?_
      refine W_reg ?_
      refine sm rfl rfl ?_
      refine st (X.fa fa32_3 rfl) rfl ?_
      refine st (X.ldL rfl hB1 Tryd.underlying30 rfl rfl) rfl ?_
      refine sm rfl rfl ?_
      refine st (X.idxA rfl rfl Tryd.underlying30 siz67 rfl (by omega)) rfl ?_
      refine st (X.ld rfl Tryd.underlying67 rfl (by rw [Nat.mul_one]; exact (hR.bel hbw).cellAt (by omega) hux)) rfl ?_
      refine sm rfl rfl ?_
      refine st (X.idxA rfl rfl Tryd.underlying67 siz69 rfl (by omega)) rfl ?_
      refine st (X.fa fa69_0 rfl) rfl ?_
      refine st (X.ld rfl Tryd.underlying9 rfl ((hk.bel hbw).rec_ (fun a _ => rcells_length a) hcx 0 _ rfl)) rfl ?_
      refine st (X.bld rfl (brdel _ _ _)) rfl ?_
      refine sbs1 rfl Tryd.underlying49 inf90 rfl rfl (by decide) (by decide) rfl (fun g34 w4 hR34 hg34 hb => ?_)
      replace hbw := bthen hbw hb
      replace hB1 := hB1.belowAll hb
      replace hR3 := hR3.bel hb
      have hz811 := hb.size
      clear hb
      refine sapp rfl rfl Tryd.underlying49 inf90 rfl (by decide) hR3 (hR34.reads.src Tryd.underlying49 (rcells_one ⟨c.sum, 1⟩)) (by simp only [maxLen]; omega) (by omega) rfl (fun v3' w5 hR3' hC hv' => ?_)
      replace hbw := bapp hbw hC hO
      have hO' := own_next hv' hO (by omega)
      replace hB1 := hB1.chg hC (hR3.ne_ hB1 (by decide))
      replace hR3' : Row w5 90 2 v3' (onesOf (seen m.strs i x (k + 1))).length ((onesOf (seen m.strs i x (k + 1))).flatMap rcells) := by rw [seenO_next hcx, List.length_append, List.flatMap_append]; exact hR3'
      clear hC hv'
      refine sa rfl rfl ?_
      refine Wn ?_
      refine bN ?_
      refine tN ?_
      refine W_reg ?_
      refine sm rfl rfl ?_
      refine st (X.add64 rfl rfl (by omega)) rfl ?_
      refine sa rfl rfl ?_
      refine Wn ?_
      refine tN ⟨_, _, ?_, ⟨k + 1, v3', rfl, rfl, by omega, hR3', hO', hB1, hbw⟩, ⟨rfl, rfl, rfl, rfl, trivial⟩⟩
      omega
    · first | replace h20 := of_decide_eq_false h20 | replace h20 := of_decide_eq_true (notF h20) | replace h20 := notF h20 | skip
      obtain rfl : k = x.length := by omega
      refine W_exit (tE (tE (bH ?_)))
      refine bN ?_
      refine tN ?_
      refine W_reg ?_
      refine sm rfl rfl ?_
      refine st (X.add64 rfl rfl (by omega)) rfl ?_
      refine sa rfl rfl ?_
      refine Wn ?_
      refine tN ⟨_, _, ?_, ⟨i + 1, v3, rfl, rfl, by omega, by rw [← seen_all hx]; exact hR3, hO, hB1, hbw⟩, ⟨rfl, rfl, rfl, trivial⟩⟩
      omega
  · first | replace h10 := of_decide_eq_false h10 | replace h10 := of_decide_eq_true (notF h10) | replace h10 := notF h10 | skip
    obtain rfl : i = m.strs.length := by omega
    rw [List.take_length] at hR3
    refine W_exit (tE (tE (bH ?_)))
    refine tN ?_
    refine W_rs ?_
    refine sm rfl rfl ?_
    refine sc _ Tryd.func38 rfl (by kernel_rfl) rfl rfl ((RNet_any v3 (onesOf m.strs.flatten) _ hR3.reads (by rw [onesOf_length]; exact hl) (tame_ones _)).mono ?_)
    rintro e_ w6 ⟨vn, rfl, hN, hOn, hb⟩
    refine cR ?_
    have hpend := hb
    replace hbw := bthen hbw hb
    replace hB1 := hB1.bel hb
    have hz_w6 := hb.size
    clear hb
    refine sa rfl rfl ?_
    refine Wn ?_
    refine tN ?_
    replace hR3 := hR3.bel hpend
    clear hpend
    refine W_ret ?_
    exact (rT rfl rfl ⟨vn, rfl, hN, fun k hk => by have := hOn k hk; omega, hbw⟩).1
theorem lensV_at {ls : List (List Chk)} {i : Nat} {x : List Chk} (hx : ls[i]? = some x) : (lensV ls)[i]? = some (.int .i64 (wsum x)) := by
  unfold lensV
  rw [List.getElem?_map, hx]
  rfl
theorem manEnc_any (m : Man) (vc vs : Value) (w : World) (hc : ColsAt w vc m.cols) (hs : StrsAt w vs m.strs) (hT : UT w) : Calls Tryd.prog 12 #[manV m vc vs] w fun e w' => e = .returned (.tuple #[str (if manErr colsOk m = 0 then encode m else []), .int .i64 (manErr colsOk m)]) ∧ Below w.heap.size w w' := by
  by_cases he : manErr colsOk m = 0
  · rw [if_pos he, he]
    exact encode_ok m vc vs w hc hs hT he
  · rw [if_neg he]
    exact encode_err m vc vs w hc hs hT he
theorem one_slice (a : Option Addr) (n c : Nat) : (Value.slice a n c).oneCell' = true := rfl
set_option maxRecDepth 10000 in
set_option maxHeartbeats 1000000 in
theorem ManifestTells_walk (w : World) (m : Man) (vc vs : Value) (hc : ColsAt w vc m.cols) (hs : StrsAt w vs m.strs) (hT : UT w) : Calls Tryd.prog 4 #[manV m vc vs] w fun e w' => e = .returned (.bool true) ∧ Below w.heap.size w w' := by
  have hc0 := hc
  have hs0 := hs
  have h32f := hs.all32
  have h32 : ∀ l ∈ m.strs, ∀ c ∈ l, c.sum.length = 32 := fun l hl c hcl => h32f c (List.mem_flatten.2 ⟨l, hl, hcl⟩)
  obtain ⟨ac, cc, rfl, hcn, hcc⟩ := hc.1.shape
  obtain ⟨us, hU, hu⟩ := hs
  obtain ⟨sa_, cs_, rfl, hsn, hsc⟩ := hU.shape
  refine W_enter (args := [.agg #[.int .i64 m.id, .int .i64 m.rows, .slice ac m.cols.length cc, .slice sa_ m.strs.length cs_]]) 75 Tryd.func4 rfl rfl rfl ?_
  refine W_sub [(0, .agg #[.int .i64 m.id, .int .i64 m.rows, .slice ac m.cols.length cc, .slice sa_ m.strs.length cs_])] ?_ ⟨rfl, trivial⟩
  have hbw := Below.refl w.heap.size w
  refine W_rs ?_
  refine sboxA rfl rfl (fun g1 w1 hB1 hg1 hb hl1 => ?_)
  replace hbw := bthen hbw hb
  have hz_w1 := hb.size
  clear hb
  refine sa rfl rfl ?_
  refine Wn ?_
  refine tN ?_
  refine W_seq ?_
  refine W_rs ?_
  refine st (X.ldBN rfl hB1 Tryd.underlying26 rfl siz26) rfl ?_
  refine sc _ Tryd.func11 rfl (by kernel_rfl) rfl rfl ((Few_any m _ _ _ (hc0.bel hbw) (hs0.bel hbw)).mono ?_)
  rintro e_ w2 ⟨rfl, hb⟩
  refine cR ?_
  replace hbw := bthen hbw hb
  replace hB1 := hB1.bel hb
  have hz_w2 := hb.size
  clear hb
  refine st (X.not rfl) rfl ?_
  refine Wn ?_
  refine tN ?_
  refine W_if rfl (fun h13 => ?_) (fun h13 => ?_)
  · first | replace h13 := of_decide_eq_true h13 | replace h13 := of_decide_eq_false (notT h13) | replace h13 := notT h13 | skip
    refine W_rs ?_
    refine sc _ Tryd.func6 rfl (by kernel_rfl) rfl rfl ((awake_any _ (hT.bel hbw)).mono ?_)
    rintro e_ w3 ⟨rfl, hb⟩
    refine cR ?_
    replace hbw := bthen hbw hb
    replace hB1 := hB1.bel hb
    have hz_w3 := hb.size
    clear hb
    refine sa rfl rfl ?_
    refine Wn ?_
    refine tN ?_
    refine W_ret (tR ?_)
    exact (rT rfl rfl ⟨rfl, hbw⟩).1
  · first | replace h13 := of_decide_eq_false h13 | replace h13 := of_decide_eq_true (notF h13) | replace h13 := notF h13 | skip
    obtain ⟨_, hf1, _, hf2⟩ := h13
    have hF := flat_few hf2
    refine W_skip ?_
    refine tN ?_
    refine W_rs ?_
    refine st (X.ldBN rfl hB1 Tryd.underlying26 rfl siz26) rfl ?_
    refine sc _ Tryd.func9 rfl (by kernel_rfl) rfl rfl ((Plain_any m _ _ _ (hc0.bel hbw) (hs0.bel hbw) (by omega) (fun l hl => by have := hf2 l hl; omega)).mono ?_)
    rintro e_ w4 ⟨vr, rfl, hRr, hb⟩
    refine cR ?_
    replace hbw := bthen hbw hb
    replace hB1 := hB1.bel hb
    have hz_w4 := hb.size
    clear hb
    obtain ⟨ur, hUr, hur⟩ := hRr
    obtain ⟨ra_, rc_, rfl, hrn, hrc⟩ := hUr.shape
    have hRr : RStrsAt w4 (.slice ra_ m.strs.length rc_) m.strs := ⟨ur, hUr, hur⟩
    clear hUr hur
    refine salA inf32 rfl (fun g3 w5 hB3 hg3 hb hl3 => ?_)
    have hpend := hb
    replace hbw := bthen hbw hb
    replace hB1 := hB1.bel hb
    have hz_w5 := hb.size
    clear hb
    refine ssBN rfl rfl hB3 siz32 rfl rfl (fun w6 hB_ hc_ => ?_)
    replace hB3 := hB_
    clear hB_
    replace hpend := bset hpend hc_ (by omega)
    replace hB1 := hB1.chg hc_ (by first | (show ¬ _ = _; omega) | (intro k_ hk_; simp [Value.ownBlock] at hk_; subst hk_; show ¬ _ = _; omega))
    replace hbw := bset hbw hc_ (by omega)
    have hz_w6 := hc_.size
    clear hc_
    refine Wn ?_
    refine tN ?_
    refine W_rs ?_
    refine st (X.ldBN rfl hB1 Tryd.underlying26 rfl siz26) rfl ?_
    refine sc _ Tryd.func12 rfl (by kernel_rfl) rfl rfl ((manEnc_any m _ _ _ (hc0.bel hbw) (hs0.bel hbw) (hT.bel hbw)).mono ?_)
    rintro e_ w7 ⟨rfl, hb⟩
    refine cR ?_
    replace hpend := bthen hpend hb
    replace hbw := bthen hbw hb
    replace hB1 := hB1.bel hb
    replace hB3 := hB3.bel hb
    have hz_w7 := hb.size
    clear hb
    refine sm rfl rfl ?_
    refine st (X.ext rfl rfl) rfl ?_
    refine st (X.ext rfl rfl) rfl ?_
    refine sa rfl rfl ?_
    refine sa rfl rfl ?_
    refine Wn ?_
    refine tN ?_
    refine W_rs ?_
    refine st (X.ldBN rfl hB3 Tryd.underlying32 rfl siz32) rfl ?_
    replace hRr := hRr.bel hpend
    clear hpend
    refine sc _ Tryd.func13 rfl (by kernel_rfl) rfl rfl ((REncode19_any m _ _ _ (hc0.bel hbw) hRr h32 (hT.bel hbw)).mono ?_)
    rintro e_ w8 ⟨rfl, hb⟩
    refine cR ?_
    have hpend := hb
    replace hbw := bthen hbw hb
    replace hB1 := hB1.bel hb
    replace hB3 := hB3.bel hb
    have hz_w8 := hb.size
    clear hb
    refine sm rfl rfl ?_
    refine st (X.ext rfl rfl) rfl ?_
    refine st (X.ext rfl rfl) rfl ?_
    refine sa rfl rfl ?_
    refine sa rfl rfl ?_
    refine Wn ?_
    refine tN ?_
    refine W_rs ?_
    refine st (X.ldBN rfl hB1 Tryd.underlying26 rfl siz26) rfl ?_
    refine sc _ Tryd.func14 rfl (by kernel_rfl) rfl rfl ((Lens_any m _ _ _ (hs0.bel hbw) (by omega) (fun l hl => by have := hf2 l hl; omega)).mono ?_)
    rintro e_ w9 ⟨v8, rfl, hL8, hO8, hb⟩
    refine cR ?_
    replace hpend := bthen hpend hb
    replace hbw := bthen hbw hb
    replace hB1 := hB1.bel hb
    replace hB3 := hB3.bel hb
    have hz_w9 := hb.size
    clear hb
    obtain ⟨a8, c8, rfl, hn8, hc8⟩ := hL8.shape
    replace hRr := hRr.bel hpend
    clear hpend
    refine sa rfl rfl ?_
    refine Wn ?_
    refine tN ?_
    refine W_rs ?_
    refine st (X.ldBN rfl hB3 Tryd.underlying32 rfl siz32) rfl ?_
    refine sc _ Tryd.func15 rfl (by kernel_rfl) rfl rfl ((RLens_any m _ _ _ hRr (by omega)).mono ?_)
    rintro e_ w10 ⟨v9, rfl, hL9, hO9, hb⟩
    refine cR ?_
    have hpend := hb
    replace hbw := bthen hbw hb
    replace hB1 := hB1.bel hb
    replace hB3 := hB3.bel hb
    have hz_w10 := hb.size
    clear hb
    obtain ⟨a9, c9, rfl, hn9, hc9⟩ := hL9.shape
    replace hRr := hRr.bel hpend
    replace hL8 := hL8.bel hpend
    clear hpend
    refine sa rfl rfl ?_
    refine Wn ?_
    refine tN ?_
    refine W_seq ?_
    refine W_rs ?_
    refine sm rfl rfl ?_
    refine st (X.lenL rfl rfl Tryd.underlying42) rfl ?_
    refine sm rfl rfl ?_
    refine st (X.lenL rfl rfl Tryd.underlying42) rfl ?_
    refine st (X.neq rfl rfl) rfl ?_
    refine Wn ?_
    refine tN ?_
    refine W_no rfl (by simp) ?_
    refine W_skip ?_
    refine tN ?_
    refine W_seq ?_
    refine W_rs ?_
    refine sa rfl rfl ?_
    refine Wn ?_
    refine tN ?_
    refine W_block ?_
    obtain ⟨wB, hwB⟩ : ∃ W_ : World, W_ = w10 := ⟨_, rfl⟩
    have hbB : Below wB.heap.size wB w10 := by rw [hwB]; exact Below.refl _ _
    have hE8 := hL8.reads
    have hE9 := hL9.reads
    rw [← hwB] at hE8 hE9 hRr
    clear hwB
    refine W_lp (fun nw11_ lw11_ w11 => ∃ j : Nat, nw11_ = m.strs.length - j ∧ lw11_ = ([(1, .pointer (some ⟨g1, 0, none⟩)), (3, .pointer (some ⟨g3, 0, none⟩)), (4, str (if manErr colsOk m = 0 then encode m else [])), (5, .int .i64 (manErr colsOk m)), (6, str (if manErr colsOk m = 0 then encode m else [])), (7, .int .i64 (manErr colsOk m)), (8, .slice a8 m.strs.length c8), (9, .slice a9 m.strs.length c9), (10, .int .i64 j)] : Env) ∧ (j ≤ m.strs.length) ∧ (Blk w11 g1 26 #[.int .i64 m.id, .int .i64 m.rows, .slice ac m.cols.length cc, .slice sa_ m.strs.length cs_]) ∧ (Blk w11 g3 32 #[.int .i64 m.id, .int .i64 m.rows, .slice ac m.cols.length cc, .slice ra_ m.strs.length rc_]) ∧ (Below wB.heap.size wB w11) ∧ (Below w.heap.size w w11)) _ ⟨_, ⟨0, rfl, rfl, by omega, hB1, hB3, hbB, hbw⟩, ⟨rfl, rfl, rfl, rfl, rfl, rfl, rfl, rfl, rfl, trivial⟩⟩ ?_
    clear hB1 hB3 hbB hbw
    rintro nw11_ lw11_ w11 ⟨j, rfl, rfl, hj, hB1, hB3, hbB, hbw⟩
    have hz_w11 := hbw.size
    have hz_hbB_w11 := hbB.size
    have hlt_hB1_w11 := hB1.lt
    have hlt_hB3_w11 := hB3.lt
    refine W_seq ?_
    refine W_rs ?_
    refine sm rfl rfl ?_
    refine sm rfl rfl ?_
    refine st (X.lenL rfl rfl Tryd.underlying42) rfl ?_
    refine st (X.lss rfl rfl) rfl ?_
    refine Wn ?_
    refine tN ?_
    refine W_if rfl (fun h39 => ?_) (fun h39 => ?_)
    · first | replace h39 := of_decide_eq_true h39 | replace h39 := of_decide_eq_false (notT h39) | replace h39 := notT h39 | skip
      obtain ⟨x, hx⟩ : ∃ x, m.strs[j]? = some x := ⟨_, List.getElem?_eq_getElem (by omega)⟩
      obtain ⟨q1, p1, c', hv, hq1⟩ := (hE8.bel hbB).some_ (by omega)
      injection hv with e1 _ e3
      subst e1 e3
      obtain ⟨q2, p2, c', hv, hq2⟩ := (hE9.bel hbB).some_ (by omega)
      injection hv with e1 _ e3
      subst e1 e3
      refine W_skip ?_
      refine tN ?_
      refine W_seq ?_
      refine W_block ?_
      refine W_drsN (fun W_ => W_.cell? ⟨q1, p1 + j, none⟩ = some (.int .i64 (wsum x)) ∧ W_.cell? ⟨q2, p2 + j, none⟩ = some (.int .i64 (wsum x))) [0, 1, 2, 3, 4, 5, 6, 7, 8] [true, true, true, true, true, true, true, true, true] (by kernel_rfl) (by kernel_rfl) (⟨(hE8.bel (bdrew hbB)).cellAt (by omega) (lensV_at hx), (hE9.bel (bdrew hbB)).cellAt (by omega) (lensV_at hx)⟩) ?_
      obtain ⟨w12, hw_⟩ : ∃ w12 : World, w12 = World.drew w11 := ⟨_, rfl⟩
      rw [← hw_]
      have hb : Below w11.heap.size w11 w12 := by rw [hw_]; exact bdrew (Below.refl _ _)
      clear hw_
      have hS := hb
      replace hbw := bthen hbw hb
      replace hbB := bthen hbB hb
      replace hB1 := hB1.bel hb
      replace hB3 := hB3.bel hb
      have hz_w12 := hb.size
      clear hb
      refine oY rfl (fun W_ hW_ => (X.move rfl)) rfl ?_
      refine oY rfl (fun W_ hW_ => (X.move rfl)) rfl ?_
      refine oY rfl (fun W_ hW_ => (X.idxA rfl rfl Tryd.underlying42 siz3 rfl (by omega))) rfl ?_
      refine oY rfl (fun W_ hW_ => (X.ld rfl Tryd.underlying3 rfl (by rw [Nat.mul_one]; exact hW_.1))) rfl ?_
      refine oY rfl (fun W_ hW_ => (X.move rfl)) rfl ?_
      refine oY rfl (fun W_ hW_ => (X.move rfl)) rfl ?_
      refine oY rfl (fun W_ hW_ => (X.idxA rfl rfl Tryd.underlying42 siz3 rfl (by omega))) rfl ?_
      refine oY rfl (fun W_ hW_ => (X.ld rfl Tryd.underlying3 rfl (by rw [Nat.mul_one]; exact hW_.2))) rfl ?_
      refine oY rfl (fun W_ hW_ => (X.neq rfl rfl)) rfl ?_
      refine oN ?_
      refine nN ?_
      refine W_no rfl (by simp) ?_
      refine W_skip ?_
      refine bN ?_
      refine tN ?_
      refine W_reg ?_
      refine sm rfl rfl ?_
      refine st (X.add64 rfl rfl (by omega)) rfl ?_
      refine sa rfl rfl ?_
      refine Wn ?_
      refine tN ⟨_, _, ?_, ⟨j + 1, rfl, rfl, by omega, hB1, hB3, hbB, hbw⟩, ⟨rfl, rfl, rfl, rfl, rfl, rfl, rfl, rfl, rfl, trivial⟩⟩
      omega
    · first | replace h39 := of_decide_eq_false h39 | replace h39 := of_decide_eq_true (notF h39) | replace h39 := notF h39 | skip
      obtain rfl : j = m.strs.length := by omega
      refine W_exit (tE (tE (bH ?_)))
      refine tN ?_
      refine W_drsN (fun W_ => Blk W_ g1 26 #[.int .i64 m.id, .int .i64 m.rows, .slice ac m.cols.length cc, .slice sa_ m.strs.length cs_] ∧ Blk W_ g3 32 #[.int .i64 m.id, .int .i64 m.rows, .slice ac m.cols.length cc, .slice ra_ m.strs.length rc_]) [0, 1, 2, 3, 4, 5, 6, 7, 8, 9, 11, 10, 12, 13, 14, 15, 17, 16, 18, 19, 20, 21, 22, 23, 24] [true, true, true, true, true, true, true, true, true, true, true, false, true, true, true, true, true, false, false, false, true, true, false, true, true] (by kernel_rfl) (by kernel_rfl) (⟨hB1.drew, hB3.drew⟩) ?_
      obtain ⟨w13, hw_⟩ : ∃ w13 : World, w13 = World.drew w11 := ⟨_, rfl⟩
      rw [← hw_]
      have hb : Below w11.heap.size w11 w13 := by rw [hw_]; exact bdrew (Below.refl _ _)
      clear hw_
      have hS := hb
      replace hbw := bthen hbw hb
      replace hbB := bthen hbB hb
      replace hB1 := hB1.bel hb
      replace hB3 := hB3.bel hb
      have hz_w13 := hb.size
      clear hb
      refine oY rfl (fun W_ hW_ => (X.move rfl)) rfl ?_
      refine oY rfl (fun W_ hW_ => (X.move rfl)) rfl ?_
      refine oY rfl (fun W_ hW_ => (X.eqS rfl rfl)) rfl ?_
      refine oY rfl (fun W_ hW_ => (X.mvB (c := true) rfl (by simp))) rfl ?_
      refine oYg (g := 54) rfl rfl rfl rfl (fun W_ hW_ => (X.move rfl)) rfl ?_
      refine oYg (g := 54) rfl rfl rfl rfl (fun W_ hW_ => (X.move rfl)) rfl ?_
      refine oYg (g := 54) rfl rfl rfl rfl (fun W_ hW_ => (X.eql rfl rfl)) rfl ?_
      refine oY rfl (fun W_ hW_ => (X.pickT rfl rfl)) rfl ?_
      refine oY rfl (fun W_ hW_ => (X.mvB (c := true) rfl (by simp))) rfl ?_
      refine oYg (g := 59) rfl rfl rfl rfl (fun W_ hW_ => (X.ldBN rfl hW_.1 Tryd.underlying26 rfl siz26)) rfl ?_
      refine oYg (g := 59) rfl rfl rfl rfl (fun W_ hW_ => (X.move rfl)) rfl ?_
      refine oL rfl (fun Q_ hQ_ hP_ => ?_)
      refine gY (g := 59) rfl rfl rfl ?_
      refine sc _ Tryd.func16 rfl (by kernel_rfl) rfl rfl ((Check_any m _ _ _ (hc0.bel hbw) (hs0.bel hbw) (hT.bel hbw)).mono ?_)
      rintro e_ w14 ⟨rfl, hb⟩
      refine cR ?_
      replace hbw := bthen hbw hb
      replace hbB := bthen hbB hb
      replace hB1 := hB1.bel hb
      replace hB3 := hB3.bel hb
      have hz_w14 := hb.size
      clear hb
      refine Wn (hQ_ _ _ (⟨hB1, hB3⟩) ?_)
      clear hQ_ hP_ Q_
      refine oYg (g := 59) rfl rfl rfl rfl (fun W_ hW_ => (X.eql rfl rfl)) rfl ?_
      refine oY rfl (fun W_ hW_ => (X.pickT rfl rfl)) rfl ?_
      refine oY rfl (fun W_ hW_ => (X.mvB (c := true) rfl (by simp))) rfl ?_
      refine oYg (g := 65) rfl rfl rfl rfl (fun W_ hW_ => (X.ldBN rfl hW_.1 Tryd.underlying26 rfl siz26)) rfl ?_
      refine oYg (g := 65) rfl rfl rfl rfl (fun W_ hW_ => (X.ldBN rfl hW_.2 Tryd.underlying32 rfl siz32)) rfl ?_
      refine oL rfl (fun Q_ hQ_ hP_ => ?_)
      refine gY (g := 65) rfl rfl rfl ?_
      refine sc _ Tryd.func18 rfl (by kernel_rfl) rfl rfl ((Wants_any m _ _ _ (hs0.bel hbw) (by omega) (by omega)).mono ?_)
      rintro e_ w15 ⟨va, rfl, hVa, hOa, hb⟩
      refine cR ?_
      replace hbw := bthen hbw hb
      replace hbB := bthen hbB hb
      replace hB1 := hB1.bel hb
      replace hB3 := hB3.bel hb
      have hz_w15 := hb.size
      clear hb
      refine Wn (hQ_ _ _ (⟨hB1, hB3⟩) ?_)
      clear hQ_ hP_ Q_
      refine oL rfl (fun Q_ hQ_ hP_ => ?_)
      refine gY (g := 65) rfl rfl rfl ?_
      refine sc _ Tryd.func19 rfl (by kernel_rfl) rfl rfl ((RWants_any m _ _ _ (hRr.bel hbB) (by omega) (by omega)).mono ?_)
      rintro e_ w16 ⟨vb, rfl, hVb, hOb, hb⟩
      refine cR ?_
      have hpend := hb
      replace hbw := bthen hbw hb
      replace hbB := bthen hbB hb
      replace hB1 := hB1.bel hb
      replace hB3 := hB3.bel hb
      have hz_w16 := hb.size
      clear hb
      refine Wn (hQ_ _ _ (⟨hB1, hB3⟩) ?_)
      clear hQ_ hP_ Q_
      replace hVa := hVa.bel hpend
      clear hpend
      refine oL rfl (fun Q_ hQ_ hP_ => ?_)
      refine gY (g := 65) rfl rfl rfl ?_
      refine sc _ Tryd.func17 rfl (by kernel_rfl) rfl rfl ((DSame_any va vb (netM (onesOf m.strs.flatten)) (netM (onesOf m.strs.flatten)) _ ⟨hVa.reads, netM_sum32 (onesOf_32 h32f)⟩ (by have := netM_length (onesOf m.strs.flatten); rw [onesOf_length] at this; omega) hVb.reads).mono ?_)
      rintro e_ w17 ⟨rfl, hb⟩
      refine cR ?_
      have hpend := hb
      replace hbw := bthen hbw hb
      replace hbB := bthen hbB hb
      replace hB1 := hB1.bel hb
      replace hB3 := hB3.bel hb
      have hz_w17 := hb.size
      clear hb
      refine Wn (hQ_ _ _ (⟨hB1, hB3⟩) ?_)
      clear hQ_ hP_ Q_
      refine oY rfl (fun W_ hW_ => (X.pickT rfl rfl)) rfl ?_
      refine oY rfl (fun W_ hW_ => (X.mvB (c := true) rfl (by simp))) rfl ?_
      refine oL rfl (fun Q_ hQ_ hP_ => ?_)
      refine gY (g := 72) rfl rfl rfl ?_
      refine sc _ Tryd.func6 rfl (by kernel_rfl) rfl rfl ((awake_any _ (hT.bel hbw)).mono ?_)
      rintro e_ w18 ⟨rfl, hb⟩
      refine cR ?_
      replace hpend := bthen hpend hb
      replace hbw := bthen hbw hb
      replace hbB := bthen hbB hb
      replace hB1 := hB1.bel hb
      replace hB3 := hB3.bel hb
      have hz_w18 := hb.size
      clear hb
      refine Wn (hQ_ _ _ (⟨hB1, hB3⟩) ?_)
      clear hQ_ hP_ Q_
      refine oY rfl (fun W_ hW_ => (X.pickT rfl rfl)) rfl ?_
      refine oY rfl (fun W_ hW_ => (X.assign rfl)) rfl ?_
      refine oN ?_
      refine nN ?_
      replace hVa := hVa.bel hpend
      replace hVb := hVb.bel hpend
      clear hpend
      refine W_ret ?_
      exact (rT rfl rfl ⟨rfl, hbw⟩).1
end Go.Proofs.YtnagmpnpgekhfaaDoor
