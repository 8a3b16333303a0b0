/- armariumlaw19.ManifestBack. -/
import Derived.Test.YtcdlileichdeoaaDoorManTurned
import Derived.Test.YtcdlileichdeoaaDoorManBackPlain
import Derived.Test.YtcdlileichdeoaaDoorManAlike
namespace Go.Proofs.YtcdlileichdeoaaDoor
open Go.RowKit
theorem Decode_ok {s : List UInt8} {m : Man} (hk : decodeM s = .ok m) (hs : s.length < 1000000) (w : World) (hT : UT w) :
    Calls Tryd.prog 10 #[str s] w fun e w' => ∃ vc vs, e = .returned (.tuple #[.agg #[.int .i64 m.id, .int .i64 m.rows, vc, vs], .int .i64 0]) ∧ ManRow w' vc vs m ∧ Below w.heap.size w w' := by
  refine (Decode_any s w hT hs).mono ?_
  rintro e w' ⟨hb, hp⟩
  rw [hk] at hp
  obtain ⟨vc, vs, he, hM⟩ := hp
  exact ⟨vc, vs, he, hM, hb⟩
theorem alike_refl (m : Man) : alike m m = true := by unfold alike; simp
set_option maxRecDepth 10000 in
theorem back_err (w : World) (m : Man) (vc vs : Value) (hc : ColsAt w vc m.cols) (hs : StrsAt w vs m.strs) (s : List UInt8) (hT : UT w) {k : Int} (hd : decodeM s = .error k) :
    Calls Tryd.prog 6 #[manV m vc vs, str s] w fun e w' => e = .returned (.bool true) ∧ Below w.heap.size w w' := by
  obtain ⟨ac, cc, rfl, hcn, hcc⟩ := hc.1.shape
  obtain ⟨us, hR, hu⟩ := hs
  have hs : StrsAt w _ m.strs := ⟨us, hR, hu⟩
  obtain ⟨sa_, cs, rfl, hsn, hsc⟩ := hR.shape
  have hsum := hs.sums
  refine W_enter (args := [.agg #[.int .i64 m.id, .int .i64 m.rows, .slice ac m.cols.length cc, .slice sa_ m.strs.length cs], str s]) 89 Tryd.func6 rfl rfl rfl ?_
  refine W_sub [(0, .agg #[.int .i64 m.id, .int .i64 m.rows, .slice ac m.cols.length cc, .slice sa_ m.strs.length cs]), (1, str s)] ?_ ⟨rfl, rfl, trivial⟩
  have hbw := Below.refl w.heap.size w
  refine W_rs ?_
  refine sboxA rfl rfl (fun g2 w1 hB2 hg2 hb hl2 => ?_)
  replace hbw := bthen hbw hb
  have hz_w1 := hb.size
  clear hb
  refine sa rfl rfl ?_
  refine Wn ?_
  refine tN ?_
  refine W_seq ?_
  refine W_rs ?_
  refine st (X.ldBN rfl hB2 Tryd.underlying26 rfl siz26) rfl ?_
  refine sc _ Tryd.func14 rfl (by kernel_rfl) rfl rfl ((Few_any m _ _ _ (hc.bel hbw) (hs.bel hbw)).mono ?_)
  rintro e_ w2 ⟨rfl, hb⟩
  refine cR ?_
  replace hbw := bthen hbw hb
  replace hB2 := hB2.bel hb
  have hz_w2 := hb.size
  clear hb
  refine st (X.not rfl) rfl ?_
  refine sb rfl rfl (fun h16 => ?_) (fun h16 => ?_)
  · first | replace h16 := of_decide_eq_true h16 | replace h16 := of_decide_eq_false (notT h16) | replace h16 := notT h16 | skip
    refine gN (g := 16) rfl rfl rfl rfl ?_
    refine gN (g := 16) rfl rfl rfl rfl ?_
    refine gN (g := 16) rfl rfl rfl rfl ?_
    refine st (X.pickT rfl rfl) rfl ?_
    refine Wn ?_
    refine tN ?_
    refine W_yes rfl (rfl) ?_
    refine W_rs ?_
    refine sc _ Tryd.func9 rfl (by kernel_rfl) rfl rfl ((awake_any _ (hT.bel hbw)).mono ?_)
    rintro e_ w3 ⟨rfl, hb⟩
    refine cR ?_
    replace hbw := bthen hbw hb
    replace hB2 := hB2.bel hb
    have hz_w3 := hb.size
    clear hb
    refine sa rfl rfl ?_
    refine Wn ?_
    refine tN ?_
    refine W_ret (tR ?_)
    exact (rT rfl rfl ⟨rfl, hbw⟩).1
  · first | replace h16 := of_decide_eq_false h16 | replace h16 := of_decide_eq_true (notF h16) | replace h16 := notF h16 | skip
    refine gY (g := 16) rfl rfl rfl ?_
    refine sm rfl rfl ?_
    refine gY (g := 16) rfl rfl rfl ?_
    refine st (X.lenS rfl rfl Tryd.underlying9) rfl ?_
    refine gY (g := 16) rfl rfl rfl ?_
    refine st (X.gtr rfl rfl) rfl ?_
    refine st (X.pickF rfl rfl) rfl ?_
    refine Wn ?_
    refine tN ?_
    refine W_if rfl (fun h20 => ?_) (fun h20 => ?_)
    · first | replace h20 := of_decide_eq_true h20 | replace h20 := of_decide_eq_false (notT h20) | replace h20 := notT h20 | skip
      refine W_rs ?_
      refine sc _ Tryd.func9 rfl (by kernel_rfl) rfl rfl ((awake_any _ (hT.bel hbw)).mono ?_)
      rintro e_ w4 ⟨rfl, hb⟩
      refine cR ?_
      replace hbw := bthen hbw hb
      replace hB2 := hB2.bel hb
      have hz_w4 := hb.size
      clear hb
      refine sa rfl rfl ?_
      refine Wn ?_
      refine tN ?_
      refine W_ret (tR ?_)
      exact (rT rfl rfl ⟨rfl, hbw⟩).1
    · first | replace h20 := of_decide_eq_false h20 | replace h20 := of_decide_eq_true (notF h20) | replace h20 := notF h20 | skip
      refine W_skip ?_
      refine tN ?_
      refine W_rs ?_
      refine st (X.ldBN rfl hB2 Tryd.underlying26 rfl siz26) rfl ?_
      refine sc _ Tryd.func15 rfl (by kernel_rfl) rfl rfl ((Encode_any m _ _ _ (hc.bel hbw) (hs.bel hbw) (hT.bel hbw)).mono ?_)
      rintro e_ w5 ⟨rfl, hb⟩
      refine cR ?_
      replace hbw := bthen hbw hb
      replace hB2 := hB2.bel hb
      have hz_w5 := hb.size
      clear hb
      refine sm rfl rfl ?_
      refine st (X.ext rfl rfl) rfl ?_
      refine st (X.ext rfl rfl) rfl ?_
      refine sa rfl rfl ?_
      refine sa rfl rfl ?_
      refine Wn ?_
      refine tN ?_
      refine W_seq ?_
      refine W_rs ?_
      refine sm rfl rfl ?_
      refine st (X.eql rfl rfl) rfl ?_
      refine Wn ?_
      refine tN ?_
      refine W_if rfl (fun h28 => ?_) (fun h28 => ?_)
      · first | replace h28 := of_decide_eq_true h28 | replace h28 := of_decide_eq_false (notT h28) | replace h28 := notT h28 | skip
        have he : manErr colsOk m = 0 := h28
        rw [if_pos he]
        have hel := encode_few (decide_eq_true h16) hsum
        refine W_rs ?_
        refine sm rfl rfl ?_
        refine sc _ Tryd.func10 rfl (by kernel_rfl) rfl rfl ((Decode_ok (back he hsum) (by omega) _ (hT.bel hbw)).mono ?_)
        rintro e_ w6 ⟨vx, vy, rfl, hMR, hb⟩
        refine cR ?_
        replace hbw := bthen hbw hb
        replace hB2 := hB2.bel hb
        have hz_w6 := hb.size
        clear hb
        obtain ⟨ho1, ho2⟩ := hMR.one
        refine sm rfl rfl ?_
        refine st (X.ext rfl rfl) rfl ?_
        refine st (X.ext rfl rfl) rfl ?_
        refine salA inf26 rfl (fun g7 w7 hB7 hg7 hb hl7 => ?_)
        have hpend := hb
        replace hbw := bthen hbw hb
        replace hB2 := hB2.bel hb
        have hz_w7 := hb.size
        clear hb
        refine ssBN rfl rfl hB7 siz26 rfl (man_one ho1 ho2) (fun w8 hB_ hc_ => ?_)
        replace hB7 := hB_
        clear hB_
        replace hpend := bset hpend hc_ (by omega)
        replace hB2 := hB2.chg hc_ (by first | (show ¬ _ = _; omega) | (intro k_ hk_; simp [Value.ownBlock] at hk_; subst hk_; show ¬ _ = _; omega))
        replace hbw := bset hbw hc_ (by omega)
        have hz_w8 := hc_.size
        clear hc_
        refine sa rfl rfl ?_
        refine Wn ?_
        refine tN ?_
        refine W_rs ?_
        refine sm rfl rfl ?_
        refine st (X.neq rfl rfl) rfl ?_
        refine sbN rfl (rfl) rfl ?_
        refine gY (g := 36) rfl rfl rfl ?_
        refine st (X.ldBN rfl hB7 Tryd.underlying26 rfl siz26) rfl ?_
        refine gY (g := 36) rfl rfl rfl ?_
        refine st (X.ldBN rfl hB2 Tryd.underlying26 rfl siz26) rfl ?_
        refine gY (g := 36) rfl rfl rfl ?_
        replace hMR := hMR.bel hpend
        clear hpend
        refine sc _ Tryd.func17 rfl (by kernel_rfl) rfl rfl ((Same_any m m _ _ _ _ _ hMR.cols hMR.strs (hc.bel hbw) (hs.bel hbw)).mono ?_)
        rintro e_ w9 ⟨rfl, hb⟩
        refine cR ?_
        have hpend := hb
        replace hbw := bthen hbw hb
        replace hB2 := hB2.bel hb
        replace hB7 := hB7.bel hb
        have hz_w9 := hb.size
        clear hb
        rw [show (decide (m.id = m.id) && alike m m) = true by simp [alike_refl]]
        refine gY (g := 36) rfl rfl rfl ?_
        refine st (X.not rfl) rfl ?_
        refine st (X.pickF rfl rfl) rfl ?_
        refine Wn ?_
        refine tN ?_
        refine W_no rfl (rfl) ?_
        refine W_skip ?_
        refine tN ?_
        refine W_rs ?_
        refine sm rfl rfl ?_
        refine sc _ Tryd.func10 rfl (by kernel_rfl) rfl rfl ((Decode_error hd (by omega) _ (hT.bel hbw)).mono ?_)
        rintro e_ w10 ⟨rfl, hb⟩
        refine cR ?_
        replace hpend := bthen hpend hb
        replace hbw := bthen hbw hb
        replace hB2 := hB2.bel hb
        replace hB7 := hB7.bel hb
        have hz_w10 := hb.size
        clear hb
        refine sm rfl rfl ?_
        refine st (X.ext rfl rfl) rfl ?_
        refine st (X.ext rfl rfl) rfl ?_
        refine salA inf26 rfl (fun g9 w11 hB9 hg9 hb hl9 => ?_)
        replace hpend := bthen hpend hb
        replace hbw := bthen hbw hb
        replace hB2 := hB2.bel hb
        replace hB7 := hB7.bel hb
        have hz_w11 := hb.size
        clear hb
        refine ssBN rfl rfl hB9 siz26 rfl rfl (fun w12 hB_ hc_ => ?_)
        replace hB9 := hB_
        clear hB_
        replace hpend := bset hpend hc_ (by omega)
        replace hB2 := hB2.chg hc_ (by first | (show ¬ _ = _; omega) | (intro k_ hk_; simp [Value.ownBlock] at hk_; subst hk_; show ¬ _ = _; omega))
        replace hB7 := hB7.chg hc_ (by first | (show ¬ _ = _; omega) | (intro k_ hk_; simp [Value.ownBlock] at hk_; subst hk_; show ¬ _ = _; omega))
        replace hbw := bset hbw hc_ (by omega)
        have hz_w12 := hc_.size
        clear hc_
        refine sa rfl rfl ?_
        refine Wn ?_
        refine tN ?_
        refine W_seq ?_
        refine W_rs ?_
        refine sm rfl rfl ?_
        refine st (X.neq rfl rfl) rfl ?_
        refine Wn ?_
        refine tN ?_
        refine W_yes rfl (decide_eq_true (decodeM_err hd)) ?_
        refine W_rs ?_
        refine st (X.fa fa26_0 rfl) rfl ?_
        refine st (X.ldL rfl hB9 Tryd.underlying3 rfl rfl) rfl ?_
        refine st (X.eql rfl rfl) rfl ?_
        refine sbY rfl (rfl) rfl ?_
        refine gY (g := 54) rfl rfl rfl ?_
        refine st (X.fa fa26_2 rfl) rfl ?_
        refine gY (g := 54) rfl rfl rfl ?_
        refine st (X.ldL rfl hB9 Tryd.underlying23 rfl rfl) rfl ?_
        refine gY (g := 54) rfl rfl rfl ?_
        refine st (X.lenL rfl rfl Tryd.underlying23) rfl ?_
        refine gY (g := 54) rfl rfl rfl ?_
        refine st (X.eql rfl rfl) rfl ?_
        refine st (X.pickT rfl rfl) rfl ?_
        refine sbY rfl (rfl) rfl ?_
        refine gY (g := 60) rfl rfl rfl ?_
        refine st (X.fa fa26_3 rfl) rfl ?_
        refine gY (g := 60) rfl rfl rfl ?_
        refine st (X.ldL rfl hB9 Tryd.underlying24 rfl rfl) rfl ?_
        refine gY (g := 60) rfl rfl rfl ?_
        refine st (X.lenL rfl rfl Tryd.underlying24) rfl ?_
        refine gY (g := 60) rfl rfl rfl ?_
        refine st (X.eql rfl rfl) rfl ?_
        refine st (X.pickT rfl rfl) rfl ?_
        refine sbY rfl (rfl) rfl ?_
        refine gY (g := 66) rfl rfl rfl ?_
        refine sc _ Tryd.func9 rfl (by kernel_rfl) rfl rfl ((awake_any _ (hT.bel hbw)).mono ?_)
        rintro e_ w13 ⟨rfl, hb⟩
        refine cR ?_
        replace hpend := bthen hpend hb
        replace hbw := bthen hbw hb
        replace hB2 := hB2.bel hb
        replace hB7 := hB7.bel hb
        replace hB9 := hB9.bel hb
        have hz_w13 := hb.size
        clear hb
        refine st (X.pickT rfl rfl) rfl ?_
        refine sa rfl rfl ?_
        refine Wn ?_
        refine tN ?_
        replace hMR := hMR.bel hpend
        clear hpend
        refine W_ret (tR ?_)
        exact (rT rfl rfl ⟨rfl, hbw⟩).1
      · first | replace h28 := of_decide_eq_false h28 | replace h28 := of_decide_eq_true (notF h28) | replace h28 := notF h28 | skip
        have he : ¬ manErr colsOk m = 0 := h28
        rw [if_neg he]
        refine W_rs ?_
        refine sm rfl rfl ?_
        refine st (X.neS rfl rfl) rfl ?_
        refine Wn ?_
        refine tN ?_
        refine W_no rfl (rfl) ?_
        refine W_skip ?_
        refine tN ?_
        refine W_rs ?_
        refine sm rfl rfl ?_
        refine sc _ Tryd.func10 rfl (by kernel_rfl) rfl rfl ((Decode_error hd (by omega) _ (hT.bel hbw)).mono ?_)
        rintro e_ w14 ⟨rfl, hb⟩
        refine cR ?_
        replace hbw := bthen hbw hb
        replace hB2 := hB2.bel hb
        have hz_w14 := hb.size
        clear hb
        refine sm rfl rfl ?_
        refine st (X.ext rfl rfl) rfl ?_
        refine st (X.ext rfl rfl) rfl ?_
        refine salA inf26 rfl (fun g9 w15 hB9 hg9 hb hl9 => ?_)
        replace hbw := bthen hbw hb
        replace hB2 := hB2.bel hb
        have hz_w15 := hb.size
        clear hb
        refine ssBN rfl rfl hB9 siz26 rfl rfl (fun w16 hB_ hc_ => ?_)
        replace hB9 := hB_
        clear hB_
        replace hB2 := hB2.chg hc_ (by first | (show ¬ _ = _; omega) | (intro k_ hk_; simp [Value.ownBlock] at hk_; subst hk_; show ¬ _ = _; omega))
        replace hbw := bset hbw hc_ (by omega)
        have hz_w16 := hc_.size
        clear hc_
        refine sa rfl rfl ?_
        refine Wn ?_
        refine tN ?_
        refine W_seq ?_
        refine W_rs ?_
        refine sm rfl rfl ?_
        refine st (X.neq rfl rfl) rfl ?_
        refine Wn ?_
        refine tN ?_
        refine W_yes rfl (decide_eq_true (decodeM_err hd)) ?_
        refine W_rs ?_
        refine st (X.fa fa26_0 rfl) rfl ?_
        refine st (X.ldL rfl hB9 Tryd.underlying3 rfl rfl) rfl ?_
        refine st (X.eql rfl rfl) rfl ?_
        refine sbY rfl (rfl) rfl ?_
        refine gY (g := 54) rfl rfl rfl ?_
        refine st (X.fa fa26_2 rfl) rfl ?_
        refine gY (g := 54) rfl rfl rfl ?_
        refine st (X.ldL rfl hB9 Tryd.underlying23 rfl rfl) rfl ?_
        refine gY (g := 54) rfl rfl rfl ?_
        refine st (X.lenL rfl rfl Tryd.underlying23) rfl ?_
        refine gY (g := 54) rfl rfl rfl ?_
        refine st (X.eql rfl rfl) rfl ?_
        refine st (X.pickT rfl rfl) rfl ?_
        refine sbY rfl (rfl) rfl ?_
        refine gY (g := 60) rfl rfl rfl ?_
        refine st (X.fa fa26_3 rfl) rfl ?_
        refine gY (g := 60) rfl rfl rfl ?_
        refine st (X.ldL rfl hB9 Tryd.underlying24 rfl rfl) rfl ?_
        refine gY (g := 60) rfl rfl rfl ?_
        refine st (X.lenL rfl rfl Tryd.underlying24) rfl ?_
        refine gY (g := 60) rfl rfl rfl ?_
        refine st (X.eql rfl rfl) rfl ?_
        refine st (X.pickT rfl rfl) rfl ?_
        refine sbY rfl (rfl) rfl ?_
        refine gY (g := 66) rfl rfl rfl ?_
        refine sc _ Tryd.func9 rfl (by kernel_rfl) rfl rfl ((awake_any _ (hT.bel hbw)).mono ?_)
        rintro e_ w17 ⟨rfl, hb⟩
        refine cR ?_
        replace hbw := bthen hbw hb
        replace hB2 := hB2.bel hb
        replace hB9 := hB9.bel hb
        have hz_w17 := hb.size
        clear hb
        refine st (X.pickT rfl rfl) rfl ?_
        refine sa rfl rfl ?_
        refine Wn ?_
        refine tN ?_
        refine W_ret (tR ?_)
        exact (rT rfl rfl ⟨rfl, hbw⟩).1
set_option maxRecDepth 10000 in
theorem back_ok (w : World) (m : Man) (vc vs : Value) (hc : ColsAt w vc m.cols) (hs : StrsAt w vs m.strs) (s : List UInt8) (hT : UT w) {y : Man} (hd : decodeM s = .ok y) :
    Calls Tryd.prog 6 #[manV m vc vs, str s] w fun e w' => e = .returned (.bool true) ∧ Below w.heap.size w w' := by
  obtain ⟨ac, cc, rfl, hcn, hcc⟩ := hc.1.shape
  obtain ⟨us, hR, hu⟩ := hs
  have hs : StrsAt w _ m.strs := ⟨us, hR, hu⟩
  obtain ⟨sa_, cs, rfl, hsn, hsc⟩ := hR.shape
  have hsum := hs.sums
  refine W_enter (args := [.agg #[.int .i64 m.id, .int .i64 m.rows, .slice ac m.cols.length cc, .slice sa_ m.strs.length cs], str s]) 89 Tryd.func6 rfl rfl rfl ?_
  refine W_sub [(0, .agg #[.int .i64 m.id, .int .i64 m.rows, .slice ac m.cols.length cc, .slice sa_ m.strs.length cs]), (1, str s)] ?_ ⟨rfl, rfl, trivial⟩
  have hbw := Below.refl w.heap.size w
  refine W_rs ?_
  refine sboxA rfl rfl (fun g2 w1 hB2 hg2 hb hl2 => ?_)
  replace hbw := bthen hbw hb
  have hz_w1 := hb.size
  clear hb
  refine sa rfl rfl ?_
  refine Wn ?_
  refine tN ?_
  refine W_seq ?_
  refine W_rs ?_
  refine st (X.ldBN rfl hB2 Tryd.underlying26 rfl siz26) rfl ?_
  refine sc _ Tryd.func14 rfl (by kernel_rfl) rfl rfl ((Few_any m _ _ _ (hc.bel hbw) (hs.bel hbw)).mono ?_)
  rintro e_ w2 ⟨rfl, hb⟩
  refine cR ?_
  replace hbw := bthen hbw hb
  replace hB2 := hB2.bel hb
  have hz_w2 := hb.size
  clear hb
  refine st (X.not rfl) rfl ?_
  refine sb rfl rfl (fun h16 => ?_) (fun h16 => ?_)
  · first | replace h16 := of_decide_eq_true h16 | replace h16 := of_decide_eq_false (notT h16) | replace h16 := notT h16 | skip
    refine gN (g := 16) rfl rfl rfl rfl ?_
    refine gN (g := 16) rfl rfl rfl rfl ?_
    refine gN (g := 16) rfl rfl rfl rfl ?_
    refine st (X.pickT rfl rfl) rfl ?_
    refine Wn ?_
    refine tN ?_
    refine W_yes rfl (rfl) ?_
    refine W_rs ?_
    refine sc _ Tryd.func9 rfl (by kernel_rfl) rfl rfl ((awake_any _ (hT.bel hbw)).mono ?_)
    rintro e_ w3 ⟨rfl, hb⟩
    refine cR ?_
    replace hbw := bthen hbw hb
    replace hB2 := hB2.bel hb
    have hz_w3 := hb.size
    clear hb
    refine sa rfl rfl ?_
    refine Wn ?_
    refine tN ?_
    refine W_ret (tR ?_)
    exact (rT rfl rfl ⟨rfl, hbw⟩).1
  · first | replace h16 := of_decide_eq_false h16 | replace h16 := of_decide_eq_true (notF h16) | replace h16 := notF h16 | skip
    refine gY (g := 16) rfl rfl rfl ?_
    refine sm rfl rfl ?_
    refine gY (g := 16) rfl rfl rfl ?_
    refine st (X.lenS rfl rfl Tryd.underlying9) rfl ?_
    refine gY (g := 16) rfl rfl rfl ?_
    refine st (X.gtr rfl rfl) rfl ?_
    refine st (X.pickF rfl rfl) rfl ?_
    refine Wn ?_
    refine tN ?_
    refine W_if rfl (fun h20 => ?_) (fun h20 => ?_)
    · first | replace h20 := of_decide_eq_true h20 | replace h20 := of_decide_eq_false (notT h20) | replace h20 := notT h20 | skip
      refine W_rs ?_
      refine sc _ Tryd.func9 rfl (by kernel_rfl) rfl rfl ((awake_any _ (hT.bel hbw)).mono ?_)
      rintro e_ w4 ⟨rfl, hb⟩
      refine cR ?_
      replace hbw := bthen hbw hb
      replace hB2 := hB2.bel hb
      have hz_w4 := hb.size
      clear hb
      refine sa rfl rfl ?_
      refine Wn ?_
      refine tN ?_
      refine W_ret (tR ?_)
      exact (rT rfl rfl ⟨rfl, hbw⟩).1
    · first | replace h20 := of_decide_eq_false h20 | replace h20 := of_decide_eq_true (notF h20) | replace h20 := notF h20 | skip
      refine W_skip ?_
      refine tN ?_
      refine W_rs ?_
      refine st (X.ldBN rfl hB2 Tryd.underlying26 rfl siz26) rfl ?_
      refine sc _ Tryd.func15 rfl (by kernel_rfl) rfl rfl ((Encode_any m _ _ _ (hc.bel hbw) (hs.bel hbw) (hT.bel hbw)).mono ?_)
      rintro e_ w5 ⟨rfl, hb⟩
      refine cR ?_
      replace hbw := bthen hbw hb
      replace hB2 := hB2.bel hb
      have hz_w5 := hb.size
      clear hb
      refine sm rfl rfl ?_
      refine st (X.ext rfl rfl) rfl ?_
      refine st (X.ext rfl rfl) rfl ?_
      refine sa rfl rfl ?_
      refine sa rfl rfl ?_
      refine Wn ?_
      refine tN ?_
      refine W_seq ?_
      refine W_rs ?_
      refine sm rfl rfl ?_
      refine st (X.eql rfl rfl) rfl ?_
      refine Wn ?_
      refine tN ?_
      refine W_if rfl (fun h28 => ?_) (fun h28 => ?_)
      · first | replace h28 := of_decide_eq_true h28 | replace h28 := of_decide_eq_false (notT h28) | replace h28 := notT h28 | skip
        have he : manErr colsOk m = 0 := h28
        rw [if_pos he]
        have hel := encode_few (decide_eq_true h16) hsum
        refine W_rs ?_
        refine sm rfl rfl ?_
        refine sc _ Tryd.func10 rfl (by kernel_rfl) rfl rfl ((Decode_ok (back he hsum) (by omega) _ (hT.bel hbw)).mono ?_)
        rintro e_ w6 ⟨vx, vy, rfl, hMR, hb⟩
        refine cR ?_
        replace hbw := bthen hbw hb
        replace hB2 := hB2.bel hb
        have hz_w6 := hb.size
        clear hb
        obtain ⟨ho1, ho2⟩ := hMR.one
        refine sm rfl rfl ?_
        refine st (X.ext rfl rfl) rfl ?_
        refine st (X.ext rfl rfl) rfl ?_
        refine salA inf26 rfl (fun g7 w7 hB7 hg7 hb hl7 => ?_)
        have hpend := hb
        replace hbw := bthen hbw hb
        replace hB2 := hB2.bel hb
        have hz_w7 := hb.size
        clear hb
        refine ssBN rfl rfl hB7 siz26 rfl (man_one ho1 ho2) (fun w8 hB_ hc_ => ?_)
        replace hB7 := hB_
        clear hB_
        replace hpend := bset hpend hc_ (by omega)
        replace hB2 := hB2.chg hc_ (by first | (show ¬ _ = _; omega) | (intro k_ hk_; simp [Value.ownBlock] at hk_; subst hk_; show ¬ _ = _; omega))
        replace hbw := bset hbw hc_ (by omega)
        have hz_w8 := hc_.size
        clear hc_
        refine sa rfl rfl ?_
        refine Wn ?_
        refine tN ?_
        refine W_rs ?_
        refine sm rfl rfl ?_
        refine st (X.neq rfl rfl) rfl ?_
        refine sbN rfl (rfl) rfl ?_
        refine gY (g := 36) rfl rfl rfl ?_
        refine st (X.ldBN rfl hB7 Tryd.underlying26 rfl siz26) rfl ?_
        refine gY (g := 36) rfl rfl rfl ?_
        refine st (X.ldBN rfl hB2 Tryd.underlying26 rfl siz26) rfl ?_
        refine gY (g := 36) rfl rfl rfl ?_
        replace hMR := hMR.bel hpend
        clear hpend
        refine sc _ Tryd.func17 rfl (by kernel_rfl) rfl rfl ((Same_any m m _ _ _ _ _ hMR.cols hMR.strs (hc.bel hbw) (hs.bel hbw)).mono ?_)
        rintro e_ w9 ⟨rfl, hb⟩
        refine cR ?_
        have hpend := hb
        replace hbw := bthen hbw hb
        replace hB2 := hB2.bel hb
        replace hB7 := hB7.bel hb
        have hz_w9 := hb.size
        clear hb
        rw [show (decide (m.id = m.id) && alike m m) = true by simp [alike_refl]]
        refine gY (g := 36) rfl rfl rfl ?_
        refine st (X.not rfl) rfl ?_
        refine st (X.pickF rfl rfl) rfl ?_
        refine Wn ?_
        refine tN ?_
        refine W_no rfl (rfl) ?_
        refine W_skip ?_
        refine tN ?_
        refine W_rs ?_
        refine sm rfl rfl ?_
        refine sc _ Tryd.func10 rfl (by kernel_rfl) rfl rfl ((Decode_ok hd (by omega) _ (hT.bel hbw)).mono ?_)
        rintro e_ w10 ⟨vp, vq, rfl, hMQ, hb⟩
        refine cR ?_
        replace hpend := bthen hpend hb
        replace hbw := bthen hbw hb
        replace hB2 := hB2.bel hb
        replace hB7 := hB7.bel hb
        have hz_w10 := hb.size
        clear hb
        obtain ⟨hp1, hp2⟩ := hMQ.one
        replace hMR := hMR.bel hpend
        clear hpend
        refine sm rfl rfl ?_
        refine st (X.ext rfl rfl) rfl ?_
        refine st (X.ext rfl rfl) rfl ?_
        refine salA inf26 rfl (fun g9 w11 hB9 hg9 hb hl9 => ?_)
        have hpend := hb
        replace hbw := bthen hbw hb
        replace hB2 := hB2.bel hb
        replace hB7 := hB7.bel hb
        have hz_w11 := hb.size
        clear hb
        refine ssBN rfl rfl hB9 siz26 rfl (man_one hp1 hp2) (fun w12 hB_ hc_ => ?_)
        replace hB9 := hB_
        clear hB_
        replace hpend := bset hpend hc_ (by omega)
        replace hB2 := hB2.chg hc_ (by first | (show ¬ _ = _; omega) | (intro k_ hk_; simp [Value.ownBlock] at hk_; subst hk_; show ¬ _ = _; omega))
        replace hB7 := hB7.chg hc_ (by first | (show ¬ _ = _; omega) | (intro k_ hk_; simp [Value.ownBlock] at hk_; subst hk_; show ¬ _ = _; omega))
        replace hbw := bset hbw hc_ (by omega)
        have hz_w12 := hc_.size
        clear hc_
        refine sa rfl rfl ?_
        refine Wn ?_
        refine tN ?_
        refine W_seq ?_
        refine W_rs ?_
        refine sm rfl rfl ?_
        refine st (X.neq rfl rfl) rfl ?_
        refine Wn ?_
        refine tN ?_
        refine W_no rfl (rfl) ?_
        refine W_skip ?_
        refine tN ?_
        refine W_rs ?_
        refine st (X.ldBN rfl hB9 Tryd.underlying26 rfl siz26) rfl ?_
        replace hMR := hMR.bel hpend
        replace hMQ := hMQ.bel hpend
        clear hpend
        refine sc _ Tryd.func15 rfl (by kernel_rfl) rfl rfl ((encode_ok y _ _ _ hMQ.cols hMQ.strs (hT.bel hbw) (forth hd).1).mono ?_)
        rintro e_ w13 ⟨rfl, hb⟩
        refine cR ?_
        have hpend := hb
        replace hbw := bthen hbw hb
        replace hB2 := hB2.bel hb
        replace hB7 := hB7.bel hb
        replace hB9 := hB9.bel hb
        have hz_w13 := hb.size
        clear hb
        rw [(forth hd).2]
        refine sm rfl rfl ?_
        refine st (X.ext rfl rfl) rfl ?_
        refine st (X.ext rfl rfl) rfl ?_
        refine sa rfl rfl ?_
        refine sa rfl rfl ?_
        refine Wn ?_
        refine tN ?_
        refine W_rs ?_
        refine sm rfl rfl ?_
        refine st (X.eql rfl rfl) rfl ?_
        refine sbY rfl (rfl) rfl ?_
        refine gY (g := 76) rfl rfl rfl ?_
        refine sm rfl rfl ?_
        refine gY (g := 76) rfl rfl rfl ?_
        refine sm rfl rfl ?_
        refine gY (g := 76) rfl rfl rfl ?_
        refine st (X.eqS rfl rfl) rfl ?_
        refine st (X.pickT rfl rfl) rfl ?_
        refine sbY rfl (decide_eq_true rfl) rfl ?_
        refine gY (g := 81) rfl rfl rfl ?_
        refine st (X.ldBN rfl hB9 Tryd.underlying26 rfl siz26) rfl ?_
        refine gY (g := 81) rfl rfl rfl ?_
        replace hMR := hMR.bel hpend
        replace hMQ := hMQ.bel hpend
        clear hpend
        refine sc _ Tryd.func18 rfl (by kernel_rfl) rfl rfl ((Check_any y _ _ _ hMQ.cols hMQ.strs (hT.bel hbw)).mono ?_)
        rintro e_ w14 ⟨rfl, hb⟩
        refine cR ?_
        have hpend := hb
        replace hbw := bthen hbw hb
        replace hB2 := hB2.bel hb
        replace hB7 := hB7.bel hb
        replace hB9 := hB9.bel hb
        have hz_w14 := hb.size
        clear hb
        rw [(forth hd).1]
        refine gY (g := 81) rfl rfl rfl ?_
        refine st (X.eql rfl rfl) rfl ?_
        refine st (X.pickT rfl rfl) rfl ?_
        refine sbY rfl (rfl) rfl ?_
        refine gY (g := 86) rfl rfl rfl ?_
        refine sc _ Tryd.func9 rfl (by kernel_rfl) rfl rfl ((awake_any _ (hT.bel hbw)).mono ?_)
        rintro e_ w15 ⟨rfl, hb⟩
        refine cR ?_
        replace hpend := bthen hpend hb
        replace hbw := bthen hbw hb
        replace hB2 := hB2.bel hb
        replace hB7 := hB7.bel hb
        replace hB9 := hB9.bel hb
        have hz_w15 := hb.size
        clear hb
        refine st (X.pickT rfl rfl) rfl ?_
        refine sa rfl rfl ?_
        refine Wn ?_
        refine tN ?_
        replace hMR := hMR.bel hpend
        replace hMQ := hMQ.bel hpend
        clear hpend
        refine W_ret ?_
        exact (rT rfl rfl ⟨rfl, hbw⟩).1
      · first | replace h28 := of_decide_eq_false h28 | replace h28 := of_decide_eq_true (notF h28) | replace h28 := notF h28 | skip
        have he : ¬ manErr colsOk m = 0 := h28
        rw [if_neg he]
        refine W_rs ?_
        refine sm rfl rfl ?_
        refine st (X.neS rfl rfl) rfl ?_
        refine Wn ?_
        refine tN ?_
        refine W_no rfl (rfl) ?_
        refine W_skip ?_
        refine tN ?_
        refine W_rs ?_
        refine sm rfl rfl ?_
        refine sc _ Tryd.func10 rfl (by kernel_rfl) rfl rfl ((Decode_ok hd (by omega) _ (hT.bel hbw)).mono ?_)
        rintro e_ w16 ⟨vp, vq, rfl, hMQ, hb⟩
        refine cR ?_
        replace hbw := bthen hbw hb
        replace hB2 := hB2.bel hb
        have hz_w16 := hb.size
        clear hb
        obtain ⟨hp1, hp2⟩ := hMQ.one
        refine sm rfl rfl ?_
        refine st (X.ext rfl rfl) rfl ?_
        refine st (X.ext rfl rfl) rfl ?_
        refine salA inf26 rfl (fun g9 w17 hB9 hg9 hb hl9 => ?_)
        have hpend := hb
        replace hbw := bthen hbw hb
        replace hB2 := hB2.bel hb
        have hz_w17 := hb.size
        clear hb
        refine ssBN rfl rfl hB9 siz26 rfl (man_one hp1 hp2) (fun w18 hB_ hc_ => ?_)
        replace hB9 := hB_
        clear hB_
        replace hpend := bset hpend hc_ (by omega)
        replace hB2 := hB2.chg hc_ (by first | (show ¬ _ = _; omega) | (intro k_ hk_; simp [Value.ownBlock] at hk_; subst hk_; show ¬ _ = _; omega))
        replace hbw := bset hbw hc_ (by omega)
        have hz_w18 := hc_.size
        clear hc_
        refine sa rfl rfl ?_
        refine Wn ?_
        refine tN ?_
        refine W_seq ?_
        refine W_rs ?_
        refine sm rfl rfl ?_
        refine st (X.neq rfl rfl) rfl ?_
        refine Wn ?_
        refine tN ?_
        refine W_no rfl (rfl) ?_
        refine W_skip ?_
        refine tN ?_
        refine W_rs ?_
        refine st (X.ldBN rfl hB9 Tryd.underlying26 rfl siz26) rfl ?_
        replace hMQ := hMQ.bel hpend
        clear hpend
        refine sc _ Tryd.func15 rfl (by kernel_rfl) rfl rfl ((encode_ok y _ _ _ hMQ.cols hMQ.strs (hT.bel hbw) (forth hd).1).mono ?_)
        rintro e_ w19 ⟨rfl, hb⟩
        refine cR ?_
        have hpend := hb
        replace hbw := bthen hbw hb
        replace hB2 := hB2.bel hb
        replace hB9 := hB9.bel hb
        have hz_w19 := hb.size
        clear hb
        rw [(forth hd).2]
        refine sm rfl rfl ?_
        refine st (X.ext rfl rfl) rfl ?_
        refine st (X.ext rfl rfl) rfl ?_
        refine sa rfl rfl ?_
        refine sa rfl rfl ?_
        refine Wn ?_
        refine tN ?_
        refine W_rs ?_
        refine sm rfl rfl ?_
        refine st (X.eql rfl rfl) rfl ?_
        refine sbY rfl (rfl) rfl ?_
        refine gY (g := 76) rfl rfl rfl ?_
        refine sm rfl rfl ?_
        refine gY (g := 76) rfl rfl rfl ?_
        refine sm rfl rfl ?_
        refine gY (g := 76) rfl rfl rfl ?_
        refine st (X.eqS rfl rfl) rfl ?_
        refine st (X.pickT rfl rfl) rfl ?_
        refine sbY rfl (decide_eq_true rfl) rfl ?_
        refine gY (g := 81) rfl rfl rfl ?_
        refine st (X.ldBN rfl hB9 Tryd.underlying26 rfl siz26) rfl ?_
        refine gY (g := 81) rfl rfl rfl ?_
        replace hMQ := hMQ.bel hpend
        clear hpend
        refine sc _ Tryd.func18 rfl (by kernel_rfl) rfl rfl ((Check_any y _ _ _ hMQ.cols hMQ.strs (hT.bel hbw)).mono ?_)
        rintro e_ w20 ⟨rfl, hb⟩
        refine cR ?_
        have hpend := hb
        replace hbw := bthen hbw hb
        replace hB2 := hB2.bel hb
        replace hB9 := hB9.bel hb
        have hz_w20 := hb.size
        clear hb
        rw [(forth hd).1]
        refine gY (g := 81) rfl rfl rfl ?_
        refine st (X.eql rfl rfl) rfl ?_
        refine st (X.pickT rfl rfl) rfl ?_
        refine sbY rfl (rfl) rfl ?_
        refine gY (g := 86) rfl rfl rfl ?_
        refine sc _ Tryd.func9 rfl (by kernel_rfl) rfl rfl ((awake_any _ (hT.bel hbw)).mono ?_)
        rintro e_ w21 ⟨rfl, hb⟩
        refine cR ?_
        replace hpend := bthen hpend hb
        replace hbw := bthen hbw hb
        replace hB2 := hB2.bel hb
        replace hB9 := hB9.bel hb
        have hz_w21 := hb.size
        clear hb
        refine st (X.pickT rfl rfl) rfl ?_
        refine sa rfl rfl ?_
        refine Wn ?_
        refine tN ?_
        replace hMQ := hMQ.bel hpend
        clear hpend
        refine W_ret ?_
        exact (rT rfl rfl ⟨rfl, hbw⟩).1
theorem ManifestBack_walk (w : World) (m : Man) (vc vs : Value) (hc : ColsAt w vc m.cols) (hs : StrsAt w vs m.strs) (s : List UInt8) (_ : s.length ≤ 9223372036854775807) (hT : UT w) :
    Calls Tryd.prog 6 #[manV m vc vs, str s] w fun e w' => e = .returned (.bool true) ∧ Below w.heap.size w w' := by
  cases hd : decodeM s with
  | error k => exact back_err w m vc vs hc hs s hT hd
  | ok y => exact back_ok w m vc vs hc hs s hT hd
end Go.Proofs.YtcdlileichdeoaaDoor
