/- manifest: four, stream, Check. -/
import Derived.Test.YtnagmpnpgekhfaaDoorSchema
namespace Go.Proofs.YtnagmpnpgekhfaaDoor
open Go.RowKit
theorem bs4 (a b c d : UInt8) (w : World) : (Instr.buildSlice 58 4 #[(0, .int .u8 a.toNat), (1, .int .u8 b.toNat), (2, .int .u8 c.toNat), (3, .int .u8 d.toNat)]).run Tryd.prog w =
    .ok (.slice (some ⟨w.heap.size, 0, none⟩) 4 4) (w.alloc (.cells #[.int .u8 a.toNat, .int .u8 b.toNat, .int .u8 c.toNat, .int .u8 d.toNat] 5)) := by kernel_rfl
theorem four_any (n : Int) (w : World) : Calls Tryd.prog 20 #[.int .i64 n] w fun e w' => e = .returned (str (four n)) ∧ Below w.heap.size w w' := by
  refine W_enter (args := [.int .i64 n]) 16 Tryd.func20 rfl rfl rfl ?_
  refine W_sub [(0, .int .i64 n)] ?_ ⟨rfl, trivial⟩
  have hbw := Below.refl w.heap.size w
  refine W_rs ?_
  refine sa rfl rfl ?_
  refine Wn ?_
  refine tN ?_
  refine W_rs ?_
  refine sm rfl rfl ?_
  refine st (X.convI rfl Tryd.underlying3 Tryd.underlying5 (wb _)) rfl ?_
  refine sm rfl rfl ?_
  refine st (X.shr (q := 256) rfl rfl (by decide) (by decide) rfl rfl) rfl ?_
  refine st (X.convI rfl Tryd.underlying3 Tryd.underlying5 (wb _)) rfl ?_
  refine sm rfl rfl ?_
  refine st (X.shr (q := 65536) rfl rfl (by decide) (by decide) rfl rfl) rfl ?_
  refine st (X.convI rfl Tryd.underlying3 Tryd.underlying5 (wb _)) rfl ?_
  refine sm rfl rfl ?_
  refine st (X.shr (q := 16777216) rfl rfl (by decide) (by decide) rfl rfl) rfl ?_
  refine st (X.convI rfl Tryd.underlying3 Tryd.underlying5 (wb _)) rfl ?_
  refine sbs 1 rfl (bs4 _ _ _ _ _) (by simp [maxLen]) rfl rfl (fun g w1 hR hg hb => ?_)
  replace hbw := bthen hbw hb
  refine st (X.strOf (s := four n) rfl Tryd.underlying58 Tryd.underlying5 Tryd.underlying9 hR.reads) rfl ?_
  refine sa rfl rfl ?_
  refine Wn ?_
  refine tN ?_
  refine W_ret ?_
  exact (rT rfl rfl ⟨rfl, hbw⟩).1
theorem stream_any (v : Value) (l : List Chk) (w : World) (h : ChksAt w v l) : Calls Tryd.prog 33 #[v] w fun e w' => e = .returned (.int .i64 (strErr l)) ∧ Below w.heap.size w w' := by
  obtain ⟨a, c, rfl, hn, hc⟩ := h.1.shape
  refine W_enter (args := [.slice a l.length c]) 36 Tryd.func33 rfl rfl rfl ?_
  refine W_sub [(0, .slice a l.length c)] ?_ ⟨rfl, trivial⟩
  have hbw := Below.refl w.heap.size w
  refine W_rs ?_
  refine sa rfl rfl ?_
  refine Wn ?_
  refine tN ?_
  refine W_seq ?_
  refine W_rs ?_
  refine sm rfl rfl ?_
  refine st (X.lenL rfl rfl Tryd.underlying51) rfl ?_
  refine st (X.gtr rfl rfl) rfl ?_
  refine Wn ?_
  refine tN ?_
  refine W_if rfl (fun h7 => ?_) (fun h7 => ?_)
  · first | replace h7 := of_decide_eq_true h7 | replace h7 := of_decide_eq_false (notT h7) | replace h7 := notT h7 | skip
    refine W_rs ?_
    refine sa rfl rfl ?_
    refine Wn ?_
    refine tN ?_
    refine W_ret (tR ?_)
    refine (rT rfl rfl ⟨?_, hbw⟩).1
    unfold strErr; rw [if_pos (by omega)]
  · first | replace h7 := of_decide_eq_false h7 | replace h7 := of_decide_eq_true (notF h7) | replace h7 := notF h7 | skip
    refine W_skip ?_
    refine tN ?_
    refine W_seq ?_
    refine W_rs ?_
    refine sm rfl rfl ?_
    refine st (X.lenL rfl rfl Tryd.underlying51) rfl ?_
    refine sm rfl rfl ?_
    refine Wn ?_
    refine tN ?_
    refine W_block ?_
    refine W_lp (fun nw1_ lw1_ w1 => ∃ j : Nat, nw1_ = l.length - j ∧ lw1_ = ([(0, .slice a l.length c), (8, .slice a l.length c), (9, .int .i64 l.length), (10, .int .i64 j)] : Env) ∧ (j ≤ l.length) ∧ (strErr l = if strBad (l.drop j) then 1 else 0) ∧ (Below w.heap.size w w1)) _ ⟨_, ⟨0, rfl, rfl, by omega, by unfold strErr; rw [if_neg (by omega)]; rfl, hbw⟩, ⟨rfl, rfl, rfl, rfl, trivial⟩⟩ ?_
    clear hbw
    rintro nw1_ lw1_ w1 ⟨j, rfl, rfl, hj, hs, hbw⟩
    have hz_w1 := hbw.size
    refine W_rs ?_
    refine st (X.lss rfl rfl) rfl ?_
    refine Wn ?_
    refine tN ?_
    refine W_seq ?_
    refine W_if rfl (fun h11 => ?_) (fun h11 => ?_)
    · first | replace h11 := of_decide_eq_true h11 | replace h11 := of_decide_eq_false (notT h11) | replace h11 := notT h11 | skip
      obtain ⟨x, hx⟩ : ∃ x, l[j]? = some x := ⟨_, List.getElem?_eq_getElem (by omega)⟩
      obtain ⟨g, o, c', hv, hg⟩ := (h.1.bel hbw).some_ (by omega)
      injection hv with e1 _ e3
      subst e1 e3
      have hxs := h.2 x (List.mem_of_getElem? hx)
      have hr := (h.bel hbw).range hx
      have hb0 := strBad_at l j x hx
      refine W_skip ?_
      refine tN ?_
      refine W_seq ?_
      refine W_block ?_
      refine W_rs ?_
      refine sm rfl rfl ?_
      refine st (X.idxA rfl rfl Tryd.underlying51 siz55 rfl (by omega)) rfl ?_
      refine st (X.ldN rfl Tryd.underlying55 rfl (by rw [Chk.cells_length hxs]; exact siz55) hr) rfl ?_
      refine salA inf55 rfl (fun g4 w2 hB4 hg4 hb hl4 => ?_)
      replace hbw := bthen hbw hb
      have hz_w2 := hb.size
      clear hb
      refine sa rfl rfl ?_
      refine ssBN rfl rfl hB4 (by rw [Chk.size hxs]; exact siz55) (by rw [Chk.size hxs]; rfl) (Chk.cells_one _) (fun w3 hB_ hc_ => ?_)
      replace hB4 := hB_
      clear hB_
      replace hbw := bset hbw hc_ (by omega)
      have hz_w3 := hc_.size
      clear hc_
      refine Wn ?_
      refine tN ?_
      refine W_rs ?_
      refine st (X.fa fa55_1 rfl) rfl ?_
      refine st (X.ldB rfl hB4 Tryd.underlying3 rfl (Chk.cells_len hxs)) rfl ?_
      refine st (X.lss rfl rfl) rfl ?_
      refine sb rfl rfl (fun h18 => ?_) (fun h18 => ?_)
      · first | replace h18 := of_decide_eq_true h18 | replace h18 := of_decide_eq_false (notT h18) | replace h18 := notT h18 | skip
        refine gN (g := 18) rfl rfl rfl rfl ?_
        refine gN (g := 18) rfl rfl rfl rfl ?_
        refine gN (g := 18) rfl rfl rfl rfl ?_
        refine st (X.pickT rfl rfl) rfl ?_
        refine sm rfl rfl ?_
        refine gN (g := 23) rfl rfl rfl rfl ?_
        refine gN (g := 23) rfl rfl rfl rfl ?_
        refine gN (g := 23) rfl rfl rfl rfl ?_
        refine gN (g := 23) rfl rfl rfl rfl ?_
        refine gU (g := 27) rfl rfl rfl rfl ?_
        refine gU (g := 27) rfl rfl rfl rfl ?_
        refine gU (g := 27) rfl rfl rfl rfl ?_
        refine gU (g := 27) rfl rfl rfl rfl ?_
        refine gU (g := 27) rfl rfl rfl rfl ?_
        refine gN (g := 23) rfl rfl rfl rfl ?_
        refine st (X.pickT rfl rfl) rfl ?_
        refine Wn ?_
        refine tN ?_
        refine W_yes rfl (rfl) ?_
        refine W_rs ?_
        refine sa rfl rfl ?_
        refine Wn ?_
        refine tN ?_
        refine W_ret (bR (tR (tR (bR (tR ?_)))))
        refine (rT rfl rfl ⟨?_, hbw⟩).1
        rw [hs, hb0, show chkBad x (decide (j + 1 < l.length)) = true from by unfold chkBad; simp; omega]; simp
      · first | replace h18 := of_decide_eq_false h18 | replace h18 := of_decide_eq_true (notF h18) | replace h18 := notF h18 | skip
        refine gY (g := 18) rfl rfl rfl ?_
        refine st (X.fa fa55_1 rfl) rfl ?_
        refine gY (g := 18) rfl rfl rfl ?_
        refine st (X.ldB rfl hB4 Tryd.underlying3 rfl (Chk.cells_len hxs)) rfl ?_
        refine gY (g := 18) rfl rfl rfl ?_
        refine st (X.gtr rfl rfl) rfl ?_
        refine st (X.pickF rfl rfl) rfl ?_
        refine sb rfl rfl (fun h23 => ?_) (fun h23 => ?_)
        · first | replace h23 := of_decide_eq_true h23 | replace h23 := of_decide_eq_false (notT h23) | replace h23 := notT h23 | skip
          refine gN (g := 23) rfl rfl rfl rfl ?_
          refine gN (g := 23) rfl rfl rfl rfl ?_
          refine gN (g := 23) rfl rfl rfl rfl ?_
          refine gN (g := 23) rfl rfl rfl rfl ?_
          refine gU (g := 27) rfl rfl rfl rfl ?_
          refine gU (g := 27) rfl rfl rfl rfl ?_
          refine gU (g := 27) rfl rfl rfl rfl ?_
          refine gU (g := 27) rfl rfl rfl rfl ?_
          refine gU (g := 27) rfl rfl rfl rfl ?_
          refine gN (g := 23) rfl rfl rfl rfl ?_
          refine st (X.pickT rfl rfl) rfl ?_
          refine Wn ?_
          refine tN ?_
          refine W_yes rfl (rfl) ?_
          refine W_rs ?_
          refine sa rfl rfl ?_
          refine Wn ?_
          refine tN ?_
          refine W_ret (bR (tR (tR (bR (tR ?_)))))
          refine (rT rfl rfl ⟨?_, hbw⟩).1
          rw [hs, hb0, show chkBad x (decide (j + 1 < l.length)) = true from by unfold chkBad; simp; omega]; simp
        · first | replace h23 := of_decide_eq_false h23 | replace h23 := of_decide_eq_true (notF h23) | replace h23 := notF h23 | skip
          refine gY (g := 23) rfl rfl rfl ?_
          refine st (X.fa fa55_1 rfl) rfl ?_
          refine gY (g := 23) rfl rfl rfl ?_
          refine st (X.ldB rfl hB4 Tryd.underlying3 rfl (Chk.cells_len hxs)) rfl ?_
          refine gY (g := 23) rfl rfl rfl ?_
          refine st (X.lss rfl rfl) rfl ?_
          refine gY (g := 23) rfl rfl rfl ?_
          refine sb rfl rfl (fun h27 => ?_) (fun h27 => ?_)
          · first | replace h27 := of_decide_eq_true h27 | replace h27 := of_decide_eq_false (notT h27) | replace h27 := notT h27 | skip
            refine gY (g := 27) rfl rfl rfl ?_
            refine sm rfl rfl ?_
            refine gY (g := 27) rfl rfl rfl ?_
            refine st (X.add64 rfl rfl (by omega)) rfl ?_
            refine gY (g := 27) rfl rfl rfl ?_
            refine sm rfl rfl ?_
            refine gY (g := 27) rfl rfl rfl ?_
            refine st (X.lenL rfl rfl Tryd.underlying51) rfl ?_
            refine gY (g := 27) rfl rfl rfl ?_
            refine st (X.lss rfl rfl) rfl ?_
            refine gY (g := 23) rfl rfl rfl ?_
            refine st (X.pickT rfl rfl) rfl ?_
            refine st (X.pickF rfl rfl) rfl ?_
            refine Wn ?_
            refine tN ?_
            refine W_if rfl (fun h34 => ?_) (fun h34 => ?_)
            · first | replace h34 := of_decide_eq_true h34 | replace h34 := of_decide_eq_false (notT h34) | replace h34 := notT h34 | skip
              refine W_rs ?_
              refine sa rfl rfl ?_
              refine Wn ?_
              refine tN ?_
              refine W_ret (bR (tR (tR (bR (tR ?_)))))
              refine (rT rfl rfl ⟨?_, hbw⟩).1
              rw [hs, hb0, show chkBad x (decide (j + 1 < l.length)) = true from by unfold chkBad; simp; omega]; simp
            · first | replace h34 := of_decide_eq_false h34 | replace h34 := of_decide_eq_true (notF h34) | replace h34 := notF h34 | skip
              refine W_skip ?_
              refine bN ?_
              refine tN ?_
              refine W_reg ?_
              refine st (X.add64 rfl rfl (by omega)) rfl ?_
              refine sm rfl rfl ?_
              refine Wn ?_
              refine tN ⟨_, _, ?_, ⟨j + 1, rfl, rfl, by omega, by rw [hs, hb0, show chkBad x (decide (j + 1 < l.length)) = false from by unfold chkBad; simp; omega]; simp, hbw⟩, ⟨rfl, rfl, rfl, rfl, trivial⟩⟩
              omega
          · first | replace h27 := of_decide_eq_false h27 | replace h27 := of_decide_eq_true (notF h27) | replace h27 := notF h27 | skip
            refine gN (g := 27) rfl rfl rfl rfl ?_
            refine gN (g := 27) rfl rfl rfl rfl ?_
            refine gN (g := 27) rfl rfl rfl rfl ?_
            refine gN (g := 27) rfl rfl rfl rfl ?_
            refine gN (g := 27) rfl rfl rfl rfl ?_
            refine gY (g := 23) rfl rfl rfl ?_
            refine st (X.pickF rfl rfl) rfl ?_
            refine st (X.pickF rfl rfl) rfl ?_
            refine Wn ?_
            refine tN ?_
            refine W_no rfl (rfl) ?_
            refine W_skip ?_
            refine bN ?_
            refine tN ?_
            refine W_reg ?_
            refine st (X.add64 rfl rfl (by omega)) rfl ?_
            refine sm rfl rfl ?_
            refine Wn ?_
            refine tN ⟨_, _, ?_, ⟨j + 1, rfl, rfl, by omega, by rw [hs, hb0, show chkBad x (decide (j + 1 < l.length)) = false from by unfold chkBad; simp; omega]; simp, hbw⟩, ⟨rfl, rfl, rfl, rfl, trivial⟩⟩
            omega
    · first | replace h11 := of_decide_eq_false h11 | replace h11 := of_decide_eq_true (notF h11) | replace h11 := notF h11 | skip
      refine W_exit (tE (tE (bH ?_)))
      refine tN ?_
      refine W_rs ?_
      refine sa rfl rfl ?_
      refine Wn ?_
      refine tN ?_
      refine W_ret ?_
      refine (rT rfl rfl ⟨?_, hbw⟩).1
      rw [hs, List.drop_of_length_le (by omega)]; rfl
/-- a manifest's four cells -/
def manV (m : Man) (vc vs : Value) : Value := .agg #[.int .i64 m.id, .int .i64 m.rows, vc, vs]
theorem Check_any (m : Man) (vc vs : Value) (w : World) (hc : ColsAt w vc m.cols) (hs : StrsAt w vs m.strs) (hT : UT w) :
    Calls Tryd.prog 16 #[manV m vc vs] w fun e w' => e = .returned (.int .i64 (manErr colsOk m)) ∧ Below w.heap.size w w' := by
  obtain ⟨ac, cc, rfl, hcn, hcc⟩ := hc.1.shape
  obtain ⟨us, hR, hu⟩ := hs
  obtain ⟨sa_, cs, rfl, hsn, hsc⟩ := hR.shape
  refine W_enter (args := [.agg #[.int .i64 m.id, .int .i64 m.rows, .slice ac m.cols.length cc, .slice sa_ m.strs.length cs]]) 50 Tryd.func16 rfl rfl rfl ?_
  refine W_sub [(0, .agg #[.int .i64 m.id, .int .i64 m.rows, .slice ac m.cols.length cc, .slice sa_ m.strs.length cs])] ?_ ⟨rfl, trivial⟩
  have hbw := Below.refl w.heap.size w
  refine W_rs ?_
  refine sboxA rfl rfl (fun g1 w1 hB1 hg1 hb hl1 => ?_)
  replace hbw := bthen hbw hb
  have hz_w1 := hb.size
  clear hb
  refine sa rfl rfl ?_
  refine Wn ?_
  refine tN ?_
  refine W_seq ?_
  refine W_block ?_
  refine W_rs ?_
  refine st (X.fa fa26_0 rfl) rfl ?_
  refine st (X.ldL rfl hB1 Tryd.underlying3 rfl rfl) rfl ?_
  refine st (X.lss rfl rfl) rfl ?_
  refine sb rfl rfl (fun h10 => ?_) (fun h10 => ?_)
  · first | replace h10 := of_decide_eq_true h10 | replace h10 := of_decide_eq_false (notT h10) | replace h10 := notT h10 | skip
    refine gN (g := 10) rfl rfl rfl rfl ?_
    refine gN (g := 10) rfl rfl rfl rfl ?_
    refine gN (g := 10) rfl rfl rfl rfl ?_
    refine st (X.pickT rfl rfl) rfl ?_
    refine sm rfl rfl ?_
    refine gN (g := 15) rfl rfl rfl rfl ?_
    refine gN (g := 15) rfl rfl rfl rfl ?_
    refine gN (g := 15) rfl rfl rfl rfl ?_
    refine st (X.pickT rfl rfl) rfl ?_
    refine sa rfl rfl ?_
    refine Wn ?_
    refine tN ?_
    refine W_yes rfl (rfl) ?_
    refine W_rs ?_
    refine sa rfl rfl ?_
    refine Wn ?_
    refine tN ?_
    refine W_ret (bR (tR ?_))
    refine (rT rfl rfl ⟨?_, hbw⟩).1
    unfold manErr; rw [if_pos (by omega)]
  · first | replace h10 := of_decide_eq_false h10 | replace h10 := of_decide_eq_true (notF h10) | replace h10 := notF h10 | skip
    refine gY (g := 10) rfl rfl rfl ?_
    refine st (X.fa fa26_0 rfl) rfl ?_
    refine gY (g := 10) rfl rfl rfl ?_
    refine st (X.ldL rfl hB1 Tryd.underlying3 rfl rfl) rfl ?_
    refine gY (g := 10) rfl rfl rfl ?_
    refine st (X.gtr rfl rfl) rfl ?_
    refine st (X.pickF rfl rfl) rfl ?_
    refine sb rfl rfl (fun h15 => ?_) (fun h15 => ?_)
    · first | replace h15 := of_decide_eq_true h15 | replace h15 := of_decide_eq_false (notT h15) | replace h15 := notT h15 | skip
      refine gN (g := 15) rfl rfl rfl rfl ?_
      refine gN (g := 15) rfl rfl rfl rfl ?_
      refine gN (g := 15) rfl rfl rfl rfl ?_
      refine st (X.pickT rfl rfl) rfl ?_
      refine sa rfl rfl ?_
      refine Wn ?_
      refine tN ?_
      refine W_yes rfl (rfl) ?_
      refine W_rs ?_
      refine sa rfl rfl ?_
      refine Wn ?_
      refine tN ?_
      refine W_ret (bR (tR ?_))
      refine (rT rfl rfl ⟨?_, hbw⟩).1
      unfold manErr; rw [if_pos (by omega)]
    · first | replace h15 := of_decide_eq_false h15 | replace h15 := of_decide_eq_true (notF h15) | replace h15 := notF h15 | skip
      refine gY (g := 15) rfl rfl rfl ?_
      refine st (X.fa fa26_1 rfl) rfl ?_
      refine gY (g := 15) rfl rfl rfl ?_
      refine st (X.ldL rfl hB1 Tryd.underlying3 rfl rfl) rfl ?_
      refine gY (g := 15) rfl rfl rfl ?_
      refine st (X.lss rfl rfl) rfl ?_
      refine st (X.pickF rfl rfl) rfl ?_
      refine sa rfl rfl ?_
      refine Wn ?_
      refine tN ?_
      refine W_if rfl (fun h6 => ?_) (fun h6 => ?_)
      · first | replace h6 := of_decide_eq_true h6 | replace h6 := of_decide_eq_false (notT h6) | replace h6 := notT h6 | skip
        refine W_rs ?_
        refine sa rfl rfl ?_
        refine Wn ?_
        refine tN ?_
        refine W_ret (bR (tR ?_))
        refine (rT rfl rfl ⟨?_, hbw⟩).1
        unfold manErr; rw [if_pos (by omega)]
      · first | replace h6 := of_decide_eq_false h6 | replace h6 := of_decide_eq_true (notF h6) | replace h6 := notF h6 | skip
        refine W_rs ?_
        refine st (X.fa fa26_1 rfl) rfl ?_
        refine st (X.ldL rfl hB1 Tryd.underlying3 rfl rfl) rfl ?_
        refine st (X.gtr rfl rfl) rfl ?_
        refine sa rfl rfl ?_
        refine Wn ?_
        refine tN ?_
        refine W_if rfl (fun h20 => ?_) (fun h20 => ?_)
        · first | replace h20 := of_decide_eq_true h20 | replace h20 := of_decide_eq_false (notT h20) | replace h20 := notT h20 | skip
          refine W_rs ?_
          refine sa rfl rfl ?_
          refine Wn ?_
          refine tN ?_
          refine W_ret (bR (tR ?_))
          refine (rT rfl rfl ⟨?_, hbw⟩).1
          unfold manErr; rw [if_neg (by omega), if_pos (by omega)]
        · first | replace h20 := of_decide_eq_false h20 | replace h20 := of_decide_eq_true (notF h20) | replace h20 := notF h20 | skip
          refine W_rs ?_
          refine st (X.fa fa26_2 rfl) rfl ?_
          refine st (X.ldL rfl hB1 Tryd.underlying23 rfl rfl) rfl ?_
          refine sc _ Tryd.func32 rfl (by kernel_rfl) rfl rfl ((Columns_any _ m.cols _ (hc.bel hbw) (hT.bel hbw)).mono ?_)
          rintro e_ w2 ⟨rfl, hb⟩
          refine cR ?_
          replace hbw := bthen hbw hb
          replace hB1 := hB1.bel hb
          have hz_w2 := hb.size
          clear hb
          refine st (X.neq rfl rfl) rfl ?_
          refine sa rfl rfl ?_
          refine Wn ?_
          refine tN ?_
          refine W_if rfl (fun h24 => ?_) (fun h24 => ?_)
          · first | replace h24 := of_decide_eq_true h24 | replace h24 := of_decide_eq_false (notT h24) | replace h24 := notT h24 | skip
            refine W_rs ?_
            refine sa rfl rfl ?_
            refine Wn ?_
            refine tN ?_
            refine W_ret (bR (tR ?_))
            refine (rT rfl rfl ⟨?_, hbw⟩).1
            unfold manErr; rw [if_neg (by omega), if_neg (by omega), if_pos (by cases hq : colsOk m.cols <;> simp [hq] at h24 ⊢)]
          · first | replace h24 := of_decide_eq_false h24 | replace h24 := of_decide_eq_true (notF h24) | replace h24 := notF h24 | skip
            refine W_rs ?_
            refine st (X.fa fa26_3 rfl) rfl ?_
            refine st (X.ldL rfl hB1 Tryd.underlying24 rfl rfl) rfl ?_
            refine st (X.lenL rfl rfl Tryd.underlying24) rfl ?_
            refine st (X.fa fa26_2 rfl) rfl ?_
            refine st (X.ldL rfl hB1 Tryd.underlying23 rfl rfl) rfl ?_
            refine st (X.lenL rfl rfl Tryd.underlying23) rfl ?_
            refine st (X.neq rfl rfl) rfl ?_
            refine sa rfl rfl ?_
            refine Wn ?_
            refine tN ?_
            refine W_if rfl (fun h29 => ?_) (fun h29 => ?_)
            · first | replace h29 := of_decide_eq_true h29 | replace h29 := of_decide_eq_false (notT h29) | replace h29 := notT h29 | skip
              refine W_rs ?_
              refine sa rfl rfl ?_
              refine Wn ?_
              refine tN ?_
              refine W_ret (bR (tR ?_))
              refine (rT rfl rfl ⟨?_, hbw⟩).1
              unfold manErr; rw [if_neg (by omega), if_neg (by omega), if_neg (by cases hq : colsOk m.cols <;> simp [hq] at h24 ⊢), if_pos (by omega)]
            · first | replace h29 := of_decide_eq_false h29 | replace h29 := of_decide_eq_true (notF h29) | replace h29 := notF h29 | skip
              refine W_skip ?_
              refine bN ?_
              refine tN ?_
              refine W_seq ?_
              refine W_rs ?_
              refine st (X.fa fa26_3 rfl) rfl ?_
              refine st (X.ldL rfl hB1 Tryd.underlying24 rfl rfl) rfl ?_
              refine st (X.lenL rfl rfl Tryd.underlying24) rfl ?_
              refine sm rfl rfl ?_
              refine Wn ?_
              refine tN ?_
              refine W_block ?_
              refine W_lp (fun nw3_ lw3_ w3 => ∃ j : Nat, nw3_ = m.strs.length - j ∧ lw3_ = ([(38, .slice sa_ m.strs.length cs), (39, .int .i64 m.strs.length), (40, .int .i64 j)] : Env) ∧ (j ≤ m.strs.length) ∧ (manErr colsOk m = strsErr (m.strs.drop j)) ∧ (Below w.heap.size w w3)) _ ⟨_, ⟨0, rfl, rfl, by omega, by unfold manErr; rw [if_neg (by omega), if_neg (by omega), if_neg (by cases hq : colsOk m.cols <;> simp [hq] at h24 ⊢), if_neg (by omega)]; rfl, hbw⟩, ⟨rfl, rfl, rfl, trivial⟩⟩ ?_
              clear hbw
              rintro nw3_ lw3_ w3 ⟨j, rfl, rfl, hj, he, hbw⟩
              have hz_w3 := hbw.size
              refine W_rs ?_
              refine st (X.lss rfl rfl) rfl ?_
              refine Wn ?_
              refine tN ?_
              refine W_seq ?_
              refine W_if rfl (fun h41 => ?_) (fun h41 => ?_)
              · first | replace h41 := of_decide_eq_true h41 | replace h41 := of_decide_eq_false (notT h41) | replace h41 := notT h41 | skip
                obtain ⟨x, hx⟩ : ∃ x, m.strs[j]? = some x := ⟨_, List.getElem?_eq_getElem (by omega)⟩
                obtain ⟨u, hux, hcu⟩ := hu j x hx
                obtain ⟨g, o, c', hv, hg⟩ := (hR.bel hbw).some_ (by omega)
                injection hv with e1 _ e3
                subst e1 e3
                have hn0 := strsErr_at m.strs j x hx
                have hcell := (hR.bel hbw).cellAt (by omega) hux
                refine W_skip ?_
                refine tN ?_
                refine W_seq ?_
                refine W_block ?_
                refine W_rs ?_
                refine st (X.idxA rfl rfl Tryd.underlying24 siz51 rfl (by omega)) rfl ?_
                refine st (X.ld rfl Tryd.underlying51 rfl (by rw [Nat.mul_one]; exact hcell)) rfl ?_
                refine sa rfl rfl ?_
                refine Wn ?_
                refine tN ?_
                refine W_rs ?_
                refine sm rfl rfl ?_
                refine sc _ Tryd.func33 rfl (by kernel_rfl) rfl rfl ((stream_any u x _ (hcu.bel hbw)).mono ?_)
                rintro e_ w4 ⟨rfl, hb⟩
                refine cR ?_
                replace hbw := bthen hbw hb
                have hz_w4 := hb.size
                clear hb
                refine sa rfl rfl ?_
                refine Wn ?_
                refine tN ?_
                refine W_rs ?_
                refine sm rfl rfl ?_
                refine st (X.neq rfl rfl) rfl ?_
                refine Wn ?_
                refine tN ?_
                refine W_if rfl (fun h47 => ?_) (fun h47 => ?_)
                · first | replace h47 := of_decide_eq_true h47 | replace h47 := of_decide_eq_false (notT h47) | replace h47 := notT h47 | skip
                  refine W_rs ?_
                  refine sm rfl rfl ?_
                  refine sa rfl rfl ?_
                  refine Wn ?_
                  refine tN ?_
                  refine W_ret (bR (tR (tR (bR (tR ?_)))))
                  refine (rT rfl rfl ⟨?_, hbw⟩).1
                  rw [he, hn0, if_neg h47]
                · first | replace h47 := of_decide_eq_false h47 | replace h47 := of_decide_eq_true (notF h47) | replace h47 := notF h47 | skip
                  refine W_skip ?_
                  refine bN ?_
                  refine tN ?_
                  refine W_reg ?_
                  refine st (X.add64 rfl rfl (by omega)) rfl ?_
                  refine sm rfl rfl ?_
                  refine Wn ?_
                  refine tN ⟨_, _, ?_, ⟨j + 1, rfl, rfl, by omega, by rw [he, hn0, if_pos (by simpa using h47)], hbw⟩, ⟨rfl, rfl, rfl, trivial⟩⟩
                  omega
              · first | replace h41 := of_decide_eq_false h41 | replace h41 := of_decide_eq_true (notF h41) | replace h41 := notF h41 | skip
                refine W_exit (tE (tE (bH ?_)))
                refine tN ?_
                refine W_rs ?_
                refine sa rfl rfl ?_
                refine Wn ?_
                refine tN ?_
                refine W_ret ?_
                refine (rT rfl rfl ⟨?_, hbw⟩).1
                rw [he, List.drop_of_length_le (by omega)]; rfl
end Go.Proofs.YtnagmpnpgekhfaaDoor
