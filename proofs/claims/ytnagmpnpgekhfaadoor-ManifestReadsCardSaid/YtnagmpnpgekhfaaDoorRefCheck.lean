/- armariumref19.Check. -/
import Derived.Test.YtnagmpnpgekhfaaDoorRefColumns
import Derived.Test.YtnagmpnpgekhfaaDoorRefAlike
namespace Go.Proofs.YtnagmpnpgekhfaaDoor
open Go.RowKit
theorem RefCheck_any (m : Man) (vc vr : Value) (w : World) (hc : ColsAt w vc m.cols) (hr : RStrsAt w vr m.strs) (hT : UT w) :
    Calls Tryd.prog 25 #[.agg #[.int .i64 m.id, .int .i64 m.rows, vc, vr]] w fun e w' => e = .returned (.int .i64 (manErr colsOk m)) ∧ Below w.heap.size w w' := by
  obtain ⟨ac, cc, rfl, hcn, hcc⟩ := hc.1.shape
  obtain ⟨us, hR, hu⟩ := hr
  obtain ⟨sa_, cs, rfl, hsn, hsc⟩ := hR.shape
  refine W_enter (args := [.agg #[.int .i64 m.id, .int .i64 m.rows, .slice ac m.cols.length cc, .slice sa_ m.strs.length cs]]) 83 Tryd.func25 rfl rfl rfl ?_
  refine W_sub [(0, .agg #[.int .i64 m.id, .int .i64 m.rows, .slice ac m.cols.length cc, .slice sa_ m.strs.length cs])] ?_ ⟨rfl, trivial⟩
  have hbw := Below.refl w.heap.size w
  refine W_rs ?_
  refine sboxA rfl rfl (fun g1 w1 hB1 hg1 hb hl1 => ?_)
  replace hbw := bthen hbw hb
  have hz_w1 := hb.size
  clear hb
  refine sa rfl rfl ?_
  refine Wn ?_
  refine tN ?_
  refine W_seq ?_
  refine W_rs ?_
  refine st (X.fa fa32_0 rfl) rfl ?_
  refine st (X.ldL rfl hB1 Tryd.underlying3 rfl rfl) rfl ?_
  refine st (X.lss rfl rfl) rfl ?_
  refine sb rfl rfl (fun h9 => ?_) (fun h9 => ?_)
  · first | replace h9 := of_decide_eq_true h9 | replace h9 := of_decide_eq_false (notT h9) | replace h9 := notT h9 | skip
    refine gN (g := 9) rfl rfl rfl rfl ?_
    refine gN (g := 9) rfl rfl rfl rfl ?_
    refine gN (g := 9) rfl rfl rfl rfl ?_
    refine st (X.pickT rfl rfl) rfl ?_
    refine sm rfl rfl ?_
    refine gN (g := 14) rfl rfl rfl rfl ?_
    refine gN (g := 14) rfl rfl rfl rfl ?_
    refine gN (g := 14) rfl rfl rfl rfl ?_
    refine st (X.pickT rfl rfl) rfl ?_
    refine Wn ?_
    refine tN ?_
    refine W_yes rfl (rfl) ?_
    refine W_rs ?_
    refine sa rfl rfl ?_
    refine Wn ?_
    refine tN ?_
    refine W_ret (tR ?_)
    refine (rT rfl rfl ⟨?_, hbw⟩).1
    unfold manErr; rw [if_pos (by omega)]
  · first | replace h9 := of_decide_eq_false h9 | replace h9 := of_decide_eq_true (notF h9) | replace h9 := notF h9 | skip
    refine gY (g := 9) rfl rfl rfl ?_
    refine st (X.fa fa32_0 rfl) rfl ?_
    refine gY (g := 9) rfl rfl rfl ?_
    refine st (X.ldL rfl hB1 Tryd.underlying3 rfl rfl) rfl ?_
    refine gY (g := 9) rfl rfl rfl ?_
    refine st (X.gtr rfl rfl) rfl ?_
    refine st (X.pickF rfl rfl) rfl ?_
    refine sb rfl rfl (fun h14 => ?_) (fun h14 => ?_)
    · first | replace h14 := of_decide_eq_true h14 | replace h14 := of_decide_eq_false (notT h14) | replace h14 := notT h14 | skip
      refine gN (g := 14) rfl rfl rfl rfl ?_
      refine gN (g := 14) rfl rfl rfl rfl ?_
      refine gN (g := 14) rfl rfl rfl rfl ?_
      refine st (X.pickT rfl rfl) rfl ?_
      refine Wn ?_
      refine tN ?_
      refine W_yes rfl (rfl) ?_
      refine W_rs ?_
      refine sa rfl rfl ?_
      refine Wn ?_
      refine tN ?_
      refine W_ret (tR ?_)
      refine (rT rfl rfl ⟨?_, hbw⟩).1
      unfold manErr; rw [if_pos (by omega)]
    · first | replace h14 := of_decide_eq_false h14 | replace h14 := of_decide_eq_true (notF h14) | replace h14 := notF h14 | skip
      refine gY (g := 14) rfl rfl rfl ?_
      refine st (X.fa fa32_1 rfl) rfl ?_
      refine gY (g := 14) rfl rfl rfl ?_
      refine st (X.ldL rfl hB1 Tryd.underlying3 rfl rfl) rfl ?_
      refine gY (g := 14) rfl rfl rfl ?_
      refine st (X.lss rfl rfl) rfl ?_
      refine st (X.pickF rfl rfl) rfl ?_
      refine Wn ?_
      refine tN ?_
      refine W_if rfl (fun h18 => ?_) (fun h18 => ?_)
      · first | replace h18 := of_decide_eq_true h18 | replace h18 := of_decide_eq_false (notT h18) | replace h18 := notT h18 | skip
        refine W_rs ?_
        refine sa rfl rfl ?_
        refine Wn ?_
        refine tN ?_
        refine W_ret (tR ?_)
        refine (rT rfl rfl ⟨?_, hbw⟩).1
        unfold manErr; rw [if_pos (by omega)]
      · first | replace h18 := of_decide_eq_false h18 | replace h18 := of_decide_eq_true (notF h18) | replace h18 := notF h18 | skip
        refine W_skip ?_
        refine tN ?_
        refine W_seq ?_
        refine W_rs ?_
        refine st (X.fa fa32_1 rfl) rfl ?_
        refine st (X.ldL rfl hB1 Tryd.underlying3 rfl rfl) rfl ?_
        refine st (X.gtr rfl rfl) rfl ?_
        refine Wn ?_
        refine tN ?_
        refine W_if rfl (fun h21 => ?_) (fun h21 => ?_)
        · first | replace h21 := of_decide_eq_true h21 | replace h21 := of_decide_eq_false (notT h21) | replace h21 := notT h21 | skip
          refine W_rs ?_
          refine sa rfl rfl ?_
          refine Wn ?_
          refine tN ?_
          refine W_ret (tR ?_)
          refine (rT rfl rfl ⟨?_, hbw⟩).1
          unfold manErr; rw [if_neg (by omega), if_pos (by omega)]
        · first | replace h21 := of_decide_eq_false h21 | replace h21 := of_decide_eq_true (notF h21) | replace h21 := notF h21 | skip
          refine W_skip ?_
          refine tN ?_
          refine W_seq ?_
          refine W_rs ?_
          refine st (X.fa fa32_2 rfl) rfl ?_
          refine st (X.ldL rfl hB1 Tryd.underlying23 rfl rfl) rfl ?_
          refine sc _ Tryd.func44 rfl (by kernel_rfl) rfl rfl ((RefColumns_any _ m.cols _ (hc.bel hbw) (hT.bel hbw)).mono ?_)
          rintro e_ w2 ⟨rfl, hb⟩
          refine cR ?_
          replace hbw := bthen hbw hb
          replace hB1 := hB1.bel hb
          have hz_w2 := hb.size
          clear hb
          refine st (X.not rfl) rfl ?_
          refine Wn ?_
          refine tN ?_
          refine W_if rfl (fun h25 => ?_) (fun h25 => ?_)
          · first | replace h25 := of_decide_eq_true h25 | replace h25 := of_decide_eq_false (notT h25) | replace h25 := notT h25 | skip
            refine W_rs ?_
            refine sa rfl rfl ?_
            refine Wn ?_
            refine tN ?_
            refine W_ret (tR ?_)
            refine (rT rfl rfl ⟨?_, hbw⟩).1
            unfold manErr; rw [if_neg (by omega), if_neg (by omega), if_pos (by simp [h25])]
          · first | replace h25 := of_decide_eq_false h25 | replace h25 := of_decide_eq_true (notF h25) | replace h25 := notF h25 | skip
            refine W_skip ?_
            refine tN ?_
            refine W_seq ?_
            refine W_rs ?_
            refine st (X.fa fa32_3 rfl) rfl ?_
            refine st (X.ldL rfl hB1 Tryd.underlying30 rfl rfl) rfl ?_
            refine st (X.lenL rfl rfl Tryd.underlying30) rfl ?_
            refine st (X.fa fa32_2 rfl) rfl ?_
            refine st (X.ldL rfl hB1 Tryd.underlying23 rfl rfl) rfl ?_
            refine st (X.lenL rfl rfl Tryd.underlying23) rfl ?_
            refine st (X.neq rfl rfl) rfl ?_
            refine Wn ?_
            refine tN ?_
            refine W_if rfl (fun h32 => ?_) (fun h32 => ?_)
            · first | replace h32 := of_decide_eq_true h32 | replace h32 := of_decide_eq_false (notT h32) | replace h32 := notT h32 | skip
              refine W_rs ?_
              refine sa rfl rfl ?_
              refine Wn ?_
              refine tN ?_
              refine W_ret (tR ?_)
              refine (rT rfl rfl ⟨?_, hbw⟩).1
              unfold manErr; rw [if_neg (by omega), if_neg (by omega), if_neg (by simp [h25]), if_pos (by omega)]
            · first | replace h32 := of_decide_eq_false h32 | replace h32 := of_decide_eq_true (notF h32) | replace h32 := notF h32 | skip
              refine W_skip ?_
              refine tN ?_
              refine W_seq ?_
              refine W_rs ?_
              refine sa rfl rfl ?_
              refine Wn ?_
              refine tN ?_
              refine W_block ?_
              refine W_lp (fun nw3_ lw3_ w3 => ∃ j : Nat, nw3_ = m.strs.length - j ∧ lw3_ = ([(1, .pointer (some ⟨g1, 0, none⟩)), (3, .int .i64 j)] : Env) ∧ (j ≤ m.strs.length) ∧ (manErr colsOk m = strsErr (m.strs.drop j)) ∧ (Blk w3 g1 32 #[.int .i64 m.id, .int .i64 m.rows, .slice ac m.cols.length cc, .slice sa_ m.strs.length cs]) ∧ (Below w.heap.size w w3)) _ ⟨_, ⟨0, rfl, rfl, by omega, by unfold manErr; rw [if_neg (by omega), if_neg (by omega), if_neg (by simp [h25]), if_neg (by omega)]; rfl, hB1, hbw⟩, ⟨rfl, rfl, trivial⟩⟩ ?_
              clear hB1 hbw
              rintro nw3_ lw3_ w3 ⟨j, rfl, rfl, hj, he, hB1, hbw⟩
              have hz_w3 := hbw.size
              have hlt_hB1_w3 := hB1.lt
              refine W_seq ?_
              refine W_rs ?_
              refine sm rfl rfl ?_
              refine st (X.fa fa32_3 rfl) rfl ?_
              refine st (X.ldL rfl hB1 Tryd.underlying30 rfl rfl) rfl ?_
              refine st (X.lenL rfl rfl Tryd.underlying30) rfl ?_
              refine st (X.lss rfl rfl) rfl ?_
              refine Wn ?_
              refine tN ?_
              refine W_if rfl (fun h37 => ?_) (fun h37 => ?_)
              · first | replace h37 := of_decide_eq_true h37 | replace h37 := of_decide_eq_false (notT h37) | replace h37 := notT h37 | skip
                obtain ⟨l, hl⟩ : ∃ l, m.strs[j]? = some l := ⟨_, List.getElem?_eq_getElem (by omega)⟩
                obtain ⟨u, hux, hcu⟩ := hu j l hl
                obtain ⟨gs, os_, c', hv, hgs⟩ := (hR.bel hbw).some_ (by omega)
                injection hv with e1 _ e3
                subst e1 e3
                obtain ⟨au, cu, rfl, hun, huc⟩ := hcu.shape
                have hn0 := strsErr_at m.strs j l hl
                refine W_skip ?_
                refine tN ?_
                refine W_seq ?_
                refine W_block ?_
                refine W_rs ?_
                refine st (X.fa fa32_3 rfl) rfl ?_
                refine st (X.ldL rfl hB1 Tryd.underlying30 rfl rfl) rfl ?_
                refine sm rfl rfl ?_
                refine st (X.idxA rfl rfl Tryd.underlying30 siz67 rfl (by omega)) rfl ?_
                refine st (X.ld rfl Tryd.underlying67 rfl (by rw [Nat.mul_one]; exact (hR.bel hbw).cellAt (by omega) hux)) rfl ?_
                refine sa rfl rfl ?_
                refine Wn ?_
                refine tN ?_
                refine W_seq ?_
                refine W_rs ?_
                refine sm rfl rfl ?_
                refine st (X.lenL rfl rfl Tryd.underlying67) rfl ?_
                refine st (X.gtr rfl rfl) rfl ?_
                refine Wn ?_
                refine tN ?_
                refine W_if rfl (fun h47 => ?_) (fun h47 => ?_)
                · first | replace h47 := of_decide_eq_true h47 | replace h47 := of_decide_eq_false (notT h47) | replace h47 := notT h47 | skip
                  refine W_rs ?_
                  refine sa rfl rfl ?_
                  refine Wn ?_
                  refine tN ?_
                  refine W_ret (tR (bR (tR (tR (bR (tR ?_))))))
                  refine (rT rfl rfl ⟨?_, hbw⟩).1
                  have h31 : strErr l = 31 := by unfold strErr; rw [if_pos (by omega)]
                  rw [he, hn0, h31, if_neg (by decide)]
                · first | replace h47 := of_decide_eq_false h47 | replace h47 := of_decide_eq_true (notF h47) | replace h47 := notF h47 | skip
                  refine W_skip ?_
                  refine tN ?_
                  refine W_rs ?_
                  refine sa rfl rfl ?_
                  refine Wn ?_
                  refine tN ?_
                  refine W_block ?_
                  refine W_lp (fun nw4_ lw4_ w4 => ∃ k : Nat, nw4_ = l.length - k ∧ lw4_ = ([(1, .pointer (some ⟨g1, 0, none⟩)), (3, .int .i64 j), (4, .slice au l.length cu), (5, .int .i64 k)] : Env) ∧ (k ≤ l.length) ∧ (strErr l = if strBad (l.drop k) then 1 else 0) ∧ (Blk w4 g1 32 #[.int .i64 m.id, .int .i64 m.rows, .slice ac m.cols.length cc, .slice (some ⟨gs, os_, none⟩) m.strs.length cs]) ∧ (Below w.heap.size w w4)) _ ⟨_, ⟨0, rfl, rfl, by omega, by unfold strErr; rw [if_neg (by omega)]; rfl, hB1, hbw⟩, ⟨rfl, rfl, rfl, rfl, trivial⟩⟩ ?_
                  clear hB1 hbw
                  rintro nw4_ lw4_ w4 ⟨k, rfl, rfl, hk, hse, hB1, hbw⟩
                  have hz_w4 := hbw.size
                  have hlt_hB1_w4 := hB1.lt
                  refine W_seq ?_
                  refine W_rs ?_
                  refine sm rfl rfl ?_
                  refine sm rfl rfl ?_
                  refine st (X.lenL rfl rfl Tryd.underlying67) rfl ?_
                  refine st (X.lss rfl rfl) rfl ?_
                  refine Wn ?_
                  refine tN ?_
                  refine W_if rfl (fun h51 => ?_) (fun h51 => ?_)
                  · first | replace h51 := of_decide_eq_true h51 | replace h51 := of_decide_eq_false (notT h51) | replace h51 := notT h51 | skip
                    obtain ⟨x, hx⟩ : ∃ x, l[k]? = some x := ⟨_, List.getElem?_eq_getElem (by omega)⟩
                    obtain ⟨gu, ou, c', hv, hgu⟩ := (hcu.bel hbw).some_ (by omega)
                    injection hv with e1 _ e3
                    subst e1 e3
                    have hrg := (hcu.bel hbw).rec_ (fun _ _ => rfl) hx
                    have hb0 := strBad_at l k x hx
                    refine W_skip ?_
                    refine tN ?_
                    refine W_seq ?_
                    refine W_block ?_
                    refine W_rs ?_
                    refine sm rfl rfl ?_
                    refine sm rfl rfl ?_
                    refine st (X.idxA rfl rfl Tryd.underlying67 siz69 rfl (by omega)) rfl ?_
                    refine st (X.fa fa69_1 rfl) rfl ?_
                    refine st (X.ld rfl Tryd.underlying3 rfl (hrg 1 _ rfl)) rfl ?_
                    refine st (X.lss rfl rfl) rfl ?_
                    refine sb rfl rfl (fun h60 => ?_) (fun h60 => ?_)
                    · first | replace h60 := of_decide_eq_true h60 | replace h60 := of_decide_eq_false (notT h60) | replace h60 := notT h60 | skip
                      refine gN (g := 60) rfl rfl rfl rfl ?_
                      refine gN (g := 60) rfl rfl rfl rfl ?_
                      refine gN (g := 60) rfl rfl rfl rfl ?_
                      refine gN (g := 60) rfl rfl rfl rfl ?_
                      refine gN (g := 60) rfl rfl rfl rfl ?_
                      refine gN (g := 60) rfl rfl rfl rfl ?_
                      refine st (X.pickT rfl rfl) rfl ?_
                      refine sm rfl rfl ?_
                      refine gN (g := 68) rfl rfl rfl rfl ?_
                      refine gN (g := 68) rfl rfl rfl rfl ?_
                      refine gN (g := 68) rfl rfl rfl rfl ?_
                      refine gN (g := 68) rfl rfl rfl rfl ?_
                      refine gN (g := 68) rfl rfl rfl rfl ?_
                      refine gN (g := 68) rfl rfl rfl rfl ?_
                      refine gN (g := 68) rfl rfl rfl rfl ?_
                      refine gU (g := 75) rfl rfl rfl rfl ?_
                      refine gU (g := 75) rfl rfl rfl rfl ?_
                      refine gU (g := 75) rfl rfl rfl rfl ?_
                      refine gU (g := 75) rfl rfl rfl rfl ?_
                      refine gU (g := 75) rfl rfl rfl rfl ?_
                      refine gN (g := 68) rfl rfl rfl rfl ?_
                      refine st (X.pickT rfl rfl) rfl ?_
                      refine Wn ?_
                      refine tN ?_
                      refine W_yes rfl (rfl) ?_
                      refine W_rs ?_
                      refine sa rfl rfl ?_
                      refine Wn ?_
                      refine tN ?_
                      refine W_ret (bR (tR (tR (bR (bR (tR (tR (bR (tR ?_)))))))))
                      refine (rT rfl rfl ⟨?_, hbw⟩).1
                      have h1 : strErr l = 1 := by rw [hse, hb0, show chkBad x (decide (k + 1 < l.length)) = true from by unfold chkBad; simp; omega]; simp
                      rw [he, hn0, h1, if_neg (by decide)]
                    · first | replace h60 := of_decide_eq_false h60 | replace h60 := of_decide_eq_true (notF h60) | replace h60 := notF h60 | skip
                      refine gY (g := 60) rfl rfl rfl ?_
                      refine sm rfl rfl ?_
                      refine gY (g := 60) rfl rfl rfl ?_
                      refine sm rfl rfl ?_
                      refine gY (g := 60) rfl rfl rfl ?_
                      refine st (X.idxA rfl rfl Tryd.underlying67 siz69 rfl (by omega)) rfl ?_
                      refine gY (g := 60) rfl rfl rfl ?_
                      refine st (X.fa fa69_1 rfl) rfl ?_
                      refine gY (g := 60) rfl rfl rfl ?_
                      refine st (X.ld rfl Tryd.underlying3 rfl (hrg 1 _ rfl)) rfl ?_
                      refine gY (g := 60) rfl rfl rfl ?_
                      refine st (X.gtr rfl rfl) rfl ?_
                      refine st (X.pickF rfl rfl) rfl ?_
                      refine sb rfl rfl (fun h68 => ?_) (fun h68 => ?_)
                      · first | replace h68 := of_decide_eq_true h68 | replace h68 := of_decide_eq_false (notT h68) | replace h68 := notT h68 | skip
                        refine gN (g := 68) rfl rfl rfl rfl ?_
                        refine gN (g := 68) rfl rfl rfl rfl ?_
                        refine gN (g := 68) rfl rfl rfl rfl ?_
                        refine gN (g := 68) rfl rfl rfl rfl ?_
                        refine gN (g := 68) rfl rfl rfl rfl ?_
                        refine gN (g := 68) rfl rfl rfl rfl ?_
                        refine gN (g := 68) rfl rfl rfl rfl ?_
                        refine gU (g := 75) rfl rfl rfl rfl ?_
                        refine gU (g := 75) rfl rfl rfl rfl ?_
                        refine gU (g := 75) rfl rfl rfl rfl ?_
                        refine gU (g := 75) rfl rfl rfl rfl ?_
                        refine gU (g := 75) rfl rfl rfl rfl ?_
                        refine gN (g := 68) rfl rfl rfl rfl ?_
                        refine st (X.pickT rfl rfl) rfl ?_
                        refine Wn ?_
                        refine tN ?_
                        refine W_yes rfl (rfl) ?_
                        refine W_rs ?_
                        refine sa rfl rfl ?_
                        refine Wn ?_
                        refine tN ?_
                        refine W_ret (bR (tR (tR (bR (bR (tR (tR (bR (tR ?_)))))))))
                        refine (rT rfl rfl ⟨?_, hbw⟩).1
                        have h1 : strErr l = 1 := by rw [hse, hb0, show chkBad x (decide (k + 1 < l.length)) = true from by unfold chkBad; simp; omega]; simp
                        rw [he, hn0, h1, if_neg (by decide)]
                      · first | replace h68 := of_decide_eq_false h68 | replace h68 := of_decide_eq_true (notF h68) | replace h68 := notF h68 | skip
                        refine gY (g := 68) rfl rfl rfl ?_
                        refine sm rfl rfl ?_
                        refine gY (g := 68) rfl rfl rfl ?_
                        refine sm rfl rfl ?_
                        refine gY (g := 68) rfl rfl rfl ?_
                        refine st (X.idxA rfl rfl Tryd.underlying67 siz69 rfl (by omega)) rfl ?_
                        refine gY (g := 68) rfl rfl rfl ?_
                        refine st (X.fa fa69_1 rfl) rfl ?_
                        refine gY (g := 68) rfl rfl rfl ?_
                        refine st (X.ld rfl Tryd.underlying3 rfl (hrg 1 _ rfl)) rfl ?_
                        refine gY (g := 68) rfl rfl rfl ?_
                        refine st (X.lss rfl rfl) rfl ?_
                        refine gY (g := 68) rfl rfl rfl ?_
                        refine sb rfl rfl (fun h75 => ?_) (fun h75 => ?_)
                        · first | replace h75 := of_decide_eq_true h75 | replace h75 := of_decide_eq_false (notT h75) | replace h75 := notT h75 | skip
                          refine gY (g := 75) rfl rfl rfl ?_
                          refine sm rfl rfl ?_
                          refine gY (g := 75) rfl rfl rfl ?_
                          refine st (X.add64 rfl rfl (by omega)) rfl ?_
                          refine gY (g := 75) rfl rfl rfl ?_
                          refine sm rfl rfl ?_
                          refine gY (g := 75) rfl rfl rfl ?_
                          refine st (X.lenL rfl rfl Tryd.underlying67) rfl ?_
                          refine gY (g := 75) rfl rfl rfl ?_
                          refine st (X.lss rfl rfl) rfl ?_
                          refine gY (g := 68) rfl rfl rfl ?_
                          refine st (X.pickT rfl rfl) rfl ?_
                          refine st (X.pickF rfl rfl) rfl ?_
                          refine Wn ?_
                          refine tN ?_
                          refine W_if rfl (fun h82 => ?_) (fun h82 => ?_)
                          · first | replace h82 := of_decide_eq_true h82 | replace h82 := of_decide_eq_false (notT h82) | replace h82 := notT h82 | skip
                            refine W_rs ?_
                            refine sa rfl rfl ?_
                            refine Wn ?_
                            refine tN ?_
                            refine W_ret (bR (tR (tR (bR (bR (tR (tR (bR (tR ?_)))))))))
                            refine (rT rfl rfl ⟨?_, hbw⟩).1
                            have h1 : strErr l = 1 := by rw [hse, hb0, show chkBad x (decide (k + 1 < l.length)) = true from by unfold chkBad; simp; omega]; simp
                            rw [he, hn0, h1, if_neg (by decide)]
                          · first | replace h82 := of_decide_eq_false h82 | replace h82 := of_decide_eq_true (notF h82) | replace h82 := notF h82 | skip
                            refine W_skip ?_
                            refine bN ?_
                            refine tN ?_
                            refine W_reg ?_
                            refine sm rfl rfl ?_
                            refine st (X.add64 rfl rfl (by omega)) rfl ?_
                            refine sa rfl rfl ?_
                            refine Wn ?_
                            refine tN ⟨_, _, ?_, ⟨k + 1, rfl, rfl, by omega, by rw [hse, hb0, show chkBad x (decide (k + 1 < l.length)) = false from by unfold chkBad; simp; omega]; simp, hB1, hbw⟩, ⟨rfl, rfl, rfl, rfl, trivial⟩⟩
                            omega
                        · first | replace h75 := of_decide_eq_false h75 | replace h75 := of_decide_eq_true (notF h75) | replace h75 := notF h75 | skip
                          refine gN (g := 75) rfl rfl rfl rfl ?_
                          refine gN (g := 75) rfl rfl rfl rfl ?_
                          refine gN (g := 75) rfl rfl rfl rfl ?_
                          refine gN (g := 75) rfl rfl rfl rfl ?_
                          refine gN (g := 75) rfl rfl rfl rfl ?_
                          refine gY (g := 68) rfl rfl rfl ?_
                          refine st (X.pickF rfl rfl) rfl ?_
                          refine st (X.pickF rfl rfl) rfl ?_
                          refine Wn ?_
                          refine tN ?_
                          refine W_no rfl (rfl) ?_
                          refine W_skip ?_
                          refine bN ?_
                          refine tN ?_
                          refine W_reg ?_
                          refine sm rfl rfl ?_
                          refine st (X.add64 rfl rfl (by omega)) rfl ?_
                          refine sa rfl rfl ?_
                          refine Wn ?_
                          refine tN ⟨_, _, ?_, ⟨k + 1, rfl, rfl, by omega, by rw [hse, hb0, show chkBad x (decide (k + 1 < l.length)) = false from by unfold chkBad; simp; omega]; simp, hB1, hbw⟩, ⟨rfl, rfl, rfl, rfl, trivial⟩⟩
                          omega
                  · first | replace h51 := of_decide_eq_false h51 | replace h51 := of_decide_eq_true (notF h51) | replace h51 := notF h51 | skip
                    have hs0 : strErr l = 0 := by rw [hse, List.drop_of_length_le (by omega)]; rfl
                    refine W_exit (tE (tE (bH ?_)))
                    refine bN ?_
                    refine tN ?_
                    refine W_reg ?_
                    refine sm rfl rfl ?_
                    refine st (X.add64 rfl rfl (by omega)) rfl ?_
                    refine sa rfl rfl ?_
                    refine Wn ?_
                    refine tN ⟨_, _, ?_, ⟨j + 1, rfl, rfl, by omega, by rw [he, hn0, if_pos hs0], hB1, hbw⟩, ⟨rfl, rfl, trivial⟩⟩
                    omega
              · first | replace h37 := of_decide_eq_false h37 | replace h37 := of_decide_eq_true (notF h37) | replace h37 := notF h37 | skip
                refine W_exit (tE (tE (bH ?_)))
                refine tN ?_
                refine W_rs ?_
                refine sa rfl rfl ?_
                refine Wn ?_
                refine tN ?_
                refine W_ret ?_
                refine (rT rfl rfl ⟨?_, hbw⟩).1
                rw [he, List.drop_of_length_le (by omega)]; rfl
end Go.Proofs.YtnagmpnpgekhfaaDoor
