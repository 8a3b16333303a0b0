/- armariumlaw19.Plain. -/
import Derived.Test.YtnagmpnpgekhfaaDoorGen
import Derived.Test.YtnagmpnpgekhfaaDoorManText
import Derived.Test.YtnagmpnpgekhfaaDoorRowsRow
import Derived.Test.YtnagmpnpgekhfaaDoorParts
namespace Go.Proofs.YtnagmpnpgekhfaaDoor
open Go.RowKit
abbrev RStrsAt (w : World) (v : Value) (ls : List (List Chk)) : Prop := RowsAt 2 rcells w v ls
theorem brman (a b : Int) (p : Option Addr) (n c : Nat) (w : World) : (Instr.build 32 #[(0, .int .i64 a), (1, .int .i64 b), (2, .slice p n c)]).run Tryd.prog w = .ok (.agg #[.int .i64 a, .int .i64 b, .slice p n c, .slice none 0 0]) w := by kernel_rfl
theorem brchk (s : List UInt8) (n : Int) (w : World) : (Instr.build 69 #[(0, str s), (1, .int .i64 n)]).run Tryd.prog w = .ok (.agg #[str s, .int .i64 n]) w := by kernel_rfl
set_option maxRecDepth 10000 in
theorem Plain_any (m : Man) (vc vs : Value) (w : World) (hc : ColsAt w vc m.cols) (hs : StrsAt w vs m.strs) (hN1 : m.strs.length ≤ 1000000) (hN2 : ∀ l ∈ m.strs, l.length ≤ 1000000) :
    Calls Tryd.prog 9 #[manV m vc vs] w fun e w' => ∃ vr, e = .returned (.agg #[.int .i64 m.id, .int .i64 m.rows, vc, vr]) ∧ RStrsAt w' vr m.strs ∧ Below w.heap.size w w' := by
  obtain ⟨ac, cc, rfl, hcn, hcc⟩ := hc.1.shape
  obtain ⟨us, hR, hu⟩ := hs
  obtain ⟨sa_, cs, rfl, hsn, hsc⟩ := hR.shape
  refine W_enter (args := [.agg #[.int .i64 m.id, .int .i64 m.rows, .slice ac m.cols.length cc, .slice sa_ m.strs.length cs]]) 61 Tryd.func9 rfl rfl rfl ?_
  refine W_sub [(0, .agg #[.int .i64 m.id, .int .i64 m.rows, .slice ac m.cols.length cc, .slice sa_ m.strs.length cs])] ?_ ⟨rfl, trivial⟩
  have hbw := Below.refl w.heap.size w
  refine W_rs ?_
  refine sboxA rfl rfl (fun g1 w1 hB1 hg1 hb hl1 => ?_)
  replace hbw := bthen hbw hb
  have hz_w1 := hb.size
  clear hb
  refine salA inf32 rfl (fun g2 w2 hB2 hg2 hb hl2 => ?_)
  replace hbw := bthen hbw hb
  replace hB1 := hB1.bel hb
  have hz_w2 := hb.size
  clear hb
  refine Wn ?_
  refine tN ?_
  refine W_rs ?_
  refine st (X.fa fa26_0 rfl) rfl ?_
  refine st (X.ldL rfl hB1 Tryd.underlying3 rfl rfl) rfl ?_
  refine st (X.fa fa26_1 rfl) rfl ?_
  refine st (X.ldL rfl hB1 Tryd.underlying3 rfl rfl) rfl ?_
  refine st (X.fa fa26_2 rfl) rfl ?_
  refine st (X.ldL rfl hB1 Tryd.underlying23 rfl rfl) rfl ?_
  refine st (X.bld rfl (brman _ _ _ _ _ _)) rfl ?_
  refine salA inf32 rfl (fun g3 w3 hB3 hg3 hb hl3 => ?_)
  replace hbw := bthen hbw hb
  replace hB1 := hB1.bel hb
  replace hB2 := hB2.bel hb
  have hz_w3 := hb.size
  clear hb
  refine ssBN rfl rfl hB3 siz32 rfl rfl (fun w4 hB_ hc_ => ?_)
  replace hB3 := hB_
  clear hB_
  replace hB1 := hB1.chg hc_ (by first | (show ¬ _ = _; omega) | (intro k_ hk_; simp [Value.ownBlock] at hk_; subst hk_; show ¬ _ = _; omega))
  replace hB2 := hB2.chg hc_ (by first | (show ¬ _ = _; omega) | (intro k_ hk_; simp [Value.ownBlock] at hk_; subst hk_; show ¬ _ = _; omega))
  replace hbw := bset hbw hc_ (by omega)
  have hz_w4 := hc_.size
  clear hc_
  refine Wn ?_
  refine tN ?_
  refine W_seq ?_
  refine W_rs ?_
  refine sa rfl rfl ?_
  refine Wn ?_
  refine tN ?_
  refine W_block ?_
  refine W_lp (fun nw5_ lw5_ w5 => ∃ i : Nat, ∃ v3 : Value, ∃ ur : List Value, nw5_ = m.strs.length - i ∧ lw5_ = ([(1, .pointer (some ⟨g1, 0, none⟩)), (2, .pointer (some ⟨g2, 0, none⟩)), (3, .pointer (some ⟨g3, 0, none⟩)), (4, .int .i64 i)] : Env) ∧ (i ≤ m.strs.length) ∧ (Blk w5 g1 26 #[.int .i64 m.id, .int .i64 m.rows, .slice ac m.cols.length cc, .slice sa_ m.strs.length cs]) ∧ (Blk w5 g2 32 #[.int .i64 0, .int .i64 0, .slice none 0 0, .slice none 0 0]) ∧ (Blk w5 g3 32 #[.int .i64 m.id, .int .i64 m.rows, .slice ac m.cols.length cc, v3]) ∧ (Row w5 67 1 v3 i ur) ∧ (RowsRow 69 2 rcells w5 ur (m.strs.take i)) ∧ (∀ k, v3.ownBlock = some k → w.heap.size ≤ k) ∧ (Below w.heap.size w w5)) _ ⟨_, ⟨0, .slice none 0 0, [], rfl, rfl, by omega, hB1, hB2, hB3, Row.nil _ _ _, RowsRow.nil, (fun k hk => by simp [Value.ownBlock] at hk), hbw⟩, ⟨rfl, rfl, rfl, rfl, trivial⟩⟩ ?_
  clear hB1 hB2 hB3 hbw
  rintro nw5_ lw5_ w5 ⟨i, v3, ur, rfl, rfl, hi, hB1, hB2, hB3, hRs, hSt, hOs, hbw⟩
  have hz_w5 := hbw.size
  have hlt_hB1_w5 := hB1.lt
  have hlt_hB2_w5 := hB2.lt
  have hlt_hB3_w5 := hB3.lt
  refine W_seq ?_
  refine W_rs ?_
  refine sm rfl rfl ?_
  refine st (X.fa fa26_3 rfl) rfl ?_
  refine st (X.ldL rfl hB1 Tryd.underlying24 rfl rfl) rfl ?_
  refine st (X.lenL rfl rfl Tryd.underlying24) rfl ?_
  refine st (X.lss rfl rfl) rfl ?_
  refine Wn ?_
  refine tN ?_
  refine W_if rfl (fun h18 => ?_) (fun h18 => ?_)
  · first | replace h18 := of_decide_eq_true h18 | replace h18 := of_decide_eq_false (notT h18) | replace h18 := notT h18 | skip
    obtain ⟨l, hl⟩ : ∃ l, m.strs[i]? = some l := ⟨_, List.getElem?_eq_getElem (by omega)⟩
    obtain ⟨u, hux, hcu⟩ := hu i l hl
    obtain ⟨gs, os_, s', hv, hgs⟩ := (hR.bel hbw).some_ (by omega)
    injection hv with e1 _ e3
    subst e1 e3
    obtain ⟨au, cu, rfl, hun, huc⟩ := hcu.1.shape
    have hln := hN2 l (List.mem_of_getElem? hl)
    refine W_skip ?_
    refine tN ?_
    refine W_seq ?_
    refine W_block ?_
    refine W_rs ?_
    refine sa rfl rfl ?_
    refine Wn ?_
    refine tN ?_
    refine W_seq ?_
    refine W_rs ?_
    refine sa rfl rfl ?_
    refine Wn ?_
    refine tN ?_
    refine W_block ?_
    have hSt0 := hSt
    have hbi : Since w5 w5 := ⟨Below.refl _ _⟩
    refine W_lp (fun nw6_ lw6_ w6 => ∃ k : Nat, ∃ v5 : Value, nw6_ = l.length - k ∧ lw6_ = ([(1, .pointer (some ⟨g1, 0, none⟩)), (2, .pointer (some ⟨g2, 0, none⟩)), (3, .pointer (some ⟨g3, 0, none⟩)), (4, .int .i64 i), (5, v5), (6, .int .i64 k)] : Env) ∧ (k ≤ l.length) ∧ (Blk w6 g1 26 #[.int .i64 m.id, .int .i64 m.rows, .slice ac m.cols.length cc, .slice (some ⟨gs, os_, none⟩) m.strs.length cs]) ∧ (Blk w6 g2 32 #[.int .i64 0, .int .i64 0, .slice none 0 0, .slice none 0 0]) ∧ (Blk w6 g3 32 #[.int .i64 m.id, .int .i64 m.rows, .slice ac m.cols.length cc, v3]) ∧ (Row w6 67 1 v3 i ur) ∧ (Row w6 69 2 v5 k ((l.take k).flatMap rcells)) ∧ (∀ k, v5.ownBlock = some k → w5.heap.size ≤ k) ∧ (Since w5 w6) ∧ (Below w.heap.size w w6)) _ ⟨_, ⟨0, .slice none 0 0, rfl, rfl, by omega, hB1, hB2, hB3, hRs, Row.nil _ _ _, (fun k hk => by simp [Value.ownBlock] at hk), hbi, hbw⟩, ⟨rfl, rfl, rfl, rfl, rfl, rfl, trivial⟩⟩ ?_
    clear hB1 hB2 hB3 hRs hbi hbw
    rintro nw6_ lw6_ w6 ⟨k, v5, rfl, rfl, hk, hB1, hB2, hB3, hRs, hRu, hOu, hbi, hbw⟩
    have hz_w6 := hbw.size
    have hlt_hB1_w6 := hB1.lt
    have hlt_hB2_w6 := hB2.lt
    have hlt_hB3_w6 := hB3.lt
    refine W_seq ?_
    refine W_rs ?_
    refine sm rfl rfl ?_
    refine st (X.fa fa26_3 rfl) rfl ?_
    refine st (X.ldL rfl hB1 Tryd.underlying24 rfl rfl) rfl ?_
    refine sm rfl rfl ?_
    refine st (X.idxA rfl rfl Tryd.underlying24 siz51 rfl (by omega)) rfl ?_
    refine st (X.ld rfl Tryd.underlying51 rfl (by rw [Nat.mul_one]; exact (hR.bel hbw).cellAt (by omega) hux)) rfl ?_
    refine st (X.lenL rfl rfl Tryd.underlying51) rfl ?_
    refine st (X.lss rfl rfl) rfl ?_
    refine Wn ?_
    refine tN ?_
    refine W_if rfl (fun h28 => ?_) (fun h28 => ?_)
    · first | replace h28 := of_decide_eq_true h28 | replace h28 := of_decide_eq_false (notT h28) | replace h28 := notT h28 | skip
      obtain ⟨y, hy⟩ : ∃ y, l[k]? = some y := ⟨_, List.getElem?_eq_getElem (by omega)⟩
      obtain ⟨gu, ou, c', hv, hgu⟩ := (hcu.1.bel hbw).some_ (by omega)
      injection hv with e1 _ e3
      subst e1 e3
      have hys := hcu.2 y (List.mem_of_getElem? hy)
      have hbs := hbi.b.size
      refine W_skip ?_
      refine tN ?_
      refine W_seq ?_
      refine W_block ?_
      refine W_drN (fun W_ => Blk W_ g1 26 #[.int .i64 m.id, .int .i64 m.rows, .slice ac m.cols.length cc, .slice (some ⟨gs, os_, none⟩) m.strs.length cs] ∧ W_.cell? ⟨gs, os_ + i, none⟩ = some (.slice (some ⟨gu, ou, none⟩) l.length cu) ∧ W_.rangeAt gu (ou + k * 33) y.cells) [0, 1, 2, 3, 4, 5, 6, 7, 8, 9, 11, 12, 13, 14, 15, 16, 17, 18, 19, 10, 20, 21, 22, 23] [true, true, true, true, true, true, true, true, true, true, true, true, true, true, true, true, true, true, true, false, true, false, false, true] (by kernel_rfl) (by kernel_rfl) (⟨hB1.drew, (hR.bel (bdrew hbw)).cellAt (by omega) hux, (hcu.bel (bdrew hbw)).range hy⟩) ?_
      obtain ⟨w7, hw_⟩ : ∃ w7 : World, w7 = World.drew w6 := ⟨_, rfl⟩
      rw [← hw_]
      have hb : Below w6.heap.size w6 w7 := by rw [hw_]; exact bdrew (Below.refl _ _)
      clear hw_
      have hS := hb
      have hpend := hb
      replace hbw := bthen hbw hb
      replace hB1 := hB1.bel hb
      replace hB2 := hB2.bel hb
      replace hB3 := hB3.bel hb
      replace hbi := hbi.bel hb
      have hz_w7 := hb.size
      clear hb
      refine oY rfl (fun W_ hW_ => (X.move rfl)) rfl ?_
      refine oY rfl (fun W_ hW_ => (X.fa fa26_3 rfl)) rfl ?_
      refine oY rfl (fun W_ hW_ => (X.ldL rfl hW_.1 Tryd.underlying24 rfl rfl)) rfl ?_
      refine oY rfl (fun W_ hW_ => (X.move rfl)) rfl ?_
      refine oY rfl (fun W_ hW_ => (X.idxA rfl rfl Tryd.underlying24 siz51 rfl (by omega))) rfl ?_
      refine oY rfl (fun W_ hW_ => (X.ld rfl Tryd.underlying51 rfl (by rw [Nat.mul_one]; exact hW_.2.1))) rfl ?_
      refine oY rfl (fun W_ hW_ => (X.move rfl)) rfl ?_
      refine oY rfl (fun W_ hW_ => (X.idxA rfl rfl Tryd.underlying51 siz55 rfl (by omega))) rfl ?_
      refine oY rfl (fun W_ hW_ => (X.fa fa55_0 rfl)) rfl ?_
      refine oY rfl (fun W_ hW_ => (X.ldN (cs := y.sum.map bv) rfl Tryd.underlying53 rfl (by rw [List.length_map, hys]; exact siz53) (sumRange hW_.2.2))) rfl ?_
      refine oY rfl (fun W_ hW_ => (X.fa fa26_3 rfl)) rfl ?_
      refine oY rfl (fun W_ hW_ => (X.ldL rfl hW_.1 Tryd.underlying24 rfl rfl)) rfl ?_
      refine oY rfl (fun W_ hW_ => (X.move rfl)) rfl ?_
      refine oY rfl (fun W_ hW_ => (X.idxA rfl rfl Tryd.underlying24 siz51 rfl (by omega))) rfl ?_
      refine oY rfl (fun W_ hW_ => (X.ld rfl Tryd.underlying51 rfl (by rw [Nat.mul_one]; exact hW_.2.1))) rfl ?_
      refine oY rfl (fun W_ hW_ => (X.move rfl)) rfl ?_
      refine oY rfl (fun W_ hW_ => (X.idxA rfl rfl Tryd.underlying51 siz55 rfl (by omega))) rfl ?_
      refine oY rfl (fun W_ hW_ => (X.fa fa55_1 rfl)) rfl ?_
      refine oY rfl (fun W_ hW_ => (X.ld rfl Tryd.underlying3 rfl (hW_.2.2 32 (.int .i64 y.len) (by simp [Chk.cells, hys])))) rfl ?_
      refine oL rfl (fun Q_ hQ_ hP_ => ?_)
      refine sc _ Tryd.func26 rfl (by kernel_rfl) rfl rfl ((Text_any y.sum _ hys).mono ?_)
      rintro e_ w8 ⟨rfl, hb⟩
      refine cR ?_
      replace hpend := bthen hpend hb
      replace hbw := bthen hbw hb
      replace hB1 := hB1.bel hb
      replace hB2 := hB2.bel hb
      replace hB3 := hB3.bel hb
      replace hbi := hbi.bel hb
      have hz_w8 := hb.size
      clear hb
      refine Wn (hQ_ _ _ (⟨hB1, (hR.bel hbw).cellAt (by omega) hux, (hcu.bel hbw).range hy⟩) ?_)
      clear hQ_ hP_ Q_
      refine oY rfl (fun W_ hW_ => (X.bld rfl (brchk _ _ _))) rfl ?_
      refine oL rfl (fun Q_ hQ_ hP_ => ?_)
      refine sbs1 rfl Tryd.underlying67 inf69 rfl rfl (by decide) (by decide) rfl (fun g52 w9 hR52 hg52 hb => ?_)
      replace hpend := bthen hpend hb
      replace hbw := bthen hbw hb
      replace hB1 := hB1.bel hb
      replace hB2 := hB2.bel hb
      replace hB3 := hB3.bel hb
      replace hbi := hbi.bel hb
      have hz_w9 := hb.size
      clear hb
      have hl52 := hR52.blt (by decide)
      refine Wn (hQ_ _ _ (⟨hB1, (hR.bel hbw).cellAt (by omega) hux, (hcu.bel hbw).range hy⟩) ?_)
      clear hQ_ hP_ Q_
      refine oL rfl (fun Q_ hQ_ hP_ => ?_)
      replace hRs := hRs.bel hpend
      replace hRu := hRu.bel hpend
      clear hpend
      refine sapp rfl rfl Tryd.underlying67 inf69 rfl (by decide) hRu (hR52.src Tryd.underlying67 (rcells_one y)) (by simp only [maxLen]; omega) (by omega) rfl (fun v5' w10 hRu' hC hv' => ?_)
      replace hB1 := hB1.chg hC (hRu.ne_ hB1 (by decide))
      replace hB2 := hB2.chg hC (hRu.ne_ hB2 (by decide))
      replace hB3 := hB3.chg hC (hRu.ne_ hB3 (by decide))
      replace hRs := hRs.chg hC (fun k hk => hRs.apart_ hRu (by decide) k hk)
      replace hbi := Since.mk (bapp hbi.b hC hOu)
      replace hbw := bapp hbw hC (fun k hk => by have := hOu k hk; omega)
      replace hOu := own_next hv' hOu (by omega)
      replace hRu := hRu'
      clear hC hRu' hv'
      refine Wn (hQ_ _ _ (⟨hB1, (hR.bel hbw).cellAt (by omega) hux, (hcu.bel hbw).range hy⟩) ?_)
      clear hQ_ hP_ Q_
      refine oY rfl (fun W_ hW_ => (X.assign rfl)) rfl ?_
      refine oN ?_
      refine nN ?_
      refine bN ?_
      refine tN ?_
      refine W_reg ?_
      refine sm rfl rfl ?_
      refine st (X.add64 rfl rfl (by omega)) rfl ?_
      refine sa rfl rfl ?_
      refine Wn ?_
      refine tN ⟨_, _, ?_, ⟨k + 1, v5', rfl, rfl, by omega, hB1, hB2, hB3, hRs, by rw [take_next' hy, List.flatMap_append]; exact hRu, hOu, hbi, hbw⟩, ⟨rfl, rfl, rfl, rfl, rfl, rfl, trivial⟩⟩
      omega
    · first | replace h28 := of_decide_eq_false h28 | replace h28 := of_decide_eq_true (notF h28) | replace h28 := notF h28 | skip
      obtain rfl : k = l.length := by omega
      rw [List.take_length] at hRu
      obtain ⟨a5, c5, rfl, hn5, hc5⟩ := hRu.shape
      have hSt := hSt0.bel hbi.b
      refine W_exit (tE (tE (bH ?_)))
      refine tN ?_
      refine W_reg ?_
      refine st (X.fa fa32_3 rfl) rfl ?_
      refine st (X.ldL rfl hB3 Tryd.underlying30 rfl rfl) rfl ?_
      refine sm rfl rfl ?_
      refine sbs1 rfl Tryd.underlying30 inf67 rfl rfl (by decide) (by decide) rfl (fun g57 w11 hR57 hg57 hb => ?_)
      have hpend := hb
      replace hbw := bthen hbw hb
      replace hB1 := hB1.bel hb
      replace hB2 := hB2.bel hb
      replace hB3 := hB3.bel hb
      replace hbi := hbi.bel hb
      have hz_w11 := hb.size
      clear hb
      have hl57 := hR57.blt (by decide)
      replace hRs := hRs.bel hpend
      replace hRu := hRu.bel hpend
      replace hSt := hSt.bel hpend
      clear hpend
      refine sapp rfl rfl Tryd.underlying30 inf67 rfl (by decide) hRs (hR57.src Tryd.underlying30 (by intro z hz; simp [Value.cells] at hz; subst hz; rfl)) (by simp only [maxLen]; omega) (by omega) rfl (fun v3' w12 hRs' hC hv' => ?_)
      replace hSt := hSt.chgR hC hRs (by decide)
      replace hRu := hRu.chg hC (fun k hk => hRu.apart_ hRs (by decide) k hk)
      replace hB1 := hB1.chg hC (hRs.ne_ hB1 (by decide))
      replace hB2 := hB2.chg hC (hRs.ne_ hB2 (by decide))
      replace hB3 := hB3.chg hC (hRs.ne_ hB3 (by decide))
      replace hbw := bapp hbw hC hOs
      replace hOs := own_next hv' hOs (by omega)
      have hz_36 := hC.size
      replace hRs := hRs'
      clear hC hRs' hv'
      refine st (X.fa fa32_3 rfl) rfl ?_
      refine ssB rfl rfl hB3 siz30 hRs.one (by simp) (fun w13 hB_ hC => ?_)
      replace hRs := hRs.chg hC (fun k hk e => hRs.ne_ hB3 (by decide) (by rw [← e]; exact hk))
      replace hRu := hRu.chg hC (fun k hk e => hRu.ne_ hB3 (by decide) (by rw [← e]; exact hk))
      replace hSt := hSt.chgB hC hB3 (by decide)
      replace hB1 := hB1.chg hC (by show ¬ _ = _; omega)
      replace hB2 := hB2.chg hC (by show ¬ _ = _; omega)
      replace hbw := bset hbw hC (by omega)
      have hz_37 := hC.size
      replace hB3 := hB_
      clear hC hB_
      replace hSt := hSt.snoc hRu
      refine Wn ?_
      refine bN ?_
      refine tN ?_
      refine W_reg ?_
      refine sm rfl rfl ?_
      refine st (X.add64 rfl rfl (by omega)) rfl ?_
      refine sa rfl rfl ?_
      refine Wn ?_
      refine tN ⟨_, _, ?_, ⟨i + 1, v3', ur ++ [.slice a5 l.length c5], rfl, rfl, by omega, hB1, hB2, hB3, hRs, by rw [take_next' hl]; exact hSt, hOs, hbw⟩, ⟨rfl, rfl, rfl, rfl, trivial⟩⟩
      omega
  · first | replace h18 := of_decide_eq_false h18 | replace h18 := of_decide_eq_true (notF h18) | replace h18 := notF h18 | skip
    obtain rfl : i = m.strs.length := by omega
    rw [List.take_length] at hSt
    have ho3 := hRs.one
    refine W_exit (tE (tE (bH ?_)))
    refine tN ?_
    refine W_rs ?_
    refine st (X.ldBN rfl hB3 Tryd.underlying32 rfl siz32) rfl ?_
    refine ssBN rfl rfl hB2 siz32 rfl (man_one rfl ho3) (fun w14 hB_ hC => ?_)
    replace hSt := hSt.chgB hC hB2 (by decide)
    replace hRs := hRs.chg hC (fun k hk e => hRs.ne_ hB2 (by decide) (by rw [← e]; exact hk))
    replace hbw := bset hbw hC (by omega)
    replace hB2 := hB_
    clear hC hB_
    refine Wn ?_
    refine tN ?_
    refine W_ret ?_
    exact (rC rfl rfl hB2 Tryd.underlying32 rfl siz32 ⟨_, rfl, hSt.at_ hRs, hbw⟩).1
end Go.Proofs.YtnagmpnpgekhfaaDoor
