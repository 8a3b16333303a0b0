/- armariumref17: Bytes, Pack; the law RefsPacks. -/
import Derived.Test.YtnagmpnpgekhfaaRefNet
namespace Go.Proofs.Ytnagmpnpgekhfaa
open Go.RowKit
set_option maxRecDepth 10000 in
theorem RBytes_any (v : Value) (l : List Chk) (w : World) (h : RAt w v l) (hl : l.length ≤ 100000) (h32 : ∀ c ∈ l, c.sum.length = 32) (hn : ∀ c ∈ l, -4294967296 ≤ c.len ∧ c.len ≤ 9000000000000000000) :
    Calls Try.prog 33 #[v] w fun e w' => e = .returned (str (packedM l)) ∧ Below w.heap.size w w' := by
  obtain ⟨a, cp, rfl, hnn, hcp⟩ := h.shape
  refine W_enter (args := [.slice a l.length cp]) 35 Try.func33 rfl rfl rfl ?_
  refine W_sub [(0, .slice a l.length cp)] ?_ ⟨rfl, trivial⟩
  have hbw := Below.refl w.heap.size w
  refine W_rs ?_
  refine sa rfl rfl ?_
  refine Wn ?_
  refine tN ?_
  refine W_rs ?_
  refine sm rfl rfl ?_
  refine st (X.lenL rfl rfl Try.underlying29) rfl ?_
  refine sc _ Try.func67 rfl (by kernel_rfl) rfl rfl ((Num_any l.length _ (by omega) (by omega)).mono ?_)
  rintro e_ w1 ⟨rfl, hb⟩
  refine cR ?_
  replace hbw := bthen hbw hb
  have hz_w1 := hb.size
  clear hb
  refine sa rfl rfl ?_
  refine Wn ?_
  refine tN ?_
  refine W_seq ?_
  refine W_rs ?_
  refine sa rfl rfl ?_
  refine Wn ?_
  refine tN ?_
  refine W_block ?_
  refine W_lp (fun nw2_ lw2_ w2 => ∃ j : Nat, ∃ s : List UInt8, nw2_ = l.length - j ∧ lw2_ = ([(0, .slice a l.length cp), (3, str s), (4, .int .i64 j)] : Env) ∧ (j ≤ l.length) ∧ (s = four (l.length : Nat) ++ (l.take j).flatMap chkBytes) ∧ (Below w.heap.size w w2)) _ ⟨_, ⟨0, four (l.length : Nat), rfl, rfl, by omega, by simp, hbw⟩, ⟨rfl, rfl, rfl, trivial⟩⟩ ?_
  clear hbw
  rintro nw2_ lw2_ w2 ⟨j, s, rfl, rfl, hj, hs, hbw⟩
  have hz_w2 := hbw.size
  refine W_seq ?_
  refine W_rs ?_
  refine sm rfl rfl ?_
  refine sm rfl rfl ?_
  refine st (X.lenL rfl rfl Try.underlying29) rfl ?_
  refine st (X.lss rfl rfl) rfl ?_
  refine Wn ?_
  refine tN ?_
  refine W_if rfl (fun h12 => ?_) (fun h12 => ?_)
  · first | replace h12 := of_decide_eq_true h12 | replace h12 := of_decide_eq_false (notT h12) | replace h12 := notT h12 | skip
    obtain ⟨x, hx⟩ : ∃ x, l[j]? = some x := ⟨_, List.getElem?_eq_getElem (by omega)⟩
    obtain ⟨g1, o1, c', hv, hg1⟩ := (h.bel hbw).some_ (by omega)
    injection hv with e1 _ e3
    subst e1 e3
    have hxs := h32 x (List.mem_of_getElem? hx)
    have hxn := hn x (List.mem_of_getElem? hx)
    have hrg := RAt.range (h.bel hbw) hx
    have hfl0 : ((l.take j).flatMap chkBytes).length = j * 36 := by rw [flat_length chkBytes 36 _ (fun c hc => by simp [chkBytes, h32 c (List.mem_of_mem_take hc), four_length]), List.length_take]; congr 1; omega
    have hsl : s.length = 4 + j * 36 := by rw [hs, List.length_append, four_length, hfl0]
    refine W_skip ?_
    refine tN ?_
    refine W_seq ?_
    refine W_block ?_
    refine W_rs ?_
    refine sm rfl rfl ?_
    refine sm rfl rfl ?_
    refine st (X.idxA rfl rfl Try.underlying29 siz107 rfl (by omega)) rfl ?_
    refine st (X.fa fa107_1 rfl) rfl ?_
    refine st (X.ld rfl Try.underlying3 rfl (hrg 1 _ rfl)) rfl ?_
    refine sa rfl rfl ?_
    refine Wn ?_
    refine tN ?_
    refine W_seq ?_
    refine W_rs ?_
    refine sm rfl rfl ?_
    refine st (X.lss rfl rfl) rfl ?_
    refine Wn ?_
    refine tN ?_
    refine W_if rfl (fun h21 => ?_) (fun h21 => ?_)
    · first | replace h21 := of_decide_eq_true h21 | replace h21 := of_decide_eq_false (notT h21) | replace h21 := notT h21 | skip
      obtain ⟨q, hq⟩ : ∃ q, x.len + 4294967296 = q := ⟨_, rfl⟩
      have hq0 : four q = four x.len := by rw [← hq]; exact four_neg _
      refine W_reg ?_
      refine sm rfl rfl ?_
      refine st (X.add rfl rfl (show IntKind.i64.wrap (x.len + 4294967296) = q by rw [w64 (by omega), hq])) rfl ?_
      refine sa rfl rfl ?_
      refine Wn ?_
      refine tN ?_
      refine W_drN (fun W_ => W_.rangeAt g1 (o1 + j * 2) (rcells x)) [0, 1, 2, 3, 4, 5, 6, 7, 8, 9, 10] [true, true, true, true, true, true, true, true, false, true, true] (by kernel_rfl) (by kernel_rfl) (RAt.range (h.bel (bdrew hbw)) hx) ?_
      obtain ⟨w3, hw_⟩ : ∃ w3 : World, w3 = World.drew w2 := ⟨_, rfl⟩
      rw [← hw_]
      have hb : Below w2.heap.size w2 w3 := by rw [hw_]; exact bdrew (Below.refl _ _)
      clear hw_
      have hS := hb
      replace hbw := bthen hbw hb
      have hz_w3 := hb.size
      clear hb
      refine oY rfl (fun W_ hW_ => (X.move rfl)) rfl ?_
      refine oY rfl (fun W_ hW_ => (X.move rfl)) rfl ?_
      refine oY rfl (fun W_ hW_ => (X.move rfl)) rfl ?_
      refine oY rfl (fun W_ hW_ => (X.idxA rfl rfl Try.underlying29 siz107 rfl (by omega))) rfl ?_
      refine oY rfl (fun W_ hW_ => (X.fa fa107_0 rfl)) rfl ?_
      refine oY rfl (fun W_ hW_ => (X.ld rfl Try.underlying9 rfl (hW_ 0 _ rfl))) rfl ?_
      refine oY rfl (fun W_ hW_ => (X.cat rfl rfl (by rw [hsl, hxs]; omega))) rfl ?_
      refine oY rfl (fun W_ hW_ => (X.move rfl)) rfl ?_
      refine oL rfl (fun Q_ hQ_ hP_ => ?_)
      refine sc _ Try.func67 rfl (by kernel_rfl) rfl rfl ((Num_any q _ (by omega) (by omega)).mono ?_)
      rintro e_ w4 ⟨rfl, hb⟩
      refine cR ?_
      replace hbw := bthen hbw hb
      have hz_w4 := hb.size
      clear hb
      refine Wn (hQ_ _ _ (RAt.range (h.bel hbw) hx) ?_)
      clear hQ_ hP_ Q_
      refine oY rfl (fun W_ hW_ => (X.cat rfl rfl (by rw [List.length_append, hsl, hxs, four_length]; omega))) rfl ?_
      refine oY rfl (fun W_ hW_ => (X.assign rfl)) rfl ?_
      refine oN ?_
      refine nN ?_
      refine bN ?_
      refine tN ?_
      refine W_reg ?_
      refine sm rfl rfl ?_
      refine st (X.add64 rfl rfl (by omega)) rfl ?_
      refine sa rfl rfl ?_
      refine Wn ?_
      refine tN ⟨_, _, ?_, ⟨j + 1, s ++ x.sum ++ four q, rfl, rfl, by omega, by rw [take_next' hx, List.flatMap_append, hs, hq0]; simp [chkBytes], hbw⟩, ⟨rfl, rfl, rfl, trivial⟩⟩
      omega
    · first | replace h21 := of_decide_eq_false h21 | replace h21 := of_decide_eq_true (notF h21) | replace h21 := notF h21 | skip
      obtain ⟨q, hq⟩ : ∃ q, x.len = q := ⟨_, rfl⟩
      have hq0 : four q = four x.len := by rw [← hq]
      rw [hq]
      refine W_skip ?_
      refine tN ?_
      refine W_drN (fun W_ => W_.rangeAt g1 (o1 + j * 2) (rcells x)) [0, 1, 2, 3, 4, 5, 6, 7, 8, 9, 10] [true, true, true, true, true, true, true, true, false, true, true] (by kernel_rfl) (by kernel_rfl) (RAt.range (h.bel (bdrew hbw)) hx) ?_
      obtain ⟨w5, hw_⟩ : ∃ w5 : World, w5 = World.drew w2 := ⟨_, rfl⟩
      rw [← hw_]
      have hb : Below w2.heap.size w2 w5 := by rw [hw_]; exact bdrew (Below.refl _ _)
      clear hw_
      have hS := hb
      replace hbw := bthen hbw hb
      have hz_w5 := hb.size
      clear hb
      refine oY rfl (fun W_ hW_ => (X.move rfl)) rfl ?_
      refine oY rfl (fun W_ hW_ => (X.move rfl)) rfl ?_
      refine oY rfl (fun W_ hW_ => (X.move rfl)) rfl ?_
      refine oY rfl (fun W_ hW_ => (X.idxA rfl rfl Try.underlying29 siz107 rfl (by omega))) rfl ?_
      refine oY rfl (fun W_ hW_ => (X.fa fa107_0 rfl)) rfl ?_
      refine oY rfl (fun W_ hW_ => (X.ld rfl Try.underlying9 rfl (hW_ 0 _ rfl))) rfl ?_
      refine oY rfl (fun W_ hW_ => (X.cat rfl rfl (by rw [hsl, hxs]; omega))) rfl ?_
      refine oY rfl (fun W_ hW_ => (X.move rfl)) rfl ?_
      refine oL rfl (fun Q_ hQ_ hP_ => ?_)
      refine sc _ Try.func67 rfl (by kernel_rfl) rfl rfl ((Num_any q _ (by omega) (by omega)).mono ?_)
      rintro e_ w6 ⟨rfl, hb⟩
      refine cR ?_
      replace hbw := bthen hbw hb
      have hz_w6 := hb.size
      clear hb
      refine Wn (hQ_ _ _ (RAt.range (h.bel hbw) hx) ?_)
      clear hQ_ hP_ Q_
      refine oY rfl (fun W_ hW_ => (X.cat rfl rfl (by rw [List.length_append, hsl, hxs, four_length]; omega))) rfl ?_
      refine oY rfl (fun W_ hW_ => (X.assign rfl)) rfl ?_
      refine oN ?_
      refine nN ?_
      refine bN ?_
      refine tN ?_
      refine W_reg ?_
      refine sm rfl rfl ?_
      refine st (X.add64 rfl rfl (by omega)) rfl ?_
      refine sa rfl rfl ?_
      refine Wn ?_
      refine tN ⟨_, _, ?_, ⟨j + 1, s ++ x.sum ++ four q, rfl, rfl, by omega, by rw [take_next' hx, List.flatMap_append, hs, hq0]; simp [chkBytes], hbw⟩, ⟨rfl, rfl, rfl, trivial⟩⟩
      omega
  · first | replace h12 := of_decide_eq_false h12 | replace h12 := of_decide_eq_true (notF h12) | replace h12 := notF h12 | skip
    obtain rfl : j = l.length := by omega
    rw [List.take_length] at hs
    refine W_exit (tE (tE (bH ?_)))
    refine tN ?_
    refine W_rs ?_
    refine sm rfl rfl ?_
    refine sa rfl rfl ?_
    refine Wn ?_
    refine tN ?_
    refine W_ret ?_
    exact (rT rfl rfl ⟨by rw [show s = packedM l from hs], hbw⟩).1
theorem RPack_any (v : Value) (l : List Chk) (w : World) (h : RAt w v l) (h32 : ∀ c ∈ l, c.sum.length = 32) : Calls Try.prog 20 #[v] w fun e w' => e = .returned (.tuple #[str (okOf [] (packM l)), .int .i64 (errO (packM l))]) ∧ Below w.heap.size w w' := by
  refine W_enter (args := [v]) 17 Try.func20 rfl rfl rfl ?_
  refine W_sub [(0, v)] ?_ ⟨rfl, trivial⟩
  have hbw := Below.refl w.heap.size w
  refine W_rs ?_
  refine sa rfl rfl ?_
  refine sa rfl rfl ?_
  refine Wn ?_
  refine tN ?_
  refine W_rs ?_
  refine sm rfl rfl ?_
  refine sc _ Try.func64 rfl (by kernel_rfl) rfl rfl ((rmay_any v l _ (Reads.bel h hbw)).mono ?_)
  rintro e_ w1 ⟨rfl, hb⟩
  refine cR ?_
  replace hbw := bthen hbw hb
  have hz_w1 := hb.size
  clear hb
  refine sa rfl rfl ?_
  refine Wn ?_
  refine tN ?_
  refine W_seq ?_
  refine W_rs ?_
  refine sm rfl rfl ?_
  refine st (X.neq rfl rfl) rfl ?_
  refine Wn ?_
  refine tN ?_
  refine W_if rfl (fun h8 => ?_) (fun h8 => ?_)
  · first | replace h8 := of_decide_eq_true h8 | replace h8 := of_decide_eq_false (notT h8) | replace h8 := notT h8 | skip
    refine W_rs ?_
    refine sm rfl rfl ?_
    refine sa rfl rfl ?_
    refine sa rfl rfl ?_
    refine Wn ?_
    refine tN ?_
    refine W_ret (tR ?_)
    refine (rTT rfl rfl rfl ⟨?_, hbw⟩).1
    rw [show packM l = .error (mayM l) by unfold packM; rw [if_pos h8]]; rfl
  · first | replace h8 := of_decide_eq_false h8 | replace h8 := of_decide_eq_true (notF h8) | replace h8 := notF h8 | skip
    have h80 : mayM l = 0 := Classical.not_not.1 h8
    obtain ⟨htm, htl⟩ := may_tame h80
    have hmo := (mayM_ok h80).2
    refine W_skip ?_
    refine tN ?_
    refine W_seq ?_
    refine W_rs ?_
    refine sm rfl rfl ?_
    refine sc _ Try.func24 rfl (by kernel_rfl) rfl rfl ((RNet_any v l _ (Reads.bel h hbw) (by omega) htm).mono ?_)
    rintro e_ w2 ⟨v', rfl, hR, hO, hb⟩
    refine cR ?_
    replace hbw := bthen hbw hb
    have hz_w2 := hb.size
    clear hb
    refine sm rfl rfl ?_
    refine sc _ Try.func65 rfl (by kernel_rfl) rfl rfl ((RSame_any v' v (netM l) l _ hR.reads (Reads.bel h hbw)).mono ?_)
    rintro e_ w3 ⟨rfl, hb⟩
    refine cR ?_
    have hpend := hb
    replace hbw := bthen hbw hb
    have hz_w3 := hb.size
    clear hb
    refine st (X.not rfl) rfl ?_
    refine Wn ?_
    refine tN ?_
    refine W_if rfl (fun h14 => ?_) (fun h14 => ?_)
    · first | replace h14 := of_decide_eq_true h14 | replace h14 := of_decide_eq_false (notT h14) | replace h14 := notT h14 | skip
      refine W_rs ?_
      refine sa rfl rfl ?_
      refine sa rfl rfl ?_
      refine Wn ?_
      refine tN ?_
      replace hR := hR.bel hpend
      clear hpend
      refine W_ret (tR ?_)
      refine (rTT rfl rfl rfl ⟨?_, hbw⟩).1
      rw [show packM l = .error 18 by unfold packM; rw [if_neg h8, if_neg h14]]; rfl
    · first | replace h14 := of_decide_eq_false h14 | replace h14 := of_decide_eq_true (notF h14) | replace h14 := notF h14 | skip
      refine W_skip ?_
      refine tN ?_
      refine W_rs ?_
      refine sm rfl rfl ?_
      refine sc _ Try.func33 rfl (by kernel_rfl) rfl rfl ((RBytes_any v l _ (Reads.bel h hbw) (by omega) h32 (fun c hc => by have := hmo c hc; omega)).mono ?_)
      rintro e_ w4 ⟨rfl, hb⟩
      refine cR ?_
      replace hpend := bthen hpend hb
      replace hbw := bthen hbw hb
      have hz_w4 := hb.size
      clear hb
      refine sa rfl rfl ?_
      refine sa rfl rfl ?_
      refine Wn ?_
      refine tN ?_
      replace hR := hR.bel hpend
      clear hpend
      refine W_ret ?_
      refine (rTT rfl rfl rfl ⟨?_, hbw⟩).1
      rw [show packM l = .ok (packedM l) by unfold packM; rw [if_neg h8, if_pos h14]]; rfl
set_option maxRecDepth 10000 in
theorem RefsPacks_walk (w : World) (v : Value) (l : List Chk) (h : ChksAt w v l) : Calls Try.prog 3 #[v] w fun e w' => e = .returned (.bool true) ∧ Below w.heap.size w w' := by
  refine W_enter (args := [v]) 41 Try.func3 rfl rfl rfl ?_
  refine W_sub [(0, v)] ?_ ⟨rfl, trivial⟩
  have hbw := Below.refl w.heap.size w
  refine W_rs ?_
  refine sa rfl rfl ?_
  refine Wn ?_
  refine tN ?_
  refine W_seq ?_
  refine W_rs ?_
  refine sm rfl rfl ?_
  refine sc _ Try.func17 rfl (by kernel_rfl) rfl rfl ((small_any v l _ (h.bel hbw)).mono ?_)
  rintro e_ w1 ⟨rfl, hb⟩
  refine cR ?_
  replace hbw := bthen hbw hb
  have hz_w1 := hb.size
  clear hb
  refine st (X.not rfl) rfl ?_
  refine Wn ?_
  refine tN ?_
  refine W_if rfl (fun h9 => ?_) (fun h9 => ?_)
  · first | replace h9 := of_decide_eq_true h9 | replace h9 := of_decide_eq_false (notT h9) | replace h9 := notT h9 | skip
    refine W_rs ?_
    refine sc _ Try.func18 rfl (by kernel_rfl) rfl rfl ((awake_any _).mono ?_)
    rintro e_ w2 ⟨rfl, hb⟩
    refine cR ?_
    replace hbw := bthen hbw hb
    have hz_w2 := hb.size
    clear hb
    refine sa rfl rfl ?_
    refine Wn ?_
    refine tN ?_
    refine W_ret (tR ?_)
    exact (rT rfl rfl ⟨rfl, hbw⟩).1
  · first | replace h9 := of_decide_eq_false h9 | replace h9 := of_decide_eq_true (notF h9) | replace h9 := notF h9 | skip
    obtain ⟨htm, htl⟩ := smallM_ok h9
    refine W_skip ?_
    refine tN ?_
    refine W_rs ?_
    refine sm rfl rfl ?_
    refine sc _ Try.func19 rfl (by kernel_rfl) rfl rfl ((Pack_any v l _ (h.bel hbw)).mono ?_)
    rintro e_ w3 ⟨rfl, hb⟩
    refine cR ?_
    replace hbw := bthen hbw hb
    have hz_w3 := hb.size
    clear hb
    refine sm rfl rfl ?_
    refine st (X.ext rfl rfl) rfl ?_
    refine st (X.ext rfl rfl) rfl ?_
    refine sa rfl rfl ?_
    refine sa rfl rfl ?_
    refine Wn ?_
    refine tN ?_
    refine W_rs ?_
    refine sm rfl rfl ?_
    refine sc _ Try.func21 rfl (by kernel_rfl) rfl rfl ((Plain_any v l _ (h.bel hbw) (by omega)).mono ?_)
    rintro e_ w4 ⟨vp, rfl, hP, hOp, hb⟩
    refine cR ?_
    replace hbw := bthen hbw hb
    have hz_w4 := hb.size
    clear hb
    refine sc _ Try.func20 rfl (by kernel_rfl) rfl rfl ((RPack_any vp l _ hP.reads h.2).mono ?_)
    rintro e_ w5 ⟨rfl, hb⟩
    refine cR ?_
    replace hbw := bthen hbw hb
    have hz_w5 := hb.size
    clear hb
    refine sm rfl rfl ?_
    refine st (X.ext rfl rfl) rfl ?_
    refine st (X.ext rfl rfl) rfl ?_
    refine sa rfl rfl ?_
    refine sa rfl rfl ?_
    refine Wn ?_
    refine tN ?_
    refine W_rs ?_
    refine sm rfl rfl ?_
    refine sm rfl rfl ?_
    refine st (X.eqS rfl rfl) rfl ?_
    refine sbY rfl (by simp) rfl ?_
    refine gY (g := 25) rfl rfl rfl ?_
    refine sm rfl rfl ?_
    refine gY (g := 25) rfl rfl rfl ?_
    refine sm rfl rfl ?_
    refine gY (g := 25) rfl rfl rfl ?_
    refine st (X.eql rfl rfl) rfl ?_
    refine st (X.pickT rfl rfl) rfl ?_
    refine sbY rfl (by simp) rfl ?_
    refine gY (g := 30) rfl rfl rfl ?_
    refine sm rfl rfl ?_
    refine gY (g := 30) rfl rfl rfl ?_
    refine sc _ Try.func23 rfl (by kernel_rfl) rfl rfl ((Net_any v l _ (h.bel hbw) (by omega) htm).mono ?_)
    rintro e_ w6 ⟨vn, rfl, hN, hOn, hb⟩
    refine cR ?_
    replace hbw := bthen hbw hb
    have hz_w6 := hb.size
    clear hb
    refine gY (g := 30) rfl rfl rfl ?_
    refine sm rfl rfl ?_
    refine gY (g := 30) rfl rfl rfl ?_
    refine sc _ Try.func21 rfl (by kernel_rfl) rfl rfl ((Plain_any v l _ (h.bel hbw) (by omega)).mono ?_)
    rintro e_ w7 ⟨vq, rfl, hQ, hOq, hb⟩
    refine cR ?_
    have hpend := hb
    replace hbw := bthen hbw hb
    have hz_w7 := hb.size
    clear hb
    refine gY (g := 30) rfl rfl rfl ?_
    refine sc _ Try.func24 rfl (by kernel_rfl) rfl rfl ((RNet_any vq l _ hQ.reads (by omega) htm).mono ?_)
    rintro e_ w8 ⟨vr, rfl, hR, hOr, hb⟩
    refine cR ?_
    replace hpend := bthen hpend hb
    replace hbw := bthen hbw hb
    have hz_w8 := hb.size
    clear hb
    refine gY (g := 30) rfl rfl rfl ?_
    replace hN := hN.bel hpend
    clear hpend
    refine sc _ Try.func22 rfl (by kernel_rfl) rfl rfl ((Same_any vn vr (netM l) (netM l) _ ⟨hN.reads, netM_sum32 h.2⟩ (by have := netM_length l; omega) hR.reads).mono ?_)
    rintro e_ w9 ⟨rfl, hb⟩
    refine cR ?_
    have hpend := hb
    replace hbw := bthen hbw hb
    have hz_w9 := hb.size
    clear hb
    refine st (X.pickT rfl rfl) rfl ?_
    refine sbY rfl (by simp) rfl ?_
    refine gY (g := 38) rfl rfl rfl ?_
    refine sc _ Try.func18 rfl (by kernel_rfl) rfl rfl ((awake_any _).mono ?_)
    rintro e_ w10 ⟨rfl, hb⟩
    refine cR ?_
    replace hpend := bthen hpend hb
    replace hbw := bthen hbw hb
    have hz_w10 := hb.size
    clear hb
    refine st (X.pickT rfl rfl) rfl ?_
    refine sa rfl rfl ?_
    refine Wn ?_
    refine tN ?_
    replace hN := hN.bel hpend
    clear hpend
    refine W_ret ?_
    exact (rT rfl rfl ⟨rfl, hbw⟩).1
end Go.Proofs.Ytnagmpnpgekhfaa
