/- armariumlaw19: Few and awake. -/
import Derived.Test.YtnagmpnpgekhfaaDoorEncode
namespace Go.Proofs.YtnagmpnpgekhfaaDoor
open Go.RowKit
def few (m : Man) : Bool := decide (m.cols.length ≤ 40 ∧ m.strs.length ≤ 40 ∧ (∀ c ∈ m.cols, c.name.length ≤ 100) ∧ ∀ l ∈ m.strs, l.length ≤ 100)
theorem Few_any (m : Man) (vc vs : Value) (w : World) (hc : ColsAt w vc m.cols) (hs : StrsAt w vs m.strs) :
    Calls Tryd.prog 11 #[manV m vc vs] w fun e w' => e = .returned (.bool (few m)) ∧ Below w.heap.size w w' := by
  obtain ⟨ac, cc, rfl, hcn, hcc⟩ := hc.1.shape
  obtain ⟨us, hR, hu⟩ := hs
  obtain ⟨sa_, cs, rfl, hsn, hsc⟩ := hR.shape
  refine W_enter (args := [.agg #[.int .i64 m.id, .int .i64 m.rows, .slice ac m.cols.length cc, .slice sa_ m.strs.length cs]]) 44 Tryd.func11 rfl rfl rfl ?_
  refine W_sub [(0, .agg #[.int .i64 m.id, .int .i64 m.rows, .slice ac m.cols.length cc, .slice sa_ m.strs.length cs])] ?_ ⟨rfl, trivial⟩
  have hbw := Below.refl w.heap.size w
  refine W_rs ?_
  refine sboxA rfl rfl (fun g1 w1 hB1 hg1 hb hl1 => ?_)
  replace hbw := bthen hbw hb
  have hz_w1 := hb.size
  clear hb
  refine sa rfl rfl ?_
  refine Wn ?_
  refine tN ?_
  refine W_seq ?_
  refine W_rs ?_
  refine st (X.fa fa26_2 rfl) rfl ?_
  refine st (X.ldL rfl hB1 Tryd.underlying23 rfl rfl) rfl ?_
  refine st (X.lenL rfl rfl Tryd.underlying23) rfl ?_
  refine st (X.gtr rfl rfl) rfl ?_
  refine sb rfl rfl (fun h9 => ?_) (fun h9 => ?_)
  · first | replace h9 := of_decide_eq_true h9 | replace h9 := of_decide_eq_false (notT h9) | replace h9 := notT h9 | skip
    refine gN (g := 9) rfl rfl rfl rfl ?_
    refine gN (g := 9) rfl rfl rfl rfl ?_
    refine gN (g := 9) rfl rfl rfl rfl ?_
    refine gN (g := 9) rfl rfl rfl rfl ?_
    refine st (X.pickT rfl rfl) rfl ?_
    refine Wn ?_
    refine tN ?_
    refine W_yes rfl (rfl) ?_
    refine W_rs ?_
    refine sa rfl rfl ?_
    refine Wn ?_
    refine tN ?_
    refine W_ret (tR ?_)
    refine (rT rfl rfl ⟨?_, hbw⟩).1
    rw [show few m = false by unfold few; exact decide_eq_false (by omega)]
  · first | replace h9 := of_decide_eq_false h9 | replace h9 := of_decide_eq_true (notF h9) | replace h9 := notF h9 | skip
    refine gY (g := 9) rfl rfl rfl ?_
    refine st (X.fa fa26_3 rfl) rfl ?_
    refine gY (g := 9) rfl rfl rfl ?_
    refine st (X.ldL rfl hB1 Tryd.underlying24 rfl rfl) rfl ?_
    refine gY (g := 9) rfl rfl rfl ?_
    refine st (X.lenL rfl rfl Tryd.underlying24) rfl ?_
    refine gY (g := 9) rfl rfl rfl ?_
    refine st (X.gtr rfl rfl) rfl ?_
    refine st (X.pickF rfl rfl) rfl ?_
    refine Wn ?_
    refine tN ?_
    refine W_if rfl (fun h14 => ?_) (fun h14 => ?_)
    · first | replace h14 := of_decide_eq_true h14 | replace h14 := of_decide_eq_false (notT h14) | replace h14 := notT h14 | skip
      refine W_rs ?_
      refine sa rfl rfl ?_
      refine Wn ?_
      refine tN ?_
      refine W_ret (tR ?_)
      refine (rT rfl rfl ⟨?_, hbw⟩).1
      rw [show few m = false by unfold few; exact decide_eq_false (by omega)]
    · first | replace h14 := of_decide_eq_false h14 | replace h14 := of_decide_eq_true (notF h14) | replace h14 := notF h14 | skip
      refine W_skip ?_
      refine tN ?_
      refine W_seq ?_
      refine W_rs ?_
      refine sa rfl rfl ?_
      refine Wn ?_
      refine tN ?_
      refine W_block ?_
      refine W_lp (fun nw2_ lw2_ w2 => ∃ j : Nat, nw2_ = m.cols.length - j ∧ lw2_ = ([(1, .pointer (some ⟨g1, 0, none⟩)), (3, .int .i64 j)] : Env) ∧ (j ≤ m.cols.length) ∧ (∀ c ∈ m.cols.take j, c.name.length ≤ 100) ∧ (Blk w2 g1 26 #[.int .i64 m.id, .int .i64 m.rows, .slice ac m.cols.length cc, .slice sa_ m.strs.length cs]) ∧ (Below w.heap.size w w2)) _ ⟨_, ⟨0, rfl, rfl, by omega, by simp, hB1, hbw⟩, ⟨rfl, rfl, trivial⟩⟩ ?_
      clear hB1 hbw
      rintro nw2_ lw2_ w2 ⟨j, rfl, rfl, hj, hq, hB1, hbw⟩
      have hz_w2 := hbw.size
      have hlt_hB1_w2 := hB1.lt
      refine W_seq ?_
      refine W_rs ?_
      refine sm rfl rfl ?_
      refine st (X.fa fa26_2 rfl) rfl ?_
      refine st (X.ldL rfl hB1 Tryd.underlying23 rfl rfl) rfl ?_
      refine st (X.lenL rfl rfl Tryd.underlying23) rfl ?_
      refine st (X.lss rfl rfl) rfl ?_
      refine Wn ?_
      refine tN ?_
      refine W_if rfl (fun h19 => ?_) (fun h19 => ?_)
      · first | replace h19 := of_decide_eq_true h19 | replace h19 := of_decide_eq_false (notT h19) | replace h19 := notT h19 | skip
        obtain ⟨x, hx⟩ : ∃ x, m.cols[j]? = some x := ⟨_, List.getElem?_eq_getElem (by omega)⟩
        obtain ⟨gc, oc, c', hv, hgc⟩ := (hc.1.bel hbw).some_ (by omega)
        injection hv with e1 _ e3
        subst e1 e3
        have hr := (hc.bel hbw).range hx
        have hxn := hc.2 x (List.mem_of_getElem? hx)
        refine W_skip ?_
        refine tN ?_
        refine W_seq ?_
        refine W_block ?_
        refine W_rs ?_
        refine st (X.fa fa26_2 rfl) rfl ?_
        refine st (X.ldL rfl hB1 Tryd.underlying23 rfl rfl) rfl ?_
        refine sm rfl rfl ?_
        refine st (X.idxA rfl rfl Tryd.underlying23 siz60 rfl (by omega)) rfl ?_
        refine st (X.fa fa60_0 rfl) rfl ?_
        refine st (X.ld rfl Tryd.underlying9 rfl (hr 0 _ rfl)) rfl ?_
        refine st (X.lenS rfl rfl Tryd.underlying9) rfl ?_
        refine st (X.gtr rfl rfl) rfl ?_
        refine Wn ?_
        refine tN ?_
        refine W_if rfl (fun h29 => ?_) (fun h29 => ?_)
        · first | replace h29 := of_decide_eq_true h29 | replace h29 := of_decide_eq_false (notT h29) | replace h29 := notT h29 | skip
          refine W_rs ?_
          refine sa rfl rfl ?_
          refine Wn ?_
          refine tN ?_
          refine W_ret (bR (tR (tR (bR (tR ?_)))))
          refine (rT rfl rfl ⟨?_, hbw⟩).1
          rw [show few m = false by unfold few; exact decide_eq_false (fun h => by have := h.2.2.1 x (List.mem_of_getElem? hx); omega)]
        · first | replace h29 := of_decide_eq_false h29 | replace h29 := of_decide_eq_true (notF h29) | replace h29 := notF h29 | skip
          refine W_skip ?_
          refine bN ?_
          refine tN ?_
          refine W_reg ?_
          refine sm rfl rfl ?_
          refine st (X.add64 rfl rfl (by omega)) rfl ?_
          refine sa rfl rfl ?_
          refine Wn ?_
          refine tN ⟨_, _, ?_, ⟨j + 1, rfl, rfl, by omega, by rw [take_next' hx]; intro c hc; rcases List.mem_append.1 hc with h | h; exact hq c h; simp at h; subst h; omega, hB1, hbw⟩, ⟨rfl, rfl, trivial⟩⟩
          omega
      · first | replace h19 := of_decide_eq_false h19 | replace h19 := of_decide_eq_true (notF h19) | replace h19 := notF h19 | skip
        obtain rfl : j = m.cols.length := by omega
        rw [List.take_length] at hq
        refine W_exit (tE (tE (bH ?_)))
        refine tN ?_
        refine W_seq ?_
        refine W_rs ?_
        refine sa rfl rfl ?_
        refine Wn ?_
        refine tN ?_
        refine W_block ?_
        refine W_lp (fun nw3_ lw3_ w3 => ∃ i : Nat, nw3_ = m.strs.length - i ∧ lw3_ = ([(1, .pointer (some ⟨g1, 0, none⟩)), (4, .int .i64 i)] : Env) ∧ (i ≤ m.strs.length) ∧ (∀ l ∈ m.strs.take i, l.length ≤ 100) ∧ (Blk w3 g1 26 #[.int .i64 m.id, .int .i64 m.rows, .slice ac m.cols.length cc, .slice sa_ m.strs.length cs]) ∧ (Below w.heap.size w w3)) _ ⟨_, ⟨0, rfl, rfl, by omega, by simp, hB1, hbw⟩, ⟨rfl, rfl, trivial⟩⟩ ?_
        clear hB1 hbw
        rintro nw3_ lw3_ w3 ⟨i, rfl, rfl, hi, hp, hB1, hbw⟩
        have hz_w3 := hbw.size
        have hlt_hB1_w3 := hB1.lt
        refine W_seq ?_
        refine W_rs ?_
        refine sm rfl rfl ?_
        refine st (X.fa fa26_3 rfl) rfl ?_
        refine st (X.ldL rfl hB1 Tryd.underlying24 rfl rfl) rfl ?_
        refine st (X.lenL rfl rfl Tryd.underlying24) rfl ?_
        refine st (X.lss rfl rfl) rfl ?_
        refine Wn ?_
        refine tN ?_
        refine W_if rfl (fun h34 => ?_) (fun h34 => ?_)
        · first | replace h34 := of_decide_eq_true h34 | replace h34 := of_decide_eq_false (notT h34) | replace h34 := notT h34 | skip
          obtain ⟨l, hl⟩ : ∃ l, m.strs[i]? = some l := ⟨_, List.getElem?_eq_getElem (by omega)⟩
          obtain ⟨u, hux, hcu⟩ := hu i l hl
          obtain ⟨gs, os_, s', hv, hgs⟩ := (hR.bel hbw).some_ (by omega)
          injection hv with e1 _ e3
          subst e1 e3
          obtain ⟨au, cu, rfl, hun, huc⟩ := hcu.1.shape
          refine W_skip ?_
          refine tN ?_
          refine W_seq ?_
          refine W_block ?_
          refine W_rs ?_
          refine st (X.fa fa26_3 rfl) rfl ?_
          refine st (X.ldL rfl hB1 Tryd.underlying24 rfl rfl) rfl ?_
          refine sm rfl rfl ?_
          refine st (X.idxA rfl rfl Tryd.underlying24 siz51 rfl (by omega)) rfl ?_
          refine st (X.ld rfl Tryd.underlying51 rfl (by rw [Nat.mul_one]; exact (hR.bel hbw).cellAt (by omega) hux)) rfl ?_
          refine st (X.lenL rfl rfl Tryd.underlying51) rfl ?_
          refine st (X.gtr rfl rfl) rfl ?_
          refine Wn ?_
          refine tN ?_
          refine W_if rfl (fun h43 => ?_) (fun h43 => ?_)
          · first | replace h43 := of_decide_eq_true h43 | replace h43 := of_decide_eq_false (notT h43) | replace h43 := notT h43 | skip
            refine W_rs ?_
            refine sa rfl rfl ?_
            refine Wn ?_
            refine tN ?_
            refine W_ret (bR (tR (tR (bR (tR ?_)))))
            refine (rT rfl rfl ⟨?_, hbw⟩).1
            rw [show few m = false by unfold few; exact decide_eq_false (fun h => by have := h.2.2.2 l (List.mem_of_getElem? hl); omega)]
          · first | replace h43 := of_decide_eq_false h43 | replace h43 := of_decide_eq_true (notF h43) | replace h43 := notF h43 | skip
            refine W_skip ?_
            refine bN ?_
            refine tN ?_
            refine W_reg ?_
            refine sm rfl rfl ?_
            refine st (X.add64 rfl rfl (by omega)) rfl ?_
            refine sa rfl rfl ?_
            refine Wn ?_
            refine tN ⟨_, _, ?_, ⟨i + 1, rfl, rfl, by omega, by rw [take_next' hl]; intro c hc; rcases List.mem_append.1 hc with h | h; exact hp c h; simp at h; subst h; omega, hB1, hbw⟩, ⟨rfl, rfl, trivial⟩⟩
            omega
        · first | replace h34 := of_decide_eq_false h34 | replace h34 := of_decide_eq_true (notF h34) | replace h34 := notF h34 | skip
          refine W_exit (tE (tE (bH ?_)))
          refine tN ?_
          refine W_rs ?_
          refine sa rfl rfl ?_
          refine Wn ?_
          refine tN ?_
          refine W_ret ?_
          obtain rfl : i = m.strs.length := by omega
          rw [List.take_length] at hp
          refine (rT rfl rfl ⟨?_, hbw⟩).1
          rw [show few m = true by unfold few; exact decide_eq_true ⟨by omega, by omega, hq, hp⟩]
end Go.Proofs.YtnagmpnpgekhfaaDoor
