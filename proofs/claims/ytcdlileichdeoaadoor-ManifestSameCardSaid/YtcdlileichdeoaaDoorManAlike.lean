/- slices.EqualFunc, manifest.Alike, manifest.Same. -/
import Derived.Test.YtcdlileichdeoaaDoorManSame
namespace Go.Proofs.YtcdlileichdeoaaDoor
open Go.RowKit
theorem EqualStrs_any (va vb : Value) (la lb : List (List Chk)) (w : World) (ha : StrsAt w va la) (hb_ : StrsAt w vb lb) :
    Calls Tryd.prog 37 #[va, vb, .func (.func 38) #[] #[]] w fun e w' => e = .returned (.bool (decide (la = lb))) ∧ Below w.heap.size w w' := by
  obtain ⟨ua, hRa, hua⟩ := ha
  obtain ⟨ub, hRb, hub⟩ := hb_
  obtain ⟨aa, ca, rfl, han, hac⟩ := hRa.shape
  obtain ⟨ab, cb, rfl, hbn, hbc⟩ := hRb.shape
  refine W_enter (args := [.slice aa la.length ca, .slice ab lb.length cb, .func (.func 38) #[] #[]]) 32 Tryd.func37 rfl rfl rfl ?_
  refine W_sub [(0, .slice aa la.length ca), (1, .slice ab lb.length cb), (2, .func (.func 38) #[] #[])] ?_ ⟨rfl, rfl, rfl, trivial⟩
  have hbw := Below.refl w.heap.size w
  refine W_rs ?_
  refine sa rfl rfl ?_
  refine Wn ?_
  refine tN ?_
  refine W_seq ?_
  refine W_rs ?_
  refine sm rfl rfl ?_
  refine st (X.lenL rfl rfl Tryd.underlying24) rfl ?_
  refine sm rfl rfl ?_
  refine st (X.lenL rfl rfl Tryd.underlying24) rfl ?_
  refine st (X.neq rfl rfl) rfl ?_
  refine Wn ?_
  refine tN ?_
  refine W_if rfl (fun h14 => ?_) (fun h14 => ?_)
  · first | replace h14 := of_decide_eq_true h14 | replace h14 := of_decide_eq_false (notT h14) | replace h14 := notT h14 | skip
    refine W_rs ?_
    refine sa rfl rfl ?_
    refine Wn ?_
    refine tN ?_
    refine W_ret (tR ?_)
    refine (rT rfl rfl ⟨?_, hbw⟩).1
    rw [show decide (la = lb) = false from decide_eq_false (fun h => by subst h; exact h14 rfl)]
  · first | replace h14 := of_decide_eq_false h14 | replace h14 := of_decide_eq_true (notF h14) | replace h14 := notF h14 | skip
    refine W_skip ?_
    refine tN ?_
    refine W_seq ?_
    refine W_rs ?_
    refine sm rfl rfl ?_
    refine st (X.lenL rfl rfl Tryd.underlying24) rfl ?_
    refine sm rfl rfl ?_
    refine Wn ?_
    refine tN ?_
    refine W_block ?_
    refine W_lp (fun nw1_ lw1_ w1 => ∃ j : Nat, nw1_ = la.length - j ∧ lw1_ = ([(1, .slice ab lb.length cb), (2, .func (.func 38) #[] #[]), (15, .slice aa la.length ca), (16, .int .i64 la.length), (17, .int .i64 j)] : Env) ∧ (j ≤ la.length) ∧ (la.take j = lb.take j) ∧ (Below w.heap.size w w1)) _ ⟨_, ⟨0, rfl, rfl, by omega, rfl, hbw⟩, ⟨rfl, rfl, rfl, rfl, rfl, trivial⟩⟩ ?_
    clear hbw
    rintro nw1_ lw1_ w1 ⟨j, rfl, rfl, hj, hq, hbw⟩
    have hz_w1 := hbw.size
    refine W_rs ?_
    refine st (X.lss rfl rfl) rfl ?_
    refine Wn ?_
    refine tN ?_
    refine W_seq ?_
    refine W_if rfl (fun h18 => ?_) (fun h18 => ?_)
    · first | replace h18 := of_decide_eq_true h18 | replace h18 := of_decide_eq_false (notT h18) | replace h18 := notT h18 | skip
      obtain ⟨x, hx⟩ : ∃ x, la[j]? = some x := ⟨_, List.getElem?_eq_getElem (by omega)⟩
      obtain ⟨y, hy⟩ : ∃ y, lb[j]? = some y := ⟨_, List.getElem?_eq_getElem (by omega)⟩
      obtain ⟨u1, hux, hcx⟩ := hua j x hx
      obtain ⟨u2, huy, hcy⟩ := hub j y hy
      obtain ⟨g1, o1, c', hv, hg1⟩ := (hRa.bel hbw).some_ (by omega)
      injection hv with e1 _ e3
      subst e1 e3
      obtain ⟨g2, o2, c', hv, hg2⟩ := (hRb.bel hbw).some_ (by omega)
      injection hv with e1 _ e3
      subst e1 e3
      refine W_skip ?_
      refine tN ?_
      refine W_seq ?_
      refine W_block ?_
      refine W_rs ?_
      refine sm rfl rfl ?_
      refine st (X.idxA rfl rfl Tryd.underlying24 siz55 rfl (by omega)) rfl ?_
      refine st (X.ld rfl Tryd.underlying55 rfl (by rw [Nat.mul_one]; exact (hRa.bel hbw).cellAt (by omega) hux)) rfl ?_
      refine sa rfl rfl ?_
      refine sa rfl rfl ?_
      refine Wn ?_
      refine tN ?_
      refine W_rs ?_
      refine sm rfl rfl ?_
      refine sm rfl rfl ?_
      refine st (X.idxA rfl rfl Tryd.underlying24 siz55 rfl (by omega)) rfl ?_
      refine st (X.ld rfl Tryd.underlying55 rfl (by rw [Nat.mul_one]; exact (hRb.bel hbw).cellAt (by omega) huy)) rfl ?_
      refine sa rfl rfl ?_
      refine Wn ?_
      refine tN ?_
      refine W_rs ?_
      refine sm rfl rfl ?_
      refine sm rfl rfl ?_
      refine sm rfl rfl ?_
      refine scv (cap := []) _ rfl Tryd.func38 rfl (by kernel_rfl) rfl rfl ((alike1_any u1 u2 x y _ (hcx.bel hbw) (hcy.bel hbw)).mono ?_)
      rintro e_ w2 ⟨rfl, hb⟩
      refine cR ?_
      replace hbw := bthen hbw hb
      clear hb
      refine st (X.not rfl) rfl ?_
      refine Wn ?_
      refine tN ?_
      refine W_if rfl (fun h30 => ?_) (fun h30 => ?_)
      · first | replace h30 := of_decide_eq_true h30 | replace h30 := of_decide_eq_false (notT h30) | replace h30 := notT h30 | skip
        refine W_rs ?_
        refine sa rfl rfl ?_
        refine Wn ?_
        refine tN ?_
        refine W_ret (bR (tR (tR (bR (tR ?_)))))
        refine (rT rfl rfl ⟨?_, hbw⟩).1
        rw [show decide (la = lb) = false from decide_eq_false (at_ne hx hy (by simpa using h30))]
      · first | replace h30 := of_decide_eq_false h30 | replace h30 := of_decide_eq_true (notF h30) | replace h30 := notF h30 | skip
        refine W_skip ?_
        refine bN ?_
        refine tN ?_
        refine W_reg ?_
        refine st (X.add64 rfl rfl (by omega)) rfl ?_
        refine sm rfl rfl ?_
        refine Wn ?_
        refine tN ⟨_, _, ?_, ⟨j + 1, rfl, rfl, by omega, by rw [take_next' hx, take_next' hy, hq, show x = y by simpa using h30], hbw⟩, ⟨rfl, rfl, rfl, rfl, rfl, trivial⟩⟩
        omega
    · first | replace h18 := of_decide_eq_false h18 | replace h18 := of_decide_eq_true (notF h18) | replace h18 := notF h18 | skip
      refine W_exit (tE (tE (bH ?_)))
      refine tN ?_
      refine W_rs ?_
      refine sa rfl rfl ?_
      refine Wn ?_
      refine tN ?_
      refine W_ret ?_
      obtain rfl : j = la.length := by omega
      refine (rT rfl rfl ⟨?_, hbw⟩).1
      rw [show decide (la = lb) = true from decide_eq_true (take_all (by omega) hq)]
/-- alike: the same but for the number -/
def alike (a b : Man) : Bool := decide (a.rows = b.rows ∧ a.cols = b.cols ∧ a.strs = b.strs)
theorem Alike_any (a b : Man) (vc vs uc us : Value) (w : World) (hc : ColsAt w vc a.cols) (hs : StrsAt w vs a.strs) (kc : ColsAt w uc b.cols) (ks : StrsAt w us b.strs) :
    Calls Tryd.prog 16 #[manV a vc vs, manV b uc us] w fun e w' => e = .returned (.bool (alike a b)) ∧ Below w.heap.size w w' := by
  have ho1 : vc.oneCell' = true := by obtain ⟨_, _, rfl, _, _⟩ := hc.1.shape; rfl
  have ho2 : vs.oneCell' = true := by obtain ⟨_, hR, _⟩ := hs; obtain ⟨_, _, rfl, _, _⟩ := hR.shape; rfl
  have ho3 : uc.oneCell' = true := by obtain ⟨_, _, rfl, _, _⟩ := kc.1.shape; rfl
  have ho4 : us.oneCell' = true := by obtain ⟨_, hR, _⟩ := ks; obtain ⟨_, _, rfl, _, _⟩ := hR.shape; rfl
  refine W_enter (args := [.agg #[.int .i64 a.id, .int .i64 a.rows, vc, vs], .agg #[.int .i64 b.id, .int .i64 b.rows, uc, us]]) 24 Tryd.func16 rfl rfl rfl ?_
  refine W_sub [(0, .agg #[.int .i64 a.id, .int .i64 a.rows, vc, vs]), (1, .agg #[.int .i64 b.id, .int .i64 b.rows, uc, us])] ?_ ⟨rfl, rfl, trivial⟩
  have hbw := Below.refl w.heap.size w
  refine W_rs ?_
  refine sboxA rfl rfl (fun g2 w1 hB2 hg2 hb hl2 => ?_)
  replace hbw := bthen hbw hb
  have hz_w1 := hb.size
  clear hb
  refine sboxA rfl rfl (fun g3 w2 hB3 hg3 hb hl3 => ?_)
  replace hbw := bthen hbw hb
  replace hB2 := hB2.bel hb
  have hz_w2 := hb.size
  clear hb
  refine sa rfl rfl ?_
  refine Wn ?_
  refine tN ?_
  refine W_rs ?_
  refine st (X.fa fa26_1 rfl) rfl ?_
  refine st (X.ldL rfl hB2 Tryd.underlying3 rfl rfl) rfl ?_
  refine st (X.fa fa26_1 rfl) rfl ?_
  refine st (X.ldL rfl hB3 Tryd.underlying3 rfl rfl) rfl ?_
  refine st (X.eql rfl rfl) rfl ?_
  refine sb rfl rfl (fun h10 => ?_) (fun h10 => ?_)
  · first | replace h10 := of_decide_eq_true h10 | replace h10 := of_decide_eq_false (notT h10) | replace h10 := notT h10 | skip
    refine gY (g := 10) rfl rfl rfl ?_
    refine st (X.fa fa26_2 rfl) rfl ?_
    refine gY (g := 10) rfl rfl rfl ?_
    refine st (X.ldL rfl hB2 Tryd.underlying23 rfl rfl) rfl ?_
    refine gY (g := 10) rfl rfl rfl ?_
    refine st (X.fa fa26_2 rfl) rfl ?_
    refine gY (g := 10) rfl rfl rfl ?_
    refine st (X.ldL rfl hB3 Tryd.underlying23 rfl rfl) rfl ?_
    refine gY (g := 10) rfl rfl rfl ?_
    refine sc _ Tryd.func36 rfl (by kernel_rfl) rfl rfl ((EqualCols_any vc uc a.cols b.cols _ (hc.bel hbw) (kc.bel hbw)).mono ?_)
    rintro e_ w3 ⟨rfl, hb⟩
    refine cR ?_
    replace hbw := bthen hbw hb
    replace hB2 := hB2.bel hb
    replace hB3 := hB3.bel hb
    have hz_w3 := hb.size
    clear hb
    refine st (X.pickT rfl rfl) rfl ?_
    refine sb rfl rfl (fun h17 => ?_) (fun h17 => ?_)
    · first | replace h17 := of_decide_eq_true h17 | replace h17 := of_decide_eq_false (notT h17) | replace h17 := notT h17 | skip
      refine gY (g := 17) rfl rfl rfl ?_
      refine st (X.fa fa26_3 rfl) rfl ?_
      refine gY (g := 17) rfl rfl rfl ?_
      refine st (X.ldL rfl hB2 Tryd.underlying24 rfl rfl) rfl ?_
      refine gY (g := 17) rfl rfl rfl ?_
      refine st (X.fa fa26_3 rfl) rfl ?_
      refine gY (g := 17) rfl rfl rfl ?_
      refine st (X.ldL rfl hB3 Tryd.underlying24 rfl rfl) rfl ?_
      refine gY (g := 17) rfl rfl rfl ?_
      refine sc _ Tryd.func37 rfl (by kernel_rfl) rfl rfl ((EqualStrs_any vs us a.strs b.strs _ (hs.bel hbw) (ks.bel hbw)).mono ?_)
      rintro e_ w4 ⟨rfl, hb⟩
      refine cR ?_
      replace hbw := bthen hbw hb
      replace hB2 := hB2.bel hb
      replace hB3 := hB3.bel hb
      have hz_w4 := hb.size
      clear hb
      refine st (X.pickT rfl rfl) rfl ?_
      refine sa rfl rfl ?_
      refine Wn ?_
      refine tN ?_
      refine W_ret ?_
      refine (rT rfl rfl ⟨?_, hbw⟩).1
      unfold alike; simp [h10, h17]
    · first | replace h17 := of_decide_eq_false h17 | replace h17 := of_decide_eq_true (notF h17) | replace h17 := notF h17 | skip
      refine gN (g := 17) rfl rfl rfl rfl ?_
      refine gN (g := 17) rfl rfl rfl rfl ?_
      refine gN (g := 17) rfl rfl rfl rfl ?_
      refine gN (g := 17) rfl rfl rfl rfl ?_
      refine gN (g := 17) rfl rfl rfl rfl ?_
      refine st (X.pickF rfl rfl) rfl ?_
      refine sa rfl rfl ?_
      refine Wn ?_
      refine tN ?_
      refine W_ret ?_
      refine (rT rfl rfl ⟨?_, hbw⟩).1
      rw [show alike a b = false from decide_eq_false (fun h => h17 h.2.1)]
  · first | replace h10 := of_decide_eq_false h10 | replace h10 := of_decide_eq_true (notF h10) | replace h10 := notF h10 | skip
    refine gN (g := 10) rfl rfl rfl rfl ?_
    refine gN (g := 10) rfl rfl rfl rfl ?_
    refine gN (g := 10) rfl rfl rfl rfl ?_
    refine gN (g := 10) rfl rfl rfl rfl ?_
    refine gN (g := 10) rfl rfl rfl rfl ?_
    refine st (X.pickF rfl rfl) rfl ?_
    refine sm rfl rfl ?_
    refine gN (g := 17) rfl rfl rfl rfl ?_
    refine gN (g := 17) rfl rfl rfl rfl ?_
    refine gN (g := 17) rfl rfl rfl rfl ?_
    refine gN (g := 17) rfl rfl rfl rfl ?_
    refine gN (g := 17) rfl rfl rfl rfl ?_
    refine st (X.pickF rfl rfl) rfl ?_
    refine sa rfl rfl ?_
    refine Wn ?_
    refine tN ?_
    refine W_ret ?_
    refine (rT rfl rfl ⟨?_, hbw⟩).1
    rw [show alike a b = false from decide_eq_false (fun h => h10 h.1)]
theorem Same_any (a b : Man) (vc vs uc us : Value) (w : World) (hc : ColsAt w vc a.cols) (hs : StrsAt w vs a.strs) (kc : ColsAt w uc b.cols) (ks : StrsAt w us b.strs) :
    Calls Tryd.prog 17 #[manV a vc vs, manV b uc us] w fun e w' => e = .returned (.bool (decide (a.id = b.id) && alike a b)) ∧ Below w.heap.size w w' := by
  refine W_enter (args := [.agg #[.int .i64 a.id, .int .i64 a.rows, vc, vs], .agg #[.int .i64 b.id, .int .i64 b.rows, uc, us]]) 15 Tryd.func17 rfl rfl rfl ?_
  refine W_sub [(0, .agg #[.int .i64 a.id, .int .i64 a.rows, vc, vs]), (1, .agg #[.int .i64 b.id, .int .i64 b.rows, uc, us])] ?_ ⟨rfl, rfl, trivial⟩
  have hbw := Below.refl w.heap.size w
  refine W_rs ?_
  refine sboxA rfl rfl (fun g2 w1 hB2 hg2 hb hl2 => ?_)
  replace hbw := bthen hbw hb
  have hz_w1 := hb.size
  clear hb
  refine sboxA rfl rfl (fun g3 w2 hB3 hg3 hb hl3 => ?_)
  replace hbw := bthen hbw hb
  replace hB2 := hB2.bel hb
  have hz_w2 := hb.size
  clear hb
  refine sa rfl rfl ?_
  refine Wn ?_
  refine tN ?_
  refine W_rs ?_
  refine st (X.fa fa26_0 rfl) rfl ?_
  refine st (X.ldL rfl hB2 Tryd.underlying3 rfl rfl) rfl ?_
  refine st (X.fa fa26_0 rfl) rfl ?_
  refine st (X.ldL rfl hB3 Tryd.underlying3 rfl rfl) rfl ?_
  refine st (X.eql rfl rfl) rfl ?_
  refine sb rfl rfl (fun h10 => ?_) (fun h10 => ?_)
  · first | replace h10 := of_decide_eq_true h10 | replace h10 := of_decide_eq_false (notT h10) | replace h10 := notT h10 | skip
    refine gY (g := 10) rfl rfl rfl ?_
    refine st (X.ldBN rfl hB2 Tryd.underlying26 rfl siz26) rfl ?_
    refine gY (g := 10) rfl rfl rfl ?_
    refine st (X.ldBN rfl hB3 Tryd.underlying26 rfl siz26) rfl ?_
    refine gY (g := 10) rfl rfl rfl ?_
    refine sc _ Tryd.func16 rfl (by kernel_rfl) rfl rfl ((Alike_any a b vc vs uc us _ (hc.bel hbw) (hs.bel hbw) (kc.bel hbw) (ks.bel hbw)).mono ?_)
    rintro e_ w3 ⟨rfl, hb⟩
    refine cR ?_
    replace hbw := bthen hbw hb
    replace hB2 := hB2.bel hb
    replace hB3 := hB3.bel hb
    have hz_w3 := hb.size
    clear hb
    refine st (X.pickT rfl rfl) rfl ?_
    refine sa rfl rfl ?_
    refine Wn ?_
    refine tN ?_
    refine W_ret ?_
    refine (rT rfl rfl ⟨?_, hbw⟩).1
    rw [decide_eq_true h10]; rfl
  · first | replace h10 := of_decide_eq_false h10 | replace h10 := of_decide_eq_true (notF h10) | replace h10 := notF h10 | skip
    refine gN (g := 10) rfl rfl rfl rfl ?_
    refine gN (g := 10) rfl rfl rfl rfl ?_
    refine gN (g := 10) rfl rfl rfl rfl ?_
    refine st (X.pickF rfl rfl) rfl ?_
    refine sa rfl rfl ?_
    refine Wn ?_
    refine tN ?_
    refine W_ret ?_
    refine (rT rfl rfl ⟨?_, hbw⟩).1
    rw [decide_eq_false h10]; rfl
end Go.Proofs.YtcdlileichdeoaaDoor
