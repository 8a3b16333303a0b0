/- slices.Equal, slices.EqualFunc, manifest.Alike, manifest.Same. -/
import Derived.Test.YtcdlileichdeoaaDoorStructEq
import Derived.Test.YtcdlileichdeoaaDoorManAwake
namespace Go.Proofs.YtcdlileichdeoaaDoor
open Go.RowKit
theorem take_all {α : Type} {a b : List α} (h : a.length = b.length) (ht : a.take a.length = b.take a.length) : a = b := by
  rw [List.take_length, h, List.take_length] at ht
  exact ht
theorem at_ne {α : Type} {a b : List α} {j : Nat} {x y : α} (hx : a[j]? = some x) (hy : b[j]? = some y) (h : x ≠ y) : a ≠ b := by
  rintro rfl
  rw [hx] at hy
  exact h (Option.some.inj hy)
theorem EqualCols_any (va vb : Value) (la lb : List Col) (w : World) (ha : ColsAt w va la) (hb_ : ColsAt w vb lb) :
    Calls Tryd.prog 36 #[va, vb] w fun e w' => e = .returned (.bool (decide (la = lb))) ∧ Below w.heap.size w w' := by
  obtain ⟨aa, ca, rfl, han, hac⟩ := ha.1.shape
  obtain ⟨ab, cb, rfl, hbn, hbc⟩ := hb_.1.shape
  refine W_enter (args := [.slice aa la.length ca, .slice ab lb.length cb]) 26 Tryd.func36 rfl rfl rfl ?_
  refine W_sub [(0, .slice aa la.length ca), (1, .slice ab lb.length cb)] ?_ ⟨rfl, rfl, trivial⟩
  have hbw := Below.refl w.heap.size w
  refine W_rs ?_
  refine sa rfl rfl ?_
  refine Wn ?_
  refine tN ?_
  refine W_seq ?_
  refine W_rs ?_
  refine sm rfl rfl ?_
  refine st (X.lenL rfl rfl Tryd.underlying23) rfl ?_
  refine sm rfl rfl ?_
  refine st (X.lenL rfl rfl Tryd.underlying23) rfl ?_
  refine st (X.neq rfl rfl) rfl ?_
  refine Wn ?_
  refine tN ?_
  refine W_if rfl (fun h10 => ?_) (fun h10 => ?_)
  · first | replace h10 := of_decide_eq_true h10 | replace h10 := of_decide_eq_false (notT h10) | replace h10 := notT h10 | skip
    refine W_rs ?_
    refine sa rfl rfl ?_
    refine Wn ?_
    refine tN ?_
    refine W_ret (tR ?_)
    refine (rT rfl rfl ⟨?_, hbw⟩).1
    rw [show decide (la = lb) = false from decide_eq_false (fun h => by subst h; exact h10 rfl)]
  · first | replace h10 := of_decide_eq_false h10 | replace h10 := of_decide_eq_true (notF h10) | replace h10 := notF h10 | skip
    refine W_skip ?_
    refine tN ?_
    refine W_seq ?_
    refine W_rs ?_
    refine sm rfl rfl ?_
    refine st (X.lenL rfl rfl Tryd.underlying23) rfl ?_
    refine sm rfl rfl ?_
    refine Wn ?_
    refine tN ?_
    refine W_block ?_
    refine W_lp (fun nw1_ lw1_ w1 => ∃ j : Nat, nw1_ = la.length - j ∧ lw1_ = ([(0, .slice aa la.length ca), (1, .slice ab lb.length cb), (12, .int .i64 la.length), (13, .int .i64 j)] : Env) ∧ (j ≤ la.length) ∧ (la.take j = lb.take j) ∧ (Below w.heap.size w w1)) _ ⟨_, ⟨0, rfl, rfl, by omega, rfl, hbw⟩, ⟨rfl, rfl, rfl, rfl, trivial⟩⟩ ?_
    clear hbw
    rintro nw1_ lw1_ w1 ⟨j, rfl, rfl, hj, hq, hbw⟩
    have hz_w1 := hbw.size
    refine W_rs ?_
    refine st (X.lss rfl rfl) rfl ?_
    refine Wn ?_
    refine tN ?_
    refine W_seq ?_
    refine W_if rfl (fun h14 => ?_) (fun h14 => ?_)
    · first | replace h14 := of_decide_eq_true h14 | replace h14 := of_decide_eq_false (notT h14) | replace h14 := notT h14 | skip
      obtain ⟨x, hx⟩ : ∃ x, la[j]? = some x := ⟨_, List.getElem?_eq_getElem (by omega)⟩
      obtain ⟨y, hy⟩ : ∃ y, lb[j]? = some y := ⟨_, List.getElem?_eq_getElem (by omega)⟩
      obtain ⟨g1, o1, c', hv, hg1⟩ := (ha.1.bel hbw).some_ (by omega)
      injection hv with e1 _ e3
      subst e1 e3
      obtain ⟨g2, o2, c', hv, hg2⟩ := (hb_.1.bel hbw).some_ (by omega)
      injection hv with e1 _ e3
      subst e1 e3
      refine W_skip ?_
      refine tN ?_
      refine W_seq ?_
      refine W_block ?_
      refine W_rs ?_
      refine sm rfl rfl ?_
      refine sa rfl rfl ?_
      refine Wn ?_
      refine tN ?_
      refine W_drsN (fun W_ => W_.rangeAt g1 (o1 + j * 3) x.cells ∧ W_.rangeAt g2 (o2 + j * 3) y.cells) [0, 1, 2, 3, 4, 5, 6, 7, 8] [true, true, true, true, true, true, true, true, true] (by kernel_rfl) (by kernel_rfl) (⟨(ha.bel (bdrew hbw)).range hx, (hb_.bel (bdrew hbw)).range hy⟩) ?_
      obtain ⟨w2, hw_⟩ : ∃ w2 : World, w2 = World.drew w1 := ⟨_, rfl⟩
      rw [← hw_]
      have hb : Below w1.heap.size w1 w2 := by rw [hw_]; exact bdrew (Below.refl _ _)
      clear hw_
      have hS := hb
      replace hbw := bthen hbw hb
      have hz_w2 := hb.size
      clear hb
      refine oY rfl (fun W_ hW_ => (X.move rfl)) rfl ?_
      refine oY rfl (fun W_ hW_ => (X.move rfl)) rfl ?_
      refine oY rfl (fun W_ hW_ => (X.idxA rfl rfl Tryd.underlying23 siz63 rfl (by omega))) rfl ?_
      refine oY rfl (fun W_ hW_ => (X.ldN (cs := x.cells) rfl Tryd.underlying63 rfl siz63 hW_.1)) rfl ?_
      refine oY rfl (fun W_ hW_ => (X.move rfl)) rfl ?_
      refine oY rfl (fun W_ hW_ => (X.move rfl)) rfl ?_
      refine oY rfl (fun W_ hW_ => (X.idxA rfl rfl Tryd.underlying23 siz63 rfl (by omega))) rfl ?_
      refine oY rfl (fun W_ hW_ => (X.ldN (cs := y.cells) rfl Tryd.underlying63 rfl siz63 hW_.2)) rfl ?_
      refine oY rfl (fun W_ hW_ => (X.neCol rfl rfl)) rfl ?_
      refine oN ?_
      refine nN ?_
      refine W_if rfl (fun h24 => ?_) (fun h24 => ?_)
      · first | replace h24 := of_decide_eq_true h24 | replace h24 := of_decide_eq_false (notT h24) | replace h24 := notT h24 | skip
        refine W_rs ?_
        refine sa rfl rfl ?_
        refine Wn ?_
        refine tN ?_
        refine W_ret (bR (tR (tR (bR (tR ?_)))))
        refine (rT rfl rfl ⟨?_, hbw⟩).1
        rw [show decide (la = lb) = false from decide_eq_false (at_ne hx hy h24)]
      · first | replace h24 := of_decide_eq_false h24 | replace h24 := of_decide_eq_true (notF h24) | replace h24 := notF h24 | skip
        refine W_skip ?_
        refine bN ?_
        refine tN ?_
        refine W_reg ?_
        refine st (X.add64 rfl rfl (by omega)) rfl ?_
        refine sm rfl rfl ?_
        refine Wn ?_
        refine tN ⟨_, _, ?_, ⟨j + 1, rfl, rfl, by omega, by rw [take_next' hx, take_next' hy, hq, Classical.not_not.1 h24], hbw⟩, ⟨rfl, rfl, rfl, rfl, trivial⟩⟩
        omega
    · first | replace h14 := of_decide_eq_false h14 | replace h14 := of_decide_eq_true (notF h14) | replace h14 := notF h14 | skip
      refine W_exit (tE (tE (bH ?_)))
      refine tN ?_
      refine W_rs ?_
      refine sa rfl rfl ?_
      refine Wn ?_
      refine tN ?_
      refine W_ret ?_
      obtain rfl : j = la.length := by omega
      refine (rT rfl rfl ⟨?_, hbw⟩).1
      rw [show decide (la = lb) = true from decide_eq_true (take_all (by omega) hq)]
theorem EqualChks_any (va vb : Value) (la lb : List Chk) (w : World) (ha : ChksAt w va la) (hb_ : ChksAt w vb lb) :
    Calls Tryd.prog 39 #[va, vb] w fun e w' => e = .returned (.bool (decide (la = lb))) ∧ Below w.heap.size w w' := by
  obtain ⟨aa, ca, rfl, han, hac⟩ := ha.1.shape
  obtain ⟨ab, cb, rfl, hbn, hbc⟩ := hb_.1.shape
  refine W_enter (args := [.slice aa la.length ca, .slice ab lb.length cb]) 26 Tryd.func39 rfl rfl rfl ?_
  refine W_sub [(0, .slice aa la.length ca), (1, .slice ab lb.length cb)] ?_ ⟨rfl, rfl, trivial⟩
  have hbw := Below.refl w.heap.size w
  refine W_rs ?_
  refine sa rfl rfl ?_
  refine Wn ?_
  refine tN ?_
  refine W_seq ?_
  refine W_rs ?_
  refine sm rfl rfl ?_
  refine st (X.lenL rfl rfl Tryd.underlying55) rfl ?_
  refine sm rfl rfl ?_
  refine st (X.lenL rfl rfl Tryd.underlying55) rfl ?_
  refine st (X.neq rfl rfl) rfl ?_
  refine Wn ?_
  refine tN ?_
  refine W_if rfl (fun h10 => ?_) (fun h10 => ?_)
  · first | replace h10 := of_decide_eq_true h10 | replace h10 := of_decide_eq_false (notT h10) | replace h10 := notT h10 | skip
    refine W_rs ?_
    refine sa rfl rfl ?_
    refine Wn ?_
    refine tN ?_
    refine W_ret (tR ?_)
    refine (rT rfl rfl ⟨?_, hbw⟩).1
    rw [show decide (la = lb) = false from decide_eq_false (fun h => by subst h; exact h10 rfl)]
  · first | replace h10 := of_decide_eq_false h10 | replace h10 := of_decide_eq_true (notF h10) | replace h10 := notF h10 | skip
    refine W_skip ?_
    refine tN ?_
    refine W_seq ?_
    refine W_rs ?_
    refine sm rfl rfl ?_
    refine st (X.lenL rfl rfl Tryd.underlying55) rfl ?_
    refine sm rfl rfl ?_
    refine Wn ?_
    refine tN ?_
    refine W_block ?_
    refine W_lp (fun nw1_ lw1_ w1 => ∃ j : Nat, nw1_ = la.length - j ∧ lw1_ = ([(0, .slice aa la.length ca), (1, .slice ab lb.length cb), (12, .int .i64 la.length), (13, .int .i64 j)] : Env) ∧ (j ≤ la.length) ∧ (la.take j = lb.take j) ∧ (Below w.heap.size w w1)) _ ⟨_, ⟨0, rfl, rfl, by omega, rfl, hbw⟩, ⟨rfl, rfl, rfl, rfl, trivial⟩⟩ ?_
    clear hbw
    rintro nw1_ lw1_ w1 ⟨j, rfl, rfl, hj, hq, hbw⟩
    have hz_w1 := hbw.size
    refine W_rs ?_
    refine st (X.lss rfl rfl) rfl ?_
    refine Wn ?_
    refine tN ?_
    refine W_seq ?_
    refine W_if rfl (fun h14 => ?_) (fun h14 => ?_)
    · first | replace h14 := of_decide_eq_true h14 | replace h14 := of_decide_eq_false (notT h14) | replace h14 := notT h14 | skip
      obtain ⟨x, hx⟩ : ∃ x, la[j]? = some x := ⟨_, List.getElem?_eq_getElem (by omega)⟩
      obtain ⟨y, hy⟩ : ∃ y, lb[j]? = some y := ⟨_, List.getElem?_eq_getElem (by omega)⟩
      obtain ⟨g1, o1, c', hv, hg1⟩ := (ha.1.bel hbw).some_ (by omega)
      injection hv with e1 _ e3
      subst e1 e3
      obtain ⟨g2, o2, c', hv, hg2⟩ := (hb_.1.bel hbw).some_ (by omega)
      injection hv with e1 _ e3
      subst e1 e3
      have hxs := ha.2 x (List.mem_of_getElem? hx)
      have hys := hb_.2 y (List.mem_of_getElem? hy)
      refine W_skip ?_
      refine tN ?_
      refine W_seq ?_
      refine W_block ?_
      refine W_rs ?_
      refine sm rfl rfl ?_
      refine sa rfl rfl ?_
      refine Wn ?_
      refine tN ?_
      refine W_drsN (fun W_ => W_.rangeAt g1 (o1 + j * 33) x.cells ∧ W_.rangeAt g2 (o2 + j * 33) y.cells) [0, 1, 2, 3, 4, 5, 6, 7, 8] [true, true, true, true, true, true, true, true, true] (by kernel_rfl) (by kernel_rfl) (⟨(ha.bel (bdrew hbw)).range hx, (hb_.bel (bdrew hbw)).range hy⟩) ?_
      obtain ⟨w2, hw_⟩ : ∃ w2 : World, w2 = World.drew w1 := ⟨_, rfl⟩
      rw [← hw_]
      have hb : Below w1.heap.size w1 w2 := by rw [hw_]; exact bdrew (Below.refl _ _)
      clear hw_
      have hS := hb
      replace hbw := bthen hbw hb
      have hz_w2 := hb.size
      clear hb
      refine oY rfl (fun W_ hW_ => (X.move rfl)) rfl ?_
      refine oY rfl (fun W_ hW_ => (X.move rfl)) rfl ?_
      refine oY rfl (fun W_ hW_ => (X.idxA rfl rfl Tryd.underlying55 siz59 rfl (by omega))) rfl ?_
      refine oY rfl (fun W_ hW_ => (X.ldN (cs := x.cells) rfl Tryd.underlying59 rfl (by rw [Chk.cells_length hxs]; exact siz59) hW_.1)) rfl ?_
      refine oY rfl (fun W_ hW_ => (X.move rfl)) rfl ?_
      refine oY rfl (fun W_ hW_ => (X.move rfl)) rfl ?_
      refine oY rfl (fun W_ hW_ => (X.idxA rfl rfl Tryd.underlying55 siz59 rfl (by omega))) rfl ?_
      refine oY rfl (fun W_ hW_ => (X.ldN (cs := y.cells) rfl Tryd.underlying59 rfl (by rw [Chk.cells_length hys]; exact siz59) hW_.2)) rfl ?_
      refine oY rfl (fun W_ hW_ => (X.neChk hxs hys rfl rfl)) rfl ?_
      refine oN ?_
      refine nN ?_
      refine W_if rfl (fun h24 => ?_) (fun h24 => ?_)
      · first | replace h24 := of_decide_eq_true h24 | replace h24 := of_decide_eq_false (notT h24) | replace h24 := notT h24 | skip
        refine W_rs ?_
        refine sa rfl rfl ?_
        refine Wn ?_
        refine tN ?_
        refine W_ret (bR (tR (tR (bR (tR ?_)))))
        refine (rT rfl rfl ⟨?_, hbw⟩).1
        rw [show decide (la = lb) = false from decide_eq_false (at_ne hx hy h24)]
      · first | replace h24 := of_decide_eq_false h24 | replace h24 := of_decide_eq_true (notF h24) | replace h24 := notF h24 | skip
        refine W_skip ?_
        refine bN ?_
        refine tN ?_
        refine W_reg ?_
        refine st (X.add64 rfl rfl (by omega)) rfl ?_
        refine sm rfl rfl ?_
        refine Wn ?_
        refine tN ⟨_, _, ?_, ⟨j + 1, rfl, rfl, by omega, by rw [take_next' hx, take_next' hy, hq, Classical.not_not.1 h24], hbw⟩, ⟨rfl, rfl, rfl, rfl, trivial⟩⟩
        omega
    · first | replace h14 := of_decide_eq_false h14 | replace h14 := of_decide_eq_true (notF h14) | replace h14 := notF h14 | skip
      refine W_exit (tE (tE (bH ?_)))
      refine tN ?_
      refine W_rs ?_
      refine sa rfl rfl ?_
      refine Wn ?_
      refine tN ?_
      refine W_ret ?_
      obtain rfl : j = la.length := by omega
      refine (rT rfl rfl ⟨?_, hbw⟩).1
      rw [show decide (la = lb) = true from decide_eq_true (take_all (by omega) hq)]
theorem alike1_any (va vb : Value) (la lb : List Chk) (w : World) (ha : ChksAt w va la) (hb_ : ChksAt w vb lb) :
    Calls Tryd.prog 38 #[va, vb] w fun e w' => e = .returned (.bool (decide (la = lb))) ∧ Below w.heap.size w w' := by
  refine W_enter (args := [va, vb]) 8 Tryd.func38 rfl rfl rfl ?_
  refine W_sub [(0, va), (1, vb)] ?_ ⟨rfl, rfl, trivial⟩
  have hbw := Below.refl w.heap.size w
  refine W_rs ?_
  refine sa rfl rfl ?_
  refine Wn ?_
  refine tN ?_
  refine W_rs ?_
  refine sm rfl rfl ?_
  refine sm rfl rfl ?_
  refine sc _ Tryd.func39 rfl (by kernel_rfl) rfl rfl ((EqualChks_any va vb la lb _ ha hb_).mono ?_)
  rintro e_ w1 ⟨rfl, hb⟩
  refine cR ?_
  replace hbw := bthen hbw hb
  have hz_w1 := hb.size
  clear hb
  refine sa rfl rfl ?_
  refine Wn ?_
  refine tN ?_
  refine W_ret ?_
  exact (rT rfl rfl ⟨rfl, hbw⟩).1
end Go.Proofs.YtcdlileichdeoaaDoor
