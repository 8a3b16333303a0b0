/- The document's answer for refs: Plain, Same, may, Num, Bytes, and the law's small. -/
import Derived.Test.YtnagmpnpgekhfaaRefsAwake
import Derived.Test.YtnagmpnpgekhfaaManText
namespace Go.Proofs.Ytnagmpnpgekhfaa
open Go.RowKit
/-- deltas of the document's answer -/
abbrev RAt (w : World) (v : Value) (l : List Chk) : Prop := Reads w 2 v l.length (l.flatMap rcells)
theorem RAt.range {w : World} {g o c : Nat} {l : List Chk} (h : RAt w (.slice (some ⟨g, o, none⟩) l.length c) l) {j : Nat} {x : Chk} (hx : l[j]? = some x) : w.rangeAt g (o + j * 2) (rcells x) := h.rec_ (fun a _ => rcells_length a) hx
theorem brdel (s : List UInt8) (n : Int) (w : World) : (Instr.build 107 #[(0, str s), (1, .int .i64 n)]).run Try.prog w = .ok (.agg (rcells ⟨s, n⟩).toArray) w := by kernel_rfl
theorem fieldsRDelE : Try.prog.underlying 107 = some (.struct (Try.prog.fieldsOf 107)) := by kernel_rfl
set_option maxRecDepth 30000 in
theorem eqRDel (a b : Chk) (w : World) : (Op.equalIn 10000 107 (.agg (rcells a).toArray) (.agg (rcells b).toArray)).run Try.prog w = .ok (decide (a = b)) w := by
  refine (run_equalIn_struct w 9999 _ _ _ fieldsRDelE (by kernel_rfl)).trans ?_
  have hf := Option.some.inj (fieldsRDelE.symm.trans Try.underlying107)
  injection hf with hf
  rw [hf]
  have h1 : ∀ c : Chk, (part 9 (rcells c).toArray 0).run Try.prog w = .ok (str c.sum) w := fun c => run_part1 Try.underlying9 rfl rfl
  have h2 : ∀ c : Chk, (part 3 (rcells c).toArray 1).run Try.prog w = .ok (.int .i64 c.len) w := fun c => run_part1 Try.underlying3 rfl rfl
  have e1 : (Op.equalIn 9999 9 (str a.sum) (str b.sum)).run Try.prog w = .ok (a.sum == b.sum) w := by
    unfold str
    rw [run_equalIn_string w 9998 9 _ _ Try.underlying9, ByteArray.toList_eq, ByteArray.toList_eq]
  have e2 : (Op.equalIn 9999 3 (.int .i64 a.len) (.int .i64 b.len)).run Try.prog w = .ok (a.len == b.len) w := run_equalIn_int w 9998 3 .i64 .i64 _ _ Try.underlying3
  rw [← chk_dec]
  exact eqFields_cons (by decide) (h1 a) (h1 b) e1 (fun _ => eqFields_one (by decide) (h2 a) (h2 b) e2)
theorem X.neRDel {l : Env} {x y : Operand} {w : World} {t' ty : TypeId} {a b : Chk} (hx : ev l x = some (.agg (rcells a).toArray)) (hy : ev l y = some (.agg (rcells b).toArray)) : X Try.prog l (.binOp .neq 107 x y t') ty w (.bool (decide (a ≠ b))) w :=
  X.bin hx hy (fun c d => run_eqGuard_agg w .neq _ c d _ _ (by kernel_rfl)) (by rw [run_neq_struct, eqRDel]; simp [Result.andThen])
set_option maxRecDepth 10000 in
theorem Plain_any (v : Value) (l : List Chk) (w : World) (h : ChksAt w v l) (hl : l.length ≤ 1000000) :
    Calls Try.prog 21 #[v] w fun e w' => ∃ v', e = .returned v' ∧ Row w' 107 2 v' l.length (l.flatMap rcells) ∧ (∀ k, v'.ownBlock = some k → w.heap.size ≤ k) ∧ Below w.heap.size w w' := by
  obtain ⟨a, cp, rfl, hn, hcp⟩ := h.1.shape
  refine W_enter (args := [.slice a l.length cp]) 27 Try.func21 rfl rfl rfl ?_
  refine W_sub [(0, .slice a l.length cp)] ?_ ⟨rfl, trivial⟩
  have hbw := Below.refl w.heap.size w
  refine W_rs ?_
  refine sa rfl rfl ?_
  refine Wn ?_
  refine tN ?_
  refine W_rs ?_
  refine sa rfl rfl ?_
  refine Wn ?_
  refine tN ?_
  refine W_seq ?_
  refine W_rs ?_
  refine sa rfl rfl ?_
  refine Wn ?_
  refine tN ?_
  refine W_block ?_
  refine W_lp (fun nw1_ lw1_ w1 => ∃ j : Nat, ∃ v : Value, nw1_ = l.length - j ∧ lw1_ = ([(0, .slice a l.length cp), (3, v), (4, .int .i64 j)] : Env) ∧ (j ≤ l.length) ∧ (Row w1 107 2 v j ((l.take j).flatMap rcells)) ∧ (∀ k, v.ownBlock = some k → w.heap.size ≤ k) ∧ (Below w.heap.size w w1)) _ ⟨_, ⟨0, .slice none 0 0, rfl, rfl, by omega, Row.nil _ _ _, (fun k hk => by simp [Value.ownBlock] at hk), hbw⟩, ⟨rfl, rfl, rfl, trivial⟩⟩ ?_
  clear hbw
  rintro nw1_ lw1_ w1 ⟨j, v, rfl, rfl, hj, hR, hO, hbw⟩
  have hz_w1 := hbw.size
  refine W_seq ?_
  refine W_rs ?_
  refine sm rfl rfl ?_
  refine sm rfl rfl ?_
  refine st (X.lenL rfl rfl Try.underlying22) rfl ?_
  refine st (X.lss rfl rfl) rfl ?_
  refine Wn ?_
  refine tN ?_
  refine W_if rfl (fun h8 => ?_) (fun h8 => ?_)
  · first | replace h8 := of_decide_eq_true h8 | replace h8 := of_decide_eq_false (notT h8) | replace h8 := notT h8 | skip
    obtain ⟨x, hx⟩ : ∃ x, l[j]? = some x := ⟨_, List.getElem?_eq_getElem (by omega)⟩
    obtain ⟨g1, o1, c', hv, hg1⟩ := (h.1.bel hbw).some_ (by omega)
    injection hv with e1 _ e3
    subst e1 e3
    have hxs := h.2 x (List.mem_of_getElem? hx)
    refine W_skip ?_
    refine tN ?_
    refine W_seq ?_
    refine W_block ?_
    refine W_drN (fun W_ => W_.rangeAt g1 (o1 + j * 33) x.cells) [0, 1, 2, 3, 4, 5, 7, 8, 9, 10, 11, 6, 12, 13, 14, 15] [true, true, true, true, true, true, true, true, true, true, true, false, true, false, false, true] (by kernel_rfl) (by kernel_rfl) ((h.bel (bdrew hbw)).range hx) ?_
    obtain ⟨w2, hw_⟩ : ∃ w2 : World, w2 = World.drew w1 := ⟨_, rfl⟩
    rw [← hw_]
    have hb : Below w1.heap.size w1 w2 := by rw [hw_]; exact bdrew (Below.refl _ _)
    clear hw_
    have hS := hb
    have hpend := hb
    replace hbw := bthen hbw hb
    have hz_w2 := hb.size
    clear hb
    refine oY rfl (fun W_ hW_ => (X.move rfl)) rfl ?_
    refine oY rfl (fun W_ hW_ => (X.move rfl)) rfl ?_
    refine oY rfl (fun W_ hW_ => (X.move rfl)) rfl ?_
    refine oY rfl (fun W_ hW_ => (X.idxA rfl rfl Try.underlying22 siz57 rfl (by omega))) rfl ?_
    refine oY rfl (fun W_ hW_ => (X.fa fa57_0 rfl)) rfl ?_
    refine oY rfl (fun W_ hW_ => (X.ldN (cs := x.sum.map bv) rfl Try.underlying36 rfl (by rw [List.length_map, hxs]; exact siz36) (sumRange hW_))) rfl ?_
    refine oY rfl (fun W_ hW_ => (X.move rfl)) rfl ?_
    refine oY rfl (fun W_ hW_ => (X.move rfl)) rfl ?_
    refine oY rfl (fun W_ hW_ => (X.idxA rfl rfl Try.underlying22 siz57 rfl (by omega))) rfl ?_
    refine oY rfl (fun W_ hW_ => (X.fa fa57_1 rfl)) rfl ?_
    refine oY rfl (fun W_ hW_ => (X.ld rfl Try.underlying3 rfl (hW_ 32 (.int .i64 x.len) (by simp [Chk.cells, hxs])))) rfl ?_
    refine oL rfl (fun Q_ hQ_ hP_ => ?_)
    refine sc _ Try.func34 rfl (by kernel_rfl) rfl rfl ((Text_any x.sum _ hxs).mono ?_)
    rintro e_ w3 ⟨rfl, hb⟩
    refine cR ?_
    replace hpend := bthen hpend hb
    replace hbw := bthen hbw hb
    have hz_w3 := hb.size
    clear hb
    refine Wn (hQ_ _ _ ((h.bel hbw).range hx) ?_)
    clear hQ_ hP_ Q_
    refine oY rfl (fun W_ hW_ => (X.bld rfl (brdel _ _ _))) rfl ?_
    refine oL rfl (fun Q_ hQ_ hP_ => ?_)
    refine sbs1 rfl Try.underlying29 inf107 rfl rfl (by decide) (by decide) rfl (fun g24 w4 hR24 hg24 hb => ?_)
    replace hpend := bthen hpend hb
    replace hbw := bthen hbw hb
    have hz_w4 := hb.size
    clear hb
    have hl24 := hR24.blt (by decide)
    refine Wn (hQ_ _ _ ((h.bel hbw).range hx) ?_)
    clear hQ_ hP_ Q_
    refine oL rfl (fun Q_ hQ_ hP_ => ?_)
    replace hR := hR.bel hpend
    clear hpend
    refine sapp rfl rfl Try.underlying29 inf107 rfl (by decide) hR (hR24.reads.src Try.underlying29 (rcells_one x)) (by simp only [maxLen]; omega) (by omega) rfl (fun v' w5 hR' hC hv' => ?_)
    replace hbw := bapp hbw hC hO
    replace hO := own_next hv' hO (by omega)
    clear hC hv'
    refine Wn (hQ_ _ _ ((h.bel hbw).range hx) ?_)
    clear hQ_ hP_ Q_
    refine oY rfl (fun W_ hW_ => (X.assign rfl)) rfl ?_
    refine oN ?_
    refine nN ?_
    refine bN ?_
    refine tN ?_
    refine W_reg ?_
    refine sm rfl rfl ?_
    refine st (X.add64 rfl rfl (by omega)) rfl ?_
    refine sa rfl rfl ?_
    refine Wn ?_
    refine tN ⟨_, _, ?_, ⟨j + 1, v', rfl, rfl, by omega, by rw [take_next' hx, List.flatMap_append]; exact hR', hO, hbw⟩, ⟨rfl, rfl, rfl, trivial⟩⟩
    omega
  · first | replace h8 := of_decide_eq_false h8 | replace h8 := of_decide_eq_true (notF h8) | replace h8 := notF h8 | skip
    obtain rfl : j = l.length := by omega
    rw [List.take_length] at hR
    refine W_exit (tE (tE (bH ?_)))
    refine tN ?_
    refine W_rs ?_
    refine sm rfl rfl ?_
    refine sa rfl rfl ?_
    refine Wn ?_
    refine tN ?_
    refine W_ret ?_
    exact (rT rfl rfl ⟨_, rfl, hR, hO, hbw⟩).1
theorem RSame_any (va vb : Value) (la lb : List Chk) (w : World) (ha : RAt w va la) (hb_ : RAt w vb lb) :
    Calls Try.prog 65 #[va, vb] w fun e w' => e = .returned (.bool (decide (la = lb))) ∧ Below w.heap.size w w' := by
  obtain ⟨aa, ca, rfl, han, hac⟩ := ha.shape
  obtain ⟨ab, cb, rfl, hbn, hbc⟩ := hb_.shape
  refine W_enter (args := [.slice aa la.length ca, .slice ab lb.length cb]) 26 Try.func65 rfl rfl rfl ?_
  refine W_sub [(0, .slice aa la.length ca), (1, .slice ab lb.length cb)] ?_ ⟨rfl, rfl, trivial⟩
  have hbw := Below.refl w.heap.size w
  refine W_rs ?_
  refine sa rfl rfl ?_
  refine Wn ?_
  refine tN ?_
  refine W_seq ?_
  refine W_rs ?_
  refine sm rfl rfl ?_
  refine st (X.lenL rfl rfl Try.underlying29) rfl ?_
  refine sm rfl rfl ?_
  refine st (X.lenL rfl rfl Try.underlying29) rfl ?_
  refine st (X.neq rfl rfl) rfl ?_
  refine Wn ?_
  refine tN ?_
  refine W_if rfl (fun h10 => ?_) (fun h10 => ?_)
  · first | replace h10 := of_decide_eq_true h10 | replace h10 := of_decide_eq_false (notT h10) | replace h10 := notT h10 | skip
    refine W_rs ?_
    refine sa rfl rfl ?_
    refine Wn ?_
    refine tN ?_
    refine W_ret (tR ?_)
    refine (rT rfl rfl ⟨?_, hbw⟩).1
    rw [show decide (la = lb) = false from decide_eq_false (fun h => by subst h; exact h10 rfl)]
  · first | replace h10 := of_decide_eq_false h10 | replace h10 := of_decide_eq_true (notF h10) | replace h10 := notF h10 | skip
    refine W_skip ?_
    refine tN ?_
    refine W_seq ?_
    refine W_rs ?_
    refine sa rfl rfl ?_
    refine Wn ?_
    refine tN ?_
    refine W_block ?_
    refine W_lp (fun nw1_ lw1_ w1 => ∃ j : Nat, nw1_ = la.length - j ∧ lw1_ = ([(0, .slice aa la.length ca), (1, .slice ab lb.length cb), (5, .int .i64 j)] : Env) ∧ (j ≤ la.length) ∧ (la.take j = lb.take j) ∧ (Below w.heap.size w w1)) _ ⟨_, ⟨0, rfl, rfl, by omega, rfl, hbw⟩, ⟨rfl, rfl, rfl, trivial⟩⟩ ?_
    clear hbw
    rintro nw1_ lw1_ w1 ⟨j, rfl, rfl, hj, hq, hbw⟩
    have hz_w1 := hbw.size
    refine W_seq ?_
    refine W_rs ?_
    refine sm rfl rfl ?_
    refine sm rfl rfl ?_
    refine st (X.lenL rfl rfl Try.underlying29) rfl ?_
    refine st (X.lss rfl rfl) rfl ?_
    refine Wn ?_
    refine tN ?_
    refine W_if rfl (fun h14 => ?_) (fun h14 => ?_)
    · first | replace h14 := of_decide_eq_true h14 | replace h14 := of_decide_eq_false (notT h14) | replace h14 := notT h14 | skip
      obtain ⟨x, hx⟩ : ∃ x, la[j]? = some x := ⟨_, List.getElem?_eq_getElem (by omega)⟩
      obtain ⟨y, hy⟩ : ∃ y, lb[j]? = some y := ⟨_, List.getElem?_eq_getElem (by omega)⟩
      obtain ⟨g1, o1, c', hv, hg1⟩ := (ha.bel hbw).some_ (by omega)
      injection hv with e1 _ e3
      subst e1 e3
      obtain ⟨g2, o2, c', hv, hg2⟩ := (hb_.bel hbw).some_ (by omega)
      injection hv with e1 _ e3
      subst e1 e3
      refine W_skip ?_
      refine tN ?_
      refine W_seq ?_
      refine W_block ?_
      refine W_drsN (fun W_ => W_.rangeAt g1 (o1 + j * 2) (rcells x) ∧ W_.rangeAt g2 (o2 + j * 2) (rcells y)) [0, 1, 2, 3, 4, 5, 6, 7, 8] [true, true, true, true, true, true, true, true, true] (by kernel_rfl) (by kernel_rfl) (⟨RAt.range (ha.bel (bdrew hbw)) hx, RAt.range (hb_.bel (bdrew hbw)) hy⟩) ?_
      obtain ⟨w2, hw_⟩ : ∃ w2 : World, w2 = World.drew w1 := ⟨_, rfl⟩
      rw [← hw_]
      have hb : Below w1.heap.size w1 w2 := by rw [hw_]; exact bdrew (Below.refl _ _)
      clear hw_
      have hS := hb
      replace hbw := bthen hbw hb
      have hz_w2 := hb.size
      clear hb
      refine oY rfl (fun W_ hW_ => (X.move rfl)) rfl ?_
      refine oY rfl (fun W_ hW_ => (X.move rfl)) rfl ?_
      refine oY rfl (fun W_ hW_ => (X.idxA rfl rfl Try.underlying29 siz107 rfl (by omega))) rfl ?_
      refine oY rfl (fun W_ hW_ => (X.ldN (cs := rcells x) rfl Try.underlying107 rfl siz107 hW_.1)) rfl ?_
      refine oY rfl (fun W_ hW_ => (X.move rfl)) rfl ?_
      refine oY rfl (fun W_ hW_ => (X.move rfl)) rfl ?_
      refine oY rfl (fun W_ hW_ => (X.idxA rfl rfl Try.underlying29 siz107 rfl (by omega))) rfl ?_
      refine oY rfl (fun W_ hW_ => (X.ldN (cs := rcells y) rfl Try.underlying107 rfl siz107 hW_.2)) rfl ?_
      refine oY rfl (fun W_ hW_ => (X.neRDel rfl rfl)) rfl ?_
      refine oN ?_
      refine nN ?_
      refine W_if rfl (fun h25 => ?_) (fun h25 => ?_)
      · first | replace h25 := of_decide_eq_true h25 | replace h25 := of_decide_eq_false (notT h25) | replace h25 := notT h25 | skip
        refine W_rs ?_
        refine sa rfl rfl ?_
        refine Wn ?_
        refine tN ?_
        refine W_ret (bR (tR (tR (bR (tR ?_)))))
        refine (rT rfl rfl ⟨?_, hbw⟩).1
        rw [show decide (la = lb) = false from decide_eq_false (at_ne hx hy h25)]
      · first | replace h25 := of_decide_eq_false h25 | replace h25 := of_decide_eq_true (notF h25) | replace h25 := notF h25 | skip
        refine W_skip ?_
        refine bN ?_
        refine tN ?_
        refine W_reg ?_
        refine sm rfl rfl ?_
        refine st (X.add64 rfl rfl (by omega)) rfl ?_
        refine sa rfl rfl ?_
        refine Wn ?_
        refine tN ⟨_, _, ?_, ⟨j + 1, rfl, rfl, by omega, by rw [take_next' hx, take_next' hy, hq, Classical.not_not.1 h25], hbw⟩, ⟨rfl, rfl, rfl, trivial⟩⟩
        omega
    · first | replace h14 := of_decide_eq_false h14 | replace h14 := of_decide_eq_true (notF h14) | replace h14 := notF h14 | skip
      refine W_exit (tE (tE (bH ?_)))
      refine tN ?_
      refine W_rs ?_
      refine sa rfl rfl ?_
      refine Wn ?_
      refine tN ?_
      refine W_ret ?_
      obtain rfl : j = la.length := by omega
      refine (rT rfl rfl ⟨?_, hbw⟩).1
      rw [show decide (la = lb) = true from decide_eq_true (take_all (by omega) hq)]
theorem Same_any (v u : Value) (l m : List Chk) (w : World) (h : ChksAt w v l) (hl : l.length ≤ 1000000) (hu : RAt w u m) :
    Calls Try.prog 22 #[v, u] w fun e w' => e = .returned (.bool (decide (l = m))) ∧ Below w.heap.size w w' := by
  refine W_enter (args := [v, u]) 9 Try.func22 rfl rfl rfl ?_
  refine W_sub [(0, v), (1, u)] ?_ ⟨rfl, rfl, trivial⟩
  have hbw := Below.refl w.heap.size w
  refine W_rs ?_
  refine sa rfl rfl ?_
  refine Wn ?_
  refine tN ?_
  refine W_rs ?_
  refine sm rfl rfl ?_
  refine sc _ Try.func21 rfl (by kernel_rfl) rfl rfl ((Plain_any v l _ (h.bel hbw) hl).mono ?_)
  rintro e_ w1 ⟨v', rfl, hR, hO, hb⟩
  refine cR ?_
  replace hbw := bthen hbw hb
  have hz_w1 := hb.size
  clear hb
  refine sm rfl rfl ?_
  refine sc _ Try.func65 rfl (by kernel_rfl) rfl rfl ((RSame_any v' u l m _ hR.reads (hu.bel hbw)).mono ?_)
  rintro e_ w2 ⟨rfl, hb⟩
  refine cR ?_
  replace hbw := bthen hbw hb
  have hz_w2 := hb.size
  clear hb
  refine sa rfl rfl ?_
  refine Wn ?_
  refine tN ?_
  refine W_ret ?_
  exact (rT rfl rfl ⟨rfl, hbw⟩).1
theorem rmay_any (v : Value) (l : List Chk) (w : World) (h : RAt w v l) : Calls Try.prog 64 #[v] w fun e w' => e = .returned (.int .i64 (mayM l)) ∧ Below w.heap.size w w' := by
  obtain ⟨a, cp, rfl, hn, hcp⟩ := h.shape
  refine W_enter (args := [.slice a l.length cp]) 27 Try.func64 rfl rfl rfl ?_
  refine W_sub [(0, .slice a l.length cp)] ?_ ⟨rfl, trivial⟩
  have hbw := Below.refl w.heap.size w
  refine W_rs ?_
  refine sa rfl rfl ?_
  refine Wn ?_
  refine tN ?_
  refine W_seq ?_
  refine W_rs ?_
  refine sm rfl rfl ?_
  refine st (X.lenL rfl rfl Try.underlying29) rfl ?_
  refine st (X.gtr rfl rfl) rfl ?_
  refine Wn ?_
  refine tN ?_
  refine W_if rfl (fun h6 => ?_) (fun h6 => ?_)
  · first | replace h6 := of_decide_eq_true h6 | replace h6 := of_decide_eq_false (notT h6) | replace h6 := notT h6 | skip
    refine W_rs ?_
    refine sa rfl rfl ?_
    refine Wn ?_
    refine tN ?_
    refine W_ret (tR ?_)
    refine (rT rfl rfl ⟨?_, hbw⟩).1
    rw [show mayM l = 31 by unfold mayM; rw [if_pos (by omega)]]
  · first | replace h6 := of_decide_eq_false h6 | replace h6 := of_decide_eq_true (notF h6) | replace h6 := notF h6 | skip
    refine W_skip ?_
    refine tN ?_
    refine W_seq ?_
    refine W_rs ?_
    refine sa rfl rfl ?_
    refine Wn ?_
    refine tN ?_
    refine W_block ?_
    refine W_lp (fun nw1_ lw1_ w1 => ∃ j : Nat, nw1_ = l.length - j ∧ lw1_ = ([(0, .slice a l.length cp), (3, .int .i64 j)] : Env) ∧ (j ≤ l.length) ∧ (l.any badN = (l.drop j).any badN) ∧ (Below w.heap.size w w1)) _ ⟨_, ⟨0, rfl, rfl, by omega, rfl, hbw⟩, ⟨rfl, rfl, trivial⟩⟩ ?_
    clear hbw
    rintro nw1_ lw1_ w1 ⟨j, rfl, rfl, hj, hq, hbw⟩
    have hz_w1 := hbw.size
    refine W_seq ?_
    refine W_rs ?_
    refine sm rfl rfl ?_
    refine sm rfl rfl ?_
    refine st (X.lenL rfl rfl Try.underlying29) rfl ?_
    refine st (X.lss rfl rfl) rfl ?_
    refine Wn ?_
    refine tN ?_
    refine W_if rfl (fun h10 => ?_) (fun h10 => ?_)
    · first | replace h10 := of_decide_eq_true h10 | replace h10 := of_decide_eq_false (notT h10) | replace h10 := notT h10 | skip
      obtain ⟨x, hx⟩ : ∃ x, l[j]? = some x := ⟨_, List.getElem?_eq_getElem (by omega)⟩
      obtain ⟨g1, o1, c', hv, hg1⟩ := (h.bel hbw).some_ (by omega)
      injection hv with e1 _ e3
      subst e1 e3
      have hrg := RAt.range (h.bel hbw) hx
      refine W_skip ?_
      refine tN ?_
      refine W_seq ?_
      refine W_block ?_
      refine W_rs ?_
      refine sm rfl rfl ?_
      refine sm rfl rfl ?_
      refine st (X.idxA rfl rfl Try.underlying29 siz107 rfl (by omega)) rfl ?_
      refine st (X.fa fa107_1 rfl) rfl ?_
      refine st (X.ld rfl Try.underlying3 rfl (hrg 1 _ rfl)) rfl ?_
      refine st (X.lss rfl rfl) rfl ?_
      refine sb rfl rfl (fun h19 => ?_) (fun h19 => ?_)
      · first | replace h19 := of_decide_eq_true h19 | replace h19 := of_decide_eq_false (notT h19) | replace h19 := notT h19 | skip
        refine gN (g := 19) rfl rfl rfl rfl ?_
        refine gN (g := 19) rfl rfl rfl rfl ?_
        refine gN (g := 19) rfl rfl rfl rfl ?_
        refine gN (g := 19) rfl rfl rfl rfl ?_
        refine gN (g := 19) rfl rfl rfl rfl ?_
        refine gN (g := 19) rfl rfl rfl rfl ?_
        refine st (X.pickT rfl rfl) rfl ?_
        refine Wn ?_
        refine tN ?_
        refine W_yes rfl (rfl) ?_
        refine W_rs ?_
        refine sa rfl rfl ?_
        refine Wn ?_
        refine tN ?_
        refine W_ret (bR (tR (tR (bR (tR ?_)))))
        have hyes : badN x = true := decide_eq_true (by omega)
        refine (rT rfl rfl ⟨?_, hbw⟩).1
        rw [show mayM l = 1 by unfold mayM; rw [if_neg (by omega), if_pos (by rw [hq, any_drop badN hx, hyes]; rfl)]]
      · first | replace h19 := of_decide_eq_false h19 | replace h19 := of_decide_eq_true (notF h19) | replace h19 := notF h19 | skip
        refine gY (g := 19) rfl rfl rfl ?_
        refine sm rfl rfl ?_
        refine gY (g := 19) rfl rfl rfl ?_
        refine sm rfl rfl ?_
        refine gY (g := 19) rfl rfl rfl ?_
        refine st (X.idxA rfl rfl Try.underlying29 siz107 rfl (by omega)) rfl ?_
        refine gY (g := 19) rfl rfl rfl ?_
        refine st (X.fa fa107_1 rfl) rfl ?_
        refine gY (g := 19) rfl rfl rfl ?_
        refine st (X.ld rfl Try.underlying3 rfl (hrg 1 _ rfl)) rfl ?_
        refine gY (g := 19) rfl rfl rfl ?_
        refine st (X.gtr rfl rfl) rfl ?_
        refine st (X.pickF rfl rfl) rfl ?_
        refine Wn ?_
        refine tN ?_
        refine W_if rfl (fun h26 => ?_) (fun h26 => ?_)
        · first | replace h26 := of_decide_eq_true h26 | replace h26 := of_decide_eq_false (notT h26) | replace h26 := notT h26 | skip
          refine W_rs ?_
          refine sa rfl rfl ?_
          refine Wn ?_
          refine tN ?_
          refine W_ret (bR (tR (tR (bR (tR ?_)))))
          have hyes : badN x = true := decide_eq_true (by omega)
          refine (rT rfl rfl ⟨?_, hbw⟩).1
          rw [show mayM l = 1 by unfold mayM; rw [if_neg (by omega), if_pos (by rw [hq, any_drop badN hx, hyes]; rfl)]]
        · first | replace h26 := of_decide_eq_false h26 | replace h26 := of_decide_eq_true (notF h26) | replace h26 := notF h26 | skip
          have hno : badN x = false := decide_eq_false (by omega)
          refine W_skip ?_
          refine bN ?_
          refine tN ?_
          refine W_reg ?_
          refine sm rfl rfl ?_
          refine st (X.add64 rfl rfl (by omega)) rfl ?_
          refine sa rfl rfl ?_
          refine Wn ?_
          refine tN ⟨_, _, ?_, ⟨j + 1, rfl, rfl, by omega, by rw [hq, any_drop badN hx, hno]; rfl, hbw⟩, ⟨rfl, rfl, trivial⟩⟩
          omega
    · first | replace h10 := of_decide_eq_false h10 | replace h10 := of_decide_eq_true (notF h10) | replace h10 := notF h10 | skip
      refine W_exit (tE (tE (bH ?_)))
      refine tN ?_
      refine W_rs ?_
      refine sa rfl rfl ?_
      refine Wn ?_
      refine tN ?_
      refine W_ret ?_
      obtain rfl : j = l.length := by omega
      refine (rT rfl rfl ⟨?_, hbw⟩).1
      rw [List.drop_length] at hq
      rw [show mayM l = 0 by unfold mayM; rw [if_neg (by omega), if_neg (by rw [hq]; simp)]]
/-- the numbers are such that sums of them may be told, and not too many -/
def smallM (l : List Chk) : Bool := l.all (fun c => decide (-1099511627776 ≤ c.len ∧ c.len ≤ 1099511627776)) && decide (l.length ≤ 60)
theorem smallM_ok {l : List Chk} (h : smallM l = true) : Tame l ∧ l.length ≤ 60 := by
  unfold smallM at h
  rw [Bool.and_eq_true, decide_eq_true_eq, List.all_eq_true] at h
  exact ⟨fun c hc => of_decide_eq_true (h.1 c hc), h.2⟩
theorem all_drop {α : Type} (p : α → Bool) {l : List α} {j : Nat} {x : α} (h : l[j]? = some x) : (l.drop j).all p = (p x && (l.drop (j + 1)).all p) := by
  obtain ⟨hj, rfl⟩ := List.getElem?_eq_some_iff.1 h
  rw [List.drop_eq_getElem_cons hj, List.all_cons]
theorem small_any (v : Value) (l : List Chk) (w : World) (h : ChksAt w v l) : Calls Try.prog 17 #[v] w fun e w' => e = .returned (.bool (smallM l)) ∧ Below w.heap.size w w' := by
  obtain ⟨a, cp, rfl, hn, hcp⟩ := h.1.shape
  obtain ⟨p, hp⟩ : ∃ p : Chk → Bool, (fun c => decide (-1099511627776 ≤ c.len ∧ c.len ≤ 1099511627776)) = p := ⟨_, rfl⟩
  have hps : smallM l = (l.all p && decide (l.length ≤ 60)) := by unfold smallM; rw [← hp]
  refine W_enter (args := [.slice a l.length cp]) 27 Try.func17 rfl rfl rfl ?_
  refine W_sub [(0, .slice a l.length cp)] ?_ ⟨rfl, trivial⟩
  have hbw := Below.refl w.heap.size w
  refine W_rs ?_
  refine sa rfl rfl ?_
  refine Wn ?_
  refine tN ?_
  refine W_seq ?_
  refine W_rs ?_
  refine sa rfl rfl ?_
  refine Wn ?_
  refine tN ?_
  refine W_block ?_
  refine W_lp (fun nw1_ lw1_ w1 => ∃ j : Nat, nw1_ = l.length - j ∧ lw1_ = ([(0, .slice a l.length cp), (3, .int .i64 j)] : Env) ∧ (j ≤ l.length) ∧ (l.all p = (l.drop j).all p) ∧ (Below w.heap.size w w1)) _ ⟨_, ⟨0, rfl, rfl, by omega, rfl, hbw⟩, ⟨rfl, rfl, trivial⟩⟩ ?_
  clear hbw
  rintro nw1_ lw1_ w1 ⟨j, rfl, rfl, hj, hq, hbw⟩
  have hz_w1 := hbw.size
  refine W_seq ?_
  refine W_rs ?_
  refine sm rfl rfl ?_
  refine sm rfl rfl ?_
  refine st (X.lenL rfl rfl Try.underlying22) rfl ?_
  refine st (X.lss rfl rfl) rfl ?_
  refine Wn ?_
  refine tN ?_
  refine W_if rfl (fun h7 => ?_) (fun h7 => ?_)
  · first | replace h7 := of_decide_eq_true h7 | replace h7 := of_decide_eq_false (notT h7) | replace h7 := notT h7 | skip
    obtain ⟨x, hx⟩ : ∃ x, l[j]? = some x := ⟨_, List.getElem?_eq_getElem (by omega)⟩
    obtain ⟨g1, o1, c', hv, hg1⟩ := (h.1.bel hbw).some_ (by omega)
    injection hv with e1 _ e3
    subst e1 e3
    have hxs := h.2 x (List.mem_of_getElem? hx)
    have hrg := (h.bel hbw).range hx
    refine W_skip ?_
    refine tN ?_
    refine W_seq ?_
    refine W_block ?_
    refine W_rs ?_
    refine sm rfl rfl ?_
    refine sm rfl rfl ?_
    refine st (X.idxA rfl rfl Try.underlying22 siz57 rfl (by omega)) rfl ?_
    refine st (X.fa fa57_1 rfl) rfl ?_
    refine st (X.ld rfl Try.underlying3 rfl (hrg 32 (.int .i64 x.len) (by simp [Chk.cells, hxs]))) rfl ?_
    refine st (X.lss rfl rfl) rfl ?_
    refine sb rfl rfl (fun h16 => ?_) (fun h16 => ?_)
    · first | replace h16 := of_decide_eq_true h16 | replace h16 := of_decide_eq_false (notT h16) | replace h16 := notT h16 | skip
      refine gN (g := 16) rfl rfl rfl rfl ?_
      refine gN (g := 16) rfl rfl rfl rfl ?_
      refine gN (g := 16) rfl rfl rfl rfl ?_
      refine gN (g := 16) rfl rfl rfl rfl ?_
      refine gN (g := 16) rfl rfl rfl rfl ?_
      refine gN (g := 16) rfl rfl rfl rfl ?_
      refine st (X.pickT rfl rfl) rfl ?_
      refine Wn ?_
      refine tN ?_
      refine W_yes rfl (rfl) ?_
      refine W_rs ?_
      refine sa rfl rfl ?_
      refine Wn ?_
      refine tN ?_
      refine W_ret (bR (tR (tR (bR (tR ?_)))))
      have hyes : p x = false := by rw [← hp]; exact decide_eq_false (by omega)
      refine (rT rfl rfl ⟨?_, hbw⟩).1
      rw [hps, hq, all_drop p hx, hyes]; rfl
    · first | replace h16 := of_decide_eq_false h16 | replace h16 := of_decide_eq_true (notF h16) | replace h16 := notF h16 | skip
      refine gY (g := 16) rfl rfl rfl ?_
      refine sm rfl rfl ?_
      refine gY (g := 16) rfl rfl rfl ?_
      refine sm rfl rfl ?_
      refine gY (g := 16) rfl rfl rfl ?_
      refine st (X.idxA rfl rfl Try.underlying22 siz57 rfl (by omega)) rfl ?_
      refine gY (g := 16) rfl rfl rfl ?_
      refine st (X.fa fa57_1 rfl) rfl ?_
      refine gY (g := 16) rfl rfl rfl ?_
      refine st (X.ld rfl Try.underlying3 rfl (hrg 32 (.int .i64 x.len) (by simp [Chk.cells, hxs]))) rfl ?_
      refine gY (g := 16) rfl rfl rfl ?_
      refine st (X.gtr rfl rfl) rfl ?_
      refine st (X.pickF rfl rfl) rfl ?_
      refine Wn ?_
      refine tN ?_
      refine W_if rfl (fun h23 => ?_) (fun h23 => ?_)
      · first | replace h23 := of_decide_eq_true h23 | replace h23 := of_decide_eq_false (notT h23) | replace h23 := notT h23 | skip
        refine W_rs ?_
        refine sa rfl rfl ?_
        refine Wn ?_
        refine tN ?_
        refine W_ret (bR (tR (tR (bR (tR ?_)))))
        have hyes : p x = false := by rw [← hp]; exact decide_eq_false (by omega)
        refine (rT rfl rfl ⟨?_, hbw⟩).1
        rw [hps, hq, all_drop p hx, hyes]; rfl
      · first | replace h23 := of_decide_eq_false h23 | replace h23 := of_decide_eq_true (notF h23) | replace h23 := notF h23 | skip
        have hno : p x = true := by rw [← hp]; exact decide_eq_true (by omega)
        refine W_skip ?_
        refine bN ?_
        refine tN ?_
        refine W_reg ?_
        refine sm rfl rfl ?_
        refine st (X.add64 rfl rfl (by omega)) rfl ?_
        refine sa rfl rfl ?_
        refine Wn ?_
        refine tN ⟨_, _, ?_, ⟨j + 1, rfl, rfl, by omega, by rw [hq, all_drop p hx, hno]; rfl, hbw⟩, ⟨rfl, rfl, trivial⟩⟩
        omega
  · first | replace h7 := of_decide_eq_false h7 | replace h7 := of_decide_eq_true (notF h7) | replace h7 := notF h7 | skip
    refine W_exit (tE (tE (bH ?_)))
    refine tN ?_
    refine W_rs ?_
    refine sm rfl rfl ?_
    refine st (X.lenL rfl rfl Try.underlying22) rfl ?_
    refine st (X.leq rfl rfl) rfl ?_
    refine sa rfl rfl ?_
    refine Wn ?_
    refine tN ?_
    refine W_ret ?_
    obtain rfl : j = l.length := by omega
    refine (rT rfl rfl ⟨?_, hbw⟩).1
    rw [hps, hq, List.drop_length, List.all_nil, Bool.true_and]; congr 2; rw [decide_eq_decide]; omega
def fourD (n : Int) : Nat → List UInt8
  | 0 => []
  | k + 1 => fourD n k ++ [byteI (n / 256 ^ k)]
theorem wbm (m : Int) : IntKind.u8.wrap (m % 256) = ((byteI m).toNat : Int) := by rw [w8, byteI_toNat]; omega
theorem Num_any (n : Int) (w : World) (h0 : 0 ≤ n) (h1 : n ≤ 9223372036854775807) : Calls Try.prog 67 #[.int .i64 n] w fun e w' => e = .returned (str (four n)) ∧ Below w.heap.size w w' := by
  refine W_enter (args := [.int .i64 n]) 19 Try.func67 rfl rfl rfl ?_
  refine W_sub [(0, .int .i64 n)] ?_ ⟨rfl, trivial⟩
  have hbw := Below.refl w.heap.size w
  refine W_rs ?_
  refine sa rfl rfl ?_
  refine Wn ?_
  refine tN ?_
  refine W_rs ?_
  refine sa rfl rfl ?_
  refine Wn ?_
  refine tN ?_
  refine W_seq ?_
  refine W_rs ?_
  refine sa rfl rfl ?_
  refine Wn ?_
  refine tN ?_
  refine W_block ?_
  refine W_lp (fun nw1_ lw1_ w1 => ∃ k : Nat, ∃ m : Int, nw1_ = 4 - k ∧ lw1_ = ([(0, .int .i64 m), (3, str (fourD n k)), (4, .int .i64 k)] : Env) ∧ (k ≤ 4) ∧ (m = n / 256 ^ k) ∧ (0 ≤ m ∧ m ≤ 9223372036854775807) ∧ (Below w.heap.size w w1)) _ ⟨_, ⟨0, n, rfl, rfl, by omega, by simp, ⟨h0, h1⟩, hbw⟩, ⟨rfl, rfl, rfl, trivial⟩⟩ ?_
  clear hbw
  rintro nw1_ lw1_ w1 ⟨k, m, rfl, rfl, hk, hm, hm0, hbw⟩
  have hz_w1 := hbw.size
  refine W_seq ?_
  refine W_rs ?_
  refine sm rfl rfl ?_
  refine st (X.lss rfl rfl) rfl ?_
  refine Wn ?_
  refine tN ?_
  refine W_if rfl (fun h6 => ?_) (fun h6 => ?_)
  · first | replace h6 := of_decide_eq_true h6 | replace h6 := of_decide_eq_false (notT h6) | replace h6 := notT h6 | skip
    have hfl : (fourD n k).length = k := by clear hm hm0; induction k with | zero => rfl | succ q ih => (rw [fourD, List.length_append, ih (by omega) (by omega)]; rfl)
    refine W_skip ?_
    refine tN ?_
    refine W_seq ?_
    refine W_block ?_
    refine W_rs ?_
    refine sm rfl rfl ?_
    refine sm rfl rfl ?_
    refine st (X.rem64 rfl rfl (by omega) (by omega)) rfl ?_
    refine st (X.convI rfl Try.underlying3 Try.underlying5 (wbm m)) rfl ?_
    refine sbs1 rfl Try.underlying81 inf5 rfl rfl (by decide) (by decide) rfl (fun g13 w2 hR13 hg13 hb => ?_)
    replace hbw := bthen hbw hb
    have hz_w2 := hb.size
    clear hb
    have hl13 := hR13.blt (by decide)
    refine st (X.strOf (s := [byteI m]) rfl Try.underlying81 Try.underlying5 Try.underlying9 hR13.reads) rfl ?_
    refine st (X.cat rfl rfl (by rw [hfl]; simp; omega)) rfl ?_
    refine sa rfl rfl ?_
    refine Wn ?_
    refine tN ?_
    refine W_reg ?_
    rw [show fourD n k ++ [byteI m] = fourD n (k + 1) by rw [hm]; rfl]
    refine sm rfl rfl ?_
    refine st (X.quo64 rfl rfl (by omega) (by omega) (by omega)) rfl ?_
    refine sa rfl rfl ?_
    refine Wn ?_
    refine bN ?_
    refine tN ?_
    refine W_reg ?_
    refine sm rfl rfl ?_
    refine st (X.add64 rfl rfl (by omega)) rfl ?_
    refine sa rfl rfl ?_
    refine Wn ?_
    refine tN ⟨_, _, ?_, ⟨k + 1, m / 256, rfl, rfl, by omega, by rw [hm, Int.pow_succ, Int.ediv_ediv_of_nonneg (Int.pow_nonneg (by decide))], by omega, hbw⟩, ⟨rfl, rfl, rfl, trivial⟩⟩
    omega
  · first | replace h6 := of_decide_eq_false h6 | replace h6 := of_decide_eq_true (notF h6) | replace h6 := notF h6 | skip
    refine W_exit (tE (tE (bH ?_)))
    refine tN ?_
    refine W_rs ?_
    refine sm rfl rfl ?_
    refine sa rfl rfl ?_
    refine Wn ?_
    refine tN ?_
    refine W_ret ?_
    obtain rfl : k = 4 := by omega
    refine (rT rfl rfl ⟨?_, hbw⟩).1
    rw [show fourD n 4 = four n by simp [fourD, four]]
end Go.Proofs.Ytnagmpnpgekhfaa
