/- deltas of the document's answer: armariumlaw17's Plain, Same; armariumref17's Same. armariumref17.Net. -/
import Derived.Test.YtnagmpnpgekhfaaDoorManText
import Derived.Test.YtnagmpnpgekhfaaDoorStructEq0
import Derived.Test.YtnagmpnpgekhfaaDoorRowsRow
import Derived.Test.YtnagmpnpgekhfaaDoorNetPlain
import Derived.Test.YtnagmpnpgekhfaaDoorNetRun
import Derived.Test.YtnagmpnpgekhfaaDoorOps4
namespace Go.Proofs.YtnagmpnpgekhfaaDoor
open Go.RowKit
/-- deltas of the document's answer -/
abbrev RAt (w : World) (v : Value) (l : List Chk) : Prop := Reads w 2 v l.length (l.flatMap rcells)
theorem RAt.range {w : World} {g o c : Nat} {l : List Chk} (h : RAt w (.slice (some ⟨g, o, none⟩) l.length c) l) {j : Nat} {x : Chk} (hx : l[j]? = some x) : w.rangeAt g (o + j * 2) (rcells x) := h.rec_ (fun a _ => rcells_length a) hx
theorem brdel (s : List UInt8) (n : Int) (w : World) : (Instr.build 90 #[(0, str s), (1, .int .i64 n)]).run Tryd.prog w = .ok (.agg (rcells ⟨s, n⟩).toArray) w := by kernel_rfl
theorem fieldsRDelE : Tryd.prog.underlying 90 = some (.struct (Tryd.prog.fieldsOf 90)) := by kernel_rfl
set_option maxRecDepth 30000 in
theorem eqRDel (a b : Chk) (w : World) : (Op.equalIn 10000 90 (.agg (rcells a).toArray) (.agg (rcells b).toArray)).run Tryd.prog w = .ok (decide (a = b)) w := by
  refine (run_equalIn_struct w 9999 _ _ _ fieldsRDelE (by kernel_rfl)).trans ?_
  have hf := Option.some.inj (fieldsRDelE.symm.trans Tryd.underlying90)
  injection hf with hf
  rw [hf]
  have h1 : ∀ c : Chk, (part 9 (rcells c).toArray 0).run Tryd.prog w = .ok (str c.sum) w := fun c => run_part1 Tryd.underlying9 rfl rfl
  have h2 : ∀ c : Chk, (part 3 (rcells c).toArray 1).run Tryd.prog w = .ok (.int .i64 c.len) w := fun c => run_part1 Tryd.underlying3 rfl rfl
  have e1 : (Op.equalIn 9999 9 (str a.sum) (str b.sum)).run Tryd.prog w = .ok (a.sum == b.sum) w := by
    unfold str
    rw [run_equalIn_string w 9998 9 _ _ Tryd.underlying9, ByteArray.toList_eq, ByteArray.toList_eq]
  have e2 : (Op.equalIn 9999 3 (.int .i64 a.len) (.int .i64 b.len)).run Tryd.prog w = .ok (a.len == b.len) w := run_equalIn_int w 9998 3 .i64 .i64 _ _ Tryd.underlying3
  rw [← chk_dec]
  exact eqFields_cons (by decide) (h1 a) (h1 b) e1 (fun _ => eqFields_one (by decide) (h2 a) (h2 b) e2)
theorem X.neRDel {l : Env} {x y : Operand} {w : World} {t' ty : TypeId} {a b : Chk} (hx : ev l x = some (.agg (rcells a).toArray)) (hy : ev l y = some (.agg (rcells b).toArray)) : X Tryd.prog l (.binOp .neq 90 x y t') ty w (.bool (decide (a ≠ b))) w :=
  X.bin hx hy (fun c d => run_eqGuard_agg w .neq _ c d _ _ (by kernel_rfl)) (by rw [run_neq_struct, eqRDel]; simp [Result.andThen])
set_option maxRecDepth 10000 in
theorem DPlain_any (v : Value) (l : List Chk) (w : World) (h : ChksAt w v l) (hl : l.length ≤ 1000000) :
    Calls Tryd.prog 35 #[v] w fun e w' => ∃ v', e = .returned v' ∧ Row w' 90 2 v' l.length (l.flatMap rcells) ∧ (∀ k, v'.ownBlock = some k → w.heap.size ≤ k) ∧ Below w.heap.size w w' := by
  obtain ⟨a, cp, rfl, hn, hcp⟩ := h.1.shape
  refine W_enter (args := [.slice a l.length cp]) 27 Tryd.func35 rfl rfl rfl ?_
  refine W_sub [(0, .slice a l.length cp)] ?_ ⟨rfl, trivial⟩
  have hbw := Below.refl w.heap.size w
  refine W_rs ?_
  refine sa rfl rfl ?_
  refine Wn ?_
  refine tN ?_
  refine W_rs ?_
  refine sa rfl rfl ?_
  refine Wn ?_
  refine tN ?_
  refine W_seq ?_
  refine W_rs ?_
  refine sa rfl rfl ?_
  refine Wn ?_
  refine tN ?_
  refine W_block ?_
  refine W_lp (fun nw1_ lw1_ w1 => ∃ j : Nat, ∃ v : Value, nw1_ = l.length - j ∧ lw1_ = ([(0, .slice a l.length cp), (3, v), (4, .int .i64 j)] : Env) ∧ (j ≤ l.length) ∧ (Row w1 90 2 v j ((l.take j).flatMap rcells)) ∧ (∀ k, v.ownBlock = some k → w.heap.size ≤ k) ∧ (Below w.heap.size w w1)) _ ⟨_, ⟨0, .slice none 0 0, rfl, rfl, by omega, Row.nil _ _ _, (fun k hk => by simp [Value.ownBlock] at hk), hbw⟩, ⟨rfl, rfl, rfl, trivial⟩⟩ ?_
  clear hbw
  rintro nw1_ lw1_ w1 ⟨j, v, rfl, rfl, hj, hR, hO, hbw⟩
  have hz_w1 := hbw.size
  refine W_seq ?_
  refine W_rs ?_
  refine sm rfl rfl ?_
  refine sm rfl rfl ?_
  refine st (X.lenL rfl rfl Tryd.underlying47) rfl ?_
  refine st (X.lss rfl rfl) rfl ?_
  refine Wn ?_
  refine tN ?_
  refine W_if rfl (fun h8 => ?_) (fun h8 => ?_)
  · first | replace h8 := of_decide_eq_true h8 | replace h8 := of_decide_eq_false (notT h8) | replace h8 := notT h8 | skip
    obtain ⟨x, hx⟩ : ∃ x, l[j]? = some x := ⟨_, List.getElem?_eq_getElem (by omega)⟩
    obtain ⟨g1, o1, c', hv, hg1⟩ := (h.1.bel hbw).some_ (by omega)
    injection hv with e1 _ e3
    subst e1 e3
    have hxs := h.2 x (List.mem_of_getElem? hx)
    refine W_skip ?_
    refine tN ?_
    refine W_seq ?_
    refine W_block ?_
    refine W_drN (fun W_ => W_.rangeAt g1 (o1 + j * 33) x.cells) [0, 1, 2, 3, 4, 5, 7, 8, 9, 10, 11, 6, 12, 13, 14, 15] [true, true, true, true, true, true, true, true, true, true, true, false, true, false, false, true] (by kernel_rfl) (by kernel_rfl) ((h.bel (bdrew hbw)).range hx) ?_
    obtain ⟨w2, hw_⟩ : ∃ w2 : World, w2 = World.drew w1 := ⟨_, rfl⟩
    rw [← hw_]
    have hb : Below w1.heap.size w1 w2 := by rw [hw_]; exact bdrew (Below.refl _ _)
    clear hw_
    have hS := hb
    have hpend := hb
    replace hbw := bthen hbw hb
    have hz_w2 := hb.size
    clear hb
    refine oY rfl (fun W_ hW_ => (X.move rfl)) rfl ?_
    refine oY rfl (fun W_ hW_ => (X.move rfl)) rfl ?_
    refine oY rfl (fun W_ hW_ => (X.move rfl)) rfl ?_
    refine oY rfl (fun W_ hW_ => (X.idxA rfl rfl Tryd.underlying47 siz57 rfl (by omega))) rfl ?_
    refine oY rfl (fun W_ hW_ => (X.fa fa57_0 rfl)) rfl ?_
    refine oY rfl (fun W_ hW_ => (X.ldN (cs := x.sum.map bv) rfl Tryd.underlying53 rfl (by rw [List.length_map, hxs]; exact siz53) (sumRange hW_))) rfl ?_
    refine oY rfl (fun W_ hW_ => (X.move rfl)) rfl ?_
    refine oY rfl (fun W_ hW_ => (X.move rfl)) rfl ?_
    refine oY rfl (fun W_ hW_ => (X.idxA rfl rfl Tryd.underlying47 siz57 rfl (by omega))) rfl ?_
    refine oY rfl (fun W_ hW_ => (X.fa fa57_1 rfl)) rfl ?_
    refine oY rfl (fun W_ hW_ => (X.ld rfl Tryd.underlying3 rfl (hW_ 32 (.int .i64 x.len) (by simp [Chk.cells, hxs])))) rfl ?_
    refine oL rfl (fun Q_ hQ_ hP_ => ?_)
    refine sc _ Tryd.func26 rfl (by kernel_rfl) rfl rfl ((Text_any x.sum _ hxs).mono ?_)
    rintro e_ w3 ⟨rfl, hb⟩
    refine cR ?_
    replace hpend := bthen hpend hb
    replace hbw := bthen hbw hb
    have hz_w3 := hb.size
    clear hb
    refine Wn (hQ_ _ _ ((h.bel hbw).range hx) ?_)
    clear hQ_ hP_ Q_
    refine oY rfl (fun W_ hW_ => (X.bld rfl (brdel _ _ _))) rfl ?_
    refine oL rfl (fun Q_ hQ_ hP_ => ?_)
    refine sbs1 rfl Tryd.underlying49 inf90 rfl rfl (by decide) (by decide) rfl (fun g24 w4 hR24 hg24 hb => ?_)
    replace hpend := bthen hpend hb
    replace hbw := bthen hbw hb
    have hz_w4 := hb.size
    clear hb
    have hl24 := hR24.blt (by decide)
    refine Wn (hQ_ _ _ ((h.bel hbw).range hx) ?_)
    clear hQ_ hP_ Q_
    refine oL rfl (fun Q_ hQ_ hP_ => ?_)
    replace hR := hR.bel hpend
    clear hpend
    refine sapp rfl rfl Tryd.underlying49 inf90 rfl (by decide) hR (hR24.reads.src Tryd.underlying49 (rcells_one x)) (by simp only [maxLen]; omega) (by omega) rfl (fun v' w5 hR' hC hv' => ?_)
    replace hbw := bapp hbw hC hO
    replace hO := own_next hv' hO (by omega)
    clear hC hv'
    refine Wn (hQ_ _ _ ((h.bel hbw).range hx) ?_)
    clear hQ_ hP_ Q_
    refine oY rfl (fun W_ hW_ => (X.assign rfl)) rfl ?_
    refine oN ?_
    refine nN ?_
    refine bN ?_
    refine tN ?_
    refine W_reg ?_
    refine sm rfl rfl ?_
    refine st (X.add64 rfl rfl (by omega)) rfl ?_
    refine sa rfl rfl ?_
    refine Wn ?_
    refine tN ⟨_, _, ?_, ⟨j + 1, v', rfl, rfl, by omega, by rw [take_next' hx, List.flatMap_append]; exact hR', hO, hbw⟩, ⟨rfl, rfl, rfl, trivial⟩⟩
    omega
  · first | replace h8 := of_decide_eq_false h8 | replace h8 := of_decide_eq_true (notF h8) | replace h8 := notF h8 | skip
    obtain rfl : j = l.length := by omega
    rw [List.take_length] at hR
    refine W_exit (tE (tE (bH ?_)))
    refine tN ?_
    refine W_rs ?_
    refine sm rfl rfl ?_
    refine sa rfl rfl ?_
    refine Wn ?_
    refine tN ?_
    refine W_ret ?_
    exact (rT rfl rfl ⟨_, rfl, hR, hO, hbw⟩).1
theorem DRSame_any (va vb : Value) (la lb : List Chk) (w : World) (ha : RAt w va la) (hb_ : RAt w vb lb) :
    Calls Tryd.prog 34 #[va, vb] w fun e w' => e = .returned (.bool (decide (la = lb))) ∧ Below w.heap.size w w' := by
  obtain ⟨aa, ca, rfl, han, hac⟩ := ha.shape
  obtain ⟨ab, cb, rfl, hbn, hbc⟩ := hb_.shape
  refine W_enter (args := [.slice aa la.length ca, .slice ab lb.length cb]) 26 Tryd.func34 rfl rfl rfl ?_
  refine W_sub [(0, .slice aa la.length ca), (1, .slice ab lb.length cb)] ?_ ⟨rfl, rfl, trivial⟩
  have hbw := Below.refl w.heap.size w
  refine W_rs ?_
  refine sa rfl rfl ?_
  refine Wn ?_
  refine tN ?_
  refine W_seq ?_
  refine W_rs ?_
  refine sm rfl rfl ?_
  refine st (X.lenL rfl rfl Tryd.underlying49) rfl ?_
  refine sm rfl rfl ?_
  refine st (X.lenL rfl rfl Tryd.underlying49) rfl ?_
  refine st (X.neq rfl rfl) rfl ?_
  refine Wn ?_
  refine tN ?_
  refine W_if rfl (fun h10 => ?_) (fun h10 => ?_)
  · first | replace h10 := of_decide_eq_true h10 | replace h10 := of_decide_eq_false (notT h10) | replace h10 := notT h10 | skip
    refine W_rs ?_
    refine sa rfl rfl ?_
    refine Wn ?_
    refine tN ?_
    refine W_ret (tR ?_)
    refine (rT rfl rfl ⟨?_, hbw⟩).1
    rw [show decide (la = lb) = false from decide_eq_false (fun h => by subst h; exact h10 rfl)]
  · first | replace h10 := of_decide_eq_false h10 | replace h10 := of_decide_eq_true (notF h10) | replace h10 := notF h10 | skip
    refine W_skip ?_
    refine tN ?_
    refine W_seq ?_
    refine W_rs ?_
    refine sa rfl rfl ?_
    refine Wn ?_
    refine tN ?_
    refine W_block ?_
    refine W_lp (fun nw1_ lw1_ w1 => ∃ j : Nat, nw1_ = la.length - j ∧ lw1_ = ([(0, .slice aa la.length ca), (1, .slice ab lb.length cb), (5, .int .i64 j)] : Env) ∧ (j ≤ la.length) ∧ (la.take j = lb.take j) ∧ (Below w.heap.size w w1)) _ ⟨_, ⟨0, rfl, rfl, by omega, rfl, hbw⟩, ⟨rfl, rfl, rfl, trivial⟩⟩ ?_
    clear hbw
    rintro nw1_ lw1_ w1 ⟨j, rfl, rfl, hj, hq, hbw⟩
    have hz_w1 := hbw.size
    refine W_seq ?_
    refine W_rs ?_
    refine sm rfl rfl ?_
    refine sm rfl rfl ?_
    refine st (X.lenL rfl rfl Tryd.underlying49) rfl ?_
    refine st (X.lss rfl rfl) rfl ?_
    refine Wn ?_
    refine tN ?_
    refine W_if rfl (fun h14 => ?_) (fun h14 => ?_)
    · first | replace h14 := of_decide_eq_true h14 | replace h14 := of_decide_eq_false (notT h14) | replace h14 := notT h14 | skip
      obtain ⟨x, hx⟩ : ∃ x, la[j]? = some x := ⟨_, List.getElem?_eq_getElem (by omega)⟩
      obtain ⟨y, hy⟩ : ∃ y, lb[j]? = some y := ⟨_, List.getElem?_eq_getElem (by omega)⟩
      obtain ⟨g1, o1, c', hv, hg1⟩ := (ha.bel hbw).some_ (by omega)
      injection hv with e1 _ e3
      subst e1 e3
      obtain ⟨g2, o2, c', hv, hg2⟩ := (hb_.bel hbw).some_ (by omega)
      injection hv with e1 _ e3
      subst e1 e3
      refine W_skip ?_
      refine tN ?_
      refine W_seq ?_
      refine W_block ?_
      refine W_drsN (fun W_ => W_.rangeAt g1 (o1 + j * 2) (rcells x) ∧ W_.rangeAt g2 (o2 + j * 2) (rcells y)) [0, 1, 2, 3, 4, 5, 6, 7, 8] [true, true, true, true, true, true, true, true, true] (by kernel_rfl) (by kernel_rfl) (⟨RAt.range (ha.bel (bdrew hbw)) hx, RAt.range (hb_.bel (bdrew hbw)) hy⟩) ?_
      obtain ⟨w2, hw_⟩ : ∃ w2 : World, w2 = World.drew w1 := ⟨_, rfl⟩
      rw [← hw_]
      have hb : Below w1.heap.size w1 w2 := by rw [hw_]; exact bdrew (Below.refl _ _)
      clear hw_
      have hS := hb
      replace hbw := bthen hbw hb
      have hz_w2 := hb.size
      clear hb
      refine oY rfl (fun W_ hW_ => (X.move rfl)) rfl ?_
      refine oY rfl (fun W_ hW_ => (X.move rfl)) rfl ?_
      refine oY rfl (fun W_ hW_ => (X.idxA rfl rfl Tryd.underlying49 siz90 rfl (by omega))) rfl ?_
      refine oY rfl (fun W_ hW_ => (X.ldN (cs := rcells x) rfl Tryd.underlying90 rfl siz90 hW_.1)) rfl ?_
      refine oY rfl (fun W_ hW_ => (X.move rfl)) rfl ?_
      refine oY rfl (fun W_ hW_ => (X.move rfl)) rfl ?_
      refine oY rfl (fun W_ hW_ => (X.idxA rfl rfl Tryd.underlying49 siz90 rfl (by omega))) rfl ?_
      refine oY rfl (fun W_ hW_ => (X.ldN (cs := rcells y) rfl Tryd.underlying90 rfl siz90 hW_.2)) rfl ?_
      refine oY rfl (fun W_ hW_ => (X.neRDel rfl rfl)) rfl ?_
      refine oN ?_
      refine nN ?_
      refine W_if rfl (fun h25 => ?_) (fun h25 => ?_)
      · first | replace h25 := of_decide_eq_true h25 | replace h25 := of_decide_eq_false (notT h25) | replace h25 := notT h25 | skip
        refine W_rs ?_
        refine sa rfl rfl ?_
        refine Wn ?_
        refine tN ?_
        refine W_ret (bR (tR (tR (bR (tR ?_)))))
        refine (rT rfl rfl ⟨?_, hbw⟩).1
        rw [show decide (la = lb) = false from decide_eq_false (at_ne hx hy h25)]
      · first | replace h25 := of_decide_eq_false h25 | replace h25 := of_decide_eq_true (notF h25) | replace h25 := notF h25 | skip
        refine W_skip ?_
        refine bN ?_
        refine tN ?_
        refine W_reg ?_
        refine sm rfl rfl ?_
        refine st (X.add64 rfl rfl (by omega)) rfl ?_
        refine sa rfl rfl ?_
        refine Wn ?_
        refine tN ⟨_, _, ?_, ⟨j + 1, rfl, rfl, by omega, by rw [take_next' hx, take_next' hy, hq, Classical.not_not.1 h25], hbw⟩, ⟨rfl, rfl, rfl, trivial⟩⟩
        omega
    · first | replace h14 := of_decide_eq_false h14 | replace h14 := of_decide_eq_true (notF h14) | replace h14 := notF h14 | skip
      refine W_exit (tE (tE (bH ?_)))
      refine tN ?_
      refine W_rs ?_
      refine sa rfl rfl ?_
      refine Wn ?_
      refine tN ?_
      refine W_ret ?_
      obtain rfl : j = la.length := by omega
      refine (rT rfl rfl ⟨?_, hbw⟩).1
      rw [show decide (la = lb) = true from decide_eq_true (take_all (by omega) hq)]
theorem DSame_any (v u : Value) (l m : List Chk) (w : World) (h : ChksAt w v l) (hl : l.length ≤ 1000000) (hu : RAt w u m) :
    Calls Tryd.prog 17 #[v, u] w fun e w' => e = .returned (.bool (decide (l = m))) ∧ Below w.heap.size w w' := by
  refine W_enter (args := [v, u]) 9 Tryd.func17 rfl rfl rfl ?_
  refine W_sub [(0, v), (1, u)] ?_ ⟨rfl, rfl, trivial⟩
  have hbw := Below.refl w.heap.size w
  refine W_rs ?_
  refine sa rfl rfl ?_
  refine Wn ?_
  refine tN ?_
  refine W_rs ?_
  refine sm rfl rfl ?_
  refine sc _ Tryd.func35 rfl (by kernel_rfl) rfl rfl ((DPlain_any v l _ (h.bel hbw) hl).mono ?_)
  rintro e_ w1 ⟨v', rfl, hR, hO, hb⟩
  refine cR ?_
  replace hbw := bthen hbw hb
  have hz_w1 := hb.size
  clear hb
  refine sm rfl rfl ?_
  refine sc _ Tryd.func34 rfl (by kernel_rfl) rfl rfl ((DRSame_any v' u l m _ hR.reads (hu.bel hbw)).mono ?_)
  rintro e_ w2 ⟨rfl, hb⟩
  refine cR ?_
  replace hbw := bthen hbw hb
  have hz_w2 := hb.size
  clear hb
  refine sa rfl rfl ?_
  refine Wn ?_
  refine tN ?_
  refine W_ret ?_
  exact (rT rfl rfl ⟨rfl, hbw⟩).1
end Go.Proofs.YtnagmpnpgekhfaaDoor
namespace Go.Proofs.YtnagmpnpgekhfaaDoor
open Go.RowKit
theorem tot_take_or {O : List Chk} (h : Srt O) (a : Key) (k : Nat) : tot a (O.take k) = 0 ∨ tot a (O.take k) = tot a O := by
  by_cases ha : a ∈ (O.take k).map (·.sum)
  · obtain ⟨c, hc, rfl⟩ := List.mem_map.1 ha
    right
    rw [tot_srt (List.Pairwise.sublist (List.take_sublist k O) h) hc, tot_srt h (List.mem_of_mem_take hc)]
  · exact .inl (tot_none ha)
theorem merge_at (y : Chk) (d : Bool) {O : List Chk} {k : Nat} {o : Chk} (h : O[k]? = some o) : merge y d (O.drop k) = (if d = false ∧ ¬ o.sum < y.sum then [y] else []) ++ (if o.sum ≠ y.sum then [o] else []) ++ merge y (d || !decide (o.sum < y.sum)) (O.drop (k + 1)) := by
  obtain ⟨hk, rfl⟩ := List.getElem?_eq_some_iff.1 h
  rw [List.drop_eq_getElem_cons hk]
  rfl
theorem geS_lt (a b : List UInt8) : (!Op.bytesLess a b) = decide (¬ a < b) := by
  rw [bytesLess_eq]
  by_cases h : a < b <;> simp [h]
theorem merge_len (y : Chk) (O : List Chk) : (merge y false O).length ≤ O.length + 1 := by
  have := ins_length O ⟨y.sum, y.len - tot y.sum O⟩
  unfold ins at this
  have e : (⟨y.sum, y.len - tot y.sum O + tot y.sum O⟩ : Chk) = y := by cases y; simp
  rwa [e] at this
section
variable {y o : Chk} {O M nl : List Chk} {k : Nat}
theorem ms_a (h : nl ++ merge y false (O.drop k) = M) (ho : O[k]? = some o) (hge : ¬ o.sum < y.sum) (hne : o.sum ≠ y.sum) : nl ++ [y] ++ [o] ++ merge y true (O.drop (k + 1)) = M := by
  rw [← h, merge_at y false ho, if_pos ⟨rfl, hge⟩, if_pos hne]
  simp [hge]
theorem ms_b (h : nl ++ merge y false (O.drop k) = M) (ho : O[k]? = some o) (hge : ¬ o.sum < y.sum) (he : o.sum = y.sum) : nl ++ [y] ++ merge y true (O.drop (k + 1)) = M := by
  rw [← h, merge_at y false ho, if_pos ⟨rfl, hge⟩, if_neg (fun h => h he)]
  simp [hge]
theorem ms_c (h : nl ++ merge y false (O.drop k) = M) (ho : O[k]? = some o) (hlt : o.sum < y.sum) (hne : o.sum ≠ y.sum) : nl ++ [o] ++ merge y false (O.drop (k + 1)) = M := by
  rw [← h, merge_at y false ho, if_neg (fun h => h.2 hlt), if_pos hne]
  simp [hlt]
theorem ms_d (h : nl ++ merge y true (O.drop k) = M) (ho : O[k]? = some o) (hne : o.sum ≠ y.sum) : nl ++ [o] ++ merge y true (O.drop (k + 1)) = M := by
  rw [← h, merge_at y true ho, if_neg (by simp), if_pos hne]
  simp
theorem ms_e (h : nl ++ merge y true (O.drop k) = M) (ho : O[k]? = some o) (he : o.sum = y.sum) : nl ++ merge y true (O.drop (k + 1)) = M := by
  rw [← h, merge_at y true ho, if_neg (by simp), if_neg (fun h => h he)]
  simp
end
theorem Row.own_lt {w : World} {e : TypeId} {size n : Nat} {v : Value} {xs : List Value} (h : Row w e size v n xs) : ∀ k, v.ownBlock = some k → k < w.heap.size := fun k hk => by
  rcases h.2 with ⟨rfl, _⟩ | ⟨g, off, cap, cur, fz, rfl, hg, _⟩
  · simp [Value.ownBlock] at hk
  · simp [Value.ownBlock] at hk
    subst hk
    exact (Array.getElem?_eq_some_iff.1 hg).1
set_option maxRecDepth 20000 in
set_option maxHeartbeats 4000000 in
theorem RNet_any (v : Value) (l : List Chk) (w : World) (h : RAt w v l) (hl : l.length ≤ 1000000) (ht : Tame l) :
    Calls Tryd.prog 38 #[v] w fun e w' => ∃ v', e = .returned v' ∧ Row w' 90 2 v' (netM l).length ((netM l).flatMap rcells) ∧ (∀ k, v'.ownBlock = some k → w.heap.size ≤ k) ∧ Below w.heap.size w w' := by
  obtain ⟨a, cp, rfl, hn, hcp⟩ := h.shape
  refine W_enter (args := [.slice a l.length cp]) 109 Tryd.func38 rfl rfl rfl ?_
  refine W_sub [(0, .slice a l.length cp)] ?_ ⟨rfl, trivial⟩
  have hbw := Below.refl w.heap.size w
  refine W_rs ?_
  refine sa rfl rfl ?_
  refine Wn ?_
  refine tN ?_
  refine W_rs ?_
  refine sa rfl rfl ?_
  refine Wn ?_
  refine tN ?_
  refine W_seq ?_
  refine W_rs ?_
  refine sa rfl rfl ?_
  refine Wn ?_
  refine tN ?_
  refine W_block ?_
  refine W_lp (fun nw1_ lw1_ w1 => ∃ i : Nat, ∃ O : List Chk, ∃ v3 : Value, nw1_ = l.length - i ∧ lw1_ = ([(0, .slice a l.length cp), (3, v3), (4, .int .i64 i)] : Env) ∧ (i ≤ l.length) ∧ (O = allM (l.take i)) ∧ (Row w1 90 2 v3 O.length (O.flatMap rcells)) ∧ (∀ k, v3.ownBlock = some k → w.heap.size ≤ k) ∧ (Below w.heap.size w w1)) _ ⟨_, ⟨0, [], .slice none 0 0, rfl, rfl, by omega, rfl, Row.nil _ _ _, (fun k hk => by simp [Value.ownBlock] at hk), hbw⟩, ⟨rfl, rfl, rfl, trivial⟩⟩ ?_
  clear hbw
  rintro nw1_ lw1_ w1 ⟨i, O, v3, rfl, rfl, hi, hO, hR, hO3, hbw⟩
  have hz_w1 := hbw.size
  refine W_seq ?_
  refine W_rs ?_
  refine sm rfl rfl ?_
  refine sm rfl rfl ?_
  refine st (X.lenL rfl rfl Tryd.underlying49) rfl ?_
  refine st (X.lss rfl rfl) rfl ?_
  refine Wn ?_
  refine tN ?_
  refine W_if rfl (fun h15 => ?_) (fun h15 => ?_)
  · first | replace h15 := of_decide_eq_true h15 | replace h15 := of_decide_eq_false (notT h15) | replace h15 := notT h15 | skip
    obtain ⟨x, hx⟩ : ∃ x, l[i]? = some x := ⟨_, List.getElem?_eq_getElem (by omega)⟩
    have hxt := ht x (List.mem_of_getElem? hx)
    obtain ⟨g1, o1, c', hv, hg1⟩ := (h.bel hbw).some_ (by omega)
    injection hv with e1 _ e3
    subst e1 e3
    have hall : IsAll (l.take i) O := by rw [hO]; exact isAll _
    have hOl : O.length ≤ i := by rw [hO]; have := allM_length (l.take i); rw [List.length_take] at this; omega
    have htO : ∀ c, -1099511627776000000 ≤ tot c O ∧ tot c O ≤ 1099511627776000000 := fun c => by rw [hall.tot]; exact (ht.take i).tot (by rw [List.length_take]; omega) c
    have htk : ∀ k, -1099511627776000000 ≤ tot x.sum (O.take k) ∧ tot x.sum (O.take k) ≤ 1099511627776000000 := fun k => by have := htO x.sum; rcases tot_take_or hall.srt x.sum k with e | e <;> rw [e] <;> omega
    obtain ⟨a3, c3, rfl, hn3, hc3⟩ := hR.shape
    have h3l := hR.own_lt
    refine W_skip ?_
    refine tN ?_
    refine W_seq ?_
    refine W_block ?_
    refine W_rs ?_
    refine sa rfl rfl ?_
    refine Wn ?_
    refine tN ?_
    refine W_rs ?_
    refine sm rfl rfl ?_
    refine sm rfl rfl ?_
    refine st (X.idxA rfl rfl Tryd.underlying49 siz90 rfl (by omega)) rfl ?_
    refine st (X.ldN (cs := rcells x) rfl Tryd.underlying90 rfl siz90 (RAt.range (h.bel hbw) hx)) rfl ?_
    refine salA inf90 rfl (fun g6 w2 hB6 hg6 hb hl6 => ?_)
    have hpend := hb
    replace hbw := bthen hbw hb
    have hz_w2 := hb.size
    clear hb
    refine ssBN rfl rfl hB6 siz90 rfl rfl (fun w3 hB_ hc_ => ?_)
    replace hB6 := hB_
    clear hB_
    replace hpend := bset hpend hc_ (by omega)
    replace hbw := bset hbw hc_ (by omega)
    have hz_w3 := hc_.size
    clear hc_
    refine Wn ?_
    refine tN ?_
    refine W_rs ?_
    refine sa rfl rfl ?_
    refine Wn ?_
    refine tN ?_
    refine W_seq ?_
    refine W_rs ?_
    refine sa rfl rfl ?_
    refine Wn ?_
    refine tN ?_
    refine W_block ?_
    replace hR := hR.bel hpend
    clear hpend
    have h3lt : ∀ k, (Value.slice a3 O.length c3).ownBlock = some k → k < g6 := fun k hk => by have := h3l k hk; omega
    refine W_lp (fun nw4_ lw4_ w4 => ∃ k : Nat, ∃ nx : Int, nw4_ = O.length - k ∧ lw4_ = ([(0, .slice (some ⟨g1, o1, none⟩) l.length cp), (3, .slice a3 O.length c3), (4, .int .i64 i), (5, .slice none 0 0), (6, .pointer (some ⟨g6, 0, none⟩)), (7, .bool false), (8, .int .i64 k)] : Env) ∧ (k ≤ O.length) ∧ (nx = x.len + tot x.sum (O.take k)) ∧ (Blk w4 g6 90 #[str x.sum, .int .i64 nx]) ∧ (w.heap.size ≤ g6) ∧ (∀ k, (Value.slice a3 O.length c3).ownBlock = some k → k < g6) ∧ (Row w4 90 2 (.slice a3 O.length c3) O.length (O.flatMap rcells)) ∧ (Below w.heap.size w w4)) _ ⟨_, ⟨0, x.len, rfl, rfl, by omega, by simp [tot], hB6, by omega, h3lt, hR, hbw⟩, ⟨rfl, rfl, rfl, rfl, rfl, rfl, rfl, trivial⟩⟩ ?_
    clear hB6 h3lt hR hbw
    rintro nw4_ lw4_ w4 ⟨k, nx, rfl, rfl, hk, hnx, hB6, hg6w, h3lt, hR, hbw⟩
    have hz_w4 := hbw.size
    have hlt_hB6_w4 := hB6.lt
    refine W_seq ?_
    refine W_rs ?_
    refine sm rfl rfl ?_
    refine sm rfl rfl ?_
    refine st (X.lenL rfl rfl Tryd.underlying49) rfl ?_
    refine st (X.lss rfl rfl) rfl ?_
    refine Wn ?_
    refine tN ?_
    refine W_if rfl (fun h25 => ?_) (fun h25 => ?_)
    · first | replace h25 := of_decide_eq_true h25 | replace h25 := of_decide_eq_false (notT h25) | replace h25 := notT h25 | skip
      obtain ⟨o, ho⟩ : ∃ o, O[k]? = some o := ⟨_, List.getElem?_eq_getElem (by omega)⟩
      have hRe := hR.reads
      obtain ⟨g2, o2, c', hv, hg2⟩ := hRe.some_ (by omega)
      injection hv with e1 _ e3
      subst e1 e3
      have hkb := htk k
      have hkb1 := htk (k + 1)
      refine W_skip ?_
      refine tN ?_
      refine W_seq ?_
      refine W_block ?_
      refine W_drsN (fun W_ => Blk W_ g6 90 #[str x.sum, .int .i64 nx] ∧ W_.rangeAt g2 (o2 + k * 2) (rcells o)) [0, 1, 2, 3, 4, 5, 6, 7] [true, true, true, true, true, true, true, true] (by kernel_rfl) (by kernel_rfl) (⟨hB6.drew, RAt.range (hRe.bel (bdrew (Below.refl _ _))) ho⟩) ?_
      obtain ⟨w5, hw_⟩ : ∃ w5 : World, w5 = World.drew w4 := ⟨_, rfl⟩
      rw [← hw_]
      have hb : Below w4.heap.size w4 w5 := by rw [hw_]; exact bdrew (Below.refl _ _)
      clear hw_
      have hS := hb
      have hpend := hb
      replace hbw := bthen hbw hb
      replace hB6 := hB6.bel hb
      have hz_w5 := hb.size
      clear hb
      refine oY rfl (fun W_ hW_ => (X.move rfl)) rfl ?_
      refine oY rfl (fun W_ hW_ => (X.move rfl)) rfl ?_
      refine oY rfl (fun W_ hW_ => (X.idxA rfl rfl Tryd.underlying49 siz90 rfl (by omega))) rfl ?_
      refine oY rfl (fun W_ hW_ => (X.fa fa90_0 rfl)) rfl ?_
      refine oY rfl (fun W_ hW_ => (X.ld rfl Tryd.underlying9 rfl (hW_.2 0 _ rfl))) rfl ?_
      refine oY rfl (fun W_ hW_ => (X.fa fa90_0 rfl)) rfl ?_
      refine oY rfl (fun W_ hW_ => (X.ldL rfl hW_.1 Tryd.underlying9 rfl rfl)) rfl ?_
      refine oY rfl (fun W_ hW_ => (X.eqS rfl rfl)) rfl ?_
      refine oN ?_
      refine nN ?_
      refine W_if rfl (fun h35 => ?_) (fun h35 => ?_)
      · first | replace h35 := of_decide_eq_true h35 | replace h35 := of_decide_eq_false (notT h35) | replace h35 := notT h35 | skip
        obtain ⟨nx', hq0⟩ : ∃ n_, nx + o.len = n_ := ⟨_, rfl⟩
        have hnx' : nx' = x.len + tot x.sum (O.take (k + 1)) := by rw [tot_take ho, if_pos h35, ← hq0, hnx]; omega
        refine W_trN (fun _ => True) (.yes 0 (.yes 2 (.yes 3 (.yes 4 (.yes 5 (.pick (.alt 1 (.pick (.alt 6 (.yes 7 (.yes 8 (.pick (.alt 9 (.nil) (.no))))) (.no))) (.alt 6 (.pick (.alt 1 (.yes 7 (.yes 8 (.pick (.alt 9 (.nil) (.no))))) (.no))) (.no))))))))) (by kernel_rfl) (by kernel_rfl) (trivial) ?_
        obtain ⟨w6, hw_⟩ : ∃ w6 : World, w6 = World.drew w5 := ⟨_, rfl⟩
        rw [← hw_]
        have hb : Below w5.heap.size w5 w6 := by rw [hw_]; exact bdrew (Below.refl _ _)
        clear hw_
        have hS : True := trivial
        replace hpend := bthen hpend hb
        replace hbw := bthen hbw hb
        replace hB6 := hB6.bel hb
        have hz_w6 := hb.size
        clear hb
        refine uY rfl (fun W_ hW_ => (X.fa fa90_1 rfl)) rfl ?_
        refine uY rfl (fun W_ hW_ => (X.move rfl)) rfl ?_
        refine uY rfl (fun W_ hW_ => (X.move rfl)) rfl ?_
        refine uY rfl (fun W_ hW_ => (X.idxA rfl rfl Tryd.underlying49 siz90 rfl (by omega))) rfl ?_
        refine uY rfl (fun W_ hW_ => (X.fa fa90_1 rfl)) rfl ?_
        refine uP (uA rfl (fun Q_ hQ_ hP_ => ?_) (uA rfl (fun Q_ hQ_ hP_ => ?_) u0))
        · refine st (X.ldL rfl hB6 Tryd.underlying3 rfl rfl) rfl ?_
          refine Wn (hQ_ _ _ trivial ?_)
          clear hQ_ hP_ Q_
          refine uP (uA rfl (fun Q_ hQ_ hP_ => ?_) u0)
          replace hR := hR.bel hpend
          clear hpend
          refine st (X.ld rfl Tryd.underlying3 rfl ((RAt.range hR.reads ho) 1 _ rfl)) rfl ?_
          refine Wn (hQ_ _ _ trivial ?_)
          clear hQ_ hP_ Q_
          refine uY rfl (fun W_ hW_ => (X.add rfl rfl (show IntKind.i64.wrap (nx + o.len) = nx' by rw [w64 (by omega), hq0]))) rfl ?_
          refine uY rfl (fun W_ hW_ => (X.fa fa90_1 rfl)) rfl ?_
          refine uP (uA rfl (fun Q_ hQ_ hP_ => ?_) u0)
          refine ssB rfl rfl hB6 siz3 rfl (by simp) (fun w7 hB_ hc_ => ?_)
          replace hR := hR.chg hc_ (fun k hk e => by have := h3lt k hk; omega)
          replace hbw := bset hbw hc_ (by omega)
          replace hB6 := hB_
          clear hB_ hc_
          refine Wn (hQ_ _ _ trivial ?_)
          clear hQ_ hP_ Q_
          refine uN ?_
          refine nN ?_
          refine bN ?_
          refine tN ?_
          refine W_reg ?_
          refine sm rfl rfl ?_
          refine st (X.add64 rfl rfl (by omega)) rfl ?_
          refine sa rfl rfl ?_
          refine Wn ?_
          refine tN ⟨_, _, ?_, ⟨k + 1, nx', rfl, rfl, by omega, hnx', hB6, hg6w, h3lt, hR, hbw⟩, ⟨rfl, rfl, rfl, rfl, rfl, rfl, rfl, trivial⟩⟩
          omega
        · replace hR := hR.bel hpend
          clear hpend
          refine st (X.ld rfl Tryd.underlying3 rfl ((RAt.range hR.reads ho) 1 _ rfl)) rfl ?_
          refine Wn (hQ_ _ _ trivial ?_)
          clear hQ_ hP_ Q_
          refine uP (uA rfl (fun Q_ hQ_ hP_ => ?_) u0)
          refine st (X.ldL rfl hB6 Tryd.underlying3 rfl rfl) rfl ?_
          refine Wn (hQ_ _ _ trivial ?_)
          clear hQ_ hP_ Q_
          refine uY rfl (fun W_ hW_ => (X.add rfl rfl (show IntKind.i64.wrap (nx + o.len) = nx' by rw [w64 (by omega), hq0]))) rfl ?_
          refine uY rfl (fun W_ hW_ => (X.fa fa90_1 rfl)) rfl ?_
          refine uP (uA rfl (fun Q_ hQ_ hP_ => ?_) u0)
          refine ssB rfl rfl hB6 siz3 rfl (by simp) (fun w8 hB_ hc_ => ?_)
          replace hR := hR.chg hc_ (fun k hk e => by have := h3lt k hk; omega)
          replace hbw := bset hbw hc_ (by omega)
          replace hB6 := hB_
          clear hB_ hc_
          refine Wn (hQ_ _ _ trivial ?_)
          clear hQ_ hP_ Q_
          refine uN ?_
          refine nN ?_
          refine bN ?_
          refine tN ?_
          refine W_reg ?_
          refine sm rfl rfl ?_
          refine st (X.add64 rfl rfl (by omega)) rfl ?_
          refine sa rfl rfl ?_
          refine Wn ?_
          refine tN ⟨_, _, ?_, ⟨k + 1, nx', rfl, rfl, by omega, hnx', hB6, hg6w, h3lt, hR, hbw⟩, ⟨rfl, rfl, rfl, rfl, rfl, rfl, rfl, trivial⟩⟩
          omega
      · first | replace h35 := of_decide_eq_false h35 | replace h35 := of_decide_eq_true (notF h35) | replace h35 := notF h35 | skip
        obtain ⟨nx', hq0⟩ : ∃ n_, n_ = nx := ⟨_, rfl⟩
        rw [← hq0] at hB6
        have hnx' : nx' = x.len + tot x.sum (O.take (k + 1)) := by rw [tot_take ho, if_neg h35, hq0, hnx]; omega
        refine W_skip ?_
        refine bN ?_
        refine tN ?_
        refine W_reg ?_
        refine sm rfl rfl ?_
        refine st (X.add64 rfl rfl (by omega)) rfl ?_
        refine sa rfl rfl ?_
        refine Wn ?_
        replace hR := hR.bel hpend
        clear hpend
        refine tN ⟨_, _, ?_, ⟨k + 1, nx', rfl, rfl, by omega, hnx', hB6, hg6w, h3lt, hR, hbw⟩, ⟨rfl, rfl, rfl, rfl, rfl, rfl, rfl, trivial⟩⟩
        omega
    · first | replace h25 := of_decide_eq_false h25 | replace h25 := of_decide_eq_true (notF h25) | replace h25 := notF h25 | skip
      obtain rfl : k = O.length := by omega
      rw [List.take_length] at hnx
      have hMl := merge_len ⟨x.sum, nx⟩ O
      refine W_exit (tE (tE (bH ?_)))
      refine tN ?_
      refine W_seq ?_
      refine W_rs ?_
      refine sa rfl rfl ?_
      refine Wn ?_
      refine tN ?_
      refine W_block ?_
      refine W_lp (fun nw9_ lw9_ w9 => ∃ k : Nat, ∃ d : Bool, ∃ nl : List Chk, ∃ v5 : Value, nw9_ = O.length - k ∧ lw9_ = ([(0, .slice (some ⟨g1, o1, none⟩) l.length cp), (3, .slice a3 O.length c3), (4, .int .i64 i), (5, v5), (6, .pointer (some ⟨g6, 0, none⟩)), (7, .bool d), (9, .int .i64 k)] : Env) ∧ (k ≤ O.length) ∧ (nl ++ merge ⟨x.sum, nx⟩ d (O.drop k) = merge ⟨x.sum, nx⟩ false O) ∧ (Blk w9 g6 90 #[str x.sum, .int .i64 nx]) ∧ (w.heap.size ≤ g6) ∧ (∀ k, (Value.slice a3 O.length c3).ownBlock = some k → k < g6) ∧ (∀ k, v5.ownBlock = some k → g6 < k) ∧ (Row w9 90 2 (.slice a3 O.length c3) O.length (O.flatMap rcells)) ∧ (Row w9 90 2 v5 nl.length (nl.flatMap rcells)) ∧ (Below w.heap.size w w9)) _ ⟨_, ⟨0, false, [], .slice none 0 0, rfl, rfl, by omega, rfl, hB6, hg6w, h3lt, (fun k hk => by simp [Value.ownBlock] at hk), hR, Row.nil _ _ _, hbw⟩, ⟨rfl, rfl, rfl, rfl, rfl, rfl, rfl, trivial⟩⟩ ?_
      clear hB6 hg6w h3lt hR hbw
      rintro nw9_ lw9_ w9 ⟨k, d, nl, v5, rfl, rfl, hk, hm, hB6, hg6w, h3lt, h5gt, hR, hR5, hbw⟩
      have hz_w9 := hbw.size
      have hlt_hB6_w9 := hB6.lt
      refine W_seq ?_
      refine W_rs ?_
      refine sm rfl rfl ?_
      refine sm rfl rfl ?_
      refine st (X.lenL rfl rfl Tryd.underlying49) rfl ?_
      refine st (X.lss rfl rfl) rfl ?_
      refine Wn ?_
      refine tN ?_
      refine W_if rfl (fun h48 => ?_) (fun h48 => ?_)
      · first | replace h48 := of_decide_eq_true h48 | replace h48 := of_decide_eq_false (notT h48) | replace h48 := notT h48 | skip
        obtain ⟨o, ho⟩ : ∃ o, O[k]? = some o := ⟨_, List.getElem?_eq_getElem (by omega)⟩
        have hRe := hR.reads
        obtain ⟨g2, o2, c', hv, hg2⟩ := hRe.some_ (by omega)
        injection hv with e1 _ e3
        subst e1 e3
        have hnll : nl.length ≤ O.length + 1 := by have := congrArg List.length hm; rw [List.length_append] at this; omega
        have hg6l := hB6.lt
        refine W_skip ?_
        refine tN ?_
        refine W_seq ?_
        refine W_block ?_
        refine W_seq ?_
        by_cases hsp_ : d = false
        · refine W_drsN (fun W_ => Blk W_ g6 90 #[str x.sum, .int .i64 nx] ∧ W_.rangeAt g2 (o2 + k * 2) (rcells o)) [0, 1, 2, 3, 4, 5, 6, 7, 8, 9, 10, 11] [true, true, true, true, true, true, true, true, true, true, true, true] (by kernel_rfl) (by kernel_rfl) (⟨hB6.drew, RAt.range (hRe.bel (bdrew (Below.refl _ _))) ho⟩) ?_
          obtain ⟨w10, hw_⟩ : ∃ w10 : World, w10 = World.drew w9 := ⟨_, rfl⟩
          rw [← hw_]
          have hb : Below w9.heap.size w9 w10 := by rw [hw_]; exact bdrew (Below.refl _ _)
          clear hw_
          have hS := hb
          have hpend := hb
          replace hbw := bthen hbw hb
          replace hB6 := hB6.bel hb
          have hz_w10 := hb.size
          clear hb
          subst hsp_
          refine oY rfl (fun W_ hW_ => (X.move rfl)) rfl ?_
          refine oY rfl (fun W_ hW_ => (X.not rfl)) rfl ?_
          refine oY rfl (fun W_ hW_ => (X.mvB (c := true) rfl (rfl))) rfl ?_
          refine oYg (g := 53) rfl rfl rfl rfl (fun W_ hW_ => (X.move rfl)) rfl ?_
          refine oYg (g := 53) rfl rfl rfl rfl (fun W_ hW_ => (X.move rfl)) rfl ?_
          refine oYg (g := 53) rfl rfl rfl rfl (fun W_ hW_ => (X.idxA rfl rfl Tryd.underlying49 siz90 rfl (by omega))) rfl ?_
          refine oYg (g := 53) rfl rfl rfl rfl (fun W_ hW_ => (X.fa fa90_0 rfl)) rfl ?_
          refine oYg (g := 53) rfl rfl rfl rfl (fun W_ hW_ => (X.ld rfl Tryd.underlying9 rfl (hW_.2 0 _ rfl))) rfl ?_
          refine oYg (g := 53) rfl rfl rfl rfl (fun W_ hW_ => (X.fa fa90_0 rfl)) rfl ?_
          refine oYg (g := 53) rfl rfl rfl rfl (fun W_ hW_ => (X.ldL rfl hW_.1 Tryd.underlying9 rfl rfl)) rfl ?_
          refine oYg (g := 53) rfl rfl rfl rfl (fun W_ hW_ => (X.geS rfl rfl)) rfl ?_
          refine oY rfl (fun W_ hW_ => (X.pickT rfl rfl)) rfl ?_
          refine oN ?_
          refine nN ?_
          refine W_if rfl (fun h62 => ?_) (fun h62 => ?_)
          · first | replace h62 := of_decide_eq_true h62 | replace h62 := of_decide_eq_false (notT h62) | replace h62 := notT h62 | skip
            have hge : ¬ o.sum < x.sum := fun hlt => by rw [bytesLess_eq] at h62; simp [hlt] at h62
            refine W_rs ?_
            refine sm rfl rfl ?_
            refine st (X.ldBN rfl hB6 Tryd.underlying90 rfl siz90) rfl ?_
            replace hR := hR.bel hpend
            replace hR5 := hR5.bel hpend
            clear hpend
            refine sbs1 rfl Tryd.underlying49 inf90 rfl rfl (by decide) (by decide) rfl (fun g65 w11 hR65 hg65 hb => ?_)
            replace hbw := bthen hbw hb
            replace hB6 := hB6.bel hb
            replace hR := hR.bel hb
            replace hR5 := hR5.bel hb
            have hz65 := hb.size
            clear hb
            refine sapp rfl rfl Tryd.underlying49 inf90 rfl (by decide) hR5 (hR65.reads.src Tryd.underlying49 (rcells_one ⟨x.sum, nx⟩)) (by simp only [maxLen]; omega) (by omega) rfl (fun va w12 hRa hC hva => ?_)
            have hagt : ∀ k, va.ownBlock = some k → g6 < k := fun k hk => by rcases hva with e | e; exact h5gt k (by rw [← e]; exact hk); rw [e] at hk; injection hk with hk; omega
            replace hB6 := hB6.chg hC (fun e => by have := h5gt g6 e; omega)
            replace hR := hR.chg hC (fun k hk e => by have := h3lt k hk; have := h5gt k e; omega)
            replace hbw := bapp hbw hC (fun k hk => by have := h5gt k hk; omega)
            have hz67 := hC.size
            replace hRa : Row w12 90 2 va (nl ++ ([⟨x.sum, nx⟩] : List Chk)).length ((nl ++ ([⟨x.sum, nx⟩] : List Chk)).flatMap rcells) := by rw [List.length_append, List.flatMap_append]; exact hRa
            clear hC hva hR5
            refine sa rfl rfl ?_
            refine Wn ?_
            refine tN ?_
            refine W_reg ?_
            refine sa rfl rfl ?_
            refine Wn ?_
            refine tN ?_
            refine W_drsN (fun W_ => Blk W_ g6 90 #[str x.sum, .int .i64 nx] ∧ W_.rangeAt g2 (o2 + k * 2) (rcells o)) [0, 1, 2, 3, 4, 5, 6, 7] [true, true, true, true, true, true, true, true] (by kernel_rfl) (by kernel_rfl) (⟨hB6.drew, RAt.range (hR.reads.bel (bdrew (Below.refl _ _))) ho⟩) ?_
            obtain ⟨w13, hw_⟩ : ∃ w13 : World, w13 = World.drew w12 := ⟨_, rfl⟩
            rw [← hw_]
            have hb : Below w12.heap.size w12 w13 := by rw [hw_]; exact bdrew (Below.refl _ _)
            clear hw_
            have hS := hb
            have hpend := hb
            replace hbw := bthen hbw hb
            replace hB6 := hB6.bel hb
            have hz_w13 := hb.size
            clear hb
            replace hR := hR.bel hpend
            replace hRa := hRa.bel hpend
            clear hpend
            obtain ⟨na, hna⟩ : ∃ na, nl ++ ([⟨x.sum, nx⟩] : List Chk) = na := ⟨_, rfl⟩
            rw [hna] at hRa
            refine oY rfl (fun W_ hW_ => (X.move rfl)) rfl ?_
            refine oY rfl (fun W_ hW_ => (X.move rfl)) rfl ?_
            refine oY rfl (fun W_ hW_ => (X.idxA rfl rfl Tryd.underlying49 siz90 rfl (by omega))) rfl ?_
            refine oY rfl (fun W_ hW_ => (X.fa fa90_0 rfl)) rfl ?_
            refine oY rfl (fun W_ hW_ => (X.ld rfl Tryd.underlying9 rfl (hW_.2 0 _ rfl))) rfl ?_
            refine oY rfl (fun W_ hW_ => (X.fa fa90_0 rfl)) rfl ?_
            refine oY rfl (fun W_ hW_ => (X.ldL rfl hW_.1 Tryd.underlying9 rfl rfl)) rfl ?_
            refine oY rfl (fun W_ hW_ => (X.neS rfl rfl)) rfl ?_
            refine oN ?_
            refine nN ?_
            refine W_if rfl (fun h74 => ?_) (fun h74 => ?_)
            · first | replace h74 := of_decide_eq_true h74 | replace h74 := of_decide_eq_false (notT h74) | replace h74 := notT h74 | skip
              refine W_reg ?_
              refine sm rfl rfl ?_
              refine sm rfl rfl ?_
              refine sm rfl rfl ?_
              refine st (X.idxA rfl rfl Tryd.underlying49 siz90 rfl (by omega)) rfl ?_
              refine st (X.ldN (cs := rcells o) rfl Tryd.underlying90 rfl siz90 (RAt.range hR.reads ho)) rfl ?_
              refine sbs1 rfl Tryd.underlying49 inf90 rfl rfl (by decide) (by decide) rfl (fun g80 w14 hR80 hg80 hb => ?_)
              replace hbw := bthen hbw hb
              replace hB6 := hB6.bel hb
              replace hR := hR.bel hb
              replace hRa := hRa.bel hb
              have hz80 := hb.size
              have hnal : na.length ≤ O.length + 2 := by first | omega | (rw [← hna, List.length_append, List.length_singleton]; omega)
              clear hb
              refine sapp rfl rfl Tryd.underlying49 inf90 rfl (by decide) hRa (hR80.reads.src Tryd.underlying49 (rcells_one o)) (by simp only [maxLen]; omega) (by omega) rfl (fun v5' w15 hR5' hC hvb => ?_)
              have h5gt' : ∀ k, v5'.ownBlock = some k → g6 < k := fun k hk => by rcases hvb with e | e; exact hagt k (by rw [← e]; exact hk); rw [e] at hk; injection hk with hk; omega
              replace hB6 := hB6.chg hC (fun e => by have := hagt g6 e; omega)
              replace hR := hR.chg hC (fun k hk e => by have := h3lt k hk; have := hagt k e; omega)
              replace hbw := bapp hbw hC (fun k hk => by have := hagt k hk; omega)
              have hz206 := hC.size
              obtain ⟨nl', hnl'⟩ : ∃ nl', na ++ [o] = nl' := ⟨_, rfl⟩
              replace hR5' : Row w15 90 2 v5' nl'.length (nl'.flatMap rcells) := by rw [← hnl', List.length_append, List.flatMap_append]; exact hR5'
              clear hC hvb
              refine sa rfl rfl ?_
              refine Wn ?_
              refine bN ?_
              refine tN ?_
              refine W_reg ?_
              obtain ⟨d', hd'⟩ : ∃ d', d' = true := ⟨_, rfl⟩
              have hm' : nl' ++ merge ⟨x.sum, nx⟩ d' (O.drop (k + 1)) = merge ⟨x.sum, nx⟩ false O := by rw [hd', ← hnl', ← hna]; exact ms_a hm ho hge h74
              refine sm rfl rfl ?_
              refine st (X.add64 rfl rfl (by omega)) rfl ?_
              refine sa rfl rfl ?_
              refine Wn ?_
              refine tN ⟨_, _, ?_, ⟨k + 1, d', nl', v5', rfl, rfl, by omega, hm', hB6, hg6w, h3lt, h5gt', hR, hR5', hbw⟩, ⟨rfl, rfl, rfl, rfl, rfl, by rw [hd']; rfl, rfl, trivial⟩⟩
              omega
            · first | replace h74 := of_decide_eq_false h74 | replace h74 := of_decide_eq_true (notF h74) | replace h74 := notF h74 | skip
              obtain ⟨nl', hnl'⟩ : ∃ nl', na = nl' := ⟨_, rfl⟩
              obtain ⟨v5', rfl⟩ : ∃ v5', v5' = va := ⟨_, rfl⟩
              have hR5' := hRa
              have h5gt' := hagt
              rw [hnl'] at hR5'
              refine W_skip ?_
              refine bN ?_
              refine tN ?_
              refine W_reg ?_
              obtain ⟨d', hd'⟩ : ∃ d', d' = true := ⟨_, rfl⟩
              have hm' : nl' ++ merge ⟨x.sum, nx⟩ d' (O.drop (k + 1)) = merge ⟨x.sum, nx⟩ false O := by rw [hd', ← hnl', ← hna]; exact ms_b hm ho hge (Classical.not_not.1 h74)
              refine sm rfl rfl ?_
              refine st (X.add64 rfl rfl (by omega)) rfl ?_
              refine sa rfl rfl ?_
              refine Wn ?_
              refine tN ⟨_, _, ?_, ⟨k + 1, d', nl', v5', rfl, rfl, by omega, hm', hB6, hg6w, h3lt, h5gt', hR, hR5', hbw⟩, ⟨rfl, rfl, rfl, rfl, rfl, by rw [hd']; rfl, rfl, trivial⟩⟩
              omega
          · first | replace h62 := of_decide_eq_false h62 | replace h62 := of_decide_eq_true (notF h62) | replace h62 := notF h62 | skip
            have hlt : o.sum < x.sum := Classical.byContradiction fun hn => by rw [bytesLess_eq] at h62; simp [hn] at h62
            refine W_skip ?_
            refine tN ?_
            replace hR := hR.bel hpend
            replace hR5 := hR5.bel hpend
            clear hpend
            refine W_drsN (fun W_ => Blk W_ g6 90 #[str x.sum, .int .i64 nx] ∧ W_.rangeAt g2 (o2 + k * 2) (rcells o)) [0, 1, 2, 3, 4, 5, 6, 7] [true, true, true, true, true, true, true, true] (by kernel_rfl) (by kernel_rfl) (⟨hB6.drew, RAt.range (hR.reads.bel (bdrew (Below.refl _ _))) ho⟩) ?_
            obtain ⟨w16, hw_⟩ : ∃ w16 : World, w16 = World.drew w10 := ⟨_, rfl⟩
            rw [← hw_]
            have hb : Below w10.heap.size w10 w16 := by rw [hw_]; exact bdrew (Below.refl _ _)
            clear hw_
            have hS := hb
            have hpend := hb
            replace hbw := bthen hbw hb
            replace hB6 := hB6.bel hb
            have hz_w16 := hb.size
            clear hb
            replace hR := hR.bel hpend
            replace hR5 := hR5.bel hpend
            clear hpend
            obtain ⟨na, rfl⟩ : ∃ na, na = nl := ⟨_, rfl⟩
            obtain ⟨va, rfl⟩ : ∃ va, va = v5 := ⟨_, rfl⟩
            have hRa := hR5
            have hagt := h5gt
            refine oY rfl (fun W_ hW_ => (X.move rfl)) rfl ?_
            refine oY rfl (fun W_ hW_ => (X.move rfl)) rfl ?_
            refine oY rfl (fun W_ hW_ => (X.idxA rfl rfl Tryd.underlying49 siz90 rfl (by omega))) rfl ?_
            refine oY rfl (fun W_ hW_ => (X.fa fa90_0 rfl)) rfl ?_
            refine oY rfl (fun W_ hW_ => (X.ld rfl Tryd.underlying9 rfl (hW_.2 0 _ rfl))) rfl ?_
            refine oY rfl (fun W_ hW_ => (X.fa fa90_0 rfl)) rfl ?_
            refine oY rfl (fun W_ hW_ => (X.ldL rfl hW_.1 Tryd.underlying9 rfl rfl)) rfl ?_
            refine oY rfl (fun W_ hW_ => (X.neS rfl rfl)) rfl ?_
            refine oN ?_
            refine nN ?_
            refine W_if rfl (fun h74 => ?_) (fun h74 => ?_)
            · first | replace h74 := of_decide_eq_true h74 | replace h74 := of_decide_eq_false (notT h74) | replace h74 := notT h74 | skip
              refine W_reg ?_
              refine sm rfl rfl ?_
              refine sm rfl rfl ?_
              refine sm rfl rfl ?_
              refine st (X.idxA rfl rfl Tryd.underlying49 siz90 rfl (by omega)) rfl ?_
              refine st (X.ldN (cs := rcells o) rfl Tryd.underlying90 rfl siz90 (RAt.range hR.reads ho)) rfl ?_
              refine sbs1 rfl Tryd.underlying49 inf90 rfl rfl (by decide) (by decide) rfl (fun g80 w17 hR80 hg80 hb => ?_)
              replace hbw := bthen hbw hb
              replace hB6 := hB6.bel hb
              replace hR := hR.bel hb
              replace hRa := hRa.bel hb
              have hz80 := hb.size
              have hnal : na.length ≤ O.length + 2 := by first | omega | (rw [← hna, List.length_append, List.length_singleton]; omega)
              clear hb
              refine sapp rfl rfl Tryd.underlying49 inf90 rfl (by decide) hRa (hR80.reads.src Tryd.underlying49 (rcells_one o)) (by simp only [maxLen]; omega) (by omega) rfl (fun v5' w18 hR5' hC hvb => ?_)
              have h5gt' : ∀ k, v5'.ownBlock = some k → g6 < k := fun k hk => by rcases hvb with e | e; exact hagt k (by rw [← e]; exact hk); rw [e] at hk; injection hk with hk; omega
              replace hB6 := hB6.chg hC (fun e => by have := hagt g6 e; omega)
              replace hR := hR.chg hC (fun k hk e => by have := h3lt k hk; have := hagt k e; omega)
              replace hbw := bapp hbw hC (fun k hk => by have := hagt k hk; omega)
              have hz206 := hC.size
              obtain ⟨nl', hnl'⟩ : ∃ nl', na ++ [o] = nl' := ⟨_, rfl⟩
              replace hR5' : Row w18 90 2 v5' nl'.length (nl'.flatMap rcells) := by rw [← hnl', List.length_append, List.flatMap_append]; exact hR5'
              clear hC hvb
              refine sa rfl rfl ?_
              refine Wn ?_
              refine bN ?_
              refine tN ?_
              refine W_reg ?_
              obtain ⟨d', hd'⟩ : ∃ d', d' = false := ⟨_, rfl⟩
              have hm' : nl' ++ merge ⟨x.sum, nx⟩ d' (O.drop (k + 1)) = merge ⟨x.sum, nx⟩ false O := by rw [hd', ← hnl']; exact ms_c hm ho hlt h74
              refine sm rfl rfl ?_
              refine st (X.add64 rfl rfl (by omega)) rfl ?_
              refine sa rfl rfl ?_
              refine Wn ?_
              refine tN ⟨_, _, ?_, ⟨k + 1, d', nl', v5', rfl, rfl, by omega, hm', hB6, hg6w, h3lt, h5gt', hR, hR5', hbw⟩, ⟨rfl, rfl, rfl, rfl, rfl, by rw [hd']; rfl, rfl, trivial⟩⟩
              omega
            · first | replace h74 := of_decide_eq_false h74 | replace h74 := of_decide_eq_true (notF h74) | replace h74 := notF h74 | skip
              obtain ⟨nl', hnl'⟩ : ∃ nl', na = nl' := ⟨_, rfl⟩
              obtain ⟨v5', rfl⟩ : ∃ v5', v5' = va := ⟨_, rfl⟩
              have hR5' := hRa
              have h5gt' := hagt
              rw [hnl'] at hR5'
              exact absurd hlt (by rw [Classical.not_not.1 h74]; exact klt_irrefl _)
        · refine W_drsN (fun _ => True) [0, 1, 2, 3, 4, 5, 6, 7, 8, 9, 10, 11] [true, true, true, true, true, true, true, true, true, true, true, true] (by kernel_rfl) (by kernel_rfl) (trivial) ?_
          obtain ⟨w19, hw_⟩ : ∃ w19 : World, w19 = World.drew w9 := ⟨_, rfl⟩
          rw [← hw_]
          have hb : Below w9.heap.size w9 w19 := by rw [hw_]; exact bdrew (Below.refl _ _)
          clear hw_
          have hS : True := trivial
          have hpend := hb
          replace hbw := bthen hbw hb
          replace hB6 := hB6.bel hb
          have hz_w19 := hb.size
          clear hb
          obtain rfl : d = true := by simpa using hsp_
          refine oY rfl (fun W_ hW_ => (X.move rfl)) rfl ?_
          refine oY rfl (fun W_ hW_ => (X.not rfl)) rfl ?_
          refine oY rfl (fun W_ hW_ => (X.mvB (c := false) rfl (rfl))) rfl ?_
          refine oNg (g := 53) rfl rfl rfl rfl hS rfl ?_
          refine oNg (g := 53) rfl rfl rfl rfl hS rfl ?_
          refine oNg (g := 53) rfl rfl rfl rfl hS rfl ?_
          refine oNg (g := 53) rfl rfl rfl rfl hS rfl ?_
          refine oNg (g := 53) rfl rfl rfl rfl hS rfl ?_
          refine oNg (g := 53) rfl rfl rfl rfl hS rfl ?_
          refine oNg (g := 53) rfl rfl rfl rfl hS rfl ?_
          refine oNg (g := 53) rfl rfl rfl rfl hS rfl ?_
          refine oY rfl (fun W_ hW_ => (X.pickF rfl rfl)) rfl ?_
          refine oN ?_
          refine nN ?_
          refine W_no rfl (rfl) ?_
          refine W_skip ?_
          refine tN ?_
          replace hR := hR.bel hpend
          replace hR5 := hR5.bel hpend
          clear hpend
          refine W_drsN (fun W_ => Blk W_ g6 90 #[str x.sum, .int .i64 nx] ∧ W_.rangeAt g2 (o2 + k * 2) (rcells o)) [0, 1, 2, 3, 4, 5, 6, 7] [true, true, true, true, true, true, true, true] (by kernel_rfl) (by kernel_rfl) (⟨hB6.drew, RAt.range (hR.reads.bel (bdrew (Below.refl _ _))) ho⟩) ?_
          obtain ⟨w20, hw_⟩ : ∃ w20 : World, w20 = World.drew w19 := ⟨_, rfl⟩
          rw [← hw_]
          have hb : Below w19.heap.size w19 w20 := by rw [hw_]; exact bdrew (Below.refl _ _)
          clear hw_
          have hS := hb
          have hpend := hb
          replace hbw := bthen hbw hb
          replace hB6 := hB6.bel hb
          have hz_w20 := hb.size
          clear hb
          replace hR := hR.bel hpend
          replace hR5 := hR5.bel hpend
          clear hpend
          obtain ⟨na, rfl⟩ : ∃ na, na = nl := ⟨_, rfl⟩
          obtain ⟨va, rfl⟩ : ∃ va, va = v5 := ⟨_, rfl⟩
          have hRa := hR5
          have hagt := h5gt
          refine oY rfl (fun W_ hW_ => (X.move rfl)) rfl ?_
          refine oY rfl (fun W_ hW_ => (X.move rfl)) rfl ?_
          refine oY rfl (fun W_ hW_ => (X.idxA rfl rfl Tryd.underlying49 siz90 rfl (by omega))) rfl ?_
          refine oY rfl (fun W_ hW_ => (X.fa fa90_0 rfl)) rfl ?_
          refine oY rfl (fun W_ hW_ => (X.ld rfl Tryd.underlying9 rfl (hW_.2 0 _ rfl))) rfl ?_
          refine oY rfl (fun W_ hW_ => (X.fa fa90_0 rfl)) rfl ?_
          refine oY rfl (fun W_ hW_ => (X.ldL rfl hW_.1 Tryd.underlying9 rfl rfl)) rfl ?_
          refine oY rfl (fun W_ hW_ => (X.neS rfl rfl)) rfl ?_
          refine oN ?_
          refine nN ?_
          refine W_if rfl (fun h74 => ?_) (fun h74 => ?_)
          · first | replace h74 := of_decide_eq_true h74 | replace h74 := of_decide_eq_false (notT h74) | replace h74 := notT h74 | skip
            refine W_reg ?_
            refine sm rfl rfl ?_
            refine sm rfl rfl ?_
            refine sm rfl rfl ?_
            refine st (X.idxA rfl rfl Tryd.underlying49 siz90 rfl (by omega)) rfl ?_
            refine st (X.ldN (cs := rcells o) rfl Tryd.underlying90 rfl siz90 (RAt.range hR.reads ho)) rfl ?_
            refine sbs1 rfl Tryd.underlying49 inf90 rfl rfl (by decide) (by decide) rfl (fun g80 w21 hR80 hg80 hb => ?_)
            replace hbw := bthen hbw hb
            replace hB6 := hB6.bel hb
            replace hR := hR.bel hb
            replace hRa := hRa.bel hb
            have hz80 := hb.size
            have hnal : na.length ≤ O.length + 2 := by first | omega | (rw [← hna, List.length_append, List.length_singleton]; omega)
            clear hb
            refine sapp rfl rfl Tryd.underlying49 inf90 rfl (by decide) hRa (hR80.reads.src Tryd.underlying49 (rcells_one o)) (by simp only [maxLen]; omega) (by omega) rfl (fun v5' w22 hR5' hC hvb => ?_)
            have h5gt' : ∀ k, v5'.ownBlock = some k → g6 < k := fun k hk => by rcases hvb with e | e; exact hagt k (by rw [← e]; exact hk); rw [e] at hk; injection hk with hk; omega
            replace hB6 := hB6.chg hC (fun e => by have := hagt g6 e; omega)
            replace hR := hR.chg hC (fun k hk e => by have := h3lt k hk; have := hagt k e; omega)
            replace hbw := bapp hbw hC (fun k hk => by have := hagt k hk; omega)
            have hz206 := hC.size
            obtain ⟨nl', hnl'⟩ : ∃ nl', na ++ [o] = nl' := ⟨_, rfl⟩
            replace hR5' : Row w22 90 2 v5' nl'.length (nl'.flatMap rcells) := by rw [← hnl', List.length_append, List.flatMap_append]; exact hR5'
            clear hC hvb
            refine sa rfl rfl ?_
            refine Wn ?_
            refine bN ?_
            refine tN ?_
            refine W_reg ?_
            obtain ⟨d', hd'⟩ : ∃ d', d' = true := ⟨_, rfl⟩
            have hm' : nl' ++ merge ⟨x.sum, nx⟩ d' (O.drop (k + 1)) = merge ⟨x.sum, nx⟩ false O := by rw [hd', ← hnl']; exact ms_d hm ho h74
            refine sm rfl rfl ?_
            refine st (X.add64 rfl rfl (by omega)) rfl ?_
            refine sa rfl rfl ?_
            refine Wn ?_
            refine tN ⟨_, _, ?_, ⟨k + 1, d', nl', v5', rfl, rfl, by omega, hm', hB6, hg6w, h3lt, h5gt', hR, hR5', hbw⟩, ⟨rfl, rfl, rfl, rfl, rfl, by rw [hd']; rfl, rfl, trivial⟩⟩
            omega
          · first | replace h74 := of_decide_eq_false h74 | replace h74 := of_decide_eq_true (notF h74) | replace h74 := notF h74 | skip
            obtain ⟨nl', hnl'⟩ : ∃ nl', na = nl' := ⟨_, rfl⟩
            obtain ⟨v5', rfl⟩ : ∃ v5', v5' = va := ⟨_, rfl⟩
            have hR5' := hRa
            have h5gt' := hagt
            rw [hnl'] at hR5'
            refine W_skip ?_
            refine bN ?_
            refine tN ?_
            refine W_reg ?_
            obtain ⟨d', hd'⟩ : ∃ d', d' = true := ⟨_, rfl⟩
            have hm' : nl' ++ merge ⟨x.sum, nx⟩ d' (O.drop (k + 1)) = merge ⟨x.sum, nx⟩ false O := by rw [hd', ← hnl']; exact ms_e hm ho (Classical.not_not.1 h74)
            refine sm rfl rfl ?_
            refine st (X.add64 rfl rfl (by omega)) rfl ?_
            refine sa rfl rfl ?_
            refine Wn ?_
            refine tN ⟨_, _, ?_, ⟨k + 1, d', nl', v5', rfl, rfl, by omega, hm', hB6, hg6w, h3lt, h5gt', hR, hR5', hbw⟩, ⟨rfl, rfl, rfl, rfl, rfl, by rw [hd']; rfl, rfl, trivial⟩⟩
            omega
      · first | replace h48 := of_decide_eq_false h48 | replace h48 := of_decide_eq_true (notF h48) | replace h48 := notF h48 | skip
        obtain rfl : k = O.length := by omega
        rw [List.drop_length] at hm
        have hins : merge ⟨x.sum, nx⟩ false O = ins O x := by unfold ins; rw [hnx]
        have hnll : nl.length ≤ O.length + 1 := by have := congrArg List.length hm; rw [List.length_append] at this; omega
        have hg6l := hB6.lt
        refine W_exit (tE (tE (bH ?_)))
        refine tN ?_
        refine W_seq ?_
        refine W_rs ?_
        refine sm rfl rfl ?_
        refine st (X.not rfl) rfl ?_
        refine Wn ?_
        refine tN ?_
        refine W_if rfl (fun h83 => ?_) (fun h83 => ?_)
        · first | replace h83 := of_decide_eq_true h83 | replace h83 := of_decide_eq_false (notT h83) | replace h83 := notT h83 | skip
          refine W_reg ?_
          refine sm rfl rfl ?_
          refine st (X.ldBN rfl hB6 Tryd.underlying90 rfl siz90) rfl ?_
          refine sbs1 rfl Tryd.underlying49 inf90 rfl rfl (by decide) (by decide) rfl (fun g86 w23 hR86 hg86 hb => ?_)
          replace hbw := bthen hbw hb
          replace hR5 := hR5.bel hb
          have hz86 := hb.size
          clear hb
          refine sapp rfl rfl Tryd.underlying49 inf90 rfl (by decide) hR5 (hR86.reads.src Tryd.underlying49 (rcells_one ⟨x.sum, nx⟩)) (by simp only [maxLen]; omega) (by omega) rfl (fun vf w24 hRn hC hvb => ?_)
          have hO5 : ∀ k, vf.ownBlock = some k → w.heap.size ≤ k := fun k hk => by rcases hvb with e | e; have := h5gt k (by rw [← e]; exact hk); omega; rw [e] at hk; injection hk with hk; omega
          replace hbw := bapp hbw hC (fun k hk => by have := h5gt k hk; omega)
          have hfin : nl ++ ([⟨x.sum, nx⟩] : List Chk) = ins O x := by rw [← hins, ← hm, h83]; rfl
          replace hRn : Row w24 90 2 vf (ins O x).length ((ins O x).flatMap rcells) := by rw [← hfin, List.length_append, List.flatMap_append]; exact hRn
          clear hC hvb
          refine sa rfl rfl ?_
          refine Wn ?_
          refine tN ?_
          refine W_reg ?_
          refine sm rfl rfl ?_
          refine sa rfl rfl ?_
          refine Wn ?_
          refine bN ?_
          refine tN ?_
          refine W_reg ?_
          refine sm rfl rfl ?_
          refine st (X.add64 rfl rfl (by omega)) rfl ?_
          refine sa rfl rfl ?_
          refine Wn ?_
          refine tN ⟨_, _, ?_, ⟨i + 1, ins O x, vf, rfl, rfl, by omega, by rw [take_next' hx, allM_snoc, ← hO], hRn, hO5, hbw⟩, ⟨rfl, rfl, rfl, trivial⟩⟩
          omega
        · first | replace h83 := of_decide_eq_false h83 | replace h83 := of_decide_eq_true (notF h83) | replace h83 := notF h83 | skip
          have hfin : nl = ins O x := by rw [← hins, ← hm, h83]; simp [merge]
          obtain ⟨vf, rfl⟩ : ∃ vf, vf = v5 := ⟨_, rfl⟩
          have hRn := hR5
          rw [hfin] at hRn
          have hO5 : ∀ k, vf.ownBlock = some k → w.heap.size ≤ k := fun k hk => by have := h5gt k hk; omega
          refine W_skip ?_
          refine tN ?_
          refine W_reg ?_
          refine sm rfl rfl ?_
          refine sa rfl rfl ?_
          refine Wn ?_
          refine bN ?_
          refine tN ?_
          refine W_reg ?_
          refine sm rfl rfl ?_
          refine st (X.add64 rfl rfl (by omega)) rfl ?_
          refine sa rfl rfl ?_
          refine Wn ?_
          refine tN ⟨_, _, ?_, ⟨i + 1, ins O x, vf, rfl, rfl, by omega, by rw [take_next' hx, allM_snoc, ← hO], hRn, hO5, hbw⟩, ⟨rfl, rfl, rfl, trivial⟩⟩
          omega
  · first | replace h15 := of_decide_eq_false h15 | replace h15 := of_decide_eq_true (notF h15) | replace h15 := notF h15 | skip
    obtain rfl : i = l.length := by omega
    rw [List.take_length] at hO
    have hOl : O.length ≤ l.length := by rw [hO]; exact allM_length l
    obtain ⟨a3, c3, rfl, hn3, hc3⟩ := hR.shape
    have h3l := hR.own_lt
    refine W_exit (tE (tE (bH ?_)))
    refine tN ?_
    refine W_rs ?_
    refine sa rfl rfl ?_
    refine Wn ?_
    refine tN ?_
    refine W_seq ?_
    refine W_rs ?_
    refine sa rfl rfl ?_
    refine Wn ?_
    refine tN ?_
    refine W_block ?_
    obtain ⟨wk, hwk⟩ : ∃ W_ : World, W_ = w1 := ⟨_, rfl⟩
    have h3k : ∀ k, (Value.slice a3 O.length c3).ownBlock = some k → k < wk.heap.size := by rw [hwk]; exact h3l
    have hwkz : w.heap.size ≤ wk.heap.size := by rw [hwk]; exact hbw.size
    have hkz : wk.heap.size ≤ (w1).heap.size := by rw [hwk]; exact Nat.le_refl _
    clear hwk
    refine W_lp (fun nw25_ lw25_ w25 => ∃ j : Nat, ∃ vf : Value, nw25_ = O.length - j ∧ lw25_ = ([(3, .slice a3 O.length c3), (10, vf), (11, .int .i64 j)] : Env) ∧ (j ≤ O.length) ∧ (wk.heap.size ≤ (w25).heap.size) ∧ (Row w25 90 2 (.slice a3 O.length c3) O.length (O.flatMap rcells)) ∧ (Row w25 90 2 vf ((O.take j).filter (fun c => decide (c.len ≠ 0))).length (((O.take j).filter (fun c => decide (c.len ≠ 0))).flatMap rcells)) ∧ (∀ k, vf.ownBlock = some k → wk.heap.size ≤ k) ∧ (Below w.heap.size w w25)) _ ⟨_, ⟨0, .slice none 0 0, rfl, rfl, by omega, hkz, hR, Row.nil _ _ _, (fun k hk => by simp [Value.ownBlock] at hk), hbw⟩, ⟨rfl, rfl, rfl, trivial⟩⟩ ?_
    clear hkz hR hbw
    rintro nw25_ lw25_ w25 ⟨j, vf, rfl, rfl, hj, hkz, hR, hRf, hOf, hbw⟩
    have hz_w25 := hbw.size
    refine W_seq ?_
    refine W_rs ?_
    refine sm rfl rfl ?_
    refine sm rfl rfl ?_
    refine st (X.lenL rfl rfl Tryd.underlying49) rfl ?_
    refine st (X.lss rfl rfl) rfl ?_
    refine Wn ?_
    refine tN ?_
    refine W_if rfl (fun h92 => ?_) (fun h92 => ?_)
    · first | replace h92 := of_decide_eq_true h92 | replace h92 := of_decide_eq_false (notT h92) | replace h92 := notT h92 | skip
      obtain ⟨o, ho⟩ : ∃ o, O[j]? = some o := ⟨_, List.getElem?_eq_getElem (by omega)⟩
      have hRe := hR.reads
      obtain ⟨g2, o2, c', hv, hg2⟩ := hRe.some_ (by omega)
      injection hv with e1 _ e3
      subst e1 e3
      have hfl : ((O.take j).filter (fun c => decide (c.len ≠ 0))).length ≤ 1000000 := by have := List.length_filter_le (fun c : Chk => decide (c.len ≠ 0)) (O.take j); rw [List.length_take] at this; omega
      refine W_skip ?_
      refine tN ?_
      refine W_seq ?_
      refine W_block ?_
      refine W_rs ?_
      refine sm rfl rfl ?_
      refine sm rfl rfl ?_
      refine st (X.idxA rfl rfl Tryd.underlying49 siz90 rfl (by omega)) rfl ?_
      refine st (X.fa fa90_1 rfl) rfl ?_
      refine st (X.ld rfl Tryd.underlying3 rfl ((RAt.range hRe ho) 1 _ rfl)) rfl ?_
      refine st (X.neq rfl rfl) rfl ?_
      refine Wn ?_
      refine tN ?_
      refine W_if rfl (fun h100 => ?_) (fun h100 => ?_)
      · first | replace h100 := of_decide_eq_true h100 | replace h100 := of_decide_eq_false (notT h100) | replace h100 := notT h100 | skip
        refine W_reg ?_
        refine sm rfl rfl ?_
        refine sm rfl rfl ?_
        refine sm rfl rfl ?_
        refine st (X.idxA rfl rfl Tryd.underlying49 siz90 rfl (by omega)) rfl ?_
        refine st (X.ldN (cs := rcells o) rfl Tryd.underlying90 rfl siz90 (RAt.range hR.reads ho)) rfl ?_
        refine sbs1 rfl Tryd.underlying49 inf90 rfl rfl (by decide) (by decide) rfl (fun g106 w26 hR106 hg106 hb => ?_)
        replace hbw := bthen hbw hb
        replace hR := hR.bel hb
        replace hRf := hRf.bel hb
        have hz106 := hb.size
        clear hb
        refine sapp rfl rfl Tryd.underlying49 inf90 rfl (by decide) hRf (hR106.reads.src Tryd.underlying49 (rcells_one o)) (by simp only [maxLen]; omega) (by omega) rfl (fun vg w27 hRg hC hvb => ?_)
        have hOg : ∀ k, vg.ownBlock = some k → wk.heap.size ≤ k := own_next hvb hOf (by omega)
        replace hR := hR.chg hC (fun k hk e => by have := h3k k hk; have := hOf k e; omega)
        replace hbw := bapp hbw hC (fun k hk => by have := hOf k hk; omega)
        have hz107 := hC.size
        have hfs : (O.take (j + 1)).filter (fun c => decide (c.len ≠ 0)) = (O.take j).filter (fun c => decide (c.len ≠ 0)) ++ [o] := by rw [take_next' ho, List.filter_append]; simp [h100]
        replace hRg : Row w27 90 2 vg ((O.take (j + 1)).filter (fun c => decide (c.len ≠ 0))).length (((O.take (j + 1)).filter (fun c => decide (c.len ≠ 0))).flatMap rcells) := by rw [hfs, List.length_append, List.flatMap_append]; exact hRg
        clear hC hvb
        refine sa rfl rfl ?_
        refine Wn ?_
        refine bN ?_
        refine tN ?_
        refine W_reg ?_
        refine sm rfl rfl ?_
        refine st (X.add64 rfl rfl (by omega)) rfl ?_
        refine sa rfl rfl ?_
        refine Wn ?_
        refine tN ⟨_, _, ?_, ⟨j + 1, vg, rfl, rfl, by omega, by omega, hR, hRg, hOg, hbw⟩, ⟨rfl, rfl, rfl, trivial⟩⟩
        omega
      · first | replace h100 := of_decide_eq_false h100 | replace h100 := of_decide_eq_true (notF h100) | replace h100 := notF h100 | skip
        have hfs : (O.take (j + 1)).filter (fun c => decide (c.len ≠ 0)) = (O.take j).filter (fun c => decide (c.len ≠ 0)) := by rw [take_next' ho, List.filter_append]; simp [Classical.not_not.1 h100]
        obtain ⟨vg, rfl⟩ : ∃ vg, vg = vf := ⟨_, rfl⟩
        have hRg := hRf
        have hOg := hOf
        rw [← hfs] at hRg
        refine W_skip ?_
        refine bN ?_
        refine tN ?_
        refine W_reg ?_
        refine sm rfl rfl ?_
        refine st (X.add64 rfl rfl (by omega)) rfl ?_
        refine sa rfl rfl ?_
        refine Wn ?_
        refine tN ⟨_, _, ?_, ⟨j + 1, vg, rfl, rfl, by omega, by omega, hR, hRg, hOg, hbw⟩, ⟨rfl, rfl, rfl, trivial⟩⟩
        omega
    · first | replace h92 := of_decide_eq_false h92 | replace h92 := of_decide_eq_true (notF h92) | replace h92 := notF h92 | skip
      obtain rfl : j = O.length := by omega
      rw [List.take_length] at hRf
      have hnet : O.filter (fun c => decide (c.len ≠ 0)) = netM l := by rw [hO]; rfl
      rw [hnet] at hRf
      refine W_exit (tE (tE (bH ?_)))
      refine tN ?_
      refine W_rs ?_
      refine sm rfl rfl ?_
      refine sa rfl rfl ?_
      refine Wn ?_
      refine tN ?_
      refine W_ret ?_
      exact (rT rfl rfl ⟨vf, rfl, hRf, fun k hk => by have := hOf k hk; omega, hbw⟩).1
end Go.Proofs.YtnagmpnpgekhfaaDoor
