/- What PackScans needs, part 4. -/
import Derived.Test.YtnlabkogebnioaaGreatDoorChecked
import Derived.WalkKit
import Derived.Lib.Hide
import Derived.WalkLawsBesides
import Derived.WalkSpells
import Derived.BigQuiet
import Derived.Deep.QuietTactic
import Derived.Deep.LoopGhost
import Derived.Deep.DeepCutAuto
import Derived.Lib.LaidU8T
import Derived.Stop.LaidErr
import Derived.Test.YtnlabkogebnioaaGreatDoorCards
import Derived.Test.YtnlabkogebnioaaGreatDoorPackScansP3
namespace Go.Proofs.YtnlabkogebnioaaGreatDoor
open Go.RowKit
def recE (e : Ent) : List Value := [str e.sum, .int .i64 e.pack, .int .i64 e.pos, .int .i64 e.len]
theorem recE_length (e : Ent) : (recE e).length = 4 := rfl
theorem recE_one (e : Ent) : ∀ v ∈ recE e, v.oneCell' = true := by
 intro v hv
 simp only [recE, List.mem_cons, List.not_mem_nil, or_false] at hv
 rcases hv with rfl | rfl | rfl | rfl <;> rfl
abbrev REnts (w : World) (v : Value) (l : List Ent) : Prop := Reads w 4 v l.length (l.flatMap recE)
theorem REnts.range {w : World} {g o c : Nat} {l : List Ent} (h : REnts w (.slice (some ⟨g, o, none⟩) l.length c) l) {j : Nat} {x : Ent} (hx : l[j]? = some x) : w.rangeAt g (o + j * 4) (recE x) := h.rec_ (fun a _ => recE_length a) hx
theorem brec (s : List UInt8) (a b c : Int) (w : World) : (Instr.build 103 #[(0, str s), (1, .int .i64 a), (2, .int .i64 b), (3, .int .i64 c)]).run Tryz.prog w = .ok (.agg (recE ⟨s, a, b, c⟩).toArray) w := by kernel_rfl
theorem fieldsREntE : Tryz.prog.underlying 103 = some (.struct (Tryz.prog.fieldsOf 103)) := by kernel_rfl
theorem ent_dec (a b : Ent) : (a.sum == b.sum && (a.pack == b.pack && (a.pos == b.pos && a.len == b.len))) = decide (a = b) := by
 cases a; cases b
 rw [Bool.eq_iff_iff]
 simp
set_option maxRecDepth 30000 in
theorem eqREnt (a b : Ent) (w : World) : (Op.equalIn 10000 103 (.agg (recE a).toArray) (.agg (recE b).toArray)).run Tryz.prog w = .ok (decide (a = b)) w := by
 refine (run_equalIn_struct w 9999 _ _ _ fieldsREntE (by kernel_rfl)).trans ?_
 have hf := Option.some.inj (fieldsREntE.symm.trans Tryz.underlying103)
 injection hf with hf
 rw [hf]
 have h1 : ∀ c : Ent, (part 9 (recE c).toArray 0).run Tryz.prog w = .ok (str c.sum) w := fun c => run_part1 Tryz.underlying9 rfl rfl
 have h2 : ∀ c : Ent, (part 3 (recE c).toArray 1).run Tryz.prog w = .ok (.int .i64 c.pack) w := fun c => run_part1 Tryz.underlying3 rfl rfl
 have h3 : ∀ c : Ent, (part 3 (recE c).toArray 2).run Tryz.prog w = .ok (.int .i64 c.pos) w := fun c => run_part1 Tryz.underlying3 rfl rfl
 have h4 : ∀ c : Ent, (part 3 (recE c).toArray 3).run Tryz.prog w = .ok (.int .i64 c.len) w := fun c => run_part1 Tryz.underlying3 rfl rfl
 have e1 : (Op.equalIn 9999 9 (str a.sum) (str b.sum)).run Tryz.prog w = .ok (a.sum == b.sum) w := by
  unfold str
  rw [run_equalIn_string w 9998 9 _ _ Tryz.underlying9, ByteArray.toList_eq, ByteArray.toList_eq]
 have e2 : (Op.equalIn 9999 3 (.int .i64 a.pack) (.int .i64 b.pack)).run Tryz.prog w = .ok (a.pack == b.pack) w := run_equalIn_int w 9998 3 .i64 .i64 _ _ Tryz.underlying3
 have e3 : (Op.equalIn 9999 3 (.int .i64 a.pos) (.int .i64 b.pos)).run Tryz.prog w = .ok (a.pos == b.pos) w := run_equalIn_int w 9998 3 .i64 .i64 _ _ Tryz.underlying3
 have e4 : (Op.equalIn 9999 3 (.int .i64 a.len) (.int .i64 b.len)).run Tryz.prog w = .ok (a.len == b.len) w := run_equalIn_int w 9998 3 .i64 .i64 _ _ Tryz.underlying3
 rw [← ent_dec]
 exact eqFields_cons (by decide) (h1 a) (h1 b) e1 (fun _ => eqFields_cons (by decide) (h2 a) (h2 b) e2 (fun _ => eqFields_cons (by decide) (h3 a) (h3 b) e3 (fun _ => eqFields_one (by decide) (h4 a) (h4 b) e4)))
theorem X.neREnt {l : Env} {x y : Operand} {w : World} {t' ty : TypeId} {a b : Ent} (hx : ev l x = some (.agg (recE a).toArray)) (hy : ev l y = some (.agg (recE b).toArray)) : X Tryz.prog l (.binOp .neq 103 x y t') ty w (.bool (decide (a ≠ b))) w :=
 X.bin hx hy (fun c d => run_eqGuard_agg w .neq _ c d _ _ (by kernel_rfl)) (by rw [run_neq_struct, eqREnt]; simp [Result.andThen])
theorem entRange {W : World} {g o : Nat} {x : Ent} (h : W.rangeAt g o x.cells) : W.rangeAt g (o + 0) (x.sum.map bv) := fun i v hv => by
 refine h i v ?_
 unfold Ent.cells
 rw [List.getElem?_append_left (List.getElem?_eq_some_iff.1 hv).1, hv]
set_option maxRecDepth 10000 in
theorem FPlain_any (v : Value) (l : List Ent) (w : World) (h : EntsAt w v l) (h32 : S32 l) (hl : l.length ≤ 1000000) :
  Calls Tryz.prog 48 #[v] w fun e w' => ∃ v', e = .returned v' ∧ Row w' 103 4 v' l.length (l.flatMap recE) ∧ (∀ k, v'.ownBlock = some k → w.heap.size ≤ k) ∧ Below w.heap.size w w' := by
 obtain ⟨a, cp, rfl, hn, hcp⟩ := h.shape
 refine W_enter (args := [.slice a l.length cp]) 37 Tryz.func48 rfl rfl rfl (W_sub [(0, .slice a l.length cp)] ?_ ⟨rfl, trivial⟩)
 have hbw := Below.refl w.heap.size w
 refine W_rs (sa rfl rfl (Wn (tN (W_rs (sa rfl rfl (Wn (tN (W_seq (W_rs (sa rfl rfl ?_))))))))))
 refine Wn (tN (W_block (W_lp (fun nw1_ lw1_ w1 => ∃ j : Nat, ∃ v : Value, nw1_ = l.length - j ∧ lw1_ = ([(0, .slice a l.length cp), (3, v), (4, .int .i64 j)] : Env) ∧ (j ≤ l.length) ∧ (Row w1 103 4 v j ((l.take j).flatMap recE)) ∧ (∀ k, v.ownBlock = some k → w.heap.size ≤ k) ∧ (Below w.heap.size w w1)) _ ⟨_, ⟨0, .slice none 0 0, rfl, rfl, by omega, Row.nil _ _ _, (fun k hk => by simp [Value.ownBlock] at hk), hbw⟩, ⟨rfl, rfl, rfl, trivial⟩⟩ ?_)))
 clear hbw
 rintro nw1_ lw1_ w1 ⟨j, v, rfl, rfl, hj, hR, hO, hbw⟩
 have hz_w1 := hbw.size
 refine W_seq (W_rs (sm rfl rfl (sm rfl rfl (st (X.lenL rfl rfl Tryz.underlying23) rfl (st (X.lss rfl rfl) rfl (Wn (tN (W_if rfl (fun h8 => ?_) (fun h8 => ?_)))))))))
 ·first | replace h8 := of_decide_eq_true h8 | replace h8 := of_decide_eq_false (notT h8) | replace h8 := notT h8 | skip
  obtain ⟨x, hx⟩ : ∃ x, l[j]? = some x := ⟨_, List.getElem?_eq_getElem (by omega)⟩
  obtain ⟨g1, o1, c', hv, hg1⟩ := (h.bel hbw).some_ (by omega)
  injection hv with e1 _ e3
  subst e1 e3
  have hxs := h32 x (List.mem_of_getElem? hx)
  refine W_skip (tN (W_seq (W_block (W_drN (fun W_ => W_.rangeAt g1 (o1 + j * 35) x.cells) [0, 1, 2, 3, 4, 5, 7, 8, 9, 10, 11, 12, 13, 14, 15, 16, 17, 18, 19, 20, 21, 6, 22, 23, 24, 25] [true, true, true, true, true, true, true, true, true, true, true, true, true, true, true, true, true, true, true, true, true, false, true, false, false, true] (by kernel_rfl) (by kernel_rfl) (EntsAt.range (h.bel (bdrew hbw)) h32 hx) ?_))))
  obtain ⟨w2, hw_⟩ : ∃ w2 : World, w2 = World.drew w1 := ⟨_, rfl⟩
  rw [← hw_]
  have hb : Below w1.heap.size w1 w2 := by rw [hw_]; exact bdrew (Below.refl _ _)
  clear hw_
  have hS := hb
  have hpend := hb
  replace hbw := bthen hbw hb
  have hz_w2 := hb.size
  clear hb
  refine oY rfl (fun W_ hW_ => (X.move rfl)) rfl (oY rfl (fun W_ hW_ => (X.move rfl)) rfl (oY rfl (fun W_ hW_ => (X.move rfl)) rfl (oY rfl (fun W_ hW_ => (X.idxA rfl rfl Tryz.underlying23 siz66 rfl (by omega))) rfl (oY rfl (fun W_ hW_ => (X.fa fa66_0 rfl)) rfl (oY rfl (fun W_ hW_ => (X.ldN (cs := x.sum.map bv) rfl Tryz.underlying60 rfl (by rw [List.length_map, hxs]; exact siz60) (entRange hW_))) rfl ?_)))))
  refine oY rfl (fun W_ hW_ => (X.move rfl)) rfl (oY rfl (fun W_ hW_ => (X.move rfl)) rfl (oY rfl (fun W_ hW_ => (X.idxA rfl rfl Tryz.underlying23 siz66 rfl (by omega))) rfl (oY rfl (fun W_ hW_ => (X.fa fa66_1 rfl)) rfl (oY rfl (fun W_ hW_ => (X.ld rfl Tryz.underlying3 rfl (hW_ 32 (.int .i64 x.pack) (by simp [Ent.cells, hxs])))) rfl ?_))))
  refine oY rfl (fun W_ hW_ => (X.move rfl)) rfl (oY rfl (fun W_ hW_ => (X.move rfl)) rfl (oY rfl (fun W_ hW_ => (X.idxA rfl rfl Tryz.underlying23 siz66 rfl (by omega))) rfl (oY rfl (fun W_ hW_ => (X.fa fa66_2 rfl)) rfl (oY rfl (fun W_ hW_ => (X.ld rfl Tryz.underlying3 rfl (hW_ 33 (.int .i64 x.pos) (by simp [Ent.cells, hxs])))) rfl ?_))))
  refine oY rfl (fun W_ hW_ => (X.move rfl)) rfl (oY rfl (fun W_ hW_ => (X.move rfl)) rfl (oY rfl (fun W_ hW_ => (X.idxA rfl rfl Tryz.underlying23 siz66 rfl (by omega))) rfl (oY rfl (fun W_ hW_ => (X.fa fa66_3 rfl)) rfl (oY rfl (fun W_ hW_ => (X.ld rfl Tryz.underlying3 rfl (hW_ 34 (.int .i64 x.len) (by simp [Ent.cells, hxs])))) rfl ?_))))
  refine oL rfl (fun Q_ hQ_ hP_ => (sc _ Tryz.func94 rfl (by kernel_rfl) rfl rfl ((Text32_any x.sum _ hxs).mono ?_)))
  rintro e_ w3 ⟨rfl, hb⟩
  refine cR ?_
  replace hpend := bthen hpend hb
  replace hbw := bthen hbw hb
  have hz_w3 := hb.size
  clear hb
  refine Wn (hQ_ _ _ (EntsAt.range (h.bel hbw) h32 hx) ?_)
  clear hQ_ hP_ Q_
  refine oY rfl (fun W_ hW_ => (X.bld rfl (brec _ _ _ _ _))) rfl (oL rfl (fun Q_ hQ_ hP_ => (sbs1 rfl Tryz.underlying29 inf103 rfl rfl (by decide) (by decide) rfl (fun g34 w4 hR34 hg34 hb => ?_))))
  replace hpend := bthen hpend hb
  replace hbw := bthen hbw hb
  have hz_w4 := hb.size
  clear hb
  have hl34 := hR34.blt (by decide)
  refine Wn (hQ_ _ _ (EntsAt.range (h.bel hbw) h32 hx) ?_)
  clear hQ_ hP_ Q_
  refine oL rfl (fun Q_ hQ_ hP_ => ?_)
  replace hR := hR.bel hpend
  clear hpend
  refine sapp rfl rfl Tryz.underlying29 inf103 rfl (by decide) hR (hR34.reads.src Tryz.underlying29 (recE_one x)) (by simp only [maxLen]; omega) (by omega) rfl (fun v' w5 hR' hC hv' => ?_)
  replace hbw := bapp hbw hC hO
  replace hO := own_next hv' hO (by omega)
  clear hC hv'
  refine Wn (hQ_ _ _ (EntsAt.range (h.bel hbw) h32 hx) ?_)
  clear hQ_ hP_ Q_
  refine oY rfl (fun W_ hW_ => (X.assign rfl)) rfl (oN (nN (bN (tN (W_reg (sm rfl rfl (st (X.add64 rfl rfl (by omega)) rfl (sa rfl rfl (Wn (tN ⟨_, _, ?_, ⟨j + 1, v', rfl, rfl, by omega, by rw [take_next' hx, List.flatMap_append]; exact hR', hO, hbw⟩, ⟨rfl, rfl, rfl, trivial⟩⟩))))))))))
  omega
 ·first | replace h8 := of_decide_eq_false h8 | replace h8 := of_decide_eq_true (notF h8) | replace h8 := notF h8 | skip
  obtain rfl : j = l.length := by omega
  rw [List.take_length] at hR
  refine W_exit (tE (tE (bH (tN (W_rs (sm rfl rfl (sa rfl rfl (Wn (tN (W_ret ?_))))))))))
  exact (rT rfl rfl ⟨_, rfl, hR, hO, hbw⟩).1
theorem FSame_any (va vb : Value) (la lb : List Ent) (w : World) (ha : EntsAt w va la) (h32 : S32 la) (hl : la.length ≤ 1000000) (hb_ : REnts w vb lb) :
  Calls Tryz.prog 12 #[va, vb] w fun e w' => e = .returned (.bool (decide (la = lb))) ∧ Below w.heap.size w w' := by
 obtain ⟨aa, ca, rfl, han, hac⟩ := ha.shape
 obtain ⟨ab, cb, rfl, hbn, hbc⟩ := hb_.shape
 refine W_enter (args := [.slice aa la.length ca, .slice ab lb.length cb]) 29 Tryz.func12 rfl rfl rfl (W_sub [(0, .slice aa la.length ca), (1, .slice ab lb.length cb)] ?_ ⟨rfl, rfl, trivial⟩)
 have hbw := Below.refl w.heap.size w
 refine W_rs (sa rfl rfl (Wn (tN (W_seq (W_rs (sm rfl rfl (st (X.lenL rfl rfl Tryz.underlying23) rfl (sm rfl rfl (st (X.lenL rfl rfl Tryz.underlying29) rfl (st (X.neq rfl rfl) rfl ?_))))))))))
 refine Wn (tN (W_if rfl (fun h11 => ?_) (fun h11 => ?_)))
 ·first | replace h11 := of_decide_eq_true h11 | replace h11 := of_decide_eq_false (notT h11) | replace h11 := notT h11 | skip
  refine W_rs (sa rfl rfl (Wn (tN (W_ret (tR ((rT rfl rfl ⟨?_, hbw⟩).1))))))
  rw [show decide (la = lb) = false from decide_eq_false (fun h => by subst h; exact h11 rfl)]
 ·first | replace h11 := of_decide_eq_false h11 | replace h11 := of_decide_eq_true (notF h11) | replace h11 := notF h11 | skip
  refine W_skip (tN (W_rs (sm rfl rfl (sc _ Tryz.func48 rfl (by kernel_rfl) rfl rfl ((FPlain_any _ la _ (ha.bel hbw) h32 hl).mono ?_)))))
  rintro e_ w1 ⟨vp, rfl, hR, hO, hb⟩
  refine cR ?_
  replace hbw := bthen hbw hb
  have hz_w1 := hb.size
  clear hb
  have hP : REnts w1 vp la := hR.reads
  clear hR
  obtain ⟨ap, c_p, rfl, hpn, hpc⟩ := hP.shape
  refine sa rfl rfl (Wn (tN (W_seq (W_rs (sa rfl rfl (Wn (tN (W_block (W_lp (fun nw2_ lw2_ w2 => ∃ j : Nat, nw2_ = la.length - j ∧ lw2_ = ([(0, .slice aa la.length ca), (1, .slice ab lb.length cb), (5, .slice ap la.length c_p), (6, .int .i64 j)] : Env) ∧ (j ≤ la.length) ∧ (la.take j = lb.take j) ∧ (REnts w2 (.slice ap la.length c_p) la) ∧ (Below w.heap.size w w2)) _ ⟨_, ⟨0, rfl, rfl, by omega, rfl, hP, hbw⟩, ⟨rfl, rfl, rfl, rfl, trivial⟩⟩ ?_)))))))))
  clear hP hbw
  rintro nw2_ lw2_ w2 ⟨j, rfl, rfl, hj, hq, hP, hbw⟩
  have hz_w2 := hbw.size
  refine W_seq (W_rs (sm rfl rfl (sm rfl rfl (st (X.lenL rfl rfl Tryz.underlying23) rfl (st (X.lss rfl rfl) rfl (Wn (tN (W_if rfl (fun h17 => ?_) (fun h17 => ?_)))))))))
  ·first | replace h17 := of_decide_eq_true h17 | replace h17 := of_decide_eq_false (notT h17) | replace h17 := notT h17 | skip
   obtain ⟨x, hx⟩ : ∃ x, la[j]? = some x := ⟨_, List.getElem?_eq_getElem (by omega)⟩
   obtain ⟨y, hy⟩ : ∃ y, lb[j]? = some y := ⟨_, List.getElem?_eq_getElem (by omega)⟩
   obtain ⟨g1, o1, c', hv, hg1⟩ := hP.some_ (by omega)
   injection hv with e1 _ e3
   subst e1 e3
   obtain ⟨g2, o2, c', hv, hg2⟩ := (hb_.bel hbw).some_ (by omega)
   injection hv with e1 _ e3
   subst e1 e3
   refine W_skip (tN (W_seq (W_block (W_drsN (fun W_ => W_.rangeAt g1 (o1 + j * 4) (recE x) ∧ W_.rangeAt g2 (o2 + j * 4) (recE y)) [0, 1, 2, 3, 4, 5, 6, 7, 8] [true, true, true, true, true, true, true, true, true] (by kernel_rfl) (by kernel_rfl) (⟨REnts.range (hP.bel (bdrew (Below.refl _ _))) hx, REnts.range (hb_.bel (bdrew hbw)) hy⟩) ?_))))
   obtain ⟨w3, hw_⟩ : ∃ w3 : World, w3 = World.drew w2 := ⟨_, rfl⟩
   rw [← hw_]
   have hb : Below w2.heap.size w2 w3 := by rw [hw_]; exact bdrew (Below.refl _ _)
   clear hw_
   have hS := hb
   replace hbw := bthen hbw hb
   replace hP := hP.bel hb
   have hz_w3 := hb.size
   clear hb
   refine oY rfl (fun W_ hW_ => (X.move rfl)) rfl (oY rfl (fun W_ hW_ => (X.move rfl)) rfl (oY rfl (fun W_ hW_ => (X.idxA rfl rfl Tryz.underlying29 siz103 rfl (by omega))) rfl (oY rfl (fun W_ hW_ => (X.ldN (cs := recE x) rfl Tryz.underlying103 rfl siz103 hW_.1)) rfl (oY rfl (fun W_ hW_ => (X.move rfl)) rfl (oY rfl (fun W_ hW_ => (X.move rfl)) rfl (oY rfl (fun W_ hW_ => (X.idxA rfl rfl Tryz.underlying29 siz103 rfl (by omega))) rfl (oY rfl (fun W_ hW_ => (X.ldN (cs := recE y) rfl Tryz.underlying103 rfl siz103 hW_.2)) rfl (oY rfl (fun W_ hW_ => (X.neREnt rfl rfl)) rfl (oN (nN ?_))))))))))
   refine W_if rfl (fun h28 => ?_) (fun h28 => ?_)
   ·first | replace h28 := of_decide_eq_true h28 | replace h28 := of_decide_eq_false (notT h28) | replace h28 := notT h28 | skip
    refine W_rs (sa rfl rfl (Wn (tN (W_ret (bR (tR (tR (bR (tR ((rT rfl rfl ⟨?_, hbw⟩).1))))))))))
    rw [show decide (la = lb) = false from decide_eq_false (at_ne hx hy h28)]
   ·first | replace h28 := of_decide_eq_false h28 | replace h28 := of_decide_eq_true (notF h28) | replace h28 := notF h28 | skip
    refine W_skip (bN (tN (W_reg (sm rfl rfl (st (X.add64 rfl rfl (by omega)) rfl (sa rfl rfl (Wn (tN ⟨_, _, ?_, ⟨j + 1, rfl, rfl, by omega, by rw [take_next' hx, take_next' hy, hq, Classical.not_not.1 h28], hP, hbw⟩, ⟨rfl, rfl, rfl, rfl, trivial⟩⟩))))))))
    omega
  ·first | replace h17 := of_decide_eq_false h17 | replace h17 := of_decide_eq_true (notF h17) | replace h17 := notF h17 | skip
   refine W_exit (tE (tE (bH (tN (W_rs (sa rfl rfl (Wn (tN (W_ret ?_)))))))))
   obtain rfl : j = la.length := by omega
   refine (rT rfl rfl ⟨?_, hbw⟩).1
   rw [show decide (la = lb) = true from decide_eq_true (take_all (by omega) hq)]
theorem right_any (n : Int) (w : World) : Calls Tryz.prog 95 #[.int .i64 n] w fun e w' => e = .returned (.bool (fitN n)) ∧ Below w.heap.size w w' := by
 refine W_enter (args := [.int .i64 n]) 9 Tryz.func95 rfl rfl rfl (W_sub [(0, .int .i64 n)] ?_ ⟨rfl, trivial⟩)
 have hbw := Below.refl w.heap.size w
 refine W_rs (sa rfl rfl (Wn (tN (W_rs (sm rfl rfl (st (X.geq rfl rfl) rfl (sb rfl rfl (fun h5 => ?_) (fun h5 => ?_))))))))
 ·first | replace h5 := of_decide_eq_true h5 | replace h5 := of_decide_eq_false (notT h5) | replace h5 := notT h5 | skip
  refine gY (g := 5) rfl rfl rfl (sm rfl rfl (gY (g := 5) rfl rfl rfl (st (X.leq rfl rfl) rfl (st (X.pickT rfl rfl) rfl (sa rfl rfl (Wn (tN (W_ret ((rT rfl rfl ⟨?_, hbw⟩).1)))))))))
  congr 2
  unfold fitN
  simp
  omega
 ·first | replace h5 := of_decide_eq_false h5 | replace h5 := of_decide_eq_true (notF h5) | replace h5 := notF h5 | skip
  refine gN (g := 5) rfl rfl rfl rfl (gN (g := 5) rfl rfl rfl rfl (st (X.pickF rfl rfl) rfl (sa rfl rfl (Wn (tN (W_ret ((rT rfl rfl ⟨?_, hbw⟩).1)))))))
  congr 2
  unfold fitN
  simp
  omega
end Go.Proofs.YtnlabkogebnioaaGreatDoor
namespace Go.Proofs.YtnlabkogebnioaaGreatDoor
open Go.RowKit
def InsInv (O : List Ent) (x : Ent) (d : Bool) (k : Nat) (N : List Ent) : Prop := (d = true → Up (N ++ O.drop k) ∧ (N ++ O.drop k).Perm (x :: O)) ∧ (d = false → N = O.take k ∧ ∀ y ∈ N, y.sum < x.sum)
section
variable {O N : List Ent} {x o : Ent} {k : Nat}
theorem InsInv.start : InsInv O x false 0 [] := ⟨fun h => (by cases h), fun _ => ⟨rfl, fun y hy => (by simp at hy)⟩⟩
theorem InsInv.keep (h : InsInv O x true k N) (ho : O[k]? = some o) : InsInv O x true (k + 1) (N ++ [o]) := by
 obtain ⟨hk, rfl⟩ := List.getElem?_eq_some_iff.1 ho
 have := h.1 rfl
 rw [List.drop_eq_getElem_cons hk] at this
 refine ⟨fun _ => ?_, fun h => by cases h⟩
 rw [List.append_assoc]
 exact this
theorem InsInv.pass (h : InsInv O x false k N) (ho : O[k]? = some o) (hlt : o.sum < x.sum) : InsInv O x false (k + 1) (N ++ [o]) := by
 obtain ⟨h1, h2⟩ := h.2 rfl
 refine ⟨fun h => (by cases h), fun _ => ⟨by rw [h1, take_next' ho], fun y hy => ?_⟩⟩
 rcases List.mem_append.1 hy with h3 | h3
 ·exact h2 y h3
 ·simp at h3; rw [h3]; exact hlt
theorem ins_up (hu : Up O) (h2 : ∀ y ∈ O.take k, y.sum < x.sum) (h3 : ∀ y ∈ O.drop k, x.sum < y.sum) : Up (O.take k ++ x :: O.drop k) := by
 have hu' : Up (O.take k ++ O.drop k) := by rw [List.take_append_drop]; exact hu
 obtain ⟨a1, a2, a3⟩ := List.pairwise_append.1 hu'
 refine List.pairwise_append.2 ⟨a1, List.pairwise_cons.2 ⟨h3, a2⟩, fun a ha b hb => ?_⟩
 rcases List.mem_cons.1 hb with rfl | hb
 ·exact h2 a ha
 ·exact a3 a ha b hb
theorem InsInv.put (h : InsInv O x false k N) (hu : Up O) (ho : O[k]? = some o) (hlt : x.sum < o.sum) : InsInv O x true (k + 1) (N ++ [x] ++ [o]) := by
 obtain ⟨h1, h2⟩ := h.2 rfl
 obtain ⟨hk, rfl⟩ := List.getElem?_eq_some_iff.1 ho
 subst h1
 have e : O.take k ++ [x] ++ [O[k]] ++ O.drop (k + 1) = O.take k ++ x :: O.drop k := by rw [List.drop_eq_getElem_cons hk]; simp
 refine ⟨fun _ => ?_, fun h => (by cases h)⟩
 rw [e]
 refine ⟨ins_up hu h2 fun y hy => ?_, ?_⟩
 ·obtain ⟨i, hi⟩ := List.mem_iff_getElem?.1 hy
  rw [List.getElem?_drop] at hi
  rcases Nat.eq_zero_or_pos i with rfl | hp
  ·rw [Nat.add_zero, List.getElem?_eq_getElem hk] at hi; injection hi with hi; rw [← hi]; exact hlt
  ·exact klt_trans hlt (hu.at_ (List.getElem?_eq_getElem hk) hi (by omega))
 ·refine List.perm_middle.trans ?_
  rw [List.take_append_drop]
theorem InsInv.done (h : InsInv O x true O.length N) : Up N ∧ N.Perm (x :: O) := by
 have := h.1 rfl
 rwa [List.drop_length, List.append_nil] at this
theorem InsInv.last (h : InsInv O x false O.length N) (hu : Up O) : Up (N ++ [x]) ∧ (N ++ [x]).Perm (x :: O) := by
 obtain ⟨h1, h2⟩ := h.2 rfl
 rw [List.take_length] at h1
 subst h1
 exact ⟨up_snoc hu h2, List.perm_append_comm⟩
end
theorem idx_next {l O N : List Ent} {i : Nat} {x : Ent} (h : IsIdx O (l.take i)) (hx : l[i]? = some x) (hN : Up N ∧ N.Perm (x :: O)) : IsIdx N (l.take (i + 1)) := by
 refine ⟨hN.2.trans ?_, hN.1⟩
 rw [take_next' hx]
 exact (List.Perm.cons x h.perm).trans (List.perm_append_singleton x _).symm
theorem make_dup2 {l : List Ent} {i : Nat} {x o : Ent} (hx : l[i]? = some x) (ho : o ∈ l.take i) (he : o.sum = x.sum) (h1 : l.length ≤ 65536) (h2 : l.all fitE = true) : makeM l = ([], 16) := by
 unfold makeM
 rw [if_neg (by omega), if_neg (by rw [h2]; simp), if_neg]
 intro hn
 rw [List.Nodup, List.pairwise_map, List.pairwise_iff_getElem] at hn
 obtain ⟨j, hj⟩ := List.mem_iff_getElem?.1 ho
 have hjl := (List.getElem?_eq_some_iff.1 hj).1
 rw [List.length_take] at hjl
 rw [List.getElem?_take_of_lt (by omega)] at hj
 obtain ⟨q1, e1⟩ := List.getElem?_eq_some_iff.1 hj
 obtain ⟨q2, e2⟩ := List.getElem?_eq_some_iff.1 hx
 refine hn j i q1 q2 (by omega) ?_
 rw [e1, e2, he]
theorem Row.own_ltE {w : World} {e : TypeId} {size n : Nat} {v : Value} {xs : List Value} (h : Row w e size v n xs) : ∀ k, v.ownBlock = some k → k < w.heap.size := fun k hk => by
 rcases h.2 with ⟨rfl, _⟩ | ⟨g, off, cap, cur, fz, rfl, hg, _⟩
 ·simp [Value.ownBlock] at hk
 ·simp [Value.ownBlock] at hk
  subst hk
  exact (Array.getElem?_eq_some_iff.1 hg).1
theorem REnts.nil (w : World) : REnts w (.slice none 0 0) [] := (Row.nil w 103 4).reads
def RIdx (w : World) (r : List Ent × Int) (e : Ending) (w' : World) : Prop := ∃ v, e = .returned (.tuple #[v, .int .i64 r.2]) ∧ REnts w' v r.1 ∧ Below w.heap.size w w'
theorem ridx_err {w w' : World} {r : List Ent × Int} {k : Int} (h : r = ([], k)) (hb : Below w.heap.size w w') : RIdx w r (.returned (.tuple #[.slice none 0 0, .int .i64 k])) w' := by
 subst h
 exact ⟨_, rfl, REnts.nil _, hb⟩
set_option maxRecDepth 20000 in
set_option maxHeartbeats 4000000 in
theorem RMake_any (v : Value) (l : List Ent) (w : World) (h : REnts w v l) (hl : l.length ≤ 1000000) : Calls Tryz.prog 50 #[v] w (RIdx w (makeM l)) := by
 obtain ⟨a, cp, rfl, hn, hcp⟩ := h.shape
 refine W_enter (args := [.slice a l.length cp]) 107 Tryz.func50 rfl rfl rfl (W_sub [(0, .slice a l.length cp)] ?_ ⟨rfl, trivial⟩)
 have hbw := Below.refl w.heap.size w
 refine W_rs (sa rfl rfl (sa rfl rfl (Wn (tN (W_seq (W_rs (sm rfl rfl (st (X.lenL rfl rfl Tryz.underlying29) rfl (st (X.gtr rfl rfl) rfl (Wn ?_))))))))))
 refine tN (W_if rfl (fun h12 => ?_) (fun h12 => ?_))
 ·first | replace h12 := of_decide_eq_true h12 | replace h12 := of_decide_eq_false (notT h12) | replace h12 := notT h12 | skip
  refine W_rs (sa rfl rfl (sa rfl rfl (Wn (tN (W_ret (tR ?_))))))
  exact (rTT rfl rfl rfl (ridx_err (make_31 (by omega)) hbw)).1
 ·first | replace h12 := of_decide_eq_false h12 | replace h12 := of_decide_eq_true (notF h12) | replace h12 := notF h12 | skip
  refine W_skip (tN (W_seq (W_rs (sa rfl rfl (Wn (tN (W_block (W_lp (fun nw1_ lw1_ w1 => ∃ j : Nat, nw1_ = l.length - j ∧ lw1_ = ([(0, .slice a l.length cp), (4, .int .i64 j)] : Env) ∧ (j ≤ l.length) ∧ (l.all fitE = (l.drop j).all fitE) ∧ (Below w.heap.size w w1)) _ ⟨_, ⟨0, rfl, rfl, by omega, rfl, hbw⟩, ⟨rfl, rfl, trivial⟩⟩ ?_))))))))
  clear hbw
  rintro nw1_ lw1_ w1 ⟨j, rfl, rfl, hj, hq, hbw⟩
  have hz_w1 := hbw.size
  refine W_seq (W_rs (sm rfl rfl (sm rfl rfl (st (X.lenL rfl rfl Tryz.underlying29) rfl (st (X.lss rfl rfl) rfl (Wn (tN (W_if rfl (fun h16 => ?_) (fun h16 => ?_)))))))))
  ·first | replace h16 := of_decide_eq_true h16 | replace h16 := of_decide_eq_false (notT h16) | replace h16 := notT h16 | skip
   obtain ⟨x, hx⟩ : ∃ x, l[j]? = some x := ⟨_, List.getElem?_eq_getElem (by omega)⟩
   obtain ⟨g1, o1, c', hv, hg1⟩ := (h.bel hbw).some_ (by omega)
   injection hv with e1 _ e3
   subst e1 e3
   refine W_skip (tN (W_seq (W_block (W_rs (sm rfl rfl (sm rfl rfl (st (X.idxA rfl rfl Tryz.underlying29 siz103 rfl (by omega)) rfl (st (X.fa fa103_1 rfl) rfl (st (X.ld rfl Tryz.underlying3 rfl (REnts.range (h.bel hbw) hx 1 _ rfl)) rfl (sc _ Tryz.func95 rfl (by kernel_rfl) rfl rfl ((right_any x.pack _).mono ?_)))))))))))
   rintro e_ w2 ⟨rfl, hb⟩
   refine cR ?_
   replace hbw := bthen hbw hb
   have hz_w2 := hb.size
   clear hb
   refine st (X.not rfl) rfl (sb rfl rfl (fun h26 => ?_) (fun h26 => ?_))
   ·first | replace h26 := of_decide_eq_true h26 | replace h26 := of_decide_eq_false (notT h26) | replace h26 := notT h26 | skip
    refine gN (g := 26) rfl rfl rfl rfl (gN (g := 26) rfl rfl rfl rfl (gN (g := 26) rfl rfl rfl rfl (gN (g := 26) rfl rfl rfl rfl (gN (g := 26) rfl rfl rfl rfl (gN (g := 26) rfl rfl rfl rfl (gN (g := 26) rfl rfl rfl rfl (st (X.pickT rfl rfl) rfl (sm rfl rfl (gN (g := 35) rfl rfl rfl rfl (gN (g := 35) rfl rfl rfl rfl ?_))))))))))
    refine gN (g := 35) rfl rfl rfl rfl (gN (g := 35) rfl rfl rfl rfl (gN (g := 35) rfl rfl rfl rfl (gN (g := 35) rfl rfl rfl rfl (gN (g := 35) rfl rfl rfl rfl (st (X.pickT rfl rfl) rfl (Wn (tN (W_yes rfl (rfl) (W_rs (sa rfl rfl ?_))))))))))
    refine sa rfl rfl (Wn (tN (W_ret (bR (tR (tR (bR (tR ?_))))))))
    have hfx : fitE x = false := by unfold fitE fitN; rw [decide_eq_false h26]; rfl
    exact (rTT rfl rfl rfl (ridx_err (make_1 (by omega) (by rw [hq, all_atG hx, hfx]; rfl)) hbw)).1
   ·first | replace h26 := of_decide_eq_false h26 | replace h26 := of_decide_eq_true (notF h26) | replace h26 := notF h26 | skip
    refine gY (g := 26) rfl rfl rfl (sm rfl rfl (gY (g := 26) rfl rfl rfl (sm rfl rfl (gY (g := 26) rfl rfl rfl (st (X.idxA rfl rfl Tryz.underlying29 siz103 rfl (by omega)) rfl (gY (g := 26) rfl rfl rfl (st (X.fa fa103_2 rfl) rfl (gY (g := 26) rfl rfl rfl (st (X.ld rfl Tryz.underlying3 rfl (REnts.range (h.bel hbw) hx 2 _ rfl)) rfl (gY (g := 26) rfl rfl rfl ?_))))))))))
    refine sc _ Tryz.func95 rfl (by kernel_rfl) rfl rfl ((right_any x.pos _).mono ?_)
    rintro e_ w3 ⟨rfl, hb⟩
    refine cR ?_
    replace hbw := bthen hbw hb
    have hz_w3 := hb.size
    clear hb
    refine gY (g := 26) rfl rfl rfl (st (X.not rfl) rfl (st (X.pickF rfl rfl) rfl (sb rfl rfl (fun h35 => ?_) (fun h35 => ?_))))
    ·first | replace h35 := of_decide_eq_true h35 | replace h35 := of_decide_eq_false (notT h35) | replace h35 := notT h35 | skip
     refine gN (g := 35) rfl rfl rfl rfl (gN (g := 35) rfl rfl rfl rfl (gN (g := 35) rfl rfl rfl rfl (gN (g := 35) rfl rfl rfl rfl (gN (g := 35) rfl rfl rfl rfl (gN (g := 35) rfl rfl rfl rfl (gN (g := 35) rfl rfl rfl rfl (st (X.pickT rfl rfl) rfl (Wn (tN (W_yes rfl (rfl) ?_))))))))))
     refine W_rs (sa rfl rfl (sa rfl rfl (Wn (tN (W_ret (bR (tR (tR (bR (tR ?_))))))))))
     have hfx : fitE x = false := by unfold fitE fitN; rw [decide_eq_false h35, Bool.and_false, Bool.false_and]
     exact (rTT rfl rfl rfl (ridx_err (make_1 (by omega) (by rw [hq, all_atG hx, hfx]; rfl)) hbw)).1
    ·first | replace h35 := of_decide_eq_false h35 | replace h35 := of_decide_eq_true (notF h35) | replace h35 := notF h35 | skip
     refine gY (g := 35) rfl rfl rfl (sm rfl rfl (gY (g := 35) rfl rfl rfl (sm rfl rfl (gY (g := 35) rfl rfl rfl (st (X.idxA rfl rfl Tryz.underlying29 siz103 rfl (by omega)) rfl (gY (g := 35) rfl rfl rfl (st (X.fa fa103_3 rfl) rfl (gY (g := 35) rfl rfl rfl (st (X.ld rfl Tryz.underlying3 rfl (REnts.range (h.bel hbw) hx 3 _ rfl)) rfl (gY (g := 35) rfl rfl rfl ?_))))))))))
     refine sc _ Tryz.func95 rfl (by kernel_rfl) rfl rfl ((right_any x.len _).mono ?_)
     rintro e_ w4 ⟨rfl, hb⟩
     refine cR ?_
     replace hbw := bthen hbw hb
     have hz_w4 := hb.size
     clear hb
     refine gY (g := 35) rfl rfl rfl (st (X.not rfl) rfl (st (X.pickF rfl rfl) rfl (Wn (tN (W_if rfl (fun h43 => ?_) (fun h43 => ?_))))))
     ·first | replace h43 := of_decide_eq_true h43 | replace h43 := of_decide_eq_false (notT h43) | replace h43 := notT h43 | skip
      refine W_rs (sa rfl rfl (sa rfl rfl (Wn (tN (W_ret (bR (tR (tR (bR (tR ?_))))))))))
      have hfx : fitE x = false := by unfold fitE fitN; rw [decide_eq_false h43, Bool.and_false]
      exact (rTT rfl rfl rfl (ridx_err (make_1 (by omega) (by rw [hq, all_atG hx, hfx]; rfl)) hbw)).1
     ·first | replace h43 := of_decide_eq_false h43 | replace h43 := of_decide_eq_true (notF h43) | replace h43 := notF h43 | skip
      have hfx : fitE x = true := by unfold fitE fitN; rw [decide_eq_true h26, decide_eq_true h35, decide_eq_true h43]; rfl
      refine W_skip (bN (tN (W_reg (sm rfl rfl (st (X.add64 rfl rfl (by omega)) rfl (sa rfl rfl (Wn (tN ⟨_, _, ?_, ⟨j + 1, rfl, rfl, by omega, by rw [hq, all_atG hx, hfx]; rfl, hbw⟩, ⟨rfl, rfl, trivial⟩⟩))))))))
      omega
  ·first | replace h16 := of_decide_eq_false h16 | replace h16 := of_decide_eq_true (notF h16) | replace h16 := notF h16 | skip
   obtain rfl : j = l.length := by omega
   rw [List.drop_length] at hq
   have hfit : l.all fitE = true := hq.trans rfl
   refine W_exit (tE (tE (bH (tN (W_rs (sa rfl rfl (Wn (tN (W_seq (W_rs (sa rfl rfl (Wn (tN ?_)))))))))))))
   refine W_block (W_lp (fun nw5_ lw5_ w5 => ∃ i : Nat, ∃ O : List Ent, ∃ v5 : Value, nw5_ = l.length - i ∧ lw5_ = ([(0, .slice a l.length cp), (5, v5), (6, .int .i64 i)] : Env) ∧ (i ≤ l.length) ∧ (IsIdx O (l.take i)) ∧ (Row w5 103 4 v5 O.length (O.flatMap recE)) ∧ (∀ k, v5.ownBlock = some k → w.heap.size ≤ k) ∧ (Below w.heap.size w w5)) _ ⟨_, ⟨0, [], .slice none 0 0, rfl, rfl, by omega, ⟨.refl _, .nil⟩, Row.nil _ _ _, (fun k hk => by simp [Value.ownBlock] at hk), hbw⟩, ⟨rfl, rfl, rfl, trivial⟩⟩ ?_)
   clear hbw
   rintro nw5_ lw5_ w5 ⟨i, O, v5, rfl, rfl, hi, hI, hR, hO, hbw⟩
   have hz_w5 := hbw.size
   refine W_seq (W_rs (sm rfl rfl (sm rfl rfl (st (X.lenL rfl rfl Tryz.underlying29) rfl (st (X.lss rfl rfl) rfl (Wn (tN (W_if rfl (fun h47 => ?_) (fun h47 => ?_)))))))))
   ·first | replace h47 := of_decide_eq_true h47 | replace h47 := of_decide_eq_false (notT h47) | replace h47 := notT h47 | skip
    obtain ⟨x, hx⟩ : ∃ x, l[i]? = some x := ⟨_, List.getElem?_eq_getElem (by omega)⟩
    obtain ⟨g1, o1, c', hv, hg1⟩ := (h.bel hbw).some_ (by omega)
    injection hv with e1 _ e3
    subst e1 e3
    have hOl : O.length = i := by rw [hI.perm.length_eq, List.length_take]; omega
    obtain ⟨a5, c5, rfl, hn5, hc5⟩ := hR.shape
    have h5l := hR.own_ltE
    refine W_skip (tN (W_seq (W_block (W_rs (sa rfl rfl (Wn (tN (W_rs (sa rfl rfl (Wn ?_))))))))))
    refine tN (W_seq (W_rs (sa rfl rfl (Wn (tN (W_block ?_))))))
    obtain ⟨wk, hwk⟩ : ∃ W_ : World, W_ = w5 := ⟨_, rfl⟩
    have h5k : ∀ k, (Value.slice a5 O.length c5).ownBlock = some k → k < wk.heap.size := by rw [hwk]; exact h5l
    have hwkz : w.heap.size ≤ wk.heap.size := by rw [hwk]; exact hbw.size
    have hkz : wk.heap.size ≤ (w5).heap.size := by rw [hwk]; exact Nat.le_refl _
    clear hwk
    refine W_lp (fun nw6_ lw6_ w6 => ∃ k : Nat, ∃ d : Bool, ∃ N : List Ent, ∃ v7 : Value, nw6_ = O.length - k ∧ lw6_ = ([(0, .slice (some ⟨g1, o1, none⟩) l.length cp), (5, .slice a5 O.length c5), (6, .int .i64 i), (7, v7), (8, .bool d), (9, .int .i64 k)] : Env) ∧ (k ≤ O.length) ∧ (wk.heap.size ≤ (w6).heap.size) ∧ (InsInv O x d k N) ∧ (N.length ≤ k + 1) ∧ (Row w6 103 4 (.slice a5 O.length c5) O.length (O.flatMap recE)) ∧ (Row w6 103 4 v7 N.length (N.flatMap recE)) ∧ (∀ k, v7.ownBlock = some k → wk.heap.size ≤ k) ∧ (Below w.heap.size w w6)) _ ⟨_, ⟨0, false, [], .slice none 0 0, rfl, rfl, by omega, hkz, InsInv.start, by simp, hR, Row.nil _ _ _, (fun k hk => by simp [Value.ownBlock] at hk), hbw⟩, ⟨rfl, rfl, rfl, rfl, rfl, rfl, trivial⟩⟩ ?_
    clear hkz hR hbw
    rintro nw6_ lw6_ w6 ⟨k, d, N, v7, rfl, rfl, hk, hkz, hm, hNl, hR, hR7, hO7, hbw⟩
    have hz_w6 := hbw.size
    refine W_seq (W_rs (sm rfl rfl (sm rfl rfl (st (X.lenL rfl rfl Tryz.underlying29) rfl (st (X.lss rfl rfl) rfl (Wn (tN (W_if rfl (fun h53 => ?_) (fun h53 => ?_)))))))))
    ·first | replace h53 := of_decide_eq_true h53 | replace h53 := of_decide_eq_false (notT h53) | replace h53 := notT h53 | skip
     obtain ⟨o, ho⟩ : ∃ o, O[k]? = some o := ⟨_, List.getElem?_eq_getElem (by omega)⟩
     have hRe := hR.reads
     obtain ⟨g2, o2, c', hv, hg2⟩ := hRe.some_ (by omega)
     injection hv with e1 _ e3
     subst e1 e3
     refine W_skip (tN (W_seq (W_block (W_seq (W_drsN (fun W_ => W_.rangeAt g2 (o2 + k * 4) (recE o) ∧ W_.rangeAt g1 (o1 + i * 4) (recE x)) [0, 1, 2, 3, 4, 5, 6, 7, 8, 9, 10] [true, true, true, true, true, true, true, true, true, true, true] (by kernel_rfl) (by kernel_rfl) (⟨REnts.range (hRe.bel (bdrew (Below.refl _ _))) ho, REnts.range (h.bel (bdrew hbw)) hx⟩) ?_)))))
     obtain ⟨w7, hw_⟩ : ∃ w7 : World, w7 = World.drew w6 := ⟨_, rfl⟩
     rw [← hw_]
     have hb : Below w6.heap.size w6 w7 := by rw [hw_]; exact bdrew (Below.refl _ _)
     clear hw_
     have hS := hb
     have hpend := hb
     replace hbw := bthen hbw hb
     have hz_w7 := hb.size
     clear hb
     refine oY rfl (fun W_ hW_ => (X.move rfl)) rfl (oY rfl (fun W_ hW_ => (X.move rfl)) rfl (oY rfl (fun W_ hW_ => (X.idxA rfl rfl Tryz.underlying29 siz103 rfl (by omega))) rfl (oY rfl (fun W_ hW_ => (X.fa fa103_0 rfl)) rfl (oY rfl (fun W_ hW_ => (X.ld rfl Tryz.underlying9 rfl (hW_.1 0 _ rfl))) rfl (oY rfl (fun W_ hW_ => (X.move rfl)) rfl (oY rfl (fun W_ hW_ => (X.move rfl)) rfl (oY rfl (fun W_ hW_ => (X.idxA rfl rfl Tryz.underlying29 siz103 rfl (by omega))) rfl (oY rfl (fun W_ hW_ => (X.fa fa103_0 rfl)) rfl (oY rfl (fun W_ hW_ => (X.ld rfl Tryz.underlying9 rfl (hW_.2 0 _ rfl))) rfl (oY rfl (fun W_ hW_ => (X.eqS rfl rfl)) rfl ?_))))))))))
     refine oN (nN (W_if rfl (fun h66 => ?_) (fun h66 => ?_)))
     ·first | replace h66 := of_decide_eq_true h66 | replace h66 := of_decide_eq_false (notT h66) | replace h66 := notT h66 | skip
      refine W_rs (sa rfl rfl (sa rfl rfl (Wn (tN ?_))))
      replace hR := hR.bel hpend
      replace hR7 := hR7.bel hpend
      clear hpend
      refine W_ret (tR (bR (tR (tR (bR (tR (bR (tR (tR (bR (tR ?_)))))))))))
      exact (rTT rfl rfl rfl (ridx_err (make_dup2 hx (hI.perm.mem_iff.1 (List.mem_of_getElem? ho)) h66 (by omega) hfit) hbw)).1
     ·first | replace h66 := of_decide_eq_false h66 | replace h66 := of_decide_eq_true (notF h66) | replace h66 := notF h66 | skip
      refine W_skip (tN (W_seq ?_))
      by_cases hsp_ : d = false
      ·replace hR := hR.bel hpend
       replace hR7 := hR7.bel hpend
       clear hpend
       refine W_drsN (fun W_ => W_.rangeAt g2 (o2 + k * 4) (recE o) ∧ W_.rangeAt g1 (o1 + i * 4) (recE x)) [0, 1, 2, 3, 4, 5, 6, 7, 8, 9, 10, 11, 12, 13, 14] [true, true, true, true, true, true, true, true, true, true, true, true, true, true, true] (by kernel_rfl) (by kernel_rfl) (⟨REnts.range (hR.reads.bel (bdrew (Below.refl _ _))) ho, REnts.range (h.bel (bdrew hbw)) hx⟩) ?_
       obtain ⟨w8, hw_⟩ : ∃ w8 : World, w8 = World.drew w7 := ⟨_, rfl⟩
       rw [← hw_]
       have hb : Below w7.heap.size w7 w8 := by rw [hw_]; exact bdrew (Below.refl _ _)
       clear hw_
       have hS := hb
       have hpend := hb
       replace hbw := bthen hbw hb
       have hz_w8 := hb.size
       clear hb
       subst hsp_
       refine oY rfl (fun W_ hW_ => (X.move rfl)) rfl (oY rfl (fun W_ hW_ => (X.not rfl)) rfl (oY rfl (fun W_ hW_ => (X.mvB (c := true) rfl (rfl))) rfl (oYg (g := 69) rfl rfl rfl rfl (fun W_ hW_ => (X.move rfl)) rfl (oYg (g := 69) rfl rfl rfl rfl (fun W_ hW_ => (X.move rfl)) rfl (oYg (g := 69) rfl rfl rfl rfl (fun W_ hW_ => (X.idxA rfl rfl Tryz.underlying29 siz103 rfl (by omega))) rfl (oYg (g := 69) rfl rfl rfl rfl (fun W_ hW_ => (X.fa fa103_0 rfl)) rfl (oYg (g := 69) rfl rfl rfl rfl (fun W_ hW_ => (X.ld rfl Tryz.underlying9 rfl (hW_.1 0 _ rfl))) rfl (oYg (g := 69) rfl rfl rfl rfl (fun W_ hW_ => (X.move rfl)) rfl (oYg (g := 69) rfl rfl rfl rfl (fun W_ hW_ => (X.move rfl)) rfl (oYg (g := 69) rfl rfl rfl rfl (fun W_ hW_ => (X.idxA rfl rfl Tryz.underlying29 siz103 rfl (by omega))) rfl ?_))))))))))
       refine oYg (g := 69) rfl rfl rfl rfl (fun W_ hW_ => (X.fa fa103_0 rfl)) rfl (oYg (g := 69) rfl rfl rfl rfl (fun W_ hW_ => (X.ld rfl Tryz.underlying9 rfl (hW_.2 0 _ rfl))) rfl (oYg (g := 69) rfl rfl rfl rfl (fun W_ hW_ => (X.gtS rfl rfl)) rfl (oY rfl (fun W_ hW_ => (X.pickT rfl rfl)) rfl (oN (nN (W_if rfl (fun h81 => ?_) (fun h81 => ?_)))))))
       ·first | replace h81 := of_decide_eq_true h81 | replace h81 := of_decide_eq_false (notT h81) | replace h81 := notT h81 | skip
        have hgt : x.sum < o.sum := by
         rcases klt_tri x.sum o.sum with q | q | q
         ·exact q
         ·exact absurd q.symm h66
         ·rw [bytesLess_eq] at h81; simp [q] at h81
        refine W_rs (sm rfl rfl (sm rfl rfl (sm rfl rfl (st (X.idxA rfl rfl Tryz.underlying29 siz103 rfl (by omega)) rfl (st (X.ldN (cs := recE x) rfl Tryz.underlying103 rfl siz103 (REnts.range (h.bel hbw) hx)) rfl ?_)))))
        replace hR := hR.bel hpend
        replace hR7 := hR7.bel hpend
        clear hpend
        refine sbs1 rfl Tryz.underlying29 inf103 rfl rfl (by decide) (by decide) rfl (fun g87 w9 hR87 hg87 hb => ?_)
        replace hbw := bthen hbw hb
        replace hR := hR.bel hb
        replace hR7 := hR7.bel hb
        have hz87 := hb.size
        clear hb
        refine sapp rfl rfl Tryz.underlying29 inf103 rfl (by decide) hR7 (hR87.reads.src Tryz.underlying29 (recE_one x)) (by simp only [maxLen]; omega) (by omega) rfl (fun va w10 hRa hC hva => ?_)
        have hOa : ∀ k, va.ownBlock = some k → wk.heap.size ≤ k := own_next hva hO7 (by omega)
        replace hR := hR.chg hC (fun k hk e => by have := h5k k hk; have := hO7 k e; omega)
        replace hbw := bapp hbw hC (fun k hk => by have := hO7 k hk; omega)
        have hz206 := hC.size
        replace hRa : Row w10 103 4 va (N ++ [x]).length ((N ++ [x]).flatMap recE) := by rw [List.length_append, List.flatMap_append]; exact hRa
        clear hC hva hR7
        refine sa rfl rfl (Wn (tN (W_reg (sa rfl rfl (Wn (tN (W_reg ?_)))))))
        obtain ⟨na, hna⟩ : ∃ na, N ++ [x] = na := ⟨_, rfl⟩
        have hnl : na.length ≤ k + 2 := by rw [← hna, List.length_append]; simp; have := congrArg List.length (hm.2 rfl).1; rw [List.length_take] at this; omega
        have hnl3 : na.length ≤ k + 1 := by rw [← hna, List.length_append]; simp; have := congrArg List.length (hm.2 rfl).1; rw [List.length_take] at this; omega
        rw [hna] at hRa
        refine sm rfl rfl (sm rfl rfl (sm rfl rfl (st (X.idxA rfl rfl Tryz.underlying29 siz103 rfl (by omega)) rfl (st (X.ldN (cs := recE o) rfl Tryz.underlying103 rfl siz103 (REnts.range hR.reads ho)) rfl (sbs1 rfl Tryz.underlying29 inf103 rfl rfl (by decide) (by decide) rfl (fun g94 w11 hR94 hg94 hb => ?_))))))
        replace hbw := bthen hbw hb
        replace hR := hR.bel hb
        replace hRa := hRa.bel hb
        have hz94 := hb.size
        clear hb
        refine sapp rfl rfl Tryz.underlying29 inf103 rfl (by decide) hRa (hR94.reads.src Tryz.underlying29 (recE_one o)) (by simp only [maxLen]; omega) (by omega) rfl (fun v7' w12 hR7' hC hvb => ?_)
        have hO7' : ∀ k, v7'.ownBlock = some k → wk.heap.size ≤ k := own_next hvb hOa (by omega)
        replace hR := hR.chg hC (fun k hk e => by have := h5k k hk; have := hOa k e; omega)
        replace hbw := bapp hbw hC (fun k hk => by have := hOa k hk; omega)
        have hz226 := hC.size
        obtain ⟨N', hN'⟩ : ∃ N', na ++ [o] = N' := ⟨_, rfl⟩
        have hNl' : N'.length ≤ k + 1 + 1 := by rw [← hN', List.length_append]; simp; omega
        replace hR7' : Row w12 103 4 v7' N'.length (N'.flatMap recE) := by rw [← hN', List.length_append, List.flatMap_append]; exact hR7'
        clear hC hvb
        refine sa rfl rfl (Wn (bN (tN (W_reg ?_))))
        obtain ⟨d', hd'⟩ : ∃ d', d' = true := ⟨_, rfl⟩
        have hm' : InsInv O x d' (k + 1) N' := by rw [hd', ← hN', ← hna]; exact hm.put hI.up ho hgt
        refine sm rfl rfl (st (X.add64 rfl rfl (by omega)) rfl (sa rfl rfl (Wn (tN ⟨_, _, ?_, ⟨k + 1, d', N', v7', rfl, rfl, by omega, by omega, hm', hNl', hR, hR7', hO7', hbw⟩, ⟨rfl, rfl, rfl, rfl, by rw [hd']; rfl, rfl, trivial⟩⟩))))
        omega
       ·first | replace h81 := of_decide_eq_false h81 | replace h81 := of_decide_eq_true (notF h81) | replace h81 := notF h81 | skip
        have hlt : o.sum < x.sum := Classical.byContradiction fun hn => by rw [bytesLess_eq] at h81; simp [hn, h66] at h81
        refine W_skip (tN (W_reg ?_))
        replace hR := hR.bel hpend
        replace hR7 := hR7.bel hpend
        clear hpend
        obtain ⟨na, hna⟩ : ∃ na, N = na := ⟨_, rfl⟩
        obtain ⟨va, rfl⟩ : ∃ va, va = v7 := ⟨_, rfl⟩
        have hRa := hR7
        have hOa := hO7
        have hnl3 : na.length ≤ k + 1 := by rw [← hna]; exact hNl
        rw [hna] at hRa
        refine sm rfl rfl (sm rfl rfl (sm rfl rfl (st (X.idxA rfl rfl Tryz.underlying29 siz103 rfl (by omega)) rfl (st (X.ldN (cs := recE o) rfl Tryz.underlying103 rfl siz103 (REnts.range hR.reads ho)) rfl (sbs1 rfl Tryz.underlying29 inf103 rfl rfl (by decide) (by decide) rfl (fun g94 w13 hR94 hg94 hb => ?_))))))
        replace hbw := bthen hbw hb
        replace hR := hR.bel hb
        replace hRa := hRa.bel hb
        have hz94 := hb.size
        clear hb
        refine sapp rfl rfl Tryz.underlying29 inf103 rfl (by decide) hRa (hR94.reads.src Tryz.underlying29 (recE_one o)) (by simp only [maxLen]; omega) (by omega) rfl (fun v7' w14 hR7' hC hvb => ?_)
        have hO7' : ∀ k, v7'.ownBlock = some k → wk.heap.size ≤ k := own_next hvb hOa (by omega)
        replace hR := hR.chg hC (fun k hk e => by have := h5k k hk; have := hOa k e; omega)
        replace hbw := bapp hbw hC (fun k hk => by have := hOa k hk; omega)
        have hz226 := hC.size
        obtain ⟨N', hN'⟩ : ∃ N', na ++ [o] = N' := ⟨_, rfl⟩
        have hNl' : N'.length ≤ k + 1 + 1 := by rw [← hN', List.length_append]; simp; omega
        replace hR7' : Row w14 103 4 v7' N'.length (N'.flatMap recE) := by rw [← hN', List.length_append, List.flatMap_append]; exact hR7'
        clear hC hvb
        refine sa rfl rfl (Wn (bN (tN (W_reg ?_))))
        obtain ⟨d', hd'⟩ : ∃ d', d' = false := ⟨_, rfl⟩
        have hm' : InsInv O x d' (k + 1) N' := by rw [hd', ← hN', ← hna]; exact hm.pass ho hlt
        refine sm rfl rfl (st (X.add64 rfl rfl (by omega)) rfl (sa rfl rfl (Wn (tN ⟨_, _, ?_, ⟨k + 1, d', N', v7', rfl, rfl, by omega, by omega, hm', hNl', hR, hR7', hO7', hbw⟩, ⟨rfl, rfl, rfl, rfl, by rw [hd']; rfl, rfl, trivial⟩⟩))))
        omega
      ·refine W_drsN (fun _ => True) [0, 1, 2, 3, 4, 5, 6, 7, 8, 9, 10, 11, 12, 13, 14] [true, true, true, true, true, true, true, true, true, true, true, true, true, true, true] (by kernel_rfl) (by kernel_rfl) (trivial) ?_
       obtain ⟨w15, hw_⟩ : ∃ w15 : World, w15 = World.drew w7 := ⟨_, rfl⟩
       rw [← hw_]
       have hb : Below w7.heap.size w7 w15 := by rw [hw_]; exact bdrew (Below.refl _ _)
       clear hw_
       have hS : True := trivial
       replace hpend := bthen hpend hb
       replace hbw := bthen hbw hb
       have hz_w15 := hb.size
       clear hb
       obtain rfl : d = true := by simpa using hsp_
       refine oY rfl (fun W_ hW_ => (X.move rfl)) rfl (oY rfl (fun W_ hW_ => (X.not rfl)) rfl (oY rfl (fun W_ hW_ => (X.mvB (c := false) rfl (rfl))) rfl (oNg (g := 69) rfl rfl rfl rfl hS rfl (oNg (g := 69) rfl rfl rfl rfl hS rfl (oNg (g := 69) rfl rfl rfl rfl hS rfl (oNg (g := 69) rfl rfl rfl rfl hS rfl (oNg (g := 69) rfl rfl rfl rfl hS rfl (oNg (g := 69) rfl rfl rfl rfl hS rfl (oNg (g := 69) rfl rfl rfl rfl hS rfl (oNg (g := 69) rfl rfl rfl rfl hS rfl ?_))))))))))
       refine oNg (g := 69) rfl rfl rfl rfl hS rfl (oNg (g := 69) rfl rfl rfl rfl hS rfl (oNg (g := 69) rfl rfl rfl rfl hS rfl (oY rfl (fun W_ hW_ => (X.pickF rfl rfl)) rfl (oN (nN (W_no rfl (rfl) (W_skip (tN (W_reg ?_)))))))))
       replace hR := hR.bel hpend
       replace hR7 := hR7.bel hpend
       clear hpend
       obtain ⟨na, hna⟩ : ∃ na, N = na := ⟨_, rfl⟩
       obtain ⟨va, rfl⟩ : ∃ va, va = v7 := ⟨_, rfl⟩
       have hRa := hR7
       have hOa := hO7
       have hnl3 : na.length ≤ k + 1 := by rw [← hna]; exact hNl
       rw [hna] at hRa
       refine sm rfl rfl (sm rfl rfl (sm rfl rfl (st (X.idxA rfl rfl Tryz.underlying29 siz103 rfl (by omega)) rfl (st (X.ldN (cs := recE o) rfl Tryz.underlying103 rfl siz103 (REnts.range hR.reads ho)) rfl (sbs1 rfl Tryz.underlying29 inf103 rfl rfl (by decide) (by decide) rfl (fun g94 w16 hR94 hg94 hb => ?_))))))
       replace hbw := bthen hbw hb
       replace hR := hR.bel hb
       replace hRa := hRa.bel hb
       have hz94 := hb.size
       clear hb
       refine sapp rfl rfl Tryz.underlying29 inf103 rfl (by decide) hRa (hR94.reads.src Tryz.underlying29 (recE_one o)) (by simp only [maxLen]; omega) (by omega) rfl (fun v7' w17 hR7' hC hvb => ?_)
       have hO7' : ∀ k, v7'.ownBlock = some k → wk.heap.size ≤ k := own_next hvb hOa (by omega)
       replace hR := hR.chg hC (fun k hk e => by have := h5k k hk; have := hOa k e; omega)
       replace hbw := bapp hbw hC (fun k hk => by have := hOa k hk; omega)
       have hz226 := hC.size
       obtain ⟨N', hN'⟩ : ∃ N', na ++ [o] = N' := ⟨_, rfl⟩
       have hNl' : N'.length ≤ k + 1 + 1 := by rw [← hN', List.length_append]; simp; omega
       replace hR7' : Row w17 103 4 v7' N'.length (N'.flatMap recE) := by rw [← hN', List.length_append, List.flatMap_append]; exact hR7'
       clear hC hvb
       refine sa rfl rfl (Wn (bN (tN (W_reg ?_))))
       obtain ⟨d', hd'⟩ : ∃ d', d' = true := ⟨_, rfl⟩
       have hm' : InsInv O x d' (k + 1) N' := by rw [hd', ← hN', ← hna]; exact hm.keep ho
       refine sm rfl rfl (st (X.add64 rfl rfl (by omega)) rfl (sa rfl rfl (Wn (tN ⟨_, _, ?_, ⟨k + 1, d', N', v7', rfl, rfl, by omega, by omega, hm', hNl', hR, hR7', hO7', hbw⟩, ⟨rfl, rfl, rfl, rfl, by rw [hd']; rfl, rfl, trivial⟩⟩))))
       omega
    ·first | replace h53 := of_decide_eq_false h53 | replace h53 := of_decide_eq_true (notF h53) | replace h53 := notF h53 | skip
     obtain rfl : k = O.length := by omega
     refine W_exit (tE (tE (bH (tN (W_seq (W_rs (sm rfl rfl (st (X.not rfl) rfl (Wn (tN (W_if rfl (fun h97 => ?_) (fun h97 => ?_))))))))))))
     ·first | replace h97 := of_decide_eq_true h97 | replace h97 := of_decide_eq_false (notT h97) | replace h97 := notT h97 | skip
      have hd0 : d = false := h97
      subst hd0
      have hfin := hm.last hI.up
      refine W_reg (sm rfl rfl (sm rfl rfl (sm rfl rfl (st (X.idxA rfl rfl Tryz.underlying29 siz103 rfl (by omega)) rfl (st (X.ldN (cs := recE x) rfl Tryz.underlying103 rfl siz103 (REnts.range (h.bel hbw) hx)) rfl (sbs1 rfl Tryz.underlying29 inf103 rfl rfl (by decide) (by decide) rfl (fun g103 w18 hR103 hg103 hb => ?_)))))))
      replace hbw := bthen hbw hb
      replace hR7 := hR7.bel hb
      have hz103 := hb.size
      clear hb
      refine sapp rfl rfl Tryz.underlying29 inf103 rfl (by decide) hR7 (hR103.reads.src Tryz.underlying29 (recE_one x)) (by simp only [maxLen]; omega) (by omega) rfl (fun vf w19 hRf hC hvb => ?_)
      have hOf : ∀ k, vf.ownBlock = some k → w.heap.size ≤ k := fun k hk => by have := own_next hvb hO7 (by omega) k hk; omega
      replace hbw := bapp hbw hC (fun k hk => by have := hO7 k hk; omega)
      obtain ⟨O', hO'⟩ : ∃ O', N ++ [x] = O' := ⟨_, rfl⟩
      rw [hO'] at hfin
      have hI' := idx_next hI hx hfin
      replace hRf : Row w19 103 4 vf O'.length (O'.flatMap recE) := by rw [← hO', List.length_append, List.flatMap_append]; exact hRf
      clear hC hvb
      refine sa rfl rfl (Wn (tN (W_reg (sm rfl rfl (sa rfl rfl (Wn (bN (tN (W_reg (sm rfl rfl ?_))))))))))
      refine st (X.add64 rfl rfl (by omega)) rfl (sa rfl rfl (Wn (tN ⟨_, _, ?_, ⟨i + 1, O', vf, rfl, rfl, by omega, hI', hRf, hOf, hbw⟩, ⟨rfl, rfl, rfl, trivial⟩⟩)))
      omega
     ·first | replace h97 := of_decide_eq_false h97 | replace h97 := of_decide_eq_true (notF h97) | replace h97 := notF h97 | skip
      have hd0 : d = true := by simpa using h97
      subst hd0
      obtain ⟨O', hO'⟩ : ∃ O', N = O' := ⟨_, rfl⟩
      obtain ⟨vf, rfl⟩ : ∃ vf, vf = v7 := ⟨_, rfl⟩
      have hI' := idx_next hI hx hm.done
      rw [hO'] at hI'
      have hRf := hR7
      rw [hO'] at hRf
      have hOf : ∀ k, vf.ownBlock = some k → w.heap.size ≤ k := fun k hk => by have := hO7 k hk; omega
      refine W_skip (tN (W_reg (sm rfl rfl (sa rfl rfl (Wn (bN (tN (W_reg (sm rfl rfl (st (X.add64 rfl rfl (by omega)) rfl ?_))))))))))
      refine sa rfl rfl (Wn (tN ⟨_, _, ?_, ⟨i + 1, O', vf, rfl, rfl, by omega, hI', hRf, hOf, hbw⟩, ⟨rfl, rfl, rfl, trivial⟩⟩))
      omega
   ·first | replace h47 := of_decide_eq_false h47 | replace h47 := of_decide_eq_true (notF h47) | replace h47 := notF h47 | skip
    obtain rfl : i = l.length := by omega
    rw [List.take_length] at hI
    refine W_exit (tE (tE (bH (tN (W_rs (sm rfl rfl (sa rfl rfl (sa rfl rfl (Wn (tN (W_ret ((rTT rfl rfl rfl ?_).1))))))))))))
    rw [make_of_up hI.perm hI.up (by omega) hfit]
    exact ⟨_, rfl, hR.reads, hbw⟩
end Go.Proofs.YtnlabkogebnioaaGreatDoor
namespace Go.Proofs.YtnlabkogebnioaaGreatDoor
open Go.RowKit
theorem run_append_row2 {P : Program} (w : World) (t tx ty e : TypeId) (i : TypeInfo) (z : Value) (size bytes : Nat) (ht : P.underlying t = some (.slice e)) (hi : P.info? e = some i) (hz : i.zero = some z)
  (hsize : i.size = size) (hby : i.bytes = bytes) (hzs : z.cells.size = size) (_hsz : 0 < size)
  (v : Value) (n : Nat) (xs : List Value) (hown : Row w e size v n xs) (x : Value) (m : Nat) (news : List Value) (hs : Src P size tx x m news w)
  (h63 : n + m ≤ maxLen) (hbytes : (n + m) * bytes ≤ 140737488355328) :
  ∃ v' w', (Builtin.append_ #[t, tx] ty #[v, x]).run P w = .ok v' w' ∧ Row w' e size v' (n + m) (xs ++ news) ∧ Chg (fun k => v.ownBlock = some k) w w' ∧
   (v'.ownBlock = v.ownBlock ∨ v'.ownBlock = some w.heap.size) ∧ Row w' e size v n xs := by
 subst hsize
 subst hby
 have hsmall : n + m ≤ 9223372036854775807 := by simp only [maxLen] at h63; omega
 have hlen : (xs ++ news).length = (n + m) * i.size := by rw [List.length_append, hown.1, hs.newsLen, Nat.add_mul]
 have grown : ∀ (old : Nat), old < n + m →
   Row (w.drew.alloc (.cells ((xs ++ news).toArray ++ Builtin.zeroCells z.cells (grownCap w (n + m) old e - (n + m))) e)) e i.size
    (.slice (some ⟨w.heap.size, 0, none⟩) (n + m) (grownCap w (n + m) old e)) (n + m) (xs ++ news) := by
  intro old ho
  have hge := grownCap_ge w (n + m) old e
  have hcm : grownCap w (n + m) old e ≤ maxLen := grownCap_le_maxLen w (n + m) old e h63
  refine ⟨hlen, .inr ⟨w.heap.size, 0, _, _, (0, 0), rfl, heap_alloc_new w.drew _, hge, hcm, ?_, ?_, fun j _ => by simp⟩⟩
  ·simp only [Array.size_append, List.size_toArray, size_zeroCells, hzs, hlen, ← Nat.add_mul]
   rw [show n + m + (grownCap w (n + m) old e - (n + m)) = grownCap w (n + m) old e from by omega]
   omega
  ·simp only [Array.toList_append, List.drop_zero]
   rw [← hlen]
   exact List.take_left
 have hgc : ∀ o : Obj, Chg (fun k => v.ownBlock = some k) w (w.drew.alloc o) := fun o => ((Chg.refl _ w).drew).alloc o
 rcases hown.2 with ⟨rfl, rfl⟩ | ⟨g, off, cap, cur, fz, rfl, hg, hnc, hcm, hcs, htake, hfz⟩
 ·have hx : xs = [] := List.eq_nil_of_length_eq_zero (by simpa using hown.1)
  subst hx
  by_cases hm : m = 0
  ·subst hm
   have hn : news = [] := List.eq_nil_of_length_eq_zero (by simpa using hs.newsLen)
   subst hn
   refine ⟨.slice none 0 0, w, ?_, Row.nil w e i.size, Chg.refl _ w, .inl rfl, Row.nil w e i.size⟩
   rcases hs.kind with ⟨e', hk⟩ | hk <;> simp [Builtin.append_, run_underlying ht, run_underlying hk, sizeOf, typeInfo, hi, hs.len, hs.cells]
  ·have hr := run_append_grow_src (P := P) w t tx ty e i z ht hi hz none 0 0 [] (by simp [Builtin.firstCells]) x m news hs (by omega) (by simp only [Nat.zero_add] at *; omega) (growslice_fits (by omega) hbytes)
   exact ⟨_, _, hr, grown 0 (by omega), hgc _, .inr rfl, Row.nil _ e i.size⟩
 ·by_cases hroom : n + m ≤ cap
  ·have hin : off + n * i.size + news.length ≤ cur.size := by
    rw [hs.newsLen]
    have : n * i.size + m * i.size ≤ cap * i.size := by rw [← Nat.add_mul]; exact Nat.mul_le_mul_right _ hroom
    omega
   have hr := run_append_room_src (P := P) w t tx ty e i ht hi g off n cap x m news hs hroom
    (fun j hj => by rw [cell_of_row w g _ cur e fz hg, Array.getElem?_eq_getElem (by omega)]; rfl) (fun j hj => by
     have := hfz (off + n * i.size + j) (by omega)
     simp only [World.frozen?, hg]
     simp only [Bool.and_eq_false_iff, decide_eq_false_iff_not]
     omega)
   obtain ⟨cur', e1, e2, e3, e4⟩ := setCells_blk g news (off + n * i.size) w cur e fz hg
   obtain ⟨k1, k2, k3, k4, k5⟩ := setCells_keep g news (off + n * i.size) w
   refine ⟨_, _, hr, ⟨hlen, .inr ⟨g, off, cap, cur', fz, rfl, e1, hroom, hcm, by omega, ?_, fun j hj => hfz j (by omega)⟩⟩, ⟨k1, k2, k3, by omega, fun k _ hk => k5 k (by rintro rfl; exact hk (by simp [Value.ownBlock]))⟩, .inl (by simp [Value.ownBlock]), ?_⟩
   rotate_left
   ·refine ⟨hown.1, .inr ⟨g, off, cap, cur', fz, rfl, e1, hnc, hcm, by omega, ?_, fun j hj => hfz j (by omega)⟩⟩
    rw [← htake]
    apply List.ext_getElem?
    intro j
    rw [List.getElem?_take, List.getElem?_take]
    split
    ·rw [List.getElem?_drop, List.getElem?_drop, Array.getElem?_toList, Array.getElem?_toList, e3 (off + j) (by omega)]
    ·rfl
   have hxl := hown.1
   have hnl := hs.newsLen
   have hsum : (n + m) * i.size = n * i.size + m * i.size := Nat.add_mul _ _ _
   apply List.ext_getElem?
   intro j
   rw [List.getElem?_take]
   by_cases hj : j < (n + m) * i.size
   ·rw [if_pos hj, List.getElem?_drop, Array.getElem?_toList]
    by_cases hjn : j < n * i.size
    ·rw [e3 (off + j) (by omega), List.getElem?_append_left (by omega), ← htake, List.getElem?_take, if_pos hjn, List.getElem?_drop, Array.getElem?_toList]
    ·rw [List.getElem?_append_right (by omega)]
     have := e4 (j - n * i.size) (by omega) (by omega)
     rw [show off + n * i.size + (j - n * i.size) = off + j from by omega] at this
     rw [this, hxl]
   ·rw [if_neg hj]
    symm
    rw [List.getElem?_eq_none]
    omega
  ·have hold : (Builtin.firstCells i.size n (.slice (some ⟨g, off, none⟩) n cap)).run P w.drew = .ok xs.toArray w.drew :=
    run_firstCells_some w.drew i.size n _ n cap xs hown.1 (fun j u hu => by
     rw [Addr.add_lit]
     show w.cell? _ = _
     rw [cell_of_row w g (off + j) cur e fz hg]
     rw [← htake, List.getElem?_take] at hu
     split at hu
     ·rw [List.getElem?_drop] at hu; simpa using hu
     ·cases hu)
   have hr := run_append_grow_src (P := P) w t tx ty e i z ht hi hz (some ⟨g, off, none⟩) n cap xs hold x m news hs (by omega) (by omega) (growslice_fits (by omega) hbytes)
   exact ⟨_, _, hr, grown cap (by omega), hgc _, .inr rfl, (hown.drew.alloc _)⟩
theorem wp_append_row2 {P : Program} (w : World) {o : Oper} {a : Act} {K : Act → World → Prop} {Q : Exit → Act → World → Prop} (s x : Operand) (t tx : TypeId)
  (ho : o.op = .call { callee := .builtin .append, args := #[s, x], argTypes := #[t, tx] })
  (e : TypeId) (i : TypeInfo) (z : Value) (size bytes : Nat) (ht : P.underlying t = some (.slice e)) (hi : P.info? e = some i) (hz : i.zero = some z)
  (hsize : i.size = size) (hby : i.bytes = bytes) (hzs : z.cells.size = size) (hsz : 0 < size)
  (v : Value) (n : Nat) (xs : List Value) (hs : a.eval s = v) (hown : Row w e size v n xs)
  (xv : Value) (m : Nat) (news : List Value) (hx : a.eval x = xv) (hsrc : Src P size tx xv m news w)
  (h63 : n + m ≤ maxLen) (hbytes : (n + m) * bytes ≤ 140737488355328)
  (h : ∀ v' w', Row w' e size v' (n + m) (xs ++ news) → Chg (fun k => v.ownBlock = some k) w w' → (v'.ownBlock = v.ownBlock ∨ v'.ownBlock = some w.heap.size) → Row w' e size v n xs → K (a.put o.dst v') w') : o.wp P a w K Q := by
 obtain ⟨v', w', hr, h2, h3, h4, h5⟩ := run_append_row2 (P := P) w t tx o.type e i z size bytes ht hi hz hsize hby hzs hsz v n xs hown xv m news hsrc h63 hbytes
 unfold Oper.wp execOp
 simp only [ho, resolve, invoke, builtin, Sem.run_bind, Sem.run_pure, Result.andThen_ok, List.map_toArray, List.map_cons, List.map_nil, hs, hx, hr]
 exact h v' w' h2 h3 h4 h5
theorem Row.at_ {w : World} {e : TypeId} {n cap g o j : Nat} {xs : List Value} {u : Value} (h : Row w e 1 (.slice (some ⟨g, o, none⟩) n cap) n xs) (hx : xs[j]? = some u) : w.cell? ⟨g, o + j, none⟩ = some u := by
 have hj : j < n := by
  have := h.1
  rcases Nat.lt_or_ge j n with hj | hj
  ·exact hj
  ·rw [List.getElem?_eq_none (by omega)] at hx; cases hx
 obtain ⟨g', o', cap', hv, _, _, _, hc, _⟩ := h.form (by omega)
 injection hv with ha _ _
 injection ha with ha
 injection ha with hg ho
 subst hg
 subst ho
 exact hc j u hx
theorem Reads.at_ {w : World} {size n cap g o j : Nat} {xs : List Value} {u : Value} (h : Reads w size (.slice (some ⟨g, o, none⟩) n cap) n xs) (hn : 0 < n) (hx : xs[j]? = some u) : w.cell? ⟨g, o + j, none⟩ = some u := by
 obtain ⟨_, a, c, hv, _, _, h5⟩ := h
 injection hv with ha _ _
 obtain ⟨g', off, e, _, hc⟩ := h5 hn
 rw [← ha] at e
 injection e with e
 injection e with hg ho
 subst hg
 subst ho
 exact hc j u hx
theorem Row.firsts {w : World} {e : TypeId} {n cap g o m : Nat} {xs : List Value} (h : Row w e 1 (.slice (some ⟨g, o, none⟩) n cap) n xs) (hm : m ≤ n) (h0 : 0 < cap) : Row w e 1 (.slice (some ⟨g, o, none⟩) m cap) m (xs.take m) := by
 have := h.cut rfl 0 m (by omega) hm
 unfold sliced at this
 rw [if_neg (by omega)] at this
 simpa [Addr.add] using this
theorem Reads.srcP {P : Program} {w : World} {e' tx : TypeId} {size : Nat} {v : Value} {n : Nat} {xs : List Value} (h : Reads w size v n xs) (hn : 0 < n) (hk : P.underlying tx = some (.slice e')) (h1 : ∀ u ∈ xs, u.oneCell' = true) : Src P size tx v n xs w := by
 obtain ⟨hl, a, cap, rfl, _, _, h5⟩ := h
 obtain ⟨g, off, rfl, _, hc⟩ := h5 hn
 exact Src.ofSlice w hk ⟨g, off, none⟩ n cap xs hl (fun j u hu => by rw [Addr.add_lit]; exact hc j u hu) h1
theorem Row.store {w : World} {e : TypeId} {n cap g o : Nat} {xs : List Value} (h : Row w e 1 (.slice (some ⟨g, o, none⟩) n cap) n xs) (j : Nat) (hj : j < n) (u : Value) : Row (w.setCell ⟨g, o + j, none⟩ u) e 1 (.slice (some ⟨g, o, none⟩) n cap) n (xs.set j u) := by
 refine ⟨by rw [List.length_set]; exact h.1, ?_⟩
 rcases h.2 with ⟨h0, _⟩ | ⟨g', off, cap', cur, fz, hv, hg, h1, h2, h3, h4, h5⟩
 ·cases h0
 ·injection hv with ha _ hc
  subst hc
  injection ha with ha
  injection ha with hg' ho
  subst hg'
  subst ho
  refine .inr ⟨g, o, cap, cur.setIfInBounds (o + j) u, fz, rfl, by simp [World.setCell, Array.getElem?_modify, hg], h1, h2, by simpa using h3, ?_, fun j hj => h5 j (by simpa using hj)⟩
  rw [← h4]
  apply List.ext_getElem?
  intro i
  have hl := h.1
  rw [← h4] at hl
  rw [List.getElem?_take, List.getElem?_set]
  simp only [Nat.mul_one] at *
  by_cases hi : i < n
  ·rw [if_pos hi, List.getElem?_drop, Array.getElem?_toList, Array.getElem?_setIfInBounds]
   by_cases hij : j = i
   ·subst hij
    rw [if_pos rfl, if_pos (by omega), if_pos rfl, if_pos (by omega)]
   ·rw [if_neg (by omega), if_neg hij, List.getElem?_take, if_pos hi, List.getElem?_drop, Array.getElem?_toList]
  ·rw [if_neg hi, if_neg (by omega), List.getElem?_take, if_neg hi]
end Go.Proofs.YtnlabkogebnioaaGreatDoor
namespace Go.Proofs.YtnlabkogebnioaaGreatDoor.Sha
def rr (x : UInt32) : Nat → UInt32
  | 0 => x
  | n + 1 => rotr (rr x n) 1
def rotN (x n : Nat) : Nat := x / 2 ^ n + x % 2 ^ n * 2 ^ (32 - n)
theorem rotr_toNat (x : UInt32) (n : Nat) (h1 : 1 ≤ n) (h2 : n ≤ 31) : (rotr x (UInt32.ofNat n)).toNat = rotN x.toNat n := by
 have hx := x.toNat_lt
 have e1 : (32 - UInt32.ofNat n).toNat = 32 - n := by
  rw [UInt32.toNat_sub_of_le _ _ (by rw [UInt32.le_iff_toNat_le, UInt32.toNat_ofNat_of_lt' (by simp [UInt32.size]; omega)]; show n ≤ 32; omega), UInt32.toNat_ofNat_of_lt' (by simp [UInt32.size]; omega)]
  rfl
 unfold rotr rotN
 rw [UInt32.toNat_or, UInt32.toNat_shiftRight, UInt32.toNat_shiftLeft, e1, UInt32.toNat_ofNat_of_lt' (by simp [UInt32.size]; omega), Nat.mod_eq_of_lt (by omega : n < 32), Nat.mod_eq_of_lt (by omega : 32 - n < 32)]
 have hp : 2 ^ 32 = 2 ^ n * 2 ^ (32 - n) := by rw [← Nat.pow_add]; congr 1; omega
 rw [Nat.shiftRight_eq_div_pow, Nat.shiftLeft_eq, hp, Nat.mul_mod_mul_right, Nat.or_comm, ← Nat.shiftLeft_eq, ← Nat.shiftLeft_add_eq_or_of_lt]
 ·rw [Nat.shiftLeft_eq, Nat.add_comm]
 ·rw [Nat.div_lt_iff_lt_mul (Nat.two_pow_pos n), Nat.mul_comm, ← hp]
  exact hx
theorem rotN_step (x n : Nat) (h : n ≤ 30) : rotN (rotN x n) 1 = rotN x (n + 1) := by
 unfold rotN
 have e1 : 2 ^ (32 - n) = 2 * 2 ^ (31 - n) := by rw [← Nat.pow_succ']; congr 1; omega
 have e2 : x / 2 ^ (n + 1) = x / 2 ^ n / 2 := by rw [Nat.pow_succ, ← Nat.div_div_eq_div_mul]
 have e3 : x % 2 ^ (n + 1) = x % 2 ^ n + 2 ^ n * (x / 2 ^ n % 2) := by rw [Nat.pow_succ, Nat.mod_mul]
 have e4 : 2 ^ n * 2 ^ (31 - n) = 2147483648 := by rw [← Nat.pow_add, show n + (31 - n) = 31 by omega]
 have e5 : 32 - (n + 1) = 31 - n := by omega
 rw [e1, e2, e3, e5]
 generalize x / 2 ^ n = q
 generalize x % 2 ^ n = r
 have e6 : r * (2 * 2 ^ (31 - n)) = 2 * (r * 2 ^ (31 - n)) := by rw [Nat.mul_left_comm]
 have e7 : (r + 2 ^ n * (q % 2)) * 2 ^ (31 - n) = r * 2 ^ (31 - n) + q % 2 * 2147483648 := by
  rw [Nat.add_mul, Nat.mul_right_comm, e4, Nat.mul_comm 2147483648]
 rw [e6, e7]
 generalize r * 2 ^ (31 - n) = z
 simp only [Nat.pow_one]
 show _ + _ * 2147483648 = _
 omega
theorem rr_toNat (x : UInt32) (n : Nat) (h : n ≤ 31) : (rr x n).toNat = rotN x.toNat n := by
 induction n with
 | zero =>
  have hx := x.toNat_lt
  simp [rr, rotN, Nat.mod_one]
 | succ n ih =>
  rw [rr, show (1 : UInt32) = UInt32.ofNat 1 from rfl, rotr_toNat _ 1 (by omega) (by omega), ih (by omega), rotN_step _ _ (by omega)]
theorem rr_eq (x : UInt32) (n : Nat) (h1 : 1 ≤ n) (h : n ≤ 31) : rr x n = rotr x (UInt32.ofNat n) := UInt32.toNat_inj.1 (by rw [rr_toNat x n h, rotr_toNat x n h1 h])
theorem rot1_int (x : UInt32) : (x.toNat : Int) / 2 + (x.toNat : Int) % 2 * 2147483648 = ((rotr x 1).toNat : Int) := by
 rw [show (1 : UInt32) = UInt32.ofNat 1 from rfl, rotr_toNat x 1 (by omega) (by omega)]
 unfold rotN
 simp only [Nat.pow_one]
 have : (2 : Nat) ^ (32 - 1) = 2147483648 := rfl
 rw [this]
 omega
def mv (x : UInt32) : Nat → UInt32
  | 0 => x
  | n + 1 => mv x n >>> 1
theorem mv_toNat (x : UInt32) (n : Nat) : (mv x n).toNat = x.toNat / 2 ^ n := by
 induction n with
 | zero => simp [mv]
 | succ n ih =>
  rw [mv, UInt32.toNat_shiftRight, ih, Nat.shiftRight_eq_div_pow]
  show x.toNat / 2 ^ n / 2 ^ 1 = _
  rw [Nat.div_div_eq_div_mul, ← Nat.pow_add]
theorem mv1_int (x : UInt32) : (x.toNat : Int) / 2 = ((x >>> 1).toNat : Int) := by
 have := shr_u32 x 1 (by omega)
 simpa using this
theorem mv_eq (x : UInt32) (n : Nat) (h : n ≤ 31) : mv x n = x >>> (UInt32.ofNat n) := UInt32.toNat_inj.1 (by
 rw [mv_toNat, UInt32.toNat_shiftRight, UInt32.toNat_ofNat_of_lt' (by simp [UInt32.size]; omega), Nat.mod_eq_of_lt (by omega), Nat.shiftRight_eq_div_pow])
theorem wrapi (n : Nat) (h : n < 4294967296) : IntKind.i64.wrap (n : Int) = n := by rw [IntKind.wrap_i64]; omega
theorem bits64 (x : UInt32) : BitVec.ofInt 64 (x.toNat : Int) = x.toBitVec.setWidth 64 := by
 have := x.toNat_lt
 rw [BitVec.ofInt_natCast]; apply BitVec.eq_of_toNat_eq; simp
theorem xor_i64 (x y : UInt32) : bits .xor .i64 (x.toNat : Int) (y.toNat : Int) = ((x ^^^ y).toNat : Int) := by
 show IntKind.i64.wrap ((BitVec.ofInt 64 (x.toNat : Int) ^^^ BitVec.ofInt 64 (y.toNat : Int)).toNat : Int) = _
 rw [bits64, bits64, ← BitVec.setWidth_xor, ← UInt32.toBitVec_xor, BitVec.toNat_setWidth_of_le (by omega)]
 exact wrapi _ (x ^^^ y).toNat_lt
theorem and_i64 (x y : UInt32) : bits .and .i64 (x.toNat : Int) (y.toNat : Int) = ((x &&& y).toNat : Int) := by
 show IntKind.i64.wrap ((BitVec.ofInt 64 (x.toNat : Int) &&& BitVec.ofInt 64 (y.toNat : Int)).toNat : Int) = _
 rw [bits64, bits64, ← BitVec.setWidth_and, ← UInt32.toBitVec_and, BitVec.toNat_setWidth_of_le (by omega)]
 exact wrapi _ (x &&& y).toNat_lt
theorem not_i64 (x : UInt32) : (4294967295 : Int) - (x.toNat : Int) = ((~~~x).toNat : Int) := by
 have h := x.toNat_lt
 rw [UInt32.toNat_not]
 show (4294967295 : Int) - _ = ((2 ^ 32 - 1 - x.toNat : Nat) : Int)
 omega
theorem be_toNat (a b c d : UInt8) : (be a b c d).toNat = ((a.toNat * 256 + b.toNat) * 256 + c.toNat) * 256 + d.toNat := by
 have ha := a.toNat_lt
 have hb := b.toNat_lt
 have hc := c.toNat_lt
 have hd := d.toNat_lt
 unfold be
 simp only [UInt32.toNat_or, UInt32.toNat_shiftLeft, UInt8.toNat_toUInt32]
 have e24 : (24 : UInt32).toNat % 32 = 24 := rfl
 have e16 : (16 : UInt32).toNat % 32 = 16 := rfl
 have e8 : (8 : UInt32).toNat % 32 = 8 := rfl
 rw [e24, e16, e8]
 have f1 : a.toNat <<< 24 % 2 ^ 32 = a.toNat <<< 24 := Nat.mod_eq_of_lt (by rw [Nat.shiftLeft_eq]; omega)
 have f2 : b.toNat <<< 16 % 2 ^ 32 = b.toNat <<< 16 := Nat.mod_eq_of_lt (by rw [Nat.shiftLeft_eq]; omega)
 have f3 : c.toNat <<< 8 % 2 ^ 32 = c.toNat <<< 8 := Nat.mod_eq_of_lt (by rw [Nat.shiftLeft_eq]; omega)
 rw [f1, f2, f3]
 rw [← Nat.shiftLeft_add_eq_or_of_lt (show b.toNat <<< 16 < 2 ^ 24 by rw [Nat.shiftLeft_eq]; omega)]
 rw [show a.toNat <<< 24 + b.toNat <<< 16 = (a.toNat * 256 + b.toNat) <<< 16 by simp only [Nat.shiftLeft_eq]; omega]
 rw [← Nat.shiftLeft_add_eq_or_of_lt (show c.toNat <<< 8 < 2 ^ 16 by rw [Nat.shiftLeft_eq]; omega)]
 rw [show (a.toNat * 256 + b.toNat) <<< 16 + c.toNat <<< 8 = ((a.toNat * 256 + b.toNat) * 256 + c.toNat) <<< 8 by simp only [Nat.shiftLeft_eq]; omega]
 rw [← Nat.shiftLeft_add_eq_or_of_lt (show d.toNat < 2 ^ 8 by omega)]
 simp only [Nat.shiftLeft_eq]
theorem be_ints (a b c d : UInt8) : ∃ A1 A2 A3 A4 A5 : Int, IntKind.i64.wrap (a.toNat : Int) = a.toNat ∧ IntKind.i64.wrap (b.toNat : Int) = b.toNat ∧ IntKind.i64.wrap (c.toNat : Int) = c.toNat ∧ IntKind.i64.wrap (d.toNat : Int) = d.toNat ∧
  IntKind.i64.wrap ((a.toNat : Int) * 256) = A1 ∧ IntKind.i64.wrap (A1 + b.toNat) = A2 ∧ IntKind.i64.wrap (A2 * 256) = A3 ∧ IntKind.i64.wrap (A3 + c.toNat) = A4 ∧ IntKind.i64.wrap (A4 * 256) = A5 ∧ IntKind.i64.wrap (A5 + d.toNat) = (be a b c d).toNat := by
 have ha := a.toNat_lt
 have hb := b.toNat_lt
 have hc := c.toNat_lt
 have hd := d.toNat_lt
 have e := be_toNat a b c d
 have wi : ∀ n : Int, 0 ≤ n → n < 4294967296 → IntKind.i64.wrap n = n := fun n h0 h1 => by rw [IntKind.wrap_i64]; omega
 refine ⟨(a.toNat : Int) * 256, (a.toNat : Int) * 256 + b.toNat, ((a.toNat : Int) * 256 + b.toNat) * 256, ((a.toNat : Int) * 256 + b.toNat) * 256 + c.toNat, (((a.toNat : Int) * 256 + b.toNat) * 256 + c.toNat) * 256,
  wi _ (by omega) (by omega), wi _ (by omega) (by omega), wi _ (by omega) (by omega), wi _ (by omega) (by omega), wi _ (by omega) (by omega), wi _ (by omega) (by omega), wi _ (by omega) (by omega), wi _ (by omega) (by omega), wi _ (by omega) (by omega), ?_⟩
 rw [wi _ (by omega) (by omega), e]
 omega
theorem sum4 (a b c d : UInt32) : ∃ D1 D2 D3 : Int, IntKind.i64.wrap ((a.toNat : Int) + b.toNat) = D1 ∧ IntKind.i64.wrap (D1 + c.toNat) = D2 ∧ IntKind.i64.wrap (D2 + d.toNat) = D3 ∧ Int.tmod D3 4294967296 = ((a + b + c + d).toNat : Int) := by
 have ha := a.toNat_lt
 have hb := b.toNat_lt
 have hc := c.toNat_lt
 have hd := d.toNat_lt
 have wi : ∀ n : Int, 0 ≤ n → n < 42949672960 → IntKind.i64.wrap n = n := fun n h0 h1 => by rw [IntKind.wrap_i64]; omega
 refine ⟨(a.toNat : Int) + b.toNat, (a.toNat : Int) + b.toNat + c.toNat, (a.toNat : Int) + b.toNat + c.toNat + d.toNat, wi _ (by omega) (by omega), wi _ (by omega) (by omega), wi _ (by omega) (by omega), ?_⟩
 rw [Int.tmod_eq_emod_of_nonneg (by omega)]
 simp only [UInt32.toNat_add]
 omega
theorem sum2 (a b : UInt32) : ∃ D1 : Int, IntKind.i64.wrap ((a.toNat : Int) + b.toNat) = D1 ∧ Int.tmod D1 4294967296 = ((a + b).toNat : Int) := by
 have ha := a.toNat_lt
 have hb := b.toNat_lt
 have wi : ∀ n : Int, 0 ≤ n → n < 42949672960 → IntKind.i64.wrap n = n := fun n h0 h1 => by rw [IntKind.wrap_i64]; omega
 refine ⟨(a.toNat : Int) + b.toNat, wi _ (by omega) (by omega), ?_⟩
 rw [Int.tmod_eq_emod_of_nonneg (by omega)]
 simp only [UInt32.toNat_add]
 omega
theorem sum5 (a b c d e : UInt32) : ∃ D1 D2 D3 D4 : Int, IntKind.i64.wrap ((a.toNat : Int) + b.toNat) = D1 ∧ IntKind.i64.wrap (D1 + c.toNat) = D2 ∧ IntKind.i64.wrap (D2 + d.toNat) = D3 ∧ IntKind.i64.wrap (D3 + e.toNat) = D4 ∧ Int.tmod D4 4294967296 = ((a + b + c + d + e).toNat : Int) := by
 have ha := a.toNat_lt
 have hb := b.toNat_lt
 have hc := c.toNat_lt
 have hd := d.toNat_lt
 have he := e.toNat_lt
 have wi : ∀ n : Int, 0 ≤ n → n < 42949672960 → IntKind.i64.wrap n = n := fun n h0 h1 => by rw [IntKind.wrap_i64]; omega
 refine ⟨(a.toNat : Int) + b.toNat, (a.toNat : Int) + b.toNat + c.toNat, (a.toNat : Int) + b.toNat + c.toNat + d.toNat, (a.toNat : Int) + b.toNat + c.toNat + d.toNat + e.toNat, wi _ (by omega) (by omega), wi _ (by omega) (by omega), wi _ (by omega) (by omega), wi _ (by omega) (by omega), ?_⟩
 rw [Int.tmod_eq_emod_of_nonneg (by omega)]
 simp only [UInt32.toNat_add]
 omega
end Go.Proofs.YtnlabkogebnioaaGreatDoor.Sha
namespace Go.Proofs.YtnlabkogebnioaaGreatDoor
open Go.RowKit Sha
def iw (x : UInt32) : Value := .int .i64 x.toNat
theorem iw_one (l : List UInt32) : ∀ u ∈ l.map iw, u.oneCell' = true := by
 intro u hu
 obtain ⟨_, _, rfl⟩ := List.mem_map.1 hu
 rfl
theorem iw_at (l : List UInt32) (j : Nat) (h : j < l.length) : (l.map iw)[j]? = some (.int .i64 (l.getD j 0).toNat) := by
 rw [List.getElem?_map, List.getElem?_eq_getElem h]
 simp [List.getD, List.getElem?_eq_getElem h]
 rfl
theorem ref_right (x : UInt32) (n : Nat) (w : World) (h1 : n ≤ 31) :
  Calls Tryz.prog 171 #[.int .i64 x.toNat, .int .i64 n] w fun e w' => e = .returned (.int .i64 (rr x n).toNat) ∧ w = w' := by
 go_enter Tryz.func171, Tryz.ntmps171
 go_wp2
 go_loop [0, 5] (fun t i => ∃ k : Nat, k ≤ n ∧ i = .int .i64 k ∧ t = .int .i64 (rr x k).toNat) (fun _ i => n - (intOf i).toNat)
 case atStart => exact ⟨0, by omega, rfl, rfl⟩
 case round =>
  obtain ⟨k, hk, rfl, rfl⟩ := hrel
  by_cases hlt : k < n
  ·have Hs : Hid (rr x (k + 1) = rotr (rr x k) 1) := rfl
   generalize rr x k = y at *
   have hs := lt_u32 y
   go_wp2
   go_round
   case rel => exact ⟨k + 1, by omega, by go_num, by rw [Hs.out, ← rot1_int]⟩
   case measure => simp [intOf]; omega
  ·obtain rfl : k = n := by omega
   have hdec : decide (k < k) = false := by simp
   go_wp2
   go_ret
   exact ⟨rfl, rfl⟩
theorem ref_moved (x : UInt32) (n : Nat) (w : World) (h1 : n ≤ 31) :
  Calls Tryz.prog 172 #[.int .i64 x.toNat, .int .i64 n] w fun e w' => e = .returned (.int .i64 (mv x n).toNat) ∧ w = w' := by
 go_enter Tryz.func172, Tryz.ntmps172
 go_wp2
 go_loop [0, 5] (fun t i => ∃ k : Nat, k ≤ n ∧ i = .int .i64 k ∧ t = .int .i64 (mv x k).toNat) (fun _ i => n - (intOf i).toNat)
 case atStart => exact ⟨0, by omega, rfl, rfl⟩
 case round =>
  obtain ⟨k, hk, rfl, rfl⟩ := hrel
  by_cases hlt : k < n
  ·have Hs : Hid (mv x (k + 1) = mv x k >>> 1) := rfl
   generalize mv x k = y at *
   have hs := lt_u32 y
   go_wp2
   go_round
   case rel => exact ⟨k + 1, by omega, by go_num, by rw [Hs.out, ← mv1_int]; rfl⟩
   case measure => simp [intOf]; omega
  ·obtain rfl : k = n := by omega
   have hdec : decide (k < k) = false := by simp
   go_wp2
   go_ret
   exact ⟨rfl, rfl⟩
theorem ref_rot (x : UInt32) (n : Int) (m : Nat) (r : UInt32) (w : World) (hn : n = m) (h1 : 1 ≤ m) (h2 : m ≤ 31) (hr : rotr x (UInt32.ofNat m) = r) :
  Calls Tryz.prog 171 #[.int .i64 x.toNat, .int .i64 n] w fun e w' => e = .returned (.int .i64 r.toNat) ∧ w = w' := by
 subst hn
 subst hr
 rw [← rr_eq x m h1 h2]
 exact ref_right x m w h2
theorem ref_mov (x : UInt32) (n : Int) (m : Nat) (r : UInt32) (w : World) (hn : n = m) (h2 : m ≤ 31) (hr : x >>> (UInt32.ofNat m) = r) :
  Calls Tryz.prog 172 #[.int .i64 x.toNat, .int .i64 n] w fun e w' => e = .returned (.int .i64 r.toNat) ∧ w = w' := by
 subst hn
 subst hr
 rw [← mv_eq x m h2]
 exact ref_moved x m w h2
theorem info_int : (Tryz.prog.info? 3).map (fun i => (i.zero, i.size, i.bytes)) = some (some (.int .i64 0), 1, 8) := by kernel_rfl
def IntsIs (w : World) (l : List UInt32) (e : Ending) (w' : World) : Prop :=
  ∃ vo, e = .returned vo ∧ Row w' 3 1 vo l.length (l.map iw) ∧ (∀ k, vo.ownBlock = some k → w.heap.size ≤ k) ∧ Below w.heap.size w w'
theorem ref_constants (w : World) : Calls Tryz.prog 139 #[] w (IntsIs w kTab) := by
 go_enter Tryz.func139, Tryz.ntmps139
 go_wp2
 go_ret
 refine ⟨_, rfl, Row.new w 3 1 64 (kTab.map iw).toArray (by simp [maxLen]) rfl, ?_, (Below.refl _ _).alloc (Nat.le_refl _) _⟩
 intro k hk
 simp [Value.ownBlock] at hk
 omega
end Go.Proofs.YtnlabkogebnioaaGreatDoor
namespace Go.Proofs.YtnlabkogebnioaaGreatDoor
open Go.RowKit Sha
def IntsAt (w0 w : World) (v : Value) (l : List UInt32) : Prop := Row w 3 1 v l.length (l.map iw) ∧ (∀ k, v.ownBlock = some k → w0.heap.size ≤ k) ∧ Below w0.heap.size w0 w
theorem wordsTo_length' (s : List UInt8) (t : Nat) : (wordsTo s t).length = t := by
 induction t with
 | zero => rfl
 | succ t ih => simp [wordsTo, ih]
theorem extTo_length' (l : List UInt32) (t : Nat) : (extTo l t).length = l.length + t := by
 induction t with
 | zero => rfl
 | succ t ih => simp [extTo, ih]; omega
theorem Reads.shape8 {w : World} {size n : Nat} {v : Value} {xs : List Value} (h : Reads w size v n xs) (hn : 0 < n) : ∃ g o cap, v = .slice (some ⟨g, o, none⟩) n cap ∧ n ≤ cap ∧ cap ≤ 9223372036854775807 := by
 obtain ⟨_, a, cap, rfl, h1, h2, h5⟩ := h
 obtain ⟨g, off, rfl, _, _⟩ := h5 hn
 unfold maxLen at h2
 exact ⟨g, off, cap, rfl, h1, by omega⟩
theorem words_add (h x : St) (k : Nat) (hk : k < 8) : (addSt h x).words.take (k + 1) = (addSt h x).words.take k ++ [h.words.getD k 0 + x.words.getD k 0] := by
 obtain rfl | rfl | rfl | rfl | rfl | rfl | rfl | rfl : k = 0 ∨ k = 1 ∨ k = 2 ∨ k = 3 ∨ k = 4 ∨ k = 5 ∨ k = 6 ∨ k = 7 := by omega
 all_goals rfl
theorem ints_more {w wr w5 : World} {vo v5 : Value} {l l' : List UInt32} {x : UInt32} (hn : ∀ k, vo.ownBlock = some k → w.heap.size ≤ k) (hbr : Below w.heap.size w wr)
  (hR5 : Row w5 3 1 v5 (l.length + 1) (l.map iw ++ [iw x])) (hC5 : Chg (fun k => vo.ownBlock = some k) (wr.alloc (.cells #[iw x] 3)).drew w5) (hv5 : v5.ownBlock = vo.ownBlock ∨ v5.ownBlock = some (wr.alloc (.cells #[iw x] 3)).drew.heap.size) (hl : l' = l ++ [x]) : IntsAt w w5 v5 l' := by
 subst hl
 have hsz := hbr.size
 refine ⟨?_, fun k hk => ?_, ?_⟩
 ·rw [List.map_append, List.length_append]; exact hR5
 ·rcases hv5 with h | h
  ·exact hn k (h.symm.trans hk)
  ·rw [h] at hk
   injection hk with hk
   simp at hk
   omega
 ·exact (((Chg.of_below hbr (fun k => w.heap.size ≤ k)).alloc _).drew.next hC5 (fun i h => .inr (hn i h))).below (Nat.le_refl _) (fun k h => h)
set_option maxHeartbeats 4000000 in
set_option maxRecDepth 100000 in
theorem ref_block (vh vk : Value) (h : St) (s : ByteArray) (w : World) (hs : s.size = 64) (hh : Reads w 1 vh 8 (h.words.map iw)) (hk : Reads w 1 vk 64 (kTab.map iw)) :
  Calls Tryz.prog 140 #[vh, .string s, vk] w (IntsIs w (block h s.data.toList).words) := by
 obtain ⟨i1, hi1, hz3, hz4, hz5⟩ := info_parts info_int
 have Hs := Lib.hid hs; clear hs
 obtain ⟨gh, oh, caph, rfl, hch1, hch2⟩ := hh.shape8 (by omega)
 obtain ⟨gk, ok, capk, rfl, hck1, hck2⟩ := hk.shape8 (by omega)
 have Hh := Lib.hid hh; clear hh
 have Hk := Lib.hid hk; clear hk
 go_enter Tryz.func140, Tryz.ntmps140
 go_wp2
 go_loopg [7, 8] 16 (fun m vo i wr => ∃ k : Nat, k ≤ 16 ∧ m = 16 - k ∧ i = .int .i64 k ∧ IntsAt w wr vo (wordsTo s.data.toList k))
 case atStart => exact ⟨0, by omega, rfl, rfl, Row.nil _ _ _, (fun k hk => by simp [Value.ownBlock] at hk), Below.refl _ _⟩
 case round =>
  obtain ⟨k, hk, rfl, rfl, hR, hn, hbr⟩ := hrel
  have HR := Lib.hid hR; clear hR
  by_cases hlt : k < 16
  ·have l0 : 4 * k < s.size := by rw [Hs.out]; omega
   have l1 : 4 * k + 1 < s.size := by rw [Hs.out]; omega
   have l2 : 4 * k + 2 < s.size := by rw [Hs.out]; omega
   have l3 : 4 * k + 3 < s.size := by rw [Hs.out]; omega
   obtain ⟨x0, e0⟩ : ∃ x, s[4 * k]'l0 = x := ⟨_, rfl⟩
   obtain ⟨x1, e1⟩ : ∃ x, s[4 * k + 1]'l1 = x := ⟨_, rfl⟩
   obtain ⟨x2, e2⟩ : ∃ x, s[4 * k + 2]'l2 = x := ⟨_, rfl⟩
   obtain ⟨x3, e3⟩ : ∃ x, s[4 * k + 3]'l3 = x := ⟨_, rfl⟩
   obtain ⟨A1, A2, A3, A4, A5, c0, c1, c2, c3, a1, a2, a3, a4, a5, a6⟩ := be_ints x0 x1 x2 x3
   have Hwd : Hid (wordAt s.data.toList k = be x0 x1 x2 x3) := by
    show _ = _
    unfold wordAt
    rw [getD_str s _ l0, getD_str s _ l1, getD_str s _ l2, getD_str s _ l3, e0, e1, e2, e3]
   obtain ⟨B, hB⟩ : ∃ B, be x0 x1 x2 x3 = B := ⟨_, rfl⟩
   rw [hB] at a6 Hwd
   clear hB
   have b0 : 4 * (k : Int) < (s.size : Int) := by omega
   have b1 : 4 * (k : Int) + 1 < (s.size : Int) := by omega
   have b2 : 4 * (k : Int) + 2 < (s.size : Int) := by omega
   have b3 : 4 * (k : Int) + 3 < (s.size : Int) := by omega
   have n0 : IntKind.i64.wrap (4 * (k : Int)) = 4 * (k : Int) := IntWalk.i64_in _ (by omega)
   have n1 : IntKind.i64.wrap (4 * (k : Int) + 1) = 4 * (k : Int) + 1 := IntWalk.i64_in _ (by omega)
   have n2 : IntKind.i64.wrap (4 * (k : Int) + 2) = 4 * (k : Int) + 2 := IntWalk.i64_in _ (by omega)
   have n3 : IntKind.i64.wrap (4 * (k : Int) + 3) = 4 * (k : Int) + 3 := IntWalk.i64_in _ (by omega)
   have m0 : (4 * (k : Int)).toNat = 4 * k := by omega
   have m1 : (4 * (k : Int) + 1).toNat = 4 * k + 1 := by omega
   have m2 : (4 * (k : Int) + 2).toNat = 4 * k + 2 := by omega
   have m3 : (4 * (k : Int) + 3).toNat = 4 * k + 3 := by omega
   have p0 : (0 : Int) ≤ 4 * (k : Int) := by omega
   have p1 : (0 : Int) ≤ 4 * (k : Int) + 1 := by omega
   have p2 : (0 : Int) ≤ 4 * (k : Int) + 2 := by omega
   have p3 : (0 : Int) ≤ 4 * (k : Int) + 3 := by omega
   go_wp2_with fail
   refine wp_region_ord (fun _ => True) [true, true, true, true, true, true, true, true, true, true, true, true, true, true, true, true, true, true, true, true, true, true, true, true, true, true, true, true, true, true, false, false, true] (by kernel_rfl) (by kernel_rfl) (fun c a d v w h => by cases d <;> exact h) trivial ?_
   refine wpOrd_yes ?_ rfl (fun W _ => ?_) ?_
   rotate_left
   ·go_simp; with_reducible rfl
   simp only [Act.put, List.setIfInBounds_toArray, List.set_cons_zero, List.set_cons_succ]
   refine wpOrd_yes ?_ rfl (fun W _ => ?_) ?_
   rotate_left
   ·go_simp; with_reducible rfl
   simp only [Act.put, List.setIfInBounds_toArray, List.set_cons_zero, List.set_cons_succ]
   refine wpOrd_yes ?_ rfl (fun W _ => ?_) ?_
   rotate_left
   ·go_simp; with_reducible rfl
   simp only [Act.put, List.setIfInBounds_toArray, List.set_cons_zero, List.set_cons_succ]
   refine wpOrd_yes ?_ rfl (fun W _ => ?_) ?_
   rotate_left
   ·go_simp; with_reducible rfl
   simp only [Act.put, List.setIfInBounds_toArray, List.set_cons_zero, List.set_cons_succ]
   refine wpOrd_yes ?_ rfl (fun W _ => ?_) ?_
   rotate_left
   ·go_simp; with_reducible rfl
   simp only [Act.put, List.setIfInBounds_toArray, List.set_cons_zero, List.set_cons_succ]
   refine wpOrd_yes ?_ rfl (fun W _ => ?_) ?_
   rotate_left
   ·go_simp; with_reducible rfl
   simp only [Act.put, List.setIfInBounds_toArray, List.set_cons_zero, List.set_cons_succ]
   refine wpOrd_yes ?_ rfl (fun W _ => ?_) ?_
   rotate_left
   ·go_simp; with_reducible rfl
   simp only [Act.put, List.setIfInBounds_toArray, List.set_cons_zero, List.set_cons_succ]
   refine wpOrd_yes ?_ rfl (fun W _ => ?_) ?_
   rotate_left
   ·go_simp; with_reducible rfl
   simp only [Act.put, List.setIfInBounds_toArray, List.set_cons_zero, List.set_cons_succ]
   refine wpOrd_yes ?_ rfl (fun W _ => ?_) ?_
   rotate_left
   ·go_simp; with_reducible rfl
   simp only [Act.put, List.setIfInBounds_toArray, List.set_cons_zero, List.set_cons_succ]
   refine wpOrd_yes ?_ rfl (fun W _ => ?_) ?_
   rotate_left
   ·go_simp; with_reducible rfl
   simp only [Act.put, List.setIfInBounds_toArray, List.set_cons_zero, List.set_cons_succ]
   refine wpOrd_yes ?_ rfl (fun W _ => ?_) ?_
   rotate_left
   ·go_simp; with_reducible rfl
   simp only [Act.put, List.setIfInBounds_toArray, List.set_cons_zero, List.set_cons_succ]
   refine wpOrd_yes ?_ rfl (fun W _ => ?_) ?_
   rotate_left
   ·go_simp; with_reducible rfl
   simp only [Act.put, List.setIfInBounds_toArray, List.set_cons_zero, List.set_cons_succ]
   refine wpOrd_yes ?_ rfl (fun W _ => ?_) ?_
   rotate_left
   ·go_simp; with_reducible rfl
   simp only [Act.put, List.setIfInBounds_toArray, List.set_cons_zero, List.set_cons_succ]
   refine wpOrd_yes ?_ rfl (fun W _ => ?_) ?_
   rotate_left
   ·go_simp; with_reducible rfl
   simp only [Act.put, List.setIfInBounds_toArray, List.set_cons_zero, List.set_cons_succ]
   refine wpOrd_yes ?_ rfl (fun W _ => ?_) ?_
   rotate_left
   ·go_simp; with_reducible rfl
   simp only [Act.put, List.setIfInBounds_toArray, List.set_cons_zero, List.set_cons_succ]
   refine wpOrd_yes ?_ rfl (fun W _ => ?_) ?_
   rotate_left
   ·go_simp; with_reducible rfl
   simp only [Act.put, List.setIfInBounds_toArray, List.set_cons_zero, List.set_cons_succ]
   refine wpOrd_yes ?_ rfl (fun W _ => ?_) ?_
   rotate_left
   ·go_simp; with_reducible rfl
   simp only [Act.put, List.setIfInBounds_toArray, List.set_cons_zero, List.set_cons_succ]
   refine wpOrd_yes ?_ rfl (fun W _ => ?_) ?_
   rotate_left
   ·go_simp; with_reducible rfl
   simp only [Act.put, List.setIfInBounds_toArray, List.set_cons_zero, List.set_cons_succ]
   refine wpOrd_yes ?_ rfl (fun W _ => ?_) ?_
   rotate_left
   ·go_simp; with_reducible rfl
   simp only [Act.put, List.setIfInBounds_toArray, List.set_cons_zero, List.set_cons_succ]
   refine wpOrd_yes ?_ rfl (fun W _ => ?_) ?_
   rotate_left
   ·go_simp; with_reducible rfl
   simp only [Act.put, List.setIfInBounds_toArray, List.set_cons_zero, List.set_cons_succ]
   refine wpOrd_yes ?_ rfl (fun W _ => ?_) ?_
   rotate_left
   ·go_simp; with_reducible rfl
   simp only [Act.put, List.setIfInBounds_toArray, List.set_cons_zero, List.set_cons_succ]
   refine wpOrd_yes ?_ rfl (fun W _ => ?_) ?_
   rotate_left
   ·go_simp; with_reducible rfl
   simp only [Act.put, List.setIfInBounds_toArray, List.set_cons_zero, List.set_cons_succ]
   refine wpOrd_yes ?_ rfl (fun W _ => ?_) ?_
   rotate_left
   ·go_simp; with_reducible rfl
   simp only [Act.put, List.setIfInBounds_toArray, List.set_cons_zero, List.set_cons_succ]
   refine wpOrd_yes ?_ rfl (fun W _ => ?_) ?_
   rotate_left
   ·go_simp; with_reducible rfl
   simp only [Act.put, List.setIfInBounds_toArray, List.set_cons_zero, List.set_cons_succ]
   refine wpOrd_yes ?_ rfl (fun W _ => ?_) ?_
   rotate_left
   ·go_simp; with_reducible rfl
   simp only [Act.put, List.setIfInBounds_toArray, List.set_cons_zero, List.set_cons_succ]
   refine wpOrd_yes ?_ rfl (fun W _ => ?_) ?_
   rotate_left
   ·go_simp; with_reducible rfl
   simp only [Act.put, List.setIfInBounds_toArray, List.set_cons_zero, List.set_cons_succ]
   refine wpOrd_yes ?_ rfl (fun W _ => ?_) ?_
   rotate_left
   ·go_simp; with_reducible rfl
   simp only [Act.put, List.setIfInBounds_toArray, List.set_cons_zero, List.set_cons_succ]
   refine wpOrd_yes ?_ rfl (fun W _ => ?_) ?_
   rotate_left
   ·go_simp; with_reducible rfl
   simp only [Act.put, List.setIfInBounds_toArray, List.set_cons_zero, List.set_cons_succ]
   refine wpOrd_yes ?_ rfl (fun W _ => ?_) ?_
   rotate_left
   ·go_simp; with_reducible rfl
   simp only [Act.put, List.setIfInBounds_toArray, List.set_cons_zero, List.set_cons_succ]
   refine wpOrd_yes ?_ rfl (fun W _ => ?_) ?_
   rotate_left
   ·go_simp; with_reducible rfl
   simp only [Act.put, List.setIfInBounds_toArray, List.set_cons_zero, List.set_cons_succ]
   clear e0 e1 e2 e3 l0 l1 l2 l3 b0 b1 b2 b3 n0 n1 n2 n3 m0 m1 m2 m3 p0 p1 p2 p3 c0 c1 c2 c3 a1 a2 a3 a4 a5 a6
   have hwl := wordsTo_length' s.data.toList k
   refine wpOrd_run _ _ rfl (by go_simp; exact ⟨rfl, rfl⟩) trivial ?_
   simp only [Act.put, List.setIfInBounds_toArray, List.set_cons_zero, List.set_cons_succ]
   refine wpOrd_alone rfl fun K hK => wp_append_row _ (.tmp 27) (.tmp 57) 39 39 rfl 3 i1 _ 1 8 Tryz.underlying39 hi1 hz3 hz4 hz5 rfl (by omega) _ (wordsTo s.data.toList k).length ((wordsTo s.data.toList k).map iw) rfl (HR.out.alloc _).drew (.slice (some ⟨wr.heap.size, 0, none⟩) 1 1) 1 [iw B] rfl (Row.src (Row.new wr 3 1 1 #[iw B] (by simp [maxLen]) rfl).drew Tryz.underlying39 (iw_one [B])) (by simp only [maxLen]; omega) (by omega) ?_
   intro v5 w5 hR5 hC5 hv5
   refine hK _ _ trivial ?_
   simp only [Act.put, List.setIfInBounds_toArray, List.set_cons_zero, List.set_cons_succ]
   refine wpOrd_yes ?_ rfl (fun W _ => ?_) ?_
   rotate_left
   ·go_simp; with_reducible rfl
   simp only [Act.put, List.setIfInBounds_toArray, List.set_cons_zero, List.set_cons_succ]
   refine wpOrd_nil ?_
   go_wp2_with fail
   go_roundg (16 - (k + 1))
   case measure => omega
   case rel =>
    refine ⟨k + 1, by omega, rfl, by go_num, ?_⟩
    exact ints_more hn hbr hR5 hC5 hv5 (by rw [wordsTo, Hwd.out])
  ·obtain rfl : k = 16 := by omega
   have hdec : decide ((16 : Int) < 16) = false := by simp
   go_wp2_with fail
   clear hdec
   go_loopg [7, 9] 48 (fun m vo i wr => ∃ (k T : Nat), k ≤ 48 ∧ T = 16 + k ∧ m = 48 - k ∧ i = .int .i64 T ∧ IntsAt w wr vo (extTo (wordsTo s.data.toList 16) k))
   case atStart => exact ⟨0, 16, by omega, rfl, rfl, rfl, HR.out, hn, hbr⟩
   case round =>
    clear HR hn hbr
    obtain ⟨k, T, hk, hT, rfl, rfl, hR, hn, hbr⟩ := hrel
    have hlen := extTo_length' (wordsTo s.data.toList 16) k
    rw [wordsTo_length', ← hT] at hlen
    by_cases hlt : k < 48
    ·have Hx : Hid (extTo (wordsTo s.data.toList 16) (k + 1) = extTo (wordsTo s.data.toList 16) k ++ [ext (extTo (wordsTo s.data.toList 16) k) T]) := by
      show _ = _
      rw [extTo, hT]
     generalize extTo (wordsTo s.data.toList 16) k = L at *
     have HR := Lib.hid hR
     rw [hlen] at hR
     obtain ⟨g, o, cap, rfl, hob, hc1, hc2, hcl, hfr⟩ := hR.form (by omega)
     unfold maxLen at hc2
     have cell : ∀ j, j < T → wr.cell? ⟨g, o + j, none⟩ = some (.int .i64 (L.getD j 0).toNat) := fun j hj => hcl j _ (by rw [List.getElem?_map, List.getElem?_eq_getElem (by omega)]; simp [List.getD, List.getElem?_eq_getElem (show j < L.length by omega)]; rfl)
     have c15 := cell (T - 15) (by omega)
     have c2 := cell (T - 2) (by omega)
     have c7 := cell (T - 7) (by omega)
     have c16 := cell (T - 16) (by omega)
     have K7 := Lib.hid (iw_at L (T - 7) (by omega))
     have K16 := Lib.hid (iw_at L (T - 16) (by omega))
     have Hext : Hid (ext L T = s1 (L.getD (T - 2) 0) + L.getD (T - 7) 0 + s0 (L.getD (T - 15) 0) + L.getD (T - 16) 0) := rfl
     have hlL : L.length < 100 := by omega
     have HlL := Lib.hid hlen
     have HT := Lib.hid hT
     clear hcl hfr cell hob hR hlen hT
     generalize L.getD (T - 15) 0 = y15 at *
     generalize L.getD (T - 2) 0 = y2 at *
     generalize L.getD (T - 7) 0 = y7 at *
     generalize L.getD (T - 16) 0 = y16 at *
     have t1 : 16 ≤ T := by rw [HT.out]; omega
     have t2 : T < 64 := by rw [HT.out]; omega
     have n15 : IntKind.i64.wrap ((T : Int) - 15) = (T : Int) - 15 := IntWalk.i64_in _ (by omega)
     have m15 : ((T : Int) - 15).toNat = T - 15 := by omega
     have p15 : (15 : Int) ≤ (T : Int) := by omega
     have q15 : (T : Int) - 15 < (T : Int) := by omega
     have n2 : IntKind.i64.wrap ((T : Int) - 2) = (T : Int) - 2 := IntWalk.i64_in _ (by omega)
     have m2 : ((T : Int) - 2).toNat = T - 2 := by omega
     have p2 : (2 : Int) ≤ (T : Int) := by omega
     have q2 : (T : Int) - 2 < (T : Int) := by omega
     have n7 : IntKind.i64.wrap ((T : Int) - 7) = (T : Int) - 7 := IntWalk.i64_in _ (by omega)
     have m7 : ((T : Int) - 7).toNat = T - 7 := by omega
     have p7 : (7 : Int) ≤ (T : Int) := by omega
     have q7 : (T : Int) - 7 < (T : Int) := by omega
     have n16 : IntKind.i64.wrap ((T : Int) - 16) = (T : Int) - 16 := IntWalk.i64_in _ (by omega)
     have m16 : ((T : Int) - 16).toNat = T - 16 := by omega
     have p16 : (16 : Int) ≤ (T : Int) := by omega
     have q16 : (T : Int) - 16 < (T : Int) := by omega
     obtain ⟨r7, Hr7⟩ : ∃ r, Hid (rotr y15 (UInt32.ofNat 7) = r) := ⟨_, rfl⟩
     obtain ⟨r18, Hr18⟩ : ∃ r, Hid (rotr y15 (UInt32.ofNat 18) = r) := ⟨_, rfl⟩
     obtain ⟨v3, Hv3⟩ : ∃ r, Hid (y15 >>> (UInt32.ofNat 3) = r) := ⟨_, rfl⟩
     obtain ⟨r17, Hr17⟩ : ∃ r, Hid (rotr y2 (UInt32.ofNat 17) = r) := ⟨_, rfl⟩
     obtain ⟨r19, Hr19⟩ : ∃ r, Hid (rotr y2 (UInt32.ofNat 19) = r) := ⟨_, rfl⟩
     obtain ⟨v10, Hv10⟩ : ∃ r, Hid (y2 >>> (UInt32.ofNat 10) = r) := ⟨_, rfl⟩
     have x1 := xor_i64 r7 r18
     obtain ⟨za, Hza⟩ : ∃ z, Hid (r7 ^^^ r18 = z) := ⟨_, rfl⟩
     rw [Hza.out] at x1
     have x2 := xor_i64 za v3
     have x3 := xor_i64 r17 r19
     obtain ⟨zb, Hzb⟩ : ∃ z, Hid (r17 ^^^ r19 = z) := ⟨_, rfl⟩
     rw [Hzb.out] at x3
     have x4 := xor_i64 zb v10
     have Hs0 : Hid (za ^^^ v3 = s0 y15) := by show _ = _; rw [← Hza.out, ← Hr7.out, ← Hr18.out, ← Hv3.out]; rfl
     have Hs1 : Hid (zb ^^^ v10 = s1 y2) := by show _ = _; rw [← Hzb.out, ← Hr17.out, ← Hr19.out, ← Hv10.out]; rfl
     rw [Hs0.out] at x2
     rw [Hs1.out] at x4
     clear Hs0 Hs1 Hza Hzb
     generalize s0 y15 = S0 at *
     generalize s1 y2 = S1 at *
     obtain ⟨D1, D2, D3, f1, f2, f3, f4⟩ := sum4 S1 y7 S0 y16
     obtain ⟨E, HE⟩ : ∃ E, Hid (S1 + y7 + S0 + y16 = E) := ⟨_, rfl⟩
     rw [HE.out] at f4 Hext
     clear HE
     go_wp2_with fail
     refine wp_region_perm (fun W => W = wr.drew) [0, 1, 2, 3, 4, 6, 7, 8, 9, 10, 13, 14, 15, 16, 17, 5, 11, 12, 18, 19, 20] [true, true, true, true, true, true, true, true, true, true, true, true, true, true, true, false, false, true, false, true, true] (by kernel_rfl) (by kernel_rfl) (fun c a d v w h => by cases d <;> exact h) rfl ?_
     simp only [permute, List.getD_cons_zero, List.getD_cons_succ]
     refine wpOrd_yes ?_ rfl (fun W hW => ?_) ?_
     rotate_left
     ·subst hW; go_simp; with_reducible rfl
     simp only [Act.put, List.setIfInBounds_toArray, List.set_cons_zero, List.set_cons_succ]
     refine wpOrd_yes ?_ rfl (fun W hW => ?_) ?_
     rotate_left
     ·subst hW; go_simp; with_reducible rfl
     simp only [Act.put, List.setIfInBounds_toArray, List.set_cons_zero, List.set_cons_succ]
     refine wpOrd_yes ?_ rfl (fun W hW => ?_) ?_
     rotate_left
     ·subst hW; go_simp; with_reducible rfl
     simp only [Act.put, List.setIfInBounds_toArray, List.set_cons_zero, List.set_cons_succ]
     refine wpOrd_yes ?_ rfl (fun W hW => ?_) ?_
     rotate_left
     ·subst hW; go_simp; with_reducible rfl
     simp only [Act.put, List.setIfInBounds_toArray, List.set_cons_zero, List.set_cons_succ]
     refine wpOrd_yes ?_ rfl (fun W hW => ?_) ?_
     rotate_left
     ·subst hW; go_simp; with_reducible rfl
     simp only [Act.put, List.setIfInBounds_toArray, List.set_cons_zero, List.set_cons_succ]
     refine wpOrd_yes ?_ rfl (fun W hW => ?_) ?_
     rotate_left
     ·subst hW; go_simp; with_reducible rfl
     simp only [Act.put, List.setIfInBounds_toArray, List.set_cons_zero, List.set_cons_succ]
     refine wpOrd_yes ?_ rfl (fun W hW => ?_) ?_
     rotate_left
     ·subst hW; go_simp; with_reducible rfl
     simp only [Act.put, List.setIfInBounds_toArray, List.set_cons_zero, List.set_cons_succ]
     refine wpOrd_yes ?_ rfl (fun W hW => ?_) ?_
     rotate_left
     ·subst hW; go_simp; with_reducible rfl
     simp only [Act.put, List.setIfInBounds_toArray, List.set_cons_zero, List.set_cons_succ]
     refine wpOrd_yes ?_ rfl (fun W hW => ?_) ?_
     rotate_left
     ·subst hW; go_simp; with_reducible rfl
     simp only [Act.put, List.setIfInBounds_toArray, List.set_cons_zero, List.set_cons_succ]
     refine wpOrd_yes ?_ rfl (fun W hW => ?_) ?_
     rotate_left
     ·subst hW; go_simp; with_reducible rfl
     simp only [Act.put, List.setIfInBounds_toArray, List.set_cons_zero, List.set_cons_succ]
     refine wpOrd_yes ?_ rfl (fun W hW => ?_) ?_
     rotate_left
     ·subst hW; go_simp; with_reducible rfl
     simp only [Act.put, List.setIfInBounds_toArray, List.set_cons_zero, List.set_cons_succ]
     refine wpOrd_yes ?_ rfl (fun W hW => ?_) ?_
     rotate_left
     ·subst hW; go_simp; with_reducible rfl
     simp only [Act.put, List.setIfInBounds_toArray, List.set_cons_zero, List.set_cons_succ]
     refine wpOrd_yes ?_ rfl (fun W hW => ?_) ?_
     rotate_left
     ·subst hW; go_simp; with_reducible rfl
     simp only [Act.put, List.setIfInBounds_toArray, List.set_cons_zero, List.set_cons_succ]
     refine wpOrd_yes ?_ rfl (fun W hW => ?_) ?_
     rotate_left
     ·subst hW; go_simp; with_reducible rfl
     simp only [Act.put, List.setIfInBounds_toArray, List.set_cons_zero, List.set_cons_succ]
     refine wpOrd_yes ?_ rfl (fun W hW => ?_) ?_
     rotate_left
     ·subst hW; go_simp; with_reducible rfl
     simp only [Act.put, List.setIfInBounds_toArray, List.set_cons_zero, List.set_cons_succ]
     refine wpOrd_call 171 [.tmp 67, .const (.int .i64 7)] #[3, 3] [.int .i64 y15.toNat, .int .i64 7] rfl rfl Tryz.func171 rfl (by kernel_rfl) rfl ((ref_rot y15 7 7 r7 _ rfl (by omega) (by omega) Hr7.out).mono ?_)
     rintro e w' ⟨rfl, rfl⟩
     refine ⟨_, rfl, rfl, ?_⟩
     simp only [Act.put, List.setIfInBounds_toArray, List.set_cons_zero, List.set_cons_succ]
     refine wpOrd_call 171 [.tmp 73, .const (.int .i64 18)] #[3, 3] [.int .i64 y15.toNat, .int .i64 18] rfl rfl Tryz.func171 rfl (by kernel_rfl) rfl ((ref_rot y15 18 18 r18 _ rfl (by omega) (by omega) Hr18.out).mono ?_)
     rintro e w' ⟨rfl, rfl⟩
     refine ⟨_, rfl, rfl, ?_⟩
     simp only [Act.put, List.setIfInBounds_toArray, List.set_cons_zero, List.set_cons_succ]
     refine wpOrd_yes ?_ rfl (fun W hW => ?_) ?_
     rotate_left
     ·subst hW; go_simp; with_reducible rfl
     simp only [Act.put, List.setIfInBounds_toArray, List.set_cons_zero, List.set_cons_succ]
     refine wpOrd_call 172 [.tmp 80, .const (.int .i64 3)] #[3, 3] [.int .i64 y15.toNat, .int .i64 3] rfl rfl Tryz.func172 rfl (by kernel_rfl) rfl ((ref_mov y15 3 3 v3 _ rfl (by omega) Hv3.out).mono ?_)
     rintro e w' ⟨rfl, rfl⟩
     refine ⟨_, rfl, rfl, ?_⟩
     simp only [Act.put, List.setIfInBounds_toArray, List.set_cons_zero, List.set_cons_succ]
     refine wpOrd_yes ?_ rfl (fun W hW => ?_) ?_
     rotate_left
     ·subst hW; go_simp; with_reducible rfl
     simp only [Act.put, List.setIfInBounds_toArray, List.set_cons_zero, List.set_cons_succ]
     refine wpOrd_yes ?_ rfl (fun W hW => ?_) ?_
     rotate_left
     ·subst hW; go_simp; with_reducible rfl
     simp only [Act.put, List.setIfInBounds_toArray, List.set_cons_zero, List.set_cons_succ]
     refine wpOrd_nil ?_
     clear Hr7 Hr18 Hv3 x1 x2 c15 n15 m15 p15 q15
     go_wp2_with fail
     refine wp_region_perm (fun W => W = wr.drew.drew) [0, 1, 2, 3, 4, 6, 7, 8, 9, 10, 13, 14, 15, 16, 17, 5, 11, 12, 18, 19, 20] [true, true, true, true, true, true, true, true, true, true, true, true, true, true, true, false, false, true, false, true, true] (by kernel_rfl) (by kernel_rfl) (fun c a d v w h => by cases d <;> exact h) rfl ?_
     simp only [permute, List.getD_cons_zero, List.getD_cons_succ]
     refine wpOrd_yes ?_ rfl (fun W hW => ?_) ?_
     rotate_left
     ·subst hW; go_simp; with_reducible rfl
     simp only [Act.put, List.setIfInBounds_toArray, List.set_cons_zero, List.set_cons_succ]
     refine wpOrd_yes ?_ rfl (fun W hW => ?_) ?_
     rotate_left
     ·subst hW; go_simp; with_reducible rfl
     simp only [Act.put, List.setIfInBounds_toArray, List.set_cons_zero, List.set_cons_succ]
     refine wpOrd_yes ?_ rfl (fun W hW => ?_) ?_
     rotate_left
     ·subst hW; go_simp; with_reducible rfl
     simp only [Act.put, List.setIfInBounds_toArray, List.set_cons_zero, List.set_cons_succ]
     refine wpOrd_yes ?_ rfl (fun W hW => ?_) ?_
     rotate_left
     ·subst hW; go_simp; with_reducible rfl
     simp only [Act.put, List.setIfInBounds_toArray, List.set_cons_zero, List.set_cons_succ]
     refine wpOrd_yes ?_ rfl (fun W hW => ?_) ?_
     rotate_left
     ·subst hW; go_simp; with_reducible rfl
     simp only [Act.put, List.setIfInBounds_toArray, List.set_cons_zero, List.set_cons_succ]
     refine wpOrd_yes ?_ rfl (fun W hW => ?_) ?_
     rotate_left
     ·subst hW; go_simp; with_reducible rfl
     simp only [Act.put, List.setIfInBounds_toArray, List.set_cons_zero, List.set_cons_succ]
     refine wpOrd_yes ?_ rfl (fun W hW => ?_) ?_
     rotate_left
     ·subst hW; go_simp; with_reducible rfl
     simp only [Act.put, List.setIfInBounds_toArray, List.set_cons_zero, List.set_cons_succ]
     refine wpOrd_yes ?_ rfl (fun W hW => ?_) ?_
     rotate_left
     ·subst hW; go_simp; with_reducible rfl
     simp only [Act.put, List.setIfInBounds_toArray, List.set_cons_zero, List.set_cons_succ]
     refine wpOrd_yes ?_ rfl (fun W hW => ?_) ?_
     rotate_left
     ·subst hW; go_simp; with_reducible rfl
     simp only [Act.put, List.setIfInBounds_toArray, List.set_cons_zero, List.set_cons_succ]
     refine wpOrd_yes ?_ rfl (fun W hW => ?_) ?_
     rotate_left
     ·subst hW; go_simp; with_reducible rfl
     simp only [Act.put, List.setIfInBounds_toArray, List.set_cons_zero, List.set_cons_succ]
     refine wpOrd_yes ?_ rfl (fun W hW => ?_) ?_
     rotate_left
     ·subst hW; go_simp; with_reducible rfl
     simp only [Act.put, List.setIfInBounds_toArray, List.set_cons_zero, List.set_cons_succ]
     refine wpOrd_yes ?_ rfl (fun W hW => ?_) ?_
     rotate_left
     ·subst hW; go_simp; with_reducible rfl
     simp only [Act.put, List.setIfInBounds_toArray, List.set_cons_zero, List.set_cons_succ]
     refine wpOrd_yes ?_ rfl (fun W hW => ?_) ?_
     rotate_left
     ·subst hW; go_simp; with_reducible rfl
     simp only [Act.put, List.setIfInBounds_toArray, List.set_cons_zero, List.set_cons_succ]
     refine wpOrd_yes ?_ rfl (fun W hW => ?_) ?_
     rotate_left
     ·subst hW; go_simp; with_reducible rfl
     simp only [Act.put, List.setIfInBounds_toArray, List.set_cons_zero, List.set_cons_succ]
     refine wpOrd_yes ?_ rfl (fun W hW => ?_) ?_
     rotate_left
     ·subst hW; go_simp; with_reducible rfl
     simp only [Act.put, List.setIfInBounds_toArray, List.set_cons_zero, List.set_cons_succ]
     refine wpOrd_call 171 [.tmp 87, .const (.int .i64 17)] #[3, 3] [.int .i64 y2.toNat, .int .i64 17] rfl rfl Tryz.func171 rfl (by kernel_rfl) rfl ((ref_rot y2 17 17 r17 _ rfl (by omega) (by omega) Hr17.out).mono ?_)
     rintro e w' ⟨rfl, rfl⟩
     refine ⟨_, rfl, rfl, ?_⟩
     simp only [Act.put, List.setIfInBounds_toArray, List.set_cons_zero, List.set_cons_succ]
     refine wpOrd_call 171 [.tmp 93, .const (.int .i64 19)] #[3, 3] [.int .i64 y2.toNat, .int .i64 19] rfl rfl Tryz.func171 rfl (by kernel_rfl) rfl ((ref_rot y2 19 19 r19 _ rfl (by omega) (by omega) Hr19.out).mono ?_)
     rintro e w' ⟨rfl, rfl⟩
     refine ⟨_, rfl, rfl, ?_⟩
     simp only [Act.put, List.setIfInBounds_toArray, List.set_cons_zero, List.set_cons_succ]
     refine wpOrd_yes ?_ rfl (fun W hW => ?_) ?_
     rotate_left
     ·subst hW; go_simp; with_reducible rfl
     simp only [Act.put, List.setIfInBounds_toArray, List.set_cons_zero, List.set_cons_succ]
     refine wpOrd_call 172 [.tmp 100, .const (.int .i64 10)] #[3, 3] [.int .i64 y2.toNat, .int .i64 10] rfl rfl Tryz.func172 rfl (by kernel_rfl) rfl ((ref_mov y2 10 10 v10 _ rfl (by omega) Hv10.out).mono ?_)
     rintro e w' ⟨rfl, rfl⟩
     refine ⟨_, rfl, rfl, ?_⟩
     simp only [Act.put, List.setIfInBounds_toArray, List.set_cons_zero, List.set_cons_succ]
     refine wpOrd_yes ?_ rfl (fun W hW => ?_) ?_
     rotate_left
     ·subst hW; go_simp; with_reducible rfl
     simp only [Act.put, List.setIfInBounds_toArray, List.set_cons_zero, List.set_cons_succ]
     refine wpOrd_yes ?_ rfl (fun W hW => ?_) ?_
     rotate_left
     ·subst hW; go_simp; with_reducible rfl
     simp only [Act.put, List.setIfInBounds_toArray, List.set_cons_zero, List.set_cons_succ]
     refine wpOrd_nil ?_
     clear Hr17 Hr19 Hv10 x3 x4 c2 n2 m2 p2 q2
     go_wp2_with fail
     have HR3 : Hid (Row wr.drew.drew 3 1 (.slice (some ⟨g, o, none⟩) T cap) T (L.map iw)) := by
      have := HR.out.drew.drew
      rw [HlL.out] at this
      exact this
     clear c7 c16
     generalize hw2 : wr.drew.drew = w2 at *
     refine wp_region_ord (fun W => Row W 3 1 (.slice (some ⟨g, o, none⟩) T cap) T (L.map iw)) [true, true, true, true, true, true, true, true, true, true, true, true, true, true, true, true, true, false, false, true] (by kernel_rfl) (by kernel_rfl) (fun c a d v w h => by cases d <;> exact h) HR3.out.drew ?_
     refine wpOrd_yes ?_ rfl (fun W _ => ?_) ?_
     rotate_left
     ·go_simp; with_reducible rfl
     simp only [Act.put, List.setIfInBounds_toArray, List.set_cons_zero, List.set_cons_succ]
     refine wpOrd_yes ?_ rfl (fun W _ => ?_) ?_
     rotate_left
     ·go_simp; with_reducible rfl
     simp only [Act.put, List.setIfInBounds_toArray, List.set_cons_zero, List.set_cons_succ]
     refine wpOrd_yes ?_ rfl (fun W _ => ?_) ?_
     rotate_left
     ·go_simp; with_reducible rfl
     simp only [Act.put, List.setIfInBounds_toArray, List.set_cons_zero, List.set_cons_succ]
     refine wpOrd_yes ?_ rfl (fun W _ => ?_) ?_
     rotate_left
     ·go_simp; with_reducible rfl
     simp only [Act.put, List.setIfInBounds_toArray, List.set_cons_zero, List.set_cons_succ]
     refine wpOrd_yes ?_ rfl (fun W _ => ?_) ?_
     rotate_left
     ·go_simp; with_reducible rfl
     simp only [Act.put, List.setIfInBounds_toArray, List.set_cons_zero, List.set_cons_succ]
     refine wpOrd_yes ?_ rfl (fun W _ => ?_) ?_
     rotate_left
     ·go_simp; with_reducible rfl
     simp only [Act.put, List.setIfInBounds_toArray, List.set_cons_zero, List.set_cons_succ]
     refine wpOrd_yes ?_ rfl (fun W hW => ?_) ?_
     rotate_left
     ·have hc := hW.at_ K7.out
      go_simp; with_reducible rfl
     simp only [Act.put, List.setIfInBounds_toArray, List.set_cons_zero, List.set_cons_succ]
     refine wpOrd_yes ?_ rfl (fun W _ => ?_) ?_
     rotate_left
     ·go_simp; with_reducible rfl
     simp only [Act.put, List.setIfInBounds_toArray, List.set_cons_zero, List.set_cons_succ]
     refine wpOrd_yes ?_ rfl (fun W _ => ?_) ?_
     rotate_left
     ·go_simp; with_reducible rfl
     simp only [Act.put, List.setIfInBounds_toArray, List.set_cons_zero, List.set_cons_succ]
     refine wpOrd_yes ?_ rfl (fun W _ => ?_) ?_
     rotate_left
     ·go_simp; with_reducible rfl
     simp only [Act.put, List.setIfInBounds_toArray, List.set_cons_zero, List.set_cons_succ]
     refine wpOrd_yes ?_ rfl (fun W _ => ?_) ?_
     rotate_left
     ·go_simp; with_reducible rfl
     simp only [Act.put, List.setIfInBounds_toArray, List.set_cons_zero, List.set_cons_succ]
     refine wpOrd_yes ?_ rfl (fun W _ => ?_) ?_
     rotate_left
     ·go_simp; with_reducible rfl
     simp only [Act.put, List.setIfInBounds_toArray, List.set_cons_zero, List.set_cons_succ]
     refine wpOrd_yes ?_ rfl (fun W _ => ?_) ?_
     rotate_left
     ·go_simp; with_reducible rfl
     simp only [Act.put, List.setIfInBounds_toArray, List.set_cons_zero, List.set_cons_succ]
     refine wpOrd_yes ?_ rfl (fun W _ => ?_) ?_
     rotate_left
     ·go_simp; with_reducible rfl
     simp only [Act.put, List.setIfInBounds_toArray, List.set_cons_zero, List.set_cons_succ]
     refine wpOrd_yes ?_ rfl (fun W hW => ?_) ?_
     rotate_left
     ·have hc := hW.at_ K16.out
      go_simp; with_reducible rfl
     simp only [Act.put, List.setIfInBounds_toArray, List.set_cons_zero, List.set_cons_succ]
     refine wpOrd_yes ?_ rfl (fun W _ => ?_) ?_
     rotate_left
     ·go_simp; with_reducible rfl
     simp only [Act.put, List.setIfInBounds_toArray, List.set_cons_zero, List.set_cons_succ]
     refine wpOrd_yes ?_ rfl (fun W _ => ?_) ?_
     rotate_left
     ·go_simp; with_reducible rfl
     simp only [Act.put, List.setIfInBounds_toArray, List.set_cons_zero, List.set_cons_succ]
     refine wpOrd_run _ _ rfl (by go_simp; exact ⟨rfl, rfl⟩) (HR3.out.alloc _).drew ?_
     simp only [Act.put, List.setIfInBounds_toArray, List.set_cons_zero, List.set_cons_succ]
     refine wpOrd_alone rfl fun K hK => wp_append_row2 _ (.tmp 103) (.tmp 120) 39 39 rfl 3 i1 _ 1 8 Tryz.underlying39 hi1 hz3 hz4 hz5 rfl (by omega) _ T (L.map iw) rfl (HR3.out.alloc _).drew (.slice (some ⟨w2.heap.size, 0, none⟩) 1 1) 1 [iw E] rfl (Row.src (Row.new w2 3 1 1 #[iw E] (by simp [maxLen]) rfl).drew Tryz.underlying39 (iw_one [E])) (by simp only [maxLen]; omega) (by omega) ?_
     intro v5 w5 hR5 hC5 hv5 hR6
     refine hK _ _ hR6 ?_
     clear hR6
     simp only [Act.put, List.setIfInBounds_toArray, List.set_cons_zero, List.set_cons_succ]
     refine wpOrd_yes ?_ rfl (fun W _ => ?_) ?_
     rotate_left
     ·go_simp; with_reducible rfl
     simp only [Act.put, List.setIfInBounds_toArray, List.set_cons_zero, List.set_cons_succ]
     refine wpOrd_nil ?_
     clear n7 m7 p7 q7 n16 m16 p16 q16 f1 f2 f3 f4
     go_wp2_with fail
     go_roundg (48 - (k + 1))
     case measure => omega
     case rel =>
      have hbr2 : Below w.heap.size w w2 := by rw [← hw2]; exact below_drewN hbr 2
      refine ⟨k + 1, T + 1, by omega, by rw [HT.out]; omega, rfl, by go_num, ?_⟩
      rw [← HlL.out] at hR5
      exact ints_more hn hbr2 hR5 hC5 hv5 (by rw [Hx.out, Hext.out])
    ·obtain rfl : k = 48 := by omega
     obtain rfl : T = 64 := by omega
     have hdec : decide ((64 : Int) < 64) = false := by simp
     have HR := Lib.hid hR
     rw [hlen] at hR
     obtain ⟨g7, o7, cap7, rfl, hob, hc1, hc2, hcl, hfr⟩ := hR.form (by omega)
     unfold maxLen at hc2
     clear hob hcl hfr
     have HS7 : Hid (Row wr 3 1 (.slice (some ⟨g7, o7, none⟩) 64 cap7) 64 ((sched s.data.toList).map iw)) := hR
     have HlS : Hid ((sched s.data.toList).length = 64) := hlen
     have Hbl : Hid (block h s.data.toList = addSt h (roundsTo (sched s.data.toList) h 64)) := rfl
     clear hR HR hlen
     generalize sched s.data.toList = WS at *
     go_wp2_with (at_builtin; (refine wpList_append_row _ rfl (.tmp 122) (.tmp 123) 39 39 rfl 3 i1 _ 1 8 Tryz.underlying39 hi1 hz3 hz4 hz5 rfl (by omega) (.slice none 0 0) 0 [] rfl (Row.nil _ _ _) (.slice (some ⟨gh, oh, none⟩) 8 caph) 8 (h.words.map iw) rfl ((Hh.out.belowAll hbr).srcP (by omega) Tryz.underlying39 (iw_one _)) (by simp only [maxLen]; omega) (by omega) ?_); intro v12 w3 hR12 hC12 hv12)
     have hb3 : Below wr.heap.size wr w3 := hC12.below (Nat.le_refl _) (fun k h => by simp [Value.ownBlock] at h)
     have HS3 := Lib.hid (HS7.out.belowAll hb3)
     have Hh3 := Lib.hid ((Hh.out.belowAll hbr).belowAll hb3)
     have Hk3 := Lib.hid ((Hk.out.belowAll hbr).belowAll hb3)
     have hbw3 := below_then hbr hb3 (Nat.le_refl _)
     clear HS7 hC12 hv12 hb3 hbr hdec hn hk hlt
     go_loopg [12, 13] 64 (fun m vo i w4 => ∃ (k : Nat), k ≤ 64 ∧ m = 64 - k ∧ i = .int .i64 k ∧ Row w4 3 1 vo 8 ((roundsTo WS h k).words.map iw) ∧ Below w3.heap.size w3 w4)
     case atStart => exact ⟨0, by omega, rfl, rfl, (by have := hR12; simp only [Nat.zero_add, List.nil_append] at this; exact this), Below.refl _ _⟩
     case round =>
      clear hR12
      obtain ⟨k, hk, rfl, rfl, hR, hb4⟩ := hrel
      by_cases hlt : k < 64
      ·-- LOOP3
       have Hx : Hid (roundsTo WS h (k + 1) = round (roundsTo WS h k) (kTab.getD k 0) (WS.getD k 0)) := rfl
       generalize roundsTo WS h k = x at *
       obtain ⟨xa, xb, xc, xd, xe, xf, xg, xh⟩ := x
       have HV := Lib.hid hR
       obtain ⟨gv, ov, capv, rfl, hob, hv1, hv2, hcl, hfr⟩ := hR.form (by omega)
       unfold maxLen at hv2
       clear hob hcl hfr hR
       have cv0 : wr.cell? ⟨gv, ov, none⟩ = some (.int .i64 xa.toNat) := HV.out.at_ (j := 0) rfl
       have cv1 : wr.cell? ⟨gv, ov + 1, none⟩ = some (.int .i64 xb.toNat) := HV.out.at_ (j := 1) rfl
       have cv2 : wr.cell? ⟨gv, ov + 2, none⟩ = some (.int .i64 xc.toNat) := HV.out.at_ (j := 2) rfl
       have cv4 : wr.cell? ⟨gv, ov + 4, none⟩ = some (.int .i64 xe.toNat) := HV.out.at_ (j := 4) rfl
       have cv5 : wr.cell? ⟨gv, ov + 5, none⟩ = some (.int .i64 xf.toNat) := HV.out.at_ (j := 5) rfl
       have cv6 : wr.cell? ⟨gv, ov + 6, none⟩ = some (.int .i64 xg.toNat) := HV.out.at_ (j := 6) rfl
       have cv7 : wr.cell? ⟨gv, ov + 7, none⟩ = some (.int .i64 xh.toNat) := HV.out.at_ (j := 7) rfl
       have ck := (Hk3.out.belowAll hb4).at_ (by omega) (iw_at kTab k (by show k < 64; omega))
       have cw := (HS3.out.belowAll hb4).at_ (iw_at WS k (by rw [HlS.out]; omega))
       generalize kTab.getD k 0 = kk at *
       generalize WS.getD k 0 = ww at *
       have jl : (k : Int) < 64 := by omega
       have e1 := and_i64 xe xf
       obtain ⟨u1, Hu1⟩ : ∃ r, Hid (xe &&& xf = r) := ⟨_, rfl⟩
       rw [Hu1.out] at e1
       have e2 : IntKind.i64.wrap (4294967295 - (xe.toNat : Int)) = ((~~~xe).toNat : Int) := by
        rw [not_i64]; exact wrapi _ (~~~xe).toNat_lt
       obtain ⟨ne, Hne⟩ : ∃ r, Hid (~~~xe = r) := ⟨_, rfl⟩
       rw [Hne.out] at e2
       have e3 := and_i64 ne xg
       obtain ⟨u2, Hu2⟩ : ∃ r, Hid (ne &&& xg = r) := ⟨_, rfl⟩
       rw [Hu2.out] at e3
       have e4 := xor_i64 u1 u2
       obtain ⟨ch, Hch⟩ : ∃ r, Hid (u1 ^^^ u2 = r) := ⟨_, rfl⟩
       rw [Hch.out] at e4
       obtain ⟨xer6, Hxer6⟩ : ∃ r, Hid (rotr xe (UInt32.ofNat 6) = r) := ⟨_, rfl⟩
       obtain ⟨xer11, Hxer11⟩ : ∃ r, Hid (rotr xe (UInt32.ofNat 11) = r) := ⟨_, rfl⟩
       obtain ⟨xer25, Hxer25⟩ : ∃ r, Hid (rotr xe (UInt32.ofNat 25) = r) := ⟨_, rfl⟩
       have e5 := xor_i64 xer6 xer11
       obtain ⟨z1, Hz1⟩ : ∃ r, Hid (xer6 ^^^ xer11 = r) := ⟨_, rfl⟩
       rw [Hz1.out] at e5
       have e6 := xor_i64 z1 xer25
       obtain ⟨z2, Hz2⟩ : ∃ r, Hid (z1 ^^^ xer25 = r) := ⟨_, rfl⟩
       rw [Hz2.out] at e6
       obtain ⟨D1, D2, D3, D4, f1, f2, f3, f4, f5⟩ := sum5 xh z2 ch kk ww
       obtain ⟨T1, HT1⟩ : ∃ r, Hid (xh + z2 + ch + kk + ww = r) := ⟨_, rfl⟩
       rw [HT1.out] at f5
       have e7 := and_i64 xa xb
       obtain ⟨p1, Hp1⟩ : ∃ r, Hid (xa &&& xb = r) := ⟨_, rfl⟩
       rw [Hp1.out] at e7
       have e8 := and_i64 xa xc
       obtain ⟨p2, Hp2⟩ : ∃ r, Hid (xa &&& xc = r) := ⟨_, rfl⟩
       rw [Hp2.out] at e8
       have e9 := xor_i64 p1 p2
       obtain ⟨p3, Hp3⟩ : ∃ r, Hid (p1 ^^^ p2 = r) := ⟨_, rfl⟩
       rw [Hp3.out] at e9
       have e10 := and_i64 xb xc
       obtain ⟨p4, Hp4⟩ : ∃ r, Hid (xb &&& xc = r) := ⟨_, rfl⟩
       rw [Hp4.out] at e10
       have e11 := xor_i64 p3 p4
       obtain ⟨mj, Hmj⟩ : ∃ r, Hid (p3 ^^^ p4 = r) := ⟨_, rfl⟩
       rw [Hmj.out] at e11
       obtain ⟨xar2, Hxar2⟩ : ∃ r, Hid (rotr xa (UInt32.ofNat 2) = r) := ⟨_, rfl⟩
       obtain ⟨xar13, Hxar13⟩ : ∃ r, Hid (rotr xa (UInt32.ofNat 13) = r) := ⟨_, rfl⟩
       obtain ⟨xar22, Hxar22⟩ : ∃ r, Hid (rotr xa (UInt32.ofNat 22) = r) := ⟨_, rfl⟩
       have e12 := xor_i64 xar2 xar13
       obtain ⟨z3, Hz3⟩ : ∃ r, Hid (xar2 ^^^ xar13 = r) := ⟨_, rfl⟩
       rw [Hz3.out] at e12
       have e13 := xor_i64 z3 xar22
       obtain ⟨z4, Hz4⟩ : ∃ r, Hid (z3 ^^^ xar22 = r) := ⟨_, rfl⟩
       rw [Hz4.out] at e13
       have HTe : Hid (t1 ⟨xa, xb, xc, xd, xe, xf, xg, xh⟩ kk ww = T1) := by
        show _ = _
        rw [← HT1.out, ← Hz2.out, ← Hz1.out, ← Hxer6.out, ← Hxer11.out, ← Hxer25.out, ← Hch.out, ← Hu1.out, ← Hu2.out, ← Hne.out]; rfl
       obtain ⟨G14, g14, e14⟩ := sum2 z4 mj
       obtain ⟨T2, HT2⟩ : ∃ r, Hid (z4 + mj = r) := ⟨_, rfl⟩
       rw [HT2.out] at e14
       have HTf : Hid (t2 ⟨xa, xb, xc, xd, xe, xf, xg, xh⟩ = T2) := by
        show _ = _
        rw [← HT2.out, ← Hz4.out, ← Hz3.out, ← Hxar2.out, ← Hxar13.out, ← Hxar22.out, ← Hmj.out, ← Hp3.out, ← Hp1.out, ← Hp2.out, ← Hp4.out]; rfl
       obtain ⟨G15, g15, e15⟩ := sum2 T1 T2
       obtain ⟨NA, HNA⟩ : ∃ r, Hid (T1 + T2 = r) := ⟨_, rfl⟩
       rw [HNA.out] at e15
       obtain ⟨G16, g16, e16⟩ := sum2 xd T1
       obtain ⟨NE, HNE⟩ : ∃ r, Hid (xd + T1 = r) := ⟨_, rfl⟩
       rw [HNE.out] at e16
       have Hrd : Hid (round ⟨xa, xb, xc, xd, xe, xf, xg, xh⟩ kk ww = ⟨NA, xa, xb, xc, NE, xe, xf, xg⟩) := by
        show _ = _
        unfold round
        rw [HTe.out, HTf.out, HNA.out, HNE.out]
       clear Hz1 Hz2 Hz3 Hz4 Hch Hu1 Hu2 Hne HT1 HT2 Hmj Hp1 Hp2 Hp3 Hp4 HTe HTf HNA HNE
       have E14 := Lib.hid (And.intro g14 e14); clear g14 e14
       have E15 := Lib.hid (And.intro g15 e15); clear g15 e15
       have E16 := Lib.hid (And.intro g16 e16); clear g16 e16
       go_wp2_with fail
       refine wp_region_perm (fun W => W = wr.drew) [0, 1, 2, 3, 4, 5, 6, 7, 8, 9, 10, 11, 12] [true, true, true, true, true, true, true, true, true, true, true, true, true] (by kernel_rfl) (by kernel_rfl) (fun c a d v w h => by cases d <;> exact h) rfl ?_
       simp only [permute, List.getD_cons_zero, List.getD_cons_succ]
       refine wpOrd_yes ?_ rfl (fun W hW => ?_) ?_
       rotate_left
       ·subst hW; go_simp; with_reducible rfl
       simp only [Act.put, List.setIfInBounds_toArray, List.set_cons_zero, List.set_cons_succ]
       refine wpOrd_yes ?_ rfl (fun W hW => ?_) ?_
       rotate_left
       ·subst hW; go_simp; with_reducible rfl
       simp only [Act.put, List.setIfInBounds_toArray, List.set_cons_zero, List.set_cons_succ]
       refine wpOrd_yes ?_ rfl (fun W hW => ?_) ?_
       rotate_left
       ·subst hW; go_simp; with_reducible rfl
       simp only [Act.put, List.setIfInBounds_toArray, List.set_cons_zero, List.set_cons_succ]
       refine wpOrd_yes ?_ rfl (fun W hW => ?_) ?_
       rotate_left
       ·subst hW; go_simp; with_reducible rfl
       simp only [Act.put, List.setIfInBounds_toArray, List.set_cons_zero, List.set_cons_succ]
       refine wpOrd_yes ?_ rfl (fun W hW => ?_) ?_
       rotate_left
       ·subst hW; go_simp; with_reducible rfl
       simp only [Act.put, List.setIfInBounds_toArray, List.set_cons_zero, List.set_cons_succ]
       refine wpOrd_yes ?_ rfl (fun W hW => ?_) ?_
       rotate_left
       ·subst hW; go_simp; with_reducible rfl
       simp only [Act.put, List.setIfInBounds_toArray, List.set_cons_zero, List.set_cons_succ]
       refine wpOrd_yes ?_ rfl (fun W hW => ?_) ?_
       rotate_left
       ·subst hW; go_simp; with_reducible rfl
       simp only [Act.put, List.setIfInBounds_toArray, List.set_cons_zero, List.set_cons_succ]
       refine wpOrd_yes ?_ rfl (fun W hW => ?_) ?_
       rotate_left
       ·subst hW; go_simp; with_reducible rfl
       simp only [Act.put, List.setIfInBounds_toArray, List.set_cons_zero, List.set_cons_succ]
       refine wpOrd_yes ?_ rfl (fun W hW => ?_) ?_
       rotate_left
       ·subst hW; go_simp; with_reducible rfl
       simp only [Act.put, List.setIfInBounds_toArray, List.set_cons_zero, List.set_cons_succ]
       refine wpOrd_yes ?_ rfl (fun W hW => ?_) ?_
       rotate_left
       ·subst hW; go_simp; with_reducible rfl
       simp only [Act.put, List.setIfInBounds_toArray, List.set_cons_zero, List.set_cons_succ]
       refine wpOrd_yes ?_ rfl (fun W hW => ?_) ?_
       rotate_left
       ·subst hW; go_simp; with_reducible rfl
       simp only [Act.put, List.setIfInBounds_toArray, List.set_cons_zero, List.set_cons_succ]
       refine wpOrd_yes ?_ rfl (fun W hW => ?_) ?_
       rotate_left
       ·subst hW; go_simp; with_reducible rfl
       simp only [Act.put, List.setIfInBounds_toArray, List.set_cons_zero, List.set_cons_succ]
       refine wpOrd_yes ?_ rfl (fun W hW => ?_) ?_
       rotate_left
       ·subst hW; go_simp; with_reducible rfl
       simp only [Act.put, List.setIfInBounds_toArray, List.set_cons_zero, List.set_cons_succ]
       refine wpOrd_nil ?_
       clear e1 e2 e3 e4 cv5 cv6
       go_wp2_with fail
       refine wp_region_perm (fun W => W = wr.drew.drew) [0, 1, 2, 3, 5, 8, 12, 14, 15, 16, 17, 19, 20, 21, 22, 4, 6, 7, 9, 10, 11, 13, 18, 23, 24, 25] [true, true, true, true, true, true, true, true, true, true, true, true, true, true, true, false, false, true, false, true, true, true, true, true, true, true] (by kernel_rfl) (by kernel_rfl) (fun c a d v w h => by cases d <;> exact h) rfl ?_
       simp only [permute, List.getD_cons_zero, List.getD_cons_succ]
       refine wpOrd_yes ?_ rfl (fun W hW => ?_) ?_
       rotate_left
       ·subst hW; go_simp; with_reducible rfl
       simp only [Act.put, List.setIfInBounds_toArray, List.set_cons_zero, List.set_cons_succ]
       refine wpOrd_yes ?_ rfl (fun W hW => ?_) ?_
       rotate_left
       ·subst hW; go_simp; with_reducible rfl
       simp only [Act.put, List.setIfInBounds_toArray, List.set_cons_zero, List.set_cons_succ]
       refine wpOrd_yes ?_ rfl (fun W hW => ?_) ?_
       rotate_left
       ·subst hW; go_simp; with_reducible rfl
       simp only [Act.put, List.setIfInBounds_toArray, List.set_cons_zero, List.set_cons_succ]
       refine wpOrd_yes ?_ rfl (fun W hW => ?_) ?_
       rotate_left
       ·subst hW; go_simp; with_reducible rfl
       simp only [Act.put, List.setIfInBounds_toArray, List.set_cons_zero, List.set_cons_succ]
       refine wpOrd_yes ?_ rfl (fun W hW => ?_) ?_
       rotate_left
       ·subst hW; go_simp; with_reducible rfl
       simp only [Act.put, List.setIfInBounds_toArray, List.set_cons_zero, List.set_cons_succ]
       refine wpOrd_yes ?_ rfl (fun W hW => ?_) ?_
       rotate_left
       ·subst hW; go_simp; with_reducible rfl
       simp only [Act.put, List.setIfInBounds_toArray, List.set_cons_zero, List.set_cons_succ]
       refine wpOrd_yes ?_ rfl (fun W hW => ?_) ?_
       rotate_left
       ·subst hW; go_simp; with_reducible rfl
       simp only [Act.put, List.setIfInBounds_toArray, List.set_cons_zero, List.set_cons_succ]
       refine wpOrd_yes ?_ rfl (fun W hW => ?_) ?_
       rotate_left
       ·subst hW; go_simp; with_reducible rfl
       simp only [Act.put, List.setIfInBounds_toArray, List.set_cons_zero, List.set_cons_succ]
       refine wpOrd_yes ?_ rfl (fun W hW => ?_) ?_
       rotate_left
       ·subst hW; go_simp; with_reducible rfl
       simp only [Act.put, List.setIfInBounds_toArray, List.set_cons_zero, List.set_cons_succ]
       refine wpOrd_yes ?_ rfl (fun W hW => ?_) ?_
       rotate_left
       ·subst hW; go_simp; with_reducible rfl
       simp only [Act.put, List.setIfInBounds_toArray, List.set_cons_zero, List.set_cons_succ]
       refine wpOrd_yes ?_ rfl (fun W hW => ?_) ?_
       rotate_left
       ·subst hW; go_simp; with_reducible rfl
       simp only [Act.put, List.setIfInBounds_toArray, List.set_cons_zero, List.set_cons_succ]
       refine wpOrd_yes ?_ rfl (fun W hW => ?_) ?_
       rotate_left
       ·subst hW; go_simp; with_reducible rfl
       simp only [Act.put, List.setIfInBounds_toArray, List.set_cons_zero, List.set_cons_succ]
       refine wpOrd_yes ?_ rfl (fun W hW => ?_) ?_
       rotate_left
       ·subst hW; go_simp; with_reducible rfl
       simp only [Act.put, List.setIfInBounds_toArray, List.set_cons_zero, List.set_cons_succ]
       refine wpOrd_yes ?_ rfl (fun W hW => ?_) ?_
       rotate_left
       ·subst hW; go_simp; with_reducible rfl
       simp only [Act.put, List.setIfInBounds_toArray, List.set_cons_zero, List.set_cons_succ]
       refine wpOrd_yes ?_ rfl (fun W hW => ?_) ?_
       rotate_left
       ·subst hW; go_simp; with_reducible rfl
       simp only [Act.put, List.setIfInBounds_toArray, List.set_cons_zero, List.set_cons_succ]
       refine wpOrd_call 171 [.tmp 150, .const (.int .i64 6)] #[3, 3] [.int .i64 xe.toNat, .int .i64 6] rfl rfl Tryz.func171 rfl (by kernel_rfl) rfl ((ref_rot xe 6 6 xer6 _ rfl (by omega) (by omega) Hxer6.out).mono ?_)
       rintro e w' ⟨rfl, rfl⟩
       refine ⟨_, rfl, rfl, ?_⟩
       simp only [Act.put, List.setIfInBounds_toArray, List.set_cons_zero, List.set_cons_succ]
       refine wpOrd_call 171 [.tmp 152, .const (.int .i64 11)] #[3, 3] [.int .i64 xe.toNat, .int .i64 11] rfl rfl Tryz.func171 rfl (by kernel_rfl) rfl ((ref_rot xe 11 11 xer11 _ rfl (by omega) (by omega) Hxer11.out).mono ?_)
       rintro e w' ⟨rfl, rfl⟩
       refine ⟨_, rfl, rfl, ?_⟩
       simp only [Act.put, List.setIfInBounds_toArray, List.set_cons_zero, List.set_cons_succ]
       refine wpOrd_yes ?_ rfl (fun W hW => ?_) ?_
       rotate_left
       ·subst hW; go_simp; with_reducible rfl
       simp only [Act.put, List.setIfInBounds_toArray, List.set_cons_zero, List.set_cons_succ]
       refine wpOrd_call 171 [.tmp 155, .const (.int .i64 25)] #[3, 3] [.int .i64 xe.toNat, .int .i64 25] rfl rfl Tryz.func171 rfl (by kernel_rfl) rfl ((ref_rot xe 25 25 xer25 _ rfl (by omega) (by omega) Hxer25.out).mono ?_)
       rintro e w' ⟨rfl, rfl⟩
       refine ⟨_, rfl, rfl, ?_⟩
       simp only [Act.put, List.setIfInBounds_toArray, List.set_cons_zero, List.set_cons_succ]
       refine wpOrd_yes ?_ rfl (fun W hW => ?_) ?_
       rotate_left
       ·subst hW; go_simp; with_reducible rfl
       simp only [Act.put, List.setIfInBounds_toArray, List.set_cons_zero, List.set_cons_succ]
       refine wpOrd_yes ?_ rfl (fun W hW => ?_) ?_
       rotate_left
       ·subst hW; go_simp; with_reducible rfl
       simp only [Act.put, List.setIfInBounds_toArray, List.set_cons_zero, List.set_cons_succ]
       refine wpOrd_yes ?_ rfl (fun W hW => ?_) ?_
       rotate_left
       ·subst hW; go_simp; with_reducible rfl
       simp only [Act.put, List.setIfInBounds_toArray, List.set_cons_zero, List.set_cons_succ]
       refine wpOrd_yes ?_ rfl (fun W hW => ?_) ?_
       rotate_left
       ·subst hW; go_simp; with_reducible rfl
       simp only [Act.put, List.setIfInBounds_toArray, List.set_cons_zero, List.set_cons_succ]
       refine wpOrd_yes ?_ rfl (fun W hW => ?_) ?_
       rotate_left
       ·subst hW; go_simp; with_reducible rfl
       simp only [Act.put, List.setIfInBounds_toArray, List.set_cons_zero, List.set_cons_succ]
       refine wpOrd_yes ?_ rfl (fun W hW => ?_) ?_
       rotate_left
       ·subst hW; go_simp; with_reducible rfl
       simp only [Act.put, List.setIfInBounds_toArray, List.set_cons_zero, List.set_cons_succ]
       refine wpOrd_yes ?_ rfl (fun W hW => ?_) ?_
       rotate_left
       ·subst hW; go_simp; with_reducible rfl
       simp only [Act.put, List.setIfInBounds_toArray, List.set_cons_zero, List.set_cons_succ]
       refine wpOrd_nil ?_
       clear e5 e6 f1 f2 f3 f4 f5 ck cw cv7
       go_wp2_with fail
       refine wp_region_perm (fun W => W = wr.drew.drew.drew) [0, 1, 2, 3, 4, 5, 6, 7, 8, 9, 10, 11, 12, 13, 14, 15, 16, 17, 18, 19] [true, true, true, true, true, true, true, true, true, true, true, true, true, true, true, true, true, true, true, true] (by kernel_rfl) (by kernel_rfl) (fun c a d v w h => by cases d <;> exact h) rfl ?_
       simp only [permute, List.getD_cons_zero, List.getD_cons_succ]
       refine wpOrd_yes ?_ rfl (fun W hW => ?_) ?_
       rotate_left
       ·subst hW; go_simp; with_reducible rfl
       simp only [Act.put, List.setIfInBounds_toArray, List.set_cons_zero, List.set_cons_succ]
       refine wpOrd_yes ?_ rfl (fun W hW => ?_) ?_
       rotate_left
       ·subst hW; go_simp; with_reducible rfl
       simp only [Act.put, List.setIfInBounds_toArray, List.set_cons_zero, List.set_cons_succ]
       refine wpOrd_yes ?_ rfl (fun W hW => ?_) ?_
       rotate_left
       ·subst hW; go_simp; with_reducible rfl
       simp only [Act.put, List.setIfInBounds_toArray, List.set_cons_zero, List.set_cons_succ]
       refine wpOrd_yes ?_ rfl (fun W hW => ?_) ?_
       rotate_left
       ·subst hW; go_simp; with_reducible rfl
       simp only [Act.put, List.setIfInBounds_toArray, List.set_cons_zero, List.set_cons_succ]
       refine wpOrd_yes ?_ rfl (fun W hW => ?_) ?_
       rotate_left
       ·subst hW; go_simp; with_reducible rfl
       simp only [Act.put, List.setIfInBounds_toArray, List.set_cons_zero, List.set_cons_succ]
       refine wpOrd_yes ?_ rfl (fun W hW => ?_) ?_
       rotate_left
       ·subst hW; go_simp; with_reducible rfl
       simp only [Act.put, List.setIfInBounds_toArray, List.set_cons_zero, List.set_cons_succ]
       refine wpOrd_yes ?_ rfl (fun W hW => ?_) ?_
       rotate_left
       ·subst hW; go_simp; with_reducible rfl
       simp only [Act.put, List.setIfInBounds_toArray, List.set_cons_zero, List.set_cons_succ]
       refine wpOrd_yes ?_ rfl (fun W hW => ?_) ?_
       rotate_left
       ·subst hW; go_simp; with_reducible rfl
       simp only [Act.put, List.setIfInBounds_toArray, List.set_cons_zero, List.set_cons_succ]
       refine wpOrd_yes ?_ rfl (fun W hW => ?_) ?_
       rotate_left
       ·subst hW; go_simp; with_reducible rfl
       simp only [Act.put, List.setIfInBounds_toArray, List.set_cons_zero, List.set_cons_succ]
       refine wpOrd_yes ?_ rfl (fun W hW => ?_) ?_
       rotate_left
       ·subst hW; go_simp; with_reducible rfl
       simp only [Act.put, List.setIfInBounds_toArray, List.set_cons_zero, List.set_cons_succ]
       refine wpOrd_yes ?_ rfl (fun W hW => ?_) ?_
       rotate_left
       ·subst hW; go_simp; with_reducible rfl
       simp only [Act.put, List.setIfInBounds_toArray, List.set_cons_zero, List.set_cons_succ]
       refine wpOrd_yes ?_ rfl (fun W hW => ?_) ?_
       rotate_left
       ·subst hW; go_simp; with_reducible rfl
       simp only [Act.put, List.setIfInBounds_toArray, List.set_cons_zero, List.set_cons_succ]
       refine wpOrd_yes ?_ rfl (fun W hW => ?_) ?_
       rotate_left
       ·subst hW; go_simp; with_reducible rfl
       simp only [Act.put, List.setIfInBounds_toArray, List.set_cons_zero, List.set_cons_succ]
       refine wpOrd_yes ?_ rfl (fun W hW => ?_) ?_
       rotate_left
       ·subst hW; go_simp; with_reducible rfl
       simp only [Act.put, List.setIfInBounds_toArray, List.set_cons_zero, List.set_cons_succ]
       refine wpOrd_yes ?_ rfl (fun W hW => ?_) ?_
       rotate_left
       ·subst hW; go_simp; with_reducible rfl
       simp only [Act.put, List.setIfInBounds_toArray, List.set_cons_zero, List.set_cons_succ]
       refine wpOrd_yes ?_ rfl (fun W hW => ?_) ?_
       rotate_left
       ·subst hW; go_simp; with_reducible rfl
       simp only [Act.put, List.setIfInBounds_toArray, List.set_cons_zero, List.set_cons_succ]
       refine wpOrd_yes ?_ rfl (fun W hW => ?_) ?_
       rotate_left
       ·subst hW; go_simp; with_reducible rfl
       simp only [Act.put, List.setIfInBounds_toArray, List.set_cons_zero, List.set_cons_succ]
       refine wpOrd_yes ?_ rfl (fun W hW => ?_) ?_
       rotate_left
       ·subst hW; go_simp; with_reducible rfl
       simp only [Act.put, List.setIfInBounds_toArray, List.set_cons_zero, List.set_cons_succ]
       refine wpOrd_yes ?_ rfl (fun W hW => ?_) ?_
       rotate_left
       ·subst hW; go_simp; with_reducible rfl
       simp only [Act.put, List.setIfInBounds_toArray, List.set_cons_zero, List.set_cons_succ]
       refine wpOrd_yes ?_ rfl (fun W hW => ?_) ?_
       rotate_left
       ·subst hW; go_simp; with_reducible rfl
       simp only [Act.put, List.setIfInBounds_toArray, List.set_cons_zero, List.set_cons_succ]
       refine wpOrd_nil ?_
       clear e7 e8 e9 e10 e11
       have HV5 := Lib.hid HV.out.drew.drew.drew
       have hb5 := below_drewN hb4 3
       change Below w3.heap.size w3 wr.drew.drew.drew at hb5
       clear HV cv0 cv1 cv2 cv4 hb4
       generalize wr.drew.drew.drew = w5 at *
       have e14 := E14.out.2
       have g14 := E14.out.1
       go_upto_region 23 with (go_at_call 171; first
        | ((with_reducible refine (ref_rot xa 2 2 xar2 _ rfl (by omega) (by omega) Hxar2.out).mono ?_); rintro e w' ⟨rfl, rfl⟩)
        | ((with_reducible refine (ref_rot xa 13 13 xar13 _ rfl (by omega) (by omega) Hxar13.out).mono ?_); rintro e w' ⟨rfl, rfl⟩)
        | ((with_reducible refine (ref_rot xa 22 22 xar22 _ rfl (by omega) (by omega) Hxar22.out).mono ?_); rintro e w' ⟨rfl, rfl⟩))
       clear e12 e13 e14 g14 E14 Hxar2 Hxar13 Hxar22
       have e15 := E15.out.2
       have g15 := E15.out.1
       go_upto_region 25 with (at_builtin; (refine wpList_append_row _ rfl (.tmp 202) (.tmp 207) 39 39 rfl 3 i1 _ 1 8 Tryz.underlying39 hi1 hz3 hz4 hz5 rfl (by omega) (.slice none 0 0) 0 [] rfl (Row.nil _ _ _) (.slice (some ⟨w5.heap.size, 0, none⟩) 1 1) 1 [iw NA] rfl (Row.src (Row.new w5 3 1 1 #[iw NA] (by simp [maxLen]) rfl) Tryz.underlying39 (iw_one [NA])) (by simp only [maxLen]; omega) (by omega) ?_); intro vn w6 hR6 hC6 hv6)
       clear e15 g15 E15
       have hn6 : ∀ k, vn.ownBlock = some k → w5.heap.size ≤ k := by
        intro k hk
        rcases hv6 with h | h
        ·rw [h] at hk; simp [Value.ownBlock] at hk
        ·rw [h] at hk; injection hk with hk; simp at hk; omega
       have hb6 : Below w5.heap.size w5 w6 := (((Chg.refl (fun _ => False) w5).alloc _).next hC6 (fun i h => by simp [Value.ownBlock] at h)).belowAll
       have HV6 := Lib.hid ((HV5.out.belowAll hb6).firsts (m := 7) (by omega) (by omega))
       have HN6 : Hid (Row w6 3 1 vn 1 [iw NA]) := hR6
       have q7 : (7 : Int) ≤ (capv : Int) := by omega
       clear hR6 hC6 hv6 HV5
       go_upto_region 26 with (at_builtin; (refine wpList_append_row _ rfl (.tmp 209) (.tmp 211) 39 39 rfl 3 i1 _ 1 8 Tryz.underlying39 hi1 hz3 hz4 hz5 rfl (by omega) vn 1 [iw NA] rfl HN6.out (.slice (some ⟨gv, ov, none⟩) 7 capv) 7 ([xa, xb, xc, xd, xe, xf, xg].map iw) rfl (Row.src HV6.out Tryz.underlying39 (iw_one [xa, xb, xc, xd, xe, xf, xg])) (by simp only [maxLen]; omega) (by omega) ?_); intro v7 w7 hR7 hC7 hv7)
       have HN7 : Hid (Row w7 3 1 v7 8 ([NA, xa, xb, xc, xd, xe, xf, xg].map iw)) := hR7
       clear hR7 HN6 HV6
       obtain ⟨gn, on, capn, rfl, hobn, hn1, hn2, hcln, hfrn⟩ := HN7.out.form (by omega)
       have hgn : w5.heap.size ≤ gn := by
        have := hb6.size
        rcases hv7 with h | h
        ·exact hn6 gn (h.symm.trans hobn)
        ·rw [h] at hobn; injection hobn with hobn; omega
       have c4 : w7.cell? ⟨gn, on + 4, none⟩ = some (.int .i64 xd.toNat) := HN7.out.at_ (j := 4) rfl
       have f4 := hfrn 4 (by omega)
       unfold maxLen at hn2
       clear hcln hfrn hobn hv7
       have e16 := E16.out.2
       have g16 := E16.out.1
       go_wp2_with fail
       go_roundg (64 - (k + 1))
       case measure => omega
       case rel =>
        refine ⟨k + 1, by omega, rfl, by go_num, ?_, ?_⟩
        ·rw [Hx.out, Hrd.out]
         exact HN7.out.store 4 (by omega) (iw NE)
        ·have hz := hb5.size
         have k1 := (Chg.of_below (below_then hb5 hb6 (Nat.le_refl _)) (fun k => w3.heap.size ≤ k)).next hC7 (fun i h => .inr (by have := hn6 i h; omega))
         exact (k1.setCell (p := ⟨gn, on + 4, none⟩) (.inr (by show _ ≤ gn; omega)) _).below (Nat.le_refl _) (fun k h => h)
      ·obtain rfl : k = 64 := by omega
       have hdec : decide ((64 : Int) < 64) = false := by simp
       generalize roundsTo WS h 64 = x at *
       have hb4w := below_then hbw3 hb4 (Nat.le_refl _)
       have Hh4 := Lib.hid (Hh3.out.belowAll hb4)
       have HV4 := Lib.hid hR
       obtain ⟨gv, ov, capv, rfl, hob, hv1, hv2, hcl, hfr⟩ := hR.form (by omega)
       unfold maxLen at hv2
       clear hob hcl hfr hR hb4 HS3 Hk3 Hh3 hbw3 Hk Hh
       go_wp2_with fail
       clear hdec
       obtain ⟨w4, hw4⟩ : ∃ w4, w4 = wr := ⟨_, rfl⟩
       rw [← hw4] at Hh4 HV4 hb4w
       go_loopg [21, 22] 8 (fun m vo i wr2 => ∃ (k : Nat), k ≤ 8 ∧ m = 8 - k ∧ i = .int .i64 k ∧ IntsAt w4 wr2 vo ((addSt h x).words.take k))
       case atStart => exact ⟨0, by omega, rfl, rfl, Row.nil _ _ _, (fun k hk => by simp [Value.ownBlock] at hk), (by rw [hw4]; exact Below.refl _ _)⟩
       case round =>
        clear hw4
        obtain ⟨k, hk8, rfl, rfl, hR, hn, hbr⟩ := hrel
        have HR := Lib.hid hR; clear hR
        by_cases hlt : k < 8
        ·have Kh := Lib.hid (iw_at h.words k (by show k < 8; omega))
         have Kv := Lib.hid (iw_at x.words k (by show k < 8; omega))
         have Hadd := Lib.hid (words_add h x k hlt)
         have hln : ((addSt h x).words.take k).length ≤ 8 := by rw [List.length_take]; omega
         generalize h.words.getD k 0 = yh at *
         generalize x.words.getD k 0 = yv at *
         obtain ⟨G1, g1, e1⟩ := sum2 yh yv
         obtain ⟨E, HE⟩ : ∃ r, Hid (yh + yv = r) := ⟨_, rfl⟩
         rw [HE.out] at e1
         have jl : (k : Int) < 8 := by omega
         go_wp2_with fail
         refine wp_region_ord (fun W => Below w4.heap.size w4 W) [true, true, true, true, true, true, true, true, true, true, true, false, false, true] (by kernel_rfl) (by kernel_rfl) (fun c a d v w h => by cases d <;> exact h) (below_drewN hbr 1) ?_
         refine wpOrd_yes ?_ rfl (fun W _ => ?_) ?_
         rotate_left
         ·go_simp; with_reducible rfl
         simp only [Act.put, List.setIfInBounds_toArray, List.set_cons_zero, List.set_cons_succ]
         refine wpOrd_yes ?_ rfl (fun W _ => ?_) ?_
         rotate_left
         ·go_simp; with_reducible rfl
         simp only [Act.put, List.setIfInBounds_toArray, List.set_cons_zero, List.set_cons_succ]
         refine wpOrd_yes ?_ rfl (fun W _ => ?_) ?_
         rotate_left
         ·go_simp; with_reducible rfl
         simp only [Act.put, List.setIfInBounds_toArray, List.set_cons_zero, List.set_cons_succ]
         refine wpOrd_yes ?_ rfl (fun W _ => ?_) ?_
         rotate_left
         ·go_simp; with_reducible rfl
         simp only [Act.put, List.setIfInBounds_toArray, List.set_cons_zero, List.set_cons_succ]
         refine wpOrd_yes ?_ rfl (fun W hW => ?_) ?_
         rotate_left
         ·have hc := (Hh4.out.belowAll hW).at_ (by omega) Kh.out
          go_simp; with_reducible rfl
         simp only [Act.put, List.setIfInBounds_toArray, List.set_cons_zero, List.set_cons_succ]
         refine wpOrd_yes ?_ rfl (fun W _ => ?_) ?_
         rotate_left
         ·go_simp; with_reducible rfl
         simp only [Act.put, List.setIfInBounds_toArray, List.set_cons_zero, List.set_cons_succ]
         refine wpOrd_yes ?_ rfl (fun W _ => ?_) ?_
         rotate_left
         ·go_simp; with_reducible rfl
         simp only [Act.put, List.setIfInBounds_toArray, List.set_cons_zero, List.set_cons_succ]
         refine wpOrd_yes ?_ rfl (fun W _ => ?_) ?_
         rotate_left
         ·go_simp; with_reducible rfl
         simp only [Act.put, List.setIfInBounds_toArray, List.set_cons_zero, List.set_cons_succ]
         refine wpOrd_yes ?_ rfl (fun W hW => ?_) ?_
         rotate_left
         ·have hc := (HV4.out.belowAll hW).at_ Kv.out
          go_simp; with_reducible rfl
         simp only [Act.put, List.setIfInBounds_toArray, List.set_cons_zero, List.set_cons_succ]
         refine wpOrd_yes ?_ rfl (fun W _ => ?_) ?_
         rotate_left
         ·go_simp; with_reducible rfl
         simp only [Act.put, List.setIfInBounds_toArray, List.set_cons_zero, List.set_cons_succ]
         refine wpOrd_yes ?_ rfl (fun W _ => ?_) ?_
         rotate_left
         ·go_simp; with_reducible rfl
         simp only [Act.put, List.setIfInBounds_toArray, List.set_cons_zero, List.set_cons_succ]
         refine wpOrd_run _ _ rfl (by go_simp; exact ⟨rfl, rfl⟩) (below_drewN (hbr.alloc hbr.size _) 1) ?_
         simp only [Act.put, List.setIfInBounds_toArray, List.set_cons_zero, List.set_cons_succ]
         refine wpOrd_alone rfl fun K hK => wp_append_row _ (.tmp 226) (.tmp 237) 39 39 rfl 3 i1 _ 1 8 Tryz.underlying39 hi1 hz3 hz4 hz5 rfl (by omega) _ ((addSt h x).words.take k).length (((addSt h x).words.take k).map iw) rfl (HR.out.alloc _).drew (.slice (some ⟨wr.heap.size, 0, none⟩) 1 1) 1 [iw E] rfl (Row.src (Row.new wr 3 1 1 #[iw E] (by simp [maxLen]) rfl).drew Tryz.underlying39 (iw_one [E])) (by simp only [maxLen]; omega) (by omega) ?_
         intro v5 w5 hR5 hC5 hv5
         have IM := Lib.hid (ints_more (l' := (addSt h x).words.take (k + 1)) hn hbr hR5 hC5 hv5 (by rw [Hadd.out, HE.out]))
         refine hK _ _ IM.out.2.2 ?_
         clear hR5 hC5 hv5
         simp only [Act.put, List.setIfInBounds_toArray, List.set_cons_zero, List.set_cons_succ]
         refine wpOrd_yes ?_ rfl (fun W _ => ?_) ?_
         rotate_left
         ·go_simp; with_reducible rfl
         simp only [Act.put, List.setIfInBounds_toArray, List.set_cons_zero, List.set_cons_succ]
         refine wpOrd_nil ?_
         clear g1 e1
         go_wp2_with fail
         go_roundg (8 - (k + 1))
         case measure => omega
         case rel => exact ⟨k + 1, by omega, rfl, by go_num, IM.out⟩
        ·obtain rfl : k = 8 := by omega
         have hdec : decide ((8 : Int) < 8) = false := by simp
         go_wp2_with fail
         go_ret
         rw [Hbl.out]
         have hz := hb4w.size
         exact ⟨_, rfl, HR.out, fun k hk => by have := hn k hk; omega, below_then hb4w hbr (Nat.le_refl _)⟩
end Go.Proofs.YtnlabkogebnioaaGreatDoor
namespace Go.Proofs.YtnlabkogebnioaaGreatDoor.Sha
def lenBk (n : Nat) : Nat → List UInt8
  | 0 => []
  | i + 1 => lenByte n i :: lenBk n i
theorem lenBk_eq (n : Nat) : lenBk n 8 = lenTo n 8 := rfl
theorem zeros_ok (n j : Nat) (h : j ≤ zeros n) : ((n + 1 + j) % 64 = 56) = (j = zeros n) := by
 unfold zeros at *
 apply propext
 constructor <;> intro h2 <;> omega
def whole (m : List UInt8) : List UInt8 := m ++ pad m.length m.length
theorem pad_mod (n k : Nat) : pad (n % 64) k = pad n k := by
 unfold pad zeros
 rw [Nat.mod_mod]
theorem pad_length (n k : Nat) : (pad n k).length = 9 + zeros n := by
 have : (lenTo k 8).length = 8 := rfl
 simp only [pad, List.length_cons, List.length_append, List.length_replicate, this]
 omega
theorem whole_length (m : List UInt8) : (whole m).length % 64 = 0 := by
 unfold whole
 rw [List.length_append, pad_length]
 unfold zeros
 omega
theorem sha_whole (m : List UInt8) : sha m = (absorb begin_ (whole m)).1.bytes := by
 unfold sha sumOf
 rw [absorb_length, pad_mod, absorb_parts]
 rfl
theorem absorbN_snoc (n : Nat) : ∀ (v : St) (l : List UInt8), absorbN (n + 1) v l = (block (absorbN n v l).1 ((absorbN n v l).2.take 64), (absorbN n v l).2.drop 64) := by
 induction n with
 | zero => intro v l; rfl
 | succ n ih =>
  intro v l
  rw [absorbN, ih]
  rfl
theorem absorbN_rest (n : Nat) : ∀ (v : St) (l : List UInt8), (absorbN n v l).2 = l.drop (64 * n) := by
 induction n with
 | zero => intro v l; simp [absorbN]
 | succ n ih =>
  intro v l
  rw [absorbN, ih, List.drop_drop]
  congr 1
  omega
def after (l : List UInt8) (j : Nat) : St := (absorbN j begin_ l).1
theorem after_next (l : List UInt8) (j : Nat) : after l (j + 1) = block (after l j) ((l.drop (64 * j)).take 64) := by
 unfold after
 rw [absorbN_snoc, absorbN_rest]
theorem after_all (m : List UInt8) : (after (whole m) ((whole m).length / 64)).bytes = sha m := by rw [sha_whole]; rfl
def byteOf (x : UInt32) (i : Nat) : UInt8 := (x >>> (UInt32.ofNat (8 * (3 - i)))).toUInt8
theorem bytes_at (v : St) (i : Nat) (h : i < 32) : v.bytes.getD i 0 = byteOf (v.words.getD (i / 4) 0) (i % 4) := by
 have : i = 0 ∨ i = 1 ∨ i = 2 ∨ i = 3 ∨ i = 4 ∨ i = 5 ∨ i = 6 ∨ i = 7 ∨ i = 8 ∨ i = 9 ∨ i = 10 ∨ i = 11 ∨ i = 12 ∨ i = 13 ∨ i = 14 ∨ i = 15 ∨ i = 16 ∨ i = 17 ∨ i = 18 ∨ i = 19 ∨ i = 20 ∨ i = 21 ∨ i = 22 ∨ i = 23 ∨ i = 24 ∨ i = 25 ∨ i = 26 ∨ i = 27 ∨ i = 28 ∨ i = 29 ∨ i = 30 ∨ i = 31 := by omega
 rcases this with h | h | h | h | h | h | h | h | h | h | h | h | h | h | h | h | h | h | h | h | h | h | h | h | h | h | h | h | h | h | h | h <;> subst h <;> first | rfl | (show UInt32.toUInt8 _ = UInt32.toUInt8 (_ >>> 0); simp)
theorem byteOf_int (x : UInt32) (r : Nat) (h : r ≤ 3) : ((byteOf x (3 - r)).toNat : Int) = (x.toNat : Int) / 256 ^ r % 256 := by
 unfold byteOf
 rw [show 3 - (3 - r) = r by omega, UInt32.toNat_toUInt8, UInt32.toNat_shiftRight, UInt32.toNat_ofNat_of_lt' (by simp [UInt32.size]; omega), Nat.mod_eq_of_lt (show 8 * r < 32 by omega), Nat.shiftRight_eq_div_pow]
 rw [show (2 : Nat) ^ (8 * r) = 256 ^ r by rw [Nat.pow_mul]]
 rw [Int.natCast_emod, Int.natCast_ediv, Int.natCast_pow]
 rfl
end Go.Proofs.YtnlabkogebnioaaGreatDoor.Sha
namespace Go.Proofs.YtnlabkogebnioaaGreatDoor
open Go.RowKit Sha
def bitsAt (n i : Nat) : Nat := 8 * n / 256 ^ i
theorem bitsAt_next (n i : Nat) : (bitsAt n i : Int) / 256 = (bitsAt n (i + 1) : Int) := by
 unfold bitsAt
 rw [Nat.pow_succ, ← Nat.div_div_eq_div_mul]
 omega
theorem lenByte_nat (n i : Nat) : (lenByte n i).toNat = bitsAt n i % 256 := by
 unfold lenByte bitsAt
 rw [UInt8.toNat_ofNat', Nat.mul_comm n 8, Nat.pow_mul]
theorem lenByte_int (n i : Nat) : (bitsAt n i : Int) % 256 = ((lenByte n i).toNat : Int) := by rw [lenByte_nat]; omega
theorem lenBk_length (n : Nat) : ∀ i, (lenBk n i).length = i
 | 0 => rfl
 | i + 1 => by simp [lenBk, lenBk_length n i]
theorem bitsAt_le (n i : Nat) : bitsAt n i ≤ 8 * n := Nat.div_le_self _ _
set_option maxHeartbeats 4000000 in
set_option maxRecDepth 100000 in
theorem ref_Of (s : ByteArray) (w : World) (hs : s.size ≤ 1000000) : Calls Tryz.prog 93 #[.string s] w (SumIs w (sha s.data.toList)) := by
 have k0 := Blk.new w 60 z32
 have Hk0 := Lib.hid k0; clear k0
 go_enter Tryz.func93, Tryz.ntmps93
 go_wp2_with fail
 obtain ⟨w1, hw1⟩ : ∃ w1 : World, w1 = w.alloc (.cells z32 60) := ⟨_, rfl⟩
 have hb1 : Below w.heap.size w w1 := by rw [hw1]; exact (Below.refl _ _).alloc (Nat.le_refl _) _
 have hz1 : w1.heap.size = w.heap.size + 1 := by rw [hw1]; simp
 rw [← hw1] at Hk0
 change Code.wp _ _ _ _ (w.alloc (.cells z32 60))
 rw [← hw1]
 clear hw1
 have hz1' := Lib.hid hz1; clear hz1
 go_loopg [3] 64 (fun m t wr => ∃ (j : Nat) (z : ByteArray), j ≤ zeros s.size ∧ m = 64 - j ∧ t = .string z ∧ z.data.toList = s.data.toList ++ (128 :: List.replicate j 0) ∧ w1 = wr)
 case atStart => exact ⟨0, s ++ ⟨#[128]⟩, by omega, rfl, rfl, by rw [app_toList]; rfl, rfl⟩
 case round =>
  obtain ⟨j, z, hj, rfl, rfl, hz, rfl⟩ := hrel
  have hzs : z.size = s.size + 1 + j := by
   have h1 : z.data.toList.length = z.size := rfl
   have h2 : s.data.toList.length = s.size := rfl
   rw [hz] at h1
   simp at h1
   omega
  have hzr : zeros s.size < 64 := Nat.mod_lt _ (by omega)
  have Hz := Lib.hid hz; clear hz
  have hok := zeros_ok s.size j hj
  by_cases hlt : j < zeros s.size
  ·have d1 : ((z.size : Int) % 64 != 56) = true := by
    rw [bne_iff_ne]
    intro h
    have : (s.size + 1 + j) % 64 = 56 := by omega
    rw [hok] at this
    omega
   have Hzs := Lib.hid hzs; clear hzs hok
   have hzb : z.size ≤ 1000100 := by rw [Hzs.out]; omega
   go_wp2_with fail
   go_roundg (64 - (j + 1))
   case measure => omega
   case rel => exact ⟨j + 1, z ++ ⟨#[0]⟩, by omega, rfl, rfl, by rw [app_toList, Hz.out]; simp [List.replicate_succ'], rfl⟩
  ·have d1 : ((z.size : Int) % 64 != 56) = false := by
    rw [bne_eq_false_iff_eq]
    have : (s.size + 1 + j) % 64 = 56 := by rw [hok]; omega
    omega
   obtain rfl : j = zeros s.size := by omega
   have Hzs := Lib.hid hzs; clear hzs hok
   have hzb : z.size ≤ 1000100 := by rw [Hzs.out]; omega
   go_wp2_with fail
   clear d1
   go_loopg [4, 5, 6] 8 (fun m b t i wr => ∃ (j : Nat) (y : ByteArray), j ≤ 8 ∧ m = 8 - j ∧ i = .int .i64 j ∧ b = .int .i64 (bitsAt s.size j) ∧ t = .string y ∧ y.data.toList = lenBk s.size j ∧ Below w1.heap.size w1 wr)
   case atStart => exact ⟨0, ⟨#[]⟩, by omega, rfl, rfl, by simp [bitsAt], rfl, rfl, by exact Below.refl _ _⟩
   case round =>
    obtain ⟨j, y, hj8, rfl, rfl, rfl, rfl, hy, hbr⟩ := hrel
    have hys : y.size ≤ 8 := by
     have h1 : y.data.toList.length = y.size := rfl
     rw [hy, lenBk_length] at h1
     omega
    have Hy := Lib.hid hy; clear hy
    by_cases hlt : j < 8
    ·have hbn := Lib.hid (bitsAt_next s.size j)
     have hli := lenByte_int s.size j
     have hble := bitsAt_le s.size j
     have Hlb : Hid (lenBk s.size (j + 1) = lenByte s.size j :: lenBk s.size j) := rfl
     generalize lenByte s.size j = lb at *
     generalize bitsAt s.size j = bb at *
     have hlb := lt_u8 lb
     have t1 : decide ((j : Int) < 8) = true := by simp; omega
     have hcv := run_str_of_row (P := Tryz.prog) (wr.alloc (.cells #[.int .u8 lb.toNat] 5)) 123 9 5 (.slice (some ⟨wr.heap.size, 0, none⟩) 1 1) 1 [lb] Tryz.underlying123 Tryz.underlying5 Tryz.underlying9 (Row.new wr 5 1 1 #[bv lb] (by simp [maxLen]) rfl)
     go_wp2_with fail
     go_roundg (8 - (j + 1))
     case measure => omega
     case rel => exact ⟨j + 1, ⟨#[lb]⟩ ++ y, by omega, rfl, by go_num, by rw [hbn.out], rfl, by rw [app_toList, Hy.out, Hlb.out]; rfl, hbr.alloc hbr.size _⟩
    ·obtain rfl : j = 8 := by omega
     have hTl : (z ++ y).data.toList = whole s.data.toList := by
      rw [app_toList, Hz.out, Hy.out, lenBk_eq]
      simp [whole, pad]
     have hTs : (z ++ y).size ≤ 1000200 := by rw [app_size]; omega
     have t1 : decide ((8 : Int) < 8) = false := by simp
     clear Hy Hz Hzs
     have hzy : z.size + y.size ≤ 1000200 := by rw [← app_size]; exact hTs
     go_wp2_with (go_at_call 139; (with_reducible refine (ref_constants _).mono ?_); rintro e w5 ⟨vk, rfl, hRk, hnk, hb5⟩)
     clear t1
     have hb2 : Below w1.heap.size w1 w5 := below_then (hbr.alloc hbr.size _) hb5 (Nat.le_refl _)
     have hRh : Row w5 3 1 (.slice (some ⟨wr.heap.size, 0, none⟩) 8 8) 8 (begin_.words.map iw) := (Row.new wr 3 1 8 (begin_.words.map iw).toArray (by simp [maxLen]) rfl).belowAll hb5
     have Hsh := Lib.hid (after_all s.data.toList)
     have hm64 := whole_length s.data.toList
     have hTz : (z ++ y).size = (whole s.data.toList).length := by rw [← hTl]; rfl
     generalize whole s.data.toList = WL at *
     generalize z ++ y = T at *
     obtain ⟨NB, hNB⟩ : ∃ NB, NB = WL.length / 64 := ⟨_, rfl⟩
     rw [← hNB] at Hsh
     have hT64 : T.size = 64 * NB := by omega
     have HTl := Lib.hid hTl
     have HT64 := Lib.hid hT64
     have Hkk : Hid (Reads w5 1 vk 64 (kTab.map iw)) := hRk.reads
     have hNB2 : NB ≤ 20000 := by omega
     clear hTl hT64 hm64 hTz hNB hRk hnk hzy
     go_loopg [7, 9] NB (fun m vh i wr => ∃ (j : Nat), j ≤ NB ∧ m = NB - j ∧ i = .int .i64 (64 * j : Nat) ∧ Row wr 3 1 vh 8 ((after WL j).words.map iw) ∧ Below w5.heap.size w5 wr)
     case atStart => exact ⟨0, by omega, rfl, rfl, hRh, Below.refl _ _⟩
     case round =>
      clear hRh
      obtain ⟨j, hj, rfl, rfl, hR, hb6⟩ := hrel
      have HR := Lib.hid hR; clear hR
      by_cases hlt : j < NB
      ·have hex : (T.extract (64 * j) (64 * j + 64)).data.toList = (WL.drop (64 * j)).take 64 := by
        rw [ByteArray.data_extract, Array.toList_extract, HTl.out]
        simp [List.extract]
       have hes : (T.extract (64 * j) (64 * j + 64)).size = 64 := by rw [ByteArray.size_extract, HT64.out]; omega
       have hbk := fun w h1 h2 => ref_block u7 vk (after WL j) (T.extract (64 * j) (64 * j + 64)) w hes h1 h2
       rw [hex, ← after_next] at hbk
       have Hbk := Lib.hid hbk; clear hbk hex hes
       have b1 : ((64 * j : Nat) : Int) < (T.size : Int) := by rw [HT64.out]; omega
       have b2 : ((64 * j : Nat) : Int) + 64 ≤ (T.size : Int) := by rw [HT64.out]; omega
       obtain ⟨J, hJ⟩ : ∃ J, 64 * j = J := ⟨_, rfl⟩
       rw [hJ] at b1 b2 Hbk
       have HJ := Lib.hid hJ
       rw [hJ]
       clear hJ
       have n1 : ((J : Int) + 64).toNat = J + 64 := by omega
       go_wp2_with (go_at_call 140; (with_reducible refine (Hbk.out _ HR.out.reads (Hkk.out.belowAll hb6)).mono ?_); rintro e w7 ⟨v7, rfl, hR7, hn7, hb7⟩)
       go_roundg (NB - (j + 1))
       case measure => omega
       case rel => exact ⟨j + 1, by omega, rfl, by rw [← HJ.out]; go_num, hR7, below_then hb6 hb7 (Nat.le_refl _)⟩
      ·obtain rfl : j = NB := by omega
       have d1 : decide (64 * j < T.size) = false := by rw [HT64.out]; simp
       obtain ⟨gh, oh, caph, rfl, hob, hc1, hc2, hcl, hfr⟩ := HR.out.form (by omega)
       unfold maxLen at hc2
       clear hob hcl hfr
       generalize after WL j = st at *
       have hbS := below_then hb2 hb6 (by have := hb2.size; omega)
       have kS := Blk.new wr 60 z32
       have HkS := Lib.hid kS; clear kS
       obtain ⟨wS, rfl⟩ : ∃ wS : World, wS = wr := ⟨_, rfl⟩
       obtain ⟨J, hJ⟩ : ∃ J, 64 * j = J := ⟨_, rfl⟩
       rw [hJ] at d1 ⊢
       go_wp2_with fail
       go_loopg [11] 32 (fun m i wr => ∃ (q : Nat), q ≤ 32 ∧ m = 32 - q ∧ i = .int .i64 q ∧ wr.rowIs wS.heap.size 60 32 (fun k => bv (if k < q then st.bytes.getD k 0 else 0)) ∧ Below wS.heap.size wS wr)
       case atStart => exact ⟨0, by omega, rfl, rfl, HkS.out.row rfl (fun i hi => z32_at i hi), (Below.refl _ _).alloc (Nat.le_refl _) _⟩
       case round =>
        obtain ⟨q, hq, rfl, rfl, hrow, hbq⟩ := hrel
        have Hrow := Lib.hid hrow; clear hrow
        by_cases hlq : q < 32
        ·have Kq := Lib.hid (iw_at st.words (q / 4) (by show q / 4 < 8; omega))
         have cq := (HR.out.belowAll hbq).at_ Kq.out
         have Hby := Lib.hid (Sha.bytes_at st q hlq)
         generalize st.words.getD (q / 4) 0 = y at *
         have q1 : (q : Int) / 4 < 8 := by omega
         have q2 : ((q : Int) / 4).toNat = q / 4 := by omega
         have q3 : (0 : Int) ≤ (q : Int) / 4 := by omega
         go_wp2_with fail
         obtain ⟨R, hR, hR3⟩ : ∃ R : Nat, (3 : Int) - (q : Int) % 4 = (R : Int) ∧ R ≤ 3 := ⟨3 - q % 4, by omega, by omega⟩
         have HR4 : Hid (q % 4 = 3 - R) := by show _ = _; omega
         have HyI := Lib.hid (byteOf_int y R hR3)
         obtain ⟨wq, rfl⟩ : ∃ wq : World, wq = wr := ⟨_, rfl⟩
         have hyb : y.toNat < 4294967296 := y.toNat_lt
         clear q1 q2 q3 cq
         go_loopg [12, 13] 3 (fun m x i wr => ∃ (n d : Nat), n ≤ R ∧ m = 3 - n ∧ i = .int .i64 n ∧ x = .int .i64 d ∧ d = y.toNat / 256 ^ n ∧ d ≤ 4294967295 ∧ wq = wr)
         case atStart => exact ⟨0, y.toNat, by omega, rfl, rfl, rfl, by simp, by omega, rfl⟩
         case round =>
          obtain ⟨n, d, hn, rfl, rfl, rfl, hd, hd2, rfl⟩ := hrel
          have Hd := Lib.hid hd; clear hd
          by_cases hln : n < R
          ·go_wp2_with fail
           go_roundg (3 - (n + 1))
           case measure => omega
           case rel => exact ⟨n + 1, d / 256, by omega, rfl, by go_num, by go_num, by rw [Hd.out, Nat.pow_succ, Nat.div_div_eq_div_mul], by omega, rfl⟩
          ·obtain rfl : n = R := by omega
           have t1 : decide (n < n) = false := by simp
           have Hb : Hid ((d : Int) % 256 = ((st.bytes.getD q 0).toNat : Int)) := by
            show _ = _
            rw [Hby.out, HR4.out, HyI.out, Hd.out, Int.natCast_ediv, Int.natCast_pow]
            rfl
           obtain ⟨bb, hbq0⟩ : ∃ bb, st.bytes.getD q 0 = bb := ⟨_, rfl⟩
           rw [hbq0] at Hb
           have Hbq := Lib.hid hbq0; clear hbq0
           have hbb := lt_u8 bb
           have hb' := Hb.out
           have cO := Hrow.out.cell (i := q) hlq
           have fO := Hrow.out.frozen (i := q)
           have jq : (q : Int) < 32 := by omega
           go_wp2_with fail
           go_roundg (32 - (q + 1))
           case measure => omega
           case rel =>
            refine ⟨q + 1, by omega, rfl, by go_num, ?_, hbq.setCell (Nat.le_refl _) _⟩
            refine (Hrow.out.set q _).congr (fun k hk => ?_)
            by_cases e : k = q
            ·rw [if_pos e, if_pos (by omega), e, Hbq.out]; rfl
            ·rw [if_neg e]
             by_cases h2 : k < q
             ·rw [if_pos h2, if_pos (by omega)]
             ·rw [if_neg h2, if_neg (by omega)]
        ·obtain rfl : q = 32 := by omega
         have t1 : decide ((32 : Int) < 32) = false := by simp
         have hl32 : st.bytes.length = 32 := rfl
         have hBS : Blk wr wS.heap.size 60 (st.bytes.map bv).toArray := Blk.of_row Hrow.out (by rw [sum_size hl32]) (fun i hi => by
          rw [if_pos hi, List.getElem?_toArray, List.getElem?_map, List.getElem?_eq_getElem (by omega)]
          simp [List.getD, List.getElem?_eq_getElem (show i < st.bytes.length by omega)])
         have HBS := Lib.hid hBS; clear hBS
         have hB0 : Blk wr w.heap.size 60 z32 := ((Hk0.out.belowAll hbS).belowAll hbq)
         have HB0 := Lib.hid hB0; clear hB0
         have Hl32 := Lib.hid hl32; clear hl32
         go_wp2_with (first
          | (refine wpList_load_blk rfl 60 (.tmp 10) rfl wS.heap.size rfl HBS.out Tryz.underlying60 rfl (by rw [sum_size Hl32.out]; exact info_sum) ?_)
          | (refine wpList_store_blk rfl 60 (.tmp 2) (.tmp 80) rfl w.heap.size (st.bytes.map bv).toArray rfl rfl HB0.out (by rw [sum_size Hl32.out]; exact info_sum) (by rw [sum_size Hl32.out]; rfl) (bv_one st.bytes) ?_; intro w10 hB10 hC10))
         refine bodyPost_ret (results_blk rfl _ _ w.heap.size rfl hB10 Tryz.underlying60 rfl (by rw [sum_size Hl32.out]; exact info_sum)) rfl ?_
         rw [← Hsh.out]
         have hz := hb1.size
         have b1 := below_then (below_then hb1 hbS (by omega)) hbq (Nat.le_refl _)
         exact ⟨rfl, ((Chg.of_below b1 (fun _ => False)).next hC10 (fun i h => .inr (by omega))).belowAll⟩
end Go.Proofs.YtnlabkogebnioaaGreatDoor
namespace Go.Proofs.YtnlabkogebnioaaGreatDoor
open Go.RowKit Sha
theorem ref_Of_list (s : List UInt8) (w : World) (hs : s.length ≤ 1000000) : Calls Tryz.prog 93 #[str s] w fun e w' => e = .returned (.agg ((sha s).map bv).toArray) ∧ Below w.heap.size w w' := by
 have := ref_Of ⟨s.toArray⟩ w (by show s.toArray.size ≤ _; simpa using hs)
 exact this
theorem sum_cell {a : List UInt8} {i : Nat} (h : i < a.length) : (a.map bv).toArray.toList[0 + i * 1]? = some (bv (a.getD i 0)) := by
 simp [List.getElem?_eq_getElem h, List.getD_eq_getElem?_getD]
theorem RSum_any (d : List UInt8) (w : World) (hd : d.length ≤ 1000000) : Calls Tryz.prog 46 #[str d] w fun e w' => e = .returned (str (sha d)) ∧ Below w.heap.size w w' := by
 have hs := sha_length d
 refine W_enter (args := [str d]) 20 Tryz.func46 rfl rfl rfl (W_sub [(0, str d)] ?_ ⟨rfl, trivial⟩)
 have hbw := Below.refl w.heap.size w
 refine W_rs (sa rfl rfl (Wn (tN (W_rs (sm rfl rfl (sc _ Tryz.func93 rfl (by kernel_rfl) rfl rfl ((ref_Of_list d _ hd).mono ?_)))))))
 rintro e_ w1 ⟨rfl, hb⟩
 refine cR ?_
 replace hbw := bthen hbw hb
 have hz_w1 := hb.size
 clear hb
 refine salA inf60 rfl (fun g3 w2 hB3 hg3 hb hl3 => ?_)
 replace hbw := bthen hbw hb
 have hz_w2 := hb.size
 clear hb
 refine ssBN rfl rfl hB3 (by rw [sumSize hs]; exact siz60) (by rw [sumSize hs]; rfl) (sumOne _) (fun w3 hB_ hc_ => ?_)
 replace hB3 := hB_
 replace hbw := bset hbw hc_ (by omega)
 clear hB_ hc_
 refine Wn (tN (W_rs (sa rfl rfl (Wn (tN (W_seq (W_rs (sa rfl rfl (Wn (tN ?_))))))))))
 refine W_block (W_lp (fun nw4_ lw4_ w4 => ∃ i : Nat, nw4_ = 32 - i ∧ lw4_ = ([(3, .pointer (some ⟨g3, 0, none⟩)), (4, str ((sha d).take i)), (5, .int .i64 i)] : Env) ∧ (i ≤ 32) ∧ (Blk w4 g3 60 ((sha d).map bv).toArray) ∧ (Below w.heap.size w w4)) _ ⟨_, ⟨0, rfl, rfl, by omega, hB3, hbw⟩, ⟨rfl, rfl, rfl, trivial⟩⟩ ?_)
 clear hB3 hbw
 rintro nw4_ lw4_ w4 ⟨i, rfl, rfl, hi, hB3, hbw⟩
 have hz_w4 := hbw.size
 have hlt_hB3_w4 := hB3.lt
 refine W_seq (W_rs (sm rfl rfl (st (X.lss rfl rfl) rfl (Wn (tN (W_if rfl (fun h9 => ?_) (fun h9 => ?_)))))))
 ·first | replace h9 := of_decide_eq_true h9 | replace h9 := of_decide_eq_false (notT h9) | replace h9 := notT h9 | skip
  refine W_skip (tN (W_seq (W_block (W_reg (sm rfl rfl (sm rfl rfl (st (X.idxArr (j := i) rfl rfl Tryz.underlying60 siz5 rfl (by omega)) rfl (st (X.ldL (v := bv ((sha d).getD i 0)) rfl hB3 Tryz.underlying5 rfl (sum_cell (by omega))) rfl (sbs1 rfl Tryz.underlying123 inf5 rfl rfl (by decide) (by decide) rfl (fun g16 w5 hR16 hg16 hb => ?_))))))))))
  replace hbw := bthen hbw hb
  replace hB3 := hB3.bel hb
  have hz_w5 := hb.size
  clear hb
  have hl16 := hR16.blt (by decide)
  refine st (X.strOf (s := [(sha d).getD i 0]) rfl Tryz.underlying123 Tryz.underlying5 Tryz.underlying9 hR16.reads) rfl (st (X.cat rfl rfl (by rw [List.length_take]; simp; omega)) rfl ?_)
  have htk : (sha d).take i ++ [(sha d).getD i 0] = (sha d).take (i + 1) := by
   rw [List.take_add_one, List.getElem?_eq_getElem (by omega)]
   simp [List.getD_eq_getElem?_getD, List.getElem?_eq_getElem (show i < (sha d).length by omega)]
  rw [htk]
  refine sa rfl rfl (Wn (bN (tN (W_reg (sm rfl rfl (st (X.add64 rfl rfl (by omega)) rfl (sa rfl rfl (Wn (tN ⟨_, _, ?_, ⟨i + 1, rfl, rfl, by omega, hB3, hbw⟩, ⟨rfl, rfl, rfl, trivial⟩⟩)))))))))
  omega
 ·first | replace h9 := of_decide_eq_false h9 | replace h9 := of_decide_eq_true (notF h9) | replace h9 := notF h9 | skip
  refine W_exit (tE (tE (bH (tN (W_rs (sm rfl rfl (sa rfl rfl (Wn (tN (W_ret ?_))))))))))
  obtain rfl : i = 32 := by omega
  rw [show (sha d).take 32 = sha d from List.take_of_length_le (by omega)]
  exact (rT rfl rfl ⟨rfl, hbw⟩).1
def hadI : Nat → List Ent → List UInt8 → Int
  | _, [], _ => -1
  | i, e :: l, a => if e.sum = a then (i : Int) else hadI (i + 1) l a
theorem hadI_drop {l : List Ent} {i : Nat} {e : Ent} (h : l[i]? = some e) (a : List UInt8) : hadI i (l.drop i) a = if e.sum = a then (i : Int) else hadI (i + 1) (l.drop (i + 1)) a := by
 obtain ⟨hi, rfl⟩ := List.getElem?_eq_some_iff.1 h
 rw [List.drop_eq_getElem_cons hi, hadI]
theorem hadI_cases (a : List UInt8) : ∀ (l : List Ent) (k : Nat), (hadI k l a = -1 ∧ findM l a = none) ∨ ∃ i e, hadI k l a = ((k + i : Nat) : Int) ∧ l[i]? = some e ∧ e.sum = a ∧ findM l a = some e
 | [], _ => .inl ⟨rfl, rfl⟩
 | x :: l, k => by
  rw [hadI]
  by_cases h : x.sum = a
  ·right
   refine ⟨0, x, by rw [if_pos h]; rfl, rfl, h, ?_⟩
   unfold findM
   exact List.find?_cons_of_pos (by simpa using h)
  ·rw [if_neg h]
   have e : findM (x :: l) a = findM l a := by
    unfold findM
    exact List.find?_cons_of_neg (by simpa using h)
   rw [e]
   rcases hadI_cases a l (k + 1) with h1 | ⟨i, y, h1, h2, h3, h4⟩
   ·exact .inl h1
   ·exact .inr ⟨i + 1, y, by rw [h1]; omega, h2, h3, h4⟩
theorem hadM_find (l : List Ent) (a : List UInt8) : hadM l a = (findM l a).isSome := by
 unfold hadM findM
 rw [List.isSome_find?]
theorem hadI_neg (l : List Ent) (a : List UInt8) : decide (hadI 0 l a < 0) = !hadM l a := by
 rw [hadM_find]
 rcases hadI_cases a l 0 with ⟨h1, h2⟩ | ⟨i, e, h1, _, _, h2⟩
 ·rw [h1, h2]; rfl
 ·rw [h1, h2]; simp
theorem Rhad_any (v : Value) (l : List Ent) (a : List UInt8) (w : World) (h : REnts w v l) : Calls Tryz.prog 47 #[v, str a] w fun e w' => e = .returned (.int .i64 (hadI 0 l a)) ∧ Below w.heap.size w w' := by
 obtain ⟨p, cp, rfl, hn, hcp⟩ := h.shape
 refine W_enter (args := [.slice p l.length cp, str a]) 20 Tryz.func47 rfl rfl rfl (W_sub [(0, .slice p l.length cp), (1, str a)] ?_ ⟨rfl, rfl, trivial⟩)
 have hbw := Below.refl w.heap.size w
 refine W_rs (sa rfl rfl (Wn (tN (W_seq (W_rs (sa rfl rfl (Wn (tN (W_block (W_lp (fun nw1_ lw1_ w1 => ∃ j : Nat, nw1_ = l.length - j ∧ lw1_ = ([(0, .slice p l.length cp), (1, str a), (5, .int .i64 j)] : Env) ∧ (j ≤ l.length) ∧ (hadI 0 l a = hadI j (l.drop j) a) ∧ (Below w.heap.size w w1)) _ ⟨_, ⟨0, rfl, rfl, by omega, rfl, hbw⟩, ⟨rfl, rfl, rfl, trivial⟩⟩ ?_))))))))))
 clear hbw
 rintro nw1_ lw1_ w1 ⟨j, rfl, rfl, hj, hq, hbw⟩
 have hz_w1 := hbw.size
 refine W_seq (W_rs (sm rfl rfl (sm rfl rfl (st (X.lenL rfl rfl Tryz.underlying29) rfl (st (X.lss rfl rfl) rfl (Wn (tN (W_if rfl (fun h9 => ?_) (fun h9 => ?_)))))))))
 ·first | replace h9 := of_decide_eq_true h9 | replace h9 := of_decide_eq_false (notT h9) | replace h9 := notT h9 | skip
  obtain ⟨x, hx⟩ : ∃ x, l[j]? = some x := ⟨_, List.getElem?_eq_getElem (by omega)⟩
  obtain ⟨g1, o1, c', hv, hg1⟩ := (h.bel hbw).some_ (by omega)
  injection hv with e1 _ e3
  subst e1 e3
  refine W_skip (tN (W_seq (W_block (W_rs (sm rfl rfl (sm rfl rfl (st (X.idxA rfl rfl Tryz.underlying29 siz103 rfl (by omega)) rfl (st (X.fa fa103_0 rfl) rfl (st (X.ld rfl Tryz.underlying9 rfl (REnts.range (h.bel hbw) hx 0 _ rfl)) rfl (sm rfl rfl ?_))))))))))
  refine st (X.eqS rfl rfl) rfl (Wn (tN (W_if rfl (fun h18 => ?_) (fun h18 => ?_))))
  ·first | replace h18 := of_decide_eq_true h18 | replace h18 := of_decide_eq_false (notT h18) | replace h18 := notT h18 | skip
   refine W_rs (sm rfl rfl (sa rfl rfl (Wn (tN (W_ret (bR (tR (tR (bR (tR ((rT rfl rfl ⟨?_, hbw⟩).1)))))))))))
   rw [hq, hadI_drop hx, if_pos h18]
  ·first | replace h18 := of_decide_eq_false h18 | replace h18 := of_decide_eq_true (notF h18) | replace h18 := notF h18 | skip
   refine W_skip (bN (tN (W_reg (sm rfl rfl (st (X.add64 rfl rfl (by omega)) rfl (sa rfl rfl (Wn (tN ⟨_, _, ?_, ⟨j + 1, rfl, rfl, by omega, by rw [hq, hadI_drop hx, if_neg h18], hbw⟩, ⟨rfl, rfl, rfl, trivial⟩⟩))))))))
   omega
 ·first | replace h9 := of_decide_eq_false h9 | replace h9 := of_decide_eq_true (notF h9) | replace h9 := notF h9 | skip
  obtain rfl : j = l.length := by omega
  refine W_exit (tE (tE (bH (tN (W_rs (sa rfl rfl (Wn (tN (W_ret ((rT rfl rfl ⟨?_, hbw⟩).1))))))))))
  rw [hq, List.drop_length]
  rfl
theorem RSorted_any (v : Value) (l : List Ent) (w : World) (h : REnts w v l) (hl : l.length ≤ 1000000) : Calls Tryz.prog 14 #[v] w fun e w' => ∃ u, e = .returned u ∧ REnts w' u (makeM l).1 ∧ Below w.heap.size w w' := by
 obtain ⟨p, cp, rfl, hn, hcp⟩ := h.shape
 refine W_enter (args := [.slice p l.length cp]) 11 Tryz.func14 rfl rfl rfl (W_sub [(0, .slice p l.length cp)] ?_ ⟨rfl, trivial⟩)
 have hbw := Below.refl w.heap.size w
 refine W_rs (sa rfl rfl (Wn (tN (W_rs (sm rfl rfl (sc _ Tryz.func50 rfl (by kernel_rfl) rfl rfl ((RMake_any _ l _ h hl).mono ?_)))))))
 rintro e_ w1 ⟨u, rfl, hR, hb⟩
 refine cR ?_
 replace hbw := bthen hbw hb
 have hz_w1 := hb.size
 clear hb
 refine sm rfl rfl (st (X.ext rfl rfl) rfl (st (X.ext rfl rfl) rfl (sa rfl rfl (sa rfl rfl (Wn (tN (W_rs (sm rfl rfl (sa rfl rfl (Wn ?_))))))))))
 refine tN (W_ret ?_)
 exact (rT rfl rfl ⟨u, rfl, hR, hbw⟩).1
end Go.Proofs.YtnlabkogebnioaaGreatDoor
namespace Go.Proofs.YtnlabkogebnioaaGreatDoor
open Go.RowKit Sha
theorem bfz (w : World) : (Instr.build 31 #[]).run Tryz.prog w = .ok (.agg #[.slice none 0 0, .int .i64 0, .bool false]) w := by kernel_rfl
theorem bfg (w : World) (m : Int) : (Instr.build 31 #[(1, .int .i64 m)]).run Tryz.prog w = .ok (.agg #[.slice none 0 0, .int .i64 m, .bool false]) w := by kernel_rfl
def RFoundPost (w : World) (r : Scn × Int) (e : Ending) (w' : World) : Prop :=
  ∃ u, e = .returned (.tuple #[.agg #[u, .int .i64 r.1.good, .bool r.1.whole], .int .i64 r.2]) ∧ REnts w' u r.1.l ∧ (∀ k, u.ownBlock = some k → w.heap.size ≤ k) ∧ Below w.heap.size w w'
theorem rfound_bad {w w' : World} {s : List UInt8} {n c : Int} (h : scanP s n = (⟨[], 0, false⟩, c)) (hb : Below w.heap.size w w') : RFoundPost w (scanP s n) (.returned (.tuple #[.agg #[.slice none 0 0, .int .i64 0, .bool false], .int .i64 c])) w' := by
 rw [h]
 exact ⟨_, rfl, REnts.nil _, fun k hk => by simp [Value.ownBlock] at hk, hb⟩
theorem takeP_2 {n : Int} {x : Scn} {k : UInt8} {b : List UInt8} {z : Nat} (hk : k = 2) : takeP n x k b z = if openB b = true ∧ hadM x.l (b.take 32) = false then some ⟨x.l ++ [entP n x b], x.good + z, x.whole⟩ else none := by
 unfold takeP; rw [if_pos hk]
theorem takeP_3 {n : Int} {x : Scn} {k : UInt8} {b : List UInt8} {z : Nat} (hk : k = 3) : takeP n x k b z = if b = four x.l.length then some ⟨x.l, x.good + z, true⟩ else none := by
 unfold takeP; rw [if_neg (by rw [hk]; decide), if_pos hk]
theorem takeP_4 {n : Int} {x : Scn} {k : UInt8} {b : List UInt8} {z : Nat} (h2 : k ≠ 2) (h3 : k ≠ 3) : takeP n x k b z = none := by
 unfold takeP; rw [if_neg h2, if_neg h3]
theorem u8_of {k : UInt8} {m : Nat} (hm : m < 256) (h : (k.toNat : Int) = (m : Int)) : k = UInt8.ofNat m := by
 apply UInt8.toNat.inj
 rw [UInt8.toNat_ofNat']
 omega
set_option maxRecDepth 10000 in
theorem RScan_any (s : List UInt8) (n : Int) (w : World) (hs : s.length ≤ 1099511627776) : Calls Tryz.prog 11 #[str s, .int .i64 n] w (RFoundPost w (scanP s n)) := by
 refine W_enter (args := [str s, .int .i64 n]) 114 Tryz.func11 rfl rfl rfl (W_sub [(0, str s), (1, .int .i64 n)] ?_ ⟨rfl, rfl, trivial⟩)
 have hbw := Below.refl w.heap.size w
 refine W_rs (salA inf31 rfl (fun g4 w1 hB4 hg4 hb hl4 => ?_))
 replace hbw := bthen hbw hb
 have hz_w1 := hb.size
 clear hb
 refine sa rfl rfl (Wn (tN (W_seq (W_rs (sm rfl rfl (st (X.lss rfl rfl) rfl (sb rfl rfl (fun h13 => ?_) (fun h13 => ?_))))))))
 ·first | replace h13 := of_decide_eq_true h13 | replace h13 := of_decide_eq_false (notT h13) | replace h13 := notT h13 | skip
  refine gN (g := 13) rfl rfl rfl rfl (gN (g := 13) rfl rfl rfl rfl (st (X.pickT rfl rfl) rfl (Wn (tN (W_yes rfl (rfl) (W_rs (st (X.bld rfl (bfz _)) rfl (ssBN rfl rfl hB4 siz31 rfl rfl (fun w2 hB_ hc_ => ?_)))))))))
  replace hB4 := hB_
  clear hB_
  replace hbw := bset hbw hc_ (by omega)
  have hz_w2 := hc_.size
  clear hc_
  refine sa rfl rfl (Wn (tN (W_ret (tR ((rCT rfl rfl hB4 Tryz.underlying31 rfl siz31 rfl (rfound_bad ?_ hbw)).1)))))
  unfold scanP
  rw [if_pos (by unfold rightP; rw [decide_eq_false_iff_not]; omega)]
 ·first | replace h13 := of_decide_eq_false h13 | replace h13 := of_decide_eq_true (notF h13) | replace h13 := notF h13 | skip
  refine gY (g := 13) rfl rfl rfl (sm rfl rfl (gY (g := 13) rfl rfl rfl (st (X.gtr rfl rfl) rfl (st (X.pickF rfl rfl) rfl (Wn (tN (W_if rfl (fun h16 => ?_) (fun h16 => ?_))))))))
  ·first | replace h16 := of_decide_eq_true h16 | replace h16 := of_decide_eq_false (notT h16) | replace h16 := notT h16 | skip
   refine W_rs (st (X.bld rfl (bfz _)) rfl (ssBN rfl rfl hB4 siz31 rfl rfl (fun w3 hB_ hc_ => ?_)))
   replace hB4 := hB_
   clear hB_
   replace hbw := bset hbw hc_ (by omega)
   have hz_w3 := hc_.size
   clear hc_
   refine sa rfl rfl (Wn (tN (W_ret (tR ((rCT rfl rfl hB4 Tryz.underlying31 rfl siz31 rfl (rfound_bad ?_ hbw)).1)))))
   unfold scanP
   rw [if_pos (by unfold rightP; rw [decide_eq_false_iff_not]; omega)]
  ·first | replace h16 := of_decide_eq_false h16 | replace h16 := of_decide_eq_true (notF h16) | replace h16 := notF h16 | skip
   have hr : ¬ rightP n = false := by unfold rightP; rw [decide_eq_false_iff_not]; omega
   have hn0 : 0 ≤ n ∧ n ≤ 999999 := by omega
   refine W_skip (tN (W_rs (sm rfl rfl ?_)))
   have hNx := Next_ref s w1 hs
   obtain ⟨⟨k0, b0, z0, e0⟩, hnm0⟩ : ∃ r, nextM s = r := ⟨_, rfl⟩
   rw [hnm0] at hNx
   simp only [nextV] at hNx
   refine sc _ Tryz.func44 rfl (by kernel_rfl) rfl rfl ((hNx).mono ?_)
   rintro e_ w4 ⟨rfl, hb⟩
   refine cR ?_
   replace hbw := bthen hbw hb
   replace hB4 := hB4.bel hb
   have hz_w4 := hb.size
   clear hb
   refine sm rfl rfl (st (X.ext rfl rfl) rfl (st (X.ext rfl rfl) rfl (st (X.ext rfl rfl) rfl (st (X.ext rfl rfl) rfl (sa rfl rfl (sa rfl rfl (sa rfl rfl (sa rfl rfl (Wn (tN ?_))))))))))
   refine W_seq (W_rs (sm rfl rfl (st (X.neq rfl rfl) rfl (sb rfl rfl (fun h27 => ?_) (fun h27 => ?_)))))
   ·first | replace h27 := of_decide_eq_true h27 | replace h27 := of_decide_eq_false (notT h27) | replace h27 := notT h27 | skip
    refine gN (g := 27) rfl rfl rfl rfl (gN (g := 27) rfl rfl rfl rfl (st (X.pickT rfl rfl) rfl (sm rfl rfl (gN (g := 31) rfl rfl rfl rfl (gN (g := 31) rfl rfl rfl rfl (gN (g := 31) rfl rfl rfl rfl (gN (g := 31) rfl rfl rfl rfl (st (X.pickT rfl rfl) rfl (Wn (tN ?_))))))))))
    refine W_yes rfl (rfl) (W_rs (st (X.bld rfl (bfz _)) rfl (ssBN rfl rfl hB4 siz31 rfl rfl (fun w5 hB_ hc_ => ?_))))
    replace hB4 := hB_
    clear hB_
    replace hbw := bset hbw hc_ (by omega)
    have hz_w5 := hc_.size
    clear hc_
    refine sa rfl rfl (Wn (tN (W_ret (tR ((rCT rfl rfl hB4 Tryz.underlying31 rfl siz31 rfl (rfound_bad ?_ hbw)).1)))))
    have hh : headP n s = false := by
     unfold headP
     rw [hnm0, decide_eq_false_iff_not]
     rintro ⟨h1, h2, h3⟩
     exact h27 h1
    unfold scanP
    rw [if_neg hr, if_pos hh]
   ·first | replace h27 := of_decide_eq_false h27 | replace h27 := of_decide_eq_true (notF h27) | replace h27 := notF h27 | skip
    refine gY (g := 27) rfl rfl rfl (sm rfl rfl (gY (g := 27) rfl rfl rfl (st (X.neq rfl rfl) rfl (st (X.pickF rfl rfl) rfl (sb rfl rfl (fun h31 => ?_) (fun h31 => ?_))))))
    ·first | replace h31 := of_decide_eq_true h31 | replace h31 := of_decide_eq_false (notT h31) | replace h31 := notT h31 | skip
     refine gN (g := 31) rfl rfl rfl rfl (gN (g := 31) rfl rfl rfl rfl (gN (g := 31) rfl rfl rfl rfl (gN (g := 31) rfl rfl rfl rfl (st (X.pickT rfl rfl) rfl (Wn (tN (W_yes rfl (rfl) (W_rs (st (X.bld rfl (bfz _)) rfl (ssBN rfl rfl hB4 siz31 rfl rfl (fun w6 hB_ hc_ => ?_)))))))))))
     replace hB4 := hB_
     clear hB_
     replace hbw := bset hbw hc_ (by omega)
     have hz_w6 := hc_.size
     clear hc_
     refine sa rfl rfl (Wn (tN (W_ret (tR ((rCT rfl rfl hB4 Tryz.underlying31 rfl siz31 rfl (rfound_bad ?_ hbw)).1)))))
     have hh : headP n s = false := by
      unfold headP
      rw [hnm0, decide_eq_false_iff_not]
      rintro ⟨h1, h2, h3⟩
      exact h31 (by have h2 : k0 = 1 := h2; rw [h2]; rfl)
     unfold scanP
     rw [if_neg hr, if_pos hh]
    ·first | replace h31 := of_decide_eq_false h31 | replace h31 := of_decide_eq_true (notF h31) | replace h31 := notF h31 | skip
     refine gY (g := 31) rfl rfl rfl (sm rfl rfl (gY (g := 31) rfl rfl rfl (sm rfl rfl (gY (g := 31) rfl rfl rfl (sc _ Tryz.func45 rfl (by kernel_rfl) rfl rfl ((Num_any n _ (by omega) (by omega)).mono ?_))))))
     rintro e_ w7 ⟨rfl, hb⟩
     refine cR ?_
     replace hbw := bthen hbw hb
     replace hB4 := hB4.bel hb
     have hz_w7 := hb.size
     clear hb
     refine gY (g := 31) rfl rfl rfl (st (X.neS rfl rfl) rfl (st (X.pickF rfl rfl) rfl (Wn (tN (W_if rfl (fun h36 => ?_) (fun h36 => ?_))))))
     ·first | replace h36 := of_decide_eq_true h36 | replace h36 := of_decide_eq_false (notT h36) | replace h36 := notT h36 | skip
      refine W_rs (st (X.bld rfl (bfz _)) rfl (ssBN rfl rfl hB4 siz31 rfl rfl (fun w8 hB_ hc_ => ?_)))
      replace hB4 := hB_
      clear hB_
      replace hbw := bset hbw hc_ (by omega)
      have hz_w8 := hc_.size
      clear hc_
      refine sa rfl rfl (Wn (tN (W_ret (tR ((rCT rfl rfl hB4 Tryz.underlying31 rfl siz31 rfl (rfound_bad ?_ hbw)).1)))))
      have hh : headP n s = false := by
       unfold headP
       rw [hnm0, decide_eq_false_iff_not]
       rintro ⟨h1, h2, h3⟩
       exact h36 h3
      unfold scanP
      rw [if_neg hr, if_pos hh]
     ·first | replace h36 := of_decide_eq_false h36 | replace h36 := of_decide_eq_true (notF h36) | replace h36 := notF h36 | skip
      have hh : headP n s = true := by
       unfold headP
       rw [hnm0, decide_eq_true_eq]
       exact ⟨Decidable.of_not_not h27, u8_of (m := 1) (by decide) (Decidable.of_not_not h31), Decidable.of_not_not h36⟩
      have hok0 := SOk.start hh
      have hsc : scanP s n = (scanPN n s s.length ⟨[], z0, false⟩, 0) := by
       unfold scanP
       rw [if_neg hr, if_neg (by rw [hh]; decide), hnm0]
      have hz0 : 0 < z0 := by
       have := nextM_len (s := s) (by rw [hnm0]; exact Decidable.of_not_not h27)
       rw [hnm0] at this
       have h5 := this.1
       simp only at h5
       omega
      rw [hnm0] at hok0
      refine W_skip (tN (W_rs (sm rfl rfl (st (X.bld rfl (bfg _ _)) rfl (salA inf31 rfl (fun g10 w9 hB10 hg10 hb hl10 => ?_))))))
      replace hbw := bthen hbw hb
      replace hB4 := hB4.bel hb
      have hz_w9 := hb.size
      clear hb
      refine ssBN rfl rfl hB10 siz31 rfl rfl (fun w10 hB_ hc_ => ?_)
      replace hB10 := hB_
      clear hB_
      replace hB4 := hB4.chg hc_ (by first | (show ¬ _ = _; omega) | (intro k_ hk_; simp [Value.ownBlock] at hk_; subst hk_; show ¬ _ = _; omega) | assumption | trivial)
      replace hbw := bset hbw hc_ (by omega)
      have hz_w10 := hc_.size
      clear hc_
      refine Wn (tN (W_seq (W_block (W_lp (fun nw11_ lw11_ w11 => ∃ x : Scn, ∃ v : Value, ∃ m : Nat, nw11_ = s.length - x.good ∧ lw11_ = ([(0, str s), (1, .int .i64 n), (4, .pointer (some ⟨g4, 0, none⟩)), (10, .pointer (some ⟨g10, 0, none⟩))] : Env) ∧ (∀ k, v.ownBlock = some k → w.heap.size ≤ k) ∧ (Blk w11 g4 31 #[.slice none 0 0, .int .i64 0, .bool false]) ∧ (Blk w11 g10 31 #[v, .int .i64 (x.good : Nat), .bool x.whole]) ∧ (Row w11 103 4 v x.l.length (x.l.flatMap recE)) ∧ (SOk s n x) ∧ (scanP s n = (scanPN n s m x, 0)) ∧ (s.length < m + x.good) ∧ (Below w.heap.size w w11)) _ ⟨_, ⟨⟨[], z0, false⟩, .slice none 0 0, s.length, rfl, rfl, by simp [Value.ownBlock], hB4, hB10, Row.nil _ _ _, hok0, hsc, by simp; omega, hbw⟩, ⟨rfl, rfl, rfl, rfl, trivial⟩⟩ ?_))))
      clear hB4 hB10 hbw
      rintro nw11_ lw11_ w11 ⟨x, v, m, rfl, rfl, hvo, hB4, hB10, hR, hok, heqm, hm, hbw⟩
      have hz_w11 := hbw.size
      have hlt_hB4_w11 := hB4.lt
      have hlt_hB10_w11 := hB10.lt
      have hgd := hok.g
      obtain ⟨av, cv, rfl, _, _⟩ := hR.shape
      have hll := hok.l
      obtain ⟨⟨k, b, z, e⟩, hnm⟩ : ∃ r, nextM (s.drop x.good) = r := ⟨_, rfl⟩
      have hst : stepP n s x = if x.whole = true then none else if e ≠ 0 then none else takeP n x k b z := by unfold stepP; rw [hnm]
      have hbl : b.length ≤ s.length := by
       have hl : (nextM (s.drop x.good)).2.1.length ≤ (s.drop x.good).length := nextM_body _
       rw [hnm, List.length_drop] at hl
       simp only at hl
       omega
      have hzl : e = 0 → x.good + z ≤ s.length := fun he => by
       have := nextM_len (s := s.drop x.good) (by rw [hnm]; exact he)
       rw [hnm, List.length_drop] at this
       have := this.2
       simp only at this
       omega
      refine W_seq (W_rs (st (X.fa fa31_2 rfl) rfl (st (X.ldL rfl hB10 Tryz.underlying4 rfl rfl) rfl (st (X.not rfl) rfl (Wn (tN (W_if rfl (fun h42 => ?_) (fun h42 => ?_))))))))
      ·first | replace h42 := of_decide_eq_true h42 | replace h42 := of_decide_eq_false (notT h42) | replace h42 := notT h42 | skip
       have hwf : x.whole = false := by cases h : x.whole with | false => rfl | true => rw [h] at h42; exact absurd h42 (by decide)
       refine W_skip (tN (W_block (W_rs (sm rfl rfl (st (X.fa fa31_1 rfl) rfl (st (X.ldL rfl hB10 Tryz.underlying3 rfl rfl) rfl (st (X.fromS (i := x.good) rfl rfl Tryz.underlying9 rfl hgd) rfl ?_)))))))
       have hNx := Next_ref (s.drop x.good) w11 (by rw [List.length_drop]; omega)
       rw [hnm] at hNx
       simp only [nextV] at hNx
       refine sc _ Tryz.func44 rfl (by kernel_rfl) rfl rfl ((hNx).mono ?_)
       rintro e_ w12 ⟨rfl, hb⟩
       refine cR ?_
       replace hbw := bthen hbw hb
       replace hB4 := hB4.bel hb
       replace hB10 := hB10.bel hb
       replace hR := hR.bel hb
       have hz_w12 := hb.size
       clear hb
       refine sm rfl rfl (st (X.ext rfl rfl) rfl (st (X.ext rfl rfl) rfl (st (X.ext rfl rfl) rfl (st (X.ext rfl rfl) rfl (sa rfl rfl (sa rfl rfl (sa rfl rfl (sa rfl rfl (Wn (tN ?_))))))))))
       refine W_seq (W_rs (sm rfl rfl (st (X.neq rfl rfl) rfl (Wn (tN (W_if rfl (fun h54 => ?_) (fun h54 => ?_)))))))
       ·first | replace h54 := of_decide_eq_true h54 | replace h54 := of_decide_eq_false (notT h54) | replace h54 := notT h54 | skip
        have hst0 : stepP n s x = none := by rw [hst, if_neg (by rw [hwf]; decide), if_pos h54]
        refine W_exit (tE (bM rfl (tE (bH (tN (W_rs ?_))))))
        rw [heqm, scanPN_none hst0]
        refine st (X.ldBN rfl hB10 Tryz.underlying31 rfl siz31) rfl (ssBN rfl rfl hB4 siz31 rfl (by simp [Value.oneCell']) (fun w13 hB_ hc_ => ?_))
        have hne2 := hR.ne2 hB4 (by decide)
        replace hR := hR.chg hc_ (fun k hk e => hne2 k hk e)
        replace hB4 := hB_
        replace hbw := bset hbw hc_ (by omega)
        have hz_w13 := hc_.size
        clear hB_ hc_ hB10
        refine sa rfl rfl (Wn (tN (W_ret ?_)))
        exact (rCT rfl rfl hB4 Tryz.underlying31 rfl siz31 rfl ⟨_, rfl, hR.reads, hvo, hbw⟩).1
       ·first | replace h54 := of_decide_eq_false h54 | replace h54 := of_decide_eq_true (notF h54) | replace h54 := notF h54 | skip
        have he0 : e = 0 := Decidable.of_not_not h54
        have hst1 : stepP n s x = takeP n x k b z := by rw [hst, if_neg (by rw [hwf]; decide), if_neg h54]
        refine W_skip (tN (W_seq ?_))
        by_cases hsp0_ : k = 2
        rotate_left
        ·refine W_drsN (fun W_ => Blk W_ g10 31 #[.slice av x.l.length cv, .int .i64 (x.good : Nat), .bool x.whole] ∧ REnts W_ (.slice av x.l.length cv) x.l) [0, 1, 2, 3, 4, 5, 6, 7, 8, 9, 10, 11, 12, 13, 14, 16, 17, 15, 18, 19, 20, 21, 22, 23, 24, 25, 26, 27] [true, true, true, true, true, true, true, true, true, true, true, true, true, true, true, true, true, false, true, true, true, true, true, true, true, false, true, true] (by kernel_rfl) (by kernel_rfl) (⟨hB10.drew, hR.reads.bel (bdrew (Below.refl _ _))⟩) ?_
         obtain ⟨w14, hw_⟩ : ∃ w14 : World, w14 = World.drew w12 := ⟨_, rfl⟩
         rw [← hw_]
         have hb : Below w12.heap.size w12 w14 := by rw [hw_]; exact bdrew (Below.refl _ _)
         clear hw_
         have hS := hb
         replace hbw := bthen hbw hb
         replace hB4 := hB4.bel hb
         replace hB10 := hB10.bel hb
         replace hR := hR.bel hb
         have hz_w14 := hb.size
         clear hb
         refine oY rfl (fun W_ hW_ => (X.move rfl)) rfl (oY rfl (fun W_ hW_ => (X.eql rfl rfl)) rfl (oY rfl (fun W_ hW_ => (X.mvB (c := false) rfl (decide_eq_false (fun e => hsp0_ (u8_of (m := 2) (by decide) e))))) rfl (oNg (g := 57) rfl rfl rfl rfl (⟨hB10, hR.reads⟩) rfl (oNg (g := 57) rfl rfl rfl rfl (⟨hB10, hR.reads⟩) rfl (oNg (g := 57) rfl rfl rfl rfl (⟨hB10, hR.reads⟩) rfl (oY rfl (fun W_ hW_ => (X.pickF rfl rfl)) rfl (oY rfl (fun W_ hW_ => (X.mvB (c := false) rfl (rfl))) rfl (oNg (g := 62) rfl rfl rfl rfl (⟨hB10, hR.reads⟩) rfl (oNg (g := 62) rfl rfl rfl rfl (⟨hB10, hR.reads⟩) rfl (oNg (g := 62) rfl rfl rfl rfl (⟨hB10, hR.reads⟩) rfl ?_))))))))))
         refine oY rfl (fun W_ hW_ => (X.pickF rfl rfl)) rfl (oY rfl (fun W_ hW_ => (X.mvB (c := false) rfl (rfl))) rfl (oNg (g := 67) rfl rfl rfl rfl (⟨hB10, hR.reads⟩) rfl (oNg (g := 67) rfl rfl rfl rfl (⟨hB10, hR.reads⟩) rfl (oNg (g := 67) rfl rfl rfl rfl (⟨hB10, hR.reads⟩) rfl (oNg (g := 67) rfl rfl rfl rfl (⟨hB10, hR.reads⟩) rfl (oNg (g := 67) rfl rfl rfl rfl (⟨hB10, hR.reads⟩) rfl (oNg (g := 67) rfl rfl rfl rfl (⟨hB10, hR.reads⟩) rfl (oY rfl (fun W_ hW_ => (X.pickF rfl rfl)) rfl (oY rfl (fun W_ hW_ => (X.mvB (c := false) rfl (rfl))) rfl (oNg (g := 75) rfl rfl rfl rfl (⟨hB10, hR.reads⟩) rfl ?_))))))))))
         refine oNg (g := 75) rfl rfl rfl rfl (⟨hB10, hR.reads⟩) rfl (oNg (g := 75) rfl rfl rfl rfl (⟨hB10, hR.reads⟩) rfl (oNg (g := 75) rfl rfl rfl rfl (⟨hB10, hR.reads⟩) rfl (oNg (g := 75) rfl rfl rfl rfl (⟨hB10, hR.reads⟩) rfl (oNg (g := 75) rfl rfl rfl rfl (⟨hB10, hR.reads⟩) rfl (oY rfl (fun W_ hW_ => (X.pickF rfl rfl)) rfl (oN (nN (W_no rfl (rfl) (W_rs (sm rfl rfl ?_))))))))))
         refine st (X.eql rfl rfl) rfl (sb rfl rfl (fun h99 => ?_) (fun h99 => ?_))
         ·first | replace h99 := of_decide_eq_true h99 | replace h99 := of_decide_eq_false (notT h99) | replace h99 := notT h99 | skip
          refine gY (g := 99) rfl rfl rfl (sm rfl rfl (gY (g := 99) rfl rfl rfl (st (X.fa fa31_0 rfl) rfl (gY (g := 99) rfl rfl rfl (st (X.ldL rfl hB10 Tryz.underlying29 rfl rfl) rfl (gY (g := 99) rfl rfl rfl (st (X.lenL rfl rfl Tryz.underlying29) rfl (gY (g := 99) rfl rfl rfl (sc _ Tryz.func45 rfl (by kernel_rfl) rfl rfl ((Num_any (x.l.length : Int) _ (by omega) (by omega)).mono ?_))))))))))
          rintro e_ w15 ⟨rfl, hb⟩
          refine cR ?_
          replace hbw := bthen hbw hb
          replace hB4 := hB4.bel hb
          replace hB10 := hB10.bel hb
          replace hR := hR.bel hb
          have hz_w15 := hb.size
          clear hb
          refine gY (g := 99) rfl rfl rfl (st (X.eqS rfl rfl) rfl (st (X.pickT rfl rfl) rfl (Wn (tN (W_if rfl (fun h106 => ?_) (fun h106 => ?_))))))
          ·first | replace h106 := of_decide_eq_true h106 | replace h106 := of_decide_eq_false (notT h106) | replace h106 := notT h106 | skip
           have hk3 : k = 3 := u8_of (m := 3) (by decide) h99
           have hstep : stepP n s x = some ⟨x.l, x.good + z, true⟩ := by rw [hst1, takeP_3 hk3, if_pos h106]
           obtain ⟨y, hyd⟩ : ∃ y : Scn, y = ⟨x.l, x.good + z, true⟩ := ⟨_, rfl⟩
           rw [← hyd] at hstep
           have hvn := hvo
           have hRn := hR
           refine W_reg (st (X.fa fa31_2 rfl) rfl (ssB rfl rfl hB10 siz4 rfl (by simp) (fun w16 hB_ hc_ => ?_)))
           have hRn := hRn.chg hc_ (fun k hk e => hR.ne2 hB10 (by decide) k hk e)
           replace hB10 := hB_
           replace hB4 := hB4.chg hc_ (by show ¬ g4 = g10; omega)
           replace hbw := bset hbw hc_ (by omega)
           have hz_w16 := hc_.size
           clear hB_ hc_ hR
           refine Wn (tN (W_reg ?_))
           obtain ⟨hg5, hgn, _, _⟩ := stepP_good hstep hgd
           have hokn := stepP_ok hstep hok
           have hm0 : 0 < m := by omega
           have heqn : scanP s n = (scanPN n s (m - 1) y, 0) := by rw [heqm, scanPN_some hstep hm0]
           have hmn : s.length < m - 1 + y.good := by omega
           have hzz := hzl he0
           refine st (X.fa fa31_1 rfl) rfl (st (X.ldL rfl hB10 Tryz.underlying3 rfl rfl) rfl (sm rfl rfl (st (X.add64 rfl rfl (by omega)) rfl (st (X.fa fa31_1 rfl) rfl (ssB rfl rfl hB10 siz3 rfl (by simp) (fun w17 hB_ hc_ => ?_))))))
           have hne2 := hRn.ne2 hB10 (by decide)
           replace hRn := hRn.chg hc_ (fun k hk e => hne2 k hk e)
           replace hB4 := hB4.chg hc_ (by show ¬ g4 = g10; omega)
           replace hbw := bset hbw hc_ (by omega)
           have hz_w17 := hc_.size
           have hBn := hB_
           clear hB_ hc_ hB10
           refine Wn (bN (tN ⟨_, _, ?_, ⟨y, _, m - 1, rfl, rfl, hvn, hB4, by subst hyd; exact hBn, by subst hyd; first | exact hRn | (rw [List.length_append, List.flatMap_append]; simpa [Value.cells, entP] using hRn), hokn, heqn, hmn, hbw⟩, ⟨rfl, rfl, rfl, rfl, trivial⟩⟩))
           show s.length - y.good < s.length - x.good; omega
          ·first | replace h106 := of_decide_eq_false h106 | replace h106 := of_decide_eq_true (notF h106) | replace h106 := notF h106 | skip
           refine W_exit (tE (bM rfl (tE (bH (tN (W_rs ?_))))))
           have hst0 : stepP n s x = none := by rw [hst1, takeP_3 (u8_of (m := 3) (by decide) h99), if_neg h106]
           rw [heqm, scanPN_none hst0]
           refine st (X.ldBN rfl hB10 Tryz.underlying31 rfl siz31) rfl (ssBN rfl rfl hB4 siz31 rfl (by simp [Value.oneCell']) (fun w18 hB_ hc_ => ?_))
           have hne2 := hR.ne2 hB4 (by decide)
           replace hR := hR.chg hc_ (fun k hk e => hne2 k hk e)
           replace hB4 := hB_
           replace hbw := bset hbw hc_ (by omega)
           have hz_w18 := hc_.size
           clear hB_ hc_ hB10
           refine sa rfl rfl (Wn (tN (W_ret ?_)))
           exact (rCT rfl rfl hB4 Tryz.underlying31 rfl siz31 rfl ⟨_, rfl, hR.reads, hvo, hbw⟩).1
         ·first | replace h99 := of_decide_eq_false h99 | replace h99 := of_decide_eq_true (notF h99) | replace h99 := notF h99 | skip
          refine gN (g := 99) rfl rfl rfl rfl (gN (g := 99) rfl rfl rfl rfl (gN (g := 99) rfl rfl rfl rfl (gN (g := 99) rfl rfl rfl rfl (gN (g := 99) rfl rfl rfl rfl (gN (g := 99) rfl rfl rfl rfl (st (X.pickF rfl rfl) rfl (Wn (tN (W_no rfl (rfl) (W_exit (tE (bM rfl (tE (bH ?_))))))))))))))
          refine tN (W_rs ?_)
          have hst0 : stepP n s x = none := by rw [hst1, takeP_4 hsp0_ (fun e => h99 (by rw [e]; rfl))]
          rw [heqm, scanPN_none hst0]
          refine st (X.ldBN rfl hB10 Tryz.underlying31 rfl siz31) rfl (ssBN rfl rfl hB4 siz31 rfl (by simp [Value.oneCell']) (fun w19 hB_ hc_ => ?_))
          have hne2 := hR.ne2 hB4 (by decide)
          replace hR := hR.chg hc_ (fun k hk e => hne2 k hk e)
          replace hB4 := hB_
          replace hbw := bset hbw hc_ (by omega)
          have hz_w19 := hc_.size
          clear hB_ hc_ hB10
          refine sa rfl rfl (Wn (tN (W_ret ?_)))
          exact (rCT rfl rfl hB4 Tryz.underlying31 rfl siz31 rfl ⟨_, rfl, hR.reads, hvo, hbw⟩).1
        by_cases hsp1_ : 33 ≤ b.length
        rotate_left
        ·refine W_drsN (fun W_ => Blk W_ g10 31 #[.slice av x.l.length cv, .int .i64 (x.good : Nat), .bool x.whole] ∧ REnts W_ (.slice av x.l.length cv) x.l) [0, 1, 2, 3, 4, 5, 6, 7, 8, 9, 10, 11, 12, 13, 14, 16, 17, 15, 18, 19, 20, 21, 22, 23, 24, 25, 26, 27] [true, true, true, true, true, true, true, true, true, true, true, true, true, true, true, true, true, false, true, true, true, true, true, true, true, false, true, true] (by kernel_rfl) (by kernel_rfl) (⟨hB10.drew, hR.reads.bel (bdrew (Below.refl _ _))⟩) ?_
         obtain ⟨w20, hw_⟩ : ∃ w20 : World, w20 = World.drew w12 := ⟨_, rfl⟩
         rw [← hw_]
         have hb : Below w12.heap.size w12 w20 := by rw [hw_]; exact bdrew (Below.refl _ _)
         clear hw_
         have hS := hb
         replace hbw := bthen hbw hb
         replace hB4 := hB4.bel hb
         replace hB10 := hB10.bel hb
         replace hR := hR.bel hb
         have hz_w20 := hb.size
         clear hb
         refine oY rfl (fun W_ hW_ => (X.move rfl)) rfl (oY rfl (fun W_ hW_ => (X.eql rfl rfl)) rfl (oY rfl (fun W_ hW_ => (X.mvB (c := true) rfl (decide_eq_true (by rw [hsp0_]; rfl)))) rfl ?_))
         refine oYg (g := 57) rfl rfl rfl rfl (fun W_ hW_ => (X.move rfl)) rfl (oYg (g := 57) rfl rfl rfl rfl (fun W_ hW_ => (X.lenS rfl rfl Tryz.underlying9)) rfl (oYg (g := 57) rfl rfl rfl rfl (fun W_ hW_ => (X.geq rfl rfl)) rfl (oY rfl (fun W_ hW_ => (X.pickT rfl rfl)) rfl (oY rfl (fun W_ hW_ => (X.mvB (c := false) rfl (decide_eq_false (by omega)))) rfl (oNg (g := 62) rfl rfl rfl rfl (⟨hB10, hR.reads⟩) rfl (oNg (g := 62) rfl rfl rfl rfl (⟨hB10, hR.reads⟩) rfl (oNg (g := 62) rfl rfl rfl rfl (⟨hB10, hR.reads⟩) rfl (oY rfl (fun W_ hW_ => (X.pickF rfl rfl)) rfl (oY rfl (fun W_ hW_ => (X.mvB (c := false) rfl (rfl))) rfl (oNg (g := 67) rfl rfl rfl rfl (⟨hB10, hR.reads⟩) rfl ?_))))))))))
         refine oNg (g := 67) rfl rfl rfl rfl (⟨hB10, hR.reads⟩) rfl (oNg (g := 67) rfl rfl rfl rfl (⟨hB10, hR.reads⟩) rfl (oNg (g := 67) rfl rfl rfl rfl (⟨hB10, hR.reads⟩) rfl (oNg (g := 67) rfl rfl rfl rfl (⟨hB10, hR.reads⟩) rfl (oNg (g := 67) rfl rfl rfl rfl (⟨hB10, hR.reads⟩) rfl (oY rfl (fun W_ hW_ => (X.pickF rfl rfl)) rfl (oY rfl (fun W_ hW_ => (X.mvB (c := false) rfl (rfl))) rfl (oNg (g := 75) rfl rfl rfl rfl (⟨hB10, hR.reads⟩) rfl (oNg (g := 75) rfl rfl rfl rfl (⟨hB10, hR.reads⟩) rfl (oNg (g := 75) rfl rfl rfl rfl (⟨hB10, hR.reads⟩) rfl (oNg (g := 75) rfl rfl rfl rfl (⟨hB10, hR.reads⟩) rfl ?_))))))))))
         refine oNg (g := 75) rfl rfl rfl rfl (⟨hB10, hR.reads⟩) rfl (oNg (g := 75) rfl rfl rfl rfl (⟨hB10, hR.reads⟩) rfl (oY rfl (fun W_ hW_ => (X.pickF rfl rfl)) rfl (oN (nN (W_no rfl (rfl) (W_rs (sm rfl rfl (st (X.eql rfl rfl) rfl (sbN rfl (decide_eq_false (by rw [hsp0_]; decide)) rfl ?_)))))))))
         refine gN (g := 99) rfl rfl rfl rfl (gN (g := 99) rfl rfl rfl rfl (gN (g := 99) rfl rfl rfl rfl (gN (g := 99) rfl rfl rfl rfl (gN (g := 99) rfl rfl rfl rfl (gN (g := 99) rfl rfl rfl rfl (st (X.pickF rfl rfl) rfl (Wn (tN (W_no rfl (rfl) (W_exit (tE (bM rfl (tE (bH ?_))))))))))))))
         refine tN (W_rs ?_)
         have hst0 : stepP n s x = none := by rw [hst1, takeP_2 hsp0_, if_neg (fun e => by have := e.1; unfold openB at this; rw [decide_eq_true_eq] at this; exact hsp1_ this.1)]
         rw [heqm, scanPN_none hst0]
         refine st (X.ldBN rfl hB10 Tryz.underlying31 rfl siz31) rfl (ssBN rfl rfl hB4 siz31 rfl (by simp [Value.oneCell']) (fun w21 hB_ hc_ => ?_))
         have hne2 := hR.ne2 hB4 (by decide)
         replace hR := hR.chg hc_ (fun k hk e => hne2 k hk e)
         replace hB4 := hB_
         replace hbw := bset hbw hc_ (by omega)
         have hz_w21 := hc_.size
         clear hB_ hc_ hB10
         refine sa rfl rfl (Wn (tN (W_ret ?_)))
         exact (rCT rfl rfl hB4 Tryz.underlying31 rfl siz31 rfl ⟨_, rfl, hR.reads, hvo, hbw⟩).1
        by_cases hsp2_ : b.length ≤ 1056
        rotate_left
        ·refine W_drsN (fun W_ => Blk W_ g10 31 #[.slice av x.l.length cv, .int .i64 (x.good : Nat), .bool x.whole] ∧ REnts W_ (.slice av x.l.length cv) x.l) [0, 1, 2, 3, 4, 5, 6, 7, 8, 9, 10, 11, 12, 13, 14, 16, 17, 15, 18, 19, 20, 21, 22, 23, 24, 25, 26, 27] [true, true, true, true, true, true, true, true, true, true, true, true, true, true, true, true, true, false, true, true, true, true, true, true, true, false, true, true] (by kernel_rfl) (by kernel_rfl) (⟨hB10.drew, hR.reads.bel (bdrew (Below.refl _ _))⟩) ?_
         obtain ⟨w22, hw_⟩ : ∃ w22 : World, w22 = World.drew w12 := ⟨_, rfl⟩
         rw [← hw_]
         have hb : Below w12.heap.size w12 w22 := by rw [hw_]; exact bdrew (Below.refl _ _)
         clear hw_
         have hS := hb
         replace hbw := bthen hbw hb
         replace hB4 := hB4.bel hb
         replace hB10 := hB10.bel hb
         replace hR := hR.bel hb
         have hz_w22 := hb.size
         clear hb
         refine oY rfl (fun W_ hW_ => (X.move rfl)) rfl (oY rfl (fun W_ hW_ => (X.eql rfl rfl)) rfl (oY rfl (fun W_ hW_ => (X.mvB (c := true) rfl (decide_eq_true (by rw [hsp0_]; rfl)))) rfl ?_))
         refine oYg (g := 57) rfl rfl rfl rfl (fun W_ hW_ => (X.move rfl)) rfl (oYg (g := 57) rfl rfl rfl rfl (fun W_ hW_ => (X.lenS rfl rfl Tryz.underlying9)) rfl (oYg (g := 57) rfl rfl rfl rfl (fun W_ hW_ => (X.geq rfl rfl)) rfl (oY rfl (fun W_ hW_ => (X.pickT rfl rfl)) rfl (oY rfl (fun W_ hW_ => (X.mvB (c := true) rfl (decide_eq_true (by omega)))) rfl (oYg (g := 62) rfl rfl rfl rfl (fun W_ hW_ => (X.move rfl)) rfl (oYg (g := 62) rfl rfl rfl rfl (fun W_ hW_ => (X.lenS rfl rfl Tryz.underlying9)) rfl (oYg (g := 62) rfl rfl rfl rfl (fun W_ hW_ => (X.leq rfl rfl)) rfl (oY rfl (fun W_ hW_ => (X.pickT rfl rfl)) rfl (oY rfl (fun W_ hW_ => (X.mvB (c := false) rfl (decide_eq_false (by omega)))) rfl (oNg (g := 67) rfl rfl rfl rfl (⟨hB10, hR.reads⟩) rfl ?_))))))))))
         refine oNg (g := 67) rfl rfl rfl rfl (⟨hB10, hR.reads⟩) rfl (oNg (g := 67) rfl rfl rfl rfl (⟨hB10, hR.reads⟩) rfl (oNg (g := 67) rfl rfl rfl rfl (⟨hB10, hR.reads⟩) rfl (oNg (g := 67) rfl rfl rfl rfl (⟨hB10, hR.reads⟩) rfl (oNg (g := 67) rfl rfl rfl rfl (⟨hB10, hR.reads⟩) rfl (oY rfl (fun W_ hW_ => (X.pickF rfl rfl)) rfl (oY rfl (fun W_ hW_ => (X.mvB (c := false) rfl (rfl))) rfl (oNg (g := 75) rfl rfl rfl rfl (⟨hB10, hR.reads⟩) rfl (oNg (g := 75) rfl rfl rfl rfl (⟨hB10, hR.reads⟩) rfl (oNg (g := 75) rfl rfl rfl rfl (⟨hB10, hR.reads⟩) rfl (oNg (g := 75) rfl rfl rfl rfl (⟨hB10, hR.reads⟩) rfl ?_))))))))))
         refine oNg (g := 75) rfl rfl rfl rfl (⟨hB10, hR.reads⟩) rfl (oNg (g := 75) rfl rfl rfl rfl (⟨hB10, hR.reads⟩) rfl (oY rfl (fun W_ hW_ => (X.pickF rfl rfl)) rfl (oN (nN (W_no rfl (rfl) (W_rs (sm rfl rfl (st (X.eql rfl rfl) rfl (sbN rfl (decide_eq_false (by rw [hsp0_]; decide)) rfl ?_)))))))))
         refine gN (g := 99) rfl rfl rfl rfl (gN (g := 99) rfl rfl rfl rfl (gN (g := 99) rfl rfl rfl rfl (gN (g := 99) rfl rfl rfl rfl (gN (g := 99) rfl rfl rfl rfl (gN (g := 99) rfl rfl rfl rfl (st (X.pickF rfl rfl) rfl (Wn (tN (W_no rfl (rfl) (W_exit (tE (bM rfl (tE (bH ?_))))))))))))))
         refine tN (W_rs ?_)
         have hst0 : stepP n s x = none := by rw [hst1, takeP_2 hsp0_, if_neg (fun e => by have := e.1; unfold openB at this; rw [decide_eq_true_eq] at this; exact hsp2_ this.2.1)]
         rw [heqm, scanPN_none hst0]
         refine st (X.ldBN rfl hB10 Tryz.underlying31 rfl siz31) rfl (ssBN rfl rfl hB4 siz31 rfl (by simp [Value.oneCell']) (fun w23 hB_ hc_ => ?_))
         have hne2 := hR.ne2 hB4 (by decide)
         replace hR := hR.chg hc_ (fun k hk e => hne2 k hk e)
         replace hB4 := hB_
         replace hbw := bset hbw hc_ (by omega)
         have hz_w23 := hc_.size
         clear hB_ hc_ hB10
         refine sa rfl rfl (Wn (tN (W_ret ?_)))
         exact (rCT rfl rfl hB4 Tryz.underlying31 rfl siz31 rfl ⟨_, rfl, hR.reads, hvo, hbw⟩).1
        by_cases hsp3_ : sha (b.drop 32) = b.take 32
        rotate_left
        ·refine W_drsN (fun W_ => Blk W_ g10 31 #[.slice av x.l.length cv, .int .i64 (x.good : Nat), .bool x.whole] ∧ REnts W_ (.slice av x.l.length cv) x.l) [0, 1, 2, 3, 4, 5, 6, 7, 8, 9, 10, 11, 12, 13, 14, 16, 17, 15, 18, 19, 20, 21, 22, 23, 24, 25, 26, 27] [true, true, true, true, true, true, true, true, true, true, true, true, true, true, true, true, true, false, true, true, true, true, true, true, true, false, true, true] (by kernel_rfl) (by kernel_rfl) (⟨hB10.drew, hR.reads.bel (bdrew (Below.refl _ _))⟩) ?_
         obtain ⟨w24, hw_⟩ : ∃ w24 : World, w24 = World.drew w12 := ⟨_, rfl⟩
         rw [← hw_]
         have hb : Below w12.heap.size w12 w24 := by rw [hw_]; exact bdrew (Below.refl _ _)
         clear hw_
         have hS := hb
         replace hbw := bthen hbw hb
         replace hB4 := hB4.bel hb
         replace hB10 := hB10.bel hb
         replace hR := hR.bel hb
         have hz_w24 := hb.size
         clear hb
         refine oY rfl (fun W_ hW_ => (X.move rfl)) rfl (oY rfl (fun W_ hW_ => (X.eql rfl rfl)) rfl (oY rfl (fun W_ hW_ => (X.mvB (c := true) rfl (decide_eq_true (by rw [hsp0_]; rfl)))) rfl ?_))
         refine oYg (g := 57) rfl rfl rfl rfl (fun W_ hW_ => (X.move rfl)) rfl (oYg (g := 57) rfl rfl rfl rfl (fun W_ hW_ => (X.lenS rfl rfl Tryz.underlying9)) rfl (oYg (g := 57) rfl rfl rfl rfl (fun W_ hW_ => (X.geq rfl rfl)) rfl (oY rfl (fun W_ hW_ => (X.pickT rfl rfl)) rfl (oY rfl (fun W_ hW_ => (X.mvB (c := true) rfl (decide_eq_true (by omega)))) rfl (oYg (g := 62) rfl rfl rfl rfl (fun W_ hW_ => (X.move rfl)) rfl (oYg (g := 62) rfl rfl rfl rfl (fun W_ hW_ => (X.lenS rfl rfl Tryz.underlying9)) rfl (oYg (g := 62) rfl rfl rfl rfl (fun W_ hW_ => (X.leq rfl rfl)) rfl (oY rfl (fun W_ hW_ => (X.pickT rfl rfl)) rfl (oY rfl (fun W_ hW_ => (X.mvB (c := true) rfl (decide_eq_true (by omega)))) rfl (oYg (g := 67) rfl rfl rfl rfl (fun W_ hW_ => (X.move rfl)) rfl ?_))))))))))
         refine oYg (g := 67) rfl rfl rfl rfl (fun W_ hW_ => (X.fromS (i := 32) rfl rfl Tryz.underlying9 rfl (by omega))) rfl (oYg (g := 67) rfl rfl rfl rfl (fun W_ hW_ => (X.move rfl)) rfl (oYg (g := 67) rfl rfl rfl rfl (fun W_ hW_ => (X.toS (j := 32) rfl rfl Tryz.underlying9 rfl (by omega))) rfl (oL rfl (fun Q_ hQ_ hP_ => (gY (g := 67) rfl rfl rfl (sc _ Tryz.func46 rfl (by kernel_rfl) rfl rfl ((RSum_any (b.drop 32) _ (by rw [List.length_drop]; omega)).mono ?_)))))))
         rintro e_ w25 ⟨rfl, hb⟩
         refine cR ?_
         replace hbw := bthen hbw hb
         replace hB4 := hB4.bel hb
         replace hB10 := hB10.bel hb
         replace hR := hR.bel hb
         have hz_w25 := hb.size
         clear hb
         refine Wn (hQ_ _ _ (⟨hB10, hR.reads⟩) ?_)
         clear hQ_ hP_ Q_
         refine oYg (g := 67) rfl rfl rfl rfl (fun W_ hW_ => (X.eqS rfl rfl)) rfl (oY rfl (fun W_ hW_ => (X.pickT rfl rfl)) rfl (oY rfl (fun W_ hW_ => (X.mvB (c := false) rfl (decide_eq_false hsp3_))) rfl (oNg (g := 75) rfl rfl rfl rfl (⟨hB10, hR.reads⟩) rfl (oNg (g := 75) rfl rfl rfl rfl (⟨hB10, hR.reads⟩) rfl (oNg (g := 75) rfl rfl rfl rfl (⟨hB10, hR.reads⟩) rfl (oNg (g := 75) rfl rfl rfl rfl (⟨hB10, hR.reads⟩) rfl (oNg (g := 75) rfl rfl rfl rfl (⟨hB10, hR.reads⟩) rfl (oNg (g := 75) rfl rfl rfl rfl (⟨hB10, hR.reads⟩) rfl (oY rfl (fun W_ hW_ => (X.pickF rfl rfl)) rfl (oN ?_))))))))))
         refine nN (W_no rfl (rfl) (W_rs (sm rfl rfl (st (X.eql rfl rfl) rfl (sbN rfl (decide_eq_false (by rw [hsp0_]; decide)) rfl ?_)))))
         refine gN (g := 99) rfl rfl rfl rfl (gN (g := 99) rfl rfl rfl rfl (gN (g := 99) rfl rfl rfl rfl (gN (g := 99) rfl rfl rfl rfl (gN (g := 99) rfl rfl rfl rfl (gN (g := 99) rfl rfl rfl rfl (st (X.pickF rfl rfl) rfl (Wn (tN (W_no rfl (rfl) (W_exit (tE (bM rfl (tE (bH ?_))))))))))))))
         refine tN (W_rs ?_)
         have hst0 : stepP n s x = none := by rw [hst1, takeP_2 hsp0_, if_neg (fun e => by have := e.1; unfold openB at this; rw [decide_eq_true_eq] at this; exact hsp3_ this.2.2)]
         rw [heqm, scanPN_none hst0]
         refine st (X.ldBN rfl hB10 Tryz.underlying31 rfl siz31) rfl (ssBN rfl rfl hB4 siz31 rfl (by simp [Value.oneCell']) (fun w26 hB_ hc_ => ?_))
         have hne2 := hR.ne2 hB4 (by decide)
         replace hR := hR.chg hc_ (fun k hk e => hne2 k hk e)
         replace hB4 := hB_
         replace hbw := bset hbw hc_ (by omega)
         have hz_w26 := hc_.size
         clear hB_ hc_ hB10
         refine sa rfl rfl (Wn (tN (W_ret ?_)))
         exact (rCT rfl rfl hB4 Tryz.underlying31 rfl siz31 rfl ⟨_, rfl, hR.reads, hvo, hbw⟩).1
        refine W_drsN (fun W_ => Blk W_ g10 31 #[.slice av x.l.length cv, .int .i64 (x.good : Nat), .bool x.whole] ∧ REnts W_ (.slice av x.l.length cv) x.l) [0, 1, 2, 3, 4, 5, 6, 7, 8, 9, 10, 11, 12, 13, 14, 16, 17, 15, 18, 19, 20, 21, 22, 23, 24, 25, 26, 27] [true, true, true, true, true, true, true, true, true, true, true, true, true, true, true, true, true, false, true, true, true, true, true, true, true, false, true, true] (by kernel_rfl) (by kernel_rfl) (⟨hB10.drew, hR.reads.bel (bdrew (Below.refl _ _))⟩) ?_
        obtain ⟨w27, hw_⟩ : ∃ w27 : World, w27 = World.drew w12 := ⟨_, rfl⟩
        rw [← hw_]
        have hb : Below w12.heap.size w12 w27 := by rw [hw_]; exact bdrew (Below.refl _ _)
        clear hw_
        have hS := hb
        replace hbw := bthen hbw hb
        replace hB4 := hB4.bel hb
        replace hB10 := hB10.bel hb
        replace hR := hR.bel hb
        have hz_w27 := hb.size
        clear hb
        refine oY rfl (fun W_ hW_ => (X.move rfl)) rfl (oY rfl (fun W_ hW_ => (X.eql rfl rfl)) rfl (oY rfl (fun W_ hW_ => (X.mvB (c := true) rfl (decide_eq_true (by rw [hsp0_]; rfl)))) rfl ?_))
        refine oYg (g := 57) rfl rfl rfl rfl (fun W_ hW_ => (X.move rfl)) rfl (oYg (g := 57) rfl rfl rfl rfl (fun W_ hW_ => (X.lenS rfl rfl Tryz.underlying9)) rfl (oYg (g := 57) rfl rfl rfl rfl (fun W_ hW_ => (X.geq rfl rfl)) rfl (oY rfl (fun W_ hW_ => (X.pickT rfl rfl)) rfl (oY rfl (fun W_ hW_ => (X.mvB (c := true) rfl (decide_eq_true (by omega)))) rfl (oYg (g := 62) rfl rfl rfl rfl (fun W_ hW_ => (X.move rfl)) rfl (oYg (g := 62) rfl rfl rfl rfl (fun W_ hW_ => (X.lenS rfl rfl Tryz.underlying9)) rfl (oYg (g := 62) rfl rfl rfl rfl (fun W_ hW_ => (X.leq rfl rfl)) rfl (oY rfl (fun W_ hW_ => (X.pickT rfl rfl)) rfl (oY rfl (fun W_ hW_ => (X.mvB (c := true) rfl (decide_eq_true (by omega)))) rfl (oYg (g := 67) rfl rfl rfl rfl (fun W_ hW_ => (X.move rfl)) rfl ?_))))))))))
        refine oYg (g := 67) rfl rfl rfl rfl (fun W_ hW_ => (X.fromS (i := 32) rfl rfl Tryz.underlying9 rfl (by omega))) rfl (oYg (g := 67) rfl rfl rfl rfl (fun W_ hW_ => (X.move rfl)) rfl (oYg (g := 67) rfl rfl rfl rfl (fun W_ hW_ => (X.toS (j := 32) rfl rfl Tryz.underlying9 rfl (by omega))) rfl (oL rfl (fun Q_ hQ_ hP_ => (gY (g := 67) rfl rfl rfl (sc _ Tryz.func46 rfl (by kernel_rfl) rfl rfl ((RSum_any (b.drop 32) _ (by rw [List.length_drop]; omega)).mono ?_)))))))
        rintro e_ w28 ⟨rfl, hb⟩
        refine cR ?_
        replace hbw := bthen hbw hb
        replace hB4 := hB4.bel hb
        replace hB10 := hB10.bel hb
        replace hR := hR.bel hb
        have hz_w28 := hb.size
        clear hb
        refine Wn (hQ_ _ _ (⟨hB10, hR.reads⟩) ?_)
        clear hQ_ hP_ Q_
        refine oYg (g := 67) rfl rfl rfl rfl (fun W_ hW_ => (X.eqS rfl rfl)) rfl (oY rfl (fun W_ hW_ => (X.pickT rfl rfl)) rfl (oY rfl (fun W_ hW_ => (X.mvB (c := true) rfl (decide_eq_true hsp3_))) rfl (oYg (g := 75) rfl rfl rfl rfl (fun W_ hW_ => (X.fa fa31_0 rfl)) rfl (oYg (g := 75) rfl rfl rfl rfl (fun W_ hW_ => (X.ldL rfl hW_.1 Tryz.underlying29 rfl rfl)) rfl (oYg (g := 75) rfl rfl rfl rfl (fun W_ hW_ => (X.move rfl)) rfl (oYg (g := 75) rfl rfl rfl rfl (fun W_ hW_ => (X.toS (j := 32) rfl rfl Tryz.underlying9 rfl (by omega))) rfl (oL rfl (fun Q_ hQ_ hP_ => (gY (g := 75) rfl rfl rfl (sc _ Tryz.func47 rfl (by kernel_rfl) rfl rfl ((Rhad_any _ x.l (b.take 32) _ hR.reads).mono ?_)))))))))))
        rintro e_ w29 ⟨rfl, hb⟩
        refine cR ?_
        replace hbw := bthen hbw hb
        replace hB4 := hB4.bel hb
        replace hB10 := hB10.bel hb
        replace hR := hR.bel hb
        have hz_w29 := hb.size
        clear hb
        refine Wn (hQ_ _ _ (⟨hB10, hR.reads⟩) ?_)
        clear hQ_ hP_ Q_
        refine oYg (g := 75) rfl rfl rfl rfl (fun W_ hW_ => (X.lss rfl rfl)) rfl (oY rfl (fun W_ hW_ => (X.pickT rfl rfl)) rfl (oN (nN (W_if rfl (fun h82 => ?_) (fun h82 => ?_)))))
        ·first | replace h82 := of_decide_eq_true h82 | replace h82 := of_decide_eq_false (notT h82) | replace h82 := notT h82 | skip
         have hop : openB b = true := by unfold openB; rw [decide_eq_true_eq]; exact ⟨hsp1_, hsp2_, hsp3_⟩
         have hstep : stepP n s x = some ⟨x.l ++ [entP n x b], x.good + z, x.whole⟩ := by rw [hst1, takeP_2 hsp0_, if_pos ⟨hop, by have := hadI_neg x.l (b.take 32); rw [decide_eq_true h82] at this; simpa using this.symm⟩]
         obtain ⟨y, hyd⟩ : ∃ y : Scn, y = ⟨x.l ++ [entP n x b], x.good + z, x.whole⟩ := ⟨_, rfl⟩
         rw [← hyd] at hstep
         refine W_phase (fun W_ => Blk W_ g10 31 #[.slice av x.l.length cv, .int .i64 (x.good : Nat), .bool x.whole]) 12 [true, true, true, true, true, true, true, true, true, true, true, false] (by kernel_rfl) (by kernel_rfl) (hB10.drew) ?_
         obtain ⟨w30, hw_⟩ : ∃ w30 : World, w30 = World.drew w29 := ⟨_, rfl⟩
         rw [← hw_]
         have hb : Below w29.heap.size w29 w30 := by rw [hw_]; exact bdrew (Below.refl _ _)
         clear hw_
         have hS := hb
         replace hbw := bthen hbw hb
         replace hB4 := hB4.bel hb
         replace hB10 := hB10.bel hb
         replace hR := hR.bel hb
         have hz_w30 := hb.size
         clear hb
         refine pY (fun W_ hW_ => (X.fa fa31_0 rfl)) rfl (pY (fun W_ hW_ => (X.ldL rfl hW_ Tryz.underlying29 rfl rfl)) rfl (pY (fun W_ hW_ => (X.move rfl)) rfl (pY (fun W_ hW_ => (X.toS (j := 32) rfl rfl Tryz.underlying9 rfl (by omega))) rfl (pY (fun W_ hW_ => (X.move rfl)) rfl (pY (fun W_ hW_ => (X.fa fa31_1 rfl)) rfl (pY (fun W_ hW_ => (X.ldL rfl hW_ Tryz.underlying3 rfl rfl)) rfl (pY (fun W_ hW_ => (X.move rfl)) rfl (pY (fun W_ hW_ => (X.lenS rfl rfl Tryz.underlying9)) rfl (pY (fun W_ hW_ => (X.sub64 rfl rfl (by omega))) rfl (pY (fun W_ hW_ => (X.bld rfl (brec _ _ _ _ _))) rfl ?_))))))))))
         refine pL (fun Q_ hQ_ hP_ => (sbs1 rfl Tryz.underlying29 inf103 rfl rfl (by decide) (by decide) rfl (fun g94 w31 hR94 hg94 hb => ?_)))
         replace hbw := bthen hbw hb
         replace hR := hR.bel hb
         replace hB10 := hB10.bel hb
         replace hB4 := hB4.bel hb
         have hz94 := hb.size
         clear hb
         refine Wn (hQ_ _ _ (hB10) ?_)
         clear hQ_ hP_ Q_
         refine pN (sapp rfl rfl Tryz.underlying29 inf103 rfl (by decide) hR (hR94.reads.src Tryz.underlying29 (recE_one _)) (by simp only [maxLen]; omega) (by omega) rfl (fun v' w32 hR2 hC2 hv2 => ?_))
         obtain ⟨a', c', rfl, _, _⟩ := hR2.shape
         have hvn := own_next hv2 hvo (by omega)
         have hne := hR2.ne2 (hB10.chg hC2 (fun hk => hR.ne2 hB10 (by decide) _ hk rfl)) (by decide)
         replace hB10 := hB10.chg hC2 (fun hk => hR.ne2 hB10 (by decide) _ hk rfl)
         replace hB4 := hB4.chg hC2 (fun hk => hR.ne2 hB4 (by decide) _ hk rfl)
         replace hbw := bchg hbw hC2 hvo
         have hz_w32 := hC2.size
         clear hR
         refine st (X.fa fa31_0 rfl) rfl (ssB rfl rfl hB10 siz29 rfl (by simp) (fun w33 hB_ hc_ => ?_))
         replace hB10 := hB_
         replace hB4 := hB4.chg hc_ (by show ¬ g4 = g10; omega)
         have hRn := hR2.chg hc_ (fun k hk e => hne k hk e)
         replace hbw := bset hbw hc_ (by omega)
         have hz_w33 := hc_.size
         clear hB_ hc_ hR2
         refine Wn (nN (tN (W_reg ?_)))
         obtain ⟨hg5, hgn, _, _⟩ := stepP_good hstep hgd
         have hokn := stepP_ok hstep hok
         have hm0 : 0 < m := by omega
         have heqn : scanP s n = (scanPN n s (m - 1) y, 0) := by rw [heqm, scanPN_some hstep hm0]
         have hmn : s.length < m - 1 + y.good := by omega
         have hzz := hzl he0
         refine st (X.fa fa31_1 rfl) rfl (st (X.ldL rfl hB10 Tryz.underlying3 rfl rfl) rfl (sm rfl rfl (st (X.add64 rfl rfl (by omega)) rfl (st (X.fa fa31_1 rfl) rfl (ssB rfl rfl hB10 siz3 rfl (by simp) (fun w34 hB_ hc_ => ?_))))))
         have hne2 := hRn.ne2 hB10 (by decide)
         replace hRn := hRn.chg hc_ (fun k hk e => hne2 k hk e)
         replace hB4 := hB4.chg hc_ (by show ¬ g4 = g10; omega)
         replace hbw := bset hbw hc_ (by omega)
         have hz_w34 := hc_.size
         have hBn := hB_
         clear hB_ hc_ hB10
         refine Wn (bN (tN ⟨_, _, ?_, ⟨y, _, m - 1, rfl, rfl, hvn, hB4, by subst hyd; exact hBn, by subst hyd; first | exact hRn | (rw [List.length_append, List.flatMap_append]; simpa [Value.cells, entP] using hRn), hokn, heqn, hmn, hbw⟩, ⟨rfl, rfl, rfl, rfl, trivial⟩⟩))
         show s.length - y.good < s.length - x.good; omega
        ·first | replace h82 := of_decide_eq_false h82 | replace h82 := of_decide_eq_true (notF h82) | replace h82 := notF h82 | skip
         refine W_rs (sm rfl rfl (st (X.eql rfl rfl) rfl (sbN rfl (decide_eq_false (by rw [hsp0_]; decide)) rfl ?_)))
         refine gN (g := 99) rfl rfl rfl rfl (gN (g := 99) rfl rfl rfl rfl (gN (g := 99) rfl rfl rfl rfl (gN (g := 99) rfl rfl rfl rfl (gN (g := 99) rfl rfl rfl rfl (gN (g := 99) rfl rfl rfl rfl (st (X.pickF rfl rfl) rfl (Wn (tN (W_no rfl (rfl) (W_exit (tE (bM rfl (tE (bH ?_))))))))))))))
         refine tN (W_rs ?_)
         have hst0 : stepP n s x = none := by rw [hst1, takeP_2 hsp0_, if_neg (fun e => h82 (by have := hadI_neg x.l (b.take 32); rw [e.2] at this; exact of_decide_eq_true this))]
         rw [heqm, scanPN_none hst0]
         refine st (X.ldBN rfl hB10 Tryz.underlying31 rfl siz31) rfl (ssBN rfl rfl hB4 siz31 rfl (by simp [Value.oneCell']) (fun w35 hB_ hc_ => ?_))
         have hne2 := hR.ne2 hB4 (by decide)
         replace hR := hR.chg hc_ (fun k hk e => hne2 k hk e)
         replace hB4 := hB_
         replace hbw := bset hbw hc_ (by omega)
         have hz_w35 := hc_.size
         clear hB_ hc_ hB10
         refine sa rfl rfl (Wn (tN (W_ret ?_)))
         exact (rCT rfl rfl hB4 Tryz.underlying31 rfl siz31 rfl ⟨_, rfl, hR.reads, hvo, hbw⟩).1
      ·first | replace h42 := of_decide_eq_false h42 | replace h42 := of_decide_eq_true (notF h42) | replace h42 := notF h42 | skip
       have hst0 : stepP n s x = none := by rw [hst, if_pos h42]
       refine W_exit (tE (tE (bH (tN (W_rs ?_)))))
       rw [heqm, scanPN_none hst0]
       refine st (X.ldBN rfl hB10 Tryz.underlying31 rfl siz31) rfl (ssBN rfl rfl hB4 siz31 rfl (by simp [Value.oneCell']) (fun w36 hB_ hc_ => ?_))
       have hne2 := hR.ne2 hB4 (by decide)
       replace hR := hR.chg hc_ (fun k hk e => hne2 k hk e)
       replace hB4 := hB_
       replace hbw := bset hbw hc_ (by omega)
       have hz_w36 := hc_.size
       clear hB_ hc_ hB10
       refine sa rfl rfl (Wn (tN (W_ret ?_)))
       exact (rCT rfl rfl hB4 Tryz.underlying31 rfl siz31 rfl ⟨_, rfl, hR.reads, hvo, hbw⟩).1
end Go.Proofs.YtnlabkogebnioaaGreatDoor
namespace Go.Proofs.YtnlabkogebnioaaGreatDoor
open Go.RowKit Sha
theorem scn_good (s : List UInt8) (n : Int) : scnGood (scanP s n) = (scanP s n).1.good ∧ scnWhole (scanP s n) = (scanP s n).1.whole ∧ scnIdx (scanP s n) = (makeM (scanP s n).1.l).1 := by
 unfold scnGood scnWhole scnIdx
 by_cases h : (scanP s n).2 = 0
 ·rw [if_pos h, if_pos h, if_pos h]; exact ⟨rfl, rfl, rfl⟩
 ·rw [if_neg h, if_neg h, if_neg h]
  have e : (scanP s n).1 = ⟨[], 0, false⟩ := by
   unfold scanP at h ⊢
   split
   ·rfl
   rename_i h1
   rw [if_neg h1] at h
   split
   ·rfl
   rename_i h2
   rw [if_neg h2] at h
   exact absurd rfl h
  rw [e]
  exact ⟨rfl, rfl, (List.eq_nil_of_length_eq_zero (Nat.le_zero.1 (make_length []))).symm⟩
theorem scan_S32 (s : List UInt8) (n : Int) : S32 (makeM (scanP s n).1.l).1 := make_S32 (scanP_ok s n).s32
set_option maxRecDepth 10000 in
theorem PackScans_walk (w : World) (s : List UInt8) (_hs : s.length ≤ 9223372036854775807) (n : Int) (hT : PTabs w.heap.size w) :
  Calls Tryz.prog 3 #[str s, .int .i64 n] w fun e w' => e = .returned (.bool true) ∧ Below w.heap.size w w' := by
 obtain ⟨hg1, hg2, hg3⟩ := scn_good s n
 have h32 := scan_S32 s n
 refine W_enter (args := [str s, .int .i64 n]) 55 Tryz.func3 rfl rfl rfl (W_sub [(0, str s), (1, .int .i64 n)] ?_ ⟨rfl, rfl, trivial⟩)
 have hbw := Below.refl w.heap.size w
 refine W_rs (sa rfl rfl (Wn (tN (W_seq (W_rs (sm rfl rfl (st (X.lenS rfl rfl Tryz.underlying9) rfl (st (X.gtr rfl rfl) rfl (Wn (tN ?_))))))))))
 refine W_if rfl (fun h13 => ?_) (fun h13 => ?_)
 ·first | replace h13 := of_decide_eq_true h13 | replace h13 := of_decide_eq_false (notT h13) | replace h13 := notT h13 | skip
  refine W_rs (sc _ Tryz.func9 rfl (by kernel_rfl) rfl rfl ((pawake_any _ ((hT.bel hbw).to hbw.size)).mono ?_))
  rintro e_ w1 ⟨rfl, hb⟩
  refine cR ?_
  replace hbw := bthen hbw hb
  have hz_w1 := hb.size
  clear hb
  refine sa rfl rfl (Wn (tN (W_ret (tR ?_))))
  exact (rT rfl rfl ⟨rfl, hbw⟩).1
 ·first | replace h13 := of_decide_eq_false h13 | replace h13 := of_decide_eq_true (notF h13) | replace h13 := notF h13 | skip
  have hlen := scanP_len s n (by omega)
  refine W_skip (tN (W_rs (sm rfl rfl (sm rfl rfl ?_))))
  have hSc := Scan_p s n w (hT.bel hbw).sha (by omega)
  rw [hg1, hg2, hg3] at hSc
  refine sc _ Tryz.func10 rfl (by kernel_rfl) rfl rfl ((hSc).mono ?_)
  rintro e_ w2 ⟨u, rfl, hE, hO, hb⟩
  refine cR ?_
  replace hbw := bthen hbw hb
  have hz_w2 := hb.size
  clear hb
  obtain ⟨am, cm, rfl⟩ : ∃ am cm, u = .slice am (makeM (scanP s n).1.l).1.length cm := by obtain ⟨_, am, cm, e, _⟩ := hE; exact ⟨am, cm, e⟩
  have hml := make_length (scanP s n).1.l
  refine sm rfl rfl (st (X.ext rfl rfl) rfl (st (X.ext rfl rfl) rfl (st (X.ext rfl rfl) rfl (st (X.ext rfl rfl) rfl (salA inf25 rfl (fun g5 w3 hB5 hg5 hb hl5 => ?_))))))
  replace hbw := bthen hbw hb
  replace hE := hE.bel hb
  have hz_w3 := hb.size
  clear hb
  refine ssBN rfl rfl hB5 siz25 rfl (by simp [Value.oneCell']) (fun w4 hB_ hc_ => ?_)
  replace hE := EntsAt.chgI hE h32 hB5 hc_
  replace hbw := bset hbw hc_ (by omega)
  replace hB5 := hB_
  have hz_w4 := hc_.size
  clear hB_ hc_
  refine sa rfl rfl (sa rfl rfl (sa rfl rfl (Wn (tN (W_rs (sm rfl rfl (sm rfl rfl (sc _ Tryz.func11 rfl (by kernel_rfl) rfl rfl ((RScan_any s n _ (by omega)).mono ?_)))))))))
  rintro e_ w5 ⟨u2, rfl, hR, hO2, hb⟩
  refine cR ?_
  replace hbw := bthen hbw hb
  replace hE := hE.bel hb
  replace hB5 := hB5.bel hb
  have hz_w5 := hb.size
  clear hb
  obtain ⟨a2, c2, rfl, _, _⟩ := hR.shape
  refine sm rfl rfl (st (X.ext rfl rfl) rfl (st (X.ext rfl rfl) rfl ?_))
  have hR9 : 0 < (scanP s n).1.l.length → ∀ {k}, (Value.slice a2 (scanP s n).1.l.length c2).ownBlock = some k → k < (w5).heap.size := fun h0 {k} hk => Reads.ownLt hR h0 hk
  have hE9 : 0 < (makeM (scanP s n).1.l).1.length → ∀ {k}, (Value.slice am (makeM (scanP s n).1.l).1.length cm).ownBlock = some k → k < (w5).heap.size := fun h0 {k} hk => Reads.ownLt hE h0 hk
  refine salA inf31 rfl (fun g9 w6 hB9 hg9 hb hl9 => ?_)
  replace hbw := bthen hbw hb
  replace hE := hE.bel hb
  replace hB5 := hB5.bel hb
  replace hR := hR.bel hb
  have hz_w6 := hb.size
  clear hb
  refine ssBN rfl rfl hB9 siz31 rfl (by simp [Value.oneCell']) (fun w7 hB_ hc_ => ?_)
  replace hR : REnts _ _ _ := Reads.chgS hR hc_ (fun h0 k hk => by show ¬ k = g9; have := hR9 h0 hk; omega)
  replace hE : EntsAt _ _ _ := Reads.chgS hE hc_ (fun h0 k hk => by show ¬ k = g9; have := hE9 h0 hk; omega)
  replace hB5 := hB5.chg hc_ (by show ¬ g5 = g9; omega)
  replace hbw := bset hbw hc_ (by omega)
  replace hB9 := hB_
  have hz_w7 := hc_.size
  clear hB_ hc_
  refine sa rfl rfl (Wn (tN (W_drsN (fun W_ => Blk W_ g5 25 #[.slice am (makeM (scanP s n).1.l).1.length cm] ∧ Blk W_ g9 31 #[.slice a2 (scanP s n).1.l.length c2, .int .i64 ((scanP s n).1.good : Nat), .bool (scanP s n).1.whole]) [0, 1, 2, 3, 4, 5, 6, 7, 8, 9, 10, 11, 12, 13, 14, 15, 16, 18, 19, 17, 20, 21, 22, 23, 24, 25, 26] [true, true, true, true, true, true, true, true, true, true, true, true, true, true, true, true, true, true, true, false, false, false, true, true, false, true, true] (by kernel_rfl) (by kernel_rfl) (⟨hB5.drew, hB9.drew⟩) ?_)))
  obtain ⟨w8, hw_⟩ : ∃ w8 : World, w8 = World.drew w7 := ⟨_, rfl⟩
  rw [← hw_]
  have hb : Below w7.heap.size w7 w8 := by rw [hw_]; exact bdrew (Below.refl _ _)
  clear hw_
  have hS := hb
  replace hbw := bthen hbw hb
  replace hE := hE.bel hb
  replace hB5 := hB5.bel hb
  replace hR := hR.bel hb
  replace hB9 := hB9.bel hb
  have hz_w8 := hb.size
  clear hb
  refine oY rfl (fun W_ hW_ => (X.move rfl)) rfl (oY rfl (fun W_ hW_ => (X.move rfl)) rfl (oY rfl (fun W_ hW_ => (X.eql rfl rfl)) rfl (oY rfl (fun W_ hW_ => (X.mvB (c := true) rfl (decide_eq_true rfl))) rfl (oYg (g := 32) rfl rfl rfl rfl (fun W_ hW_ => (X.move rfl)) rfl (oYg (g := 32) rfl rfl rfl rfl (fun W_ hW_ => (X.fa fa31_1 rfl)) rfl (oYg (g := 32) rfl rfl rfl rfl (fun W_ hW_ => (X.ldL rfl hW_.2 Tryz.underlying3 rfl rfl)) rfl (oYg (g := 32) rfl rfl rfl rfl (fun W_ hW_ => (X.eql rfl rfl)) rfl (oY rfl (fun W_ hW_ => (X.pickT rfl rfl)) rfl (oY rfl (fun W_ hW_ => (X.mvB (c := true) rfl (decide_eq_true rfl))) rfl (oYg (g := 38) rfl rfl rfl rfl (fun W_ hW_ => (X.move rfl)) rfl ?_))))))))))
  refine oYg (g := 38) rfl rfl rfl rfl (fun W_ hW_ => (X.fa fa31_2 rfl)) rfl (oYg (g := 38) rfl rfl rfl rfl (fun W_ hW_ => (X.ldL rfl hW_.2 Tryz.underlying4 rfl rfl)) rfl (oYg (g := 38) rfl rfl rfl rfl (fun W_ hW_ => (X.beq (c := true) (.inl ⟨rfl, by simp⟩) Tryz.underlying4 rfl rfl)) rfl ?_))
  refine oY rfl (fun W_ hW_ => (X.pickT rfl rfl)) rfl (oY rfl (fun W_ hW_ => (X.mvB (c := true) rfl (rfl))) rfl (oYg (g := 44) rfl rfl rfl rfl (fun W_ hW_ => (X.ldBN rfl hW_.1 Tryz.underlying25 rfl siz25)) rfl (oYg (g := 44) rfl rfl rfl rfl (fun W_ hW_ => (X.fa fa31_0 rfl)) rfl (oYg (g := 44) rfl rfl rfl rfl (fun W_ hW_ => (X.ldL rfl hW_.2 Tryz.underlying29 rfl rfl)) rfl (oL rfl (fun Q_ hQ_ hP_ => (gY (g := 44) rfl rfl rfl (sc _ Tryz.func13 rfl (by kernel_rfl) rfl rfl ((IAll_any _ _ _ hE h32 (by omega)).mono ?_)))))))))
  rintro e_ w9 ⟨v3, rfl, hRa, hOa, hb⟩
  refine cR ?_
  replace hbw := bthen hbw hb
  replace hE := hE.bel hb
  replace hB5 := hB5.bel hb
  replace hR := hR.bel hb
  replace hB9 := hB9.bel hb
  have hz_w9 := hb.size
  clear hb
  refine Wn (hQ_ _ _ (⟨hB5, hB9⟩) ?_)
  clear hQ_ hP_ Q_
  refine oL rfl (fun Q_ hQ_ hP_ => (gY (g := 44) rfl rfl rfl (sc _ Tryz.func14 rfl (by kernel_rfl) rfl rfl ((RSorted_any _ _ _ hR (by omega)).mono ?_))))
  rintro e_ w10 ⟨v4, rfl, hRs, hb⟩
  refine cR ?_
  replace hbw := bthen hbw hb
  replace hE := hE.bel hb
  replace hB5 := hB5.bel hb
  replace hR := hR.bel hb
  replace hB9 := hB9.bel hb
  replace hRa := hRa.bel hb
  have hz_w10 := hb.size
  clear hb
  refine Wn (hQ_ _ _ (⟨hB5, hB9⟩) ?_)
  clear hQ_ hP_ Q_
  refine oL rfl (fun Q_ hQ_ hP_ => (gY (g := 44) rfl rfl rfl (sc _ Tryz.func12 rfl (by kernel_rfl) rfl rfl ((FSame_any v3 v4 _ _ _ hRa.reads h32 (by omega) hRs).mono ?_))))
  rintro e_ w11 ⟨rfl, hb⟩
  refine cR ?_
  replace hbw := bthen hbw hb
  replace hE := hE.bel hb
  replace hB5 := hB5.bel hb
  replace hR := hR.bel hb
  replace hB9 := hB9.bel hb
  replace hRa := hRa.bel hb
  replace hRs := hRs.bel hb
  have hz_w11 := hb.size
  clear hb
  refine Wn (hQ_ _ _ (⟨hB5, hB9⟩) ?_)
  clear hQ_ hP_ Q_
  refine oY rfl (fun W_ hW_ => (X.pickT rfl rfl)) rfl (oY rfl (fun W_ hW_ => (X.mvB (c := true) rfl (decide_eq_true rfl))) rfl (oL rfl (fun Q_ hQ_ hP_ => (gY (g := 52) rfl rfl rfl (sc _ Tryz.func9 rfl (by kernel_rfl) rfl rfl ((pawake_any _ ((hT.bel hbw).to hbw.size)).mono ?_))))))
  rintro e_ w12 ⟨rfl, hb⟩
  refine cR ?_
  replace hbw := bthen hbw hb
  replace hE := hE.bel hb
  replace hB5 := hB5.bel hb
  replace hR := hR.bel hb
  replace hB9 := hB9.bel hb
  replace hRa := hRa.bel hb
  replace hRs := hRs.bel hb
  have hz_w12 := hb.size
  clear hb
  refine Wn (hQ_ _ _ (⟨hB5, hB9⟩) ?_)
  clear hQ_ hP_ Q_
  refine oY rfl (fun W_ hW_ => (X.pickT rfl rfl)) rfl (oY rfl (fun W_ hW_ => (X.assign rfl)) rfl (oN (nN (W_ret ?_))))
  exact (rT rfl rfl ⟨rfl, hbw⟩).1
end Go.Proofs.YtnlabkogebnioaaGreatDoor
namespace Go.Proofs.YtnlabkogebnioaaGreatDoor
open Go.ChangeShapes Go.WideShapes Go.ChangeAt Go.RowKit Sha Go.Shelf
def kInts : List Int := [1116352408, 1899447441, 3049323471, 3921009573, 961987163, 1508970993, 2453635748, 2870763221, 3624381080, 310598401, 607225278, 1426881987, 1925078388, 2162078206, 2614888103, 3248222580, 3835390401, 4022224774, 264347078, 604807628, 770255983, 1249150122, 1555081692, 1996064986, 2554220882, 2821834349, 2952996808, 3210313671, 3336571891, 3584528711, 113926993, 338241895, 666307205, 773529912, 1294757372, 1396182291, 1695183700, 1986661051, 2177026350, 2456956037, 2730485921, 2820302411, 3259730800, 3345764771, 3516065817, 3600352804, 4094571909, 275423344, 430227734, 506948616, 659060556, 883997877, 958139571, 1322822218, 1537002063, 1747873779, 1955562222, 2024104815, 2227730452, 2361852424, 2428436474, 2756734187, 3204031479, 3329325298]
def bInts : List Int := [1779033703, 3144134277, 1013904242, 2773480762, 1359893119, 2600822924, 528734635, 1541459225]
def pInts : List Int := [1, 10, 100, 1000, 10000, 100000, 1000000, 10000000, 100000000, 1000000000, 10000000000, 100000000000, 1000000000000, 10000000000000, 100000000000000, 1000000000000000, 10000000000000000, 100000000000000000, 1000000000000000000, 10000000000000000000]
theorem gK : Tryz.prog.globalNamed "armarium/sha.k" = some 1 := by kernel_rfl
theorem gKt : (Tryz.prog.globals[1]?).map (·.type) = some 226 := by kernel_rfl
theorem gB : Tryz.prog.globalNamed "armarium/sha.begin" = some 0 := by kernel_rfl
theorem gBt : (Tryz.prog.globals[0]?).map (·.type) = some 179 := by kernel_rfl
theorem gPt : (Tryz.prog.globals[2]?).map (·.type) = some 286 := by kernel_rfl
theorem tabs_of_laid {W : World} (h : laidMetH Tryz.prog [("math/bits.deBruijn32tab", Rows.laid_math_bits_deBruijn32tab), ("math/bits.deBruijn64tab", Rows.laid_math_bits_deBruijn64tab), ("internal/strconv.uint64pow10", Rows.laid_internal_strconv_uint64pow10), ("unicode/utf8.acceptRanges", Rows.laid_unicode_utf8_acceptRanges), ("armarium/sha.k", Rows.laid_armarium_sha_k), ("armarium/sha.begin", Rows.laid_armarium_sha_begin), ("unicode/utf8.first", Rows.laid_unicode_utf8_first)] W) : PTabs W.heap.size W := by
 have h1 : Lib.TabIs Tryz.prog W "armarium/sha.k" .u32 kInts := Lib.tabIs_of_head (rest := [("armarium/sha.begin", Rows.laid_armarium_sha_begin), ("unicode/utf8.first", Rows.laid_unicode_utf8_first)]) gK gKt Tryz.underlying226 Tryz.underlying145 (by kernel_rfl) (by kernel_rfl) (laidMet.tail (laidMet.tail (laidMet.tail (laidMet.tail h))))
 have h2 : Lib.TabIs Tryz.prog W "armarium/sha.begin" .u32 bInts := Lib.tabIs_of_head (rest := [("unicode/utf8.first", Rows.laid_unicode_utf8_first)]) gB gBt Tryz.underlying179 Tryz.underlying145 (by kernel_rfl) (by kernel_rfl) (laidMet.tail (laidMet.tail (laidMet.tail (laidMet.tail (laidMet.tail h)))))
 have h3 : Lib.TabIs Tryz.prog W "internal/strconv.uint64pow10" .u64 pInts := Lib.tabIs_of_head (rest := [("unicode/utf8.acceptRanges", Rows.laid_unicode_utf8_acceptRanges), ("armarium/sha.k", Rows.laid_armarium_sha_k), ("armarium/sha.begin", Rows.laid_armarium_sha_begin), ("unicode/utf8.first", Rows.laid_unicode_utf8_first)]) gPow gPt Tryz.underlying286 Tryz.underlying165 (by kernel_rfl) (by kernel_rfl) (laidMet.tail (laidMet.tail h))
 have hk : ∀ j, j < 64 → W.cell? ⟨1, j, none⟩ = some (.int .u32 (kTab.getD j 0).toNat) := fun j hj => by
  rw [h1.cell gK j hj]
  have e : ∀ j : Fin 64, kInts.getD j.val 0 = ((kTab.getD j.val 0).toNat : Int) := by decide +kernel
  rw [e ⟨j, hj⟩]
 have hb : ∀ j, W.cell? ⟨0, j, none⟩ = (stCells begin_)[j]? := fun j => by
  have := World.var?_cell gB h2 j
  rw [this]
  rfl
 have hp : PowTab W := by
  have e : pInts = Lib.pow10Tab := by decide +kernel
  rw [e] at h3
  exact h3
 have l1 := World.block_lt_of_cell? W ⟨1, 0, none⟩ (hk 0 (by omega))
 have l2 := World.block_lt_of_cell? W ⟨0, 0, none⟩ ((hb 0).trans rfl)
 have l3 : 2 < W.heap.size := by
  have := h3.cell gPow 0 (by decide)
  exact World.block_lt_of_cell? W ⟨2, 0, none⟩ this
 exact ⟨⟨hk, hb, l1, l2⟩, hp, l1, l2, l3⟩
noncomputable def laidWorld (os : Os) : World := { World.holding Tryz.prog os ⟨#[], #[], []⟩ with heap := ((((((((World.holding Tryz.prog os ⟨#[], #[], []⟩).heap.modify 5 (laying (([0, 1, 28, 2, 29, 14, 24, 3, 30, 22, 20, 15, 25, 17, 4, 8, 31, 27, 13, 23, 21, 19, 16, 7, 26, 12, 18, 6, 11, 5, 10, 9] : List Int).map fun z => Value.int .u8 z).toArray)).modify 6 (laying (([0, 1, 56, 2, 57, 49, 28, 3, 61, 58, 42, 50, 38, 29, 17, 4, 62, 47, 59, 36, 45, 43, 51, 22, 53, 39, 33, 30, 24, 18, 12, 5, 63, 55, 48, 27, 60, 41, 37, 16, 46, 35, 44, 21, 52, 32, 23, 11, 54, 26, 40, 15, 34, 20, 31, 10, 25, 14, 19, 9, 13, 8, 7, 6] : List Int).map fun z => Value.int .u8 z).toArray)).modify 2 (laying (pInts.map fun z => Value.int .u64 z).toArray)).modify 4 (laying ((List.range 16).flatMap fun i => [Value.int .u8 (Lib.accLo i), Value.int .u8 (Lib.accHi i)]).toArray)).modify 1 (laying (kInts.map fun z => Value.int .u32 z).toArray)).modify 0 (laying (bInts.map fun z => Value.int .u32 z).toArray)).modify 3 (laying (Lib.firstTab.map fun z => Value.int .u8 z).toArray)) }
end Go.Proofs.YtnlabkogebnioaaGreatDoor
