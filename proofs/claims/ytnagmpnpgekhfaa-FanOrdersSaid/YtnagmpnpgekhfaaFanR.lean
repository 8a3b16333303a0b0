/- The document's answer for fan: Plain, Same, Num, right, Find, Bucket. The document's answer for fan: Make. The document's answer for fan: Encode, Decode. armariumlaw14: awake. -/
import Derived.Test.YtnagmpnpgekhfaaFanB
import Derived.Test.YtnagmpnpgekhfaaManText
import Derived.Test.YtnagmpnpgekhfaaRefOf
import Derived.Test.YtnagmpnpgekhfaaStructEq0
namespace Go.Proofs.Ytnagmpnpgekhfaa
open Go.RowKit
def recE (e : Ent) : List Value := [str e.sum, .int .i64 e.pack, .int .i64 e.pos, .int .i64 e.len]
theorem recE_length (e : Ent) : (recE e).length = 4 := rfl
theorem recE_one (e : Ent) : ∀ v ∈ recE e, v.oneCell' = true := by
  intro v hv
  simp only [recE, List.mem_cons, List.not_mem_nil, or_false] at hv
  rcases hv with rfl | rfl | rfl | rfl <;> rfl
/-- entries of the document's answer -/
abbrev REnts (w : World) (v : Value) (l : List Ent) : Prop := Reads w 4 v l.length (l.flatMap recE)
theorem REnts.range {w : World} {g o c : Nat} {l : List Ent} (h : REnts w (.slice (some ⟨g, o, none⟩) l.length c) l) {j : Nat} {x : Ent} (hx : l[j]? = some x) : w.rangeAt g (o + j * 4) (recE x) := h.rec_ (fun a _ => recE_length a) hx
theorem brec (s : List UInt8) (a b c : Int) (w : World) : (Instr.build 94 #[(0, str s), (1, .int .i64 a), (2, .int .i64 b), (3, .int .i64 c)]).run Try.prog w = .ok (.agg (recE ⟨s, a, b, c⟩).toArray) w := by kernel_rfl
theorem fieldsREntE : Try.prog.underlying 94 = some (.struct (Try.prog.fieldsOf 94)) := by kernel_rfl
theorem ent_dec (a b : Ent) : (a.sum == b.sum && (a.pack == b.pack && (a.pos == b.pos && a.len == b.len))) = decide (a = b) := by
  cases a; cases b
  rw [Bool.eq_iff_iff]
  simp
set_option maxRecDepth 30000 in
theorem eqREnt (a b : Ent) (w : World) : (Op.equalIn 10000 94 (.agg (recE a).toArray) (.agg (recE b).toArray)).run Try.prog w = .ok (decide (a = b)) w := by
  refine (run_equalIn_struct w 9999 _ _ _ fieldsREntE (by kernel_rfl)).trans ?_
  have hf := Option.some.inj (fieldsREntE.symm.trans Try.underlying94)
  injection hf with hf
  rw [hf]
  have h1 : ∀ c : Ent, (part 9 (recE c).toArray 0).run Try.prog w = .ok (str c.sum) w := fun c => run_part1 Try.underlying9 rfl rfl
  have h2 : ∀ c : Ent, (part 3 (recE c).toArray 1).run Try.prog w = .ok (.int .i64 c.pack) w := fun c => run_part1 Try.underlying3 rfl rfl
  have h3 : ∀ c : Ent, (part 3 (recE c).toArray 2).run Try.prog w = .ok (.int .i64 c.pos) w := fun c => run_part1 Try.underlying3 rfl rfl
  have h4 : ∀ c : Ent, (part 3 (recE c).toArray 3).run Try.prog w = .ok (.int .i64 c.len) w := fun c => run_part1 Try.underlying3 rfl rfl
  have e1 : (Op.equalIn 9999 9 (str a.sum) (str b.sum)).run Try.prog w = .ok (a.sum == b.sum) w := by
    unfold str
    rw [run_equalIn_string w 9998 9 _ _ Try.underlying9, ByteArray.toList_eq, ByteArray.toList_eq]
  have e2 : (Op.equalIn 9999 3 (.int .i64 a.pack) (.int .i64 b.pack)).run Try.prog w = .ok (a.pack == b.pack) w := run_equalIn_int w 9998 3 .i64 .i64 _ _ Try.underlying3
  have e3 : (Op.equalIn 9999 3 (.int .i64 a.pos) (.int .i64 b.pos)).run Try.prog w = .ok (a.pos == b.pos) w := run_equalIn_int w 9998 3 .i64 .i64 _ _ Try.underlying3
  have e4 : (Op.equalIn 9999 3 (.int .i64 a.len) (.int .i64 b.len)).run Try.prog w = .ok (a.len == b.len) w := run_equalIn_int w 9998 3 .i64 .i64 _ _ Try.underlying3
  rw [← ent_dec]
  exact eqFields_cons (by decide) (h1 a) (h1 b) e1 (fun _ => eqFields_cons (by decide) (h2 a) (h2 b) e2 (fun _ => eqFields_cons (by decide) (h3 a) (h3 b) e3 (fun _ => eqFields_one (by decide) (h4 a) (h4 b) e4)))
theorem X.neREnt {l : Env} {x y : Operand} {w : World} {t' ty : TypeId} {a b : Ent} (hx : ev l x = some (.agg (recE a).toArray)) (hy : ev l y = some (.agg (recE b).toArray)) : X Try.prog l (.binOp .neq 94 x y t') ty w (.bool (decide (a ≠ b))) w :=
  X.bin hx hy (fun c d => run_eqGuard_agg w .neq _ c d _ _ (by kernel_rfl)) (by rw [run_neq_struct, eqREnt]; simp [Result.andThen])
theorem entRange {W : World} {g o : Nat} {x : Ent} (h : W.rangeAt g o x.cells) : W.rangeAt g (o + 0) (x.sum.map bv) := fun i v hv => by
  refine h i v ?_
  unfold Ent.cells
  rw [List.getElem?_append_left (List.getElem?_eq_some_iff.1 hv).1, hv]
set_option maxRecDepth 10000 in
theorem FPlain_any (v : Value) (l : List Ent) (w : World) (h : EntsAt w v l) (h32 : S32 l) (hl : l.length ≤ 1000000) :
    Calls Try.prog 47 #[v] w fun e w' => ∃ v', e = .returned v' ∧ Row w' 94 4 v' l.length (l.flatMap recE) ∧ (∀ k, v'.ownBlock = some k → w.heap.size ≤ k) ∧ Below w.heap.size w w' := by
  obtain ⟨a, cp, rfl, hn, hcp⟩ := h.shape
  refine W_enter (args := [.slice a l.length cp]) 37 Try.func47 rfl rfl rfl ?_
  refine W_sub [(0, .slice a l.length cp)] ?_ ⟨rfl, trivial⟩
  have hbw := Below.refl w.heap.size w
  refine W_rs ?_
  refine sa rfl rfl ?_
  refine Wn ?_
  refine tN ?_
  refine W_rs ?_
  refine sa rfl rfl ?_
  refine Wn ?_
  refine tN ?_
  refine W_seq ?_
  refine W_rs ?_
  refine sa rfl rfl ?_
  refine Wn ?_
  refine tN ?_
  refine W_block ?_
  refine W_lp (fun nw1_ lw1_ w1 => ∃ j : Nat, ∃ v : Value, nw1_ = l.length - j ∧ lw1_ = ([(0, .slice a l.length cp), (3, v), (4, .int .i64 j)] : Env) ∧ (j ≤ l.length) ∧ (Row w1 94 4 v j ((l.take j).flatMap recE)) ∧ (∀ k, v.ownBlock = some k → w.heap.size ≤ k) ∧ (Below w.heap.size w w1)) _ ⟨_, ⟨0, .slice none 0 0, rfl, rfl, by omega, Row.nil _ _ _, (fun k hk => by simp [Value.ownBlock] at hk), hbw⟩, ⟨rfl, rfl, rfl, trivial⟩⟩ ?_
  clear hbw
  rintro nw1_ lw1_ w1 ⟨j, v, rfl, rfl, hj, hR, hO, hbw⟩
  have hz_w1 := hbw.size
  refine W_seq ?_
  refine W_rs ?_
  refine sm rfl rfl ?_
  refine sm rfl rfl ?_
  refine st (X.lenL rfl rfl Try.underlying69) rfl ?_
  refine st (X.lss rfl rfl) rfl ?_
  refine Wn ?_
  refine tN ?_
  refine W_if rfl (fun h8 => ?_) (fun h8 => ?_)
  · first | replace h8 := of_decide_eq_true h8 | replace h8 := of_decide_eq_false (notT h8) | replace h8 := notT h8 | skip
    obtain ⟨x, hx⟩ : ∃ x, l[j]? = some x := ⟨_, List.getElem?_eq_getElem (by omega)⟩
    obtain ⟨g1, o1, c', hv, hg1⟩ := (h.bel hbw).some_ (by omega)
    injection hv with e1 _ e3
    subst e1 e3
    have hxs := h32 x (List.mem_of_getElem? hx)
    refine W_skip ?_
    refine tN ?_
    refine W_seq ?_
    refine W_block ?_
    refine W_drN (fun W_ => W_.rangeAt g1 (o1 + j * 35) x.cells) [0, 1, 2, 3, 4, 5, 7, 8, 9, 10, 11, 12, 13, 14, 15, 16, 17, 18, 19, 20, 21, 6, 22, 23, 24, 25] [true, true, true, true, true, true, true, true, true, true, true, true, true, true, true, true, true, true, true, true, true, false, true, false, false, true] (by kernel_rfl) (by kernel_rfl) (EntsAt.range (h.bel (bdrew hbw)) h32 hx) ?_
    obtain ⟨w2, hw_⟩ : ∃ w2 : World, w2 = World.drew w1 := ⟨_, rfl⟩
    rw [← hw_]
    have hb : Below w1.heap.size w1 w2 := by rw [hw_]; exact bdrew (Below.refl _ _)
    clear hw_
    have hS := hb
    have hpend := hb
    replace hbw := bthen hbw hb
    have hz_w2 := hb.size
    clear hb
    refine oY rfl (fun W_ hW_ => (X.move rfl)) rfl ?_
    refine oY rfl (fun W_ hW_ => (X.move rfl)) rfl ?_
    refine oY rfl (fun W_ hW_ => (X.move rfl)) rfl ?_
    refine oY rfl (fun W_ hW_ => (X.idxA rfl rfl Try.underlying69 siz90 rfl (by omega))) rfl ?_
    refine oY rfl (fun W_ hW_ => (X.fa fa90_0 rfl)) rfl ?_
    refine oY rfl (fun W_ hW_ => (X.ldN (cs := x.sum.map bv) rfl Try.underlying36 rfl (by rw [List.length_map, hxs]; exact siz36) (entRange hW_))) rfl ?_
    refine oY rfl (fun W_ hW_ => (X.move rfl)) rfl ?_
    refine oY rfl (fun W_ hW_ => (X.move rfl)) rfl ?_
    refine oY rfl (fun W_ hW_ => (X.idxA rfl rfl Try.underlying69 siz90 rfl (by omega))) rfl ?_
    refine oY rfl (fun W_ hW_ => (X.fa fa90_1 rfl)) rfl ?_
    refine oY rfl (fun W_ hW_ => (X.ld rfl Try.underlying3 rfl (hW_ 32 (.int .i64 x.pack) (by simp [Ent.cells, hxs])))) rfl ?_
    refine oY rfl (fun W_ hW_ => (X.move rfl)) rfl ?_
    refine oY rfl (fun W_ hW_ => (X.move rfl)) rfl ?_
    refine oY rfl (fun W_ hW_ => (X.idxA rfl rfl Try.underlying69 siz90 rfl (by omega))) rfl ?_
    refine oY rfl (fun W_ hW_ => (X.fa fa90_2 rfl)) rfl ?_
    refine oY rfl (fun W_ hW_ => (X.ld rfl Try.underlying3 rfl (hW_ 33 (.int .i64 x.pos) (by simp [Ent.cells, hxs])))) rfl ?_
    refine oY rfl (fun W_ hW_ => (X.move rfl)) rfl ?_
    refine oY rfl (fun W_ hW_ => (X.move rfl)) rfl ?_
    refine oY rfl (fun W_ hW_ => (X.idxA rfl rfl Try.underlying69 siz90 rfl (by omega))) rfl ?_
    refine oY rfl (fun W_ hW_ => (X.fa fa90_3 rfl)) rfl ?_
    refine oY rfl (fun W_ hW_ => (X.ld rfl Try.underlying3 rfl (hW_ 34 (.int .i64 x.len) (by simp [Ent.cells, hxs])))) rfl ?_
    refine oL rfl (fun Q_ hQ_ hP_ => ?_)
    refine sc _ Try.func34 rfl (by kernel_rfl) rfl rfl ((Text_any x.sum _ hxs).mono ?_)
    rintro e_ w3 ⟨rfl, hb⟩
    refine cR ?_
    replace hpend := bthen hpend hb
    replace hbw := bthen hbw hb
    have hz_w3 := hb.size
    clear hb
    refine Wn (hQ_ _ _ (EntsAt.range (h.bel hbw) h32 hx) ?_)
    clear hQ_ hP_ Q_
    refine oY rfl (fun W_ hW_ => (X.bld rfl (brec _ _ _ _ _))) rfl ?_
    refine oL rfl (fun Q_ hQ_ hP_ => ?_)
    refine sbs1 rfl Try.underlying74 inf94 rfl rfl (by decide) (by decide) rfl (fun g34 w4 hR34 hg34 hb => ?_)
    replace hpend := bthen hpend hb
    replace hbw := bthen hbw hb
    have hz_w4 := hb.size
    clear hb
    have hl34 := hR34.blt (by decide)
    refine Wn (hQ_ _ _ (EntsAt.range (h.bel hbw) h32 hx) ?_)
    clear hQ_ hP_ Q_
    refine oL rfl (fun Q_ hQ_ hP_ => ?_)
    replace hR := hR.bel hpend
    clear hpend
    refine sapp rfl rfl Try.underlying74 inf94 rfl (by decide) hR (hR34.reads.src Try.underlying74 (recE_one x)) (by simp only [maxLen]; omega) (by omega) rfl (fun v' w5 hR' hC hv' => ?_)
    replace hbw := bapp hbw hC hO
    replace hO := own_next hv' hO (by omega)
    clear hC hv'
    refine Wn (hQ_ _ _ (EntsAt.range (h.bel hbw) h32 hx) ?_)
    clear hQ_ hP_ Q_
    refine oY rfl (fun W_ hW_ => (X.assign rfl)) rfl ?_
    refine oN ?_
    refine nN ?_
    refine bN ?_
    refine tN ?_
    refine W_reg ?_
    refine sm rfl rfl ?_
    refine st (X.add64 rfl rfl (by omega)) rfl ?_
    refine sa rfl rfl ?_
    refine Wn ?_
    refine tN ⟨_, _, ?_, ⟨j + 1, v', rfl, rfl, by omega, by rw [take_next' hx, List.flatMap_append]; exact hR', hO, hbw⟩, ⟨rfl, rfl, rfl, trivial⟩⟩
    omega
  · first | replace h8 := of_decide_eq_false h8 | replace h8 := of_decide_eq_true (notF h8) | replace h8 := notF h8 | skip
    obtain rfl : j = l.length := by omega
    rw [List.take_length] at hR
    refine W_exit (tE (tE (bH ?_)))
    refine tN ?_
    refine W_rs ?_
    refine sm rfl rfl ?_
    refine sa rfl rfl ?_
    refine Wn ?_
    refine tN ?_
    refine W_ret ?_
    exact (rT rfl rfl ⟨_, rfl, hR, hO, hbw⟩).1
theorem FSame_any (va vb : Value) (la lb : List Ent) (w : World) (ha : EntsAt w va la) (h32 : S32 la) (hl : la.length ≤ 1000000) (hb_ : REnts w vb lb) :
    Calls Try.prog 53 #[va, vb] w fun e w' => e = .returned (.bool (decide (la = lb))) ∧ Below w.heap.size w w' := by
  obtain ⟨aa, ca, rfl, han, hac⟩ := ha.shape
  obtain ⟨ab, cb, rfl, hbn, hbc⟩ := hb_.shape
  refine W_enter (args := [.slice aa la.length ca, .slice ab lb.length cb]) 29 Try.func53 rfl rfl rfl ?_
  refine W_sub [(0, .slice aa la.length ca), (1, .slice ab lb.length cb)] ?_ ⟨rfl, rfl, trivial⟩
  have hbw := Below.refl w.heap.size w
  refine W_rs ?_
  refine sa rfl rfl ?_
  refine Wn ?_
  refine tN ?_
  refine W_seq ?_
  refine W_rs ?_
  refine sm rfl rfl ?_
  refine st (X.lenL rfl rfl Try.underlying69) rfl ?_
  refine sm rfl rfl ?_
  refine st (X.lenL rfl rfl Try.underlying74) rfl ?_
  refine st (X.neq rfl rfl) rfl ?_
  refine Wn ?_
  refine tN ?_
  refine W_if rfl (fun h11 => ?_) (fun h11 => ?_)
  · first | replace h11 := of_decide_eq_true h11 | replace h11 := of_decide_eq_false (notT h11) | replace h11 := notT h11 | skip
    refine W_rs ?_
    refine sa rfl rfl ?_
    refine Wn ?_
    refine tN ?_
    refine W_ret (tR ?_)
    refine (rT rfl rfl ⟨?_, hbw⟩).1
    rw [show decide (la = lb) = false from decide_eq_false (fun h => by subst h; exact h11 rfl)]
  · first | replace h11 := of_decide_eq_false h11 | replace h11 := of_decide_eq_true (notF h11) | replace h11 := notF h11 | skip
    refine W_skip ?_
    refine tN ?_
    refine W_rs ?_
    refine sm rfl rfl ?_
    refine sc _ Try.func47 rfl (by kernel_rfl) rfl rfl ((FPlain_any _ la _ (ha.bel hbw) h32 hl).mono ?_)
    rintro e_ w1 ⟨vp, rfl, hR, hO, hb⟩
    refine cR ?_
    replace hbw := bthen hbw hb
    have hz_w1 := hb.size
    clear hb
    have hP : REnts w1 vp la := hR.reads
    clear hR
    obtain ⟨ap, c_p, rfl, hpn, hpc⟩ := hP.shape
    refine sa rfl rfl ?_
    refine Wn ?_
    refine tN ?_
    refine W_seq ?_
    refine W_rs ?_
    refine sa rfl rfl ?_
    refine Wn ?_
    refine tN ?_
    refine W_block ?_
    refine W_lp (fun nw2_ lw2_ w2 => ∃ j : Nat, nw2_ = la.length - j ∧ lw2_ = ([(0, .slice aa la.length ca), (1, .slice ab lb.length cb), (5, .slice ap la.length c_p), (6, .int .i64 j)] : Env) ∧ (j ≤ la.length) ∧ (la.take j = lb.take j) ∧ (REnts w2 (.slice ap la.length c_p) la) ∧ (Below w.heap.size w w2)) _ ⟨_, ⟨0, rfl, rfl, by omega, rfl, hP, hbw⟩, ⟨rfl, rfl, rfl, rfl, trivial⟩⟩ ?_
    clear hP hbw
    rintro nw2_ lw2_ w2 ⟨j, rfl, rfl, hj, hq, hP, hbw⟩
    have hz_w2 := hbw.size
    refine W_seq ?_
    refine W_rs ?_
    refine sm rfl rfl ?_
    refine sm rfl rfl ?_
    refine st (X.lenL rfl rfl Try.underlying69) rfl ?_
    refine st (X.lss rfl rfl) rfl ?_
    refine Wn ?_
    refine tN ?_
    refine W_if rfl (fun h17 => ?_) (fun h17 => ?_)
    · first | replace h17 := of_decide_eq_true h17 | replace h17 := of_decide_eq_false (notT h17) | replace h17 := notT h17 | skip
      obtain ⟨x, hx⟩ : ∃ x, la[j]? = some x := ⟨_, List.getElem?_eq_getElem (by omega)⟩
      obtain ⟨y, hy⟩ : ∃ y, lb[j]? = some y := ⟨_, List.getElem?_eq_getElem (by omega)⟩
      obtain ⟨g1, o1, c', hv, hg1⟩ := hP.some_ (by omega)
      injection hv with e1 _ e3
      subst e1 e3
      obtain ⟨g2, o2, c', hv, hg2⟩ := (hb_.bel hbw).some_ (by omega)
      injection hv with e1 _ e3
      subst e1 e3
      refine W_skip ?_
      refine tN ?_
      refine W_seq ?_
      refine W_block ?_
      refine W_drsN (fun W_ => W_.rangeAt g1 (o1 + j * 4) (recE x) ∧ W_.rangeAt g2 (o2 + j * 4) (recE y)) [0, 1, 2, 3, 4, 5, 6, 7, 8] [true, true, true, true, true, true, true, true, true] (by kernel_rfl) (by kernel_rfl) (⟨REnts.range (hP.bel (bdrew (Below.refl _ _))) hx, REnts.range (hb_.bel (bdrew hbw)) hy⟩) ?_
      obtain ⟨w3, hw_⟩ : ∃ w3 : World, w3 = World.drew w2 := ⟨_, rfl⟩
      rw [← hw_]
      have hb : Below w2.heap.size w2 w3 := by rw [hw_]; exact bdrew (Below.refl _ _)
      clear hw_
      have hS := hb
      replace hbw := bthen hbw hb
      replace hP := hP.bel hb
      have hz_w3 := hb.size
      clear hb
      refine oY rfl (fun W_ hW_ => (X.move rfl)) rfl ?_
      refine oY rfl (fun W_ hW_ => (X.move rfl)) rfl ?_
      refine oY rfl (fun W_ hW_ => (X.idxA rfl rfl Try.underlying74 siz94 rfl (by omega))) rfl ?_
      refine oY rfl (fun W_ hW_ => (X.ldN (cs := recE x) rfl Try.underlying94 rfl siz94 hW_.1)) rfl ?_
      refine oY rfl (fun W_ hW_ => (X.move rfl)) rfl ?_
      refine oY rfl (fun W_ hW_ => (X.move rfl)) rfl ?_
      refine oY rfl (fun W_ hW_ => (X.idxA rfl rfl Try.underlying74 siz94 rfl (by omega))) rfl ?_
      refine oY rfl (fun W_ hW_ => (X.ldN (cs := recE y) rfl Try.underlying94 rfl siz94 hW_.2)) rfl ?_
      refine oY rfl (fun W_ hW_ => (X.neREnt rfl rfl)) rfl ?_
      refine oN ?_
      refine nN ?_
      refine W_if rfl (fun h28 => ?_) (fun h28 => ?_)
      · first | replace h28 := of_decide_eq_true h28 | replace h28 := of_decide_eq_false (notT h28) | replace h28 := notT h28 | skip
        refine W_rs ?_
        refine sa rfl rfl ?_
        refine Wn ?_
        refine tN ?_
        refine W_ret (bR (tR (tR (bR (tR ?_)))))
        refine (rT rfl rfl ⟨?_, hbw⟩).1
        rw [show decide (la = lb) = false from decide_eq_false (at_ne hx hy h28)]
      · first | replace h28 := of_decide_eq_false h28 | replace h28 := of_decide_eq_true (notF h28) | replace h28 := notF h28 | skip
        refine W_skip ?_
        refine bN ?_
        refine tN ?_
        refine W_reg ?_
        refine sm rfl rfl ?_
        refine st (X.add64 rfl rfl (by omega)) rfl ?_
        refine sa rfl rfl ?_
        refine Wn ?_
        refine tN ⟨_, _, ?_, ⟨j + 1, rfl, rfl, by omega, by rw [take_next' hx, take_next' hy, hq, Classical.not_not.1 h28], hP, hbw⟩, ⟨rfl, rfl, rfl, rfl, trivial⟩⟩
        omega
    · first | replace h17 := of_decide_eq_false h17 | replace h17 := of_decide_eq_true (notF h17) | replace h17 := notF h17 | skip
      refine W_exit (tE (tE (bH ?_)))
      refine tN ?_
      refine W_rs ?_
      refine sa rfl rfl ?_
      refine Wn ?_
      refine tN ?_
      refine W_ret ?_
      obtain rfl : j = la.length := by omega
      refine (rT rfl rfl ⟨?_, hbw⟩).1
      rw [show decide (la = lb) = true from decide_eq_true (take_all (by omega) hq)]
theorem right_any (n : Int) (w : World) : Calls Try.prog 79 #[.int .i64 n] w fun e w' => e = .returned (.bool (fitN n)) ∧ Below w.heap.size w w' := by
  refine W_enter (args := [.int .i64 n]) 9 Try.func79 rfl rfl rfl ?_
  refine W_sub [(0, .int .i64 n)] ?_ ⟨rfl, trivial⟩
  have hbw := Below.refl w.heap.size w
  refine W_rs ?_
  refine sa rfl rfl ?_
  refine Wn ?_
  refine tN ?_
  refine W_rs ?_
  refine sm rfl rfl ?_
  refine st (X.geq rfl rfl) rfl ?_
  refine sb rfl rfl (fun h5 => ?_) (fun h5 => ?_)
  · first | replace h5 := of_decide_eq_true h5 | replace h5 := of_decide_eq_false (notT h5) | replace h5 := notT h5 | skip
    refine gY (g := 5) rfl rfl rfl ?_
    refine sm rfl rfl ?_
    refine gY (g := 5) rfl rfl rfl ?_
    refine st (X.leq rfl rfl) rfl ?_
    refine st (X.pickT rfl rfl) rfl ?_
    refine sa rfl rfl ?_
    refine Wn ?_
    refine tN ?_
    refine W_ret ?_
    refine (rT rfl rfl ⟨?_, hbw⟩).1
    congr 2
    unfold fitN
    simp
    omega
  · first | replace h5 := of_decide_eq_false h5 | replace h5 := of_decide_eq_true (notF h5) | replace h5 := notF h5 | skip
    refine gN (g := 5) rfl rfl rfl rfl ?_
    refine gN (g := 5) rfl rfl rfl rfl ?_
    refine st (X.pickF rfl rfl) rfl ?_
    refine sa rfl rfl ?_
    refine Wn ?_
    refine tN ?_
    refine W_ret ?_
    refine (rT rfl rfl ⟨?_, hbw⟩).1
    congr 2
    unfold fitN
    simp
    omega
def fourD (n : Int) : Nat → List UInt8
  | 0 => []
  | k + 1 => fourD n k ++ [byteI (n / 256 ^ k)]
theorem wbm (m : Int) : IntKind.u8.wrap (m % 256) = ((byteI m).toNat : Int) := by rw [w8, byteI_toNat]; omega
theorem Num_any (n : Int) (w : World) (h0 : 0 ≤ n) (h1 : n ≤ 9223372036854775807) : Calls Try.prog 67 #[.int .i64 n] w fun e w' => e = .returned (str (four n)) ∧ Below w.heap.size w w' := by
  refine W_enter (args := [.int .i64 n]) 19 Try.func67 rfl rfl rfl ?_
  refine W_sub [(0, .int .i64 n)] ?_ ⟨rfl, trivial⟩
  have hbw := Below.refl w.heap.size w
  refine W_rs ?_
  refine sa rfl rfl ?_
  refine Wn ?_
  refine tN ?_
  refine W_rs ?_
  refine sa rfl rfl ?_
  refine Wn ?_
  refine tN ?_
  refine W_seq ?_
  refine W_rs ?_
  refine sa rfl rfl ?_
  refine Wn ?_
  refine tN ?_
  refine W_block ?_
  refine W_lp (fun nw1_ lw1_ w1 => ∃ k : Nat, ∃ m : Int, nw1_ = 4 - k ∧ lw1_ = ([(0, .int .i64 m), (3, str (fourD n k)), (4, .int .i64 k)] : Env) ∧ (k ≤ 4) ∧ (m = n / 256 ^ k) ∧ (0 ≤ m ∧ m ≤ 9223372036854775807) ∧ (Below w.heap.size w w1)) _ ⟨_, ⟨0, n, rfl, rfl, by omega, by simp, ⟨h0, h1⟩, hbw⟩, ⟨rfl, rfl, rfl, trivial⟩⟩ ?_
  clear hbw
  rintro nw1_ lw1_ w1 ⟨k, m, rfl, rfl, hk, hm, hm0, hbw⟩
  have hz_w1 := hbw.size
  refine W_seq ?_
  refine W_rs ?_
  refine sm rfl rfl ?_
  refine st (X.lss rfl rfl) rfl ?_
  refine Wn ?_
  refine tN ?_
  refine W_if rfl (fun h6 => ?_) (fun h6 => ?_)
  · first | replace h6 := of_decide_eq_true h6 | replace h6 := of_decide_eq_false (notT h6) | replace h6 := notT h6 | skip
    have hfl : (fourD n k).length = k := by clear hm hm0; induction k with | zero => rfl | succ q ih => (rw [fourD, List.length_append, ih (by omega) (by omega)]; rfl)
    refine W_skip ?_
    refine tN ?_
    refine W_seq ?_
    refine W_block ?_
    refine W_rs ?_
    refine sm rfl rfl ?_
    refine sm rfl rfl ?_
    refine st (X.rem64 rfl rfl (by omega) (by omega)) rfl ?_
    refine st (X.convI rfl Try.underlying3 Try.underlying5 (wbm m)) rfl ?_
    refine sbs1 rfl Try.underlying81 inf5 rfl rfl (by decide) (by decide) rfl (fun g13 w2 hR13 hg13 hb => ?_)
    replace hbw := bthen hbw hb
    have hz_w2 := hb.size
    clear hb
    have hl13 := hR13.blt (by decide)
    refine st (X.strOf (s := [byteI m]) rfl Try.underlying81 Try.underlying5 Try.underlying9 hR13.reads) rfl ?_
    refine st (X.cat rfl rfl (by rw [hfl]; simp; omega)) rfl ?_
    refine sa rfl rfl ?_
    refine Wn ?_
    refine tN ?_
    refine W_reg ?_
    rw [show fourD n k ++ [byteI m] = fourD n (k + 1) by rw [hm]; rfl]
    refine sm rfl rfl ?_
    refine st (X.quo64 rfl rfl (by omega) (by omega) (by omega)) rfl ?_
    refine sa rfl rfl ?_
    refine Wn ?_
    refine bN ?_
    refine tN ?_
    refine W_reg ?_
    refine sm rfl rfl ?_
    refine st (X.add64 rfl rfl (by omega)) rfl ?_
    refine sa rfl rfl ?_
    refine Wn ?_
    refine tN ⟨_, _, ?_, ⟨k + 1, m / 256, rfl, rfl, by omega, by rw [hm, Int.pow_succ, Int.ediv_ediv_of_nonneg (Int.pow_nonneg (by decide))], by omega, hbw⟩, ⟨rfl, rfl, rfl, trivial⟩⟩
    omega
  · first | replace h6 := of_decide_eq_false h6 | replace h6 := of_decide_eq_true (notF h6) | replace h6 := notF h6 | skip
    refine W_exit (tE (tE (bH ?_)))
    refine tN ?_
    refine W_rs ?_
    refine sm rfl rfl ?_
    refine sa rfl rfl ?_
    refine Wn ?_
    refine tN ?_
    refine W_ret ?_
    obtain rfl : k = 4 := by omega
    refine (rT rfl rfl ⟨?_, hbw⟩).1
    rw [show fourD n 4 = four n by simp [fourD, four]]
def rZ : Ent := ⟨[], 0, 0, 0⟩
theorem brecZ (w : World) : (Instr.build 94 #[]).run Try.prog w = .ok (.agg (recE rZ).toArray) w := by kernel_rfl
theorem recE_all (e : Ent) : (recE e).toArray.toList.all (·.oneCell') = true := by simp [recE, Value.oneCell', str]
theorem find_next {l : List Ent} {j : Nat} {x : Ent} {a : List UInt8} (hx : l[j]? = some x) : findM (l.drop j) a = if x.sum = a then some x else findM (l.drop (j + 1)) a := by
  obtain ⟨hj, rfl⟩ := List.getElem?_eq_some_iff.1 hx
  unfold findM
  rw [List.drop_eq_getElem_cons hj, List.find?_cons]
  by_cases h : l[j].sum = a <;> simp [h]
theorem RFind_any (v : Value) (l : List Ent) (s : List UInt8) (w : World) (h : REnts w v l) :
    Calls Try.prog 58 #[v, str s] w fun e w' => e = .returned (.tuple #[.agg (recE ((findM l s).getD rZ)).toArray, .bool (findM l s).isSome]) ∧ Below w.heap.size w w' := by
  obtain ⟨a, cp, rfl, hn, hcp⟩ := h.shape
  refine W_enter (args := [.slice a l.length cp, str s]) 25 Try.func58 rfl rfl rfl ?_
  refine W_sub [(0, .slice a l.length cp), (1, str s)] ?_ ⟨rfl, rfl, trivial⟩
  have hbw := Below.refl w.heap.size w
  refine W_rs ?_
  refine salA inf94 rfl (fun g4 w1 hB4 hg4 hb hl4 => ?_)
  replace hbw := bthen hbw hb
  have hz_w1 := hb.size
  clear hb
  refine sa rfl rfl ?_
  refine Wn ?_
  refine tN ?_
  refine W_seq ?_
  refine W_rs ?_
  refine sa rfl rfl ?_
  refine Wn ?_
  refine tN ?_
  refine W_block ?_
  refine W_lp (fun nw2_ lw2_ w2 => ∃ j : Nat, nw2_ = l.length - j ∧ lw2_ = ([(0, .slice a l.length cp), (1, str s), (4, .pointer (some ⟨g4, 0, none⟩)), (6, .int .i64 j)] : Env) ∧ (j ≤ l.length) ∧ (findM l s = findM (l.drop j) s) ∧ (Blk w2 g4 94 (recE rZ).toArray) ∧ (Below w.heap.size w w2)) _ ⟨_, ⟨0, rfl, rfl, by omega, rfl, hB4, hbw⟩, ⟨rfl, rfl, rfl, rfl, trivial⟩⟩ ?_
  clear hB4 hbw
  rintro nw2_ lw2_ w2 ⟨j, rfl, rfl, hj, hq, hB4, hbw⟩
  have hz_w2 := hbw.size
  have hlt_hB4_w2 := hB4.lt
  refine W_seq ?_
  refine W_rs ?_
  refine sm rfl rfl ?_
  refine sm rfl rfl ?_
  refine st (X.lenL rfl rfl Try.underlying74) rfl ?_
  refine st (X.lss rfl rfl) rfl ?_
  refine Wn ?_
  refine tN ?_
  refine W_if rfl (fun h10 => ?_) (fun h10 => ?_)
  · first | replace h10 := of_decide_eq_true h10 | replace h10 := of_decide_eq_false (notT h10) | replace h10 := notT h10 | skip
    obtain ⟨x, hx⟩ : ∃ x, l[j]? = some x := ⟨_, List.getElem?_eq_getElem (by omega)⟩
    obtain ⟨g1, o1, c', hv, hg1⟩ := (h.bel hbw).some_ (by omega)
    injection hv with e1 _ e3
    subst e1 e3
    refine W_skip ?_
    refine tN ?_
    refine W_seq ?_
    refine W_block ?_
    refine W_rs ?_
    refine sm rfl rfl ?_
    refine sm rfl rfl ?_
    refine st (X.idxA rfl rfl Try.underlying74 siz94 rfl (by omega)) rfl ?_
    refine st (X.fa fa94_0 rfl) rfl ?_
    refine st (X.ld rfl Try.underlying9 rfl (REnts.range (h.bel hbw) hx 0 _ rfl)) rfl ?_
    refine sm rfl rfl ?_
    refine st (X.eqS rfl rfl) rfl ?_
    refine Wn ?_
    refine tN ?_
    refine W_if rfl (fun h19 => ?_) (fun h19 => ?_)
    · first | replace h19 := of_decide_eq_true h19 | replace h19 := of_decide_eq_false (notT h19) | replace h19 := notT h19 | skip
      refine W_rs ?_
      refine sm rfl rfl ?_
      refine sm rfl rfl ?_
      refine st (X.idxA rfl rfl Try.underlying74 siz94 rfl (by omega)) rfl ?_
      refine st (X.ldN (cs := recE x) rfl Try.underlying94 rfl siz94 (REnts.range (h.bel hbw) hx)) rfl ?_
      refine ssBN rfl rfl hB4 siz94 rfl (recE_all x) (fun w3 hB_ hc_ => ?_)
      replace hB4 := hB_
      clear hB_
      replace hbw := bset hbw hc_ (by omega)
      have hz_w3 := hc_.size
      clear hc_
      refine sa rfl rfl ?_
      refine Wn ?_
      refine tN ?_
      refine W_ret (bR (tR (tR (bR (tR ?_)))))
      refine (rCT rfl rfl hB4 Try.underlying94 rfl siz94 rfl ?_).1
      rw [hq, find_next hx, if_pos h19]
      exact ⟨rfl, hbw⟩
    · first | replace h19 := of_decide_eq_false h19 | replace h19 := of_decide_eq_true (notF h19) | replace h19 := notF h19 | skip
      refine W_skip ?_
      refine bN ?_
      refine tN ?_
      refine W_reg ?_
      refine sm rfl rfl ?_
      refine st (X.add64 rfl rfl (by omega)) rfl ?_
      refine sa rfl rfl ?_
      refine Wn ?_
      refine tN ⟨_, _, ?_, ⟨j + 1, rfl, rfl, by omega, by rw [hq, find_next hx, if_neg h19], hB4, hbw⟩, ⟨rfl, rfl, rfl, rfl, trivial⟩⟩
      omega
  · first | replace h10 := of_decide_eq_false h10 | replace h10 := of_decide_eq_true (notF h10) | replace h10 := notF h10 | skip
    refine W_exit (tE (tE (bH ?_)))
    refine tN ?_
    refine W_rs ?_
    refine st (X.bld rfl (brecZ _)) rfl ?_
    refine ssBN rfl rfl hB4 siz94 rfl (recE_all rZ) (fun w4 hB_ hc_ => ?_)
    replace hB4 := hB_
    clear hB_
    replace hbw := bset hbw hc_ (by omega)
    have hz_w4 := hc_.size
    clear hc_
    refine sa rfl rfl ?_
    refine Wn ?_
    refine tN ?_
    refine W_ret ?_
    obtain rfl : j = l.length := by omega
    refine (rCT rfl rfl hB4 Try.underlying94 rfl siz94 rfl ?_).1
    rw [hq, List.drop_length]
    exact ⟨rfl, hbw⟩
theorem bucket_next {l : List Ent} {j : Nat} {x : Ent} (b : Nat) (hx : l[j]? = some x) : bucketM (l.take (j + 1)) b = bucketM (l.take j) b ++ (if hd x = b then [x] else []) := by rw [take_next' hx, bucket_snoc]
theorem RBucket_any (v : Value) (l : List Ent) (b : UInt8) (w : World) (h : REnts w v l) (h32 : S32 l) (hl : l.length ≤ 1000000) :
    Calls Try.prog 56 #[v, bv b] w fun e w' => ∃ v', e = .returned v' ∧ Row w' 94 4 v' (bucketM l b.toNat).length ((bucketM l b.toNat).flatMap recE) ∧ (∀ k, v'.ownBlock = some k → w.heap.size ≤ k) ∧ Below w.heap.size w w' := by
  obtain ⟨a, cp, rfl, hn, hcp⟩ := h.shape
  refine W_enter (args := [.slice a l.length cp, .int .u8 b.toNat]) 29 Try.func56 rfl rfl rfl ?_
  refine W_sub [(0, .slice a l.length cp), (1, .int .u8 b.toNat)] ?_ ⟨rfl, rfl, trivial⟩
  have hbw := Below.refl w.heap.size w
  refine W_rs ?_
  refine sa rfl rfl ?_
  refine Wn ?_
  refine tN ?_
  refine W_rs ?_
  refine sa rfl rfl ?_
  refine Wn ?_
  refine tN ?_
  refine W_seq ?_
  refine W_rs ?_
  refine sa rfl rfl ?_
  refine Wn ?_
  refine tN ?_
  refine W_block ?_
  refine W_lp (fun nw1_ lw1_ w1 => ∃ j : Nat, ∃ v : Value, nw1_ = l.length - j ∧ lw1_ = ([(0, .slice a l.length cp), (1, .int .u8 b.toNat), (5, v), (6, .int .i64 j)] : Env) ∧ (j ≤ l.length) ∧ (Row w1 94 4 v (bucketM (l.take j) b.toNat).length ((bucketM (l.take j) b.toNat).flatMap recE)) ∧ (∀ k, v.ownBlock = some k → w.heap.size ≤ k) ∧ (Below w.heap.size w w1)) _ ⟨_, ⟨0, .slice none 0 0, rfl, rfl, by omega, Row.nil _ _ _, (fun k hk => by simp [Value.ownBlock] at hk), hbw⟩, ⟨rfl, rfl, rfl, rfl, trivial⟩⟩ ?_
  clear hbw
  rintro nw1_ lw1_ w1 ⟨j, v, rfl, rfl, hj, hR, hO, hbw⟩
  have hz_w1 := hbw.size
  refine W_seq ?_
  refine W_rs ?_
  refine sm rfl rfl ?_
  refine sm rfl rfl ?_
  refine st (X.lenL rfl rfl Try.underlying74) rfl ?_
  refine st (X.lss rfl rfl) rfl ?_
  refine Wn ?_
  refine tN ?_
  refine W_if rfl (fun h10 => ?_) (fun h10 => ?_)
  · first | replace h10 := of_decide_eq_true h10 | replace h10 := of_decide_eq_false (notT h10) | replace h10 := notT h10 | skip
    obtain ⟨x, hx⟩ : ∃ x, l[j]? = some x := ⟨_, List.getElem?_eq_getElem (by omega)⟩
    obtain ⟨g1, o1, c', hv, hg1⟩ := (h.bel hbw).some_ (by omega)
    injection hv with e1 _ e3
    subst e1 e3
    have hxs := h32 x (List.mem_of_getElem? hx)
    have hbl : (bucketM (l.take j) b.toNat).length ≤ l.length := Nat.le_trans (List.length_filter_le _ _) (List.length_take_le' _ _)
    have hdx : x.sum.getD 0 0 = x.sum.headD 0 := by cases x.sum <;> rfl
    refine W_skip ?_
    refine tN ?_
    refine W_seq ?_
    refine W_block ?_
    refine W_rs ?_
    refine sm rfl rfl ?_
    refine sm rfl rfl ?_
    refine st (X.idxA rfl rfl Try.underlying74 siz94 rfl (by omega)) rfl ?_
    refine st (X.fa fa94_0 rfl) rfl ?_
    refine st (X.ld rfl Try.underlying9 rfl (REnts.range (h.bel hbw) hx 0 _ rfl)) rfl ?_
    refine st (X.idxS (q := 0) rfl rfl Try.underlying9 rfl (by omega)) rfl ?_
    refine sm rfl rfl ?_
    refine st (X.eql rfl rfl) rfl ?_
    refine Wn ?_
    refine tN ?_
    refine W_if rfl (fun h20 => ?_) (fun h20 => ?_)
    · first | replace h20 := of_decide_eq_true h20 | replace h20 := of_decide_eq_false (notT h20) | replace h20 := notT h20 | skip
      have hb20 : hd x = b.toNat := by unfold hd; rw [← hdx]; omega
      refine W_reg ?_
      refine sm rfl rfl ?_
      refine sm rfl rfl ?_
      refine sm rfl rfl ?_
      refine st (X.idxA rfl rfl Try.underlying74 siz94 rfl (by omega)) rfl ?_
      refine st (X.ldN (cs := recE x) rfl Try.underlying94 rfl siz94 (REnts.range (h.bel hbw) hx)) rfl ?_
      refine sbs1 rfl Try.underlying74 inf94 rfl rfl (by decide) (by decide) rfl (fun g26 w2 hR26 hg26 hb => ?_)
      have hpend := hb
      replace hbw := bthen hbw hb
      have hz_w2 := hb.size
      clear hb
      have hl26 := hR26.blt (by decide)
      replace hR := hR.bel hpend
      clear hpend
      refine sapp rfl rfl Try.underlying74 inf94 rfl (by decide) hR (hR26.reads.src Try.underlying74 (recE_one x)) (by simp only [maxLen]; omega) (by omega) rfl (fun v' w3 hR' hC hv' => ?_)
      replace hbw := bapp hbw hC hO
      have hO' := own_next hv' hO (by omega)
      replace hR' : Row w3 94 4 v' (bucketM (l.take (j + 1)) b.toNat).length ((bucketM (l.take (j + 1)) b.toNat).flatMap recE) := by rw [bucket_next _ hx, if_pos hb20, List.length_append, List.flatMap_append]; exact hR'
      clear hC hv'
      refine sa rfl rfl ?_
      refine Wn ?_
      refine bN ?_
      refine tN ?_
      refine W_reg ?_
      refine sm rfl rfl ?_
      refine st (X.add64 rfl rfl (by omega)) rfl ?_
      refine sa rfl rfl ?_
      refine Wn ?_
      refine tN ⟨_, _, ?_, ⟨j + 1, v', rfl, rfl, by omega, hR', hO', hbw⟩, ⟨rfl, rfl, rfl, rfl, trivial⟩⟩
      omega
    · first | replace h20 := of_decide_eq_false h20 | replace h20 := of_decide_eq_true (notF h20) | replace h20 := notF h20 | skip
      have hb20 : hd x ≠ b.toNat := by unfold hd; rw [← hdx]; omega
      obtain ⟨v', hv'⟩ : ∃ v', v' = v := ⟨_, rfl⟩
      have hO' := hO
      rw [← hv'] at hO'
      have hR' : Row w1 94 4 v' (bucketM (l.take (j + 1)) b.toNat).length ((bucketM (l.take (j + 1)) b.toNat).flatMap recE) := by rw [bucket_next _ hx, if_neg hb20, List.append_nil, hv']; exact hR
      subst hv'
      refine W_skip ?_
      refine bN ?_
      refine tN ?_
      refine W_reg ?_
      refine sm rfl rfl ?_
      refine st (X.add64 rfl rfl (by omega)) rfl ?_
      refine sa rfl rfl ?_
      refine Wn ?_
      refine tN ⟨_, _, ?_, ⟨j + 1, v', rfl, rfl, by omega, hR', hO', hbw⟩, ⟨rfl, rfl, rfl, rfl, trivial⟩⟩
      omega
  · first | replace h10 := of_decide_eq_false h10 | replace h10 := of_decide_eq_true (notF h10) | replace h10 := notF h10 | skip
    obtain rfl : j = l.length := by omega
    rw [List.take_length] at hR
    refine W_exit (tE (tE (bH ?_)))
    refine tN ?_
    refine W_rs ?_
    refine sm rfl rfl ?_
    refine sa rfl rfl ?_
    refine Wn ?_
    refine tN ?_
    refine W_ret ?_
    exact (rT rfl rfl ⟨_, rfl, hR, hO, hbw⟩).1
end Go.Proofs.Ytnagmpnpgekhfaa
namespace Go.Proofs.Ytnagmpnpgekhfaa
open Go.RowKit
def InsInv (O : List Ent) (x : Ent) (d : Bool) (k : Nat) (N : List Ent) : Prop := (d = true → Up (N ++ O.drop k) ∧ (N ++ O.drop k).Perm (x :: O)) ∧ (d = false → N = O.take k ∧ ∀ y ∈ N, y.sum < x.sum)
section
variable {O N : List Ent} {x o : Ent} {k : Nat}
theorem InsInv.start : InsInv O x false 0 [] := ⟨fun h => (by cases h), fun _ => ⟨rfl, fun y hy => (by simp at hy)⟩⟩
theorem InsInv.keep (h : InsInv O x true k N) (ho : O[k]? = some o) : InsInv O x true (k + 1) (N ++ [o]) := by
  obtain ⟨hk, rfl⟩ := List.getElem?_eq_some_iff.1 ho
  have := h.1 rfl
  rw [List.drop_eq_getElem_cons hk] at this
  refine ⟨fun _ => ?_, fun h => by cases h⟩
  rw [List.append_assoc]
  exact this
theorem InsInv.pass (h : InsInv O x false k N) (ho : O[k]? = some o) (hlt : o.sum < x.sum) : InsInv O x false (k + 1) (N ++ [o]) := by
  obtain ⟨h1, h2⟩ := h.2 rfl
  refine ⟨fun h => (by cases h), fun _ => ⟨by rw [h1, take_next' ho], fun y hy => ?_⟩⟩
  rcases List.mem_append.1 hy with h3 | h3
  · exact h2 y h3
  · simp at h3; rw [h3]; exact hlt
theorem ins_up (hu : Up O) (h2 : ∀ y ∈ O.take k, y.sum < x.sum) (h3 : ∀ y ∈ O.drop k, x.sum < y.sum) : Up (O.take k ++ x :: O.drop k) := by
  have hu' : Up (O.take k ++ O.drop k) := by rw [List.take_append_drop]; exact hu
  obtain ⟨a1, a2, a3⟩ := List.pairwise_append.1 hu'
  refine List.pairwise_append.2 ⟨a1, List.pairwise_cons.2 ⟨h3, a2⟩, fun a ha b hb => ?_⟩
  rcases List.mem_cons.1 hb with rfl | hb
  · exact h2 a ha
  · exact a3 a ha b hb
theorem InsInv.put (h : InsInv O x false k N) (hu : Up O) (ho : O[k]? = some o) (hlt : x.sum < o.sum) : InsInv O x true (k + 1) (N ++ [x] ++ [o]) := by
  obtain ⟨h1, h2⟩ := h.2 rfl
  obtain ⟨hk, rfl⟩ := List.getElem?_eq_some_iff.1 ho
  subst h1
  have e : O.take k ++ [x] ++ [O[k]] ++ O.drop (k + 1) = O.take k ++ x :: O.drop k := by rw [List.drop_eq_getElem_cons hk]; simp
  refine ⟨fun _ => ?_, fun h => (by cases h)⟩
  rw [e]
  refine ⟨ins_up hu h2 fun y hy => ?_, ?_⟩
  · obtain ⟨i, hi⟩ := List.mem_iff_getElem?.1 hy
    rw [List.getElem?_drop] at hi
    rcases Nat.eq_zero_or_pos i with rfl | hp
    · rw [Nat.add_zero, List.getElem?_eq_getElem hk] at hi; injection hi with hi; rw [← hi]; exact hlt
    · exact klt_trans hlt (hu.at_ (List.getElem?_eq_getElem hk) hi (by omega))
  · refine List.perm_middle.trans ?_
    rw [List.take_append_drop]
theorem InsInv.done (h : InsInv O x true O.length N) : Up N ∧ N.Perm (x :: O) := by
  have := h.1 rfl
  rwa [List.drop_length, List.append_nil] at this
theorem InsInv.last (h : InsInv O x false O.length N) (hu : Up O) : Up (N ++ [x]) ∧ (N ++ [x]).Perm (x :: O) := by
  obtain ⟨h1, h2⟩ := h.2 rfl
  rw [List.take_length] at h1
  subst h1
  exact ⟨up_snoc hu h2, List.perm_append_comm⟩
end
theorem idx_next {l O N : List Ent} {i : Nat} {x : Ent} (h : IsIdx O (l.take i)) (hx : l[i]? = some x) (hN : Up N ∧ N.Perm (x :: O)) : IsIdx N (l.take (i + 1)) := by
  refine ⟨hN.2.trans ?_, hN.1⟩
  rw [take_next' hx]
  exact (List.Perm.cons x h.perm).trans (List.perm_append_singleton x _).symm
theorem make_dup2 {l : List Ent} {i : Nat} {x o : Ent} (hx : l[i]? = some x) (ho : o ∈ l.take i) (he : o.sum = x.sum) (h1 : l.length ≤ 65536) (h2 : l.all fitE = true) : makeM l = ([], 16) := by
  unfold makeM
  rw [if_neg (by omega), if_neg (by rw [h2]; simp), if_neg]
  intro hn
  rw [List.Nodup, List.pairwise_map, List.pairwise_iff_getElem] at hn
  obtain ⟨j, hj⟩ := List.mem_iff_getElem?.1 ho
  have hjl := (List.getElem?_eq_some_iff.1 hj).1
  rw [List.length_take] at hjl
  rw [List.getElem?_take_of_lt (by omega)] at hj
  obtain ⟨q1, e1⟩ := List.getElem?_eq_some_iff.1 hj
  obtain ⟨q2, e2⟩ := List.getElem?_eq_some_iff.1 hx
  refine hn j i q1 q2 (by omega) ?_
  rw [e1, e2, he]
theorem Row.own_ltE {w : World} {e : TypeId} {size n : Nat} {v : Value} {xs : List Value} (h : Row w e size v n xs) : ∀ k, v.ownBlock = some k → k < w.heap.size := fun k hk => by
  rcases h.2 with ⟨rfl, _⟩ | ⟨g, off, cap, cur, fz, rfl, hg, _⟩
  · simp [Value.ownBlock] at hk
  · simp [Value.ownBlock] at hk
    subst hk
    exact (Array.getElem?_eq_some_iff.1 hg).1
theorem REnts.nil (w : World) : REnts w (.slice none 0 0) [] := (Row.nil w 94 4).reads
def RIdx (w : World) (r : List Ent × Int) (e : Ending) (w' : World) : Prop := ∃ v, e = .returned (.tuple #[v, .int .i64 r.2]) ∧ REnts w' v r.1 ∧ Below w.heap.size w w'
theorem ridx_err {w w' : World} {r : List Ent × Int} {k : Int} (h : r = ([], k)) (hb : Below w.heap.size w w') : RIdx w r (.returned (.tuple #[.slice none 0 0, .int .i64 k])) w' := by
  subst h
  exact ⟨_, rfl, REnts.nil _, hb⟩
set_option maxRecDepth 20000 in
set_option maxHeartbeats 4000000 in
theorem RMake_any (v : Value) (l : List Ent) (w : World) (h : REnts w v l) (hl : l.length ≤ 1000000) : Calls Try.prog 46 #[v] w (RIdx w (makeM l)) := by
  obtain ⟨a, cp, rfl, hn, hcp⟩ := h.shape
  refine W_enter (args := [.slice a l.length cp]) 107 Try.func46 rfl rfl rfl ?_
  refine W_sub [(0, .slice a l.length cp)] ?_ ⟨rfl, trivial⟩
  have hbw := Below.refl w.heap.size w
  refine W_rs ?_
  refine sa rfl rfl ?_
  refine sa rfl rfl ?_
  refine Wn ?_
  refine tN ?_
  refine W_seq ?_
  refine W_rs ?_
  refine sm rfl rfl ?_
  refine st (X.lenL rfl rfl Try.underlying74) rfl ?_
  refine st (X.gtr rfl rfl) rfl ?_
  refine Wn ?_
  refine tN ?_
  refine W_if rfl (fun h12 => ?_) (fun h12 => ?_)
  · first | replace h12 := of_decide_eq_true h12 | replace h12 := of_decide_eq_false (notT h12) | replace h12 := notT h12 | skip
    refine W_rs ?_
    refine sa rfl rfl ?_
    refine sa rfl rfl ?_
    refine Wn ?_
    refine tN ?_
    refine W_ret (tR ?_)
    exact (rTT rfl rfl rfl (ridx_err (make_31 (by omega)) hbw)).1
  · first | replace h12 := of_decide_eq_false h12 | replace h12 := of_decide_eq_true (notF h12) | replace h12 := notF h12 | skip
    refine W_skip ?_
    refine tN ?_
    refine W_seq ?_
    refine W_rs ?_
    refine sa rfl rfl ?_
    refine Wn ?_
    refine tN ?_
    refine W_block ?_
    refine W_lp (fun nw1_ lw1_ w1 => ∃ j : Nat, nw1_ = l.length - j ∧ lw1_ = ([(0, .slice a l.length cp), (4, .int .i64 j)] : Env) ∧ (j ≤ l.length) ∧ (l.all fitE = (l.drop j).all fitE) ∧ (Below w.heap.size w w1)) _ ⟨_, ⟨0, rfl, rfl, by omega, rfl, hbw⟩, ⟨rfl, rfl, trivial⟩⟩ ?_
    clear hbw
    rintro nw1_ lw1_ w1 ⟨j, rfl, rfl, hj, hq, hbw⟩
    have hz_w1 := hbw.size
    refine W_seq ?_
    refine W_rs ?_
    refine sm rfl rfl ?_
    refine sm rfl rfl ?_
    refine st (X.lenL rfl rfl Try.underlying74) rfl ?_
    refine st (X.lss rfl rfl) rfl ?_
    refine Wn ?_
    refine tN ?_
    refine W_if rfl (fun h16 => ?_) (fun h16 => ?_)
    · first | replace h16 := of_decide_eq_true h16 | replace h16 := of_decide_eq_false (notT h16) | replace h16 := notT h16 | skip
      obtain ⟨x, hx⟩ : ∃ x, l[j]? = some x := ⟨_, List.getElem?_eq_getElem (by omega)⟩
      obtain ⟨g1, o1, c', hv, hg1⟩ := (h.bel hbw).some_ (by omega)
      injection hv with e1 _ e3
      subst e1 e3
      refine W_skip ?_
      refine tN ?_
      refine W_seq ?_
      refine W_block ?_
      refine W_rs ?_
      refine sm rfl rfl ?_
      refine sm rfl rfl ?_
      refine st (X.idxA rfl rfl Try.underlying74 siz94 rfl (by omega)) rfl ?_
      refine st (X.fa fa94_1 rfl) rfl ?_
      refine st (X.ld rfl Try.underlying3 rfl (REnts.range (h.bel hbw) hx 1 _ rfl)) rfl ?_
      refine sc _ Try.func79 rfl (by kernel_rfl) rfl rfl ((right_any x.pack _).mono ?_)
      rintro e_ w2 ⟨rfl, hb⟩
      refine cR ?_
      replace hbw := bthen hbw hb
      have hz_w2 := hb.size
      clear hb
      refine st (X.not rfl) rfl ?_
      refine sb rfl rfl (fun h26 => ?_) (fun h26 => ?_)
      · first | replace h26 := of_decide_eq_true h26 | replace h26 := of_decide_eq_false (notT h26) | replace h26 := notT h26 | skip
        refine gN (g := 26) rfl rfl rfl rfl ?_
        refine gN (g := 26) rfl rfl rfl rfl ?_
        refine gN (g := 26) rfl rfl rfl rfl ?_
        refine gN (g := 26) rfl rfl rfl rfl ?_
        refine gN (g := 26) rfl rfl rfl rfl ?_
        refine gN (g := 26) rfl rfl rfl rfl ?_
        refine gN (g := 26) rfl rfl rfl rfl ?_
        refine st (X.pickT rfl rfl) rfl ?_
        refine sm rfl rfl ?_
        refine gN (g := 35) rfl rfl rfl rfl ?_
        refine gN (g := 35) rfl rfl rfl rfl ?_
        refine gN (g := 35) rfl rfl rfl rfl ?_
        refine gN (g := 35) rfl rfl rfl rfl ?_
        refine gN (g := 35) rfl rfl rfl rfl ?_
        refine gN (g := 35) rfl rfl rfl rfl ?_
        refine gN (g := 35) rfl rfl rfl rfl ?_
        refine st (X.pickT rfl rfl) rfl ?_
        refine Wn ?_
        refine tN ?_
        refine W_yes rfl (rfl) ?_
        refine W_rs ?_
        refine sa rfl rfl ?_
        refine sa rfl rfl ?_
        refine Wn ?_
        refine tN ?_
        refine W_ret (bR (tR (tR (bR (tR ?_)))))
        have hfx : fitE x = false := by unfold fitE fitN; rw [decide_eq_false h26]; rfl
        exact (rTT rfl rfl rfl (ridx_err (make_1 (by omega) (by rw [hq, all_atG hx, hfx]; rfl)) hbw)).1
      · first | replace h26 := of_decide_eq_false h26 | replace h26 := of_decide_eq_true (notF h26) | replace h26 := notF h26 | skip
        refine gY (g := 26) rfl rfl rfl ?_
        refine sm rfl rfl ?_
        refine gY (g := 26) rfl rfl rfl ?_
        refine sm rfl rfl ?_
        refine gY (g := 26) rfl rfl rfl ?_
        refine st (X.idxA rfl rfl Try.underlying74 siz94 rfl (by omega)) rfl ?_
        refine gY (g := 26) rfl rfl rfl ?_
        refine st (X.fa fa94_2 rfl) rfl ?_
        refine gY (g := 26) rfl rfl rfl ?_
        refine st (X.ld rfl Try.underlying3 rfl (REnts.range (h.bel hbw) hx 2 _ rfl)) rfl ?_
        refine gY (g := 26) rfl rfl rfl ?_
        refine sc _ Try.func79 rfl (by kernel_rfl) rfl rfl ((right_any x.pos _).mono ?_)
        rintro e_ w3 ⟨rfl, hb⟩
        refine cR ?_
        replace hbw := bthen hbw hb
        have hz_w3 := hb.size
        clear hb
        refine gY (g := 26) rfl rfl rfl ?_
        refine st (X.not rfl) rfl ?_
        refine st (X.pickF rfl rfl) rfl ?_
        refine sb rfl rfl (fun h35 => ?_) (fun h35 => ?_)
        · first | replace h35 := of_decide_eq_true h35 | replace h35 := of_decide_eq_false (notT h35) | replace h35 := notT h35 | skip
          refine gN (g := 35) rfl rfl rfl rfl ?_
          refine gN (g := 35) rfl rfl rfl rfl ?_
          refine gN (g := 35) rfl rfl rfl rfl ?_
          refine gN (g := 35) rfl rfl rfl rfl ?_
          refine gN (g := 35) rfl rfl rfl rfl ?_
          refine gN (g := 35) rfl rfl rfl rfl ?_
          refine gN (g := 35) rfl rfl rfl rfl ?_
          refine st (X.pickT rfl rfl) rfl ?_
          refine Wn ?_
          refine tN ?_
          refine W_yes rfl (rfl) ?_
          refine W_rs ?_
          refine sa rfl rfl ?_
          refine sa rfl rfl ?_
          refine Wn ?_
          refine tN ?_
          refine W_ret (bR (tR (tR (bR (tR ?_)))))
          have hfx : fitE x = false := by unfold fitE fitN; rw [decide_eq_false h35, Bool.and_false, Bool.false_and]
          exact (rTT rfl rfl rfl (ridx_err (make_1 (by omega) (by rw [hq, all_atG hx, hfx]; rfl)) hbw)).1
        · first | replace h35 := of_decide_eq_false h35 | replace h35 := of_decide_eq_true (notF h35) | replace h35 := notF h35 | skip
          refine gY (g := 35) rfl rfl rfl ?_
          refine sm rfl rfl ?_
          refine gY (g := 35) rfl rfl rfl ?_
          refine sm rfl rfl ?_
          refine gY (g := 35) rfl rfl rfl ?_
          refine st (X.idxA rfl rfl Try.underlying74 siz94 rfl (by omega)) rfl ?_
          refine gY (g := 35) rfl rfl rfl ?_
          refine st (X.fa fa94_3 rfl) rfl ?_
          refine gY (g := 35) rfl rfl rfl ?_
          refine st (X.ld rfl Try.underlying3 rfl (REnts.range (h.bel hbw) hx 3 _ rfl)) rfl ?_
          refine gY (g := 35) rfl rfl rfl ?_
          refine sc _ Try.func79 rfl (by kernel_rfl) rfl rfl ((right_any x.len _).mono ?_)
          rintro e_ w4 ⟨rfl, hb⟩
          refine cR ?_
          replace hbw := bthen hbw hb
          have hz_w4 := hb.size
          clear hb
          refine gY (g := 35) rfl rfl rfl ?_
          refine st (X.not rfl) rfl ?_
          refine st (X.pickF rfl rfl) rfl ?_
          refine Wn ?_
          refine tN ?_
          refine W_if rfl (fun h43 => ?_) (fun h43 => ?_)
          · first | replace h43 := of_decide_eq_true h43 | replace h43 := of_decide_eq_false (notT h43) | replace h43 := notT h43 | skip
            refine W_rs ?_
            refine sa rfl rfl ?_
            refine sa rfl rfl ?_
            refine Wn ?_
            refine tN ?_
            refine W_ret (bR (tR (tR (bR (tR ?_)))))
            have hfx : fitE x = false := by unfold fitE fitN; rw [decide_eq_false h43, Bool.and_false]
            exact (rTT rfl rfl rfl (ridx_err (make_1 (by omega) (by rw [hq, all_atG hx, hfx]; rfl)) hbw)).1
          · first | replace h43 := of_decide_eq_false h43 | replace h43 := of_decide_eq_true (notF h43) | replace h43 := notF h43 | skip
            have hfx : fitE x = true := by unfold fitE fitN; rw [decide_eq_true h26, decide_eq_true h35, decide_eq_true h43]; rfl
            refine W_skip ?_
            refine bN ?_
            refine tN ?_
            refine W_reg ?_
            refine sm rfl rfl ?_
            refine st (X.add64 rfl rfl (by omega)) rfl ?_
            refine sa rfl rfl ?_
            refine Wn ?_
            refine tN ⟨_, _, ?_, ⟨j + 1, rfl, rfl, by omega, by rw [hq, all_atG hx, hfx]; rfl, hbw⟩, ⟨rfl, rfl, trivial⟩⟩
            omega
    · first | replace h16 := of_decide_eq_false h16 | replace h16 := of_decide_eq_true (notF h16) | replace h16 := notF h16 | skip
      obtain rfl : j = l.length := by omega
      rw [List.drop_length] at hq
      have hfit : l.all fitE = true := hq.trans rfl
      refine W_exit (tE (tE (bH ?_)))
      refine tN ?_
      refine W_rs ?_
      refine sa rfl rfl ?_
      refine Wn ?_
      refine tN ?_
      refine W_seq ?_
      refine W_rs ?_
      refine sa rfl rfl ?_
      refine Wn ?_
      refine tN ?_
      refine W_block ?_
      refine W_lp (fun nw5_ lw5_ w5 => ∃ i : Nat, ∃ O : List Ent, ∃ v5 : Value, nw5_ = l.length - i ∧ lw5_ = ([(0, .slice a l.length cp), (5, v5), (6, .int .i64 i)] : Env) ∧ (i ≤ l.length) ∧ (IsIdx O (l.take i)) ∧ (Row w5 94 4 v5 O.length (O.flatMap recE)) ∧ (∀ k, v5.ownBlock = some k → w.heap.size ≤ k) ∧ (Below w.heap.size w w5)) _ ⟨_, ⟨0, [], .slice none 0 0, rfl, rfl, by omega, ⟨.refl _, .nil⟩, Row.nil _ _ _, (fun k hk => by simp [Value.ownBlock] at hk), hbw⟩, ⟨rfl, rfl, rfl, trivial⟩⟩ ?_
      clear hbw
      rintro nw5_ lw5_ w5 ⟨i, O, v5, rfl, rfl, hi, hI, hR, hO, hbw⟩
      have hz_w5 := hbw.size
      refine W_seq ?_
      refine W_rs ?_
      refine sm rfl rfl ?_
      refine sm rfl rfl ?_
      refine st (X.lenL rfl rfl Try.underlying74) rfl ?_
      refine st (X.lss rfl rfl) rfl ?_
      refine Wn ?_
      refine tN ?_
      refine W_if rfl (fun h47 => ?_) (fun h47 => ?_)
      · first | replace h47 := of_decide_eq_true h47 | replace h47 := of_decide_eq_false (notT h47) | replace h47 := notT h47 | skip
        obtain ⟨x, hx⟩ : ∃ x, l[i]? = some x := ⟨_, List.getElem?_eq_getElem (by omega)⟩
        obtain ⟨g1, o1, c', hv, hg1⟩ := (h.bel hbw).some_ (by omega)
        injection hv with e1 _ e3
        subst e1 e3
        have hOl : O.length = i := by rw [hI.perm.length_eq, List.length_take]; omega
        obtain ⟨a5, c5, rfl, hn5, hc5⟩ := hR.shape
        have h5l := hR.own_ltE
        refine W_skip ?_
        refine tN ?_
        refine W_seq ?_
        refine W_block ?_
        refine W_rs ?_
        refine sa rfl rfl ?_
        refine Wn ?_
        refine tN ?_
        refine W_rs ?_
        refine sa rfl rfl ?_
        refine Wn ?_
        refine tN ?_
        refine W_seq ?_
        refine W_rs ?_
        refine sa rfl rfl ?_
        refine Wn ?_
        refine tN ?_
        refine W_block ?_
        obtain ⟨wk, hwk⟩ : ∃ W_ : World, W_ = w5 := ⟨_, rfl⟩
        have h5k : ∀ k, (Value.slice a5 O.length c5).ownBlock = some k → k < wk.heap.size := by rw [hwk]; exact h5l
        have hwkz : w.heap.size ≤ wk.heap.size := by rw [hwk]; exact hbw.size
        have hkz : wk.heap.size ≤ (w5).heap.size := by rw [hwk]; exact Nat.le_refl _
        clear hwk
        refine W_lp (fun nw6_ lw6_ w6 => ∃ k : Nat, ∃ d : Bool, ∃ N : List Ent, ∃ v7 : Value, nw6_ = O.length - k ∧ lw6_ = ([(0, .slice (some ⟨g1, o1, none⟩) l.length cp), (5, .slice a5 O.length c5), (6, .int .i64 i), (7, v7), (8, .bool d), (9, .int .i64 k)] : Env) ∧ (k ≤ O.length) ∧ (wk.heap.size ≤ (w6).heap.size) ∧ (InsInv O x d k N) ∧ (N.length ≤ k + 1) ∧ (Row w6 94 4 (.slice a5 O.length c5) O.length (O.flatMap recE)) ∧ (Row w6 94 4 v7 N.length (N.flatMap recE)) ∧ (∀ k, v7.ownBlock = some k → wk.heap.size ≤ k) ∧ (Below w.heap.size w w6)) _ ⟨_, ⟨0, false, [], .slice none 0 0, rfl, rfl, by omega, hkz, InsInv.start, by simp, hR, Row.nil _ _ _, (fun k hk => by simp [Value.ownBlock] at hk), hbw⟩, ⟨rfl, rfl, rfl, rfl, rfl, rfl, trivial⟩⟩ ?_
        clear hkz hR hbw
        rintro nw6_ lw6_ w6 ⟨k, d, N, v7, rfl, rfl, hk, hkz, hm, hNl, hR, hR7, hO7, hbw⟩
        have hz_w6 := hbw.size
        refine W_seq ?_
        refine W_rs ?_
        refine sm rfl rfl ?_
        refine sm rfl rfl ?_
        refine st (X.lenL rfl rfl Try.underlying74) rfl ?_
        refine st (X.lss rfl rfl) rfl ?_
        refine Wn ?_
        refine tN ?_
        refine W_if rfl (fun h53 => ?_) (fun h53 => ?_)
        · first | replace h53 := of_decide_eq_true h53 | replace h53 := of_decide_eq_false (notT h53) | replace h53 := notT h53 | skip
          obtain ⟨o, ho⟩ : ∃ o, O[k]? = some o := ⟨_, List.getElem?_eq_getElem (by omega)⟩
          have hRe := hR.reads
          obtain ⟨g2, o2, c', hv, hg2⟩ := hRe.some_ (by omega)
          injection hv with e1 _ e3
          subst e1 e3
          refine W_skip ?_
          refine tN ?_
          refine W_seq ?_
          refine W_block ?_
          refine W_seq ?_
          refine W_drsN (fun W_ => W_.rangeAt g2 (o2 + k * 4) (recE o) ∧ W_.rangeAt g1 (o1 + i * 4) (recE x)) [0, 1, 2, 3, 4, 5, 6, 7, 8, 9, 10] [true, true, true, true, true, true, true, true, true, true, true] (by kernel_rfl) (by kernel_rfl) (⟨REnts.range (hRe.bel (bdrew (Below.refl _ _))) ho, REnts.range (h.bel (bdrew hbw)) hx⟩) ?_
          obtain ⟨w7, hw_⟩ : ∃ w7 : World, w7 = World.drew w6 := ⟨_, rfl⟩
          rw [← hw_]
          have hb : Below w6.heap.size w6 w7 := by rw [hw_]; exact bdrew (Below.refl _ _)
          clear hw_
          have hS := hb
          have hpend := hb
          replace hbw := bthen hbw hb
          have hz_w7 := hb.size
          clear hb
          refine oY rfl (fun W_ hW_ => (X.move rfl)) rfl ?_
          refine oY rfl (fun W_ hW_ => (X.move rfl)) rfl ?_
          refine oY rfl (fun W_ hW_ => (X.idxA rfl rfl Try.underlying74 siz94 rfl (by omega))) rfl ?_
          refine oY rfl (fun W_ hW_ => (X.fa fa94_0 rfl)) rfl ?_
          refine oY rfl (fun W_ hW_ => (X.ld rfl Try.underlying9 rfl (hW_.1 0 _ rfl))) rfl ?_
          refine oY rfl (fun W_ hW_ => (X.move rfl)) rfl ?_
          refine oY rfl (fun W_ hW_ => (X.move rfl)) rfl ?_
          refine oY rfl (fun W_ hW_ => (X.idxA rfl rfl Try.underlying74 siz94 rfl (by omega))) rfl ?_
          refine oY rfl (fun W_ hW_ => (X.fa fa94_0 rfl)) rfl ?_
          refine oY rfl (fun W_ hW_ => (X.ld rfl Try.underlying9 rfl (hW_.2 0 _ rfl))) rfl ?_
          refine oY rfl (fun W_ hW_ => (X.eqS rfl rfl)) rfl ?_
          refine oN ?_
          refine nN ?_
          refine W_if rfl (fun h66 => ?_) (fun h66 => ?_)
          · first | replace h66 := of_decide_eq_true h66 | replace h66 := of_decide_eq_false (notT h66) | replace h66 := notT h66 | skip
            refine W_rs ?_
            refine sa rfl rfl ?_
            refine sa rfl rfl ?_
            refine Wn ?_
            refine tN ?_
            replace hR := hR.bel hpend
            replace hR7 := hR7.bel hpend
            clear hpend
            refine W_ret (tR (bR (tR (tR (bR (tR (bR (tR (tR (bR (tR ?_)))))))))))
            exact (rTT rfl rfl rfl (ridx_err (make_dup2 hx (hI.perm.mem_iff.1 (List.mem_of_getElem? ho)) h66 (by omega) hfit) hbw)).1
          · first | replace h66 := of_decide_eq_false h66 | replace h66 := of_decide_eq_true (notF h66) | replace h66 := notF h66 | skip
            refine W_skip ?_
            refine tN ?_
            refine W_seq ?_
            by_cases hsp_ : d = false
            · replace hR := hR.bel hpend
              replace hR7 := hR7.bel hpend
              clear hpend
              refine W_drsN (fun W_ => W_.rangeAt g2 (o2 + k * 4) (recE o) ∧ W_.rangeAt g1 (o1 + i * 4) (recE x)) [0, 1, 2, 3, 4, 5, 6, 7, 8, 9, 10, 11, 12, 13, 14] [true, true, true, true, true, true, true, true, true, true, true, true, true, true, true] (by kernel_rfl) (by kernel_rfl) (⟨REnts.range (hR.reads.bel (bdrew (Below.refl _ _))) ho, REnts.range (h.bel (bdrew hbw)) hx⟩) ?_
              obtain ⟨w8, hw_⟩ : ∃ w8 : World, w8 = World.drew w7 := ⟨_, rfl⟩
              rw [← hw_]
              have hb : Below w7.heap.size w7 w8 := by rw [hw_]; exact bdrew (Below.refl _ _)
              clear hw_
              have hS := hb
              have hpend := hb
              replace hbw := bthen hbw hb
              have hz_w8 := hb.size
              clear hb
              subst hsp_
              refine oY rfl (fun W_ hW_ => (X.move rfl)) rfl ?_
              refine oY rfl (fun W_ hW_ => (X.not rfl)) rfl ?_
              refine oY rfl (fun W_ hW_ => (X.mvB (c := true) rfl (rfl))) rfl ?_
              refine oYg (g := 69) rfl rfl rfl rfl (fun W_ hW_ => (X.move rfl)) rfl ?_
              refine oYg (g := 69) rfl rfl rfl rfl (fun W_ hW_ => (X.move rfl)) rfl ?_
              refine oYg (g := 69) rfl rfl rfl rfl (fun W_ hW_ => (X.idxA rfl rfl Try.underlying74 siz94 rfl (by omega))) rfl ?_
              refine oYg (g := 69) rfl rfl rfl rfl (fun W_ hW_ => (X.fa fa94_0 rfl)) rfl ?_
              refine oYg (g := 69) rfl rfl rfl rfl (fun W_ hW_ => (X.ld rfl Try.underlying9 rfl (hW_.1 0 _ rfl))) rfl ?_
              refine oYg (g := 69) rfl rfl rfl rfl (fun W_ hW_ => (X.move rfl)) rfl ?_
              refine oYg (g := 69) rfl rfl rfl rfl (fun W_ hW_ => (X.move rfl)) rfl ?_
              refine oYg (g := 69) rfl rfl rfl rfl (fun W_ hW_ => (X.idxA rfl rfl Try.underlying74 siz94 rfl (by omega))) rfl ?_
              refine oYg (g := 69) rfl rfl rfl rfl (fun W_ hW_ => (X.fa fa94_0 rfl)) rfl ?_
              refine oYg (g := 69) rfl rfl rfl rfl (fun W_ hW_ => (X.ld rfl Try.underlying9 rfl (hW_.2 0 _ rfl))) rfl ?_
              refine oYg (g := 69) rfl rfl rfl rfl (fun W_ hW_ => (X.gtS rfl rfl)) rfl ?_
              refine oY rfl (fun W_ hW_ => (X.pickT rfl rfl)) rfl ?_
              refine oN ?_
              refine nN ?_
              refine W_if rfl (fun h81 => ?_) (fun h81 => ?_)
              · first | replace h81 := of_decide_eq_true h81 | replace h81 := of_decide_eq_false (notT h81) | replace h81 := notT h81 | skip
                have hgt : x.sum < o.sum := by
                  rcases klt_tri x.sum o.sum with q | q | q
                  · exact q
                  · exact absurd q.symm h66
                  · rw [bytesLess_eq] at h81; simp [q] at h81
                refine W_rs ?_
                refine sm rfl rfl ?_
                refine sm rfl rfl ?_
                refine sm rfl rfl ?_
                refine st (X.idxA rfl rfl Try.underlying74 siz94 rfl (by omega)) rfl ?_
                refine st (X.ldN (cs := recE x) rfl Try.underlying94 rfl siz94 (REnts.range (h.bel hbw) hx)) rfl ?_
                replace hR := hR.bel hpend
                replace hR7 := hR7.bel hpend
                clear hpend
                refine sbs1 rfl Try.underlying74 inf94 rfl rfl (by decide) (by decide) rfl (fun g87 w9 hR87 hg87 hb => ?_)
                replace hbw := bthen hbw hb
                replace hR := hR.bel hb
                replace hR7 := hR7.bel hb
                have hz87 := hb.size
                clear hb
                refine sapp rfl rfl Try.underlying74 inf94 rfl (by decide) hR7 (hR87.reads.src Try.underlying74 (recE_one x)) (by simp only [maxLen]; omega) (by omega) rfl (fun va w10 hRa hC hva => ?_)
                have hOa : ∀ k, va.ownBlock = some k → wk.heap.size ≤ k := own_next hva hO7 (by omega)
                replace hR := hR.chg hC (fun k hk e => by have := h5k k hk; have := hO7 k e; omega)
                replace hbw := bapp hbw hC (fun k hk => by have := hO7 k hk; omega)
                have hz206 := hC.size
                replace hRa : Row w10 94 4 va (N ++ [x]).length ((N ++ [x]).flatMap recE) := by rw [List.length_append, List.flatMap_append]; exact hRa
                clear hC hva hR7
                refine sa rfl rfl ?_
                refine Wn ?_
                refine tN ?_
                refine W_reg ?_
                refine sa rfl rfl ?_
                refine Wn ?_
                refine tN ?_
                refine W_reg ?_
                obtain ⟨na, hna⟩ : ∃ na, N ++ [x] = na := ⟨_, rfl⟩
                have hnl : na.length ≤ k + 2 := by rw [← hna, List.length_append]; simp; have := congrArg List.length (hm.2 rfl).1; rw [List.length_take] at this; omega
                have hnl3 : na.length ≤ k + 1 := by rw [← hna, List.length_append]; simp; have := congrArg List.length (hm.2 rfl).1; rw [List.length_take] at this; omega
                rw [hna] at hRa
                refine sm rfl rfl ?_
                refine sm rfl rfl ?_
                refine sm rfl rfl ?_
                refine st (X.idxA rfl rfl Try.underlying74 siz94 rfl (by omega)) rfl ?_
                refine st (X.ldN (cs := recE o) rfl Try.underlying94 rfl siz94 (REnts.range hR.reads ho)) rfl ?_
                refine sbs1 rfl Try.underlying74 inf94 rfl rfl (by decide) (by decide) rfl (fun g94 w11 hR94 hg94 hb => ?_)
                replace hbw := bthen hbw hb
                replace hR := hR.bel hb
                replace hRa := hRa.bel hb
                have hz94 := hb.size
                clear hb
                refine sapp rfl rfl Try.underlying74 inf94 rfl (by decide) hRa (hR94.reads.src Try.underlying74 (recE_one o)) (by simp only [maxLen]; omega) (by omega) rfl (fun v7' w12 hR7' hC hvb => ?_)
                have hO7' : ∀ k, v7'.ownBlock = some k → wk.heap.size ≤ k := own_next hvb hOa (by omega)
                replace hR := hR.chg hC (fun k hk e => by have := h5k k hk; have := hOa k e; omega)
                replace hbw := bapp hbw hC (fun k hk => by have := hOa k hk; omega)
                have hz226 := hC.size
                obtain ⟨N', hN'⟩ : ∃ N', na ++ [o] = N' := ⟨_, rfl⟩
                have hNl' : N'.length ≤ k + 1 + 1 := by rw [← hN', List.length_append]; simp; omega
                replace hR7' : Row w12 94 4 v7' N'.length (N'.flatMap recE) := by rw [← hN', List.length_append, List.flatMap_append]; exact hR7'
                clear hC hvb
                refine sa rfl rfl ?_
                refine Wn ?_
                refine bN ?_
                refine tN ?_
                refine W_reg ?_
                obtain ⟨d', hd'⟩ : ∃ d', d' = true := ⟨_, rfl⟩
                have hm' : InsInv O x d' (k + 1) N' := by rw [hd', ← hN', ← hna]; exact hm.put hI.up ho hgt
                refine sm rfl rfl ?_
                refine st (X.add64 rfl rfl (by omega)) rfl ?_
                refine sa rfl rfl ?_
                refine Wn ?_
                refine tN ⟨_, _, ?_, ⟨k + 1, d', N', v7', rfl, rfl, by omega, by omega, hm', hNl', hR, hR7', hO7', hbw⟩, ⟨rfl, rfl, rfl, rfl, by rw [hd']; rfl, rfl, trivial⟩⟩
                omega
              · first | replace h81 := of_decide_eq_false h81 | replace h81 := of_decide_eq_true (notF h81) | replace h81 := notF h81 | skip
                have hlt : o.sum < x.sum := Classical.byContradiction fun hn => by rw [bytesLess_eq] at h81; simp [hn, h66] at h81
                refine W_skip ?_
                refine tN ?_
                refine W_reg ?_
                replace hR := hR.bel hpend
                replace hR7 := hR7.bel hpend
                clear hpend
                obtain ⟨na, hna⟩ : ∃ na, N = na := ⟨_, rfl⟩
                obtain ⟨va, rfl⟩ : ∃ va, va = v7 := ⟨_, rfl⟩
                have hRa := hR7
                have hOa := hO7
                have hnl3 : na.length ≤ k + 1 := by rw [← hna]; exact hNl
                rw [hna] at hRa
                refine sm rfl rfl ?_
                refine sm rfl rfl ?_
                refine sm rfl rfl ?_
                refine st (X.idxA rfl rfl Try.underlying74 siz94 rfl (by omega)) rfl ?_
                refine st (X.ldN (cs := recE o) rfl Try.underlying94 rfl siz94 (REnts.range hR.reads ho)) rfl ?_
                refine sbs1 rfl Try.underlying74 inf94 rfl rfl (by decide) (by decide) rfl (fun g94 w13 hR94 hg94 hb => ?_)
                replace hbw := bthen hbw hb
                replace hR := hR.bel hb
                replace hRa := hRa.bel hb
                have hz94 := hb.size
                clear hb
                refine sapp rfl rfl Try.underlying74 inf94 rfl (by decide) hRa (hR94.reads.src Try.underlying74 (recE_one o)) (by simp only [maxLen]; omega) (by omega) rfl (fun v7' w14 hR7' hC hvb => ?_)
                have hO7' : ∀ k, v7'.ownBlock = some k → wk.heap.size ≤ k := own_next hvb hOa (by omega)
                replace hR := hR.chg hC (fun k hk e => by have := h5k k hk; have := hOa k e; omega)
                replace hbw := bapp hbw hC (fun k hk => by have := hOa k hk; omega)
                have hz226 := hC.size
                obtain ⟨N', hN'⟩ : ∃ N', na ++ [o] = N' := ⟨_, rfl⟩
                have hNl' : N'.length ≤ k + 1 + 1 := by rw [← hN', List.length_append]; simp; omega
                replace hR7' : Row w14 94 4 v7' N'.length (N'.flatMap recE) := by rw [← hN', List.length_append, List.flatMap_append]; exact hR7'
                clear hC hvb
                refine sa rfl rfl ?_
                refine Wn ?_
                refine bN ?_
                refine tN ?_
                refine W_reg ?_
                obtain ⟨d', hd'⟩ : ∃ d', d' = false := ⟨_, rfl⟩
                have hm' : InsInv O x d' (k + 1) N' := by rw [hd', ← hN', ← hna]; exact hm.pass ho hlt
                refine sm rfl rfl ?_
                refine st (X.add64 rfl rfl (by omega)) rfl ?_
                refine sa rfl rfl ?_
                refine Wn ?_
                refine tN ⟨_, _, ?_, ⟨k + 1, d', N', v7', rfl, rfl, by omega, by omega, hm', hNl', hR, hR7', hO7', hbw⟩, ⟨rfl, rfl, rfl, rfl, by rw [hd']; rfl, rfl, trivial⟩⟩
                omega
            · refine W_drsN (fun _ => True) [0, 1, 2, 3, 4, 5, 6, 7, 8, 9, 10, 11, 12, 13, 14] [true, true, true, true, true, true, true, true, true, true, true, true, true, true, true] (by kernel_rfl) (by kernel_rfl) (trivial) ?_
              obtain ⟨w15, hw_⟩ : ∃ w15 : World, w15 = World.drew w7 := ⟨_, rfl⟩
              rw [← hw_]
              have hb : Below w7.heap.size w7 w15 := by rw [hw_]; exact bdrew (Below.refl _ _)
              clear hw_
              have hS : True := trivial
              replace hpend := bthen hpend hb
              replace hbw := bthen hbw hb
              have hz_w15 := hb.size
              clear hb
              obtain rfl : d = true := by simpa using hsp_
              refine oY rfl (fun W_ hW_ => (X.move rfl)) rfl ?_
              refine oY rfl (fun W_ hW_ => (X.not rfl)) rfl ?_
              refine oY rfl (fun W_ hW_ => (X.mvB (c := false) rfl (rfl))) rfl ?_
              refine oNg (g := 69) rfl rfl rfl rfl hS rfl ?_
              refine oNg (g := 69) rfl rfl rfl rfl hS rfl ?_
              refine oNg (g := 69) rfl rfl rfl rfl hS rfl ?_
              refine oNg (g := 69) rfl rfl rfl rfl hS rfl ?_
              refine oNg (g := 69) rfl rfl rfl rfl hS rfl ?_
              refine oNg (g := 69) rfl rfl rfl rfl hS rfl ?_
              refine oNg (g := 69) rfl rfl rfl rfl hS rfl ?_
              refine oNg (g := 69) rfl rfl rfl rfl hS rfl ?_
              refine oNg (g := 69) rfl rfl rfl rfl hS rfl ?_
              refine oNg (g := 69) rfl rfl rfl rfl hS rfl ?_
              refine oNg (g := 69) rfl rfl rfl rfl hS rfl ?_
              refine oY rfl (fun W_ hW_ => (X.pickF rfl rfl)) rfl ?_
              refine oN ?_
              refine nN ?_
              refine W_no rfl (rfl) ?_
              refine W_skip ?_
              refine tN ?_
              refine W_reg ?_
              replace hR := hR.bel hpend
              replace hR7 := hR7.bel hpend
              clear hpend
              obtain ⟨na, hna⟩ : ∃ na, N = na := ⟨_, rfl⟩
              obtain ⟨va, rfl⟩ : ∃ va, va = v7 := ⟨_, rfl⟩
              have hRa := hR7
              have hOa := hO7
              have hnl3 : na.length ≤ k + 1 := by rw [← hna]; exact hNl
              rw [hna] at hRa
              refine sm rfl rfl ?_
              refine sm rfl rfl ?_
              refine sm rfl rfl ?_
              refine st (X.idxA rfl rfl Try.underlying74 siz94 rfl (by omega)) rfl ?_
              refine st (X.ldN (cs := recE o) rfl Try.underlying94 rfl siz94 (REnts.range hR.reads ho)) rfl ?_
              refine sbs1 rfl Try.underlying74 inf94 rfl rfl (by decide) (by decide) rfl (fun g94 w16 hR94 hg94 hb => ?_)
              replace hbw := bthen hbw hb
              replace hR := hR.bel hb
              replace hRa := hRa.bel hb
              have hz94 := hb.size
              clear hb
              refine sapp rfl rfl Try.underlying74 inf94 rfl (by decide) hRa (hR94.reads.src Try.underlying74 (recE_one o)) (by simp only [maxLen]; omega) (by omega) rfl (fun v7' w17 hR7' hC hvb => ?_)
              have hO7' : ∀ k, v7'.ownBlock = some k → wk.heap.size ≤ k := own_next hvb hOa (by omega)
              replace hR := hR.chg hC (fun k hk e => by have := h5k k hk; have := hOa k e; omega)
              replace hbw := bapp hbw hC (fun k hk => by have := hOa k hk; omega)
              have hz226 := hC.size
              obtain ⟨N', hN'⟩ : ∃ N', na ++ [o] = N' := ⟨_, rfl⟩
              have hNl' : N'.length ≤ k + 1 + 1 := by rw [← hN', List.length_append]; simp; omega
              replace hR7' : Row w17 94 4 v7' N'.length (N'.flatMap recE) := by rw [← hN', List.length_append, List.flatMap_append]; exact hR7'
              clear hC hvb
              refine sa rfl rfl ?_
              refine Wn ?_
              refine bN ?_
              refine tN ?_
              refine W_reg ?_
              obtain ⟨d', hd'⟩ : ∃ d', d' = true := ⟨_, rfl⟩
              have hm' : InsInv O x d' (k + 1) N' := by rw [hd', ← hN', ← hna]; exact hm.keep ho
              refine sm rfl rfl ?_
              refine st (X.add64 rfl rfl (by omega)) rfl ?_
              refine sa rfl rfl ?_
              refine Wn ?_
              refine tN ⟨_, _, ?_, ⟨k + 1, d', N', v7', rfl, rfl, by omega, by omega, hm', hNl', hR, hR7', hO7', hbw⟩, ⟨rfl, rfl, rfl, rfl, by rw [hd']; rfl, rfl, trivial⟩⟩
              omega
        · first | replace h53 := of_decide_eq_false h53 | replace h53 := of_decide_eq_true (notF h53) | replace h53 := notF h53 | skip
          obtain rfl : k = O.length := by omega
          refine W_exit (tE (tE (bH ?_)))
          refine tN ?_
          refine W_seq ?_
          refine W_rs ?_
          refine sm rfl rfl ?_
          refine st (X.not rfl) rfl ?_
          refine Wn ?_
          refine tN ?_
          refine W_if rfl (fun h97 => ?_) (fun h97 => ?_)
          · first | replace h97 := of_decide_eq_true h97 | replace h97 := of_decide_eq_false (notT h97) | replace h97 := notT h97 | skip
            have hd0 : d = false := h97
            subst hd0
            have hfin := hm.last hI.up
            refine W_reg ?_
            refine sm rfl rfl ?_
            refine sm rfl rfl ?_
            refine sm rfl rfl ?_
            refine st (X.idxA rfl rfl Try.underlying74 siz94 rfl (by omega)) rfl ?_
            refine st (X.ldN (cs := recE x) rfl Try.underlying94 rfl siz94 (REnts.range (h.bel hbw) hx)) rfl ?_
            refine sbs1 rfl Try.underlying74 inf94 rfl rfl (by decide) (by decide) rfl (fun g103 w18 hR103 hg103 hb => ?_)
            replace hbw := bthen hbw hb
            replace hR7 := hR7.bel hb
            have hz103 := hb.size
            clear hb
            refine sapp rfl rfl Try.underlying74 inf94 rfl (by decide) hR7 (hR103.reads.src Try.underlying74 (recE_one x)) (by simp only [maxLen]; omega) (by omega) rfl (fun vf w19 hRf hC hvb => ?_)
            have hOf : ∀ k, vf.ownBlock = some k → w.heap.size ≤ k := fun k hk => by have := own_next hvb hO7 (by omega) k hk; omega
            replace hbw := bapp hbw hC (fun k hk => by have := hO7 k hk; omega)
            obtain ⟨O', hO'⟩ : ∃ O', N ++ [x] = O' := ⟨_, rfl⟩
            rw [hO'] at hfin
            have hI' := idx_next hI hx hfin
            replace hRf : Row w19 94 4 vf O'.length (O'.flatMap recE) := by rw [← hO', List.length_append, List.flatMap_append]; exact hRf
            clear hC hvb
            refine sa rfl rfl ?_
            refine Wn ?_
            refine tN ?_
            refine W_reg ?_
            refine sm rfl rfl ?_
            refine sa rfl rfl ?_
            refine Wn ?_
            refine bN ?_
            refine tN ?_
            refine W_reg ?_
            refine sm rfl rfl ?_
            refine st (X.add64 rfl rfl (by omega)) rfl ?_
            refine sa rfl rfl ?_
            refine Wn ?_
            refine tN ⟨_, _, ?_, ⟨i + 1, O', vf, rfl, rfl, by omega, hI', hRf, hOf, hbw⟩, ⟨rfl, rfl, rfl, trivial⟩⟩
            omega
          · first | replace h97 := of_decide_eq_false h97 | replace h97 := of_decide_eq_true (notF h97) | replace h97 := notF h97 | skip
            have hd0 : d = true := by simpa using h97
            subst hd0
            obtain ⟨O', hO'⟩ : ∃ O', N = O' := ⟨_, rfl⟩
            obtain ⟨vf, rfl⟩ : ∃ vf, vf = v7 := ⟨_, rfl⟩
            have hI' := idx_next hI hx hm.done
            rw [hO'] at hI'
            have hRf := hR7
            rw [hO'] at hRf
            have hOf : ∀ k, vf.ownBlock = some k → w.heap.size ≤ k := fun k hk => by have := hO7 k hk; omega
            refine W_skip ?_
            refine tN ?_
            refine W_reg ?_
            refine sm rfl rfl ?_
            refine sa rfl rfl ?_
            refine Wn ?_
            refine bN ?_
            refine tN ?_
            refine W_reg ?_
            refine sm rfl rfl ?_
            refine st (X.add64 rfl rfl (by omega)) rfl ?_
            refine sa rfl rfl ?_
            refine Wn ?_
            refine tN ⟨_, _, ?_, ⟨i + 1, O', vf, rfl, rfl, by omega, hI', hRf, hOf, hbw⟩, ⟨rfl, rfl, rfl, trivial⟩⟩
            omega
      · first | replace h47 := of_decide_eq_false h47 | replace h47 := of_decide_eq_true (notF h47) | replace h47 := notF h47 | skip
        obtain rfl : i = l.length := by omega
        rw [List.take_length] at hI
        refine W_exit (tE (tE (bH ?_)))
        refine tN ?_
        refine W_rs ?_
        refine sm rfl rfl ?_
        refine sa rfl rfl ?_
        refine sa rfl rfl ?_
        refine Wn ?_
        refine tN ?_
        refine W_ret ?_
        refine (rTT rfl rfl rfl ?_).1
        rw [make_of_up hI.perm hI.up (by omega) hfit]
        exact ⟨_, rfl, hR.reads, hbw⟩
end Go.Proofs.Ytnagmpnpgekhfaa
namespace Go.Proofs.Ytnagmpnpgekhfaa
open Go.RowKit
theorem cnt_snoc (l : List Ent) (x : Ent) (b : Nat) : cntM (l ++ [x]) b = cntM l b + (if hd x ≤ b then 1 else 0) := by
  unfold cntM
  rw [List.filter_append, List.length_append]
  congr 1
  by_cases h : hd x ≤ b
  · rw [if_pos h]; simp [h]
  · rw [if_neg h]; simp [h]
theorem sumHd (x : Ent) : (x.sum.getD 0 0).toNat = hd x := by
  unfold hd
  cases x.sum <;> rfl
set_option maxRecDepth 20000 in
set_option maxHeartbeats 1000000 in
theorem REncode_any (v : Value) (l : List Ent) (w : World) (h : REnts w v l) (h32 : S32 l) (hfit : l.all fitE = true) (hl : l.length ≤ 100000) :
    Calls Try.prog 49 #[v] w fun e w' => e = .returned (str (encM l)) ∧ Below w.heap.size w w' := by
  obtain ⟨a, cp, rfl, hn, hcp⟩ := h.shape
  refine W_enter (args := [.slice a l.length cp]) 73 Try.func49 rfl rfl rfl ?_
  refine W_sub [(0, .slice a l.length cp)] ?_ ⟨rfl, trivial⟩
  have hbw := Below.refl w.heap.size w
  refine W_rs ?_
  refine sa rfl rfl ?_
  refine Wn ?_
  refine tN ?_
  refine W_rs ?_
  refine sa rfl rfl ?_
  refine Wn ?_
  refine tN ?_
  refine W_seq ?_
  refine W_rs ?_
  refine sa rfl rfl ?_
  refine Wn ?_
  refine tN ?_
  refine W_block ?_
  refine W_lp (fun nw1_ lw1_ w1 => ∃ b : Nat, nw1_ = 256 - b ∧ lw1_ = ([(0, .slice a l.length cp), (3, str (kindB ++ fanB l b)), (4, .int .i64 b)] : Env) ∧ (b ≤ 256) ∧ (Below w.heap.size w w1)) _ ⟨_, ⟨0, rfl, rfl, by omega, hbw⟩, ⟨rfl, rfl, rfl, trivial⟩⟩ ?_
  clear hbw
  rintro nw1_ lw1_ w1 ⟨b, rfl, rfl, hb256, hbw⟩
  have hz_w1 := hbw.size
  refine W_seq ?_
  refine W_rs ?_
  refine sm rfl rfl ?_
  refine st (X.lss rfl rfl) rfl ?_
  refine Wn ?_
  refine tN ?_
  refine W_if rfl (fun h9 => ?_) (fun h9 => ?_)
  · first | replace h9 := of_decide_eq_true h9 | replace h9 := of_decide_eq_false (notT h9) | replace h9 := notT h9 | skip
    have hkl : (kindB ++ fanB l b).length = 4 + 4 * b := by rw [List.length_append, fanB_length]; rfl
    have hcl := cnt_le l b
    refine W_skip ?_
    refine tN ?_
    refine W_seq ?_
    refine W_block ?_
    refine W_rs ?_
    refine sa rfl rfl ?_
    refine Wn ?_
    refine tN ?_
    refine W_seq ?_
    refine W_rs ?_
    refine sa rfl rfl ?_
    refine Wn ?_
    refine tN ?_
    refine W_block ?_
    refine W_lp (fun nw2_ lw2_ w2 => ∃ i : Nat, nw2_ = l.length - i ∧ lw2_ = ([(0, .slice a l.length cp), (3, str (kindB ++ fanB l b)), (4, .int .i64 b), (5, .int .i64 (cntM (l.take i) b : Nat)), (6, .int .i64 i)] : Env) ∧ (i ≤ l.length) ∧ (Below w.heap.size w w2)) _ ⟨_, ⟨0, rfl, rfl, by omega, hbw⟩, ⟨rfl, rfl, rfl, rfl, rfl, trivial⟩⟩ ?_
    clear hbw
    rintro nw2_ lw2_ w2 ⟨i, rfl, rfl, hi, hbw⟩
    have hz_w2 := hbw.size
    refine W_seq ?_
    refine W_rs ?_
    refine sm rfl rfl ?_
    refine sm rfl rfl ?_
    refine st (X.lenL rfl rfl Try.underlying74) rfl ?_
    refine st (X.lss rfl rfl) rfl ?_
    refine Wn ?_
    refine tN ?_
    refine W_if rfl (fun h15 => ?_) (fun h15 => ?_)
    · first | replace h15 := of_decide_eq_true h15 | replace h15 := of_decide_eq_false (notT h15) | replace h15 := notT h15 | skip
      obtain ⟨x, hx⟩ : ∃ x, l[i]? = some x := ⟨_, List.getElem?_eq_getElem (by omega)⟩
      obtain ⟨g1, o1, c', hv, hg1⟩ := (h.bel hbw).some_ (by omega)
      injection hv with e1 _ e3
      subst e1 e3
      have hxs := h32 x (List.mem_of_getElem? hx)
      have hxd := sumHd x
      have hdl := (x.sum.getD 0 0).toNat_lt
      have hci0 : cntM (l.take i) b ≤ l.length := Nat.le_trans (cnt_le _ _) (List.length_take_le' _ _)
      refine W_skip ?_
      refine tN ?_
      refine W_seq ?_
      refine W_block ?_
      refine W_rs ?_
      refine sm rfl rfl ?_
      refine sm rfl rfl ?_
      refine st (X.idxA rfl rfl Try.underlying74 siz94 rfl (by omega)) rfl ?_
      refine st (X.fa fa94_0 rfl) rfl ?_
      refine st (X.ld rfl Try.underlying9 rfl (REnts.range (h.bel hbw) hx 0 _ rfl)) rfl ?_
      refine st (X.idxS (q := 0) rfl rfl Try.underlying9 rfl (by omega)) rfl ?_
      refine st (X.convI rfl Try.underlying5 Try.underlying3 (w64 (by omega))) rfl ?_
      refine sm rfl rfl ?_
      refine st (X.leq rfl rfl) rfl ?_
      refine Wn ?_
      refine tN ?_
      refine W_if rfl (fun h26 => ?_) (fun h26 => ?_)
      · first | replace h26 := of_decide_eq_true h26 | replace h26 := of_decide_eq_false (notT h26) | replace h26 := notT h26 | skip
        have hci : cntM (l.take (i + 1)) b = cntM (l.take i) b + 1 := by rw [take_next' hx, cnt_snoc, if_pos (by omega)]
        refine W_reg ?_
        refine sm rfl rfl ?_
        refine st (X.add64 rfl rfl (by omega)) rfl ?_
        refine sa rfl rfl ?_
        refine Wn ?_
        refine bN ?_
        refine tN ?_
        refine W_reg ?_
        refine sm rfl rfl ?_
        refine st (X.add64 rfl rfl (by omega)) rfl ?_
        refine sa rfl rfl ?_
        refine Wn ?_
        refine tN ⟨_, _, ?_, ⟨i + 1, rfl, rfl, by omega, hbw⟩, ⟨rfl, rfl, rfl, by rw [hci]; rfl, rfl, trivial⟩⟩
        omega
      · first | replace h26 := of_decide_eq_false h26 | replace h26 := of_decide_eq_true (notF h26) | replace h26 := notF h26 | skip
        have hci : cntM (l.take (i + 1)) b = cntM (l.take i) b := by rw [take_next' hx, cnt_snoc, if_neg (by omega), Nat.add_zero]
        refine W_skip ?_
        refine bN ?_
        refine tN ?_
        refine W_reg ?_
        refine sm rfl rfl ?_
        refine st (X.add64 rfl rfl (by omega)) rfl ?_
        refine sa rfl rfl ?_
        refine Wn ?_
        refine tN ⟨_, _, ?_, ⟨i + 1, rfl, rfl, by omega, hbw⟩, ⟨rfl, rfl, rfl, by rw [hci]; rfl, rfl, trivial⟩⟩
        omega
    · first | replace h15 := of_decide_eq_false h15 | replace h15 := of_decide_eq_true (notF h15) | replace h15 := notF h15 | skip
      obtain rfl : i = l.length := by omega
      rw [List.take_length]
      refine W_exit (tE (tE (bH ?_)))
      refine tN ?_
      refine W_reg ?_
      refine sm rfl rfl ?_
      refine sm rfl rfl ?_
      refine sc _ Try.func67 rfl (by kernel_rfl) rfl rfl ((Num_any _ _ (by omega) (by omega)).mono ?_)
      rintro e_ w3 ⟨rfl, hb⟩
      refine cR ?_
      replace hbw := bthen hbw hb
      have hz_w3 := hb.size
      clear hb
      refine st (X.cat rfl rfl (by rw [hkl, four_length]; omega)) rfl ?_
      refine sa rfl rfl ?_
      refine Wn ?_
      refine bN ?_
      refine tN ?_
      refine W_reg ?_
      rw [List.append_assoc kindB, ← fanB_succ]
      refine sm rfl rfl ?_
      refine st (X.add64 rfl rfl (by omega)) rfl ?_
      refine sa rfl rfl ?_
      refine Wn ?_
      refine tN ⟨_, _, ?_, ⟨b + 1, rfl, rfl, by omega, hbw⟩, ⟨rfl, rfl, rfl, trivial⟩⟩
      omega
  · first | replace h9 := of_decide_eq_false h9 | replace h9 := of_decide_eq_true (notF h9) | replace h9 := notF h9 | skip
    obtain rfl : b = 256 := by omega
    rw [show kindB ++ fanB l 256 = headE l from rfl]
    refine W_exit (tE (tE (bH ?_)))
    refine tN ?_
    refine W_seq ?_
    refine W_rs ?_
    refine sa rfl rfl ?_
    refine Wn ?_
    refine tN ?_
    refine W_block ?_
    refine W_lp (fun nw4_ lw4_ w4 => ∃ j : Nat, nw4_ = l.length - j ∧ lw4_ = ([(0, .slice a l.length cp), (3, str (headE l ++ (l.take j).flatMap entBytes)), (7, .int .i64 j)] : Env) ∧ (j ≤ l.length) ∧ (Below w.heap.size w w4)) _ ⟨_, ⟨0, rfl, rfl, by omega, hbw⟩, ⟨rfl, by rw [List.take_zero, List.flatMap_nil, List.append_nil]; rfl, rfl, trivial⟩⟩ ?_
    clear hbw
    rintro nw4_ lw4_ w4 ⟨j, rfl, rfl, hj, hbw⟩
    have hz_w4 := hbw.size
    refine W_seq ?_
    refine W_rs ?_
    refine sm rfl rfl ?_
    refine sm rfl rfl ?_
    refine st (X.lenL rfl rfl Try.underlying74) rfl ?_
    refine st (X.lss rfl rfl) rfl ?_
    refine Wn ?_
    refine tN ?_
    refine W_if rfl (fun h36 => ?_) (fun h36 => ?_)
    · first | replace h36 := of_decide_eq_true h36 | replace h36 := of_decide_eq_false (notT h36) | replace h36 := notT h36 | skip
      obtain ⟨x, hx⟩ : ∃ x, l[j]? = some x := ⟨_, List.getElem?_eq_getElem (by omega)⟩
      obtain ⟨g1, o1, c', hv, hg1⟩ := (h.bel hbw).some_ (by omega)
      injection hv with e1 _ e3
      subst e1 e3
      have hxs := h32 x (List.mem_of_getElem? hx)
      have hxf := List.all_eq_true.1 hfit x (List.mem_of_getElem? hx)
      obtain ⟨⟨p1, p2⟩, ⟨q1, q2⟩, ⟨r1, r2⟩⟩ := fitE_iff.1 hxf
      have hbl := entsB_length h32 j hj
      refine W_skip ?_
      refine tN ?_
      refine W_seq ?_
      refine W_block ?_
      refine W_drN (fun W_ => W_.rangeAt g1 (o1 + j * 4) (recE x)) [0, 1, 2, 3, 4, 5, 6, 7, 8, 9, 10, 11, 14, 15, 16, 17, 18, 21, 22, 23, 24, 25, 12, 13, 19, 20, 26, 27, 28] [true, true, true, true, true, true, true, true, true, true, true, true, true, true, true, true, true, true, true, true, true, true, false, true, false, true, false, true, true] (by kernel_rfl) (by kernel_rfl) (REnts.range (h.bel (bdrew hbw)) hx) ?_
      obtain ⟨w5, hw_⟩ : ∃ w5 : World, w5 = World.drew w4 := ⟨_, rfl⟩
      rw [← hw_]
      have hb : Below w4.heap.size w4 w5 := by rw [hw_]; exact bdrew (Below.refl _ _)
      clear hw_
      have hS := hb
      replace hbw := bthen hbw hb
      have hz_w5 := hb.size
      clear hb
      refine oY rfl (fun W_ hW_ => (X.move rfl)) rfl ?_
      refine oY rfl (fun W_ hW_ => (X.move rfl)) rfl ?_
      refine oY rfl (fun W_ hW_ => (X.move rfl)) rfl ?_
      refine oY rfl (fun W_ hW_ => (X.idxA rfl rfl Try.underlying74 siz94 rfl (by omega))) rfl ?_
      refine oY rfl (fun W_ hW_ => (X.fa fa94_0 rfl)) rfl ?_
      refine oY rfl (fun W_ hW_ => (X.ld rfl Try.underlying9 rfl (hW_ 0 _ rfl))) rfl ?_
      refine oY rfl (fun W_ hW_ => (X.cat rfl rfl (by rw [hbl, hxs]; omega))) rfl ?_
      refine oY rfl (fun W_ hW_ => (X.move rfl)) rfl ?_
      refine oY rfl (fun W_ hW_ => (X.move rfl)) rfl ?_
      refine oY rfl (fun W_ hW_ => (X.idxA rfl rfl Try.underlying74 siz94 rfl (by omega))) rfl ?_
      refine oY rfl (fun W_ hW_ => (X.fa fa94_1 rfl)) rfl ?_
      refine oY rfl (fun W_ hW_ => (X.ld rfl Try.underlying3 rfl (hW_ 1 _ rfl))) rfl ?_
      refine oY rfl (fun W_ hW_ => (X.move rfl)) rfl ?_
      refine oY rfl (fun W_ hW_ => (X.move rfl)) rfl ?_
      refine oY rfl (fun W_ hW_ => (X.idxA rfl rfl Try.underlying74 siz94 rfl (by omega))) rfl ?_
      refine oY rfl (fun W_ hW_ => (X.fa fa94_2 rfl)) rfl ?_
      refine oY rfl (fun W_ hW_ => (X.ld rfl Try.underlying3 rfl (hW_ 2 _ rfl))) rfl ?_
      refine oY rfl (fun W_ hW_ => (X.move rfl)) rfl ?_
      refine oY rfl (fun W_ hW_ => (X.move rfl)) rfl ?_
      refine oY rfl (fun W_ hW_ => (X.idxA rfl rfl Try.underlying74 siz94 rfl (by omega))) rfl ?_
      refine oY rfl (fun W_ hW_ => (X.fa fa94_3 rfl)) rfl ?_
      refine oY rfl (fun W_ hW_ => (X.ld rfl Try.underlying3 rfl (hW_ 3 _ rfl))) rfl ?_
      refine oL rfl (fun Q_ hQ_ hP_ => ?_)
      refine sc _ Try.func67 rfl (by kernel_rfl) rfl rfl ((Num_any x.pack _ (by omega) (by omega)).mono ?_)
      rintro e_ w6 ⟨rfl, hb⟩
      refine cR ?_
      replace hbw := bthen hbw hb
      have hz_w6 := hb.size
      clear hb
      refine Wn (hQ_ _ _ (REnts.range (h.bel hbw) hx) ?_)
      clear hQ_ hP_ Q_
      refine oY rfl (fun W_ hW_ => (X.cat rfl rfl (by rw [List.length_append, hbl, hxs, four_length]; omega))) rfl ?_
      refine oL rfl (fun Q_ hQ_ hP_ => ?_)
      refine sc _ Try.func67 rfl (by kernel_rfl) rfl rfl ((Num_any x.pos _ (by omega) (by omega)).mono ?_)
      rintro e_ w7 ⟨rfl, hb⟩
      refine cR ?_
      replace hbw := bthen hbw hb
      have hz_w7 := hb.size
      clear hb
      refine Wn (hQ_ _ _ (REnts.range (h.bel hbw) hx) ?_)
      clear hQ_ hP_ Q_
      refine oY rfl (fun W_ hW_ => (X.cat rfl rfl (by rw [List.length_append, List.length_append, hbl, hxs, four_length, four_length]; omega))) rfl ?_
      refine oL rfl (fun Q_ hQ_ hP_ => ?_)
      refine sc _ Try.func67 rfl (by kernel_rfl) rfl rfl ((Num_any x.len _ (by omega) (by omega)).mono ?_)
      rintro e_ w8 ⟨rfl, hb⟩
      refine cR ?_
      replace hbw := bthen hbw hb
      have hz_w8 := hb.size
      clear hb
      refine Wn (hQ_ _ _ (REnts.range (h.bel hbw) hx) ?_)
      clear hQ_ hP_ Q_
      refine oY rfl (fun W_ hW_ => (X.cat rfl rfl (by rw [List.length_append, List.length_append, List.length_append, hbl, hxs, four_length, four_length, four_length]; omega))) rfl ?_
      refine oY rfl (fun W_ hW_ => (X.assign rfl)) rfl ?_
      refine oN ?_
      refine nN ?_
      refine bN ?_
      refine tN ?_
      refine W_reg ?_
      rw [show headE l ++ (l.take j).flatMap entBytes ++ x.sum ++ four x.pack ++ four x.pos ++ four x.len = headE l ++ (l.take (j + 1)).flatMap entBytes by rw [take_next' hx, List.flatMap_append]; simp [entBytes]]
      refine sm rfl rfl ?_
      refine st (X.add64 rfl rfl (by omega)) rfl ?_
      refine sa rfl rfl ?_
      refine Wn ?_
      refine tN ⟨_, _, ?_, ⟨j + 1, rfl, rfl, by omega, hbw⟩, ⟨rfl, rfl, rfl, trivial⟩⟩
      omega
    · first | replace h36 := of_decide_eq_false h36 | replace h36 := of_decide_eq_true (notF h36) | replace h36 := notF h36 | skip
      obtain rfl : j = l.length := by omega
      have hbl := bodyE_length h32
      rw [List.take_length, show headE l ++ l.flatMap entBytes = bodyE l from rfl]
      have hcc := (Crc.crc (bodyE l)).toNat_lt
      refine W_exit (tE (tE (bH ?_)))
      refine tN ?_
      refine W_rs ?_
      refine sm rfl rfl ?_
      refine sm rfl rfl ?_
      refine sc _ Try.func83 rfl (by kernel_rfl) rfl rfl ((refCrc_any (bodyE l) _ (by omega)).mono ?_)
      rintro e_ w_ ⟨rfl, rfl⟩
      refine cR ?_
      refine st (X.convI (z := ((Crc.crc (bodyE l)).toNat : Int)) rfl Try.underlying114 Try.underlying3 (w64 (by omega))) rfl ?_
      refine sc _ Try.func67 rfl (by kernel_rfl) rfl rfl ((Num_any _ _ (by omega) (by omega)).mono ?_)
      rintro e_ w9 ⟨rfl, hb⟩
      refine cR ?_
      replace hbw := bthen hbw hb
      have hz_w9 := hb.size
      clear hb
      refine st (X.cat rfl rfl (by rw [hbl, four_length]; omega)) rfl ?_
      refine sa rfl rfl ?_
      refine Wn ?_
      refine tN ?_
      refine W_ret ?_
      exact (rT rfl rfl ⟨rfl, hbw⟩).1
section
variable {P : Program} {l : Env} {w : World} {ty t : TypeId} {x : Operand} {k k' : IntKind} {m n : Int}
theorem X.cutSf {s u : List UInt8} {x1 x2 : Operand} {i j : Nat} (he : (s.take j).drop i = u) (hx : ev l x = some (str s)) (h1 : ev l x1 = some (.int k m)) (h2 : ev l x2 = some (.int k' n)) (hu : P.underlying t = some .string) (hm : m = (i : Int)) (hn : n = (j : Int)) (hi : i ≤ j) (hj : j ≤ s.length) : X P l (.slice t x (some x1) (some x2) none) ty w (str u) w := he ▸ X.cutS hx h1 h2 hu hm hn hi hj
end
theorem dec_12' {s : List UInt8} (h : checkM s = 0) (h2 : upB (lE s) = true) (h3 : encM (lE s) ≠ s) : decM s = ([], 12) := by
  unfold decM
  rw [if_neg (by rw [h]; simp), if_neg (by rw [h2]; simp), if_neg h3]
theorem dec_0' {s : List UInt8} (h : checkM s = 0) (h2 : upB (lE s) = true) (h3 : encM (lE s) = s) : decM s = (lE s, 0) := by
  unfold decM
  rw [if_neg (by rw [h]; simp), if_neg (by rw [h2]; simp), if_pos h3]
set_option maxRecDepth 20000 in
set_option maxHeartbeats 1000000 in
theorem RDecode_any (s : List UInt8) (w : World) (hs : s.length < 1000000) : Calls Try.prog 52 #[str s] w (RIdx w (decM s)) := by
  have hnl := num_lt (s.drop 1024)
  obtain ⟨c, hc⟩ : ∃ c, checkM s = c := ⟨_, rfl⟩
  have hc' := hc
  unfold checkM at hc
  have herr : c ≠ 0 → decM s = ([], c) := fun h => by rw [← hc'] at h ⊢; exact dec_check h
  refine W_enter (args := [str s]) 93 Try.func52 rfl rfl rfl ?_
  refine W_sub [(0, str s)] ?_ ⟨rfl, trivial⟩
  have hbw := Below.refl w.heap.size w
  refine W_rs ?_
  refine sa rfl rfl ?_
  refine sa rfl rfl ?_
  refine Wn ?_
  refine tN ?_
  refine W_seq ?_
  refine W_rs ?_
  refine sm rfl rfl ?_
  refine st (X.lenS rfl rfl Try.underlying9) rfl ?_
  refine st (X.lss rfl rfl) rfl ?_
  refine Wn ?_
  refine tN ?_
  refine W_if rfl (fun h10 => ?_) (fun h10 => ?_)
  · first | replace h10 := of_decide_eq_true h10 | replace h10 := of_decide_eq_false (notT h10) | replace h10 := notT h10 | skip
    refine W_rs ?_
    refine sa rfl rfl ?_
    refine sa rfl rfl ?_
    refine Wn ?_
    refine tN ?_
    refine W_ret (tR ?_)
    rw [if_pos (by omega)] at hc
    exact (rTT rfl rfl rfl (ridx_err (by rw [herr (by omega), ← hc]) hbw)).1
  · first | replace h10 := of_decide_eq_false h10 | replace h10 := of_decide_eq_true (notF h10) | replace h10 := notF h10 | skip
    refine W_skip ?_
    refine tN ?_
    refine W_seq ?_
    refine W_rs ?_
    refine sm rfl rfl ?_
    refine st (X.toS (j := 4) rfl rfl Try.underlying9 rfl (by omega)) rfl ?_
    refine st (X.neS (b := kindB) rfl rfl) rfl ?_
    refine Wn ?_
    refine tN ?_
    refine W_if rfl (fun h13 => ?_) (fun h13 => ?_)
    · first | replace h13 := of_decide_eq_true h13 | replace h13 := of_decide_eq_false (notT h13) | replace h13 := notT h13 | skip
      refine W_rs ?_
      refine sa rfl rfl ?_
      refine sa rfl rfl ?_
      refine Wn ?_
      refine tN ?_
      refine W_ret (tR ?_)
      rw [if_neg (by omega), if_pos h13] at hc
      exact (rTT rfl rfl rfl (ridx_err (by rw [herr (by omega), ← hc]) hbw)).1
    · first | replace h13 := of_decide_eq_false h13 | replace h13 := of_decide_eq_true (notF h13) | replace h13 := notF h13 | skip
      rw [if_neg (by omega), if_neg h13] at hc
      refine W_skip ?_
      refine tN ?_
      refine W_rs ?_
      refine sm rfl rfl ?_
      refine sc _ Try.func73 rfl (by kernel_rfl) rfl rfl ((Of_any s 1024 _ (by omega) hs).mono ?_)
      rintro e_ w1 ⟨rfl, hb⟩
      refine cR ?_
      replace hbw := bthen hbw hb
      have hz_w1 := hb.size
      clear hb
      refine sa rfl rfl ?_
      refine Wn ?_
      refine tN ?_
      refine W_seq ?_
      refine W_rs ?_
      refine sm rfl rfl ?_
      refine st (X.gtr rfl rfl) rfl ?_
      refine Wn ?_
      refine tN ?_
      refine W_if rfl (fun h17 => ?_) (fun h17 => ?_)
      · first | replace h17 := of_decide_eq_true h17 | replace h17 := of_decide_eq_false (notT h17) | replace h17 := notT h17 | skip
        refine W_rs ?_
        refine sa rfl rfl ?_
        refine sa rfl rfl ?_
        refine Wn ?_
        refine tN ?_
        refine W_ret (tR ?_)
        rw [if_pos (by omega)] at hc
        exact (rTT rfl rfl rfl (ridx_err (by rw [herr (by omega), ← hc]) hbw)).1
      · first | replace h17 := of_decide_eq_false h17 | replace h17 := of_decide_eq_true (notF h17) | replace h17 := notF h17 | skip
        refine W_skip ?_
        refine tN ?_
        refine W_seq ?_
        refine W_rs ?_
        refine sm rfl rfl ?_
        refine st (X.lenS rfl rfl Try.underlying9) rfl ?_
        refine sm rfl rfl ?_
        refine st (X.mul64 rfl rfl (by omega)) rfl ?_
        refine st (X.add64 rfl rfl (by omega)) rfl ?_
        refine st (X.lss rfl rfl) rfl ?_
        refine Wn ?_
        refine tN ?_
        refine W_if rfl (fun h23 => ?_) (fun h23 => ?_)
        · first | replace h23 := of_decide_eq_true h23 | replace h23 := of_decide_eq_false (notT h23) | replace h23 := notT h23 | skip
          refine W_rs ?_
          refine sa rfl rfl ?_
          refine sa rfl rfl ?_
          refine Wn ?_
          refine tN ?_
          refine W_ret (tR ?_)
          rw [if_neg (by omega), if_pos (by omega)] at hc
          exact (rTT rfl rfl rfl (ridx_err (by rw [herr (by omega), ← hc]) hbw)).1
        · first | replace h23 := of_decide_eq_false h23 | replace h23 := of_decide_eq_true (notF h23) | replace h23 := notF h23 | skip
          refine W_skip ?_
          refine tN ?_
          refine W_seq ?_
          refine W_rs ?_
          refine sm rfl rfl ?_
          refine st (X.lenS rfl rfl Try.underlying9) rfl ?_
          refine sm rfl rfl ?_
          refine st (X.mul64 rfl rfl (by omega)) rfl ?_
          refine st (X.add64 rfl rfl (by omega)) rfl ?_
          refine st (X.gtr rfl rfl) rfl ?_
          refine Wn ?_
          refine tN ?_
          refine W_if rfl (fun h29 => ?_) (fun h29 => ?_)
          · first | replace h29 := of_decide_eq_true h29 | replace h29 := of_decide_eq_false (notT h29) | replace h29 := notT h29 | skip
            refine W_rs ?_
            refine sa rfl rfl ?_
            refine sa rfl rfl ?_
            refine Wn ?_
            refine tN ?_
            refine W_ret (tR ?_)
            rw [if_neg (by omega), if_neg (by omega), if_pos (by omega)] at hc
            exact (rTT rfl rfl rfl (ridx_err (by rw [herr (by omega), ← hc]) hbw)).1
          · first | replace h29 := of_decide_eq_false h29 | replace h29 := of_decide_eq_true (notF h29) | replace h29 := notF h29 | skip
            rw [if_neg (by omega), if_neg (by omega), if_neg (by omega)] at hc
            have hlen : s.length = 1032 + 44 * num (s.drop 1024) := by omega
            refine W_skip ?_
            refine tN ?_
            refine W_seq ?_
            refine W_drsN (fun _ => True) [0, 1, 2, 3, 5, 6, 7, 8, 9, 4, 10, 11, 12] [true, true, true, true, true, true, true, true, true, false, false, true, true] (by kernel_rfl) (by kernel_rfl) (trivial) ?_
            obtain ⟨w2, hw_⟩ : ∃ w2 : World, w2 = World.drew w1 := ⟨_, rfl⟩
            rw [← hw_]
            have hb : Below w1.heap.size w1 w2 := by rw [hw_]; exact bdrew (Below.refl _ _)
            clear hw_
            have hS : True := trivial
            replace hbw := bthen hbw hb
            have hz_w2 := hb.size
            clear hb
            refine oY rfl (fun W_ hW_ => (X.move rfl)) rfl ?_
            refine oY rfl (fun W_ hW_ => (X.move rfl)) rfl ?_
            refine oY rfl (fun W_ hW_ => (X.lenS rfl rfl Try.underlying9)) rfl ?_
            refine oY rfl (fun W_ hW_ => (X.sub rfl rfl (show IntKind.i64.wrap ((s.length : Int) - 4) = ((s.length - 4 : Nat) : Int) by rw [w64 (by omega)]; omega))) rfl ?_
            refine oY rfl (fun W_ hW_ => (X.move rfl)) rfl ?_
            refine oY rfl (fun W_ hW_ => (X.move rfl)) rfl ?_
            refine oY rfl (fun W_ hW_ => (X.lenS rfl rfl Try.underlying9)) rfl ?_
            refine oY rfl (fun W_ hW_ => (X.sub rfl rfl (show IntKind.i64.wrap ((s.length : Int) - 4) = ((s.length - 4 : Nat) : Int) by rw [w64 (by omega)]; omega))) rfl ?_
            refine oY rfl (fun W_ hW_ => (X.toS rfl rfl Try.underlying9 rfl (by omega))) rfl ?_
            refine oL rfl (fun Q_ hQ_ hP_ => ?_)
            refine sc _ Try.func73 rfl (by kernel_rfl) rfl rfl ((Of_any s (s.length - 4) _ (by omega) hs).mono ?_)
            rintro e_ w3 ⟨rfl, hb⟩
            refine cR ?_
            replace hbw := bthen hbw hb
            have hz_w3 := hb.size
            clear hb
            refine Wn (hQ_ _ _ trivial ?_)
            clear hQ_ hP_ Q_
            refine oL rfl (fun Q_ hQ_ hP_ => ?_)
            refine sc _ Try.func83 rfl (by kernel_rfl) rfl rfl ((refCrc_any (s.take (s.length - 4)) _ (by rw [List.length_take]; omega)).mono ?_)
            rintro e_ w_ ⟨rfl, rfl⟩
            refine cR ?_
            refine Wn (hQ_ _ _ trivial ?_)
            clear hQ_ hP_ Q_
            refine oY rfl (fun W_ hW_ => (X.convI (z := ((Crc.crc (s.take (s.length - 4))).toNat : Int)) rfl Try.underlying114 Try.underlying3 (w64 (by have := (Crc.crc (s.take (s.length - 4))).toNat_lt; omega)))) rfl ?_
            refine oY rfl (fun W_ hW_ => (X.neq rfl rfl)) rfl ?_
            refine oN ?_
            refine nN ?_
            refine W_if rfl (fun h42 => ?_) (fun h42 => ?_)
            · first | replace h42 := of_decide_eq_true h42 | replace h42 := of_decide_eq_false (notT h42) | replace h42 := notT h42 | skip
              refine W_rs ?_
              refine sa rfl rfl ?_
              refine sa rfl rfl ?_
              refine Wn ?_
              refine tN ?_
              refine W_ret (tR ?_)
              rw [if_pos (by omega)] at hc
              exact (rTT rfl rfl rfl (ridx_err (by rw [herr (by omega), ← hc]) hbw)).1
            · first | replace h42 := of_decide_eq_false h42 | replace h42 := of_decide_eq_true (notF h42) | replace h42 := notF h42 | skip
              rw [if_neg (by omega)] at hc
              have h0 : checkM s = 0 := by rw [hc', ← hc]
              obtain ⟨n, hn⟩ : ∃ n, num (s.drop 1024) = n := ⟨_, rfl⟩
              obtain ⟨L, hL⟩ : ∃ L, lE s = L := ⟨_, rfl⟩
              have hLl : L.length = n := by rw [← hL, ← hn]; exact entsOf_length _ _
              have hL32 : S32 L := by rw [← hL]; exact lE_S32 h0
              have hLf : L.all fitE = true := by rw [← hL]; exact entsOf_fit _ _
              rw [hn]
              rw [hn] at hlen
              refine W_skip ?_
              refine tN ?_
              refine W_rs ?_
              refine sa rfl rfl ?_
              refine Wn ?_
              refine tN ?_
              refine W_seq ?_
              refine W_rs ?_
              refine sa rfl rfl ?_
              refine Wn ?_
              refine tN ?_
              refine W_block ?_
              refine W_lp (fun nw4_ lw4_ w4 => ∃ j : Nat, ∃ v5 : Value, nw4_ = n - j ∧ lw4_ = ([(0, str s), (4, .int .i64 n), (5, v5), (6, .int .i64 j)] : Env) ∧ (j ≤ n) ∧ (Row w4 94 4 v5 (L.take j).length ((L.take j).flatMap recE)) ∧ (∀ k, v5.ownBlock = some k → w.heap.size ≤ k) ∧ (upB (L.take j) = true) ∧ (Below w.heap.size w w4)) _ ⟨_, ⟨0, .slice none 0 0, rfl, rfl, by omega, Row.nil _ _ _, (fun k hk => by simp [Value.ownBlock] at hk), rfl, hbw⟩, ⟨rfl, rfl, rfl, rfl, trivial⟩⟩ ?_
              clear hbw
              rintro nw4_ lw4_ w4 ⟨j, v5, rfl, rfl, hj, hR, hO, hso, hbw⟩
              have hz_w4 := hbw.size
              refine W_seq ?_
              refine W_rs ?_
              refine sm rfl rfl ?_
              refine sm rfl rfl ?_
              refine st (X.lss rfl rfl) rfl ?_
              refine Wn ?_
              refine tN ?_
              refine W_if rfl (fun h45 => ?_) (fun h45 => ?_)
              · first | replace h45 := of_decide_eq_true h45 | replace h45 := of_decide_eq_false (notT h45) | replace h45 := notT h45 | skip
                obtain ⟨x, hx⟩ : ∃ x, L[j]? = some x := ⟨_, List.getElem?_eq_getElem (by omega)⟩
                have hx' := entsOf_at (num (s.drop 1024)) (s.drop 1028) j (by omega)
                rw [show entsOf (num (s.drop 1024)) (s.drop 1028) = L from hL, hx] at hx'
                injection hx' with hx'
                have hxs := hL32 x (List.mem_of_getElem? hx)
                simp only [List.drop_drop] at hx'
                have hx1 : x.sum = (s.drop (1028 + 44 * j)).take 32 := by rw [hx']
                have hx2 : x = ⟨x.sum, num (s.drop (1028 + 44 * j + 32)), num (s.drop (1028 + 44 * j + 36)), num (s.drop (1028 + 44 * j + 40))⟩ := by rw [hx1]; simpa [Nat.add_assoc] using hx'
                have hct : (s.take (1028 + 44 * j + 32)).drop (1028 + 44 * j) = x.sum := by rw [List.drop_take, hx1]; congr 1; omega
                have htl : (L.take j).length = j := by rw [List.length_take]; omega
                refine W_skip ?_
                refine tN ?_
                refine W_seq ?_
                refine W_block ?_
                refine W_rs ?_
                refine sm rfl rfl ?_
                refine st (X.mul64 rfl rfl (by omega)) rfl ?_
                refine st (X.add rfl rfl (show IntKind.i64.wrap (1028 + 44 * (j : Int)) = ((1028 + 44 * j : Nat) : Int) by rw [w64 (by omega)]; omega)) rfl ?_
                refine sa rfl rfl ?_
                refine Wn ?_
                refine tN ?_
                refine W_drsN (fun _ => True) [0, 1, 2, 3, 4, 5, 6, 7, 8, 10, 11, 12, 14, 15, 16, 9, 13, 17, 18, 19, 20, 21] [true, true, true, true, true, true, true, true, true, true, true, true, true, true, true, false, false, false, true, false, false, true] (by kernel_rfl) (by kernel_rfl) (trivial) ?_
                obtain ⟨w5, hw_⟩ : ∃ w5 : World, w5 = World.drew w4 := ⟨_, rfl⟩
                rw [← hw_]
                have hb : Below w4.heap.size w4 w5 := by rw [hw_]; exact bdrew (Below.refl _ _)
                clear hw_
                have hS : True := trivial
                have hpend := hb
                replace hbw := bthen hbw hb
                have hz_w5 := hb.size
                clear hb
                refine oY rfl (fun W_ hW_ => (X.move rfl)) rfl ?_
                refine oY rfl (fun W_ hW_ => (X.move rfl)) rfl ?_
                refine oY rfl (fun W_ hW_ => (X.move rfl)) rfl ?_
                refine oY rfl (fun W_ hW_ => (X.move rfl)) rfl ?_
                refine oY rfl (fun W_ hW_ => (X.add rfl rfl (show IntKind.i64.wrap (((1028 + 44 * j : Nat) : Int) + 32) = ((1028 + 44 * j + 32 : Nat) : Int) by rw [w64 (by omega)]; omega))) rfl ?_
                refine oY rfl (fun W_ hW_ => (X.cutSf hct rfl rfl rfl Try.underlying9 rfl rfl (by omega) (by omega))) rfl ?_
                refine oY rfl (fun W_ hW_ => (X.move rfl)) rfl ?_
                refine oY rfl (fun W_ hW_ => (X.move rfl)) rfl ?_
                refine oY rfl (fun W_ hW_ => (X.add rfl rfl (show IntKind.i64.wrap (((1028 + 44 * j : Nat) : Int) + 32) = ((1028 + 44 * j + 32 : Nat) : Int) by rw [w64 (by omega)]; omega))) rfl ?_
                refine oY rfl (fun W_ hW_ => (X.move rfl)) rfl ?_
                refine oY rfl (fun W_ hW_ => (X.move rfl)) rfl ?_
                refine oY rfl (fun W_ hW_ => (X.add rfl rfl (show IntKind.i64.wrap (((1028 + 44 * j : Nat) : Int) + 36) = ((1028 + 44 * j + 36 : Nat) : Int) by rw [w64 (by omega)]; omega))) rfl ?_
                refine oY rfl (fun W_ hW_ => (X.move rfl)) rfl ?_
                refine oY rfl (fun W_ hW_ => (X.move rfl)) rfl ?_
                refine oY rfl (fun W_ hW_ => (X.add rfl rfl (show IntKind.i64.wrap (((1028 + 44 * j : Nat) : Int) + 40) = ((1028 + 44 * j + 40 : Nat) : Int) by rw [w64 (by omega)]; omega))) rfl ?_
                refine oL rfl (fun Q_ hQ_ hP_ => ?_)
                refine sc _ Try.func73 rfl (by kernel_rfl) rfl rfl ((Of_any s (1028 + 44 * j + 32) _ (by omega) hs).mono ?_)
                rintro e_ w6 ⟨rfl, hb⟩
                refine cR ?_
                replace hpend := bthen hpend hb
                replace hbw := bthen hbw hb
                have hz_w6 := hb.size
                clear hb
                refine Wn (hQ_ _ _ trivial ?_)
                clear hQ_ hP_ Q_
                refine oL rfl (fun Q_ hQ_ hP_ => ?_)
                refine sc _ Try.func73 rfl (by kernel_rfl) rfl rfl ((Of_any s (1028 + 44 * j + 36) _ (by omega) hs).mono ?_)
                rintro e_ w7 ⟨rfl, hb⟩
                refine cR ?_
                replace hpend := bthen hpend hb
                replace hbw := bthen hbw hb
                have hz_w7 := hb.size
                clear hb
                refine Wn (hQ_ _ _ trivial ?_)
                clear hQ_ hP_ Q_
                refine oL rfl (fun Q_ hQ_ hP_ => ?_)
                refine sc _ Try.func73 rfl (by kernel_rfl) rfl rfl ((Of_any s (1028 + 44 * j + 40) _ (by omega) hs).mono ?_)
                rintro e_ w8 ⟨rfl, hb⟩
                refine cR ?_
                replace hpend := bthen hpend hb
                replace hbw := bthen hbw hb
                have hz_w8 := hb.size
                clear hb
                refine Wn (hQ_ _ _ trivial ?_)
                clear hQ_ hP_ Q_
                refine oY rfl (fun W_ hW_ => (X.bld rfl (brec _ _ _ _ _))) rfl ?_
                rw [← hx2]
                refine oL rfl (fun Q_ hQ_ hP_ => ?_)
                refine sbs1 rfl Try.underlying74 inf94 rfl rfl (by decide) (by decide) rfl (fun g70 w9 hR70 hg70 hb => ?_)
                replace hpend := bthen hpend hb
                replace hbw := bthen hbw hb
                have hz_w9 := hb.size
                clear hb
                have hl70 := hR70.blt (by decide)
                refine Wn (hQ_ _ _ trivial ?_)
                clear hQ_ hP_ Q_
                refine oL rfl (fun Q_ hQ_ hP_ => ?_)
                replace hR := hR.bel hpend
                clear hpend
                refine sapp rfl rfl Try.underlying74 inf94 rfl (by decide) hR (hR70.reads.src Try.underlying74 (recE_one x)) (by simp only [maxLen]; omega) (by omega) rfl (fun v5' w10 hR' hC hv' => ?_)
                replace hbw := bapp hbw hC hO
                have hO' := own_next hv' hO (by omega)
                replace hR' : Row w10 94 4 v5' (L.take (j + 1)).length ((L.take (j + 1)).flatMap recE) := by rw [take_next' hx, List.length_append, List.flatMap_append]; exact hR'
                obtain ⟨a5, c5, rfl, hn5, hc5⟩ := hR'.shape
                clear hC hv'
                refine Wn (hQ_ _ _ trivial ?_)
                clear hQ_ hP_ Q_
                refine oY rfl (fun W_ hW_ => (X.assign rfl)) rfl ?_
                refine oN ?_
                refine nN ?_
                by_cases hsp_ : 0 < j
                · obtain ⟨y, hy⟩ : ∃ y, L[j - 1]? = some y := ⟨_, List.getElem?_eq_getElem (by omega)⟩
                  have hy' : L[j - 1 + 1]? = some x := by rw [show j - 1 + 1 = j by omega]; exact hx
                  have htl1 : (L.take (j + 1)).length = j + 1 := by rw [List.length_take]; omega
                  have hRe : REnts w10 (.slice a5 (L.take (j + 1)).length c5) (L.take (j + 1)) := hR'.reads
                  obtain ⟨g1, o1, c', hv, hg1⟩ := hRe.some_ (by omega)
                  injection hv with e1 _ e3
                  subst e1 e3
                  have hyt : (L.take (j + 1))[j - 1]? = some y := by rw [List.getElem?_take_of_lt (by omega)]; exact hy
                  have hxt : (L.take (j + 1))[j]? = some x := by rw [List.getElem?_take_of_lt (by omega)]; exact hx
                  refine W_drsN (fun W_ => W_.rangeAt g1 (o1 + (j - 1) * 4) (recE y) ∧ W_.rangeAt g1 (o1 + j * 4) (recE x)) [0, 1, 2, 3, 4, 5, 6, 7, 8, 9, 10, 11, 12, 13, 14, 15] [true, true, true, true, true, true, true, true, true, true, true, true, true, true, true, true] (by kernel_rfl) (by kernel_rfl) (⟨REnts.range (hRe.bel (bdrew (Below.refl _ _))) hyt, REnts.range (hRe.bel (bdrew (Below.refl _ _))) hxt⟩) ?_
                  obtain ⟨w11, hw_⟩ : ∃ w11 : World, w11 = World.drew w10 := ⟨_, rfl⟩
                  rw [← hw_]
                  have hb : Below w10.heap.size w10 w11 := by rw [hw_]; exact bdrew (Below.refl _ _)
                  clear hw_
                  have hS := hb
                  have hpend := hb
                  replace hbw := bthen hbw hb
                  have hz_w11 := hb.size
                  clear hb
                  refine oY rfl (fun W_ hW_ => (X.move rfl)) rfl ?_
                  refine oY rfl (fun W_ hW_ => (X.gtr rfl rfl)) rfl ?_
                  refine oY rfl (fun W_ hW_ => (X.mvB (c := true) rfl (decide_eq_true (by omega)))) rfl ?_
                  refine oYg (g := 74) rfl rfl rfl rfl (fun W_ hW_ => (X.move rfl)) rfl ?_
                  refine oYg (g := 74) rfl rfl rfl rfl (fun W_ hW_ => (X.move rfl)) rfl ?_
                  refine oYg (g := 74) rfl rfl rfl rfl (fun W_ hW_ => (X.sub rfl rfl (show IntKind.i64.wrap ((j : Int) - 1) = ((j - 1 : Nat) : Int) by rw [w64 (by omega)]; omega))) rfl ?_
                  refine oYg (g := 74) rfl rfl rfl rfl (fun W_ hW_ => (X.idxA rfl rfl Try.underlying74 siz94 rfl (by omega))) rfl ?_
                  refine oYg (g := 74) rfl rfl rfl rfl (fun W_ hW_ => (X.fa fa94_0 rfl)) rfl ?_
                  refine oYg (g := 74) rfl rfl rfl rfl (fun W_ hW_ => (X.ld rfl Try.underlying9 rfl (hW_.1 0 _ rfl))) rfl ?_
                  refine oYg (g := 74) rfl rfl rfl rfl (fun W_ hW_ => (X.move rfl)) rfl ?_
                  refine oYg (g := 74) rfl rfl rfl rfl (fun W_ hW_ => (X.move rfl)) rfl ?_
                  refine oYg (g := 74) rfl rfl rfl rfl (fun W_ hW_ => (X.idxA rfl rfl Try.underlying74 siz94 rfl (by omega))) rfl ?_
                  refine oYg (g := 74) rfl rfl rfl rfl (fun W_ hW_ => (X.fa fa94_0 rfl)) rfl ?_
                  refine oYg (g := 74) rfl rfl rfl rfl (fun W_ hW_ => (X.ld rfl Try.underlying9 rfl (hW_.2 0 _ rfl))) rfl ?_
                  refine oYg (g := 74) rfl rfl rfl rfl (fun W_ hW_ => (X.geS rfl rfl)) rfl ?_
                  refine oY rfl (fun W_ hW_ => (X.pickT rfl rfl)) rfl ?_
                  refine oN ?_
                  refine nN ?_
                  refine W_if rfl (fun h87 => ?_) (fun h87 => ?_)
                  · first | replace h87 := of_decide_eq_true h87 | replace h87 := of_decide_eq_false (notT h87) | replace h87 := notT h87 | skip
                    refine W_rs ?_
                    refine sa rfl rfl ?_
                    refine sa rfl rfl ?_
                    refine Wn ?_
                    refine tN ?_
                    replace hR' := hR'.bel hpend
                    clear hpend
                    refine W_ret (bR (tR (tR (bR (tR ?_)))))
                    have hnlt : ¬ y.sum < x.sum := fun hlt => by rw [bytesLess_eq] at h87; simp [hlt] at h87
                    exact (rTT rfl rfl rfl (ridx_err (dec_18 h0 (by rw [hL]; exact upB_no hy hy' hnlt)) hbw)).1
                  · first | replace h87 := of_decide_eq_false h87 | replace h87 := of_decide_eq_true (notF h87) | replace h87 := notF h87 | skip
                    refine W_skip ?_
                    refine bN ?_
                    refine tN ?_
                    refine W_reg ?_
                    have hlt' : y.sum < x.sum := Classical.byContradiction fun hn' => by rw [bytesLess_eq] at h87; simp [hn'] at h87
                    have hso' : upB (L.take (j + 1)) = true := by
                      have := upB_take (i := j - 1) (by rw [show j - 1 + 1 = j by omega]; exact hso) hy hy' hlt'
                      rwa [show j - 1 + 2 = j + 1 by omega] at this
                    refine sm rfl rfl ?_
                    refine st (X.add64 rfl rfl (by omega)) rfl ?_
                    refine sa rfl rfl ?_
                    refine Wn ?_
                    replace hR' := hR'.bel hpend
                    clear hpend
                    refine tN ⟨_, _, ?_, ⟨j + 1, _, rfl, rfl, by omega, hR', hO', hso', hbw⟩, ⟨rfl, rfl, rfl, rfl, trivial⟩⟩
                    omega
                · refine W_drsN (fun _ => True) [0, 1, 2, 3, 4, 5, 6, 7, 8, 9, 10, 11, 12, 13, 14, 15] [true, true, true, true, true, true, true, true, true, true, true, true, true, true, true, true] (by kernel_rfl) (by kernel_rfl) (trivial) ?_
                  obtain ⟨w12, hw_⟩ : ∃ w12 : World, w12 = World.drew w10 := ⟨_, rfl⟩
                  rw [← hw_]
                  have hb : Below w10.heap.size w10 w12 := by rw [hw_]; exact bdrew (Below.refl _ _)
                  clear hw_
                  have hS : True := trivial
                  have hpend := hb
                  replace hbw := bthen hbw hb
                  have hz_w12 := hb.size
                  clear hb
                  refine oY rfl (fun W_ hW_ => (X.move rfl)) rfl ?_
                  refine oY rfl (fun W_ hW_ => (X.gtr rfl rfl)) rfl ?_
                  refine oY rfl (fun W_ hW_ => (X.mvB (c := false) rfl (decide_eq_false (by omega)))) rfl ?_
                  refine oNg (g := 74) rfl rfl rfl rfl hS rfl ?_
                  refine oNg (g := 74) rfl rfl rfl rfl hS rfl ?_
                  refine oNg (g := 74) rfl rfl rfl rfl hS rfl ?_
                  refine oNg (g := 74) rfl rfl rfl rfl hS rfl ?_
                  refine oNg (g := 74) rfl rfl rfl rfl hS rfl ?_
                  refine oNg (g := 74) rfl rfl rfl rfl hS rfl ?_
                  refine oNg (g := 74) rfl rfl rfl rfl hS rfl ?_
                  refine oNg (g := 74) rfl rfl rfl rfl hS rfl ?_
                  refine oNg (g := 74) rfl rfl rfl rfl hS rfl ?_
                  refine oNg (g := 74) rfl rfl rfl rfl hS rfl ?_
                  refine oNg (g := 74) rfl rfl rfl rfl hS rfl ?_
                  refine oNg (g := 74) rfl rfl rfl rfl hS rfl ?_
                  refine oY rfl (fun W_ hW_ => (X.pickF rfl rfl)) rfl ?_
                  refine oN ?_
                  refine nN ?_
                  refine W_no rfl (rfl) ?_
                  refine W_skip ?_
                  refine bN ?_
                  refine tN ?_
                  refine W_reg ?_
                  have hso' : upB (L.take (j + 1)) = true := by
                    obtain rfl : j = 0 := by omega
                    cases L with
                    | nil => rfl
                    | cons c L => rfl
                  refine sm rfl rfl ?_
                  refine st (X.add64 rfl rfl (by omega)) rfl ?_
                  refine sa rfl rfl ?_
                  refine Wn ?_
                  replace hR' := hR'.bel hpend
                  clear hpend
                  refine tN ⟨_, _, ?_, ⟨j + 1, _, rfl, rfl, by omega, hR', hO', hso', hbw⟩, ⟨rfl, rfl, rfl, rfl, trivial⟩⟩
                  omega
              · first | replace h45 := of_decide_eq_false h45 | replace h45 := of_decide_eq_true (notF h45) | replace h45 := notF h45 | skip
                obtain rfl : n = j := by omega
                rw [List.take_of_length_le (by omega)] at hso hR
                refine W_exit (tE (tE (bH ?_)))
                refine tN ?_
                refine W_seq ?_
                refine W_rs ?_
                refine sm rfl rfl ?_
                refine sc _ Try.func49 rfl (by kernel_rfl) rfl rfl ((REncode_any v5 L _ hR.reads hL32 hLf (by omega)).mono ?_)
                rintro e_ w13 ⟨rfl, hb⟩
                refine cR ?_
                have hpend := hb
                replace hbw := bthen hbw hb
                have hz_w13 := hb.size
                clear hb
                refine sm rfl rfl ?_
                refine st (X.neS rfl rfl) rfl ?_
                refine Wn ?_
                refine tN ?_
                refine W_if rfl (fun h91 => ?_) (fun h91 => ?_)
                · first | replace h91 := of_decide_eq_true h91 | replace h91 := of_decide_eq_false (notT h91) | replace h91 := notT h91 | skip
                  refine W_rs ?_
                  refine sa rfl rfl ?_
                  refine sa rfl rfl ?_
                  refine Wn ?_
                  refine tN ?_
                  replace hR := hR.bel hpend
                  clear hpend
                  refine W_ret (tR ?_)
                  exact (rTT rfl rfl rfl (ridx_err (dec_12' h0 (by rw [hL]; exact hso) (by rw [hL]; exact h91)) hbw)).1
                · first | replace h91 := of_decide_eq_false h91 | replace h91 := of_decide_eq_true (notF h91) | replace h91 := notF h91 | skip
                  refine W_skip ?_
                  refine tN ?_
                  refine W_rs ?_
                  refine sm rfl rfl ?_
                  refine sa rfl rfl ?_
                  refine sa rfl rfl ?_
                  refine Wn ?_
                  refine tN ?_
                  replace hR := hR.bel hpend
                  clear hpend
                  refine W_ret ?_
                  refine (rTT rfl rfl rfl ?_).1
                  rw [dec_0' h0 (by rw [hL]; exact hso) (by rw [hL]; exact Classical.not_not.1 h91), hL]
                  exact ⟨_, rfl, hR.reads, hbw⟩
end Go.Proofs.Ytnagmpnpgekhfaa
namespace Go.Proofs.Ytnagmpnpgekhfaa
open Go.RowKit
def fs1 : List UInt8 := 1 :: z31
def fs2 : List UInt8 := 2 :: z31
def fe1 : Ent := ⟨fs1, 0, 0, 4⟩
def fe2 : Ent := ⟨fs2, 0, 0, 5⟩
def awE : List Ent := [fe2, fe1]
def awR : List Ent := [fe1, fe2]
theorem aw_up : Up awR := (upB_iff _).1 (by decide +kernel)
theorem aw_make : makeM awE = (awR, 0) := make_of_up (List.Perm.swap _ _ _) aw_up (by decide) (by decide +kernel)
theorem aw_find : findM awR fs2 = some fe2 := by decide +kernel
theorem aw_32 : S32 awE := fun e he => by simp [awE] at he; rcases he with rfl | rfl <;> rfl
theorem aw_32R : S32 awR := fun e he => by simp [awR] at he; rcases he with rfl | rfl <;> rfl
theorem aw_zeros : decM (List.replicate 1032 0) = ([], 14) := by
  have h : checkM (List.replicate 1032 0) = 14 := by
    unfold checkM
    rw [if_neg (by rw [List.length_replicate]; omega), if_pos (by decide +kernel)]
  rw [dec_check (by rw [h]; decide), h]
theorem ben2 (w : World) : (Instr.build 90 #[(0, .agg (fs2.map bv).toArray), (3, .int .i64 5)]).run Try.prog w = .ok (.agg fe2.cells.toArray) w := by kernel_rfl
theorem ben1 (w : World) : (Instr.build 90 #[(0, .agg (fs1.map bv).toArray), (3, .int .i64 4)]).run Try.prog w = .ok (.agg fe1.cells.toArray) w := by kernel_rfl
theorem bslE (w : World) : (Instr.buildSlice 69 2 #[(0, .agg fe2.cells.toArray), (1, .agg fe1.cells.toArray)]).run Try.prog w = .ok (.slice (some ⟨w.heap.size, 0, none⟩) 2 2) (w.alloc (.cells (awE.flatMap Ent.cells).toArray 90)) := by kernel_rfl
theorem zer_eq (n : Nat) : (madeCells (Value.int IntKind.u8 0).cells n).toList = (List.replicate n (0 : UInt8)).map bv := by
  apply List.ext_getElem
  · simp [madeCells]
  · intro i h1 h2
    have e : (Value.int IntKind.u8 0).cells = #[Value.int IntKind.u8 0] := rfl
    simp [madeCells, e, Nat.mod_one, bv]
set_option maxRecDepth 20000 in
theorem fawake_any (w : World) : Calls Try.prog 44 #[] w fun e w' => e = .returned (.bool true) ∧ Below w.heap.size w w' := by
  have hl0 : (encM []).length = 1032 := by rw [encM_length (fun e he => by simp at he)]; rfl
  refine W_enter (args := []) 54 Try.func44 rfl rfl rfl ?_
  have hbw := Below.refl w.heap.size w
  refine W_rs ?_
  refine sa rfl rfl ?_
  refine Wn ?_
  refine tN ?_
  refine W_rs ?_
  refine salA inf71 rfl (fun g1 w1 hB1 hg1 hb hl1 => ?_)
  replace hbw := bthen hbw hb
  have hz_w1 := hb.size
  clear hb
  refine Wn ?_
  refine tN ?_
  refine W_rs ?_
  refine smk (q := 1032) rfl rfl rfl rfl Try.underlying81 inf5 (by decide) (by decide) rfl (fun g9 w2 hR9 hg9 hb => ?_)
  replace hbw := bthen hbw hb
  replace hB1 := hB1.bel hb
  have hz_w2 := hb.size
  clear hb
  have hl9 := hR9.blt (by decide)
  refine st (X.strOf (s := List.replicate 1032 0) rfl Try.underlying81 Try.underlying5 Try.underlying9 (by have := hR9.reads; rwa [zer_eq] at this)) rfl ?_
  refine sc _ Try.func50 rfl (by kernel_rfl) rfl rfl ((Decode_any (List.replicate 1032 0) _ (by rw [List.length_replicate]; omega)).mono ?_)
  rintro e_ w3 ⟨vd, rfl, hEd, hb⟩
  refine cR ?_
  replace hbw := bthen hbw hb
  replace hB1 := hB1.bel hb
  have hz_w3 := hb.size
  clear hb
  rw [aw_zeros] at hEd ⊢
  obtain ⟨ad, cd, rfl, _, _⟩ := hEd.shape
  refine sm rfl rfl ?_
  refine st (X.ext rfl rfl) rfl ?_
  refine st (X.ext rfl rfl) rfl ?_
  refine salA inf71 rfl (fun g2 w4 hB2 hg2 hb hl2 => ?_)
  replace hbw := bthen hbw hb
  replace hB1 := hB1.bel hb
  have hz_w4 := hb.size
  clear hb
  refine ssBN rfl rfl hB2 siz71 rfl rfl (fun w5 hB_ hc_ => ?_)
  replace hB2 := hB_
  clear hB_
  replace hB1 := hB1.chg hc_ (by first | (show ¬ _ = _; omega) | (intro k_ hk_; simp [Value.ownBlock] at hk_; subst hk_; show ¬ _ = _; omega))
  replace hbw := bset hbw hc_ (by omega)
  have hz_w5 := hc_.size
  clear hc_
  refine sa rfl rfl ?_
  refine Wn ?_
  refine tN ?_
  refine W_rs ?_
  refine st (X.bld rfl (bsumF 2 _)) rfl ?_
  refine st (X.bld rfl (ben2 _)) rfl ?_
  refine st (X.bld rfl (bsumF 1 _)) rfl ?_
  refine st (X.bld rfl (ben1 _)) rfl ?_
  refine sbs (ps := [(0, .tmp 16), (1, .tmp 18)]) 35 rfl (bslE _) (by simp [maxLen]) rfl rfl (fun g19 w6 hR19 hg19 hb => ?_)
  have hz34 := hb.size
  replace hB1 := hB1.belowAll hb
  replace hB2 := hB2.belowAll hb
  replace hbw := bthen hbw hb
  clear hb
  refine sc _ Try.func45 rfl (by kernel_rfl) rfl rfl ((Make_any _ awE _ hR19.reads aw_32 (by decide)).mono ?_)
  rintro e_ w7 ⟨vm, rfl, hE, hb⟩
  refine cR ?_
  replace hbw := bthen hbw hb
  replace hB1 := hB1.bel hb
  replace hB2 := hB2.bel hb
  have hz_w7 := hb.size
  clear hb
  rw [aw_make] at hE ⊢
  obtain ⟨am, cm, rfl, _, _⟩ := hE.shape
  refine sm rfl rfl ?_
  refine st (X.ext rfl rfl) rfl ?_
  refine st (X.ext rfl rfl) rfl ?_
  refine salA inf71 rfl (fun g4 w8 hB4 hg4 hb hl4 => ?_)
  have hpend := hb
  replace hbw := bthen hbw hb
  replace hB1 := hB1.bel hb
  replace hB2 := hB2.bel hb
  have hz_w8 := hb.size
  clear hb
  refine ssBN rfl rfl hB4 siz71 rfl rfl (fun w9 hB_ hc_ => ?_)
  replace hB4 := hB_
  clear hB_
  replace hpend := bset hpend hc_ (by omega)
  replace hB1 := hB1.chg hc_ (by first | (show ¬ _ = _; omega) | (intro k_ hk_; simp [Value.ownBlock] at hk_; subst hk_; show ¬ _ = _; omega))
  replace hB2 := hB2.chg hc_ (by first | (show ¬ _ = _; omega) | (intro k_ hk_; simp [Value.ownBlock] at hk_; subst hk_; show ¬ _ = _; omega))
  replace hbw := bset hbw hc_ (by omega)
  have hz_w9 := hc_.size
  clear hc_
  refine sa rfl rfl ?_
  refine Wn ?_
  refine tN ?_
  refine W_rs ?_
  refine st (X.ldBN rfl hB4 Try.underlying71 rfl siz71) rfl ?_
  refine st (X.bld rfl (bsumF 2 _)) rfl ?_
  replace hE := hE.bel hpend
  clear hpend
  refine sc _ Try.func57 rfl (by kernel_rfl) rfl rfl ((Find_any _ awR fs2 _ hE aw_32R aw_up rfl (by decide)).mono ?_)
  rintro e_ w10 ⟨rfl, hb⟩
  refine cR ?_
  have hpend := hb
  replace hbw := bthen hbw hb
  replace hB1 := hB1.bel hb
  replace hB2 := hB2.bel hb
  replace hB4 := hB4.bel hb
  have hz_w10 := hb.size
  clear hb
  rw [aw_find]
  refine sm rfl rfl ?_
  refine st (X.ext rfl rfl) rfl ?_
  refine st (X.ext rfl rfl) rfl ?_
  refine salA inf90 rfl (fun g6 w11 hB6 hg6 hb hl6 => ?_)
  replace hpend := bthen hpend hb
  replace hbw := bthen hbw hb
  replace hB1 := hB1.bel hb
  replace hB2 := hB2.bel hb
  replace hB4 := hB4.bel hb
  have hz_w11 := hb.size
  clear hb
  refine ssBN rfl rfl hB6 siz90 rfl rfl (fun w12 hB_ hc_ => ?_)
  replace hB6 := hB_
  clear hB_
  replace hpend := bset hpend hc_ (by omega)
  replace hB1 := hB1.chg hc_ (by first | (show ¬ _ = _; omega) | (intro k_ hk_; simp [Value.ownBlock] at hk_; subst hk_; show ¬ _ = _; omega))
  replace hB2 := hB2.chg hc_ (by first | (show ¬ _ = _; omega) | (intro k_ hk_; simp [Value.ownBlock] at hk_; subst hk_; show ¬ _ = _; omega))
  replace hB4 := hB4.chg hc_ (by first | (show ¬ _ = _; omega) | (intro k_ hk_; simp [Value.ownBlock] at hk_; subst hk_; show ¬ _ = _; omega))
  replace hbw := bset hbw hc_ (by omega)
  have hz_w12 := hc_.size
  clear hc_
  refine sa rfl rfl ?_
  refine Wn ?_
  refine tN ?_
  refine W_rs ?_
  refine st (X.ldBN rfl hB1 Try.underlying71 rfl siz71) rfl ?_
  refine sc _ Try.func48 rfl (by kernel_rfl) rfl rfl ((Encode_any _ [] _ (EntsAt.nil _) (fun e he => by simp at he) (by decide)).mono ?_)
  rintro e_ w13 ⟨rfl, hb⟩
  refine cR ?_
  replace hpend := bthen hpend hb
  replace hbw := bthen hbw hb
  replace hB1 := hB1.bel hb
  replace hB2 := hB2.bel hb
  replace hB4 := hB4.bel hb
  replace hB6 := hB6.bel hb
  have hz_w13 := hb.size
  clear hb
  refine st (X.lenS rfl rfl Try.underlying9) rfl ?_
  refine st (X.eql rfl rfl) rfl ?_
  refine sbY rfl (decide_eq_true (by rw [hl0]; rfl)) rfl ?_
  refine gY (g := 33) rfl rfl rfl ?_
  refine sm rfl rfl ?_
  refine gY (g := 33) rfl rfl rfl ?_
  refine st (X.eql rfl rfl) rfl ?_
  refine st (X.pickT rfl rfl) rfl ?_
  refine sbY rfl (rfl) rfl ?_
  refine gY (g := 37) rfl rfl rfl ?_
  refine sm rfl rfl ?_
  refine gY (g := 37) rfl rfl rfl ?_
  refine st (X.eql rfl rfl) rfl ?_
  refine st (X.pickT rfl rfl) rfl ?_
  refine sbY rfl (rfl) rfl ?_
  refine gY (g := 41) rfl rfl rfl ?_
  refine st (X.ldBN rfl hB4 Try.underlying71 rfl siz71) rfl ?_
  refine gY (g := 41) rfl rfl rfl ?_
  replace hE := hE.bel hpend
  clear hpend
  refine sc _ Try.func51 rfl (by kernel_rfl) rfl rfl ((ILen_any _ awR _ hE).mono ?_)
  rintro e_ w14 ⟨rfl, hb⟩
  refine cR ?_
  have hpend := hb
  replace hbw := bthen hbw hb
  replace hB1 := hB1.bel hb
  replace hB2 := hB2.bel hb
  replace hB4 := hB4.bel hb
  replace hB6 := hB6.bel hb
  have hz_w14 := hb.size
  clear hb
  refine gY (g := 41) rfl rfl rfl ?_
  refine st (X.eql rfl rfl) rfl ?_
  refine st (X.pickT rfl rfl) rfl ?_
  refine sbY rfl (rfl) rfl ?_
  refine gY (g := 46) rfl rfl rfl ?_
  refine sm rfl rfl ?_
  refine st (X.pickT rfl rfl) rfl ?_
  refine sbY rfl (rfl) rfl ?_
  refine gY (g := 49) rfl rfl rfl ?_
  refine st (X.fa fa90_3 rfl) rfl ?_
  refine gY (g := 49) rfl rfl rfl ?_
  refine st (X.ldL rfl hB6 Try.underlying3 rfl rfl) rfl ?_
  refine gY (g := 49) rfl rfl rfl ?_
  refine st (X.eql rfl rfl) rfl ?_
  refine st (X.pickT rfl rfl) rfl ?_
  refine sa rfl rfl ?_
  refine Wn ?_
  refine tN ?_
  replace hE := hE.bel hpend
  clear hpend
  refine W_ret ?_
  exact (rT rfl rfl ⟨rfl, hbw⟩).1
end Go.Proofs.Ytnagmpnpgekhfaa
