/- law16: Few, holds. -/
import Derived.Test.YtnijmegalgoipaaGreatDoorOp16
import Derived.Test.YtnijmegalgoipaaGreatDoorLastsJ
import Derived.Test.YtnijmegalgoipaaGreatDoorJrnOrderL
import Derived.Test.YtnijmegalgoipaaGreatDoorUndW
namespace Go.Proofs.YtnijmegalgoipaaGreatDoor
open Go.RowKit
def fewO16 (o : Op16) : Bool := decide (o.text.length ≤ 300) && decide (o.picks.length ≤ 10)
def fewM16 (l : List Op16) : Bool := decide (l.length ≤ 60) && l.all fewO16
theorem few16_of {l : List Op16} (h : fewM16 l = true) : l.length ≤ 60 ∧ ∀ q ∈ l, q.text.length ≤ 300 ∧ q.picks.length ≤ 10 := by
  unfold fewM16 at h
  simp only [Bool.and_eq_true, decide_eq_true_eq] at h
  refine ⟨h.1, fun q hq => ?_⟩
  have := List.all_eq_true.1 h.2 q hq
  unfold fewO16 at this
  simpa using this
theorem few16_at {l : List Op16} {i : Nat} {o : Op16} (h : l[i]? = some o) (ho : fewO16 o = false) : l.all fewO16 = false := by
  rw [List.all_eq_false]
  exact ⟨o, List.mem_of_getElem? h, by simp [ho]⟩
theorem few16_next {l : List Op16} {i : Nat} {o : Op16} (h : l[i]? = some o) (hp : (l.take i).all fewO16 = true) (ho : fewO16 o = true) : (l.take (i + 1)).all fewO16 = true := by
  rw [take_next' h, List.all_append, hp]
  simp [ho]
theorem op16_cell {w : World} {g o n c : Nat} {ops : List Op16} (h : Reads w 4 (.slice (some ⟨g, o, none⟩) n c) n (ops.flatMap Op16.cells)) (hn : ops.length = n) {i j : Nat} {q : Op16} {v : Value} (hq : ops[i]? = some q) (hv : q.cells[j]? = some v) : w.cell? ⟨g, o + i * 4 + j, none⟩ = some v := by
  subst hn
  exact h.rec_ (f := Op16.cells) (fun a _ => Op16.cells_length a) hq j v hv
theorem Few16_any (v : Value) (l : List Op16) (w : World) (h : Ops16At w v l) : Calls Tryz.prog 31 #[v] w fun e w' => e = .returned (.bool (fewM16 l)) ∧ Below w.heap.size w w' := by
  obtain ⟨a, c, rfl, hc1, hc2⟩ := h.1.shape
  have hR := h.1
  have hnn := hR.nle
  refine W_enter (args := [.slice a l.length c]) 29 Tryz.func31 rfl rfl rfl ?_
  refine W_sub [(0, .slice a l.length c)] ?_ ⟨rfl, trivial⟩
  have hbw := Below.refl w.heap.size w
  refine W_rs ?_
  refine sa rfl rfl ?_
  refine Wn ?_
  refine tN ?_
  refine W_seq ?_
  refine W_rs ?_
  refine sm rfl rfl ?_
  refine st (X.lenL rfl rfl Tryz.underlying59) rfl ?_
  refine st (X.gtr rfl rfl) rfl ?_
  refine Wn ?_
  refine tN ?_
  refine W_if rfl (fun h6 => ?_) (fun h6 => ?_)
  · first | replace h6 := of_decide_eq_true h6 | replace h6 := of_decide_eq_false (notT h6) | replace h6 := notT h6 | skip
    refine W_rs ?_
    refine sa rfl rfl ?_
    refine Wn ?_
    refine tN ?_
    refine W_ret (tR ?_)
    refine (rT rfl rfl ⟨?_, hbw⟩).1
    unfold fewM16
    rw [decide_eq_false (by omega), Bool.false_and]
  · first | replace h6 := of_decide_eq_false h6 | replace h6 := of_decide_eq_true (notF h6) | replace h6 := notF h6 | skip
    refine W_skip ?_
    refine tN ?_
    refine W_seq ?_
    refine W_rs ?_
    refine sa rfl rfl ?_
    refine Wn ?_
    refine tN ?_
    refine W_block ?_
    refine W_lp (fun nw1_ lw1_ w1 => ∃ i : Nat, nw1_ = l.length - i ∧ lw1_ = ([(0, .slice a l.length c), (3, .int .i64 i)] : Env) ∧ (i ≤ l.length) ∧ (Below w.heap.size w w1) ∧ ((l.take i).all fewO16 = true) ∧ (Reads w1 4 (.slice a l.length c) l.length (l.flatMap Op16.cells))) _ ⟨_, ⟨0, rfl, rfl, Nat.zero_le _, hbw, rfl, hR⟩, ⟨rfl, rfl, trivial⟩⟩ ?_
    clear hbw hR
    rintro nw1_ lw1_ w1 ⟨i, rfl, rfl, hi, hbw, hp, hR⟩
    have hz_w1 := hbw.size
    refine W_seq ?_
    refine W_rs ?_
    refine sm rfl rfl ?_
    refine sm rfl rfl ?_
    refine st (X.lenL rfl rfl Tryz.underlying59) rfl ?_
    refine st (X.lss rfl rfl) rfl ?_
    refine Wn ?_
    refine tN ?_
    refine W_if rfl (fun h10 => ?_) (fun h10 => ?_)
    · first | replace h10 := of_decide_eq_true h10 | replace h10 := of_decide_eq_false (notT h10) | replace h10 := notT h10 | skip
      obtain ⟨q, hq⟩ : ∃ q, l[i]? = some q := ⟨_, List.getElem?_eq_getElem (by omega)⟩
      obtain ⟨g1, o1, c', hv, hg1⟩ := hR.some_ (by omega)
      injection hv with e1 _ e3
      subst e1 e3
      obtain ⟨ap, cp, hvp, hcp, _⟩ := (h.2 q (List.mem_of_getElem? hq)).picks.shape
      refine W_skip ?_
      refine tN ?_
      refine W_seq ?_
      refine W_block ?_
      refine W_rs ?_
      refine sm rfl rfl ?_
      refine sm rfl rfl ?_
      refine st (X.idxA rfl rfl Tryz.underlying59 siz73 rfl (by omega)) rfl ?_
      refine st (X.fa fa73_2 rfl) rfl ?_
      refine st (X.ld rfl Tryz.underlying9 rfl (op16_cell hR rfl hq rfl)) rfl ?_
      refine st (X.lenS rfl rfl Tryz.underlying9) rfl ?_
      refine st (X.gtr rfl rfl) rfl ?_
      refine sb rfl rfl (fun h20 => ?_) (fun h20 => ?_)
      · first | replace h20 := of_decide_eq_true h20 | replace h20 := of_decide_eq_false (notT h20) | replace h20 := notT h20 | skip
        refine gN (g := 20) rfl rfl rfl rfl ?_
        refine gN (g := 20) rfl rfl rfl rfl ?_
        refine gN (g := 20) rfl rfl rfl rfl ?_
        refine gN (g := 20) rfl rfl rfl rfl ?_
        refine gN (g := 20) rfl rfl rfl rfl ?_
        refine gN (g := 20) rfl rfl rfl rfl ?_
        refine gN (g := 20) rfl rfl rfl rfl ?_
        refine st (X.pickT rfl rfl) rfl ?_
        refine Wn ?_
        refine tN ?_
        refine W_yes rfl (rfl) ?_
        refine W_rs ?_
        refine sa rfl rfl ?_
        refine Wn ?_
        refine tN ?_
        refine W_ret (bR (tR (tR (bR (tR ?_)))))
        refine (rT rfl rfl ⟨?_, hbw⟩).1
        unfold fewM16
        rw [few16_at hq (by unfold fewO16; simp only [Bool.and_eq_false_iff, decide_eq_false_iff_not]; omega), Bool.and_false]
      · first | replace h20 := of_decide_eq_false h20 | replace h20 := of_decide_eq_true (notF h20) | replace h20 := notF h20 | skip
        refine gY (g := 20) rfl rfl rfl ?_
        refine sm rfl rfl ?_
        refine gY (g := 20) rfl rfl rfl ?_
        refine sm rfl rfl ?_
        refine gY (g := 20) rfl rfl rfl ?_
        refine st (X.idxA rfl rfl Tryz.underlying59 siz73 rfl (by omega)) rfl ?_
        refine gY (g := 20) rfl rfl rfl ?_
        refine st (X.fa fa73_3 rfl) rfl ?_
        refine gY (g := 20) rfl rfl rfl ?_
        refine st (X.ld rfl Tryz.underlying34 rfl (op16_cell hR rfl hq (v := .slice ap q.picks.length cp) (by rw [← hvp]; rfl))) rfl ?_
        refine gY (g := 20) rfl rfl rfl ?_
        refine st (X.lenL rfl rfl Tryz.underlying34) rfl ?_
        refine gY (g := 20) rfl rfl rfl ?_
        refine st (X.gtr rfl rfl) rfl ?_
        refine st (X.pickF rfl rfl) rfl ?_
        refine Wn ?_
        refine tN ?_
        refine W_if rfl (fun h28 => ?_) (fun h28 => ?_)
        · first | replace h28 := of_decide_eq_true h28 | replace h28 := of_decide_eq_false (notT h28) | replace h28 := notT h28 | skip
          refine W_rs ?_
          refine sa rfl rfl ?_
          refine Wn ?_
          refine tN ?_
          refine W_ret (bR (tR (tR (bR (tR ?_)))))
          refine (rT rfl rfl ⟨?_, hbw⟩).1
          unfold fewM16
          rw [few16_at hq (by unfold fewO16; simp only [Bool.and_eq_false_iff, decide_eq_false_iff_not]; omega), Bool.and_false]
        · first | replace h28 := of_decide_eq_false h28 | replace h28 := of_decide_eq_true (notF h28) | replace h28 := notF h28 | skip
          refine W_skip ?_
          refine bN ?_
          refine tN ?_
          refine W_reg ?_
          refine sm rfl rfl ?_
          refine st (X.add64 rfl rfl (by omega)) rfl ?_
          refine sa rfl rfl ?_
          refine Wn ?_
          refine tN ⟨_, _, ?_, ⟨i + 1, rfl, rfl, by omega, hbw, few16_next hq hp (by unfold fewO16; simp only [Bool.and_eq_true, decide_eq_true_eq]; omega), hR⟩, ⟨rfl, rfl, trivial⟩⟩
          omega
    · first | replace h10 := of_decide_eq_false h10 | replace h10 := of_decide_eq_true (notF h10) | replace h10 := notF h10 | skip
      obtain rfl : i = l.length := by omega
      refine W_exit (tE (tE (bH ?_)))
      refine tN ?_
      refine W_rs ?_
      refine sa rfl rfl ?_
      refine Wn ?_
      refine tN ?_
      refine W_ret ?_
      refine (rT rfl rfl ⟨?_, hbw⟩).1
      unfold fewM16
      rw [List.take_length] at hp
      rw [hp, decide_eq_true (by omega), Bool.and_self]
def LM.val (x : LM) (vd : Value) : Value := .agg #[str x.state, vd, str x.more, .bool x.is_, str x.other, .bool x.was]
set_option maxRecDepth 10000 in
theorem holds_F (B gd gj : Nat) (D : DiskD) (J : JrM) (v vd : Value) (S : Nat → Prop) (x : LM) (w : World) (hJ : JAll B w gd gj D J v S) (hR : Reads w 1 vd x.done.length (x.done.map str)) (hx : HoldsP x J.x.state J.x.done) (hd : J.x.done.length ≤ 1099511627776) (hw : x.was = false) :
    Calls Tryz.prog 34 #[x.val vd, .pointer (some ⟨gj, 0, none⟩)] w fun e w' => e = .returned (.bool true) ∧ Below w.heap.size w w' := by
  obtain ⟨hst, hdn⟩ := hx
  obtain ⟨ad, cd, rfl, hcd1, hcd2⟩ := hR.shape
  have hle : x.done.length ≤ J.x.done.length := by rcases hdn with e | ⟨_, e⟩ <;> rw [e] <;> simp
  have htk : J.x.done.take x.done.length = x.done := by rcases hdn with e | ⟨_, e⟩ <;> rw [e] <;> simp
  unfold LM.val
  refine W_enter (args := [.agg #[str x.state, .slice ad x.done.length cd, str x.more, .bool x.is_, str x.other, .bool x.was], .pointer (some ⟨gj, 0, none⟩)]) 76 Tryz.func34 rfl rfl rfl ?_
  refine W_sub [(0, .agg #[str x.state, .slice ad x.done.length cd, str x.more, .bool x.is_, str x.other, .bool x.was]), (1, .pointer (some ⟨gj, 0, none⟩))] ?_ ⟨rfl, rfl, trivial⟩
  have hbw := Below.refl w.heap.size w
  refine W_rs ?_
  refine sboxA rfl rfl (fun g2 w1 hB2 hg2 hb hl2 => ?_)
  replace hbw := bthen hbw hb
  replace hJ := hJ.bel hb
  have hz_w1 := hb.size
  clear hb
  refine sa rfl rfl ?_
  refine Wn ?_
  refine tN ?_
  refine W_rs ?_
  refine sm rfl rfl ?_
  refine sc _ Tryz.func26 rfl (by kernel_rfl) rfl rfl ((Done_any B gd gj D J v S _ hJ hd).mono ?_)
  rintro e_ w2 ⟨vn, rfl, hN, hO, hb⟩
  refine cR ?_
  replace hbw := bthen hbw hb
  replace hJ := hJ.bel hb
  replace hB2 := hB2.bel hb
  have hz_w2 := hb.size
  clear hb
  obtain ⟨an, cn, rfl, hcn1, hcn2⟩ := hN.shape
  clear hO
  refine sa rfl rfl ?_
  refine Wn ?_
  refine tN ?_
  refine W_seq ?_
  refine W_drsN (fun W_ => Blk W_ g2 64 #[str x.state, .slice ad x.done.length cd, str x.more, .bool x.is_, str x.other, .bool x.was]) [0, 1, 2, 3, 5, 6, 4, 7, 8, 9, 10, 11, 12, 13] [true, true, true, true, true, true, false, true, true, true, true, true, true, true] (by kernel_rfl) (by kernel_rfl) (hB2.drew) ?_
  obtain ⟨w3, hw_⟩ : ∃ w3 : World, w3 = World.drew w2 := ⟨_, rfl⟩
  rw [← hw_]
  have hb : Below w2.heap.size w2 w3 := by rw [hw_]; exact bdrew (Below.refl _ _)
  clear hw_
  have hS := hb
  replace hbw := bthen hbw hb
  replace hJ := hJ.bel hb
  replace hB2 := hB2.bel hb
  replace hN := hN.bel hb
  have hz_w3 := hb.size
  clear hb
  refine oY rfl (fun W_ hW_ => (X.fa fa64_5 rfl)) rfl ?_
  refine oY rfl (fun W_ hW_ => (X.ldL rfl hW_ Tryz.underlying4 rfl rfl)) rfl ?_
  refine oY rfl (fun W_ hW_ => (X.mvB (c := false) rfl (hw))) rfl ?_
  refine oNg (g := 10) rfl rfl rfl rfl (hB2) rfl ?_
  refine oNg (g := 10) rfl rfl rfl rfl (hB2) rfl ?_
  refine oNg (g := 10) rfl rfl rfl rfl (hB2) rfl ?_
  refine oNg (g := 10) rfl rfl rfl rfl (hB2) rfl ?_
  refine oNg (g := 10) rfl rfl rfl rfl (hB2) rfl ?_
  refine oY rfl (fun W_ hW_ => (X.pickF rfl rfl)) rfl ?_
  refine oY rfl (fun W_ hW_ => (X.mvB (c := false) rfl (rfl))) rfl ?_
  refine oNg (g := 17) rfl rfl rfl rfl (hB2) rfl ?_
  refine oNg (g := 17) rfl rfl rfl rfl (hB2) rfl ?_
  refine oNg (g := 17) rfl rfl rfl rfl (hB2) rfl ?_
  refine oY rfl (fun W_ hW_ => (X.pickF rfl rfl)) rfl ?_
  refine oN ?_
  refine nN ?_
  refine W_no rfl (rfl) ?_
  refine W_skip ?_
  refine tN ?_
  refine W_seq ?_
  refine W_drsN (fun W_ => Blk W_ g2 64 #[str x.state, .slice ad x.done.length cd, str x.more, .bool x.is_, str x.other, .bool x.was]) [0, 2, 3, 1, 4, 5, 6, 7, 8, 9, 10, 11, 12, 13, 14, 15, 16, 17, 18, 19, 20, 21, 22, 23] [true, true, true, false, true, true, true, true, true, true, true, true, true, true, true, true, true, true, true, true, true, false, true, true] (by kernel_rfl) (by kernel_rfl) (hB2.drew) ?_
  obtain ⟨w4, hw_⟩ : ∃ w4 : World, w4 = World.drew w3 := ⟨_, rfl⟩
  rw [← hw_]
  have hb : Below w3.heap.size w3 w4 := by rw [hw_]; exact bdrew (Below.refl _ _)
  clear hw_
  have hS := hb
  replace hbw := bthen hbw hb
  replace hJ := hJ.bel hb
  replace hB2 := hB2.bel hb
  replace hN := hN.bel hb
  have hz_w4 := hb.size
  clear hb
  refine oY rfl (fun W_ hW_ => (X.move rfl)) rfl ?_
  refine oY rfl (fun W_ hW_ => (X.fa fa64_0 rfl)) rfl ?_
  refine oY rfl (fun W_ hW_ => (X.ldL rfl hW_ Tryz.underlying9 rfl rfl)) rfl ?_
  refine oL rfl (fun Q_ hQ_ hP_ => ?_)
  refine sc _ Tryz.func25 rfl (by kernel_rfl) rfl rfl ((State_any B gd gj D J v S _ hJ).mono ?_)
  rintro e_ w_ ⟨rfl, rfl⟩
  refine cR ?_
  refine Wn (hQ_ _ _ (hB2) ?_)
  clear hQ_ hP_ Q_
  refine oY rfl (fun W_ hW_ => (X.neS rfl rfl)) rfl ?_
  refine oY rfl (fun W_ hW_ => (X.mvB (c := false) rfl (decide_eq_false (fun e => e hst)))) rfl ?_
  refine oYg (g := 27) rfl rfl rfl rfl (fun W_ hW_ => (X.move rfl)) rfl ?_
  refine oYg (g := 27) rfl rfl rfl rfl (fun W_ hW_ => (X.lenL rfl rfl Tryz.underlying42)) rfl ?_
  refine oYg (g := 27) rfl rfl rfl rfl (fun W_ hW_ => (X.fa fa64_1 rfl)) rfl ?_
  refine oYg (g := 27) rfl rfl rfl rfl (fun W_ hW_ => (X.ldL rfl hW_ Tryz.underlying42 rfl rfl)) rfl ?_
  refine oYg (g := 27) rfl rfl rfl rfl (fun W_ hW_ => (X.lenL rfl rfl Tryz.underlying42)) rfl ?_
  refine oYg (g := 27) rfl rfl rfl rfl (fun W_ hW_ => (X.lss rfl rfl)) rfl ?_
  refine oY rfl (fun W_ hW_ => (X.pickF rfl rfl)) rfl ?_
  refine oY rfl (fun W_ hW_ => (X.mvB (c := false) rfl (decide_eq_false (by omega)))) rfl ?_
  refine oYg (g := 35) rfl rfl rfl rfl (fun W_ hW_ => (X.move rfl)) rfl ?_
  refine oYg (g := 35) rfl rfl rfl rfl (fun W_ hW_ => (X.fa fa64_1 rfl)) rfl ?_
  refine oYg (g := 35) rfl rfl rfl rfl (fun W_ hW_ => (X.ldL rfl hW_ Tryz.underlying42 rfl rfl)) rfl ?_
  refine oYg (g := 35) rfl rfl rfl rfl (fun W_ hW_ => (X.lenL rfl rfl Tryz.underlying42)) rfl ?_
  refine oYg (g := 35) rfl rfl rfl rfl (fun W_ hW_ => (X.toL (j := x.done.length) rfl rfl Tryz.underlying42 siz9 rfl (by omega))) rfl ?_
  refine oYg (g := 35) rfl rfl rfl rfl (fun W_ hW_ => (X.fa fa64_1 rfl)) rfl ?_
  refine oYg (g := 35) rfl rfl rfl rfl (fun W_ hW_ => (X.ldL rfl hW_ Tryz.underlying42 rfl rfl)) rfl ?_
  have hcut := hN.cut rfl 0 x.done.length (by omega) hle
  simp only [Nat.mul_one, List.drop_zero, Nat.sub_zero] at hcut
  rw [← List.map_take, htk] at hcut
  refine oL rfl (fun Q_ hQ_ hP_ => ?_)
  refine gY (g := 35) rfl rfl rfl ?_
  refine sc _ Tryz.func30 rfl (by kernel_rfl) rfl rfl ((Same16_any _ _ x.done x.done _ hcut.reads (hR.bel hbw)).mono ?_)
  rintro e_ w5 ⟨rfl, hb⟩
  refine cR ?_
  replace hbw := bthen hbw hb
  replace hJ := hJ.bel hb
  replace hB2 := hB2.bel hb
  replace hN := hN.bel hb
  have hz_w5 := hb.size
  clear hb
  refine Wn (hQ_ _ _ (hB2) ?_)
  clear hQ_ hP_ Q_
  have hmore : J.x.done.length ≠ x.done.length → x.is_ = true ∧ J.x.done = x.done ++ [x.more] := fun hne => hdn.resolve_left (fun e => hne (by rw [e]))
  refine oYg (g := 35) rfl rfl rfl rfl (fun W_ hW_ => (X.not rfl)) rfl ?_
  refine oY rfl (fun W_ hW_ => (X.pickF rfl rfl)) rfl ?_
  refine oN ?_
  refine nN ?_
  refine W_no rfl (by simp) ?_
  refine W_skip ?_
  refine tN ?_
  by_cases hsp_ : (J.x.done.length = x.done.length)
  · refine W_drsN (fun W_ => Blk W_ g2 64 #[str x.state, .slice ad x.done.length cd, str x.more, .bool x.is_, str x.other, .bool x.was] ∧ Row W_ 9 1 (.slice an J.x.done.length cn) J.x.done.length (J.x.done.map str)) [0, 1, 2, 3, 4, 5, 6, 7, 8, 9, 10, 11, 12, 13, 14, 15, 16, 17, 18, 19, 20, 21, 22, 23, 24, 25, 26, 27, 28, 29, 30] [true, true, true, true, true, true, true, true, true, true, true, true, true, true, true, true, true, true, true, true, true, true, true, true, true, true, true, true, true, true, true] (by kernel_rfl) (by kernel_rfl) (⟨hB2.drew, hN.bel (bdrew (Below.refl _ _))⟩) ?_
    obtain ⟨w6, hw_⟩ : ∃ w6 : World, w6 = World.drew w5 := ⟨_, rfl⟩
    rw [← hw_]
    have hb : Below w5.heap.size w5 w6 := by rw [hw_]; exact bdrew (Below.refl _ _)
    clear hw_
    have hS := hb
    replace hbw := bthen hbw hb
    replace hJ := hJ.bel hb
    replace hB2 := hB2.bel hb
    replace hN := hN.bel hb
    have hz_w6 := hb.size
    clear hb
    refine oY rfl (fun W_ hW_ => (X.move rfl)) rfl ?_
    refine oY rfl (fun W_ hW_ => (X.lenL rfl rfl Tryz.underlying42)) rfl ?_
    refine oY rfl (fun W_ hW_ => (X.fa fa64_1 rfl)) rfl ?_
    refine oY rfl (fun W_ hW_ => (X.ldL rfl hW_.1 Tryz.underlying42 rfl rfl)) rfl ?_
    refine oY rfl (fun W_ hW_ => (X.lenL rfl rfl Tryz.underlying42)) rfl ?_
    refine oY rfl (fun W_ hW_ => (X.eql rfl rfl)) rfl ?_
    refine oY rfl (fun W_ hW_ => (X.mvB (c := true) rfl (decide_eq_true (by omega)))) rfl ?_
    refine oNg (g := 52) rfl rfl rfl rfl (⟨hB2, hN⟩) rfl ?_
    refine oNg (g := 52) rfl rfl rfl rfl (⟨hB2, hN⟩) rfl ?_
    refine oNg (g := 52) rfl rfl rfl rfl (⟨hB2, hN⟩) rfl ?_
    refine oNu (g := 55) rfl rfl rfl rfl (⟨hB2, hN⟩) rfl ?_
    refine oNu (g := 55) rfl rfl rfl rfl (⟨hB2, hN⟩) rfl ?_
    refine oNu (g := 55) rfl rfl rfl rfl (⟨hB2, hN⟩) rfl ?_
    refine oNu (g := 55) rfl rfl rfl rfl (⟨hB2, hN⟩) rfl ?_
    refine oNu (g := 55) rfl rfl rfl rfl (⟨hB2, hN⟩) rfl ?_
    refine oNu (g := 55) rfl rfl rfl rfl (⟨hB2, hN⟩) rfl ?_
    refine oNu (g := 55) rfl rfl rfl rfl (⟨hB2, hN⟩) rfl ?_
    refine oNg (g := 52) rfl rfl rfl rfl (⟨hB2, hN⟩) rfl ?_
    refine oNg (g := 52) rfl rfl rfl rfl (⟨hB2, hN⟩) rfl ?_
    refine oNu (g := 64) rfl rfl rfl rfl (⟨hB2, hN⟩) rfl ?_
    refine oNu (g := 64) rfl rfl rfl rfl (⟨hB2, hN⟩) rfl ?_
    refine oNu (g := 64) rfl rfl rfl rfl (⟨hB2, hN⟩) rfl ?_
    refine oNu (g := 64) rfl rfl rfl rfl (⟨hB2, hN⟩) rfl ?_
    refine oNu (g := 64) rfl rfl rfl rfl (⟨hB2, hN⟩) rfl ?_
    refine oNu (g := 64) rfl rfl rfl rfl (⟨hB2, hN⟩) rfl ?_
    refine oNu (g := 64) rfl rfl rfl rfl (⟨hB2, hN⟩) rfl ?_
    refine oNu (g := 64) rfl rfl rfl rfl (⟨hB2, hN⟩) rfl ?_
    refine oNu (g := 64) rfl rfl rfl rfl (⟨hB2, hN⟩) rfl ?_
    refine oNg (g := 52) rfl rfl rfl rfl (⟨hB2, hN⟩) rfl ?_
    refine oY rfl (fun W_ hW_ => (X.pickT rfl rfl)) rfl ?_
    refine oY rfl (fun W_ hW_ => (X.assign rfl)) rfl ?_
    refine oN ?_
    refine nN ?_
    refine W_ret ?_
    exact (rT rfl rfl ⟨rfl, hbw⟩).1
  · obtain ⟨gN, oNn, c', hv, hgN⟩ := hN.reads.some_ (by omega)
    injection hv with e1 _ e3
    subst e1 e3
    have hux : (J.x.done.map str)[x.done.length]? = some (str x.more) := by rw [(hmore hsp_).2, List.getElem?_map, List.getElem?_append_right (Nat.le_refl _), Nat.sub_self]; rfl
    refine W_drsN (fun W_ => Blk W_ g2 64 #[str x.state, .slice ad x.done.length cd, str x.more, .bool x.is_, str x.other, .bool x.was] ∧ Row W_ 9 1 (.slice (some ⟨gN, oNn, none⟩) J.x.done.length cn) J.x.done.length (J.x.done.map str)) [0, 1, 2, 3, 4, 5, 6, 7, 8, 9, 10, 11, 12, 13, 14, 15, 16, 17, 18, 19, 20, 21, 22, 23, 24, 25, 26, 27, 28, 29, 30] [true, true, true, true, true, true, true, true, true, true, true, true, true, true, true, true, true, true, true, true, true, true, true, true, true, true, true, true, true, true, true] (by kernel_rfl) (by kernel_rfl) (⟨hB2.drew, hN.bel (bdrew (Below.refl _ _))⟩) ?_
    obtain ⟨w7, hw_⟩ : ∃ w7 : World, w7 = World.drew w5 := ⟨_, rfl⟩
    rw [← hw_]
    have hb : Below w5.heap.size w5 w7 := by rw [hw_]; exact bdrew (Below.refl _ _)
    clear hw_
    have hS := hb
    replace hbw := bthen hbw hb
    replace hJ := hJ.bel hb
    replace hB2 := hB2.bel hb
    replace hN := hN.bel hb
    have hz_w7 := hb.size
    clear hb
    refine oY rfl (fun W_ hW_ => (X.move rfl)) rfl ?_
    refine oY rfl (fun W_ hW_ => (X.lenL rfl rfl Tryz.underlying42)) rfl ?_
    refine oY rfl (fun W_ hW_ => (X.fa fa64_1 rfl)) rfl ?_
    refine oY rfl (fun W_ hW_ => (X.ldL rfl hW_.1 Tryz.underlying42 rfl rfl)) rfl ?_
    refine oY rfl (fun W_ hW_ => (X.lenL rfl rfl Tryz.underlying42)) rfl ?_
    refine oY rfl (fun W_ hW_ => (X.eql rfl rfl)) rfl ?_
    refine oY rfl (fun W_ hW_ => (X.mvB (c := false) rfl (decide_eq_false (by omega)))) rfl ?_
    refine oYg (g := 52) rfl rfl rfl rfl (fun W_ hW_ => (X.fa fa64_3 rfl)) rfl ?_
    refine oYg (g := 52) rfl rfl rfl rfl (fun W_ hW_ => (X.ldL rfl hW_.1 Tryz.underlying4 rfl rfl)) rfl ?_
    refine oYg (g := 52) rfl rfl rfl rfl (fun W_ hW_ => (X.mvB (c := true) rfl ((hmore hsp_).1))) rfl ?_
    refine oYg (g := 55) rfl rfl rfl rfl (fun W_ hW_ => (X.move rfl)) rfl ?_
    refine oYg (g := 55) rfl rfl rfl rfl (fun W_ hW_ => (X.lenL rfl rfl Tryz.underlying42)) rfl ?_
    refine oYg (g := 55) rfl rfl rfl rfl (fun W_ hW_ => (X.fa fa64_1 rfl)) rfl ?_
    refine oYg (g := 55) rfl rfl rfl rfl (fun W_ hW_ => (X.ldL rfl hW_.1 Tryz.underlying42 rfl rfl)) rfl ?_
    refine oYg (g := 55) rfl rfl rfl rfl (fun W_ hW_ => (X.lenL rfl rfl Tryz.underlying42)) rfl ?_
    refine oYg (g := 55) rfl rfl rfl rfl (fun W_ hW_ => (X.add64 rfl rfl (by omega))) rfl ?_
    refine oYg (g := 55) rfl rfl rfl rfl (fun W_ hW_ => (X.eql rfl rfl)) rfl ?_
    refine oYg (g := 52) rfl rfl rfl rfl (fun W_ hW_ => (X.pickT rfl rfl)) rfl ?_
    refine oYg (g := 52) rfl rfl rfl rfl (fun W_ hW_ => (X.mvB (c := true) rfl (decide_eq_true (by rw [(hmore hsp_).2, List.length_append, List.length_singleton]; omega)))) rfl ?_
    refine oYg (g := 64) rfl rfl rfl rfl (fun W_ hW_ => (X.move rfl)) rfl ?_
    refine oYg (g := 64) rfl rfl rfl rfl (fun W_ hW_ => (X.fa fa64_1 rfl)) rfl ?_
    refine oYg (g := 64) rfl rfl rfl rfl (fun W_ hW_ => (X.ldL rfl hW_.1 Tryz.underlying42 rfl rfl)) rfl ?_
    refine oYg (g := 64) rfl rfl rfl rfl (fun W_ hW_ => (X.lenL rfl rfl Tryz.underlying42)) rfl ?_
    refine oYg (g := 64) rfl rfl rfl rfl (fun W_ hW_ => (X.idxA (j := x.done.length) rfl rfl Tryz.underlying42 siz9 rfl (by rw [(hmore hsp_).2, List.length_append, List.length_singleton]; omega))) rfl ?_
    refine oYg (g := 64) rfl rfl rfl rfl (fun W_ hW_ => (X.ld rfl Tryz.underlying9 rfl (by rw [Nat.mul_one]; exact hW_.2.reads.cellAt (by omega) hux))) rfl ?_
    refine oYg (g := 64) rfl rfl rfl rfl (fun W_ hW_ => (X.fa fa64_2 rfl)) rfl ?_
    refine oYg (g := 64) rfl rfl rfl rfl (fun W_ hW_ => (X.ldL rfl hW_.1 Tryz.underlying9 rfl rfl)) rfl ?_
    refine oYg (g := 64) rfl rfl rfl rfl (fun W_ hW_ => (X.eqS rfl rfl)) rfl ?_
    refine oYg (g := 52) rfl rfl rfl rfl (fun W_ hW_ => (X.pickT rfl rfl)) rfl ?_
    refine oY rfl (fun W_ hW_ => (X.pickF rfl rfl)) rfl ?_
    refine oY rfl (fun W_ hW_ => (X.assign rfl)) rfl ?_
    refine oN ?_
    refine nN ?_
    refine W_ret ?_
    refine (rT rfl rfl ⟨?_, hbw⟩).1
    rw [decide_eq_true rfl]
set_option maxRecDepth 10000 in
theorem holds_T (B gd gj : Nat) (D : DiskD) (J : JrM) (v vd : Value) (S : Nat → Prop) (x : LM) (w : World) (hJ : JAll B w gd gj D J v S) (hR : Reads w 1 vd x.done.length (x.done.map str)) (hx : HoldsP x J.x.state J.x.done) (hd : J.x.done.length ≤ 1099511627776) (hw : x.was = true) :
    Calls Tryz.prog 34 #[x.val vd, .pointer (some ⟨gj, 0, none⟩)] w fun e w' => e = .returned (.bool true) ∧ Below w.heap.size w w' := by
  obtain ⟨hst, hdn⟩ := hx
  obtain ⟨ad, cd, rfl, hcd1, hcd2⟩ := hR.shape
  have hle : x.done.length ≤ J.x.done.length := by rcases hdn with e | ⟨_, e⟩ <;> rw [e] <;> simp
  have htk : J.x.done.take x.done.length = x.done := by rcases hdn with e | ⟨_, e⟩ <;> rw [e] <;> simp
  unfold LM.val
  refine W_enter (args := [.agg #[str x.state, .slice ad x.done.length cd, str x.more, .bool x.is_, str x.other, .bool x.was], .pointer (some ⟨gj, 0, none⟩)]) 76 Tryz.func34 rfl rfl rfl ?_
  refine W_sub [(0, .agg #[str x.state, .slice ad x.done.length cd, str x.more, .bool x.is_, str x.other, .bool x.was]), (1, .pointer (some ⟨gj, 0, none⟩))] ?_ ⟨rfl, rfl, trivial⟩
  have hbw := Below.refl w.heap.size w
  refine W_rs ?_
  refine sboxA rfl rfl (fun g2 w1 hB2 hg2 hb hl2 => ?_)
  replace hbw := bthen hbw hb
  replace hJ := hJ.bel hb
  have hz_w1 := hb.size
  clear hb
  refine sa rfl rfl ?_
  refine Wn ?_
  refine tN ?_
  refine W_rs ?_
  refine sm rfl rfl ?_
  refine sc _ Tryz.func26 rfl (by kernel_rfl) rfl rfl ((Done_any B gd gj D J v S _ hJ hd).mono ?_)
  rintro e_ w2 ⟨vn, rfl, hN, hO, hb⟩
  refine cR ?_
  replace hbw := bthen hbw hb
  replace hJ := hJ.bel hb
  replace hB2 := hB2.bel hb
  have hz_w2 := hb.size
  clear hb
  obtain ⟨an, cn, rfl, hcn1, hcn2⟩ := hN.shape
  clear hO
  refine sa rfl rfl ?_
  refine Wn ?_
  refine tN ?_
  refine W_seq ?_
  by_cases hsp_ : (J.x.state = x.other)
  · refine W_drsN (fun W_ => Blk W_ g2 64 #[str x.state, .slice ad x.done.length cd, str x.more, .bool x.is_, str x.other, .bool x.was]) [0, 1, 2, 3, 5, 6, 4, 7, 8, 9, 10, 11, 12, 13] [true, true, true, true, true, true, false, true, true, true, true, true, true, true] (by kernel_rfl) (by kernel_rfl) (hB2.drew) ?_
    obtain ⟨w3, hw_⟩ : ∃ w3 : World, w3 = World.drew w2 := ⟨_, rfl⟩
    rw [← hw_]
    have hb : Below w2.heap.size w2 w3 := by rw [hw_]; exact bdrew (Below.refl _ _)
    clear hw_
    have hS := hb
    replace hbw := bthen hbw hb
    replace hJ := hJ.bel hb
    replace hB2 := hB2.bel hb
    replace hN := hN.bel hb
    have hz_w3 := hb.size
    clear hb
    refine oY rfl (fun W_ hW_ => (X.fa fa64_5 rfl)) rfl ?_
    refine oY rfl (fun W_ hW_ => (X.ldL rfl hW_ Tryz.underlying4 rfl rfl)) rfl ?_
    refine oY rfl (fun W_ hW_ => (X.mvB (c := true) rfl (hw))) rfl ?_
    refine oYg (g := 10) rfl rfl rfl rfl (fun W_ hW_ => (X.move rfl)) rfl ?_
    refine oYg (g := 10) rfl rfl rfl rfl (fun W_ hW_ => (X.fa fa64_4 rfl)) rfl ?_
    refine oYg (g := 10) rfl rfl rfl rfl (fun W_ hW_ => (X.ldL rfl hW_ Tryz.underlying9 rfl rfl)) rfl ?_
    refine oL rfl (fun Q_ hQ_ hP_ => ?_)
    refine gY (g := 10) rfl rfl rfl ?_
    refine sc _ Tryz.func25 rfl (by kernel_rfl) rfl rfl ((State_any B gd gj D J v S _ hJ).mono ?_)
    rintro e_ w_ ⟨rfl, rfl⟩
    refine cR ?_
    refine Wn (hQ_ _ _ (hB2) ?_)
    clear hQ_ hP_ Q_
    refine oYg (g := 10) rfl rfl rfl rfl (fun W_ hW_ => (X.eqS rfl rfl)) rfl ?_
    refine oY rfl (fun W_ hW_ => (X.pickT rfl rfl)) rfl ?_
    refine oY rfl (fun W_ hW_ => (X.mvB (c := true) rfl (decide_eq_true hsp_))) rfl ?_
    refine oYg (g := 17) rfl rfl rfl rfl (fun W_ hW_ => (X.move rfl)) rfl ?_
    refine oYg (g := 17) rfl rfl rfl rfl (fun W_ hW_ => (X.lenL rfl rfl Tryz.underlying42)) rfl ?_
    refine oYg (g := 17) rfl rfl rfl rfl (fun W_ hW_ => (X.eql rfl rfl)) rfl ?_
    refine oY rfl (fun W_ hW_ => (X.pickT rfl rfl)) rfl ?_
    refine oN ?_
    refine nN ?_
    refine W_if rfl (fun h21 => ?_) (fun h21 => ?_)
    · first | replace h21 := of_decide_eq_true h21 | replace h21 := of_decide_eq_false (notT h21) | replace h21 := notT h21 | skip
      refine W_rs ?_
      refine sa rfl rfl ?_
      refine Wn ?_
      refine tN ?_
      refine W_ret (tR ?_)
      exact (rT rfl rfl ⟨rfl, hbw⟩).1
    · first | replace h21 := of_decide_eq_false h21 | replace h21 := of_decide_eq_true (notF h21) | replace h21 := notF h21 | skip
      refine W_skip ?_
      refine tN ?_
      refine W_seq ?_
      refine W_drsN (fun W_ => Blk W_ g2 64 #[str x.state, .slice ad x.done.length cd, str x.more, .bool x.is_, str x.other, .bool x.was]) [0, 2, 3, 1, 4, 5, 6, 7, 8, 9, 10, 11, 12, 13, 14, 15, 16, 17, 18, 19, 20, 21, 22, 23] [true, true, true, false, true, true, true, true, true, true, true, true, true, true, true, true, true, true, true, true, true, false, true, true] (by kernel_rfl) (by kernel_rfl) (hB2.drew) ?_
      obtain ⟨w4, hw_⟩ : ∃ w4 : World, w4 = World.drew w3 := ⟨_, rfl⟩
      rw [← hw_]
      have hb : Below w3.heap.size w3 w4 := by rw [hw_]; exact bdrew (Below.refl _ _)
      clear hw_
      have hS := hb
      replace hbw := bthen hbw hb
      replace hJ := hJ.bel hb
      replace hB2 := hB2.bel hb
      replace hN := hN.bel hb
      have hz_w4 := hb.size
      clear hb
      refine oY rfl (fun W_ hW_ => (X.move rfl)) rfl ?_
      refine oY rfl (fun W_ hW_ => (X.fa fa64_0 rfl)) rfl ?_
      refine oY rfl (fun W_ hW_ => (X.ldL rfl hW_ Tryz.underlying9 rfl rfl)) rfl ?_
      refine oL rfl (fun Q_ hQ_ hP_ => ?_)
      refine sc _ Tryz.func25 rfl (by kernel_rfl) rfl rfl ((State_any B gd gj D J v S _ hJ).mono ?_)
      rintro e_ w_ ⟨rfl, rfl⟩
      refine cR ?_
      refine Wn (hQ_ _ _ (hB2) ?_)
      clear hQ_ hP_ Q_
      refine oY rfl (fun W_ hW_ => (X.neS rfl rfl)) rfl ?_
      refine oY rfl (fun W_ hW_ => (X.mvB (c := false) rfl (decide_eq_false (fun e => e hst)))) rfl ?_
      refine oYg (g := 27) rfl rfl rfl rfl (fun W_ hW_ => (X.move rfl)) rfl ?_
      refine oYg (g := 27) rfl rfl rfl rfl (fun W_ hW_ => (X.lenL rfl rfl Tryz.underlying42)) rfl ?_
      refine oYg (g := 27) rfl rfl rfl rfl (fun W_ hW_ => (X.fa fa64_1 rfl)) rfl ?_
      refine oYg (g := 27) rfl rfl rfl rfl (fun W_ hW_ => (X.ldL rfl hW_ Tryz.underlying42 rfl rfl)) rfl ?_
      refine oYg (g := 27) rfl rfl rfl rfl (fun W_ hW_ => (X.lenL rfl rfl Tryz.underlying42)) rfl ?_
      refine oYg (g := 27) rfl rfl rfl rfl (fun W_ hW_ => (X.lss rfl rfl)) rfl ?_
      refine oY rfl (fun W_ hW_ => (X.pickF rfl rfl)) rfl ?_
      refine oY rfl (fun W_ hW_ => (X.mvB (c := false) rfl (decide_eq_false (by omega)))) rfl ?_
      refine oYg (g := 35) rfl rfl rfl rfl (fun W_ hW_ => (X.move rfl)) rfl ?_
      refine oYg (g := 35) rfl rfl rfl rfl (fun W_ hW_ => (X.fa fa64_1 rfl)) rfl ?_
      refine oYg (g := 35) rfl rfl rfl rfl (fun W_ hW_ => (X.ldL rfl hW_ Tryz.underlying42 rfl rfl)) rfl ?_
      refine oYg (g := 35) rfl rfl rfl rfl (fun W_ hW_ => (X.lenL rfl rfl Tryz.underlying42)) rfl ?_
      refine oYg (g := 35) rfl rfl rfl rfl (fun W_ hW_ => (X.toL (j := x.done.length) rfl rfl Tryz.underlying42 siz9 rfl (by omega))) rfl ?_
      refine oYg (g := 35) rfl rfl rfl rfl (fun W_ hW_ => (X.fa fa64_1 rfl)) rfl ?_
      refine oYg (g := 35) rfl rfl rfl rfl (fun W_ hW_ => (X.ldL rfl hW_ Tryz.underlying42 rfl rfl)) rfl ?_
      have hcut := hN.cut rfl 0 x.done.length (by omega) hle
      simp only [Nat.mul_one, List.drop_zero, Nat.sub_zero] at hcut
      rw [← List.map_take, htk] at hcut
      refine oL rfl (fun Q_ hQ_ hP_ => ?_)
      refine gY (g := 35) rfl rfl rfl ?_
      refine sc _ Tryz.func30 rfl (by kernel_rfl) rfl rfl ((Same16_any _ _ x.done x.done _ hcut.reads (hR.bel hbw)).mono ?_)
      rintro e_ w5 ⟨rfl, hb⟩
      refine cR ?_
      replace hbw := bthen hbw hb
      replace hJ := hJ.bel hb
      replace hB2 := hB2.bel hb
      replace hN := hN.bel hb
      have hz_w5 := hb.size
      clear hb
      refine Wn (hQ_ _ _ (hB2) ?_)
      clear hQ_ hP_ Q_
      have hmore : J.x.done.length ≠ x.done.length → x.is_ = true ∧ J.x.done = x.done ++ [x.more] := fun hne => hdn.resolve_left (fun e => hne (by rw [e]))
      refine oYg (g := 35) rfl rfl rfl rfl (fun W_ hW_ => (X.not rfl)) rfl ?_
      refine oY rfl (fun W_ hW_ => (X.pickF rfl rfl)) rfl ?_
      refine oN ?_
      refine nN ?_
      refine W_no rfl (by simp) ?_
      refine W_skip ?_
      refine tN ?_
      by_cases hsp_ : (J.x.done.length = x.done.length)
      · refine W_drsN (fun W_ => Blk W_ g2 64 #[str x.state, .slice ad x.done.length cd, str x.more, .bool x.is_, str x.other, .bool x.was] ∧ Row W_ 9 1 (.slice an J.x.done.length cn) J.x.done.length (J.x.done.map str)) [0, 1, 2, 3, 4, 5, 6, 7, 8, 9, 10, 11, 12, 13, 14, 15, 16, 17, 18, 19, 20, 21, 22, 23, 24, 25, 26, 27, 28, 29, 30] [true, true, true, true, true, true, true, true, true, true, true, true, true, true, true, true, true, true, true, true, true, true, true, true, true, true, true, true, true, true, true] (by kernel_rfl) (by kernel_rfl) (⟨hB2.drew, hN.bel (bdrew (Below.refl _ _))⟩) ?_
        obtain ⟨w6, hw_⟩ : ∃ w6 : World, w6 = World.drew w5 := ⟨_, rfl⟩
        rw [← hw_]
        have hb : Below w5.heap.size w5 w6 := by rw [hw_]; exact bdrew (Below.refl _ _)
        clear hw_
        have hS := hb
        replace hbw := bthen hbw hb
        replace hJ := hJ.bel hb
        replace hB2 := hB2.bel hb
        replace hN := hN.bel hb
        have hz_w6 := hb.size
        clear hb
        refine oY rfl (fun W_ hW_ => (X.move rfl)) rfl ?_
        refine oY rfl (fun W_ hW_ => (X.lenL rfl rfl Tryz.underlying42)) rfl ?_
        refine oY rfl (fun W_ hW_ => (X.fa fa64_1 rfl)) rfl ?_
        refine oY rfl (fun W_ hW_ => (X.ldL rfl hW_.1 Tryz.underlying42 rfl rfl)) rfl ?_
        refine oY rfl (fun W_ hW_ => (X.lenL rfl rfl Tryz.underlying42)) rfl ?_
        refine oY rfl (fun W_ hW_ => (X.eql rfl rfl)) rfl ?_
        refine oY rfl (fun W_ hW_ => (X.mvB (c := true) rfl (decide_eq_true (by omega)))) rfl ?_
        refine oNg (g := 52) rfl rfl rfl rfl (⟨hB2, hN⟩) rfl ?_
        refine oNg (g := 52) rfl rfl rfl rfl (⟨hB2, hN⟩) rfl ?_
        refine oNg (g := 52) rfl rfl rfl rfl (⟨hB2, hN⟩) rfl ?_
        refine oNu (g := 55) rfl rfl rfl rfl (⟨hB2, hN⟩) rfl ?_
        refine oNu (g := 55) rfl rfl rfl rfl (⟨hB2, hN⟩) rfl ?_
        refine oNu (g := 55) rfl rfl rfl rfl (⟨hB2, hN⟩) rfl ?_
        refine oNu (g := 55) rfl rfl rfl rfl (⟨hB2, hN⟩) rfl ?_
        refine oNu (g := 55) rfl rfl rfl rfl (⟨hB2, hN⟩) rfl ?_
        refine oNu (g := 55) rfl rfl rfl rfl (⟨hB2, hN⟩) rfl ?_
        refine oNu (g := 55) rfl rfl rfl rfl (⟨hB2, hN⟩) rfl ?_
        refine oNg (g := 52) rfl rfl rfl rfl (⟨hB2, hN⟩) rfl ?_
        refine oNg (g := 52) rfl rfl rfl rfl (⟨hB2, hN⟩) rfl ?_
        refine oNu (g := 64) rfl rfl rfl rfl (⟨hB2, hN⟩) rfl ?_
        refine oNu (g := 64) rfl rfl rfl rfl (⟨hB2, hN⟩) rfl ?_
        refine oNu (g := 64) rfl rfl rfl rfl (⟨hB2, hN⟩) rfl ?_
        refine oNu (g := 64) rfl rfl rfl rfl (⟨hB2, hN⟩) rfl ?_
        refine oNu (g := 64) rfl rfl rfl rfl (⟨hB2, hN⟩) rfl ?_
        refine oNu (g := 64) rfl rfl rfl rfl (⟨hB2, hN⟩) rfl ?_
        refine oNu (g := 64) rfl rfl rfl rfl (⟨hB2, hN⟩) rfl ?_
        refine oNu (g := 64) rfl rfl rfl rfl (⟨hB2, hN⟩) rfl ?_
        refine oNu (g := 64) rfl rfl rfl rfl (⟨hB2, hN⟩) rfl ?_
        refine oNg (g := 52) rfl rfl rfl rfl (⟨hB2, hN⟩) rfl ?_
        refine oY rfl (fun W_ hW_ => (X.pickT rfl rfl)) rfl ?_
        refine oY rfl (fun W_ hW_ => (X.assign rfl)) rfl ?_
        refine oN ?_
        refine nN ?_
        refine W_ret ?_
        exact (rT rfl rfl ⟨rfl, hbw⟩).1
      · obtain ⟨gN, oNn, c', hv, hgN⟩ := hN.reads.some_ (by omega)
        injection hv with e1 _ e3
        subst e1 e3
        have hux : (J.x.done.map str)[x.done.length]? = some (str x.more) := by rw [(hmore hsp_).2, List.getElem?_map, List.getElem?_append_right (Nat.le_refl _), Nat.sub_self]; rfl
        refine W_drsN (fun W_ => Blk W_ g2 64 #[str x.state, .slice ad x.done.length cd, str x.more, .bool x.is_, str x.other, .bool x.was] ∧ Row W_ 9 1 (.slice (some ⟨gN, oNn, none⟩) J.x.done.length cn) J.x.done.length (J.x.done.map str)) [0, 1, 2, 3, 4, 5, 6, 7, 8, 9, 10, 11, 12, 13, 14, 15, 16, 17, 18, 19, 20, 21, 22, 23, 24, 25, 26, 27, 28, 29, 30] [true, true, true, true, true, true, true, true, true, true, true, true, true, true, true, true, true, true, true, true, true, true, true, true, true, true, true, true, true, true, true] (by kernel_rfl) (by kernel_rfl) (⟨hB2.drew, hN.bel (bdrew (Below.refl _ _))⟩) ?_
        obtain ⟨w7, hw_⟩ : ∃ w7 : World, w7 = World.drew w5 := ⟨_, rfl⟩
        rw [← hw_]
        have hb : Below w5.heap.size w5 w7 := by rw [hw_]; exact bdrew (Below.refl _ _)
        clear hw_
        have hS := hb
        replace hbw := bthen hbw hb
        replace hJ := hJ.bel hb
        replace hB2 := hB2.bel hb
        replace hN := hN.bel hb
        have hz_w7 := hb.size
        clear hb
        refine oY rfl (fun W_ hW_ => (X.move rfl)) rfl ?_
        refine oY rfl (fun W_ hW_ => (X.lenL rfl rfl Tryz.underlying42)) rfl ?_
        refine oY rfl (fun W_ hW_ => (X.fa fa64_1 rfl)) rfl ?_
        refine oY rfl (fun W_ hW_ => (X.ldL rfl hW_.1 Tryz.underlying42 rfl rfl)) rfl ?_
        refine oY rfl (fun W_ hW_ => (X.lenL rfl rfl Tryz.underlying42)) rfl ?_
        refine oY rfl (fun W_ hW_ => (X.eql rfl rfl)) rfl ?_
        refine oY rfl (fun W_ hW_ => (X.mvB (c := false) rfl (decide_eq_false (by omega)))) rfl ?_
        refine oYg (g := 52) rfl rfl rfl rfl (fun W_ hW_ => (X.fa fa64_3 rfl)) rfl ?_
        refine oYg (g := 52) rfl rfl rfl rfl (fun W_ hW_ => (X.ldL rfl hW_.1 Tryz.underlying4 rfl rfl)) rfl ?_
        refine oYg (g := 52) rfl rfl rfl rfl (fun W_ hW_ => (X.mvB (c := true) rfl ((hmore hsp_).1))) rfl ?_
        refine oYg (g := 55) rfl rfl rfl rfl (fun W_ hW_ => (X.move rfl)) rfl ?_
        refine oYg (g := 55) rfl rfl rfl rfl (fun W_ hW_ => (X.lenL rfl rfl Tryz.underlying42)) rfl ?_
        refine oYg (g := 55) rfl rfl rfl rfl (fun W_ hW_ => (X.fa fa64_1 rfl)) rfl ?_
        refine oYg (g := 55) rfl rfl rfl rfl (fun W_ hW_ => (X.ldL rfl hW_.1 Tryz.underlying42 rfl rfl)) rfl ?_
        refine oYg (g := 55) rfl rfl rfl rfl (fun W_ hW_ => (X.lenL rfl rfl Tryz.underlying42)) rfl ?_
        refine oYg (g := 55) rfl rfl rfl rfl (fun W_ hW_ => (X.add64 rfl rfl (by omega))) rfl ?_
        refine oYg (g := 55) rfl rfl rfl rfl (fun W_ hW_ => (X.eql rfl rfl)) rfl ?_
        refine oYg (g := 52) rfl rfl rfl rfl (fun W_ hW_ => (X.pickT rfl rfl)) rfl ?_
        refine oYg (g := 52) rfl rfl rfl rfl (fun W_ hW_ => (X.mvB (c := true) rfl (decide_eq_true (by rw [(hmore hsp_).2, List.length_append, List.length_singleton]; omega)))) rfl ?_
        refine oYg (g := 64) rfl rfl rfl rfl (fun W_ hW_ => (X.move rfl)) rfl ?_
        refine oYg (g := 64) rfl rfl rfl rfl (fun W_ hW_ => (X.fa fa64_1 rfl)) rfl ?_
        refine oYg (g := 64) rfl rfl rfl rfl (fun W_ hW_ => (X.ldL rfl hW_.1 Tryz.underlying42 rfl rfl)) rfl ?_
        refine oYg (g := 64) rfl rfl rfl rfl (fun W_ hW_ => (X.lenL rfl rfl Tryz.underlying42)) rfl ?_
        refine oYg (g := 64) rfl rfl rfl rfl (fun W_ hW_ => (X.idxA (j := x.done.length) rfl rfl Tryz.underlying42 siz9 rfl (by rw [(hmore hsp_).2, List.length_append, List.length_singleton]; omega))) rfl ?_
        refine oYg (g := 64) rfl rfl rfl rfl (fun W_ hW_ => (X.ld rfl Tryz.underlying9 rfl (by rw [Nat.mul_one]; exact hW_.2.reads.cellAt (by omega) hux))) rfl ?_
        refine oYg (g := 64) rfl rfl rfl rfl (fun W_ hW_ => (X.fa fa64_2 rfl)) rfl ?_
        refine oYg (g := 64) rfl rfl rfl rfl (fun W_ hW_ => (X.ldL rfl hW_.1 Tryz.underlying9 rfl rfl)) rfl ?_
        refine oYg (g := 64) rfl rfl rfl rfl (fun W_ hW_ => (X.eqS rfl rfl)) rfl ?_
        refine oYg (g := 52) rfl rfl rfl rfl (fun W_ hW_ => (X.pickT rfl rfl)) rfl ?_
        refine oY rfl (fun W_ hW_ => (X.pickF rfl rfl)) rfl ?_
        refine oY rfl (fun W_ hW_ => (X.assign rfl)) rfl ?_
        refine oN ?_
        refine nN ?_
        refine W_ret ?_
        refine (rT rfl rfl ⟨?_, hbw⟩).1
        rw [decide_eq_true rfl]
  · refine W_drsN (fun W_ => Blk W_ g2 64 #[str x.state, .slice ad x.done.length cd, str x.more, .bool x.is_, str x.other, .bool x.was]) [0, 1, 2, 3, 5, 6, 4, 7, 8, 9, 10, 11, 12, 13] [true, true, true, true, true, true, false, true, true, true, true, true, true, true] (by kernel_rfl) (by kernel_rfl) (hB2.drew) ?_
    obtain ⟨w8, hw_⟩ : ∃ w8 : World, w8 = World.drew w2 := ⟨_, rfl⟩
    rw [← hw_]
    have hb : Below w2.heap.size w2 w8 := by rw [hw_]; exact bdrew (Below.refl _ _)
    clear hw_
    have hS := hb
    replace hbw := bthen hbw hb
    replace hJ := hJ.bel hb
    replace hB2 := hB2.bel hb
    replace hN := hN.bel hb
    have hz_w8 := hb.size
    clear hb
    refine oY rfl (fun W_ hW_ => (X.fa fa64_5 rfl)) rfl ?_
    refine oY rfl (fun W_ hW_ => (X.ldL rfl hW_ Tryz.underlying4 rfl rfl)) rfl ?_
    refine oY rfl (fun W_ hW_ => (X.mvB (c := true) rfl (hw))) rfl ?_
    refine oYg (g := 10) rfl rfl rfl rfl (fun W_ hW_ => (X.move rfl)) rfl ?_
    refine oYg (g := 10) rfl rfl rfl rfl (fun W_ hW_ => (X.fa fa64_4 rfl)) rfl ?_
    refine oYg (g := 10) rfl rfl rfl rfl (fun W_ hW_ => (X.ldL rfl hW_ Tryz.underlying9 rfl rfl)) rfl ?_
    refine oL rfl (fun Q_ hQ_ hP_ => ?_)
    refine gY (g := 10) rfl rfl rfl ?_
    refine sc _ Tryz.func25 rfl (by kernel_rfl) rfl rfl ((State_any B gd gj D J v S _ hJ).mono ?_)
    rintro e_ w_ ⟨rfl, rfl⟩
    refine cR ?_
    refine Wn (hQ_ _ _ (hB2) ?_)
    clear hQ_ hP_ Q_
    refine oYg (g := 10) rfl rfl rfl rfl (fun W_ hW_ => (X.eqS rfl rfl)) rfl ?_
    refine oY rfl (fun W_ hW_ => (X.pickT rfl rfl)) rfl ?_
    refine oY rfl (fun W_ hW_ => (X.mvB (c := false) rfl (decide_eq_false hsp_))) rfl ?_
    refine oNg (g := 17) rfl rfl rfl rfl (hB2) rfl ?_
    refine oNg (g := 17) rfl rfl rfl rfl (hB2) rfl ?_
    refine oNg (g := 17) rfl rfl rfl rfl (hB2) rfl ?_
    refine oY rfl (fun W_ hW_ => (X.pickF rfl rfl)) rfl ?_
    refine oN ?_
    refine nN ?_
    refine W_no rfl (rfl) ?_
    refine W_skip ?_
    refine tN ?_
    refine W_seq ?_
    refine W_drsN (fun W_ => Blk W_ g2 64 #[str x.state, .slice ad x.done.length cd, str x.more, .bool x.is_, str x.other, .bool x.was]) [0, 2, 3, 1, 4, 5, 6, 7, 8, 9, 10, 11, 12, 13, 14, 15, 16, 17, 18, 19, 20, 21, 22, 23] [true, true, true, false, true, true, true, true, true, true, true, true, true, true, true, true, true, true, true, true, true, false, true, true] (by kernel_rfl) (by kernel_rfl) (hB2.drew) ?_
    obtain ⟨w9, hw_⟩ : ∃ w9 : World, w9 = World.drew w8 := ⟨_, rfl⟩
    rw [← hw_]
    have hb : Below w8.heap.size w8 w9 := by rw [hw_]; exact bdrew (Below.refl _ _)
    clear hw_
    have hS := hb
    replace hbw := bthen hbw hb
    replace hJ := hJ.bel hb
    replace hB2 := hB2.bel hb
    replace hN := hN.bel hb
    have hz_w9 := hb.size
    clear hb
    refine oY rfl (fun W_ hW_ => (X.move rfl)) rfl ?_
    refine oY rfl (fun W_ hW_ => (X.fa fa64_0 rfl)) rfl ?_
    refine oY rfl (fun W_ hW_ => (X.ldL rfl hW_ Tryz.underlying9 rfl rfl)) rfl ?_
    refine oL rfl (fun Q_ hQ_ hP_ => ?_)
    refine sc _ Tryz.func25 rfl (by kernel_rfl) rfl rfl ((State_any B gd gj D J v S _ hJ).mono ?_)
    rintro e_ w_ ⟨rfl, rfl⟩
    refine cR ?_
    refine Wn (hQ_ _ _ (hB2) ?_)
    clear hQ_ hP_ Q_
    refine oY rfl (fun W_ hW_ => (X.neS rfl rfl)) rfl ?_
    refine oY rfl (fun W_ hW_ => (X.mvB (c := false) rfl (decide_eq_false (fun e => e hst)))) rfl ?_
    refine oYg (g := 27) rfl rfl rfl rfl (fun W_ hW_ => (X.move rfl)) rfl ?_
    refine oYg (g := 27) rfl rfl rfl rfl (fun W_ hW_ => (X.lenL rfl rfl Tryz.underlying42)) rfl ?_
    refine oYg (g := 27) rfl rfl rfl rfl (fun W_ hW_ => (X.fa fa64_1 rfl)) rfl ?_
    refine oYg (g := 27) rfl rfl rfl rfl (fun W_ hW_ => (X.ldL rfl hW_ Tryz.underlying42 rfl rfl)) rfl ?_
    refine oYg (g := 27) rfl rfl rfl rfl (fun W_ hW_ => (X.lenL rfl rfl Tryz.underlying42)) rfl ?_
    refine oYg (g := 27) rfl rfl rfl rfl (fun W_ hW_ => (X.lss rfl rfl)) rfl ?_
    refine oY rfl (fun W_ hW_ => (X.pickF rfl rfl)) rfl ?_
    refine oY rfl (fun W_ hW_ => (X.mvB (c := false) rfl (decide_eq_false (by omega)))) rfl ?_
    refine oYg (g := 35) rfl rfl rfl rfl (fun W_ hW_ => (X.move rfl)) rfl ?_
    refine oYg (g := 35) rfl rfl rfl rfl (fun W_ hW_ => (X.fa fa64_1 rfl)) rfl ?_
    refine oYg (g := 35) rfl rfl rfl rfl (fun W_ hW_ => (X.ldL rfl hW_ Tryz.underlying42 rfl rfl)) rfl ?_
    refine oYg (g := 35) rfl rfl rfl rfl (fun W_ hW_ => (X.lenL rfl rfl Tryz.underlying42)) rfl ?_
    refine oYg (g := 35) rfl rfl rfl rfl (fun W_ hW_ => (X.toL (j := x.done.length) rfl rfl Tryz.underlying42 siz9 rfl (by omega))) rfl ?_
    refine oYg (g := 35) rfl rfl rfl rfl (fun W_ hW_ => (X.fa fa64_1 rfl)) rfl ?_
    refine oYg (g := 35) rfl rfl rfl rfl (fun W_ hW_ => (X.ldL rfl hW_ Tryz.underlying42 rfl rfl)) rfl ?_
    have hcut := hN.cut rfl 0 x.done.length (by omega) hle
    simp only [Nat.mul_one, List.drop_zero, Nat.sub_zero] at hcut
    rw [← List.map_take, htk] at hcut
    refine oL rfl (fun Q_ hQ_ hP_ => ?_)
    refine gY (g := 35) rfl rfl rfl ?_
    refine sc _ Tryz.func30 rfl (by kernel_rfl) rfl rfl ((Same16_any _ _ x.done x.done _ hcut.reads (hR.bel hbw)).mono ?_)
    rintro e_ w10 ⟨rfl, hb⟩
    refine cR ?_
    replace hbw := bthen hbw hb
    replace hJ := hJ.bel hb
    replace hB2 := hB2.bel hb
    replace hN := hN.bel hb
    have hz_w10 := hb.size
    clear hb
    refine Wn (hQ_ _ _ (hB2) ?_)
    clear hQ_ hP_ Q_
    have hmore : J.x.done.length ≠ x.done.length → x.is_ = true ∧ J.x.done = x.done ++ [x.more] := fun hne => hdn.resolve_left (fun e => hne (by rw [e]))
    refine oYg (g := 35) rfl rfl rfl rfl (fun W_ hW_ => (X.not rfl)) rfl ?_
    refine oY rfl (fun W_ hW_ => (X.pickF rfl rfl)) rfl ?_
    refine oN ?_
    refine nN ?_
    refine W_no rfl (by simp) ?_
    refine W_skip ?_
    refine tN ?_
    by_cases hsp_ : (J.x.done.length = x.done.length)
    · refine W_drsN (fun W_ => Blk W_ g2 64 #[str x.state, .slice ad x.done.length cd, str x.more, .bool x.is_, str x.other, .bool x.was] ∧ Row W_ 9 1 (.slice an J.x.done.length cn) J.x.done.length (J.x.done.map str)) [0, 1, 2, 3, 4, 5, 6, 7, 8, 9, 10, 11, 12, 13, 14, 15, 16, 17, 18, 19, 20, 21, 22, 23, 24, 25, 26, 27, 28, 29, 30] [true, true, true, true, true, true, true, true, true, true, true, true, true, true, true, true, true, true, true, true, true, true, true, true, true, true, true, true, true, true, true] (by kernel_rfl) (by kernel_rfl) (⟨hB2.drew, hN.bel (bdrew (Below.refl _ _))⟩) ?_
      obtain ⟨w11, hw_⟩ : ∃ w11 : World, w11 = World.drew w10 := ⟨_, rfl⟩
      rw [← hw_]
      have hb : Below w10.heap.size w10 w11 := by rw [hw_]; exact bdrew (Below.refl _ _)
      clear hw_
      have hS := hb
      replace hbw := bthen hbw hb
      replace hJ := hJ.bel hb
      replace hB2 := hB2.bel hb
      replace hN := hN.bel hb
      have hz_w11 := hb.size
      clear hb
      refine oY rfl (fun W_ hW_ => (X.move rfl)) rfl ?_
      refine oY rfl (fun W_ hW_ => (X.lenL rfl rfl Tryz.underlying42)) rfl ?_
      refine oY rfl (fun W_ hW_ => (X.fa fa64_1 rfl)) rfl ?_
      refine oY rfl (fun W_ hW_ => (X.ldL rfl hW_.1 Tryz.underlying42 rfl rfl)) rfl ?_
      refine oY rfl (fun W_ hW_ => (X.lenL rfl rfl Tryz.underlying42)) rfl ?_
      refine oY rfl (fun W_ hW_ => (X.eql rfl rfl)) rfl ?_
      refine oY rfl (fun W_ hW_ => (X.mvB (c := true) rfl (decide_eq_true (by omega)))) rfl ?_
      refine oNg (g := 52) rfl rfl rfl rfl (⟨hB2, hN⟩) rfl ?_
      refine oNg (g := 52) rfl rfl rfl rfl (⟨hB2, hN⟩) rfl ?_
      refine oNg (g := 52) rfl rfl rfl rfl (⟨hB2, hN⟩) rfl ?_
      refine oNu (g := 55) rfl rfl rfl rfl (⟨hB2, hN⟩) rfl ?_
      refine oNu (g := 55) rfl rfl rfl rfl (⟨hB2, hN⟩) rfl ?_
      refine oNu (g := 55) rfl rfl rfl rfl (⟨hB2, hN⟩) rfl ?_
      refine oNu (g := 55) rfl rfl rfl rfl (⟨hB2, hN⟩) rfl ?_
      refine oNu (g := 55) rfl rfl rfl rfl (⟨hB2, hN⟩) rfl ?_
      refine oNu (g := 55) rfl rfl rfl rfl (⟨hB2, hN⟩) rfl ?_
      refine oNu (g := 55) rfl rfl rfl rfl (⟨hB2, hN⟩) rfl ?_
      refine oNg (g := 52) rfl rfl rfl rfl (⟨hB2, hN⟩) rfl ?_
      refine oNg (g := 52) rfl rfl rfl rfl (⟨hB2, hN⟩) rfl ?_
      refine oNu (g := 64) rfl rfl rfl rfl (⟨hB2, hN⟩) rfl ?_
      refine oNu (g := 64) rfl rfl rfl rfl (⟨hB2, hN⟩) rfl ?_
      refine oNu (g := 64) rfl rfl rfl rfl (⟨hB2, hN⟩) rfl ?_
      refine oNu (g := 64) rfl rfl rfl rfl (⟨hB2, hN⟩) rfl ?_
      refine oNu (g := 64) rfl rfl rfl rfl (⟨hB2, hN⟩) rfl ?_
      refine oNu (g := 64) rfl rfl rfl rfl (⟨hB2, hN⟩) rfl ?_
      refine oNu (g := 64) rfl rfl rfl rfl (⟨hB2, hN⟩) rfl ?_
      refine oNu (g := 64) rfl rfl rfl rfl (⟨hB2, hN⟩) rfl ?_
      refine oNu (g := 64) rfl rfl rfl rfl (⟨hB2, hN⟩) rfl ?_
      refine oNg (g := 52) rfl rfl rfl rfl (⟨hB2, hN⟩) rfl ?_
      refine oY rfl (fun W_ hW_ => (X.pickT rfl rfl)) rfl ?_
      refine oY rfl (fun W_ hW_ => (X.assign rfl)) rfl ?_
      refine oN ?_
      refine nN ?_
      refine W_ret ?_
      exact (rT rfl rfl ⟨rfl, hbw⟩).1
    · obtain ⟨gN, oNn, c', hv, hgN⟩ := hN.reads.some_ (by omega)
      injection hv with e1 _ e3
      subst e1 e3
      have hux : (J.x.done.map str)[x.done.length]? = some (str x.more) := by rw [(hmore hsp_).2, List.getElem?_map, List.getElem?_append_right (Nat.le_refl _), Nat.sub_self]; rfl
      refine W_drsN (fun W_ => Blk W_ g2 64 #[str x.state, .slice ad x.done.length cd, str x.more, .bool x.is_, str x.other, .bool x.was] ∧ Row W_ 9 1 (.slice (some ⟨gN, oNn, none⟩) J.x.done.length cn) J.x.done.length (J.x.done.map str)) [0, 1, 2, 3, 4, 5, 6, 7, 8, 9, 10, 11, 12, 13, 14, 15, 16, 17, 18, 19, 20, 21, 22, 23, 24, 25, 26, 27, 28, 29, 30] [true, true, true, true, true, true, true, true, true, true, true, true, true, true, true, true, true, true, true, true, true, true, true, true, true, true, true, true, true, true, true] (by kernel_rfl) (by kernel_rfl) (⟨hB2.drew, hN.bel (bdrew (Below.refl _ _))⟩) ?_
      obtain ⟨w12, hw_⟩ : ∃ w12 : World, w12 = World.drew w10 := ⟨_, rfl⟩
      rw [← hw_]
      have hb : Below w10.heap.size w10 w12 := by rw [hw_]; exact bdrew (Below.refl _ _)
      clear hw_
      have hS := hb
      replace hbw := bthen hbw hb
      replace hJ := hJ.bel hb
      replace hB2 := hB2.bel hb
      replace hN := hN.bel hb
      have hz_w12 := hb.size
      clear hb
      refine oY rfl (fun W_ hW_ => (X.move rfl)) rfl ?_
      refine oY rfl (fun W_ hW_ => (X.lenL rfl rfl Tryz.underlying42)) rfl ?_
      refine oY rfl (fun W_ hW_ => (X.fa fa64_1 rfl)) rfl ?_
      refine oY rfl (fun W_ hW_ => (X.ldL rfl hW_.1 Tryz.underlying42 rfl rfl)) rfl ?_
      refine oY rfl (fun W_ hW_ => (X.lenL rfl rfl Tryz.underlying42)) rfl ?_
      refine oY rfl (fun W_ hW_ => (X.eql rfl rfl)) rfl ?_
      refine oY rfl (fun W_ hW_ => (X.mvB (c := false) rfl (decide_eq_false (by omega)))) rfl ?_
      refine oYg (g := 52) rfl rfl rfl rfl (fun W_ hW_ => (X.fa fa64_3 rfl)) rfl ?_
      refine oYg (g := 52) rfl rfl rfl rfl (fun W_ hW_ => (X.ldL rfl hW_.1 Tryz.underlying4 rfl rfl)) rfl ?_
      refine oYg (g := 52) rfl rfl rfl rfl (fun W_ hW_ => (X.mvB (c := true) rfl ((hmore hsp_).1))) rfl ?_
      refine oYg (g := 55) rfl rfl rfl rfl (fun W_ hW_ => (X.move rfl)) rfl ?_
      refine oYg (g := 55) rfl rfl rfl rfl (fun W_ hW_ => (X.lenL rfl rfl Tryz.underlying42)) rfl ?_
      refine oYg (g := 55) rfl rfl rfl rfl (fun W_ hW_ => (X.fa fa64_1 rfl)) rfl ?_
      refine oYg (g := 55) rfl rfl rfl rfl (fun W_ hW_ => (X.ldL rfl hW_.1 Tryz.underlying42 rfl rfl)) rfl ?_
      refine oYg (g := 55) rfl rfl rfl rfl (fun W_ hW_ => (X.lenL rfl rfl Tryz.underlying42)) rfl ?_
      refine oYg (g := 55) rfl rfl rfl rfl (fun W_ hW_ => (X.add64 rfl rfl (by omega))) rfl ?_
      refine oYg (g := 55) rfl rfl rfl rfl (fun W_ hW_ => (X.eql rfl rfl)) rfl ?_
      refine oYg (g := 52) rfl rfl rfl rfl (fun W_ hW_ => (X.pickT rfl rfl)) rfl ?_
      refine oYg (g := 52) rfl rfl rfl rfl (fun W_ hW_ => (X.mvB (c := true) rfl (decide_eq_true (by rw [(hmore hsp_).2, List.length_append, List.length_singleton]; omega)))) rfl ?_
      refine oYg (g := 64) rfl rfl rfl rfl (fun W_ hW_ => (X.move rfl)) rfl ?_
      refine oYg (g := 64) rfl rfl rfl rfl (fun W_ hW_ => (X.fa fa64_1 rfl)) rfl ?_
      refine oYg (g := 64) rfl rfl rfl rfl (fun W_ hW_ => (X.ldL rfl hW_.1 Tryz.underlying42 rfl rfl)) rfl ?_
      refine oYg (g := 64) rfl rfl rfl rfl (fun W_ hW_ => (X.lenL rfl rfl Tryz.underlying42)) rfl ?_
      refine oYg (g := 64) rfl rfl rfl rfl (fun W_ hW_ => (X.idxA (j := x.done.length) rfl rfl Tryz.underlying42 siz9 rfl (by rw [(hmore hsp_).2, List.length_append, List.length_singleton]; omega))) rfl ?_
      refine oYg (g := 64) rfl rfl rfl rfl (fun W_ hW_ => (X.ld rfl Tryz.underlying9 rfl (by rw [Nat.mul_one]; exact hW_.2.reads.cellAt (by omega) hux))) rfl ?_
      refine oYg (g := 64) rfl rfl rfl rfl (fun W_ hW_ => (X.fa fa64_2 rfl)) rfl ?_
      refine oYg (g := 64) rfl rfl rfl rfl (fun W_ hW_ => (X.ldL rfl hW_.1 Tryz.underlying9 rfl rfl)) rfl ?_
      refine oYg (g := 64) rfl rfl rfl rfl (fun W_ hW_ => (X.eqS rfl rfl)) rfl ?_
      refine oYg (g := 52) rfl rfl rfl rfl (fun W_ hW_ => (X.pickT rfl rfl)) rfl ?_
      refine oY rfl (fun W_ hW_ => (X.pickF rfl rfl)) rfl ?_
      refine oY rfl (fun W_ hW_ => (X.assign rfl)) rfl ?_
      refine oN ?_
      refine nN ?_
      refine W_ret ?_
      refine (rT rfl rfl ⟨?_, hbw⟩).1
      rw [decide_eq_true rfl]
theorem holds_any (B gd gj : Nat) (D : DiskD) (J : JrM) (v vd : Value) (S : Nat → Prop) (x : LM) (w : World) (hJ : JAll B w gd gj D J v S) (hR : Reads w 1 vd x.done.length (x.done.map str)) (hx : HoldsP x J.x.state J.x.done) (hd : J.x.done.length ≤ 1099511627776) :
    Calls Tryz.prog 34 #[x.val vd, .pointer (some ⟨gj, 0, none⟩)] w fun e w' => e = .returned (.bool true) ∧ Below w.heap.size w w' := by
  cases hw : x.was with
  | false => exact holds_F B gd gj D J v vd S x w hJ hR hx hd hw
  | true => exact holds_T B gd gj D J v vd S x w hJ hR hx hd hw
end Go.Proofs.YtnijmegalgoipaaGreatDoor
