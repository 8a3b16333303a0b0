/- law16: run, and the law JournalLasts. -/
import Derived.Test.YtnijmegalgoipaaGreatDoorLastsW
namespace Go.Proofs.YtnijmegalgoipaaGreatDoor
open Go.RowKit
/-- a block that is no one's of a journal and its disk -/
structure Ap (S : Nat → Prop) (gj : Nat) (v : Value) (k : Nat) : Prop where
  s : ¬ S k
  j : ¬ k = gj
  v : ¬ v.ownBlock = some k
section
variable {B gd gj : Nat} {w w' : World} {D D' : DiskD} {J J' : JrM} {v v' u u' : Value} {S S' T : Nat → Prop} {k : Nat}
theorem Ap.no (h : Ap S gj v k) : ¬ (S k ∨ k = gj ∨ v.ownBlock = some k) := fun e => e.elim h.s (fun e => e.elim h.j h.v)
theorem Ap.next (h : Ap S gj v k) (hk : k < w.heap.size) (hS : ∀ k, S' k → S k ∨ w.heap.size ≤ k) (hv : ∀ k, v'.ownBlock = some k → v.ownBlock = some k ∨ w.heap.size ≤ k) : Ap S' gj v' k :=
  ⟨fun e => (hS k e).elim h.s (fun e => by omega), h.j, fun e => (hv k e).elim h.v (fun e => by omega)⟩
theorem JAll.chg (h : JAll B w gd gj D J v S) (hX : Chg T w w') (h1 : ∀ k, T k → Ap S gj v k) : JAll B w' gd gj D J v S := h.other hX (fun k hk => ⟨(h1 k hk).s, (h1 k hk).j, (h1 k hk).v⟩)
/-- what is younger is no one's -/
theorem JAll.fresh (h : JAll B w gd gj D J v S) (hk : w.heap.size ≤ k) : Ap S gj v k :=
  ⟨fun e => by have := (h.jf.own.lo k e).2; omega, fun e => by have := h.blk.lt; omega, fun e => by have := h.row.lt k e; omega⟩
/-- mine -/
def Mine (g4 g5 : Nat) (u : Value) (k : Nat) : Prop := k = g4 ∨ k = g5 ∨ u.ownBlock = some k
theorem bst (w : World) : (Instr.build 64 #[]).run Tryz.prog w = .ok (.agg #[str [], .slice none 0 0, str [], .bool false, str [], .bool false]) w := by kernel_rfl
end
theorem JPost.took {B gd gj g4 g5 : Nat} {w w' : World} {D' : DiskD} {J' : JrM} {v u : Value} {S : Nat → Prop} {xs : List Value} {n : Nat} {c4 c5 : Array Value} (h : JPost B w gd gj D' J' v S w') (hK : ∀ k, Mine g4 g5 u k → Ap S gj v k) (h4 : Blk w g4 64 c4) (h5 : Blk w g5 64 c5) (hR : Row w 9 1 u n xs) :
    ∃ v' S', JAll B w' gd gj D' J' v' S' ∧ (∀ k, Mine g4 g5 u k → Ap S' gj v' k) ∧ Blk w' g4 64 c4 ∧ Blk w' g5 64 c5 ∧ Row w' 9 1 u n xs ∧ (∀ k, S' k → S k ∨ w.heap.size ≤ k) ∧ (∀ k, v'.ownBlock = some k → v.ownBlock = some k ∨ w.heap.size ≤ k) ∧ Chg (fun k => S k ∨ k = gj ∨ v.ownBlock = some k) w w' := by
  obtain ⟨v', S', hJ, hS, hv, hX⟩ := h
  refine ⟨v', S', hJ, fun k hk => ?_, h4.chg hX (hK _ (.inl rfl)).no, h5.chg hX (hK _ (.inr (.inl rfl))).no, hR.chg hX (fun k hk => (hK k (.inr (.inr hk))).no), hS, hv, hX⟩
  refine (hK k hk).next ?_ hS hv
  rcases hk with rfl | rfl | hk
  · exact h4.lt
  · exact h5.lt
  · exact hR.lt k hk
/-- what run leaves -/
def RunPost (B gd gj : Nat) (v : Value) (S : Nat → Prop) (n : Nat) (w : World) (e : Ending) (w' : World) : Prop :=
  ∃ x vd D S', e = .returned (x.val vd) ∧ Row w' 9 1 vd x.done.length (x.done.map str) ∧ (∀ k, vd.ownBlock = some k → w.heap.size ≤ k ∧ ¬ S' k) ∧ Final D x ∧ Good n D ∧ Own B w' gd D S' ∧ (∀ k, S' k → S k ∨ w.heap.size ≤ k) ∧ Chg (fun k => S k ∨ k = gj ∨ v.ownBlock = some k) w w'
theorem RunPost.of {B gd gj n : Nat} {v vd : Value} {S S' : Nat → Prop} {w w' : World} {x : LM} {D : DiskD} {e : Ending} (hF : Final D x) (hg : Good n D) (hR : Row w' 9 1 vd x.done.length (x.done.map str)) (hvd : ∀ k, vd.ownBlock = some k → w.heap.size ≤ k ∧ ¬ S' k) (hO : Own B w' gd D S')
    (hS : ∀ k, S' k → S k ∨ w.heap.size ≤ k) (hX : Chg (fun k => S k ∨ k = gj ∨ v.ownBlock = some k) w w') (he : e = .returned (x.val vd)) : RunPost B gd gj v S n w e w' := ⟨x, vd, D, S', he, hR, hvd, hF, hg, hO, hS, hX⟩
set_option maxRecDepth 10000 in
theorem run_any (B gd gj : Nat) (D : DiskD) (J : JrM) (v vl : Value) (S : Nat → Prop) (l : List Op16) (n0 : Nat) (w0 w : World) (hB : w0.heap.size = B) (hbB : Below w0.heap.size w0 w) (hJ : JAll B w gd gj D J v S) (hO : Ops16At w0 vl l) (hf : fewM16 l = true)
    (hI : RInv 0 D J ⟨[], [], [], false, [], false⟩ 0 []) (hg : Good n0 D) (hn0 : n0 ≤ 1000) :
    Calls Tryz.prog 33 #[.pointer (some ⟨gj, 0, none⟩), vl] w (RunPost B gd gj v S 100000 w) := by
  obtain ⟨a, c, rfl, hc1, hc2⟩ := hO.1.shape
  have hnn := hO.1.nle
  obtain ⟨hl60, hlf⟩ := few16_of hf
  have hvl := hJ.row.lt
  refine W_enter (args := [.pointer (some ⟨gj, 0, none⟩), .slice a l.length c]) 115 Tryz.func33 rfl rfl rfl ?_
  refine W_sub [(0, .pointer (some ⟨gj, 0, none⟩)), (1, .slice a l.length c)] ?_ ⟨rfl, rfl, trivial⟩
  have hcw := Chg.refl (fun k => S k ∨ k = gj ∨ v.ownBlock = some k) w
  have hfr : ∀ k, w.heap.size ≤ k → Ap S gj v k := fun k hk => hJ.fresh hk
  have hBlo : B ≤ w.heap.size := by have := hbB.size; omega
  refine W_rs ?_
  refine salA inf64 rfl (fun g4 w1 hB4 hg4 hb hl4 => ?_)
  replace hcw := hcw.then_below hb
  replace hJ := hJ.bel hb
  have hz_w1 := hb.size
  clear hb
  refine Wn ?_
  refine tN ?_
  refine W_rs ?_
  refine salA inf64 rfl (fun g5 w2 hB5 hg5 hb hl5 => ?_)
  replace hcw := hcw.then_below hb
  replace hJ := hJ.bel hb
  replace hB4 := hB4.bel hb
  have hz_w2 := hb.size
  clear hb
  refine Wn ?_
  refine tN ?_
  refine W_rs ?_
  refine sa rfl rfl ?_
  refine Wn ?_
  refine tN ?_
  refine W_rs ?_
  refine sa rfl rfl ?_
  refine Wn ?_
  refine tN ?_
  refine W_seq ?_
  refine W_rs ?_
  refine sa rfl rfl ?_
  refine Wn ?_
  refine tN ?_
  refine W_block ?_
  have hK : ∀ k, Mine g4 g5 (.slice none 0 0) k → Ap S gj v k := fun k hk => by
    rcases hk with rfl | rfl | hk
    · exact hfr _ hg4
    · exact hfr _ (by omega)
    · simp [Value.ownBlock] at hk
  have hbB' : Below w0.heap.size w0 w2 := bchg hbB hcw (fun k hk => by rw [hB]; exact hk.elim (fun e => (hJ.jf.own.lo k e).1) (fun e => e.elim (fun e => by have := hJ.jf.gB; omega) (fun e => (hJ.jf.v k e).2)))
  refine W_lp (fun nw3_ lw3_ w3 => ∃ i : Nat, ∃ D : DiskD, ∃ J : JrM, ∃ vj : Value, ∃ Sj : Nat → Prop, ∃ x : LM, ∃ vd : Value, ∃ id : Int, ∃ tx : List UInt8, nw3_ = l.length - i ∧ lw3_ = ([(0, .pointer (some ⟨gj, 0, none⟩)), (1, .slice a l.length c), (4, .pointer (some ⟨g4, 0, none⟩)), (5, .pointer (some ⟨g5, 0, none⟩)), (6, .int .i64 id), (7, str tx), (8, .int .i64 i)] : Env) ∧ (RInv i D J x id tx) ∧ (i ≤ l.length) ∧ (Chg (fun k => S k ∨ k = gj ∨ v.ownBlock = some k) w w3) ∧ (JAll B w3 gd gj D J vj Sj) ∧ (∀ k, Sj k → S k ∨ w.heap.size ≤ k) ∧ (∀ k, vj.ownBlock = some k → v.ownBlock = some k ∨ w.heap.size ≤ k) ∧ (∀ k, Mine g4 g5 vd k → Ap Sj gj vj k) ∧ (Blk w3 g4 64 #[str [], .slice none 0 0, str [], .bool false, str [], .bool false]) ∧ (Blk w3 g5 64 #[str x.state, vd, str x.more, .bool x.is_, str x.other, .bool x.was]) ∧ (Row w3 9 1 vd x.done.length (x.done.map str)) ∧ (∀ k, vd.ownBlock = some k → w.heap.size ≤ k) ∧ (x.is_ = false ∧ x.was = false) ∧ (Good (n0 + 400 * i) D) ∧ (Below w0.heap.size w0 w3) ∧ (w.heap.size ≤ g4) ∧ (w.heap.size ≤ g5)) _ ⟨_, ⟨0, D, J, v, S, ⟨[], [], [], false, [], false⟩, .slice none 0 0, 0, [], rfl, rfl, hI, Nat.zero_le _, hcw, hJ, (fun k hk => .inl hk), (fun k hk => .inl hk), hK, hB4, hB5, Row.nil _ _ _, (fun k hk => by simp [Value.ownBlock] at hk), ⟨rfl, rfl⟩, hg, hbB', hg4, by omega⟩, ⟨rfl, rfl, rfl, rfl, rfl, rfl, rfl, trivial⟩⟩ ?_
  clear hI hcw hJ hK hB4 hB5 hg hg4
  rintro nw3_ lw3_ w3 ⟨i, D, J, vj, Sj, x, vd, id, tx, rfl, rfl, hI, hi, hcw, hJ, hS, hv, hK, hB4, hB5, hR, hvd, hfl, hg, hbB, hg4, hg5⟩
  have hz_hbB_w3 := hbB.size
  have hlt_hB4_w3 := hB4.lt
  have hlt_hB5_w3 := hB5.lt
  have hzc := hcw.size
  have hdl := hI.dl
  have hxd : x.done.length ≤ i := by rw [hI.dn]; exact hI.dl
  have hnx := hI.nx
  have hne5 : ∀ k, k = g5 → Ap Sj gj vj k := fun k hk => hK k (.inr (.inl hk))
  refine W_seq ?_
  refine W_rs ?_
  refine sm rfl rfl ?_
  refine sm rfl rfl ?_
  refine st (X.lenL rfl rfl Tryz.underlying59) rfl ?_
  refine st (X.lss rfl rfl) rfl ?_
  refine Wn ?_
  refine tN ?_
  refine W_if rfl (fun h14 => ?_) (fun h14 => ?_)
  · first | replace h14 := of_decide_eq_true h14 | replace h14 := of_decide_eq_false (notT h14) | replace h14 := notT h14 | skip
    obtain ⟨o, ho⟩ : ∃ o, l[i]? = some o := ⟨_, List.getElem?_eq_getElem (by omega)⟩
    have hom := List.mem_of_getElem? ho
    obtain ⟨g1, o1, c', hve, hg1⟩ := hO.1.some_ (by omega)
    injection hve with e1 _ e3
    subst e1 e3
    obtain ⟨hot, hop⟩ := hlf o hom
    refine W_skip ?_
    refine tN ?_
    refine W_seq ?_
    refine W_block ?_
    refine W_rs ?_
    refine sa rfl rfl ?_
    refine Wn ?_
    refine tN ?_
    refine W_seq ?_
    refine W_rs ?_
    refine sm rfl rfl ?_
    refine sm rfl rfl ?_
    refine st (X.idxA rfl rfl Tryz.underlying59 siz73 rfl (by omega)) rfl ?_
    refine st (X.fa fa73_0 rfl) rfl ?_
    refine st (X.ld rfl Tryz.underlying3 rfl (op16_cell (hO.1.bel hbB) rfl ho rfl)) rfl ?_
    refine Wn ?_
    refine tN ?_
    refine W_block ?_
    refine W_rs ?_
    refine st (X.eql rfl rfl) rfl ?_
    refine sa rfl rfl ?_
    refine Wn ?_
    refine tN ?_
    refine W_if rfl (fun h22 => ?_) (fun h22 => ?_)
    · first | replace h22 := of_decide_eq_true h22 | replace h22 := of_decide_eq_false (notT h22) | replace h22 := notT h22 | skip
      refine W_rs ?_
      refine sa rfl rfl ?_
      refine Wn ?_
      refine tN ?_
      refine W_rs ?_
      refine sm rfl rfl ?_
      refine sm rfl rfl ?_
      refine sm rfl rfl ?_
      refine st (X.idxA rfl rfl Tryz.underlying59 siz73 rfl (by omega)) rfl ?_
      refine st (X.fa fa73_2 rfl) rfl ?_
      refine st (X.ld rfl Tryz.underlying9 rfl (op16_cell (hO.1.bel hbB) rfl ho rfl)) rfl ?_
      refine sc _ Tryz.func19 rfl (by kernel_rfl) rfl rfl ((Intent_any B gd gj D J vj Sj _ hJ o.text (n0 + 400 * i) hg (by omega) (by omega) (by omega)).mono ?_)
      rintro e_ w4 ⟨rfl, hJP⟩
      refine cR ?_
      have hRI := hI.intent (by omega) hot
      have hgI := (intentJ_good hg J o.text).mono (m := n0 + 400 * (i + 1)) (by omega)
      obtain ⟨⟨⟨rid, re⟩, D1, J1⟩, hr⟩ : ∃ r, intentJ D J o.text = r := ⟨_, rfl⟩
      rw [hr] at hJP hRI hgI ⊢
      simp only at hJP hRI hgI ⊢
      obtain ⟨v1, S1, hJ1, hK1, hB41, hB51, hR1, hS1, hv1, hX⟩ := hJP.took hK hB4 hB5 hR
      have hcw1 := hcw.next hX (fun k hk => hk.elim (fun e => (hS k e).imp (fun e => .inl e) (fun e => e)) (fun e => e.elim (fun e => .inl (.inr (.inl e))) (fun e => (hv k e).imp (fun e => .inr (.inr e)) (fun e => e))))
      have hbB1 := bchg hbB hX (fun k hk => by rw [hB]; exact hk.elim (fun e => (hJ.jf.own.lo k e).1) (fun e => e.elim (fun e => by have := hJ.jf.gB; omega) (fun e => (hJ.jf.v k e).2)))
      have hzc1 := hcw.size
      have hS2 : ∀ k, S1 k → S k ∨ w.heap.size ≤ k := fun k hk => (hS1 k hk).elim (fun e => hS k e) (fun e => .inr (by omega))
      have hv2 : ∀ k, v1.ownBlock = some k → v.ownBlock = some k ∨ w.heap.size ≤ k := fun k hk => (hv1 k hk).elim (fun e => hv k e) (fun e => .inr (by omega))
      have hz_w4 := hX.size
      clear hJP hJ hK hB4 hB5 hR hcw hbB hS hv hX hS1 hv1
      have hJ := hJ1
      have hK := hK1
      have hB4 := hB41
      have hB5 := hB51
      have hR := hR1
      have hcw := hcw1
      have hbB := hbB1
      have hS := hS2
      have hv := hv2
      clear hJ1 hK1 hB41 hB51 hR1 hcw1 hbB1 hS2 hv2
      have hne5 : ∀ k, k = g5 → Ap S1 gj v1 k := fun k hk => hK k (.inr (.inl hk))
      refine sm rfl rfl ?_
      refine st (X.ext rfl rfl) rfl ?_
      refine st (X.ext rfl rfl) rfl ?_
      refine sa rfl rfl ?_
      refine sa rfl rfl ?_
      refine Wn ?_
      refine tN ?_
      refine W_rs ?_
      refine sm rfl rfl ?_
      refine st (X.eql rfl rfl) rfl ?_
      refine Wn ?_
      refine tN ?_
      refine W_if rfl (fun h35 => ?_) (fun h35 => ?_)
      · first | replace h35 := of_decide_eq_true h35 | replace h35 := of_decide_eq_false (notT h35) | replace h35 := notT h35 | skip
        have hI' := hRI.1 h35
        have hg' := hgI
        refine W_rs ?_
        refine sm rfl rfl ?_
        refine sa rfl rfl ?_
        refine Wn ?_
        refine tN ?_
        refine W_reg ?_
        refine sm rfl rfl ?_
        refine sm rfl rfl ?_
        refine st (X.idxA rfl rfl Tryz.underlying59 siz73 rfl (by omega)) rfl ?_
        refine st (X.fa fa73_2 rfl) rfl ?_
        refine st (X.ld rfl Tryz.underlying9 rfl (op16_cell (hO.1.bel hbB) rfl ho rfl)) rfl ?_
        refine sa rfl rfl ?_
        refine Wn ?_
        refine bN ?_
        refine tN ?_
        refine W_rs ?_
        refine st (X.fa fa64_3 rfl) rfl ?_
        refine st (X.ldL rfl hB5 Tryz.underlying4 rfl rfl) rfl ?_
        refine sbN rfl (hfl.1) rfl ?_
        refine gY (g := 106) rfl rfl rfl ?_
        refine st (X.fa fa64_5 rfl) rfl ?_
        refine gY (g := 106) rfl rfl rfl ?_
        refine st (X.ldL rfl hB5 Tryz.underlying4 rfl rfl) rfl ?_
        refine st (X.pickF rfl rfl) rfl ?_
        refine sbN rfl (hfl.2) rfl ?_
        refine gY (g := 110) rfl rfl rfl ?_
        refine sm rfl rfl ?_
        refine gY (g := 110) rfl rfl rfl ?_
        refine st (X.eql rfl rfl) rfl ?_
        refine st (X.pickF rfl rfl) rfl ?_
        refine Wn ?_
        refine tN ?_
        refine W_if rfl (fun h113 => ?_) (fun h113 => ?_)
        · first | replace h113 := of_decide_eq_true h113 | replace h113 := of_decide_eq_false (notT h113) | replace h113 := notT h113 | skip
          omega
        · first | replace h113 := of_decide_eq_false h113 | replace h113 := of_decide_eq_true (notF h113) | replace h113 := notF h113 | skip
          refine W_skip ?_
          refine bN ?_
          refine tN ?_
          refine W_reg ?_
          refine sm rfl rfl ?_
          refine st (X.add64 rfl rfl (by omega)) rfl ?_
          refine sa rfl rfl ?_
          refine Wn ?_
          refine tN ⟨_, _, ?_, ⟨i + 1, _, _, _, _, _, _, _, _, rfl, rfl, hI', by omega, hcw, hJ, hS, hv, hK, hB4, hB5, hR, hvd, hfl, hg', hbB, hg4, hg5⟩, ⟨rfl, rfl, rfl, rfl, rfl, rfl, rfl, trivial⟩⟩
          omega
      · first | replace h35 := of_decide_eq_false h35 | replace h35 := of_decide_eq_true (notF h35) | replace h35 := notF h35 | skip
        refine W_skip ?_
        refine bN ?_
        refine tN ?_
        refine W_rs ?_
        refine st (X.fa fa64_3 rfl) rfl ?_
        refine st (X.ldL rfl hB5 Tryz.underlying4 rfl rfl) rfl ?_
        refine sbN rfl (hfl.1) rfl ?_
        refine gY (g := 106) rfl rfl rfl ?_
        refine st (X.fa fa64_5 rfl) rfl ?_
        refine gY (g := 106) rfl rfl rfl ?_
        refine st (X.ldL rfl hB5 Tryz.underlying4 rfl rfl) rfl ?_
        refine st (X.pickF rfl rfl) rfl ?_
        refine sbN rfl (hfl.2) rfl ?_
        refine gY (g := 110) rfl rfl rfl ?_
        refine sm rfl rfl ?_
        refine gY (g := 110) rfl rfl rfl ?_
        refine st (X.eql rfl rfl) rfl ?_
        refine st (X.pickF rfl rfl) rfl ?_
        refine Wn ?_
        refine tN ?_
        refine W_if rfl (fun h113 => ?_) (fun h113 => ?_)
        · first | replace h113 := of_decide_eq_true h113 | replace h113 := of_decide_eq_false (notT h113) | replace h113 := notT h113 | skip
          have hFin := hRI.2.2 h113
          have hg' := hgI
          refine W_exit (bM rfl (tE (tE (bH ?_))))
          refine tN ?_
          refine W_rs ?_
          obtain ⟨ad, cd, rfl, _, _⟩ := hR.shape
          have hne4 : ∀ k, k = g4 → Ap _ gj _ k := fun k hk => hK k (.inl hk)
          have hne4r := hR.ne2 hB4 (by decide)
          refine st (X.ldBN rfl hB5 Tryz.underlying64 rfl siz64) rfl ?_
          refine ssBN rfl rfl hB4 siz64 rfl rfl (fun w5 hB_ hc_ => ?_)
          replace hB4 := hB_
          clear hB_
          replace hJ := hJ.chg hc_ (by first | (show ¬ _ = _; omega) | (intro k_ hk_; simp [Value.ownBlock] at hk_; subst hk_; show ¬ _ = _; omega) | assumption | trivial)
          replace hB5 := hB5.chg hc_ (by first | (show ¬ _ = _; omega) | (intro k_ hk_; simp [Value.ownBlock] at hk_; subst hk_; show ¬ _ = _; omega) | assumption | trivial)
          replace hR := hR.chg hc_ (by first | (show ¬ _ = _; omega) | (intro k_ hk_; simp [Value.ownBlock] at hk_; subst hk_; show ¬ _ = _; omega) | assumption | trivial)
          replace hcw := hcw.next hc_ (fun i_ hi_ => by first | exact .inl hi_ | exact .inl (.inl hi_) | (right; subst hi_; omega) | (left; subst hi_; show _ ≤ _; omega) | (left; subst hi_; assumption))
          replace hbB := bset hbB hc_ (by omega)
          have hz_w5 := hc_.size
          clear hc_
          refine Wn ?_
          refine tN ?_
          refine W_ret ?_
          refine (rC rfl rfl hB4 Tryz.underlying64 rfl siz64 (RunPost.of hFin (hg'.mono (by omega)) hR (fun k hk => ⟨hvd k hk, (hK k (.inr (.inr hk))).s⟩) hJ.jf.own hS hcw rfl)).1
        · first | replace h113 := of_decide_eq_false h113 | replace h113 := of_decide_eq_true (notF h113) | replace h113 := notF h113 | skip
          have hI' := hRI.2.1 h35 h113
          have hg' := hgI
          refine W_skip ?_
          refine bN ?_
          refine tN ?_
          refine W_reg ?_
          refine sm rfl rfl ?_
          refine st (X.add64 rfl rfl (by omega)) rfl ?_
          refine sa rfl rfl ?_
          refine Wn ?_
          refine tN ⟨_, _, ?_, ⟨i + 1, _, _, _, _, _, _, _, _, rfl, rfl, hI', by omega, hcw, hJ, hS, hv, hK, hB4, hB5, hR, hvd, hfl, hg', hbB, hg4, hg5⟩, ⟨rfl, rfl, rfl, rfl, rfl, rfl, rfl, trivial⟩⟩
          omega
    · first | replace h22 := of_decide_eq_false h22 | replace h22 := of_decide_eq_true (notF h22) | replace h22 := notF h22 | skip
      refine W_rs ?_
      refine st (X.eql rfl rfl) rfl ?_
      refine sa rfl rfl ?_
      refine Wn ?_
      refine tN ?_
      refine W_if rfl (fun h42 => ?_) (fun h42 => ?_)
      · first | replace h42 := of_decide_eq_true h42 | replace h42 := of_decide_eq_false (notT h42) | replace h42 := notT h42 | skip
        refine W_rs ?_
        refine sm rfl rfl ?_
        refine sm rfl rfl ?_
        refine sc _ Tryz.func20 rfl (by kernel_rfl) rfl rfl ((Commit_any B gd gj D J vj Sj _ hJ id (n0 + 400 * i) hg (by omega) (by omega)).mono ?_)
        rintro e_ w6 ⟨rfl, hJP⟩
        refine cR ?_
        have hRI := hI.commit (by omega)
        have hgI := (commitJ_good hg J id).mono (m := n0 + 400 * (i + 1)) (by omega)
        obtain ⟨⟨re, D1, J1⟩, hr⟩ : ∃ r, commitJ D J id = r := ⟨_, rfl⟩
        rw [hr] at hJP hRI hgI ⊢
        simp only at hJP hRI hgI ⊢
        obtain ⟨v1, S1, hJ1, hK1, hB41, hB51, hR1, hS1, hv1, hX⟩ := hJP.took hK hB4 hB5 hR
        have hcw1 := hcw.next hX (fun k hk => hk.elim (fun e => (hS k e).imp (fun e => .inl e) (fun e => e)) (fun e => e.elim (fun e => .inl (.inr (.inl e))) (fun e => (hv k e).imp (fun e => .inr (.inr e)) (fun e => e))))
        have hbB1 := bchg hbB hX (fun k hk => by rw [hB]; exact hk.elim (fun e => (hJ.jf.own.lo k e).1) (fun e => e.elim (fun e => by have := hJ.jf.gB; omega) (fun e => (hJ.jf.v k e).2)))
        have hzc1 := hcw.size
        have hS2 : ∀ k, S1 k → S k ∨ w.heap.size ≤ k := fun k hk => (hS1 k hk).elim (fun e => hS k e) (fun e => .inr (by omega))
        have hv2 : ∀ k, v1.ownBlock = some k → v.ownBlock = some k ∨ w.heap.size ≤ k := fun k hk => (hv1 k hk).elim (fun e => hv k e) (fun e => .inr (by omega))
        have hz_w6 := hX.size
        clear hJP hJ hK hB4 hB5 hR hcw hbB hS hv hX hS1 hv1
        have hJ := hJ1
        have hK := hK1
        have hB4 := hB41
        have hB5 := hB51
        have hR := hR1
        have hcw := hcw1
        have hbB := hbB1
        have hS := hS2
        have hv := hv2
        clear hJ1 hK1 hB41 hB51 hR1 hcw1 hbB1 hS2 hv2
        have hne5 : ∀ k, k = g5 → Ap S1 gj v1 k := fun k hk => hK k (.inr (.inl hk))
        refine sa rfl rfl ?_
        refine Wn ?_
        refine tN ?_
        refine W_rs ?_
        refine sm rfl rfl ?_
        refine st (X.eql rfl rfl) rfl ?_
        refine Wn ?_
        refine tN ?_
        refine W_if rfl (fun h48 => ?_) (fun h48 => ?_)
        · first | replace h48 := of_decide_eq_true h48 | replace h48 := of_decide_eq_false (notT h48) | replace h48 := notT h48 | skip
          have hI' := hRI.1 h48
          have hg' := hgI
          refine W_reg ?_
          refine st (X.fa fa64_1 rfl) rfl ?_
          refine st (X.ldL rfl hB5 Tryz.underlying42 rfl rfl) rfl ?_
          refine sm rfl rfl ?_
          refine sbs1 rfl Tryz.underlying42 inf9 rfl rfl (by decide) (by decide) rfl (fun g52 w7 hR52 hg52 hb => ?_)
          replace hcw := hcw.then_below hb
          replace hbB := bthen hbB hb
          replace hJ := hJ.bel hb
          replace hB4 := hB4.bel hb
          replace hB5 := hB5.bel hb
          replace hR := hR.bel hb
          have hz_w7 := hb.size
          clear hb
          have hl52 := hR52.blt (by decide)
          refine sapp rfl rfl Tryz.underlying42 inf9 rfl (by decide) hR (hR52.src Tryz.underlying42 (by intro u hu; rw [show u = str tx by simpa [Value.cells, str] using hu]; rfl)) (by simp only [maxLen]; omega) (by omega) rfl (fun vd' w8 hR2 hC2 hvo => ?_)
          obtain ⟨ad', cd', rfl, _, _⟩ := hR2.shape
          have hz_w8 := hC2.size
          have hzJ := hJ.blk.lt
          have hzc9 := hcw.size
          have hK2 : ∀ k, Mine g4 g5 (.slice ad' (x.done.length + 1) cd') k → Ap S1 gj v1 k := fun k hk => by
            rcases hk with hk | hk | hk
            · exact hK k (.inl hk)
            · exact hK k (.inr (.inl hk))
            · rcases hvo with e | e
              · exact hK k (.inr (.inr (e ▸ hk)))
              · rw [e] at hk
                injection hk with hk
                exact hJ.fresh (by omega)
          have hvd2 : ∀ k, (Value.slice ad' (x.done.length + 1) cd').ownBlock = some k → w.heap.size ≤ k := fun k hk => by
            rcases hvo with e | e
            · exact hvd k (e ▸ hk)
            · rw [e] at hk
              injection hk with hk
              omega
          have hne1 := hR.ne2 hB5 (by decide)
          have hne4 := hR.ne2 hB4 (by decide)
          replace hJ := hJ.chg hC2 (fun k hk => hK k (.inr (.inr hk)))
          replace hB4 := hB4.chg hC2 (fun hk => hne4 _ hk rfl)
          replace hB5 := hB5.chg hC2 (fun hk => hne1 _ hk rfl)
          replace hcw := hcw.next hC2 (fun k hk => .inr (hvd k hk))
          replace hbB := bchg hbB hC2 (fun k hk => by have := hvd k hk; omega)
          have hR' : Row w8 9 1 (.slice ad' (x.done.length + 1) cd') (x.done ++ [tx]).length ((x.done ++ [tx]).map str) := by simpa [str, Value.cells] using hR2
          clear hR hR2 hC2 hvo hK hvd
          have hR := hR'
          have hK := hK2
          have hvd := hvd2
          clear hR' hK2 hvd2
          have hne := hR.ne2 hB5 (by decide)
          refine st (X.fa fa64_1 rfl) rfl ?_
          refine ssB rfl rfl hB5 siz42 rfl (by first | decide | simp) (fun w9 hB_ hc_ => ?_)
          replace hB5 := hB_
          clear hB_
          replace hJ := hJ.chg hc_ (by first | (show ¬ _ = _; omega) | (intro k_ hk_; simp [Value.ownBlock] at hk_; subst hk_; show ¬ _ = _; omega) | assumption | trivial)
          replace hB4 := hB4.chg hc_ (by first | (show ¬ _ = _; omega) | (intro k_ hk_; simp [Value.ownBlock] at hk_; subst hk_; show ¬ _ = _; omega) | assumption | trivial)
          replace hR := hR.chg hc_ (by first | (show ¬ _ = _; omega) | (intro k_ hk_; simp [Value.ownBlock] at hk_; subst hk_; show ¬ _ = _; omega) | assumption | trivial)
          replace hcw := hcw.next hc_ (fun i_ hi_ => by first | exact .inl hi_ | exact .inl (.inl hi_) | (right; subst hi_; omega) | (left; subst hi_; show _ ≤ _; omega) | (left; subst hi_; assumption))
          replace hbB := bset hbB hc_ (by omega)
          have hz_w9 := hc_.size
          clear hc_
          refine Wn ?_
          refine bN ?_
          refine tN ?_
          refine W_rs ?_
          refine st (X.fa fa64_3 rfl) rfl ?_
          refine st (X.ldL rfl hB5 Tryz.underlying4 rfl rfl) rfl ?_
          refine sbN rfl (hfl.1) rfl ?_
          refine gY (g := 106) rfl rfl rfl ?_
          refine st (X.fa fa64_5 rfl) rfl ?_
          refine gY (g := 106) rfl rfl rfl ?_
          refine st (X.ldL rfl hB5 Tryz.underlying4 rfl rfl) rfl ?_
          refine st (X.pickF rfl rfl) rfl ?_
          refine sbN rfl (hfl.2) rfl ?_
          refine gY (g := 110) rfl rfl rfl ?_
          refine sm rfl rfl ?_
          refine gY (g := 110) rfl rfl rfl ?_
          refine st (X.eql rfl rfl) rfl ?_
          refine st (X.pickF rfl rfl) rfl ?_
          refine Wn ?_
          refine tN ?_
          refine W_if rfl (fun h113 => ?_) (fun h113 => ?_)
          · first | replace h113 := of_decide_eq_true h113 | replace h113 := of_decide_eq_false (notT h113) | replace h113 := notT h113 | skip
            omega
          · first | replace h113 := of_decide_eq_false h113 | replace h113 := of_decide_eq_true (notF h113) | replace h113 := notF h113 | skip
            refine W_skip ?_
            refine bN ?_
            refine tN ?_
            refine W_reg ?_
            refine sm rfl rfl ?_
            refine st (X.add64 rfl rfl (by omega)) rfl ?_
            refine sa rfl rfl ?_
            refine Wn ?_
            refine tN ⟨_, _, ?_, ⟨i + 1, _, _, _, _, _, _, _, _, rfl, rfl, hI', by omega, hcw, hJ, hS, hv, hK, hB4, hB5, hR, hvd, hfl, hg', hbB, hg4, hg5⟩, ⟨rfl, rfl, rfl, rfl, rfl, rfl, rfl, trivial⟩⟩
            omega
        · first | replace h48 := of_decide_eq_false h48 | replace h48 := of_decide_eq_true (notF h48) | replace h48 := notF h48 | skip
          refine W_rs ?_
          refine sm rfl rfl ?_
          refine st (X.neq rfl rfl) rfl ?_
          refine sb rfl rfl (fun h57 => ?_) (fun h57 => ?_)
          · first | replace h57 := of_decide_eq_true h57 | replace h57 := of_decide_eq_false (notT h57) | replace h57 := notT h57 | skip
            refine gY (g := 57) rfl rfl rfl ?_
            refine sm rfl rfl ?_
            refine gY (g := 57) rfl rfl rfl ?_
            refine st (X.neq rfl rfl) rfl ?_
            refine st (X.pickT rfl rfl) rfl ?_
            refine sb rfl rfl (fun h61 => ?_) (fun h61 => ?_)
            · first | replace h61 := of_decide_eq_true h61 | replace h61 := of_decide_eq_false (notT h61) | replace h61 := notT h61 | skip
              refine gY (g := 61) rfl rfl rfl ?_
              refine sm rfl rfl ?_
              refine gY (g := 61) rfl rfl rfl ?_
              refine st (X.neq rfl rfl) rfl ?_
              refine st (X.pickT rfl rfl) rfl ?_
              refine Wn ?_
              refine tN ?_
              refine W_if rfl (fun h64 => ?_) (fun h64 => ?_)
              · first | replace h64 := of_decide_eq_true h64 | replace h64 := of_decide_eq_false (notT h64) | replace h64 := notT h64 | skip
                have hFin := hRI.2.2 h48 (by assumption) (by assumption) (by assumption)
                have hg' := hgI
                have hne := hR.ne2 hB5 (by decide)
                refine W_rs ?_
                refine sm rfl rfl ?_
                refine st (X.fa fa64_2 rfl) rfl ?_
                refine ssB rfl rfl hB5 siz9 rfl (by first | decide | simp) (fun w10 hB_ hc_ => ?_)
                replace hB5 := hB_
                clear hB_
                replace hJ := hJ.chg hc_ (by first | (show ¬ _ = _; omega) | (intro k_ hk_; simp [Value.ownBlock] at hk_; subst hk_; show ¬ _ = _; omega) | assumption | trivial)
                replace hB4 := hB4.chg hc_ (by first | (show ¬ _ = _; omega) | (intro k_ hk_; simp [Value.ownBlock] at hk_; subst hk_; show ¬ _ = _; omega) | assumption | trivial)
                replace hR := hR.chg hc_ (by first | (show ¬ _ = _; omega) | (intro k_ hk_; simp [Value.ownBlock] at hk_; subst hk_; show ¬ _ = _; omega) | assumption | trivial)
                replace hcw := hcw.next hc_ (fun i_ hi_ => by first | exact .inl hi_ | exact .inl (.inl hi_) | (right; subst hi_; omega) | (left; subst hi_; show _ ≤ _; omega) | (left; subst hi_; assumption))
                replace hbB := bset hbB hc_ (by omega)
                have hz_w10 := hc_.size
                clear hc_
                refine Wn ?_
                refine tN ?_
                refine W_reg ?_
                refine st (X.fa fa64_3 rfl) rfl ?_
                refine ssB rfl rfl hB5 siz4 rfl (by first | decide | simp) (fun w11 hB_ hc_ => ?_)
                replace hB5 := hB_
                clear hB_
                replace hJ := hJ.chg hc_ (by first | (show ¬ _ = _; omega) | (intro k_ hk_; simp [Value.ownBlock] at hk_; subst hk_; show ¬ _ = _; omega) | assumption | trivial)
                replace hB4 := hB4.chg hc_ (by first | (show ¬ _ = _; omega) | (intro k_ hk_; simp [Value.ownBlock] at hk_; subst hk_; show ¬ _ = _; omega) | assumption | trivial)
                replace hR := hR.chg hc_ (by first | (show ¬ _ = _; omega) | (intro k_ hk_; simp [Value.ownBlock] at hk_; subst hk_; show ¬ _ = _; omega) | assumption | trivial)
                replace hcw := hcw.next hc_ (fun i_ hi_ => by first | exact .inl hi_ | exact .inl (.inl hi_) | (right; subst hi_; omega) | (left; subst hi_; show _ ≤ _; omega) | (left; subst hi_; assumption))
                replace hbB := bset hbB hc_ (by omega)
                have hz_w11 := hc_.size
                clear hc_
                refine Wn ?_
                refine bN ?_
                refine tN ?_
                refine W_rs ?_
                refine st (X.fa fa64_3 rfl) rfl ?_
                refine st (X.ldL rfl hB5 Tryz.underlying4 rfl rfl) rfl ?_
                refine sbY rfl (rfl) rfl ?_
                refine gN (g := 106) rfl rfl rfl rfl ?_
                refine gN (g := 106) rfl rfl rfl rfl ?_
                refine st (X.pickT rfl rfl) rfl ?_
                refine sm rfl rfl ?_
                refine gN (g := 110) rfl rfl rfl rfl ?_
                refine gN (g := 110) rfl rfl rfl rfl ?_
                refine st (X.pickT rfl rfl) rfl ?_
                refine Wn ?_
                refine tN ?_
                refine W_yes rfl (rfl) ?_
                refine W_exit (bM rfl (tE (tE (bH ?_))))
                refine tN ?_
                refine W_rs ?_
                obtain ⟨ad, cd, rfl, _, _⟩ := hR.shape
                have hne4 : ∀ k, k = g4 → Ap _ gj _ k := fun k hk => hK k (.inl hk)
                have hne4r := hR.ne2 hB4 (by decide)
                refine st (X.ldBN rfl hB5 Tryz.underlying64 rfl siz64) rfl ?_
                refine ssBN rfl rfl hB4 siz64 rfl rfl (fun w12 hB_ hc_ => ?_)
                replace hB4 := hB_
                clear hB_
                replace hJ := hJ.chg hc_ (by first | (show ¬ _ = _; omega) | (intro k_ hk_; simp [Value.ownBlock] at hk_; subst hk_; show ¬ _ = _; omega) | assumption | trivial)
                replace hB5 := hB5.chg hc_ (by first | (show ¬ _ = _; omega) | (intro k_ hk_; simp [Value.ownBlock] at hk_; subst hk_; show ¬ _ = _; omega) | assumption | trivial)
                replace hR := hR.chg hc_ (by first | (show ¬ _ = _; omega) | (intro k_ hk_; simp [Value.ownBlock] at hk_; subst hk_; show ¬ _ = _; omega) | assumption | trivial)
                replace hcw := hcw.next hc_ (fun i_ hi_ => by first | exact .inl hi_ | exact .inl (.inl hi_) | (right; subst hi_; omega) | (left; subst hi_; show _ ≤ _; omega) | (left; subst hi_; assumption))
                replace hbB := bset hbB hc_ (by omega)
                have hz_w12 := hc_.size
                clear hc_
                refine Wn ?_
                refine tN ?_
                refine W_ret ?_
                refine (rC rfl rfl hB4 Tryz.underlying64 rfl siz64 (RunPost.of hFin (hg'.mono (by omega)) hR (fun k hk => ⟨hvd k hk, (hK k (.inr (.inr hk))).s⟩) hJ.jf.own hS hcw rfl)).1
              · first | replace h64 := of_decide_eq_false h64 | replace h64 := of_decide_eq_true (notF h64) | replace h64 := notF h64 | skip
                refine W_skip ?_
                refine bN ?_
                refine tN ?_
                refine W_rs ?_
                refine st (X.fa fa64_3 rfl) rfl ?_
                refine st (X.ldL rfl hB5 Tryz.underlying4 rfl rfl) rfl ?_
                refine sbN rfl (hfl.1) rfl ?_
                refine gY (g := 106) rfl rfl rfl ?_
                refine st (X.fa fa64_5 rfl) rfl ?_
                refine gY (g := 106) rfl rfl rfl ?_
                refine st (X.ldL rfl hB5 Tryz.underlying4 rfl rfl) rfl ?_
                refine st (X.pickF rfl rfl) rfl ?_
                refine sbN rfl (hfl.2) rfl ?_
                refine gY (g := 110) rfl rfl rfl ?_
                refine sm rfl rfl ?_
                refine gY (g := 110) rfl rfl rfl ?_
                refine st (X.eql rfl rfl) rfl ?_
                refine st (X.pickF rfl rfl) rfl ?_
                refine Wn ?_
                refine tN ?_
                refine W_if rfl (fun h113 => ?_) (fun h113 => ?_)
                · first | replace h113 := of_decide_eq_true h113 | replace h113 := of_decide_eq_false (notT h113) | replace h113 := notT h113 | skip
                  omega
                · first | replace h113 := of_decide_eq_false h113 | replace h113 := of_decide_eq_true (notF h113) | replace h113 := notF h113 | skip
                  have hI' := hRI.2.1 (by omega)
                  have hg' := hgI
                  refine W_skip ?_
                  refine bN ?_
                  refine tN ?_
                  refine W_reg ?_
                  refine sm rfl rfl ?_
                  refine st (X.add64 rfl rfl (by omega)) rfl ?_
                  refine sa rfl rfl ?_
                  refine Wn ?_
                  refine tN ⟨_, _, ?_, ⟨i + 1, _, _, _, _, _, _, _, _, rfl, rfl, hI', by omega, hcw, hJ, hS, hv, hK, hB4, hB5, hR, hvd, hfl, hg', hbB, hg4, hg5⟩, ⟨rfl, rfl, rfl, rfl, rfl, rfl, rfl, trivial⟩⟩
                  omega
            · first | replace h61 := of_decide_eq_false h61 | replace h61 := of_decide_eq_true (notF h61) | replace h61 := notF h61 | skip
              refine gN (g := 61) rfl rfl rfl rfl ?_
              refine gN (g := 61) rfl rfl rfl rfl ?_
              refine st (X.pickF rfl rfl) rfl ?_
              refine Wn ?_
              refine tN ?_
              refine W_no rfl (rfl) ?_
              refine W_skip ?_
              refine bN ?_
              refine tN ?_
              refine W_rs ?_
              refine st (X.fa fa64_3 rfl) rfl ?_
              refine st (X.ldL rfl hB5 Tryz.underlying4 rfl rfl) rfl ?_
              refine sbN rfl (hfl.1) rfl ?_
              refine gY (g := 106) rfl rfl rfl ?_
              refine st (X.fa fa64_5 rfl) rfl ?_
              refine gY (g := 106) rfl rfl rfl ?_
              refine st (X.ldL rfl hB5 Tryz.underlying4 rfl rfl) rfl ?_
              refine st (X.pickF rfl rfl) rfl ?_
              refine sbN rfl (hfl.2) rfl ?_
              refine gY (g := 110) rfl rfl rfl ?_
              refine sm rfl rfl ?_
              refine gY (g := 110) rfl rfl rfl ?_
              refine st (X.eql rfl rfl) rfl ?_
              refine st (X.pickF rfl rfl) rfl ?_
              refine Wn ?_
              refine tN ?_
              refine W_if rfl (fun h113 => ?_) (fun h113 => ?_)
              · first | replace h113 := of_decide_eq_true h113 | replace h113 := of_decide_eq_false (notT h113) | replace h113 := notT h113 | skip
                omega
              · first | replace h113 := of_decide_eq_false h113 | replace h113 := of_decide_eq_true (notF h113) | replace h113 := notF h113 | skip
                have hI' := hRI.2.1 (by omega)
                have hg' := hgI
                refine W_skip ?_
                refine bN ?_
                refine tN ?_
                refine W_reg ?_
                refine sm rfl rfl ?_
                refine st (X.add64 rfl rfl (by omega)) rfl ?_
                refine sa rfl rfl ?_
                refine Wn ?_
                refine tN ⟨_, _, ?_, ⟨i + 1, _, _, _, _, _, _, _, _, rfl, rfl, hI', by omega, hcw, hJ, hS, hv, hK, hB4, hB5, hR, hvd, hfl, hg', hbB, hg4, hg5⟩, ⟨rfl, rfl, rfl, rfl, rfl, rfl, rfl, trivial⟩⟩
                omega
          · first | replace h57 := of_decide_eq_false h57 | replace h57 := of_decide_eq_true (notF h57) | replace h57 := notF h57 | skip
            refine gN (g := 57) rfl rfl rfl rfl ?_
            refine gN (g := 57) rfl rfl rfl rfl ?_
            refine st (X.pickF rfl rfl) rfl ?_
            refine sm rfl rfl ?_
            refine gN (g := 61) rfl rfl rfl rfl ?_
            refine gN (g := 61) rfl rfl rfl rfl ?_
            refine st (X.pickF rfl rfl) rfl ?_
            refine Wn ?_
            refine tN ?_
            refine W_no rfl (rfl) ?_
            refine W_skip ?_
            refine bN ?_
            refine tN ?_
            refine W_rs ?_
            refine st (X.fa fa64_3 rfl) rfl ?_
            refine st (X.ldL rfl hB5 Tryz.underlying4 rfl rfl) rfl ?_
            refine sbN rfl (hfl.1) rfl ?_
            refine gY (g := 106) rfl rfl rfl ?_
            refine st (X.fa fa64_5 rfl) rfl ?_
            refine gY (g := 106) rfl rfl rfl ?_
            refine st (X.ldL rfl hB5 Tryz.underlying4 rfl rfl) rfl ?_
            refine st (X.pickF rfl rfl) rfl ?_
            refine sbN rfl (hfl.2) rfl ?_
            refine gY (g := 110) rfl rfl rfl ?_
            refine sm rfl rfl ?_
            refine gY (g := 110) rfl rfl rfl ?_
            refine st (X.eql rfl rfl) rfl ?_
            refine st (X.pickF rfl rfl) rfl ?_
            refine Wn ?_
            refine tN ?_
            refine W_if rfl (fun h113 => ?_) (fun h113 => ?_)
            · first | replace h113 := of_decide_eq_true h113 | replace h113 := of_decide_eq_false (notT h113) | replace h113 := notT h113 | skip
              omega
            · first | replace h113 := of_decide_eq_false h113 | replace h113 := of_decide_eq_true (notF h113) | replace h113 := notF h113 | skip
              have hI' := hRI.2.1 (by omega)
              have hg' := hgI
              refine W_skip ?_
              refine bN ?_
              refine tN ?_
              refine W_reg ?_
              refine sm rfl rfl ?_
              refine st (X.add64 rfl rfl (by omega)) rfl ?_
              refine sa rfl rfl ?_
              refine Wn ?_
              refine tN ⟨_, _, ?_, ⟨i + 1, _, _, _, _, _, _, _, _, rfl, rfl, hI', by omega, hcw, hJ, hS, hv, hK, hB4, hB5, hR, hvd, hfl, hg', hbB, hg4, hg5⟩, ⟨rfl, rfl, rfl, rfl, rfl, rfl, rfl, trivial⟩⟩
              omega
      · first | replace h42 := of_decide_eq_false h42 | replace h42 := of_decide_eq_true (notF h42) | replace h42 := notF h42 | skip
        refine W_rs ?_
        refine st (X.eql rfl rfl) rfl ?_
        refine sa rfl rfl ?_
        refine Wn ?_
        refine tN ?_
        refine W_if rfl (fun h68 => ?_) (fun h68 => ?_)
        · first | replace h68 := of_decide_eq_true h68 | replace h68 := of_decide_eq_false (notT h68) | replace h68 := notT h68 | skip
          refine W_reg ?_
          refine sm rfl rfl ?_
          refine sm rfl rfl ?_
          refine sc _ Tryz.func29 rfl (by kernel_rfl) rfl rfl ((jabort_any B gd gj D J vj Sj _ id hJ).mono ?_)
          rintro e_ w13 ⟨rfl, hJP⟩
          refine cR ?_
          have hI' := hI.abort
          have hg' := hg.mono (m := n0 + 400 * (i + 1)) (by omega)
          obtain ⟨v1, S1, hJ1, hK1, hB41, hB51, hR1, hS1, hv1, hX⟩ := hJP.took hK hB4 hB5 hR
          have hcw1 := hcw.next hX (fun k hk => hk.elim (fun e => (hS k e).imp (fun e => .inl e) (fun e => e)) (fun e => e.elim (fun e => .inl (.inr (.inl e))) (fun e => (hv k e).imp (fun e => .inr (.inr e)) (fun e => e))))
          have hbB1 := bchg hbB hX (fun k hk => by rw [hB]; exact hk.elim (fun e => (hJ.jf.own.lo k e).1) (fun e => e.elim (fun e => by have := hJ.jf.gB; omega) (fun e => (hJ.jf.v k e).2)))
          have hzc1 := hcw.size
          have hS2 : ∀ k, S1 k → S k ∨ w.heap.size ≤ k := fun k hk => (hS1 k hk).elim (fun e => hS k e) (fun e => .inr (by omega))
          have hv2 : ∀ k, v1.ownBlock = some k → v.ownBlock = some k ∨ w.heap.size ≤ k := fun k hk => (hv1 k hk).elim (fun e => hv k e) (fun e => .inr (by omega))
          have hz_w13 := hX.size
          clear hJP hJ hK hB4 hB5 hR hcw hbB hS hv hX hS1 hv1
          have hJ := hJ1
          have hK := hK1
          have hB4 := hB41
          have hB5 := hB51
          have hR := hR1
          have hcw := hcw1
          have hbB := hbB1
          have hS := hS2
          have hv := hv2
          clear hJ1 hK1 hB41 hB51 hR1 hcw1 hbB1 hS2 hv2
          have hne5 : ∀ k, k = g5 → Ap S1 gj v1 k := fun k hk => hK k (.inr (.inl hk))
          refine Wn ?_
          refine bN ?_
          refine tN ?_
          refine W_rs ?_
          refine st (X.fa fa64_3 rfl) rfl ?_
          refine st (X.ldL rfl hB5 Tryz.underlying4 rfl rfl) rfl ?_
          refine sbN rfl (hfl.1) rfl ?_
          refine gY (g := 106) rfl rfl rfl ?_
          refine st (X.fa fa64_5 rfl) rfl ?_
          refine gY (g := 106) rfl rfl rfl ?_
          refine st (X.ldL rfl hB5 Tryz.underlying4 rfl rfl) rfl ?_
          refine st (X.pickF rfl rfl) rfl ?_
          refine sbN rfl (hfl.2) rfl ?_
          refine gY (g := 110) rfl rfl rfl ?_
          refine sm rfl rfl ?_
          refine gY (g := 110) rfl rfl rfl ?_
          refine st (X.eql rfl rfl) rfl ?_
          refine st (X.pickF rfl rfl) rfl ?_
          refine Wn ?_
          refine tN ?_
          refine W_no rfl (rfl) ?_
          refine W_skip ?_
          refine bN ?_
          refine tN ?_
          refine W_reg ?_
          refine sm rfl rfl ?_
          refine st (X.add64 rfl rfl (by omega)) rfl ?_
          refine sa rfl rfl ?_
          refine Wn ?_
          refine tN ⟨_, _, ?_, ⟨i + 1, _, _, _, _, _, _, _, _, rfl, rfl, hI', by omega, hcw, hJ, hS, hv, hK, hB4, hB5, hR, hvd, hfl, hg', hbB, hg4, hg5⟩, ⟨rfl, rfl, rfl, rfl, rfl, rfl, rfl, trivial⟩⟩
          omega
        · first | replace h68 := of_decide_eq_false h68 | replace h68 := of_decide_eq_true (notF h68) | replace h68 := notF h68 | skip
          refine W_rs ?_
          refine st (X.eql rfl rfl) rfl ?_
          refine sa rfl rfl ?_
          refine Wn ?_
          refine tN ?_
          refine W_if rfl (fun h73 => ?_) (fun h73 => ?_)
          · first | replace h73 := of_decide_eq_true h73 | replace h73 := of_decide_eq_false (notT h73) | replace h73 := notT h73 | skip
            refine W_rs ?_
            refine sm rfl rfl ?_
            refine sm rfl rfl ?_
            refine sm rfl rfl ?_
            refine st (X.idxA rfl rfl Tryz.underlying59 siz73 rfl (by omega)) rfl ?_
            refine st (X.fa fa73_2 rfl) rfl ?_
            refine st (X.ld rfl Tryz.underlying9 rfl (op16_cell (hO.1.bel hbB) rfl ho rfl)) rfl ?_
            refine sc _ Tryz.func21 rfl (by kernel_rfl) rfl rfl ((Checkpoint_any B gd gj D J vj Sj _ hJ o.text (n0 + 400 * i) hg (by omega) (by omega)).mono ?_)
            rintro e_ w14 ⟨rfl, hJP⟩
            refine cR ?_
            have hRI := hI.check (by omega) hot
            have hgI := (checkJ_good hg J o.text).mono (m := n0 + 400 * (i + 1)) (by omega)
            obtain ⟨⟨re, D1, J1⟩, hr⟩ : ∃ r, checkJ D J o.text = r := ⟨_, rfl⟩
            rw [hr] at hJP hRI hgI ⊢
            simp only at hJP hRI hgI ⊢
            obtain ⟨v1, S1, hJ1, hK1, hB41, hB51, hR1, hS1, hv1, hX⟩ := hJP.took hK hB4 hB5 hR
            have hcw1 := hcw.next hX (fun k hk => hk.elim (fun e => (hS k e).imp (fun e => .inl e) (fun e => e)) (fun e => e.elim (fun e => .inl (.inr (.inl e))) (fun e => (hv k e).imp (fun e => .inr (.inr e)) (fun e => e))))
            have hbB1 := bchg hbB hX (fun k hk => by rw [hB]; exact hk.elim (fun e => (hJ.jf.own.lo k e).1) (fun e => e.elim (fun e => by have := hJ.jf.gB; omega) (fun e => (hJ.jf.v k e).2)))
            have hzc1 := hcw.size
            have hS2 : ∀ k, S1 k → S k ∨ w.heap.size ≤ k := fun k hk => (hS1 k hk).elim (fun e => hS k e) (fun e => .inr (by omega))
            have hv2 : ∀ k, v1.ownBlock = some k → v.ownBlock = some k ∨ w.heap.size ≤ k := fun k hk => (hv1 k hk).elim (fun e => hv k e) (fun e => .inr (by omega))
            have hz_w14 := hX.size
            clear hJP hJ hK hB4 hB5 hR hcw hbB hS hv hX hS1 hv1
            have hJ := hJ1
            have hK := hK1
            have hB4 := hB41
            have hB5 := hB51
            have hR := hR1
            have hcw := hcw1
            have hbB := hbB1
            have hS := hS2
            have hv := hv2
            clear hJ1 hK1 hB41 hB51 hR1 hcw1 hbB1 hS2 hv2
            have hne5 : ∀ k, k = g5 → Ap S1 gj v1 k := fun k hk => hK k (.inr (.inl hk))
            refine sa rfl rfl ?_
            refine Wn ?_
            refine tN ?_
            refine W_rs ?_
            refine sm rfl rfl ?_
            refine st (X.eql rfl rfl) rfl ?_
            refine Wn ?_
            refine tN ?_
            refine W_if rfl (fun h83 => ?_) (fun h83 => ?_)
            · first | replace h83 := of_decide_eq_true h83 | replace h83 := of_decide_eq_false (notT h83) | replace h83 := notT h83 | skip
              have hI' := hRI.1 h83
              have hg' := hgI
              have hne := hR.ne2 hB5 (by decide)
              refine W_rs ?_
              refine sm rfl rfl ?_
              refine sm rfl rfl ?_
              refine st (X.idxA rfl rfl Tryz.underlying59 siz73 rfl (by omega)) rfl ?_
              refine st (X.fa fa73_2 rfl) rfl ?_
              refine st (X.ld rfl Tryz.underlying9 rfl (op16_cell (hO.1.bel hbB) rfl ho rfl)) rfl ?_
              refine st (X.fa fa64_0 rfl) rfl ?_
              refine ssB rfl rfl hB5 siz9 rfl (by first | decide | simp) (fun w15 hB_ hc_ => ?_)
              replace hB5 := hB_
              clear hB_
              replace hJ := hJ.chg hc_ (by first | (show ¬ _ = _; omega) | (intro k_ hk_; simp [Value.ownBlock] at hk_; subst hk_; show ¬ _ = _; omega) | assumption | trivial)
              replace hB4 := hB4.chg hc_ (by first | (show ¬ _ = _; omega) | (intro k_ hk_; simp [Value.ownBlock] at hk_; subst hk_; show ¬ _ = _; omega) | assumption | trivial)
              replace hR := hR.chg hc_ (by first | (show ¬ _ = _; omega) | (intro k_ hk_; simp [Value.ownBlock] at hk_; subst hk_; show ¬ _ = _; omega) | assumption | trivial)
              replace hcw := hcw.next hc_ (fun i_ hi_ => by first | exact .inl hi_ | exact .inl (.inl hi_) | (right; subst hi_; omega) | (left; subst hi_; show _ ≤ _; omega) | (left; subst hi_; assumption))
              replace hbB := bset hbB hc_ (by omega)
              have hz_w15 := hc_.size
              clear hc_
              refine Wn ?_
              refine tN ?_
              refine W_reg ?_
              refine st (X.fa fa64_1 rfl) rfl ?_
              refine ssB rfl rfl hB5 siz42 rfl (by first | decide | simp) (fun w16 hB_ hc_ => ?_)
              replace hB5 := hB_
              clear hB_
              replace hJ := hJ.chg hc_ (by first | (show ¬ _ = _; omega) | (intro k_ hk_; simp [Value.ownBlock] at hk_; subst hk_; show ¬ _ = _; omega) | assumption | trivial)
              replace hB4 := hB4.chg hc_ (by first | (show ¬ _ = _; omega) | (intro k_ hk_; simp [Value.ownBlock] at hk_; subst hk_; show ¬ _ = _; omega) | assumption | trivial)
              replace hR := hR.chg hc_ (by first | (show ¬ _ = _; omega) | (intro k_ hk_; simp [Value.ownBlock] at hk_; subst hk_; show ¬ _ = _; omega) | assumption | trivial)
              replace hcw := hcw.next hc_ (fun i_ hi_ => by first | exact .inl hi_ | exact .inl (.inl hi_) | (right; subst hi_; omega) | (left; subst hi_; show _ ≤ _; omega) | (left; subst hi_; assumption))
              replace hbB := bset hbB hc_ (by omega)
              have hz_w16 := hc_.size
              clear hc_
              have hR' : Row w16 9 1 (.slice none 0 0) ([] : List (List UInt8)).length (([] : List (List UInt8)).map str) := Row.nil _ _ _
              have hK' : ∀ k, Mine g4 g5 (.slice none 0 0) k → Ap S1 gj v1 k := fun k hk => by
                rcases hk with hk | hk | hk
                · exact hK k (.inl hk)
                · exact hK k (.inr (.inl hk))
                · simp [Value.ownBlock] at hk
              have hvd' : ∀ k, (Value.slice none 0 0).ownBlock = some k → w.heap.size ≤ k := fun k hk => by simp [Value.ownBlock] at hk
              clear hR hK hvd
              have hR := hR'
              have hK := hK'
              have hvd := hvd'
              refine Wn ?_
              refine bN ?_
              refine tN ?_
              refine W_rs ?_
              refine st (X.fa fa64_3 rfl) rfl ?_
              refine st (X.ldL rfl hB5 Tryz.underlying4 rfl rfl) rfl ?_
              refine sbN rfl (hfl.1) rfl ?_
              refine gY (g := 106) rfl rfl rfl ?_
              refine st (X.fa fa64_5 rfl) rfl ?_
              refine gY (g := 106) rfl rfl rfl ?_
              refine st (X.ldL rfl hB5 Tryz.underlying4 rfl rfl) rfl ?_
              refine st (X.pickF rfl rfl) rfl ?_
              refine sbN rfl (hfl.2) rfl ?_
              refine gY (g := 110) rfl rfl rfl ?_
              refine sm rfl rfl ?_
              refine gY (g := 110) rfl rfl rfl ?_
              refine st (X.eql rfl rfl) rfl ?_
              refine st (X.pickF rfl rfl) rfl ?_
              refine Wn ?_
              refine tN ?_
              refine W_if rfl (fun h113 => ?_) (fun h113 => ?_)
              · first | replace h113 := of_decide_eq_true h113 | replace h113 := of_decide_eq_false (notT h113) | replace h113 := notT h113 | skip
                omega
              · first | replace h113 := of_decide_eq_false h113 | replace h113 := of_decide_eq_true (notF h113) | replace h113 := notF h113 | skip
                refine W_skip ?_
                refine bN ?_
                refine tN ?_
                refine W_reg ?_
                refine sm rfl rfl ?_
                refine st (X.add64 rfl rfl (by omega)) rfl ?_
                refine sa rfl rfl ?_
                refine Wn ?_
                refine tN ⟨_, _, ?_, ⟨i + 1, _, _, _, _, _, _, _, _, rfl, rfl, hI', by omega, hcw, hJ, hS, hv, hK, hB4, hB5, hR, hvd, hfl, hg', hbB, hg4, hg5⟩, ⟨rfl, rfl, rfl, rfl, rfl, rfl, rfl, trivial⟩⟩
                omega
            · first | replace h83 := of_decide_eq_false h83 | replace h83 := of_decide_eq_true (notF h83) | replace h83 := notF h83 | skip
              refine W_rs ?_
              refine sm rfl rfl ?_
              refine st (X.neq rfl rfl) rfl ?_
              refine sb rfl rfl (fun h93 => ?_) (fun h93 => ?_)
              · first | replace h93 := of_decide_eq_true h93 | replace h93 := of_decide_eq_false (notT h93) | replace h93 := notT h93 | skip
                refine gY (g := 93) rfl rfl rfl ?_
                refine sm rfl rfl ?_
                refine gY (g := 93) rfl rfl rfl ?_
                refine st (X.neq rfl rfl) rfl ?_
                refine st (X.pickT rfl rfl) rfl ?_
                refine Wn ?_
                refine tN ?_
                refine W_if rfl (fun h96 => ?_) (fun h96 => ?_)
                · first | replace h96 := of_decide_eq_true h96 | replace h96 := of_decide_eq_false (notT h96) | replace h96 := notT h96 | skip
                  have hFin := hRI.2.2 h83 (by assumption) (by assumption)
                  have hg' := hgI
                  have hne := hR.ne2 hB5 (by decide)
                  refine W_rs ?_
                  refine sm rfl rfl ?_
                  refine sm rfl rfl ?_
                  refine st (X.idxA rfl rfl Tryz.underlying59 siz73 rfl (by omega)) rfl ?_
                  refine st (X.fa fa73_2 rfl) rfl ?_
                  refine st (X.ld rfl Tryz.underlying9 rfl (op16_cell (hO.1.bel hbB) rfl ho rfl)) rfl ?_
                  refine st (X.fa fa64_4 rfl) rfl ?_
                  refine ssB rfl rfl hB5 siz9 rfl (by first | decide | simp) (fun w17 hB_ hc_ => ?_)
                  replace hB5 := hB_
                  clear hB_
                  replace hJ := hJ.chg hc_ (by first | (show ¬ _ = _; omega) | (intro k_ hk_; simp [Value.ownBlock] at hk_; subst hk_; show ¬ _ = _; omega) | assumption | trivial)
                  replace hB4 := hB4.chg hc_ (by first | (show ¬ _ = _; omega) | (intro k_ hk_; simp [Value.ownBlock] at hk_; subst hk_; show ¬ _ = _; omega) | assumption | trivial)
                  replace hR := hR.chg hc_ (by first | (show ¬ _ = _; omega) | (intro k_ hk_; simp [Value.ownBlock] at hk_; subst hk_; show ¬ _ = _; omega) | assumption | trivial)
                  replace hcw := hcw.next hc_ (fun i_ hi_ => by first | exact .inl hi_ | exact .inl (.inl hi_) | (right; subst hi_; omega) | (left; subst hi_; show _ ≤ _; omega) | (left; subst hi_; assumption))
                  replace hbB := bset hbB hc_ (by omega)
                  have hz_w17 := hc_.size
                  clear hc_
                  refine Wn ?_
                  refine tN ?_
                  refine W_reg ?_
                  refine st (X.fa fa64_5 rfl) rfl ?_
                  refine ssB rfl rfl hB5 siz4 rfl (by first | decide | simp) (fun w18 hB_ hc_ => ?_)
                  replace hB5 := hB_
                  clear hB_
                  replace hJ := hJ.chg hc_ (by first | (show ¬ _ = _; omega) | (intro k_ hk_; simp [Value.ownBlock] at hk_; subst hk_; show ¬ _ = _; omega) | assumption | trivial)
                  replace hB4 := hB4.chg hc_ (by first | (show ¬ _ = _; omega) | (intro k_ hk_; simp [Value.ownBlock] at hk_; subst hk_; show ¬ _ = _; omega) | assumption | trivial)
                  replace hR := hR.chg hc_ (by first | (show ¬ _ = _; omega) | (intro k_ hk_; simp [Value.ownBlock] at hk_; subst hk_; show ¬ _ = _; omega) | assumption | trivial)
                  replace hcw := hcw.next hc_ (fun i_ hi_ => by first | exact .inl hi_ | exact .inl (.inl hi_) | (right; subst hi_; omega) | (left; subst hi_; show _ ≤ _; omega) | (left; subst hi_; assumption))
                  replace hbB := bset hbB hc_ (by omega)
                  have hz_w18 := hc_.size
                  clear hc_
                  refine Wn ?_
                  refine bN ?_
                  refine tN ?_
                  refine W_rs ?_
                  refine st (X.fa fa64_3 rfl) rfl ?_
                  refine st (X.ldL rfl hB5 Tryz.underlying4 rfl rfl) rfl ?_
                  refine sbN rfl (hfl.1) rfl ?_
                  refine gY (g := 106) rfl rfl rfl ?_
                  refine st (X.fa fa64_5 rfl) rfl ?_
                  refine gY (g := 106) rfl rfl rfl ?_
                  refine st (X.ldL rfl hB5 Tryz.underlying4 rfl rfl) rfl ?_
                  refine st (X.pickF rfl rfl) rfl ?_
                  refine sbY rfl (rfl) rfl ?_
                  refine gN (g := 110) rfl rfl rfl rfl ?_
                  refine gN (g := 110) rfl rfl rfl rfl ?_
                  refine st (X.pickT rfl rfl) rfl ?_
                  refine Wn ?_
                  refine tN ?_
                  refine W_yes rfl (rfl) ?_
                  refine W_exit (bM rfl (tE (tE (bH ?_))))
                  refine tN ?_
                  refine W_rs ?_
                  obtain ⟨ad, cd, rfl, _, _⟩ := hR.shape
                  have hne4 : ∀ k, k = g4 → Ap _ gj _ k := fun k hk => hK k (.inl hk)
                  have hne4r := hR.ne2 hB4 (by decide)
                  refine st (X.ldBN rfl hB5 Tryz.underlying64 rfl siz64) rfl ?_
                  refine ssBN rfl rfl hB4 siz64 rfl rfl (fun w19 hB_ hc_ => ?_)
                  replace hB4 := hB_
                  clear hB_
                  replace hJ := hJ.chg hc_ (by first | (show ¬ _ = _; omega) | (intro k_ hk_; simp [Value.ownBlock] at hk_; subst hk_; show ¬ _ = _; omega) | assumption | trivial)
                  replace hB5 := hB5.chg hc_ (by first | (show ¬ _ = _; omega) | (intro k_ hk_; simp [Value.ownBlock] at hk_; subst hk_; show ¬ _ = _; omega) | assumption | trivial)
                  replace hR := hR.chg hc_ (by first | (show ¬ _ = _; omega) | (intro k_ hk_; simp [Value.ownBlock] at hk_; subst hk_; show ¬ _ = _; omega) | assumption | trivial)
                  replace hcw := hcw.next hc_ (fun i_ hi_ => by first | exact .inl hi_ | exact .inl (.inl hi_) | (right; subst hi_; omega) | (left; subst hi_; show _ ≤ _; omega) | (left; subst hi_; assumption))
                  replace hbB := bset hbB hc_ (by omega)
                  have hz_w19 := hc_.size
                  clear hc_
                  refine Wn ?_
                  refine tN ?_
                  refine W_ret ?_
                  refine (rC rfl rfl hB4 Tryz.underlying64 rfl siz64 (RunPost.of hFin (hg'.mono (by omega)) hR (fun k hk => ⟨hvd k hk, (hK k (.inr (.inr hk))).s⟩) hJ.jf.own hS hcw rfl)).1
                · first | replace h96 := of_decide_eq_false h96 | replace h96 := of_decide_eq_true (notF h96) | replace h96 := notF h96 | skip
                  refine W_skip ?_
                  refine bN ?_
                  refine tN ?_
                  refine W_rs ?_
                  refine st (X.fa fa64_3 rfl) rfl ?_
                  refine st (X.ldL rfl hB5 Tryz.underlying4 rfl rfl) rfl ?_
                  refine sbN rfl (hfl.1) rfl ?_
                  refine gY (g := 106) rfl rfl rfl ?_
                  refine st (X.fa fa64_5 rfl) rfl ?_
                  refine gY (g := 106) rfl rfl rfl ?_
                  refine st (X.ldL rfl hB5 Tryz.underlying4 rfl rfl) rfl ?_
                  refine st (X.pickF rfl rfl) rfl ?_
                  refine sbN rfl (hfl.2) rfl ?_
                  refine gY (g := 110) rfl rfl rfl ?_
                  refine sm rfl rfl ?_
                  refine gY (g := 110) rfl rfl rfl ?_
                  refine st (X.eql rfl rfl) rfl ?_
                  refine st (X.pickF rfl rfl) rfl ?_
                  refine Wn ?_
                  refine tN ?_
                  refine W_if rfl (fun h113 => ?_) (fun h113 => ?_)
                  · first | replace h113 := of_decide_eq_true h113 | replace h113 := of_decide_eq_false (notT h113) | replace h113 := notT h113 | skip
                    omega
                  · first | replace h113 := of_decide_eq_false h113 | replace h113 := of_decide_eq_true (notF h113) | replace h113 := notF h113 | skip
                    have hI' := hRI.2.1 (by omega)
                    have hg' := hgI
                    refine W_skip ?_
                    refine bN ?_
                    refine tN ?_
                    refine W_reg ?_
                    refine sm rfl rfl ?_
                    refine st (X.add64 rfl rfl (by omega)) rfl ?_
                    refine sa rfl rfl ?_
                    refine Wn ?_
                    refine tN ⟨_, _, ?_, ⟨i + 1, _, _, _, _, _, _, _, _, rfl, rfl, hI', by omega, hcw, hJ, hS, hv, hK, hB4, hB5, hR, hvd, hfl, hg', hbB, hg4, hg5⟩, ⟨rfl, rfl, rfl, rfl, rfl, rfl, rfl, trivial⟩⟩
                    omega
              · first | replace h93 := of_decide_eq_false h93 | replace h93 := of_decide_eq_true (notF h93) | replace h93 := notF h93 | skip
                refine gN (g := 93) rfl rfl rfl rfl ?_
                refine gN (g := 93) rfl rfl rfl rfl ?_
                refine st (X.pickF rfl rfl) rfl ?_
                refine Wn ?_
                refine tN ?_
                refine W_no rfl (rfl) ?_
                refine W_skip ?_
                refine bN ?_
                refine tN ?_
                refine W_rs ?_
                refine st (X.fa fa64_3 rfl) rfl ?_
                refine st (X.ldL rfl hB5 Tryz.underlying4 rfl rfl) rfl ?_
                refine sbN rfl (hfl.1) rfl ?_
                refine gY (g := 106) rfl rfl rfl ?_
                refine st (X.fa fa64_5 rfl) rfl ?_
                refine gY (g := 106) rfl rfl rfl ?_
                refine st (X.ldL rfl hB5 Tryz.underlying4 rfl rfl) rfl ?_
                refine st (X.pickF rfl rfl) rfl ?_
                refine sbN rfl (hfl.2) rfl ?_
                refine gY (g := 110) rfl rfl rfl ?_
                refine sm rfl rfl ?_
                refine gY (g := 110) rfl rfl rfl ?_
                refine st (X.eql rfl rfl) rfl ?_
                refine st (X.pickF rfl rfl) rfl ?_
                refine Wn ?_
                refine tN ?_
                refine W_if rfl (fun h113 => ?_) (fun h113 => ?_)
                · first | replace h113 := of_decide_eq_true h113 | replace h113 := of_decide_eq_false (notT h113) | replace h113 := notT h113 | skip
                  omega
                · first | replace h113 := of_decide_eq_false h113 | replace h113 := of_decide_eq_true (notF h113) | replace h113 := notF h113 | skip
                  have hI' := hRI.2.1 (by omega)
                  have hg' := hgI
                  refine W_skip ?_
                  refine bN ?_
                  refine tN ?_
                  refine W_reg ?_
                  refine sm rfl rfl ?_
                  refine st (X.add64 rfl rfl (by omega)) rfl ?_
                  refine sa rfl rfl ?_
                  refine Wn ?_
                  refine tN ⟨_, _, ?_, ⟨i + 1, _, _, _, _, _, _, _, _, rfl, rfl, hI', by omega, hcw, hJ, hS, hv, hK, hB4, hB5, hR, hvd, hfl, hg', hbB, hg4, hg5⟩, ⟨rfl, rfl, rfl, rfl, rfl, rfl, rfl, trivial⟩⟩
                  omega
          · first | replace h73 := of_decide_eq_false h73 | replace h73 := of_decide_eq_true (notF h73) | replace h73 := notF h73 | skip
            have hI' := hI.up
            have hg' := hg.mono (m := n0 + 400 * (i + 1)) (by omega)
            refine W_skip ?_
            refine bN ?_
            refine tN ?_
            refine W_rs ?_
            refine st (X.fa fa64_3 rfl) rfl ?_
            refine st (X.ldL rfl hB5 Tryz.underlying4 rfl rfl) rfl ?_
            refine sbN rfl (hfl.1) rfl ?_
            refine gY (g := 106) rfl rfl rfl ?_
            refine st (X.fa fa64_5 rfl) rfl ?_
            refine gY (g := 106) rfl rfl rfl ?_
            refine st (X.ldL rfl hB5 Tryz.underlying4 rfl rfl) rfl ?_
            refine st (X.pickF rfl rfl) rfl ?_
            refine sbN rfl (hfl.2) rfl ?_
            refine gY (g := 110) rfl rfl rfl ?_
            refine sm rfl rfl ?_
            refine gY (g := 110) rfl rfl rfl ?_
            refine st (X.eql rfl rfl) rfl ?_
            refine st (X.pickF rfl rfl) rfl ?_
            refine Wn ?_
            refine tN ?_
            refine W_no rfl (rfl) ?_
            refine W_skip ?_
            refine bN ?_
            refine tN ?_
            refine W_reg ?_
            refine sm rfl rfl ?_
            refine st (X.add64 rfl rfl (by omega)) rfl ?_
            refine sa rfl rfl ?_
            refine Wn ?_
            refine tN ⟨_, _, ?_, ⟨i + 1, _, _, _, _, _, _, _, _, rfl, rfl, hI', by omega, hcw, hJ, hS, hv, hK, hB4, hB5, hR, hvd, hfl, hg', hbB, hg4, hg5⟩, ⟨rfl, rfl, rfl, rfl, rfl, rfl, rfl, trivial⟩⟩
            omega
  · first | replace h14 := of_decide_eq_false h14 | replace h14 := of_decide_eq_true (notF h14) | replace h14 := notF h14 | skip
    obtain rfl : i = l.length := by omega
    have hFin := hI.final (by omega)
    have hg' := hg
    refine W_exit (tE (tE (bH ?_)))
    refine tN ?_
    refine W_rs ?_
    obtain ⟨ad, cd, rfl, _, _⟩ := hR.shape
    have hne4 : ∀ k, k = g4 → Ap _ gj _ k := fun k hk => hK k (.inl hk)
    have hne4r := hR.ne2 hB4 (by decide)
    refine st (X.ldBN rfl hB5 Tryz.underlying64 rfl siz64) rfl ?_
    refine ssBN rfl rfl hB4 siz64 rfl rfl (fun w20 hB_ hc_ => ?_)
    replace hB4 := hB_
    clear hB_
    replace hJ := hJ.chg hc_ (by first | (show ¬ _ = _; omega) | (intro k_ hk_; simp [Value.ownBlock] at hk_; subst hk_; show ¬ _ = _; omega) | assumption | trivial)
    replace hB5 := hB5.chg hc_ (by first | (show ¬ _ = _; omega) | (intro k_ hk_; simp [Value.ownBlock] at hk_; subst hk_; show ¬ _ = _; omega) | assumption | trivial)
    replace hR := hR.chg hc_ (by first | (show ¬ _ = _; omega) | (intro k_ hk_; simp [Value.ownBlock] at hk_; subst hk_; show ¬ _ = _; omega) | assumption | trivial)
    replace hcw := hcw.next hc_ (fun i_ hi_ => by first | exact .inl hi_ | exact .inl (.inl hi_) | (right; subst hi_; omega) | (left; subst hi_; show _ ≤ _; omega) | (left; subst hi_; assumption))
    replace hbB := bset hbB hc_ (by omega)
    have hz_w20 := hc_.size
    clear hc_
    refine Wn ?_
    refine tN ?_
    refine W_ret ?_
    refine (rC rfl rfl hB4 Tryz.underlying64 rfl siz64 (RunPost.of hFin (hg'.mono (by omega)) hR (fun k hk => ⟨hvd k hk, (hK k (.inr (.inr hk))).s⟩) hJ.jf.own hS hcw rfl)).1
end Go.Proofs.YtnijmegalgoipaaGreatDoor
