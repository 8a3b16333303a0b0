/- The law DiskCopies. -/
import Derived.Test.YtnijmegalgoipaaGreatDoorRefD7
namespace Go.Proofs.YtnijmegalgoipaaGreatDoor
open Go.RowKit
def runD (D : DiskD) (l : List OpM) : DiskD := l.foldl (fun D o => (doesM D o).2) D
theorem runD_next {D : DiskD} {l : List OpM} {i : Nat} {o : OpM} (h : l[i]? = some o) : runD D (l.take (i + 1)) = (doesM (runD D (l.take i)) o).2 := by
  rw [take_next' h]
  unfold runD
  rw [List.foldl_append]
  rfl
set_option maxRecDepth 10000 in
theorem DiskCopies_walk (w : World) (v : Value) (l : List OpM) (hO : OpsAt w v l) (v2 : Value) (m : List OpM) (hM : OpsAt w v2 m) :
    Calls Tryz.prog 4 #[v, v2] w fun e w' => e = .returned (.bool true) ∧ Below w.heap.size w w' := by
  obtain ⟨a, c, rfl, hc1, hc2⟩ := hO.1.shape
  have hnn := hO.1.nle
  obtain ⟨b, cb, rfl, hb1, hb2⟩ := hM.1.shape
  have hnm := hM.1.nle
  have g0 : Good 0 (newM 2000) := Good.new (by omega)
  have hfl := @few_of l
  have hfm := @few_of m
  refine W_enter (args := [.slice a l.length c, .slice b m.length cb]) 123 Tryz.func4 rfl rfl rfl ?_
  refine W_sub [(0, .slice a l.length c), (1, .slice b m.length cb)] ?_ ⟨rfl, rfl, trivial⟩
  have hbw := Below.refl w.heap.size w
  refine W_rs ?_
  refine sa rfl rfl ?_
  refine Wn ?_
  refine tN ?_
  refine W_rs ?_
  refine sc _ Tryz.func9 rfl (by kernel_rfl) rfl rfl ((New_ok 2000 _ (by omega)).mono ?_)
  rintro e_ w1 ⟨g, S0, rfl, h0, hS0, hb⟩
  refine cR ?_
  replace hbw := bthen hbw hb
  have hz_w1 := hb.size
  clear hb
  have hd : Own w.heap.size w1 g (newM 2000) S0 := ⟨h0, fun k hk => by have := hS0 k hk; have := hbw.size; omega⟩
  have hlo := hd.lo
  clear h0 hS0
  refine sm rfl rfl ?_
  refine st (X.ext rfl rfl) rfl ?_
  refine st (X.ext rfl rfl) rfl ?_
  refine sa rfl rfl ?_
  refine sa rfl rfl ?_
  refine Wn ?_
  refine tN ?_
  refine W_rs ?_
  refine sc _ Tryz.func10 rfl (by kernel_rfl) rfl rfl ((RNew_ok 2000 _ (by omega)).mono ?_)
  rintro e_ w2 ⟨r, T0, rfl, h0, hT0, hb⟩
  refine cR ?_
  replace hbw := bthen hbw hb
  replace hd := hd.bel hb
  have hz_w2 := hb.size
  clear hb
  have hr : ROwn w.heap.size w2 r (newM 2000) T0 := ⟨h0, fun k hk => by have := hT0 k hk; have := hbw.size; omega⟩
  have hdr : ∀ k, S0 k → ¬ T0 k := fun k h1 h2 => by have := hlo k h1; have := hT0 k h2; omega
  clear h0 hT0 hlo
  refine sm rfl rfl ?_
  refine st (X.ext rfl rfl) rfl ?_
  refine st (X.ext rfl rfl) rfl ?_
  refine sa rfl rfl ?_
  refine sa rfl rfl ?_
  refine Wn ?_
  refine tN ?_
  refine W_seq ?_
  refine W_rs ?_
  refine sm rfl rfl ?_
  refine st (X.neq rfl rfl) rfl ?_
  refine sbN rfl (rfl) rfl ?_
  refine gY (g := 23) rfl rfl rfl ?_
  refine sm rfl rfl ?_
  refine gY (g := 23) rfl rfl rfl ?_
  refine st (X.neq rfl rfl) rfl ?_
  refine st (X.pickF rfl rfl) rfl ?_
  refine sbN rfl (rfl) rfl ?_
  refine gY (g := 27) rfl rfl rfl ?_
  refine sm rfl rfl ?_
  refine gY (g := 27) rfl rfl rfl ?_
  refine st (X.dEq rfl) rfl ?_
  refine st (X.pickF rfl rfl) rfl ?_
  refine sbN rfl (rfl) rfl ?_
  refine gY (g := 31) rfl rfl rfl ?_
  refine sm rfl rfl ?_
  refine gY (g := 31) rfl rfl rfl ?_
  refine sc _ Tryz.func11 rfl (by kernel_rfl) rfl rfl ((Few_any _ l _ (hO.bel hbw)).mono ?_)
  rintro e_ w3 ⟨rfl, hb⟩
  refine cR ?_
  replace hbw := bthen hbw hb
  replace hd := hd.bel hb
  replace hr := hr.bel hb
  have hz_w3 := hb.size
  clear hb
  refine gY (g := 31) rfl rfl rfl ?_
  refine st (X.not rfl) rfl ?_
  refine st (X.pickF rfl rfl) rfl ?_
  refine sb rfl rfl (fun h36 => ?_) (fun h36 => ?_)
  · first | replace h36 := of_decide_eq_true h36 | replace h36 := of_decide_eq_false (notT h36) | replace h36 := notT h36 | skip
    refine gN (g := 36) rfl rfl rfl rfl ?_
    refine gN (g := 36) rfl rfl rfl rfl ?_
    refine gN (g := 36) rfl rfl rfl rfl ?_
    refine st (X.pickT rfl rfl) rfl ?_
    refine Wn ?_
    refine tN ?_
    refine W_yes rfl (rfl) ?_
    refine W_rs ?_
    refine sm rfl rfl ?_
    refine st (X.eql rfl rfl) rfl ?_
    refine sbY rfl (rfl) rfl ?_
    refine gY (g := 43) rfl rfl rfl ?_
    refine sm rfl rfl ?_
    refine gY (g := 43) rfl rfl rfl ?_
    refine st (X.dNe rfl) rfl ?_
    refine st (X.pickT rfl rfl) rfl ?_
    refine sbY rfl (rfl) rfl ?_
    refine gY (g := 47) rfl rfl rfl ?_
    refine sc _ Tryz.func12 rfl (by kernel_rfl) rfl rfl ((awake_any _).mono ?_)
    rintro e_ w4 ⟨rfl, hb⟩
    refine cR ?_
    replace hbw := bthen hbw hb
    replace hd := hd.bel hb
    replace hr := hr.bel hb
    have hz_w4 := hb.size
    clear hb
    refine st (X.pickT rfl rfl) rfl ?_
    refine sa rfl rfl ?_
    refine Wn ?_
    refine tN ?_
    refine W_ret (tR ?_)
    exact (rT rfl rfl ⟨rfl, hbw⟩).1
  · first | replace h36 := of_decide_eq_false h36 | replace h36 := of_decide_eq_true (notF h36) | replace h36 := notF h36 | skip
    refine gY (g := 36) rfl rfl rfl ?_
    refine sm rfl rfl ?_
    refine gY (g := 36) rfl rfl rfl ?_
    refine sc _ Tryz.func11 rfl (by kernel_rfl) rfl rfl ((Few_any _ m _ (hM.bel hbw)).mono ?_)
    rintro e_ w5 ⟨rfl, hb⟩
    refine cR ?_
    replace hbw := bthen hbw hb
    replace hd := hd.bel hb
    replace hr := hr.bel hb
    have hz_w5 := hb.size
    clear hb
    refine gY (g := 36) rfl rfl rfl ?_
    refine st (X.not rfl) rfl ?_
    refine st (X.pickF rfl rfl) rfl ?_
    refine Wn ?_
    refine tN ?_
    refine W_if rfl (fun h40 => ?_) (fun h40 => ?_)
    · first | replace h40 := of_decide_eq_true h40 | replace h40 := of_decide_eq_false (notT h40) | replace h40 := notT h40 | skip
      refine W_rs ?_
      refine sm rfl rfl ?_
      refine st (X.eql rfl rfl) rfl ?_
      refine sbY rfl (rfl) rfl ?_
      refine gY (g := 43) rfl rfl rfl ?_
      refine sm rfl rfl ?_
      refine gY (g := 43) rfl rfl rfl ?_
      refine st (X.dNe rfl) rfl ?_
      refine st (X.pickT rfl rfl) rfl ?_
      refine sbY rfl (rfl) rfl ?_
      refine gY (g := 47) rfl rfl rfl ?_
      refine sc _ Tryz.func12 rfl (by kernel_rfl) rfl rfl ((awake_any _).mono ?_)
      rintro e_ w6 ⟨rfl, hb⟩
      refine cR ?_
      replace hbw := bthen hbw hb
      replace hd := hd.bel hb
      replace hr := hr.bel hb
      have hz_w6 := hb.size
      clear hb
      refine st (X.pickT rfl rfl) rfl ?_
      refine sa rfl rfl ?_
      refine Wn ?_
      refine tN ?_
      refine W_ret (tR ?_)
      exact (rT rfl rfl ⟨rfl, hbw⟩).1
    · first | replace h40 := of_decide_eq_false h40 | replace h40 := of_decide_eq_true (notF h40) | replace h40 := notF h40 | skip
      obtain ⟨hl60, hlf⟩ := hfl h36
      obtain ⟨hm60, hmf⟩ := hfm h40
      refine W_skip ?_
      refine tN ?_
      refine W_seq ?_
      refine W_rs ?_
      refine sa rfl rfl ?_
      refine Wn ?_
      refine tN ?_
      refine W_block ?_
      refine W_lp (fun nw7_ lw7_ w7 => ∃ i : Nat, ∃ S : Nat → Prop, ∃ T : Nat → Prop, nw7_ = l.length - i ∧ lw7_ = ([(0, .slice a l.length c), (1, .slice b m.length cb), (5, .pointer (some ⟨g, 0, none⟩)), (7, .pointer (some ⟨r, 0, none⟩)), (9, .int .i64 i)] : Env) ∧ (i ≤ l.length) ∧ (Below w.heap.size w w7) ∧ (Own w.heap.size w7 g (runD (newM 2000) (l.take i)) S) ∧ (ROwn w.heap.size w7 r (runD (newM 2000) (l.take i)) T) ∧ (∀ k, S k → ¬ T k) ∧ (Good (301 * i) (runD (newM 2000) (l.take i)))) _ ⟨_, ⟨0, _, _, rfl, rfl, Nat.zero_le _, hbw, hd, hr, hdr, g0⟩, ⟨rfl, rfl, rfl, rfl, rfl, trivial⟩⟩ ?_
      clear hbw hd hr hdr
      rintro nw7_ lw7_ w7 ⟨i, S, T, rfl, rfl, hi, hbw, hd, hr, hdr, hg⟩
      have hz_w7 := hbw.size
      refine W_seq ?_
      refine W_rs ?_
      refine sm rfl rfl ?_
      refine sm rfl rfl ?_
      refine st (X.lenL rfl rfl Tryz.underlying22) rfl ?_
      refine st (X.lss rfl rfl) rfl ?_
      refine Wn ?_
      refine tN ?_
      refine W_if rfl (fun h53 => ?_) (fun h53 => ?_)
      · first | replace h53 := of_decide_eq_true h53 | replace h53 := of_decide_eq_false (notT h53) | replace h53 := notT h53 | skip
        obtain ⟨o, ho⟩ : ∃ o, l[i]? = some o := ⟨_, List.getElem?_eq_getElem (by omega)⟩
        have hom := List.mem_of_getElem? ho
        obtain ⟨D, hD⟩ : ∃ D, runD (newM 2000) (l.take i) = D := ⟨_, rfl⟩
        obtain ⟨g1, o1, c', hv, hg1⟩ := hO.1.some_ (by omega)
        injection hv with e1 _ e3
        subst e1 e3
        have hof := hlf o hom
        have hok := hO.2 o hom
        have hg2 := (does_good hg hof hok.n.2).mono (m := 301 * (i + 1)) (by omega)
        have hKlt : 0 < o.picks.length → ∀ k, o.vp.ownBlock = some k → k < w.heap.size := fun h0 k hk => hok.picks.ownLt h0 hk
        clear hD D
        refine W_skip ?_
        refine tN ?_
        refine W_seq ?_
        refine W_block ?_
        refine W_rs ?_
        refine sm rfl rfl ?_
        refine sm rfl rfl ?_
        refine sm rfl rfl ?_
        refine st (X.idxA rfl rfl Tryz.underlying22 siz36 rfl (by omega)) rfl ?_
        refine st (X.ldN (cs := o.cells) rfl Tryz.underlying36 rfl siz36 ((hO.1.bel hbw).rec_ (f := OpM.cells) (fun a _ => OpM.cells_length a) ho)) rfl ?_
        have hlo := hd.lo
        have hlr := hr.lo
        refine sc _ Tryz.func13 rfl (by kernel_rfl) rfl rfl ((does_any g _ S o (301 * i) _ hd.at_ hg (by omega) (hok.bel hbw) hof (fun h0 k hk e => by have := hKlt h0 k hk; have := hlo k e; omega) (fun k hk => (hlo k hk).2)).mono ?_)
        rintro e_ w8 ⟨rfl, h1, hX⟩
        refine cR ?_
        have hdn := hd.step h1 hX hbw.size
        have hrn := hr.other hX hdr
        have hdrn := hr.ext (w' := w8) hdr
        have hbwn := bchg hbw hX (fun k hk => (hd.lo k hk).1)
        clear hd hr hdr hbw h1 hX hlo hlr
        have hd := hdn
        have hr := hrn
        have hdr := hdrn
        have hbw := hbwn
        clear hdn hrn hdrn hbwn
        refine Wn ?_
        refine tN ?_
        refine W_reg ?_
        refine sm rfl rfl ?_
        refine sm rfl rfl ?_
        refine sm rfl rfl ?_
        refine st (X.idxA rfl rfl Tryz.underlying22 siz36 rfl (by omega)) rfl ?_
        refine st (X.ldN (cs := o.cells) rfl Tryz.underlying36 rfl siz36 ((hO.1.bel hbw).rec_ (f := OpM.cells) (fun a _ => OpM.cells_length a) ho)) rfl ?_
        have hlr := hr.lo
        refine sc _ Tryz.func14 rfl (by kernel_rfl) rfl rfl ((asked_any r _ T o (301 * i) _ hr.at_ hg (by omega) (hok.bel hbw) hof (fun h0 k hk e => by have := hKlt h0 k hk; have := hlr k e; omega) (fun k hk => (hlr k hk).2)).mono ?_)
        rintro e_ w9 ⟨rfl, h1, hX⟩
        refine cR ?_
        have hrn := hr.step h1 hX hbw.size
        have hdn := hd.other hX (Ext.flip hdr)
        have hdrn : ∀ k, Ext S _ _ k → ¬ Ext T _ _ k := Ext.flip (hd.ext (w' := w9) (Ext.flip hdr))
        have hbwn := bchg hbw hX (fun k hk => (hr.lo k hk).1)
        clear hd hr hdr hbw h1 hX hlr
        have hd := hdn
        have hr := hrn
        have hdr := hdrn
        have hbw := hbwn
        clear hdn hrn hdrn hbwn
        refine Wn ?_
        refine bN ?_
        refine tN ?_
        refine W_reg ?_
        refine sm rfl rfl ?_
        refine st (X.add64 rfl rfl (by omega)) rfl ?_
        refine sa rfl rfl ?_
        refine Wn ?_
        refine tN ⟨_, _, ?_, ⟨i + 1, _, _, rfl, rfl, by omega, hbw, (by rw [runD_next ho]; exact hd), (by rw [runD_next ho]; exact hr), hdr, (by rw [runD_next ho]; exact hg2)⟩, ⟨rfl, rfl, rfl, rfl, rfl, trivial⟩⟩
        omega
      · first | replace h53 := of_decide_eq_false h53 | replace h53 := of_decide_eq_true (notF h53) | replace h53 := notF h53 | skip
        obtain rfl : i = l.length := by omega
        rw [List.take_length] at hd hr hg
        obtain ⟨D, hD⟩ : ∃ D, runD (newM 2000) l = D := ⟨_, rfl⟩
        rw [hD] at hd hr hg
        replace hg := hg.mono (m := 18060) (by omega)
        have hlo := hd.lo
        have hlr := hr.lo
        have hz10 := hbw.size
        refine W_exit (tE (tE (bH ?_)))
        refine tN ?_
        refine W_rs ?_
        refine sm rfl rfl ?_
        refine sc _ Tryz.func16 rfl (by kernel_rfl) rfl rfl ((Copy_any g D S _ hd.at_ hg.ok (hg.bud (by omega))).mono ?_)
        rintro e_ w10 ⟨c2, U0, rfl, h1, hU0, hb⟩
        refine cR ?_
        replace hbw := bthen hbw hb
        replace hd := hd.bel hb
        replace hr := hr.bel hb
        have hz_w10 := hb.size
        clear hb
        have hc : Own w.heap.size w10 c2 D U0 := ⟨h1, fun k hk => by have := hU0 k hk; omega⟩
        have hcd : ∀ k, U0 k → ¬ S k := fun k h1 h2 => by have := hlo k h2; have := hU0 k h1; omega
        have hcr : ∀ k, U0 k → ¬ T k := fun k h1 h2 => by have := hlr k h2; have := hU0 k h1; omega
        clear h1 hU0 hlo hlr
        refine sa rfl rfl ?_
        refine Wn ?_
        refine tN ?_
        refine W_seq ?_
        refine W_rs ?_
        refine sm rfl rfl ?_
        refine st (X.dEq rfl) rfl ?_
        refine sbN rfl (rfl) rfl ?_
        refine gY (g := 72) rfl rfl rfl ?_
        refine sm rfl rfl ?_
        refine gY (g := 72) rfl rfl rfl ?_
        refine sm rfl rfl ?_
        refine gY (g := 72) rfl rfl rfl ?_
        refine sc _ Tryz.func15 rfl (by kernel_rfl) rfl rfl ((Same1_any c2 r D _ _ 18060 _ hc.at_ hr.at_ hg (by omega)).mono ?_)
        rintro e_ w11 ⟨rfl, hb⟩
        refine cR ?_
        replace hbw := bthen hbw hb
        replace hd := hd.bel hb
        replace hr := hr.bel hb
        replace hc := hc.bel hb
        have hz_w11 := hb.size
        clear hb
        refine gY (g := 72) rfl rfl rfl ?_
        refine st (X.not rfl) rfl ?_
        refine st (X.pickF rfl rfl) rfl ?_
        refine Wn ?_
        refine tN ?_
        refine W_no rfl (rfl) ?_
        refine W_skip ?_
        refine tN ?_
        refine W_seq ?_
        refine W_rs ?_
        refine sa rfl rfl ?_
        refine Wn ?_
        refine tN ?_
        refine W_block ?_
        refine W_lp (fun nw12_ lw12_ w12 => ∃ j : Nat, ∃ U : Nat → Prop, nw12_ = m.length - j ∧ lw12_ = ([(0, .slice a l.length c), (1, .slice b m.length cb), (5, .pointer (some ⟨g, 0, none⟩)), (7, .pointer (some ⟨r, 0, none⟩)), (10, .pointer (some ⟨c2, 0, none⟩)), (11, .int .i64 j)] : Env) ∧ (j ≤ m.length) ∧ (Below w.heap.size w w12) ∧ (Own w.heap.size w12 g D S) ∧ (ROwn w.heap.size w12 r D T) ∧ (Own w.heap.size w12 c2 (runD D (m.take j)) U) ∧ (∀ k, U k → ¬ S k) ∧ (∀ k, U k → ¬ T k) ∧ (Good (18060 + 301 * j) (runD D (m.take j)))) _ ⟨_, ⟨0, _, rfl, rfl, Nat.zero_le _, hbw, hd, hr, hc, hcd, hcr, hg⟩, ⟨rfl, rfl, rfl, rfl, rfl, rfl, trivial⟩⟩ ?_
        clear hbw hd hr hc hcd hcr
        rintro nw12_ lw12_ w12 ⟨j, U, rfl, rfl, hj, hbw, hd, hr, hc, hcd, hcr, hgc⟩
        have hz_w12 := hbw.size
        refine W_seq ?_
        refine W_rs ?_
        refine sm rfl rfl ?_
        refine sm rfl rfl ?_
        refine st (X.lenL rfl rfl Tryz.underlying22) rfl ?_
        refine st (X.lss rfl rfl) rfl ?_
        refine Wn ?_
        refine tN ?_
        refine W_if rfl (fun h81 => ?_) (fun h81 => ?_)
        · first | replace h81 := of_decide_eq_true h81 | replace h81 := of_decide_eq_false (notT h81) | replace h81 := notT h81 | skip
          obtain ⟨o, ho⟩ : ∃ o, m[j]? = some o := ⟨_, List.getElem?_eq_getElem (by omega)⟩
          have hom := List.mem_of_getElem? ho
          obtain ⟨g1, o1, c', hv, hg1⟩ := hM.1.some_ (by omega)
          injection hv with e1 _ e3
          subst e1 e3
          have hof := hmf o hom
          have hok := hM.2 o hom
          have hg2 := (does_good hgc hof hok.n.2).mono (m := 18060 + 301 * (j + 1)) (by omega)
          have hKlt : 0 < o.picks.length → ∀ k, o.vp.ownBlock = some k → k < w.heap.size := fun h0 k hk => hok.picks.ownLt h0 hk
          refine W_skip ?_
          refine tN ?_
          refine W_seq ?_
          refine W_block ?_
          refine W_reg ?_
          refine sm rfl rfl ?_
          refine sm rfl rfl ?_
          refine sm rfl rfl ?_
          refine st (X.idxA rfl rfl Tryz.underlying22 siz36 rfl (by omega)) rfl ?_
          refine st (X.ldN (cs := o.cells) rfl Tryz.underlying36 rfl siz36 ((hM.1.bel hbw).rec_ (f := OpM.cells) (fun a _ => OpM.cells_length a) ho)) rfl ?_
          have hlo := hc.lo
          refine sc _ Tryz.func13 rfl (by kernel_rfl) rfl rfl ((does_any c2 _ U o (18060 + 301 * j) _ hc.at_ hgc (by omega) (hok.bel hbw) hof (fun h0 k hk e => by have := hKlt h0 k hk; have := hlo k e; omega) (fun k hk => (hlo k hk).2)).mono ?_)
          rintro e_ w13 ⟨rfl, h1, hX⟩
          refine cR ?_
          have hcn := hc.step h1 hX hbw.size
          have hdn := hd.other hX hcd
          have hrn := hr.other hX hcr
          have hcdn := hd.ext (w' := w13) hcd
          have hcrn := hr.ext (w' := w13) hcr
          have hbwn := bchg hbw hX (fun k hk => (hc.lo k hk).1)
          clear hd hr hc hcd hcr hbw h1 hX hlo
          have hd := hdn
          have hr := hrn
          have hc := hcn
          have hcd := hcdn
          have hcr := hcrn
          have hbw := hbwn
          clear hdn hrn hcn hcdn hcrn hbwn
          refine Wn ?_
          refine bN ?_
          refine tN ?_
          refine W_reg ?_
          refine sm rfl rfl ?_
          refine st (X.add64 rfl rfl (by omega)) rfl ?_
          refine sa rfl rfl ?_
          refine Wn ?_
          refine tN ⟨_, _, ?_, ⟨j + 1, _, rfl, rfl, by omega, hbw, hd, hr, (by rw [runD_next ho]; exact hc), hcd, hcr, (by rw [runD_next ho]; exact hg2)⟩, ⟨rfl, rfl, rfl, rfl, rfl, rfl, trivial⟩⟩
          omega
        · first | replace h81 := of_decide_eq_false h81 | replace h81 := of_decide_eq_true (notF h81) | replace h81 := notF h81 | skip
          obtain rfl : j = m.length := by omega
          rw [List.take_length] at hc hgc
          refine W_exit (tE (tE (bH ?_)))
          refine tN ?_
          refine W_seq ?_
          refine W_rs ?_
          refine sm rfl rfl ?_
          refine sm rfl rfl ?_
          refine sc _ Tryz.func15 rfl (by kernel_rfl) rfl rfl ((Same1_any g r D _ _ 18060 _ hd.at_ hr.at_ hg (by omega)).mono ?_)
          rintro e_ w14 ⟨rfl, hb⟩
          refine cR ?_
          replace hbw := bthen hbw hb
          replace hd := hd.bel hb
          replace hr := hr.bel hb
          replace hc := hc.bel hb
          have hz_w14 := hb.size
          clear hb
          refine st (X.not rfl) rfl ?_
          refine Wn ?_
          refine tN ?_
          refine W_no rfl (rfl) ?_
          refine W_skip ?_
          refine tN ?_
          refine W_seq ?_
          refine W_rs ?_
          refine sa rfl rfl ?_
          refine Wn ?_
          refine tN ?_
          refine W_block ?_
          refine W_lp (fun nw15_ lw15_ w15 => ∃ j : Nat, ∃ S : Nat → Prop, ∃ T : Nat → Prop, nw15_ = m.length - j ∧ lw15_ = ([(0, .slice a l.length c), (1, .slice b m.length cb), (5, .pointer (some ⟨g, 0, none⟩)), (7, .pointer (some ⟨r, 0, none⟩)), (10, .pointer (some ⟨c2, 0, none⟩)), (12, .int .i64 j)] : Env) ∧ (j ≤ m.length) ∧ (Below w.heap.size w w15) ∧ (Own w.heap.size w15 g (runD D (m.take j)) S) ∧ (ROwn w.heap.size w15 r (runD D (m.take j)) T) ∧ (Own w.heap.size w15 c2 (runD D m) U) ∧ (∀ k, S k → ¬ T k) ∧ (∀ k, U k → ¬ S k) ∧ (∀ k, U k → ¬ T k) ∧ (Good (18060 + 301 * j) (runD D (m.take j)))) _ ⟨_, ⟨0, _, _, rfl, rfl, Nat.zero_le _, hbw, hd, hr, hc, hdr, hcd, hcr, hg⟩, ⟨rfl, rfl, rfl, rfl, rfl, rfl, trivial⟩⟩ ?_
          clear hbw hd hr hc hdr hcd hcr hg
          rintro nw15_ lw15_ w15 ⟨j, S, T, rfl, rfl, hj, hbw, hd, hr, hc, hdr, hcd, hcr, hg⟩
          have hz_w15 := hbw.size
          refine W_seq ?_
          refine W_rs ?_
          refine sm rfl rfl ?_
          refine sm rfl rfl ?_
          refine st (X.lenL rfl rfl Tryz.underlying22) rfl ?_
          refine st (X.lss rfl rfl) rfl ?_
          refine Wn ?_
          refine tN ?_
          refine W_if rfl (fun h97 => ?_) (fun h97 => ?_)
          · first | replace h97 := of_decide_eq_true h97 | replace h97 := of_decide_eq_false (notT h97) | replace h97 := notT h97 | skip
            obtain ⟨o, ho⟩ : ∃ o, m[j]? = some o := ⟨_, List.getElem?_eq_getElem (by omega)⟩
            have hom := List.mem_of_getElem? ho
            obtain ⟨g1, o1, c', hv, hg1⟩ := hM.1.some_ (by omega)
            injection hv with e1 _ e3
            subst e1 e3
            have hof := hmf o hom
            have hok := hM.2 o hom
            have hg2 := (does_good hg hof hok.n.2).mono (m := 18060 + 301 * (j + 1)) (by omega)
            have hKlt : 0 < o.picks.length → ∀ k, o.vp.ownBlock = some k → k < w.heap.size := fun h0 k hk => hok.picks.ownLt h0 hk
            refine W_skip ?_
            refine tN ?_
            refine W_seq ?_
            refine W_block ?_
            refine W_rs ?_
            refine sm rfl rfl ?_
            refine sm rfl rfl ?_
            refine sm rfl rfl ?_
            refine st (X.idxA rfl rfl Tryz.underlying22 siz36 rfl (by omega)) rfl ?_
            refine st (X.ldN (cs := o.cells) rfl Tryz.underlying36 rfl siz36 ((hM.1.bel hbw).rec_ (f := OpM.cells) (fun a _ => OpM.cells_length a) ho)) rfl ?_
            have hlo := hd.lo
            refine sc _ Tryz.func13 rfl (by kernel_rfl) rfl rfl ((does_any g _ S o (18060 + 301 * j) _ hd.at_ hg (by omega) (hok.bel hbw) hof (fun h0 k hk e => by have := hKlt h0 k hk; have := hlo k e; omega) (fun k hk => (hlo k hk).2)).mono ?_)
            rintro e_ w16 ⟨rfl, h1, hX⟩
            refine cR ?_
            have hdn := hd.step h1 hX hbw.size
            have hrn := hr.other hX hdr
            have hcn := hc.other hX (Ext.flip hcd)
            have hdrn := hr.ext (w' := w16) hdr
            have hcdn : ∀ k, U k → ¬ Ext S _ _ k := Ext.flip (hc.ext (w' := w16) (Ext.flip hcd))
            have hbwn := bchg hbw hX (fun k hk => (hd.lo k hk).1)
            clear hd hr hc hdr hcd hbw h1 hX hlo
            have hd := hdn
            have hr := hrn
            have hc := hcn
            have hdr := hdrn
            have hcd := hcdn
            have hbw := hbwn
            clear hdn hrn hcn hdrn hcdn hbwn
            refine Wn ?_
            refine tN ?_
            refine W_reg ?_
            refine sm rfl rfl ?_
            refine sm rfl rfl ?_
            refine sm rfl rfl ?_
            refine st (X.idxA rfl rfl Tryz.underlying22 siz36 rfl (by omega)) rfl ?_
            refine st (X.ldN (cs := o.cells) rfl Tryz.underlying36 rfl siz36 ((hM.1.bel hbw).rec_ (f := OpM.cells) (fun a _ => OpM.cells_length a) ho)) rfl ?_
            have hlr := hr.lo
            refine sc _ Tryz.func14 rfl (by kernel_rfl) rfl rfl ((asked_any r _ T o (18060 + 301 * j) _ hr.at_ hg (by omega) (hok.bel hbw) hof (fun h0 k hk e => by have := hKlt h0 k hk; have := hlr k e; omega) (fun k hk => (hlr k hk).2)).mono ?_)
            rintro e_ w17 ⟨rfl, h1, hX⟩
            refine cR ?_
            have hrn := hr.step h1 hX hbw.size
            have hdn := hd.other hX (Ext.flip hdr)
            have hcn := hc.other hX (Ext.flip hcr)
            have hdrn : ∀ k, Ext S _ _ k → ¬ Ext T _ _ k := Ext.flip (hd.ext (w' := w17) (Ext.flip hdr))
            have hcrn : ∀ k, U k → ¬ Ext T _ _ k := Ext.flip (hc.ext (w' := w17) (Ext.flip hcr))
            have hbwn := bchg hbw hX (fun k hk => (hr.lo k hk).1)
            clear hd hr hc hdr hcr hbw h1 hX hlr
            have hd := hdn
            have hr := hrn
            have hc := hcn
            have hdr := hdrn
            have hcr := hcrn
            have hbw := hbwn
            clear hdn hrn hcn hdrn hcrn hbwn
            refine Wn ?_
            refine bN ?_
            refine tN ?_
            refine W_reg ?_
            refine sm rfl rfl ?_
            refine st (X.add64 rfl rfl (by omega)) rfl ?_
            refine sa rfl rfl ?_
            refine Wn ?_
            refine tN ⟨_, _, ?_, ⟨j + 1, _, _, rfl, rfl, by omega, hbw, (by rw [runD_next ho]; exact hd), (by rw [runD_next ho]; exact hr), hc, hdr, hcd, hcr, (by rw [runD_next ho]; exact hg2)⟩, ⟨rfl, rfl, rfl, rfl, rfl, rfl, trivial⟩⟩
            omega
          · first | replace h97 := of_decide_eq_false h97 | replace h97 := of_decide_eq_true (notF h97) | replace h97 := notF h97 | skip
            obtain rfl : j = m.length := by omega
            rw [List.take_length] at hd hr hg
            replace hg := hg.mono (m := 36120) (by omega)
            refine W_exit (tE (tE (bH ?_)))
            refine tN ?_
            refine W_rs ?_
            refine sm rfl rfl ?_
            refine sm rfl rfl ?_
            refine sc _ Tryz.func15 rfl (by kernel_rfl) rfl rfl ((Same1_any g r _ _ _ 36120 _ hd.at_ hr.at_ hg (by omega)).mono ?_)
            rintro e_ w18 ⟨rfl, hb⟩
            refine cR ?_
            replace hbw := bthen hbw hb
            replace hd := hd.bel hb
            replace hr := hr.bel hb
            replace hc := hc.bel hb
            have hz_w18 := hb.size
            clear hb
            refine sbY rfl (rfl) rfl ?_
            refine gY (g := 115) rfl rfl rfl ?_
            refine sm rfl rfl ?_
            refine gY (g := 115) rfl rfl rfl ?_
            refine sm rfl rfl ?_
            refine gY (g := 115) rfl rfl rfl ?_
            refine sc _ Tryz.func15 rfl (by kernel_rfl) rfl rfl ((Same1_any c2 r _ _ _ 36120 _ hc.at_ hr.at_ hg (by omega)).mono ?_)
            rintro e_ w19 ⟨rfl, hb⟩
            refine cR ?_
            replace hbw := bthen hbw hb
            replace hd := hd.bel hb
            replace hr := hr.bel hb
            replace hc := hc.bel hb
            have hz_w19 := hb.size
            clear hb
            refine st (X.pickT rfl rfl) rfl ?_
            refine sbY rfl (rfl) rfl ?_
            refine gY (g := 120) rfl rfl rfl ?_
            refine sc _ Tryz.func12 rfl (by kernel_rfl) rfl rfl ((awake_any _).mono ?_)
            rintro e_ w20 ⟨rfl, hb⟩
            refine cR ?_
            replace hbw := bthen hbw hb
            replace hd := hd.bel hb
            replace hr := hr.bel hb
            replace hc := hc.bel hb
            have hz_w20 := hb.size
            clear hb
            refine st (X.pickT rfl rfl) rfl ?_
            refine sa rfl rfl ?_
            refine Wn ?_
            refine tN ?_
            refine W_ret ?_
            exact (rT rfl rfl ⟨rfl, hbw⟩).1
end Go.Proofs.YtnijmegalgoipaaGreatDoor
