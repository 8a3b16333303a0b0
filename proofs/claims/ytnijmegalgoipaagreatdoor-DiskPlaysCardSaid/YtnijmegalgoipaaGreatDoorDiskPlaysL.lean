/- The law DiskPlays. -/
import Derived.Test.YtnijmegalgoipaaGreatDoorRefD7
namespace Go.Proofs.YtnijmegalgoipaaGreatDoor
open Go.RowKit
set_option maxRecDepth 10000 in
theorem DiskPlays_walk (w : World) (lim : Int) (v : Value) (l : List OpM) (hO : OpsAt w v l) :
    Calls Tryz.prog 3 #[.int .i64 lim, v] w fun e w' => e = .returned (.bool true) ∧ Below w.heap.size w w' := by
  obtain ⟨a, c, rfl, hc1, hc2⟩ := hO.1.shape
  have hnn := hO.1.nle
  by_cases hlim : 0 ≤ lim ∧ lim ≤ 16777216
  · have g0 : Good 0 (newM lim) := Good.new hlim
    have hfl := @few_of l
    refine W_enter (args := [.int .i64 lim, .slice a l.length c]) 103 Tryz.func3 rfl rfl rfl ?_
    refine W_sub [(0, .int .i64 lim), (1, .slice a l.length c)] ?_ ⟨rfl, rfl, trivial⟩
    have hbw := Below.refl w.heap.size w
    refine W_rs ?_
    refine sa rfl rfl ?_
    refine Wn ?_
    refine tN ?_
    refine W_rs ?_
    refine sm rfl rfl ?_
    refine sc _ Tryz.func9 rfl (by kernel_rfl) rfl rfl ((New_ok lim _ hlim).mono ?_)
    rintro e_ w1 ⟨g, S0, rfl, h0, hS0, hb⟩
    refine cR ?_
    replace hbw := bthen hbw hb
    have hz_w1 := hb.size
    clear hb
    have hd : Own w.heap.size w1 g (newM lim) S0 := ⟨h0, fun k hk => by have := hS0 k hk; have := hbw.size; omega⟩
    have hlo := hd.lo
    clear h0 hS0
    refine sm rfl rfl ?_
    refine st (X.ext rfl rfl) rfl ?_
    refine st (X.ext rfl rfl) rfl ?_
    refine sa rfl rfl ?_
    refine sa rfl rfl ?_
    refine Wn ?_
    refine tN ?_
    refine W_rs ?_
    refine sm rfl rfl ?_
    refine sc _ Tryz.func10 rfl (by kernel_rfl) rfl rfl ((RNew_ok lim _ hlim).mono ?_)
    rintro e_ w2 ⟨r, T0, rfl, h0, hT0, hb⟩
    refine cR ?_
    replace hbw := bthen hbw hb
    replace hd := hd.bel hb
    have hz_w2 := hb.size
    clear hb
    have hr : ROwn w.heap.size w2 r (newM lim) T0 := ⟨h0, fun k hk => by have := hT0 k hk; have := hbw.size; omega⟩
    have hdr : ∀ k, S0 k → ¬ T0 k := fun k h1 h2 => by have := hlo k h1; have := hT0 k h2; omega
    clear h0 hT0 hlo
    refine sm rfl rfl ?_
    refine st (X.ext rfl rfl) rfl ?_
    refine st (X.ext rfl rfl) rfl ?_
    refine sa rfl rfl ?_
    refine sa rfl rfl ?_
    refine Wn ?_
    refine tN ?_
    refine W_seq ?_
    refine W_rs ?_
    refine sm rfl rfl ?_
    refine sm rfl rfl ?_
    refine st (X.neq rfl rfl) rfl ?_
    refine sbN rfl (rfl) rfl ?_
    refine gY (g := 29) rfl rfl rfl ?_
    refine sm rfl rfl ?_
    refine gY (g := 29) rfl rfl rfl ?_
    refine st (X.dEq rfl) rfl ?_
    refine gY (g := 29) rfl rfl rfl ?_
    refine sm rfl rfl ?_
    refine gY (g := 29) rfl rfl rfl ?_
    refine st (X.rEq rfl) rfl ?_
    refine gY (g := 29) rfl rfl rfl ?_
    refine st (X.beq (.inr ⟨rfl, rfl⟩) Tryz.underlying4 rfl rfl) rfl ?_
    refine st (X.pickF rfl rfl) rfl ?_
    refine sbN rfl (rfl) rfl ?_
    refine gY (g := 36) rfl rfl rfl ?_
    refine sm rfl rfl ?_
    refine gY (g := 36) rfl rfl rfl ?_
    refine sc _ Tryz.func11 rfl (by kernel_rfl) rfl rfl ((Few_any _ l _ (hO.bel hbw)).mono ?_)
    rintro e_ w3 ⟨rfl, hb⟩
    refine cR ?_
    replace hbw := bthen hbw hb
    replace hd := hd.bel hb
    replace hr := hr.bel hb
    have hz_w3 := hb.size
    clear hb
    refine gY (g := 36) rfl rfl rfl ?_
    refine st (X.not rfl) rfl ?_
    refine st (X.pickF rfl rfl) rfl ?_
    refine Wn ?_
    refine tN ?_
    refine W_if rfl (fun h40 => ?_) (fun h40 => ?_)
    · first | replace h40 := of_decide_eq_true h40 | replace h40 := of_decide_eq_false (notT h40) | replace h40 := notT h40 | skip
      refine W_rs ?_
      refine sm rfl rfl ?_
      refine sm rfl rfl ?_
      refine st (X.eql rfl rfl) rfl ?_
      refine sbY rfl (rfl) rfl ?_
      refine gY (g := 44) rfl rfl rfl ?_
      refine sm rfl rfl ?_
      refine gY (g := 44) rfl rfl rfl ?_
      refine st (X.dEq rfl) rfl ?_
      refine gY (g := 44) rfl rfl rfl ?_
      refine sm rfl rfl ?_
      refine gY (g := 44) rfl rfl rfl ?_
      refine st (X.rEq rfl) rfl ?_
      refine gY (g := 44) rfl rfl rfl ?_
      refine st (X.beq (.inl ⟨rfl, rfl⟩) Tryz.underlying4 rfl rfl) rfl ?_
      refine st (X.pickT rfl rfl) rfl ?_
      refine sbY rfl (rfl) rfl ?_
      refine gY (g := 51) rfl rfl rfl ?_
      refine sc _ Tryz.func12 rfl (by kernel_rfl) rfl rfl ((awake_any _).mono ?_)
      rintro e_ w4 ⟨rfl, hb⟩
      refine cR ?_
      replace hbw := bthen hbw hb
      replace hd := hd.bel hb
      replace hr := hr.bel hb
      have hz_w4 := hb.size
      clear hb
      refine st (X.pickT rfl rfl) rfl ?_
      refine sa rfl rfl ?_
      refine Wn ?_
      refine tN ?_
      refine W_ret (tR ?_)
      exact (rT rfl rfl ⟨rfl, hbw⟩).1
    · first | replace h40 := of_decide_eq_false h40 | replace h40 := of_decide_eq_true (notF h40) | replace h40 := notF h40 | skip
      obtain ⟨hl60, hlf⟩ := hfl h40
      refine W_skip ?_
      refine tN ?_
      refine W_seq ?_
      refine W_rs ?_
      refine sm rfl rfl ?_
      refine st (X.rEq rfl) rfl ?_
      refine Wn ?_
      refine tN ?_
      refine W_no rfl (rfl) ?_
      refine W_skip ?_
      refine tN ?_
      refine W_seq ?_
      refine W_rs ?_
      refine sa rfl rfl ?_
      refine Wn ?_
      refine tN ?_
      refine W_block ?_
      refine W_lp (fun nw5_ lw5_ w5 => ∃ i : Nat, ∃ D : DiskD, ∃ S : Nat → Prop, ∃ T : Nat → Prop, nw5_ = l.length - i ∧ lw5_ = ([(1, .slice a l.length c), (5, .pointer (some ⟨g, 0, none⟩)), (7, .pointer (some ⟨r, 0, none⟩)), (9, .int .i64 i)] : Env) ∧ (i ≤ l.length) ∧ (Below w.heap.size w w5) ∧ (Own w.heap.size w5 g D S) ∧ (ROwn w.heap.size w5 r D T) ∧ (∀ k, S k → ¬ T k) ∧ (Good (301 * i) D)) _ ⟨_, ⟨0, _, _, _, rfl, rfl, Nat.zero_le _, hbw, hd, hr, hdr, g0⟩, ⟨rfl, rfl, rfl, rfl, trivial⟩⟩ ?_
      clear hbw hd hr hdr
      rintro nw5_ lw5_ w5 ⟨i, D, S, T, rfl, rfl, hi, hbw, hd, hr, hdr, hg⟩
      have hz_w5 := hbw.size
      refine W_seq ?_
      refine W_rs ?_
      refine sm rfl rfl ?_
      refine sm rfl rfl ?_
      refine st (X.lenL rfl rfl Tryz.underlying22) rfl ?_
      refine st (X.lss rfl rfl) rfl ?_
      refine Wn ?_
      refine tN ?_
      refine W_if rfl (fun h60 => ?_) (fun h60 => ?_)
      · first | replace h60 := of_decide_eq_true h60 | replace h60 := of_decide_eq_false (notT h60) | replace h60 := notT h60 | skip
        obtain ⟨o, ho⟩ : ∃ o, l[i]? = some o := ⟨_, List.getElem?_eq_getElem (by omega)⟩
        have hom := List.mem_of_getElem? ho
        obtain ⟨g1, o1, c', hv, hg1⟩ := hO.1.some_ (by omega)
        injection hv with e1 _ e3
        subst e1 e3
        have hof := hlf o hom
        have hok := hO.2 o hom
        have hg2 := (does_good hg hof hok.n.2).mono (m := 301 * (i + 1)) (by omega)
        have hKlt : 0 < o.picks.length → ∀ k, o.vp.ownBlock = some k → k < w.heap.size := fun h0 k hk => hok.picks.ownLt h0 hk
        refine W_skip ?_
        refine tN ?_
        refine W_seq ?_
        refine W_block ?_
        refine W_rs ?_
        refine sm rfl rfl ?_
        refine sm rfl rfl ?_
        refine sm rfl rfl ?_
        refine st (X.idxA rfl rfl Tryz.underlying22 siz36 rfl (by omega)) rfl ?_
        refine st (X.ldN (cs := o.cells) rfl Tryz.underlying36 rfl siz36 ((hO.1.bel hbw).rec_ (f := OpM.cells) (fun a _ => OpM.cells_length a) ho)) rfl ?_
        have hlo := hd.lo
        have hlr := hr.lo
        refine sc _ Tryz.func13 rfl (by kernel_rfl) rfl rfl ((does_any g D S o (301 * i) _ hd.at_ hg (by omega) (hok.bel hbw) hof (fun h0 k hk e => by have := hKlt h0 k hk; have := hlo k e; omega) (fun k hk => (hlo k hk).2)).mono ?_)
        rintro e_ w6 ⟨rfl, h1, hX⟩
        refine cR ?_
        have hdn := hd.step h1 hX hbw.size
        have hrn := hr.other hX hdr
        have hdrn := hr.ext (w' := w6) hdr
        have hbwn := bchg hbw hX (fun k hk => (hd.lo k hk).1)
        clear hd hr hdr hbw h1 hX hlo hlr
        have hd := hdn
        have hr := hrn
        have hdr := hdrn
        have hbw := hbwn
        clear hdn hrn hdrn hbwn
        refine sm rfl rfl ?_
        refine st (X.ext rfl rfl) rfl ?_
        refine st (X.ext rfl rfl) rfl ?_
        refine st (X.ext rfl rfl) rfl ?_
        refine sa rfl rfl ?_
        refine sa rfl rfl ?_
        refine sa rfl rfl ?_
        refine Wn ?_
        refine tN ?_
        refine W_rs ?_
        refine sm rfl rfl ?_
        refine sm rfl rfl ?_
        refine sm rfl rfl ?_
        refine st (X.idxA rfl rfl Tryz.underlying22 siz36 rfl (by omega)) rfl ?_
        refine st (X.ldN (cs := o.cells) rfl Tryz.underlying36 rfl siz36 ((hO.1.bel hbw).rec_ (f := OpM.cells) (fun a _ => OpM.cells_length a) ho)) rfl ?_
        have hlr := hr.lo
        refine sc _ Tryz.func14 rfl (by kernel_rfl) rfl rfl ((asked_any r D T o (301 * i) _ hr.at_ hg (by omega) (hok.bel hbw) hof (fun h0 k hk e => by have := hKlt h0 k hk; have := hlr k e; omega) (fun k hk => (hlr k hk).2)).mono ?_)
        rintro e_ w7 ⟨rfl, h1, hX⟩
        refine cR ?_
        have hrn := hr.step h1 hX hbw.size
        have hdn := hd.other hX (Ext.flip hdr)
        have hdrn : ∀ k, Ext S _ _ k → ¬ Ext T _ _ k := Ext.flip (hd.ext (w' := w7) (Ext.flip hdr))
        have hbwn := bchg hbw hX (fun k hk => (hr.lo k hk).1)
        clear hd hr hdr hbw h1 hX hlr
        have hd := hdn
        have hr := hrn
        have hdr := hdrn
        have hbw := hbwn
        clear hdn hrn hdrn hbwn
        refine sm rfl rfl ?_
        refine st (X.ext rfl rfl) rfl ?_
        refine st (X.ext rfl rfl) rfl ?_
        refine st (X.ext rfl rfl) rfl ?_
        refine sa rfl rfl ?_
        refine sa rfl rfl ?_
        refine sa rfl rfl ?_
        refine Wn ?_
        refine tN ?_
        refine W_rs ?_
        refine sm rfl rfl ?_
        refine sm rfl rfl ?_
        refine st (X.neS rfl rfl) rfl ?_
        refine sbN rfl (decide_eq_false (by simp)) rfl ?_
        refine gY (g := 86) rfl rfl rfl ?_
        refine sm rfl rfl ?_
        refine gY (g := 86) rfl rfl rfl ?_
        refine sm rfl rfl ?_
        refine gY (g := 86) rfl rfl rfl ?_
        refine st (X.neq rfl rfl) rfl ?_
        refine st (X.pickF rfl rfl) rfl ?_
        refine sbN rfl (decide_eq_false (by simp)) rfl ?_
        refine gY (g := 91) rfl rfl rfl ?_
        refine sm rfl rfl ?_
        refine gY (g := 91) rfl rfl rfl ?_
        refine sm rfl rfl ?_
        refine gY (g := 91) rfl rfl rfl ?_
        refine st (X.neq rfl rfl) rfl ?_
        refine st (X.pickF rfl rfl) rfl ?_
        refine sbN rfl (decide_eq_false (by simp)) rfl ?_
        refine gY (g := 96) rfl rfl rfl ?_
        refine sm rfl rfl ?_
        refine gY (g := 96) rfl rfl rfl ?_
        refine sm rfl rfl ?_
        refine gY (g := 96) rfl rfl rfl ?_
        refine sc _ Tryz.func15 rfl (by kernel_rfl) rfl rfl ((Same1_any g r _ _ _ (301 * (i + 1)) _ hd.at_ hr.at_ hg2 (by omega)).mono ?_)
        rintro e_ w8 ⟨rfl, hb⟩
        refine cR ?_
        replace hbw := bthen hbw hb
        replace hd := hd.bel hb
        replace hr := hr.bel hb
        have hz_w8 := hb.size
        clear hb
        refine gY (g := 96) rfl rfl rfl ?_
        refine st (X.not rfl) rfl ?_
        refine st (X.pickF rfl rfl) rfl ?_
        refine Wn ?_
        refine tN ?_
        refine W_no rfl (rfl) ?_
        refine W_skip ?_
        refine bN ?_
        refine tN ?_
        refine W_reg ?_
        refine sm rfl rfl ?_
        refine st (X.add64 rfl rfl (by omega)) rfl ?_
        refine sa rfl rfl ?_
        refine Wn ?_
        refine tN ⟨_, _, ?_, ⟨i + 1, _, _, _, rfl, rfl, by omega, hbw, hd, hr, hdr, hg2⟩, ⟨rfl, rfl, rfl, rfl, trivial⟩⟩
        omega
      · first | replace h60 := of_decide_eq_false h60 | replace h60 := of_decide_eq_true (notF h60) | replace h60 := notF h60 | skip
        refine W_exit (tE (tE (bH ?_)))
        refine tN ?_
        refine W_rs ?_
        refine sc _ Tryz.func12 rfl (by kernel_rfl) rfl rfl ((awake_any _).mono ?_)
        rintro e_ w9 ⟨rfl, hb⟩
        refine cR ?_
        replace hbw := bthen hbw hb
        replace hd := hd.bel hb
        replace hr := hr.bel hb
        have hz_w9 := hb.size
        clear hb
        refine sa rfl rfl ?_
        refine Wn ?_
        refine tN ?_
        refine W_ret ?_
        exact (rT rfl rfl ⟨rfl, hbw⟩).1
  · skip
    refine W_enter (args := [.int .i64 lim, .slice a l.length c]) 103 Tryz.func3 rfl rfl rfl ?_
    refine W_sub [(0, .int .i64 lim), (1, .slice a l.length c)] ?_ ⟨rfl, rfl, trivial⟩
    have hbw := Below.refl w.heap.size w
    refine W_rs ?_
    refine sa rfl rfl ?_
    refine Wn ?_
    refine tN ?_
    refine W_rs ?_
    refine sm rfl rfl ?_
    refine sc _ Tryz.func9 rfl (by kernel_rfl) rfl rfl ((New_bad lim _ hlim).mono ?_)
    rintro e_ w1 ⟨rfl, hb⟩
    refine cR ?_
    replace hbw := bthen hbw hb
    have hz_w1 := hb.size
    clear hb
    refine sm rfl rfl ?_
    refine st (X.ext rfl rfl) rfl ?_
    refine st (X.ext rfl rfl) rfl ?_
    refine sa rfl rfl ?_
    refine sa rfl rfl ?_
    refine Wn ?_
    refine tN ?_
    refine W_rs ?_
    refine sm rfl rfl ?_
    refine sc _ Tryz.func10 rfl (by kernel_rfl) rfl rfl ((RNew_bad lim _ hlim).mono ?_)
    rintro e_ w2 ⟨rfl, hb⟩
    refine cR ?_
    replace hbw := bthen hbw hb
    have hz_w2 := hb.size
    clear hb
    refine sm rfl rfl ?_
    refine st (X.ext rfl rfl) rfl ?_
    refine st (X.ext rfl rfl) rfl ?_
    refine sa rfl rfl ?_
    refine sa rfl rfl ?_
    refine Wn ?_
    refine tN ?_
    refine W_seq ?_
    refine W_rs ?_
    refine sm rfl rfl ?_
    refine sm rfl rfl ?_
    refine st (X.neq rfl rfl) rfl ?_
    refine sbN rfl (rfl) rfl ?_
    refine gY (g := 29) rfl rfl rfl ?_
    refine sm rfl rfl ?_
    refine gY (g := 29) rfl rfl rfl ?_
    refine st (X.dEq rfl) rfl ?_
    refine gY (g := 29) rfl rfl rfl ?_
    refine sm rfl rfl ?_
    refine gY (g := 29) rfl rfl rfl ?_
    refine st (X.rEq rfl) rfl ?_
    refine gY (g := 29) rfl rfl rfl ?_
    refine st (X.beq (.inr ⟨rfl, rfl⟩) Tryz.underlying4 rfl rfl) rfl ?_
    refine st (X.pickF rfl rfl) rfl ?_
    refine sbN rfl (rfl) rfl ?_
    refine gY (g := 36) rfl rfl rfl ?_
    refine sm rfl rfl ?_
    refine gY (g := 36) rfl rfl rfl ?_
    refine sc _ Tryz.func11 rfl (by kernel_rfl) rfl rfl ((Few_any _ l _ (hO.bel hbw)).mono ?_)
    rintro e_ w3 ⟨rfl, hb⟩
    refine cR ?_
    replace hbw := bthen hbw hb
    have hz_w3 := hb.size
    clear hb
    refine gY (g := 36) rfl rfl rfl ?_
    refine st (X.not rfl) rfl ?_
    refine st (X.pickF rfl rfl) rfl ?_
    refine Wn ?_
    refine tN ?_
    refine W_if rfl (fun h40 => ?_) (fun h40 => ?_)
    · first | replace h40 := of_decide_eq_true h40 | replace h40 := of_decide_eq_false (notT h40) | replace h40 := notT h40 | skip
      refine W_rs ?_
      refine sm rfl rfl ?_
      refine sm rfl rfl ?_
      refine st (X.eql rfl rfl) rfl ?_
      refine sbY rfl (rfl) rfl ?_
      refine gY (g := 44) rfl rfl rfl ?_
      refine sm rfl rfl ?_
      refine gY (g := 44) rfl rfl rfl ?_
      refine st (X.dEq rfl) rfl ?_
      refine gY (g := 44) rfl rfl rfl ?_
      refine sm rfl rfl ?_
      refine gY (g := 44) rfl rfl rfl ?_
      refine st (X.rEq rfl) rfl ?_
      refine gY (g := 44) rfl rfl rfl ?_
      refine st (X.beq (.inl ⟨rfl, rfl⟩) Tryz.underlying4 rfl rfl) rfl ?_
      refine st (X.pickT rfl rfl) rfl ?_
      refine sbY rfl (rfl) rfl ?_
      refine gY (g := 51) rfl rfl rfl ?_
      refine sc _ Tryz.func12 rfl (by kernel_rfl) rfl rfl ((awake_any _).mono ?_)
      rintro e_ w4 ⟨rfl, hb⟩
      refine cR ?_
      replace hbw := bthen hbw hb
      have hz_w4 := hb.size
      clear hb
      refine st (X.pickT rfl rfl) rfl ?_
      refine sa rfl rfl ?_
      refine Wn ?_
      refine tN ?_
      refine W_ret (tR ?_)
      exact (rT rfl rfl ⟨rfl, hbw⟩).1
    · first | replace h40 := of_decide_eq_false h40 | replace h40 := of_decide_eq_true (notF h40) | replace h40 := notF h40 | skip
      refine W_skip ?_
      refine tN ?_
      refine W_seq ?_
      refine W_rs ?_
      refine sm rfl rfl ?_
      refine st (X.rEq rfl) rfl ?_
      refine Wn ?_
      refine tN ?_
      refine W_yes rfl (rfl) ?_
      refine W_rs ?_
      refine sc _ Tryz.func12 rfl (by kernel_rfl) rfl rfl ((awake_any _).mono ?_)
      rintro e_ w5 ⟨rfl, hb⟩
      refine cR ?_
      replace hbw := bthen hbw hb
      have hz_w5 := hb.size
      clear hb
      refine sa rfl rfl ?_
      refine Wn ?_
      refine tN ?_
      refine W_ret (tR ?_)
      exact (rT rfl rfl ⟨rfl, hbw⟩).1
end Go.Proofs.YtnijmegalgoipaaGreatDoor
